/- The reference's Undefined: the walk. -/
import Derived.Test.YtaabkaiifplhgaaDoorLRef3
import Derived.Test.YtaabkaiifplhgaaDoorLStr
import Derived.Test.YtaabkaiifplhgaaDoorLUndP
namespace Go.Proofs.YtaabkaiifplhgaaDoor
set_option linter.unusedSimpArgs false
set_option linter.unusedVariables false
open Go.RowKit Go.Instr

attribute [local go_sem ↓] run_appOp

section
variable {α : Type} {n : Nat} {f : α → List Value} {w : World} {b off cap : Nat} {l : List α}
theorem RowAt.firsts (h : RowAt n f w (.slice (some ⟨b, off, none⟩) l.length cap) l) (k : Nat) (hk : k ≤ l.length) : RowAt n f w (.slice (some ⟨b, off, none⟩) k cap) (l.take k) := by
  obtain ⟨a, c, e, h2, h3, h4⟩ := h
  simp only [Value.slice.injEq, true_and] at e
  obtain ⟨rfl, rfl⟩ := e
  refine ⟨_, cap, by rw [List.length_take, Nat.min_eq_left hk], by rw [List.length_take]; omega, by rw [List.length_take]; omega, fun i x hx => ?_⟩
  rw [List.getElem?_take] at hx
  split at hx
  · exact h4 i x hx
  · cases hx
theorem RowAt.rest (h : RowAt n f w (.slice (some ⟨b, off, none⟩) l.length cap) l) (k : Nat) (hk : k ≤ l.length) : RowAt n f w (.slice (some ⟨b, off + k * n, none⟩) (l.length - k) (cap - k)) (l.drop k) := by
  obtain ⟨a, c, e, h2, h3, h4⟩ := h
  simp only [Value.slice.injEq, true_and] at e
  obtain ⟨rfl, rfl⟩ := e
  refine ⟨_, cap - k, by rw [List.length_drop], by rw [List.length_drop]; omega, by rw [List.length_drop]; omega, fun i x hx => ?_⟩
  rw [List.getElem?_drop] at hx
  obtain ⟨b', off', e, hc⟩ := h4 (k + i) x hx
  simp only [Option.some.injEq, Addr.mk.injEq, and_true] at e
  obtain ⟨rfl, rfl⟩ := e
  refine ⟨b, off + k * n, rfl, fun j u hu => ?_⟩
  have := hc j u hu
  rw [show off + k * n + i * n + j = off + (k + i) * n + j by rw [Nat.add_mul]; omega]
  exact this
end

abbrev strC (x : ByteArray) : List Value := [.string x]
theorem Tryd.elemStr : Elem Tryd.prog 58 9 1 16 := Elem.of Tryd.underlying58 Tryd.infoStr rfl (by decide) (by decide)
theorem Tryd.elemRObj : Elem Tryd.prog 50 48 5 80 := Elem.of Tryd.underlying50 Tryd.infoRObj rfl (by decide) (by decide)
theorem str_one {l : List ByteArray} : ∀ x ∈ l, ∀ u ∈ strC x, u.oneCell' = true := by
  intro x _ u hu
  simp at hu; subst hu; rfl
theorem robj_one {w : World} {l : List RObjV} (h : ∀ o ∈ l, RObjAt w o) : ∀ o ∈ l, ∀ u ∈ o.cells, u.oneCell' = true := by
  intro o ho u hu
  obtain ⟨b3, e3, b4, e4, ⟨h3, h4⟩, _⟩ := (h o ho).slices
  simp only [RObjV.cells, h3, h4, List.mem_cons, List.not_mem_nil, or_false] at hu
  rcases hu with rfl | rfl | rfl | rfl | rfl <;> rfl

/-- out: nil, or a slice with an address -/
def OutAt (w : World) (v : Value) (U : List ByteArray) : Prop := RowAt 1 strC w v U ∧ ((v = .slice none 0 0 ∧ U = []) ∨ ∃ b off c, v = .slice (some ⟨b, off, none⟩) U.length c)
theorem OutAt.later {w w' : World} {v : Value} {U : List ByteArray} (h : OutAt w v U) (hm : Grow w w') : OutAt w' v U := ⟨h.1.later hm, h.2⟩

theorem insAt_lt (s : ByteArray) : ∀ (l : List ByteArray) (a : Nat), a < insAt s l → ∃ h : a < l.length, sLess l[a] s = true
  | [], a, h => by simp [insAt] at h
  | x :: l, a, h => by
    simp only [insAt] at h
    split at h
    · rename_i hx
      cases a with
      | zero => exact ⟨by simp, hx⟩
      | succ a =>
        obtain ⟨h1, h2⟩ := insAt_lt s l a (by omega)
        exact ⟨by simp; omega, by simpa using h2⟩
    · omega
theorem insAt_at (s : ByteArray) : ∀ (l : List ByteArray) (h : insAt s l < l.length), sLess l[insAt s l] s = false
  | [], h => by simp at h
  | x :: l, h => by
    by_cases hx : sLess x s = true
    · have e : insAt s (x :: l) = insAt s l + 1 := by simp [insAt, hx]
      have h' : insAt s l < l.length := by rw [e] at h; simpa using h
      have := insAt_at s l h'
      simp only [e, List.getElem_cons_succ]; exact this
    · have e : insAt s (x :: l) = 0 := by simp [insAt, hx]
      simp only [e, List.getElem_cons_zero]; simpa using hx

abbrev StrOwn (w : World) (base : Nat) (v : Value) (l : List ByteArray) : Prop := w.ownsRow base 9 1 v l.length (flat strC l)
/-- what is known of the operations of 'append(append(append([]string{}, out[:at]...), name), out[at:]...)' -/
def YStr (n0 : Nat) (ov at' S1 S2 : Value) (s : ByteArray) (L1 L2 : List ByteArray) : Nat → List Value → World → Prop
  | 0, [v], w => ∃ g, v = .slice (some ⟨g, 0, none⟩) 0 0 ∧ n0 ≤ g ∧ w.heap[g]? = some (.cells #[] 9 (0, 0))
  | 1, [v], _ => v = ov
  | 2, [v], _ => v = at'
  | 3, [v], _ => v = S1
  | 4, [v], w => StrOwn w n0 v L1
  | 5, [v], _ => v = .string s
  | 6, [v], w => ∃ g, v = .slice (some ⟨g, 0, none⟩) 1 1 ∧ n0 ≤ g ∧ w.heap[g]? = some (.cells #[.string s] 9 (0, 0))
  | 7, [v], w => StrOwn w n0 v (L1 ++ [s])
  | 8, [v], _ => v = ov
  | 9, [v], _ => v = at'
  | 10, [v], _ => v = S2
  | 11, [v], w => StrOwn w n0 v (L1 ++ [s] ++ L2)
  | 12, [v], w => StrOwn w n0 v (L1 ++ [s] ++ L2)
  | _, _, _ => True
section
variable {n0 : Nat} {ov at' S1 S2 : Value} {s : ByteArray} {L1 L2 : List ByteArray} {x y : World}
theorem YStr.grow (hm : Grow x y) : ∀ j l, YStr n0 ov at' S1 S2 s L1 L2 j l x → YStr n0 ov at' S1 S2 s L1 L2 j l y := by
  intro j l h
  unfold YStr at h ⊢
  split at h <;> first | exact h | skip
  · obtain ⟨g, e, hn, hg⟩ := h
    exact ⟨g, e, hn, by rw [hm.block g (lt_of_block hg) (fun h => h)]; exact hg⟩
  · exact row_keep h hm (fun _ _ e => e)
  · obtain ⟨g, e, hn, hg⟩ := h
    exact ⟨g, e, hn, by rw [hm.block g (lt_of_block hg) (fun h => h)]; exact hg⟩
  · exact row_keep h hm (fun _ _ e => e)
  · exact row_keep h hm (fun _ _ e => e)
  · exact row_keep h hm (fun _ _ e => e)
theorem YStr.const : ∀ j l, j ≠ 0 → j ≠ 4 → j ≠ 6 → j ≠ 7 → j ≠ 11 → j ≠ 12 → YStr n0 ov at' S1 S2 s L1 L2 j l x → YStr n0 ov at' S1 S2 s L1 L2 j l y := by
  intro j l h0 h4 h6 h7 h11 h12 h
  unfold YStr at h ⊢
  split at h <;> first | exact h | (simp_all; done)
theorem str_base {base base' : Nat} {w : World} {v : Value} {l : List ByteArray} (h : StrOwn w base v l) (hb : base' ≤ base) : StrOwn w base' v l := by
  refine ⟨h.1, ?_⟩
  rcases h.2 with h1 | ⟨g, cap, cur, e, hg, rest⟩
  · exact .inl h1
  · exact .inr ⟨g, cap, cur, e, Nat.le_trans hb hg, rest⟩
end

set_option maxRecDepth 100000 in
set_option maxHeartbeats 8000000 in
theorem rundef_any (m : RObjV) (pv : Value) (procs : List RObjV) (w : World) (hm : RObjAt w m) (hp : RObjsAt w pv procs) (hpl : procs.length ≤ 16) (hmr : m.d.refs.length ≤ 80) (hpr : ∀ x ∈ procs, x.d.refs.length ≤ 80) :
    Calls Tryd.prog 18 #[m.val, pv] w fun e w' => ∃ v, e = .returned v ∧ RowAt 1 strC w' v (undTo (procs.map (·.d)) (m.d :: procs.map (·.d)) (procs.length + 1)) ∧ Grow w w' := by
  obtain ⟨pa, pcap, rfl, hpcap, hplen⟩ := hp.row.form
  obtain ⟨a3, c3, a4, c4, ⟨hy3, hy4⟩, -, -, -⟩ := hm.slices
  have HP := Lib.hid hp
  have HM := Lib.hid hm
  have HPR := Lib.hid (show ∀ x ∈ m :: procs, x.d.refs.length ≤ 80 from fun x hx => by
    rcases List.mem_cons.1 hx with rfl | hx
    · exact hmr
    · exact hpr x hx)
  obtain ⟨m', mcv, mrv⟩ := m
  simp only at hy3 hy4
  subst hy3 hy4
  have hg2 : Grow w ((w.alloc (.cells #[.string m'.name, .int .i64 m'.cells, .int .i64 m'.stacks, .slice a3 m'.code.length c3, .slice a4 m'.refs.length c4] 48)).alloc (.cells #[.string m'.name, .int .i64 m'.cells, .int .i64 m'.stacks, .slice a3 m'.code.length c3, .slice a4 m'.refs.length c4] 48)) := ((Mv.refl _ _).alloc _).alloc _
  have hb2 := heap_alloc_new (w.alloc (.cells #[.string m'.name, .int .i64 m'.cells, .int .i64 m'.stacks, .slice a3 m'.code.length c3, .slice a4 m'.refs.length c4] 48)) (.cells #[.string m'.name, .int .i64 m'.cells, .int .i64 m'.stacks, .slice a3 m'.code.length c3, .slice a4 m'.refs.length c4] 48)
  rw [World.size_alloc] at hb2
  have hrow2 : ((w.alloc (.cells #[.string m'.name, .int .i64 m'.cells, .int .i64 m'.stacks, .slice a3 m'.code.length c3, .slice a4 m'.refs.length c4] 48)).alloc (.cells #[.string m'.name, .int .i64 m'.cells, .int .i64 m'.stacks, .slice a3 m'.code.length c3, .slice a4 m'.refs.length c4] 48)).ownsRow (w.heap.size + 1) 48 5 (.slice (some ⟨w.heap.size + 1, 0, none⟩) 1 1) [(⟨m', .slice a3 m'.code.length c3, .slice a4 m'.refs.length c4⟩ : RObjV)].length (flat RObjV.cells [⟨m', .slice a3 m'.code.length c3, .slice a4 m'.refs.length c4⟩]) :=
    ⟨rfl, .inr ⟨w.heap.size + 1, 1, #[.string m'.name, .int .i64 m'.cells, .int .i64 m'.stacks, .slice a3 m'.code.length c3, .slice a4 m'.refs.length c4], rfl, Nat.le_refl _, hb2, Nat.le_refl _, by decide, rfl, rfl⟩⟩
  obtain ⟨aa, ac, w3, ⟨hok, hv, hw⟩, hrow3, hmv3, -⟩ := app_gen Tryd.elemRObj (fun _ => rfl) _ (.slice pa procs.length pcap) [⟨m', .slice a3 m'.code.length c3, .slice a4 m'.refs.length c4⟩] procs (w.heap.size + 1) _ hrow2 (hp.row.later hg2) (robj_one (fun o ho => (hp.each o ho).later hg2)) (by simp) (by simp; omega)
  have hg3 : Grow w w3 := hg2.trans hmv3 (fun x e => .inr (by simp [Value.ownBlock] at e; omega))
  simp only [List.length_cons, List.length_nil, Nat.zero_add, List.cons_append, List.nil_append] at hok hv hw hrow3
  have HALL := Lib.hid (rowAt_of_owns (f := RObjV.cells) (n := 5) (fun _ => rfl) hrow3)
  have HEACH := Lib.hid (show ∀ o ∈ ((⟨m', .slice a3 m'.code.length c3, .slice a4 m'.refs.length c4⟩ : RObjV) :: procs), RObjAt w o from fun o ho => by
    rcases List.mem_cons.1 ho with rfl | ho
    · exact hm
    · exact hp.each o ho)
  have HG3 := Lib.hid hg3
  have hacap : 1 + procs.length ≤ ac := by
    rcases hrow3.2 with ⟨e1, h0⟩ | ⟨g, cap, cur, e1, hb1, hg, hnc, _⟩
    · simp at h0
    · simp at e1 hnc; omega
  clear hm hp hmr hpr hg2 hb2 hrow2 hrow3 hmv3 hg3
  go_enter Tryd.func18, Tryd.ntmps18
  go_wp2_with fail
  clear hok hv hw
  have HA := Lib.hid (show ((⟨m', .slice a3 m'.code.length c3, .slice a4 m'.refs.length c4⟩ : RObjV) :: procs).map (·.d) = m' :: procs.map (·.d) from rfl)
  have hAl : ((⟨m', .slice a3 m'.code.length c3, .slice a4 m'.refs.length c4⟩ : RObjV) :: procs).length = 1 + procs.length := by simp; omega
  generalize ((⟨m', .slice a3 m'.code.length c3, .slice a4 m'.refs.length c4⟩ : RObjV) :: procs) = A at *
  have HRES := Lib.hid (show undTo (procs.map (·.d)) (m' :: procs.map (·.d)) (procs.length + 1) = undTo (procs.map (·.d)) (A.map (·.d)) A.length from by rw [HA.out, hAl, Nat.add_comm])
  generalize hPd : procs.map (·.d) = Pd at *
  have HPd := Lib.hid hPd
  clear hPd
  go_loopw [5, 7] (fun ov t wr => ∃ i : Nat, t = .int .i64 i ∧ i ≤ A.length ∧ OutAt wr ov (undTo Pd (A.map (·.d)) i) ∧ (undTo Pd (A.map (·.d)) i).length ≤ i * 80 ∧ Grow w3 wr) (fun _ t _ => A.length - (intOf t).toNat)
  case atStart => exact ⟨0, rfl, Nat.zero_le _, ⟨RowAt.nil _ _ _, .inl ⟨rfl, rfl⟩⟩, by simp [undTo], Mv.refl _ _⟩
  obtain ⟨i, rfl, hi, hout, hul, hgr⟩ := hrel
  have HOUT := Lib.hid hout
  have HGR := Lib.hid hgr
  obtain ⟨oa, oc, hov, hocap, -⟩ := hout.1.form
  subst hov
  by_cases hlt : i < A.length
  · have hlt1 : (i : Int) < 1 + procs.length := by omega
    have hgw := Mv.trans HG3.out hgr (fun _ e => e.elim)
    have hob := (HEACH.out A[i] (List.getElem_mem hlt))
    obtain ⟨b3, e3, b4, e4, ⟨hz3, hz4⟩, -, hrcap, hrlen⟩ := hob.slices
    have hr80 := HPR.out A[i] (List.getElem_mem hlt)
    have HUS := Lib.hid (show undTo Pd (A.map (·.d)) (i + 1) = undIn Pd (undTo Pd (A.map (·.d)) i) A[i].d.refs A[i].d.refs.length from by
      rw [undTo_succ _ _ i (by simpa using hlt)]; simp)
    have HROWA := Lib.hid (fun (x : World) (hx : Grow w3 x) => (HALL.out.later hx).at hlt)
    have HREF := Lib.hid (fun (x : World) (hx : Grow w x) => hob.refs.later hx)
    generalize A[i] = o at *
    obtain ⟨od, ocv, orv⟩ := o
    simp only at hz3 hz4 hrcap hrlen hr80 HUS HREF
    subst hz3 hz4
    generalize undTo Pd (A.map (·.d)) i = U0 at *
    have HU0 := Lib.hid (show undIn Pd U0 od.refs 0 = U0 from rfl)
    clear hob hout hgr hgw
    go_wp2_with fail
    obtain ⟨wo, rfl⟩ : ∃ wo : World, wo = wr := ⟨_, rfl⟩
    obtain ⟨s10, rfl⟩ : ∃ s10 : Value, s10 = u10 := ⟨_, rfl⟩
    go_loopw [5, 8] (fun ov t wr => ∃ k : Nat, t = .int .i64 k ∧ k ≤ od.refs.length ∧ OutAt wr ov (undIn Pd U0 od.refs k) ∧ (undIn Pd U0 od.refs k).length ≤ i * 80 + k ∧ Grow w3 wr) (fun _ t _ => od.refs.length - (intOf t).toNat)
    case atStart => exact ⟨0, rfl, Nat.zero_le _, HOUT.out, by rw [HU0.out]; omega, HGR.out⟩
    obtain ⟨k, rfl, hk, hout, hul2, hgr⟩ := hrel
    have HOUT2 := Lib.hid hout
    have HGR2 := Lib.hid hgr
    obtain ⟨ua, uc, hov, hucap, -⟩ := hout.1.form
    subst hov
    obtain ⟨ab, aoff, acap, e, _, hca⟩ := HROWA.out wr hgr
    rw [hAl] at e
    simp only [Value.slice.injEq, true_and] at e
    obtain ⟨rfl, rfl⟩ := e
    have f4 := hca 4 _ rfl
    have hab : ab < wr.heap.size := World.block_lt_of_cell? wr _ f4
    by_cases hlt2 : k < od.refs.length
    · obtain ⟨rb, roff, rcap, e, _, hcr⟩ := (HREF.out wr (Mv.trans HG3.out hgr (fun _ e => e.elim))).at hlt2
      simp only [Value.slice.injEq, true_and] at e
      obtain ⟨rfl, rfl⟩ := e
      have r1 := hcr 1 _ rfl
      have hrb : rb < wr.heap.size := World.block_lt_of_cell? wr _ r1
      have HUI := Lib.hid (undIn_succ Pd U0 od.refs k hlt2)
      generalize od.refs[k] = r at *
      obtain ⟨ra, rs⟩ := r
      simp only at r1 HUI
      have HFI := Lib.hid (by have := find_any (.slice pa procs.length pcap) procs rs wr (HP.out.later (Mv.trans HG3.out hgr (fun _ e => e.elim))); rw [HPd.out] at this; exact this)
      generalize undIn Pd U0 od.refs k = U at *
      clear hca hcr hgr hout
      go_wp2_with fail
      refine HFI.out.mono ?_
      rintro e w' ⟨rfl, rfl⟩
      by_cases hf : 0 ≤ findI Pd rs
      · have HST := Lib.hid (show undStep Pd U rs = U from if_pos hf)
        go_wp2_with fail
        go_roundw
        case rel => exact ⟨k + 1, by go_num, by omega, by rw [HUI.out, HST.out]; exact HOUT2.out, by rw [HUI.out, HST.out]; omega, HGR2.out⟩
        case measure => simp [intOf]; omega
      · have HST := Lib.hid (show undStep Pd U rs = insS rs U from if_neg hf)
        have hU : U.length ≤ 2000 := by omega
        go_wp2_with fail
        obtain ⟨wk, rfl⟩ : ∃ wk : World, wk = wr := ⟨_, rfl⟩
        go_loopw [10] (fun t wr => ∃ a : Nat, t = .int .i64 a ∧ a ≤ insAt rs U ∧ wr = wk) (fun t _ => U.length - (intOf t).toNat)
        case atStart => exact ⟨0, rfl, Nat.zero_le _, rfl⟩
        obtain ⟨a, rfl, ha, rfl⟩ := hrel
        have hil := insAt_le rs U
        by_cases hlt3 : a < insAt rs U
        · obtain ⟨h1, h2⟩ := insAt_lt rs U a hlt3
          obtain ⟨b, off, cap', e, _, hcu⟩ := HOUT2.out.1.at h1
          simp only [Value.slice.injEq, true_and] at e
          obtain ⟨rfl, rfl⟩ := e
          have c0 := hcu 0 _ rfl
          simp only [Nat.mul_one, Nat.add_zero] at c0
          have hbl := World.block_lt_of_cell? wr _ c0
          unfold sLess at h2
          generalize U[a] = ux at *
          clear hcu
          go_wp2_with fail
          go_roundw
          case rel => exact ⟨a + 1, by go_num, by omega, by trivial⟩
          case measure => simp [intOf]; omega
        · obtain rfl : a = insAt rs U := by omega
          by_cases hend : insAt rs U < U.length
          · have h2 := insAt_at rs U hend
            unfold sLess at h2
            have HGE := Lib.hid (List.getElem?_eq_getElem hend)
            obtain ⟨b, off, cap', e, hcp, hcu⟩ := HOUT2.out.1.at hend
            simp only [Value.slice.injEq, true_and] at e
            obtain ⟨rfl, rfl⟩ := e
            have c0 := hcu 0 _ rfl
            simp only [Nat.mul_one, Nat.add_zero] at c0
            have hbl := World.block_lt_of_cell? wr _ c0
            have HBE := Lib.hid (beq_bytes U[insAt rs U] rs)
            have hIS : insS rs U = if U[insAt rs U]? = some rs then U else U.take (insAt rs U) ++ [rs] ++ U.drop (insAt rs U) := rfl
            rw [HGE.out] at hIS
            generalize U[insAt rs U] = ux at *
            generalize insAt rs U = at0 at *
            clear hcu HGE
            by_cases hks : (ux.toList == rs.toList) = true
            · have HINS := Lib.hid (show insS rs U = U from by
                rw [hIS, if_pos]
                have : (ux == rs) = true := by rw [← HBE.out]; exact hks
                rw [eq_of_beq this])
              clear hIS
              go_wp2_with fail
              go_roundw
              case rel => exact ⟨k + 1, by go_num, by omega, by rw [HUI.out, HST.out, HINS.out]; exact HOUT2.out, by rw [HUI.out, HST.out, HINS.out]; omega, HGR2.out⟩
              case measure => simp [intOf]; omega
            · have hks2 : (ux.toList == rs.toList) = false := by simpa using hks
              have HINS := Lib.hid (show insS rs U = U.take at0 ++ [rs] ++ U.drop at0 from by
                rw [hIS, if_neg]
                intro e
                simp only [Option.some.injEq] at e
                subst e
                exact hks (by simp))
              clear hIS hks
              have hS1 := HOUT2.out.1.firsts at0 (by omega)
              have hS2 := HOUT2.out.1.rest at0 (by omega)
              have hne : ¬ uc = at0 := by omega
              simp only [Nat.mul_one] at hS2
              have hau : at0 ≤ uc := by omega
              obtain ⟨L1, hL1⟩ : ∃ L, L = U.take at0 := ⟨_, rfl⟩
              obtain ⟨L2, hL2⟩ : ∃ L, L = U.drop at0 := ⟨_, rfl⟩
              have HL := Lib.hid (show L1.length + L2.length ≤ 2000 from by rw [hL1, hL2]; simp; try omega)
              have HLL := Lib.hid (show (L1 ++ [rs] ++ L2).length ≤ U.length + 1 from by rw [hL1, hL2]; simp; try omega)
              rw [← hL1, ← hL2] at HINS
              rw [← hL1] at hS1
              rw [← hL2] at hS2
              clear hL1 hL2
              have HSX := Lib.hid (fun (x : World) (hx : Mv (fun b => wr.heap.size ≤ b) wr.drew x) => (show wr.heap.size ≤ x.heap.size from hx.size))
              have HGX := Lib.hid (fun (x : World) (hx : Mv (fun b => wr.heap.size ≤ b) wr.drew x) => (show Grow wr x from Mv.trans (Mv.drew (Mv.refl _ wr)) hx (fun b hb => .inr hb)))
              have HS1 := Lib.hid (fun (x : World) (hx : Mv (fun b => wr.heap.size ≤ b) wr.drew x) => hS1.later (HGX.out x hx))
              have HS2 := Lib.hid (fun (x : World) (hx : Mv (fun b => wr.heap.size ≤ b) wr.drew x) => hS2.later (HGX.out x hx))
              clear hS1 hS2
              go_upto_region 15 with fail
              refine wp_region_steps2 (by kernel_rfl) 83 [some 70, some 71, some 72, some 73, some 74, some 75, some 76, some 77, some 78, some 79, some 80, some 81, some 5] [[], [], [], [1, 2], [0, 3], [], [5], [4, 6, 4], [], [], [8, 9], [7, 10, 7], [11, 11, 0, 1, 2, 3, 4, 5, 6, 7, 8, 9, 10, 11]] [[], [], [], [1, 2], [0, 3], [], [5], [4, 6], [], [], [8, 9], [7, 10], [11]] [[0], [1], [2], [3], [4], [5], [6], [7], [8], [9], [10], [11], [12]] [[7], [], [], [], [7], [], [7], [11]] rfl (by kernel_rfl) (Mv (fun b => wr.heap.size ≤ b)) (fun _ => Mv.refl _ _) (fun x y z h1 h2 => h1.trans h2 (fun _ e => .inl e)) (YStr wr.heap.size (.slice (some ⟨b, off, none⟩) U.length uc) (.int .i64 at0) (.slice (some ⟨b, off, none⟩) at0 uc) (.slice (some ⟨b, off + at0, none⟩) (U.length - at0) (uc - at0)) rs (L1) (L2)) ?steps ?done
              case steps =>
                refine ⟨?s0, ?s1, ?s2, ?s3, ?s4, ?s5, ?s6, ?s7, ?s8, ?s9, ?s10, ?s11, ?s12, trivial⟩
                case s0 =>
                  intro vs x hx hY
                  clear hY
                  unfold Gives
                  simp only [actL, Act.put, List.getD_cons_zero, List.getD_cons_succ, List.setIfInBounds_toArray, List.set_cons_zero, List.set_cons_succ]
                  go_simp
                  exact ⟨(Mv.refl _ _).alloc _, ⟨x.heap.size, rfl, HSX.out x hx, heap_alloc_new x _⟩, by intro j l; intros; exact YStr.grow ((Mv.refl _ _).alloc _) j l (by assumption)⟩
                case s1 =>
                  intro vs x hx hY
                  clear hY
                  unfold Gives
                  simp only [actL, Act.put, List.getD_cons_zero, List.getD_cons_succ, List.setIfInBounds_toArray, List.set_cons_zero, List.set_cons_succ]
                  go_simp
                  exact ⟨Mv.refl _ _, rfl, by intros; assumption⟩
                case s2 =>
                  intro vs x hx hY
                  clear hY
                  unfold Gives
                  simp only [actL, Act.put, List.getD_cons_zero, List.getD_cons_succ, List.setIfInBounds_toArray, List.set_cons_zero, List.set_cons_succ]
                  go_simp
                  exact ⟨Mv.refl _ _, rfl, by intros; assumption⟩
                case s3 =>
                  intro vs x hx hY
                  have h1 : vs 1 = .slice (some ⟨b, off, none⟩) U.length uc := hY 1 (by simp) (by simp)
                  have h2 : vs 2 = .int .i64 at0 := hY 2 (by simp) (by simp)
                  clear hY
                  unfold Gives
                  simp only [actL, Act.put, List.getD_cons_zero, List.getD_cons_succ, List.setIfInBounds_toArray, List.set_cons_zero, List.set_cons_succ, h1, h2]
                  go_simp
                  exact ⟨Mv.refl _ _, rfl, by intros; assumption⟩
                case s4 =>
                  intro vs x hx hY
                  have h3 : vs 3 = .slice (some ⟨b, off, none⟩) at0 uc := hY 3 (by simp) (by simp)
                  obtain ⟨g, (h0 : vs 0 = _), hg0, hg⟩ := hY 0 (by simp) (by simp)
                  obtain ⟨a', c', y, ⟨hok, hv, hw⟩, hrow, hgr⟩ := app_gen0 Tryd.elemStr (fun _ => rfl) (.slice (some ⟨b, off, none⟩) at0 uc) (L1) g x hg (HS1.out x hx) str_one (by have := HL.out; omega)
                  clear hY
                  unfold Gives
                  simp only [actL, Act.put, List.getD_cons_zero, List.getD_cons_succ, List.setIfInBounds_toArray, List.set_cons_zero, List.set_cons_succ, h3, h0]
                  go_simp
                  exact ⟨hgr.mono (fun _ e => e.elim), str_base hrow hg0, by intro j l; intros; exact YStr.grow hgr j l (by assumption)⟩
                case s5 =>
                  intro vs x hx hY
                  clear hY
                  unfold Gives
                  simp only [actL, Act.put, List.getD_cons_zero, List.getD_cons_succ, List.setIfInBounds_toArray, List.set_cons_zero, List.set_cons_succ]
                  go_simp
                  exact ⟨Mv.refl _ _, rfl, by intros; assumption⟩
                case s6 =>
                  intro vs x hx hY
                  have h5 : vs 5 = .string rs := hY 5 (by simp) (by simp)
                  clear hY
                  unfold Gives
                  simp only [actL, Act.put, List.getD_cons_zero, List.getD_cons_succ, List.setIfInBounds_toArray, List.set_cons_zero, List.set_cons_succ, h5]
                  go_simp
                  exact ⟨(Mv.refl _ _).alloc _, ⟨x.heap.size, rfl, HSX.out x hx, heap_alloc_new x _⟩, by intro j l; intros; exact YStr.grow ((Mv.refl _ _).alloc _) j l (by assumption)⟩
                case s7 =>
                  intro vs x hx hY
                  have h4 : StrOwn x wr.heap.size (vs 4) (L1) := hY 4 (by simp) (by simp)
                  obtain ⟨g, (h6 : vs 6 = _), hg0, hg⟩ := hY 6 (by simp) (by simp)
                  obtain ⟨a4', c4', h4e⟩ := row_slice h4
                  rw [h4e] at h4
                  obtain ⟨a', c', y, ⟨hok, hv, hw⟩, hrow, hmv, -⟩ := app_gen Tryd.elemStr (fun _ => rfl) _ (.slice (some ⟨g, 0, none⟩) 1 1) (L1) [rs] wr.heap.size x h4 (RowAt.ofBlock (l := [rs]) (fun _ => rfl) hg rfl (by simp)) str_one (HSX.out x hx) (by have := HL.out; simp; omega)
                  simp only [List.length_cons, List.length_nil, Nat.zero_add] at hok hv hw hrow
                  have hlt4 := h4.lt
                  clear hY h4
                  unfold Gives
                  simp only [actL, Act.put, List.getD_cons_zero, List.getD_cons_succ, List.setIfInBounds_toArray, List.set_cons_zero, List.set_cons_succ, h4e, h6]
                  go_simp
                  refine ⟨hmv.mono (fun b e => .inl (hlt4 b e).1), hrow, fun j l hj hk hwj hkk h => YStr.const j l ?_ ?_ ?_ ?_ ?_ ?_ h⟩
                  · rintro rfl; exact hk (by decide)
                  · rintro rfl; exact hk (by decide)
                  · rintro rfl; exact hk (by decide)
                  · exact hj
                  · rintro rfl; exact hwj (by decide)
                  · rintro rfl; exact hwj (by decide)
                case s8 =>
                  intro vs x hx hY
                  clear hY
                  unfold Gives
                  simp only [actL, Act.put, List.getD_cons_zero, List.getD_cons_succ, List.setIfInBounds_toArray, List.set_cons_zero, List.set_cons_succ]
                  go_simp
                  exact ⟨Mv.refl _ _, rfl, by intros; assumption⟩
                case s9 =>
                  intro vs x hx hY
                  clear hY
                  unfold Gives
                  simp only [actL, Act.put, List.getD_cons_zero, List.getD_cons_succ, List.setIfInBounds_toArray, List.set_cons_zero, List.set_cons_succ]
                  go_simp
                  exact ⟨Mv.refl _ _, rfl, by intros; assumption⟩
                case s10 =>
                  intro vs x hx hY
                  have h8 : vs 8 = .slice (some ⟨b, off, none⟩) U.length uc := hY 8 (by simp) (by simp)
                  have h9 : vs 9 = .int .i64 at0 := hY 9 (by simp) (by simp)
                  clear hY
                  unfold Gives
                  simp only [actL, Act.put, List.getD_cons_zero, List.getD_cons_succ, List.setIfInBounds_toArray, List.set_cons_zero, List.set_cons_succ, h8, h9]
                  go_simp
                  exact ⟨Mv.refl _ _, rfl, by intros; assumption⟩
                case s11 =>
                  intro vs x hx hY
                  have h10 : vs 10 = .slice (some ⟨b, off + at0, none⟩) (U.length - at0) (uc - at0) := hY 10 (by simp) (by simp)
                  have h7 : StrOwn x wr.heap.size (vs 7) (L1 ++ [rs]) := hY 7 (by simp) (by simp)
                  obtain ⟨a7', c7', h7e⟩ := row_slice h7
                  simp only [List.length_append, List.length_cons, List.length_nil, Nat.zero_add] at h7e
                  rw [h7e] at h7
                  obtain ⟨a', c', y, ⟨hok, hv, hw⟩, hrow, hmv, -⟩ := app_gen Tryd.elemStr (fun _ => rfl) _ (.slice (some ⟨b, off + at0, none⟩) (U.length - at0) (uc - at0)) (L1 ++ [rs]) (L2) wr.heap.size x h7 (HS2.out x hx) str_one (HSX.out x hx) (by have := HL.out; simp; omega)
                  rw [show (L1 ++ [rs]).length + L2.length = L1.length + 1 + L2.length by simp] at hv hrow
                  have hlt7 := h7.lt
                  clear hY h7
                  unfold Gives
                  simp only [actL, Act.put, List.getD_cons_zero, List.getD_cons_succ, List.setIfInBounds_toArray, List.set_cons_zero, List.set_cons_succ, h10, h7e]
                  go_simp
                  refine ⟨hmv.mono (fun b e => .inl (hlt7 b e).1), hrow, fun j l hj hk hwj hkk h => YStr.const j l ?_ ?_ ?_ ?_ ?_ ?_ h⟩
                  · rintro rfl; have := hkk 7 (by decide); simp at this
                  · rintro rfl; have := hkk 7 (by decide); simp at this
                  · rintro rfl; have := hkk 7 (by decide); simp at this
                  · rintro rfl; exact hk (by decide)
                  · exact hj
                  · rintro rfl; exact hwj (by decide)
                case s12 =>
                  intro vs x hx hY
                  have h11 : StrOwn x wr.heap.size (vs 11) (L1 ++ [rs] ++ L2) := hY 11 (by simp) (by simp)
                  clear hY
                  unfold Gives
                  simp only [actL, Act.put, List.getD_cons_zero, List.getD_cons_succ, List.setIfInBounds_toArray, List.set_cons_zero, List.set_cons_succ]
                  go_simp
                  exact ⟨Mv.refl _ _, h11, by intros; assumption⟩
              case done =>
              intro vs wx hx hY
              have h12 : StrOwn wx wr.heap.size (vs 12) (L1 ++ [rs] ++ L2) := hY 12 (by decide) rfl
              simp only [List.length_cons, List.length_nil, Nat.zero_add, Nat.reduceAdd]
              rw [show List.range 13 = [0, 1, 2, 3, 4, 5, 6, 7, 8, 9, 10, 11, 12] from rfl]
              simp only [actL, Act.put, List.getD_cons_zero, List.getD_cons_succ, List.setIfInBounds_toArray, List.set_cons_zero, List.set_cons_succ]
              have HREL := Lib.hid (show OutAt wx (vs 12) (insS rs U) ∧ (insS rs U).length ≤ U.length + 1 ∧ Grow w3 wx from by
                rw [HINS.out]
                refine ⟨⟨rowAt_of_owns (f := strC) (n := 1) (fun _ => rfl) h12, .inr ?_⟩, HLL.out, Mv.trans HGR2.out (HGX.out wx hx) (fun _ e => e.elim)⟩
                rcases h12.2 with ⟨_, h0⟩ | ⟨g, cap, cur, e, _⟩
                · simp at h0
                · exact ⟨g, 0, cap, e⟩)
              clear hY h12 HSX HGX HS1 HS2 hx
              generalize vs 12 = v12 at *
              generalize vs 0 = v0 at *
              generalize vs 1 = v1 at *
              generalize vs 2 = v2 at *
              generalize vs 3 = v3 at *
              generalize vs 4 = v4 at *
              generalize vs 5 = v5 at *
              generalize vs 6 = v6 at *
              generalize vs 7 = v7 at *
              generalize vs 8 = v8 at *
              generalize vs 9 = v9 at *
              generalize vs 10 = v10 at *
              generalize vs 11 = v11 at *
              clear vs
              go_wp2_with fail
              go_roundw
              case rel => exact ⟨k + 1, by go_num, by omega, by rw [HUI.out, HST.out]; exact HREL.out.1, by rw [HUI.out, HST.out]; have := HREL.out.2.1; omega, HREL.out.2.2⟩
              case measure => simp [intOf]; omega
          · have heq : insAt rs U = U.length := by omega
            have HINS := Lib.hid (show insS rs U = U.take U.length ++ [rs] ++ U.drop U.length from by
              unfold insS
              rw [heq, if_neg (by simp)])
            rw [heq] at ha hlt3 hend hil ⊢
            clear heq ha hlt3 hil hend
            rcases HOUT2.out.2 with ⟨e, rfl⟩ | ⟨b, off, cap', e⟩
            · simp only [Value.slice.injEq, List.length_nil, true_and] at e
              obtain ⟨rfl, rfl⟩ := e
              have hS1 : RowAt 1 strC wr (.slice none 0 0) ([] : List ByteArray) := RowAt.nil _ _ _
              have hS2 : RowAt 1 strC wr (.slice none 0 0) ([] : List ByteArray) := RowAt.nil _ _ _
              simp only [List.length_nil, List.take_nil, List.drop_nil] at HINS ⊢
              obtain ⟨L1, hL1⟩ : ∃ L, L = ([] : List ByteArray) := ⟨_, rfl⟩
              obtain ⟨L2, hL2⟩ : ∃ L, L = ([] : List ByteArray) := ⟨_, rfl⟩
              have HL := Lib.hid (show L1.length + L2.length ≤ 2000 from by rw [hL1, hL2]; simp; try omega)
              have HLL := Lib.hid (show (L1 ++ [rs] ++ L2).length ≤ 0 + 1 from by rw [hL1, hL2]; simp; try omega)
              have HINS := Lib.hid (show insS rs [] = L1 ++ [rs] ++ L2 from by rw [HINS.out, hL1, hL2])
              rw [← hL1] at hS1
              rw [← hL2] at hS2
              clear hL1 hL2
              have HSX := Lib.hid (fun (x : World) (hx : Mv (fun b => wr.heap.size ≤ b) wr.drew x) => (show wr.heap.size ≤ x.heap.size from hx.size))
              have HGX := Lib.hid (fun (x : World) (hx : Mv (fun b => wr.heap.size ≤ b) wr.drew x) => (show Grow wr x from Mv.trans (Mv.drew (Mv.refl _ wr)) hx (fun b hb => .inr hb)))
              have HS1 := Lib.hid (fun (x : World) (hx : Mv (fun b => wr.heap.size ≤ b) wr.drew x) => hS1.later (HGX.out x hx))
              have HS2 := Lib.hid (fun (x : World) (hx : Mv (fun b => wr.heap.size ≤ b) wr.drew x) => hS2.later (HGX.out x hx))
              clear hS1 hS2
              go_upto_region 15 with fail
              refine wp_region_steps2 (by kernel_rfl) 83 [some 70, some 71, some 72, some 73, some 74, some 75, some 76, some 77, some 78, some 79, some 80, some 81, some 5] [[], [], [], [1, 2], [0, 3], [], [5], [4, 6, 4], [], [], [8, 9], [7, 10, 7], [11, 11, 0, 1, 2, 3, 4, 5, 6, 7, 8, 9, 10, 11]] [[], [], [], [1, 2], [0, 3], [], [5], [4, 6], [], [], [8, 9], [7, 10], [11]] [[0], [1], [2], [3], [4], [5], [6], [7], [8], [9], [10], [11], [12]] [[7], [], [], [], [7], [], [7], [11]] rfl (by kernel_rfl) (Mv (fun b => wr.heap.size ≤ b)) (fun _ => Mv.refl _ _) (fun x y z h1 h2 => h1.trans h2 (fun _ e => .inl e)) (YStr wr.heap.size (.slice none 0 0) (.int .i64 0) (.slice none 0 0) (.slice none 0 0) rs (L1) (L2)) ?steps ?done
              case steps =>
                refine ⟨?s0, ?s1, ?s2, ?s3, ?s4, ?s5, ?s6, ?s7, ?s8, ?s9, ?s10, ?s11, ?s12, trivial⟩
                case s0 =>
                  intro vs x hx hY
                  clear hY
                  unfold Gives
                  simp only [actL, Act.put, List.getD_cons_zero, List.getD_cons_succ, List.setIfInBounds_toArray, List.set_cons_zero, List.set_cons_succ]
                  go_simp
                  exact ⟨(Mv.refl _ _).alloc _, ⟨x.heap.size, rfl, HSX.out x hx, heap_alloc_new x _⟩, by intro j l; intros; exact YStr.grow ((Mv.refl _ _).alloc _) j l (by assumption)⟩
                case s1 =>
                  intro vs x hx hY
                  clear hY
                  unfold Gives
                  simp only [actL, Act.put, List.getD_cons_zero, List.getD_cons_succ, List.setIfInBounds_toArray, List.set_cons_zero, List.set_cons_succ]
                  go_simp
                  exact ⟨Mv.refl _ _, rfl, by intros; assumption⟩
                case s2 =>
                  intro vs x hx hY
                  clear hY
                  unfold Gives
                  simp only [actL, Act.put, List.getD_cons_zero, List.getD_cons_succ, List.setIfInBounds_toArray, List.set_cons_zero, List.set_cons_succ]
                  go_simp
                  exact ⟨Mv.refl _ _, rfl, by intros; assumption⟩
                case s3 =>
                  intro vs x hx hY
                  have h1 : vs 1 = .slice none 0 0 := hY 1 (by simp) (by simp)
                  have h2 : vs 2 = .int .i64 0 := hY 2 (by simp) (by simp)
                  clear hY
                  unfold Gives
                  simp only [actL, Act.put, List.getD_cons_zero, List.getD_cons_succ, List.setIfInBounds_toArray, List.set_cons_zero, List.set_cons_succ, h1, h2]
                  go_simp
                  exact ⟨Mv.refl _ _, rfl, by intros; assumption⟩
                case s4 =>
                  intro vs x hx hY
                  have h3 : vs 3 = .slice none 0 0 := hY 3 (by simp) (by simp)
                  obtain ⟨g, (h0 : vs 0 = _), hg0, hg⟩ := hY 0 (by simp) (by simp)
                  obtain ⟨a', c', y, ⟨hok, hv, hw⟩, hrow, hgr⟩ := app_gen0 Tryd.elemStr (fun _ => rfl) (.slice none 0 0) (L1) g x hg (HS1.out x hx) str_one (by have := HL.out; omega)
                  clear hY
                  unfold Gives
                  simp only [actL, Act.put, List.getD_cons_zero, List.getD_cons_succ, List.setIfInBounds_toArray, List.set_cons_zero, List.set_cons_succ, h3, h0]
                  go_simp
                  exact ⟨hgr.mono (fun _ e => e.elim), str_base hrow hg0, by intro j l; intros; exact YStr.grow hgr j l (by assumption)⟩
                case s5 =>
                  intro vs x hx hY
                  clear hY
                  unfold Gives
                  simp only [actL, Act.put, List.getD_cons_zero, List.getD_cons_succ, List.setIfInBounds_toArray, List.set_cons_zero, List.set_cons_succ]
                  go_simp
                  exact ⟨Mv.refl _ _, rfl, by intros; assumption⟩
                case s6 =>
                  intro vs x hx hY
                  have h5 : vs 5 = .string rs := hY 5 (by simp) (by simp)
                  clear hY
                  unfold Gives
                  simp only [actL, Act.put, List.getD_cons_zero, List.getD_cons_succ, List.setIfInBounds_toArray, List.set_cons_zero, List.set_cons_succ, h5]
                  go_simp
                  exact ⟨(Mv.refl _ _).alloc _, ⟨x.heap.size, rfl, HSX.out x hx, heap_alloc_new x _⟩, by intro j l; intros; exact YStr.grow ((Mv.refl _ _).alloc _) j l (by assumption)⟩
                case s7 =>
                  intro vs x hx hY
                  have h4 : StrOwn x wr.heap.size (vs 4) (L1) := hY 4 (by simp) (by simp)
                  obtain ⟨g, (h6 : vs 6 = _), hg0, hg⟩ := hY 6 (by simp) (by simp)
                  obtain ⟨a4', c4', h4e⟩ := row_slice h4
                  rw [h4e] at h4
                  obtain ⟨a', c', y, ⟨hok, hv, hw⟩, hrow, hmv, -⟩ := app_gen Tryd.elemStr (fun _ => rfl) _ (.slice (some ⟨g, 0, none⟩) 1 1) (L1) [rs] wr.heap.size x h4 (RowAt.ofBlock (l := [rs]) (fun _ => rfl) hg rfl (by simp)) str_one (HSX.out x hx) (by have := HL.out; simp; omega)
                  simp only [List.length_cons, List.length_nil, Nat.zero_add] at hok hv hw hrow
                  have hlt4 := h4.lt
                  clear hY h4
                  unfold Gives
                  simp only [actL, Act.put, List.getD_cons_zero, List.getD_cons_succ, List.setIfInBounds_toArray, List.set_cons_zero, List.set_cons_succ, h4e, h6]
                  go_simp
                  refine ⟨hmv.mono (fun b e => .inl (hlt4 b e).1), hrow, fun j l hj hk hwj hkk h => YStr.const j l ?_ ?_ ?_ ?_ ?_ ?_ h⟩
                  · rintro rfl; exact hk (by decide)
                  · rintro rfl; exact hk (by decide)
                  · rintro rfl; exact hk (by decide)
                  · exact hj
                  · rintro rfl; exact hwj (by decide)
                  · rintro rfl; exact hwj (by decide)
                case s8 =>
                  intro vs x hx hY
                  clear hY
                  unfold Gives
                  simp only [actL, Act.put, List.getD_cons_zero, List.getD_cons_succ, List.setIfInBounds_toArray, List.set_cons_zero, List.set_cons_succ]
                  go_simp
                  exact ⟨Mv.refl _ _, rfl, by intros; assumption⟩
                case s9 =>
                  intro vs x hx hY
                  clear hY
                  unfold Gives
                  simp only [actL, Act.put, List.getD_cons_zero, List.getD_cons_succ, List.setIfInBounds_toArray, List.set_cons_zero, List.set_cons_succ]
                  go_simp
                  exact ⟨Mv.refl _ _, rfl, by intros; assumption⟩
                case s10 =>
                  intro vs x hx hY
                  have h8 : vs 8 = .slice none 0 0 := hY 8 (by simp) (by simp)
                  have h9 : vs 9 = .int .i64 0 := hY 9 (by simp) (by simp)
                  clear hY
                  unfold Gives
                  simp only [actL, Act.put, List.getD_cons_zero, List.getD_cons_succ, List.setIfInBounds_toArray, List.set_cons_zero, List.set_cons_succ, h8, h9]
                  go_simp
                  exact ⟨Mv.refl _ _, rfl, by intros; assumption⟩
                case s11 =>
                  intro vs x hx hY
                  have h10 : vs 10 = .slice none 0 0 := hY 10 (by simp) (by simp)
                  have h7 : StrOwn x wr.heap.size (vs 7) (L1 ++ [rs]) := hY 7 (by simp) (by simp)
                  obtain ⟨a7', c7', h7e⟩ := row_slice h7
                  simp only [List.length_append, List.length_cons, List.length_nil, Nat.zero_add] at h7e
                  rw [h7e] at h7
                  obtain ⟨a', c', y, ⟨hok, hv, hw⟩, hrow, hmv, -⟩ := app_gen Tryd.elemStr (fun _ => rfl) _ (.slice none 0 0) (L1 ++ [rs]) (L2) wr.heap.size x h7 (HS2.out x hx) str_one (HSX.out x hx) (by have := HL.out; simp; omega)
                  rw [show (L1 ++ [rs]).length + L2.length = L1.length + 1 + L2.length by simp] at hv hrow
                  have hlt7 := h7.lt
                  clear hY h7
                  unfold Gives
                  simp only [actL, Act.put, List.getD_cons_zero, List.getD_cons_succ, List.setIfInBounds_toArray, List.set_cons_zero, List.set_cons_succ, h10, h7e]
                  go_simp
                  refine ⟨hmv.mono (fun b e => .inl (hlt7 b e).1), hrow, fun j l hj hk hwj hkk h => YStr.const j l ?_ ?_ ?_ ?_ ?_ ?_ h⟩
                  · rintro rfl; have := hkk 7 (by decide); simp at this
                  · rintro rfl; have := hkk 7 (by decide); simp at this
                  · rintro rfl; have := hkk 7 (by decide); simp at this
                  · rintro rfl; exact hk (by decide)
                  · exact hj
                  · rintro rfl; exact hwj (by decide)
                case s12 =>
                  intro vs x hx hY
                  have h11 : StrOwn x wr.heap.size (vs 11) (L1 ++ [rs] ++ L2) := hY 11 (by simp) (by simp)
                  clear hY
                  unfold Gives
                  simp only [actL, Act.put, List.getD_cons_zero, List.getD_cons_succ, List.setIfInBounds_toArray, List.set_cons_zero, List.set_cons_succ]
                  go_simp
                  exact ⟨Mv.refl _ _, h11, by intros; assumption⟩
              case done =>
              intro vs wx hx hY
              have h12 : StrOwn wx wr.heap.size (vs 12) (L1 ++ [rs] ++ L2) := hY 12 (by decide) rfl
              simp only [List.length_cons, List.length_nil, Nat.zero_add, Nat.reduceAdd]
              rw [show List.range 13 = [0, 1, 2, 3, 4, 5, 6, 7, 8, 9, 10, 11, 12] from rfl]
              simp only [actL, Act.put, List.getD_cons_zero, List.getD_cons_succ, List.setIfInBounds_toArray, List.set_cons_zero, List.set_cons_succ]
              have HREL := Lib.hid (show OutAt wx (vs 12) (insS rs []) ∧ (insS rs []).length ≤ 0 + 1 ∧ Grow w3 wx from by
                rw [HINS.out]
                refine ⟨⟨rowAt_of_owns (f := strC) (n := 1) (fun _ => rfl) h12, .inr ?_⟩, HLL.out, Mv.trans HGR2.out (HGX.out wx hx) (fun _ e => e.elim)⟩
                rcases h12.2 with ⟨_, h0⟩ | ⟨g, cap, cur, e, _⟩
                · simp at h0
                · exact ⟨g, 0, cap, e⟩)
              clear hY h12 HSX HGX HS1 HS2 hx
              generalize vs 12 = v12 at *
              generalize vs 0 = v0 at *
              generalize vs 1 = v1 at *
              generalize vs 2 = v2 at *
              generalize vs 3 = v3 at *
              generalize vs 4 = v4 at *
              generalize vs 5 = v5 at *
              generalize vs 6 = v6 at *
              generalize vs 7 = v7 at *
              generalize vs 8 = v8 at *
              generalize vs 9 = v9 at *
              generalize vs 10 = v10 at *
              generalize vs 11 = v11 at *
              clear vs
              go_wp2_with fail
              go_roundw
              case rel => exact ⟨k + 1, by go_num, by omega, by rw [HUI.out, HST.out]; exact HREL.out.1, by rw [HUI.out, HST.out]; have := HREL.out.2.1; omega, HREL.out.2.2⟩
              case measure => simp [intOf]; omega
            · simp only [Value.slice.injEq, true_and] at e
              obtain ⟨rfl, rfl⟩ := e
              have hS1 := HOUT2.out.1.firsts U.length (by omega)
              obtain ⟨off', hif, hS2⟩ : ∃ off', (if uc = U.length then some (⟨b, off, none⟩ : Addr) else some ⟨b, off + U.length, none⟩) = some ⟨b, off', none⟩ ∧ RowAt 1 strC wr (.slice (some ⟨b, off', none⟩) 0 (uc - U.length)) (U.drop U.length) := by
                have hd := HOUT2.out.1.rest U.length (by omega)
                by_cases hc : uc = U.length
                · refine ⟨off, if_pos hc, ?_⟩
                  obtain ⟨a0, c0, e, h5, h6, h7⟩ := hd
                  simp only [Value.slice.injEq] at e
                  refine ⟨some ⟨b, off, none⟩, uc - U.length, by simp, by simp, by simp, fun i x hx => by simp at hx⟩
                · exact ⟨off + U.length, if_neg hc, by simpa using hd⟩
              obtain ⟨L1, hL1⟩ : ∃ L, L = U.take U.length := ⟨_, rfl⟩
              obtain ⟨L2, hL2⟩ : ∃ L, L = U.drop U.length := ⟨_, rfl⟩
              have HL := Lib.hid (show L1.length + L2.length ≤ 2000 from by rw [hL1, hL2]; simp; try omega)
              have HLL := Lib.hid (show (L1 ++ [rs] ++ L2).length ≤ U.length + 1 from by rw [hL1, hL2]; simp; try omega)
              rw [← hL1, ← hL2] at HINS
              rw [← hL1] at hS1
              rw [← hL2] at hS2
              clear hL1 hL2
              have HSX := Lib.hid (fun (x : World) (hx : Mv (fun b => wr.heap.size ≤ b) wr.drew x) => (show wr.heap.size ≤ x.heap.size from hx.size))
              have HGX := Lib.hid (fun (x : World) (hx : Mv (fun b => wr.heap.size ≤ b) wr.drew x) => (show Grow wr x from Mv.trans (Mv.drew (Mv.refl _ wr)) hx (fun b hb => .inr hb)))
              have HS1 := Lib.hid (fun (x : World) (hx : Mv (fun b => wr.heap.size ≤ b) wr.drew x) => hS1.later (HGX.out x hx))
              have HS2 := Lib.hid (fun (x : World) (hx : Mv (fun b => wr.heap.size ≤ b) wr.drew x) => hS2.later (HGX.out x hx))
              clear hS1 hS2
              go_upto_region 15 with fail
              refine wp_region_steps2 (by kernel_rfl) 83 [some 70, some 71, some 72, some 73, some 74, some 75, some 76, some 77, some 78, some 79, some 80, some 81, some 5] [[], [], [], [1, 2], [0, 3], [], [5], [4, 6, 4], [], [], [8, 9], [7, 10, 7], [11, 11, 0, 1, 2, 3, 4, 5, 6, 7, 8, 9, 10, 11]] [[], [], [], [1, 2], [0, 3], [], [5], [4, 6], [], [], [8, 9], [7, 10], [11]] [[0], [1], [2], [3], [4], [5], [6], [7], [8], [9], [10], [11], [12]] [[7], [], [], [], [7], [], [7], [11]] rfl (by kernel_rfl) (Mv (fun b => wr.heap.size ≤ b)) (fun _ => Mv.refl _ _) (fun x y z h1 h2 => h1.trans h2 (fun _ e => .inl e)) (YStr wr.heap.size (.slice (some ⟨b, off, none⟩) U.length uc) (.int .i64 U.length) (.slice (some ⟨b, off, none⟩) U.length uc) (.slice (some ⟨b, off', none⟩) 0 (uc - U.length)) rs (L1) (L2)) ?steps ?done
              case steps =>
                refine ⟨?s0, ?s1, ?s2, ?s3, ?s4, ?s5, ?s6, ?s7, ?s8, ?s9, ?s10, ?s11, ?s12, trivial⟩
                case s0 =>
                  intro vs x hx hY
                  clear hY
                  unfold Gives
                  simp only [actL, Act.put, List.getD_cons_zero, List.getD_cons_succ, List.setIfInBounds_toArray, List.set_cons_zero, List.set_cons_succ]
                  go_simp
                  exact ⟨(Mv.refl _ _).alloc _, ⟨x.heap.size, rfl, HSX.out x hx, heap_alloc_new x _⟩, by intro j l; intros; exact YStr.grow ((Mv.refl _ _).alloc _) j l (by assumption)⟩
                case s1 =>
                  intro vs x hx hY
                  clear hY
                  unfold Gives
                  simp only [actL, Act.put, List.getD_cons_zero, List.getD_cons_succ, List.setIfInBounds_toArray, List.set_cons_zero, List.set_cons_succ]
                  go_simp
                  exact ⟨Mv.refl _ _, rfl, by intros; assumption⟩
                case s2 =>
                  intro vs x hx hY
                  clear hY
                  unfold Gives
                  simp only [actL, Act.put, List.getD_cons_zero, List.getD_cons_succ, List.setIfInBounds_toArray, List.set_cons_zero, List.set_cons_succ]
                  go_simp
                  exact ⟨Mv.refl _ _, rfl, by intros; assumption⟩
                case s3 =>
                  intro vs x hx hY
                  have h1 : vs 1 = .slice (some ⟨b, off, none⟩) U.length uc := hY 1 (by simp) (by simp)
                  have h2 : vs 2 = .int .i64 U.length := hY 2 (by simp) (by simp)
                  clear hY
                  unfold Gives
                  simp only [actL, Act.put, List.getD_cons_zero, List.getD_cons_succ, List.setIfInBounds_toArray, List.set_cons_zero, List.set_cons_succ, h1, h2]
                  go_simp
                  exact ⟨Mv.refl _ _, rfl, by intros; assumption⟩
                case s4 =>
                  intro vs x hx hY
                  have h3 : vs 3 = .slice (some ⟨b, off, none⟩) U.length uc := hY 3 (by simp) (by simp)
                  obtain ⟨g, (h0 : vs 0 = _), hg0, hg⟩ := hY 0 (by simp) (by simp)
                  obtain ⟨a', c', y, ⟨hok, hv, hw⟩, hrow, hgr⟩ := app_gen0 Tryd.elemStr (fun _ => rfl) (.slice (some ⟨b, off, none⟩) U.length uc) (L1) g x hg (HS1.out x hx) str_one (by have := HL.out; omega)
                  clear hY
                  unfold Gives
                  simp only [actL, Act.put, List.getD_cons_zero, List.getD_cons_succ, List.setIfInBounds_toArray, List.set_cons_zero, List.set_cons_succ, h3, h0]
                  go_simp
                  exact ⟨hgr.mono (fun _ e => e.elim), str_base hrow hg0, by intro j l; intros; exact YStr.grow hgr j l (by assumption)⟩
                case s5 =>
                  intro vs x hx hY
                  clear hY
                  unfold Gives
                  simp only [actL, Act.put, List.getD_cons_zero, List.getD_cons_succ, List.setIfInBounds_toArray, List.set_cons_zero, List.set_cons_succ]
                  go_simp
                  exact ⟨Mv.refl _ _, rfl, by intros; assumption⟩
                case s6 =>
                  intro vs x hx hY
                  have h5 : vs 5 = .string rs := hY 5 (by simp) (by simp)
                  clear hY
                  unfold Gives
                  simp only [actL, Act.put, List.getD_cons_zero, List.getD_cons_succ, List.setIfInBounds_toArray, List.set_cons_zero, List.set_cons_succ, h5]
                  go_simp
                  exact ⟨(Mv.refl _ _).alloc _, ⟨x.heap.size, rfl, HSX.out x hx, heap_alloc_new x _⟩, by intro j l; intros; exact YStr.grow ((Mv.refl _ _).alloc _) j l (by assumption)⟩
                case s7 =>
                  intro vs x hx hY
                  have h4 : StrOwn x wr.heap.size (vs 4) (L1) := hY 4 (by simp) (by simp)
                  obtain ⟨g, (h6 : vs 6 = _), hg0, hg⟩ := hY 6 (by simp) (by simp)
                  obtain ⟨a4', c4', h4e⟩ := row_slice h4
                  rw [h4e] at h4
                  obtain ⟨a', c', y, ⟨hok, hv, hw⟩, hrow, hmv, -⟩ := app_gen Tryd.elemStr (fun _ => rfl) _ (.slice (some ⟨g, 0, none⟩) 1 1) (L1) [rs] wr.heap.size x h4 (RowAt.ofBlock (l := [rs]) (fun _ => rfl) hg rfl (by simp)) str_one (HSX.out x hx) (by have := HL.out; simp; omega)
                  simp only [List.length_cons, List.length_nil, Nat.zero_add] at hok hv hw hrow
                  have hlt4 := h4.lt
                  clear hY h4
                  unfold Gives
                  simp only [actL, Act.put, List.getD_cons_zero, List.getD_cons_succ, List.setIfInBounds_toArray, List.set_cons_zero, List.set_cons_succ, h4e, h6]
                  go_simp
                  refine ⟨hmv.mono (fun b e => .inl (hlt4 b e).1), hrow, fun j l hj hk hwj hkk h => YStr.const j l ?_ ?_ ?_ ?_ ?_ ?_ h⟩
                  · rintro rfl; exact hk (by decide)
                  · rintro rfl; exact hk (by decide)
                  · rintro rfl; exact hk (by decide)
                  · exact hj
                  · rintro rfl; exact hwj (by decide)
                  · rintro rfl; exact hwj (by decide)
                case s8 =>
                  intro vs x hx hY
                  clear hY
                  unfold Gives
                  simp only [actL, Act.put, List.getD_cons_zero, List.getD_cons_succ, List.setIfInBounds_toArray, List.set_cons_zero, List.set_cons_succ]
                  go_simp
                  exact ⟨Mv.refl _ _, rfl, by intros; assumption⟩
                case s9 =>
                  intro vs x hx hY
                  clear hY
                  unfold Gives
                  simp only [actL, Act.put, List.getD_cons_zero, List.getD_cons_succ, List.setIfInBounds_toArray, List.set_cons_zero, List.set_cons_succ]
                  go_simp
                  exact ⟨Mv.refl _ _, rfl, by intros; assumption⟩
                case s10 =>
                  intro vs x hx hY
                  have h8 : vs 8 = .slice (some ⟨b, off, none⟩) U.length uc := hY 8 (by simp) (by simp)
                  have h9 : vs 9 = .int .i64 U.length := hY 9 (by simp) (by simp)
                  clear hY
                  unfold Gives
                  simp only [actL, Act.put, List.getD_cons_zero, List.getD_cons_succ, List.setIfInBounds_toArray, List.set_cons_zero, List.set_cons_succ, h8, h9]
                  go_simp
                  exact ⟨Mv.refl _ _, rfl, by intros; assumption⟩
                case s11 =>
                  intro vs x hx hY
                  have h10 : vs 10 = .slice (some ⟨b, off', none⟩) 0 (uc - U.length) := hY 10 (by simp) (by simp)
                  have h7 : StrOwn x wr.heap.size (vs 7) (L1 ++ [rs]) := hY 7 (by simp) (by simp)
                  obtain ⟨a7', c7', h7e⟩ := row_slice h7
                  simp only [List.length_append, List.length_cons, List.length_nil, Nat.zero_add] at h7e
                  rw [h7e] at h7
                  obtain ⟨a', c', y, ⟨hok, hv, hw⟩, hrow, hmv, -⟩ := app_gen Tryd.elemStr (fun _ => rfl) _ (.slice (some ⟨b, off', none⟩) 0 (uc - U.length)) (L1 ++ [rs]) (L2) wr.heap.size x h7 (HS2.out x hx) str_one (HSX.out x hx) (by have := HL.out; simp; omega)
                  rw [show (L1 ++ [rs]).length + L2.length = L1.length + 1 + L2.length by simp] at hv hrow
                  have hlt7 := h7.lt
                  clear hY h7
                  unfold Gives
                  simp only [actL, Act.put, List.getD_cons_zero, List.getD_cons_succ, List.setIfInBounds_toArray, List.set_cons_zero, List.set_cons_succ, h10, h7e]
                  go_simp
                  refine ⟨hmv.mono (fun b e => .inl (hlt7 b e).1), hrow, fun j l hj hk hwj hkk h => YStr.const j l ?_ ?_ ?_ ?_ ?_ ?_ h⟩
                  · rintro rfl; have := hkk 7 (by decide); simp at this
                  · rintro rfl; have := hkk 7 (by decide); simp at this
                  · rintro rfl; have := hkk 7 (by decide); simp at this
                  · rintro rfl; exact hk (by decide)
                  · exact hj
                  · rintro rfl; exact hwj (by decide)
                case s12 =>
                  intro vs x hx hY
                  have h11 : StrOwn x wr.heap.size (vs 11) (L1 ++ [rs] ++ L2) := hY 11 (by simp) (by simp)
                  clear hY
                  unfold Gives
                  simp only [actL, Act.put, List.getD_cons_zero, List.getD_cons_succ, List.setIfInBounds_toArray, List.set_cons_zero, List.set_cons_succ]
                  go_simp
                  exact ⟨Mv.refl _ _, h11, by intros; assumption⟩
              case done =>
              intro vs wx hx hY
              have h12 : StrOwn wx wr.heap.size (vs 12) (L1 ++ [rs] ++ L2) := hY 12 (by decide) rfl
              simp only [List.length_cons, List.length_nil, Nat.zero_add, Nat.reduceAdd]
              rw [show List.range 13 = [0, 1, 2, 3, 4, 5, 6, 7, 8, 9, 10, 11, 12] from rfl]
              simp only [actL, Act.put, List.getD_cons_zero, List.getD_cons_succ, List.setIfInBounds_toArray, List.set_cons_zero, List.set_cons_succ]
              have HREL := Lib.hid (show OutAt wx (vs 12) (insS rs U) ∧ (insS rs U).length ≤ U.length + 1 ∧ Grow w3 wx from by
                rw [HINS.out]
                refine ⟨⟨rowAt_of_owns (f := strC) (n := 1) (fun _ => rfl) h12, .inr ?_⟩, HLL.out, Mv.trans HGR2.out (HGX.out wx hx) (fun _ e => e.elim)⟩
                rcases h12.2 with ⟨_, h0⟩ | ⟨g, cap, cur, e, _⟩
                · simp at h0
                · exact ⟨g, 0, cap, e⟩)
              clear hY h12 HSX HGX HS1 HS2 hx
              generalize vs 12 = v12 at *
              generalize vs 0 = v0 at *
              generalize vs 1 = v1 at *
              generalize vs 2 = v2 at *
              generalize vs 3 = v3 at *
              generalize vs 4 = v4 at *
              generalize vs 5 = v5 at *
              generalize vs 6 = v6 at *
              generalize vs 7 = v7 at *
              generalize vs 8 = v8 at *
              generalize vs 9 = v9 at *
              generalize vs 10 = v10 at *
              generalize vs 11 = v11 at *
              clear vs
              go_wp2_with fail
              go_roundw
              case rel => exact ⟨k + 1, by go_num, by omega, by rw [HUI.out, HST.out]; exact HREL.out.1, by rw [HUI.out, HST.out]; have := HREL.out.2.1; omega, HREL.out.2.2⟩
              case measure => simp [intOf]; omega
    · obtain rfl : k = od.refs.length := by omega
      clear hca hgr hout
      go_wp2_with fail
      go_roundw
      case rel => exact ⟨i + 1, by go_num, by omega, by rw [HUS.out]; exact HOUT2.out, by rw [HUS.out]; omega, HGR2.out⟩
      case measure => simp [intOf]; omega
  · obtain rfl : i = A.length := by omega
    have HGW := Lib.hid (Mv.trans HG3.out hgr (fun _ e => e.elim))
    have HR := Lib.hid (show ∃ n, n = (undTo Pd (A.map (·.d)) A.length).length ∧ RowAt 1 strC wr (.slice oa n oc) (undTo (procs.map (·.d)) (m' :: procs.map (·.d)) (procs.length + 1)) from ⟨_, rfl, by
      have h1 := HRES.out
      rw [← HPd.out] at h1
      rw [h1, HPd.out]
      exact hout.1⟩)
    clear hout hgr
    obtain ⟨n, hn, hr⟩ := HR.out
    clear HR HOUT
    have hnl : ¬ ((A.length : Int) < 1 + procs.length) := by omega
    rw [← hn]
    clear hn
    have HRR := Lib.hid hr
    clear hr
    go_wp2_with fail
    go_ret
    exact ⟨_, rfl, HRR.out, HGW.out⟩

end Go.Proofs.YtaabkaiifplhgaaDoor
