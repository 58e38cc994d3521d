/- object.declares, object.headed. -/
import Derived.Test.YtaabkaiifplhgaaDoorLData
namespace Go.Proofs.YtaabkaiifplhgaaDoor
set_option linter.unusedSimpArgs false
set_option linter.unusedVariables false
open Go.RowKit

/-- old cells read as before -/
theorem gcell {W w1 : World} (hb : Grow W w1) : (∀ b o, b < W.heap.size → w1.cell? ⟨b, o, none⟩ = W.cell? ⟨b, o, none⟩) ∧ (∀ b o, b < W.heap.size → w1.frozen? ⟨b, o, none⟩ = W.frozen? ⟨b, o, none⟩) :=
  ⟨fun b o h => World.cell?_of_block (w := W) (w' := w1) (a := ⟨b, o, none⟩) (hb.block b h (fun h => h)), fun b o h => by simp [World.frozen?, hb.block b h (fun h => h)]⟩

theorem new_cell (w : World) (cs : Array Value) (t : TypeId) (i : Nat) : (w.alloc (.cells cs t)).cell? ⟨w.heap.size, i, none⟩ = cs[i]? := by
  have h := heap_alloc_new w (.cells cs t)
  simp only [World.cell?, h]
  rfl
theorem old_cell (w : World) (o : Obj) {b : Nat} (i : Nat) (h : b < w.heap.size) : (w.alloc o).cell? ⟨b, i, none⟩ = w.cell? ⟨b, i, none⟩ := World.cell?_of_block (w := w) (w' := w.alloc o) (a := ⟨b, i, none⟩) (Below.heap_alloc _ _ _ h)

theorem beq_bytes (a b : ByteArray) : (a.toList == b.toList) = (a == b) := by
  have h1 : a.toList = a.data.toList := ByteArray.toList_eq a
  have h2 : b.toList = b.data.toList := ByteArray.toList_eq b
  rw [h1, h2, bytes_beq]
  cases a with | mk x => cases b with | mk y =>
  by_cases h : x = y
  · subst h; simp
  · have h3 : ¬ (⟨x⟩ : ByteArray) = ⟨y⟩ := fun e => h (by simpa using congrArg ByteArray.data e)
    have h4 : ¬ x.toList = y.toList := fun e => h (Array.toList_inj.1 e)
    simp [h3, h]

def lenB (k n : Int) : Bool := if k = 1 ∨ k = 3 then n == 0 else if k = 2 then decide (1 ≤ n) && decide (n ≤ 16) else false
def VarD.declB (v : VarD) : Bool := nameB v.name && lenB v.kind v.len

set_option maxHeartbeats 1600000 in
theorem declares_any (v : VarD) (w : World) (hs : v.name.size ≤ 9223372036854775807) : Calls Tryd.prog 36 #[v.val] w fun e w' => e = .returned (.bool v.declB) ∧ Grow w w' := by
  obtain ⟨s, k, n⟩ := v
  simp only at hs
  go_enter Tryd.func36, Tryd.ntmps36
  go_wp2_with fail
  refine (name_any s _ hs).mono ?_
  rintro e w1 ⟨rfl, hm⟩
  obtain ⟨hc, hf⟩ := gcell hm
  have HM := Lib.hid (Mv.trans (O1 := fun _ => False) ((Mv.refl (fun _ => False) w).alloc _) hm (fun _ e => e.elim))
  have HN := Lib.hid (show VarD.declB ⟨s, k, n⟩ = (nameB s && lenB k n) from rfl)
  generalize nameB s = q at *
  clear hm
  by_cases hq : q = true
  · subst hq
    by_cases h1 : k = 1
    · subst h1
      go_wp2_with fail
      go_ret
      exact ⟨ret_bool (by rw [HN.out]; simp [lenB]), HM.out⟩
    · have h1b : (k == 1) = false := by simpa using h1
      by_cases h3 : k = 3
      · subst h3
        go_wp2_with fail
        go_ret
        exact ⟨ret_bool (by rw [HN.out]; simp [lenB]), HM.out⟩
      · have h3b : (k == 3) = false := by simpa using h3
        by_cases h2 : k = 2
        · subst h2
          go_wp2_with fail
          all_goals (go_ret; exact ⟨ret_bool (by rw [HN.out]; simp_all [lenB] <;> omega), HM.out⟩)
        · have h2b : (k == 2) = false := by simpa using h2
          have HL := Lib.hid (show lenB k n = false from by simp [lenB, h1, h2, h3])
          clear h1 h2 h3
          go_wp2_with fail
          go_ret
          exact ⟨ret_bool (by rw [HN.out, HL.out]; rfl), HM.out⟩
  · have hq2 : q = false := by simpa using hq
    subst hq2
    go_wp2_with fail
    go_ret
    exact ⟨ret_bool (by rw [HN.out]; rfl), HM.out⟩

/-- no parameter before i has that name -/
def freshB (l : List VarD) (s : ByteArray) : Bool := l.all fun v => !(v.name == s)
def paramsTo (l : List VarD) (i : Nat) : Bool := (List.range i).all fun k => match l[k]? with
  | some v => v.declB && freshB (l.take k) v.name
  | none => true
def ObjD.headB (o : ObjD) : Bool := if o.name.size = 0 then decide (o.params.length = 0) else nameB o.name && (decide (o.params.length ≤ 8) && paramsTo o.params o.params.length)

theorem paramsTo_succ (l : List VarD) (i : Nat) (h : i < l.length) : paramsTo l (i + 1) = (paramsTo l i && (l[i].declB && freshB (l.take i) l[i].name)) := by
  unfold paramsTo
  rw [List.range_succ, List.all_append]
  simp [h]
theorem freshB_succ (l : List VarD) (s : ByteArray) (j : Nat) (h : j < l.length) : freshB (l.take (j + 1)) s = (freshB (l.take j) s && !(l[j].name == s)) := by
  unfold freshB
  rw [List.take_succ_eq_append_getElem h, List.all_append]
  simp
theorem paramsTo_false (l : List VarD) (i n : Nat) (hin : i < n) (h : i < l.length) (hf : (l[i].declB && freshB (l.take i) l[i].name) = false) : paramsTo l n = false := by
  unfold paramsTo
  apply Bool.eq_false_iff.2
  intro hall
  have := List.all_eq_true.1 hall i (by simp; exact hin)
  rw [List.getElem?_eq_getElem h] at this
  simp only at this
  rw [hf] at this; cases this
theorem freshB_false (l : List VarD) (s : ByteArray) (i j : Nat) (hij : j < i) (h : j < l.length) (he : (l[j].name == s) = true) : freshB (l.take i) s = false := by
  unfold freshB
  apply Bool.eq_false_iff.2
  intro hall
  have := List.all_eq_true.1 hall l[j] (by rw [List.mem_iff_getElem?]; exact ⟨j, by rw [List.getElem?_take, if_pos hij, List.getElem?_eq_getElem h]⟩)
  simp [he] at this

set_option maxRecDepth 100000 in
set_option maxHeartbeats 3200000 in
theorem headed_any (o : ObjV) (w : World) (h : ObjAt w o) : Calls Tryd.prog 23 #[o.val] w fun e w' => e = .returned (.bool o.d.headB) ∧ Grow w w' := by
  obtain ⟨⟨s, l, sl, cl, st, co, rf⟩, pv, sv, cv, rv⟩ := o
  have hl := h.params
  have hs := h.ok.name
  have hpn := h.ok.params
  simp only at hl hs hpn
  obtain ⟨a, cap, hpv, hcap, hlen⟩ := hl.form
  subst hpv
  have HL := Lib.hid hl
  have HPN := Lib.hid hpn
  clear h hl hpn
  by_cases h0 : s.size = 0
  · obtain rfl := empty_of_size (s := s) (by omega)
    have HB := Lib.hid (show ObjD.headB ⟨⟨#[]⟩, l, sl, cl, st, co, rf⟩ = decide (l.length = 0) from if_pos rfl)
    go_enter Tryd.func23, Tryd.ntmps23
    go_wp2_with fail
    go_ret
    exact ⟨ret_bool (by rw [HB.out]; by_cases hh : l.length = 0 <;> simp [hh]), (Mv.refl _ _).alloc _⟩
  · have hne := bytes_some (s := s) (by omega)
    have HB := Lib.hid (show ObjD.headB ⟨s, l, sl, cl, st, co, rf⟩ = (nameB s && (decide (l.length ≤ 8) && paramsTo l l.length)) from by simp [ObjD.headB, h0])
    go_enter Tryd.func23, Tryd.ntmps23
    go_wp2_with fail
    refine (name_any s _ hs).mono ?_
    rintro e w1 ⟨rfl, hm⟩
    obtain ⟨hc, hf⟩ := gcell hm
    have hM := Mv.trans (O1 := fun _ => False) ((Mv.refl (fun _ => False) w).alloc (.cells #[.string s, .slice a l.length cap, sv, .int .i64 cl, .int .i64 st, cv, rv] 31)) hm (fun _ e => e.elim)
    have hbx : w1.heap[w.heap.size]? = some (.cells #[.string s, .slice a l.length cap, sv, .int .i64 cl, .int .i64 st, cv, rv] 31 (0, 0)) := by
      rw [hm.block _ (by simp) (fun h => h)]; exact heap_alloc_new w _
    have HM := Lib.hid hM
    have HBX := Lib.hid hbx
    generalize nameB s = q at *
    clear hm hM hbx
    by_cases hq : q = true
    · subst hq
      by_cases h8 : l.length ≤ 8
      · have HP : Hid (True) := Lib.hid trivial
        go_wp2_with fail
        clear hc hf
        go_loopw [27] (fun t wr => ∃ k : Nat, t = .int .i64 k ∧ k ≤ l.length ∧ Grow w1 wr ∧ paramsTo l k = true) (fun t _ => l.length - (intOf t).toNat)
        case atStart => exact ⟨0, rfl, Nat.zero_le _, Mv.refl _ _, rfl⟩
        obtain ⟨k, rfl, hk, hg, hpt⟩ := hrel
        have HG := Lib.hid hg
        have HPT := Lib.hid hpt
        have hbr : wr.heap[w.heap.size]? = some (.cells #[.string s, .slice a l.length cap, sv, .int .i64 cl, .int .i64 st, cv, rv] 31 (0, 0)) := by
          rw [hg.block _ (lt_of_block HBX.out) (fun h => h)]; exact HBX.out
        have hbl := lt_of_block hbr
        have p1 : wr.cell? ⟨w.heap.size, 1, none⟩ = some (.slice a l.length cap) := by simp [World.cell?, hbr]
        have HBR := Lib.hid hbr
        have hgm := Mv.trans HM.out hg (fun _ e => e.elim)
        have HGM := Lib.hid hgm
        have hrow := HL.out.later hgm
        clear hg hpt hbr hgm
        by_cases hlt : k < l.length
        · obtain ⟨b, off, cap', e, _, hcc⟩ := hrow.at hlt
          simp only [Value.slice.injEq, true_and] at e
          obtain ⟨rfl, rfl⟩ := e
          have c0 := hcc 0 _ rfl
          have c1 := hcc 1 _ rfl
          have c2 := hcc 2 _ rfl
          simp only [Nat.add_zero] at c0
          have hbb : b < wr.heap.size := World.block_lt_of_cell? wr _ c0
          have HS := Lib.hid (paramsTo_succ l k hlt)
          have HFF := Lib.hid (paramsTo_false l k l.length hlt hlt)
          have hvn := (HPN.out l[k] (List.getElem_mem hlt)).1
          have HRO := Lib.hid hrow
          generalize hvk : l[k] = vk at *
          obtain ⟨vs, vkd, vln⟩ := vk
          simp only at c0 c1 c2 hvn
          have HVK := Lib.hid hvk
          clear hcc hrow hvk
          go_wp2_with fail
          refine (declares_any ⟨vs, vkd, vln⟩ _ hvn).mono ?_
          rintro e w2 ⟨rfl, hm2⟩
          obtain ⟨hc2, hf2⟩ := gcell hm2
          have hg2 := Mv.trans HG.out (Mv.trans ((Mv.refl (fun _ => False) wr).alloc (.cells #[.string vs, .int .u8 vkd, .int .i64 vln] 73)) hm2 (fun _ e => e.elim)) (fun _ e => e.elim)
          have hsz2 := hm2.size
          simp only [World.size_alloc] at hsz2
          have hn2 : w2.cell? ⟨wr.heap.size, 0, none⟩ = some (.string vs) := by rw [hc2 _ _ (by simp), new_cell]; rfl
          have hp2 : w2.cell? ⟨w.heap.size, 1, none⟩ = some (.slice (some ⟨b, off, none⟩) l.length cap) := by rw [hc2 _ _ (by simp; omega)]; rw [← p1]; exact World.cell?_of_block (w := wr) (w' := wr.alloc _) (Below.heap_alloc _ _ _ hbl)
          have HG2 := Lib.hid hg2
          have hm2r := Mv.trans HGM.out (Mv.trans ((Mv.refl (fun _ => False) wr).alloc (.cells #[.string vs, .int .u8 vkd, .int .i64 vln] 73)) hm2 (fun _ e => e.elim)) (fun _ e => e.elim)
          have HM2R := Lib.hid hm2r
          generalize VarD.declB ⟨vs, vkd, vln⟩ = dq at *
          clear hm2 hg2 hm2r hc2 hf2 c0 c1 c2 p1
          by_cases hdq : dq = true
          · subst hdq
            go_wp2_with fail
            obtain ⟨wo, rfl⟩ : ∃ wo : World, wo = wr := ⟨_, rfl⟩
            go_loopw [40] (fun t wr2 => ∃ j : Nat, t = .int .i64 j ∧ j ≤ k ∧ Grow w2 wr2 ∧ freshB (l.take j) vs = true) (fun t _ => k - (intOf t).toNat)
            case atStart => exact ⟨0, rfl, Nat.zero_le _, Mv.refl _ _, rfl⟩
            obtain ⟨j, rfl, hj, hg3, hfr⟩ := hrel
            have HG3 := Lib.hid hg3
            have HFR := Lib.hid hfr
            have hrow3 := (HL.out.later HM2R.out).later hg3
            have hn3 : wr.cell? ⟨wo.heap.size, 0, none⟩ = some (.string vs) := by rw [(gcell hg3).1 _ _ (by omega)]; exact hn2
            have hsz3 := hg3.size
            clear hg3 hfr
            by_cases hjk : j < k
            · have hjl : j < l.length := by omega
              have hcc := hrow3.at' hjl
              have c0 := hcc 0 _ rfl
              have c1 := hcc 1 _ rfl
              have c2 := hcc 2 _ rfl
              simp only [Nat.add_zero] at c0
              have hbb3 : b < wr.heap.size := World.block_lt_of_cell? wr _ c0
              have hnl : wo.heap.size < wr.heap.size := by omega
              have HFS := Lib.hid (freshB_succ l vs j hjl)
              have HFN := Lib.hid (freshB_false l vs k j hjk hjl)
              generalize hvj : l[j] = vj at *
              obtain ⟨js, jk, jn⟩ := vj
              simp only at c0 c1 c2
              clear hcc hvj hrow3
              have HBE := Lib.hid (beq_bytes js vs)
              by_cases hjv : (js.toList == vs.toList) = true
              · have HJV := Lib.hid (show (js == vs) = true from by rw [← HBE.out]; exact hjv)
                go_wp2_with fail
                go_ret
                exact ⟨ret_bool (by rw [HB.out, HFF.out (by rw [HFN.out HJV.out]; rfl)]; simp), (Mv.trans HM2R.out HG3.out (fun _ e => e.elim)).alloc _⟩
              · have hjv2 : (js.toList == vs.toList) = false := by simpa using hjv
                have HJV := Lib.hid (show (js == vs) = false from by rw [← HBE.out]; exact hjv2)
                clear hjv
                go_wp2_with fail
                go_roundw
                case rel => exact ⟨j + 1, by go_num, by omega, HG3.out.alloc _, by rw [HFS.out, HFR.out, HJV.out]; rfl⟩
                case measure => simp [intOf]; omega
            · obtain rfl : j = k := by omega
              clear hrow3
              go_wp2_with fail
              go_roundw
              case rel => exact ⟨j + 1, by go_num, by omega, Mv.trans HG2.out HG3.out (fun _ e => e.elim), by rw [HS.out, HPT.out, HFR.out]; rfl⟩
              case measure => simp [intOf]; omega
          · have hdq2 : dq = false := by simpa using hdq
            subst hdq2
            go_wp2_with fail
            go_ret
            exact ⟨ret_bool (by rw [HB.out, HFF.out rfl]; simp), HM2R.out⟩
        · obtain rfl : k = l.length := by omega
          clear hrow
          go_wp2_with fail
          go_ret
          exact ⟨ret_bool (by rw [HB.out, HPT.out]; simp [h8]), HGM.out⟩
      · go_wp2_with fail
        go_ret
        exact ⟨ret_bool (by rw [HB.out]; simp [h8]), HM.out⟩
    · have hq2 : q = false := by simpa using hq
      subst hq2
      go_wp2_with fail
      go_ret
      exact ⟨ret_bool (by rw [HB.out]; rfl), HM.out⟩

end Go.Proofs.YtaabkaiifplhgaaDoor
