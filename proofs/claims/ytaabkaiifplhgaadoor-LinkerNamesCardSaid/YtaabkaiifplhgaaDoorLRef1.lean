/- The reference's objects in memory; rows of them; the reference's Find and start. -/
import Derived.Test.YtaabkaiifplhgaaDoorLObjs
namespace Go.Proofs.YtaabkaiifplhgaaDoor
set_option linter.unusedSimpArgs false
set_option linter.unusedVariables false
open Go.RowKit Go.Instr

attribute [local go_sem ↓] run_appOp

structure RObjV where
  d : ObjD
  cv : Value
  rv : Value
def RObjV.cells (o : RObjV) : List Value := [.string o.d.name, .int .i64 o.d.cells, .int .i64 o.d.stacks, o.cv, o.rv]
abbrev RObjV.val (o : RObjV) : Value := .agg #[.string o.d.name, .int .i64 o.d.cells, .int .i64 o.d.stacks, o.cv, o.rv]
structure RObjAt (w : World) (o : RObjV) : Prop where
  code : RowAt 5 Ins.cells w o.cv o.d.code
  refs : RowAt 2 RefD.cells w o.rv o.d.refs
theorem RObjAt.later {w w' : World} {o : RObjV} (h : RObjAt w o) (hm : Grow w w') : RObjAt w' o := ⟨h.code.later hm, h.refs.later hm⟩
structure RObjsAt (w : World) (v : Value) (l : List RObjV) : Prop where
  row : RowAt 5 RObjV.cells w v l
  each : ∀ o ∈ l, RObjAt w o
theorem RObjsAt.later {w w' : World} {v : Value} {l : List RObjV} (h : RObjsAt w v l) (hm : Grow w w') : RObjsAt w' v l := ⟨h.row.later hm, fun o ho => (h.each o ho).later hm⟩
theorem RObjAt.slices {w : World} {o : RObjV} (h : RObjAt w o) : ∃ a3 c3 a4 c4, (o.cv = .slice a3 o.d.code.length c3 ∧ o.rv = .slice a4 o.d.refs.length c4) ∧ (o.d.code.length ≤ c3 ∧ o.d.code.length ≤ 9223372036854775807) ∧ o.d.refs.length ≤ c4 ∧ o.d.refs.length ≤ 9223372036854775807 := by
  obtain ⟨a3, c3, h3, h31, h32⟩ := h.code.form
  obtain ⟨a4, c4, h4, h41, h42⟩ := h.refs.form
  exact ⟨a3, c3, a4, c4, ⟨h3, h4⟩, ⟨h31, h32⟩, h41, h42⟩

abbrev RRefRow (w : World) (base : Nat) (v : Value) (l : List RefD) : Prop := w.ownsRow base 81 2 v l.length (flat RefD.cells l)
abbrev RObjRow (w : World) (base : Nat) (v : Value) (l : List RObjV) : Prop := w.ownsRow base 48 5 v l.length (flat RObjV.cells l)
theorem Tryd.infoRRef : (Tryd.prog.info? 81).map (fun i => (i.zero, i.size, i.bytes)) = some (some (.agg #[.int .i64 0, .string ⟨#[]⟩]), 2, 24) := by kernel_rfl
theorem Tryd.infoRObj : (Tryd.prog.info? 48).map (fun i => (i.zero, i.size, i.bytes)) = some (some (.agg #[.string ⟨#[]⟩, .int .i64 0, .int .i64 0, .slice none 0 0, .slice none 0 0]), 5, 80) := by kernel_rfl

/-- an append of one reference -/
theorem app_rref (v : Value) (x : RefD) (xs : List RefD) (base : Nat) (w : World) (hrow : RRefRow w base v xs) (hb : base ≤ w.heap.size) (hlen : xs.length ≤ 1000000) :
    ∃ a' c' w2, (AppOK Tryd.prog 46 46 v (.slice (some ⟨w.heap.size, 0, none⟩) 1 1) (w.alloc (.cells #[.int .i64 x.at', .string x.name] 81)) ∧
        appV Tryd.prog 46 46 v (.slice (some ⟨w.heap.size, 0, none⟩) 1 1) (w.alloc (.cells #[.int .i64 x.at', .string x.name] 81)) = .slice a' (xs.length + 1) c' ∧ appW Tryd.prog 46 46 v (.slice (some ⟨w.heap.size, 0, none⟩) 1 1) (w.alloc (.cells #[.int .i64 x.at', .string x.name] 81)) = w2) ∧
      RRefRow w2 base (.slice a' (xs.length + 1) c') (xs ++ [x]) ∧ Mv (fun b => v.ownBlock = some b) w w2 ∧ (∀ g, (Value.slice a' (xs.length + 1) c').ownBlock = some g → v.ownBlock = some g ∨ w.heap.size ≤ g) := by
  obtain ⟨i0, hi, hz0, hz1, hz2⟩ := info_parts Tryd.infoRRef
  obtain ⟨v', w2, hr, hown1, hgrow, _, hnew⟩ := run_append_own2 (P := Tryd.prog) (w.alloc (.cells #[.int .i64 x.at', .string x.name] 81)) base 46 46 81 i0 (.agg #[.int .i64 0, .string ⟨#[]⟩]) 2 24 Tryd.underlying46 hi hz0 hz1 hz2 rfl (by decide) v _ _ (hrow.alloc _) ⟨w.heap.size, 0, none⟩ 1 1 x.cells rfl
    (World.news_of_block (cs := #[.int .i64 x.at', .string x.name]) (t := 81) (fr := (0, 0)) (heap_alloc_new w _)) (by simp [Value.oneCell', RefD.cells]) (by unfold maxLen; omega) (by omega) (by simp; omega)
  have hform : ∃ a' c', v' = .slice a' (xs.length + 1) c' := by
    rcases hown1.2 with ⟨_, h0⟩ | ⟨g, cap, cur, rfl, _⟩
    · omega
    · exact ⟨_, _, rfl⟩
  obtain ⟨a', c', rfl⟩ := hform
  obtain ⟨hok, hv, hw2⟩ := app_of hr
  refine ⟨a', c', w2, ⟨hok, hv, hw2⟩, ?_, ((Mv.refl _ _).alloc _).grown hgrow (fun k hk => .inl hk), fun g hg => ?_⟩
  · rw [RRefRow, flat_append]; simpa [flat] using hown1
  · rcases hnew g hg with h1 | h1
    · exact .inl h1
    · exact .inr (by simp at h1; omega)

/-- an append of one object -/
theorem app_robj (v : Value) (x : RObjV) (xs : List RObjV) (base : Nat) (w : World) (hrow : RObjRow w base v xs) (h1 : ∃ w', RObjAt w' x) (hb : base ≤ w.heap.size) (hlen : xs.length ≤ 1000000) :
    ∃ a' c' w2, (AppOK Tryd.prog 50 50 v (.slice (some ⟨w.heap.size, 0, none⟩) 1 1) (w.alloc (.cells #[.string x.d.name, .int .i64 x.d.cells, .int .i64 x.d.stacks, x.cv, x.rv] 48)) ∧
        appV Tryd.prog 50 50 v (.slice (some ⟨w.heap.size, 0, none⟩) 1 1) (w.alloc (.cells #[.string x.d.name, .int .i64 x.d.cells, .int .i64 x.d.stacks, x.cv, x.rv] 48)) = .slice a' (xs.length + 1) c' ∧ appW Tryd.prog 50 50 v (.slice (some ⟨w.heap.size, 0, none⟩) 1 1) (w.alloc (.cells #[.string x.d.name, .int .i64 x.d.cells, .int .i64 x.d.stacks, x.cv, x.rv] 48)) = w2) ∧
      RObjRow w2 base (.slice a' (xs.length + 1) c') (xs ++ [x]) ∧ Mv (fun b => v.ownBlock = some b) w w2 ∧ (∀ g, (Value.slice a' (xs.length + 1) c').ownBlock = some g → v.ownBlock = some g ∨ w.heap.size ≤ g) := by
  obtain ⟨i0, hi, hz0, hz1, hz2⟩ := info_parts Tryd.infoRObj
  obtain ⟨w', h1⟩ := h1
  obtain ⟨a3, c3, a4, c4, ⟨h3, h4⟩, _⟩ := h1.slices
  obtain ⟨v', w2, hr, hown1, hgrow, _, hnew⟩ := run_append_own2 (P := Tryd.prog) (w.alloc (.cells #[.string x.d.name, .int .i64 x.d.cells, .int .i64 x.d.stacks, x.cv, x.rv] 48)) base 50 50 48 i0 (.agg #[.string ⟨#[]⟩, .int .i64 0, .int .i64 0, .slice none 0 0, .slice none 0 0]) 5 80 Tryd.underlying50 hi hz0 hz1 hz2 rfl (by decide) v _ _ (hrow.alloc _) ⟨w.heap.size, 0, none⟩ 1 1 x.cells rfl
    (World.news_of_block (cs := #[.string x.d.name, .int .i64 x.d.cells, .int .i64 x.d.stacks, x.cv, x.rv]) (t := 48) (fr := (0, 0)) (heap_alloc_new w _)) (by simp [Value.oneCell', RObjV.cells, h3, h4]) (by unfold maxLen; omega) (by omega) (by simp; omega)
  have hform : ∃ a' c', v' = .slice a' (xs.length + 1) c' := by
    rcases hown1.2 with ⟨_, h0⟩ | ⟨g, cap, cur, rfl, _⟩
    · omega
    · exact ⟨_, _, rfl⟩
  obtain ⟨a', c', rfl⟩ := hform
  obtain ⟨hok, hv, hw2⟩ := app_of hr
  refine ⟨a', c', w2, ⟨hok, hv, hw2⟩, ?_, ((Mv.refl _ _).alloc _).grown hgrow (fun k hk => .inl hk), fun g hg => ?_⟩
  · rw [RObjRow, flat_append]; simpa [flat] using hown1
  · rcases hnew g hg with h1 | h1
    · exact .inl h1
    · exact .inr (by simp at h1; omega)

/-- the first with a name, from place i on -/
def findFrom (procs : List ObjD) (s : ByteArray) : Nat → Nat → Int
  | 0, _ => -1
  | f + 1, i => match procs[i]? with
    | none => -1
    | some o => if o.name == s then i else findFrom procs s f (i + 1)
def findI (procs : List ObjD) (s : ByteArray) : Int := findFrom procs s procs.length 0

set_option maxRecDepth 100000 in
set_option maxHeartbeats 4000000 in
theorem find_any (pv : Value) (procs : List RObjV) (s : ByteArray) (w : World) (hp : RObjsAt w pv procs) :
    Calls Tryd.prog 26 #[pv, .string s] w fun e w' => e = .returned (.int .i64 (findI (procs.map (·.d)) s)) ∧ w = w' := by
  obtain ⟨pa, pcap, rfl, hpcap, hplen⟩ := hp.row.form
  have HP := Lib.hid hp
  have HF := Lib.hid (show findI (procs.map (·.d)) s = findFrom (procs.map (·.d)) s (procs.length - 0) 0 from by unfold findI; rw [List.length_map]; rfl)
  clear hp
  go_enter Tryd.func26, Tryd.ntmps26
  go_wp2_with fail
  go_loopw [5] (fun t wr => ∃ k : Nat, t = .int .i64 k ∧ k ≤ procs.length ∧ wr = w ∧ findI (procs.map (·.d)) s = findFrom (procs.map (·.d)) s (procs.length - k) k) (fun t _ => procs.length - (intOf t).toNat)
  case atStart => exact ⟨0, rfl, Nat.zero_le _, rfl, HF.out⟩
  obtain ⟨k, rfl, hk, rfl, hfd⟩ := hrel
  have HFD := Lib.hid hfd
  clear hfd
  by_cases hlt : k < procs.length
  · obtain ⟨b, off, cap', e, _, hcc⟩ := HP.out.row.at hlt
    simp only [Value.slice.injEq, true_and] at e
    obtain ⟨rfl, rfl⟩ := e
    have c0 := hcc 0 _ rfl
    simp only [Nat.add_zero] at c0
    have hbl : b < wr.heap.size := World.block_lt_of_cell? wr _ c0
    have HST := Lib.hid (show findFrom (procs.map (·.d)) s (procs.length - k) k = if procs[k].d.name == s then (k : Int) else findFrom (procs.map (·.d)) s (procs.length - (k + 1)) (k + 1) from by
      rw [show procs.length - k = procs.length - (k + 1) + 1 by omega]
      simp only [findFrom, List.getElem?_map, List.getElem?_eq_getElem hlt, Option.map_some])
    have HBE := Lib.hid (beq_bytes procs[k].d.name s)
    generalize procs[k].d.name = kn at *
    clear hcc
    by_cases hks : (kn.toList == s.toList) = true
    · have HE := Lib.hid (show (kn == s) = true from by rw [← HBE.out]; exact hks)
      go_wp2_with fail
      go_ret
      exact ⟨ret_int (by rw [HFD.out, HST.out, HE.out]; rfl), rfl⟩
    · have hks2 : (kn.toList == s.toList) = false := by simpa using hks
      have HE := Lib.hid (show (kn == s) = false from by rw [← HBE.out]; exact hks2)
      clear hks
      go_wp2_with fail
      go_roundw
      case rel => exact ⟨k + 1, by go_num, by omega, by trivial, by rw [HFD.out, HST.out, HE.out]; rfl⟩
      case measure => simp [intOf]; omega
  · obtain rfl : k = procs.length := by omega
    go_wp2_with fail
    go_ret
    exact ⟨ret_int (by rw [HFD.out, Nat.sub_self]; rfl), rfl⟩

set_option maxRecDepth 100000 in
set_option maxHeartbeats 4000000 in
theorem start_any (o : RObjV) (pv : Value) (procs : List RObjV) (k : Int) (w : World) (ho : RObjAt w o) (hp : RObjsAt w pv procs) (hk : k ≤ procs.length) (hc : o.d.code.length ≤ 1000000) (hpl : procs.length ≤ 1000) (hpc : ∀ x ∈ procs, x.d.code.length ≤ 1000000) :
    Calls Tryd.prog 27 #[o.val, pv, .int .i64 k] w fun e w' => e = .returned (.int .i64 (startAt o.d (procs.map (·.d)) k.toNat)) ∧ Grow w w' := by
  obtain ⟨pa, pcap, rfl, hpcap, hplen⟩ := hp.row.form
  obtain ⟨a3, c3, a4, c4, ⟨hy3, hy4⟩, ⟨hccap, hclen⟩, -, -⟩ := ho.slices
  have HP := Lib.hid hp
  have hbd : ∀ k, k ≤ procs.length → startAt o.d (procs.map (·.d)) k ≤ 1000001 + k * 1000002 := by
    intro k
    induction k with
    | zero => intro _; simp [startAt]; omega
    | succ k ih =>
      intro hk
      rw [startAt_succ _ _ k (by simp; omega)]
      have h1 := ih (by omega)
      have h2 := hpc procs[k] (List.getElem_mem _)
      simp only [List.getElem_map]
      omega
  have HBD := Lib.hid hbd
  have HPC := Lib.hid hpc
  have HS0 := Lib.hid (show startAt o.d (procs.map (·.d)) 0 = o.d.code.length + 1 from by simp [startAt])
  clear ho hp hbd hpc
  obtain ⟨d', cv, rv⟩ := o
  simp only at hy3 hy4 hccap hclen hc HBD HS0
  subst hy3 hy4
  have HG0 := Lib.hid ((Mv.refl (fun _ => False) w).alloc (.cells #[.string d'.name, .int .i64 d'.cells, .int .i64 d'.stacks, .slice a3 d'.code.length c3, .slice a4 d'.refs.length c4] 48))
  go_enter Tryd.func27, Tryd.ntmps27
  go_wp2_with fail
  generalize w.alloc (.cells #[.string d'.name, .int .i64 d'.cells, .int .i64 d'.stacks, .slice a3 d'.code.length c3, .slice a4 d'.refs.length c4] 48) = w1 at *
  go_loopw [7, 8] (fun at' t wr => ∃ j : Nat, t = .int .i64 j ∧ j ≤ k.toNat ∧ wr = w1 ∧ at' = .int .i64 (startAt d' (procs.map (·.d)) j)) (fun _ t _ => k.toNat - (intOf t).toNat)
  case atStart => exact ⟨0, rfl, Nat.zero_le _, rfl, by rw [HS0.out]; go_num⟩
  obtain ⟨j, rfl, hj, rfl, rfl⟩ := hrel
  by_cases hlt : (j : Int) < k
  · have hjl : j < procs.length := by omega
    obtain ⟨b, off, cap', e, _, hcc⟩ := (HP.out.row.later HG0.out).at hjl
    simp only [Value.slice.injEq, true_and] at e
    obtain ⟨rfl, rfl⟩ := e
    have q0 := hcc 0 _ rfl
    have q3 := hcc 3 _ rfl
    simp only [Nat.add_zero] at q0
    have hbl : b < wr.heap.size := World.block_lt_of_cell? wr _ q0
    obtain ⟨b3, e3, b4, e4, ⟨hz3, hz4⟩, ⟨hzc, hzl⟩, -, -⟩ := (HP.out.each procs[j] (List.getElem_mem hjl)).slices
    have hxc := HPC.out procs[j] (List.getElem_mem hjl)
    have HSA := Lib.hid (show startAt d' (procs.map (·.d)) (j + 1) = startAt d' (procs.map (·.d)) j + procs[j].d.code.length + 2 from by
      rw [startAt_succ _ _ j (by simpa using hjl)]; simp)
    have hsb := HBD.out j (by omega)
    generalize procs[j] = x at *
    obtain ⟨xd, xcv, xrv⟩ := x
    simp only at hz3 hz4 hzc hzl hxc q3
    subst hz3 hz4
    have hjb : j * 1000002 ≤ 1000 * 1000002 := Nat.mul_le_mul_right _ (by omega)
    generalize startAt d' (procs.map (·.d)) j = sj at *
    clear hcc q0
    go_wp2_with fail
    go_roundw
    case rel => exact ⟨j + 1, by go_num, by omega, by trivial, by rw [HSA.out]; go_num⟩
    case measure => simp [intOf]; omega
  · have hjk : j = k.toNat := by omega
    subst hjk
    go_wp2_with fail
    go_ret
    exact ⟨rfl, HG0.out⟩

end Go.Proofs.YtaabkaiifplhgaaDoor
