/- linker.linkable. -/
import Derived.Test.YtaabkaiifplhgaaDoorLUndef2
namespace Go.Proofs.YtaabkaiifplhgaaDoor
set_option linter.unusedSimpArgs false
set_option linter.unusedVariables false
open Go.RowKit Go.Instr

/-- the first error of the objects -/
def firstErr : List ObjD → Int
  | [] => 0
  | o :: l => if o.chk ≠ 0 then o.chk else firstErr l
def givenTo (procs : List ObjD) (k : Nat) : List (ByteArray × Value) := (procs.take k).foldl (fun m o => mset o.name (.bool true) m) []
/-- is one of the first k names given twice? -/
def twiceTo (procs : List ObjD) (k : Nat) : Bool := (List.range k).any fun i => match procs[i]? with
  | some o => (mget (givenTo procs i) o.name).isSome
  | none => false
/-- the error of linking -/
def linkErr (main : ObjD) (procs : List ObjD) : Int :=
  if main.chk ≠ 0 then main.chk else if firstErr procs ≠ 0 then firstErr procs else if main.name.size ≠ 0 then 3 else if (procs.any fun o => decide (o.name.size = 0)) = true then 3
  else if twiceTo procs procs.length = true then 22 else if 0 < (undefL main.refs procs).length then 6 else 0

theorem firstErr_at (procs : List ObjD) : ∀ (k : Nat) (h : k < procs.length), (∀ j (hj : j < k), procs[j].chk = 0) → procs[k].chk ≠ 0 → firstErr procs = procs[k].chk := by
  induction procs with
  | nil => intro k h; simp at h
  | cons o l ih =>
    intro k h h0 h1
    cases k with
    | zero => simp at h1; simp [firstErr, h1]
    | succ k =>
      have := h0 0 (by omega)
      simp at this
      simp only [firstErr, this, ne_eq, not_true_eq_false, if_false, List.getElem_cons_succ]
      exact ih k (by simpa using h) (fun j hj => by have := h0 (j + 1) (by omega); simpa using this) (by simpa using h1)
theorem firstErr_none (procs : List ObjD) (h : ∀ j (hj : j < procs.length), procs[j].chk = 0) : firstErr procs = 0 := by
  induction procs with
  | nil => rfl
  | cons o l ih =>
    have := h 0 (by simp)
    simp at this
    simp only [firstErr, this, ne_eq, not_true_eq_false, if_false]
    exact ih (fun j hj => by have := h (j + 1) (by simpa using hj); simpa using this)
theorem givenTo_succ (procs : List ObjD) (k : Nat) (h : k < procs.length) : givenTo procs (k + 1) = mset procs[k].name (.bool true) (givenTo procs k) := by
  unfold givenTo; rw [List.take_succ_eq_append_getElem h, List.foldl_append]; rfl
theorem givenTo_true (procs : List ObjD) : ∀ (k : Nat), k ≤ procs.length → ∀ p ∈ givenTo procs k, p.2 = .bool true := by
  intro k
  induction k with
  | zero => intro _ p hp; simp [givenTo] at hp
  | succ k ih => intro hk p hp; rw [givenTo_succ procs k (by omega)] at hp; exact mset_true _ _ (ih (by omega)) p hp
theorem twiceTo_succ (procs : List ObjD) (k : Nat) (h : k < procs.length) : twiceTo procs (k + 1) = (twiceTo procs k || (mget (givenTo procs k) procs[k].name).isSome) := by
  unfold twiceTo
  rw [List.range_succ, List.any_append]
  simp [h]
theorem empty_bytes {s : ByteArray} (h : s.size = 0) : s.toList.isEmpty = true := by
  obtain rfl := empty_of_size (s := s) (by omega)
  have h1 : ByteArray.toList ⟨#[]⟩ = [] := by rw [ByteArray.toList_eq]
  rw [h1]; rfl

set_option maxRecDepth 100000 in
set_option maxHeartbeats 8000000 in
theorem linkable_any (o : ObjV) (pv : Value) (procs : List ObjV) (w : World) (ht : TabOk w) (ho : ObjAt w o) (hp : ObjsAt w pv procs) (hfew : FewR o.d.refs (procs.map (·.d))) :
    Calls Tryd.prog 21 #[o.val, pv] w fun e w' => e = .returned (.int .i64 (linkErr o.d (procs.map (·.d)))) ∧ Grow w w' := by
  obtain ⟨pa, pcap, rfl, hpcap, hplen⟩ := hp.row.form
  obtain ⟨y1, y2, y3, y4, y5, y6, y7, y8, ⟨hy1, hy2, hy3, hy4⟩, -, hrcap, hrlen⟩ := ho.slices
  have hmm := @run_makeMap Tryd.prog
  have HO := Lib.hid ho
  have HP := Lib.hid hp
  have HF := Lib.hid hfew
  have HT := Lib.hid ht
  have HLE := Lib.hid (show linkErr o.d (procs.map (·.d)) = (if o.d.chk ≠ 0 then o.d.chk else if firstErr (procs.map (·.d)) ≠ 0 then firstErr (procs.map (·.d)) else if o.d.name.size ≠ 0 then 3 else if ((procs.map (·.d)).any fun o => decide (o.name.size = 0)) = true then 3
    else if twiceTo (procs.map (·.d)) (procs.map (·.d)).length = true then 22 else if 0 < (undefL o.d.refs (procs.map (·.d))).length then 6 else 0) from rfl)
  clear ho hp hfew ht
  obtain ⟨⟨s, ps, ss, cl, st, co, rf⟩, qv, sv, cv, rv⟩ := o
  simp only at hy1 hy2 hy3 hy4 hrcap hrlen
  subst hy1 hy2 hy3 hy4
  have hg0 : Grow w (w.alloc (.cells #[.string s, .slice y1 ps.length y2, .slice y3 ss.length y4, .int .i64 cl, .int .i64 st, .slice y5 co.length y6, .slice y7 rf.length y8] 31)) := (Mv.refl _ _).alloc _
  have hbox := heap_alloc_new w (.cells #[.string s, .slice y1 ps.length y2, .slice y3 ss.length y4, .int .i64 cl, .int .i64 st, .slice y5 co.length y6, .slice y7 rf.length y8] 31)
  have HCK := Lib.hid (check_any _ _ (HT.out.later hg0) (HO.out.later hg0))
  have HG0 := Lib.hid hg0
  have HBOX := Lib.hid hbox
  clear hg0 hbox
  go_enter Tryd.func21, Tryd.ntmps21
  go_wp2_with fail
  have hsz1 : w.heap.size < (w.alloc (.cells #[.string s, .slice y1 ps.length y2, .slice y3 ss.length y4, .int .i64 cl, .int .i64 st, .slice y5 co.length y6, .slice y7 rf.length y8] 31)).heap.size := by simp
  generalize w.alloc (.cells #[.string s, .slice y1 ps.length y2, .slice y3 ss.length y4, .int .i64 cl, .int .i64 st, .slice y5 co.length y6, .slice y7 rf.length y8] 31) = w1 at *
  refine HCK.out.mono ?_
  rintro e w2 ⟨rfl, hm2⟩
  have HG2 := Lib.hid (Mv.trans HG0.out hm2 (fun _ e => e.elim))
  have hsz2 : w.heap.size < w2.heap.size := by have := hm2.size; omega
  have HB2 := Lib.hid (show w2.heap[w.heap.size]? = _ from (hm2.block _ hsz1 (fun h => h)).trans HBOX.out)
  generalize ObjD.chk ⟨s, ps, ss, cl, st, co, rf⟩ = ck at *
  clear hm2 HCK
  by_cases hck : ck ≠ 0
  · have hckb : (ck != 0) = true := by simpa using hck
    have HFI := Lib.hid (show linkErr ⟨s, ps, ss, cl, st, co, rf⟩ (procs.map (·.d)) = ck from by rw [HLE.out, if_pos hck])
    clear hck
    go_wp2_with fail
    go_ret
    exact ⟨ret_int (by rw [HFI.out]), HG2.out⟩
  obtain rfl : ck = 0 := by omega
  clear hck
  go_wp2_with fail
  -- every object is checked
  go_loopw [20] (fun t wr => ∃ k : Nat, t = .int .i64 k ∧ k ≤ procs.length ∧ Grow w2 wr ∧ ∀ j (hj : j < procs.length), j < k → procs[j].d.chk = 0) (fun t _ => procs.length - (intOf t).toNat)
  case atStart => exact ⟨0, rfl, Nat.zero_le _, Mv.refl _ _, fun j _ h => by omega⟩
  obtain ⟨k, rfl, hk, hg, hz⟩ := hrel
  have HG := Lib.hid hg
  have HZ := Lib.hid hz
  have HGR := Lib.hid (Mv.trans HG2.out hg (fun _ e => e.elim))
  clear hz hg
  by_cases hlt : k < procs.length
  · obtain ⟨b, off, cap', e, _, hcc⟩ := (HP.out.row.later HGR.out).at hlt
    simp only [Value.slice.injEq, true_and] at e
    obtain ⟨rfl, rfl⟩ := e
    have c0 := hcc 0 _ rfl
    have c1 := hcc 1 _ rfl
    have c2 := hcc 2 _ rfl
    have c3 := hcc 3 _ rfl
    have c4 := hcc 4 _ rfl
    have c5 := hcc 5 _ rfl
    have c6 := hcc 6 _ rfl
    simp only [Nat.add_zero] at c0
    have hbl : b < wr.heap.size := World.block_lt_of_cell? wr _ c0
    have hxo := HP.out.each procs[k] (List.getElem_mem hlt)
    have HFE := Lib.hid (show procs[k].d.chk ≠ 0 → firstErr (procs.map (·.d)) = procs[k].d.chk from fun h => by
      have := firstErr_at (procs.map (·.d)) k (by simpa using hlt) (fun j hj => by simpa using HZ.out j (by omega) hj) (by simpa using h)
      simpa using this)
    have HZ2 := Lib.hid (show procs[k].d.chk = 0 → ∀ j (hj : j < procs.length), j < k + 1 → procs[j].d.chk = 0 from fun h j hj hjk => by
      rcases Nat.lt_or_ge j k with h1 | h1
      · exact HZ.out j hj h1
      · obtain rfl : j = k := by omega
        exact h)
    have HCX := Lib.hid (fun w' => check_any procs[k] w')
    generalize hx : procs[k] = x at *
    obtain ⟨z1, z2, z3, z4, z5, z6, xra, xrcap, ⟨hz1, hz2, hz3, hxrv⟩, -, hxrcap, hxrlen⟩ := hxo.slices
    obtain ⟨⟨xs, xps, xss, xcl, xst, xco, xrf⟩, xqv, xsv, xcv, xrv⟩ := x
    simp only at c0 c1 c2 c3 c4 c5 c6 hz1 hz2 hz3 hxrv hxrlen hxrcap
    subst hz1 hz2 hz3 hxrv
    have hgx := HGR.out.alloc (.cells #[.string xs, .slice z1 xps.length z2, .slice z3 xss.length z4, .int .i64 xcl, .int .i64 xst, .slice z5 xco.length z6, .slice xra xrf.length xrcap] 31)
    have HCY := Lib.hid (HCX.out _ (HT.out.later hgx) (hxo.later hgx))
    clear hcc hx hxo hgx HCX
    go_wp2_with fail
    refine HCY.out.mono ?_
    rintro e w3 ⟨rfl, hm3⟩
    have HG3 := Lib.hid (Mv.trans (HG.out.alloc _) hm3 (fun _ e => e.elim))
    have HGR3 := Lib.hid (Mv.trans (HGR.out.alloc _) hm3 (fun _ e => e.elim))
    generalize ObjD.chk ⟨xs, xps, xss, xcl, xst, xco, xrf⟩ = cx at *
    clear hm3 HCY c0 c1 c2 c3 c4 c5 c6
    by_cases hcx : cx = 0
    · subst hcx
      go_wp2_with fail
      go_roundw
      case rel => exact ⟨k + 1, by go_num, by omega, HG3.out, HZ2.out (by trivial)⟩
      case measure => simp [intOf]; omega
    · have hcxb : (cx != 0) = true := by simpa using hcx
      have HFI := Lib.hid (show linkErr ⟨s, ps, ss, cl, st, co, rf⟩ (procs.map (·.d)) = cx from by rw [HLE.out, if_neg (by simp), if_pos (by rw [HFE.out hcx]; exact hcx), HFE.out hcx])
      clear hcx
      go_wp2_with fail
      go_ret
      exact ⟨ret_int (by rw [HFI.out]), HGR3.out⟩
  obtain rfl : k = procs.length := by omega
  have HLE2 := Lib.hid (show linkErr ⟨s, ps, ss, cl, st, co, rf⟩ (procs.map (·.d)) = (if s.size ≠ 0 then 3 else if ((procs.map (·.d)).any fun o => decide (o.name.size = 0)) = true then 3
    else if twiceTo (procs.map (·.d)) (procs.map (·.d)).length = true then 22 else if 0 < (undefL rf (procs.map (·.d))).length then 6 else 0) from by
      rw [HLE.out, if_neg (by simp), firstErr_none _ (fun j hj => by simpa using HZ.out j (by simpa using hj) (by simpa using hj)), if_neg (by simp)])
  have hbr : wr.heap[w.heap.size]? = _ := (HG.out.block _ hsz2 (fun h => h)).trans HB2.out
  have hszr : w.heap.size < wr.heap.size := by have := HG.out.size; omega
  have b0 : wr.cell? ⟨w.heap.size, 0, none⟩ = some (.string s) := by simp [World.cell?, hbr]
  have HBR := Lib.hid hbr
  clear hbr
  by_cases hs0 : s.size ≠ 0
  · have hne := bytes_some (s := s) (by omega)
    have HFI := Lib.hid (show linkErr ⟨s, ps, ss, cl, st, co, rf⟩ (procs.map (·.d)) = 3 from by rw [HLE2.out, if_pos hs0])
    go_wp2_with fail
    go_ret
    exact ⟨ret_int (by rw [HFI.out]), HGR.out⟩
  have HLE3 := Lib.hid (show linkErr ⟨s, ps, ss, cl, st, co, rf⟩ (procs.map (·.d)) = (if ((procs.map (·.d)).any fun o => decide (o.name.size = 0)) = true then 3
    else if twiceTo (procs.map (·.d)) (procs.map (·.d)).length = true then 22 else if 0 < (undefL rf (procs.map (·.d))).length then 6 else 0) from by rw [HLE2.out, if_neg hs0])
  have hemp := empty_bytes (s := s) (by omega)
  have hmap0 : MapAt Value.string (wr.alloc (.map #[] 0)) wr.heap.size [] := MapAt.new _ _
  have HMAP := Lib.hid hmap0
  clear hmap0 HLE HLE2
  go_wp2_with fail
  clear b0 hemp
  obtain ⟨wo, rfl⟩ : ∃ wo : World, wo = wr := ⟨_, rfl⟩
  go_loopw [10, 36] (fun tw t wr => ∃ k : Nat, tw = .bool (twiceTo (procs.map (·.d)) k) ∧ t = .int .i64 k ∧ k ≤ procs.length ∧ Mv (fun b => b = wo.heap.size) wo wr ∧ MapAt Value.string wr wo.heap.size (givenTo (procs.map (·.d)) k) ∧ ∀ j (hj : j < procs.length), j < k → procs[j].d.name.size ≠ 0) (fun _ t _ => procs.length - (intOf t).toNat)
  case atStart => exact ⟨0, rfl, rfl, Nat.zero_le _, (Mv.refl _ _).alloc _, HMAP.out, fun j _ h => by omega⟩
  obtain ⟨k, rfl, rfl, hk, hg, hmp, hnz⟩ := hrel
  have HG5 := Lib.hid hg
  have HMP := Lib.hid hmp
  have HNZ := Lib.hid hnz
  have hgw : Grow wo wr := hg.mono (fun x e => .inr (by omega))
  have HGR5 := Lib.hid (Mv.trans HGR.out hgw (fun _ e => e.elim))
  have hsz5 := hg.size
  clear hnz hg
  by_cases hlt : k < procs.length
  · obtain ⟨b, off, cap', e, _, hcc⟩ := (HP.out.row.later HGR5.out).at hlt
    simp only [Value.slice.injEq, true_and] at e
    obtain ⟨rfl, rfl⟩ := e
    have c0 := hcc 0 _ rfl
    have c1 := hcc 1 _ rfl
    have c2 := hcc 2 _ rfl
    have c3 := hcc 3 _ rfl
    have c4 := hcc 4 _ rfl
    have c5 := hcc 5 _ rfl
    have c6 := hcc 6 _ rfl
    simp only [Nat.add_zero] at c0
    have hbl : b < wr.heap.size := World.block_lt_of_cell? wr _ c0
    have hxo := HP.out.each procs[k] (List.getElem_mem hlt)
    have HGS := Lib.hid (show givenTo (procs.map (·.d)) (k + 1) = mset procs[k].d.name (.bool true) (givenTo (procs.map (·.d)) k) from by rw [givenTo_succ _ k (by simpa using hlt)]; simp)
    have HTS := Lib.hid (show twiceTo (procs.map (·.d)) (k + 1) = (twiceTo (procs.map (·.d)) k || (mget (givenTo (procs.map (·.d)) k) procs[k].d.name).isSome) from by rw [twiceTo_succ _ k (by simpa using hlt)]; simp)
    have HANY := Lib.hid (show procs[k].d.name.size = 0 → ((procs.map (·.d)).any fun o => decide (o.name.size = 0)) = true from fun h => by
      rw [List.any_eq_true]; exact ⟨procs[k].d, List.mem_map.2 ⟨procs[k], List.getElem_mem hlt, rfl⟩, by simpa using h⟩)
    have HNZ2 := Lib.hid (show procs[k].d.name.size ≠ 0 → ∀ j (hj : j < procs.length), j < k + 1 → procs[j].d.name.size ≠ 0 from fun h j hj hjk => by
      rcases Nat.lt_or_ge j k with h1 | h1
      · exact HNZ.out j hj h1
      · obtain rfl : j = k := by omega
        exact h)
    generalize hx : procs[k] = x at *
    obtain ⟨z1, z2, z3, z4, z5, z6, xra, xrcap, ⟨hz1, hz2, hz3, hxrv⟩, -, hxrcap, hxrlen⟩ := hxo.slices
    obtain ⟨⟨xs, xps, xss, xcl, xst, xco, xrf⟩, xqv, xsv, xcv, xrv⟩ := x
    simp only at c0 c1 c2 c3 c4 c5 c6 hz1 hz2 hz3 hxrv hxrlen hxrcap HGS HTS HANY HNZ2
    subst hz1 hz2 hz3 hxrv
    have hmpa := hmp.keep (w' := wr.alloc (.cells #[.string xs, .slice z1 xps.length z2, .slice z3 xss.length z4, .int .i64 xcl, .int .i64 xst, .slice z5 xco.length z6, .slice xra xrf.length xrcap] 31)) (Below.heap_alloc _ _ _ hmp.lt)
    by_cases hx0 : xs.size = 0
    · have hemp := empty_bytes hx0
      have HFI := Lib.hid (show linkErr ⟨s, ps, ss, cl, st, co, rf⟩ (procs.map (·.d)) = 3 from by rw [HLE3.out, if_pos (HANY.out hx0)])
      clear hcc hx hxo hmp hmpa hgw hx0
      go_wp2_with fail
      go_ret
      exact ⟨ret_int (by rw [HFI.out]), HGR5.out.alloc _⟩
    · have hne := bytes_some (s := xs) (by omega)
      have HNZ3 := Lib.hid (HNZ2.out hx0)
      have hl := run_get Tryd.strLaw Tryd.underlying82 xs (.bool false) Tryd.zeroBool hmpa
      have hl2 : (lookup 82 (.map (some wo.heap.size)) (.string xs) false).run Tryd.prog (wr.alloc (.cells #[.string xs, .slice z1 xps.length z2, .slice z3 xss.length z4, .int .i64 xcl, .int .i64 xst, .slice z5 xco.length z6, .slice xra xrf.length xrcap] 31)) = .ok (.bool (mget (givenTo (procs.map (·.d)) k) xs).isSome) (wr.alloc (.cells #[.string xs, .slice z1 xps.length z2, .slice z3 xss.length z4, .int .i64 xcl, .int .i64 xst, .slice z5 xco.length z6, .slice xra xrf.length xrcap] 31)) := by
        rw [hl]; exact congrArg (fun v => Result.ok v (wr.alloc (.cells #[.string xs, .slice z1 xps.length z2, .slice z3 xss.length z4, .int .i64 xcl, .int .i64 xst, .slice z5 xco.length z6, .slice xra xrf.length xrcap] 31))) (show (mget (givenTo (procs.map ObjV.d) k) xs).getD (.bool false) = .bool (mget (givenTo (procs.map ObjV.d) k) xs).isSome from mget_true xs (givenTo (procs.map ObjV.d) k) 0 (givenTo_true _ k (by simpa using hk)))
      obtain ⟨w6, hup, hmp6, hmv6⟩ := run_set Tryd.strLaw Tryd.underlying82 xs (.bool true) hmpa
      have HMP6 := Lib.hid hmp6
      have HMV6 := Lib.hid ((HG5.out.alloc _).trans hmv6 (fun x e => .inl e))
      generalize hq1 : twiceTo (procs.map (·.d)) k = q1 at *
      generalize hq2 : (mget (givenTo (procs.map (·.d)) k) xs).isSome = q2 at *
      clear hcc hx hxo hmp hmpa hgw hx0 hl hmp6 hmv6 hq1 hq2
      cases q1
      all_goals
        go_wp2_with fail
        go_roundw
        case rel => exact ⟨k + 1, by rw [HTS.out]; rfl, by go_num, by omega, HMV6.out, by rw [HGS.out]; exact HMP6.out, HNZ3.out⟩
        case measure => simp [intOf]; omega
  obtain rfl : k = procs.length := by omega
  have HLE4 := Lib.hid (show linkErr ⟨s, ps, ss, cl, st, co, rf⟩ (procs.map (·.d)) = (if twiceTo (procs.map (·.d)) procs.length = true then 22 else if 0 < (undefL rf (procs.map (·.d))).length then 6 else 0) from by
    rw [HLE3.out, if_neg, List.length_map]
    intro h
    obtain ⟨o, ho, hz⟩ := List.any_eq_true.1 h
    obtain ⟨x, hx, rfl⟩ := List.mem_map.1 ho
    obtain ⟨j, hj, rfl⟩ := List.mem_iff_getElem.1 hx
    exact HNZ.out j hj hj (by simpa using hz))
  have hbr : wr.heap[w.heap.size]? = _ := (hgw.block _ hszr (fun h => h)).trans HBR.out
  have e0 : wr.cell? ⟨w.heap.size, 0, none⟩ = some (.string s) := by simp [World.cell?, hbr]
  have e1 : wr.cell? ⟨w.heap.size, 1, none⟩ = some (.slice y1 ps.length y2) := by simp [World.cell?, hbr]
  have e2 : wr.cell? ⟨w.heap.size, 2, none⟩ = some (.slice y3 ss.length y4) := by simp [World.cell?, hbr]
  have e3 : wr.cell? ⟨w.heap.size, 3, none⟩ = some (.int .i64 cl) := by simp [World.cell?, hbr]
  have e4 : wr.cell? ⟨w.heap.size, 4, none⟩ = some (.int .i64 st) := by simp [World.cell?, hbr]
  have e5 : wr.cell? ⟨w.heap.size, 5, none⟩ = some (.slice y5 co.length y6) := by simp [World.cell?, hbr]
  have e6 : wr.cell? ⟨w.heap.size, 6, none⟩ = some (.slice y7 rf.length y8) := by simp [World.cell?, hbr]
  have HUN := Lib.hid (undefined_any _ _ procs wr (HO.out.later HGR5.out) (HP.out.later HGR5.out) HF.out)
  generalize twiceTo (procs.map (·.d)) procs.length = q at *
  clear hbr hmp hgw
  cases q
  · go_wp2_with fail
    refine HUN.out.mono ?_
    rintro e w7 ⟨v, rfl, hrow, hm7⟩
    obtain ⟨va, vc, rfl, -, hvl⟩ := hrow.form
    have HG7 := Lib.hid (Mv.trans HGR5.out hm7 (fun _ e => e.elim))
    simp only at hvl ⊢
    generalize undefL rf (procs.map (·.d)) = ul at *
    clear hrow hm7
    by_cases hu : 0 < ul.length
    · have HFI := Lib.hid (show linkErr ⟨s, ps, ss, cl, st, co, rf⟩ (procs.map (·.d)) = 6 from by rw [HLE4.out, if_neg (by simp), if_pos hu])
      go_wp2_with fail
      go_ret
      exact ⟨ret_int (by rw [HFI.out]), HG7.out⟩
    · have HFI := Lib.hid (show linkErr ⟨s, ps, ss, cl, st, co, rf⟩ (procs.map (·.d)) = 0 from by rw [HLE4.out, if_neg (by simp), if_neg hu])
      go_wp2_with fail
      go_ret
      exact ⟨ret_int (by rw [HFI.out]), HG7.out⟩
  · have HFI := Lib.hid (show linkErr ⟨s, ps, ss, cl, st, co, rf⟩ (procs.map (·.d)) = 22 from by rw [HLE4.out, if_pos (by simp)])
    go_wp2_with fail
    go_ret
    exact ⟨ret_int (by rw [HFI.out]), HGR5.out⟩

end Go.Proofs.YtaabkaiifplhgaaDoor
