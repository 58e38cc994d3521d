/- linker.Undefined: the walk. -/
import Derived.Test.YtaabkaiifplhgaaDoorLUndef
namespace Go.Proofs.YtaabkaiifplhgaaDoor
set_option linter.unusedSimpArgs false
set_option linter.unusedVariables false
open Go.RowKit Go.Instr

attribute [local go_sem ↓] run_appOp

theorem refMap_keys (refs : List RefD) : ∀ (k : Nat) (m : List (ByteArray × Value)), k ≤ refs.length → (m.map (·.1)).Nodup → ((refMap m refs k).map (·.1)).Nodup ∧ (refMap m refs k).length ≤ m.length + k := by
  intro k
  induction k with
  | zero => intro m _ h; exact ⟨h, by simp [refMap]⟩
  | succ k ih =>
    intro m hk h
    obtain ⟨h1, h2⟩ := ih m (by omega) h
    rw [refMap_succ m refs k (by omega)]
    refine ⟨(mset_keys _ _ _ h1).1, ?_⟩
    have hl : ∀ (k : ByteArray) (v : Value) (l : List (ByteArray × Value)), (mset k v l).length ≤ l.length + 1 := by
      intro k v l
      induction l with
      | nil => simp [mset]
      | cons p l ih => obtain ⟨a, x⟩ := p; simp only [mset]; split <;> simp <;> omega
    have := hl refs[k].name (.bool true) (refMap m refs k)
    omega

/-- what is asked of sizes -/
structure FewR (mr : List RefD) (procs : List ObjD) : Prop where
  m : mr.length ≤ 80
  p : procs.length ≤ 16
  r : ∀ o ∈ procs, o.refs.length ≤ 80

theorem allMap_keys (mr : List RefD) (procs : List ObjD) (h : FewR mr procs) : ∀ k, k ≤ procs.length → ((allMap mr procs k).map (·.1)).Nodup ∧ (allMap mr procs k).length ≤ 80 + k * 80 := by
  intro k
  induction k with
  | zero =>
    intro _
    have := refMap_keys mr mr.length [] (Nat.le_refl _) (by simp)
    have hm := h.m
    exact ⟨this.1, by have := this.2; simp [allMap] at this ⊢; omega⟩
  | succ k ih =>
    intro hk
    obtain ⟨h1, h2⟩ := ih (by omega)
    rw [allMap_succ mr procs k (by omega)]
    have h3 := refMap_keys procs[k].refs procs[k].refs.length _ (Nat.le_refl _) h1
    have h4 := h.r procs[k] (List.getElem_mem _)
    exact ⟨h3.1, by have := h3.2; omega⟩
theorem delMap_keys (procs : List ObjD) (m : List (ByteArray × Value)) (hm : (m.map (·.1)).Nodup) : ∀ k, k ≤ procs.length → ((delMap m procs k).map (·.1)).Nodup ∧ (delMap m procs k).length ≤ m.length := by
  intro k
  induction k with
  | zero => intro _; exact ⟨hm, by simp [delMap]⟩
  | succ k ih =>
    intro hk
    obtain ⟨h1, h2⟩ := ih (by omega)
    rw [delMap_succ m procs k (by omega)]
    refine ⟨(mdel_keys _ _ h1).1, ?_⟩
    have hl : ∀ (k : ByteArray) (l : List (ByteArray × Value)), (mdel k l).length ≤ l.length := by
      intro k l
      induction l with
      | nil => simp [mdel]
      | cons p l ih => obtain ⟨a, x⟩ := p; simp only [mdel]; split <;> simp <;> omega
    have := hl procs[k].name (delMap m procs k)
    omega
theorem missing_keys (mr : List RefD) (procs : List ObjD) (h : FewR mr procs) : ((missing mr procs).map (·.1)).Nodup ∧ (missing mr procs).length ≤ 1360 := by
  obtain ⟨h1, h2⟩ := allMap_keys mr procs h procs.length (Nat.le_refl _)
  obtain ⟨h3, h4⟩ := delMap_keys procs _ h1 procs.length (Nat.le_refl _)
  have := h.p
  refine ⟨h3, ?_⟩
  have : (missing mr procs).length ≤ (allMap mr procs procs.length).length := h4
  have h5 : procs.length * 80 ≤ 16 * 80 := Nat.mul_le_mul_right _ h.p
  omega

/-- how long a slice is -/
def lenOf : Value → Nat
  | .slice _ n _ => n
  | _ => 0

theorem nodup_of_map {α β : Type} {f : α → β} {l : List α} (h : (l.map f).Nodup) : l.Nodup := by
  induction l with
  | nil => simp
  | cons a l ih =>
    simp only [List.map_cons, List.nodup_cons] at h ⊢
    exact ⟨fun hm => h.1 (List.mem_map.2 ⟨a, hm, rfl⟩), ih h.2⟩
theorem nodup_map_str {l : List ByteArray} (h : l.Nodup) : (l.map Value.string).Nodup := by
  induction l with
  | nil => simp
  | cons a l ih =>
    simp only [List.map_cons, List.nodup_cons] at h ⊢
    refine ⟨fun hm => ?_, ih h.2⟩
    obtain ⟨b, hb, e⟩ := List.mem_map.1 hm
    simp only [Value.string.injEq] at e
    exact h.1 (e ▸ hb)
theorem len_sub {l : List ByteArray} : ∀ {m : List ByteArray}, l.Nodup → (∀ x ∈ l, x ∈ m) → l.length ≤ m.length := by
  induction l with
  | nil => intro m _ _; simp
  | cons a l ih =>
    intro m h hs
    simp only [List.nodup_cons] at h
    have ha := hs a (by simp)
    have h1 := ih (m := m.erase a) h.2 (fun x hx => (List.mem_erase_of_ne (fun (e : x = a) => h.1 (e ▸ hx))).2 (hs x (by simp [hx])))
    rw [List.length_erase_of_mem ha] at h1
    have : 0 < m.length := List.length_pos_of_mem ha
    simp; omega
theorem ItAt.sub {w : World} {r it : Nat} {l : List (ByteArray × Value)} {done : List ByteArray} (h : ItAt Value.string w r it l done) : ∀ x ∈ done, x ∈ l.map (·.1) := by
  obtain ⟨es, clock, seen, ds, hb, he, hborn, hnd, hi, hs, hds, hdn, hk⟩ := h
  intro x hx
  have h1 : Value.string x ∈ ds.map (·.key) := by rw [hk]; exact List.mem_map.2 ⟨x, hx, rfl⟩
  obtain ⟨e, hd, hke⟩ := List.mem_map.1 h1
  have h2 : (e.key, e.val) ∈ l.map (fun p => (Value.string p.1, p.2)) := by rw [← he]; exact List.mem_map.2 ⟨e, hds e hd, rfl⟩
  obtain ⟨p, hp, heq⟩ := List.mem_map.1 h2
  simp only [Prod.mk.injEq] at heq
  have h3 : p.1 = x := by
    have := heq.1.trans hke
    simpa using this
  exact List.mem_map.2 ⟨p, hp, h3⟩
theorem ItAt.keep {κ : Type} [BEq κ] [LawfulBEq κ] {enc : κ → Value} {w w' : World} {r it : Nat} {l : List (κ × Value)} {done : List κ} (h : ItAt enc w r it l done) (h1 : w'.heap[r]? = w.heap[r]?) (h2 : w'.heap[it]? = w.heap[it]?) : ItAt enc w' r it l done := by
  obtain ⟨es, clock, seen, ds, hb, he, hborn, hnd, hi, rest⟩ := h
  exact ⟨es, clock, seen, ds, by rw [h1]; exact hb, he, hborn, hnd, by rw [h2]; exact hi, rest⟩
theorem StrRow.stay {w w' : World} {base : Nat} {v : Value} {l : List ByteArray} {O : Nat → Prop} (h : StrRow w base v l) (hm : Mv O w w') (hO : ∀ g, v.ownBlock = some g → ¬ O g) : StrRow w' base v l := by
  refine ⟨h.1, ?_⟩
  rcases h.2 with h1 | ⟨g, cap, cur, rfl, hb, hg, rest⟩
  · exact .inl h1
  · exact .inr ⟨g, cap, cur, rfl, hb, by rw [hm.block g (lt_of_block hg) (hO g rfl)]; exact hg, rest⟩

theorem encStr_data (x : ByteArray) : encStr x.data.toList = .string x := by simp [encStr]

set_option maxHeartbeats 1000000 in
/-- the sort of names -/
theorem sort_names (base : Nat) (v : Value) (l : List ByteArray) (w : World) (h : StrRow w base v l) (hsz : l.length ≤ 1000000) :
    Calls Tryd.prog 29 #[v] w fun e w' => e = .returned (.tuple #[]) ∧ RowAt 1 (fun x => [encStr x]) w' v ((l.map (·.data.toList)).mergeSort leB) ∧ Mv (fun b => v.ownBlock = some b) w w' := by
  have hlen : ((l.map (·.data.toList)).mergeSort leB).length = l.length := by simp
  rcases h.2 with ⟨rfl, hl⟩ | ⟨g, cap, cur, rfl, hb, hg, hnc, hcm, hcs, htake⟩
  · obtain rfl : l = [] := List.eq_nil_of_length_eq_zero hl
    refine (Tryd.slices_Sort_string_none none 0 w).mono ?_
    rintro e w' ⟨rfl, rfl⟩
    exact ⟨rfl, by simpa using RowAt.nil 1 (fun x => [encStr x]) w', Mv.refl _ _⟩
  · have hH : Go.Sort.Holds encStr w g 0 (l.map (·.data.toList)).toArray := by
      intro j hj
      simp only [List.size_toArray, List.length_map] at hj
      have hcur : cur[j]? = some (.string l[j]) := by
        have h1 : (cur.toList.take (l.length * 1))[j]? = (l.map Value.string)[j]? := by rw [htake]
        rw [List.getElem?_take, if_pos (by omega)] at h1
        simpa [hj] using h1
      refine ⟨?_, by simp [World.frozen?, hg]⟩
      simp only [World.cell?, hg, Option.isSome_none, Bool.false_eq_true, if_false, Nat.zero_add]
      rw [hcur]
      simp [hj, encStr]
    have hcon := Tryd.slices_Sort_string g 0 cap (l.map (·.data.toList)) w hH (lt_of_block hg) (by simp; omega)
    rw [List.length_map] at hcon
    refine hcon.mono ?_
    rintro e w' ⟨rfl, n, os, rfl⟩
    have hH2 := Go.Sort.holds_putRow encStr (Go.Sort.ahead w n) g 0 _ ((l.map (·.data.toList)).mergeSort fun x y => decide (x ≤ y)).toArray hH (by simp)
    have hlt : g < (Go.Sort.putRow encStr (Go.Sort.ahead w n) g 0 ((l.map (·.data.toList)).mergeSort fun x y => decide (x ≤ y)).toArray).heap.size := by
      show g < (w.heap.modify g _).size
      simpa using lt_of_block hg
    have hH3 := Go.Sort.holds_grow encStr _ os g 0 _ hlt hH2
    refine ⟨rfl, ⟨some ⟨g, 0, none⟩, cap, by rw [hlen], by rw [hlen]; exact hnc, by rw [hlen]; omega, fun i x hx => ⟨g, 0, rfl, fun j u hu => ?_⟩⟩, ?_⟩
    · have hi := (List.getElem?_eq_some_iff.1 hx).1
      obtain rfl : j = 0 := by
        have := (List.getElem?_eq_some_iff.1 hu).1
        simpa using this
      simp at hu
      subst hu
      have hc := (hH3 i (by simpa using hi)).1
      simp only [Nat.mul_one, Nat.add_zero]
      rw [hc]
      have hx' : ((l.map (·.data.toList)).mergeSort fun x y => decide (x ≤ y))[i]? = some x := hx
      simp [getElem!_def, hx']
    · refine ⟨rfl, rfl, rfl, ?_, fun b hb hne => ?_⟩
      · show _ ≤ (w.heap.modify g _ ++ os).size
        simp
      · have hbg : g ≠ b := fun e => hne (by simp [Value.ownBlock, e])
        show (w.heap.modify g _ ++ os)[b]? = _
        rw [Array.getElem?_append_left (by simpa using hb), Array.getElem?_modify, if_neg hbg]

/-- what Undefined leaves in its own memory while it works -/
structure UnSt (w w1 wr : World) (box : Obj) (m : List (ByteArray × Value)) : Prop where
  mv : Mv (fun b => b = w.heap.size + 1) w1 wr
  map : MapAt Value.string wr (w.heap.size + 1) m

set_option maxRecDepth 100000 in
set_option maxHeartbeats 8000000 in
theorem undefined_any (o : ObjV) (pv : Value) (procs : List ObjV) (w : World) (ho : ObjAt w o) (hp : ObjsAt w pv procs) (hfew : FewR o.d.refs (procs.map (·.d))) :
    Calls Tryd.prog 17 #[o.val, pv] w fun e w' => ∃ v, e = .returned v ∧ RowAt 1 (fun x => [encStr x]) w' v (undefL o.d.refs (procs.map (·.d))) ∧ Grow w w' := by
  obtain ⟨pa, pcap, rfl, hpcap, hplen⟩ := hp.row.form
  obtain ⟨ra, rcap, hrv, hrcap, hrlen⟩ := ho.refs.form
  have hmm := @run_makeMap Tryd.prog
  have HO := Lib.hid ho
  have HP := Lib.hid hp
  have HF := Lib.hid hfew
  clear ho hp hfew
  obtain ⟨⟨s, ps, ss, cl, st, co, rf⟩, qv, sv, cv, rv⟩ := o
  simp only at hrv hrlen hrcap
  subst hrv
  have hmap0 : MapAt Value.string ((w.alloc (.cells #[.string s, qv, sv, .int .i64 cl, .int .i64 st, cv, .slice ra rf.length rcap] 31)).alloc (.map #[] 0)) (w.heap.size + 1) [] := by
    have := MapAt.new Value.string (w.alloc (.cells #[.string s, qv, sv, .int .i64 cl, .int .i64 st, cv, .slice ra rf.length rcap] 31))
    simpa using this
  have hgw : Mv (fun b => b = w.heap.size + 1) w ((w.alloc (.cells #[.string s, qv, sv, .int .i64 cl, .int .i64 st, cv, .slice ra rf.length rcap] 31)).alloc (.map #[] 0)) := ((Mv.refl _ _).alloc _).alloc _
  have HMAP := Lib.hid hmap0
  have HGW := Lib.hid hgw
  clear hmap0 hgw
  go_enter Tryd.func17, Tryd.ntmps17
  go_wp2_with fail
  have hsz1 : w.heap.size + 1 < ((w.alloc (.cells #[.string s, qv, sv, .int .i64 cl, .int .i64 st, cv, .slice ra rf.length rcap] 31)).alloc (.map #[] 0)).heap.size := by simp
  generalize (w.alloc (.cells #[.string s, qv, sv, .int .i64 cl, .int .i64 st, cv, .slice ra rf.length rcap] 31)).alloc (.map #[] 0) = w1 at *
  -- the references of the main block
  go_loopw [21] (fun t wr => ∃ k : Nat, t = .int .i64 k ∧ k ≤ rf.length ∧ Mv (fun b => b = w.heap.size + 1) w1 wr ∧ MapAt Value.string wr (w.heap.size + 1) (refMap [] rf k)) (fun t _ => rf.length - (intOf t).toNat)
  case atStart => exact ⟨0, rfl, Nat.zero_le _, Mv.refl _ _, HMAP.out⟩
  obtain ⟨k, rfl, hk, hg, hmp⟩ := hrel
  have HG := Lib.hid hg
  have HMP := Lib.hid hmp
  have hgr : Grow w wr := (HGW.out.trans hg (fun x e => .inl e)).mono (fun x e => .inr (by omega))
  by_cases hlt : k < rf.length
  · obtain ⟨b, off, cap', e, _, hcc⟩ := (HO.out.refs.later hgr).at hlt
    simp only [Value.slice.injEq, true_and] at e
    obtain ⟨rfl, rfl⟩ := e
    have c0 := hcc 0 _ rfl
    have c1 := hcc 1 _ rfl
    simp only [Nat.add_zero] at c0
    have hbl : b < wr.heap.size := World.block_lt_of_cell? wr _ c0
    have HS := Lib.hid (refMap_succ [] rf k hlt)
    simp only at c0 c1
    generalize hx : rf[k] = x at *
    obtain ⟨xa, xs⟩ := x
    simp only at c0 c1
    obtain ⟨w2, hup, hmp2, hmv2⟩ := run_set Tryd.strLaw Tryd.underlying82 xs (.bool true) (hmp.keep (w' := wr.alloc (.cells #[.int .i64 xa, .string xs] 66)) (Below.heap_alloc _ _ _ hmp.lt))
    have HMP2 := Lib.hid hmp2
    have HMV2 := Lib.hid hmv2
    clear hcc hx hmp hmp2 hmv2 hg hgr
    go_wp2_with fail
    go_roundw
    case rel => exact ⟨k + 1, by go_num, by omega, (HG.out.alloc _).trans HMV2.out (fun x e => .inl e), by rw [HS.out]; exact HMP2.out⟩
    case measure => simp [intOf]; omega
  obtain rfl : k = rf.length := by omega
  clear hmp hg hgr
  go_wp2_with fail
  obtain ⟨wo, rfl⟩ : ∃ wo : World, wo = wr := ⟨_, rfl⟩
  -- the references of the procedures
  go_loopw [31] (fun t wr => ∃ k : Nat, t = .int .i64 k ∧ k ≤ procs.length ∧ Mv (fun b => b = w.heap.size + 1) w1 wr ∧ MapAt Value.string wr (w.heap.size + 1) (allMap rf (procs.map (·.d)) k)) (fun t _ => procs.length - (intOf t).toNat)
  case atStart => exact ⟨0, rfl, Nat.zero_le _, HG.out, HMP.out⟩
  obtain ⟨k, rfl, hk, hg, hmp⟩ := hrel
  have HG2 := Lib.hid hg
  have HMP2 := Lib.hid hmp
  have hgr : Grow w wr := (HGW.out.trans hg (fun x e => .inl e)).mono (fun x e => .inr (by omega))
  by_cases hlt : k < procs.length
  · obtain ⟨b, off, cap', e, _, hcc⟩ := (HP.out.row.later hgr).at hlt
    simp only [Value.slice.injEq, true_and] at e
    obtain ⟨rfl, rfl⟩ := e
    have c0 := hcc 0 _ rfl
    have c1 := hcc 1 _ rfl
    have c2 := hcc 2 _ rfl
    have c3 := hcc 3 _ rfl
    have c4 := hcc 4 _ rfl
    have c5 := hcc 5 _ rfl
    have c6 := hcc 6 _ rfl
    simp only [Nat.add_zero] at c0
    have hbl : b < wr.heap.size := World.block_lt_of_cell? wr _ c0
    have hxo := HP.out.each procs[k] (List.getElem_mem hlt)
    have HS := Lib.hid (show allMap rf (procs.map (·.d)) (k + 1) = refMap (allMap rf (procs.map (·.d)) k) procs[k].d.refs procs[k].d.refs.length from by
      rw [allMap_succ rf _ k (by simpa using hlt)]; simp)
    generalize hx : procs[k] = x at *
    obtain ⟨⟨xs, xps, xss, xcl, xst, xco, xrf⟩, xqv, xsv, xcv, xrv⟩ := x
    simp only at c0 c1 c2 c3 c4 c5 c6 HS
    obtain ⟨z1, z2, z3, z4, z5, z6, xra, xrcap, ⟨hz1, hz2, hz3, hxrv⟩, -, hxrcap, hxrlen⟩ := hxo.slices
    simp only at hz1 hz2 hz3 hxrv hxrlen hxrcap
    subst hz1 hz2 hz3 hxrv
    have HXR := Lib.hid hxo.refs
    have hmpa := hmp.keep (w' := wr.alloc (.cells #[.string xs, .slice z1 xps.length z2, .slice z3 xss.length z4, .int .i64 xcl, .int .i64 xst, .slice z5 xco.length z6, .slice xra xrf.length xrcap] 31)) (Below.heap_alloc _ _ _ hmp.lt)
    have HMPA := Lib.hid hmpa
    clear hcc hx hmp hg hgr hxo hmpa
    go_wp2_with fail
    clear c0 c1 c2 c3 c4 c5 c6
    obtain ⟨wo2, rfl⟩ : ∃ wo2 : World, wo2 = wr := ⟨_, rfl⟩
    go_loopw [39] (fun t wr => ∃ j : Nat, t = .int .i64 j ∧ j ≤ xrf.length ∧ Mv (fun b => b = w.heap.size + 1) w1 wr ∧ MapAt Value.string wr (w.heap.size + 1) (refMap (allMap rf (procs.map (·.d)) k) xrf j)) (fun t _ => xrf.length - (intOf t).toNat)
    case atStart => exact ⟨0, rfl, Nat.zero_le _, HG2.out.alloc _, HMPA.out⟩
    obtain ⟨j, rfl, hj, hg3, hmp3⟩ := hrel
    have HG3 := Lib.hid hg3
    have HMP3 := Lib.hid hmp3
    have hgr3 : Grow w wr := (HGW.out.trans hg3 (fun x e => .inl e)).mono (fun x e => .inr (by omega))
    by_cases hjl : j < xrf.length
    · obtain ⟨b2, off2, cap2, e, _, hcc⟩ := (HXR.out.later hgr3).at hjl
      simp only [Value.slice.injEq, true_and] at e
      obtain ⟨rfl, rfl⟩ := e
      have d0 := hcc 0 _ rfl
      have d1 := hcc 1 _ rfl
      simp only [Nat.add_zero] at d0
      have hbl2 : b2 < wr.heap.size := World.block_lt_of_cell? wr _ d0
      have HS3 := Lib.hid (refMap_succ (allMap rf (procs.map (·.d)) k) xrf j hjl)
      generalize hx : xrf[j] = x at *
      obtain ⟨ya, ys⟩ := x
      simp only at d0 d1
      obtain ⟨w2, hup, hmp4, hmv4⟩ := run_set Tryd.strLaw Tryd.underlying82 ys (.bool true) (hmp3.keep (w' := wr.alloc (.cells #[.int .i64 ya, .string ys] 66)) (Below.heap_alloc _ _ _ hmp3.lt))
      have HMP4 := Lib.hid hmp4
      have HMV4 := Lib.hid hmv4
      clear hcc hx hmp3 hmp4 hmv4 hg3 hgr3
      go_wp2_with fail
      go_roundw
      case rel => exact ⟨j + 1, by go_num, by omega, (HG3.out.alloc _).trans HMV4.out (fun x e => .inl e), by rw [HS3.out]; exact HMP4.out⟩
      case measure => simp [intOf]; omega
    obtain rfl : j = xrf.length := by omega
    clear hmp3 hg3 hgr3
    go_wp2_with fail
    go_roundw
    case rel => exact ⟨k + 1, by go_num, by omega, HG3.out, by rw [HS.out]; exact HMP3.out⟩
    case measure => simp [intOf]; omega
  obtain rfl : k = procs.length := by omega
  clear hmp hg hgr
  go_wp2_with fail
  obtain ⟨wo2, rfl⟩ : ∃ wo2 : World, wo2 = wr := ⟨_, rfl⟩
  -- the given names are struck
  go_loopw [50] (fun t wr => ∃ k : Nat, t = .int .i64 k ∧ k ≤ procs.length ∧ Mv (fun b => b = w.heap.size + 1) w1 wr ∧ MapAt Value.string wr (w.heap.size + 1) (delMap (allMap rf (procs.map (·.d)) procs.length) (procs.map (·.d)) k)) (fun t _ => procs.length - (intOf t).toNat)
  case atStart => exact ⟨0, rfl, Nat.zero_le _, HG2.out, HMP2.out⟩
  obtain ⟨k, rfl, hk, hg, hmp⟩ := hrel
  have HG4 := Lib.hid hg
  have HMP4 := Lib.hid hmp
  have hgr : Grow w wr := (HGW.out.trans hg (fun x e => .inl e)).mono (fun x e => .inr (by omega))
  by_cases hlt : k < procs.length
  · obtain ⟨b, off, cap', e, _, hcc⟩ := (HP.out.row.later hgr).at hlt
    simp only [Value.slice.injEq, true_and] at e
    obtain ⟨rfl, rfl⟩ := e
    have c0 := hcc 0 _ rfl
    have c1 := hcc 1 _ rfl
    have c2 := hcc 2 _ rfl
    have c3 := hcc 3 _ rfl
    have c4 := hcc 4 _ rfl
    have c5 := hcc 5 _ rfl
    have c6 := hcc 6 _ rfl
    simp only [Nat.add_zero] at c0
    have hbl : b < wr.heap.size := World.block_lt_of_cell? wr _ c0
    have hxo := HP.out.each procs[k] (List.getElem_mem hlt)
    have HS := Lib.hid (show delMap (allMap rf (procs.map (·.d)) procs.length) (procs.map (·.d)) (k + 1) = mdel procs[k].d.name (delMap (allMap rf (procs.map (·.d)) procs.length) (procs.map (·.d)) k) from by
      rw [delMap_succ _ _ k (by simpa using hlt)]; simp)
    generalize hx : procs[k] = x at *
    obtain ⟨⟨xs, xps, xss, xcl, xst, xco, xrf⟩, xqv, xsv, xcv, xrv⟩ := x
    simp only at c0 c1 c2 c3 c4 c5 c6 HS
    obtain ⟨z1, z2, z3, z4, z5, z6, xra, xrcap, ⟨hz1, hz2, hz3, hxrv⟩, -, hxrcap, hxrlen⟩ := hxo.slices
    simp only at hz1 hz2 hz3 hxrv hxrlen hxrcap
    subst hz1 hz2 hz3 hxrv
    have hmpa := hmp.keep (w' := wr.alloc (.cells #[.string xs, .slice z1 xps.length z2, .slice z3 xss.length z4, .int .i64 xcl, .int .i64 xst, .slice z5 xco.length z6, .slice xra xrf.length xrcap] 31)) (Below.heap_alloc _ _ _ hmp.lt)
    clear hcc hx hmp hg hgr hxo
    go_wp2_with (refine wpList_del Tryd.strLaw Tryd.underlying82 (w.heap.size + 1) _ xs hmpa _ _ rfl rfl rfl rfl ?_)
    intro w2 hmp5 hmv5
    have HMP5 := Lib.hid hmp5
    have HMV5 := Lib.hid hmv5
    clear hmp5 hmv5 hmpa
    go_wp2_with fail
    go_roundw
    case rel => exact ⟨k + 1, by go_num, by omega, (HG4.out.alloc _).trans HMV5.out (fun x e => .inl e), by rw [HS.out]; exact HMP5.out⟩
    case measure => simp [intOf]; omega
  obtain rfl : k = procs.length := by omega
  obtain ⟨w5, hrange, hit, hmv5, hsz5⟩ := run_rangeAt (P := Tryd.prog) Tryd.underlying82 hmp
  have HIT := Lib.hid hit
  have HMV5 := Lib.hid hmv5
  have HG5 := Lib.hid (show Grow w w5 from Mv.trans ((HGW.out.trans HG4.out (fun x e => .inl e)).mono (fun x e => .inr (by omega))) hmv5 (fun _ e => e.elim))
  have hszr := hg.size
  have hmk := missing_keys rf (procs.map (·.d)) HF.out
  have HMI := Lib.hid (show delMap (allMap rf (procs.map (·.d)) procs.length) (procs.map (·.d)) procs.length = missing rf (procs.map (·.d)) from by unfold missing; simp)
  rw [HMI.out] at HIT
  have HKN := Lib.hid hmk.1
  have hml := hmk.2
  have HUL := Lib.hid (show undefL rf (procs.map (·.d)) = ((missing rf (procs.map (·.d))).map fun p => p.1.data.toList).mergeSort leB from rfl)
  generalize missing rf (procs.map (·.d)) = ml at *
  clear hmp hg hgr hit hmv5 hmk
  go_wp2_with fail
  obtain ⟨wo3, rfl⟩ : ∃ wo3 : World, wo3 = wr := ⟨_, rfl⟩
  go_loopw [14] (fun nv wr => ∃ done : List ByteArray, ItAt Value.string wr (w.heap.size + 1) wo3.heap.size ml done ∧ StrRow wr w5.heap.size nv done ∧ Grow w wr ∧ Mv (fun b => b = wo3.heap.size) w5 wr) (fun nv _ => 2000 - lenOf nv)
  case atStart => exact ⟨[], HIT.out, World.ownsRow_nil _ _ _ _, HG5.out, Mv.refl _ _⟩
  obtain ⟨done, hit, hrow, hgr, hmv⟩ := hrel
  have hdl : done.length ≤ 1360 := by
    have hn := hit.nodup (by rw [show (ml.map fun p => Value.string p.1) = (ml.map (·.1)).map Value.string by simp [List.map_map, Function.comp_def]]; exact nodup_map_str HKN.out)
    exact Nat.le_trans (len_sub (nodup_of_map hn) (fun x hx => hit.sub x hx)) (by simpa using hml)
  obtain ⟨na, nc, hnv⟩ := hrow.slice
  subst hnv
  rcases run_nextAt (P := Tryd.prog) 0 hit (by omega) with ⟨hrun, hall⟩ | ⟨k, x, w6, hrun, hent, hit6, hmv6, hkm⟩
  · have hrun' : ∀ ty, (Instr.next (.pointer (some ⟨wo3.heap.size, 0, none⟩)) false ty).run Tryd.prog wr = .ok (.tuple #[.bool false]) wr := fun _ => hrun
    have hperm : (done.map (·.data.toList)).Perm (ml.map fun p => p.1.data.toList) := by
      have hn := nodup_of_map (hit.nodup (by rw [show (ml.map fun p => Value.string p.1) = (ml.map (·.1)).map Value.string by simp [List.map_map, Function.comp_def]]; exact nodup_map_str HKN.out))
      have h1 : done.Perm (ml.map (·.1)) := (List.perm_ext_iff_of_nodup hn HKN.out).2 fun x => ⟨fun hx => hit.sub x hx, fun hx => by
        obtain ⟨p, hp, rfl⟩ := List.mem_map.1 hx
        obtain ⟨y, hy, e⟩ := List.mem_map.1 (hall p hp)
        simp only [Value.string.injEq] at e
        exact e ▸ hy⟩
      have h2 := h1.map (fun x : ByteArray => x.data.toList)
      simpa [List.map_map, Function.comp_def] using h2
    have HSORT := Lib.hid (sort_names w5.heap.size _ done wr hrow (by omega))
    have HEQ := Lib.hid (show (done.map (·.data.toList)).mergeSort leB = undefL rf (procs.map (·.d)) from by rw [HUL.out]; exact mergeSort_of_perm hperm)
    have HGR := Lib.hid hgr
    have HRW := Lib.hid (fun x => (hrow.lt x))
    clear hrun hall hperm hit hrow hgr hmv
    go_wp2_with fail
    refine HSORT.out.mono ?_
    rintro e w8 ⟨rfl, hrow8, hmv8⟩
    have HROW8 := Lib.hid hrow8
    have HGR8 := Lib.hid (show Grow w w8 from HGR.out.trans hmv8 (fun x e => .inr (by have := (HRW.out x e).1; have := HG5.out.size; omega)))
    clear hrow8 hmv8
    go_wp2_with fail
    go_ret
    exact ⟨_, rfl, by rw [← HEQ.out]; exact HROW8.out, HGR8.out⟩
  · have hrun' : ∀ ty, (Instr.next (.pointer (some ⟨wo3.heap.size, 0, none⟩)) false ty).run Tryd.prog wr = .ok (.tuple #[.bool true, .string k, x]) w6 := fun _ => hrun
    have hs6 := hmv6.size
    have hsz5b := hmv.size
    have hrow6 : StrRow w6 w5.heap.size (.slice na done.length nc) done := StrRow.stay hrow hmv6 (fun g hg e => by have := (hrow.lt g hg).1; omega)
    obtain ⟨a', c', w7, ⟨hok, hv, hw⟩, hrow7, hmv7, hnew7⟩ := app_str _ k done _ w6 hrow6 (by omega) (by omega)
    have HREL := Lib.hid (show ItAt Value.string w7 (w.heap.size + 1) wo3.heap.size ml (done ++ [k]) ∧ StrRow w7 w5.heap.size (.slice a' (done.length + 1) c') (done ++ [k]) ∧ Grow w w7 ∧ Mv (fun b => b = wo3.heap.size) w5 w7 from by
      have hne : ∀ b, b < w5.heap.size → Value.ownBlock (.slice na done.length nc) ≠ some b := fun b hb e => by have := (hrow6.lt b e).1; omega
      refine ⟨hit6.keep (hmv7.block _ (by omega) (hne _ (by omega))) (hmv7.block _ (by omega) (hne _ (by omega))), by simpa using hrow7, ?_, ?_⟩
      · exact (Mv.trans (hgr.mono (O1 := fun b => w.heap.size ≤ b) (fun _ e => e.elim)) hmv6 (fun x e => .inl (by omega))).trans hmv7 (fun x e => .inl (by have := (hrow6.lt x e).1; have := HG5.out.size; omega)) |>.mono (fun x e => .inr e)
      · exact (hmv.trans hmv6 (fun x e => .inl e)).trans hmv7 (fun x e => .inr (hrow6.lt x e).1))
    clear hrun hit6 hmv6 hkm hrow6 hrow7 hmv7 hnew7 hit hrow hgr hmv
    go_wp2_with fail
    go_roundw
    case rel => exact ⟨done ++ [k], HREL.out⟩
    case measure => simp [lenOf]; omega

end Go.Proofs.YtaabkaiifplhgaaDoor
