/- LinkerNames: the walk. -/
import Derived.Test.YtaabkaiifplhgaaDoorLRefR
import Derived.Test.YtaabkaiifplhgaaDoorLRef4
namespace Go.Proofs.YtaabkaiifplhgaaDoor
set_option linter.unusedSimpArgs false
set_option linter.unusedVariables false
open Go.RowKit Go.Instr

attribute [local go_sem ↓] run_appOp

/-- what is known of the values of the two drawn regions -/
def YNm (MA PV : Value) (d : ObjD) (D : List ObjD) (A B : Value → World → Prop) : Nat → List Value → World → Prop
  | 0, [v], _ => v = MA
  | 1, [v], _ => v = PV
  | 2, [v], x => A v x
  | 3, [v], _ => v = MA
  | 4, [v], x => ∃ r : RObjV, v = r.val ∧ r.d = d ∧ RObjAt x r
  | 5, [v], _ => v = PV
  | 6, [v], x => ∃ rs : List RObjV, rs.map RObjV.d = D ∧ RObjsAt x v rs
  | 7, [v], x => B v x
  | 8, [v], x => A v x
  | 9, [v], x => B v x
  | _, _, _ => True
theorem YNm.grow {MA PV : Value} {d : ObjD} {D : List ObjD} {A B : Value → World → Prop} (hA : ∀ v x y, Grow x y → A v x → A v y) (hB : ∀ v x y, Grow x y → B v x → B v y) {x y : World} (h : Grow x y) : ∀ j l, YNm MA PV d D A B j l x → YNm MA PV d D A B j l y := by
  intro j l
  unfold YNm
  split
  · exact id
  · exact id
  · exact hA _ _ _ h
  · exact id
  · rintro ⟨r, h1, h2, h3⟩; exact ⟨r, h1, h2, h3.later h⟩
  · exact id
  · rintro ⟨r, h1, h2⟩; exact ⟨r, h1, h2.later h⟩
  · exact hB _ _ _ h
  · exact hA _ _ _ h
  · exact hB _ _ _ h
  · exact id
theorem reachL_get (main : ObjD) (procs : List ObjD) (k : Nat) (hk : k < (reachIx main procs).length) : (reachIx main procs)[k] < procs.length ∧ (reachL main procs)[k]? = procs[(reachIx main procs)[k]]? := by
  have key : ∀ (l : List Nat), (∀ i ∈ l, i < procs.length) → ∀ k (hk : k < l.length), (l.filterMap (procs[·]?))[k]? = procs[l[k]]? := by
    intro l
    induction l with
    | nil => intro _ k hk; simp at hk
    | cons a l ih =>
      intro h k hk
      have ha := h a (by simp)
      rw [List.filterMap_cons_some (List.getElem?_eq_getElem ha)]
      cases k with
      | zero => simp [List.getElem?_eq_getElem ha]
      | succ k => simpa using ih (fun i hi => h i (by simp [hi])) k (by simpa using hk)
  exact ⟨reachTo_lt (List.getElem_mem hk), key _ (fun i hi => reachTo_lt hi) k hk⟩

set_option maxRecDepth 100000 in
set_option maxHeartbeats 8000000 in
theorem names_walk (o : ObjV) (pv : Value) (procs : List ObjV) (w : World) (ht : TabOk w) (ho : ObjAt w o) (hp : ObjsAt w pv procs) (hsm : ∀ x ∈ procs, ObjSm x.d) :
    Calls Tryd.prog 7 #[o.val, pv] w fun e w' => e = .returned (.bool true) ∧ Grow w w' := by
  have HSM := Lib.hid hsm
  clear hsm
  obtain ⟨pa, pcap, rfl, hpcap, hplen⟩ := hp.row.form
  obtain ⟨y1, y2, y3, y4, y5, y6, y7, y8, ⟨hy1, hy2, hy3, hy4⟩, ⟨hccap, hclen⟩, -, -⟩ := ho.slices
  have HO := Lib.hid ho
  have HP := Lib.hid hp
  have HT := Lib.hid ht
  clear ho hp ht
  obtain ⟨d', qv, sv, cv, rv⟩ := o
  simp only at hy1 hy2 hy3 hy4 hccap hclen
  subst hy1 hy2 hy3 hy4
  have hg0 : Grow w (w.alloc (.cells #[.string d'.name, .slice y1 d'.params.length y2, .slice y3 d'.slots.length y4, .int .i64 d'.cells, .int .i64 d'.stacks, .slice y5 d'.code.length y6, .slice y7 d'.refs.length y8] 31)) := (Mv.refl _ _).alloc _
  have hb0 := heap_alloc_new w (.cells #[.string d'.name, .slice y1 d'.params.length y2, .slice y3 d'.slots.length y4, .int .i64 d'.cells, .int .i64 d'.stacks, .slice y5 d'.code.length y6, .slice y7 d'.refs.length y8] 31)
  have HG0 := Lib.hid hg0
  have HB0 := Lib.hid hb0
  clear hg0 hb0
  go_enter Tryd.func7, Tryd.ntmps7
  go_wp2_with fail
  refine (awake_any _ (HT.out.later HG0.out)).mono ?_
  rintro e w1 ⟨rfl, hg1⟩
  have hb1 : w1.heap[w.heap.size]? = some (.cells #[.string d'.name, .slice y1 d'.params.length y2, .slice y3 d'.slots.length y4, .int .i64 d'.cells, .int .i64 d'.stacks, .slice y5 d'.code.length y6, .slice y7 d'.refs.length y8] 31 (0, 0)) := by
    rw [hg1.block _ (by simp) (fun h => h)]; exact HB0.out
  have HG1 := Lib.hid (Mv.trans HG0.out hg1 (fun _ e => e.elim))
  have HB1 := Lib.hid hb1
  obtain ⟨⟨o0, o1, o2, o3⟩, o4, o5, o6⟩ := obj_cells hb1
  have hl1 := lt_of_block hb1
  clear hg1 hb1 HG0 HB0
  go_wp2_with fail
  refine (few_any ⟨d', .slice y1 d'.params.length y2, .slice y3 d'.slots.length y4, .slice y5 d'.code.length y6, .slice y7 d'.refs.length y8⟩ _ procs _ (HO.out.later HG1.out) (HP.out.later HG1.out)).mono ?_
  rintro e w2 ⟨rfl, hg2⟩
  clear o0 o1 o2 o3 o4 o5 o6
  cases hfb : fewB d' (procs.map (·.d)) with
  | false =>
    have HG2 := Lib.hid (Mv.trans HG1.out hg2 (fun _ e => e.elim))
    simp only [hfb, oneB, Bool.false_eq_true, if_false]
    clear hg2
    go_wp2_with fail
    go_ret
    exact ⟨rfl, HG2.out⟩
  | true =>
  have HFB := Lib.hid hfb
  simp only [hfb, oneB, if_true]
  have hb2 : w2.heap[w.heap.size]? = some (.cells #[.string d'.name, .slice y1 d'.params.length y2, .slice y3 d'.slots.length y4, .int .i64 d'.cells, .int .i64 d'.stacks, .slice y5 d'.code.length y6, .slice y7 d'.refs.length y8] 31 (0, 0)) := by
    rw [hg2.block _ hl1 (fun h => h)]; exact HB1.out
  have HG2 := Lib.hid (Mv.trans HG1.out hg2 (fun _ e => e.elim))
  have HB2 := Lib.hid hb2
  have hl2 := lt_of_block hb2
  have h8 := (few_split HFB.out).1
  rw [List.length_map] at h8
  have hm80 := (few_split HFB.out).2.1.1
  clear hg2 hb2 HG1 HB1 hl1 hfb
  obtain ⟨⟨o0, o1, o2, o3⟩, o4, o5, o6⟩ := obj_cells HB2.out
  go_wp2_with fail
  have HGR0 := HG2
  have HBR0 := HB2
  have hmr80 := (few_split HFB.out).2.1.2
  have HPR := Lib.hid (show ∀ o ∈ procs, o.d.refs.length ≤ 100000 from fun o ho => Nat.le_trans ((few_split HFB.out).2.2 _ (List.mem_map.2 ⟨o, ho, rfl⟩)).2 (by omega))
  clear o0 o1 o2 o3 o4 o5 o6
  have HGX := Lib.hid (fun (x : World) (hx : Grow w2.drew x) => (show Grow w x from Mv.trans (Mv.drew HGR0.out) hx (fun _ e => e.elim)))
  have HBX := Lib.hid (fun (x : World) (hx : Grow w2.drew x) => (show x.heap[w.heap.size]? = some (.cells #[.string d'.name, .slice y1 d'.params.length y2, .slice y3 d'.slots.length y4, .int .i64 d'.cells, .int .i64 d'.stacks, .slice y5 d'.code.length y6, .slice y7 d'.refs.length y8] 31 (0, 0)) from keep_at (show (w2.drew).heap[w.heap.size]? = _ from HBR0.out) hx))
  have hA := fun v x y (h : Grow x y) => (show (fun v x => RowAt 1 (fun x => [encStr x]) x v (undefL d'.refs (procs.map (·.d)))) v x → (fun v x => RowAt 1 (fun x => [encStr x]) x v (undefL d'.refs (procs.map (·.d)))) v y from fun h1 => h1.later h)
  have hB := fun v x y (h : Grow x y) => (show (fun v x => RowAt 1 strC x v (undTo (procs.map (·.d)) (d' :: (procs.map (·.d))) (procs.length + 1))) v x → (fun v x => RowAt 1 strC x v (undTo (procs.map (·.d)) (d' :: (procs.map (·.d))) (procs.length + 1))) v y from fun h1 => h1.later h)
  have HYG := Lib.hid (fun (x y : World) (h : Grow x y) => YNm.grow (MA := (.agg #[.string d'.name, .slice y1 d'.params.length y2, .slice y3 d'.slots.length y4, .int .i64 d'.cells, .int .i64 d'.stacks, .slice y5 d'.code.length y6, .slice y7 d'.refs.length y8])) (PV := (.slice pa procs.length pcap)) (d := d') (D := (procs.map (·.d))) (A := fun v x => RowAt 1 (fun x => [encStr x]) x v (undefL d'.refs (procs.map (·.d)))) (B := fun v x => RowAt 1 strC x v (undTo (procs.map (·.d)) (d' :: (procs.map (·.d))) (procs.length + 1))) hA hB h)
  clear hA hB
  refine wp_region_steps (by kernel_rfl) 132 [some 18, some 19, some 20, some 21, some 22, some 23, some 24, some 25, some 5, some 6] [[], [], [0, 1], [], [3, 2], [], [5, 4], [4, 6, 6], [2, 7, 0, 1, 2], [7, 8, 0, 1, 2, 3, 4, 5, 6, 7, 8]] [[], [], [0, 1], [], [3], [], [5], [4, 6], [2], [7]] [[0], [1], [2], [3], [4], [5], [6], [7], [8], [9]] [[], [], [], [], [], [], [], [], [], []] rfl (by kernel_rfl) (Mv (fun _ => False)) (fun _ => Mv.refl _ _) (fun x y z h1 h2 => Mv.trans h1 h2 (fun _ e => e.elim)) (YNm (.agg #[.string d'.name, .slice y1 d'.params.length y2, .slice y3 d'.slots.length y4, .int .i64 d'.cells, .int .i64 d'.stacks, .slice y5 d'.code.length y6, .slice y7 d'.refs.length y8]) (.slice pa procs.length pcap) d' (procs.map (·.d)) (fun v x => RowAt 1 (fun x => [encStr x]) x v (undefL d'.refs (procs.map (·.d)))) (fun v x => RowAt 1 strC x v (undTo (procs.map (·.d)) (d' :: (procs.map (·.d))) (procs.length + 1)))) ?steps ?done
  case steps =>
    refine ⟨?s0, ?s1, ?s2, ?s3, ?s4, ?s5, ?s6, ?s7, ?s8, ?s9, trivial⟩
    case s0 =>
      intro vs x hx hY
      obtain ⟨⟨o0, o1, o2, o3⟩, o4, o5, o6⟩ := obj_cells (HBX.out x hx)
      clear hY
      unfold Gives
      simp only [actL, Act.put, List.getD_cons_zero, List.getD_cons_succ, List.setIfInBounds_toArray, List.set_cons_zero, List.set_cons_succ]
      go_simp
      exact ⟨Mv.refl _ _, rfl, fun _ _ _ _ h => h⟩
    case s1 =>
      intro vs x hx hY
      clear hY
      unfold Gives
      simp only [actL, Act.put, List.getD_cons_zero, List.getD_cons_succ, List.setIfInBounds_toArray, List.set_cons_zero, List.set_cons_succ]
      go_simp
      exact ⟨Mv.refl _ _, rfl, fun _ _ _ _ h => h⟩
    case s2 =>
      intro vs x hx hY
      have h0 : vs 0 = (.agg #[.string d'.name, .slice y1 d'.params.length y2, .slice y3 d'.slots.length y4, .int .i64 d'.cells, .int .i64 d'.stacks, .slice y5 d'.code.length y6, .slice y7 d'.refs.length y8]) := hY 0 (by simp) (by simp)
      have h1 : vs 1 = (.slice pa procs.length pcap) := hY 1 (by simp) (by simp)
      have HC := Lib.hid (undefined_any ⟨d', .slice y1 d'.params.length y2, .slice y3 d'.slots.length y4, .slice y5 d'.code.length y6, .slice y7 d'.refs.length y8⟩ _ procs x (HO.out.later (HGX.out x hx)) (HP.out.later (HGX.out x hx)) (few_self HFB.out).refs)
      clear hY
      unfold Gives
      simp only [actL, Act.put, List.getD_cons_zero, List.getD_cons_succ, List.setIfInBounds_toArray, List.set_cons_zero, List.set_cons_succ, h0, h1]
      go_simp
      refine HC.out.mono ?_
      rintro e y ⟨v, rfl, hv, hgr⟩
      exact ⟨v, rfl, hgr, hv, fun j l _ _ h => HYG.out _ _ hgr j l h⟩
    case s3 =>
      intro vs x hx hY
      obtain ⟨⟨o0, o1, o2, o3⟩, o4, o5, o6⟩ := obj_cells (HBX.out x hx)
      clear hY
      unfold Gives
      simp only [actL, Act.put, List.getD_cons_zero, List.getD_cons_succ, List.setIfInBounds_toArray, List.set_cons_zero, List.set_cons_succ]
      go_simp
      exact ⟨Mv.refl _ _, rfl, fun _ _ _ _ h => h⟩
    case s4 =>
      intro vs x hx hY
      have h3 : vs 3 = (.agg #[.string d'.name, .slice y1 d'.params.length y2, .slice y3 d'.slots.length y4, .int .i64 d'.cells, .int .i64 d'.stacks, .slice y5 d'.code.length y6, .slice y7 d'.refs.length y8]) := hY 3 (by simp) (by simp)
      have HC := Lib.hid (plain_any ⟨d', .slice y1 d'.params.length y2, .slice y3 d'.slots.length y4, .slice y5 d'.code.length y6, .slice y7 d'.refs.length y8⟩ x (HO.out.later (HGX.out x hx)) (by simp only; omega))
      have hoc := (HO.out.later (HGX.out x hx)).code
      clear hY
      unfold Gives
      simp only [actL, Act.put, List.getD_cons_zero, List.getD_cons_succ, List.setIfInBounds_toArray, List.set_cons_zero, List.set_cons_succ, h3]
      go_simp
      refine HC.out.mono ?_
      rintro e y ⟨r, ⟨rfl, hrd, hrc⟩, hrr, -, hgr⟩
      exact ⟨_, rfl, hgr, ⟨r, rfl, hrd, ⟨by rw [hrc, hrd]; exact hoc.later hgr, hrr⟩⟩, fun j l _ _ h => HYG.out _ _ hgr j l h⟩
    case s5 =>
      intro vs x hx hY
      clear hY
      unfold Gives
      simp only [actL, Act.put, List.getD_cons_zero, List.getD_cons_succ, List.setIfInBounds_toArray, List.set_cons_zero, List.set_cons_succ]
      go_simp
      exact ⟨Mv.refl _ _, rfl, fun _ _ _ _ h => h⟩
    case s6 =>
      intro vs x hx hY
      have h5 : vs 5 = (.slice pa procs.length pcap) := hY 5 (by simp) (by simp)
      have HC := Lib.hid (plains_any _ procs x (HP.out.later (HGX.out x hx)) (by omega) HPR.out)
      clear hY
      unfold Gives
      simp only [actL, Act.put, List.getD_cons_zero, List.getD_cons_succ, List.setIfInBounds_toArray, List.set_cons_zero, List.set_cons_succ, h5]
      go_simp
      refine HC.out.mono ?_
      rintro e y ⟨v, rs, rfl, hrs, hro, hgr⟩
      exact ⟨_, rfl, hgr, ⟨rs, hrs, hro⟩, fun j l _ _ h => HYG.out _ _ hgr j l h⟩
    case s7 =>
      intro vs x hx hY
      obtain ⟨r, (h4 : vs 4 = _), hrd, hra⟩ := hY 4 (by simp) (by simp)
      obtain ⟨rs, hrs, hro⟩ := hY 6 (by simp) (by simp)
      obtain ⟨va, vc, hvf, -, -⟩ := hro.row.form
      have hvf : vs 6 = .slice va rs.length vc := hvf
      have hrl : rs.length = procs.length := by simpa using congrArg List.length hrs
      have hc := rundef_any r (vs 6) rs x hra hro (by omega) (by rw [hrd]; omega) (fun z hz => by
        have h1 : z.d ∈ (procs.map (·.d)) := by rw [← hrs]; exact List.mem_map.2 ⟨z, hz, rfl⟩
        exact ((few_split HFB.out).2.2 _ h1).2)
      rw [show rs.map (·.d) = (procs.map (·.d)) from hrs, hrd, hrl, hvf] at hc
      rw [hrl] at hvf
      rw [hrl] at hc
      have HC := Lib.hid hc
      clear hY hc hrs hro hrd hra hrl
      unfold Gives
      simp only [actL, Act.put, List.getD_cons_zero, List.getD_cons_succ, List.setIfInBounds_toArray, List.set_cons_zero, List.set_cons_succ, h4, hvf]
      go_simp
      refine HC.out.mono ?_
      rintro e y ⟨v, rfl, hv, hgr⟩
      exact ⟨v, rfl, hgr, hv, fun j l _ _ h => HYG.out _ _ hgr j l h⟩
    case s8 =>
      intro vs x hx hY
      have h2 : (fun v x => RowAt 1 (fun x => [encStr x]) x v (undefL d'.refs (procs.map (·.d)))) (vs 2) x := hY 2 (by simp) (by simp)
      have H2 := Lib.hid h2
      clear hY h2
      unfold Gives
      simp only [actL, Act.put, List.getD_cons_zero, List.getD_cons_succ, List.setIfInBounds_toArray, List.set_cons_zero, List.set_cons_succ]
      go_simp
      exact ⟨Mv.refl _ _, H2.out, fun _ _ _ _ h => h⟩
    case s9 =>
      intro vs x hx hY
      have h7 : (fun v x => RowAt 1 strC x v (undTo (procs.map (·.d)) (d' :: (procs.map (·.d))) (procs.length + 1))) (vs 7) x := hY 7 (by simp) (by simp)
      have H7 := Lib.hid h7
      clear hY h7
      unfold Gives
      simp only [actL, Act.put, List.getD_cons_zero, List.getD_cons_succ, List.setIfInBounds_toArray, List.set_cons_zero, List.set_cons_succ]
      go_simp
      exact ⟨Mv.refl _ _, H7.out, fun _ _ _ _ h => h⟩
  case done =>
  intro vs wx hx hY
  have h8 : (fun v x => RowAt 1 (fun x => [encStr x]) x v (undefL d'.refs (procs.map (·.d)))) (vs 8) wx := hY 8 (by decide) rfl
  have h9 : (fun v x => RowAt 1 strC x v (undTo (procs.map (·.d)) (d' :: (procs.map (·.d))) (procs.length + 1))) (vs 9) wx := hY 9 (by decide) rfl
  have HGX2 := Lib.hid (HGX.out wx hx)
  have HBX2 := Lib.hid (HBX.out wx hx)
  clear hY HGX HBX HYG hx
  simp only [List.length_cons, List.length_nil, Nat.zero_add, Nat.reduceAdd]
  rw [show List.range 10 = [0, 1, 2, 3, 4, 5, 6, 7, 8, 9] from rfl]
  simp only [actL, Act.put, List.getD_cons_zero, List.getD_cons_succ, List.setIfInBounds_toArray, List.set_cons_zero, List.set_cons_succ]
  generalize vs 0 = t0 at *
  generalize vs 1 = t1 at *
  generalize vs 2 = t2 at *
  generalize vs 3 = t3 at *
  generalize vs 4 = t4 at *
  generalize vs 5 = t5 at *
  generalize vs 6 = t6 at *
  generalize vs 7 = t7 at *
  generalize hv8 : vs 8 = t8 at *
  generalize hv9 : vs 9 = t9 at *
  clear hv8 hv9 vs
  have HUE := und_eq d' (procs.map (·.d))
  rw [show (d' :: (procs.map (·.d))).length = procs.length + 1 by simp] at HUE
  simp only at h8 h9
  generalize undTo (procs.map (·.d)) (d' :: (procs.map (·.d))) (procs.length + 1) = U at *
  rw [← HUE] at h8
  clear HUE
  obtain ⟨ua, uc, rfl, hucap, hulen⟩ := h8.form
  obtain ⟨va, vc, rfl, hvcap, hvlen⟩ := h9.form
  have H8 := Lib.hid h8
  have H9 := Lib.hid h9
  rw [List.length_map] at hucap hulen ⊢
  clear h8 h9 HGR0 HBR0
  go_wp2_with fail
  go_loopw [7] (fun t wr => ∃ k : Nat, t = .int .i64 k ∧ k ≤ U.length ∧ Grow wx wr) (fun t _ => U.length - (intOf t).toNat)
  case atStart => exact ⟨0, rfl, Nat.zero_le _, Mv.refl _ _⟩
  obtain ⟨k, rfl, hk, hgr⟩ := hrel
  have HGR := Lib.hid hgr
  clear hgr
  by_cases hlt : k < U.length
  · have hlt2 : k < (U.map (·.data.toList)).length := by simpa using hlt
    obtain ⟨b, off, cap', e, _, hcc⟩ := (H8.out.later HGR.out).at hlt2
    rw [List.length_map] at e
    simp only [Value.slice.injEq, true_and] at e
    obtain ⟨rfl, rfl⟩ := e
    obtain ⟨b2, off2, cap2, e, _, hcc2⟩ := (H9.out.later HGR.out).at hlt
    simp only [Value.slice.injEq, true_and] at e
    obtain ⟨rfl, rfl⟩ := e
    have p0 := hcc 0 _ rfl
    have q0 := hcc2 0 _ rfl
    simp only [Nat.add_zero, Nat.mul_one, List.getElem_map, encStr_data] at p0 q0
    have hbl : b < wr.heap.size := World.block_lt_of_cell? wr _ p0
    have hbl2 : b2 < wr.heap.size := World.block_lt_of_cell? wr _ q0
    generalize U[k] = nm at *
    clear hcc hcc2 hlt2
    go_wp2_with fail
    go_region
    go_wp2_with fail
    go_roundw
    case rel => exact ⟨k + 1, by go_num, by omega, HGR.out.drew⟩
    case measure => simp [intOf]; omega
  obtain rfl : k = U.length := by omega
  have HGR0 := Lib.hid (Mv.trans HGX2.out HGR.out (fun _ e => e.elim))
  have HBR0 := Lib.hid (keep_at HBX2.out HGR.out)
  clear H8 H9 HGR HGX2 HBX2
  obtain ⟨w3, rfl⟩ : ∃ w3 : World, w3 = wr := ⟨_, rfl⟩
  go_wp2_with fail
  have HGX := Lib.hid (fun (x : World) (hx : Grow w3.drew x) => (show Grow w x from Mv.trans (Mv.drew HGR0.out) hx (fun _ e => e.elim)))
  have HBX := Lib.hid (fun (x : World) (hx : Grow w3.drew x) => (show x.heap[w.heap.size]? = some (.cells #[.string d'.name, .slice y1 d'.params.length y2, .slice y3 d'.slots.length y4, .int .i64 d'.cells, .int .i64 d'.stacks, .slice y5 d'.code.length y6, .slice y7 d'.refs.length y8] 31 (0, 0)) from keep_at (show (w3.drew).heap[w.heap.size]? = _ from HBR0.out) hx))
  have hA := fun v x y (h : Grow x y) => (show (fun v x => ∃ L, L.map ObjV.d = reachL d' (procs.map (·.d)) ∧ ObjsAt x v L) v x → (fun v x => ∃ L, L.map ObjV.d = reachL d' (procs.map (·.d)) ∧ ObjsAt x v L) v y from fun h1 => by obtain ⟨L, h2, h3⟩ := h1; exact ⟨L, h2, h3.later h⟩)
  have hB := fun v x y (h : Grow x y) => (show (fun v x => RowAt 1 ixC x v (reachIx d' (procs.map (·.d)))) v x → (fun v x => RowAt 1 ixC x v (reachIx d' (procs.map (·.d)))) v y from fun h1 => h1.later h)
  have HYG := Lib.hid (fun (x y : World) (h : Grow x y) => YNm.grow (MA := (.agg #[.string d'.name, .slice y1 d'.params.length y2, .slice y3 d'.slots.length y4, .int .i64 d'.cells, .int .i64 d'.stacks, .slice y5 d'.code.length y6, .slice y7 d'.refs.length y8])) (PV := (.slice pa procs.length pcap)) (d := d') (D := (procs.map (·.d))) (A := fun v x => ∃ L, L.map ObjV.d = reachL d' (procs.map (·.d)) ∧ ObjsAt x v L) (B := fun v x => RowAt 1 ixC x v (reachIx d' (procs.map (·.d)))) hA hB h)
  clear hA hB
  refine wp_region_steps (by kernel_rfl) 132 [some 46, some 47, some 48, some 49, some 50, some 51, some 52, some 53, some 8, some 9] [[], [], [0, 1], [], [3, 2], [], [5, 4], [4, 6, 6], [2, 7, 0, 1, 2], [7, 8, 0, 1, 2, 3, 4, 5, 6, 7, 8]] [[], [], [0, 1], [], [3], [], [5], [4, 6], [2], [7]] [[0], [1], [2], [3], [4], [5], [6], [7], [8], [9]] [[], [], [], [], [], [], [], [], [], []] rfl (by kernel_rfl) (Mv (fun _ => False)) (fun _ => Mv.refl _ _) (fun x y z h1 h2 => Mv.trans h1 h2 (fun _ e => e.elim)) (YNm (.agg #[.string d'.name, .slice y1 d'.params.length y2, .slice y3 d'.slots.length y4, .int .i64 d'.cells, .int .i64 d'.stacks, .slice y5 d'.code.length y6, .slice y7 d'.refs.length y8]) (.slice pa procs.length pcap) d' (procs.map (·.d)) (fun v x => ∃ L, L.map ObjV.d = reachL d' (procs.map (·.d)) ∧ ObjsAt x v L) (fun v x => RowAt 1 ixC x v (reachIx d' (procs.map (·.d))))) ?steps ?done
  case steps =>
    refine ⟨?s0, ?s1, ?s2, ?s3, ?s4, ?s5, ?s6, ?s7, ?s8, ?s9, trivial⟩
    case s0 =>
      intro vs x hx hY
      obtain ⟨⟨o0, o1, o2, o3⟩, o4, o5, o6⟩ := obj_cells (HBX.out x hx)
      clear hY
      unfold Gives
      simp only [actL, Act.put, List.getD_cons_zero, List.getD_cons_succ, List.setIfInBounds_toArray, List.set_cons_zero, List.set_cons_succ]
      go_simp
      exact ⟨Mv.refl _ _, rfl, fun _ _ _ _ h => h⟩
    case s1 =>
      intro vs x hx hY
      clear hY
      unfold Gives
      simp only [actL, Act.put, List.getD_cons_zero, List.getD_cons_succ, List.setIfInBounds_toArray, List.set_cons_zero, List.set_cons_succ]
      go_simp
      exact ⟨Mv.refl _ _, rfl, fun _ _ _ _ h => h⟩
    case s2 =>
      intro vs x hx hY
      have h0 : vs 0 = (.agg #[.string d'.name, .slice y1 d'.params.length y2, .slice y3 d'.slots.length y4, .int .i64 d'.cells, .int .i64 d'.stacks, .slice y5 d'.code.length y6, .slice y7 d'.refs.length y8]) := hY 0 (by simp) (by simp)
      have h1 : vs 1 = (.slice pa procs.length pcap) := hY 1 (by simp) (by simp)
      have HC := Lib.hid (reach_any ⟨d', .slice y1 d'.params.length y2, .slice y3 d'.slots.length y4, .slice y5 d'.code.length y6, .slice y7 d'.refs.length y8⟩ _ procs x (HO.out.later (HGX.out x hx)) (HP.out.later (HGX.out x hx)) (by omega) HSM.out)
      clear hY
      unfold Gives
      simp only [actL, Act.put, List.getD_cons_zero, List.getD_cons_succ, List.setIfInBounds_toArray, List.set_cons_zero, List.set_cons_succ, h0, h1]
      go_simp
      refine HC.out.mono ?_
      rintro e y ⟨v, L, rfl, hL, hv, hgr⟩
      exact ⟨v, rfl, hgr, ⟨L, hL, hv⟩, fun j l _ _ h => HYG.out _ _ hgr j l h⟩
    case s3 =>
      intro vs x hx hY
      obtain ⟨⟨o0, o1, o2, o3⟩, o4, o5, o6⟩ := obj_cells (HBX.out x hx)
      clear hY
      unfold Gives
      simp only [actL, Act.put, List.getD_cons_zero, List.getD_cons_succ, List.setIfInBounds_toArray, List.set_cons_zero, List.set_cons_succ]
      go_simp
      exact ⟨Mv.refl _ _, rfl, fun _ _ _ _ h => h⟩
    case s4 =>
      intro vs x hx hY
      have h3 : vs 3 = (.agg #[.string d'.name, .slice y1 d'.params.length y2, .slice y3 d'.slots.length y4, .int .i64 d'.cells, .int .i64 d'.stacks, .slice y5 d'.code.length y6, .slice y7 d'.refs.length y8]) := hY 3 (by simp) (by simp)
      have HC := Lib.hid (plain_any ⟨d', .slice y1 d'.params.length y2, .slice y3 d'.slots.length y4, .slice y5 d'.code.length y6, .slice y7 d'.refs.length y8⟩ x (HO.out.later (HGX.out x hx)) (by simp only; omega))
      have hoc := (HO.out.later (HGX.out x hx)).code
      clear hY
      unfold Gives
      simp only [actL, Act.put, List.getD_cons_zero, List.getD_cons_succ, List.setIfInBounds_toArray, List.set_cons_zero, List.set_cons_succ, h3]
      go_simp
      refine HC.out.mono ?_
      rintro e y ⟨r, ⟨rfl, hrd, hrc⟩, hrr, -, hgr⟩
      exact ⟨_, rfl, hgr, ⟨r, rfl, hrd, ⟨by rw [hrc, hrd]; exact hoc.later hgr, hrr⟩⟩, fun j l _ _ h => HYG.out _ _ hgr j l h⟩
    case s5 =>
      intro vs x hx hY
      clear hY
      unfold Gives
      simp only [actL, Act.put, List.getD_cons_zero, List.getD_cons_succ, List.setIfInBounds_toArray, List.set_cons_zero, List.set_cons_succ]
      go_simp
      exact ⟨Mv.refl _ _, rfl, fun _ _ _ _ h => h⟩
    case s6 =>
      intro vs x hx hY
      have h5 : vs 5 = (.slice pa procs.length pcap) := hY 5 (by simp) (by simp)
      have HC := Lib.hid (plains_any _ procs x (HP.out.later (HGX.out x hx)) (by omega) HPR.out)
      clear hY
      unfold Gives
      simp only [actL, Act.put, List.getD_cons_zero, List.getD_cons_succ, List.setIfInBounds_toArray, List.set_cons_zero, List.set_cons_succ, h5]
      go_simp
      refine HC.out.mono ?_
      rintro e y ⟨v, rs, rfl, hrs, hro, hgr⟩
      exact ⟨_, rfl, hgr, ⟨rs, hrs, hro⟩, fun j l _ _ h => HYG.out _ _ hgr j l h⟩
    case s7 =>
      intro vs x hx hY
      obtain ⟨r, (h4 : vs 4 = _), hrd, hra⟩ := hY 4 (by simp) (by simp)
      obtain ⟨rs, hrs, hro⟩ := hY 6 (by simp) (by simp)
      obtain ⟨va, vc, hvf, -, -⟩ := hro.row.form
      have hvf : vs 6 = .slice va rs.length vc := hvf
      have hrl : rs.length = procs.length := by simpa using congrArg List.length hrs
      have hc := rreach_any r (vs 6) rs x hra hro (by omega)
      rw [show rs.map (·.d) = (procs.map (·.d)) from hrs, hrd, hvf] at hc
      have HC := Lib.hid hc
      clear hY hc hrs hro hrd hra hrl
      unfold Gives
      simp only [actL, Act.put, List.getD_cons_zero, List.getD_cons_succ, List.setIfInBounds_toArray, List.set_cons_zero, List.set_cons_succ, h4, hvf]
      go_simp
      refine HC.out.mono ?_
      rintro e y ⟨v, rfl, hv, hgr⟩
      exact ⟨v, rfl, hgr, hv, fun j l _ _ h => HYG.out _ _ hgr j l h⟩
    case s8 =>
      intro vs x hx hY
      have h2 : (fun v x => ∃ L, L.map ObjV.d = reachL d' (procs.map (·.d)) ∧ ObjsAt x v L) (vs 2) x := hY 2 (by simp) (by simp)
      have H2 := Lib.hid h2
      clear hY h2
      unfold Gives
      simp only [actL, Act.put, List.getD_cons_zero, List.getD_cons_succ, List.setIfInBounds_toArray, List.set_cons_zero, List.set_cons_succ]
      go_simp
      exact ⟨Mv.refl _ _, H2.out, fun _ _ _ _ h => h⟩
    case s9 =>
      intro vs x hx hY
      have h7 : (fun v x => RowAt 1 ixC x v (reachIx d' (procs.map (·.d)))) (vs 7) x := hY 7 (by simp) (by simp)
      have H7 := Lib.hid h7
      clear hY h7
      unfold Gives
      simp only [actL, Act.put, List.getD_cons_zero, List.getD_cons_succ, List.setIfInBounds_toArray, List.set_cons_zero, List.set_cons_succ]
      go_simp
      exact ⟨Mv.refl _ _, H7.out, fun _ _ _ _ h => h⟩
  case done =>
  intro vs wx hx hY
  have h8 : (fun v x => ∃ L, L.map ObjV.d = reachL d' (procs.map (·.d)) ∧ ObjsAt x v L) (vs 8) wx := hY 8 (by decide) rfl
  have h9 : (fun v x => RowAt 1 ixC x v (reachIx d' (procs.map (·.d)))) (vs 9) wx := hY 9 (by decide) rfl
  have HGX2 := Lib.hid (HGX.out wx hx)
  have HBX2 := Lib.hid (HBX.out wx hx)
  clear hY HGX HBX HYG hx
  simp only [List.length_cons, List.length_nil, Nat.zero_add, Nat.reduceAdd]
  rw [show List.range 10 = [0, 1, 2, 3, 4, 5, 6, 7, 8, 9] from rfl]
  simp only [actL, Act.put, List.getD_cons_zero, List.getD_cons_succ, List.setIfInBounds_toArray, List.set_cons_zero, List.set_cons_succ]
  generalize vs 0 = t0 at *
  generalize vs 1 = t1 at *
  generalize vs 2 = t2 at *
  generalize vs 3 = t3 at *
  generalize vs 4 = t4 at *
  generalize vs 5 = t5 at *
  generalize vs 6 = t6 at *
  generalize vs 7 = t7 at *
  generalize hv8 : vs 8 = t8 at *
  generalize hv9 : vs 9 = t9 at *
  clear hv8 hv9 vs
  obtain ⟨L, hL, hLa⟩ := h8
  replace h9 : RowAt 1 ixC wx t9 (reachIx d' (procs.map (·.d))) := h9
  have HIX := Lib.hid (fun k (hk : k < (reachIx d' (procs.map (·.d))).length) => reachL_get d' (procs.map (·.d)) k hk)
  rw [← hL] at HIX
  have hLl : L.length = (reachIx d' (procs.map (·.d))).length := by have := congrArg List.length hL; rw [List.length_map, reachL_len] at this; exact this
  generalize reachIx d' (procs.map (·.d)) = I at *
  obtain ⟨la, lc, rfl, hlcap, hllen⟩ := hLa.row.form
  obtain ⟨na, nc, rfl, hncap, hnlen⟩ := h9.form
  have HLA := Lib.hid hLa
  have HIA := Lib.hid h9
  have HLL := Lib.hid hLl
  rw [hLl] at hlcap ⊢
  clear hL hLa h9 hLl
  go_wp2_with fail
  go_loopw [10] (fun t wr => ∃ k : Nat, t = .int .i64 k ∧ k ≤ I.length ∧ Grow wx wr) (fun t _ => I.length - (intOf t).toNat)
  case atStart => exact ⟨0, rfl, Nat.zero_le _, Mv.refl _ _⟩
  obtain ⟨k, rfl, hk, hgr⟩ := hrel
  have HGR := Lib.hid hgr
  have HGZ := Lib.hid (Mv.trans HGX2.out hgr (fun _ e => e.elim))
  clear hgr
  by_cases hlt : k < I.length
  · have hkL : k < L.length := by rw [HLL.out]; exact hlt
    obtain ⟨hix, hid⟩ := HIX.out k hlt
    rw [List.length_map] at hix
    obtain ⟨ib, io, icap, e, _, hci⟩ := (HIA.out.later HGR.out).at hlt
    simp only [Value.slice.injEq, true_and] at e
    obtain ⟨rfl, rfl⟩ := e
    have i0 := hci 0 _ rfl
    simp only [Nat.add_zero, Nat.mul_one] at i0
    have hibl : ib < wr.heap.size := World.block_lt_of_cell? wr _ i0
    have hly := HLA.out.each L[k] (List.getElem_mem hkL)
    have hlx := HP.out.each procs[I[k]] (List.getElem_mem hix)
    obtain ⟨lb, lo, lcap, e, _, hcl⟩ := (HLA.out.row.later HGR.out).at hkL
    rw [HLL.out] at e
    simp only [Value.slice.injEq, true_and] at e
    obtain ⟨rfl, rfl⟩ := e
    obtain ⟨pb, po, qcap, e, _, hcp⟩ := (HP.out.row.later HGZ.out).at hix
    simp only [Value.slice.injEq, true_and] at e
    obtain ⟨rfl, rfl⟩ := e
    have c0 := hcl 0 _ rfl
    have c3 := hcl 3 _ rfl
    have c4 := hcl 4 _ rfl
    have c5 := hcl 5 _ rfl
    have c6 := hcl 6 _ rfl
    have u0 := hcp 0 _ rfl
    have u1 := hcp 1 _ rfl
    have u2 := hcp 2 _ rfl
    have u3 := hcp 3 _ rfl
    have u4 := hcp 4 _ rfl
    have u5 := hcp 5 _ rfl
    have u6 := hcp 6 _ rfl
    simp only [Nat.add_zero] at c0 u0
    have hlbl : lb < wr.heap.size := World.block_lt_of_cell? wr _ c0
    have hpbl : pb < wr.heap.size := World.block_lt_of_cell? wr _ u0
    have hdd : L[k].d = procs[I[k]].d := by
      rw [List.getElem?_map, List.getElem?_map, List.getElem?_eq_getElem hkL, List.getElem?_eq_getElem hix] at hid
      simpa using hid
    generalize procs[I[k]] = x at hdd hlx u0 u1 u2 u3 u4 u5 u6
    generalize L[k] = y at hdd hly c0 c3 c4 c5 c6
    generalize I[k] = ix at *
    obtain ⟨z1, z2, z3, z4, z5, z6, z7, z8, ⟨hz1, hz2, hz3, hz4⟩, -, -, -⟩ := hlx.slices
    obtain ⟨v1, v2, v3, v4, v5, v6, v7, v8, ⟨hv1, hv2, hv3, hv4⟩, -, -, -⟩ := hly.slices
    obtain ⟨xd, xqv, xsv, xcv, xrv⟩ := x
    obtain ⟨yd, yqv, ysv, ycv, yrv⟩ := y
    simp only at hdd hz1 hz2 hz3 hz4 hv1 hv2 hv3 hv4 c0 c3 c4 c5 c6 u0 u1 u2 u3 u4 u5 u6
    subst hdd hz1 hz2 hz3 hz4 hv1 hv2 hv3 hv4
    have HGB := Lib.hid (HGR.out.alloc (.cells #[.string yd.name, .slice z1 yd.params.length z2, .slice z3 yd.slots.length z4, .int .i64 yd.cells, .int .i64 yd.stacks, .slice z5 yd.code.length z6, .slice z7 yd.refs.length z8] 31))
    clear hci hcl hcp hid hlx hly
    go_wp2_with fail
    go_region
    go_wp2_with fail
    go_roundw
    case rel => exact ⟨k + 1, by go_num, by omega, HGB.out.drew⟩
    case measure => simp [intOf]; omega
  obtain rfl : k = I.length := by omega
  go_wp2_with fail
  go_ret
  exact ⟨rfl, HGZ.out⟩

end Go.Proofs.YtaabkaiifplhgaaDoor
