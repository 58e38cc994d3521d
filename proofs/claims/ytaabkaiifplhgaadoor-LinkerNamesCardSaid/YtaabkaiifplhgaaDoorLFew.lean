/- linker.Link at any objects; the law's few. -/
import Derived.Test.YtaabkaiifplhgaaDoorLLink3
import Derived.Test.YtaabkaiifplhgaaDoorLFacts
namespace Go.Proofs.YtaabkaiifplhgaaDoor
set_option linter.unusedSimpArgs false
set_option linter.unusedVariables false
open Go.RowKit Go.Instr

theorem link_any (o : ObjV) (pv : Value) (procs : List ObjV) (w : World) (ht : TabOk w) (ho : ObjAt w o) (hp : ObjsAt w pv procs) (hfew : FewO o.d (procs.map (·.d))) :
    Calls Tryd.prog 11 #[o.val, pv] w (Linked w (linkD o.d (procs.map (·.d)))) := by
  by_cases h : linkErr o.d (procs.map (·.d)) = 0
  · exact link_ok o pv procs w ht ho hp hfew h
  · exact link_err o pv procs w ht ho hp hfew h

/-- the sizes that the statements ask for -/
def smallB (o : ObjD) : Bool := decide (o.code.length ≤ 80) && decide (o.refs.length ≤ 80)
def fewB (main : ObjD) (procs : List ObjD) : Bool := decide (procs.length ≤ 8) && (smallB main && procs.all smallB)

def oneB (b : Bool) : Int := if b then 1 else 0

theorem few_split {main : ObjD} {procs : List ObjD} (h : fewB main procs = true) : procs.length ≤ 8 ∧ (main.code.length ≤ 80 ∧ main.refs.length ≤ 80) ∧ ∀ o ∈ procs, o.code.length ≤ 80 ∧ o.refs.length ≤ 80 := by
  simp only [fewB, smallB, Bool.and_eq_true, decide_eq_true_eq, List.all_eq_true] at h
  exact ⟨h.1, h.2.1, h.2.2⟩
theorem few_all {main : ObjD} {procs : List ObjD} {m : ObjD} {l : List ObjD} (h : fewB main procs = true) (hm : m = main ∨ m ∈ procs) (hn : l.length ≤ 16) (hl : ∀ o ∈ l, (o.code = main.code ∧ o.refs = main.refs) ∨ ∃ p ∈ procs, o.code = p.code ∧ o.refs = p.refs) : FewO m l := by
  obtain ⟨_, h1, h2⟩ := few_split h
  have hs : ∀ o ∈ l, o.code.length ≤ 80 ∧ o.refs.length ≤ 80 := by
    intro o ho
    rcases hl o ho with ⟨e1, e2⟩ | ⟨p, hp, e1, e2⟩
    · rw [e1, e2]; exact h1
    · rw [e1, e2]; exact h2 p hp
  have hms : m.code.length ≤ 80 ∧ m.refs.length ≤ 80 := by
    rcases hm with rfl | hm
    · exact h1
    · exact h2 m hm
  exact ⟨⟨hms.2, hn, fun o ho => (hs o ho).2⟩, hms.1, fun o ho => (hs o ho).1⟩
theorem few_self {main : ObjD} {procs : List ObjD} (h : fewB main procs = true) : FewO main procs :=
  few_all h (.inl rfl) (by have := (few_split h).1; omega) (fun o ho => .inr ⟨o, ho, rfl, rfl⟩)
theorem few_sub {main : ObjD} {procs l : List ObjD} (h : fewB main procs = true) (hn : l.length ≤ 16) (hs : ∀ o ∈ l, o ∈ procs) : FewO main l :=
  few_all h (.inl rfl) hn (fun o ho => .inr ⟨o, hs o ho, rfl, rfl⟩)

theorem all_take_succ (l : List ObjD) (k : Nat) (h : k < l.length) : (l.take (k + 1)).all smallB = ((l.take k).all smallB && smallB l[k]) := by
  rw [List.take_succ_eq_append_getElem h, List.all_append]; simp
theorem small_false (l : List ObjD) (k : Nat) (h : k < l.length) (hf : smallB l[k] = false) : l.all smallB = false := by
  apply Bool.eq_false_iff.2
  intro ha
  have := List.all_eq_true.1 ha l[k] (List.getElem_mem h)
  rw [hf] at this; cases this

set_option maxRecDepth 100000 in
set_option maxHeartbeats 4000000 in
theorem few_any (o : ObjV) (pv : Value) (procs : List ObjV) (w : World) (ho : ObjAt w o) (hp : ObjsAt w pv procs) :
    Calls Tryd.prog 10 #[o.val, pv] w fun e w' => e = .returned (.int .i64 (oneB (fewB o.d (procs.map (·.d))))) ∧ Grow w w' := by
  obtain ⟨pa, pcap, rfl, hpcap, hplen⟩ := hp.row.form
  obtain ⟨y1, y2, y3, y4, y5, y6, y7, y8, ⟨hy1, hy2, hy3, hy4⟩, ⟨hccap, hclen⟩, hrcap, hrlen⟩ := ho.slices
  have HFB := Lib.hid (show fewB o.d (procs.map (·.d)) = (decide (procs.length ≤ 8) && ((decide (o.d.code.length ≤ 80) && decide (o.d.refs.length ≤ 80)) && (procs.map (·.d)).all smallB)) from by simp [fewB, smallB])
  have HP := Lib.hid hp
  clear ho hp
  obtain ⟨d', qv, sv, cv, rv⟩ := o
  simp only at hy1 hy2 hy3 hy4 hrcap hrlen hccap hclen HFB
  subst hy1 hy2 hy3 hy4
  have hg0 : Grow w (w.alloc (.cells #[.string d'.name, .slice y1 d'.params.length y2, .slice y3 d'.slots.length y4, .int .i64 d'.cells, .int .i64 d'.stacks, .slice y5 d'.code.length y6, .slice y7 d'.refs.length y8] 31)) := (Mv.refl _ _).alloc _
  have HG0 := Lib.hid hg0
  clear hg0
  by_cases h8 : procs.length ≤ 8
  · by_cases hc : d'.code.length ≤ 80
    · by_cases hr : d'.refs.length ≤ 80
      · have HFB2 := Lib.hid (show fewB d' (procs.map (·.d)) = (procs.map (·.d)).all smallB from by rw [HFB.out]; simp [h8, hc, hr])
        go_enter Tryd.func10, Tryd.ntmps10
        go_wp2_with fail
        generalize w.alloc (.cells #[.string d'.name, .slice y1 d'.params.length y2, .slice y3 d'.slots.length y4, .int .i64 d'.cells, .int .i64 d'.stacks, .slice y5 d'.code.length y6, .slice y7 d'.refs.length y8] 31) = w1 at *
        go_loopw [5] (fun t wr => ∃ k : Nat, t = .int .i64 k ∧ k ≤ procs.length ∧ wr = w1 ∧ ((procs.map (·.d)).take k).all smallB = true) (fun t _ => procs.length - (intOf t).toNat)
        case atStart => exact ⟨0, rfl, Nat.zero_le _, rfl, rfl⟩
        obtain ⟨k, rfl, hk, rfl, hall⟩ := hrel
        have HALL := Lib.hid hall
        clear hall
        by_cases hlt : k < procs.length
        · obtain ⟨b, off, cap', e, _, hcc⟩ := (HP.out.row.later HG0.out).at hlt
          simp only [Value.slice.injEq, true_and] at e
          obtain ⟨rfl, rfl⟩ := e
          have c0 := hcc 0 _ rfl
          have c5 := hcc 5 _ rfl
          have c6 := hcc 6 _ rfl
          simp only [Nat.add_zero] at c0
          have hbl : b < wr.heap.size := World.block_lt_of_cell? wr _ c0
          have hxo := HP.out.each procs[k] (List.getElem_mem hlt)
          have hkm : k < (procs.map (·.d)).length := by simpa using hlt
          have hgd : (procs.map (·.d))[k] = procs[k].d := by simp
          have HTS := Lib.hid (by have := all_take_succ (procs.map (·.d)) k hkm; rw [hgd] at this; exact this)
          have HAF := Lib.hid (by have := small_false (procs.map (·.d)) k hkm; rw [hgd] at this; exact this)
          generalize hx : procs[k] = x at *
          obtain ⟨z1, z2, z3, z4, z5, z6, xra, xrcap, ⟨hz1, hz2, hz3, hxrv⟩, ⟨hz5, hz6⟩, hxrcap, hxrlen⟩ := hxo.slices
          obtain ⟨xd, xqv, xsv, xcv, xrv⟩ := x
          simp only at c0 c5 c6 hz1 hz2 hz3 hxrv hxrlen hxrcap hz5 hz6 HTS HAF
          subst hz1 hz2 hz3 hxrv
          have HSB := Lib.hid (show smallB xd = (decide (xd.code.length ≤ 80) && decide (xd.refs.length ≤ 80)) from rfl)
          clear hcc hx hxo hgd hkm
          by_cases hxc : xd.code.length ≤ 80
          · by_cases hxr : xd.refs.length ≤ 80
            · go_wp2_with fail
              go_roundw
              case rel => exact ⟨k + 1, by go_num, by omega, by trivial, by rw [HTS.out, HALL.out, HSB.out]; simp [hxc, hxr]⟩
              case measure => simp [intOf]; omega
            · go_wp2_with fail
              go_ret
              exact ⟨ret_int (by rw [HFB2.out, HAF.out (by rw [HSB.out]; simp [hxr])]; rfl), HG0.out⟩
          · go_wp2_with fail
            go_ret
            exact ⟨ret_int (by rw [HFB2.out, HAF.out (by rw [HSB.out]; simp [hxc])]; rfl), HG0.out⟩
        · obtain rfl : k = procs.length := by omega
          go_wp2_with fail
          go_ret
          have h1 := HALL.out
          rw [List.take_of_length_le (by simp)] at h1
          exact ⟨ret_int (by rw [HFB2.out, h1]; rfl), HG0.out⟩
      · go_enter Tryd.func10, Tryd.ntmps10
        go_wp2_with fail
        go_ret
        exact ⟨ret_int (by rw [HFB.out]; simp [hr, oneB]), HG0.out⟩
    · go_enter Tryd.func10, Tryd.ntmps10
      go_wp2_with fail
      go_ret
      exact ⟨ret_int (by rw [HFB.out]; simp [hc, oneB]), HG0.out⟩
  · go_enter Tryd.func10, Tryd.ntmps10
    go_wp2_with fail
    go_ret
    exact ⟨ret_int (by rw [HFB.out]; simp [h8, oneB]), HG0.out⟩

end Go.Proofs.YtaabkaiifplhgaaDoor
