/- The objects that come in, read, with the sizes of their lists. -/
import Derived.Test.YtaabkaiifplhgaaDoorLOpen
import Derived.Test.YtaabkaiifplhgaaDoorLClone
namespace Go.Proofs.YtaabkaiifplhgaaDoor
set_option linter.unusedSimpArgs false
set_option linter.unusedVariables false
open Go.RowKit Go.Deep

section
variable {H : Type} {enc : TypeId × Value → H} {W : World}
theorem Tryd.bytesVar : Tryd.prog.bytesOf 73 = 32 := by kernel_rfl
theorem Tryd.bytesIns : Tryd.prog.bytesOf 57 = 40 := by kernel_rfl
theorem Tryd.bytesRef : Tryd.prog.bytesOf 66 = 24 := by kernel_rfl

set_option maxRecDepth 100000 in
theorem open_obj2 (fuel : Nat) (cs : List Value) (y : DataW H × List MemPlace) (h : DataW.trod enc Tryd.prog W 0 (fun _ => true) true fuel 31 cs = some y) (hw : Wt 31 y.1) : ∃ o : ObjV, cs = o.cells ∧ (ObjAt W o ∧ ObjSm o.d) := by
  obtain ⟨xs, m, rfl, rfl, hcl, hxl, hf⟩ := DataW.trod_struct Tryd.underlying31 h
  rw [Tryd.cellsObj] at hcl
  match cs, hcl with
  | [c0, c1, c2, c3, c4, c5, c6], _ =>
    match xs, hxl with
    | [x0, x1, x2, x3], _ =>
      have f0 := hf 0 _ rfl
      have f1 := hf 1 _ rfl
      have f2 := hf 2 _ rfl
      have f3 := hf 3 _ rfl
      simp [Tryd.cellsStr, Tryd.cellsVars, Tryd.cellsFrame, Tryd.cellsPiece] at f0 f1 f2 f3
      simp only [Wt, DataW.weights, Tryd.underlying31, List.map_cons, List.map_nil, DataW.weightsEach, List.all_append, Bool.and_eq_true] at hw
      obtain ⟨_, hw1, hw2, hw3, _⟩ := hw
      obtain ⟨s, e0, _, hs⟩ := DataW.trod_string Tryd.underlying9 f0
      obtain ⟨pv, ps, e1, hp, hpo, hpb⟩ := open_row VarD.cells 3 Tryd.underlying22 Tryd.cellsVar (by decide) (fun _ => rfl) _ open_var f1 hw1
      obtain ⟨xs2, m2, rfl, rfl, hcl2, hxl2, hf2⟩ := DataW.trod_struct Tryd.underlying25 f2
      obtain ⟨xs3, m3, -, rfl, hcl3, hxl3, hf3⟩ := DataW.trod_struct Tryd.underlying29 f3
      match xs2, hxl2 with
      | [u0, u1, u2], _ =>
        match xs3, hxl3 with
        | [t0, t1], _ =>
          have g0 := hf2 0 _ rfl
          have g1 := hf2 1 _ rfl
          have g2 := hf2 2 _ rfl
          have k0 := hf3 0 _ rfl
          have k1 := hf3 1 _ rfl
          simp [Tryd.cellsInt, Tryd.cellsSlots, Tryd.cellsCode, Tryd.cellsRefs] at g0 g1 g2 k0 k1
          simp only [DataW.weights, Tryd.underlying25, List.map_cons, List.map_nil, DataW.weightsEach, List.all_append, Bool.and_eq_true] at hw2
          simp only [DataW.weights, Tryd.underlying29, List.map_cons, List.map_nil, DataW.weightsEach, List.all_append, Bool.and_eq_true] at hw3
          obtain ⟨sv, ss, e2, hsl, hso, hsb⟩ := open_row SlotD.cells 4 Tryd.underlying23 Tryd.cellsSlot (by decide) (fun _ => rfl) _ open_slot g0 hw2.1
          obtain ⟨cl, e3, _, hcl4⟩ := DataW.trod_int Tryd.underlying3 g1
          obtain ⟨st, e4, _, hst4⟩ := DataW.trod_int Tryd.underlying3 g2
          obtain ⟨cv, co, e5, hco, hcoo, hcb⟩ := open_row Ins.cells 5 Tryd.underlying26 Tryd.cellsIns (by decide) (fun _ => rfl) _ open_ins k0 hw3.1
          obtain ⟨rv, rf, e6, hrf, hrfo, hrb⟩ := open_row RefD.cells 2 Tryd.underlying27 Tryd.cellsRef (by decide) (fun _ => rfl) _ open_ref k1 hw3.2.1
          simp at e0 e1 e2 e3 e4 e5 e6
          subst e0 e1 e2 e3 e4 e5 e6
          rw [Tryd.bytesSlot] at hsb
          rw [Tryd.bytesVar] at hpb
          rw [Tryd.bytesIns] at hcb
          rw [Tryd.bytesRef] at hrb
          unfold reachBytes at hsb hpb hcb hrb
          exact ⟨⟨⟨s, ps, ss, cl, st, co, rf⟩, c1, c2, c5, c6⟩, rfl, ⟨⟨by unfold maxLen at hs; exact hs, hpo, hso, int64_of hcl4, int64_of hst4, hcoo, hrfo, by simp only; omega⟩, hp, hsl, hco, hrf⟩, ⟨by simp only; omega, by simp only; omega, by simp only; omega, by simp only; omega⟩⟩

set_option maxRecDepth 100000 in
theorem open_objs2 (fuel : Nat) (cs : List Value) (y : DataW H × List MemPlace) (h : DataW.trod enc Tryd.prog W 0 (fun _ => true) true fuel 32 cs = some y) (hw : Wt 32 y.1) : ∃ v l, cs = [v] ∧ ObjsAt W v l ∧ ∀ x ∈ l, ObjSm x.d := by
  obtain ⟨v, l, e, hr, ho, _⟩ := open_row ObjV.cells 7 Tryd.underlying32 Tryd.cellsObj (by decide) (fun _ => rfl) _ open_obj2 h hw
  exact ⟨v, l, e, ⟨hr, fun o h => (ho o h).1⟩, fun o h => (ho o h).2⟩
end

end Go.Proofs.YtaabkaiifplhgaaDoor
