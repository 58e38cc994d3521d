/- The objects that come in, read: from the row's reading to ObjAt, ObjsAt. -/
import Derived.Test.YtaabkaiifplhgaaDoorLObjs
import Derived.ProofKit
import Derived.OpenShut
import Derived.Deep.Slices
import Derived.Below
namespace Go.Proofs.YtaabkaiifplhgaaDoor
set_option linter.unusedSimpArgs false
set_option linter.unusedVariables false
open Go.RowKit Go.Deep

theorem add_lit2 (b off k : Nat) : (⟨b, off, none⟩ : Addr).add k = ⟨b, off + k, none⟩ := by unfold Addr.add; split <;> simp_all

section
variable {H : Type} {enc : TypeId × Value → H} {W : World}

/-- what the form's reach says of one datum -/
abbrev Wt (t : TypeId) (d : DataW H) : Prop := (d.weights Tryd.prog t).all (· ≤ reachBytes) = true

theorem weightsAll_mem {e : TypeId} : ∀ {l : List (DataW H)} {d : DataW H}, d ∈ l → (DataW.weightsAll Tryd.prog e l).all (· ≤ reachBytes) = true → Wt e d
  | [], d, h, _ => by cases h
  | x :: r, d, h, hw => by
    simp only [DataW.weightsAll, List.all_append, Bool.and_eq_true] at hw
    rcases List.mem_cons.1 h with rfl | h
    · exact hw.1
    · exact weightsAll_mem h hw.2

theorem open_row {α : Type} (f : α → List Value) (n : Nat) {t e : TypeId} (ht : Tryd.prog.underlying t = some (.slice e)) (hc : Tryd.prog.cellsOf e = n) (hn : 0 < n) (hfl : ∀ a, (f a).length = n) (Ok : α → Prop)
    (hopen : ∀ (fuel : Nat) (cs : List Value) (y : DataW H × List MemPlace), DataW.trod enc Tryd.prog W 0 (fun _ => true) true fuel e cs = some y → Wt e y.1 → ∃ a, cs = f a ∧ Ok a)
    {fuel : Nat} {cs : List Value} {x : DataW H × List MemPlace} (h : DataW.trod enc Tryd.prog W 0 (fun _ => true) true fuel t cs = some x) (hw : Wt t x.1) :
    ∃ v l, cs = [v] ∧ RowAt n f W v l ∧ (∀ a ∈ l, Ok a) ∧ l.length * Tryd.prog.bytesOf e ≤ reachBytes := by
  rcases open_slice ht h with ⟨hcs, hx⟩ | ⟨a, len, cap, m, k, D, Pl, hcs, _, hl, hm, hme, hx, hel⟩
  · exact ⟨_, [], hcs, RowAt.nil _ _ _, by simp, by simp⟩
  · simp only [if_true] at hme
    subst hme
    subst hx
    simp only [Wt, DataW.weights, ht, List.all_cons, List.all_append, Bool.and_eq_true, decide_eq_true_eq, List.length_map, List.length_range] at hw
    obtain ⟨hw1, hw2, hw3⟩ := hw
    rw [hc] at hel
    have hel2 : ∀ i : Fin len, ∃ o : α, W.cells? 0 (a.add (i.1 * n)) n = some (f o) ∧ Ok o := by
      intro i
      obtain ⟨cs', hc1, ht1⟩ := hel i.1 (by have := i.2; omega)
      obtain ⟨o, rfl, hok⟩ := hopen _ _ _ ht1 (weightsAll_mem (List.mem_map.2 ⟨i.1, List.mem_range.2 i.2, rfl⟩) hw2)
      exact ⟨o, hc1, hok⟩
    obtain ⟨o, ho⟩ := Classical.axiomOfChoice hel2
    refine ⟨_, List.ofFn o, hcs, ⟨some a, m, by simp, by simpa using hl, by unfold maxLen at hm; simp; omega, fun i x hx => ?_⟩, fun x hx => ?_, ?_⟩
    · have hi : i < len := by have := (List.getElem?_eq_some_iff.1 hx).1; simpa using this
      simp [hi] at hx
      subst hx
      have hcell : ∀ j (hj : j < len) r (u : Value), (f (o ⟨j, hj⟩))[r]? = some u → W.cell? ((a.add (j * n)).add r) = some u := by
        intro j hj r u hu
        obtain ⟨_, _, hcc⟩ := World.cells?_some (ho ⟨j, hj⟩).1
        have hr : r < n := by rw [← hfl (o ⟨j, hj⟩)]; exact (List.getElem?_eq_some_iff.1 hu).1
        rw [hcc r hr]; exact hu
      have hsp : a.spot = none := by
        have hz : 0 < len := by omega
        have h0 : (f (o ⟨0, hz⟩))[0]? = some ((f (o ⟨0, hz⟩))[0]'(by rw [hfl]; exact hn)) := List.getElem?_eq_getElem _
        have := World.cell?_spot (hcell 0 hz 0 _ h0)
        simpa [Addr.add] using this
      obtain ⟨b, off, spot⟩ := a
      simp only at hsp
      subst hsp
      refine ⟨b, off, rfl, fun r u hu => ?_⟩
      have := hcell i hi r u hu
      rw [add_lit2, add_lit2] at this
      exact this
    · obtain ⟨i, rfl⟩ := (List.mem_ofFn).1 hx
      exact (ho i).2
    · simp only [List.length_ofFn]
      refine Nat.le_trans ?_ hw1
      exact Nat.mul_le_mul_right _ (by omega)

theorem int64_of {n : Int} (h : (Lit.int .i64 n).wf = true) : In64 n := by
  simp only [Lit.wf, Bool.and_eq_true, decide_eq_true_eq] at h
  have e1 : IntKind.i64.min = -9223372036854775808 := by decide
  have e2 : IntKind.i64.max = 9223372036854775807 := by decide
  rw [e1, e2] at h
  exact h
theorem u8_of {n : Int} (h : (Lit.int .u8 n).wf = true) : 0 ≤ n ∧ n ≤ 255 := by
  simp only [Lit.wf, Bool.and_eq_true, decide_eq_true_eq] at h
  have e1 : IntKind.u8.min = 0 := by decide
  have e2 : IntKind.u8.max = 255 := by decide
  rw [e1, e2] at h
  exact h

theorem Tryd.cellsStr : Tryd.prog.cellsOf 9 = 1 := by kernel_rfl
theorem Tryd.cellsInt : Tryd.prog.cellsOf 3 = 1 := by kernel_rfl
theorem Tryd.cellsU8 : Tryd.prog.cellsOf 5 = 1 := by kernel_rfl
theorem Tryd.cellsVar : Tryd.prog.cellsOf 73 = 3 := by kernel_rfl
theorem Tryd.cellsSlot : Tryd.prog.cellsOf 75 = 4 := by kernel_rfl
theorem Tryd.cellsIns : Tryd.prog.cellsOf 57 = 5 := by kernel_rfl
theorem Tryd.cellsRef : Tryd.prog.cellsOf 66 = 2 := by kernel_rfl
theorem Tryd.cellsObj : Tryd.prog.cellsOf 31 = 7 := by kernel_rfl
theorem Tryd.cellsVars : Tryd.prog.cellsOf 22 = 1 := by kernel_rfl
theorem Tryd.cellsSlots : Tryd.prog.cellsOf 23 = 1 := by kernel_rfl
theorem Tryd.cellsCode : Tryd.prog.cellsOf 26 = 1 := by kernel_rfl
theorem Tryd.cellsRefs : Tryd.prog.cellsOf 27 = 1 := by kernel_rfl
theorem Tryd.cellsFrame : Tryd.prog.cellsOf 25 = 3 := by kernel_rfl
theorem Tryd.cellsPiece : Tryd.prog.cellsOf 29 = 2 := by kernel_rfl
theorem Tryd.bytesSlot : Tryd.prog.bytesOf 75 = 40 := by kernel_rfl

set_option maxRecDepth 100000 in
theorem open_var (fuel : Nat) (cs : List Value) (y : DataW H × List MemPlace) (h : DataW.trod enc Tryd.prog W 0 (fun _ => true) true fuel 73 cs = some y) (_ : Wt 73 y.1) : ∃ a : VarD, cs = a.cells ∧ (a.name.size ≤ 9223372036854775807 ∧ In64 a.len) := by
  obtain ⟨xs, m, rfl, rfl, hcl, hxl, hf⟩ := DataW.trod_struct Tryd.underlying73 h
  rw [Tryd.cellsVar] at hcl
  match cs, hcl with
  | [c0, c1, c2], _ =>
    match xs, hxl with
    | [x0, x1, x2], _ =>
      have f0 := hf 0 _ rfl
      have f1 := hf 1 _ rfl
      have f2 := hf 2 _ rfl
      simp [Tryd.cellsStr, Tryd.cellsInt, Tryd.cellsU8] at f0 f1 f2
      obtain ⟨s, e0, _, hs⟩ := DataW.trod_string Tryd.underlying9 f0
      obtain ⟨k, e1, _, _⟩ := DataW.trod_int Tryd.underlying5 f1
      obtain ⟨n, e2, _, hn⟩ := DataW.trod_int Tryd.underlying3 f2
      simp at e0 e1 e2
      subst e0 e1 e2
      exact ⟨⟨s, k, n⟩, rfl, by unfold maxLen at hs; exact hs, int64_of hn⟩

set_option maxRecDepth 100000 in
theorem open_slot (fuel : Nat) (cs : List Value) (y : DataW H × List MemPlace) (h : DataW.trod enc Tryd.prog W 0 (fun _ => true) true fuel 75 cs = some y) (_ : Wt 75 y.1) : ∃ a : SlotD, cs = a.cells ∧ (a.name.size ≤ 9223372036854775807 ∧ In64 a.len ∧ In64 a.at') := by
  obtain ⟨xs, m, rfl, rfl, hcl, hxl, hf⟩ := DataW.trod_struct Tryd.underlying75 h
  rw [Tryd.cellsSlot] at hcl
  match cs, hcl with
  | [c0, c1, c2, c3], _ =>
    match xs, hxl with
    | [x0, x1, x2, x3], _ =>
      have f0 := hf 0 _ rfl
      have f1 := hf 1 _ rfl
      have f2 := hf 2 _ rfl
      have f3 := hf 3 _ rfl
      simp [Tryd.cellsStr, Tryd.cellsInt, Tryd.cellsU8] at f0 f1 f2 f3
      obtain ⟨s, e0, _, hs⟩ := DataW.trod_string Tryd.underlying9 f0
      obtain ⟨k, e1, _, _⟩ := DataW.trod_int Tryd.underlying5 f1
      obtain ⟨n, e2, _, hn⟩ := DataW.trod_int Tryd.underlying3 f2
      obtain ⟨q, e3, _, hq⟩ := DataW.trod_int Tryd.underlying3 f3
      simp at e0 e1 e2 e3
      subst e0 e1 e2 e3
      exact ⟨⟨s, k, n, q⟩, rfl, by unfold maxLen at hs; exact hs, int64_of hn, int64_of hq⟩

set_option maxRecDepth 100000 in
theorem open_ins (fuel : Nat) (cs : List Value) (y : DataW H × List MemPlace) (h : DataW.trod enc Tryd.prog W 0 (fun _ => true) true fuel 57 cs = some y) (_ : Wt 57 y.1) : ∃ a : Ins, cs = a.cells ∧ InsOk a := by
  obtain ⟨xs, m, rfl, rfl, hcl, hxl, hf⟩ := DataW.trod_struct Tryd.underlying57 h
  rw [Tryd.cellsIns] at hcl
  match cs, hcl with
  | [c0, c1, c2, c3, c4], _ =>
    match xs, hxl with
    | [x0, x1, x2, x3, x4], _ =>
      have f0 := hf 0 _ rfl
      have f1 := hf 1 _ rfl
      have f2 := hf 2 _ rfl
      have f3 := hf 3 _ rfl
      have f4 := hf 4 _ rfl
      simp [Tryd.cellsInt, Tryd.cellsU8] at f0 f1 f2 f3 f4
      obtain ⟨a, e0, _, ha⟩ := DataW.trod_int Tryd.underlying5 f0
      obtain ⟨b, e1, _, hb⟩ := DataW.trod_int Tryd.underlying3 f1
      obtain ⟨c, e2, _, hc⟩ := DataW.trod_int Tryd.underlying3 f2
      obtain ⟨d, e3, _, hd⟩ := DataW.trod_int Tryd.underlying3 f3
      obtain ⟨e, e4, _, he⟩ := DataW.trod_int Tryd.underlying3 f4
      simp at e0 e1 e2 e3 e4
      subst e0 e1 e2 e3 e4
      exact ⟨⟨a, b, c, d, e⟩, rfl, u8_of ha, int64_of hb, int64_of hc, int64_of hd, int64_of he⟩

set_option maxRecDepth 100000 in
theorem open_ref (fuel : Nat) (cs : List Value) (y : DataW H × List MemPlace) (h : DataW.trod enc Tryd.prog W 0 (fun _ => true) true fuel 66 cs = some y) (_ : Wt 66 y.1) : ∃ a : RefD, cs = a.cells ∧ (a.name.size ≤ 9223372036854775807 ∧ In64 a.at') := by
  obtain ⟨xs, m, rfl, rfl, hcl, hxl, hf⟩ := DataW.trod_struct Tryd.underlying66 h
  rw [Tryd.cellsRef] at hcl
  match cs, hcl with
  | [c0, c1], _ =>
    match xs, hxl with
    | [x0, x1], _ =>
      have f0 := hf 0 _ rfl
      have f1 := hf 1 _ rfl
      simp [Tryd.cellsInt, Tryd.cellsStr] at f0 f1
      obtain ⟨a, e0, _, ha⟩ := DataW.trod_int Tryd.underlying3 f0
      obtain ⟨s, e1, _, hs⟩ := DataW.trod_string Tryd.underlying9 f1
      simp at e0 e1
      subst e0 e1
      exact ⟨⟨a, s⟩, rfl, by unfold maxLen at hs; exact hs, int64_of ha⟩

set_option maxRecDepth 100000 in
theorem open_obj (fuel : Nat) (cs : List Value) (y : DataW H × List MemPlace) (h : DataW.trod enc Tryd.prog W 0 (fun _ => true) true fuel 31 cs = some y) (hw : Wt 31 y.1) : ∃ o : ObjV, cs = o.cells ∧ ObjAt W o := by
  obtain ⟨xs, m, rfl, rfl, hcl, hxl, hf⟩ := DataW.trod_struct Tryd.underlying31 h
  rw [Tryd.cellsObj] at hcl
  match cs, hcl with
  | [c0, c1, c2, c3, c4, c5, c6], _ =>
    match xs, hxl with
    | [x0, x1, x2, x3], _ =>
      have f0 := hf 0 _ rfl
      have f1 := hf 1 _ rfl
      have f2 := hf 2 _ rfl
      have f3 := hf 3 _ rfl
      simp [Tryd.cellsStr, Tryd.cellsVars, Tryd.cellsFrame, Tryd.cellsPiece] at f0 f1 f2 f3
      simp only [Wt, DataW.weights, Tryd.underlying31, List.map_cons, List.map_nil, DataW.weightsEach, List.all_append, Bool.and_eq_true] at hw
      obtain ⟨_, hw1, hw2, hw3, _⟩ := hw
      obtain ⟨s, e0, _, hs⟩ := DataW.trod_string Tryd.underlying9 f0
      obtain ⟨pv, ps, e1, hp, hpo, _⟩ := open_row VarD.cells 3 Tryd.underlying22 Tryd.cellsVar (by decide) (fun _ => rfl) _ open_var f1 hw1
      obtain ⟨xs2, m2, rfl, rfl, hcl2, hxl2, hf2⟩ := DataW.trod_struct Tryd.underlying25 f2
      obtain ⟨xs3, m3, -, rfl, hcl3, hxl3, hf3⟩ := DataW.trod_struct Tryd.underlying29 f3
      match xs2, hxl2 with
      | [u0, u1, u2], _ =>
        match xs3, hxl3 with
        | [t0, t1], _ =>
          have g0 := hf2 0 _ rfl
          have g1 := hf2 1 _ rfl
          have g2 := hf2 2 _ rfl
          have k0 := hf3 0 _ rfl
          have k1 := hf3 1 _ rfl
          simp [Tryd.cellsInt, Tryd.cellsSlots, Tryd.cellsCode, Tryd.cellsRefs] at g0 g1 g2 k0 k1
          simp only [DataW.weights, Tryd.underlying25, List.map_cons, List.map_nil, DataW.weightsEach, List.all_append, Bool.and_eq_true] at hw2
          simp only [DataW.weights, Tryd.underlying29, List.map_cons, List.map_nil, DataW.weightsEach, List.all_append, Bool.and_eq_true] at hw3
          obtain ⟨sv, ss, e2, hsl, hso, hsb⟩ := open_row SlotD.cells 4 Tryd.underlying23 Tryd.cellsSlot (by decide) (fun _ => rfl) _ open_slot g0 hw2.1
          obtain ⟨cl, e3, _, hcl4⟩ := DataW.trod_int Tryd.underlying3 g1
          obtain ⟨st, e4, _, hst4⟩ := DataW.trod_int Tryd.underlying3 g2
          obtain ⟨cv, co, e5, hco, hcoo, _⟩ := open_row Ins.cells 5 Tryd.underlying26 Tryd.cellsIns (by decide) (fun _ => rfl) _ open_ins k0 hw3.1
          obtain ⟨rv, rf, e6, hrf, hrfo, _⟩ := open_row RefD.cells 2 Tryd.underlying27 Tryd.cellsRef (by decide) (fun _ => rfl) _ open_ref k1 hw3.2.1
          simp at e0 e1 e2 e3 e4 e5 e6
          subst e0 e1 e2 e3 e4 e5 e6
          rw [Tryd.bytesSlot] at hsb
          unfold reachBytes at hsb
          exact ⟨⟨⟨s, ps, ss, cl, st, co, rf⟩, c1, c2, c5, c6⟩, rfl, ⟨by unfold maxLen at hs; exact hs, hpo, hso, int64_of hcl4, int64_of hst4, hcoo, hrfo, by simp only; omega⟩, hp, hsl, hco, hrf⟩

set_option maxRecDepth 100000 in
theorem open_objs (fuel : Nat) (cs : List Value) (y : DataW H × List MemPlace) (h : DataW.trod enc Tryd.prog W 0 (fun _ => true) true fuel 32 cs = some y) (hw : Wt 32 y.1) : ∃ v l, cs = [v] ∧ ObjsAt W v l := by
  obtain ⟨v, l, e, hr, ho, _⟩ := open_row ObjV.cells 7 Tryd.underlying32 Tryd.cellsObj (by decide) (fun _ => rfl) _ open_obj h hw
  exact ⟨v, l, e, hr, ho⟩
end

end Go.Proofs.YtaabkaiifplhgaaDoor
