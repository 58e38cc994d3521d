/- linker.Link: what it computes. -/
import Derived.Test.YtaabkaiifplhgaaDoorLPlain
namespace Go.Proofs.YtaabkaiifplhgaaDoor
set_option linter.unusedSimpArgs false
set_option linter.unusedVariables false
open Go.RowKit

/-- where procedure k starts -/
def startAt (main : ObjD) (procs : List ObjD) (k : Nat) : Nat := main.code.length + 1 + ((procs.take k).map fun o => o.code.length + 2).sum
def startsTo (main : ObjD) (procs : List ObjD) : Nat → List (ByteArray × Value)
  | 0 => []
  | k + 1 => match procs[k]? with
    | some o => mset o.name (.int .i64 (startAt main procs k)) (startsTo main procs k)
    | none => startsTo main procs k
def symsTo (main : ObjD) (procs : List ObjD) (k : Nat) : List SymD := (List.range k).filterMap fun i => (procs[i]?).map fun o => ⟨o.name, startAt main procs i⟩
def maxTo (f : ObjD → Int) (procs : List ObjD) (k : Nat) : Int := (procs.take k).foldl (fun m o => max m (f o)) 0
def memOf (main : ObjD) (procs : List ObjD) : Int := main.cells + 80 + 101 * maxTo ObjD.cells procs procs.length
def stacksOf (main : ObjD) (procs : List ObjD) : Int := 1 + main.stacks + 101 * maxTo ObjD.stacks procs procs.length
def tooBig (main : ObjD) (procs : List ObjD) : Bool := decide (65536 < startAt main procs procs.length) || (decide (16384 < memOf main procs) || decide (16384 < stacksOf main procs))
/-- the code of the image, up to procedure k -/
def codeTo (main : ObjD) (procs : List ObjD) (m : List (ByteArray × Value)) : Nat → List Ins
  | 0 => placeL [] main m ++ [⟨34, 0, 0, 0, 0⟩]
  | k + 1 => match procs[k]? with
    | some o => placeL (codeTo main procs m k ++ [⟨32, (codeTo main procs m k).length + o.code.length + 1, 0, 0, 0⟩]) o m ++ [⟨33, (codeTo main procs m k).length, 0, 0, 0⟩]
    | none => codeTo main procs m k

structure ImgD where
  code : List Ins
  mem : Int
  stacks : Int
  syms : List SymD
  err : Int
/-- what Link returns -/
def linkD (main : ObjD) (procs : List ObjD) : ImgD :=
  if linkErr main procs ≠ 0 then ⟨[], 0, 0, [], linkErr main procs⟩ else if tooBig main procs then ⟨[], 0, 0, [], 5⟩
  else ⟨codeTo main procs (startsTo main procs procs.length) procs.length, memOf main procs, stacksOf main procs, symsTo main procs procs.length, 0⟩

theorem startAt_succ (main : ObjD) (procs : List ObjD) (k : Nat) (h : k < procs.length) : startAt main procs (k + 1) = startAt main procs k + procs[k].code.length + 2 := by
  unfold startAt
  rw [List.take_succ_eq_append_getElem h, List.map_append, List.sum_append_nat]
  simp; omega
theorem maxTo_succ (f : ObjD → Int) (procs : List ObjD) (k : Nat) (h : k < procs.length) : maxTo f procs (k + 1) = max (maxTo f procs k) (f procs[k]) := by
  unfold maxTo; rw [List.take_succ_eq_append_getElem h, List.foldl_append]; rfl
theorem startsTo_succ (main : ObjD) (procs : List ObjD) (k : Nat) (h : k < procs.length) : startsTo main procs (k + 1) = mset procs[k].name (.int .i64 (startAt main procs k)) (startsTo main procs k) := by
  simp only [startsTo, List.getElem?_eq_getElem h]
theorem symsTo_succ (main : ObjD) (procs : List ObjD) (k : Nat) (h : k < procs.length) : symsTo main procs (k + 1) = symsTo main procs k ++ [⟨procs[k].name, startAt main procs k⟩] := by
  unfold symsTo; rw [List.range_succ, List.filterMap_append]; simp [h]
theorem symsTo_len (main : ObjD) (procs : List ObjD) : ∀ k, k ≤ procs.length → (symsTo main procs k).length = k := by
  intro k
  induction k with
  | zero => intro _; rfl
  | succ k ih => intro hk; rw [symsTo_succ main procs k (by omega), List.length_append, ih (by omega)]; rfl
theorem placeL_len (l : List Ins) (o : ObjD) (m : List (ByteArray × Value)) : (placeL l o m).length = l.length + o.code.length := placeTo_len _ _ _ _ _
theorem codeTo_succ (main : ObjD) (procs : List ObjD) (m : List (ByteArray × Value)) (k : Nat) (h : k < procs.length) : codeTo main procs m (k + 1) = placeL (codeTo main procs m k ++ [⟨32, (codeTo main procs m k).length + procs[k].code.length + 1, 0, 0, 0⟩]) procs[k] m ++ [⟨33, (codeTo main procs m k).length, 0, 0, 0⟩] := by
  simp only [codeTo, List.getElem?_eq_getElem h]
theorem codeTo_len (main : ObjD) (procs : List ObjD) (m : List (ByteArray × Value)) : ∀ k, k ≤ procs.length → (codeTo main procs m k).length = startAt main procs k := by
  intro k
  induction k with
  | zero => intro _; simp [codeTo, placeL_len, startAt]
  | succ k ih =>
    intro hk
    rw [codeTo_succ main procs m k (by omega), List.length_append, placeL_len, List.length_append, ih (by omega), startAt_succ main procs k (by omega)]
    simp; omega
theorem mset_int {m : List (ByteArray × Value)} (h : IntMap m) (s : ByteArray) (n : Int) : IntMap (mset s (.int .i64 n) m) := by
  induction m with
  | nil => intro p hp; simp [mset] at hp; subst hp; exact ⟨n, rfl⟩
  | cons q m ih =>
    obtain ⟨a, x⟩ := q
    intro p hp
    simp only [mset] at hp
    split at hp
    · rcases List.mem_cons.1 hp with rfl | hp
      · exact ⟨n, rfl⟩
      · exact h p (by simp [hp])
    · rcases List.mem_cons.1 hp with rfl | hp
      · exact h _ (by simp)
      · exact ih (fun q hq => h q (by simp [hq])) p hp
theorem startsTo_int (main : ObjD) (procs : List ObjD) : ∀ k, IntMap (startsTo main procs k) := by
  intro k
  induction k with
  | zero => intro p hp; simp [startsTo] at hp
  | succ k ih =>
    simp only [startsTo]
    split
    · exact mset_int ih _ _
    · exact ih

/-- the sizes of the statements -/
structure FewO (main : ObjD) (procs : List ObjD) : Prop where
  refs : FewR main.refs procs
  mc : main.code.length ≤ 80
  pc : ∀ o ∈ procs, o.code.length ≤ 80

theorem startAt_le (main : ObjD) (procs : List ObjD) (h : FewO main procs) : ∀ k, k ≤ procs.length → startAt main procs k ≤ 81 + k * 82 := by
  intro k
  induction k with
  | zero => intro _; have := h.mc; simp [startAt]; omega
  | succ k ih =>
    intro hk
    rw [startAt_succ main procs k (by omega)]
    have h1 := ih (by omega)
    have h2 := h.pc procs[k] (List.getElem_mem _)
    omega
theorem maxTo_bd (f : ObjD → Int) (procs : List ObjD) (h : ∀ o ∈ procs, 0 ≤ f o ∧ f o ≤ 16384) : ∀ k, k ≤ procs.length → 0 ≤ maxTo f procs k ∧ maxTo f procs k ≤ 16384 := by
  intro k
  induction k with
  | zero => intro _; simp [maxTo]
  | succ k ih =>
    intro hk
    rw [maxTo_succ f procs k (by omega)]
    have h1 := ih (by omega)
    have h2 := h procs[k] (List.getElem_mem _)
    omega

end Go.Proofs.YtaabkaiifplhgaaDoor
