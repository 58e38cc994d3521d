/- What is known of the operations of a drawn region whose values do not hang on the order: constants, and one fact on the world. -/
import Derived.Test.YtaabkaiifplhgaaDoorRel
namespace Go.Proofs.YtaabkaiifplhgaaDoor
set_option linter.unusedSimpArgs false
set_option linter.unusedVariables false

def YC (cs : List (Option Value)) (k : Nat) (P : List Value → World → Prop) : Nat → List Value → World → Prop := fun j l w => if j = k then P l w else match cs.getD j none with
  | some c => l = [c]
  | none => True

theorem yc_get {cs : List (Option Value)} {k j : Nat} {P : List Value → World → Prop} {v c : Value} {x : World} (h : YC cs k P j [v] x) (hj : j ≠ k) (hc : cs.getD j none = some c) : v = c := by
  unfold YC at h
  rw [if_neg hj, hc] at h
  simpa using h
theorem yc_mk {cs : List (Option Value)} {k j : Nat} {P : List Value → World → Prop} {v c : Value} {x : World} (hj : j ≠ k) (hc : cs.getD j none = some c) (hv : v = c) : YC cs k P j [v] x := by
  unfold YC
  rw [if_neg hj, hc, hv]
theorem yc_any {cs : List (Option Value)} {k j : Nat} {P : List Value → World → Prop} {l : List Value} {x : World} (hj : j ≠ k) (hc : cs.getD j none = none) : YC cs k P j l x := by
  unfold YC
  rw [if_neg hj, hc]; trivial
theorem yc_at {cs : List (Option Value)} {k : Nat} {P : List Value → World → Prop} {l : List Value} {x : World} (h : P l x) : YC cs k P k l x := by
  unfold YC
  rw [if_pos rfl]; exact h
theorem yc_of {cs : List (Option Value)} {k : Nat} {P : List Value → World → Prop} {l : List Value} {x : World} (h : YC cs k P k l x) : P l x := by
  unfold YC at h
  rw [if_pos rfl] at h; exact h
theorem yc_keep {cs : List (Option Value)} {k : Nat} {P : List Value → World → Prop} {x y : World} (hP : ∀ l, P l x → P l y) (j : Nat) (l : List Value) (h : YC cs k P j l x) : YC cs k P j l y := by
  unfold YC at h ⊢
  split
  · rename_i hj; rw [if_pos hj] at h; exact hP l h
  · rename_i hj; rw [if_neg hj] at h; exact h
theorem yc_self {cs : List (Option Value)} {k : Nat} {P : List Value → World → Prop} {x y : World} (j : Nat) (l : List Value) (hj : j ≠ k) (h : YC cs k P j l x) : YC cs k P j l y := by
  unfold YC at h ⊢
  rw [if_neg hj] at h ⊢; exact h

end Go.Proofs.YtaabkaiifplhgaaDoor
