/- Plain facts about checked objects. -/
import Derived.Test.YtaabkaiifplhgaaDoorLPlace
namespace Go.Proofs.YtaabkaiifplhgaaDoor
set_option linter.unusedSimpArgs false
set_option linter.unusedVariables false

theorem pchkFrom_refs (code : List Ins) (refs : List RefD) : ∀ (f i next : Nat), i + f = code.length → next ≤ refs.length → (pchkFrom code refs f i next).2 = 0 → ∀ j (hj : j < refs.length), next ≤ j → (i : Int) ≤ refs[j].at' ∧ refs[j].at' < code.length := by
  intro f
  induction f with
  | zero =>
    intro i next hi hn h j hj hnj
    simp only [pchkFrom, pchkEnd] at h
    split at h
    · simp at h
    · omega
  | succ f ih =>
    intro i next hi hn h j hj hnj
    have hil : i < code.length := by omega
    simp only [pchkFrom, List.getElem?_eq_getElem hil] at h
    split at h
    · simp at h
    · split at h
      · simp at h
      · split at h
        · split at h
          · simp at h
          · have := ih (i + 1) next (by omega) hn h j hj hnj
            omega
        · split at h
          · simp at h
          · rename_i h1
            have hnl : next < refs.length := by
              rcases Nat.lt_or_ge next refs.length with h2 | h2
              · exact h2
              · exact absurd (.inr (.inl (by omega))) h1
            rcases Nat.lt_or_ge next j with h2 | h2
            · have := ih (i + 1) (next + 1) (by omega) (by omega) h j hj h2
              omega
            · obtain rfl : j = next := by omega
              have h3 : (refs[j]?.map RefD.at') = some (i : Int) := Classical.byContradiction fun h3 => h1 (.inr (.inr h3))
              rw [List.getElem?_eq_getElem hj] at h3
              simp at h3
              omega

/-- what a checked object is known to be -/
theorem chk_refs {o : ObjD} (h : o.chk = 0) : ∀ r ∈ o.refs, 0 ≤ r.at' ∧ r.at' < o.code.length := by
  intro r hr
  unfold ObjD.chk at h
  split at h
  · simp at h
  · split at h
    · simp at h
    · split at h
      · simp at h
      · obtain ⟨j, hj, rfl⟩ := List.mem_iff_getElem.1 hr
        have := pchkFrom_refs o.code o.refs o.code.length 0 0 (by omega) (Nat.zero_le _) h j hj (Nat.zero_le _)
        omega
theorem chk_frame {o : ObjD} (h : o.chk = 0) : (0 ≤ o.cells ∧ o.cells ≤ 16384) ∧ 0 ≤ o.stacks ∧ o.stacks ≤ 16384 := by
  unfold ObjD.chk at h
  split at h
  · simp at h
  · rename_i h1
    have h2 : framB o.slots o.cells o.stacks = true := by
      cases hh : o.headB <;> cases hf : framB o.slots o.cells o.stacks <;> simp [hh, hf] at h1 ⊢
    simp only [framB, numsB, Bool.and_eq_true, decide_eq_true_eq] at h2
    exact ⟨⟨h2.1.1, h2.1.2.1⟩, h2.1.2.2⟩

theorem firstErr_zero : ∀ {l : List ObjD}, firstErr l = 0 → ∀ o ∈ l, o.chk = 0
  | [], _, o, ho => by simp at ho
  | x :: l, h, o, ho => by
    simp only [firstErr] at h
    split at h
    · rename_i h1; exact absurd h h1
    · rename_i h1
      rcases List.mem_cons.1 ho with rfl | ho
      · exact Classical.byContradiction h1
      · exact firstErr_zero h o ho

/-- what can be linked is checked -/
theorem linkErr_zero {main : ObjD} {procs : List ObjD} (h : linkErr main procs = 0) : main.chk = 0 ∧ (∀ o ∈ procs, o.chk = 0) ∧ main.name.size = 0 ∧ (procs.any fun o => decide (o.name.size = 0)) = false ∧ twiceTo procs procs.length = false ∧ undefL main.refs procs = [] := by
  unfold linkErr at h
  split at h
  · rename_i h1; exact absurd h h1
  · rename_i h1
    split at h
    · rename_i h2; exact absurd h h2
    · rename_i h2
      split at h
      · simp at h
      · split at h
        · simp at h
        · rename_i h4
          split at h
          · simp at h
          · rename_i h5
            split at h
            · simp at h
            · rename_i h3 h6
              refine ⟨Classical.byContradiction h1, firstErr_zero (Classical.byContradiction h2), by omega, by simpa using h4, by simpa using h5, List.eq_nil_of_length_eq_zero (by omega)⟩

end Go.Proofs.YtaabkaiifplhgaaDoor
