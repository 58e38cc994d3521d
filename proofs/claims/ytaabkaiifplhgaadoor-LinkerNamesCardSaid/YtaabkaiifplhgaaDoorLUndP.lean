/- The reference's Undefined, in plain words: names inserted one by one are the sorted missing names. No program is named. -/
import Derived.Test.YtaabkaiifplhgaaDoorLRef1
import Derived.Sort.Walk0
namespace Go.Proofs.YtaabkaiifplhgaaDoor
set_option linter.unusedSimpArgs false
set_option linter.unusedVariables false
open Go.RowKit Go.Sort

def sLess (a b : ByteArray) : Bool := Op.bytesLess a.toList b.toList
theorem sLess_eq (a b : ByteArray) : sLess a b = decide (a.data.toList < b.data.toList) := by
  unfold sLess; rw [bytesLess_eq, ByteArray.toList_eq, ByteArray.toList_eq]
theorem bytes_ext {a b : ByteArray} (h : a.data.toList = b.data.toList) : a = b := by
  cases a with | mk x => cases b with | mk y => simp at h; rw [h]

/-- how many stand before s -/
def insAt (s : ByteArray) : List ByteArray → Nat
  | [] => 0
  | x :: l => if sLess x s then insAt s l + 1 else 0
def insS (s : ByteArray) (l : List ByteArray) : List ByteArray := if l[insAt s l]? = some s then l else l.take (insAt s l) ++ [s] ++ l.drop (insAt s l)
def insR (s : ByteArray) : List ByteArray → List ByteArray
  | [] => [s]
  | x :: l => if sLess x s then x :: insR s l else if x = s then x :: l else s :: x :: l

theorem insAt_le (s : ByteArray) : ∀ l, insAt s l ≤ l.length
  | [] => Nat.le_refl _
  | x :: l => by
    have := insAt_le s l
    simp only [insAt]; split <;> simp <;> omega
theorem insS_eq (s : ByteArray) : ∀ l, insS s l = insR s l
  | [] => by simp [insS, insAt, insR]
  | x :: l => by
    have ih := insS_eq s l
    unfold insS at ih ⊢
    simp only [insAt, insR]
    by_cases hx : sLess x s = true
    · simp only [hx, if_true, List.getElem?_cons_succ, List.take_succ_cons, List.drop_succ_cons, List.cons_append]
      rw [← ih]
      split <;> simp
    · simp only [hx, Bool.false_eq_true, if_false, List.getElem?_cons_zero, List.take_zero, List.drop_zero, List.nil_append, Option.some.injEq, List.cons_append]
theorem insR_mem (s x : ByteArray) : ∀ l, x ∈ insR s l ↔ x = s ∨ x ∈ l
  | [] => by simp [insR]
  | y :: l => by
    have ih := insR_mem s x l
    simp only [insR]
    split
    · simp only [List.mem_cons, ih]
      constructor
      · rintro (h | h | h)
        · exact .inr (.inl h)
        · exact .inl h
        · exact .inr (.inr h)
      · rintro (h | h | h)
        · exact .inr (.inl h)
        · exact .inl h
        · exact .inr (.inr h)
    · split
      · rename_i h
        subst h
        simp
      · simp

abbrev Sorted (l : List ByteArray) : Prop := l.Pairwise fun a b => a.data.toList < b.data.toList

theorem insR_sorted (s : ByteArray) : ∀ l, Sorted l → Sorted (insR s l)
  | [], _ => by simp [insR, Sorted]
  | y :: l, h => by
    obtain ⟨h1, h2⟩ := List.pairwise_cons.1 h
    have ih := insR_sorted s l h2
    simp only [insR]
    split
    · rename_i hy
      rw [sLess_eq, decide_eq_true_eq] at hy
      refine List.pairwise_cons.2 ⟨fun x hx => ?_, ih⟩
      rcases (insR_mem s x l).1 hx with rfl | hx
      · exact hy
      · exact h1 x hx
    · rename_i hy
      rw [sLess_eq, decide_eq_true_eq] at hy
      split
      · exact h
      · rename_i hne
        have hlt : s.data.toList < y.data.toList := by
          have hle := List.not_lt.1 hy
          rcases List.le_iff_lt_or_eq.1 hle with h3 | h3
          · exact h3
          · exact absurd (bytes_ext h3).symm hne
        refine List.pairwise_cons.2 ⟨fun x hx => ?_, h⟩
        rcases List.mem_cons.1 hx with rfl | hx
        · exact hlt
        · exact List.lt_trans hlt (h1 x hx)

theorem findFrom_neg (procs : List ObjD) (s : ByteArray) : ∀ (f i : Nat), i + f = procs.length → (findFrom procs s f i < 0 ↔ ∀ j (hj : j < procs.length), i ≤ j → procs[j].name ≠ s) := by
  intro f
  induction f with
  | zero => intro i h; simp only [findFrom]; exact ⟨fun _ j hj hij => by omega, fun _ => by omega⟩
  | succ f ih =>
    intro i h
    have hi : i < procs.length := by omega
    simp only [findFrom, List.getElem?_eq_getElem hi]
    split
    · rename_i he
      have : procs[i].name = s := by simpa using he
      constructor
      · intro h1; omega
      · intro h1; exact absurd this (h1 i hi (Nat.le_refl _))
    · rename_i he
      have hne : procs[i].name ≠ s := by simpa using he
      rw [ih (i + 1) (by omega)]
      constructor
      · intro h1 j hj hij
        rcases Nat.lt_or_ge i j with h2 | h2
        · exact h1 j hj h2
        · obtain rfl : j = i := by omega
          exact hne
      · intro h1 j hj hij
        exact h1 j hj (by omega)
theorem findI_neg (procs : List ObjD) (s : ByteArray) : findI procs s < 0 ↔ ∀ o ∈ procs, o.name ≠ s := by
  rw [findI, findFrom_neg procs s procs.length 0 (by omega)]
  constructor
  · intro h o ho
    obtain ⟨j, hj, rfl⟩ := List.mem_iff_getElem.1 ho
    exact h j hj (Nat.zero_le _)
  · intro h j hj _
    exact h _ (List.getElem_mem hj)

def undStep (procs : List ObjD) (U : List ByteArray) (s : ByteArray) : List ByteArray := if 0 ≤ findI procs s then U else insS s U
def undIn (procs : List ObjD) (U : List ByteArray) (refs : List RefD) (k : Nat) : List ByteArray := (refs.take k).foldl (fun U r => undStep procs U r.name) U
def undTo (procs all : List ObjD) (i : Nat) : List ByteArray := (all.take i).foldl (fun U o => undIn procs U o.refs o.refs.length) []
theorem undIn_succ (procs : List ObjD) (U : List ByteArray) (refs : List RefD) (k : Nat) (h : k < refs.length) : undIn procs U refs (k + 1) = undStep procs (undIn procs U refs k) refs[k].name := by
  unfold undIn; rw [List.take_succ_eq_append_getElem h, List.foldl_append]; rfl
theorem undTo_succ (procs all : List ObjD) (i : Nat) (h : i < all.length) : undTo procs all (i + 1) = undIn procs (undTo procs all i) all[i].refs all[i].refs.length := by
  unfold undTo; rw [List.take_succ_eq_append_getElem h, List.foldl_append]; rfl

theorem undStep_ok (procs : List ObjD) (U : List ByteArray) (s : ByteArray) (h : Sorted U) : Sorted (undStep procs U s) ∧ (∀ x, x ∈ undStep procs U s ↔ x ∈ U ∨ (x = s ∧ ∀ o ∈ procs, o.name ≠ x)) ∧ (undStep procs U s).length ≤ U.length + 1 := by
  unfold undStep
  split
  · rename_i hf
    refine ⟨h, fun x => ⟨.inl, fun hx => ?_⟩, by omega⟩
    rcases hx with hx | ⟨rfl, hx⟩
    · exact hx
    · have := (findI_neg procs x).2 hx; omega
  · rename_i hf
    rw [insS_eq]
    refine ⟨insR_sorted s U h, fun x => ?_, ?_⟩
    · rw [insR_mem]
      constructor
      · rintro (rfl | hx)
        · exact .inr ⟨rfl, (findI_neg procs x).1 (by omega)⟩
        · exact .inl hx
      · rintro (hx | ⟨rfl, _⟩)
        · exact .inr hx
        · exact .inl rfl
    · rw [← insS_eq]
      unfold insS
      split
      · omega
      · simp; have := insAt_le s U; omega
theorem undFold_ok (procs : List ObjD) : ∀ (rs : List RefD) (U : List ByteArray), Sorted U → Sorted (rs.foldl (fun U r => undStep procs U r.name) U) ∧ (∀ x, x ∈ rs.foldl (fun U r => undStep procs U r.name) U ↔ x ∈ U ∨ ((∃ r ∈ rs, r.name = x) ∧ ∀ o ∈ procs, o.name ≠ x)) ∧ (rs.foldl (fun U r => undStep procs U r.name) U).length ≤ U.length + rs.length
  | [], U, h => by simp [h]
  | r :: rs, U, h => by
    obtain ⟨h1, h2, h3⟩ := undStep_ok procs U r.name h
    obtain ⟨h4, h5, h6⟩ := undFold_ok procs rs _ h1
    rw [List.foldl_cons]
    refine ⟨h4, fun x => ?_, by simp only [List.length_cons]; omega⟩
    rw [h5, h2]
    constructor
    · rintro ((hx | ⟨rfl, hx⟩) | ⟨⟨r', hr', e⟩, hx⟩)
      · exact .inl hx
      · exact .inr ⟨⟨r, by simp, rfl⟩, hx⟩
      · exact .inr ⟨⟨r', by simp [hr'], e⟩, hx⟩
    · rintro (hx | ⟨⟨r', hr', e⟩, hx⟩)
      · exact .inl (.inl hx)
      · rcases List.mem_cons.1 hr' with rfl | hr'
        · exact .inl (.inr ⟨e.symm, hx⟩)
        · exact .inr ⟨⟨r', hr', e⟩, hx⟩
theorem undTo_ok (procs : List ObjD) : ∀ (os : List ObjD) (U : List ByteArray), Sorted U → Sorted (os.foldl (fun U o => undIn procs U o.refs o.refs.length) U) ∧ (∀ x, x ∈ os.foldl (fun U o => undIn procs U o.refs o.refs.length) U ↔ x ∈ U ∨ ((∃ o ∈ os, ∃ r ∈ o.refs, r.name = x) ∧ ∀ o ∈ procs, o.name ≠ x))
  | [], U, h => by simp [h]
  | o :: os, U, h => by
    have h0 := undFold_ok procs (o.refs.take o.refs.length) U h
    rw [List.take_length] at h0
    have e0 : undIn procs U o.refs o.refs.length = o.refs.foldl (fun U r => undStep procs U r.name) U := by unfold undIn; rw [List.take_length]
    obtain ⟨h4, h5⟩ := undTo_ok procs os (undIn procs U o.refs o.refs.length) (by rw [e0]; exact h0.1)
    rw [List.foldl_cons]
    refine ⟨h4, fun x => ?_⟩
    rw [h5, e0, h0.2.1]
    constructor
    · rintro ((hx | ⟨⟨r, hr, e⟩, hx⟩) | ⟨⟨o', ho', e⟩, hx⟩)
      · exact .inl hx
      · exact .inr ⟨⟨o, by simp, r, hr, e⟩, hx⟩
      · exact .inr ⟨⟨o', by simp [ho'], e⟩, hx⟩
    · rintro (hx | ⟨⟨o', ho', r, hr, e⟩, hx⟩)
      · exact .inl (.inl hx)
      · rcases List.mem_cons.1 ho' with rfl | ho'
        · exact .inl (.inr ⟨⟨r, hr, e⟩, hx⟩)
        · exact .inr ⟨⟨o', ho', r, hr, e⟩, hx⟩

/-- names inserted one by one are the missing names, sorted -/
theorem und_eq (main : ObjD) (procs : List ObjD) : (undTo procs (main :: procs) (main :: procs).length).map (·.data.toList) = undefL main.refs procs := by
  have h := undTo_ok procs (main :: procs) [] (by simp [Sorted])
  have e0 : undTo procs (main :: procs) (main :: procs).length = (main :: procs).foldl (fun U o => undIn procs U o.refs o.refs.length) [] := by unfold undTo; rw [List.take_length]
  rw [← e0] at h
  clear e0
  obtain ⟨hs, hm⟩ := h
  generalize undTo procs (main :: procs) (main :: procs).length = U at *
  have hm' : ∀ x, x ∈ U ↔ x ∈ (missing main.refs procs).map (·.1) := by
    intro x
    rw [hm, missing_mem]
    unfold Refd
    constructor
    · rintro (hx | ⟨⟨o, ho, r, hr, e⟩, hx⟩)
      · cases hx
      · rcases List.mem_cons.1 ho with rfl | ho
        · exact ⟨.inl ⟨r, hr, e⟩, hx⟩
        · exact ⟨.inr ⟨o, ho, r, hr, e⟩, hx⟩
    · rintro ⟨⟨r, hr, e⟩ | ⟨o, ho, r, hr, e⟩, hx⟩
      · exact .inr ⟨⟨main, by simp, r, hr, e⟩, hx⟩
      · exact .inr ⟨⟨o, by simp [ho], r, hr, e⟩, hx⟩
  have hndU : U.Nodup := hs.imp fun {a b} h e => by subst e; exact List.lt_irrefl _ h
  have hperm : U.Perm ((missing main.refs procs).map (·.1)) := (List.perm_ext_iff_of_nodup hndU (missing_nodup _ _)).2 hm'
  have hp2 : (U.map (·.data.toList)).Perm ((missing main.refs procs).map fun p => p.1.data.toList) := by
    have := hperm.map (·.data.toList)
    rw [List.map_map] at this
    exact this
  unfold undefL
  rw [← mergeSort_of_perm hp2]
  symm
  apply List.mergeSort_of_pairwise
  rw [List.pairwise_map]
  exact hs.imp fun {a b} h => by simp only [decide_eq_true_eq]; exact List.le_of_lt h

end Go.Proofs.YtaabkaiifplhgaaDoor
