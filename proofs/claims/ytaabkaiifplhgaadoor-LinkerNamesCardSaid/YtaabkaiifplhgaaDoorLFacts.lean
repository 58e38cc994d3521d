/- Plain facts about linking: names given twice, names undefined, sizes. No program is named. -/
import Derived.Test.YtaabkaiifplhgaaDoorLLink
namespace Go.Proofs.YtaabkaiifplhgaaDoor
set_option linter.unusedSimpArgs false
set_option linter.unusedVariables false

theorem mset_mem {κ : Type} [BEq κ] [LawfulBEq κ] (k : κ) (v : Value) (x : κ) : ∀ (l : List (κ × Value)), x ∈ (mset k v l).map (·.1) ↔ x = k ∨ x ∈ l.map (·.1)
  | [] => by simp [mset]
  | (a, y) :: l => by
    have ih := mset_mem k v x l
    simp only [mset]
    split
    · rename_i h
      have : k = a := by simpa using h
      subst this; simp
    · simp only [List.map_cons, List.mem_cons, ih]
      constructor
      · rintro (h | h | h)
        · exact .inr (.inl h)
        · exact .inl h
        · exact .inr (.inr h)
      · rintro (h | h | h)
        · exact .inr (.inl h)
        · exact .inl h
        · exact .inr (.inr h)
theorem mfind_mem {κ : Type} [BEq κ] [LawfulBEq κ] (k : κ) : ∀ (l : List (κ × Value)) (i : Nat), (mfind k l i).isSome = true ↔ k ∈ l.map (·.1)
  | [], i => by simp [mfind]
  | (a, y) :: l, i => by
    have ih := mfind_mem k l (i + 1)
    simp only [mfind]
    split
    · rename_i h
      have : k = a := by simpa using h
      subst this; simp
    · rename_i h
      have : k ≠ a := by simpa using h
      simp [ih, this]
theorem mget_mem {κ : Type} [BEq κ] [LawfulBEq κ] (l : List (κ × Value)) (k : κ) : (mget l k).isSome = true ↔ k ∈ l.map (·.1) := by
  unfold mget
  rw [Option.isSome_map]; exact mfind_mem k l 0

theorem foldSet_mem {α : Type} (f : α → ByteArray) (v : α → Value) (x : ByteArray) : ∀ (L : List α) (m : List (ByteArray × Value)), x ∈ (L.foldl (fun m o => mset (f o) (v o) m) m).map (·.1) ↔ x ∈ m.map (·.1) ∨ ∃ o ∈ L, f o = x
  | [], m => by simp
  | a :: L, m => by
    rw [List.foldl_cons, foldSet_mem f v x L, mset_mem]
    constructor
    · rintro ((h | h) | ⟨o, h, e⟩)
      · exact .inr ⟨a, by simp, h.symm⟩
      · exact .inl h
      · exact .inr ⟨o, by simp [h], e⟩
    · rintro (h | ⟨o, h, e⟩)
      · exact .inl (.inr h)
      · rcases List.mem_cons.1 h with rfl | h
        · exact .inl (.inl e.symm)
        · exact .inr ⟨o, h, e⟩

/-- a name that is referenced -/
def Refd (mr : List RefD) (procs : List ObjD) (x : ByteArray) : Prop := (∃ r ∈ mr, r.name = x) ∨ ∃ o ∈ procs, ∃ r ∈ o.refs, r.name = x

theorem refMap_mem (m : List (ByteArray × Value)) (refs : List RefD) (x : ByteArray) : x ∈ (refMap m refs refs.length).map (·.1) ↔ x ∈ m.map (·.1) ∨ ∃ r ∈ refs, r.name = x := by
  unfold refMap
  rw [List.take_length]
  exact foldSet_mem RefD.name (fun _ => .bool true) x refs m
theorem foldRefs_mem (x : ByteArray) : ∀ (L : List ObjD) (m : List (ByteArray × Value)), x ∈ (L.foldl (fun m o => refMap m o.refs o.refs.length) m).map (·.1) ↔ x ∈ m.map (·.1) ∨ ∃ o ∈ L, ∃ r ∈ o.refs, r.name = x
  | [], m => by simp
  | a :: L, m => by
    rw [List.foldl_cons, foldRefs_mem x L, refMap_mem]
    constructor
    · rintro ((h | ⟨r, h, e⟩) | ⟨o, h, e⟩)
      · exact .inl h
      · exact .inr ⟨a, by simp, r, h, e⟩
      · exact .inr ⟨o, by simp [h], e⟩
    · rintro (h | ⟨o, h, e⟩)
      · exact .inl (.inl h)
      · rcases List.mem_cons.1 h with rfl | h
        · exact .inl (.inr e)
        · exact .inr ⟨o, h, e⟩
theorem allMap_mem (mr : List RefD) (procs : List ObjD) (x : ByteArray) : x ∈ (allMap mr procs procs.length).map (·.1) ↔ Refd mr procs x := by
  unfold allMap
  rw [List.take_length, foldRefs_mem, refMap_mem]
  simp [Refd]
theorem foldRefs_nodup : ∀ (L : List ObjD) (m : List (ByteArray × Value)), (m.map (·.1)).Nodup → ((L.foldl (fun m o => refMap m o.refs o.refs.length) m).map (·.1)).Nodup
  | [], m, h => h
  | a :: L, m, h => by
    rw [List.foldl_cons]
    exact foldRefs_nodup L _ (refMap_keys a.refs _ _ (Nat.le_refl _) h).1
theorem allMap_nodup (mr : List RefD) (procs : List ObjD) : ((allMap mr procs procs.length).map (·.1)).Nodup := by
  unfold allMap
  exact foldRefs_nodup _ _ (refMap_keys mr _ _ (Nat.le_refl _) (by simp)).1
theorem foldDel_mem (x : ByteArray) : ∀ (L : List ObjD) (m : List (ByteArray × Value)), (m.map (·.1)).Nodup → (x ∈ (L.foldl (fun m o => mdel o.name m) m).map (·.1) ↔ x ∈ m.map (·.1) ∧ ∀ o ∈ L, o.name ≠ x) ∧ ((L.foldl (fun m o => mdel o.name m) m).map (·.1)).Nodup
  | [], m, h => by simpa using h
  | a :: L, m, h => by
    obtain ⟨h1, h2⟩ := mdel_keys a.name m h
    obtain ⟨h3, h4⟩ := foldDel_mem x L (mdel a.name m) h1
    rw [List.foldl_cons]
    refine ⟨?_, h4⟩
    rw [h3, h2]
    constructor
    · rintro ⟨⟨h5, h6⟩, h7⟩
      refine ⟨h6, fun o ho => ?_⟩
      rcases List.mem_cons.1 ho with rfl | ho
      · exact fun e => h5 e.symm
      · exact h7 o ho
    · rintro ⟨h5, h6⟩
      exact ⟨⟨fun e => h6 a (by simp) e.symm, h5⟩, fun o ho => h6 o (by simp [ho])⟩
theorem missing_mem (mr : List RefD) (procs : List ObjD) (x : ByteArray) : x ∈ (missing mr procs).map (·.1) ↔ Refd mr procs x ∧ ∀ o ∈ procs, o.name ≠ x := by
  have h := (foldDel_mem x procs _ (allMap_nodup mr procs)).1
  unfold missing delMap
  rw [List.take_length, h, allMap_mem]
theorem missing_nodup (mr : List RefD) (procs : List ObjD) : ((missing mr procs).map (·.1)).Nodup := by
  have h := (foldDel_mem ⟨#[]⟩ procs _ (allMap_nodup mr procs)).2
  unfold missing delMap
  rw [List.take_length]; exact h
theorem undefL_len (mr : List RefD) (procs : List ObjD) : (undefL mr procs).length = (missing mr procs).length := by simp [undefL]
theorem undefL_nil (mr : List RefD) (procs : List ObjD) : undefL mr procs = [] ↔ ∀ x, Refd mr procs x → ∃ o ∈ procs, o.name = x := by
  constructor
  · intro h x hx
    have h1 : missing mr procs = [] := List.eq_nil_of_length_eq_zero (by rw [← undefL_len, h]; rfl)
    apply Classical.byContradiction
    intro hn
    have h2 := (missing_mem mr procs x).2 ⟨hx, fun o ho e => hn ⟨o, ho, e⟩⟩
    rw [h1] at h2; simp at h2
  · intro h
    apply List.eq_nil_of_length_eq_zero
    rw [undefL_len]
    cases hm : missing mr procs with
    | nil => rfl
    | cons p l =>
      exfalso
      have h2 := (missing_mem mr procs p.1).1 (by rw [hm]; simp)
      obtain ⟨o, ho, e⟩ := h p.1 h2.1
      exact h2.2 o ho e

theorem givenTo_mem (procs : List ObjD) (k : Nat) (x : ByteArray) : x ∈ (givenTo procs k).map (·.1) ↔ ∃ o ∈ procs.take k, o.name = x := by
  unfold givenTo
  rw [foldSet_mem ObjD.name (fun _ => .bool true) x]
  simp
theorem twice_iff (procs : List ObjD) : twiceTo procs procs.length = false ↔ (procs.map ObjD.name).Nodup := by
  unfold List.Nodup
  rw [List.pairwise_iff_getElem]
  simp only [List.length_map, List.getElem_map]
  constructor
  · intro h i j hi hj hij e
    have h1 : twiceTo procs procs.length = true := by
      unfold twiceTo
      refine List.any_eq_true.2 ⟨j, List.mem_range.2 hj, ?_⟩
      rw [List.getElem?_eq_getElem hj]
      refine (mget_mem _ _).2 ((givenTo_mem _ _ _).2 ⟨procs[i], ?_, e⟩)
      rw [List.mem_iff_getElem?]
      exact ⟨i, by rw [List.getElem?_take, if_pos hij, List.getElem?_eq_getElem hi]⟩
    rw [h] at h1; cases h1
  · intro h
    apply Bool.eq_false_iff.2
    intro ht
    unfold twiceTo at ht
    obtain ⟨j, hj, h1⟩ := List.any_eq_true.1 ht
    have hjl := List.mem_range.1 hj
    rw [List.getElem?_eq_getElem hjl] at h1
    obtain ⟨o, ho, e⟩ := (givenTo_mem _ _ _).1 ((mget_mem _ _).1 h1)
    obtain ⟨i, hi⟩ := List.mem_iff_getElem?.1 ho
    rw [List.getElem?_take] at hi
    split at hi
    · rename_i hij
      have hil : i < procs.length := by omega
      rw [List.getElem?_eq_getElem hil] at hi
      simp at hi
      subst hi
      exact h i j hil hjl hij e
    · cases hi

/-- what can be linked but for sizes -/
structure Fit (main : ObjD) (procs : List ObjD) : Prop where
  mc : main.chk = 0
  pc : ∀ o ∈ procs, o.chk = 0
  mn : main.name.size = 0
  pn : ∀ o ∈ procs, o.name.size ≠ 0
  nd : (procs.map ObjD.name).Nodup
  df : ∀ x, Refd main.refs procs x → ∃ o ∈ procs, o.name = x

theorem firstErr_ok {l : List ObjD} (h : ∀ o ∈ l, o.chk = 0) : firstErr l = 0 := firstErr_none l (fun _ hj => h _ (List.getElem_mem hj))
theorem firstErr_app : ∀ {l : List ObjD} (x : ObjD), (∀ o ∈ l, o.chk = 0) → firstErr (l ++ [x]) = x.chk
  | [], x, _ => by simp only [List.nil_append, firstErr]; split <;> simp_all
  | a :: l, x, h => by
    have h1 := h a (by simp)
    simp only [List.cons_append, firstErr, h1, ne_eq, not_true_eq_false, if_false]
    exact firstErr_app x (fun o ho => h o (by simp [ho]))

theorem linkErr_iff (main : ObjD) (procs : List ObjD) : linkErr main procs = 0 ↔ Fit main procs := by
  constructor
  · intro h
    obtain ⟨h1, h2, h3, h4, h5, h6⟩ := linkErr_zero h
    refine ⟨h1, h2, h3, fun o ho e => ?_, (twice_iff procs).1 h5, (undefL_nil _ _).1 h6⟩
    have := List.any_eq_false.1 h4 o ho
    simp [e] at this
  · intro h
    unfold linkErr
    rw [if_neg (by simp [h.mc]), if_neg (by simp [firstErr_ok h.pc]), if_neg (by simp [h.mn]), if_neg ?_, if_neg (by rw [(twice_iff procs).2 h.nd]; simp), if_neg (by rw [(undefL_nil _ _).2 h.df]; simp)]
    intro ha
    obtain ⟨o, ho, e⟩ := List.any_eq_true.1 ha
    exact h.pn o ho (by simpa using e)

theorem linkD_zero (main : ObjD) (procs : List ObjD) : (linkD main procs).err = 0 ↔ Fit main procs ∧ tooBig main procs = false := by
  rw [← linkErr_iff]
  unfold linkD
  split
  · rename_i h
    constructor
    · intro e; exact absurd e h
    · intro e; exact absurd e.1 h
  · rename_i h
    have h0 : linkErr main procs = 0 := Classical.byContradiction h
    split
    · rename_i hb
      simp [hb]
    · rename_i hb
      simp [h0, hb]
theorem linkD_err {main : ObjD} {procs : List ObjD} (h : linkErr main procs ≠ 0) : linkD main procs = ⟨[], 0, 0, [], linkErr main procs⟩ := if_pos h
theorem linkD_ok {main : ObjD} {procs : List ObjD} (h : (linkD main procs).err = 0) : linkD main procs = ⟨codeTo main procs (startsTo main procs procs.length) procs.length, memOf main procs, stacksOf main procs, symsTo main procs procs.length, 0⟩ := by
  obtain ⟨h1, h2⟩ := (linkD_zero main procs).1 h
  have h0 := (linkErr_iff main procs).2 h1
  unfold linkD
  rw [if_neg (by simp [h0]), if_neg (by simp [h2])]

theorem foldMax_le (f : ObjD → Int) (B : Int) : ∀ (l : List ObjD) (a : Int), l.foldl (fun m o => max m (f o)) a ≤ B ↔ a ≤ B ∧ ∀ o ∈ l, f o ≤ B
  | [], a => by simp
  | x :: l, a => by
    rw [List.foldl_cons, foldMax_le f B l]
    constructor
    · rintro ⟨h1, h2⟩
      refine ⟨by omega, fun o ho => ?_⟩
      rcases List.mem_cons.1 ho with rfl | ho
      · omega
      · exact h2 o ho
    · rintro ⟨h1, h2⟩
      have := h2 x (by simp)
      exact ⟨by omega, fun o ho => h2 o (by simp [ho])⟩
theorem maxTo_le (f : ObjD → Int) (procs : List ObjD) (B : Int) : maxTo f procs procs.length ≤ B ↔ 0 ≤ B ∧ ∀ o ∈ procs, f o ≤ B := by
  unfold maxTo; rw [List.take_length]; exact foldMax_le f B procs 0
theorem maxTo_sub (f : ObjD → Int) {p q : List ObjD} (h : ∀ o ∈ p, o ∈ q) : maxTo f p p.length ≤ maxTo f q q.length := by
  have h1 := (maxTo_le f q _).1 (Int.le_refl (maxTo f q q.length))
  exact (maxTo_le f p _).2 ⟨h1.1, fun o ho => h1.2 o (h o ho)⟩

/-- the size of the code -/
theorem startAt_all (main : ObjD) (procs : List ObjD) : startAt main procs procs.length = main.code.length + 1 + (procs.map fun o => o.code.length + 2).sum := by
  unfold startAt; rw [List.take_length]
theorem sum_sublist {p q : List Nat} (h : p.Sublist q) : p.sum ≤ q.sum := by
  induction h with
  | slnil => simp
  | cons a _ ih => simp; omega
  | cons_cons a _ ih => simp; omega
theorem startAt_sub (main : ObjD) {p q : List ObjD} (h : p.Sublist q) : startAt main p p.length ≤ startAt main q q.length := by
  rw [startAt_all, startAt_all]
  have := sum_sublist (h.map fun o => o.code.length + 2)
  omega
theorem tooBig_iff (main : ObjD) (procs : List ObjD) : tooBig main procs = false ↔ startAt main procs procs.length ≤ 65536 ∧ memOf main procs ≤ 16384 ∧ stacksOf main procs ≤ 16384 := by
  unfold tooBig
  simp [Bool.or_eq_false_iff]
theorem memOf_sub (main : ObjD) {p q : List ObjD} (h : ∀ o ∈ p, o ∈ q) : memOf main p ≤ memOf main q := by
  have := maxTo_sub ObjD.cells h
  unfold memOf; omega
theorem stacksOf_sub (main : ObjD) {p q : List ObjD} (h : ∀ o ∈ p, o ∈ q) : stacksOf main p ≤ stacksOf main q := by
  have := maxTo_sub ObjD.stacks h
  unfold stacksOf; omega
theorem tooBig_sub (main : ObjD) {p q : List ObjD} (h : p.Sublist q) (hb : tooBig main q = false) : tooBig main p = false := by
  have hs : ∀ o ∈ p, o ∈ q := fun o ho => h.subset ho
  rw [tooBig_iff] at hb ⊢
  have h1 := startAt_sub main h
  have h2 := memOf_sub main hs
  have h3 := stacksOf_sub main hs
  exact ⟨by omega, by omega, by omega⟩

/-- LinkerErrors, in plain words -/
theorem errs_plain {main : ObjD} {procs : List ObjD} (i : Nat) (hi : i < procs.length) (h : (linkD main procs).err = 0) :
    (linkD procs[i] procs).err = 3 ∧ (linkD main (procs ++ [main])).err = 3 ∧ (linkD main (procs ++ [procs[i]])).err = 22 ∧ ({ procs[i] with cells := 16385 } : ObjD).chk = 3 ∧ (linkD main (procs ++ [{ procs[i] with cells := 16385 }])).err = 3 := by
  obtain ⟨hf, _⟩ := (linkD_zero main procs).1 h
  have hm := List.getElem_mem hi
  have e1 : linkErr procs[i] procs = 3 := by
    unfold linkErr
    rw [if_neg (by simp [hf.pc _ hm]), if_neg (by simp [firstErr_ok hf.pc]), if_pos (hf.pn _ hm)]
  have e2 : linkErr main (procs ++ [main]) = 3 := by
    unfold linkErr
    rw [if_neg (by simp [hf.mc]), if_neg (by simp [firstErr_app main hf.pc, hf.mc]), if_neg (by simp [hf.mn]), if_pos (List.any_eq_true.2 ⟨main, by simp, by simp [hf.mn]⟩)]
  have hany : ¬ ((procs ++ [procs[i]]).any fun o => decide (o.name.size = 0)) = true := by
    intro ha
    obtain ⟨o, ho, e⟩ := List.any_eq_true.1 ha
    rcases List.mem_append.1 ho with ho | ho
    · exact hf.pn o ho (by simpa using e)
    · simp at ho; subst ho; exact hf.pn _ hm (by simpa using e)
  have e3 : linkErr main (procs ++ [procs[i]]) = 22 := by
    unfold linkErr
    rw [if_neg (by simp [hf.mc]), if_neg (by simp [firstErr_app _ hf.pc, hf.pc _ hm]), if_neg (by simp [hf.mn]), if_neg hany, if_pos ?_]
    · cases ht : twiceTo (procs ++ [procs[i]]) (procs ++ [procs[i]]).length with
      | true => rfl
      | false =>
        exfalso
        have := (twice_iff _).1 ht
        rw [List.map_append, List.nodup_append] at this
        exact this.2.2 procs[i].name (List.mem_map.2 ⟨_, hm, rfl⟩) procs[i].name (by simp) rfl
  have e4 : ({ procs[i] with cells := 16385 } : ObjD).chk = 3 := by
    unfold ObjD.chk
    rw [if_pos (by simp [framB, numsB])]
  have e5 : linkErr main (procs ++ [{ procs[i] with cells := 16385 }]) = 3 := by
    unfold linkErr
    rw [if_neg (by simp [hf.mc]), if_pos (by rw [firstErr_app _ hf.pc, e4]; simp), firstErr_app _ hf.pc, e4]
  refine ⟨?_, ?_, ?_, e4, ?_⟩
  · rw [linkD_err (by rw [e1]; simp)]; exact e1
  · rw [linkD_err (by rw [e2]; simp)]; exact e2
  · rw [linkD_err (by rw [e3]; simp)]; exact e3
  · rw [linkD_err (by rw [e5]; simp)]; exact e5

theorem Fit.sub {main : ObjD} {p q : List ObjD} (h : Fit main q) (hs : p.Sublist q) (hd : undefL main.refs p = []) : Fit main p :=
  ⟨h.mc, fun o ho => h.pc o (hs.subset ho), h.mn, fun o ho => h.pn o (hs.subset ho), h.nd.sublist (hs.map _), (undefL_nil _ _).1 hd⟩

/-- LinkerMisses, in plain words -/
theorem miss_plain {main : ObjD} {procs : List ObjD} (i : Nat) (hi : i < procs.length) (h : (linkD main procs).err = 0) :
    (undefL main.refs (procs.take i ++ procs.drop (i + 1)) = [] → (linkD main (procs.take i ++ procs.drop (i + 1))).err = 0) ∧
    (undefL main.refs (procs.take i ++ procs.drop (i + 1)) ≠ [] → (linkD main (procs.take i ++ procs.drop (i + 1))).err = 6 ∧ undefL main.refs (procs.take i ++ procs.drop (i + 1)) = [procs[i].name.data.toList]) := by
  obtain ⟨hf, hb⟩ := (linkD_zero main procs).1 h
  have hpe : procs = procs.take i ++ procs[i] :: procs.drop (i + 1) := by
    rw [← List.drop_eq_getElem_cons hi, List.take_append_drop]
  have hsub : (procs.take i ++ procs.drop (i + 1)).Sublist procs := by
    conv => rhs; rw [hpe]
    exact List.Sublist.append (List.Sublist.refl _) (List.sublist_cons_self _ _)
  generalize hrest : procs.take i ++ procs.drop (i + 1) = rest at *
  constructor
  · intro hu
    exact (linkD_zero main rest).2 ⟨hf.sub hsub hu, tooBig_sub main hsub hb⟩
  · intro hu
    have hpc : ∀ o ∈ rest, o.chk = 0 := fun o ho => hf.pc o (hsub.subset ho)
    have hlen : 0 < (undefL main.refs rest).length := List.length_pos_iff.2 hu
    have e1 : linkErr main rest = 6 := by
      unfold linkErr
      rw [if_neg (by simp [hf.mc]), if_neg (by simp [firstErr_ok hpc]), if_neg (by simp [hf.mn]), if_neg ?_, if_neg (by rw [(twice_iff rest).2 (hf.nd.sublist (hsub.map _))]; simp), if_pos hlen]
      intro ha
      obtain ⟨o, ho, e⟩ := List.any_eq_true.1 ha
      exact hf.pn o (hsub.subset ho) (by simpa using e)
    refine ⟨by rw [linkD_err (by rw [e1]; simp)]; exact e1, ?_⟩
    have hall : ∀ x ∈ (missing main.refs rest).map (·.1), x = procs[i].name := by
      intro x hx
      obtain ⟨h1, h2⟩ := (missing_mem _ _ x).1 hx
      have h3 : Refd main.refs procs x := by
        rcases h1 with h1 | ⟨o, ho, h1⟩
        · exact .inl h1
        · exact .inr ⟨o, hsub.subset ho, h1⟩
      obtain ⟨o, ho, e⟩ := hf.df x h3
      rw [hpe] at ho
      rcases List.mem_append.1 ho with ho | ho
      · exact absurd e (h2 o (by rw [← hrest]; exact List.mem_append_left _ ho))
      · rcases List.mem_cons.1 ho with rfl | ho
        · exact e.symm
        · exact absurd e (h2 o (by rw [← hrest]; exact List.mem_append_right _ ho))
    have hnd := missing_nodup main.refs rest
    have hml := undefL_len main.refs rest
    unfold undefL
    cases hm : missing main.refs rest with
    | nil => rw [hml, hm] at hlen; simp at hlen
    | cons p l =>
      have hl : l = [] := by
        cases l with
        | nil => rfl
        | cons q l =>
          exfalso
          rw [hm] at hall hnd
          have h1 := hall p.1 (by simp)
          have h2 := hall q.1 (by simp)
          simp only [List.map_cons, List.nodup_cons, List.mem_cons, not_or] at hnd
          exact hnd.1.1 (h1.trans h2.symm)
      subst hl
      have h1 := hall p.1 (by rw [hm]; simp)
      simp [h1]

end Go.Proofs.YtaabkaiifplhgaaDoor
