/- What is reachable, in plain words: the closure, the linker's marks, the reference's rounds; LinkerReaches. No program is named. -/
import Derived.Test.YtaabkaiifplhgaaDoorLRefP
import Derived.Test.YtaabkaiifplhgaaDoorLUndP
namespace Go.Proofs.YtaabkaiifplhgaaDoor
set_option linter.unusedSimpArgs false
set_option linter.unusedVariables false
open Go.RowKit

theorem findFrom_at (procs : List ObjD) (s : ByteArray) : ∀ (f i j : Nat), findFrom procs s f i = (j : Int) → ∃ h : j < procs.length, procs[j].name = s ∧ i ≤ j
  | 0, i, j, h => by simp only [findFrom] at h; omega
  | f + 1, i, j, h => by
    simp only [findFrom] at h
    split at h
    · omega
    · rename_i o ho
      obtain ⟨hi, rfl⟩ := List.getElem?_eq_some_iff.1 ho
      split at h
      · rename_i he
        obtain rfl : i = j := by omega
        exact ⟨hi, eq_of_beq he, Nat.le_refl _⟩
      · obtain ⟨h1, h2, h3⟩ := findFrom_at procs s f (i + 1) j h
        exact ⟨h1, h2, by omega⟩
theorem findI_at {procs : List ObjD} {s : ByteArray} {j : Nat} (h : findI procs s = (j : Int)) : ∃ h : j < procs.length, procs[j].name = s := by
  obtain ⟨h1, h2, _⟩ := findFrom_at procs s _ _ j h
  exact ⟨h1, h2⟩

/-- a procedure that these references name -/
def Edge (procs : List ObjD) (refs : List RefD) (j : Nat) : Prop := ∃ r ∈ refs, findI procs r.name = (j : Int)
theorem Edge.lt {procs : List ObjD} {refs : List RefD} {j : Nat} (h : Edge procs refs j) : j < procs.length := by
  obtain ⟨r, _, h⟩ := h
  exact (findI_at h).1
/-- the procedures that main, or one that is reached, references -/
inductive Reach (main : ObjD) (procs : List ObjD) : Nat → Prop
  | main {j : Nat} (h : Edge procs main.refs j) : Reach main procs j
  | step {i j : Nat} {o : ObjD} (hi : Reach main procs i) (ho : procs[i]? = some o) (h : Edge procs o.refs j) : Reach main procs j
theorem Reach.lt {main : ObjD} {procs : List ObjD} {j : Nat} (h : Reach main procs j) : j < procs.length := by
  cases h with
  | main h => exact h.lt
  | step _ _ h => exact h.lt

def SoundB (main : ObjD) (procs : List ObjD) (B : List Bool) : Prop := ∀ j : Nat, B[j]? = some true → Reach main procs j
def ClosedB (main : ObjD) (procs : List ObjD) (B : List Bool) : Prop := (∀ j, Edge procs main.refs j → B[j]? = some true) ∧ ∀ (i : Nat) (o : ObjD), procs[i]? = some o → B[i]? = some true → ∀ j, Edge procs o.refs j → B[j]? = some true
theorem reach_iff {main : ObjD} {procs : List ObjD} {B : List Bool} (hs : SoundB main procs B) (hc : ClosedB main procs B) (j : Nat) : B[j]? = some true ↔ Reach main procs j := by
  refine ⟨hs j, fun h => ?_⟩
  induction h with
  | main h => exact hc.1 _ h
  | step _ ho h ih => exact hc.2 _ _ ho ih _ h

open Classical in
noncomputable def reachB (main : ObjD) (procs : List ObjD) (i : Nat) : Bool := decide (Reach main procs i)
/-- the reachable ones among the first k -/
noncomputable def reachTo (main : ObjD) (procs : List ObjD) (k : Nat) : List Nat := (List.range k).filter (reachB main procs)
noncomputable def reachIx (main : ObjD) (procs : List ObjD) : List Nat := reachTo main procs procs.length
noncomputable def reachL (main : ObjD) (procs : List ObjD) : List ObjD := (reachIx main procs).filterMap (procs[·]?)
theorem reachB_iff {main : ObjD} {procs : List ObjD} {i : Nat} : reachB main procs i = true ↔ Reach main procs i := by simp [reachB]
theorem reachTo_succ (main : ObjD) (procs : List ObjD) (k : Nat) : reachTo main procs (k + 1) = reachTo main procs k ++ if reachB main procs k then [k] else [] := by
  unfold reachTo
  rw [List.range_succ, List.filter_append]
  congr 1
  simp only [List.filter_cons, List.filter_nil]
theorem reachTo_lt {main : ObjD} {procs : List ObjD} {k i : Nat} (h : i ∈ reachTo main procs k) : i < k := by
  unfold reachTo at h; simp at h; exact h.1
theorem reachTo_len (main : ObjD) (procs : List ObjD) (k : Nat) : (reachTo main procs k).length ≤ k := by
  have := List.length_filter_le (reachB main procs) (List.range k)
  simpa [reachTo] using this

/-- marks -/
def mark (B : List Bool) (j : Int) : List Bool := if 0 ≤ j then B.set j.toNat true else B
def markRefs (procs : List ObjD) (B : List Bool) (refs : List RefD) : List Bool := refs.foldl (fun B r => mark B (findI procs r.name)) B
theorem mark_len (B : List Bool) (j : Int) : (mark B j).length = B.length := by unfold mark; split <;> simp
theorem mark_get (B : List Bool) (j : Int) (x : Nat) : (mark B j)[x]? = some true ↔ B[x]? = some true ∨ (x < B.length ∧ j = x) := by
  unfold mark
  split
  · rename_i hj
    rw [List.getElem?_set]
    split
    · rename_i e
      subst e
      split
      · rename_i hl
        simp only [true_iff]
        exact .inr ⟨hl, by omega⟩
      · rename_i hl
        simp only [reduceCtorEq, false_iff]
        rintro (h | ⟨h, _⟩)
        · exact hl (List.getElem?_eq_some_iff.1 h).1
        · exact hl h
    · rename_i e
      constructor
      · exact .inl
      · rintro (h | ⟨_, h⟩)
        · exact h
        · omega
  · rename_i hj
    constructor
    · exact .inl
    · rintro (h | ⟨_, h⟩)
      · exact h
      · omega
theorem markRefs_len (procs : List ObjD) : ∀ (refs : List RefD) (B : List Bool), (markRefs procs B refs).length = B.length
  | [], B => rfl
  | r :: l, B => by
    have ih := markRefs_len procs l (mark B (findI procs r.name))
    rw [mark_len] at ih
    exact ih
theorem markRefs_get (procs : List ObjD) (x : Nat) : ∀ (refs : List RefD) (B : List Bool), B.length = procs.length → ((markRefs procs B refs)[x]? = some true ↔ B[x]? = some true ∨ Edge procs refs x)
  | [], B, _ => by simp [markRefs, Edge]
  | r :: l, B, hB => by
    have ih := markRefs_get procs x l (mark B (findI procs r.name)) (by rw [mark_len, hB])
    have e : markRefs procs B (r :: l) = markRefs procs (mark B (findI procs r.name)) l := rfl
    rw [e, ih, mark_get]
    constructor
    · rintro ((h | ⟨_, h⟩) | ⟨r', hr', h⟩)
      · exact .inl h
      · exact .inr ⟨r, by simp, h⟩
      · exact .inr ⟨r', by simp [hr'], h⟩
    · rintro (h | ⟨r', hr', h⟩)
      · exact .inl (.inl h)
      · rcases List.mem_cons.1 hr' with rfl | hr'
        · exact .inl (.inr ⟨by rw [hB]; exact (findI_at h).1, h⟩)
        · exact .inr ⟨r', hr', h⟩
theorem markRefs_snoc (procs : List ObjD) (B : List Bool) (refs : List RefD) (k : Nat) (h : k < refs.length) : markRefs procs B (refs.take (k + 1)) = mark (markRefs procs B (refs.take k)) (findI procs refs[k].name) := by
  unfold markRefs
  rw [List.take_succ_eq_append_getElem h, List.foldl_append]
  rfl

/-- what one round of the reference makes of the marks, up to the i-th procedure -/
def roundTo (main : ObjD) (procs : List ObjD) (B : List Bool) : Nat → List Bool
  | 0 => markRefs procs B main.refs
  | i + 1 => match procs[i]? with
    | none => roundTo main procs B i
    | some o => if (roundTo main procs B i)[i]? = some true then markRefs procs (roundTo main procs B i) o.refs else roundTo main procs B i
def rounds (main : ObjD) (procs : List ObjD) : Nat → List Bool
  | 0 => List.replicate procs.length false
  | r + 1 => roundTo main procs (rounds main procs r) procs.length
theorem roundTo_len (main : ObjD) (procs : List ObjD) (B : List Bool) : ∀ i, (roundTo main procs B i).length = B.length
  | 0 => markRefs_len _ _ _
  | i + 1 => by
    have ih := roundTo_len main procs B i
    simp only [roundTo]
    split
    · exact ih
    · split
      · rw [markRefs_len, ih]
      · exact ih
theorem rounds_len (main : ObjD) (procs : List ObjD) : ∀ r, (rounds main procs r).length = procs.length
  | 0 => by simp [rounds]
  | r + 1 => by rw [rounds, roundTo_len, rounds_len]
theorem roundTo_sub (main : ObjD) (procs : List ObjD) (B : List Bool) (hB : B.length = procs.length) (x : Nat) (h : B[x]? = some true) : ∀ i, (roundTo main procs B i)[x]? = some true
  | 0 => (markRefs_get procs x _ _ hB).2 (.inl h)
  | i + 1 => by
    have ih := roundTo_sub main procs B hB x h i
    simp only [roundTo]
    split
    · exact ih
    · split
      · exact (markRefs_get procs x _ _ (by rw [roundTo_len, hB])).2 (.inl ih)
      · exact ih
theorem roundTo_up (main : ObjD) (procs : List ObjD) (B : List Bool) (hB : B.length = procs.length) (x i : Nat) (h : (roundTo main procs B i)[x]? = some true) : ∀ d, (roundTo main procs B (i + d))[x]? = some true
  | 0 => h
  | d + 1 => by
    have ih := roundTo_up main procs B hB x i h d
    rw [← Nat.add_assoc]
    simp only [roundTo]
    split
    · exact ih
    · split
      · exact (markRefs_get procs x _ _ (by rw [roundTo_len, hB])).2 (.inl ih)
      · exact ih
theorem roundTo_sound (main : ObjD) (procs : List ObjD) (B : List Bool) (hB : B.length = procs.length) (hs : SoundB main procs B) : ∀ i, SoundB main procs (roundTo main procs B i)
  | 0 => fun j hj => by
    rcases (markRefs_get procs j _ _ hB).1 hj with h | h
    · exact hs j h
    · exact .main h
  | i + 1 => fun j hj => by
    have ih := roundTo_sound main procs B hB hs i
    simp only [roundTo] at hj
    split at hj
    · exact ih j hj
    · rename_i o ho
      split at hj
      · rename_i hi
        rcases (markRefs_get procs j _ _ (by rw [roundTo_len, hB])).1 hj with h | h
        · exact ih j h
        · exact .step (ih i hi) ho h
      · exact ih j hj
/-- a round after which nothing has turned was closed; a closed one turns nothing -/
theorem roundTo_closed (main : ObjD) (procs : List ObjD) (B : List Bool) (hB : B.length = procs.length) (hc : ClosedB main procs B) (x : Nat) : ∀ i, (roundTo main procs B i)[x]? = some true → B[x]? = some true
  | 0 => fun h => by
    rcases (markRefs_get procs x _ _ hB).1 h with h | h
    · exact h
    · exact hc.1 x h
  | i + 1 => fun hx => by
    simp only [roundTo] at hx
    split at hx
    · exact roundTo_closed main procs B hB hc x i hx
    · rename_i o ho
      split at hx
      · rename_i hi
        rcases (markRefs_get procs x _ _ (by rw [roundTo_len, hB])).1 hx with h | h
        · exact roundTo_closed main procs B hB hc x i h
        · exact hc.2 i o ho (roundTo_closed main procs B hB hc i i hi) x h
      · exact roundTo_closed main procs B hB hc x i hx
theorem round_still (main : ObjD) (procs : List ObjD) (B : List Bool) (hB : B.length = procs.length) (h : ∀ x : Nat, (roundTo main procs B procs.length)[x]? = some true → B[x]? = some true) : ClosedB main procs B := by
  refine ⟨fun j hj => h j ?_, fun i o ho hi j hj => h j ?_⟩
  · have := roundTo_up main procs B hB j 0 ((markRefs_get procs j _ _ hB).2 (.inr hj)) procs.length
    simpa using this
  · have hl : i < procs.length := (List.getElem?_eq_some_iff.1 ho).1
    have h1 : (roundTo main procs B (i + 1))[j]? = some true := by
      simp only [roundTo, ho]
      rw [if_pos (roundTo_sub main procs B hB i hi i)]
      exact (markRefs_get procs j _ _ (by rw [roundTo_len, hB])).2 (.inr hj)
    have := roundTo_up main procs B hB j (i + 1) h1 (procs.length - (i + 1))
    rwa [show i + 1 + (procs.length - (i + 1)) = procs.length by omega] at this
def cnt (B : List Bool) : Nat := B.countP (fun b => b)
theorem cnt_grow : ∀ (A B : List Bool), A.length = B.length → (∀ x : Nat, A[x]? = some true → B[x]? = some true) → cnt A ≤ cnt B ∧ ((∃ x : Nat, B[x]? = some true ∧ ¬ A[x]? = some true) → cnt A < cnt B)
  | [], [], _, _ => ⟨Nat.le_refl _, fun ⟨x, h, _⟩ => by simp at h⟩
  | a :: A, b :: B, hl, h => by
    have ih := cnt_grow A B (by simpa using hl) (fun x hx => by simpa using h (x + 1) (by simpa using hx))
    have h0 : a = true → b = true := fun e => by simpa using h 0 (by simp [e])
    unfold cnt at ih ⊢
    simp only [List.countP_cons]
    refine ⟨?_, fun ⟨x, hx, hn⟩ => ?_⟩
    · cases a <;> cases b <;> simp_all <;> omega
    · cases x with
      | zero =>
        simp at hx hn
        subst hx hn
        simp; omega
      | succ x =>
        have := ih.2 ⟨x, by simpa using hx, by simpa using hn⟩
        cases a <;> cases b <;> simp_all <;> omega
theorem rounds_sound (main : ObjD) (procs : List ObjD) : ∀ r, SoundB main procs (rounds main procs r)
  | 0 => fun j hj => by simp [rounds, List.getElem?_replicate] at hj
  | r + 1 => roundTo_sound main procs _ (rounds_len _ _ _) (rounds_sound main procs r) _
theorem rounds_closed (main : ObjD) (procs : List ObjD) : ∀ r, ClosedB main procs (rounds main procs r) ∨ r ≤ cnt (rounds main procs r)
  | 0 => .inr (Nat.zero_le _)
  | r + 1 => by
    have hl := rounds_len main procs r
    have hsub := fun (x : Nat) h => roundTo_sub main procs (rounds main procs r) hl x h procs.length
    have hg := cnt_grow (rounds main procs r) (rounds main procs (r + 1)) (by rw [rounds_len, rounds_len]) hsub
    by_cases hc : ClosedB main procs (rounds main procs r)
    · left
      have e : ∀ x : Nat, (rounds main procs (r + 1))[x]? = some true ↔ (rounds main procs r)[x]? = some true := fun x => ⟨roundTo_closed main procs _ hl hc x _, hsub x⟩
      exact ⟨fun j hj => (e j).2 (hc.1 j hj), fun i o ho hi j hj => (e j).2 (hc.2 i o ho ((e i).1 hi) j hj)⟩
    · right
      have hx : ∃ x : Nat, (rounds main procs (r + 1))[x]? = some true ∧ ¬ (rounds main procs r)[x]? = some true := by
        refine Classical.byContradiction fun hn => hc (round_still main procs _ hl fun x hx => ?_)
        exact Classical.byContradiction fun h => hn ⟨x, hx, h⟩
      rcases rounds_closed main procs r with h | h
      · exact absurd h hc
      · have := hg.2 hx; omega
theorem rounds_all (main : ObjD) (procs : List ObjD) (j : Nat) : (rounds main procs (procs.length + 1))[j]? = some true ↔ Reach main procs j := by
  refine reach_iff (rounds_sound _ _ _) ?_ j
  rcases rounds_closed main procs (procs.length + 1) with h | h
  · exact h
  · have : cnt (rounds main procs (procs.length + 1)) ≤ (rounds main procs (procs.length + 1)).length := List.countP_le_length
    rw [rounds_len] at this
    omega

/-- the reachable ones are given ones, in their order -/
theorem reachL_sub (main : ObjD) (procs : List ObjD) : (reachL main procs).Sublist procs := by
  have h : ((List.range procs.length).filterMap (procs[·]?)) = procs := by
    apply List.ext_getElem?
    intro i
    have : ∀ k, k ≤ procs.length → (List.range k).filterMap (procs[·]?) = procs.take k := by
      intro k
      induction k with
      | zero => intro _; simp
      | succ k ih =>
        intro hk
        rw [List.range_succ, List.filterMap_append, ih (by omega), List.take_succ_eq_append_getElem (by omega)]
        simp [List.getElem?_eq_getElem (show k < procs.length by omega)]
    rw [this _ (Nat.le_refl _), List.take_length]
  have h2 : (reachL main procs).Sublist ((List.range procs.length).filterMap (procs[·]?)) := List.Sublist.filterMap _ List.filter_sublist
  rwa [h] at h2
theorem reachL_mem {main : ObjD} {procs : List ObjD} {o : ObjD} : o ∈ reachL main procs ↔ ∃ i, Reach main procs i ∧ procs[i]? = some o := by
  unfold reachL reachIx reachTo
  rw [List.mem_filterMap]
  constructor
  · rintro ⟨i, hi, ho⟩
    exact ⟨i, reachB_iff.1 (List.mem_filter.1 hi).2, ho⟩
  · rintro ⟨i, hi, ho⟩
    exact ⟨i, List.mem_filter.2 ⟨List.mem_range.2 hi.lt, reachB_iff.2 hi⟩, ho⟩
theorem findI_mem {procs : List ObjD} (nd : (procs.map ObjD.name).Nodup) {o : ObjD} {i : Nat} (h : procs[i]? = some o) : findI procs o.name = i := by
  obtain ⟨hi, rfl⟩ := List.getElem?_eq_some_iff.1 h
  refine findI_eq procs _ i hi rfl fun j hj e => ?_
  have h1 := List.pairwise_iff_getElem.1 nd j i (by simp; omega) (by simpa using hi) hj
  simp at h1
  exact h1 e
theorem reach_again {main : ObjD} {procs : List ObjD} (nd : (procs.map ObjD.name).Nodup) {i : Nat} (h : Reach main procs i) : ∃ (i' : Nat) (o : ObjD), procs[i]? = some o ∧ (reachL main procs)[i']? = some o ∧ Reach main (reachL main procs) i' := by
  have nd2 : ((reachL main procs).map ObjD.name).Nodup := nd.sublist ((reachL_sub main procs).map _)
  have key : ∀ (refs : List RefD) (j : Nat), Edge procs refs j → Reach main procs j → ∃ (i' : Nat) (o : ObjD), procs[j]? = some o ∧ (reachL main procs)[i']? = some o ∧ Edge (reachL main procs) refs i' := by
    intro refs j ⟨r, hr, hf⟩ hj
    obtain ⟨hjl, hn⟩ := findI_at hf
    have ho : procs[j]? = some procs[j] := List.getElem?_eq_getElem hjl
    obtain ⟨i', hi'⟩ := List.getElem?_of_mem (reachL_mem.2 ⟨j, hj, ho⟩)
    exact ⟨i', _, ho, hi', r, hr, by rw [← hn]; exact findI_mem nd2 hi'⟩
  induction h with
  | main h =>
    obtain ⟨i', o, h1, h2, h3⟩ := key _ _ h (.main h)
    exact ⟨i', o, h1, h2, .main h3⟩
  | step hi ho h ih =>
    obtain ⟨i0, o0, e1, e2, e3⟩ := ih
    obtain rfl : o0 = _ := Option.some.inj (e1.symm.trans ho)
    obtain ⟨i', o, h1, h2, h3⟩ := key _ _ h (.step hi ho h)
    exact ⟨i', o, h1, h2, .step e3 e2 h3⟩
theorem reach_all {main : ObjD} {procs : List ObjD} (nd : (procs.map ObjD.name).Nodup) : (reachIx main (reachL main procs)).length = (reachL main procs).length := by
  have nd2 : ((reachL main procs).map ObjD.name).Nodup := nd.sublist ((reachL_sub main procs).map _)
  have h : reachIx main (reachL main procs) = List.range (reachL main procs).length := by
    unfold reachIx reachTo
    rw [List.filter_eq_self]
    intro i hi
    have hil := List.mem_range.1 hi
    rw [reachB_iff]
    obtain ⟨j, hj, ho⟩ := reachL_mem.1 (List.getElem_mem hil)
    obtain ⟨i', o, h1, h2, h3⟩ := reach_again nd hj
    obtain rfl : o = _ := Option.some.inj (h1.symm.trans ho)
    have e1 := findI_mem nd2 h2
    have e2 := findI_mem nd2 (List.getElem?_eq_getElem hil)
    rw [e1] at e2
    have : i' = i := by omega
    subst this
    exact h3
  rw [h, List.length_range]
theorem reachTo_get {main : ObjD} {procs : List ObjD} {k i : Nat} (hk : k ≤ procs.length) (h : i ∈ reachTo main procs k) : i < procs.length := Nat.lt_of_lt_of_le (reachTo_lt h) hk
theorem reachL_len (main : ObjD) (procs : List ObjD) : (reachL main procs).length = (reachIx main procs).length := by
  have : ∀ l : List Nat, (∀ i ∈ l, i < procs.length) → (l.filterMap (procs[·]?)).length = l.length := by
    intro l
    induction l with
    | nil => intro _; rfl
    | cons a l ih =>
      intro h
      have ha := h a (by simp)
      rw [List.filterMap_cons_some (List.getElem?_eq_getElem ha), List.length_cons, List.length_cons, ih (fun i hi => h i (by simp [hi]))]
  exact this _ (fun i hi => reachTo_lt hi)

theorem findFrom_low (procs : List ObjD) (s : ByteArray) : ∀ (f i : Nat), -1 ≤ findFrom procs s f i
  | 0, i => by simp [findFrom]
  | f + 1, i => by
    simp only [findFrom]
    split
    · omega
    · split
      · omega
      · exact findFrom_low procs s f (i + 1)
theorem findI_low (procs : List ObjD) (s : ByteArray) : -1 ≤ findI procs s := findFrom_low _ _ _ _
theorem findI_snoc (l : List ObjD) (o : ObjD) (s : ByteArray) : findI (l ++ [o]) s = if 0 ≤ findI l s then findI l s else if o.name = s then (l.length : Int) else -1 := by
  split
  · rename_i h
    obtain ⟨j, hj⟩ : ∃ j : Nat, findI l s = j := ⟨(findI l s).toNat, by omega⟩
    obtain ⟨hjl, hn⟩ := findI_at hj
    rw [hj]
    refine findI_eq _ _ j (by simp; omega) (by rw [List.getElem_append_left hjl]; exact hn) fun i hi e => ?_
    rw [List.getElem_append_left (by omega)] at e
    have := findI_top l s i (by omega) e
    omega
  · rename_i h
    have hn := (findI_neg l s).1 (by omega)
    split
    · rename_i e
      refine findI_eq _ _ l.length (by simp) (by simpa using e) fun i hi e => ?_
      rw [List.getElem_append_left hi] at e
      exact hn _ (List.getElem_mem hi) e
    · rename_i e
      have h1 := (findI_neg (l ++ [o]) s).2 (fun x hx => by
        rcases List.mem_append.1 hx with hx | hx
        · exact hn x hx
        · simp at hx; subst hx; exact e)
      have := findI_low (l ++ [o]) s
      omega
/-- the first place of each name, as the linker keeps it -/
def firstTo (procs : List ObjD) : Nat → List (ByteArray × Value)
  | 0 => []
  | k + 1 => match procs[k]? with
    | none => firstTo procs k
    | some o => if (mget (firstTo procs k) o.name).isSome then firstTo procs k else mset o.name (.int .i64 k) (firstTo procs k)
theorem firstTo_succ (procs : List ObjD) (k : Nat) (h : k < procs.length) : firstTo procs (k + 1) = if (mget (firstTo procs k) procs[k].name).isSome then firstTo procs k else mset procs[k].name (.int .i64 k) (firstTo procs k) := by
  simp only [firstTo, List.getElem?_eq_getElem h]
theorem firstTo_take (procs : List ObjD) (s : ByteArray) : ∀ k, k ≤ procs.length → mget (firstTo procs k) s = if 0 ≤ findI (procs.take k) s then some (.int .i64 (findI (procs.take k) s)) else none := by
  intro k
  induction k generalizing s with
  | zero => intro _; simp [firstTo, mget, mfind, findI, findFrom]
  | succ k ih =>
    intro hk
    have hkl : k < procs.length := by omega
    rw [firstTo_succ procs k hkl, List.take_succ_eq_append_getElem hkl, findI_snoc, List.length_take, Nat.min_eq_left (by omega)]
    have ih1 := ih procs[k].name (by omega)
    have ih2 := ih s (by omega)
    by_cases hx : 0 ≤ findI (procs.take k) procs[k].name
    · rw [if_pos hx] at ih1
      rw [ih1, Option.isSome_some, if_pos rfl, ih2]
      by_cases hs : 0 ≤ findI (procs.take k) s
      · simp only [if_pos hs]
      · simp only [if_neg hs]
        have hne : procs[k].name ≠ s := fun e => hs (by rw [← e]; exact hx)
        rw [if_neg hne]
        simp
    · rw [if_neg hx] at ih1
      rw [ih1, Option.isSome_none, if_neg (by simp)]
      have hm : mget (mset procs[k].name (.int .i64 k) (firstTo procs k)) s = if s = procs[k].name then some (.int .i64 k) else mget (firstTo procs k) s := mfind_mset _ _ _ _ _
      rw [hm, ih2]
      by_cases hs : s = procs[k].name
      · subst hs
        rw [if_pos rfl, if_neg hx, if_pos rfl, if_pos (by omega)]
      · rw [if_neg hs]
        by_cases hs2 : 0 ≤ findI (procs.take k) s
        · simp only [if_pos hs2]
        · simp only [if_neg hs2]
          have hne : procs[k].name ≠ s := fun e => hs e.symm
          rw [if_neg hne]
          simp
theorem firstTo_get (procs : List ObjD) (s : ByteArray) : mget (firstTo procs procs.length) s = if 0 ≤ findI procs s then some (.int .i64 (findI procs s)) else none := by
  have := firstTo_take procs s procs.length (Nat.le_refl _)
  rwa [List.take_length] at this
theorem firstTo_int (procs : List ObjD) (k : Nat) (hk : k ≤ procs.length) (s : ByteArray) : ∃ j : Int, (mget (firstTo procs k) s).getD (.int .i64 0) = .int .i64 j := by
  rw [firstTo_take procs s k hk]
  split
  · exact ⟨_, rfl⟩
  · exact ⟨0, rfl⟩

/-- the references of main, or of a procedure -/
def refsOf (main : ObjD) (procs : List ObjD) : Option Nat → List RefD
  | none => main.refs
  | some i => match procs[i]? with
    | some o => o.refs
    | none => []
def ActB (B : List Bool) : Option Nat → Prop
  | none => True
  | some i => B[i]? = some true
def DoneB (main : ObjD) (procs : List ObjD) (B : List Bool) (q : Option Nat) : Prop := ∀ j, Edge procs (refsOf main procs q) j → B[j]? = some true
/-- the linker's marks on the way: all that is marked waits or is done -/
structure Bfs (main : ObjD) (procs : List ObjD) (Pd : Option Nat → Prop) (B : List Bool) : Prop where
  len : B.length = procs.length
  sound : SoundB main procs B
  act : ∀ q, Pd q → ActB B q
  all : ∀ q, ActB B q → Pd q ∨ DoneB main procs B q
theorem Bfs.start (main : ObjD) (procs : List ObjD) : Bfs main procs (· = none) (List.replicate procs.length false) :=
  ⟨by simp, fun j hj => by simp [List.getElem?_replicate] at hj, fun q hq => by subst hq; trivial, fun q hq => by
    cases q with
    | none => exact .inl rfl
    | some i => simp [ActB, List.getElem?_replicate] at hq⟩
theorem Bfs.mono {main : ObjD} {procs : List ObjD} {Pd Pd' : Option Nat → Prop} {B : List Bool} (h : Bfs main procs Pd B) (h1 : ∀ q, Pd' q → ActB B q) (h2 : ∀ q, Pd q → Pd' q ∨ DoneB main procs B q) : Bfs main procs Pd' B :=
  ⟨h.len, h.sound, h1, fun q hq => by
    rcases h.all q hq with hq | hq
    · exact h2 q hq
    · exact .inr hq⟩
theorem set_true {B : List Bool} {j x : Nat} (hj : j < B.length) : (B.set j true)[x]? = some true ↔ B[x]? = some true ∨ x = j := by
  have := mark_get B (j : Int) x
  unfold mark at this
  rw [if_pos (by omega)] at this
  simp only [Int.toNat_natCast] at this
  rw [this]
  constructor
  · rintro (h | ⟨_, h⟩)
    · exact .inl h
    · exact .inr (by omega)
  · rintro (h | h)
    · exact .inl h
    · exact .inr ⟨by omega, by omega⟩
theorem Bfs.reach {main : ObjD} {procs : List ObjD} {Pd : Option Nat → Prop} {B : List Bool} (h : Bfs main procs Pd B) {q : Option Nat} (hq : ActB B q) {j : Nat} (hj : Edge procs (refsOf main procs q) j) : Reach main procs j := by
  cases q with
  | none => exact .main hj
  | some i =>
    have hi : i < procs.length := by rw [← h.len]; exact (List.getElem?_eq_some_iff.1 hq).1
    simp only [refsOf, List.getElem?_eq_getElem hi] at hj
    exact .step (h.sound i hq) (List.getElem?_eq_getElem hi) hj
theorem Bfs.mark {main : ObjD} {procs : List ObjD} {Pd : Option Nat → Prop} {B : List Bool} (h : Bfs main procs Pd B) {j : Nat} (hj : Reach main procs j) : Bfs main procs (fun q => Pd q ∨ q = some j) (B.set j true) := by
  have hjl : j < B.length := by rw [h.len]; exact hj.lt
  have up : ∀ q, ActB B q → ActB (B.set j true) q := fun q hq => by
    cases q with
    | none => trivial
    | some i => exact (set_true hjl).2 (.inl hq)
  refine ⟨by rw [List.length_set]; exact h.len, fun x hx => ?_, fun q hq => ?_, fun q hq => ?_⟩
  · rcases (set_true hjl).1 hx with hx | rfl
    · exact h.sound x hx
    · exact hj
  · rcases hq with hq | rfl
    · exact up q (h.act q hq)
    · exact (set_true hjl).2 (.inr rfl)
  · have hq' : ActB B q ∨ q = some j := by
      cases q with
      | none => exact .inl trivial
      | some i =>
        rcases (set_true hjl).1 hq with hx | rfl
        · exact .inl hx
        · exact .inr rfl
    rcases hq' with hq' | hq'
    · rcases h.all q hq' with h1 | h1
      · exact .inl (.inl h1)
      · exact .inr fun x hx => (set_true hjl).2 (.inl (h1 x hx))
    · exact .inl (.inr hq')
theorem Bfs.done {main : ObjD} {procs : List ObjD} {B : List Bool} (h : Bfs main procs (fun _ => False) B) : ClosedB main procs B := by
  have h1 : ∀ q, ActB B q → DoneB main procs B q := fun q hq => by
    rcases h.all q hq with h1 | h1
    · exact h1.elim
    · exact h1
  refine ⟨fun j hj => h1 none trivial j hj, fun i o ho hi j hj => h1 (some i) hi j ?_⟩
  simp only [refsOf, ho]
  exact hj
theorem cnt_set {B : List Bool} {j : Nat} (h : B[j]? = some false) : cnt B < cnt (B.set j true) := by
  have hj := (List.getElem?_eq_some_iff.1 h).1
  exact (cnt_grow B (B.set j true) (by simp) (fun x hx => (set_true hj).2 (.inl hx))).2 ⟨j, (set_true hj).2 (.inr rfl), by rw [h]; simp⟩
theorem cnt_le (B : List Bool) : cnt B ≤ B.length := List.countP_le_length

/-- LinkerReaches, in plain words -/
theorem reaches_plain {main : ObjD} {procs : List ObjD} (h : (linkD main procs).err = 0) :
    ((linkD main (reachL main procs)).err = 0 ∧ undefL main.refs (reachL main procs) = []) ∧
    ((linkD main (reachL main procs)).code.length ≤ (linkD main procs).code.length ∧ (linkD main (reachL main procs)).mem ≤ (linkD main procs).mem ∧ (linkD main (reachL main procs)).stacks ≤ (linkD main procs).stacks) ∧
    (reachL main (reachL main procs)).length = (reachL main procs).length := by
  obtain ⟨hf, hb⟩ := (linkD_zero main procs).1 h
  have hsub := reachL_sub main procs
  have hu : undefL main.refs (reachL main procs) = [] := by
    rw [undefL_nil]
    intro x hx
    have key : ∀ refs : List RefD, (∃ r ∈ refs, r.name = x) → (∀ j, Edge procs refs j → Reach main procs j) → (∃ o ∈ procs, o.name = x) → ∃ o ∈ reachL main procs, o.name = x := by
      rintro refs ⟨r, hr, rfl⟩ hall ⟨o, ho, e⟩
      obtain ⟨i, hi⟩ := List.getElem?_of_mem ho
      exact ⟨o, reachL_mem.2 ⟨i, hall i ⟨r, hr, by rw [← e]; exact findI_mem hf.nd hi⟩, hi⟩, e⟩
    rcases hx with hx | ⟨o, ho, hx⟩
    · exact key _ hx (fun j hj => .main hj) (hf.df x (.inl hx))
    · obtain ⟨i, hi, hio⟩ := reachL_mem.1 ho
      exact key _ hx (fun j hj => .step hi hio hj) (hf.df x (.inr ⟨o, hsub.subset ho, hx⟩))
  have h0 : (linkD main (reachL main procs)).err = 0 := (linkD_zero _ _).2 ⟨hf.sub hsub hu, tooBig_sub main hsub hb⟩
  refine ⟨⟨h0, hu⟩, ⟨?_, ?_, ?_⟩, ?_⟩
  · rw [linkD_ok h0, linkD_ok h]
    simp only
    rw [codeTo_len _ _ _ _ (Nat.le_refl _), codeTo_len _ _ _ _ (Nat.le_refl _)]
    exact startAt_sub main hsub
  · rw [linkD_ok h0, linkD_ok h]
    exact memOf_sub main (fun o ho => hsub.subset ho)
  · rw [linkD_ok h0, linkD_ok h]
    exact stacksOf_sub main (fun o ho => hsub.subset ho)
  · rw [reachL_len, reach_all hf.nd]

end Go.Proofs.YtaabkaiifplhgaaDoor
