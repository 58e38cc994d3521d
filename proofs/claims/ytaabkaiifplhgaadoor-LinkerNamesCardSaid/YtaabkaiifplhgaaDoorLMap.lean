/- Maps of the call's own, by what they hold in the order of insertion: no program is named. -/
import Derived.Test.YtaabkaiifplhgaaDoorGen
import GoSem.Builtin.Delete
namespace Go.Proofs.YtaabkaiifplhgaaDoor
set_option linter.unusedSimpArgs false
set_option linter.unusedVariables false
open Go.RowKit Go.Instr
set_option linter.unusedSectionVars false

/-- block r is replaced -/
def setB (w : World) (r : Nat) (o : Obj) : World := { w with heap := w.heap.setIfInBounds r o }

theorem bytes_beq (a b : ByteArray) : (a == b) = decide (a = b) := by
  cases a with | mk x => cases b with | mk y =>
  show (x == y) = _
  by_cases h : x = y
  · subst h; simp
  · have h1 : (x == y) = false := by simpa using h
    have h2 : ¬ (⟨x⟩ : ByteArray) = ⟨y⟩ := fun e => h (by simpa using congrArg ByteArray.data e)
    simp [h1, h2]
instance : LawfulBEq ByteArray where
  eq_of_beq := by intro a b h; rw [bytes_beq] at h; exact of_decide_eq_true h
  rfl := by intro a; rw [bytes_beq]; simp

theorem getObj_at {P : Program} {w : World} {r : Nat} {es : Array MapEntry} {c : Nat} (hb : w.heap[r]? = some (.map es c)) : (getObj r).run P w = .ok (.map es c) w := by simp [getObj, Sem.run, hb]
theorem setObj_at {P : Program} {w : World} {r : Nat} {es : Array MapEntry} {c : Nat} (o' : Obj) (hb : w.heap[r]? = some (.map es c)) : (setObj r o').run P w = .ok () (setB w r o') := by simp [setObj, Sem.run, hb, setB]
theorem getIt_at {P : Program} {w : World} {r : Nat} {m : Option Nat} {a : Nat} {s : Array Nat} {c : Nat} (hb : w.heap[r]? = some (.mapIter m a s c)) : (getObj r).run P w = .ok (.mapIter m a s c) w := by simp [getObj, Sem.run, hb]
theorem setIt_at {P : Program} {w : World} {r : Nat} {m : Option Nat} {a : Nat} {s : Array Nat} {c : Nat} (o' : Obj) (hb : w.heap[r]? = some (.mapIter m a s c)) : (setObj r o').run P w = .ok () (setB w r o') := by simp [setObj, Sem.run, hb, setB]
theorem map_eraseIdx' {α β : Type} (f : α → β) : ∀ (l : List α) (j : Nat), (l.eraseIdx j).map f = (l.map f).eraseIdx j
  | [], _ => by simp
  | a :: l, 0 => by simp
  | a :: l, j + 1 => by simp [map_eraseIdx' f l j]

/-- keys of one kind -/
structure KeyLaw (P : Program) (K : TypeId) {κ : Type} [BEq κ] [LawfulBEq κ] (enc : κ → Value) (desc : TypeDesc) : Prop where
  hu : P.underlying K = some desc
  same : ∀ a b : κ, sameNow desc (enc a) (enc b) = some (a == b)
  check : ∀ (e : Bool) (n : Nat) (a : κ) (w : World), (checkKey e (n + 1) K (enc a)).run P w = .ok () w
  bits : ∀ a : κ, sameBits 10000 (enc a) (enc a) = true

theorem str_law {P : Program} {K : TypeId} (hu : P.underlying K = some .string) : KeyLaw P K Value.string .string := by
  refine ⟨hu, fun a b => rfl, fun e n a w => ?_, fun a => by simp [sameBits]⟩
  simp [checkKey, run_underlying hu]
theorem int_law {P : Program} {K : TypeId} (hu : P.underlying K = some (.int .i64)) : KeyLaw P K (Value.int .i64) (.int .i64) := by
  refine ⟨hu, fun a b => by simp [sameNow], fun e n a w => ?_, fun a => by simp [sameBits]⟩
  simp [checkKey, run_underlying hu]

section
variable {κ : Type} [BEq κ] [LawfulBEq κ]

/-- what the map holds under k: its place and its value -/
def mfind (k : κ) : List (κ × Value) → Nat → Option (Nat × Value)
  | [], _ => none
  | (a, x) :: l, i => if k == a then some (i, x) else mfind k l (i + 1)
def mget (l : List (κ × Value)) (k : κ) : Option Value := (mfind k l 0).map (·.2)
def mset (k : κ) (v : Value) : List (κ × Value) → List (κ × Value)
  | [] => [(k, v)]
  | (a, x) :: l => if k == a then (k, v) :: l else (a, x) :: mset k v l
def mdel (k : κ) : List (κ × Value) → List (κ × Value)
  | [] => []
  | (a, x) :: l => if k == a then l else (a, x) :: mdel k l

/-- the entries, read -/
def Ents (enc : κ → Value) (l : List (κ × Value)) (es : List MapEntry) : Prop := es.map (fun e => (e.key, e.val)) = l.map (fun p => (enc p.1, p.2))

theorem Ents.cons {enc : κ → Value} {p : κ × Value} {l : List (κ × Value)} {es : List MapEntry} (h : Ents enc (p :: l) es) : ∃ e r, es = e :: r ∧ e.key = enc p.1 ∧ e.val = p.2 ∧ Ents enc l r := by
  cases es with
  | nil => simp [Ents] at h
  | cons e r => simp [Ents] at h; exact ⟨e, r, rfl, h.1.1, h.1.2, by simpa [Ents] using h.2⟩

theorem find_law {P : Program} {K : TypeId} {enc : κ → Value} {desc : TypeDesc} (L : KeyLaw P K enc desc) (k : κ) : ∀ (l : List (κ × Value)) (es : List MapEntry) (i : Nat), Ents enc l es → findNow desc (enc k) es i = some (mfind k l i)
  | [], es, i, h => by
    have : es = [] := by simpa [Ents] using h
    subst this; rfl
  | (a, x) :: l, es, i, h => by
    obtain ⟨e, r, rfl, h1, h2, h3⟩ := h.cons
    simp only [findNow, h1, L.same, mfind]
    cases hka : k == a
    · simp only [Bool.false_eq_true, if_false]; exact find_law L k l r (i + 1) h3
    · simp only [if_true, h2]

theorem mfind_ge (k : κ) : ∀ (l : List (κ × Value)) (i j : Nat) (v : Value), mfind k l i = some (j, v) → i ≤ j ∧ j < i + l.length
  | [], i, j, v, h => by simp [mfind] at h
  | (a, x) :: l, i, j, v, h => by
    simp only [mfind] at h
    split at h
    · simp at h; obtain ⟨rfl, _⟩ := h; simp
    · have := mfind_ge k l (i + 1) j v h; simp; omega

/-- a map in memory -/
def MapAt (enc : κ → Value) (w : World) (r : Nat) (l : List (κ × Value)) : Prop :=
  ∃ es clock, w.heap[r]? = some (.map es clock) ∧ Ents enc l es.toList ∧ (∀ e ∈ es.toList, e.born < clock) ∧ (es.toList.map (·.born)).Nodup

theorem MapAt.lt {enc : κ → Value} {w : World} {r : Nat} {l : List (κ × Value)} (h : MapAt enc w r l) : r < w.heap.size := by
  obtain ⟨es, clock, hb, _⟩ := h
  rcases Nat.lt_or_ge r w.heap.size with h' | h'
  · exact h'
  · rw [Array.getElem?_eq_none h'] at hb; cases hb

theorem MapAt.keep {enc : κ → Value} {w w' : World} {r : Nat} {l : List (κ × Value)} (h : MapAt enc w r l) (hw : w'.heap[r]? = w.heap[r]?) : MapAt enc w' r l := by
  obtain ⟨es, clock, hb, rest⟩ := h
  exact ⟨es, clock, by rw [hw]; exact hb, rest⟩

theorem MapAt.new (enc : κ → Value) (w : World) : MapAt enc (w.alloc (.map #[] 0)) w.heap.size [] := ⟨#[], 0, heap_alloc_new w _, by simp [Ents], by simp, by simp⟩

theorem Mv.setB (w : World) (r : Nat) (o : Obj) : Mv (fun b => b = r) w (setB w r o) := by
  refine ⟨rfl, rfl, rfl, by simp [YtaabkaiifplhgaaDoor.setB], fun b _ hne => ?_⟩
  have : r ≠ b := fun e => hne e.symm
  simp [YtaabkaiifplhgaaDoor.setB, this]

theorem setB_at (w : World) (r : Nat) (o : Obj) (h : r < w.heap.size) : (setB w r o).heap[r]? = some o := by simp [setB, h]

variable {P : Program} {K T E : TypeId} {enc : κ → Value} {desc : TypeDesc} {w : World} {r : Nat} {l : List (κ × Value)}

theorem run_findKey (L : KeyLaw P K enc desc) (k : κ) {es : Array MapEntry} (h : Ents enc l es.toList) : (findKey K (enc k) es.toList).run P w = .ok (mfind k l 0) w := by
  simp only [findKey, Sem.run_bind, run_underlying L.hu, Result.andThen_ok, find_law L k l es.toList 0 h, Sem.run_pure]

/-- a lookup -/
theorem run_get (L : KeyLaw P K enc desc) (ht : P.underlying T = some (.map K E)) (k : κ) (z : Value) (hz : ∀ w, (zeroValue E).run P w = .ok z w) (h : MapAt enc w r l) :
    (lookup T (.map (some r)) (enc k) false).run P w = .ok ((mget l k).getD z) w := by
  obtain ⟨es, clock, hb, he, _⟩ := h
  unfold lookup
  simp only [Sem.run_bind, run_underlying ht, Result.andThen_ok, getObj_at hb, Sem.run_pure, L.check, run_findKey L k he]
  unfold mget
  cases mfind k l 0 with
  | none => simp [hz]
  | some p => simp
theorem run_get_ok (L : KeyLaw P K enc desc) (ht : P.underlying T = some (.map K E)) (k : κ) (z : Value) (hz : ∀ w, (zeroValue E).run P w = .ok z w) (h : MapAt enc w r l) :
    (lookup T (.map (some r)) (enc k) true).run P w = .ok (.tuple #[(mget l k).getD z, .bool (mget l k).isSome]) w := by
  obtain ⟨es, clock, hb, he, _⟩ := h
  unfold lookup
  simp only [Sem.run_bind, run_underlying ht, Result.andThen_ok, getObj_at hb, Sem.run_pure, L.check, run_findKey L k he]
  unfold mget
  cases mfind k l 0 with
  | none => simp [hz]
  | some p => simp

theorem ents_modify (k : κ) (v : Value) : ∀ (l : List (κ × Value)) (es : List MapEntry) (i j : Nat) (x : Value), Ents enc l es → mfind k l i = some (j, x) → Ents enc (mset k v l) (es.modify (j - i) fun e => { e with key := enc k, val := v })
  | [], es, i, j, x, _, h => by simp [mfind] at h
  | (a, y) :: l, es, i, j, x, he, h => by
    obtain ⟨e, r, rfl, h1, h2, h3⟩ := he.cons
    simp only [mfind] at h
    simp only [mset]
    cases hka : k == a
    · simp only [hka, Bool.false_eq_true, if_false] at h ⊢
      have hge := (mfind_ge k l (i + 1) j x h).1
      have := ents_modify k v l r (i + 1) j x h3 h
      rw [show j - i = j - (i + 1) + 1 by omega, List.modify_succ_cons]
      simp [Ents, h1, h2] at this ⊢
      exact this
    · simp only [hka, if_true] at h ⊢
      simp at h
      obtain ⟨rfl, _⟩ := h
      simp [Ents] at h3 ⊢
      exact h3
theorem ents_push (k : κ) (v : Value) (n : Nat) : ∀ (l : List (κ × Value)) (es : List MapEntry) (i : Nat), Ents enc l es → mfind k l i = none → Ents enc (mset k v l) (es ++ [{ key := enc k, val := v, born := n }])
  | [], es, i, he, _ => by
    have : es = [] := by simpa [Ents] using he
    subst this; simp [Ents, mset]
  | (a, y) :: l, es, i, he, h => by
    obtain ⟨e, r, rfl, h1, h2, h3⟩ := he.cons
    simp only [mfind] at h
    simp only [mset]
    cases hka : k == a
    · simp only [hka, Bool.false_eq_true, if_false] at h ⊢
      have := ents_push k v n l r (i + 1) h3 h
      simp [Ents, h1, h2] at this ⊢
      exact this
    · simp [hka] at h
theorem ents_erase (k : κ) : ∀ (l : List (κ × Value)) (es : List MapEntry) (i j : Nat) (x : Value), Ents enc l es → mfind k l i = some (j, x) → Ents enc (mdel k l) (es.eraseIdx (j - i))
  | [], es, i, j, x, _, h => by simp [mfind] at h
  | (a, y) :: l, es, i, j, x, he, h => by
    obtain ⟨e, r, rfl, h1, h2, h3⟩ := he.cons
    simp only [mfind] at h
    simp only [mdel]
    cases hka : k == a
    · simp only [hka, Bool.false_eq_true, if_false] at h ⊢
      have hge := (mfind_ge k l (i + 1) j x h).1
      have := ents_erase k l r (i + 1) j x h3 h
      rw [show j - i = j - (i + 1) + 1 by omega, List.eraseIdx_cons_succ]
      simp [Ents, h1, h2] at this ⊢
      exact this
    · simp only [hka, if_true] at h ⊢
      simp at h
      obtain ⟨rfl, _⟩ := h
      simp
      exact h3
theorem mdel_none (k : κ) : ∀ (l : List (κ × Value)) (i : Nat), mfind k l i = none → mdel k l = l
  | [], _, _ => rfl
  | (a, x) :: l, i, h => by
    simp only [mfind] at h
    cases hka : k == a
    · simp only [hka, Bool.false_eq_true, if_false] at h
      simp only [mdel, hka, Bool.false_eq_true, if_false, mdel_none k l (i + 1) h]
    · simp [hka] at h

/-- what an update leaves -/
theorem run_set (L : KeyLaw P K enc desc) (ht : P.underlying T = some (.map K E)) (k : κ) (v : Value) (h : MapAt enc w r l) :
    ∃ w', (mapUpdate T (.map (some r)) (enc k) v).run P w = .ok () w' ∧ MapAt enc w' r (mset k v l) ∧ Mv (fun b => b = r) w w' := by
  have hlt := h.lt
  obtain ⟨es, clock, hb, he, hborn, hnd⟩ := h
  have hrun : ∀ o, (setObj r o).run P w = .ok () (setB w r o) := fun o => setObj_at o hb
  have hc := L.check false 9999 k w
  cases hf : mfind k l 0 with
  | none =>
    refine ⟨setB w r (.map (es.push { key := enc k, val := v, born := clock }) (clock + 1)), ?_, ⟨_, _, setB_at _ _ _ hlt, ?_, ?_, ?_⟩, Mv.setB _ _ _⟩
    · unfold mapUpdate
      simp only [Sem.run_bind, run_underlying ht, Result.andThen_ok, getObj_at hb, hc, run_findKey L k he, hf, hrun]
    · simpa using ents_push k v clock l es.toList 0 he hf
    · intro e hm
      simp at hm
      rcases hm with hm | rfl
      · have := hborn e (by simpa using hm); omega
      · simp
    · simp only [Array.toList_push, List.map_append, List.map_cons, List.map_nil]
      refine List.nodup_append.2 ⟨hnd, by simp, ?_⟩
      intro a ha b hb'
      simp at hb'
      subst hb'
      obtain ⟨e, hm, rfl⟩ := List.mem_map.1 ha
      have := hborn e hm; omega
  | some p =>
    obtain ⟨j, x⟩ := p
    have hj := (mfind_ge k l 0 j x hf).2
    have hlen : es.toList.length = l.length := by
      have := congrArg List.length he
      simpa using this
    have hkey : ((es[j]?).map (·.key)).getD (enc k) = enc k := by
      have h1 := ents_modify (enc := enc) k v l es.toList 0 j x he hf
      have hje : j < es.size := by simp at hlen; omega
      have h2 := congrArg (fun t => t[j]?) he
      simp only [List.getElem?_map] at h2
      have hl : ∀ (l : List (κ × Value)) (i : Nat), mfind k l i = some (j, x) → ∃ p, l[j - i]? = some p ∧ k = p.1 := by
        intro l
        induction l with
        | nil => intro i h; simp [mfind] at h
        | cons p l ih =>
          intro i h
          obtain ⟨a, y⟩ := p
          simp only [mfind] at h
          cases hka : k == a
          · simp only [hka, Bool.false_eq_true, if_false] at h
            have hge := (mfind_ge k l (i + 1) j x h).1
            obtain ⟨p, h1, h2⟩ := ih (i + 1) h
            exact ⟨p, by rw [show j - i = j - (i + 1) + 1 by omega, List.getElem?_cons_succ]; exact h1, h2⟩
          · simp only [hka, if_true] at h
            simp at h
            obtain ⟨rfl, _⟩ := h
            exact ⟨(a, y), by simp, by simpa using hka⟩
      obtain ⟨p, h3, h4⟩ := hl l 0 hf
      simp only [Nat.sub_zero] at h3
      rw [h3] at h2
      have h5 : es[j]? = some es[j] := Array.getElem?_eq_getElem hje
      have h6 : es.toList[j]? = some es[j] := by simp
      rw [h6] at h2
      simp at h2
      rw [h5]
      simp [h2.1, h4]
    have hst : (keyThatStays (((es[j]?).map (·.key)).getD (enc k)) (enc k)).run P w = .ok (enc k) w := by
      rw [hkey]; simp [keyThatStays, L.bits]
    refine ⟨setB w r (.map (es.modify j fun e => { e with key := enc k, val := v }) clock), ?_, ⟨_, _, setB_at _ _ _ hlt, ?_, ?_, ?_⟩, Mv.setB _ _ _⟩
    · unfold mapUpdate
      simp only [Sem.run_bind, run_underlying ht, Result.andThen_ok, getObj_at hb, hc, run_findKey L k he, hf, hst, hrun]
    · have := ents_modify (enc := enc) k v l es.toList 0 j x he hf
      simpa [Array.toList_modify] using this
    · intro e hm
      rw [Array.toList_modify] at hm
      obtain ⟨i, hi, rfl⟩ := List.mem_iff_getElem.1 hm
      rw [List.getElem_modify]
      have := hborn (es.toList[i]'(by simpa using hi)) (List.getElem_mem _)
      split <;> exact this
    · have : (es.modify j fun e => { e with key := enc k, val := v }).toList.map (·.born) = es.toList.map (·.born) := by
        rw [Array.toList_modify]
        apply List.ext_getElem?
        intro i
        simp only [List.getElem?_map, List.getElem?_modify]
        cases es.toList[i]? <;> simp
        split <;> rfl
      rw [this]; exact hnd

/-- what a delete leaves -/
theorem run_del (L : KeyLaw P K enc desc) (ht : P.underlying T = some (.map K E)) (ty U : TypeId) (k : κ) (h : MapAt enc w r l) :
    ∃ w', (Builtin.delete_ #[T, U] ty #[.map (some r), enc k]).run P w = .ok (.tuple #[]) w' ∧ MapAt enc w' r (mdel k l) ∧ Mv (fun b => b = r) w w' := by
  have hlt := h.lt
  obtain ⟨es, clock, hb, he, hborn, hnd⟩ := h
  have hrun : ∀ o, (setObj r o).run P w = .ok () (setB w r o) := fun o => setObj_at o hb
  have hc := L.check es.isEmpty 9999 k w
  cases hf : mfind k l 0 with
  | none =>
    refine ⟨setB w r (.map es clock), ?_, ⟨_, _, setB_at _ _ _ hlt, by rw [mdel_none k l 0 hf]; exact he, hborn, hnd⟩, Mv.setB _ _ _⟩
    simp only [Builtin.delete_, List.getElem?_toArray, List.getElem?_cons_zero, List.getElem?_cons_succ, Sem.run_bind, run_underlying ht, Result.andThen_ok, getObj_at hb, hc, run_findKey L k he, hf, hrun, Sem.run_pure]
  | some p =>
    obtain ⟨j, x⟩ := p
    refine ⟨setB w r (.map (es.eraseIdxIfInBounds j) clock), ?_, ⟨_, _, setB_at _ _ _ hlt, ?_, ?_, ?_⟩, Mv.setB _ _ _⟩
    · simp only [Builtin.delete_, List.getElem?_toArray, List.getElem?_cons_zero, List.getElem?_cons_succ, Sem.run_bind, run_underlying ht, Result.andThen_ok, getObj_at hb, hc, run_findKey L k he, hf, hrun, Sem.run_pure]
    · have := ents_erase (enc := enc) k l es.toList 0 j x he hf
      simpa using this
    · intro e hm
      have : e ∈ es.toList := by
        have hm' : e ∈ es.toList.eraseIdx j := by simpa using hm
        exact List.mem_of_mem_eraseIdx hm'
      exact hborn e this
    · have : (es.eraseIdxIfInBounds j).toList.map (·.born) = (es.toList.map (·.born)).eraseIdx j := by
        simp [map_eraseIdx']
      rw [this]
      exact hnd.sublist (List.eraseIdx_sublist _ _)
end
end Go.Proofs.YtaabkaiifplhgaaDoor
