/- Ranging over a map of the call's own. -/
import Derived.Test.YtaabkaiifplhgaaDoorLMap
import Derived.Maps.RangeRun
namespace Go.Proofs.YtaabkaiifplhgaaDoor
set_option linter.unusedSimpArgs false
set_option linter.unusedVariables false
open Go.RowKit Go.Instr

theorem nodup_at {α β : Type} {f : α → β} {l : List α} (h : (l.map f).Nodup) {x y : α} (hx : x ∈ l) (hy : y ∈ l) (e : f x = f y) : x = y := by
  obtain ⟨i, hi, rfl⟩ := List.mem_iff_getElem.1 hx
  obtain ⟨j, hj, rfl⟩ := List.mem_iff_getElem.1 hy
  have hn := List.pairwise_iff_getElem.1 h
  rcases Nat.lt_trichotomy i j with hlt | rfl | hlt
  · exact absurd (by rw [List.getElem_map, List.getElem_map]; exact e) (hn i j (by simpa using hi) (by simpa using hj) hlt)
  · rfl
  · exact absurd (by rw [List.getElem_map, List.getElem_map]; exact e.symm) (hn j i (by simpa using hj) (by simpa using hi) hlt)

section
variable {κ : Type} [BEq κ] [LawfulBEq κ] {enc : κ → Value} {w : World} {r it : Nat} {l : List (κ × Value)} {done : List κ}
set_option linter.unusedSectionVars false

/-- an iterator over the map at r, at it; the keys that have been handed out -/
def ItAt (enc : κ → Value) (w : World) (r it : Nat) (l : List (κ × Value)) (done : List κ) : Prop :=
  ∃ es clock seen, ∃ ds : List MapEntry, w.heap[r]? = some (.map es clock) ∧ Ents enc l es.toList ∧ (∀ e ∈ es.toList, e.born < clock) ∧ (es.toList.map (·.born)).Nodup ∧
    w.heap[it]? = some (.mapIter (some r) clock seen clock) ∧ seen.toList = ds.map (·.born) ∧ (∀ e ∈ ds, e ∈ es.toList) ∧ (ds.map (·.born)).Nodup ∧ ds.map (·.key) = done.map enc

theorem run_rangeAt {P : Program} {T K E : TypeId} (ht : P.underlying T = some (.map K E)) (h : MapAt enc w r l) :
    ∃ w', (Instr.range T (.map (some r))).run P w = .ok (.pointer (some ⟨w.heap.size, 0, none⟩)) w' ∧ ItAt enc w' r w.heap.size l [] ∧ Mv (fun _ => False) w w' ∧ w'.heap.size = w.heap.size + 1 := by
  have hlt := h.lt
  obtain ⟨es, clock, hb, he, hborn, hnd⟩ := h
  refine ⟨w.alloc (.mapIter (some r) clock #[] clock), ?_, ⟨es, clock, #[], [], ?_, he, hborn, hnd, heap_alloc_new w _, rfl, by simp, by simp, rfl⟩, (Mv.refl _ _).alloc _, by simp⟩
  · unfold Instr.range
    simp only [Sem.run_bind, run_underlying ht, Result.andThen_ok, getObj_at hb, Sem.run_pure]
    rfl
  · rw [Below.heap_alloc _ _ _ hlt]; exact hb

/-- what the next step hands out -/
theorem run_nextAt {P : Program} (ty : TypeId) (h : ItAt enc w r it l done) (hne : it ≠ r) :
    ((Instr.next (.pointer (some ⟨it, 0, none⟩)) false ty).run P w = .ok (.tuple #[.bool false]) w ∧ ∀ p ∈ l, enc p.1 ∈ done.map enc) ∨
    ∃ (k : κ) (x : Value) (w' : World), (Instr.next (.pointer (some ⟨it, 0, none⟩)) false ty).run P w = .ok (.tuple #[.bool true, enc k, x]) w' ∧ (Instr.entry (.pointer (some ⟨it, 0, none⟩))).run P w' = .ok (.tuple #[enc k, x]) w' ∧
      ItAt enc w' r it l (done ++ [k]) ∧ Mv (fun b => b = it) w w' ∧ k ∈ l.map (·.1) := by
  obtain ⟨es, clock, seen, ds, hb, he, hborn, hnd, hi, hs, hds, hdn, hk⟩ := h
  have hitl : it < w.heap.size := by
    rcases Nat.lt_or_ge it w.heap.size with h' | h'
    · exact h'
    · rw [Array.getElem?_eq_none h'] at hi; cases hi
  have hseen : ∀ b, seen.contains b = true ↔ b ∈ ds.map (·.born) := fun b => by rw [← hs]; simp [Array.contains_iff_mem]
  rcases run_next_at (P := P) w ty it r clock clock seen es clock hi hb hborn (Nat.le_refl _) with ⟨h0, hrun⟩ | ⟨e, hel, w1, hw1, hrun⟩
  · refine .inl ⟨hrun, fun p hp => ?_⟩
    -- every entry has been seen
    have hall : ∀ e ∈ es.toList, e.born ∈ ds.map (·.born) := by
      intro e hm
      refine Classical.byContradiction fun hn => ?_
      have hnc : seen.contains e.born = false := Bool.eq_false_iff.2 fun hc => hn ((hseen _).1 hc)
      have h1 : e ∈ (leftOf es seen).toList := by
        simp only [leftOf, Array.toList_filter, List.mem_filter]
        exact ⟨hm, by rw [hnc]; rfl⟩
      have h2 : (leftOf es seen).toList = [] := List.eq_nil_of_length_eq_zero (by simpa using h0)
      rw [h2] at h1; cases h1
    have hpe : (enc p.1, p.2) ∈ es.toList.map (fun e => (e.key, e.val)) := by
      rw [he]; exact List.mem_map.2 ⟨p, hp, rfl⟩
    obtain ⟨e, hm, heq⟩ := List.mem_map.1 hpe
    simp only [Prod.mk.injEq] at heq
    obtain ⟨e', hd', hbb⟩ := List.mem_map.1 (hall e hm)
    have hee : e' = e := nodup_at hnd (hds e' hd') hm hbb
    rw [← hk]
    exact List.mem_map.2 ⟨e', hd', by rw [hee, heq.1]⟩
  · simp only [leftOf, Array.toList_filter, List.mem_filter] at hel
    obtain ⟨hm, hnc⟩ := hel
    have hnc' : e.born ∉ ds.map (·.born) := fun hc => by
      have := (hseen e.born).2 hc
      rw [this] at hnc; cases hnc
    have hpe : (e.key, e.val) ∈ l.map (fun p => (enc p.1, p.2)) := by rw [← he]; exact List.mem_map.2 ⟨e, hm, rfl⟩
    obtain ⟨p, hp, heq⟩ := List.mem_map.1 hpe
    simp only [Prod.mk.injEq] at heq
    have hw1r : w1.heap = w.heap := by rcases hw1 with rfl | rfl <;> rfl
    have hr' : (Go.ChangeMaps.setBlock w1 it (.mapIter (some r) clock (seen.push e.born) clock)).heap[r]? = some (.map es clock) := by
      show (w1.heap.setIfInBounds it _)[r]? = _
      rw [hw1r]; simp [hne, hb]
    have hi' : (Go.ChangeMaps.setBlock w1 it (.mapIter (some r) clock (seen.push e.born) clock)).heap[it]? = some (.mapIter (some r) clock (seen.push e.born) clock) := by
      show (w1.heap.setIfInBounds it _)[it]? = _
      rw [hw1r]; simp [hitl]
    refine .inr ⟨p.1, e.val, Go.ChangeMaps.setBlock w1 it (.mapIter (some r) clock (seen.push e.born) clock), by rw [hrun, heq.1], ?_, ⟨es, clock, seen.push e.born, ds ++ [e], hr', he, hborn, hnd, hi', by simp [hs], ?_, ?_, by simp [hk, heq.1]⟩, ?_, List.mem_map.2 ⟨p, hp, rfl⟩⟩
    · rw [run_entry_at (P := P) _ it r clock seen es clock e hi' hr' hm hnd, heq.1]
    · intro x hx
      rcases List.mem_append.1 hx with hx | hx
      · exact hds x hx
      · simp at hx; subst hx; exact hm
    · rw [List.map_append]
      refine List.nodup_append.2 ⟨hdn, by simp, fun a ha b hb' => ?_⟩
      simp at hb'; subst hb'
      exact fun e' => hnc' (e' ▸ ha)
    · refine ⟨?_, ?_, ?_, ?_, fun b _ hbn => ?_⟩
      · rcases hw1 with rfl | rfl <;> rfl
      · rcases hw1 with rfl | rfl <;> rfl
      · rcases hw1 with rfl | rfl <;> rfl
      · show _ ≤ (w1.heap.setIfInBounds it _).size; rw [hw1r]; simp
      · show (w1.heap.setIfInBounds it _)[b]? = _
        have : it ≠ b := fun e => hbn e.symm
        rw [hw1r]; simp [this]

theorem nodup_of {α β γ : Type} {f : α → β} {g : α → γ} {ds : List α} (h : (ds.map f).Nodup) (hinj : ∀ x ∈ ds, ∀ y ∈ ds, g x = g y → x = y) : (ds.map g).Nodup := by
  induction ds with
  | nil => simp
  | cons d ds ih =>
    simp only [List.map_cons, List.nodup_cons] at h ⊢
    refine ⟨fun hm => ?_, ih h.2 (fun x hx y hy => hinj x (by simp [hx]) y (by simp [hy]))⟩
    obtain ⟨y, hy, e⟩ := List.mem_map.1 hm
    have := hinj y (by simp [hy]) d (by simp) e
    subst this
    exact h.1 (List.mem_map.2 ⟨y, hy, rfl⟩)

theorem ItAt.nodup (h : ItAt enc w r it l done) (hl : (l.map fun p => enc p.1).Nodup) : (done.map enc).Nodup := by
  obtain ⟨es, clock, seen, ds, hb, he, hborn, hnd, hi, hs, hds, hdn, hk⟩ := h
  rw [← hk]
  have hkey : (es.toList.map (·.key)).Nodup := by
    have : es.toList.map (·.key) = l.map fun p => enc p.1 := by
      have := congrArg (List.map Prod.fst) he
      simpa [List.map_map, Function.comp_def] using this
    rw [this]; exact hl
  exact nodup_of hdn fun x hx y hy e => nodup_at hkey (hds x hx) (hds y hy) e
end
end Go.Proofs.YtaabkaiifplhgaaDoor
