/- Appends of whole slices to rows of the call's own, for any element, nil too: no program is named. -/
import Derived.Test.YtaabkaiifplhgaaDoorLObjs
import Derived.Deep.AppendSrc
namespace Go.Proofs.YtaabkaiifplhgaaDoor
set_option linter.unusedSimpArgs false
set_option linter.unusedVariables false
open Go.RowKit Go.Instr

/-- an append of nothing -/
theorem run_append_nothing {P : Program} (w : World) (t ty e : TypeId) (i : TypeInfo) (ht : P.underlying t = some (.slice e)) (hi : P.info? e = some i) (a : Option Addr) (n cap c : Nat) (hn : n ≤ cap) :
    (Builtin.append_ #[t, t] ty #[.slice a n cap, .slice none 0 c]).run P w = .ok (.slice a n cap) w := by
  have hf := run_firstCells_none (P := P) w i.size 0 0 c
  cases a with
  | none => simp [Builtin.append_, run_underlying ht, sizeOf, typeInfo, hi, Builtin.lenOf, hn, hf]
  | some a => simp [Builtin.append_, run_underlying ht, sizeOf, typeInfo, hi, Builtin.lenOf, hn, hf, storeCells]

/-- an element's kind -/
structure Elem (P : Program) (t e : TypeId) (n bytes : Nat) : Prop where
  ht : P.underlying t = some (.slice e)
  hi : ∃ i z, P.info? e = some i ∧ i.zero = some z ∧ i.size = n ∧ i.bytes = bytes ∧ z.cells.size = n
  hn : 0 < n
  hb : bytes ≤ 1000

theorem Elem.of {P : Program} {t e : TypeId} {n bytes : Nat} {z : Value} (ht : P.underlying t = some (.slice e)) (h : (P.info? e).map (fun i => (i.zero, i.size, i.bytes)) = some (some z, n, bytes)) (hz : z.cells.size = n) (hn : 0 < n) (hb : bytes ≤ 1000) : Elem P t e n bytes := by
  obtain ⟨i0, hi, hz0, hz1, hz2⟩ := info_parts h
  exact ⟨ht, ⟨i0, z, hi, hz0, hz1, hz2, hz⟩, hn, hb⟩

section
variable {P : Program} {t e : TypeId} {n bytes : Nat} {α : Type} {f : α → List Value}

theorem app_gen (E : Elem P t e n bytes) (hf : ∀ x, (f x).length = n) (v s : Value) (xs l : List α) (base : Nat) (w : World) (hrow : w.ownsRow base e n v xs.length (flat f xs)) (hs : RowAt n f w s l) (h1 : ∀ x ∈ l, ∀ u ∈ f x, u.oneCell' = true) (hb : base ≤ w.heap.size) (hlen : xs.length + l.length ≤ 1000000) :
    ∃ a' c' w2, (AppOK P t t v s w ∧ appV P t t v s w = .slice a' (xs.length + l.length) c' ∧ appW P t t v s w = w2) ∧
      w2.ownsRow base e n (.slice a' (xs.length + l.length) c') (xs ++ l).length (flat f (xs ++ l)) ∧ Mv (fun b => v.ownBlock = some b) w w2 ∧ (∀ g, (Value.slice a' (xs.length + l.length) c').ownBlock = some g → v.ownBlock = some g ∨ w.heap.size ≤ g) := by
  obtain ⟨i, z, hi, hz, hsz, hby, hzc⟩ := E.hi
  obtain ⟨sa, sc, rfl, hsc, hsl, hcell⟩ := hs
  cases sa with
  | none =>
    obtain rfl : l = [] := by
      cases l with
      | nil => rfl
      | cons x l => obtain ⟨b, off, e, _⟩ := hcell 0 x rfl; cases e
    obtain ⟨va, vc, hv⟩ := row_slice hrow
    have hcap : xs.length ≤ vc := by
      rcases hrow.2 with ⟨e1, h0⟩ | ⟨g, cap, cur, e1, hb1, hg, hnc, _⟩
      · rw [hv] at e1; simp at e1; omega
      · rw [hv] at e1; simp at e1; omega
    subst hv
    have hr := run_append_nothing w t t e i E.ht hi va xs.length vc sc hcap
    obtain ⟨hok, hv, hw⟩ := app_of hr
    refine ⟨va, vc, w, ⟨hok, by simpa using hv, hw⟩, by simpa using hrow, Mv.refl _ _, fun g hg => .inl (by simpa using hg)⟩
  | some a =>
    have hnews : ∀ j u, (flat f l)[j]? = some u → w.cell? (a.add j) = some u := fun j u hu => by
      obtain ⟨i', r, rfl, hi', hu⟩ := flat_get _ n E.hn hf l j u hu
      obtain ⟨b, off, e1, hc⟩ := hcell i' _ (List.getElem?_eq_getElem hi')
      simp only [Option.some.injEq] at e1
      subst e1
      have := hc r u hu
      have e2 : (⟨b, off, none⟩ : Addr).add (i' * n + r) = ⟨b, off + i' * n + r, none⟩ := by unfold Addr.add; split <;> simp_all [Nat.add_assoc]
      rw [e2]; exact this
    have hby2 : (xs.length + l.length) * bytes ≤ 140737488355328 := by
      have := Nat.mul_le_mul hlen E.hb
      omega
    obtain ⟨v', w2, hr, hown1, hgrow, _, hnew⟩ := run_append_own2 (P := P) w base t t e i z n bytes E.ht hi hz hsz hby hzc E.hn v _ _ hrow a l.length sc (flat f l) (flat_len _ n hf l) hnews
      (fun u hu => by
        simp only [flat, List.mem_flatten, List.mem_map] at hu
        obtain ⟨_, ⟨o, ho, rfl⟩, hu⟩ := hu
        exact h1 o ho u hu)
      (by unfold maxLen; omega) hby2 hb
    have hform : ∃ a' c', v' = .slice a' (xs.length + l.length) c' := by
      rcases hown1.2 with ⟨rfl, h0⟩ | ⟨g, cap, cur, rfl, _⟩
      · exact ⟨none, 0, by rw [h0]⟩
      · exact ⟨_, _, rfl⟩
    obtain ⟨a', c', rfl⟩ := hform
    obtain ⟨hok, hv, hw2⟩ := app_of hr
    refine ⟨a', c', w2, ⟨hok, hv, hw2⟩, ?_, (Mv.refl _ _).grown hgrow (fun k hk => .inl hk), fun g hg => hnew g hg⟩
    rw [flat_append, List.length_append]; exact hown1

/-- .. to a new row without anything: new memory alone -/
theorem app_gen0 (E : Elem P t e n bytes) (hf : ∀ x, (f x).length = n) (s : Value) (l : List α) (g : Nat) (w : World) (hg : w.heap[g]? = some (.cells #[] e (0, 0))) (hs : RowAt n f w s l) (h1 : ∀ x ∈ l, ∀ u ∈ f x, u.oneCell' = true) (hlen : l.length ≤ 1000000) :
    ∃ a' c' w2, (AppOK P t t (.slice (some ⟨g, 0, none⟩) 0 0) s w ∧ appV P t t (.slice (some ⟨g, 0, none⟩) 0 0) s w = .slice a' l.length c' ∧ appW P t t (.slice (some ⟨g, 0, none⟩) 0 0) s w = w2) ∧
      w2.ownsRow g e n (.slice a' l.length c') l.length (flat f l) ∧ Grow w w2 := by
  have hgl := lt_of_block hg
  have hrow : w.ownsRow g e n (.slice (some ⟨g, 0, none⟩) 0 0) ([] : List α).length (flat f []) := ⟨by simp [flat], .inr ⟨g, 0, #[], rfl, Nat.le_refl _, hg, Nat.le_refl _, by simp, by simp, by simp [flat]⟩⟩
  obtain ⟨a', c', w2, ⟨hok, hv, hw⟩, h2, h3, -⟩ := app_gen E hf (.slice (some ⟨g, 0, none⟩) 0 0) s [] l g w hrow hs h1 (Nat.le_of_lt hgl) (by simpa using hlen)
  simp only [List.length_nil, Nat.zero_add, List.nil_append] at hv h2
  refine ⟨a', c', w2, ⟨hok, hv, hw⟩, h2, ⟨h3.os, h3.tape, h3.output, h3.size, fun k hk _ => ?_⟩⟩
  by_cases hkg : k = g
  · subst hkg
    obtain ⟨i, z, hi, hz, hsz, hby, hzc⟩ := E.hi
    obtain ⟨sa, sc, rfl, hsc, hsl, hcell⟩ := hs
    have hrun := run_app hok
    rw [hv, hw] at hrun
    cases sa with
    | none =>
      obtain rfl : l = [] := by
        cases l with
        | nil => rfl
        | cons x l => obtain ⟨b, off, e, _⟩ := hcell 0 x rfl; cases e
      have hr2 := run_append_nothing w t t e i E.ht hi (some ⟨k, 0, none⟩) 0 0 sc (Nat.le_refl _)
      simp only [List.length_nil] at hrun
      rw [hrun] at hr2
      simp only [Result.ok.injEq] at hr2
      rw [hr2.2]
    | some a =>
      have hnews : ∀ j u, (flat f l)[j]? = some u → w.cell? (a.add j) = some u := fun j u hu => by
        obtain ⟨i', r, rfl, hi', hu⟩ := flat_get _ n E.hn hf l j u hu
        obtain ⟨b, off, e1, hc⟩ := hcell i' _ (List.getElem?_eq_getElem hi')
        simp only [Option.some.injEq] at e1
        subst e1
        have := hc r u hu
        have e2 : (⟨b, off, none⟩ : Addr).add (i' * n + r) = ⟨b, off + i' * n + r, none⟩ := by unfold Addr.add; split <;> simp_all [Nat.add_assoc]
        rw [e2]; exact this
      rcases Nat.eq_zero_or_pos l.length with h0 | h0
      · obtain rfl : l = [] := List.eq_nil_of_length_eq_zero h0
        have hr2 := run_append_room (P := P) w t t e i E.ht hi k 0 0 #[] hg a 0 sc [] (by simp) (by simp) (by simp) (Nat.le_refl _) (by simp)
        simp only [List.length_nil] at hrun
        rw [hrun] at hr2
        simp only [Result.ok.injEq] at hr2
        rw [hr2.2, hg]
        have := setRow_heap w k #[] ([] : List Value).toArray _ _ hg
        simpa using this
      · have hby2 : l.length * i.bytes ≤ 140737488355328 := by
          rw [hby]
          have := Nat.mul_le_mul hlen E.hb
          omega
        have hr2 := run_append_grow (P := P) w t t e i _ E.ht hi hz ⟨k, 0, none⟩ 0 0 [] (by simp) (by simp) a l.length sc (flat f l) (by rw [hsz]; exact flat_len _ n hf l) hnews (by omega) (by omega) (growslice_fits (by omega) (by simpa using hby2))
        rw [hrun] at hr2
        simp only [Result.ok.injEq] at hr2
        rw [hr2.2]
        exact Below.heap_alloc w.drew _ k hk
  · exact h3.block k hk (fun e => hkg (by simp [Value.ownBlock] at e; exact e.symm))
end

end Go.Proofs.YtaabkaiifplhgaaDoor
