/- One instruction of a row of the call's own is replaced. -/
import Derived.Test.YtaabkaiifplhgaaDoorLRow
namespace Go.Proofs.YtaabkaiifplhgaaDoor
set_option linter.unusedSimpArgs false
set_option linter.unusedVariables false
open Go.RowKit

theorem flat_set {α : Type} (f : α → List Value) (n : Nat) (hf : ∀ x, (f x).length = n) : ∀ (l : List α) (i : Nat) (x : α), i < l.length → flat f (l.set i x) = (flat f l).take (i * n) ++ f x ++ (flat f l).drop (i * n + n)
  | [], i, x, h => by simp at h
  | y :: l, 0, x, _ => by
    simp only [flat, List.set_cons_zero, List.map_cons, List.flatten_cons, Nat.zero_mul, List.take_zero, List.nil_append, Nat.zero_add]
    rw [List.drop_append_of_le_length (by rw [hf]; exact Nat.le_refl _), List.drop_of_length_le (by rw [hf]; exact Nat.le_refl _)]
    simp
  | y :: l, i + 1, x, h => by
    have ih := flat_set f n hf l i x (by simpa using h)
    simp only [flat, List.set_cons_succ, List.map_cons, List.flatten_cons] at ih ⊢
    rw [ih]
    have h1 : (i + 1) * n = n + i * n := by rw [Nat.add_mul]; omega
    rw [h1, List.take_append, List.drop_append, hf, List.take_of_length_le (l := f y) (by rw [hf]; omega), List.drop_of_length_le (l := f y) (by rw [hf]; omega)]
    simp only [Nat.add_sub_cancel_left, List.nil_append, List.append_assoc]
    rw [show n + i * n + n - n = i * n + n by omega]

/-- five cells are written one after the other -/
theorem set5_list (c : Array Value) (k : Nat) (p q r s u : Value) (h : k + 5 ≤ c.size) :
    (((((c.setIfInBounds k p).setIfInBounds (k + 1) q).setIfInBounds (k + 2) r).setIfInBounds (k + 3) s).setIfInBounds (k + 4) u).toList = c.toList.take k ++ [p, q, r, s, u] ++ c.toList.drop (k + 5) := by
  apply List.ext_getElem?
  intro i
  simp only [Array.toList_setIfInBounds, List.getElem?_set, List.length_set, Array.length_toList]
  have hl : (c.toList.take k).length = k := by simp; omega
  rcases Nat.lt_or_ge i k with h1 | h1
  · rw [List.append_assoc, List.getElem?_append_left (by omega), List.getElem?_take, if_pos h1]
    rw [if_neg (by omega), if_neg (by omega), if_neg (by omega), if_neg (by omega), if_neg (by omega)]
  · rw [List.append_assoc, List.getElem?_append_right (by omega), hl]
    rcases Nat.lt_or_ge i (k + 5) with h2 | h2
    · rw [List.getElem?_append_left (by simp; omega)]
      obtain rfl | rfl | rfl | rfl | rfl : i = k ∨ i = k + 1 ∨ i = k + 2 ∨ i = k + 3 ∨ i = k + 4 := by omega
      all_goals simp <;> omega
    · rw [List.getElem?_append_right (by simp; omega), List.getElem?_drop]
      simp only [List.length_cons, List.length_nil]
      rw [if_neg (by omega), if_neg (by omega), if_neg (by omega), if_neg (by omega), if_neg (by omega)]
      congr 1
      omega

theorem take_mid (A C : List Value) (N : Nat) (h : A.length ≤ N) : (A ++ C).take N = A ++ C.take (N - A.length) := by rw [List.take_append, List.take_of_length_le h]

theorem InsRow.set {w : World} {base g cap n : Nat} {l : List Ins} (h : InsRow w base (.slice (some ⟨g, 0, none⟩) n cap) l) (i : Nat) (hi : i < l.length) (x : Ins) :
    InsRow (((((w.setCell ⟨g, i * 5, none⟩ (.int .u8 x.op)).setCell ⟨g, i * 5 + 1, none⟩ (.int .i64 x.a)).setCell ⟨g, i * 5 + 2, none⟩ (.int .i64 x.b)).setCell ⟨g, i * 5 + 3, none⟩ (.int .i64 x.c)).setCell ⟨g, i * 5 + 4, none⟩ (.int .i64 x.d)) base (.slice (some ⟨g, 0, none⟩) n cap) (l.set i x) ∧
    Mv (fun b => b = g) w (((((w.setCell ⟨g, i * 5, none⟩ (.int .u8 x.op)).setCell ⟨g, i * 5 + 1, none⟩ (.int .i64 x.a)).setCell ⟨g, i * 5 + 2, none⟩ (.int .i64 x.b)).setCell ⟨g, i * 5 + 3, none⟩ (.int .i64 x.c)).setCell ⟨g, i * 5 + 4, none⟩ (.int .i64 x.d)) := by
  constructor
  · rcases h.2 with ⟨e, _⟩ | ⟨g', cap', cur, e, hb, hg, hnc, hcm, hcs, htake⟩
    · simp at e
    · simp only [Value.slice.injEq, Option.some.injEq, Addr.mk.injEq, and_true] at e
      obtain ⟨rfl, rfl, rfl⟩ := e
      have h1 := block_setCell (p := ⟨g, i * 5, none⟩) hg rfl (.int .u8 x.op)
      have h2 := block_setCell (p := ⟨g, i * 5 + 1, none⟩) h1 rfl (.int .i64 x.a)
      have h3 := block_setCell (p := ⟨g, i * 5 + 2, none⟩) h2 rfl (.int .i64 x.b)
      have h4 := block_setCell (p := ⟨g, i * 5 + 3, none⟩) h3 rfl (.int .i64 x.c)
      have h5 := block_setCell (p := ⟨g, i * 5 + 4, none⟩) h4 rfl (.int .i64 x.d)
      have hfl : ∀ x : Ins, (Ins.cells x).length = 5 := fun _ => rfl
      have hbound : i * 5 + 5 ≤ cur.size := by
        rw [hcs]
        have := Nat.mul_le_mul_right 5 (show i + 1 ≤ cap by omega)
        omega
      refine ⟨by rw [flat_len _ 5 hfl], .inr ⟨g, cap, _, by simp, hb, h5, by simpa using hnc, hcm, by simpa using hcs, ?_⟩⟩
      rw [set5_list cur (i * 5) _ _ _ _ _ hbound, flat_set _ 5 hfl l i x hi]
      have hlt : i * 5 + 5 ≤ l.length * 5 := by omega
      have ht1 : (flat Ins.cells l).take (i * 5) = cur.toList.take (i * 5) := by
        rw [← htake, List.take_take, Nat.min_eq_left (by omega)]
      have ht2 : (flat Ins.cells l).drop (i * 5 + 5) = (cur.toList.drop (i * 5 + 5)).take (l.length * 5 - (i * 5 + 5)) := by
        rw [← htake, List.drop_take]
      have hl1 : (cur.toList.take (i * 5) ++ [Value.int .u8 x.op, .int .i64 x.a, .int .i64 x.b, .int .i64 x.c, .int .i64 x.d]).length = i * 5 + 5 := by simp; omega
      rw [ht1, ht2, List.length_set, take_mid _ _ _ (by rw [hl1]; exact hlt), hl1]
      rfl
  · exact (((((Mv.refl (fun b => b = g) w).setCell (p := ⟨g, i * 5, none⟩) (.inl rfl) _).setCell (p := ⟨g, i * 5 + 1, none⟩) (.inl rfl) _).setCell (p := ⟨g, i * 5 + 2, none⟩) (.inl rfl) _).setCell (p := ⟨g, i * 5 + 3, none⟩) (.inl rfl) _).setCell (p := ⟨g, i * 5 + 4, none⟩) (.inl rfl) _

end Go.Proofs.YtaabkaiifplhgaaDoor
