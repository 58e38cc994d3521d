/- Rows of structs that the call owns: instructions, symbols. -/
import Derived.Test.YtaabkaiifplhgaaDoorLLinkable
namespace Go.Proofs.YtaabkaiifplhgaaDoor
set_option linter.unusedSimpArgs false
set_option linter.unusedVariables false
open Go.RowKit

/-- a row of things of n cells, as cells -/
def flat {α : Type} (f : α → List Value) (l : List α) : List Value := (l.map f).flatten

theorem flat_append {α : Type} (f : α → List Value) (a b : List α) : flat f (a ++ b) = flat f a ++ flat f b := by simp [flat]
theorem flat_len {α : Type} (f : α → List Value) (n : Nat) (h : ∀ x, (f x).length = n) : ∀ l : List α, (flat f l).length = l.length * n
  | [] => by simp [flat]
  | x :: l => by
    have := flat_len f n h l
    simp only [flat, List.map_cons, List.flatten_cons, List.length_append, h, List.length_cons] at this ⊢
    rw [this, Nat.add_mul]; omega
theorem flat_at {α : Type} (f : α → List Value) (n : Nat) (h : ∀ x, (f x).length = n) : ∀ (l : List α) (i j : Nat) (hi : i < l.length), j < n → (flat f l)[i * n + j]? = (f l[i])[j]?
  | [], i, j, hi, _ => by simp at hi
  | x :: l, 0, j, _, hj => by
    simp only [flat, List.map_cons, List.flatten_cons, Nat.zero_mul, Nat.zero_add, List.getElem_cons_zero]
    rw [List.getElem?_append_left (by rw [h]; exact hj)]
  | x :: l, i + 1, j, hi, hj => by
    have := flat_at f n h l i j (by simpa using hi) hj
    simp only [flat, List.map_cons, List.flatten_cons, List.getElem_cons_succ] at this ⊢
    rw [List.getElem?_append_right (by rw [h, Nat.add_mul]; omega), h, show (i + 1) * n + j - n = i * n + j by rw [Nat.add_mul]; omega]
    exact this

/-- a row of the call's own, read -/
theorem rowAt_of_owns {α : Type} {f : α → List Value} {n e base : Nat} {w : World} {v : Value} {l : List α} (hf : ∀ x, (f x).length = n) (h : w.ownsRow base e n v l.length (flat f l)) : RowAt n f w v l := by
  rcases h.2 with ⟨rfl, hl⟩ | ⟨g, cap, cur, rfl, hb, hg, hnc, hcm, hcs, htake⟩
  · obtain rfl : l = [] := List.eq_nil_of_length_eq_zero hl
    exact RowAt.nil _ _ _
  · refine ⟨_, cap, rfl, hnc, by unfold maxLen at hcm; omega, fun i x hx => ⟨g, 0, rfl, fun j u hu => ?_⟩⟩
    have hi := (List.getElem?_eq_some_iff.1 hx).1
    have hj : j < n := by rw [← hf x]; exact (List.getElem?_eq_some_iff.1 hu).1
    have hx' : l[i] = x := by rw [List.getElem?_eq_getElem hi] at hx; simpa using hx
    have h1 := flat_at f n hf l i j hi hj
    rw [hx', hu] at h1
    have hlt : i * n + j < l.length * n := by
      have := Nat.mul_le_mul_right n (show i + 1 ≤ l.length from hi)
      rw [Nat.add_mul] at this; omega
    have h2 : cur[i * n + j]? = some u := by
      rw [← htake, List.getElem?_take, if_pos hlt] at h1
      simpa using h1
    simp only [World.cell?, hg, Option.isSome_none, Bool.false_eq_true, if_false, Nat.zero_add]
    exact h2

theorem row_keep {α : Type} {f : α → List Value} {n e base : Nat} {w w' : World} {v : Value} {l : List α} {O : Nat → Prop} (h : w.ownsRow base e n v l.length (flat f l)) (hm : Mv O w w') (hO : ∀ g, v.ownBlock = some g → ¬ O g) : w'.ownsRow base e n v l.length (flat f l) := by
  refine ⟨h.1, ?_⟩
  rcases h.2 with h1 | ⟨g, cap, cur, rfl, hb, hg, rest⟩
  · exact .inl h1
  · exact .inr ⟨g, cap, cur, rfl, hb, by rw [hm.block g (lt_of_block hg) (hO g rfl)]; exact hg, rest⟩
theorem row_slice {α : Type} {f : α → List Value} {n e base : Nat} {w : World} {v : Value} {l : List α} (h : w.ownsRow base e n v l.length (flat f l)) : ∃ a c, v = .slice a l.length c := by
  rcases h.2 with ⟨rfl, hl⟩ | ⟨g, cap, cur, rfl, _⟩
  · exact ⟨none, 0, by rw [hl]⟩
  · exact ⟨_, _, rfl⟩

theorem block_setCell {w : World} {p : Addr} {c : Array Value} {t : TypeId} {z : Nat × Nat} (h : w.heap[p.block]? = some (.cells c t z)) (hp : p.spot = none) (u : Value) :
    (w.setCell p u).heap[p.block]? = some (.cells (c.setIfInBounds p.off u) t z) := by
  have hlt := lt_of_block h
  have h' : w.heap[p.block] = .cells c t z := by simpa [Array.getElem?_eq_getElem hlt] using h
  show (w.heap.modify p.block _)[p.block]? = _
  rw [Array.getElem?_eq_getElem (by simpa using hlt), Array.getElem_modify_self, h']
  simp [hp]

structure SymD where
  name : ByteArray
  at' : Int
def SymD.cells (s : SymD) : List Value := [.string s.name, .int .i64 s.at']

abbrev InsRow (w : World) (base : Nat) (v : Value) (l : List Ins) : Prop := w.ownsRow base 57 5 v l.length (flat Ins.cells l)
abbrev SymRow (w : World) (base : Nat) (v : Value) (l : List SymD) : Prop := w.ownsRow base 53 2 v l.length (flat SymD.cells l)

theorem Tryd.infoIns : (Tryd.prog.info? 57).map (fun i => (i.zero, i.size, i.bytes)) = some (some (.agg #[.int .u8 0, .int .i64 0, .int .i64 0, .int .i64 0, .int .i64 0]), 5, 40) := by kernel_rfl
theorem Tryd.infoSym : (Tryd.prog.info? 53).map (fun i => (i.zero, i.size, i.bytes)) = some (some (.agg #[.string ⟨#[]⟩, .int .i64 0]), 2, 24) := by kernel_rfl

/-- an append of one instruction -/
theorem app_ins (v : Value) (x : Ins) (xs : List Ins) (base : Nat) (w : World) (hrow : InsRow w base v xs) (hb : base ≤ w.heap.size) (hlen : xs.length ≤ 1000000) :
    ∃ a' c' w2, (AppOK Tryd.prog 26 26 v (.slice (some ⟨w.heap.size, 0, none⟩) 1 1) (w.alloc (.cells #[.int .u8 x.op, .int .i64 x.a, .int .i64 x.b, .int .i64 x.c, .int .i64 x.d] 57)) ∧
        appV Tryd.prog 26 26 v (.slice (some ⟨w.heap.size, 0, none⟩) 1 1) (w.alloc (.cells #[.int .u8 x.op, .int .i64 x.a, .int .i64 x.b, .int .i64 x.c, .int .i64 x.d] 57)) = .slice a' (xs.length + 1) c' ∧ appW Tryd.prog 26 26 v (.slice (some ⟨w.heap.size, 0, none⟩) 1 1) (w.alloc (.cells #[.int .u8 x.op, .int .i64 x.a, .int .i64 x.b, .int .i64 x.c, .int .i64 x.d] 57)) = w2) ∧
      InsRow w2 base (.slice a' (xs.length + 1) c') (xs ++ [x]) ∧ Mv (fun b => v.ownBlock = some b) w w2 ∧ (∀ g, (Value.slice a' (xs.length + 1) c').ownBlock = some g → v.ownBlock = some g ∨ w.heap.size ≤ g) := by
  obtain ⟨i0, hi, hz0, hz1, hz2⟩ := info_parts Tryd.infoIns
  obtain ⟨v', w2, hr, hown1, hgrow, _, hnew⟩ := run_append_own2 (P := Tryd.prog) (w.alloc (.cells #[.int .u8 x.op, .int .i64 x.a, .int .i64 x.b, .int .i64 x.c, .int .i64 x.d] 57)) base 26 26 57 i0 (.agg #[.int .u8 0, .int .i64 0, .int .i64 0, .int .i64 0, .int .i64 0]) 5 40 Tryd.underlying26 hi hz0 hz1 hz2 rfl (by decide) v _ _ (hrow.alloc _) ⟨w.heap.size, 0, none⟩ 1 1 x.cells rfl
    (World.news_of_block (cs := #[.int .u8 x.op, .int .i64 x.a, .int .i64 x.b, .int .i64 x.c, .int .i64 x.d]) (t := 57) (fr := (0, 0)) (heap_alloc_new w _)) (by simp [Value.oneCell', Ins.cells]) (by unfold maxLen; omega) (by omega) (by simp; omega)
  have hform : ∃ a' c', v' = .slice a' (xs.length + 1) c' := by
    rcases hown1.2 with ⟨_, h0⟩ | ⟨g, cap, cur, rfl, _⟩
    · omega
    · exact ⟨_, _, rfl⟩
  obtain ⟨a', c', rfl⟩ := hform
  obtain ⟨hok, hv, hw2⟩ := app_of hr
  refine ⟨a', c', w2, ⟨hok, hv, hw2⟩, ?_, ((Mv.refl _ _).alloc _).grown hgrow (fun k hk => .inl hk), fun g hg => ?_⟩
  · rw [InsRow, flat_append]; simpa [flat] using hown1
  · rcases hnew g hg with h1 | h1
    · exact .inl h1
    · exact .inr (by simp at h1; omega)

/-- an append of one symbol -/
theorem app_sym (v : Value) (x : SymD) (xs : List SymD) (base : Nat) (w : World) (hrow : SymRow w base v xs) (hb : base ≤ w.heap.size) (hlen : xs.length ≤ 1000000) :
    ∃ a' c' w2, (AppOK Tryd.prog 37 37 v (.slice (some ⟨w.heap.size, 0, none⟩) 1 1) (w.alloc (.cells #[.string x.name, .int .i64 x.at'] 53)) ∧
        appV Tryd.prog 37 37 v (.slice (some ⟨w.heap.size, 0, none⟩) 1 1) (w.alloc (.cells #[.string x.name, .int .i64 x.at'] 53)) = .slice a' (xs.length + 1) c' ∧ appW Tryd.prog 37 37 v (.slice (some ⟨w.heap.size, 0, none⟩) 1 1) (w.alloc (.cells #[.string x.name, .int .i64 x.at'] 53)) = w2) ∧
      SymRow w2 base (.slice a' (xs.length + 1) c') (xs ++ [x]) ∧ Mv (fun b => v.ownBlock = some b) w w2 ∧ (∀ g, (Value.slice a' (xs.length + 1) c').ownBlock = some g → v.ownBlock = some g ∨ w.heap.size ≤ g) := by
  obtain ⟨i0, hi, hz0, hz1, hz2⟩ := info_parts Tryd.infoSym
  obtain ⟨v', w2, hr, hown1, hgrow, _, hnew⟩ := run_append_own2 (P := Tryd.prog) (w.alloc (.cells #[.string x.name, .int .i64 x.at'] 53)) base 37 37 53 i0 (.agg #[.string ⟨#[]⟩, .int .i64 0]) 2 24 Tryd.underlying37 hi hz0 hz1 hz2 rfl (by decide) v _ _ (hrow.alloc _) ⟨w.heap.size, 0, none⟩ 1 1 x.cells rfl
    (World.news_of_block (cs := #[.string x.name, .int .i64 x.at']) (t := 53) (fr := (0, 0)) (heap_alloc_new w _)) (by simp [Value.oneCell', SymD.cells]) (by unfold maxLen; omega) (by omega) (by simp; omega)
  have hform : ∃ a' c', v' = .slice a' (xs.length + 1) c' := by
    rcases hown1.2 with ⟨_, h0⟩ | ⟨g, cap, cur, rfl, _⟩
    · omega
    · exact ⟨_, _, rfl⟩
  obtain ⟨a', c', rfl⟩ := hform
  obtain ⟨hok, hv, hw2⟩ := app_of hr
  refine ⟨a', c', w2, ⟨hok, hv, hw2⟩, ?_, ((Mv.refl _ _).alloc _).grown hgrow (fun k hk => .inl hk), fun g hg => ?_⟩
  · rw [SymRow, flat_append]; simpa [flat] using hown1
  · rcases hnew g hg with h1 | h1
    · exact .inl h1
    · exact .inr (by simp at h1; omega)

end Go.Proofs.YtaabkaiifplhgaaDoor
