/- Rows of objects that the call owns; rows that lie in one block. -/
import Derived.Test.YtaabkaiifplhgaaDoorLFew
namespace Go.Proofs.YtaabkaiifplhgaaDoor
set_option linter.unusedSimpArgs false
set_option linter.unusedVariables false
open Go.RowKit Go.Instr

theorem flat_get {α : Type} (f : α → List Value) (n : Nat) (hn : 0 < n) (h : ∀ x, (f x).length = n) (l : List α) (j : Nat) (u : Value) (hu : (flat f l)[j]? = some u) : ∃ i r, j = i * n + r ∧ ∃ hi : i < l.length, (f l[i])[r]? = some u := by
  have hj : j < l.length * n := by have := (List.getElem?_eq_some_iff.1 hu).1; rw [flat_len f n h] at this; exact this
  have hi : j / n < l.length := (Nat.div_lt_iff_lt_mul hn).2 hj
  have hr : j % n < n := Nat.mod_lt _ hn
  have he : j / n * n + j % n = j := by rw [Nat.mul_comm]; exact Nat.div_add_mod j n
  have h1 := flat_at f n h l (j / n) (j % n) hi hr
  rw [he, hu] at h1
  exact ⟨j / n, j % n, he.symm, hi, h1.symm⟩

/-- a row in a block of its own -/
theorem RowAt.ofBlock {α : Type} {n : Nat} {f : α → List Value} {w : World} {b : Nat} {cs : Array Value} {t : TypeId} {fr : Nat × Nat} {l : List α} (hf : ∀ x, (f x).length = n) (h : w.heap[b]? = some (.cells cs t fr)) (hl : cs.toList = flat f l) (hn : l.length ≤ 9223372036854775807) : RowAt n f w (.slice (some ⟨b, 0, none⟩) l.length l.length) l := by
  refine ⟨_, _, rfl, Nat.le_refl _, hn, fun i x hx => ⟨b, 0, rfl, fun j u hu => ?_⟩⟩
  have hi := (List.getElem?_eq_some_iff.1 hx).1
  have hj : j < n := by rw [← hf x]; exact (List.getElem?_eq_some_iff.1 hu).1
  have hx' : l[i] = x := by rw [List.getElem?_eq_getElem hi] at hx; simpa using hx
  have h1 := flat_at f n hf l i j hi hj
  rw [hx', hu, ← hl] at h1
  simp only [World.cell?, h, Option.isSome_none, Bool.false_eq_true, if_false, Nat.zero_add]
  simpa using h1

abbrev ObjRow (w : World) (base : Nat) (v : Value) (l : List ObjV) : Prop := w.ownsRow base 31 7 v l.length (flat ObjV.cells l)

theorem Tryd.infoObj : (Tryd.prog.info? 31).map (fun i => (i.zero, i.size, i.bytes)) = some (some (.agg #[.string ⟨#[]⟩, .slice none 0 0, .slice none 0 0, .int .i64 0, .int .i64 0, .slice none 0 0, .slice none 0 0]), 7, 128) := by kernel_rfl

theorem obj_one {w : World} {o : ObjV} (h : ObjAt w o) : ∀ u ∈ o.cells, u.oneCell' = true := by
  obtain ⟨a1, c1, a2, c2, a3, c3, a4, c4, ⟨h1, h2, h3, h4⟩, _⟩ := h.slices
  intro u hu
  simp only [ObjV.cells, h1, h2, h3, h4, List.mem_cons, List.not_mem_nil, or_false] at hu
  rcases hu with rfl | rfl | rfl | rfl | rfl | rfl | rfl <;> rfl

/-- an append of objects -/
theorem app_objs (v : Value) (xs l : List ObjV) (b off c base : Nat) (w : World) (hrow : ObjRow w base v xs) (hs : RowAt 7 ObjV.cells w (.slice (some ⟨b, off, none⟩) l.length c) l) (h1 : ∀ o ∈ l, ObjAt w o) (hb : base ≤ w.heap.size) (hlen : xs.length + l.length ≤ 1000000) :
    ∃ a' c' w2, (AppOK Tryd.prog 32 32 v (.slice (some ⟨b, off, none⟩) l.length c) w ∧ appV Tryd.prog 32 32 v (.slice (some ⟨b, off, none⟩) l.length c) w = .slice a' (xs.length + l.length) c' ∧ appW Tryd.prog 32 32 v (.slice (some ⟨b, off, none⟩) l.length c) w = w2) ∧
      ObjRow w2 base (.slice a' (xs.length + l.length) c') (xs ++ l) ∧ Mv (fun b => v.ownBlock = some b) w w2 ∧ (∀ g, (Value.slice a' (xs.length + l.length) c').ownBlock = some g → v.ownBlock = some g ∨ w.heap.size ≤ g) := by
  obtain ⟨i0, hi, hz0, hz1, hz2⟩ := info_parts Tryd.infoObj
  have hfl : ∀ x : ObjV, (ObjV.cells x).length = 7 := fun _ => rfl
  obtain ⟨v', w2, hr, hown1, hgrow, _, hnew⟩ := run_append_own2 (P := Tryd.prog) w base 32 32 31 i0 (.agg #[.string ⟨#[]⟩, .slice none 0 0, .slice none 0 0, .int .i64 0, .int .i64 0, .slice none 0 0, .slice none 0 0]) 7 128 Tryd.underlying32 hi hz0 hz1 hz2 rfl (by decide) v _ _ hrow ⟨b, off, none⟩ l.length c (flat ObjV.cells l) (flat_len _ 7 hfl l)
    (fun j u hu => by
      obtain ⟨i, r, rfl, hi, hu⟩ := flat_get _ 7 (by decide) hfl l j u hu
      have := hs.at' hi r u hu
      have e : (⟨b, off, none⟩ : Addr).add (i * 7 + r) = ⟨b, off + i * 7 + r, none⟩ := by unfold Addr.add; simp [Nat.add_assoc]
      rw [e]; exact this)
    (fun u hu => by
      simp only [flat, List.mem_flatten, List.mem_map] at hu
      obtain ⟨_, ⟨o, ho, rfl⟩, hu⟩ := hu
      exact obj_one (h1 o ho) u hu)
    (by unfold maxLen; omega) (by omega) hb
  have hform : ∃ a' c', v' = .slice a' (xs.length + l.length) c' := by
    rcases hown1.2 with ⟨rfl, h0⟩ | ⟨g, cap, cur, rfl, _⟩
    · exact ⟨none, 0, by rw [h0]⟩
    · exact ⟨_, _, rfl⟩
  obtain ⟨a', c', rfl⟩ := hform
  obtain ⟨hok, hv, hw2⟩ := app_of hr
  refine ⟨a', c', w2, ⟨hok, hv, hw2⟩, ?_, (Mv.refl _ _).grown hgrow (fun k hk => .inl hk), fun g hg => hnew g hg⟩
  rw [ObjRow, flat_append, List.length_append]; exact hown1

/-- an append of objects to a new row without any: new memory alone -/
theorem app_objs0 (l : List ObjV) (g b off c : Nat) (w : World) (hg : w.heap[g]? = some (.cells #[] 31 (0, 0))) (hs : RowAt 7 ObjV.cells w (.slice (some ⟨b, off, none⟩) l.length c) l) (h1 : ∀ o ∈ l, ObjAt w o) (hlen : l.length ≤ 1000000) :
    ∃ a' c' w2, (AppOK Tryd.prog 32 32 (.slice (some ⟨g, 0, none⟩) 0 0) (.slice (some ⟨b, off, none⟩) l.length c) w ∧ appV Tryd.prog 32 32 (.slice (some ⟨g, 0, none⟩) 0 0) (.slice (some ⟨b, off, none⟩) l.length c) w = .slice a' l.length c' ∧ appW Tryd.prog 32 32 (.slice (some ⟨g, 0, none⟩) 0 0) (.slice (some ⟨b, off, none⟩) l.length c) w = w2) ∧
      ObjRow w2 g (.slice a' l.length c') l ∧ Grow w w2 := by
  have hgl := lt_of_block hg
  have hrow : ObjRow w g (.slice (some ⟨g, 0, none⟩) 0 0) [] := ⟨rfl, .inr ⟨g, 0, #[], rfl, Nat.le_refl _, hg, Nat.le_refl _, by simp, rfl, rfl⟩⟩
  obtain ⟨a', c', w2, ⟨hok, hv, hw⟩, h2, h3, -⟩ := app_objs (.slice (some ⟨g, 0, none⟩) 0 0) [] l b off c g w hrow hs h1 (Nat.le_of_lt hgl) (by simpa using hlen)
  simp only [List.length_nil, Nat.zero_add, List.nil_append] at hv h2
  refine ⟨a', c', w2, ⟨hok, hv, hw⟩, h2, ⟨h3.os, h3.tape, h3.output, h3.size, fun k hk _ => ?_⟩⟩
  by_cases hkg : k = g
  · subst hkg
    obtain ⟨i0, hi, hz0, hz1, hz2⟩ := info_parts Tryd.infoObj
    have hfl : ∀ x : ObjV, (ObjV.cells x).length = 7 := fun _ => rfl
    have hnews : ∀ j u, (flat ObjV.cells l)[j]? = some u → w.cell? ((⟨b, off, none⟩ : Addr).add j) = some u := fun j u hu => by
      obtain ⟨i, r, rfl, hi, hu⟩ := flat_get _ 7 (by decide) hfl l j u hu
      have := hs.at' hi r u hu
      have e : (⟨b, off, none⟩ : Addr).add (i * 7 + r) = ⟨b, off + i * 7 + r, none⟩ := by unfold Addr.add; simp [Nat.add_assoc]
      rw [e]; exact this
    have hrun := run_app hok
    rw [hv, hw] at hrun
    rcases Nat.eq_zero_or_pos l.length with h0 | h0
    · obtain rfl : l = [] := List.eq_nil_of_length_eq_zero h0
      have hr2 := run_append_room (P := Tryd.prog) w 32 32 31 i0 Tryd.underlying32 hi k 0 0 #[] hg ⟨b, off, none⟩ 0 c [] (by simp) (by simp) (by simp) (Nat.le_refl _) (by simp)
      simp only [List.length_nil] at hrun
      rw [hrun] at hr2
      simp only [Result.ok.injEq] at hr2
      rw [hr2.2, hg]
      have := setRow_heap w k #[] ([] : List Value).toArray _ _ hg
      simpa using this
    · have hr2 := run_append_grow (P := Tryd.prog) w 32 32 31 i0 _ Tryd.underlying32 hi hz0 ⟨k, 0, none⟩ 0 0 [] (by simp) (by simp) ⟨b, off, none⟩ l.length c (flat ObjV.cells l) (by rw [hz1]; exact flat_len _ 7 hfl l) hnews (by omega) (by omega) (growslice_fits (by omega) (by rw [hz2]; omega))
      rw [hrun] at hr2
      simp only [Result.ok.injEq] at hr2
      rw [hr2.2]
      exact Below.heap_alloc w.drew _ k hk
  · exact h3.block k hk (fun e => hkg (by simp [Value.ownBlock] at e; exact e.symm))

theorem ObjRow.objs {w : World} {base : Nat} {v : Value} {l : List ObjV} (h : ObjRow w base v l) (he : ∀ o ∈ l, ObjAt w o) : ObjsAt w v l := ⟨rowAt_of_owns (fun _ => rfl) h, he⟩

/-- a new row without any object -/
theorem ObjRow.empty (w : World) : ObjRow (w.alloc (.cells #[] 31)) w.heap.size (.slice (some ⟨w.heap.size, 0, none⟩) 0 0) [] :=
  ⟨rfl, .inr ⟨w.heap.size, 0, #[], rfl, Nat.le_refl _, heap_alloc_new w _, Nat.le_refl _, by simp, rfl, rfl⟩⟩

end Go.Proofs.YtaabkaiifplhgaaDoor
