/- A queue: a slice of the call's own, from any place of its block, which is appended to and cut at its head; a row of marks. No program is named. -/
import Derived.Test.YtaabkaiifplhgaaDoorLStr
import Derived.Deep.MidRow
import Derived.Deep.Upon
import Derived.Laws.MakeOwn
namespace Go.Proofs.YtaabkaiifplhgaaDoor
set_option linter.unusedSimpArgs false
set_option linter.unusedVariables false
open Go.RowKit Go.Instr

theorem add_lit3 (b off k : Nat) : (⟨b, off, none⟩ : Addr).add k = ⟨b, off + k, none⟩ := by unfold Addr.add; split <;> simp_all

section
variable {P : Program} {t e : TypeId} {n bytes : Nat} {α : Type} {f : α → List Value}

def QAt (n : Nat) (f : α → List Value) (w : World) (base : Nat) (v : Value) (l : List α) : Prop :=
  RowAt n f w v l ∧ ∃ b off cap, v = .slice (some ⟨b, off, none⟩) l.length cap ∧ (base ≤ b ∧ b < w.heap.size) ∧ l.length ≤ cap ∧
    (∀ j, j < cap * n → (w.cell? ⟨b, off + j, none⟩).isSome = true) ∧ ∀ j, w.frozen? ⟨b, j, none⟩ = false

theorem frozen_of_block {w w' : World} {b : Nat} (h : w'.heap[b]? = w.heap[b]?) (j : Nat) : w'.frozen? ⟨b, j, none⟩ = w.frozen? ⟨b, j, none⟩ := by simp [World.frozen?, h]

theorem QAt.keep {w w' : World} {base : Nat} {v : Value} {l : List α} {O : Nat → Prop} (h : QAt n f w base v l) (hm : Mv O w w') (hO : ∀ g, v.ownBlock = some g → ¬ O g) : QAt n f w' base v l := by
  obtain ⟨hr, b, off, cap, rfl, ⟨hb, hl⟩, hc, hs, hz⟩ := h
  have hbk := hm.block b hl (hO b rfl)
  refine ⟨?_, b, off, cap, rfl, ⟨hb, Nat.lt_of_lt_of_le hl hm.size⟩, hc, fun j hj => ?_, fun j => ?_⟩
  · obtain ⟨a, cap', e1, h2, h3, h4⟩ := hr
    refine ⟨a, cap', e1, h2, h3, fun i x hx => ?_⟩
    obtain ⟨b', off', hb', hc'⟩ := h4 i x hx
    refine ⟨b', off', hb', fun j u hu => ?_⟩
    subst hb'
    simp only [Value.slice.injEq, Option.some.injEq, Addr.mk.injEq, and_true] at e1
    obtain ⟨⟨rfl, rfl⟩, -⟩ := e1
    rw [← hc' j u hu]
    exact World.cell?_of_block hbk
  · rw [World.cell?_of_block (w := w) (w' := w') (a := ⟨b, off + j, none⟩) hbk]; exact hs j hj
  · rw [frozen_of_block hbk]; exact hz j

theorem QAt.one {w : World} {base b : Nat} {x : α} {cs : Array Value} {ty : TypeId} (hf : ∀ x, (f x).length = n) (h : w.heap[b]? = some (.cells cs ty (0, 0))) (hx : cs.toList = f x) (hb : base ≤ b) : QAt n f w base (.slice (some ⟨b, 0, none⟩) 1 1) [x] := by
  have hr := RowAt.ofBlock (l := [x]) hf h (by simpa [flat] using hx) (by simp)
  refine ⟨hr, b, 0, 1, rfl, ⟨hb, lt_of_block h⟩, Nat.le_refl _, fun j hj => ?_, fun j => ?_⟩
  · have hl : cs.size = n := by rw [← hf x, ← hx, Array.length_toList]
    have : j < cs.size := by omega
    simp [World.cell?, h, this]
  · simp [World.frozen?, h]

/-- the head cut off: where the capacity ends, the address stays -/
theorem QAt.pop {w : World} {base b off cap : Nat} {x : α} {l : List α} (h : QAt n f w base (.slice (some ⟨b, off, none⟩) (l.length + 1) cap) (x :: l)) : QAt n f w base (.slice (some (if cap = 1 then ⟨b, off, none⟩ else ⟨b, off + n, none⟩)) l.length (cap - 1)) l := by
  obtain ⟨hr, b', off', cap', e1, ⟨hb, hl⟩, hc, hs, hz⟩ := h
  simp only [Value.slice.injEq, Option.some.injEq, Addr.mk.injEq, and_true, List.length_cons, true_and] at e1
  obtain ⟨⟨rfl, rfl⟩, rfl⟩ := e1
  rw [List.length_cons] at hc
  by_cases h1 : cap = 1
  · subst h1
    obtain rfl : l = [] := List.eq_nil_of_length_eq_zero (by omega)
    simp only [if_true]
    exact ⟨⟨_, _, rfl, by simp, by simp, fun i y hy => by simp at hy⟩, b, off, 0, rfl, ⟨hb, hl⟩, by simp, fun j hj => by omega, hz⟩
  · simp only [if_neg h1]
    obtain ⟨a, cap', e1, h2, h3, h4⟩ := hr
    simp only [Value.slice.injEq, List.length_cons, true_and] at e1
    obtain ⟨rfl, rfl⟩ := e1
    rw [List.length_cons] at h3
    refine ⟨⟨_, _, rfl, by omega, by omega, fun i y hy => ?_⟩, b, off + n, cap - 1, rfl, ⟨hb, hl⟩, by omega, fun j hj => ?_, hz⟩
    · obtain ⟨b', off', hb', hc'⟩ := h4 (i + 1) y (by simpa using hy)
      simp only [Option.some.injEq, Addr.mk.injEq, and_true] at hb'
      obtain ⟨rfl, rfl⟩ := hb'
      refine ⟨b, off + n, rfl, fun j u hu => ?_⟩
      have := hc' j u hu
      rwa [show off + (i + 1) * n + j = off + n + i * n + j by rw [Nat.add_mul]; omega] at this
    · have h5 : n + j < cap * n := by
        have : cap * n = (cap - 1) * n + n := by
          conv => lhs; rw [show cap = cap - 1 + 1 by omega, Nat.add_mul]
          omega
        omega
      have := hs (n + j) h5
      rwa [← Nat.add_assoc] at this

theorem mv_setCells (w : World) (b o : Nat) (vs : List Value) : Mv (fun x => x = b) w (w.setCells b o vs) := by
  induction vs generalizing w o with
  | nil => exact Mv.refl _ _
  | cons v vs ih => exact ((Mv.refl (fun x => x = b) w).setCell (p := ⟨b, o, none⟩) (.inl rfl) v).trans (ih (w.setCell ⟨b, o, none⟩ v) (o + 1)) (fun x hx => .inl hx)

/-- an append of one -/
theorem app_queue (E : Elem P t e n bytes) (hf : ∀ x, (f x).length = n) (v : Value) (x : α) (l : List α) (base sb so sc : Nat) (w : World) (hq : QAt n f w base v l) (hs : RowAt n f w (.slice (some ⟨sb, so, none⟩) 1 sc) [x]) (h1 : ∀ u ∈ f x, u.oneCell' = true) (hb : base ≤ w.heap.size) (hlen : l.length ≤ 1000000) :
    ∃ v' w2, (AppOK P t t v (.slice (some ⟨sb, so, none⟩) 1 sc) w ∧ appV P t t v (.slice (some ⟨sb, so, none⟩) 1 sc) w = v' ∧ appW P t t v (.slice (some ⟨sb, so, none⟩) 1 sc) w = w2) ∧
      QAt n f w2 base v' (l ++ [x]) ∧ Mv (fun b => v.ownBlock = some b) w w2 := by
  obtain ⟨i, z, hi, hz, hsz, hby, hzc⟩ := E.hi
  subst hsz
  obtain ⟨hr, b, off, cap, rfl, ⟨hbb, hbl⟩, hc, hso, hfz⟩ := hq
  have hcx := hs.at' (i := 0) (by simp)
  simp only [Nat.zero_mul, Nat.add_zero, List.getElem_cons_zero] at hcx
  have hsrc := Src.ofSlice (P := P) w (size := i.size) E.ht ⟨sb, so, none⟩ 1 sc (f x) (by rw [hf, Nat.one_mul]) (fun j u hu => by rw [add_lit3]; exact hcx j u hu) h1
  by_cases hroom : l.length + 1 ≤ cap
  · have hr2 := run_append_room_src (P := P) w t t t e i E.ht hi b off l.length cap _ 1 (f x) hsrc hroom (fun j hj => by
      have h5 : l.length * i.size + j < cap * i.size := by
        have : (l.length + 1) * i.size ≤ cap * i.size := Nat.mul_le_mul_right _ hroom
        rw [Nat.add_mul] at this
        rw [hf] at hj
        omega
      have := hso _ h5
      rwa [← Nat.add_assoc] at this) (fun j hj => hfz _)
    obtain ⟨hok, hv, hw⟩ := app_of hr2
    refine ⟨_, _, ⟨hok, hv, hw⟩, ⟨⟨some ⟨b, off, none⟩, cap, by simp, by simpa using hroom, by simp; omega, fun k y hy => ⟨b, off, rfl, fun j u hu => ?_⟩⟩, b, off, cap, by simp, ⟨hbb, Nat.lt_of_lt_of_le hbl (mv_setCells _ _ _ _).size⟩, by simpa using hroom, fun j hj => World.isSome_setCells _ _ _ _ _ (hso j hj), fun j => by rw [World.frozen?_setCells]; exact hfz j⟩, (mv_setCells _ _ _ _).mono (fun y hy => .inl (by subst hy; rfl))⟩
    have hjn : j < i.size := by rw [← hf y]; exact (List.getElem?_eq_some_iff.1 hu).1
    rcases Nat.lt_or_ge k l.length with hk | hk
    · rw [List.getElem?_append_left hk] at hy
      obtain ⟨a, cap', e1, h2, h3, h4⟩ := hr
      simp only [Value.slice.injEq, true_and] at e1
      obtain ⟨rfl, rfl⟩ := e1
      obtain ⟨b', off', hb', hc'⟩ := h4 k y hy
      simp only [Option.some.injEq, Addr.mk.injEq, and_true] at hb'
      obtain ⟨rfl, rfl⟩ := hb'
      rw [World.cell?_setCells_out]
      · exact hc' j u hu
      · intro _ _
        left
        have : (k + 1) * i.size ≤ l.length * i.size := Nat.mul_le_mul_right _ hk
        rw [Nat.add_mul] at this
        simp only
        omega
    · rw [List.getElem?_append_right hk] at hy
      have hk0 : k - l.length = 0 := by
        have := (List.getElem?_eq_some_iff.1 hy).1
        simp at this; omega
      rw [hk0] at hy
      simp at hy
      subst hy
      obtain rfl : k = l.length := by omega
      obtain ⟨hj, rfl⟩ := List.getElem?_eq_some_iff.1 hu
      exact World.cell?_setCells_in b (f x) (off + l.length * i.size) w (fun j hj => by
        have h5 : l.length * i.size + j < cap * i.size := by
          have : (l.length + 1) * i.size ≤ cap * i.size := Nat.mul_le_mul_right _ hroom
          rw [Nat.add_mul] at this
          rw [hf] at hj
          omega
        have := hso _ h5
        rwa [← Nat.add_assoc] at this) j hj
  · have holds : ∀ j u, (flat f l)[j]? = some u → w.drew.cell? ((⟨b, off, none⟩ : Addr).add j) = some u := fun j u hu => by
      obtain ⟨i', r, rfl, hi', hu⟩ := flat_get _ i.size E.hn hf l j u hu
      rw [add_lit3, ← Nat.add_assoc]
      have := hr.at' hi' r u hu
      simpa using this
    have hfo := run_firstCells_some (P := P) w.drew i.size l.length ⟨b, off, none⟩ l.length cap (flat f l) (flat_len _ _ hf l) holds
    have hby2 : (l.length + 1) * i.bytes ≤ 140737488355328 := by
      rw [hby]
      have := Nat.mul_le_mul (show l.length + 1 ≤ 1000001 by omega) E.hb
      omega
    have hr2 := run_append_grow_src (P := P) w t t t e i z E.ht hi hz (some ⟨b, off, none⟩) l.length cap (flat f l) hfo _ 1 (f x) hsrc (by omega) (by omega) (growslice_fits (by omega) hby2)
    obtain ⟨hok, hv, hw⟩ := app_of hr2
    have hge := grownCap_ge w (l.length + 1) cap e
    have hB := heap_alloc_new w.drew (.cells ((flat f l ++ f x).toArray ++ Builtin.zeroCells z.cells (grownCap w (l.length + 1) cap e - (l.length + 1))) e)
    generalize grownCap w (l.length + 1) cap e = gc at *
    have hfl : (flat f l ++ f x).length = (l.length + 1) * i.size := by rw [List.length_append, flat_len _ _ hf l, hf, Nat.add_mul, Nat.one_mul]
    refine ⟨_, _, ⟨hok, hv, hw⟩, ⟨⟨some ⟨w.heap.size, 0, none⟩, gc, by simp, by simpa using hge, by simp; omega, fun k y hy => ⟨w.heap.size, 0, rfl, fun j u hu => ?_⟩⟩, w.heap.size, 0, gc, by simp, ⟨hb, by simp⟩, by simpa using hge, fun j hj => ?_, fun j => ?_⟩, ((Mv.refl _ w).drew).alloc _⟩
    · have hjn : j < i.size := by rw [← hf y]; exact (List.getElem?_eq_some_iff.1 hu).1
      have hkl : k < l.length + 1 := by have := (List.getElem?_eq_some_iff.1 hy).1; simpa using this
      have hpos : k * i.size + j < (flat f l ++ f x).length := by
        rw [hfl]
        have : (k + 1) * i.size ≤ (l.length + 1) * i.size := Nat.mul_le_mul_right _ hkl
        rw [Nat.add_mul, Nat.one_mul] at this
        omega
      have hget : (flat f l ++ f x)[k * i.size + j]? = some u := by
        obtain ⟨hkl', rfl⟩ := List.getElem?_eq_some_iff.1 hy
        have h6 := flat_at f i.size hf (l ++ [x]) k j hkl' hjn
        rw [flat_append, hu] at h6
        simpa [flat] using h6
      have hs2 : k * i.size + j < ((flat f l ++ f x).toArray ++ Builtin.zeroCells z.cells (gc - (l.length + 1))).size := by simp only [Array.size_append, List.size_toArray]; omega
      have : w.drew.heap.size = w.heap.size := rfl
      rw [this] at hB
      simp only [World.cell?, hB, Nat.zero_add]
      rw [Array.getElem?_append_left (by simpa using hpos)]
      simpa using hget
    · have : w.drew.heap.size = w.heap.size := rfl
      rw [this] at hB
      simp only [World.cell?, hB, Nat.zero_add]
      have hs2 : j < ((flat f l ++ f x).toArray ++ Builtin.zeroCells z.cells (gc - (l.length + 1))).size := by
        simp only [Array.size_append, List.size_toArray, size_zeroCells, hzc, hfl]
        rw [← Nat.add_mul, show l.length + 1 + (gc - (l.length + 1)) = gc by omega]
        exact hj
      rw [Array.getElem?_eq_getElem hs2]
      rfl
    · have : w.drew.heap.size = w.heap.size := rfl
      rw [this] at hB
      unfold World.frozen?
      rw [hB]
      simp
end

/-- a row of marks -/
def BitsAt (w : World) (bb : Nat) (ty : TypeId) (B : List Bool) : Prop := w.heap[bb]? = some (.cells (B.map Value.bool).toArray ty (0, 0))
theorem BitsAt.keep {w w' : World} {bb : Nat} {ty : TypeId} {B : List Bool} (h : BitsAt w bb ty B) (hw : w'.heap[bb]? = w.heap[bb]?) : BitsAt w' bb ty B := by unfold BitsAt; rw [hw]; exact h
theorem BitsAt.cell {w : World} {bb : Nat} {ty : TypeId} {B : List Bool} (h : BitsAt w bb ty B) {j : Nat} (hj : j < B.length) : w.cell? ⟨bb, j, none⟩ = some (.bool B[j]) := by
  unfold BitsAt at h
  simp [World.cell?, h, hj]
theorem BitsAt.thaw {w : World} {bb : Nat} {ty : TypeId} {B : List Bool} (h : BitsAt w bb ty B) (j : Nat) : w.frozen? ⟨bb, j, none⟩ = false := by
  unfold BitsAt at h
  simp [World.frozen?, h]
theorem BitsAt.set {w : World} {bb : Nat} {ty : TypeId} {B : List Bool} (h : BitsAt w bb ty B) (j : Nat) (v : Bool) : BitsAt (w.setCell ⟨bb, j, none⟩ (.bool v)) bb ty (B.set j v) := by
  unfold BitsAt at h ⊢
  have := block_setCell (p := ⟨bb, j, none⟩) h rfl (.bool v)
  rw [this]
  simp [List.map_set]

end Go.Proofs.YtaabkaiifplhgaaDoor
