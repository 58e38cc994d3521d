/- The objects that the linker reads: their data, and how they lie in memory. -/
import Derived.Test.YtaabkaiifplhgaaDoorLValid
import Derived.Test.YtaabkaiifplhgaaDoorLName2
namespace Go.Proofs.YtaabkaiifplhgaaDoor
set_option linter.unusedSimpArgs false
set_option linter.unusedVariables false
open Go.RowKit

/-- new memory alone -/
abbrev Grow (w w' : World) : Prop := Mv (fun _ => False) w w'

/-- a slice of things of n cells each -/
def RowAt {α : Type} (n : Nat) (f : α → List Value) (w : World) (v : Value) (l : List α) : Prop :=
  ∃ a cap, v = .slice a l.length cap ∧ l.length ≤ cap ∧ l.length ≤ 9223372036854775807 ∧ ∀ (i : Nat) (x : α), l[i]? = some x → ∃ b off, a = some ⟨b, off, none⟩ ∧ ∀ (j : Nat) (u : Value), (f x)[j]? = some u → w.cell? ⟨b, off + i * n + j, none⟩ = some u

section
variable {α : Type} {n : Nat} {f : α → List Value} {w w' : World} {v : Value} {l : List α}

theorem RowAt.form (h : RowAt n f w v l) : ∃ a cap, v = .slice a l.length cap ∧ l.length ≤ cap ∧ l.length ≤ 9223372036854775807 := by
  obtain ⟨a, cap, h1, h2, h3, _⟩ := h
  exact ⟨a, cap, h1, h2, h3⟩
theorem RowAt.later (h : RowAt n f w v l) (hm : Grow w w') : RowAt n f w' v l := by
  obtain ⟨a, cap, h1, h2, h3, h4⟩ := h
  refine ⟨a, cap, h1, h2, h3, fun i x hx => ?_⟩
  obtain ⟨b, off, hb, hc⟩ := h4 i x hx
  refine ⟨b, off, hb, fun j u hu => ?_⟩
  have h5 := hc j u hu
  rw [← h5]
  exact World.cell?_of_block (w := w) (w' := w') (hm.block _ (World.block_lt_of_cell? w _ h5) (fun h => h))
theorem RowAt.nil (n : Nat) (f : α → List Value) (w : World) : RowAt n f w (.slice none 0 0) [] := ⟨none, 0, rfl, Nat.le_refl _, by simp, fun i x hx => by simp at hx⟩
/-- the cells of one -/
theorem RowAt.at (h : RowAt n f w v l) {i : Nat} (hi : i < l.length) : ∃ b off cap, v = .slice (some ⟨b, off, none⟩) l.length cap ∧ l.length ≤ cap ∧ ∀ (j : Nat) (u : Value), (f l[i])[j]? = some u → w.cell? ⟨b, off + i * n + j, none⟩ = some u := by
  obtain ⟨a, cap, rfl, h2, h3, h4⟩ := h
  obtain ⟨b, off, rfl, hc⟩ := h4 i _ (List.getElem?_eq_getElem hi)
  exact ⟨b, off, cap, rfl, h2, hc⟩
/-- .. where the slice's form is known -/
theorem RowAt.at' {b off len cap : Nat} (h : RowAt n f w (.slice (some ⟨b, off, none⟩) len cap) l) {i : Nat} (hi : i < l.length) : ∀ (j : Nat) (u : Value), (f l[i])[j]? = some u → w.cell? ⟨b, off + i * n + j, none⟩ = some u := by
  obtain ⟨b', off', cap', e, _, hc⟩ := h.at hi
  simp only [Value.slice.injEq, Option.some.injEq, Addr.mk.injEq, and_true] at e
  obtain ⟨⟨rfl, rfl⟩, _, _⟩ := e
  exact hc
end

structure VarD where
  name : ByteArray
  kind : Int
  len : Int
structure SlotD where
  name : ByteArray
  kind : Int
  len : Int
  at' : Int
structure RefD where
  at' : Int
  name : ByteArray
def VarD.cells (v : VarD) : List Value := [.string v.name, .int .u8 v.kind, .int .i64 v.len]
def SlotD.cells (v : SlotD) : List Value := [.string v.name, .int .u8 v.kind, .int .i64 v.len, .int .i64 v.at']
def RefD.cells (v : RefD) : List Value := [.int .i64 v.at', .string v.name]
abbrev VarD.val (v : VarD) : Value := .agg #[.string v.name, .int .u8 v.kind, .int .i64 v.len]

/-- an object's data -/
structure ObjD where
  name : ByteArray
  params : List VarD
  slots : List SlotD
  cells : Int
  stacks : Int
  code : List Ins
  refs : List RefD

/-- a number of 64 bits -/
def In64 (x : Int) : Prop := -9223372036854775808 ≤ x ∧ x ≤ 9223372036854775807
def InsOk (i : Ins) : Prop := (0 ≤ i.op ∧ i.op ≤ 255) ∧ In64 i.a ∧ In64 i.b ∧ In64 i.c ∧ In64 i.d
/-- what a value of its type can be -/
structure ObjOk (o : ObjD) : Prop where
  name : o.name.size ≤ 9223372036854775807
  params : ∀ v ∈ o.params, v.name.size ≤ 9223372036854775807 ∧ In64 v.len
  slots : ∀ v ∈ o.slots, v.name.size ≤ 9223372036854775807 ∧ In64 v.len ∧ In64 v.at'
  cells : In64 o.cells
  stacks : In64 o.stacks
  code : ∀ i ∈ o.code, InsOk i
  refs : ∀ r ∈ o.refs, r.name.size ≤ 9223372036854775807 ∧ In64 r.at'
  few : o.slots.length ≤ 4398046511104

/-- an object in memory: its seven cells -/
structure ObjV where
  d : ObjD
  pv : Value
  sv : Value
  cv : Value
  rv : Value
def ObjV.cells (o : ObjV) : List Value := [.string o.d.name, o.pv, o.sv, .int .i64 o.d.cells, .int .i64 o.d.stacks, o.cv, o.rv]
abbrev ObjV.val (o : ObjV) : Value := .agg #[.string o.d.name, o.pv, o.sv, .int .i64 o.d.cells, .int .i64 o.d.stacks, o.cv, o.rv]
structure ObjAt (w : World) (o : ObjV) : Prop where
  ok : ObjOk o.d
  params : RowAt 3 VarD.cells w o.pv o.d.params
  slots : RowAt 4 SlotD.cells w o.sv o.d.slots
  code : RowAt 5 Ins.cells w o.cv o.d.code
  refs : RowAt 2 RefD.cells w o.rv o.d.refs
theorem ObjAt.later {w w' : World} {o : ObjV} (h : ObjAt w o) (hm : Grow w w') : ObjAt w' o := ⟨h.ok, h.params.later hm, h.slots.later hm, h.code.later hm, h.refs.later hm⟩
/-- a slice of objects -/
structure ObjsAt (w : World) (v : Value) (l : List ObjV) : Prop where
  row : RowAt 7 ObjV.cells w v l
  each : ∀ o ∈ l, ObjAt w o
theorem ObjsAt.later {w w' : World} {v : Value} {l : List ObjV} (h : ObjsAt w v l) (hm : Grow w w') : ObjsAt w' v l := ⟨h.row.later hm, fun o ho => (h.each o ho).later hm⟩

end Go.Proofs.YtaabkaiifplhgaaDoor
