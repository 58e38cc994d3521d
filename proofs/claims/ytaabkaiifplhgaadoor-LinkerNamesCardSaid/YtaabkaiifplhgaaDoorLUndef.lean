/- linker.Undefined. -/
import Derived.Test.YtaabkaiifplhgaaDoorLCheck2
import Derived.Test.YtaabkaiifplhgaaDoorLRange
import Derived.Sort.KeysCollected
namespace Go.Proofs.YtaabkaiifplhgaaDoor
set_option linter.unusedSimpArgs false
set_option linter.unusedVariables false
open Go.RowKit Go.Instr

attribute [local go_sem ↓] run_appOp

theorem ObjAt.slices {w : World} {o : ObjV} (h : ObjAt w o) : ∃ a1 c1 a2 c2 a3 c3 a4 c4, (o.pv = .slice a1 o.d.params.length c1 ∧ o.sv = .slice a2 o.d.slots.length c2 ∧ o.cv = .slice a3 o.d.code.length c3 ∧ o.rv = .slice a4 o.d.refs.length c4) ∧
    (o.d.code.length ≤ c3 ∧ o.d.code.length ≤ 9223372036854775807) ∧ o.d.refs.length ≤ c4 ∧ o.d.refs.length ≤ 9223372036854775807 := by
  obtain ⟨a1, c1, h1, _⟩ := h.params.form
  obtain ⟨a2, c2, h2, _⟩ := h.slots.form
  obtain ⟨a3, c3, h3, h31, h32⟩ := h.code.form
  obtain ⟨a4, c4, h4, h41, h42⟩ := h.refs.form
  exact ⟨a1, c1, a2, c2, a3, c3, a4, c4, ⟨h1, h2, h3, h4⟩, ⟨h31, h32⟩, h41, h42⟩

theorem Tryd.infoStr : (Tryd.prog.info? 9).map (fun i => (i.zero, i.size, i.bytes)) = some (some (.string ⟨#[]⟩), 1, 16) := by kernel_rfl

/-- a row of strings that the call owns -/
abbrev StrRow (w : World) (base : Nat) (v : Value) (l : List ByteArray) : Prop := w.ownsRow base 9 1 v l.length (l.map Value.string)

theorem StrRow.slice {w : World} {base : Nat} {v : Value} {l : List ByteArray} (h : StrRow w base v l) : ∃ a c, v = .slice a l.length c := by
  rcases h.2 with ⟨rfl, hl⟩ | ⟨g, cap, cur, rfl, _⟩
  · exact ⟨none, 0, by rw [hl]⟩
  · exact ⟨_, _, rfl⟩

/-- an append of one string -/
theorem app_str (v : Value) (x : ByteArray) (xs : List ByteArray) (base : Nat) (w : World) (hrow : StrRow w base v xs) (hb : base ≤ w.heap.size) (hlen : xs.length ≤ 1000000) :
    ∃ a' c' w2, (AppOK Tryd.prog 58 58 v (.slice (some ⟨w.heap.size, 0, none⟩) 1 1) (w.alloc (.cells #[.string x] 9)) ∧
        appV Tryd.prog 58 58 v (.slice (some ⟨w.heap.size, 0, none⟩) 1 1) (w.alloc (.cells #[.string x] 9)) = .slice a' (xs.length + 1) c' ∧ appW Tryd.prog 58 58 v (.slice (some ⟨w.heap.size, 0, none⟩) 1 1) (w.alloc (.cells #[.string x] 9)) = w2) ∧
      StrRow w2 base (.slice a' (xs.length + 1) c') (xs ++ [x]) ∧ Mv (fun b => v.ownBlock = some b) w w2 ∧ (∀ g, (Value.slice a' (xs.length + 1) c').ownBlock = some g → v.ownBlock = some g ∨ w.heap.size ≤ g) := by
  obtain ⟨i0, hi, hz0, hz1, hz2⟩ := info_parts Tryd.infoStr
  obtain ⟨v', w2, hr, hown1, hgrow, _, hnew⟩ := run_append_own2 (P := Tryd.prog) (w.alloc (.cells #[.string x] 9)) base 58 58 9 i0 (.string ⟨#[]⟩) 1 16 Tryd.underlying58 hi hz0 hz1 hz2 rfl (by decide) v _ _ (hrow.alloc _) ⟨w.heap.size, 0, none⟩ 1 1 [.string x] rfl
    (World.news_of_block (cs := #[.string x]) (t := 9) (fr := (0, 0)) (heap_alloc_new w _)) (by simp [Value.oneCell']) (by unfold maxLen; omega) (by omega) (by simp; omega)
  have hform : ∃ a' c', v' = .slice a' (xs.length + 1) c' := by
    rcases hown1.2 with ⟨_, h0⟩ | ⟨g, cap, cur, rfl, _⟩
    · omega
    · exact ⟨_, _, rfl⟩
  obtain ⟨a', c', rfl⟩ := hform
  obtain ⟨hok, hv, hw2⟩ := app_of hr
  refine ⟨a', c', w2, ⟨hok, hv, hw2⟩, ?_, ((Mv.refl _ _).alloc _).grown hgrow (fun k hk => .inl hk), fun g hg => ?_⟩
  · rw [StrRow]; simpa using hown1
  · rcases hnew g hg with h1 | h1
    · exact .inl h1
    · exact .inr (by simp at h1; omega)

/-- a delete, at the operation -/
theorem wpList_del {P : Program} {κ : Type} [BEq κ] [LawfulBEq κ] {enc : κ → Value} {desc : TypeDesc} {K T U E : TypeId} {w : World} {ops : Array Oper} {rest : List Oper} {o : Oper} {a : Act} {Q : Exit → Act → World → Prop}
    (L : KeyLaw P K enc desc) (ht : P.underlying T = some (.map K E)) (r : Nat) (l : List (κ × Value)) (k : κ) (h : MapAt enc w r l) (m kc : Operand) (hgd : o.guard = none) (ho : o.op = .call { callee := .builtin .delete, args := #[m, kc], argTypes := #[T, U] }) (hm : a.eval m = .map (some r)) (hk : a.eval kc = enc k)
    (hnext : ∀ w', MapAt enc w' r (mdel k l) → Mv (fun b => b = r) w w' → wpList P ops Q rest (a.put o.dst (.tuple #[])) w') : wpList P ops Q (o :: rest) a w :=
  wpList_plain hgd fun _ hK => by
    obtain ⟨w', hr, h2, h3⟩ := run_del (P := P) L ht o.type U k h
    unfold Oper.wp execOp
    simp only [ho, resolve, invoke, builtin, Sem.run_bind, Sem.run_pure, Result.andThen_ok, List.map_toArray, List.map_cons, List.map_nil, hm, hk, hr]
    exact hK _ _ (hnext w' h2 h3)

/-- the names that references bring -/
def refMap (m : List (ByteArray × Value)) (refs : List RefD) (k : Nat) : List (ByteArray × Value) := (refs.take k).foldl (fun m r => mset r.name (.bool true) m) m
def allMap (mr : List RefD) (procs : List ObjD) (k : Nat) : List (ByteArray × Value) := (procs.take k).foldl (fun m o => refMap m o.refs o.refs.length) (refMap [] mr mr.length)
def delMap (m : List (ByteArray × Value)) (procs : List ObjD) (k : Nat) : List (ByteArray × Value) := (procs.take k).foldl (fun m o => mdel o.name m) m
def missing (mr : List RefD) (procs : List ObjD) : List (ByteArray × Value) := delMap (allMap mr procs procs.length) procs procs.length
/-- the undefined names, sorted -/
def undefL (mr : List RefD) (procs : List ObjD) : List (List UInt8) := ((missing mr procs).map fun p => p.1.data.toList).mergeSort leB

theorem refMap_succ (m : List (ByteArray × Value)) (refs : List RefD) (k : Nat) (h : k < refs.length) : refMap m refs (k + 1) = mset refs[k].name (.bool true) (refMap m refs k) := by
  unfold refMap; rw [List.take_succ_eq_append_getElem h, List.foldl_append]; rfl
theorem allMap_succ (mr : List RefD) (procs : List ObjD) (k : Nat) (h : k < procs.length) : allMap mr procs (k + 1) = refMap (allMap mr procs k) procs[k].refs procs[k].refs.length := by
  unfold allMap; rw [List.take_succ_eq_append_getElem h, List.foldl_append]; rfl
theorem delMap_succ (m : List (ByteArray × Value)) (procs : List ObjD) (k : Nat) (h : k < procs.length) : delMap m procs (k + 1) = mdel procs[k].name (delMap m procs k) := by
  unfold delMap; rw [List.take_succ_eq_append_getElem h, List.foldl_append]; rfl

theorem mset_keys (k : ByteArray) (v : Value) : ∀ (l : List (ByteArray × Value)), (l.map (·.1)).Nodup → ((mset k v l).map (·.1)).Nodup ∧ ∀ x, x ∈ (mset k v l).map (·.1) ↔ x = k ∨ x ∈ l.map (·.1)
  | [], _ => by simp [mset]
  | (a, x) :: l, h => by
    simp only [List.map_cons, List.nodup_cons] at h
    obtain ⟨h1, h2⟩ := mset_keys k v l h.2
    simp only [mset]
    split
    · rename_i hk
      have : k = a := by simpa using hk
      subst this
      simp only [List.map_cons, List.nodup_cons]
      exact ⟨h, fun x => by simp⟩
    · rename_i hk
      have hne : k ≠ a := by simpa using hk
      simp only [List.map_cons, List.nodup_cons, List.mem_cons]
      refine ⟨⟨fun hm => ?_, h1⟩, fun x => by rw [h2]; exact ⟨fun h => by rcases h with h | h | h; exact .inr (.inl h); exact .inl h; exact .inr (.inr h), fun h => by rcases h with h | h | h; exact .inr (.inl h); exact .inl h; exact .inr (.inr h)⟩⟩
      rcases (h2 a).1 hm with h3 | h3
      · exact hne h3.symm
      · exact h.1 h3
theorem mdel_keys (k : ByteArray) : ∀ (l : List (ByteArray × Value)), (l.map (·.1)).Nodup → ((mdel k l).map (·.1)).Nodup ∧ ∀ x, x ∈ (mdel k l).map (·.1) ↔ x ≠ k ∧ x ∈ l.map (·.1)
  | [], _ => by simp [mdel]
  | (a, x) :: l, h => by
    simp only [List.map_cons, List.nodup_cons] at h
    obtain ⟨h1, h2⟩ := mdel_keys k l h.2
    simp only [mdel]
    split
    · rename_i hk
      have : k = a := by simpa using hk
      subst this
      refine ⟨h.2, fun x => ?_⟩
      simp only [List.map_cons, List.mem_cons]
      exact ⟨fun hx => ⟨fun e => h.1 (e ▸ hx), .inr hx⟩, fun hx => hx.2.resolve_left hx.1⟩
    · rename_i hk
      have hne : k ≠ a := by simpa using hk
      simp only [List.map_cons, List.nodup_cons, List.mem_cons]
      refine ⟨⟨fun hm => h.1 ((h2 a).1 hm).2, h1⟩, fun x => ?_⟩
      rw [h2]
      exact ⟨fun hx => by rcases hx with rfl | hx; exact ⟨fun e => hne e.symm, .inl rfl⟩; exact ⟨hx.1, .inr hx.2⟩, fun hx => by rcases hx.2 with h3 | h3; exact .inl h3; exact .inr ⟨hx.1, h3⟩⟩

end Go.Proofs.YtaabkaiifplhgaaDoor
