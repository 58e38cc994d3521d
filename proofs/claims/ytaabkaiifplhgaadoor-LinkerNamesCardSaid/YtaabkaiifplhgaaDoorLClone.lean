/- slices.Clone at the elements of an object; linker.clone: a copy in new memory. -/
import Derived.Test.YtaabkaiifplhgaaDoorLQueue
import Derived.Test.YtaabkaiifplhgaaDoorLAwake
import Derived.Test.YtaabkaiifplhgaaDoorLRef2
namespace Go.Proofs.YtaabkaiifplhgaaDoor
set_option linter.unusedSimpArgs false
set_option linter.unusedVariables false
open Go.RowKit Go.Instr

attribute [local go_sem ↓] run_appOp

section
variable {P : Program} {t e : TypeId} {n bytes : Nat} {α : Type} {f : α → List Value}
theorem RowAt.ofFirst {w : World} {b cap : Nat} {cs : Array Value} {ty : TypeId} {fr : Nat × Nat} {l : List α} (hf : ∀ x, (f x).length = n) (h : w.heap[b]? = some (.cells cs ty fr)) (hl : ∀ (j : Nat) (u : Value), (flat f l)[j]? = some u → cs[j]? = some u) (hc : l.length ≤ cap) (hn : l.length ≤ 9223372036854775807) : RowAt n f w (.slice (some ⟨b, 0, none⟩) l.length cap) l := by
  refine ⟨_, _, rfl, hc, hn, fun i x hx => ⟨b, 0, rfl, fun j u hu => ?_⟩⟩
  obtain ⟨hi, rfl⟩ := List.getElem?_eq_some_iff.1 hx
  have hj : j < n := by rw [← hf l[i]]; exact (List.getElem?_eq_some_iff.1 hu).1
  have h6 := flat_at f n hf l i j hi hj
  rw [hu] at h6
  simp only [World.cell?, h, Nat.zero_add]
  exact hl _ _ h6

/-- a whole slice appended to a new row without anything: new memory alone -/
theorem app_clone (E : Elem P t e n bytes) (hf : ∀ x, (f x).length = n) (s : Value) (l : List α) (g : Nat) (w : World) (hg : w.heap[g]? = some (.cells #[] e (0, 0))) (hs : RowAt n f w s l) (hlen : l.length * bytes ≤ 140737488355328) :
    ∃ v' w2, (AppOK P t t (.slice (some ⟨g, 0, none⟩) 0 0) s w ∧ appV P t t (.slice (some ⟨g, 0, none⟩) 0 0) s w = v' ∧ appW P t t (.slice (some ⟨g, 0, none⟩) 0 0) s w = w2) ∧
      (RowAt n f w2 v' l ∧ ∀ x, v'.ownBlock = some x → (x = g ∨ w.heap.size ≤ x) ∧ x < w2.heap.size) ∧ Grow w w2 := by
  obtain ⟨i, z, hi, hz, hsz, hby, hzc⟩ := E.hi
  obtain ⟨sa, sc, rfl, hsc, hsl, hcell⟩ := hs
  cases sa with
  | none =>
    obtain rfl : l = [] := by
      cases l with
      | nil => rfl
      | cons x l => obtain ⟨b, off, e, _⟩ := hcell 0 x rfl; cases e
    have hr := run_append_nothing w t t e i E.ht hi (some ⟨g, 0, none⟩) 0 0 sc (Nat.le_refl _)
    obtain ⟨hok, hv, hw⟩ := app_of hr
    exact ⟨_, _, ⟨hok, hv, hw⟩, ⟨⟨_, 0, rfl, by simp, by simp, fun i x hx => by simp at hx⟩, fun x hx => by
      simp [Value.ownBlock] at hx
      subst hx
      exact ⟨.inl rfl, lt_of_block hg⟩⟩, Mv.refl _ _⟩
  | some a =>
    have hnews : ∀ j u, (flat f l)[j]? = some u → w.cell? (a.add j) = some u := fun j u hu => by
      obtain ⟨i', r, rfl, hi', hu⟩ := flat_get _ n E.hn hf l j u hu
      obtain ⟨b, off, e1, hc⟩ := hcell i' _ (List.getElem?_eq_getElem hi')
      simp only [Option.some.injEq] at e1
      subst e1
      have := hc r u hu
      rw [add_lit3, ← Nat.add_assoc]; exact this
    rcases Nat.eq_zero_or_pos l.length with h0 | h0
    · obtain rfl : l = [] := List.eq_nil_of_length_eq_zero h0
      have hr2 := run_append_room (P := P) w t t e i E.ht hi g 0 0 #[] hg a 0 sc [] (by simp) (by simp) (by simp) (Nat.le_refl _) (by simp)
      obtain ⟨hok, hv, hw⟩ := app_of hr2
      refine ⟨_, _, ⟨hok, hv, hw⟩, ⟨⟨_, 0, rfl, by simp, by simp, fun i x hx => by simp at hx⟩, fun x hx => by
        simp [Value.ownBlock] at hx
        subst hx
        exact ⟨.inl rfl, by simpa using lt_of_block hg⟩⟩, ?_⟩
      have hrow := setRow_heap w g #[] ([] : List Value).toArray _ _ hg
      refine ⟨rfl, rfl, rfl, by simp, fun k hk _ => ?_⟩
      by_cases hkg : k = g
      · subst hkg; rw [hg]; simpa using hrow
      · exact setRow_other w g k _ hkg
    · have hr2 := run_append_grow (P := P) w t t e i _ E.ht hi hz ⟨g, 0, none⟩ 0 0 [] (by simp) (by simp) a l.length sc (flat f l) (by rw [hsz]; exact flat_len _ n hf l) hnews (by omega) (by omega) (growslice_fits (by omega) (by rw [hby]; simpa using hlen))
      obtain ⟨hok, hv, hw⟩ := app_of hr2
      have hge := grownCap_ge w (0 + l.length) 0 e
      have hB := heap_alloc_new w.drew (.cells (([] : List Value).toArray ++ (flat f l).toArray ++ Builtin.zeroCells z.cells (grownCap w (0 + l.length) 0 e - (0 + l.length))) e)
      have hds : w.drew.heap.size = w.heap.size := rfl
      rw [hds] at hB
      rw [Nat.zero_add] at hv hB hge
      have hrw := RowAt.ofFirst (l := l) (cap := grownCap w l.length 0 e) hf hB (fun j u hu => by
        have hj := (List.getElem?_eq_some_iff.1 hu).1
        rw [Array.getElem?_append_left (by simpa using hj)]
        simpa using hu) hge hsl
      rw [Nat.zero_add] at hw
      exact ⟨_, _, ⟨hok, hv, hw⟩, ⟨hrw, fun x hx => by
        simp [Value.ownBlock] at hx
        subst hx
        exact ⟨.inr (Nat.le_refl _), by simp⟩⟩, ((Mv.refl _ w).drew).alloc _⟩
end

theorem Tryd.infoVar : (Tryd.prog.info? 73).map (fun i => (i.zero, i.size, i.bytes)) = some (some (.agg #[.string ⟨#[]⟩, .int .u8 0, .int .i64 0]), 3, 32) := by kernel_rfl
theorem Tryd.infoSlot : (Tryd.prog.info? 75).map (fun i => (i.zero, i.size, i.bytes)) = some (some (.agg #[.string ⟨#[]⟩, .int .u8 0, .int .i64 0, .int .i64 0]), 4, 40) := by kernel_rfl
theorem Tryd.infoRef : (Tryd.prog.info? 66).map (fun i => (i.zero, i.size, i.bytes)) = some (some (.agg #[.int .i64 0, .string ⟨#[]⟩]), 2, 24) := by kernel_rfl
theorem Tryd.elemVar : Elem Tryd.prog 22 73 3 32 := Elem.of Tryd.underlying22 Tryd.infoVar rfl (by decide) (by decide)
theorem Tryd.elemSlot : Elem Tryd.prog 23 75 4 40 := Elem.of Tryd.underlying23 Tryd.infoSlot rfl (by decide) (by decide)
theorem Tryd.elemIns2 : Elem Tryd.prog 26 57 5 40 := Elem.of Tryd.underlying26 Tryd.infoIns rfl (by decide) (by decide)
theorem Tryd.elemRef : Elem Tryd.prog 27 66 2 24 := Elem.of Tryd.underlying27 Tryd.infoRef rfl (by decide) (by decide)
theorem Tryd.elemObj : Elem Tryd.prog 32 31 7 128 := Elem.of Tryd.underlying32 Tryd.infoObj rfl (by decide) (by decide)

theorem keep_at {w w' : World} {b : Nat} {x : Obj} (h : w.heap[b]? = some x) (hm : Grow w w') : w'.heap[b]? = some x := by rw [hm.block b (lt_of_block h) (fun e => e)]; exact h
/-- a copy: the same list, in new memory -/
def Cloned {α : Type} (n : Nat) (f : α → List Value) (w : World) (l : List α) (e : Ending) (w' : World) : Prop :=
  ∃ v', e = .returned v' ∧ RowAt n f w' v' l ∧ (∀ g, v'.ownBlock = some g → w.heap.size ≤ g ∧ g < w'.heap.size) ∧ Grow w w'

set_option maxRecDepth 100000 in
theorem clone_var (v : Value) (l : List VarD) (w : World) (h : RowAt 3 VarD.cells w v l) (hb : l.length * 32 ≤ 140737488355328) :
    Calls Tryd.prog 43 #[v] w (Cloned 3 VarD.cells w l) := by
  obtain ⟨a, cap, rfl, hc, hl⟩ := h.form
  cases a with
  | none =>
    obtain rfl : l = [] := by
      cases l with
      | nil => rfl
      | cons x l => obtain ⟨b, off, c, e, _⟩ := h.at (i := 0) (by simp); simp at e
    have heq : (binOp .eql 22 (.slice none 0 cap) (.slice none 0 0)).run Tryd.prog w = .ok (.bool true) w := by
      have := Lib.run_eql_slice_nil (P := Tryd.prog) w 22 73 none 0 cap 0 0 Tryd.underlying22
      simpa using this
    go_enter Tryd.func43, Tryd.ntmps43
    go_wp2_with fail
    go_ret
    exact ⟨_, rfl, RowAt.nil _ _ _, fun g hg => by simp [Value.ownBlock] at hg, Mv.refl _ _⟩
  | some a =>
    obtain ⟨v', w2, ⟨hok, hv, hw⟩, ⟨hrow, hown⟩, hg⟩ := app_clone Tryd.elemVar (fun _ => rfl) _ l w.heap.size (w.alloc (.cells #[] 73)) (heap_alloc_new w _) (h.later ((Mv.refl _ _).alloc _)) hb
    have heq : (binOp .eql 22 (.slice (some a) l.length cap) (.slice none 0 0)).run Tryd.prog w = .ok (.bool false) w := by
      have := Lib.run_eql_slice_nil (P := Tryd.prog) w 22 73 (some a) l.length cap 0 0 Tryd.underlying22
      simpa using this
    have HR := Lib.hid hrow
    have HW := Lib.hid (fun g hg => (show w.heap.size ≤ g ∧ g < w2.heap.size from ⟨by rcases (hown g hg).1 with h | h; omega; simp at h; omega, (hown g hg).2⟩))
    have HG := Lib.hid (Mv.trans ((Mv.refl (fun _ => False) w).alloc (.cells #[] 73)) hg (fun _ e => e.elim))
    clear h hrow hown hg
    go_enter Tryd.func43, Tryd.ntmps43
    go_wp2_with fail
    go_ret
    exact ⟨_, rfl, HR.out, HW.out, HG.out⟩

set_option maxRecDepth 100000 in
theorem clone_slot (v : Value) (l : List SlotD) (w : World) (h : RowAt 4 SlotD.cells w v l) (hb : l.length * 40 ≤ 140737488355328) :
    Calls Tryd.prog 44 #[v] w (Cloned 4 SlotD.cells w l) := by
  obtain ⟨a, cap, rfl, hc, hl⟩ := h.form
  cases a with
  | none =>
    obtain rfl : l = [] := by
      cases l with
      | nil => rfl
      | cons x l => obtain ⟨b, off, c, e, _⟩ := h.at (i := 0) (by simp); simp at e
    have heq : (binOp .eql 23 (.slice none 0 cap) (.slice none 0 0)).run Tryd.prog w = .ok (.bool true) w := by
      have := Lib.run_eql_slice_nil (P := Tryd.prog) w 23 75 none 0 cap 0 0 Tryd.underlying23
      simpa using this
    go_enter Tryd.func44, Tryd.ntmps44
    go_wp2_with fail
    go_ret
    exact ⟨_, rfl, RowAt.nil _ _ _, fun g hg => by simp [Value.ownBlock] at hg, Mv.refl _ _⟩
  | some a =>
    obtain ⟨v', w2, ⟨hok, hv, hw⟩, ⟨hrow, hown⟩, hg⟩ := app_clone Tryd.elemSlot (fun _ => rfl) _ l w.heap.size (w.alloc (.cells #[] 75)) (heap_alloc_new w _) (h.later ((Mv.refl _ _).alloc _)) hb
    have heq : (binOp .eql 23 (.slice (some a) l.length cap) (.slice none 0 0)).run Tryd.prog w = .ok (.bool false) w := by
      have := Lib.run_eql_slice_nil (P := Tryd.prog) w 23 75 (some a) l.length cap 0 0 Tryd.underlying23
      simpa using this
    have HR := Lib.hid hrow
    have HW := Lib.hid (fun g hg => (show w.heap.size ≤ g ∧ g < w2.heap.size from ⟨by rcases (hown g hg).1 with h | h; omega; simp at h; omega, (hown g hg).2⟩))
    have HG := Lib.hid (Mv.trans ((Mv.refl (fun _ => False) w).alloc (.cells #[] 75)) hg (fun _ e => e.elim))
    clear h hrow hown hg
    go_enter Tryd.func44, Tryd.ntmps44
    go_wp2_with fail
    go_ret
    exact ⟨_, rfl, HR.out, HW.out, HG.out⟩

set_option maxRecDepth 100000 in
theorem clone_ins (v : Value) (l : List Ins) (w : World) (h : RowAt 5 Ins.cells w v l) (hb : l.length * 40 ≤ 140737488355328) :
    Calls Tryd.prog 45 #[v] w (Cloned 5 Ins.cells w l) := by
  obtain ⟨a, cap, rfl, hc, hl⟩ := h.form
  cases a with
  | none =>
    obtain rfl : l = [] := by
      cases l with
      | nil => rfl
      | cons x l => obtain ⟨b, off, c, e, _⟩ := h.at (i := 0) (by simp); simp at e
    have heq : (binOp .eql 26 (.slice none 0 cap) (.slice none 0 0)).run Tryd.prog w = .ok (.bool true) w := by
      have := Lib.run_eql_slice_nil (P := Tryd.prog) w 26 57 none 0 cap 0 0 Tryd.underlying26
      simpa using this
    go_enter Tryd.func45, Tryd.ntmps45
    go_wp2_with fail
    go_ret
    exact ⟨_, rfl, RowAt.nil _ _ _, fun g hg => by simp [Value.ownBlock] at hg, Mv.refl _ _⟩
  | some a =>
    obtain ⟨v', w2, ⟨hok, hv, hw⟩, ⟨hrow, hown⟩, hg⟩ := app_clone Tryd.elemIns2 (fun _ => rfl) _ l w.heap.size (w.alloc (.cells #[] 57)) (heap_alloc_new w _) (h.later ((Mv.refl _ _).alloc _)) hb
    have heq : (binOp .eql 26 (.slice (some a) l.length cap) (.slice none 0 0)).run Tryd.prog w = .ok (.bool false) w := by
      have := Lib.run_eql_slice_nil (P := Tryd.prog) w 26 57 (some a) l.length cap 0 0 Tryd.underlying26
      simpa using this
    have HR := Lib.hid hrow
    have HW := Lib.hid (fun g hg => (show w.heap.size ≤ g ∧ g < w2.heap.size from ⟨by rcases (hown g hg).1 with h | h; omega; simp at h; omega, (hown g hg).2⟩))
    have HG := Lib.hid (Mv.trans ((Mv.refl (fun _ => False) w).alloc (.cells #[] 57)) hg (fun _ e => e.elim))
    clear h hrow hown hg
    go_enter Tryd.func45, Tryd.ntmps45
    go_wp2_with fail
    go_ret
    exact ⟨_, rfl, HR.out, HW.out, HG.out⟩

set_option maxRecDepth 100000 in
theorem clone_ref (v : Value) (l : List RefD) (w : World) (h : RowAt 2 RefD.cells w v l) (hb : l.length * 24 ≤ 140737488355328) :
    Calls Tryd.prog 46 #[v] w (Cloned 2 RefD.cells w l) := by
  obtain ⟨a, cap, rfl, hc, hl⟩ := h.form
  cases a with
  | none =>
    obtain rfl : l = [] := by
      cases l with
      | nil => rfl
      | cons x l => obtain ⟨b, off, c, e, _⟩ := h.at (i := 0) (by simp); simp at e
    have heq : (binOp .eql 27 (.slice none 0 cap) (.slice none 0 0)).run Tryd.prog w = .ok (.bool true) w := by
      have := Lib.run_eql_slice_nil (P := Tryd.prog) w 27 66 none 0 cap 0 0 Tryd.underlying27
      simpa using this
    go_enter Tryd.func46, Tryd.ntmps46
    go_wp2_with fail
    go_ret
    exact ⟨_, rfl, RowAt.nil _ _ _, fun g hg => by simp [Value.ownBlock] at hg, Mv.refl _ _⟩
  | some a =>
    obtain ⟨v', w2, ⟨hok, hv, hw⟩, ⟨hrow, hown⟩, hg⟩ := app_clone Tryd.elemRef (fun _ => rfl) _ l w.heap.size (w.alloc (.cells #[] 66)) (heap_alloc_new w _) (h.later ((Mv.refl _ _).alloc _)) hb
    have heq : (binOp .eql 27 (.slice (some a) l.length cap) (.slice none 0 0)).run Tryd.prog w = .ok (.bool false) w := by
      have := Lib.run_eql_slice_nil (P := Tryd.prog) w 27 66 (some a) l.length cap 0 0 Tryd.underlying27
      simpa using this
    have HR := Lib.hid hrow
    have HW := Lib.hid (fun g hg => (show w.heap.size ≤ g ∧ g < w2.heap.size from ⟨by rcases (hown g hg).1 with h | h; omega; simp at h; omega, (hown g hg).2⟩))
    have HG := Lib.hid (Mv.trans ((Mv.refl (fun _ => False) w).alloc (.cells #[] 66)) hg (fun _ e => e.elim))
    clear h hrow hown hg
    go_enter Tryd.func46, Tryd.ntmps46
    go_wp2_with fail
    go_ret
    exact ⟨_, rfl, HR.out, HW.out, HG.out⟩

/-- what an object's copy needs: lists of at most 2^47 bytes -/
structure ObjSm (o : ObjD) : Prop where
  params : o.params.length * 32 ≤ 140737488355328
  slots : o.slots.length * 40 ≤ 140737488355328
  code : o.code.length * 40 ≤ 140737488355328
  refs : o.refs.length * 24 ≤ 140737488355328

theorem set7 {w : World} {X : Nat} {a0 a1 a2 a3 a4 a5 a6 : Value} {t : TypeId} (h : w.heap[X]? = some (.cells #[a0, a1, a2, a3, a4, a5, a6] t (0, 0))) (b0 b1 b2 b3 b4 b5 b6 : Value) :
    (((((((w.setCell ⟨X, 0, none⟩ b0).setCell ⟨X, 1, none⟩ b1).setCell ⟨X, 2, none⟩ b2).setCell ⟨X, 3, none⟩ b3).setCell ⟨X, 4, none⟩ b4).setCell ⟨X, 5, none⟩ b5).setCell ⟨X, 6, none⟩ b6).heap[X]? = some (.cells #[b0, b1, b2, b3, b4, b5, b6] t (0, 0)) ∧
    Mv (fun b => b = X) w (((((((w.setCell ⟨X, 0, none⟩ b0).setCell ⟨X, 1, none⟩ b1).setCell ⟨X, 2, none⟩ b2).setCell ⟨X, 3, none⟩ b3).setCell ⟨X, 4, none⟩ b4).setCell ⟨X, 5, none⟩ b5).setCell ⟨X, 6, none⟩ b6) := by
  constructor
  · have h1 := block_setCell (p := ⟨X, 0, none⟩) h rfl b0
    have h2 := block_setCell (p := ⟨X, 1, none⟩) h1 rfl b1
    have h3 := block_setCell (p := ⟨X, 2, none⟩) h2 rfl b2
    have h4 := block_setCell (p := ⟨X, 3, none⟩) h3 rfl b3
    have h5 := block_setCell (p := ⟨X, 4, none⟩) h4 rfl b4
    have h6 := block_setCell (p := ⟨X, 5, none⟩) h5 rfl b5
    have h7 := block_setCell (p := ⟨X, 6, none⟩) h6 rfl b6
    simpa using h7
  · exact (((((((Mv.refl (fun b => b = X) w).setCell (p := ⟨X, 0, none⟩) (.inl rfl) _).setCell (p := ⟨X, 1, none⟩) (.inl rfl) _).setCell (p := ⟨X, 2, none⟩) (.inl rfl) _).setCell (p := ⟨X, 3, none⟩) (.inl rfl) _).setCell (p := ⟨X, 4, none⟩) (.inl rfl) _).setCell (p := ⟨X, 5, none⟩) (.inl rfl) _).setCell (p := ⟨X, 6, none⟩) (.inl rfl) _
theorem obj_thaw {w : World} {X : Nat} {c : Array Value} {t : TypeId} (h : w.heap[X]? = some (.cells c t (0, 0))) (i : Nat) : w.frozen? ⟨X, i, none⟩ = false := by simp [World.frozen?, h]
theorem obj_put {w : World} {X i : Nat} {c : Array Value} {t : TypeId} (h : w.heap[X]? = some (.cells c t (0, 0))) (v : Value) : (w.setCell ⟨X, i, none⟩ v).heap[X]? = some (.cells (c.setIfInBounds i v) t (0, 0)) := block_setCell (p := ⟨X, i, none⟩) h rfl v

set_option maxRecDepth 100000 in
set_option maxHeartbeats 8000000 in
theorem lclone_any (o : ObjV) (w : World) (ho : ObjAt w o) (hs : ObjSm o.d) :
    Calls Tryd.prog 30 #[o.val] w fun e w' => ∃ o' : ObjV, (e = .returned o'.val ∧ o'.d = o.d) ∧ ObjAt w' o' ∧ (∀ v ∈ o'.cells, ∀ g, v.ownBlock = some g → w.heap.size ≤ g ∧ g < w'.heap.size) ∧ Grow w w' := by
  obtain ⟨z1, z2, z3, z4, z5, z6, z7, z8, ⟨hy1, hy2, hy3, hy4⟩, -, -, -⟩ := ho.slices
  have HO := Lib.hid ho
  have HS := Lib.hid hs
  clear ho hs
  obtain ⟨d, qv, sv, cv, rv⟩ := o
  simp only at hy1 hy2 hy3 hy4
  subst hy1 hy2 hy3 hy4
  obtain ⟨xn, xps, xss, xc, xk, xis, xrs⟩ := d
  simp only
  have HP1 := Lib.hid HO.out.params
  have HP2 := Lib.hid HO.out.slots
  have HP3 := Lib.hid HO.out.code
  have HP4 := Lib.hid HO.out.refs
  simp only at HP1 HP2 HP3 HP4
  have HL1 := Lib.hid HS.out.params
  have HL2 := Lib.hid HS.out.slots
  have HL3 := Lib.hid HS.out.code
  have HL4 := Lib.hid HS.out.refs
  simp only at HL1 HL2 HL3 HL4
  generalize hxp : xps.length = xp at HP1
  generalize hxs : xss.length = xs at HP2
  generalize hxi : xis.length = xi at HP3
  generalize hxr : xrs.length = xr at HP4
  clear hxp hxs hxi hxr
  have hgB : Grow w ((w.alloc (.cells #[.string xn, .slice z1 xp z2, .slice z3 xs z4, .int .i64 xc, .int .i64 xk, .slice z5 xi z6, .slice z7 xr z8] 31)).alloc (.cells #[.string ⟨#[]⟩, .slice none 0 0, .slice none 0 0, .int .i64 0, .int .i64 0, .slice none 0 0, .slice none 0 0] 31)) := ((Mv.refl _ _).alloc _).alloc _
  have hM0 := alloc_keep (heap_alloc_new w (.cells #[.string xn, .slice z1 xp z2, .slice z3 xs z4, .int .i64 xc, .int .i64 xk, .slice z5 xi z6, .slice z7 xr z8] 31)) (.cells #[.string ⟨#[]⟩, .slice none 0 0, .slice none 0 0, .int .i64 0, .int .i64 0, .slice none 0 0, .slice none 0 0] 31)
  have hR0 := heap_alloc_new (w.alloc (.cells #[.string xn, .slice z1 xp z2, .slice z3 xs z4, .int .i64 xc, .int .i64 xk, .slice z5 xi z6, .slice z7 xr z8] 31)) (.cells #[.string ⟨#[]⟩, .slice none 0 0, .slice none 0 0, .int .i64 0, .int .i64 0, .slice none 0 0, .slice none 0 0] 31)
  rw [World.size_alloc] at hR0
  obtain ⟨⟨o0, o1, o2, o3⟩, o4, o5, o6⟩ := obj_cells hM0
  have hM0l := lt_of_block hM0
  have hR0l := lt_of_block hR0
  have HG0 := Lib.hid hgB
  have HM0 := Lib.hid hM0
  have HR0 := Lib.hid hR0
  clear hgB hM0 hR0
  go_enter Tryd.func30, Tryd.ntmps30
  go_wp2_with fail
  clear o0 o1 o2 o3 o4 o5 o6
  generalize (w.alloc (.cells #[.string xn, .slice z1 xp z2, .slice z3 xs z4, .int .i64 xc, .int .i64 xk, .slice z5 xi z6, .slice z7 xr z8] 31)).alloc (.cells #[.string ⟨#[]⟩, .slice none 0 0, .slice none 0 0, .int .i64 0, .int .i64 0, .slice none 0 0, .slice none 0 0] 31) = w0 at *
  have HC1 := Lib.hid (clone_var (.slice z1 xp z2) _ w0 (HP1.out.later HG0.out) HL1.out)
  refine HC1.out.mono ?_
  rintro e w1' ⟨qq1, rfl, hq1, hn1, hg1⟩
  obtain ⟨qa1, qc1, hqf1, -, -⟩ := hq1.form
  subst hqf1
  simp only
  have hM1' := keep_at HM0.out hg1
  have hM1 := obj_put (i := 1) hM1' (.slice qa1 xps.length qc1)
  simp only [List.setIfInBounds_toArray, List.set_cons_zero, List.set_cons_succ] at hM1
  have hR1 : (w1'.setCell ⟨w.heap.size, 1, none⟩ (.slice qa1 xps.length qc1)).heap[w.heap.size + 1]? = some (.cells #[.string ⟨#[]⟩, .slice none 0 0, .slice none 0 0, .int .i64 0, .int .i64 0, .slice none 0 0, .slice none 0 0] 31 (0, 0)) := by
    rw [Below.heap_setCell _ _ _ _ (by simp)]; exact keep_at HR0.out hg1
  have HG1 := Lib.hid ((Mv.trans HG0.out hg1 (fun _ e => e.elim)).setCell (p := ⟨w.heap.size, 1, none⟩) (.inr (Nat.le_refl _)) (.slice qa1 xps.length qc1))
  have HN1 := Lib.hid (fun g hg => (show w.heap.size + 1 < g ∧ g < (w1'.setCell ⟨w.heap.size, 1, none⟩ (.slice qa1 xps.length qc1)).heap.size from by have := hn1 g hg; simp only [World.size_setCell]; omega))
  have HQ1 := Lib.hid (hq1.stay ((Mv.refl (fun b => b = w.heap.size) _).setCell (p := ⟨w.heap.size, 1, none⟩) (.inl rfl) (.slice qa1 xps.length qc1)) (fun g hg e => by have := hn1 g hg; omega))
  have HM1 := Lib.hid hM1
  have HR1 := Lib.hid hR1
  obtain ⟨⟨o0, o1, o2, o3⟩, o4, o5, o6⟩ := obj_cells hM1'
  have ot := obj_thaw hM1' 1
  have hM1k := lt_of_block hM1'
  have hM1l := lt_of_block hM1
  have hR1l := lt_of_block hR1
  clear hg1 hn1 hq1 hM1' hM1 hR1 HC1 HM0 HR0 HG0 hM0l hR0l
  go_wp2_with fail
  clear o0 o1 o2 o3 o4 o5 o6 ot hM1k
  generalize w1'.setCell ⟨w.heap.size, 1, none⟩ (.slice qa1 xps.length qc1) = w1 at *
  have HC2 := Lib.hid (clone_slot (.slice z3 xs z4) _ w1 (HP2.out.later HG1.out) HL2.out)
  refine HC2.out.mono ?_
  rintro e w2' ⟨qq2, rfl, hq2, hn2, hg2⟩
  obtain ⟨qa2, qc2, hqf2, -, -⟩ := hq2.form
  subst hqf2
  simp only
  have hM2' := keep_at HM1.out hg2
  have hM2 := obj_put (i := 2) hM2' (.slice qa2 xss.length qc2)
  simp only [List.setIfInBounds_toArray, List.set_cons_zero, List.set_cons_succ] at hM2
  have hR2 : (w2'.setCell ⟨w.heap.size, 2, none⟩ (.slice qa2 xss.length qc2)).heap[w.heap.size + 1]? = some (.cells #[.string ⟨#[]⟩, .slice none 0 0, .slice none 0 0, .int .i64 0, .int .i64 0, .slice none 0 0, .slice none 0 0] 31 (0, 0)) := by
    rw [Below.heap_setCell _ _ _ _ (by simp)]; exact keep_at HR1.out hg2
  have HG2 := Lib.hid ((Mv.trans HG1.out hg2 (fun _ e => e.elim)).setCell (p := ⟨w.heap.size, 2, none⟩) (.inr (Nat.le_refl _)) (.slice qa2 xss.length qc2))
  have HN2 := Lib.hid (fun g hg => (show w.heap.size + 1 < g ∧ g < (w2'.setCell ⟨w.heap.size, 2, none⟩ (.slice qa2 xss.length qc2)).heap.size from by have := hn2 g hg; simp only [World.size_setCell]; omega))
  have HQ2 := Lib.hid (hq2.stay ((Mv.refl (fun b => b = w.heap.size) _).setCell (p := ⟨w.heap.size, 2, none⟩) (.inl rfl) (.slice qa2 xss.length qc2)) (fun g hg e => by have := hn2 g hg; omega))
  have HQ1n := Lib.hid (((HQ1.out.later hg2).stay ((Mv.refl (fun b => b = w.heap.size) _).setCell (p := ⟨w.heap.size, 2, none⟩) (.inl rfl) (.slice qa2 xss.length qc2)) (fun g hg e => by have := HN1.out g hg; omega)))
  clear HQ1
  have HQ1 := HQ1n
  clear HQ1n
  have HN1n := Lib.hid (fun g hg => (show w.heap.size + 1 < g ∧ g < (w2'.setCell ⟨w.heap.size, 2, none⟩ (.slice qa2 xss.length qc2)).heap.size from by have := HN1.out g hg; have := hg2.size; simp only [World.size_setCell]; omega))
  clear HN1
  have HN1 := HN1n
  clear HN1n
  have HM2 := Lib.hid hM2
  have HR2 := Lib.hid hR2
  obtain ⟨⟨o0, o1, o2, o3⟩, o4, o5, o6⟩ := obj_cells hM2'
  have ot := obj_thaw hM2' 2
  have hM2k := lt_of_block hM2'
  have hM2l := lt_of_block hM2
  have hR2l := lt_of_block hR2
  clear hg2 hn2 hq2 hM2' hM2 hR2 HC2 HM1 HR1 HG1 hM1l hR1l
  go_wp2_with fail
  clear o0 o1 o2 o3 o4 o5 o6 ot hM2k
  generalize w2'.setCell ⟨w.heap.size, 2, none⟩ (.slice qa2 xss.length qc2) = w2 at *
  have HC3 := Lib.hid (clone_ins (.slice z5 xi z6) _ w2 (HP3.out.later HG2.out) HL3.out)
  refine HC3.out.mono ?_
  rintro e w3' ⟨qq3, rfl, hq3, hn3, hg3⟩
  obtain ⟨qa3, qc3, hqf3, -, -⟩ := hq3.form
  subst hqf3
  simp only
  have hM3' := keep_at HM2.out hg3
  have hM3 := obj_put (i := 5) hM3' (.slice qa3 xis.length qc3)
  simp only [List.setIfInBounds_toArray, List.set_cons_zero, List.set_cons_succ] at hM3
  have hR3 : (w3'.setCell ⟨w.heap.size, 5, none⟩ (.slice qa3 xis.length qc3)).heap[w.heap.size + 1]? = some (.cells #[.string ⟨#[]⟩, .slice none 0 0, .slice none 0 0, .int .i64 0, .int .i64 0, .slice none 0 0, .slice none 0 0] 31 (0, 0)) := by
    rw [Below.heap_setCell _ _ _ _ (by simp)]; exact keep_at HR2.out hg3
  have HG3 := Lib.hid ((Mv.trans HG2.out hg3 (fun _ e => e.elim)).setCell (p := ⟨w.heap.size, 5, none⟩) (.inr (Nat.le_refl _)) (.slice qa3 xis.length qc3))
  have HN3 := Lib.hid (fun g hg => (show w.heap.size + 1 < g ∧ g < (w3'.setCell ⟨w.heap.size, 5, none⟩ (.slice qa3 xis.length qc3)).heap.size from by have := hn3 g hg; simp only [World.size_setCell]; omega))
  have HQ3 := Lib.hid (hq3.stay ((Mv.refl (fun b => b = w.heap.size) _).setCell (p := ⟨w.heap.size, 5, none⟩) (.inl rfl) (.slice qa3 xis.length qc3)) (fun g hg e => by have := hn3 g hg; omega))
  have HQ1n := Lib.hid (((HQ1.out.later hg3).stay ((Mv.refl (fun b => b = w.heap.size) _).setCell (p := ⟨w.heap.size, 5, none⟩) (.inl rfl) (.slice qa3 xis.length qc3)) (fun g hg e => by have := HN1.out g hg; omega)))
  clear HQ1
  have HQ1 := HQ1n
  clear HQ1n
  have HN1n := Lib.hid (fun g hg => (show w.heap.size + 1 < g ∧ g < (w3'.setCell ⟨w.heap.size, 5, none⟩ (.slice qa3 xis.length qc3)).heap.size from by have := HN1.out g hg; have := hg3.size; simp only [World.size_setCell]; omega))
  clear HN1
  have HN1 := HN1n
  clear HN1n
  have HQ2n := Lib.hid (((HQ2.out.later hg3).stay ((Mv.refl (fun b => b = w.heap.size) _).setCell (p := ⟨w.heap.size, 5, none⟩) (.inl rfl) (.slice qa3 xis.length qc3)) (fun g hg e => by have := HN2.out g hg; omega)))
  clear HQ2
  have HQ2 := HQ2n
  clear HQ2n
  have HN2n := Lib.hid (fun g hg => (show w.heap.size + 1 < g ∧ g < (w3'.setCell ⟨w.heap.size, 5, none⟩ (.slice qa3 xis.length qc3)).heap.size from by have := HN2.out g hg; have := hg3.size; simp only [World.size_setCell]; omega))
  clear HN2
  have HN2 := HN2n
  clear HN2n
  have HM3 := Lib.hid hM3
  have HR3 := Lib.hid hR3
  obtain ⟨⟨o0, o1, o2, o3⟩, o4, o5, o6⟩ := obj_cells hM3'
  have ot := obj_thaw hM3' 5
  have hM3k := lt_of_block hM3'
  have hM3l := lt_of_block hM3
  have hR3l := lt_of_block hR3
  clear hg3 hn3 hq3 hM3' hM3 hR3 HC3 HM2 HR2 HG2 hM2l hR2l
  go_wp2_with fail
  clear o0 o1 o2 o3 o4 o5 o6 ot hM3k
  generalize w3'.setCell ⟨w.heap.size, 5, none⟩ (.slice qa3 xis.length qc3) = w3 at *
  have HC4 := Lib.hid (clone_ref (.slice z7 xr z8) _ w3 (HP4.out.later HG3.out) HL4.out)
  refine HC4.out.mono ?_
  rintro e w4' ⟨qq4, rfl, hq4, hn4, hg4⟩
  obtain ⟨qa4, qc4, hqf4, -, -⟩ := hq4.form
  subst hqf4
  simp only
  have hM4' := keep_at HM3.out hg4
  have hM4 := obj_put (i := 6) hM4' (.slice qa4 xrs.length qc4)
  simp only [List.setIfInBounds_toArray, List.set_cons_zero, List.set_cons_succ] at hM4
  have hR4 : (w4'.setCell ⟨w.heap.size, 6, none⟩ (.slice qa4 xrs.length qc4)).heap[w.heap.size + 1]? = some (.cells #[.string ⟨#[]⟩, .slice none 0 0, .slice none 0 0, .int .i64 0, .int .i64 0, .slice none 0 0, .slice none 0 0] 31 (0, 0)) := by
    rw [Below.heap_setCell _ _ _ _ (by simp)]; exact keep_at HR3.out hg4
  have HG4 := Lib.hid ((Mv.trans HG3.out hg4 (fun _ e => e.elim)).setCell (p := ⟨w.heap.size, 6, none⟩) (.inr (Nat.le_refl _)) (.slice qa4 xrs.length qc4))
  have HN4 := Lib.hid (fun g hg => (show w.heap.size + 1 < g ∧ g < (w4'.setCell ⟨w.heap.size, 6, none⟩ (.slice qa4 xrs.length qc4)).heap.size from by have := hn4 g hg; simp only [World.size_setCell]; omega))
  have HQ4 := Lib.hid (hq4.stay ((Mv.refl (fun b => b = w.heap.size) _).setCell (p := ⟨w.heap.size, 6, none⟩) (.inl rfl) (.slice qa4 xrs.length qc4)) (fun g hg e => by have := hn4 g hg; omega))
  have HQ1n := Lib.hid (((HQ1.out.later hg4).stay ((Mv.refl (fun b => b = w.heap.size) _).setCell (p := ⟨w.heap.size, 6, none⟩) (.inl rfl) (.slice qa4 xrs.length qc4)) (fun g hg e => by have := HN1.out g hg; omega)))
  clear HQ1
  have HQ1 := HQ1n
  clear HQ1n
  have HN1n := Lib.hid (fun g hg => (show w.heap.size + 1 < g ∧ g < (w4'.setCell ⟨w.heap.size, 6, none⟩ (.slice qa4 xrs.length qc4)).heap.size from by have := HN1.out g hg; have := hg4.size; simp only [World.size_setCell]; omega))
  clear HN1
  have HN1 := HN1n
  clear HN1n
  have HQ2n := Lib.hid (((HQ2.out.later hg4).stay ((Mv.refl (fun b => b = w.heap.size) _).setCell (p := ⟨w.heap.size, 6, none⟩) (.inl rfl) (.slice qa4 xrs.length qc4)) (fun g hg e => by have := HN2.out g hg; omega)))
  clear HQ2
  have HQ2 := HQ2n
  clear HQ2n
  have HN2n := Lib.hid (fun g hg => (show w.heap.size + 1 < g ∧ g < (w4'.setCell ⟨w.heap.size, 6, none⟩ (.slice qa4 xrs.length qc4)).heap.size from by have := HN2.out g hg; have := hg4.size; simp only [World.size_setCell]; omega))
  clear HN2
  have HN2 := HN2n
  clear HN2n
  have HQ3n := Lib.hid (((HQ3.out.later hg4).stay ((Mv.refl (fun b => b = w.heap.size) _).setCell (p := ⟨w.heap.size, 6, none⟩) (.inl rfl) (.slice qa4 xrs.length qc4)) (fun g hg e => by have := HN3.out g hg; omega)))
  clear HQ3
  have HQ3 := HQ3n
  clear HQ3n
  have HN3n := Lib.hid (fun g hg => (show w.heap.size + 1 < g ∧ g < (w4'.setCell ⟨w.heap.size, 6, none⟩ (.slice qa4 xrs.length qc4)).heap.size from by have := HN3.out g hg; have := hg4.size; simp only [World.size_setCell]; omega))
  clear HN3
  have HN3 := HN3n
  clear HN3n
  have HM4 := Lib.hid hM4
  have HR4 := Lib.hid hR4
  obtain ⟨⟨o0, o1, o2, o3⟩, o4, o5, o6⟩ := obj_cells hM4'
  have ot := obj_thaw hM4' 6
  have hM4k := lt_of_block hM4'
  have hR4k := keep_at HR3.out hg4
  obtain ⟨⟨r0, r1, r2, r3⟩, r4, r5, r6⟩ := obj_cells hR4k
  have rz := obj_thaw hR4k
  have hR4kl := lt_of_block hR4k
  clear hR4k
  have hM4l := lt_of_block hM4
  have hR4l := lt_of_block hR4
  clear hg4 hn4 hq4 hM4' hM4 hR4 HC4 HM3 HR3 HG3 hM3l hR3l
  go_wp2_with fail
  obtain ⟨hY, hmv⟩ := set7 HR4.out (.string xn) (.slice qa1 xps.length qc1) (.slice qa2 xss.length qc2) (.int .i64 xc) (.int .i64 xk) (.slice qa3 xis.length qc3) (.slice qa4 xrs.length qc4)
  have HY := Lib.hid hY
  have HMV := Lib.hid hmv
  clear o0 o1 o2 o3 o4 o5 o6 ot r0 r1 r2 r3 r4 r5 r6 rz hM4k
  generalize hw5 : (((((((w4'.setCell ⟨w.heap.size, 6, none⟩ (.slice qa4 xrs.length qc4)).setCell ⟨w.heap.size + 1, 0, none⟩ (.string xn)).setCell ⟨w.heap.size + 1, 1, none⟩ (.slice qa1 xps.length qc1)).setCell ⟨w.heap.size + 1, 2, none⟩ (.slice qa2 xss.length qc2)).setCell ⟨w.heap.size + 1, 3, none⟩ (.int .i64 xc)).setCell ⟨w.heap.size + 1, 4, none⟩ (.int .i64 xk)).setCell ⟨w.heap.size + 1, 5, none⟩ (.slice qa3 xis.length qc3)).setCell ⟨w.heap.size + 1, 6, none⟩ (.slice qa4 xrs.length qc4) = w5 at *
  obtain ⟨⟨k0, k1, k2, k3⟩, k4, k5, k6⟩ := obj_cells hY
  have hz5 := hmv.size
  have st : ∀ (v : Value), (∀ g, v.ownBlock = some g → w.heap.size + 1 < g ∧ g < (w4'.setCell ⟨w.heap.size, 6, none⟩ (.slice qa4 xrs.length qc4)).heap.size) → ∀ g, v.ownBlock = some g → ¬ g = w.heap.size + 1 := fun v h g hg e => by have := h g hg; omega
  refine bodyPost_ret (v := .agg #[.string xn, (.slice qa1 xps.length qc1), (.slice qa2 xss.length qc2), .int .i64 xc, .int .i64 xk, (.slice qa3 xis.length qc3), (.slice qa4 xrs.length qc4)]) ?_ rfl ⟨⟨⟨xn, xps, xss, xc, xk, xis, xrs⟩, (.slice qa1 xps.length qc1), (.slice qa2 xss.length qc2), (.slice qa3 xis.length qc3), (.slice qa4 xrs.length qc4)⟩, ⟨rfl, rfl⟩, ⟨HO.out.ok, HQ1.out.stay hmv (st _ HN1.out), HQ2.out.stay hmv (st _ HN2.out), HQ3.out.stay hmv (st _ HN3.out), HQ4.out.stay hmv (st _ HN4.out)⟩, ?_, HG4.out.trans hmv (fun x e => .inr (by omega))⟩
  · simp [results, Tryd.results30, go_sem, k0, k1, k2, k3, k4, k5, k6]
  · intro v hv g hg
    simp only [ObjV.cells, List.mem_cons, List.mem_nil_iff, or_false] at hv
    rcases hv with rfl | rfl | rfl | rfl | rfl | rfl | rfl
    · simp [Value.ownBlock] at hg
    · have := HN1.out g hg; omega
    · have := HN2.out g hg; omega
    · simp [Value.ownBlock] at hg
    · simp [Value.ownBlock] at hg
    · have := HN3.out g hg; omega
    · have := HN4.out g hg; omega

end Go.Proofs.YtaabkaiifplhgaaDoor
