/- stmtgen.moves, stmtgen.partners. -/
import Derived.Test.YtaabkaiifplhgaaDoorLHead
namespace Go.Proofs.YtaabkaiifplhgaaDoor
set_option linter.unusedSimpArgs false
set_option linter.unusedVariables false
open Go.RowKit

def movB (op : Int) : Bool := isJ op || isL op

theorem moves_any (op : Int) (w : World) : Calls Tryd.prog 39 #[.int .u8 op] w fun e w' => e = .returned (.bool (movB op)) ∧ w = w' := by
  have HB := Lib.hid (show movB op = (isJ op || isL op) from rfl)
  go_enter Tryd.func39, Tryd.ntmps39
  go_wp2_with fail
  refine (isJump_any op _).mono ?_
  rintro e w' ⟨rfl, rfl⟩
  generalize isJ op = q at *
  cases q
  · go_wp2_with fail
    refine (isLanding_any op _).mono ?_
    rintro e w' ⟨rfl, rfl⟩
    go_wp2_with fail
    go_ret
    exact ⟨ret_bool (by rw [HB.out]; rfl), rfl⟩
  · go_wp2_with fail
    go_ret
    exact ⟨ret_bool (by rw [HB.out]; rfl), rfl⟩

def partB (code : List Ins) (i : Nat) : Bool :=
  match code[i]? with
  | none => false
  | some x => if x.target < 0 ∨ (code.length : Int) ≤ x.target then false else match code[x.target.toNat]? with
    | none => false
    | some y => if (isJ x.op && !isL y.op) || (isL x.op && !isJ y.op) then false else y.target == (i : Int)

/-- the five cells of an instruction -/
theorem RowAt.ins {w : World} {b off len cap : Nat} {l : List Ins} (h : RowAt 5 Ins.cells w (.slice (some ⟨b, off, none⟩) len cap) l) {i : Nat} (hi : i < l.length) :
    (w.cell? ⟨b, off + i * 5, none⟩ = some (.int .u8 l[i].op) ∧ w.cell? ⟨b, off + i * 5 + 1, none⟩ = some (.int .i64 l[i].a) ∧ w.cell? ⟨b, off + i * 5 + 2, none⟩ = some (.int .i64 l[i].b)) ∧ w.cell? ⟨b, off + i * 5 + 3, none⟩ = some (.int .i64 l[i].c) ∧ w.cell? ⟨b, off + i * 5 + 4, none⟩ = some (.int .i64 l[i].d) ∧ b < w.heap.size := by
  have hc := h.at' hi
  have c0 := hc 0 _ rfl
  exact ⟨⟨c0, hc 1 _ rfl, hc 2 _ rfl⟩, hc 3 _ rfl, hc 4 _ rfl, World.block_lt_of_cell? w _ c0⟩

set_option maxRecDepth 100000 in
set_option maxHeartbeats 3200000 in
theorem partners_any (v : Value) (l : List Ins) (i : Nat) (w : World) (h : RowAt 5 Ins.cells w v l) (hi : i < l.length) : Calls Tryd.prog 40 #[v, .int .i64 i] w fun e w' => e = .returned (.bool (partB l i)) ∧ Grow w w' := by
  obtain ⟨a, cap, rfl, hcap, hlen⟩ := h.form
  obtain ⟨b, off, cap', e, _, _⟩ := h.at hi
  simp only [Value.slice.injEq, true_and] at e
  obtain ⟨rfl, rfl⟩ := e
  obtain ⟨⟨c0, c1, c2⟩, c3, c4, hbl⟩ := h.ins hi
  have HR := Lib.hid h
  have HB := Lib.hid (show partB l i = (if l[i].target < 0 ∨ (l.length : Int) ≤ l[i].target then false else match l[l[i].target.toNat]? with
    | none => false
    | some y => if (isJ l[i].op && !isL y.op) || (isL l[i].op && !isJ y.op) then false else y.target == (i : Int)) from by simp [partB, hi])
  have HT := Lib.hid (target_any l[i] w)
  generalize hx : l[i] = x at *
  obtain ⟨xo, xa, xb, xc, xd⟩ := x
  simp only at c0 c1 c2 c3 c4
  clear h hx
  go_enter Tryd.func40, Tryd.ntmps40
  go_wp2_with fail
  refine HT.out.mono ?_
  rintro e w1 ⟨rfl, hm1⟩
  obtain ⟨hc1, hf1⟩ := gcell hm1
  have hs1 := hm1.size
  have HM1 := Lib.hid hm1
  generalize Ins.target ⟨xo, xa, xb, xc, xd⟩ = t at *
  generalize Ins.aims ⟨xo, xa, xb, xc, xd⟩ = am at *
  have d0 : w1.cell? ⟨b, off + i * 5, none⟩ = some (.int .u8 xo) := by rw [hc1 _ _ hbl]; exact c0
  clear hm1 hc1 hf1 c0 c1 c2 c3 c4
  by_cases ht0 : t < 0
  · go_wp2_with fail
    go_ret
    exact ⟨ret_bool (by rw [HB.out, if_pos (.inl ht0)]), HM1.out⟩
  · by_cases htl : (l.length : Int) ≤ t
    · have hd1 : decide (t < 0) = false := by simpa using ht0
      go_wp2_with fail
      go_ret
      exact ⟨ret_bool (by rw [HB.out, if_pos (.inr htl)]), HM1.out⟩
    · obtain ⟨k, rfl⟩ : ∃ k : Nat, t = k := ⟨t.toNat, by omega⟩
      have hkl : k < l.length := by omega
      obtain ⟨⟨e0, e1, e2⟩, e3, e4, hbl1⟩ := (HR.out.later HM1.out).ins hkl
      have HB2 := Lib.hid (show partB l i = (if (isJ xo && !isL l[k].op) || (isL xo && !isJ l[k].op) then false else l[k].target == (i : Int)) from by
        rw [HB.out, if_neg (by omega)]; simp [hkl])
      have HT2 := Lib.hid (fun w => target_any l[k] w)
      generalize hy : l[k] = y at *
      obtain ⟨yo, ya, yb, yc, yd⟩ := y
      simp only at e0 e1 e2 e3 e4
      clear hy
      clear ht0 htl
      cases hjx : isJ xo <;> cases hly : isL yo <;> cases hlx : isL xo <;> cases hjy : isJ yo
      all_goals
        go_wp2_with (first
          | (go_at_call 31; refine (isJump_any _ _).mono ?_; rintro e w' ⟨rfl, rfl⟩)
          | (go_at_call 32; refine (isLanding_any _ _).mono ?_; rintro e w' ⟨rfl, rfl⟩)
          | fail)
        first
          | (go_ret; exact ⟨ret_bool (by rw [HB2.out, hjx, hly, hlx, hjy]; rfl), HM1.out.alloc _⟩)
          | (refine (HT2.out _).mono ?_
             rintro e w2 ⟨rfl, hm2⟩
             have HM2 := Lib.hid hm2
             clear hm2
             go_wp2_with fail
             go_ret
             exact ⟨ret_bool (by rw [HB2.out, hjx, hly, hlx, hjy]; rfl), Mv.trans (HM1.out.alloc _) HM2.out (fun _ e => e.elim)⟩)

end Go.Proofs.YtaabkaiifplhgaaDoor
