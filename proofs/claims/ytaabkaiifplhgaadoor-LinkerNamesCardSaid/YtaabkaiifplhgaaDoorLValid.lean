/- isa.Valid. -/
import Derived.Test.YtaabkaiifplhgaaDoorLIsa
namespace Go.Proofs.YtaabkaiifplhgaaDoor
set_option linter.unusedSimpArgs false
set_option linter.unusedVariables false
open Go.RowKit

/-- how many operands an opcode has -/
def opnds : List Int := [0, 2, 2, 2, 2, 2, 2, 2, 1, 4, 2, 4, 2, 2, 2, 2, 2, 1, 1, 1, 1, 2, 1, 2, 2, 1, 2, 2, 2, 2, 1, 1, 1, 1, 0]

/-- the table of the instruction set lies in memory -/
def TabOk (w : World) : Prop := ∀ k, k < 35 → w.cell? ⟨0, k * 2 + 1, none⟩ = some (.int .i64 (opnds.getD k 0))

theorem TabOk.later {w w' : World} (h : TabOk w) (hm : Mv (fun _ => False) w w') : TabOk w' := fun k hk => by
  have h1 := h k hk
  rw [← h1]
  exact World.cell?_of_block (w := w) (w' := w') (hm.block _ (World.block_lt_of_cell? w _ h1) (fun h => h))

def unused (n : Int) (i : Ins) : Bool := (decide (0 < n) || i.a == 0) && ((decide (1 < n) || i.b == 0) && ((decide (2 < n) || i.c == 0) && (decide (3 < n) || i.d == 0)))

def classB (i : Ins) : Bool :=
  if i.op = 1 ∨ i.op = 2 ∨ i.op = 3 then (regB i.a && regB i.b) && i.a != i.b
  else if i.op = 7 then regB i.a && regB i.b
  else if i.op = 4 ∨ i.op = 5 ∨ i.op = 6 ∨ i.op = 8 ∨ i.op = 17 ∨ i.op = 18 ∨ i.op = 19 ∨ i.op = 20 then regB i.a
  else if i.op = 9 then ((((regB i.a && regB i.b) && regB i.c) && i.a != i.b) && i.a != i.c) && oprB i.d
  else if i.op = 10 ∨ i.op = 12 ∨ i.op = 13 ∨ i.op = 14 ∨ i.op = 15 then regB i.a && numB i.b
  else if i.op = 11 then (((regB i.a && regB i.b) && i.a != i.b) && numB i.c) && numB i.d
  else if i.op = 16 ∨ i.op = 28 ∨ i.op = 29 then numB i.a && numB i.b
  else if i.op = 21 then (regB i.a && decide (1 ≤ i.b)) && decide (i.b ≤ 23)
  else if i.op = 22 ∨ i.op = 25 ∨ i.op = 30 ∨ i.op = 31 ∨ i.op = 32 ∨ i.op = 33 then idxB i.a
  else if i.op = 23 ∨ i.op = 24 ∨ i.op = 26 ∨ i.op = 27 then regB i.a && idxB i.b
  else true

def Ins.validB (i : Ins) : Bool := decide (i.op < 35) && (unused (opnds.getD i.op.toNat 0) i && classB i)

/-- the operands before k are as they must be -/
def UnTo (n : Int) (i : Ins) (k : Nat) : Prop := (0 < k → n ≤ 0 → i.a = 0) ∧ (1 < k → n ≤ 1 → i.b = 0) ∧ (2 < k → n ≤ 2 → i.c = 0) ∧ (3 < k → n ≤ 3 → i.d = 0)

theorem UnTo.all {n : Int} {i : Ins} (h : UnTo n i 4) : unused n i = true := by
  obtain ⟨h1, h2, h3, h4⟩ := h
  simp only [unused, Bool.and_eq_true, Bool.or_eq_true, decide_eq_true_eq, beq_iff_eq]
  refine ⟨?_, ?_, ?_, ?_⟩ <;> omega

theorem unused_no0 {n : Int} {i : Ins} (h : n ≤ 0) (hx : (i.a != 0) = true) : unused n i = false := by
  have h1 : ¬ 0 < n := by omega
  have h2 : (i.a == 0) = false := by simpa using hx
  simp [unused, h1, h2]
theorem UnTo.step0 {n : Int} {i : Ins} (h : UnTo n i 0) (hx : n ≤ 0 → i.a = 0) : UnTo n i 1 := by
  obtain ⟨h1, h2, h3, h4⟩ := h
  refine ⟨fun _ => ?_, fun _ => ?_, fun _ => ?_, fun _ => ?_⟩ <;> first | exact hx | (exact h1 (by omega)) | (exact h2 (by omega)) | (exact h3 (by omega)) | omega
theorem unused_no1 {n : Int} {i : Ins} (h : n ≤ 1) (hx : (i.b != 0) = true) : unused n i = false := by
  have h1 : ¬ 1 < n := by omega
  have h2 : (i.b == 0) = false := by simpa using hx
  simp [unused, h1, h2]
theorem UnTo.step1 {n : Int} {i : Ins} (h : UnTo n i 1) (hx : n ≤ 1 → i.b = 0) : UnTo n i 2 := by
  obtain ⟨h1, h2, h3, h4⟩ := h
  refine ⟨fun _ => ?_, fun _ => ?_, fun _ => ?_, fun _ => ?_⟩ <;> first | exact hx | (exact h1 (by omega)) | (exact h2 (by omega)) | (exact h3 (by omega)) | omega
theorem unused_no2 {n : Int} {i : Ins} (h : n ≤ 2) (hx : (i.c != 0) = true) : unused n i = false := by
  have h1 : ¬ 2 < n := by omega
  have h2 : (i.c == 0) = false := by simpa using hx
  simp [unused, h1, h2]
theorem UnTo.step2 {n : Int} {i : Ins} (h : UnTo n i 2) (hx : n ≤ 2 → i.c = 0) : UnTo n i 3 := by
  obtain ⟨h1, h2, h3, h4⟩ := h
  refine ⟨fun _ => ?_, fun _ => ?_, fun _ => ?_, fun _ => ?_⟩ <;> first | exact hx | (exact h1 (by omega)) | (exact h2 (by omega)) | (exact h3 (by omega)) | omega
theorem unused_no3 {n : Int} {i : Ins} (h : n ≤ 3) (hx : (i.d != 0) = true) : unused n i = false := by
  have h1 : ¬ 3 < n := by omega
  have h2 : (i.d == 0) = false := by simpa using hx
  simp [unused, h1, h2]
theorem UnTo.step3 {n : Int} {i : Ins} (h : UnTo n i 3) (hx : n ≤ 3 → i.d = 0) : UnTo n i 4 := by
  obtain ⟨h1, h2, h3, h4⟩ := h
  refine ⟨fun _ => ?_, fun _ => ?_, fun _ => ?_, fun _ => ?_⟩ <;> first | exact hx | (exact h1 (by omega)) | (exact h2 (by omega)) | (exact h3 (by omega)) | omega

set_option maxRecDepth 100000 in
set_option maxHeartbeats 4000000 in
theorem valid_any (i : Ins) (w : World) (ht : TabOk w) (h0 : 0 ≤ i.op) (h1 : i.op ≤ 255) : Calls Tryd.prog 38 #[i.val] w fun e w' => e = .returned (.bool i.validB) ∧ Mv (fun _ => False) w w' := by
  obtain ⟨op, a, b, c, d⟩ := i
  simp only at h0 h1
  obtain ⟨o, rfl⟩ : ∃ o : Nat, op = o := ⟨op.toNat, by omega⟩
  have HM := Lib.hid ((Mv.refl (fun _ => False) w).alloc (.cells #[.int .u8 o, .int .i64 a, .int .i64 b, .int .i64 c, .int .i64 d] 57))
  by_cases hbig : (o : Int) < 35
  · have hlt : o < 35 := by omega
    have hcell := ht o hlt
    have HV := Lib.hid (show ∀ q : Int, q = o → Ins.validB ⟨q, a, b, c, d⟩ = (unused (opnds.getD o 0) ⟨o, a, b, c, d⟩ && classB ⟨q, a, b, c, d⟩) from by rintro q rfl; simp [Ins.validB, hbig])
    generalize opnds.getD o 0 = n at *
    have hG : 0 < w.heap.size := World.block_lt_of_cell? w _ hcell
    clear ht
    have x0 : ∀ w, (Instr.index 108 (.agg #[.int .i64 a, .int .i64 b, .int .i64 c, .int .i64 d]) (.int .i64 0)).run Tryd.prog w = .ok (.int .i64 a) w := fun _ => by kernel_rfl
    have x1 : ∀ w, (Instr.index 108 (.agg #[.int .i64 a, .int .i64 b, .int .i64 c, .int .i64 d]) (.int .i64 1)).run Tryd.prog w = .ok (.int .i64 b) w := fun _ => by kernel_rfl
    have x2 : ∀ w, (Instr.index 108 (.agg #[.int .i64 a, .int .i64 b, .int .i64 c, .int .i64 d]) (.int .i64 2)).run Tryd.prog w = .ok (.int .i64 c) w := fun _ => by kernel_rfl
    have x3 : ∀ w, (Instr.index 108 (.agg #[.int .i64 a, .int .i64 b, .int .i64 c, .int .i64 d]) (.int .i64 3)).run Tryd.prog w = .ok (.int .i64 d) w := fun _ => by kernel_rfl
    go_enter Tryd.func38, Tryd.ntmps38
    go_wp2
    go_loop [17] (fun t => ∃ k : Nat, k ≤ 4 ∧ t = .int .i64 k ∧ Hid (UnTo n ⟨o, a, b, c, d⟩ k)) (fun t => 4 - (intOf t).toNat)
    case atStart => exact ⟨0, by omega, rfl, Lib.hid (by simp [UnTo])⟩
    case round =>
      obtain ⟨k, hk, rfl, hu⟩ := hrel
      obtain rfl | rfl | rfl | rfl | rfl : k = 0 ∨ k = 1 ∨ k = 2 ∨ k = 3 ∨ k = 4 := by omega
      · go_wp2
        all_goals first
          | (go_ret; exact ⟨ret_bool (by rw [HV.out _ rfl, unused_no0 (by assumption) (by assumption)]; rfl), HM.out⟩)
          | exact ⟨⟨1, by omega, rfl, Lib.hid (hu.out.step0 (by simp_all <;> omega))⟩, by simp [intOf]⟩
      · go_wp2
        all_goals first
          | (go_ret; exact ⟨ret_bool (by rw [HV.out _ rfl, unused_no1 (by assumption) (by assumption)]; rfl), HM.out⟩)
          | exact ⟨⟨2, by omega, rfl, Lib.hid (hu.out.step1 (by simp_all <;> omega))⟩, by simp [intOf]⟩
      · go_wp2
        all_goals first
          | (go_ret; exact ⟨ret_bool (by rw [HV.out _ rfl, unused_no2 (by assumption) (by assumption)]; rfl), HM.out⟩)
          | exact ⟨⟨3, by omega, rfl, Lib.hid (hu.out.step2 (by simp_all <;> omega))⟩, by simp [intOf]⟩
      · go_wp2
        all_goals first
          | (go_ret; exact ⟨ret_bool (by rw [HV.out _ rfl, unused_no3 (by assumption) (by assumption)]; rfl), HM.out⟩)
          | exact ⟨⟨4, by omega, rfl, Lib.hid (hu.out.step3 (by simp_all <;> omega))⟩, by simp [intOf]⟩
      · have HU := Lib.hid hu.out.all
        clear hu hcell x0 x1 x2 x3
        rcases (show o = 0 ∨ o = 1 ∨ o = 2 ∨ o = 3 ∨ o = 4 ∨ o = 5 ∨ o = 6 ∨ o = 7 ∨ o = 8 ∨ o = 9 ∨ o = 10 ∨ o = 11 ∨ o = 12 ∨ o = 13 ∨ o = 14 ∨ o = 15 ∨ o = 16 ∨ o = 17 ∨ o = 18 ∨ o = 19 ∨ o = 20 ∨ o = 21 ∨ o = 22 ∨ o = 23 ∨ o = 24 ∨ o = 25 ∨ o = 26 ∨ o = 27 ∨ o = 28 ∨ o = 29 ∨ o = 30 ∨ o = 31 ∨ o = 32 ∨ o = 33 ∨ o = 34 by omega) with rfl | rfl | rfl | rfl | rfl | rfl | rfl | rfl | rfl | rfl | rfl | rfl | rfl | rfl | rfl | rfl | rfl | rfl | rfl | rfl | rfl | rfl | rfl | rfl | rfl | rfl | rfl | rfl | rfl | rfl | rfl | rfl | rfl | rfl | rfl
        all_goals
          go_wp2_with (first
            | (go_at_call 50; refine (register_any _ _).mono ?_; rintro e w' ⟨rfl, rfl⟩)
            | (go_at_call 52; refine (number_any _ _).mono ?_; rintro e w' ⟨rfl, rfl⟩)
            | (go_at_call 53; refine (index_any _ _).mono ?_; rintro e w' ⟨rfl, rfl⟩)
            | (go_at_call 51; refine (operator_any _ _).mono ?_; rintro e w' ⟨rfl, rfl⟩))
          all_goals (go_ret; exact ⟨ret_bool (by rw [HV.out _ (by omega), HU.out]; simp_all [classB] <;> omega), (Mv.refl _ _).alloc _⟩)
  · have hb2 : ¬ o < 35 := by omega
    have hb3 : (35 : Int) ≤ o := by omega
    have hd1 : decide ((35 : Int) ≤ o) = true := by simpa using hb3
    have hd2 : decide ((o : Int) < 35) = false := by simpa using hb3
    go_enter Tryd.func38, Tryd.ntmps38
    go_wp2
    go_ret
    exact ⟨ret_bool (by simp [Ins.validB]; omega), HM.out⟩

end Go.Proofs.YtaabkaiifplhgaaDoor
