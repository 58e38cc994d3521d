/- Package isa, function by function: jumps, landings, targets, operands. -/
import Derived.Test.YtaabkaiifplhgaaDoorGen
import Derived.Test.YtaabkaiifplhgaaDoorApp
import Derived.Test.YtaabkaiifplhgaaDoorRows
import Derived.Lib.Hide
namespace Go.Proofs.YtaabkaiifplhgaaDoor
set_option linter.unusedSimpArgs false
set_option linter.unusedVariables false
open Go.RowKit

/-- an instruction -/
structure Ins where
  op : Int
  a : Int
  b : Int
  c : Int
  d : Int

def Ins.cells (i : Ins) : List Value := [.int .u8 i.op, .int .i64 i.a, .int .i64 i.b, .int .i64 i.c, .int .i64 i.d]
abbrev Ins.val (i : Ins) : Value := .agg #[.int .u8 i.op, .int .i64 i.a, .int .i64 i.b, .int .i64 i.c, .int .i64 i.d]

def isJ (op : Int) : Bool := op == 22 || (op == 23 || op == 24)
def isL (op : Int) : Bool := op == 25 || (op == 26 || op == 27)
def tgA (op : Int) : Bool := op == 22 || (op == 25 || (op == 30 || (op == 31 || (op == 32 || op == 33))))
def tgB (op : Int) : Bool := op == 23 || (op == 24 || (op == 26 || op == 27))
def Ins.target (i : Ins) : Int := if tgA i.op then i.a else if tgB i.op then i.b else 0
def Ins.aims (i : Ins) : Bool := tgA i.op || tgB i.op
def Ins.retarget (i : Ins) (t : Int) : Ins := if tgA i.op then { i with a := t } else if tgB i.op then { i with b := t } else i

theorem ret_bool {a b : Bool} (h : a = b) : Ending.returned (.bool a) = .returned (.bool b) := by rw [h]
theorem ret_int {k : IntKind} {a b : Int} (h : a = b) : Ending.returned (.int k a) = .returned (.int k b) := by rw [h]

set_option maxHeartbeats 400000 in
theorem isJump_any (op : Int) (w : World) : Calls Tryd.prog 31 #[.int .u8 op] w fun e w' => e = .returned (.bool (isJ op)) ∧ w = w' := by
  go_enter Tryd.func31, Tryd.ntmps31
  go_wp2
  all_goals (go_ret; exact ⟨ret_bool (by unfold isJ; simp_all), rfl⟩)

set_option maxHeartbeats 400000 in
theorem isLanding_any (op : Int) (w : World) : Calls Tryd.prog 32 #[.int .u8 op] w fun e w' => e = .returned (.bool (isL op)) ∧ w = w' := by
  go_enter Tryd.func32, Tryd.ntmps32
  go_wp2
  all_goals (go_ret; exact ⟨ret_bool (by unfold isL; simp_all), rfl⟩)

set_option maxHeartbeats 800000 in
theorem target_any (i : Ins) (w : World) : Calls Tryd.prog 33 #[i.val] w fun e w' => e = .returned (.tuple #[.int .i64 i.target, .bool i.aims]) ∧ Mv (fun _ => False) w w' := by
  obtain ⟨op, a, b, c, d⟩ := i
  have HM := Lib.hid ((Mv.refl (fun _ => False) w).alloc (.cells #[.int .u8 op, .int .i64 a, .int .i64 b, .int .i64 c, .int .i64 d] 57))
  go_enter Tryd.func33, Tryd.ntmps33
  go_wp2
  all_goals (go_ret2; refine ⟨?_, HM.out⟩; simp_all [Ins.target, Ins.aims, tgA, tgB])

set_option maxHeartbeats 1600000 in
theorem retarget_any (i : Ins) (t : Int) (w : World) : Calls Tryd.prog 34 #[i.val, .int .i64 t] w fun e w' => e = .returned (i.retarget t).val ∧ Mv (fun _ => False) w w' := by
  obtain ⟨op, a, b, c, d⟩ := i
  go_enter Tryd.func34, Tryd.ntmps34
  go_wp2
  all_goals
    refine bodyPost_ret (v := (Ins.retarget ⟨op, a, b, c, d⟩ t).val) ?_ rfl ⟨rfl, ?_⟩
    · simp_all [results, Tryd.results34, go_sem, Ins.retarget, tgA, tgB]
    · exact ((Mv.refl _ _).alloc _).alloc _

def regB (x : Int) : Bool := decide (0 ≤ x) && decide (x < 16)
def numB (x : Int) : Bool := decide (0 ≤ x) && decide (x ≤ 16384)
def idxB (x : Int) : Bool := decide (0 ≤ x) && decide (x < 65536)
def oprB (x : Int) : Bool := decide (8 ≤ x) && decide (x ≤ 23)

theorem register_any (x : Int) (w : World) : Calls Tryd.prog 50 #[.int .i64 x] w fun e w' => e = .returned (.bool (regB x)) ∧ w = w' := by
  go_enter Tryd.func50, Tryd.ntmps50
  go_wp2
  all_goals (go_ret; exact ⟨ret_bool (by unfold regB; simp_all <;> omega), rfl⟩)
theorem number_any (x : Int) (w : World) : Calls Tryd.prog 52 #[.int .i64 x] w fun e w' => e = .returned (.bool (numB x)) ∧ w = w' := by
  go_enter Tryd.func52, Tryd.ntmps52
  go_wp2
  all_goals (go_ret; exact ⟨ret_bool (by unfold numB; simp_all <;> omega), rfl⟩)
theorem index_any (x : Int) (w : World) : Calls Tryd.prog 53 #[.int .i64 x] w fun e w' => e = .returned (.bool (idxB x)) ∧ w = w' := by
  go_enter Tryd.func53, Tryd.ntmps53
  go_wp2
  all_goals (go_ret; exact ⟨ret_bool (by unfold idxB; simp_all <;> omega), rfl⟩)
theorem operator_any (x : Int) (w : World) : Calls Tryd.prog 51 #[.int .i64 x] w fun e w' => e = .returned (.bool (oprB x)) ∧ w = w' := by
  go_enter Tryd.func51, Tryd.ntmps51
  go_wp2
  all_goals (go_ret; exact ⟨ret_bool (by unfold oprB; simp_all <;> omega), rfl⟩)

end Go.Proofs.YtaabkaiifplhgaaDoor
