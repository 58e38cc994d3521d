/- The walks over package journal, function by function: plain contracts of Len, bound, Record, pop, Forget, Rewind, Fail, Attempt. -/
import Derived.Test.YtlcbfjcfkknmgaaRows
import Derived.Test.YtlcbfjcfkknmgaaGen
namespace Go.Proofs.Ytlcbfjcfkknmgaa
open Go.RowKit

/-- THE JOURNAL at block J: the functions fs, the latest last; whether an undo function runs. -/
def JP (J : Nat) (fs : List Value) (run : Bool) (w : World) : Prop :=
  ∃ s, w.heap[J]? = some (.cells #[s, .bool run] 29 (0, 0)) ∧ w.ownsRow (J + 1) 1 1 s fs.length fs

theorem j_cell0 {w : World} {J : Nat} {s r : Value} (h : w.heap[J]? = some (.cells #[s, r] 29 (0, 0))) : w.cell? ⟨J, 0, none⟩ = some s := by simp [World.cell?, h]
theorem j_cell1 {w : World} {J : Nat} {s r : Value} (h : w.heap[J]? = some (.cells #[s, r] 29 (0, 0))) : w.cell? ⟨J, 1, none⟩ = some r := by simp [World.cell?, h]
theorem j_free {w : World} {J k : Nat} {s r : Value} (h : w.heap[J]? = some (.cells #[s, r] 29 (0, 0))) : w.frozen? ⟨J, k, none⟩ = false := by simp [World.frozen?, h]

/-- the slice in the journal's first field, spelled out -/
theorem row_form {w : World} {base e size : Nat} {s : Value} {n : Nat} {xs : List Value} (h : w.ownsRow base e size s n xs) : ∃ a cap, s = .slice a n cap := by
  rcases h.2 with ⟨rfl, rfl⟩ | ⟨g, cap, _, rfl, _⟩
  · exact ⟨none, 0, rfl⟩
  · exact ⟨_, _, rfl⟩

@[go_sem] theorem Try.eqFunc (w : World) (fn : Fn) (x y : Array Value) : (binOp .eql 1 (.func fn x y) .nilFunc).run Try.prog w = .ok (.bool false) w := run_eql_func_nil w fn x y Try.underlying1
@[go_sem] theorem Try.eqNoFunc (w : World) : (binOp .eql 1 .nilFunc .nilFunc).run Try.prog w = .ok (.bool true) w := run_eql_nilFunc_nil w Try.underlying1

set_option maxHeartbeats 400000 in
theorem len_some (J : Nat) (a : Option Addr) (n c : Nat) (r : Value) (w : World) (h : w.heap[J]? = some (.cells #[.slice a n c, r] 29 (0, 0))) :
    Calls Try.prog 17 #[.pointer (some ⟨J, 0, none⟩)] w fun e w' => e = .returned (.int .i64 n) ∧ w = w' := by
  have c0 := j_cell0 h
  clear h
  go_enter Try.func17, Try.ntmps17
  go_wp2
  go_ret
  exact ⟨rfl, rfl⟩

theorem len_nil (w : World) : Calls Try.prog 17 #[.pointer none] w fun e w' => e = .returned (.int .i64 0) ∧ w = w' := by
  go_enter Try.func17, Try.ntmps17
  go_wp2
  go_ret
  exact ⟨rfl, rfl⟩

end Go.Proofs.Ytlcbfjcfkknmgaa
