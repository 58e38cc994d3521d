/- JournalNil: its walk. -/
import Derived.Test.YtlcbfjcfkknmgaaJAwake
namespace Go.Proofs.Ytlcbfjcfkknmgaa
open Go.RowKit

theorem Mv.below {w w' : World} (h : Mv (fun _ => False) w w') : Below w.heap.size w w' := ⟨h.os, h.tape, h.output, h.size, fun k hk => h.block k hk (fun e => e)⟩

set_option maxRecDepth 100000 in
set_option maxHeartbeats 800000 in
theorem walk_JournalNil (a0 : Int) (_w0 : (Lit.int .i64 a0).wf = true) (w : World) :
    Calls Try.prog 9 #[.int .i64 a0] w fun e w' => e = .returned (.bool true) ∧ Below w.heap.size w w' := by
  have HA := Lib.hid (awake_ok w)
  go_enter Try.func9, Try.ntmps9
  go_wp2_with fail
  refine HA.out.mono ?_
  rintro e w1 ⟨rfl, hm1⟩
  have HM1 := Lib.hid hm1
  clear hm1
  go_wp2_with fail
  refine (record_nil _ _).mono ?_
  rintro e w' ⟨rfl, rfl⟩
  go_wp2_with fail
  refine (record_nofn _ _).mono ?_
  rintro e w' ⟨rfl, rfl⟩
  go_wp2_with fail
  refine (attempt_nil _ _).mono ?_
  rintro e w2 ⟨rfl, hm2⟩
  have k0 : w2.heap[w1.heap.size]? = some (.cells #[.bool false] 4 (0, 0)) := by
    rw [hm2.block _ (by simp; omega) (fun e => e), Below.heap_alloc _ _ _ (by simp)]; exact heap_alloc_new _ _
  have k1 : w2.heap[w1.heap.size + 1]? = some (.cells #[.slice none 0 0, .bool false] 29 (0, 0)) := by
    rw [hm2.block _ (by simp) (fun e => e)]; have := heap_alloc_new (w1.alloc (.cells #[.bool false] 4)) (.cells #[.slice none 0 0, .bool false] 29); simpa using this
  have HM2 := Lib.hid hm2
  clear hm2
  have K0 := Lib.hid k0
  have K1 := Lib.hid k1
  clear k0 k1
  go_wp2_with fail
  refine (attempt_nofn _ _).mono ?_
  rintro e w3 ⟨rfl, hm3⟩
  have k0 : w3.heap[w1.heap.size]? = some (.cells #[.bool false] 4 (0, 0)) := by
    rw [hm3.block _ (lt_of_block K0.out) (fun e => e)]; exact K0.out
  have k1 : w3.heap[w1.heap.size + 1]? = some (.cells #[.slice none 0 0, .bool false] 29 (0, 0)) := by
    rw [hm3.block _ (lt_of_block K1.out) (fun e => e)]; exact K1.out
  have c0 := cell_of_one k0
  have HK0 := Lib.hid k0
  have HK1 := Lib.hid k1
  have hlt := lt_of_block k0
  have hlt1 := lt_of_block k1
  have HM3 := Lib.hid hm3
  clear hm3 k0 k1
  go_wp2_with fail
  refine (len_nil _).mono ?_
  rintro e w' ⟨rfl, rfl⟩
  go_wp2_with fail
  refine (rewind_nil _ _).mono ?_
  rintro e w' ⟨rfl, rfl⟩
  go_wp2_with fail
  refine (forget_nil _ _).mono ?_
  rintro e w' ⟨rfl, rfl⟩
  go_wp2_with fail
  refine (len_some (w1.heap.size + 1) none 0 0 (.bool false) _ (by rw [Below.heap_alloc _ _ _ hlt1]; exact HK1.out)).mono ?_
  rintro e w' ⟨rfl, rfl⟩
  go_wp2_with fail
  go_ret
  refine ⟨rfl, Mv.below ?_⟩
  refine Mv.alloc ?_ _
  refine HM1.out.trans ?_ (O1 := fun _ => False) (fun _ e => e.elim)
  refine Mv.trans (O1 := fun _ => False) (b := w2) ?_ HM3.out (fun _ e => e.elim)
  exact Mv.trans (O1 := fun _ => False) (((Mv.refl _ _).alloc _).alloc _) HM2.out (fun _ e => e.elim)

end Go.Proofs.Ytlcbfjcfkknmgaa
