/- Attempt's deferred function: what it does where nothing panics, and where something does. -/
import Derived.Test.YtlcbfjcfkknmgaaJRewind
namespace Go.Proofs.Ytlcbfjcfkknmgaa
open Go.RowKit

theorem catch_idle (a b c : Value) (w : World) :
    CallsD Try.prog 46 #[a, b, c] .returning w fun e u' w' => e = .returned (.tuple #[]) ∧ u' = .returning ∧ w = w' := by
  refine callsD_of_wpS Try.func46 rfl fun c₀ cs hu => ?_
  simp only [Try.ntmps46, List.size_toArray, List.length_cons, List.length_nil, Nat.reduceAdd, Nat.reduceSub, Array.replicate_succ, Array.replicate_zero, List.push_toArray, List.append_toArray, List.nil_append, List.cons_append]
  apply wpS_seq
  apply wpS_region
  simp [wpOpsS, go_sem, recoverD, hu, Exit.thenS]
  apply wpS_of_wp
  go_wp2
  cases c₀
  simp_all [bodyPostS, results, Try.results46]

theorem assert_fail (x : Value) (w : World) : (Instr.typeAssert (.iface 63 x) 20 63 true).run Try.prog w = .ok (.tuple #[x, .bool true]) w := by kernel_rfl
theorem assert_int (x : Value) (w : World) : (Instr.typeAssert (.iface 3 x) 20 63 true).run Try.prog w = .ok (.tuple #[.agg #[.int .i64 0], .bool false]) w := by kernel_rfl

/-- what Attempt's deferred function leaves where a panic comes that Fail raised -/
def Caught (J E : Nat) (V : List Value → World → Prop) (w0 : World) (O0 : Nat → Prop) (fs : List Value) (n : Int) (older : List PanicEntry) (e : Ending) (u' : FrameMode) (w' : World) : Prop :=
  e = .returned (.tuple #[]) ∧ u' = .panicking ({ v := .iface 63 (.agg #[.int .i64 n]), recovered := true } :: older) ∧
    ∃ w2, St J (V fs) w0 O0 fs false w2 ∧ Mv (fun b => b = E) w2 w' ∧ w'.heap[E]? = some (.cells #[.int .i64 n] 33 (0, 0))

/-- .. that another raised -/
def Passed (J : Nat) (V : List Value → World → Prop) (w0 : World) (O0 : Nat → Prop) (fs : List Value) (n : Int) (older : List PanicEntry) (e : Ending) (u' : FrameMode) (w' : World) : Prop :=
  e = .panicked [{ v := .iface 3 (.int .i64 n), recovered := false }] ∧ u' = .panicking ({ v := .iface 3 (.int .i64 n), recovered := true } :: older) ∧ St J (V fs) w0 O0 fs false w'

set_option maxHeartbeats 400000 in
theorem catch_fail (J A F E k : Nat) (x : Int) (V : List Value → World → Prop) (w0 : World) (O0 : Nat → Prop) (fs : List Value) (older : List PanicEntry) (w : World)
    (hA0 : w0.heap[A]? = some (.cells #[.pointer (some ⟨J, 0, none⟩)] 26 (0, 0))) (hF0 : w0.heap[F]? = some (.cells #[.int .i64 k] 3 (0, 0))) (hE0 : w0.heap[E]? = some (.cells #[.int .i64 0] 33 (0, 0)))
    (oA : ¬ O0 A) (oF : ¬ O0 F) (oE : ¬ O0 E) (hun : Undoes J V)
    (h : St J (V fs) w0 O0 fs false w) (hlen : fs.length ≤ 1000000) :
    CallsD Try.prog 46 #[.pointer (some ⟨A, 0, none⟩), .pointer (some ⟨F, 0, none⟩), .pointer (some ⟨E, 0, none⟩)] (.panicking ({ v := .iface 63 (.agg #[.int .i64 x]), recovered := false } :: older)) w
      (Caught J E V w0 O0 (fs.take k) x older) := by
  have a0 := cell_of_one (h.frame hA0 oA)
  have b0 := cell_of_one (h.frame hF0 oF)
  have HL := Lib.hid (fun q => (len_st J _ _ _ _ _ _ (h.drewN q)).mono (fun _ _ hx => (⟨hx.1, hx.2.symm⟩ : _ ∧ _)))
  have HA := Lib.hid hA0
  have HF := Lib.hid hF0
  have HE := Lib.hid hE0
  have hta := assert_fail
  have H := Lib.hid h
  have HUN := Lib.hid hun
  clear hA0 hF0 hE0 h hun
  by_cases hle : fs.length ≤ k
  · have hgt : decide (k < fs.length) = false := by simp; omega
    have hT : fs.take k = fs := List.take_of_length_le hle
    rw [hT]
    clear hT
    refine callsD_of_wpS Try.func46 rfl fun c₀ cs hu => ?_
    simp only [Try.ntmps46, List.size_toArray, List.length_cons, List.length_nil, Nat.reduceAdd, Nat.reduceSub, Array.replicate_succ, Array.replicate_zero, List.push_toArray, List.append_toArray, List.nil_append, List.cons_append]
    apply wpS_seq
    apply wpS_region
    simp [wpOpsS, go_sem, recoverD, hu, Exit.thenS]
    apply wpS_of_wp
    go_wp2
    go_quiet ((go_at_call 17; exact Calls.quiet_of_same (HL.out _)))
    have HST2 := Lib.hid (H.out.drewN nq)
    generalize w.drewN nq = w2 at *
    have e0 := cell_of_one (HST2.out.frame HE.out oE)
    have fe := free_of_one (HST2.out.frame HE.out oE)
    have hE2 := lt_of_block (HST2.out.frame HE.out oE)
    have HE2 := Lib.hid (HST2.out.frame HE.out oE)
    clear a0 b0 hgt
    go_wp2
    refine ⟨rfl, _, rfl, _, results_none rfl _ _ _, rfl, rfl, w2, HST2.out, ((Mv.refl (fun b => b = E) w2).setCell (p := ⟨E, 0, none⟩) (.inl rfl) _).alloc _, ?_⟩
    rw [Below.heap_alloc _ _ _ (by simpa using hE2)]
    exact one_setCell HE2.out
  · have hgt : decide (k < fs.length) = true := by simp; omega
    have hlt : k < fs.length := by omega
    have HR := Lib.hid (fun q => rewind_st J V w0 O0 fs k (w.drewN q) HUN.out (H.out.drewN q) (by omega) hlen)
    refine callsD_of_wpS Try.func46 rfl fun c₀ cs hu => ?_
    simp only [Try.ntmps46, List.size_toArray, List.length_cons, List.length_nil, Nat.reduceAdd, Nat.reduceSub, Array.replicate_succ, Array.replicate_zero, List.push_toArray, List.append_toArray, List.nil_append, List.cons_append]
    apply wpS_seq
    apply wpS_region
    simp [wpOpsS, go_sem, recoverD, hu, Exit.thenS]
    apply wpS_of_wp
    go_wp2
    go_quiet ((go_at_call 17; exact Calls.quiet_of_same (HL.out _)))
    go_wp2_with fail
    refine (HR.out nq).mono ?_
    rintro e w2 ⟨rfl, hst2⟩
    have HST2 := Lib.hid hst2
    clear hst2
    have e0 := cell_of_one (HST2.out.frame HE.out oE)
    have fe := free_of_one (HST2.out.frame HE.out oE)
    have hE2 := lt_of_block (HST2.out.frame HE.out oE)
    have HE2 := Lib.hid (HST2.out.frame HE.out oE)
    clear a0 b0 hgt
    go_wp2
    refine ⟨rfl, _, rfl, _, results_none rfl _ _ _, rfl, rfl, w2, HST2.out, ((Mv.refl (fun b => b = E) w2).setCell (p := ⟨E, 0, none⟩) (.inl rfl) _).alloc _, ?_⟩
    rw [Below.heap_alloc _ _ _ (by simpa using hE2)]
    exact one_setCell HE2.out

set_option maxHeartbeats 400000 in
theorem catch_pass (J A F E k : Nat) (x : Int) (V : List Value → World → Prop) (w0 : World) (O0 : Nat → Prop) (fs : List Value) (older : List PanicEntry) (w : World)
    (hA0 : w0.heap[A]? = some (.cells #[.pointer (some ⟨J, 0, none⟩)] 26 (0, 0))) (hF0 : w0.heap[F]? = some (.cells #[.int .i64 k] 3 (0, 0))) (hE0 : w0.heap[E]? = some (.cells #[.int .i64 0] 33 (0, 0)))
    (oA : ¬ O0 A) (oF : ¬ O0 F) (oE : ¬ O0 E) (hun : Undoes J V)
    (h : St J (V fs) w0 O0 fs false w) (hlen : fs.length ≤ 1000000) :
    CallsD Try.prog 46 #[.pointer (some ⟨A, 0, none⟩), .pointer (some ⟨F, 0, none⟩), .pointer (some ⟨E, 0, none⟩)] (.panicking ({ v := .iface 3 (.int .i64 x), recovered := false } :: older)) w
      (Passed J V w0 O0 (fs.take k) x older) := by
  have a0 := cell_of_one (h.frame hA0 oA)
  have b0 := cell_of_one (h.frame hF0 oF)
  have HL := Lib.hid (fun q => (len_st J _ _ _ _ _ _ (h.drewN q)).mono (fun _ _ hx => (⟨hx.1, hx.2.symm⟩ : _ ∧ _)))
  have HA := Lib.hid hA0
  have HF := Lib.hid hF0
  have HE := Lib.hid hE0
  have hta := assert_int
  have H := Lib.hid h
  have HUN := Lib.hid hun
  clear hA0 hF0 hE0 h hun
  by_cases hle : fs.length ≤ k
  · have hgt : decide (k < fs.length) = false := by simp; omega
    have hT : fs.take k = fs := List.take_of_length_le hle
    rw [hT]
    clear hT
    refine callsD_of_wpS Try.func46 rfl fun c₀ cs hu => ?_
    simp only [Try.ntmps46, List.size_toArray, List.length_cons, List.length_nil, Nat.reduceAdd, Nat.reduceSub, Array.replicate_succ, Array.replicate_zero, List.push_toArray, List.append_toArray, List.nil_append, List.cons_append]
    apply wpS_seq
    apply wpS_region
    simp [wpOpsS, go_sem, recoverD, hu, Exit.thenS]
    apply wpS_of_wp
    go_wp2
    go_quiet ((go_at_call 17; exact Calls.quiet_of_same (HL.out _)))
    have HST2 := Lib.hid (H.out.drewN nq)
    generalize w.drewN nq = w2 at *
    have e0 := cell_of_one (HST2.out.frame HE.out oE)
    have fe := free_of_one (HST2.out.frame HE.out oE)
    have hE2 := lt_of_block (HST2.out.frame HE.out oE)
    have HE2 := Lib.hid (HST2.out.frame HE.out oE)
    clear a0 b0 hgt
    go_wp2
    exact ⟨rfl, _, rfl, rfl, rfl, HST2.out.alloc _⟩
  · have hgt : decide (k < fs.length) = true := by simp; omega
    have hlt : k < fs.length := by omega
    have HR := Lib.hid (fun q => rewind_st J V w0 O0 fs k (w.drewN q) HUN.out (H.out.drewN q) (by omega) hlen)
    refine callsD_of_wpS Try.func46 rfl fun c₀ cs hu => ?_
    simp only [Try.ntmps46, List.size_toArray, List.length_cons, List.length_nil, Nat.reduceAdd, Nat.reduceSub, Array.replicate_succ, Array.replicate_zero, List.push_toArray, List.append_toArray, List.nil_append, List.cons_append]
    apply wpS_seq
    apply wpS_region
    simp [wpOpsS, go_sem, recoverD, hu, Exit.thenS]
    apply wpS_of_wp
    go_wp2
    go_quiet ((go_at_call 17; exact Calls.quiet_of_same (HL.out _)))
    go_wp2_with fail
    refine (HR.out nq).mono ?_
    rintro e w2 ⟨rfl, hst2⟩
    have HST2 := Lib.hid hst2
    clear hst2
    have e0 := cell_of_one (HST2.out.frame HE.out oE)
    have fe := free_of_one (HST2.out.frame HE.out oE)
    have hE2 := lt_of_block (HST2.out.frame HE.out oE)
    have HE2 := Lib.hid (HST2.out.frame HE.out oE)
    clear a0 b0 hgt
    go_wp2
    exact ⟨rfl, _, rfl, rfl, rfl, HST2.out.alloc _⟩

end Go.Proofs.Ytlcbfjcfkknmgaa
