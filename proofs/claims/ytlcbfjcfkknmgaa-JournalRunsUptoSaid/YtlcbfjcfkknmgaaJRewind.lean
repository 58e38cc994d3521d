/- Rewind: each undo function is called as it is removed. -/
import Derived.Test.YtlcbfjcfkknmgaaJState
namespace Go.Proofs.Ytlcbfjcfkknmgaa
open Go.RowKit

theorem mark_off (B J : Nat) (u : FrameMode) (s r : Value) (w : World) (hb : w.heap[B]? = some (.cells #[.pointer (some ⟨J, 0, none⟩)] 26 (0, 0))) (h : w.heap[J]? = some (.cells #[s, r] 29 (0, 0))) :
    CallsD Try.prog 50 #[.pointer (some ⟨B, 0, none⟩)] u w fun e u' w' => u' = u ∧ (e = .returned (.tuple #[]) ∧ w.setCell ⟨J, 1, none⟩ (.bool false) = w') := by
  have b0 := cell_of_one hb
  have c1 := j_cell1 h
  have f1 := j_free (k := 1) h
  clear hb h
  go_enter_d Try.func50, Try.ntmps50
  go_wp2
  go_end0
  exact ⟨rfl, rfl⟩

theorem rewind_nil (k : Int) (w : World) : Calls Try.prog 18 #[.pointer none, .int .i64 k] w fun e w' => e = .returned (.int .i64 1) ∧ w.alloc (.cells #[.pointer none] 26) = w' := by
  go_enter_defers Try.func18, Try.ntmps18
  go_wp2_with (go_at_call 49; refine (bound_nil _ _).mono ?_; rintro e w' ⟨rfl, rfl⟩)
  exact ⟨_, results_tmp rfl _ _ _, rfl, rfl⟩

theorem rewind_err (J : Nat) (U : World → Prop) (w0 : World) (O0 : Nat → Prop) (fs : List Value) (run : Bool) (k : Int) (w : World) (h : St J U w0 O0 fs run w) (hne : (boundErr fs.length run k != 0) = true) :
    Calls Try.prog 18 #[.pointer (some ⟨J, 0, none⟩), .int .i64 k] w fun e w' => e = .returned (.int .i64 (boundErr fs.length run k)) ∧ w.alloc (.cells #[.pointer (some ⟨J, 0, none⟩)] 26) = w' := by
  have hb := bound_st J U w0 O0 fs run k _ (h.alloc (.cells #[.pointer (some ⟨J, 0, none⟩)] 26))
  generalize boundErr fs.length run k = x at *
  have HB := Lib.hid hb
  clear hb h
  go_enter_defers Try.func18, Try.ntmps18
  go_wp2_with (go_at_call 49; refine HB.out.mono ?_; rintro e w' ⟨rfl, rfl⟩)
  exact ⟨_, results_tmp rfl _ _ _, rfl, rfl⟩

/-- a call of the function value f, which takes no argument -/
def CallsV (f : Value) (w : World) (R : Ending → World → Prop) : Prop :=
  ∃ k cap, f = .func (.func k) #[] cap ∧ (∀ w, (callFunc k cap).run Try.prog w = .ok (.enter k cap) w) ∧ Calls Try.prog k cap w R

/-- the user's part: the function f at the journal's end undoes what it was recorded for -/
def Undoes (J : Nat) (V : List Value → World → Prop) : Prop :=
  ∀ (fs : List Value) (f : Value) (w : World) (O : Nat → Prop), St J (V (fs ++ [f])) w O fs true w →
    CallsV f w fun e w' => e = .returned (.tuple #[]) ∧ St J (V fs) w O fs true w'

set_option maxHeartbeats 400000 in
theorem rewind_st (J : Nat) (V : List Value → World → Prop) (w0 : World) (O0 : Nat → Prop) (fs : List Value) (k : Nat) (w : World) (hun : Undoes J V) (h : St J (V fs) w0 O0 fs false w) (hk : k ≤ fs.length) (hlen : fs.length ≤ 1000000) :
    Calls Try.prog 18 #[.pointer (some ⟨J, 0, none⟩), .int .i64 k] w fun e w' => e = .returned (.int .i64 0) ∧ St J (V (fs.take k)) w0 O0 (fs.take k) false w' := by
  obtain ⟨O1, h1, hlt, hs1, hmv1⟩ := h.baseAt ((Mv.refl _ _).alloc (.cells #[.pointer (some ⟨J, 0, none⟩)] 26))
  have hb := bound_st J _ _ _ fs false k _ h1
  rw [show boundErr fs.length false (k : Int) = 0 from by simp [boundErr]; omega] at hb
  have HB := Lib.hid hb
  have H := Lib.hid h1
  have HUN := Lib.hid hun
  have HM := Lib.hid hmv1
  have HS := Lib.hid hs1
  obtain ⟨a1, c1, hj⟩ := h.cells
  have hJ := lt_of_block hj
  have c1 := j_cell1 hj
  have f1 := j_free (k := 1) hj
  have HJ := Lib.hid hj
  have HL := Lib.hid hlt
  clear hb h1 h hun hs1 hlt hj hmv1
  go_enter_defers Try.func18, Try.ntmps18
  go_wp2_with (go_at_call 49; refine HB.out.mono ?_; rintro e w' ⟨rfl, rfl⟩)
  go_loopw [] (fun wr => ∃ m, k ≤ m ∧ m ≤ fs.length ∧ St J (V (fs.take m)) (w.alloc (.cells #[.pointer (some ⟨J, 0, none⟩)] 26)) O1 (fs.take m) true wr) (fun wr => jlen J wr)
  case atStart =>
    refine ⟨fs.length, hk, Nat.le_refl _, ?_⟩
    rw [List.take_length, ← World.setCell_alloc_past _ _ _ _ hJ]
    exact H.out.mark
  case round =>
    obtain ⟨m, hm1, hm2, hst⟩ := hrel
    have hl : (fs.take m).length = m := by simp; omega
    obtain ⟨a1, cc, hj⟩ := hst.cells
    have hbox : wr.heap[w.heap.size]? = some (.cells #[.pointer (some ⟨J, 0, none⟩)] 26 (0, 0)) := by
      rw [hst.mv.block _ (by simp) (fun e => by have := HL.out _ e; simp at this)]
      exact heap_alloc_new w _
    have b0 := cell_of_one hbox
    have k0 := j_cell0 hj
    rw [hl] at k0
    have HBX := Lib.hid hbox
    have HST := Lib.hid hst
    have HJ2 := Lib.hid hj
    have HL2 := Lib.hid hl
    clear hst hj hl hbox
    by_cases hlt : k < m
    · have hsp : fs.take m = fs.take (m - 1) ++ [fs[m - 1]] := by
        have := List.take_succ_eq_append_getElem (l := fs) (i := m - 1) (by omega)
        rwa [show m - 1 + 1 = m by omega] at this
      have HSP := Lib.hid hsp
      have hp := pop_st J (V (fs.take m)) _ O1 (fs.take (m - 1)) fs[m - 1] true wr (by rw [← hsp]; exact HST.out) (by simp; omega)
      have HP := Lib.hid hp
      have HJL := Lib.hid HST.out.jlen
      clear hp hsp
      go_wp2_with fail
      refine HP.out.mono ?_
      rintro e w1 ⟨he, hst1⟩
      obtain ⟨O2, hst2, hlt2, hs2⟩ := hst1.rebase
      rw [HSP.out] at hst2
      obtain ⟨kk, cap, hf, hent, hcall⟩ := HUN.out _ _ _ _ hst2
      rw [hf] at he
      subst he
      have HC := Lib.hid hcall
      have HM1 := Lib.hid hst1.mv
      have HS2 := Lib.hid hs2
      clear hcall hf hst2 hst1 hs2 hlt2
      go_wp2_with fail
      refine HC.out.mono ?_
      rintro e w2 ⟨rfl, hst3⟩
      have hst4 := hst3.lift HM1.out HS2.out
      have HST4 := Lib.hid hst4
      clear hst3 hst4
      go_wp2_with fail
      go_roundw
      case rel => exact ⟨m - 1, by omega, by omega, HST4.out⟩
      case measure => rw [HST4.out.jlen, HJL.out]; simp; omega
    · obtain rfl : m = k := by omega
      go_wp2
      refine leaves_cons (f := 50) (args := #[.pointer (some ⟨w.heap.size, 0, none⟩)]) (by simp) (by simp [go_sem]) ?_
      refine (mark_off w.heap.size J .returning _ _ wr HBX.out HJ2.out).mono ?_
      rintro e u' w'' ⟨rfl, rfl, rfl⟩
      exact ⟨_, results_tmp rfl _ _ _, rfl, HST.out.mark.lift HM.out HS.out⟩

end Go.Proofs.Ytlcbfjcfkknmgaa
