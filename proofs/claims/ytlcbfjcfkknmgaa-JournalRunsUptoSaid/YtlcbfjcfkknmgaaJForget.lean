/- Contracts of Forget, and of Rewind's errors. -/
import Derived.Test.YtlcbfjcfkknmgaaJPop
namespace Go.Proofs.Ytlcbfjcfkknmgaa
open Go.RowKit

/-- how many functions the journal at J holds -/
def jlen (J : Nat) (w : World) : Nat := match w.cell? ⟨J, 0, none⟩ with
  | some (.slice _ n _) => n
  | _ => 0
theorem JQ.jlen {J : Nat} {s r : Value} {fs : List Value} {w : World} (h : JQ J s fs r w) : jlen J w = fs.length := by
  obtain ⟨a, c, rfl⟩ := h.slice
  simp [Ytlcbfjcfkknmgaa.jlen, j_cell0 h.blk]

/-- the error of shortening the journal -/
def boundErr (n : Nat) (run : Bool) (k : Int) : Int := if run then 20 else if k < 0 ∨ (n : Int) < k then 2 else 0

theorem bound_jq (J : Nat) (s : Value) (fs : List Value) (run : Bool) (k : Int) (w : World) (h : JQ J s fs (.bool run) w) :
    Calls Try.prog 49 #[.pointer (some ⟨J, 0, none⟩), .int .i64 k] w fun e w' => e = .returned (.int .i64 (boundErr fs.length run k)) ∧ w = w' := by
  obtain ⟨a, c, rfl⟩ := h.slice
  cases run with
  | true => exact bound_running J _ k w h.blk
  | false =>
    by_cases h1 : k < 0
    · simp only [boundErr, h1, true_or, if_true, Bool.false_eq_true, if_false]
      exact bound_low J _ k w h.blk h1
    · by_cases h2 : (fs.length : Int) < k
      · simp only [boundErr, h2, or_true, if_true, Bool.false_eq_true, if_false]
        exact bound_high J a fs.length c k w h.blk (by omega) h2
      · simp only [boundErr, h1, h2, or_self, Bool.false_eq_true, if_false]
        exact bound_ok J a fs.length c k w h.blk (by omega) (by omega)

theorem forget_nil (k : Int) (w : World) : Calls Try.prog 36 #[.pointer none, .int .i64 k] w fun e w' => e = .returned (.int .i64 1) ∧ w = w' := by
  go_enter Try.func36, Try.ntmps36
  go_wp2_with (go_at_call 49; refine (bound_nil _ _).mono ?_; rintro e w' ⟨rfl, rfl⟩)
  go_ret
  exact ⟨rfl, rfl⟩

theorem forget_err (J : Nat) (s : Value) (fs : List Value) (run : Bool) (k : Int) (w : World) (h : JQ J s fs (.bool run) w) (hne : (boundErr fs.length run k != 0) = true) :
    Calls Try.prog 36 #[.pointer (some ⟨J, 0, none⟩), .int .i64 k] w fun e w' => e = .returned (.int .i64 (boundErr fs.length run k)) ∧ w = w' := by
  have hb := bound_jq J s fs run k w h
  generalize boundErr fs.length run k = x at *
  have HB := Lib.hid hb
  clear hb h
  go_enter Try.func36, Try.ntmps36
  go_wp2_with (go_at_call 49; refine HB.out.mono ?_; rintro e w' ⟨rfl, rfl⟩)
  go_ret
  exact ⟨rfl, rfl⟩

/-- Forget: the first k functions are left; nothing but the journal is written -/
def Cut (J : Nat) (s : Value) (fs : List Value) (r : Value) (w w' : World) : Prop := ∃ s', JQ J s' fs r w' ∧ Mv (JO J s) w w' ∧ JSub J s s' w

theorem Cut.refl {J : Nat} {s r : Value} {fs : List Value} {w : World} (h : JQ J s fs r w) : Cut J s fs r w w := ⟨s, h, Mv.refl _ _, fun _ h => .inl h⟩

theorem Cut.trans {J : Nat} {s s1 r : Value} {fs : List Value} {w w1 w2 : World} (hm : Mv (JO J s) w w1) (hs : JSub J s s1 w) (k : Cut J s1 fs r w1 w2) : Cut J s fs r w w2 := by
  obtain ⟨s2, hq2, hm2, hs2⟩ := k
  refine ⟨s2, hq2, hm.trans hm2 hs, fun b hb => ?_⟩
  rcases hs2 b hb with h1 | h1
  · exact hs b h1
  · exact .inr (by have := hm.size; omega)

set_option maxHeartbeats 400000 in
theorem forget_ok (J : Nat) (s : Value) (fs : List Value) (k : Nat) (w : World) (h : JQ J s fs (.bool false) w) (hk : k ≤ fs.length) (hlen : fs.length ≤ 1000000) :
    Calls Try.prog 36 #[.pointer (some ⟨J, 0, none⟩), .int .i64 k] w fun e w' => e = .returned (.int .i64 0) ∧ Cut J s (fs.take k) (.bool false) w w' := by
  have hb := bound_jq J s fs false k w h
  rw [show boundErr fs.length false (k : Int) = 0 from by simp [boundErr]; omega] at hb
  have HB := Lib.hid hb
  have H := Lib.hid h
  clear hb h
  go_enter Try.func36, Try.ntmps36
  go_wp2_with (go_at_call 49; refine HB.out.mono ?_; rintro e w' ⟨rfl, rfl⟩)
  go_loopw [] (fun wr => ∃ m, k ≤ m ∧ m ≤ fs.length ∧ Cut J s (fs.take m) (.bool false) w wr) (fun wr => jlen J wr)
  case atStart => exact ⟨fs.length, hk, Nat.le_refl _, by rw [List.take_length]; exact Cut.refl H.out⟩
  case round =>
    obtain ⟨m, hm1, hm2, s1, hq, hmv, hsub⟩ := hrel
    have HQ := Lib.hid hq
    have HM := Lib.hid hmv
    have HS := Lib.hid hsub
    have hl : (fs.take m).length = m := by simp; omega
    obtain ⟨a1, c1, rfl⟩ := hq.slice
    have c0 := j_cell0 hq.blk
    rw [hl] at c0 HQ HS
    have HL := Lib.hid hl
    clear hq hmv hsub hl
    by_cases hlt : k < m
    · have hsp : fs.take m = fs.take (m - 1) ++ [fs[m - 1]] := by
        have := List.take_succ_eq_append_getElem (l := fs) (i := m - 1) (by omega)
        rwa [show m - 1 + 1 = m by omega] at this
      have hp := pop_jq J _ (.bool false) fs[m - 1] (fs.take (m - 1)) wr (by rw [← hsp]; exact HQ.out) (by simp; omega)
      have HP := Lib.hid hp
      have hj := HQ.out.jlen
      have HJ := Lib.hid hj
      clear hp hsp hj
      go_wp2_with (go_at_call 51; refine HP.out.mono ?_; rintro e w' ⟨rfl, s2, hq2, hm2, hs2⟩)
      go_roundw
      case rel => exact ⟨m - 1, by omega, by omega, Cut.trans HM.out HS.out ⟨s2, hq2, hm2, hs2⟩⟩
      case measure => rw [hq2.jlen, HJ.out]; simp; omega
    · obtain rfl : m = k := by omega
      go_wp2
      go_ret
      exact ⟨rfl, _, HQ.out, HM.out, HS.out⟩

end Go.Proofs.Ytlcbfjcfkknmgaa
