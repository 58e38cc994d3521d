/- Package lexer: first, Name. -/
import Derived.Test.YtaabkaiifplhgaaDoorLName
import Derived.Lib.Strings
namespace Go.Proofs.YtaabkaiifplhgaaDoor
set_option linter.unusedSimpArgs false
set_option linter.unusedVariables false
open Go.RowKit Go.Instr

def SomePair (w : World) (e : Ending) (w' : World) : Prop := ∃ k n : Int, (k == 1) = false ∧ e = .returned (.tuple #[.int .u8 k, .int .i64 n]) ∧ w = w'

set_option maxHeartbeats 800000 in
theorem first_word (s : ByteArray) (w : World) (h1 : 1 ≤ s.size) (hs : s.size ≤ 16) (hl : letB (s[0].toNat) = true) :
    Calls Tryd.prog 47 #[.string s] w fun e w' => e = .returned (.tuple #[.int .u8 1, .int .i64 (spanN wrdB s.data.toList)]) ∧ w = w' := by
  go_enter Tryd.func47, Tryd.ntmps47
  go_wp2_with (first
    | (go_at_call 65; refine (letter_any _ _).mono ?_; rintro e w' ⟨rfl, rfl⟩)
    | (go_at_call 66; refine (span_wrdB s _ (by omega)).mono ?_; rintro e w' ⟨rfl, rfl⟩))
  go_ret2
  exact ⟨rfl, rfl⟩

set_option maxHeartbeats 1600000 in
theorem first_other (s : ByteArray) (w : World) (h1 : 1 ≤ s.size) (hs : s.size ≤ 16) (hl : letB (s[0].toNat) = false) : Calls Tryd.prog 47 #[.string s] w (SomePair w) := by
  by_cases hd : digB (s[0].toNat) = true
  · go_enter Tryd.func47, Tryd.ntmps47
    go_wp2_with (first
      | (go_at_call 65; refine (letter_any _ _).mono ?_; rintro e w' ⟨rfl, rfl⟩)
      | (go_at_call 68; refine (digit_any _ _).mono ?_; rintro e w' ⟨rfl, rfl⟩)
      | (go_at_call 66; refine (span_digB s _ (by omega)).mono ?_; rintro e w' ⟨rfl, rfl⟩))
    go_ret2
    exact ⟨_, _, rfl, rfl, rfl⟩
  · have hd2 : digB (s[0].toNat) = false := by simpa using hd
    by_cases hb : blkB (s[0].toNat) = true
    · go_enter Tryd.func47, Tryd.ntmps47
      go_wp2_with (first
        | (go_at_call 65; refine (letter_any _ _).mono ?_; rintro e w' ⟨rfl, rfl⟩)
        | (go_at_call 68; refine (digit_any _ _).mono ?_; rintro e w' ⟨rfl, rfl⟩)
        | (go_at_call 69; refine (blank_any _ _).mono ?_; rintro e w' ⟨rfl, rfl⟩)
        | (go_at_call 66; refine (span_blkB s _ (by omega)).mono ?_; rintro e w' ⟨rfl, rfl⟩))
      go_ret2
      exact ⟨_, _, rfl, rfl, rfl⟩
    · have hb2 : blkB (s[0].toNat) = false := by simpa using hb
      go_enter Tryd.func47, Tryd.ntmps47
      go_wp2_with (first
        | (go_at_call 65; refine (letter_any _ _).mono ?_; rintro e w' ⟨rfl, rfl⟩)
        | (go_at_call 68; refine (digit_any _ _).mono ?_; rintro e w' ⟨rfl, rfl⟩)
        | (go_at_call 69; refine (blank_any _ _).mono ?_; rintro e w' ⟨rfl, rfl⟩)
        | (go_at_call 66; refine (span_lnB s _ (by omega)).mono ?_; rintro e w' ⟨rfl, rfl⟩)
        | (go_at_call 71; refine (sign_any s _ h1 hs).mono ?_; rintro e w' ⟨n, rfl, rfl⟩))
      all_goals (go_ret2; exact ⟨_, _, rfl, rfl, rfl⟩)

/-- is it a name? -/
def nameB (s : ByteArray) : Bool := if h : 1 ≤ s.size then decide (s.size ≤ 16) && (letB (s[0].toNat) && (decide (spanN wrdB s.data.toList = s.size) && !(decide (2 ≤ s.size) && (decide (s.size ≤ 7) && kwB s)))) else false

theorem nameB_pos {s : ByteArray} (h : nameB s = true) : 1 ≤ s.size ∧ s.size ≤ 16 := by
  unfold nameB at h
  split at h
  · simp at h; exact ⟨by omega, h.1⟩
  · cases h

theorem empty_of_size {s : ByteArray} (h : ¬ 1 ≤ s.size) : s = ⟨#[]⟩ := by
  cases s with | mk a =>
  have : a.size = 0 := by simpa [ByteArray.size] using h
  simp [Array.size_eq_zero_iff.1 this]

theorem bytes_some {s : ByteArray} (h : 1 ≤ s.size) : s.toList.isEmpty = false := by
  have h1 : s.toList = s.data.toList := ByteArray.toList_eq s
  rw [h1]
  cases hl : s.data.toList with
  | nil =>
    have : s.size = 0 := by
      have := congrArg List.length hl
      simpa using this
    omega
  | cons a l => rfl

set_option maxHeartbeats 1600000 in
theorem name_any (s : ByteArray) (w : World) (hs : s.size ≤ 9223372036854775807) : Calls Tryd.prog 35 #[.string s] w fun e w' => e = .returned (.bool (nameB s)) ∧ Mv (fun _ => False) w w' := by
  by_cases h1 : 1 ≤ s.size
  · by_cases h16 : s.size ≤ 16
    · by_cases hl : letB (s[0].toNat) = true
      · have HF := Lib.hid (first_word s w h1 h16 hl)
        have HK := Lib.hid (keyword_any s w (by omega))
        have HN := Lib.hid (show nameB s = (decide (spanN wrdB s.data.toList = s.size) && !(decide (2 ≤ s.size) && (decide (s.size ≤ 7) && kwB s))) from by unfold nameB; rw [dif_pos h1, hl]; simp [h16])
        generalize spanN wrdB s.data.toList = n at *
        generalize (decide (2 ≤ s.size) && (decide (s.size ≤ 7) && kwB s)) = q at *
        have hne := bytes_some h1
        go_enter Tryd.func35, Tryd.ntmps35
        go_wp2_with fail
        refine HF.out.mono ?_
        rintro e w' ⟨rfl, rfl⟩
        by_cases hn : n = s.size
        · have hnb : ((n : Int) == (s.size : Int)) = true := by simp [hn]
          have HNN := Lib.hid hn
          clear hn
          go_wp2_with fail
          refine HK.out.mono ?_
          rintro e w' ⟨rfl, hm⟩
          have HM := Lib.hid hm
          clear hm
          go_wp2_with fail
          all_goals (go_ret; exact ⟨ret_bool (by rw [HN.out, HNN.out]; simp_all), HM.out⟩)
        · have hnb : ((n : Int) == (s.size : Int)) = false := by simpa using fun e => hn (by omega)
          go_wp2_with fail
          all_goals (go_ret; exact ⟨ret_bool (by rw [HN.out]; simp_all), Mv.refl _ _⟩)
      · have hl2 : letB (s[0].toNat) = false := by simpa using hl
        have HF := Lib.hid (first_other s w h1 h16 hl2)
        have HN := Lib.hid (show nameB s = false from by unfold nameB; rw [dif_pos h1, hl2]; simp)
        have hne := bytes_some h1
        clear hl hl2
        go_enter Tryd.func35, Tryd.ntmps35
        go_wp2_with fail
        refine HF.out.mono ?_
        rintro e w' ⟨k, n, hk, rfl, rfl⟩
        go_wp2_with fail
        go_ret
        exact ⟨ret_bool (by rw [HN.out]), Mv.refl _ _⟩
    · have HN := Lib.hid (show nameB s = false from by unfold nameB; rw [dif_pos h1]; simp [h16])
      have hne := bytes_some h1
      go_enter Tryd.func35, Tryd.ntmps35
      go_wp2_with fail
      go_ret
      exact ⟨ret_bool (by rw [HN.out]), Mv.refl _ _⟩
  · have HN := Lib.hid (show nameB s = false from by unfold nameB; rw [dif_neg h1])
    obtain rfl := empty_of_size h1
    go_enter Tryd.func35, Tryd.ntmps35
    go_wp2_with fail
    go_ret
    exact ⟨ret_bool (by rw [HN.out]), Mv.refl _ _⟩

end Go.Proofs.YtaabkaiifplhgaaDoor
