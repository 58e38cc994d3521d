/- Package lexer: names. -/
import Derived.Test.YtaabkaiifplhgaaDoorLMap
import Derived.Test.YtaabkaiifplhgaaDoorLIsa
namespace Go.Proofs.YtaabkaiifplhgaaDoor
set_option linter.unusedSimpArgs false
set_option linter.unusedVariables false
open Go.RowKit Go.Instr

def letB (c : Int) : Bool := decide (97 ≤ c) && decide (c ≤ 122)
def digB (c : Int) : Bool := decide (48 ≤ c) && decide (c ≤ 57)
def wrdB (c : Int) : Bool := letB c || digB c
def blkB (c : Int) : Bool := ((c == 32 || c == 9) || c == 13) || c == 10
def lnB (c : Int) : Bool := c != 10

theorem letter_any (c : Int) (w : World) : Calls Tryd.prog 65 #[.int .u8 c] w fun e w' => e = .returned (.bool (letB c)) ∧ w = w' := by
  go_enter Tryd.func65, Tryd.ntmps65
  go_wp2
  all_goals (go_ret; exact ⟨ret_bool (by unfold letB; simp_all <;> omega), rfl⟩)
theorem digit_any (c : Int) (w : World) : Calls Tryd.prog 68 #[.int .u8 c] w fun e w' => e = .returned (.bool (digB c)) ∧ w = w' := by
  go_enter Tryd.func68, Tryd.ntmps68
  go_wp2
  all_goals (go_ret; exact ⟨ret_bool (by unfold digB; simp_all <;> omega), rfl⟩)
theorem blank_any (c : Int) (w : World) : Calls Tryd.prog 69 #[.int .u8 c] w fun e w' => e = .returned (.bool (blkB c)) ∧ w = w' := by
  go_enter Tryd.func69, Tryd.ntmps69
  go_wp2
  all_goals (go_ret; exact ⟨ret_bool (by unfold blkB; simp_all), rfl⟩)
theorem line_any (c : Int) (w : World) : Calls Tryd.prog 70 #[.int .u8 c] w fun e w' => e = .returned (.bool (lnB c)) ∧ w = w' := by
  go_enter Tryd.func70, Tryd.ntmps70
  go_wp2
  all_goals (go_ret; exact ⟨ret_bool (by unfold lnB; simp_all), rfl⟩)
theorem word_any (c : Int) (w : World) : Calls Tryd.prog 67 #[.int .u8 c] w fun e w' => e = .returned (.bool (wrdB c)) ∧ w = w' := by
  go_enter Tryd.func67, Tryd.ntmps67
  go_wp2_with (first
    | (go_at_call 65; refine (letter_any _ _).mono ?_; rintro e w' ⟨rfl, rfl⟩)
    | (go_at_call 68; refine (digit_any _ _).mono ?_; rintro e w' ⟨rfl, rfl⟩))
  all_goals (go_ret; exact ⟨ret_bool (by unfold wrdB; simp_all), rfl⟩)

/-- how many bytes at the start belong to a class -/
def spanN (p : Int → Bool) (l : List UInt8) : Nat := (l.takeWhile fun b => p b.toNat).length

theorem spanN_le (p : Int → Bool) (l : List UInt8) : spanN p l ≤ l.length := (List.takeWhile_sublist _).length_le
theorem spanN_at (p : Int → Bool) (l : List UInt8) (k : Nat) (hk : k < l.length) (h : ∀ j (hj : j < k), p (l[j].toNat) = true) (hn : p (l[k].toNat) = false) : spanN p l = k := by
  induction l generalizing k with
  | nil => simp at hk
  | cons b l ih =>
    cases k with
    | zero => simp at hn; simp [spanN, hn]
    | succ k =>
      have h0 := h 0 (by omega)
      simp at h0
      have := ih k (by simpa using hk) (fun j hj => by have := h (j + 1) (by omega); simpa using this) (by simpa using hn)
      simp [spanN, h0] at this ⊢
      exact this
theorem spanN_all (p : Int → Bool) (l : List UInt8) (h : ∀ j (hj : j < l.length), p (l[j].toNat) = true) : spanN p l = l.length := by
  induction l with
  | nil => rfl
  | cons b l ih =>
    have h0 := h 0 (by simp)
    simp at h0
    have := ih (fun j hj => by have := h (j + 1) (by simpa using hj); simpa using this)
    simp [spanN, h0] at this ⊢
    exact this

def AllTo (p : Int → Bool) (s : ByteArray) (k : Nat) : Prop := ∀ j (hj : j < s.size), j < k → p (s[j].toNat) = true

set_option maxHeartbeats 800000 in
theorem span_wrdB (s : ByteArray) (w : World) (hs : s.size ≤ 1000000000) : Calls Tryd.prog 66 #[.string s, .func (.func 67) #[] #[]] w fun e w' => e = .returned (.int .i64 (spanN wrdB s.data.toList)) ∧ w = w' := by
  go_enter Tryd.func66, Tryd.ntmps66
  go_wp2_with fail
  go_loop [8] (fun t => ∃ k : Nat, k ≤ s.size ∧ t = .int .i64 k ∧ Hid (AllTo wrdB s k)) (fun t => s.size - (intOf t).toNat)
  case atStart => exact ⟨0, Nat.zero_le _, rfl, Lib.hid (fun j _ h => by omega)⟩
  case round =>
    obtain ⟨k, hk, rfl, hu⟩ := hrel
    by_cases hlt : k < s.size
    · by_cases hc : wrdB (s[k].toNat) = true
      · go_wp2_with fail
        refine (word_any _ _).mono ?_
        rintro e w' ⟨rfl, rfl⟩
        go_wp2_with fail
        go_round
        case rel => exact ⟨k + 1, by omega, by go_num, Lib.hid (fun j hj h => by
          rcases Nat.lt_or_ge j k with h1 | h1
          · exact hu.out j hj h1
          · obtain rfl : j = k := by omega
            exact hc)⟩
        case measure => simp [intOf]; omega
      · have hc2 : wrdB (s[k].toNat) = false := by simpa using hc
        have HF := Lib.hid (spanN_at wrdB s.data.toList k (by simpa using hlt) (fun j hj => hu.out j (by omega) hj) hc2)
        go_wp2_with fail
        refine (word_any _ _).mono ?_
        rintro e w' ⟨rfl, rfl⟩
        go_wp2_with fail
        go_ret
        exact ⟨ret_int (by rw [HF.out]), rfl⟩
    · have hge : s.size ≤ k := by omega
      have HF := Lib.hid (spanN_all wrdB s.data.toList (fun j hj => hu.out j (by simpa using hj) (Nat.lt_of_lt_of_le (by simpa using hj) hge)))
      go_wp2_with fail
      go_ret
      exact ⟨ret_int (by rw [HF.out]; simp), rfl⟩

set_option maxHeartbeats 800000 in
theorem span_digB (s : ByteArray) (w : World) (hs : s.size ≤ 1000000000) : Calls Tryd.prog 66 #[.string s, .func (.func 68) #[] #[]] w fun e w' => e = .returned (.int .i64 (spanN digB s.data.toList)) ∧ w = w' := by
  go_enter Tryd.func66, Tryd.ntmps66
  go_wp2_with fail
  go_loop [8] (fun t => ∃ k : Nat, k ≤ s.size ∧ t = .int .i64 k ∧ Hid (AllTo digB s k)) (fun t => s.size - (intOf t).toNat)
  case atStart => exact ⟨0, Nat.zero_le _, rfl, Lib.hid (fun j _ h => by omega)⟩
  case round =>
    obtain ⟨k, hk, rfl, hu⟩ := hrel
    by_cases hlt : k < s.size
    · by_cases hc : digB (s[k].toNat) = true
      · go_wp2_with fail
        refine (digit_any _ _).mono ?_
        rintro e w' ⟨rfl, rfl⟩
        go_wp2_with fail
        go_round
        case rel => exact ⟨k + 1, by omega, by go_num, Lib.hid (fun j hj h => by
          rcases Nat.lt_or_ge j k with h1 | h1
          · exact hu.out j hj h1
          · obtain rfl : j = k := by omega
            exact hc)⟩
        case measure => simp [intOf]; omega
      · have hc2 : digB (s[k].toNat) = false := by simpa using hc
        have HF := Lib.hid (spanN_at digB s.data.toList k (by simpa using hlt) (fun j hj => hu.out j (by omega) hj) hc2)
        go_wp2_with fail
        refine (digit_any _ _).mono ?_
        rintro e w' ⟨rfl, rfl⟩
        go_wp2_with fail
        go_ret
        exact ⟨ret_int (by rw [HF.out]), rfl⟩
    · have hge : s.size ≤ k := by omega
      have HF := Lib.hid (spanN_all digB s.data.toList (fun j hj => hu.out j (by simpa using hj) (Nat.lt_of_lt_of_le (by simpa using hj) hge)))
      go_wp2_with fail
      go_ret
      exact ⟨ret_int (by rw [HF.out]; simp), rfl⟩

set_option maxHeartbeats 800000 in
theorem span_blkB (s : ByteArray) (w : World) (hs : s.size ≤ 1000000000) : Calls Tryd.prog 66 #[.string s, .func (.func 69) #[] #[]] w fun e w' => e = .returned (.int .i64 (spanN blkB s.data.toList)) ∧ w = w' := by
  go_enter Tryd.func66, Tryd.ntmps66
  go_wp2_with fail
  go_loop [8] (fun t => ∃ k : Nat, k ≤ s.size ∧ t = .int .i64 k ∧ Hid (AllTo blkB s k)) (fun t => s.size - (intOf t).toNat)
  case atStart => exact ⟨0, Nat.zero_le _, rfl, Lib.hid (fun j _ h => by omega)⟩
  case round =>
    obtain ⟨k, hk, rfl, hu⟩ := hrel
    by_cases hlt : k < s.size
    · by_cases hc : blkB (s[k].toNat) = true
      · go_wp2_with fail
        refine (blank_any _ _).mono ?_
        rintro e w' ⟨rfl, rfl⟩
        go_wp2_with fail
        go_round
        case rel => exact ⟨k + 1, by omega, by go_num, Lib.hid (fun j hj h => by
          rcases Nat.lt_or_ge j k with h1 | h1
          · exact hu.out j hj h1
          · obtain rfl : j = k := by omega
            exact hc)⟩
        case measure => simp [intOf]; omega
      · have hc2 : blkB (s[k].toNat) = false := by simpa using hc
        have HF := Lib.hid (spanN_at blkB s.data.toList k (by simpa using hlt) (fun j hj => hu.out j (by omega) hj) hc2)
        go_wp2_with fail
        refine (blank_any _ _).mono ?_
        rintro e w' ⟨rfl, rfl⟩
        go_wp2_with fail
        go_ret
        exact ⟨ret_int (by rw [HF.out]), rfl⟩
    · have hge : s.size ≤ k := by omega
      have HF := Lib.hid (spanN_all blkB s.data.toList (fun j hj => hu.out j (by simpa using hj) (Nat.lt_of_lt_of_le (by simpa using hj) hge)))
      go_wp2_with fail
      go_ret
      exact ⟨ret_int (by rw [HF.out]; simp), rfl⟩

set_option maxHeartbeats 800000 in
theorem span_lnB (s : ByteArray) (w : World) (hs : s.size ≤ 1000000000) : Calls Tryd.prog 66 #[.string s, .func (.func 70) #[] #[]] w fun e w' => e = .returned (.int .i64 (spanN lnB s.data.toList)) ∧ w = w' := by
  go_enter Tryd.func66, Tryd.ntmps66
  go_wp2_with fail
  go_loop [8] (fun t => ∃ k : Nat, k ≤ s.size ∧ t = .int .i64 k ∧ Hid (AllTo lnB s k)) (fun t => s.size - (intOf t).toNat)
  case atStart => exact ⟨0, Nat.zero_le _, rfl, Lib.hid (fun j _ h => by omega)⟩
  case round =>
    obtain ⟨k, hk, rfl, hu⟩ := hrel
    by_cases hlt : k < s.size
    · by_cases hc : lnB (s[k].toNat) = true
      · go_wp2_with fail
        refine (line_any _ _).mono ?_
        rintro e w' ⟨rfl, rfl⟩
        go_wp2_with fail
        go_round
        case rel => exact ⟨k + 1, by omega, by go_num, Lib.hid (fun j hj h => by
          rcases Nat.lt_or_ge j k with h1 | h1
          · exact hu.out j hj h1
          · obtain rfl : j = k := by omega
            exact hc)⟩
        case measure => simp [intOf]; omega
      · have hc2 : lnB (s[k].toNat) = false := by simpa using hc
        have HF := Lib.hid (spanN_at lnB s.data.toList k (by simpa using hlt) (fun j hj => hu.out j (by omega) hj) hc2)
        go_wp2_with fail
        refine (line_any _ _).mono ?_
        rintro e w' ⟨rfl, rfl⟩
        go_wp2_with fail
        go_ret
        exact ⟨ret_int (by rw [HF.out]), rfl⟩
    · have hge : s.size ≤ k := by omega
      have HF := Lib.hid (spanN_all lnB s.data.toList (fun j hj => hu.out j (by simpa using hj) (Nat.lt_of_lt_of_le (by simpa using hj) hge)))
      go_wp2_with fail
      go_ret
      exact ⟨ret_int (by rw [HF.out]; simp), rfl⟩

end Go.Proofs.YtaabkaiifplhgaaDoor
