/- JournalForgets: its walk. -/
import Derived.Test.YtlcbfjcfkknmgaaWRange
import Derived.Deep.OwnRows
namespace Go.Proofs.Ytlcbfjcfkknmgaa
open Go.RowKit

/-- the cells of a row of ints -/
def rowA (xs : List Int) : Array Value := (xs.map (Value.int .i64)).toArray

theorem rowA_made (k : Nat) : madeCells #[.int .i64 0] k = rowA (List.replicate k 0) := by
  apply Array.toList_inj.1
  rw [toList_madeCells_one]
  simp [rowA]
theorem rowA_set (xs : List Int) (i : Nat) (x : Int) : (rowA xs).setIfInBounds i (.int .i64 x) = rowA (xs.set i x) := by
  apply Array.toList_inj.1
  simp [rowA, List.map_set]
theorem rowA_cell {w : World} {L : Nat} {xs : List Int} (h : w.heap[L]? = some (.cells (rowA xs) 3 (0, 0))) {i : Nat} (hi : i < xs.length) : w.cell? ⟨L, i, none⟩ = some (.int .i64 (xs.getD i 0)) := by
  simp [World.cell?, h, rowA, List.getElem?_eq_getElem hi, List.getD]
theorem rowA_free {w : World} {L i : Nat} {xs : List Int} (h : w.heap[L]? = some (.cells (rowA xs) 3 (0, 0))) : w.frozen? ⟨L, i, none⟩ = false := by
  simp [World.frozen?, h]

theorem Try.info3 : (Try.prog.info? 3).map (fun i => (i.zero, i.size, i.bytes)) = some (some (.int .i64 0), 1, 8) := by kernel_rfl

theorem make30 (k : Nat) (hk : k ≤ 1000) (w : World) : (Instr.makeSlice 30 (.int .i64 k) (.int .i64 k)).run Try.prog w = .ok (.slice (some ⟨w.heap.size, 0, none⟩) k k) (w.alloc (.cells (rowA (List.replicate k 0)) 3)) := by
  obtain ⟨i0, hi, hz0, hz1, hz2⟩ := info_parts Try.info3
  have h := Go.run_make_row (P := Try.prog) 30 3 i0 (.int .i64 0) Try.underlying30 hi hz0 hz1 rfl .i64 .i64 k (by rw [hz2]; omega) (by omega) w
  rw [rowA_made] at h
  exact h

/-- the user's memory in JournalForgets: the variable l, its row, and the variable i of each function -/
structure Fg (LV L k : Nat) (xs : List Int) (fs : List Value) (w : World) : Prop where
  l : w.heap[LV]? = some (.cells #[.slice (some ⟨L, 0, none⟩) k k] 30 (0, 0))
  row : w.heap[L]? = some (.cells (rowA xs) 3 (0, 0))
  fn : ∀ (i : Nat) (f : Value), fs[i]? = some f → ∃ b, f = .func (.func 35) #[] #[.pointer (some ⟨LV, 0, none⟩), .pointer (some ⟨b, 0, none⟩)] ∧ w.heap[b]? = some (.cells #[.int .i64 i] 3 (0, 0)) ∧ b ≠ LV ∧ b ≠ L

theorem Fg.set {LV L k : Nat} {xs ys : List Int} {fs : List Value} {w1 w2 : World} (hne : LV ≠ L) (h : Fg LV L k xs fs w1) (hk : ∀ b, b ≠ L → w2.heap[b]? = w1.heap[b]?) (hn : w2.heap[L]? = some (.cells (rowA ys) 3 (0, 0))) : Fg LV L k ys fs w2 := by
  refine ⟨by rw [hk LV hne]; exact h.l, hn, fun j f hf => ?_⟩
  obtain ⟨b, h1, h2, h3, h4⟩ := h.fn j f hf
  exact ⟨b, h1, by rw [hk b h4]; exact h2, h3, h4⟩

theorem St.fg {J LV L k i : Nat} {xs : List Int} {y : Int} {gs fs : List Value} {w0 w : World} {O0 : Nat → Prop} {run : Bool} (hne : LV ≠ L) (h : St J (Fg LV L k xs gs) w0 O0 fs run w) :
    St J (Fg LV L k (xs.set i y) gs) w0 O0 fs run (w.setCell ⟨L, i, none⟩ (.int .i64 y)) :=
  h.set L i _ (fun _ hc => hc.row) (fun _ _ hc hk hn => Fg.set hne hc hk (by rw [rowA_set] at hn; exact hn))

theorem ent35 (c : Array Value) (w : World) : (callFunc 35 c).run Try.prog w = .ok (.enter 35 c) w := by simp [go_sem]

theorem zero_35 (J LV L k b i : Nat) (xs : List Int) (w0 w : World) (O0 : Nat → Prop) (gs fs : List Value) (run : Bool) (hne : LV ≠ L) (h : St J (Fg LV L k xs gs) w0 O0 fs run w) (hb : w.heap[b]? = some (.cells #[.int .i64 i] 3 (0, 0)))
    (hi : i < k) (hx : xs.length = k) (_hk : k ≤ 1000) :
    Calls Try.prog 35 #[.pointer (some ⟨LV, 0, none⟩), .pointer (some ⟨b, 0, none⟩)] w fun e w' => e = .returned (.tuple #[]) ∧ St J (Fg LV L k (xs.set i 0) gs) w0 O0 fs run w' := by
  have l0 := cell_of_one h.user.l
  have b0 := cell_of_one hb
  have c0 := rowA_cell h.user.row (i := i) (by omega)
  have f0 := rowA_free (i := i) h.user.row
  have HS := Lib.hid (h.fg (i := i) (y := 0) hne)
  clear h hb
  go_enter Try.func35, Try.ntmps35
  go_wp2
  go_end0
  exact ⟨rfl, HS.out⟩

/-- the numbers when the functions from n to f have been undone -/
def ones (k n f : Nat) : List Int := (List.range k).map fun i => if n ≤ i ∧ i < f then 0 else 1

def FgV (LV L k f : Nat) (fs : List Value) (w : World) : Prop := Fg LV L k (ones k fs.length f) fs w ∧ fs.length ≤ f ∧ f ≤ k ∧ k ≤ 1000

theorem ones_set (k n f : Nat) (h : n < f) (_hf : f ≤ k) : (ones k (n + 1) f).set n 0 = ones k n f := by
  apply List.ext_getElem
  · simp [ones]
  · intro i h1 h2
    simp only [ones, List.length_set, List.length_map, List.length_range] at h1
    simp only [ones, List.getElem_set, List.getElem_map, List.getElem_range]
    by_cases e : n = i
    · subst e; simp [h]
    · simp only [e, if_false]
      congr 1
      apply propext
      omega

theorem undoes_35 (J LV L k f : Nat) (hne : LV ≠ L) : Undoes J (FgV LV L k f) := by
  intro fs g w O h
  obtain ⟨hf, hlen, hfk, hk⟩ := h.user
  have hl : (fs ++ [g]).length = fs.length + 1 := by simp
  rw [hl] at hlen
  obtain ⟨b, rfl, hb, hb1, hb2⟩ := hf.fn fs.length g (by simp)
  refine ⟨35, _, rfl, ent35 _, ?_⟩
  refine (zero_35 J LV L k b fs.length (ones k (fs.length + 1) f) w w O _ fs true hne (h.imp fun w hd => by have := hd.1; rw [hl] at this; exact this) hb (by omega) (by simp [ones]) hk).mono ?_
  rintro e w' ⟨rfl, h'⟩
  refine ⟨rfl, h'.imp fun w hc => ⟨?_, by omega, hfk, hk⟩⟩
  rw [ones_set k fs.length f (by omega) hfk] at hc
  exact ⟨hc.l, hc.row, fun i x hx => hc.fn i x (by rw [List.getElem?_append_left (List.getElem?_eq_some_iff.1 hx).1]; exact hx)⟩

/-- the numbers when m functions have been recorded -/
def ramp (k m : Nat) : List Int := (List.range k).map fun i => if i < m then 1 else 0

theorem ramp_zero (k : Nat) : ramp k 0 = List.replicate k 0 := by
  apply List.ext_getElem <;> simp [ramp]
theorem ramp_set (k m : Nat) : (ramp k m).set m 1 = ramp k (m + 1) := by
  apply List.ext_getElem
  · simp [ramp]
  · intro i h1 h2
    simp only [ramp, List.length_map, List.length_range] at h2
    simp only [ramp, List.getElem_set, List.getElem_map, List.getElem_range]
    by_cases e : m = i
    · subst e; simp
    · simp only [e, if_false]
      congr 1
      apply propext
      omega
theorem ramp_full (k f : Nat) : ramp k k = ones k f f := by
  apply List.ext_getElem
  · simp [ramp, ones]
  · intro i h1 h2
    simp only [ramp, List.length_map, List.length_range] at h1
    simp only [ramp, ones, List.getElem_map, List.getElem_range]
    rw [if_pos h1, if_neg (by omega)]
theorem ramp_len (k m : Nat) : (ramp k m).length = k := by simp [ramp]
theorem ones_getD (k n f i : Nat) (h : i < k) : (ones k n f).getD i 0 = if n ≤ i ∧ i < f then 0 else 1 := by
  simp [ones, List.getD, h]

/-- one more function -/
theorem Fg.push {LV L k m b : Nat} {xs : List Int} {fs : List Value} {w : World} (h : Fg LV L k xs fs w) (hm : fs.length = m) (hb : w.heap[b]? = some (.cells #[.int .i64 m] 3 (0, 0))) (h1 : b ≠ LV) (h2 : b ≠ L) :
    Fg LV L k xs (fs ++ [.func (.func 35) #[] #[.pointer (some ⟨LV, 0, none⟩), .pointer (some ⟨b, 0, none⟩)]]) w := by
  refine ⟨h.l, h.row, fun i f hf => ?_⟩
  by_cases hi : i < fs.length
  · rw [List.getElem?_append_left hi] at hf
    exact h.fn i f hf
  · have hlt := (List.getElem?_eq_some_iff.1 hf).1
    simp at hlt
    obtain rfl : i = fs.length := by omega
    simp at hf
    subst hf
    exact ⟨b, rfl, by rw [hm]; exact hb, h1, h2⟩

theorem Fg.take {LV L k n : Nat} {xs : List Int} {fs : List Value} {w : World} (h : Fg LV L k xs fs w) : Fg LV L k xs (fs.take n) w :=
  ⟨h.l, h.row, fun i f hf => h.fn i f (by rw [List.getElem?_take] at hf; split at hf; exact hf; cases hf)⟩

set_option maxRecDepth 100000 in
set_option maxHeartbeats 1600000 in
theorem forgets_walk (n1 n2 : Nat) (hn1 : n1 ≤ 255) (hn2 : n2 ≤ 255) (w : World) :
    Calls Try.prog 8 #[.int .u8 n1, .int .u8 n2] w fun e w' => e = .returned (.bool true) ∧ Below w.heap.size w w' := by
  have HA := Lib.hid (awake_ok w)
  obtain ⟨k, hk, hk40⟩ : ∃ k : Nat, (n1 : Int) % 41 = k ∧ k ≤ 40 := ⟨n1 % 41, by omega, by omega⟩
  obtain ⟨q, hq, hq44⟩ : ∃ k : Nat, (n2 : Int) % 45 = k ∧ k ≤ 44 := ⟨n2 % 45, by omega, by omega⟩
  have hmk := make30 k (by omega)
  go_enter Try.func8, Try.ntmps8
  go_wp2_with fail
  refine HA.out.mono ?_
  rintro e w1 ⟨rfl, hm1⟩
  have HM1 := Lib.hid hm1
  have h0 := ((St.start w1).give (.cells (rowA (List.replicate k 0)) 3)).give (.cells #[.slice (some ⟨w1.heap.size + 1, 0, none⟩) k k] 30)
  simp only [World.size_alloc, true_and] at h0
  have H0 := Lib.hid h0
  clear hm1 h0
  go_wp2_with fail
  rw [hk]
  clear hk hmk
  go_loopw [23] (fun i wr => ∃ m fs, i = .int .i64 (m : Nat) ∧ m ≤ k ∧ fs.length = m ∧ St w1.heap.size (Fg (w1.heap.size + 1 + 1) (w1.heap.size + 1) k (ramp k m) fs) w1 (fun _ => False) fs false wr) (fun i _ => k - (intOf i).toNat)
  case atStart => exact ⟨0, [], rfl, Nat.zero_le _, rfl, H0.out.imp fun w hc => ⟨hc.2, by rw [ramp_zero]; exact hc.1, by simp⟩⟩
  obtain ⟨m, fs, rfl, hm, hfl, hst⟩ := hrel
  have HFL := Lib.hid hfl
  clear hfl
  have l0 := cell_of_one hst.user.l
  have hlL := lt_of_block hst.user.row
  have hlLV := lt_of_block hst.user.l
  by_cases hlt : m < k
  · have c0 := rowA_cell hst.user.row (i := m) (by rw [ramp_len]; exact hlt)
    have f0 := rowA_free (i := m) hst.user.row
    have h2 := (hst.fg (i := m) (y := 1) (by omega)).give (.cells #[.int .i64 m] 3)
    rw [World.size_setCell] at h2
    have HR := Lib.hid (record_st _ _ _ _ _ (.func 35) #[] #[.pointer (some ⟨w1.heap.size + 1 + 1, 0, none⟩), .pointer (some ⟨wr.heap.size, 0, none⟩)] _ h2 (by rw [HFL.out]; omega))
    clear hst h2
    go_wp2_with fail
    refine HR.out.mono ?_
    rintro e w2 ⟨rfl, hst2⟩
    have HST2 := Lib.hid hst2
    clear hst2
    go_wp2_with fail
    go_roundw
    case rel => exact ⟨m + 1, _, by go_num, by omega, by simp [HFL.out], HST2.out.imp fun w hc => by rw [← ramp_set]; exact hc.1.push HFL.out hc.2 (by omega) (by omega)⟩
    case measure => simp [intOf]; omega
  · obtain rfl : m = k := by omega
    have HST := Lib.hid hst
    clear hst hlt
    by_cases hb : (m : Int) < q
    · have hb2 : boundErr fs.length false q = 2 := by rw [HFL.out]; simp [boundErr, hb]
      obtain ⟨s, Uo, hqq, _⟩ := HST.out
      have hr := forget_err _ _ _ _ q _ hqq (by rw [hb2]; rfl)
      rw [hb2] at hr
      have HR := Lib.hid hr
      have hl2 := len_st _ _ _ _ _ _ _ HST.out
      rw [HFL.out] at hl2
      have HL2 := Lib.hid hl2
      clear hr hb2 hqq hl2
      have hb3 : m < q := by omega
      go_wp2_with fail
      refine HR.out.mono ?_
      rintro e w' ⟨rfl, rfl⟩
      go_wp2_with fail
      refine HL2.out.mono ?_
      rintro e w' ⟨rfl, rfl⟩
      go_wp2_with fail
      go_ret
      exact ⟨rfl, (HM1.out.trans HST.out.mv (fun _ e => e.elim)).below⟩
    · have htm : q ≤ m := by omega
      have HR := Lib.hid (forget_st _ _ _ _ _ q _ HST.out (by rw [HFL.out]; exact htm) (by rw [HFL.out]; omega))
      clear hb
      go_wp2_with fail
      refine HR.out.mono ?_
      rintro e w2 ⟨rfl, hst2⟩
      have hlen : (fs.take q).length = q := by rw [List.length_take, HFL.out]; omega
      have hl2 := len_st _ _ _ _ _ _ _ hst2
      rw [hlen] at hl2
      have HL2 := Lib.hid hl2
      have hst3 : St w1.heap.size (FgV (w1.heap.size + 1 + 1) (w1.heap.size + 1) m q (fs.take q)) w1 (fun _ => False) (fs.take q) false w2 :=
        hst2.imp fun w hc => ⟨by rw [hlen, ← ramp_full]; exact hc.take, by omega, htm, by omega⟩
      have HR2 := Lib.hid (rewind_st _ _ _ _ _ 0 _ (undoes_35 _ _ _ _ _ (by omega)) hst3 (by omega) (by omega))
      clear hst2 hst3 hlen hl2
      go_wp2_with fail
      refine HL2.out.mono ?_
      rintro e w' ⟨rfl, rfl⟩
      go_wp2_with fail
      refine HR2.out.mono ?_
      rintro e w3 ⟨rfl, hst4⟩
      have l1 := cell_of_one hst4.user.1.l
      have HST4 := Lib.hid hst4
      clear hst4
      go_wp2_with fail
      go_loop [65] (fun i => ∃ j : Nat, i = .int .i64 j ∧ j ≤ m) (fun i => m - (intOf i).toNat)
      case atStart => exact ⟨0, rfl, Nat.zero_le _⟩
      obtain ⟨j, rfl, hj⟩ := hrel
      by_cases hlt : j < m
      · have c0 := rowA_cell HST4.out.user.1.row (i := j) (by simp [ones]; exact hlt)
        rw [ones_getD _ _ _ _ hlt] at c0
        by_cases hjq : j < q
        · rw [if_pos (by simp; exact hjq)] at c0
          go_wp2_with fail
          go_round
          case rel => exact ⟨j + 1, by go_num, by omega⟩
          case measure => simp [intOf]; omega
        · rw [if_neg (by simp; omega)] at c0
          go_wp2_with fail
          go_round
          case rel => exact ⟨j + 1, by go_num, by omega⟩
          case measure => simp [intOf]; omega
      · go_wp2_with fail
        go_ret
        exact ⟨rfl, (HM1.out.trans HST4.out.mv (fun _ e => e.elim)).below⟩

theorem walk_JournalForgets (a0 a1 : Int) (w0 : (Lit.int .u8 a0).wf = true) (w1 : (Lit.int .u8 a1).wf = true) (w : World) :
    Calls Try.prog 8 #[.int .u8 a0, .int .u8 a1] w fun e w' => e = .returned (.bool true) ∧ Below w.heap.size w w' := by
  obtain ⟨n, rfl, hn⟩ := u8_nat w0
  obtain ⟨m, rfl, hm⟩ := u8_nat w1
  exact forgets_walk n m hn hm w

end Go.Proofs.Ytlcbfjcfkknmgaa
