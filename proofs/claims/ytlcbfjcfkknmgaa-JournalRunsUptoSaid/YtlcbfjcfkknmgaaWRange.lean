/- JournalRange: its walk. -/
import Derived.Test.YtlcbfjcfkknmgaaWNil
namespace Go.Proofs.Ytlcbfjcfkknmgaa
open Go.RowKit

/-- a variable of type int -/
def One (NV : Nat) (x : Int) (w : World) : Prop := w.heap[NV]? = some (.cells #[.int .i64 x] 3 (0, 0))

theorem St.one {J NV : Nat} {x : Int} {w0 w : World} {O0 : Nat → Prop} {fs : List Value} {run : Bool} (h : St J (One NV x) w0 O0 fs run w) (y : Int) :
    St J (One NV y) w0 O0 fs run (w.setCell ⟨NV, 0, none⟩ (.int .i64 y)) :=
  h.set NV 0 _ (fun _ hc => hc) (fun _ _ _ _ hn => by simpa [One] using hn)

theorem St.renew {J : Nat} {U : World → Prop} {w0 w : World} {O0 : Nat → Prop} {fs : List Value} {run : Bool} (h : St J U w0 O0 fs run w) :
    St w.heap.size U w0 O0 [] false (w.alloc (.cells #[.slice none 0 0, .bool false] 29)) := by
  obtain ⟨s, Uo, hq, hf, hd, hm, hs⟩ := h
  refine ⟨.slice none 0 0, Uo, ⟨heap_alloc_new w _, World.ownsRow_nil _ _ _ _⟩, hf.keep ((Mv.refl (fun _ => False) w).alloc _) (fun _ _ h => h), ?_, hm.alloc _, ?_⟩
  · rintro b (rfl | hb) hu
    · have := hf.1 _ hu; omega
    · simp [Value.ownBlock] at hb
  · rintro b ((rfl | hb) | hb)
    · exact .inr hm.size
    · simp [Value.ownBlock] at hb
    · exact hs b (.inr hb)

/-- a recorded function of JournalRange -/
def f39 (NV : Nat) : Value := .func (.func 39) #[] #[.pointer (some ⟨NV, 0, none⟩)]
def f40 (NV : Nat) : Value := .func (.func 40) #[] #[.pointer (some ⟨NV, 0, none⟩)]
theorem ent39 (c : Array Value) (w : World) : (callFunc 39 c).run Try.prog w = .ok (.enter 39 c) w := by simp [go_sem]

theorem inc_39 (J NV : Nat) (x : Int) (w0 w : World) (O0 : Nat → Prop) (fs : List Value) (run : Bool) (h : St J (One NV x) w0 O0 fs run w) (hx : -1000000 ≤ x ∧ x ≤ 1000000) :
    Calls Try.prog 39 #[.pointer (some ⟨NV, 0, none⟩)] w fun e w' => e = .returned (.tuple #[]) ∧ St J (One NV (x + 1)) w0 O0 fs run w' := by
  have n0 := cell_of_one h.user
  have f0 := free_of_one h.user
  have HS := Lib.hid (h.one (x + 1))
  clear h
  obtain ⟨hx1, hx2⟩ := hx
  go_enter Try.func39, Try.ntmps39
  go_wp2
  go_end0
  exact ⟨rfl, HS.out⟩

def Und (NV k : Nat) (fs : List Value) (w : World) : Prop := (∀ g ∈ fs, g = f39 NV) ∧ fs.length ≤ 1000 ∧ k ≤ 1000 ∧ One NV ((k : Int) - fs.length) w

theorem undoes_39 (J NV k : Nat) : Undoes J (Und NV k) := by
  intro fs f w O h
  obtain ⟨hall, hlen, hk, _⟩ := h.user
  refine ⟨39, _, hall f (by simp), ent39 _, ?_⟩
  have hl : (fs ++ [f]).length = fs.length + 1 := by simp
  rw [hl] at hlen
  refine (inc_39 J NV ((k : Int) - (fs.length + 1)) w w O fs true (h.imp fun w hd => by have := hd.2.2.2; rw [hl] at this; exact (by simpa using this)) (by omega)).mono ?_
  rintro e w' ⟨rfl, h'⟩
  refine ⟨rfl, h'.imp fun w hc => ⟨fun g hg => hall g (by simp [hg]), by omega, hk, ?_⟩⟩
  rw [show (k : Int) - fs.length = (k : Int) - (fs.length + 1) + 1 by omega]
  exact hc

theorem all_rep {n : Nat} {f : Value} : ∀ g ∈ List.replicate n f, g = f := fun _ h => (List.mem_replicate.1 h).2

set_option maxRecDepth 100000 in
set_option maxHeartbeats 800000 in
theorem range_rewind (n : Nat) (hn : n ≤ 255) (to : Int) (w : World) :
    Calls Try.prog 10 #[.int .u8 n, .int .i64 to, .bool false] w fun e w' => e = .returned (.bool true) ∧ Below w.heap.size w w' := by
  have HA := Lib.hid (awake_ok w)
  have hk : (n : Int) % 41 = ((n % 41 : Nat) : Int) := by omega
  have HK := Lib.hid hk
  have hk41 : n % 41 ≤ 40 := by omega
  clear hk
  go_enter Try.func10, Try.ntmps10
  go_wp2_with fail
  refine HA.out.mono ?_
  rintro e w1 ⟨rfl, hm1⟩
  have HM1 := Lib.hid hm1
  have h0 := (St.start w1).give (.cells #[.int .i64 0] 3)
  simp only [World.size_alloc, true_and] at h0
  have H0 := Lib.hid h0
  clear hm1 h0
  go_wp2_with fail
  rw [HK.out]
  clear HK
  generalize n % 41 = k at *
  go_loopw [20] (fun i wr => ∃ m : Nat, i = .int .i64 m ∧ m ≤ k ∧ St w1.heap.size (One (w1.heap.size + 1) 0) w1 (fun _ => False) (List.replicate m (f39 (w1.heap.size + 1))) false wr) (fun i _ => k - (intOf i).toNat)
  case atStart => exact ⟨0, rfl, Nat.zero_le _, H0.out⟩
  obtain ⟨m, rfl, hm, hst⟩ := hrel
  by_cases hlt : m < k
  · have HR := Lib.hid (record_st _ _ _ _ _ (.func 39) #[] #[.pointer (some ⟨w1.heap.size + 1, 0, none⟩)] _ hst (by simp; omega))
    clear hst
    go_wp2_with fail
    refine HR.out.mono ?_
    rintro e w2 ⟨rfl, hst2⟩
    have HST2 := Lib.hid hst2
    clear hst2
    go_wp2_with fail
    go_roundw
    case rel => exact ⟨m + 1, by go_num, by omega, by rw [List.replicate_succ']; exact HST2.out⟩
    case measure => simp [intOf]; omega
  · obtain rfl : m = k := by omega
    have HST := Lib.hid hst
    have hl : (List.replicate m (f39 (w1.heap.size + 1))).length = m := by simp
    have HL := Lib.hid hl
    clear hst hl hlt
    by_cases hb : to < 0 ∨ (m : Int) < to
    · have hb2 : boundErr (List.replicate m (f39 (w1.heap.size + 1))).length false to = 2 := by rw [HL.out]; simp [boundErr, hb]
      have hr := rewind_err _ _ _ _ _ _ to _ HST.out (by rw [hb2]; rfl)
      rw [hb2] at hr
      have HR := Lib.hid hr
      clear hr hb2
      by_cases h1 : to < 0
      all_goals
        go_wp2_with fail
        refine HR.out.mono ?_
        rintro e w' ⟨rfl, rfl⟩
        have hst2 := HST.out.alloc (.cells #[.pointer (some ⟨w1.heap.size, 0, none⟩)] 26)
        have hl2 := len_st _ _ _ _ _ _ _ hst2
        rw [HL.out] at hl2
        have HL2 := Lib.hid hl2
        have n0 := cell_of_one hst2.user
        have HST2 := Lib.hid hst2
        clear hl2 hst2
        go_wp2_with fail
        refine HL2.out.mono ?_
        rintro e w' ⟨rfl, rfl⟩
        go_wp2_with fail
        go_ret
        exact ⟨rfl, (HM1.out.trans HST2.out.mv (fun _ e => e.elim)).below⟩
    · have hto0 : 0 ≤ to := by omega
      obtain ⟨t, rfl⟩ := Int.eq_ofNat_of_zero_le hto0
      have htm : t ≤ m := by omega
      have hr := rewind_st _ (Und (w1.heap.size + 1) m) _ _ _ t _ (undoes_39 _ _ _) (HST.out.imp fun w hc => ⟨all_rep, by simp; omega, by omega, by simpa using hc⟩) (by simpa using htm) (by simp; omega)
      have HR := Lib.hid hr
      clear hr hb
      go_wp2_with fail
      refine HR.out.mono ?_
      rintro e w2 ⟨rfl, hst2⟩
      have hmin : min t m = t := by omega
      have hl2 := len_st _ _ _ _ _ _ _ hst2
      have n0 := cell_of_one hst2.user.2.2.2
      simp only [List.take_replicate, List.length_replicate, hmin] at hl2 n0
      have HL2 := Lib.hid hl2
      have HST2 := Lib.hid hst2
      clear hl2 hst2 hmin
      go_wp2_with fail
      refine HL2.out.mono ?_
      rintro e w' ⟨rfl, rfl⟩
      go_wp2_with fail
      go_ret
      exact ⟨rfl, (HM1.out.trans HST2.out.mv (fun _ e => e.elim)).below⟩

/-- Rewind, whatever the index: some state is left -/
theorem rewind_some (J NV m : Nat) (to : Int) (w1 w : World) (hm : m ≤ 40) (h : St J (One NV 0) w1 (fun _ => False) (List.replicate m (f39 NV)) false w) :
    Calls Try.prog 18 #[.pointer (some ⟨J, 0, none⟩), .int .i64 to] w fun e w' => ∃ r x fs, e = .returned (.int .i64 r) ∧ St J (One NV x) w1 (fun _ => False) fs false w' := by
  by_cases hb : to < 0 ∨ (m : Int) < to
  · have hb2 : boundErr (List.replicate m (f39 NV)).length false to = 2 := by simp [boundErr, hb]
    refine (rewind_err _ _ _ _ _ _ to _ h (by rw [hb2]; rfl)).mono ?_
    rintro e w' ⟨rfl, rfl⟩
    exact ⟨_, 0, _, rfl, h.alloc _⟩
  · obtain ⟨t, rfl⟩ := Int.eq_ofNat_of_zero_le (show 0 ≤ to by omega)
    refine (rewind_st _ (Und NV m) _ _ _ t _ (undoes_39 _ _ _) (h.imp fun w hc => ⟨all_rep, by simp; omega, by omega, by simpa using hc⟩) (by simp; omega) (by simp; omega)).mono ?_
    rintro e w' ⟨rfl, h2⟩
    exact ⟨_, _, _, rfl, h2.imp fun w hc => hc.2.2.2⟩

set_option maxRecDepth 100000 in
set_option maxHeartbeats 1600000 in
theorem range_forget (n : Nat) (hn : n ≤ 255) (to : Int) (w : World) :
    Calls Try.prog 10 #[.int .u8 n, .int .i64 to, .bool true] w fun e w' => e = .returned (.bool true) ∧ Below w.heap.size w w' := by
  have HA := Lib.hid (awake_ok w)
  have hk : (n : Int) % 41 = ((n % 41 : Nat) : Int) := by omega
  have HK := Lib.hid hk
  have hk41 : n % 41 ≤ 40 := by omega
  clear hk
  go_enter Try.func10, Try.ntmps10
  go_wp2_with fail
  refine HA.out.mono ?_
  rintro e w1 ⟨rfl, hm1⟩
  have HM1 := Lib.hid hm1
  have h0 := (St.start w1).give (.cells #[.int .i64 0] 3)
  simp only [World.size_alloc, true_and] at h0
  have H0 := Lib.hid h0
  clear hm1 h0
  go_wp2_with fail
  rw [HK.out]
  clear HK
  generalize n % 41 = k at *
  go_loopw [20] (fun i wr => ∃ m : Nat, i = .int .i64 m ∧ m ≤ k ∧ St w1.heap.size (One (w1.heap.size + 1) 0) w1 (fun _ => False) (List.replicate m (f39 (w1.heap.size + 1))) false wr) (fun i _ => k - (intOf i).toNat)
  case atStart => exact ⟨0, rfl, Nat.zero_le _, H0.out⟩
  obtain ⟨m, rfl, hm, hst⟩ := hrel
  by_cases hlt : m < k
  · have HR := Lib.hid (record_st _ _ _ _ _ (.func 39) #[] #[.pointer (some ⟨w1.heap.size + 1, 0, none⟩)] _ hst (by simp; omega))
    clear hst
    go_wp2_with fail
    refine HR.out.mono ?_
    rintro e w2 ⟨rfl, hst2⟩
    have HST2 := Lib.hid hst2
    clear hst2
    go_wp2_with fail
    go_roundw
    case rel => exact ⟨m + 1, by go_num, by omega, by rw [List.replicate_succ']; exact HST2.out⟩
    case measure => simp [intOf]; omega
  · obtain rfl : m = k := by omega
    have HST := Lib.hid hst
    have hl : (List.replicate m (f39 (w1.heap.size + 1))).length = m := by simp
    have HL := Lib.hid hl
    clear hst hl hlt
    have HR := Lib.hid (rewind_some w1.heap.size (w1.heap.size + 1) m to w1 wr hk41 HST.out)
    clear HST HL
    go_wp2_with fail
    refine HR.out.mono ?_
    rintro e w2 ⟨r, x, fs, rfl, hst2⟩
    have n0 := cell_of_one hst2.user
    have f0 := free_of_one hst2.user
    have hlt2 := lt_of_block hst2.user
    have HST2 := Lib.hid (hst2.renew.one 0)
    rw [World.setCell_alloc_past _ _ _ _ hlt2] at HST2
    clear hst2
    go_wp2_with fail
    go_loopw [34] (fun i wr => ∃ k : Nat, i = .int .i64 k ∧ k ≤ m ∧ St w2.heap.size (One (w1.heap.size + 1) 0) w1 (fun _ => False) (List.replicate k (f40 (w1.heap.size + 1))) false wr) (fun i _ => m - (intOf i).toNat)
    case atStart => exact ⟨0, rfl, Nat.zero_le _, HST2.out⟩
    obtain ⟨k, rfl, hk, hst⟩ := hrel
    by_cases hlt : k < m
    · have HR := Lib.hid (record_st _ _ _ _ _ (.func 40) #[] #[.pointer (some ⟨w1.heap.size + 1, 0, none⟩)] _ hst (by simp; omega))
      clear hst
      go_wp2_with fail
      refine HR.out.mono ?_
      rintro e w2 ⟨rfl, hst2⟩
      have HST2 := Lib.hid hst2
      clear hst2
      go_wp2_with fail
      go_roundw
      case rel => exact ⟨k + 1, by go_num, by omega, by rw [List.replicate_succ']; exact HST2.out⟩
      case measure => simp [intOf]; omega
    · obtain rfl : k = m := by omega
      have HST := Lib.hid hst
      have hl : (List.replicate k (f40 (w1.heap.size + 1))).length = k := by simp
      have HL := Lib.hid hl
      clear hst hl hlt
      by_cases hb : to < 0 ∨ (k : Int) < to
      · have hb2 : boundErr (List.replicate k (f40 (w1.heap.size + 1))).length false to = 2 := by rw [HL.out]; simp [boundErr, hb]
        obtain ⟨s, Uo, hq, _⟩ := HST.out
        have hr := forget_err _ _ _ _ to _ hq (by rw [hb2]; rfl)
        rw [hb2] at hr
        have HR := Lib.hid hr
        clear hr hb2 hq
        by_cases h1 : to < 0
        all_goals
          go_wp2_with fail
          refine HR.out.mono ?_
          rintro e w' ⟨rfl, rfl⟩
          have hl2 := len_st _ _ _ _ _ _ _ HST.out
          rw [HL.out] at hl2
          have HL2 := Lib.hid hl2
          have n0 := cell_of_one HST.out.user
          clear hl2
          go_wp2_with fail
          refine HL2.out.mono ?_
          rintro e w' ⟨rfl, rfl⟩
          go_wp2_with fail
          go_ret
          exact ⟨rfl, (HM1.out.trans HST.out.mv (fun _ e => e.elim)).below⟩
      · have hto0 : 0 ≤ to := by omega
        obtain ⟨t, rfl⟩ := Int.eq_ofNat_of_zero_le hto0
        have htm : t ≤ k := by omega
        have hr := forget_st _ _ _ _ _ t _ HST.out (by simpa using htm) (by simp; omega)
        have HR := Lib.hid hr
        clear hr hb
        go_wp2_with fail
        refine HR.out.mono ?_
        rintro e w2 ⟨rfl, hst2⟩
        have hmin : min t k = t := by omega
        have hl2 := len_st _ _ _ _ _ _ _ hst2
        have n0 := cell_of_one hst2.user
        simp only [List.take_replicate, List.length_replicate, hmin] at hl2
        have HL2 := Lib.hid hl2
        have HST2 := Lib.hid hst2
        clear hl2 hst2 hmin
        go_wp2_with fail
        refine HL2.out.mono ?_
        rintro e w' ⟨rfl, rfl⟩
        go_wp2_with fail
        go_ret
        exact ⟨rfl, (HM1.out.trans HST2.out.mv (fun _ e => e.elim)).below⟩

theorem u8_nat {a : Int} (h : (Lit.int .u8 a).wf = true) : ∃ n : Nat, a = n ∧ n ≤ 255 := by
  have hx : 0 ≤ a ∧ a ≤ 255 := by simpa [Lit.wf, IntKind.min, IntKind.max, IntKind.signed, IntKind.bits] using h
  exact ⟨a.toNat, by omega, by omega⟩

theorem walk_JournalRange (a0 a1 : Int) (a2 : Bool) (w0 : (Lit.int .u8 a0).wf = true) (_w1 : (Lit.int .i64 a1).wf = true) (w : World) :
    Calls Try.prog 10 #[.int .u8 a0, .int .i64 a1, .bool a2] w fun e w' => e = .returned (.bool true) ∧ Below w.heap.size w w' := by
  obtain ⟨n, rfl, hn⟩ := u8_nat w0
  cases a2 with
  | false => exact range_rewind n hn a1 w
  | true => exact range_forget n hn a1 w

end Go.Proofs.Ytlcbfjcfkknmgaa
