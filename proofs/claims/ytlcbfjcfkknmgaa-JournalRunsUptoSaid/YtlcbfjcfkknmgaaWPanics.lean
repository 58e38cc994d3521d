/- JournalPanics: its walk. -/
import Derived.Test.YtlcbfjcfkknmgaaWOrder
namespace Go.Proofs.Ytlcbfjcfkknmgaa
open Go.RowKit

/-- where the variables of JournalPanics lie -/
structure PB where
  (J RB VB JV NV GV : Nat)
  nv : NV ≠ RB ∧ NV ≠ VB ∧ NV ≠ JV ∧ NV ≠ GV
  gv : GV ≠ RB ∧ GV ≠ VB ∧ GV ≠ JV

/-- what they hold; the memory that came in is as it was -/
structure Pb (c : PB) (W : World) (a : Option Addr) (len cap : Nat) (val x : Int) (w : World) : Prop where
  old : ∀ b, b < W.heap.size → w.heap[b]? = W.heap[b]?
  r : w.heap[c.RB]? = some (.cells #[.slice a len cap] 38 (0, 0))
  v : w.heap[c.VB]? = some (.cells #[.int .i64 val] 3 (0, 0))
  j : w.heap[c.JV]? = some (.cells #[.pointer (some ⟨c.J, 0, none⟩)] 26 (0, 0))
  n : w.heap[c.NV]? = some (.cells #[.int .i64 x] 3 (0, 0))
  g : w.heap[c.GV]? = some (.cells #[.nilIface] 20 (0, 0))

/-- a fact that does not speak of block N -/
def Apart (X : World → Prop) (N : Nat) : Prop := ∀ w1 w2 : World, X w1 → (∀ b, b ≠ N → w2.heap[b]? = w1.heap[b]?) → X w2

section
variable {c : PB} {W : World} {a : Option Addr} {len cap : Nat} {val x : Int} {X : World → Prop} {w0 w : World} {O0 : Nat → Prop} {fs : List Value} {run : Bool}
theorem St.pbn (hW : W.heap.size ≤ c.NV) (hX : Apart X c.NV) (h : St c.J (fun w => Pb c W a len cap val x w ∧ X w) w0 O0 fs run w) (y : Int) :
    St c.J (fun w => Pb c W a len cap val y w ∧ X w) w0 O0 fs run (w.setCell ⟨c.NV, 0, none⟩ (.int .i64 y)) :=
  h.set c.NV 0 _ (fun _ hc => hc.1.n) (fun _ _ hc hk hn => by
    obtain ⟨h1, h2, h3, h4⟩ := c.nv
    exact ⟨⟨fun b hb => by rw [hk b (by omega)]; exact hc.1.old b hb, by rw [hk _ h1.symm]; exact hc.1.r, by rw [hk _ h2.symm]; exact hc.1.v, by rw [hk _ h3.symm]; exact hc.1.j, by simpa using hn, by rw [hk _ h4.symm]; exact hc.1.g⟩, hX _ _ hc.2 hk⟩)
end

def f21 : Value := .func (.func 21) #[] #[]
def f26 (c : PB) : Value := .func (.func 26) #[] #[.pointer (some ⟨c.NV, 0, none⟩)]
theorem ent21 (c : Array Value) (w : World) : (callFunc 21 c).run Try.prog w = .ok (.enter 21 c) w := by simp [go_sem]
theorem ent24 (c : Array Value) (w : World) : (callFunc 24 c).run Try.prog w = .ok (.enter 24 c) w := by simp [go_sem]
theorem ent25 (c : Array Value) (w : World) : (callFunc 25 c).run Try.prog w = .ok (.enter 25 c) w := by simp [go_sem]
theorem ent26 (c : Array Value) (w : World) : (callFunc 26 c).run Try.prog w = .ok (.enter 26 c) w := by simp [go_sem]

theorem skip_21 (w : World) : Calls Try.prog 21 #[] w fun e w' => e = .returned (.tuple #[]) ∧ w = w' := by
  go_enter Try.func21, Try.ntmps21
  go_wp2
  go_end0
  exact ⟨rfl, rfl⟩

section
variable (c : PB) (W : World) (a : Option Addr) (len cap : Nat) (val x : Int) (X : World → Prop)
theorem dec_26 (w0 w : World) (O0 : Nat → Prop) (fs : List Value) (run : Bool) (hW : W.heap.size ≤ c.NV) (hX : Apart X c.NV) (h : St c.J (fun w => Pb c W a len cap val x w ∧ X w) w0 O0 fs run w) (hx : -1000000 ≤ x ∧ x ≤ 1000000) :
    Calls Try.prog 26 #[.pointer (some ⟨c.NV, 0, none⟩)] w fun en w' => en = .returned (.tuple #[]) ∧ St c.J (fun w => Pb c W a len cap val (x - 1) w ∧ X w) w0 O0 fs run w' := by
  have n0 := cell_of_one h.user.1.n
  have f0 := free_of_one h.user.1.n
  have HS := Lib.hid (h.pbn hW hX (x - 1))
  clear h
  obtain ⟨hx1, hx2⟩ := hx
  go_enter Try.func26, Try.ntmps26
  go_wp2
  go_end0
  exact ⟨rfl, HS.out⟩

/-- the journal of JournalPanics: a function that does nothing, then q decrements -/
def pfs (c : PB) (q : Nat) : List Value := f21 :: List.replicate q (f26 c)
def PbV (fs : List Value) (w : World) : Prop :=
  (∃ q : Nat, fs = pfs c q ∧ q ≤ 200 ∧ Pb c W a len cap val q w ∧ X w) ∨ (fs = [] ∧ Pb c W a len cap val 0 w ∧ X w)

theorem pfs_inj {c : PB} {p q : Nat} (h : pfs c p = pfs c q) : p = q := by
  have := congrArg List.length h
  simpa [pfs] using this

theorem PbV.at {q : Nat} {w : World} (h : PbV c W a len cap val X (pfs c q) w) : Pb c W a len cap val q w ∧ X w := by
  rcases h with ⟨q', h1, _, h2⟩ | ⟨h1, _⟩
  · obtain rfl := pfs_inj h1; exact h2
  · simp [pfs] at h1

theorem undoes_26 (hW : W.heap.size ≤ c.NV) (hX : Apart X c.NV) : Undoes c.J (PbV c W a len cap val X) := by
  intro fs f w O h
  rcases h.user with ⟨q, hfs, hq, _⟩ | ⟨hfs, _⟩
  · have h0 : St c.J (fun w => Pb c W a len cap val q w ∧ X w) w O fs true w := h.imp fun w hw => by rw [hfs] at hw; exact PbV.at c W a len cap val X hw
    rcases Nat.eq_zero_or_pos q with rfl | hq0
    · have h3 : fs ++ [f] = [] ++ [f21] := by rw [hfs]; simp [pfs]
      obtain ⟨rfl, h5⟩ := List.append_inj' h3 rfl
      simp at h5
      subst h5
      refine ⟨21, _, rfl, ent21 _, (skip_21 w).mono ?_⟩
      rintro e w' ⟨rfl, rfl⟩
      exact ⟨rfl, h0.imp fun w hw => .inr ⟨rfl, hw⟩⟩
    · obtain ⟨q, rfl⟩ : ∃ k, q = k + 1 := ⟨q - 1, by omega⟩
      have h3 : fs ++ [f] = pfs c q ++ [f26 c] := by rw [hfs]; simp [pfs, List.replicate_succ']
      obtain ⟨h4, h5⟩ := List.append_inj' h3 rfl
      simp at h5
      subst h5
      refine ⟨26, _, rfl, ent26 _, ?_⟩
      refine (dec_26 c W a len cap val _ X w w O fs true hW hX h0 (by omega)).mono ?_
      rintro en w' ⟨rfl, h'⟩
      refine ⟨rfl, h'.imp fun w hc => .inl ⟨q, h4, by omega, ?_, hc.2⟩⟩
      rw [show (q : Int) = ((q + 1 : Nat) : Int) - 1 by omega]
      exact hc.1
  · simp at hfs
end

/-- the variable down -/
def Dn (c : PB) (DV : Nat) (w : World) : Prop :=
  w.heap[DV]? = some (.cells #[.func (.func 24) #[] #[.pointer (some ⟨c.RB, 0, none⟩), .pointer (some ⟨c.VB, 0, none⟩), .pointer (some ⟨c.JV, 0, none⟩), .pointer (some ⟨c.NV, 0, none⟩), .pointer (some ⟨DV, 0, none⟩)]] 41 (0, 0))

theorem Dn.apart {c : PB} {DV : Nat} (h : DV ≠ c.NV) : Apart (Dn c DV) c.NV := fun w1 w2 h1 hk => by unfold Dn at *; rw [hk _ h]; exact h1

/-- down(i) panics with the value; what it has recorded is undone -/
def Downs (c : PB) (W : World) (a : Option Addr) (len cap : Nat) (val : Int) (DV i : Nat) : Prop :=
  ∀ (q : Nat) (w1 : World) (O1 : Nat → Prop), q + 20 * (len - i) ≤ 100 → St c.J (fun w => Pb c W a len cap val q w ∧ Dn c DV w) w1 O1 (pfs c q) false w1 →
    Calls Try.prog 24 #[.int .i64 i, .pointer (some ⟨c.RB, 0, none⟩), .pointer (some ⟨c.VB, 0, none⟩), .pointer (some ⟨c.JV, 0, none⟩), .pointer (some ⟨c.NV, 0, none⟩), .pointer (some ⟨DV, 0, none⟩)] w1
      fun e w2 => ∃ older, (∀ p ∈ older, PanicEntry.goexit p = false) ∧ e = .panicked ({ v := .iface 3 (.int .i64 val), recovered := false } :: older) ∧ St c.J (fun w => Pb c W a len cap val q w ∧ Dn c DV w) w1 O1 (pfs c q) false w2

set_option maxHeartbeats 400000 in
theorem down_end (c : PB) (W : World) (a : Option Addr) (len cap : Nat) (val : Int) (DV : Nat) : Downs c W a len cap val DV len := by
  intro q w1 O1 hq h
  have r0 := cell_of_one h.user.1.r
  have v0 := cell_of_one h.user.1.v
  have hr := lt_of_block h.user.1.r
  have hv := lt_of_block h.user.1.v
  have HS := Lib.hid (h.alloc (.cells #[.int .i64 len] 3))
  clear h
  go_enter Try.func24, Try.ntmps24
  go_wp2_with fail
  exact ⟨rfl, [], by simp, rfl, HS.out⟩

set_option maxHeartbeats 1600000 in
theorem act_25 (c : PB) (W : World) (a : Option Addr) (len cap : Nat) (zs : List Int) (val : Int) (DV IB i q : Nat) (hrow : IsRow .u8 W a len cap zs) (hi : i < len) (hl5 : len ≤ 5) (hW : W.heap.size ≤ c.NV) (hDV : DV ≠ c.NV) (hIB : IB ≠ c.NV)
    (hdown : Downs c W a len cap val DV (i + 1)) (hq : q + 20 * (len - i) ≤ 100) (w1 : World) (O1 : Nat → Prop)
    (h : St c.J (fun w => Pb c W a len cap val q w ∧ (Dn c DV w ∧ w.heap[IB]? = some (.cells #[.int .i64 i] 3 (0, 0)))) w1 O1 (pfs c q) false w1) :
    Calls Try.prog 25 #[.pointer (some ⟨c.RB, 0, none⟩), .pointer (some ⟨IB, 0, none⟩), .pointer (some ⟨c.NV, 0, none⟩), .pointer (some ⟨c.JV, 0, none⟩), .pointer (some ⟨DV, 0, none⟩)] w1
      (ActPost c.J (fun _ _ => False) (fun _ _ _ => False) (fun fs2 V x => x = val ∧ V = PbV c W a len cap val (Dn c DV) ∧ ∃ q', fs2 = pfs c q' ∧ q ≤ q') w1 O1) := by
  obtain ⟨b, off, z, rfl, hb, hc, hz⟩ := hrow.at hi
  obtain ⟨hl1, hl2⟩ := hrow.len
  have hc1 : w1.cell? ⟨b, off + i, none⟩ = some (.int .u8 z) := by
    rw [World.cell?_of_block (w := W) (w' := w1) (h.user.1.old b hb)]; exact hc
  obtain ⟨k, hk, hk20⟩ : ∃ k : Nat, (z : Int) % 21 = k ∧ k ≤ 20 := ⟨z % 21, by omega, by omega⟩
  have hX : Apart (fun w => Dn c DV w ∧ w.heap[IB]? = some (.cells #[.int .i64 i] 3 (0, 0))) c.NV := fun w1 w2 h1 hk => ⟨Dn.apart hDV w1 w2 h1.1 hk, by rw [hk _ hIB]; exact h1.2⟩
  have HX := Lib.hid hX
  have r0 := cell_of_one h.user.1.r
  have i0 := cell_of_one h.user.2.2
  have H0 := Lib.hid h
  have HD := Lib.hid hdown
  have HC := Lib.hid hc
  clear h hdown hX hc hrow
  go_enter Try.func25, Try.ntmps25
  go_wp2_with fail
  rw [hk]
  clear hk hc1 r0 i0
  go_loopw [11] (fun v wr => ∃ m : Nat, v = .int .i64 m ∧ m ≤ k ∧ St c.J (fun w => Pb c W (some ⟨b, off, none⟩) len cap val ((q + m : Nat) : Int) w ∧ (Dn c DV w ∧ w.heap[IB]? = some (.cells #[.int .i64 i] 3 (0, 0)))) w1 O1 (pfs c (q + m)) false wr) (fun v _ => k - (intOf v).toNat)
  case atStart => exact ⟨0, rfl, Nat.zero_le _, by simpa using H0.out⟩
  obtain ⟨m, rfl, hm, hst⟩ := hrel
  have n0 := cell_of_one hst.user.1.n
  have f0 := free_of_one hst.user.1.n
  have j0 := cell_of_one hst.user.1.j
  have i0 := cell_of_one hst.user.2.2
  have d0 := cell_of_one hst.user.2.1
  have hne : (⟨c.NV, 0, none⟩ : Addr) ≠ ⟨c.JV, 0, none⟩ := fun h => c.nv.2.2.1 (by injection h)
  by_cases hlt : m < k
  · have HR := Lib.hid (record_st _ _ _ _ _ (.func 26) #[] #[.pointer (some ⟨c.NV, 0, none⟩)] _ (hst.pbn hW HX.out (((q + m : Nat) : Int) + 1)) (by simp [pfs]; omega))
    clear hst d0 i0
    go_wp2_with fail
    refine HR.out.mono ?_
    rintro en w2 ⟨rfl, hst2⟩
    have HST2 := Lib.hid hst2
    clear hst2
    go_wp2_with fail
    go_roundw
    case rel =>
      refine ⟨m + 1, by go_num, by omega, ?_⟩
      rw [show ((q + (m + 1) : Nat) : Int) = ((q + m : Nat) : Int) + 1 by omega, show pfs c (q + (m + 1)) = pfs c (q + m) ++ [f26 c] by rw [← Nat.add_assoc]; simp [pfs, List.replicate_succ']]
      exact HST2.out
    case measure => simp [intOf]; omega
  · obtain rfl : m = k := by omega
    obtain ⟨O2, hst2, _, hs2⟩ := hst.rebase
    have HS2 := Lib.hid hs2
    have HM2 := Lib.hid hst.mv
    have HDC := Lib.hid (HD.out (q + m) wr O2 (by omega) (hst2.imp fun w hw => ⟨hw.1, hw.2.1⟩))
    rw [show ((i + 1 : Nat) : Int) = (i : Int) + 1 by omega] at HDC
    have hen := ent24
    clear hst hst2 hs2
    go_wp2_with fail
    refine HDC.out.mono ?_
    rintro en w2 ⟨older, hold, rfl, hst3⟩
    refine ⟨rfl, .inr (.inr ⟨_, _, val, older, ⟨rfl, rfl, q + m, rfl, by omega⟩, undoes_26 c W (some ⟨b, off, none⟩) len cap val (Dn c DV) hW (Dn.apart hDV), ?_, hold, rfl, ?_⟩)⟩
    · simp [pfs]; omega
    · exact (hst3.lift HM2.out HS2.out).imp fun w hw => .inl ⟨q + m, rfl, by omega, hw⟩

set_option maxHeartbeats 800000 in
theorem down_step (c : PB) (W : World) (a : Option Addr) (len cap : Nat) (zs : List Int) (val : Int) (DV i : Nat) (hrow : IsRow .u8 W a len cap zs) (hi : i < len) (hl5 : len ≤ 5) (hW : W.heap.size ≤ c.NV) (hDV : DV ≠ c.NV)
    (hdown : Downs c W a len cap val DV (i + 1)) : Downs c W a len cap val DV i := by
  intro q w1 O1 hq h
  have r0 := cell_of_one h.user.1.r
  have j0 := cell_of_one h.user.1.j
  have hr := lt_of_block h.user.1.r
  have hj := lt_of_block h.user.1.j
  have hn := lt_of_block h.user.1.n
  have hil : ((i : Int) == (len : Int)) = false := by simp; omega
  have h1 := h.give (.cells #[.int .i64 i] 3)
  have HAT := Lib.hid (attempt_st _ 25 #[.pointer (some ⟨c.RB, 0, none⟩), .pointer (some ⟨w1.heap.size, 0, none⟩), .pointer (some ⟨c.NV, 0, none⟩), .pointer (some ⟨c.JV, 0, none⟩), .pointer (some ⟨DV, 0, none⟩)] _ _ _ _ _ _ _ _ h1 (ent25 _)
    (fun w2 O2 h2 _ => act_25 c W a len cap zs val DV w1.heap.size i q hrow hi hl5 hW hDV (by omega) hdown hq w2 O2 (h2.imp fun w hw => ⟨hw.1.1, hw.1.2, hw.2⟩)))
  clear h h1 hdown hrow
  go_enter Try.func24, Try.ntmps24
  go_wp2_with fail
  refine HAT.out.mono ?_
  rintro en w2 (⟨fs2, U2, hP, _⟩ | ⟨fs2, V, x, hP, _⟩ | ⟨fs2, V, x, older, ⟨rfl, rfl, q', rfl, hqq⟩, hold, rfl, hst⟩)
  · exact hP.elim
  · exact hP.elim
  · have ht : (pfs c q').take (pfs c q).length = pfs c q := by simp [pfs, List.take_replicate]; omega
    rw [ht] at hst
    exact ⟨rfl, older, hold, rfl, hst.imp fun w hw => PbV.at c W a len cap x (Dn c DV) hw⟩

theorem down_all (c : PB) (W : World) (a : Option Addr) (len cap : Nat) (zs : List Int) (val : Int) (DV : Nat) (hrow : IsRow .u8 W a len cap zs) (hl5 : len ≤ 5) (hW : W.heap.size ≤ c.NV) (hDV : DV ≠ c.NV) :
    ∀ k i, i + k = len → Downs c W a len cap val DV i := by
  intro k
  induction k with
  | zero => intro i hi; obtain rfl : i = len := by omega
            exact down_end c W a i cap val DV
  | succ k ih => intro i hi; exact down_step c W a len cap zs val DV i hrow (by omega) hl5 hW hDV (ih (i + 1) (by omega))

theorem got_23 (GV : Nat) (val : Int) (x : Value) (older : List PanicEntry) (w : World) (hg : w.heap[GV]? = some (.cells #[x] 20 (0, 0))) :
    CallsD Try.prog 23 #[.pointer (some ⟨GV, 0, none⟩)] (.panicking ({ v := .iface 3 (.int .i64 val), recovered := false } :: older)) w fun e u' w' =>
      e = .returned (.tuple #[]) ∧ u' = .panicking ({ v := .iface 3 (.int .i64 val), recovered := true } :: older) ∧ w.setCell ⟨GV, 0, none⟩ (.iface 3 (.int .i64 val)) = w' := by
  have g0 := cell_of_one hg
  have f0 := free_of_one hg
  refine callsD_of_wpS Try.func23 rfl fun c₀ cs hu => ?_
  simp only [Try.ntmps23, List.size_toArray, List.length_cons, List.length_nil, Nat.reduceAdd, Nat.reduceSub, Array.replicate_succ, Array.replicate_zero, List.push_toArray, List.append_toArray, List.nil_append]
  apply wpS_region
  simp [wpOpsS, go_sem, recoverD, hu, g0, f0, bodyPostS, results, Try.results23]

/-- what is left in the end -/
structure Pe (c : PB) (W : World) (val : Int) (w : World) : Prop where
  old : ∀ b, b < W.heap.size → w.heap[b]? = W.heap[b]?
  v : w.heap[c.VB]? = some (.cells #[.int .i64 val] 3 (0, 0))
  j : w.heap[c.JV]? = some (.cells #[.pointer (some ⟨c.J, 0, none⟩)] 26 (0, 0))
  n : w.heap[c.NV]? = some (.cells #[.int .i64 0] 3 (0, 0))
  g : w.heap[c.GV]? = some (.cells #[.iface 3 (.int .i64 val)] 20 (0, 0))

theorem drop_goexit {l : List PanicEntry} (h : ∀ p ∈ l, PanicEntry.goexit p = false) : l.dropWhile (!·.goexit) = [] := by
  induction l with
  | nil => rfl
  | cons p l ih =>
    rw [List.dropWhile_cons_of_pos (by simp [h p (by simp)])]
    exact ih fun q hq => h q (by simp [hq])

set_option maxHeartbeats 800000 in
theorem call_22 (c : PB) (W : World) (a : Option Addr) (len cap : Nat) (zs : List Int) (val : Int) (hrow : IsRow .u8 W a len cap zs) (hl5 : len ≤ 5) (hW : W.heap.size ≤ c.NV) (hWG : W.heap.size ≤ c.GV) (w0 w : World) (O0 : Nat → Prop)
    (h : St c.J (Pb c W a len cap val 0) w0 O0 (pfs c 0) false w) :
    Calls Try.prog 22 #[.pointer (some ⟨c.GV, 0, none⟩), .pointer (some ⟨c.RB, 0, none⟩), .pointer (some ⟨c.VB, 0, none⟩), .pointer (some ⟨c.JV, 0, none⟩), .pointer (some ⟨c.NV, 0, none⟩)] w fun e w' =>
      e = .returned (.tuple #[]) ∧ St c.J (Pe c W val) w0 O0 (pfs c 0) false w' := by
  have hn := lt_of_block h.user.n
  have h1 := h.give (.cells #[.func (.func 24) #[] #[.pointer (some ⟨c.RB, 0, none⟩), .pointer (some ⟨c.VB, 0, none⟩), .pointer (some ⟨c.JV, 0, none⟩), .pointer (some ⟨c.NV, 0, none⟩), .pointer (some ⟨w.heap.size, 0, none⟩)]] 41)
  obtain ⟨O2, h2, _, hs2⟩ := h1.rebase
  have HM := Lib.hid h1.mv
  have HS := Lib.hid hs2
  have hd := down_all c W a len cap zs val w.heap.size hrow hl5 hW (by omega) len 0 (by omega) 0 _ O2 (by omega) h2
  have HD := Lib.hid hd
  have hen := ent24
  clear h h1 h2 hs2 hd hrow
  go_enter_defers Try.func22, Try.ntmps22
  go_wp2_with fail
  refine HD.out.mono ?_
  rintro en w2 ⟨older, hold, rfl, hst⟩
  have hst2 := hst.lift HM.out HS.out
  refine leaves_cons (f := 23) (args := #[.pointer (some ⟨c.GV, 0, none⟩)]) (by simp) (by simp [go_sem]) ?_
  refine (got_23 c.GV val _ older w2 hst2.user.1.g).mono ?_
  rintro e u' w' ⟨rfl, rfl, rfl⟩
  have hset : settle (.panicking ({ v := .iface 3 (.int .i64 val), recovered := true } :: older)) = .returning := by
    simp [settle, drop_goexit hold]
  simp only [hset]
  refine ⟨_, results_none rfl _ _ _, rfl, ?_⟩
  exact hst2.set c.GV 0 _ (fun _ hc => hc.1.g) (fun _ _ hc hk hn => by
    obtain ⟨h1, h2, h3⟩ := c.gv
    exact ⟨fun b hb => by rw [hk b (by omega)]; exact hc.1.old b hb, by rw [hk _ h2.symm]; exact hc.1.v, by rw [hk _ h3.symm]; exact hc.1.j, by rw [hk _ c.nv.2.2.2]; exact hc.1.n, by simpa using hn⟩)

theorem equalIn_iface_int {P : Program} (w : World) (d : Nat) {ti tn : TypeId} {ms : Array (String × TypeId)} {i : TypeInfo} {k : IntKind} (a b : Int)
    (hi : P.underlying ti = some (.interface ms)) (hn : P.underlying tn = some (.int k)) (hinfo : P.info? tn = some i) (hcomp : i.comparable = true) :
    (Op.equalIn (d + 2) ti (.iface tn (.int k a)) (.iface tn (.int k b))).run P w = .ok (a == b) w := by
  simp [Op.equalIn, run_underlying hi, run_underlying hn, typeInfo, hinfo, hcomp]
theorem Try.info3c : (Try.prog.info? 3).map (·.comparable) = some true := by kernel_rfl
theorem eq_any (a b : Int) (w : World) : (binOp .eql 20 (.iface 3 (.int .i64 a)) (.iface 3 (.int .i64 b))).run Try.prog w = .ok (.bool (a == b)) w := by
  obtain ⟨i, hi, hc⟩ := Option.map_eq_some_iff.1 Try.info3c
  have e : (Op.equal 20 (.iface 3 (.int .i64 a)) (.iface 3 (.int .i64 b))).run Try.prog w = .ok (a == b) w := equalIn_iface_int w 9998 a b Try.underlying20 Try.underlying3 hi hc
  simp only [binOp]
  simp [e]

/-- the blocks of the two parameters, and all that was there before -/
theorem fp_panics {w w1 : World} {a b : Obj} (hm : Mv (fun _ => False) ((w.alloc a).alloc b) w1) :
    Fp (fun w' => (∀ b, b < w.heap.size → w'.heap[b]? = w.heap[b]?) ∧ w'.heap[w.heap.size]? = some a ∧ w'.heap[w.heap.size + 1]? = some b) (fun x => x ≤ w.heap.size + 1) w1 := by
  have hs := hm.size
  simp only [World.size_alloc] at hs
  have h1 : ((w.alloc a).alloc b).heap[w.heap.size]? = some a := by rw [Below.heap_alloc _ _ _ (by simp)]; exact heap_alloc_new w a
  have h2 : ((w.alloc a).alloc b).heap[w.heap.size + 1]? = some b := by have := heap_alloc_new (w.alloc a) b; simpa using this
  refine ⟨fun x hx => by omega, fun w2 h => ⟨fun b hb => ?_, ?_, ?_⟩⟩
  · rw [h _ (by omega), hm.block _ (by simp; omega) (fun e => e), Below.heap_alloc _ _ _ (by simp; omega), Below.heap_alloc _ _ _ hb]
  · rw [h _ (by omega), hm.block _ (lt_of_block h1) (fun e => e)]; exact h1
  · rw [h _ (by omega), hm.block _ (lt_of_block h2) (fun e => e)]; exact h2

/-- the call of the inner function, its blocks by number -/
theorem panics_call (J RB VB JV NV GV : Nat) (W : World) (a : Option Addr) (len cap : Nat) (zs : List Int) (val : Int) (hrow : IsRow .u8 W a len cap zs) (hl5 : len ≤ 5) (w : World) (O0 : Nat → Prop)
    (nv : NV ≠ RB ∧ NV ≠ VB ∧ NV ≠ JV ∧ NV ≠ GV) (gv : GV ≠ RB ∧ GV ≠ VB ∧ GV ≠ JV) (hW : W.heap.size ≤ NV) (hWG : W.heap.size ≤ GV)
    (h : St J (Pb ⟨J, RB, VB, JV, NV, GV, nv, gv⟩ W a len cap val 0) W O0 [f21] false w) :
    Calls Try.prog 22 #[.pointer (some ⟨GV, 0, none⟩), .pointer (some ⟨RB, 0, none⟩), .pointer (some ⟨VB, 0, none⟩), .pointer (some ⟨JV, 0, none⟩), .pointer (some ⟨NV, 0, none⟩)] w fun e w' =>
      e = .returned (.tuple #[]) ∧ ∃ U, St J U W O0 [f21] false w' ∧ (∀ b, b < W.heap.size → w'.heap[b]? = W.heap[b]?) ∧ w'.heap[VB]? = some (.cells #[.int .i64 val] 3 (0, 0)) ∧
        w'.heap[JV]? = some (.cells #[.pointer (some ⟨J, 0, none⟩)] 26 (0, 0)) ∧ w'.heap[NV]? = some (.cells #[.int .i64 0] 3 (0, 0)) ∧ w'.heap[GV]? = some (.cells #[.iface 3 (.int .i64 val)] 20 (0, 0)) := by
  refine (call_22 ⟨J, RB, VB, JV, NV, GV, nv, gv⟩ W a len cap zs val hrow hl5 hW hWG W w O0 h).mono ?_
  rintro e w' ⟨rfl, hst⟩
  exact ⟨rfl, _, hst, hst.user.old, hst.user.v, hst.user.j, hst.user.n, hst.user.g⟩

set_option maxRecDepth 100000 in
set_option maxHeartbeats 1600000 in
theorem walk_JournalPanics (a0 : Option Addr) (len0 cap0 : Nat) (z0 : List Int) (a1 : Int) (w : World) (w0 : IsRow .u8 w a0 len0 cap0 z0) (_w1 : (Lit.int .i64 a1).wf = true) :
    Calls Try.prog 5 #[.slice a0 len0 cap0, .int .i64 a1] w fun e w' => e = .returned (.bool true) ∧ Below w.heap.size w w' := by
  have HROW := Lib.hid w0
  obtain ⟨hl1, hl2⟩ := w0.len
  have HA := Lib.hid (awake_ok ((w.alloc (.cells #[.slice a0 len0 cap0] 38)).alloc (.cells #[.int .i64 a1] 3)))
  clear w0
  go_enter Try.func5, Try.ntmps5
  go_wp2_with fail
  refine HA.out.mono ?_
  rintro en w1 ⟨rfl, hm1⟩
  have hs := hm1.size
  simp only [World.size_alloc] at hs
  have hm2 : Mv (fun _ => False) w w1 := Mv.trans (O1 := fun _ => False) (((Mv.refl _ _).alloc _).alloc _) hm1 (fun _ e => e.elim)
  have hfp := fp_panics hm1
  have r0 := cell_of_one hfp.now.2.1
  by_cases h5 : 5 < len0
  · have HM2 := Lib.hid hm2
    clear hm1 hm2 hfp
    go_wp2_with fail
    go_ret
    exact ⟨rfl, HM2.out.below⟩
  · have h1 := ((St.begin (O0 := fun b => b < w.heap.size) hfp (hm2.mono (fun _ e => e.elim)) (fun b hb => by rcases Nat.lt_or_ge b w.heap.size with h | h; exact .inl h; exact .inr h)).give (.cells #[.pointer (some ⟨w1.heap.size, 0, none⟩)] 26)).give (.cells #[.int .i64 0] 3)
    simp only [World.size_alloc] at h1
    have HR := Lib.hid (record_st _ _ _ _ _ (.func 21) #[] #[] _ h1 (by simp))
    clear hm1 hm2 hfp h1
    go_wp2_with fail
    refine HR.out.mono ?_
    rintro en w3 ⟨rfl, hst⟩
    have hlt := lt_of_block hst.user.2
    have h2 := hst.give (.cells #[.nilIface] 20)
    have HC := Lib.hid (panics_call w1.heap.size w.heap.size (w.heap.size + 1) (w1.heap.size + 1) (w1.heap.size + 1 + 1) w3.heap.size w a0 len0 cap0 z0 a1 HROW.out (by omega) _ _ (by omega) (by omega) (by omega) (by omega)
      (h2.imp fun w hw => ⟨hw.1.1.1.1, hw.1.1.1.2.1, hw.1.1.1.2.2, hw.1.1.2, hw.1.2, hw.2⟩))
    have hen : ∀ (c : Array Value) (w : World), (callFunc 22 c).run Try.prog w = .ok (.enter 22 c) w := fun c w => by simp [go_sem]
    clear hst h2
    go_wp2_with fail
    refine HC.out.mono ?_
    rintro en w4 ⟨rfl, U, hst, hold, hv, hj, hn, hg⟩
    have v0 := cell_of_one hv
    have j0 := cell_of_one hj
    have n0 := cell_of_one hn
    have g0 := cell_of_one hg
    have HL := Lib.hid (len_st _ _ _ _ _ _ _ hst)
    have HST := Lib.hid hst
    have HOLD := Lib.hid hold
    have heq := eq_any
    clear hst hold hv hj hn hg
    go_wp2_with fail
    refine HL.out.mono ?_
    rintro en w' ⟨rfl, rfl⟩
    go_wp2_with fail
    go_ret
    have hmv := HST.out.mv
    exact ⟨rfl, hmv.os, hmv.tape, hmv.output, hmv.size, HOLD.out⟩

end Go.Proofs.Ytlcbfjcfkknmgaa
