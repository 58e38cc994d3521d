/- JournalFails: its walk. -/
import Derived.Test.YtlcbfjcfkknmgaaWForgets
namespace Go.Proofs.Ytlcbfjcfkknmgaa
open Go.RowKit

/-- a new journal beside memory that the user has already -/
theorem St.begin {U : World → Prop} {Uo O0 : Nat → Prop} {w0 w : World} (hf : Fp U Uo w) (hm : Mv O0 w0 w) (hs : ∀ b, Uo b → O0 b ∨ w0.heap.size ≤ b) :
    St w.heap.size U w0 O0 [] false (w.alloc (.cells #[.slice none 0 0, .bool false] 29)) := by
  refine ⟨.slice none 0 0, Uo, ⟨heap_alloc_new w _, World.ownsRow_nil _ _ _ _⟩, hf.keep ((Mv.refl (fun _ => False) w).alloc _) (fun _ _ h => h), ?_, hm.alloc _, ?_⟩
  · rintro b (rfl | hb) hu
    · have := hf.1 _ hu; omega
    · simp [Value.ownBlock] at hb
  · rintro b ((rfl | hb) | hb)
    · exact .inr hm.size
    · simp [Value.ownBlock] at hb
    · exact hs b hb

/-- where the variables of JournalFails lie -/
structure FB where
  (J E B I JV NV AV IV : Nat)
  nv : NV ≠ E ∧ NV ≠ B ∧ NV ≠ I ∧ NV ≠ JV ∧ NV ≠ AV ∧ NV ≠ IV
  av : AV ≠ E ∧ AV ≠ B ∧ AV ≠ I ∧ AV ≠ JV ∧ AV ≠ IV
  iv : IV ≠ E ∧ IV ≠ B ∧ IV ≠ I ∧ IV ≠ JV

/-- what they hold -/
structure Fl (c : FB) (e : Int) (b i : Nat) (x : Int) (aft : Bool) (inn : Int) (w : World) : Prop where
  e : w.heap[c.E]? = some (.cells #[.int .i64 e] 3 (0, 0))
  b : w.heap[c.B]? = some (.cells #[.int .u8 b] 5 (0, 0))
  i : w.heap[c.I]? = some (.cells #[.int .u8 i] 5 (0, 0))
  j : w.heap[c.JV]? = some (.cells #[.pointer (some ⟨c.J, 0, none⟩)] 26 (0, 0))
  n : w.heap[c.NV]? = some (.cells #[.int .i64 x] 3 (0, 0))
  a : w.heap[c.AV]? = some (.cells #[.bool aft] 4 (0, 0))
  r : w.heap[c.IV]? = some (.cells #[.int .i64 inn] 33 (0, 0))

section
variable {c : FB} {e : Int} {b i : Nat} {x : Int} {aft : Bool} {inn : Int} {J : Nat} {w0 w : World} {O0 : Nat → Prop} {fs : List Value} {run : Bool}
theorem St.fln (h : St J (Fl c e b i x aft inn) w0 O0 fs run w) (y : Int) : St J (Fl c e b i y aft inn) w0 O0 fs run (w.setCell ⟨c.NV, 0, none⟩ (.int .i64 y)) :=
  h.set c.NV 0 _ (fun _ hc => hc.n) (fun _ _ hc hk hn => by
    obtain ⟨h1, h2, h3, h4, h5, h6⟩ := c.nv
    exact ⟨by rw [hk _ h1.symm]; exact hc.e, by rw [hk _ h2.symm]; exact hc.b, by rw [hk _ h3.symm]; exact hc.i, by rw [hk _ h4.symm]; exact hc.j, by simpa using hn, by rw [hk _ h5.symm]; exact hc.a, by rw [hk _ h6.symm]; exact hc.r⟩)
theorem St.fla (h : St J (Fl c e b i x aft inn) w0 O0 fs run w) (y : Bool) : St J (Fl c e b i x y inn) w0 O0 fs run (w.setCell ⟨c.AV, 0, none⟩ (.bool y)) :=
  h.set c.AV 0 _ (fun _ hc => hc.a) (fun _ _ hc hk hn => by
    obtain ⟨h1, h2, h3, h4, h6⟩ := c.av
    have h5 := c.nv.2.2.2.2.1
    exact ⟨by rw [hk _ h1.symm]; exact hc.e, by rw [hk _ h2.symm]; exact hc.b, by rw [hk _ h3.symm]; exact hc.i, by rw [hk _ h4.symm]; exact hc.j, by rw [hk _ h5]; exact hc.n, by simpa using hn, by rw [hk _ h6.symm]; exact hc.r⟩)
theorem St.flr (h : St J (Fl c e b i x aft inn) w0 O0 fs run w) (y : Int) : St J (Fl c e b i x aft y) w0 O0 fs run (w.setCell ⟨c.IV, 0, none⟩ (.int .i64 y)) :=
  h.set c.IV 0 _ (fun _ hc => hc.r) (fun _ _ hc hk hn => by
    obtain ⟨h1, h2, h3, h4⟩ := c.iv
    have h5 := c.nv.2.2.2.2.2
    have h6 := c.av.2.2.2.2
    exact ⟨by rw [hk _ h1.symm]; exact hc.e, by rw [hk _ h2.symm]; exact hc.b, by rw [hk _ h3.symm]; exact hc.i, by rw [hk _ h4.symm]; exact hc.j, by rw [hk _ h5]; exact hc.n, by rw [hk _ h6]; exact hc.a, by simpa using hn⟩)
end

def f28 (c : FB) : Value := .func (.func 28) #[] #[.pointer (some ⟨c.NV, 0, none⟩)]
def f30 (c : FB) : Value := .func (.func 30) #[] #[.pointer (some ⟨c.NV, 0, none⟩)]
theorem ent27 (c : Array Value) (w : World) : (callFunc 27 c).run Try.prog w = .ok (.enter 27 c) w := by simp [go_sem]
theorem ent28 (c : Array Value) (w : World) : (callFunc 28 c).run Try.prog w = .ok (.enter 28 c) w := by simp [go_sem]
theorem ent29 (c : Array Value) (w : World) : (callFunc 29 c).run Try.prog w = .ok (.enter 29 c) w := by simp [go_sem]
theorem ent30 (c : Array Value) (w : World) : (callFunc 30 c).run Try.prog w = .ok (.enter 30 c) w := by simp [go_sem]

section
variable (c : FB) (e : Int) (b i : Nat) (x : Int) (aft : Bool) (inn : Int) (w0 w : World) (O0 : Nat → Prop) (fs : List Value) (run : Bool)
theorem dec_28 (h : St c.J (Fl c e b i x aft inn) w0 O0 fs run w) (hx : -1000000 ≤ x ∧ x ≤ 1000000) :
    Calls Try.prog 28 #[.pointer (some ⟨c.NV, 0, none⟩)] w fun en w' => en = .returned (.tuple #[]) ∧ St c.J (Fl c e b i (x - 1) aft inn) w0 O0 fs run w' := by
  have n0 := cell_of_one h.user.n
  have f0 := free_of_one h.user.n
  have HS := Lib.hid (h.fln (x - 1))
  clear h
  obtain ⟨hx1, hx2⟩ := hx
  go_enter Try.func28, Try.ntmps28
  go_wp2
  go_end0
  exact ⟨rfl, HS.out⟩
theorem dec_30 (h : St c.J (Fl c e b i x aft inn) w0 O0 fs run w) (hx : -1000000 ≤ x ∧ x ≤ 1000000) :
    Calls Try.prog 30 #[.pointer (some ⟨c.NV, 0, none⟩)] w fun en w' => en = .returned (.tuple #[]) ∧ St c.J (Fl c e b i (x - 100) aft inn) w0 O0 fs run w' := by
  have n0 := cell_of_one h.user.n
  have f0 := free_of_one h.user.n
  have HS := Lib.hid (h.fln (x - 100))
  clear h
  obtain ⟨hx1, hx2⟩ := hx
  go_enter Try.func30, Try.ntmps30
  go_wp2
  go_end0
  exact ⟨rfl, HS.out⟩
end

/-- p decrements by 1, then q by 100, are recorded -/
def pq (c : FB) (p q : Nat) : List Value := List.replicate p (f28 c) ++ List.replicate q (f30 c)
def FlV (c : FB) (e : Int) (b i : Nat) (aft : Bool) (inn : Int) (fs : List Value) (w : World) : Prop :=
  ∃ p q : Nat, fs = pq c p q ∧ p ≤ 20 ∧ q ≤ 20 ∧ Fl c e b i ((p : Int) + 100 * q) aft inn w

theorem f28_ne (c : FB) : f28 c ≠ f30 c := by simp [f28, f30]

theorem pq_inj {c : FB} {p q p' q' : Nat} (h : pq c p q = pq c p' q') : p = p' ∧ q = q' := by
  have hl := congrArg List.length h
  simp [pq] at hl
  have key : ∀ {a b a' b' : Nat}, pq c a b = pq c a' b' → ¬ a < a' := by
    intro a b a' b' h hlt
    have hl := congrArg List.length h
    simp [pq] at hl
    have h1 : (pq c a b)[a]? = some (f30 c) := by
      have hb : 0 < b := by omega
      rw [pq, List.getElem?_append_right (by simp), List.length_replicate, Nat.sub_self, List.getElem?_replicate, if_pos hb]
    have h2 : (pq c a' b')[a]? = some (f28 c) := by
      rw [pq, List.getElem?_append_left (by simpa using hlt), List.getElem?_replicate, if_pos hlt]
    rw [h, h2] at h1
    exact f28_ne c (Option.some.inj h1)
  have h1 := key h
  have h2 := key h.symm
  omega

theorem undoes_fl (c : FB) (e : Int) (b i : Nat) (aft : Bool) (inn : Int) : Undoes c.J (FlV c e b i aft inn) := by
  intro fs f w O h
  obtain ⟨p, q, hfs, hp, hq, _⟩ := h.user
  have hall : ∀ w, FlV c e b i aft inn (fs ++ [f]) w → Fl c e b i ((p : Int) + 100 * q) aft inn w := by
    rintro w ⟨p', q', h1, _, _, h2⟩
    obtain ⟨rfl, rfl⟩ := pq_inj (hfs.symm.trans h1)
    exact h2
  have h0 := h.imp hall
  clear h
  rcases Nat.eq_zero_or_pos q with rfl | hq0
  · have hp0 : 0 < p := by
      rcases Nat.eq_zero_or_pos p with rfl | h'
      · simp [pq] at hfs
      · exact h'
    obtain ⟨p, rfl⟩ : ∃ k, p = k + 1 := ⟨p - 1, by omega⟩
    have h3 : fs ++ [f] = pq c p 0 ++ [f28 c] := by rw [hfs]; simp [pq, List.replicate_succ']
    obtain ⟨h4, h5⟩ := List.append_inj' h3 rfl
    simp at h5
    subst h5
    refine ⟨28, _, rfl, ent28 _, ?_⟩
    refine (dec_28 c e b i _ aft inn w w O fs true h0 (by omega)).mono ?_
    rintro en w' ⟨rfl, h'⟩
    refine ⟨rfl, h'.imp fun w hc => ⟨p, 0, h4, by omega, by omega, ?_⟩⟩
    rw [show (p : Int) + 100 * ((0 : Nat) : Int) = ((p + 1 : Nat) : Int) + 100 * ((0 : Nat) : Int) - 1 by omega]
    exact hc
  · obtain ⟨q, rfl⟩ : ∃ k, q = k + 1 := ⟨q - 1, by omega⟩
    have h3 : fs ++ [f] = pq c p q ++ [f30 c] := by rw [hfs]; simp [pq, List.replicate_succ']
    obtain ⟨h4, h5⟩ := List.append_inj' h3 rfl
    simp at h5
    subst h5
    refine ⟨30, _, rfl, ent30 _, ?_⟩
    refine (dec_30 c e b i _ aft inn w w O fs true h0 (by omega)).mono ?_
    rintro en w' ⟨rfl, h'⟩
    refine ⟨rfl, h'.imp fun w hc => ⟨p, q, h4, by omega, by omega, ?_⟩⟩
    rw [show (p : Int) + 100 * (q : Int) = (p : Int) + 100 * ((q + 1 : Nat) : Int) - 100 by omega]
    exact hc

/-- the error that Fail raises -/
def wantE (e : Int) : Int := if e = 0 then 1 else e

theorem fail_any (e : Int) (w : World) :
    Calls Try.prog 31 #[.int .i64 e] w fun en w' => en = .panicked [{ v := .iface 63 (.agg #[.int .i64 (wantE e)]), recovered := false }] ∧ w = w' := by
  by_cases h : e = 0
  · subst h; exact fail_zero w
  · rw [wantE, if_neg h]; exact fail_ok e w (by simpa using h)

def ptr (b : Nat) : Value := .pointer (some ⟨b, 0, none⟩)

set_option maxHeartbeats 800000 in
theorem act_29 (c : FB) (e : Int) (b i p : Nat) (aft : Bool) (inn : Int) (hp : p ≤ 20) (w1 : World) (O1 : Nat → Prop) (hi : i ≤ 255) (h : St c.J (Fl c e b i p aft inn) w1 O1 (pq c p 0) false w1) :
    Calls Try.prog 29 #[.pointer (some ⟨c.I, 0, none⟩), .pointer (some ⟨c.NV, 0, none⟩), .pointer (some ⟨c.JV, 0, none⟩), .pointer (some ⟨c.E, 0, none⟩)] w1
      (ActPost c.J (fun _ _ => False) (fun fs2 V x => x = wantE e ∧ V = FlV c e b i aft inn ∧ fs2 = pq c p (i % 21)) (fun _ _ _ => False) w1 O1) := by
  have i0 := cell_of_one h.user.i
  obtain ⟨k, hk, hk20, hki⟩ : ∃ k : Nat, (i : Int) % 21 = k ∧ k ≤ 20 ∧ i % 21 = k := ⟨i % 21, by omega, by omega, rfl⟩
  have HKI := Lib.hid hki
  have H0 := Lib.hid h
  clear hki h
  go_enter Try.func29, Try.ntmps29
  go_wp2_with fail
  rw [hk]
  clear hk i0
  go_loopw [7] (fun v wr => ∃ m : Nat, v = .int .i64 m ∧ m ≤ k ∧ St c.J (Fl c e b i ((p : Int) + 100 * m) aft inn) w1 O1 (pq c p m) false wr) (fun v _ => k - (intOf v).toNat)
  case atStart => exact ⟨0, rfl, Nat.zero_le _, by simpa using H0.out⟩
  obtain ⟨m, rfl, hm, hst⟩ := hrel
  have n0 := cell_of_one hst.user.n
  have f0 := free_of_one hst.user.n
  have j0 := cell_of_one hst.user.j
  have e0 := cell_of_one hst.user.e
  have hne : (⟨c.NV, 0, none⟩ : Addr) ≠ ⟨c.JV, 0, none⟩ := fun h => c.nv.2.2.2.1 (by injection h)
  by_cases hlt : m < k
  · have HR := Lib.hid (record_st _ _ _ _ _ (.func 30) #[] #[.pointer (some ⟨c.NV, 0, none⟩)] _ (hst.fln ((p : Int) + 100 * m + 100)) (by simp [pq]; omega))
    clear hst
    go_wp2_with fail
    refine HR.out.mono ?_
    rintro en w2 ⟨rfl, hst2⟩
    have HST2 := Lib.hid hst2
    clear hst2
    go_wp2_with fail
    go_roundw
    case rel =>
      refine ⟨m + 1, by go_num, by omega, ?_⟩
      rw [show (p : Int) + 100 * ((m + 1 : Nat) : Int) = (p : Int) + 100 * m + 100 by omega, show pq c p (m + 1) = pq c p m ++ [f30 c] by simp [pq, List.replicate_succ']]
      exact HST2.out
    case measure => simp [intOf]; omega
  · obtain rfl : m = k := by omega
    have HST := Lib.hid hst
    clear hst
    go_wp2_with fail
    refine (fail_any e _).mono ?_
    rintro en w' ⟨rfl, rfl⟩
    refine ⟨rfl, .inr (.inl ⟨_, _, _, ⟨rfl, rfl, by rw [HKI.out]⟩, undoes_fl c e b i aft inn, ?_, rfl, HST.out.imp fun w hc => ⟨p, m, rfl, hp, hk20, hc⟩⟩)⟩
    simp [pq]; omega

set_option maxHeartbeats 1600000 in
theorem act_27 (c : FB) (e : Int) (b i : Nat) (w1 : World) (O1 : Nat → Prop) (hb : b ≤ 255) (hi : i ≤ 255) (h : St c.J (Fl c e b i 0 false 0) w1 O1 [] false w1) :
    Calls Try.prog 27 #[.pointer (some ⟨c.B, 0, none⟩), .pointer (some ⟨c.NV, 0, none⟩), .pointer (some ⟨c.JV, 0, none⟩), .pointer (some ⟨c.I, 0, none⟩), .pointer (some ⟨c.E, 0, none⟩), .pointer (some ⟨c.IV, 0, none⟩), .pointer (some ⟨c.AV, 0, none⟩)] w1
      (ActPost c.J (fun fs2 U2 => fs2 = pq c (b % 21) 0 ∧ U2 = Fl c e b i ((b % 21 : Nat) : Int) true (wantE e)) (fun _ _ _ => False) (fun _ _ _ => False) w1 O1) := by
  have b0 := cell_of_one h.user.b
  obtain ⟨k, hk, hk20, hkb⟩ : ∃ k : Nat, (b : Int) % 21 = k ∧ k ≤ 20 ∧ b % 21 = k := ⟨b % 21, by omega, by omega, rfl⟩
  have HKB := Lib.hid hkb
  have H0 := Lib.hid h
  clear hkb h
  go_enter Try.func27, Try.ntmps27
  go_wp2_with fail
  rw [hk]
  clear hk b0
  go_loopw [10] (fun v wr => ∃ m : Nat, v = .int .i64 m ∧ m ≤ k ∧ St c.J (Fl c e b i m false 0) w1 O1 (pq c m 0) false wr) (fun v _ => k - (intOf v).toNat)
  case atStart => exact ⟨0, rfl, Nat.zero_le _, H0.out⟩
  obtain ⟨m, rfl, hm, hst⟩ := hrel
  have n0 := cell_of_one hst.user.n
  have f0 := free_of_one hst.user.n
  have j0 := cell_of_one hst.user.j
  have hne : (⟨c.NV, 0, none⟩ : Addr) ≠ ⟨c.JV, 0, none⟩ := fun h => c.nv.2.2.2.1 (by injection h)
  by_cases hlt : m < k
  · have HR := Lib.hid (record_st _ _ _ _ _ (.func 28) #[] #[.pointer (some ⟨c.NV, 0, none⟩)] _ (hst.fln ((m : Int) + 1)) (by simp [pq]; omega))
    clear hst
    go_wp2_with fail
    refine HR.out.mono ?_
    rintro en w2 ⟨rfl, hst2⟩
    have HST2 := Lib.hid hst2
    clear hst2
    go_wp2_with fail
    go_roundw
    case rel =>
      refine ⟨m + 1, by go_num, by omega, ?_⟩
      rw [show ((m + 1 : Nat) : Int) = (m : Int) + 1 by omega, show pq c (m + 1) 0 = pq c m 0 ++ [f28 c] by simp [pq, List.replicate_succ']]
      exact HST2.out
    case measure => simp [intOf]; omega
  · obtain rfl : m = k := by omega
    have HAT := Lib.hid (attempt_st _ 29 #[.pointer (some ⟨c.I, 0, none⟩), .pointer (some ⟨c.NV, 0, none⟩), .pointer (some ⟨c.JV, 0, none⟩), .pointer (some ⟨c.E, 0, none⟩)] _ _ _ _ _ _ _ _ hst (ent29 _) (fun w2 O2 h2 _ => act_29 c e b i m false 0 hk20 w2 O2 hi h2))
    clear hst
    go_wp2_with fail
    refine HAT.out.mono ?_
    rintro en w2 (⟨fs2, U2, hP, _⟩ | ⟨fs2, V, x, ⟨rfl, rfl, rfl⟩, rfl, hst2⟩ | ⟨fs2, V, x, older, hP, _⟩)
    · exact hP.elim
    · have htk : (pq c m (i % 21)).take (pq c m 0).length = pq c m 0 := by simp [pq]
      rw [htk] at hst2
      have hst3 : St c.J (Fl c e b i m false 0) w1 O1 (pq c m 0) false w2 := hst2.imp fun w hc => by
        obtain ⟨p, q, h1, _, _, h2⟩ := hc
        obtain ⟨rfl, rfl⟩ := pq_inj h1
        simpa using h2
      have r0 := cell_of_one hst3.user.r
      have fr := free_of_one hst3.user.r
      have a0 := cell_of_one hst3.user.a
      have fa := free_of_one hst3.user.a
      have hne2 : (⟨c.IV, 0, none⟩ : Addr) ≠ ⟨c.AV, 0, none⟩ := fun h => c.av.2.2.2.2 (by injection h with h1; exact h1.symm)
      have HST3 := Lib.hid ((hst3.flr (wantE e)).fla true)
      clear hst2 hst3 htk
      go_wp2_with fail
      go_end0
      exact .inl ⟨_, _, ⟨by rw [HKB.out], by rw [HKB.out]⟩, rfl, HST3.out⟩
    · exact hP.elim

theorem fp_three {w w1 : World} {a b c : Obj} (hm : Mv (fun _ => False) (((w.alloc a).alloc b).alloc c) w1) :
    Fp (fun w' => w'.heap[w.heap.size]? = some a ∧ w'.heap[w.heap.size + 1]? = some b ∧ w'.heap[w.heap.size + 1 + 1]? = some c) (fun x => w.heap.size ≤ x ∧ x ≤ w.heap.size + 1 + 1) w1 := by
  obtain ⟨h1, h2, h3⟩ := three_new w a b c
  have hs := hm.size
  simp only [World.size_alloc] at hs
  refine ⟨fun x hx => by omega, fun w2 h => ⟨?_, ?_, ?_⟩⟩
  · rw [h _ (by omega), hm.block _ (lt_of_block h1) (fun e => e)]; exact h1
  · rw [h _ (by omega), hm.block _ (lt_of_block h2) (fun e => e)]; exact h2
  · rw [h _ (by omega), hm.block _ (lt_of_block h3) (fun e => e)]; exact h3

/-- the outer transaction, its blocks by number -/
theorem fails_att (J E B I JV NV AV IV : Nat) (e : Int) (b i : Nat) (hb : b ≤ 255) (hi : i ≤ 255) (w0 w : World)
    (nv : NV ≠ E ∧ NV ≠ B ∧ NV ≠ I ∧ NV ≠ JV ∧ NV ≠ AV ∧ NV ≠ IV) (av : AV ≠ E ∧ AV ≠ B ∧ AV ≠ I ∧ AV ≠ JV ∧ AV ≠ IV) (iv : IV ≠ E ∧ IV ≠ B ∧ IV ≠ I ∧ IV ≠ JV)
    (h : St J (Fl ⟨J, E, B, I, JV, NV, AV, IV, nv, av, iv⟩ e b i 0 false 0) w0 (fun _ => False) [] false w) :
    Calls Try.prog 13 #[.pointer (some ⟨J, 0, none⟩), .func (.func 27) #[] #[.pointer (some ⟨B, 0, none⟩), .pointer (some ⟨NV, 0, none⟩), .pointer (some ⟨JV, 0, none⟩), .pointer (some ⟨I, 0, none⟩), .pointer (some ⟨E, 0, none⟩), .pointer (some ⟨IV, 0, none⟩), .pointer (some ⟨AV, 0, none⟩)]] w
      fun en w2 => en = .returned (.int .i64 0) ∧ ∃ fs U, fs.length = b % 21 ∧ St J U w0 (fun _ => False) fs false w2 ∧
        w2.heap[E]? = some (.cells #[.int .i64 e] 3 (0, 0)) ∧ w2.heap[B]? = some (.cells #[.int .u8 b] 5 (0, 0)) ∧ w2.heap[JV]? = some (.cells #[.pointer (some ⟨J, 0, none⟩)] 26 (0, 0)) ∧
        w2.heap[NV]? = some (.cells #[.int .i64 ((b % 21 : Nat) : Int)] 3 (0, 0)) ∧ w2.heap[AV]? = some (.cells #[.bool true] 4 (0, 0)) ∧ w2.heap[IV]? = some (.cells #[.int .i64 (wantE e)] 33 (0, 0)) := by
  refine (attempt_st _ 27 _ _ _ _ _ _ _ _ _ h (ent27 _) (fun w2 O2 h2 _ => act_27 ⟨J, E, B, I, JV, NV, AV, IV, nv, av, iv⟩ e b i w2 O2 hb hi h2)).mono ?_
  rintro en w2 (⟨fs2, U2, ⟨rfl, rfl⟩, rfl, hst⟩ | ⟨fs2, V, x, hP, _⟩ | ⟨fs2, V, x, older, hP, _⟩)
  · exact ⟨rfl, _, _, by simp [pq], hst, hst.user.e, hst.user.b, hst.user.j, hst.user.n, hst.user.a, hst.user.r⟩
  · exact hP.elim
  · exact hP.elim

set_option maxRecDepth 100000 in
set_option maxHeartbeats 1600000 in
theorem fails_walk (e : Int) (b i : Nat) (hb : b ≤ 255) (hi : i ≤ 255) (w : World) :
    Calls Try.prog 6 #[.int .i64 e, .int .u8 b, .int .u8 i] w fun en w' => en = .returned (.bool true) ∧ Below w.heap.size w w' := by
  have HA := Lib.hid (awake_ok (((w.alloc (.cells #[.int .i64 e] 3)).alloc (.cells #[.int .u8 b] 5)).alloc (.cells #[.int .u8 i] 5)))
  obtain ⟨k, hk, hk20, hkb⟩ : ∃ k : Nat, (b : Int) % 21 = k ∧ k ≤ 20 ∧ b % 21 = k := ⟨b % 21, by omega, by omega, rfl⟩
  have HKB := Lib.hid hkb
  have HK := Lib.hid hk
  clear hkb hk
  go_enter Try.func6, Try.ntmps6
  go_wp2_with fail
  refine HA.out.mono ?_
  rintro en w1 ⟨rfl, hm1⟩
  have hs := hm1.size
  simp only [World.size_alloc] at hs
  have hm2 : Mv (fun _ => False) w w1 := Mv.trans (O1 := fun _ => False) ((((Mv.refl _ _).alloc _).alloc _).alloc _) hm1 (fun _ e => e.elim)
  have h1 := ((((St.begin (fp_three hm1) hm2 (fun b hb => .inr hb.1)).give (.cells #[.pointer (some ⟨w1.heap.size, 0, none⟩)] 26)).give (.cells #[.int .i64 0] 3)).give (.cells #[.bool false] 4)).give (.cells #[.int .i64 0] 33)
  simp only [World.size_alloc] at h1
  have HAT := Lib.hid (fails_att w1.heap.size w.heap.size (w.heap.size + 1) (w.heap.size + 1 + 1) (w1.heap.size + 1) (w1.heap.size + 1 + 1) (w1.heap.size + 1 + 1 + 1) (w1.heap.size + 1 + 1 + 1 + 1) e b i hb hi w _ (by omega) (by omega) (by omega)
    (h1.imp fun w hx => ⟨hx.1.1.1.1.1, hx.1.1.1.1.2.1, hx.1.1.1.1.2.2, hx.1.1.1.2, hx.1.1.2, hx.1.2, hx.2⟩))
  clear h1 hm1 hm2 hs
  go_wp2_with fail
  refine HAT.out.mono ?_
  rintro en w2 ⟨rfl, fs, U, hfl, hst, hE, hB, hJV, hNV, hAV, hIV⟩
  rw [HKB.out] at hfl hNV
  have e0 := cell_of_one hE
  have b0 := cell_of_one hB
  have j0 := cell_of_one hJV
  have n0 := cell_of_one hNV
  have a0 := cell_of_one hAV
  have i0 := cell_of_one hIV
  have HL := Lib.hid (fun q => (len_st _ _ _ _ _ _ _ (hst.drewN q)).mono (fun _ _ hx => (⟨hx.1, hx.2.symm⟩ : _ ∧ _)))
  rw [hfl] at HL
  have HST := Lib.hid hst
  have hk := HK.out
  clear hst hE hB hJV hNV hAV hIV hfl HAT
  by_cases h0 : e = 0
  · subst h0
    simp only [wantE, if_true] at i0
    go_wp2_with fail
    go_quiet ((go_at_call 17; exact Calls.quiet_of_same (HL.out _)))
    go_wp2_with fail
    go_ret
    exact ⟨rfl, (HST.out.drewN nq).mv.below⟩
  · have h1 : (e == 0) = false := by simpa using h0
    simp only [wantE, h0, if_false] at i0
    clear h0
    go_wp2_with fail
    go_quiet ((go_at_call 17; exact Calls.quiet_of_same (HL.out _)))
    go_wp2_with fail
    go_ret
    exact ⟨rfl, (HST.out.drewN nq).mv.below⟩

theorem walk_JournalFails (a0 a1 a2 : Int) (_w0 : (Lit.int .i64 a0).wf = true) (w1 : (Lit.int .u8 a1).wf = true) (w2 : (Lit.int .u8 a2).wf = true) (w : World) :
    Calls Try.prog 6 #[.int .i64 a0, .int .u8 a1, .int .u8 a2] w fun e w' => e = .returned (.bool true) ∧ Below w.heap.size w w' := by
  obtain ⟨n, rfl, hn⟩ := u8_nat w1
  obtain ⟨m, rfl, hm⟩ := u8_nat w2
  exact fails_walk a0 n m hn hm w

end Go.Proofs.Ytlcbfjcfkknmgaa
