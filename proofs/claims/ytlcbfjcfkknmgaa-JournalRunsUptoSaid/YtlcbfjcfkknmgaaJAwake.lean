/- awake: the chapter's example. -/
import Derived.Test.YtlcbfjcfkknmgaaJAttempt
namespace Go.Proofs.Ytlcbfjcfkknmgaa
open Go.RowKit

/-- a new journal -/
theorem St.start (w : World) : St w.heap.size (fun _ => True) w (fun _ => False) [] false (w.alloc (.cells #[.slice none 0 0, .bool false] 29)) := by
  refine ⟨.slice none 0 0, fun _ => False, ⟨heap_alloc_new w _, World.ownsRow_nil _ _ _ _⟩, ⟨fun _ h => h.elim, fun _ _ => trivial⟩, fun _ _ h => h, (Mv.refl _ _).alloc _, ?_⟩
  rintro b ((rfl | hb) | hb)
  · exact .inr (Nat.le_refl _)
  · simp [Value.ownBlock] at hb
  · exact hb.elim

/-- the variables j and n of a law: where they lie and what they hold -/
structure Cnt (J JV NV : Nat) (x : Int) (w : World) : Prop where
  j : w.heap[JV]? = some (.cells #[.pointer (some ⟨J, 0, none⟩)] 26 (0, 0))
  n : w.heap[NV]? = some (.cells #[.int .i64 x] 3 (0, 0))

theorem Cnt.set {J JV NV : Nat} {x y : Int} {w1 w2 : World} (hne : JV ≠ NV) (h : Cnt J JV NV x w1) (hk : ∀ b, b ≠ NV → w2.heap[b]? = w1.heap[b]?) (hn : w2.heap[NV]? = some (.cells #[.int .i64 y] 3 (0, 0))) : Cnt J JV NV y w2 :=
  ⟨by rw [hk JV hne]; exact h.j, hn⟩

theorem St.cnt {J JV NV : Nat} {x : Int} {w0 w : World} {O0 : Nat → Prop} {fs : List Value} {run : Bool} (hne : JV ≠ NV) (h : St J (Cnt J JV NV x) w0 O0 fs run w) (y : Int) :
    St J (Cnt J JV NV y) w0 O0 fs run (w.setCell ⟨NV, 0, none⟩ (.int .i64 y)) :=
  h.set NV 0 _ (fun _ hc => hc.n) (fun _ _ hc hk hn => hc.set hne hk (by simpa using hn))

theorem dec_42 (J JV NV : Nat) (x : Int) (w0 w : World) (O0 : Nat → Prop) (fs : List Value) (run : Bool) (hne : JV ≠ NV) (h : St J (Cnt J JV NV x) w0 O0 fs run w) (hx : -1000000 ≤ x ∧ x ≤ 1000000) :
    Calls Try.prog 42 #[.pointer (some ⟨NV, 0, none⟩)] w fun e w' => e = .returned (.tuple #[]) ∧ St J (Cnt J JV NV (x - 1)) w0 O0 fs run w' := by
  have n0 := cell_of_one h.user.n
  have f0 := free_of_one h.user.n
  have HS := Lib.hid (h.cnt hne (x - 1))
  clear h
  obtain ⟨hx1, hx2⟩ := hx
  go_enter Try.func42, Try.ntmps42
  go_wp2
  go_end0
  exact ⟨rfl, HS.out⟩

/-- all recorded functions are decrements of n -/
def Dec (J JV NV : Nat) (f : FuncId) (x : Int) (fs : List Value) (w : World) : Prop :=
  (∀ g ∈ fs, g = .func (.func f) #[] #[.pointer (some ⟨NV, 0, none⟩)]) ∧ fs.length ≤ 1000 ∧ Cnt J JV NV (x + fs.length) w

theorem ent42 (c : Array Value) (w : World) : (callFunc 42 c).run Try.prog w = .ok (.enter 42 c) w := by simp [go_sem]

theorem undoes_42 (J JV NV : Nat) (x : Int) (hne : JV ≠ NV) (hx : -1000 ≤ x ∧ x ≤ 1000) : Undoes J (Dec J JV NV 42 x) := by
  intro fs f w O h
  obtain ⟨hall, hlen, _⟩ := h.user
  refine ⟨42, _, hall f (by simp), ent42 _, ?_⟩
  have hl : (fs ++ [f]).length = fs.length + 1 := by simp
  rw [hl] at hlen
  refine (dec_42 J JV NV (x + fs.length + 1) w w O fs true hne (h.imp fun w hd => by have := hd.2.2; rw [hl] at this; exact (by simpa [Int.add_assoc] using this)) (by omega)).mono ?_
  rintro e w' ⟨rfl, h'⟩
  refine ⟨rfl, h'.imp fun w hc => ⟨fun g hg => hall g (by simp [hg]), by omega, ?_⟩⟩
  rw [show x + (fs.length : Int) = x + fs.length + 1 - 1 by omega]
  exact hc

theorem ent41 (c : Array Value) (w : World) : (callFunc 41 c).run Try.prog w = .ok (.enter 41 c) w := by simp [go_sem]
theorem ent43 (c : Array Value) (w : World) : (callFunc 43 c).run Try.prog w = .ok (.enter 43 c) w := by simp [go_sem]

/-- the first transaction of awake fails with ErrAssert -/
theorem act_41 (J JV NV : Nat) (hne : JV ≠ NV) (w1 : World) (O1 : Nat → Prop) (h : St J (Cnt J JV NV 5) w1 O1 [] false w1) :
    Calls Try.prog 41 #[.pointer (some ⟨NV, 0, none⟩), .pointer (some ⟨JV, 0, none⟩)] w1
      (ActPost J (fun _ _ => False) (fun fs2 V x => x = 15 ∧ V = Dec J JV NV 42 5 ∧ fs2.length = 1) (fun _ _ _ => False) w1 O1) := by
  have n0 := cell_of_one h.user.n
  have f0 := free_of_one h.user.n
  have j0 := cell_of_one h.user.j
  have hne2 : (⟨NV, 0, none⟩ : Addr) ≠ ⟨JV, 0, none⟩ := by intro e; cases e; exact hne rfl
  have HR := Lib.hid (record_st J _ _ _ _ (.func 42) #[] #[.pointer (some ⟨NV, 0, none⟩)] _ (h.cnt hne 6) (by simp))
  clear h
  go_enter Try.func41, Try.ntmps41
  go_wp2_with fail
  refine HR.out.mono ?_
  rintro e w2 ⟨rfl, hst⟩
  have HST := Lib.hid hst
  clear hst
  go_wp2_with fail
  refine (fail_ok 15 _ rfl).mono ?_
  rintro e w' ⟨rfl, rfl⟩
  refine ⟨rfl, .inr (.inl ⟨_, Dec J JV NV 42 5, 15, ⟨rfl, rfl, ?_⟩, undoes_42 J JV NV 5 hne (by omega), ?_, rfl, HST.out.imp fun w hc => ⟨?_, ?_, ?_⟩⟩)⟩
  · simp
  · simp
  · simp
  · simp
  · simpa using hc

/-- the second one succeeds -/
theorem act_43 (J JV NV : Nat) (w1 : World) (O1 : Nat → Prop) (h : St J (Cnt J JV NV 5) w1 O1 [] false w1) :
    Calls Try.prog 43 #[.pointer (some ⟨JV, 0, none⟩), .pointer (some ⟨NV, 0, none⟩)] w1
      (ActPost J (fun fs2 U2 => fs2.length = 1 ∧ U2 = Cnt J JV NV 5) (fun _ _ _ => False) (fun _ _ _ => False) w1 O1) := by
  have j0 := cell_of_one h.user.j
  have HR := Lib.hid (record_st J _ _ _ _ (.func 44) #[] #[.pointer (some ⟨NV, 0, none⟩)] _ h (by simp))
  clear h
  go_enter Try.func43, Try.ntmps43
  go_wp2_with fail
  refine HR.out.mono ?_
  rintro e w2 ⟨rfl, hst⟩
  have HST := Lib.hid hst
  clear hst
  go_wp2_with fail
  go_end0
  exact .inl ⟨_, _, ⟨by simp, rfl⟩, rfl, HST.out⟩

/-- two variables of a law, laid behind a new journal -/
theorem St.two (w : World) (x : Int) : St w.heap.size (Cnt w.heap.size (w.heap.size + 1) (w.heap.size + 1 + 1) x) w (fun _ => False) [] false
    (((w.alloc (.cells #[.slice none 0 0, .bool false] 29)).alloc (.cells #[.pointer (some ⟨w.heap.size, 0, none⟩)] 26)).alloc (.cells #[.int .i64 x] 3)) := by
  have h := ((St.start w).give (.cells #[.pointer (some ⟨w.heap.size, 0, none⟩)] 26)).give (.cells #[.int .i64 x] 3)
  simp only [World.size_alloc] at h
  exact h.imp fun w hc => ⟨hc.1.2, hc.2⟩

set_option maxHeartbeats 400000 in
theorem awake_ok (w : World) : Calls Try.prog 11 #[] w fun e w' => e = .returned (.bool true) ∧ Mv (fun _ => False) w w' := by
  have h := St.two w 5
  have HA := Lib.hid (attempt_st _ 41 #[.pointer (some ⟨w.heap.size + 1 + 1, 0, none⟩), .pointer (some ⟨w.heap.size + 1, 0, none⟩)] _ _ _ _ _ _ _ _ h (ent41 _) (fun w1 O1 h1 _ => act_41 w.heap.size (w.heap.size + 1) (w.heap.size + 1 + 1) (by omega) w1 O1 h1))
  clear h
  go_enter Try.func11, Try.ntmps11
  go_wp2_with fail
  refine HA.out.mono ?_
  rintro e w2 (⟨fs2, U2, hP, _⟩ | ⟨fs2, V, x, ⟨rfl, rfl, hl⟩, rfl, hst⟩ | ⟨fs2, V, x, older, hP, _⟩)
  · exact hP.elim
  · have hst2 : St w.heap.size (Cnt w.heap.size (w.heap.size + 1) (w.heap.size + 1 + 1) 5) w (fun _ => False) [] false w2 := by
      simpa using hst.imp fun w hc => hc.2.2
    have j0 := cell_of_one hst2.user.j
    have HB := Lib.hid (attempt_st _ 43 #[.pointer (some ⟨w.heap.size + 1, 0, none⟩), .pointer (some ⟨w.heap.size + 1 + 1, 0, none⟩)] _ _ _ _ _ _ _ _ hst2 (ent43 _) (fun w1 O1 h1 _ => act_43 w.heap.size (w.heap.size + 1) (w.heap.size + 1 + 1) w1 O1 h1))
    clear hst hst2
    go_wp2_with fail
    refine HB.out.mono ?_
    rintro e w3 (⟨fs3, U3, ⟨hl3, rfl⟩, rfl, hst3⟩ | ⟨fs2, V, x, hP, _⟩ | ⟨fs2, V, x, older, hP, _⟩)
    · have j0 := cell_of_one hst3.user.j
      have n0 := cell_of_one hst3.user.n
      have HL := Lib.hid (len_st _ _ _ _ _ _ _ hst3)
      rw [hl3] at HL
      have HST := Lib.hid hst3
      clear hst3 hl3
      go_wp2_with fail
      refine HL.out.mono ?_
      rintro e w' ⟨rfl, rfl⟩
      go_wp2_with fail
      go_ret
      exact ⟨rfl, HST.out.mv⟩
    · exact hP.elim
    · exact hP.elim
  · exact hP.elim

end Go.Proofs.Ytlcbfjcfkknmgaa
