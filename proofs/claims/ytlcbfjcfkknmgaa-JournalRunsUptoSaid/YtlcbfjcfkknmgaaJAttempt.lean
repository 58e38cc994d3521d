/- Attempt: a transaction. -/
import Derived.Test.YtlcbfjcfkknmgaaJCatch
namespace Go.Proofs.Ytlcbfjcfkknmgaa
open Go.RowKit

/-- how the function of a transaction may end: it returns; it fails; another panic comes -/
def ActPost (J : Nat) (Pok : List Value → (World → Prop) → Prop) (Pf Pp : List Value → (List Value → World → Prop) → Int → Prop) (w1 : World) (O1 : Nat → Prop) (e : Ending) (w2 : World) : Prop :=
  (∃ fs2 U2, Pok fs2 U2 ∧ e = .returned (.tuple #[]) ∧ St J U2 w1 O1 fs2 false w2) ∨
  (∃ fs2 V x, Pf fs2 V x ∧ Undoes J V ∧ fs2.length ≤ 1000000 ∧ e = .panicked [{ v := .iface 63 (.agg #[.int .i64 x]), recovered := false }] ∧ St J (V fs2) w1 O1 fs2 false w2) ∨
  (∃ fs2 V x older, Pp fs2 V x ∧ Undoes J V ∧ fs2.length ≤ 1000000 ∧ (∀ p ∈ older, PanicEntry.goexit p = false) ∧ e = .panicked ({ v := .iface 3 (.int .i64 x), recovered := false } :: older) ∧ St J (V fs2) w1 O1 fs2 false w2)

/-- how Attempt then ends -/
def AttPost (J n : Nat) (Pok : List Value → (World → Prop) → Prop) (Pf Pp : List Value → (List Value → World → Prop) → Int → Prop) (w1 : World) (O1 : Nat → Prop) (e : Ending) (w2 : World) : Prop :=
  (∃ fs2 U2, Pok fs2 U2 ∧ e = .returned (.int .i64 0) ∧ St J U2 w1 O1 fs2 false w2) ∨
  (∃ fs2 V x, Pf fs2 V x ∧ e = .returned (.int .i64 x) ∧ St J (V (fs2.take n)) w1 O1 (fs2.take n) false w2) ∨
  (∃ fs2 V x older, Pp fs2 V x ∧ (∀ p ∈ older, PanicEntry.goexit p = false) ∧ e = .panicked ({ v := .iface 3 (.int .i64 x), recovered := false } :: older) ∧ St J (V (fs2.take n)) w1 O1 (fs2.take n) false w2)

theorem attempt_nil (f : Value) (w : World) : Calls Try.prog 13 #[.pointer none, f] w fun e w' => e = .returned (.int .i64 1) ∧ Mv (fun _ => False) w w' := by
  go_enter_defers Try.func13, Try.ntmps13
  go_wp2
  refine ⟨_, by simp [results, Try.results13, go_sem], rfl, ?_⟩
  exact ((Mv.refl _ _).alloc _).alloc _

theorem attempt_nofn (J : Nat) (w : World) : Calls Try.prog 13 #[.pointer (some ⟨J, 0, none⟩), .nilFunc] w fun e w' => e = .returned (.int .i64 1) ∧ Mv (fun _ => False) w w' := by
  go_enter_defers Try.func13, Try.ntmps13
  go_wp2
  refine ⟨_, by simp [results, Try.results13, go_sem], rfl, ?_⟩
  exact ((Mv.refl _ _).alloc _).alloc _

theorem three_new (w : World) (a b c : Obj) : (((w.alloc a).alloc b).alloc c).heap[w.heap.size]? = some a ∧ (((w.alloc a).alloc b).alloc c).heap[w.heap.size + 1]? = some b ∧ (((w.alloc a).alloc b).alloc c).heap[w.heap.size + 1 + 1]? = some c := by
  refine ⟨?_, ?_, ?_⟩
  · rw [Below.heap_alloc _ _ _ (by simp; omega), Below.heap_alloc _ _ _ (by simp)]; exact heap_alloc_new w a
  · rw [Below.heap_alloc _ _ _ (by simp)]; have := heap_alloc_new (w.alloc a) b; simpa using this
  · have := heap_alloc_new ((w.alloc a).alloc b) c; simpa using this

/-- what Attempt's own blocks are worth behind the function of the transaction -/
theorem att_close {J : Nat} {U : World → Prop} {w0 w w1 w2 w' : World} {O0 O1 : Nat → Prop} {fs : List Value} (hst : St J U w1 O1 fs false w2) (hm : Mv (fun b => b = w.heap.size + 1) w2 w') (hO : ∀ b, O1 b → b < w.heap.size) (hE : w.heap.size + 1 < w1.heap.size)
    (hM : Mv O0 w0 w1) (hS : ∀ b, O1 b → O0 b ∨ w0.heap.size ≤ b) (hw : w0.heap.size ≤ w.heap.size) : St J U w0 O0 fs false w' := by
  have h2 := hst.other hm (fun e => by have := hO _ e; omega) hE
  refine h2.lift hM ?_
  rintro b (hb | rfl)
  · exact hS b hb
  · exact .inr (by omega)

set_option maxHeartbeats 400000 in
theorem attempt_st (J k : Nat) (cap : Array Value) (U : World → Prop) (w0 : World) (O0 : Nat → Prop) (fs : List Value) (w : World) (Pok : List Value → (World → Prop) → Prop) (Pf Pp : List Value → (List Value → World → Prop) → Int → Prop)
    (h : St J U w0 O0 fs false w) (hent : ∀ w, (callFunc k cap).run Try.prog w = .ok (.enter k cap) w)
    (hact : ∀ (w1 : World) (O1 : Nat → Prop), St J U w1 O1 fs false w1 → w.heap.size ≤ w1.heap.size → Calls Try.prog k cap w1 (ActPost J Pok Pf Pp w1 O1)) :
    Calls Try.prog 13 #[.pointer (some ⟨J, 0, none⟩), .func (.func k) #[] cap] w (AttPost J fs.length Pok Pf Pp w0 O0) := by
  have hgr : Mv (fun _ => False) w (((w.alloc (.cells #[.pointer (some ⟨J, 0, none⟩)] 26)).alloc (.cells #[.int .i64 0] 33)).alloc (.cells #[.int .i64 fs.length] 3)) := (((Mv.refl _ _).alloc _).alloc _).alloc _
  obtain ⟨O1, h1, hlt, hs1, hmv1⟩ := h.baseAt hgr
  have HC := Lib.hid (hact _ O1 h1 hgr.size)
  have HL := Lib.hid (len_st J _ _ _ _ _ _ ((h.alloc (.cells #[.pointer (some ⟨J, 0, none⟩)] 26)).alloc (.cells #[.int .i64 0] 33)))
  have HM := Lib.hid hmv1
  have HS := Lib.hid hs1
  have HO := Lib.hid hlt
  have hsz : w0.heap.size ≤ w.heap.size := h.mv.size
  clear hact h1 hgr hmv1 hs1 hlt h
  obtain ⟨n1, n2, n3⟩ := three_new w (.cells #[.pointer (some ⟨J, 0, none⟩)] 26) (.cells #[.int .i64 0] 33) (.cells #[.int .i64 fs.length] 3)
  have HN1 := Lib.hid n1
  have HN2 := Lib.hid n2
  have HN3 := Lib.hid n3
  clear n1 n2 n3
  go_enter_defers Try.func13, Try.ntmps13
  go_wp2_with fail
  refine HL.out.mono ?_
  rintro e w' ⟨rfl, rfl⟩
  go_wp2_with fail
  have hW1 : w.heap.size + 1 < (((w.alloc (.cells #[.pointer (some ⟨J, 0, none⟩)] 26)).alloc (.cells #[.int .i64 0] 33)).alloc (.cells #[.int .i64 fs.length] 3)).heap.size := by simp
  generalize (((w.alloc (.cells #[.pointer (some ⟨J, 0, none⟩)] 26)).alloc (.cells #[.int .i64 0] 33)).alloc (.cells #[.int .i64 fs.length] 3)) = w1 at *
  refine HC.out.mono ?_
  have oA : ¬ O1 w.heap.size := fun e => by have := HO.out _ e; omega
  have oE : ¬ O1 (w.heap.size + 1) := fun e => by have := HO.out _ e; omega
  have oF : ¬ O1 (w.heap.size + 1 + 1) := fun e => by have := HO.out _ e; omega
  rintro e w2 (⟨fs2, U2, hP, rfl, hst⟩ | ⟨fs2, V, x, hP, hun, hl2, rfl, hst⟩ | ⟨fs2, V, x, older, hP, hun, hl2, hold, rfl, hst⟩)
  · have e0 := cell_of_one (hst.frame HN2.out oE)
    have fe := free_of_one (hst.frame HN2.out oE)
    have HE2 := Lib.hid (hst.frame HN2.out oE)
    have HST := Lib.hid hst
    have HP := Lib.hid hP
    clear hst hP
    go_wp2_with fail
    refine leaves_cons (f := 46) (args := #[.pointer (some ⟨w.heap.size, 0, none⟩), .pointer (some ⟨w.heap.size + 1 + 1, 0, none⟩), .pointer (some ⟨w.heap.size + 1, 0, none⟩)]) (by simp) (by simp [go_sem]) ?_
    refine (catch_idle _ _ _ _).mono ?_
    rintro e u' w'' ⟨rfl, rfl, rfl⟩
    have hE3 := cell_of_one (one_setCell (u := .int .i64 0) HE2.out)
    refine ⟨.int .i64 0, ?_, .inl ⟨fs2, U2, HP.out, rfl, ?_⟩⟩
    · simp [results, Try.results13, go_sem, hE3]
    · exact att_close HST.out ((Mv.refl (fun b => b = w.heap.size + 1) w2).setCell (p := ⟨w.heap.size + 1, 0, none⟩) (.inl rfl) _) HO.out hW1 HM.out HS.out hsz
  · have HST := Lib.hid hst
    have HP := Lib.hid hP
    have HCC := Lib.hid (catch_fail J w.heap.size (w.heap.size + 1 + 1) (w.heap.size + 1) fs.length x V w1 O1 fs2 [] w2 HN1.out HN3.out HN2.out oA oF oE hun hst hl2)
    clear hst hP hun
    go_wp2_with fail
    refine leaves_cons (f := 46) (args := #[.pointer (some ⟨w.heap.size, 0, none⟩), .pointer (some ⟨w.heap.size + 1 + 1, 0, none⟩), .pointer (some ⟨w.heap.size + 1, 0, none⟩)]) (by simp) (by simp [go_sem]) ?_
    refine HCC.out.mono ?_
    rintro e u' w'' ⟨rfl, rfl, w3, hst3, hm3, hE3⟩
    have hE4 := cell_of_one hE3
    refine ⟨.int .i64 x, ?_, .inr (.inl ⟨fs2, V, x, HP.out, rfl, ?_⟩)⟩
    · simp [results, Try.results13, go_sem, hE4]
    · exact att_close hst3 hm3 HO.out hW1 HM.out HS.out hsz
  · have HST := Lib.hid hst
    have HP := Lib.hid hP
    have HCC := Lib.hid (catch_pass J w.heap.size (w.heap.size + 1 + 1) (w.heap.size + 1) fs.length x V w1 O1 fs2 older w2 HN1.out HN3.out HN2.out oA oF oE hun hst hl2)
    have HOLD := Lib.hid hold
    clear hst hP hun hold
    go_wp2_with fail
    refine leaves_cons (f := 46) (args := #[.pointer (some ⟨w.heap.size, 0, none⟩), .pointer (some ⟨w.heap.size + 1 + 1, 0, none⟩), .pointer (some ⟨w.heap.size + 1, 0, none⟩)]) (by simp) (by simp [go_sem]) ?_
    refine HCC.out.mono ?_
    rintro e u' w'' ⟨rfl, rfl, hst3⟩
    refine .inr (.inr ⟨fs2, V, x, { v := .iface 3 (.int .i64 x), recovered := true } :: older, HP.out, ?_, rfl, ?_⟩)
    · intro p hp
      rcases List.mem_cons.1 hp with rfl | hp
      · rfl
      · exact HOLD.out p hp
    · exact hst3.lift HM.out HS.out

end Go.Proofs.Ytlcbfjcfkknmgaa
