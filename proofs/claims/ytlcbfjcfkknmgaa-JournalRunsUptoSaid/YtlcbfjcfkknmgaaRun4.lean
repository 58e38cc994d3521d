/- JournalRuns: a run of a program, up to its transactions. -/
import Derived.Test.YtlcbfjcfkknmgaaRun3
namespace Go.Proofs.Ytlcbfjcfkknmgaa
open Go.RowKit

attribute [local go_sem ↓] run_appOp

/-- what a run leaves -/
def Ran (J R : Nat) (W : World) (s : MS) (el : List (Nat × Obj)) (w1 : World) (O1 : Nat → Prop) (w2 : World) : Prop :=
  ∃ el2 fs2, (∀ p ∈ el, p ∈ el2) ∧ Fns el2 R s.ms fs2 ∧ St J (RnE NoP J R W s.log s.out el2) w1 O1 fs2 false w2

def RunEnd (r : Option Int) (e : Ending) : Prop := match r with
  | none => e = .returned (.tuple #[])
  | some x => e = .panicked [{ v := .iface 63 (.agg #[.int .i64 x]), recovered := false }]

def Runs (J R : Nat) (W : World) (f : Nat) : Prop :=
  ∀ (v : Value) (s : MS) (fs : List Value) (el : List (Nat × Obj)) (w1 : World) (O1 : Nat → Prop), Tree W f v → s.ms.length + s.log.length + cnt W f v ≤ 1000 → s.out.length + cnt W f v ≤ 1000 → Fns el R s.ms fs →
    St J (RnE NoP J R W s.log s.out el) w1 O1 fs false w1 →
    Calls Try.prog 33 #[.pointer (some ⟨R, 0, none⟩), v] w1 fun e w2 => RunEnd (mrun W f v s).2 e ∧ Ran J R W (mrun W f v s).1 el w1 O1 w2

theorem Ran.less {J R : Nat} {W : World} {s : MS} {el el2 : List (Nat × Obj)} {w1 w2 : World} {O1 : Nat → Prop} (h : Ran J R W s el2 w1 O1 w2) (hs : ∀ p ∈ el, p ∈ el2) : Ran J R W s el w1 O1 w2 := by
  obtain ⟨el3, fs2, h1, h2, h3⟩ := h
  exact ⟨el3, fs2, fun p hp => h1 p (hs p hp), h2, h3⟩

def RunOk (J R : Nat) (W : World) (r : MS × Option Int) (el : List (Nat × Obj)) (fs2 : List Value) (U2 : World → Prop) : Prop :=
  r.2 = none ∧ ∃ el2, (∀ p ∈ el, p ∈ el2) ∧ Fns el2 R r.1.ms fs2 ∧ U2 = RnE NoP J R W r.1.log r.1.out el2
def RunFail (J R : Nat) (W : World) (r : MS × Option Int) (el : List (Nat × Obj)) (fs2 : List Value) (V : List Value → World → Prop) (x : Int) : Prop :=
  r.2 = some x ∧ ∃ el2, (∀ p ∈ el, p ∈ el2) ∧ Fns el2 R r.1.ms fs2 ∧ V = RunV NoP J R W r.1.ms r.1.log r.1.out el2

theorem act_of (J R : Nat) (W : World) (r : MS × Option Int) (el : List (Nat × Obj)) (w1 w2 : World) (O1 : Nat → Prop) (e : Ending) (hR : W.heap.size ≤ R) (hlen : r.1.ms.length + r.1.log.length ≤ 1000) (he : RunEnd r.2 e) (h : Ran J R W r.1 el w1 O1 w2) :
    ActPost J (RunOk J R W r el) (RunFail J R W r el) (fun _ _ _ => False) w1 O1 e w2 := by
  obtain ⟨t, x⟩ := r
  obtain ⟨el2, fs2, h1, h2, h3⟩ := h
  cases x with
  | none => exact .inl ⟨fs2, _, ⟨rfl, el2, h1, h2, rfl⟩, he, h3⟩
  | some x =>
    have hl := h2.1
    simp only at hlen hl h2 h3
    refine .inr (.inl ⟨fs2, _, x, ⟨rfl, el2, h1, h2, rfl⟩, undoes_run NoP J R W _ _ _ el2 hR (by dsimp only; omega), by omega, he, h3.imp fun w hw => ⟨by dsimp only; omega, by rw [hl, List.take_length]; exact h2, ?_⟩⟩)
    rw [hl, List.drop_length]; simpa using hw

set_option maxHeartbeats 800000 in
theorem act_55 (J R rb ob : Nat) (W : World) (f : Nat) (kd n kv : Value) (s : MS) (fs : List Value) (el : List (Nat × Obj)) (hR : W.heap.size ≤ R) (hruns : Runs J R W f) (ht : Tree W f kv)
    (hlen : s.ms.length + s.log.length + cnt W f kv ≤ 1000) (hlen2 : s.out.length + cnt W f kv ≤ 1000) (hfn : Fns el R s.ms fs) (e1 : (rb, Obj.cells #[.pointer (some ⟨R, 0, none⟩)] 45 (0, 0)) ∈ el) (e2 : (ob, Obj.cells #[kd, n, kv] 55 (0, 0)) ∈ el) (w1 : World) (O1 : Nat → Prop)
    (h : St J (RnE NoP J R W s.log s.out el) w1 O1 fs false w1) :
    Calls Try.prog 55 #[.pointer (some ⟨rb, 0, none⟩), .pointer (some ⟨ob, 0, none⟩)] w1 (ActPost J (RunOk J R W (mrun W f kv s) el) (RunFail J R W (mrun W f kv s) el) (fun _ _ _ => False) w1 O1) := by
  obtain ⟨lv, ov, -, hn⟩ := h.user
  have hx := cell_of_one (hn.ex _ e1).1
  have ho := o_cell2 (hn.ex _ e2).1
  have HP := Lib.hid (hruns kv s fs el w1 O1 ht hlen hlen2 hfn h)
  have HSZ := Lib.hid (mrun_size W f kv s)
  obtain ⟨ka, kn, kc, rfl⟩ := ht.form
  clear h hruns ht hn
  generalize hr : mrun W f _ s = r at *
  clear hr
  go_enter Try.func55, Try.ntmps55
  go_wp2_with fail
  refine HP.out.mono ?_
  rintro e w2 ⟨he, hran⟩
  have HA := Lib.hid (act_of J R W r el w1 w2 O1 e hR (by have := HSZ.out; omega) he hran)
  clear hran
  obtain ⟨t, x⟩ := r
  cases x with
  | none =>
    obtain rfl := he
    go_wp2_with fail
    go_end0
    exact HA.out
  | some x =>
    obtain rfl := he
    exact ⟨rfl, HA.out⟩

def MS.rew (s : MS) (n : Int) : MS := if n < 0 ∨ (s.ms.length : Int) < n then s else s.cut n.toNat
def MS.forg (s : MS) (n : Int) : MS := if n < 0 ∨ (s.ms.length : Int) < n then s else s.forget n.toNat
def MS.err (s : MS) (n : Int) : Int := if n < 0 ∨ (s.ms.length : Int) < n then 2 else 0

theorem MS.rew_out (s : MS) (n : Int) : (s.rew n).out = s.out := by unfold MS.rew MS.cut; split <;> rfl
theorem MS.forg_out (s : MS) (n : Int) : (s.forg n).out = s.out := by unfold MS.forg MS.forget; split <;> rfl
theorem MS.forg_log (s : MS) (n : Int) : (s.forg n).log = s.log := by unfold MS.forg MS.forget; split <;> rfl
theorem mstep_2 (rec : Value → MS → MS × Option Int) (o : Op3) (s : MS) (h : o.kind = 2) : mstep rec o s = ((s.rew o.n).say (s.err o.n), none) := by
  simp only [mstep, h, MS.rew, MS.err]
  by_cases hb : o.n < 0 ∨ (s.ms.length : Int) < o.n <;> simp [hb]
theorem mstep_3 (rec : Value → MS → MS × Option Int) (o : Op3) (s : MS) (h : o.kind = 3) : mstep rec o s = ((s.forg o.n).say (s.err o.n), none) := by
  simp only [mstep, h, MS.forg, MS.err]
  by_cases hb : o.n < 0 ∨ (s.ms.length : Int) < o.n <;> simp [hb]

theorem rewind_any (P : Value → Prop) (J R : Nat) (W w0 w : World) (O0 : Nat → Prop) (s : MS) (n : Int) (fs : List Value) (el : List (Nat × Obj)) (hR : W.heap.size ≤ R) (hlen : s.ms.length + s.log.length ≤ 1000) (hfn : Fns el R s.ms fs) (h : St J (RnE P J R W s.log s.out el) w0 O0 fs false w) :
    Calls Try.prog 18 #[.pointer (some ⟨J, 0, none⟩), .int .i64 n] w fun e w' => e = .returned (.int .i64 (s.err n)) ∧ ∃ fs2, Fns el R (s.rew n).ms fs2 ∧ St J (RnE P J R W (s.rew n).log s.out el) w0 O0 fs2 false w' := by
  have hl := hfn.1
  by_cases hb : n < 0 ∨ (s.ms.length : Int) < n
  · have hbe : boundErr fs.length false n = 2 := by simp [boundErr, hl, hb]
    refine (rewind_err J _ w0 O0 fs false n w h (by rw [hbe]; rfl)).mono ?_
    rintro e w' ⟨rfl, rfl⟩
    refine ⟨by rw [hbe]; simp [MS.err, hb], fs, ?_, ?_⟩
    · simp only [MS.rew, hb, if_true]; exact hfn
    · simp only [MS.rew, hb, if_true]; exact h.alloc _
  · obtain ⟨k, rfl⟩ : ∃ k : Nat, n = k := ⟨n.toNat, by omega⟩
    refine (rewind_st J (RunV P J R W s.ms s.log s.out el) w0 O0 fs k w (undoes_run P J R W _ _ _ el hR (by omega)) (h.imp fun w hw => ⟨by omega, by rw [hl, List.take_length]; exact hfn, by rw [hl, List.drop_length]; simpa using hw⟩) (by omega) (by omega)).mono ?_
    rintro e w' ⟨rfl, h'⟩
    have hk : (fs.take k).length = k := by rw [List.length_take]; omega
    refine ⟨by simp only [MS.err, if_neg hb], fs.take k, ?_, ?_⟩
    · simp only [MS.rew, hb, if_false, MS.cut, Int.toNat_natCast]; exact hfn.take k
    · simp only [MS.rew, hb, if_false, MS.cut, Int.toNat_natCast]
      exact h'.imp fun w hw => by have := hw.2.2; rw [hk] at this; exact this

theorem forget_any (P : Value → Prop) (J R : Nat) (W w0 w : World) (O0 : Nat → Prop) (s : MS) (n : Int) (fs : List Value) (el : List (Nat × Obj)) (hlen : s.ms.length + s.log.length ≤ 1000) (hfn : Fns el R s.ms fs) (h : St J (RnE P J R W s.log s.out el) w0 O0 fs false w) :
    Calls Try.prog 36 #[.pointer (some ⟨J, 0, none⟩), .int .i64 n] w fun e w' => e = .returned (.int .i64 (s.err n)) ∧ ∃ fs2, Fns el R (s.forg n).ms fs2 ∧ St J (RnE P J R W s.log s.out el) w0 O0 fs2 false w' := by
  have hl := hfn.1
  by_cases hb : n < 0 ∨ (s.ms.length : Int) < n
  · have hbe : boundErr fs.length false n = 2 := by simp [boundErr, hl, hb]
    obtain ⟨sl, Uo, hq, h2⟩ := h
    refine (forget_err J sl fs false n w hq (by rw [hbe]; rfl)).mono ?_
    rintro e w' ⟨rfl, rfl⟩
    refine ⟨by rw [hbe]; simp [MS.err, hb], fs, ?_, ⟨sl, Uo, hq, h2⟩⟩
    simp only [MS.forg, hb, if_true]; exact hfn
  · obtain ⟨k, rfl⟩ : ∃ k : Nat, n = k := ⟨n.toNat, by omega⟩
    refine (forget_st J _ w0 O0 fs k w h (by omega) (by omega)).mono ?_
    rintro e w' ⟨rfl, h'⟩
    refine ⟨by simp only [MS.err, if_neg hb], fs.take k, ?_, h'⟩
    simp only [MS.forg, hb, if_false, MS.forget, Int.toNat_natCast]; exact hfn.take k

/-- all that the append of a result needs to know -/
def OutAt (J R rb ob : Nat) (W w1 : World) (O1 : Nat → Prop) (ov : Value) (n x : Int) (u : MS) (el : List (Nat × Obj)) (w' : World) : Prop :=
  ∃ a' c' w2, ((w'.cell? ⟨rb, 0, none⟩ = some (.pointer (some ⟨R, 0, none⟩)) ∧ w'.cell? ⟨R, 0, none⟩ = some (.pointer (some ⟨J, 0, none⟩)) ∧ w'.cell? ⟨ob, 1, none⟩ = some (.int .i64 n)) ∧ w'.cell? ⟨R, 2, none⟩ = some ov ∧ rb < w'.heap.size ∧ R < w'.heap.size ∧ ob < w'.heap.size) ∧
    (AppOK Try.prog 30 30 ov (.slice (some ⟨w'.heap.size, 0, none⟩) 1 1) (w'.alloc (.cells #[.int .i64 x] 3)) ∧ appV Try.prog 30 30 ov (.slice (some ⟨w'.heap.size, 0, none⟩) 1 1) (w'.alloc (.cells #[.int .i64 x] 3)) = .slice a' (u.out.length + 1) c' ∧
      appW Try.prog 30 30 ov (.slice (some ⟨w'.heap.size, 0, none⟩) 1 1) (w'.alloc (.cells #[.int .i64 x] 3)) = w2) ∧
    (w2.cell? ⟨rb, 0, none⟩ = some (.pointer (some ⟨R, 0, none⟩)) ∧ w2.cell? ⟨R, 0, none⟩ = some (.pointer (some ⟨J, 0, none⟩)) ∧ w2.cell? ⟨ob, 1, none⟩ = some (.int .i64 n)) ∧ (w2.cell? ⟨R, 2, none⟩ = some ov ∧ w2.frozen? ⟨R, 2, none⟩ = false ∧ rb < w2.heap.size ∧ R < w2.heap.size ∧ ob < w2.heap.size) ∧
    Hid (Ran J R W (u.say x) el w1 O1 (w2.setCell ⟨R, 2, none⟩ (.slice a' (u.out.length + 1) c')))

theorem out_at (J R rb ob : Nat) (W w1 w' : World) (O1 : Nat → Prop) (ov kd kv : Value) (n x : Int) (u : MS) (fs : List Value) (el : List (Nat × Obj)) (hR : W.heap.size ≤ R) (hlen : u.out.length ≤ 1000) (e1 : (rb, Obj.cells #[.pointer (some ⟨R, 0, none⟩)] 45 (0, 0)) ∈ el) (e2 : (ob, Obj.cells #[kd, .int .i64 n, kv] 55 (0, 0)) ∈ el)
    (hfn : Fns el R u.ms fs) (h : St J (RnE (fun v => v = ov) J R W u.log u.out el) w1 O1 fs false w') : OutAt J R rb ob W w1 O1 ov n x u el w' := by
  obtain ⟨lv, ov', rfl, hn⟩ := h.user
  obtain ⟨h1, m1, -, n1⟩ := hn.ex _ e1
  obtain ⟨h2, m2, -, n2⟩ := hn.ex _ e2
  obtain ⟨r0, -, r2⟩ := r_cell hn.r
  have l1 := lt_of_block h1
  have l2 := lt_of_block h2
  have l3 := lt_of_block hn.r
  obtain ⟨a', c', w2, hok, hv, hw, hown, hmv, hnew⟩ := app_one ov' x u.out W.heap.size w' _ (.inr rfl) hn.our (by omega) (by omega)
  have hr2 : w2.heap[R]? = some (.cells #[.pointer (some ⟨J, 0, none⟩), lv, ov'] 47 (0, 0)) := by rw [hmv.block R l3 hn.n2]; exact hn.r
  obtain ⟨k0, -, k2⟩ := r_cell hr2
  have g1 : w2.heap[rb]? = some (.cells #[.pointer (some ⟨R, 0, none⟩)] 45 (0, 0)) := by rw [hmv.block rb l1 n1]; exact h1
  have g2 : w2.heap[ob]? = some (.cells #[kd, .int .i64 n, kv] 55 (0, 0)) := by rw [hmv.block ob l2 n2]; exact h2
  have fz : w2.frozen? ⟨R, 2, none⟩ = false := by simp [World.frozen?, hr2]
  exact ⟨a', c', w2, ⟨⟨cell_of_one h1, r0, o_cell1 h2⟩, r2, l1, l3, l2⟩, ⟨hok, hv, hw⟩, ⟨cell_of_one g1, k0, o_cell1 g2⟩, ⟨k2, fz, lt_of_block g1, lt_of_block hr2, lt_of_block g2⟩, Lib.hid ⟨el, fs, fun p hp => hp, hfn, h.appout hR hn ⟨_, w2, rfl, hown, hmv, hnew⟩⟩⟩

end Go.Proofs.Ytlcbfjcfkknmgaa
