/- JournalRuns: the undo functions of a runner. -/
import Derived.Test.YtlcbfjcfkknmgaaRun1
namespace Go.Proofs.Ytlcbfjcfkknmgaa
open Go.RowKit

attribute [local go_sem ↓] run_appOp

section
variable {P : Value → Prop} {J R : Nat} {W w w' w0 : World} {lv ov : Value} {log out : List Int} {el : List (Nat × Obj)} {O0 : Nat → Prop} {fs : List Value} {run : Bool} {x : Int}

theorem Fp.rnAt {Uo : Nat → Prop} (hf : Fp (RnE P J R W log out el) Uo w) (hn : Rn J R W lv ov log out el w) : Fp (Rn J R W lv ov log out el) Uo w := by
  obtain ⟨lv', ov', _, hf'⟩ := hf.rnE
  have h1 := hf'.now.r
  rw [hn.r] at h1
  simp at h1
  obtain ⟨rfl, rfl⟩ := h1
  exact hf'

theorem St.applog (hR : W.heap.size ≤ R) (h : St J (RnE P J R W log out el) w0 O0 fs run w) (hn : Rn J R W lv ov log out el w) (ha : AppR R 1 lv x log W.heap.size w w') : St J (RnE P J R W (log ++ [x]) out el) w0 O0 fs run w' :=
  h.step fun _ hf => ha.log hR (by
    obtain ⟨lv', ov', hp, hf'⟩ := hf.rnE
    have h1 := hf'.now.r
    rw [hn.r] at h1
    simp at h1
    rw [h1.2]; exact hp) (hf.rnAt hn)
theorem St.appout (hR : W.heap.size ≤ R) (h : St J (RnE P J R W log out el) w0 O0 fs run w) (hn : Rn J R W lv ov log out el w) (ha : AppR R 2 ov x out W.heap.size w w') : St J (RnE NoP J R W log (out ++ [x]) el) w0 O0 fs run w' :=
  h.step fun _ hf => ha.out hR (hf.rnAt hn)
end

/-- what an append of one number comes to -/
theorem app_one (v : Value) (x : Int) (xs : List Int) (base : Nat) (w w1 : World) (hw : w1 = (w.alloc (.cells #[.int .i64 x] 3)).drew ∨ w1 = w.alloc (.cells #[.int .i64 x] 3)) (hrow : w.ownsRow base 3 1 v xs.length (xs.map (Value.int .i64))) (hb : base ≤ w.heap.size) (hlen : xs.length ≤ 1000000) :
    ∃ a' c' w2, AppOK Try.prog 30 30 v (.slice (some ⟨w.heap.size, 0, none⟩) 1 1) w1 ∧ appV Try.prog 30 30 v (.slice (some ⟨w.heap.size, 0, none⟩) 1 1) w1 = .slice a' (xs.length + 1) c' ∧ appW Try.prog 30 30 v (.slice (some ⟨w.heap.size, 0, none⟩) 1 1) w1 = w2 ∧
      w2.ownsRow base 3 1 (.slice a' (xs.length + 1) c') (xs.length + 1) ((xs ++ [x]).map (Value.int .i64)) ∧ Mv (fun b => v.ownBlock = some b) w w2 ∧ (∀ g, (Value.slice a' (xs.length + 1) c').ownBlock = some g → v.ownBlock = some g ∨ w.heap.size ≤ g) := by
  obtain ⟨i0, hi, hz0, hz1, hz2⟩ := info_parts Try.info3
  have hh : w1.heap = (w.alloc (.cells #[.int .i64 x] 3)).heap := by rcases hw with rfl | rfl <;> rfl
  have hnew1 : w1.heap[w.heap.size]? = some (.cells #[.int .i64 x] 3 (0, 0)) := by rw [hh]; exact heap_alloc_new w _
  have hmv1 : Mv (fun b => v.ownBlock = some b) w w1 := by
    rcases hw with rfl | rfl
    · exact ((Mv.refl _ _).alloc _).drew
    · exact (Mv.refl _ _).alloc _
  have hrow1 : w1.ownsRow base 3 1 v xs.length (xs.map (Value.int .i64)) := by
    rcases hw with rfl | rfl
    · exact (hrow.alloc _).drew
    · exact hrow.alloc _
  have hsz : w1.heap.size = w.heap.size + 1 := by rw [hh]; simp
  obtain ⟨v', w2, hr, hown1, hgrow, _, hnew⟩ := run_append_own2 (P := Try.prog) w1 base 30 30 3 i0 (.int .i64 0) 1 8 Try.underlying30 hi hz0 hz1 hz2 rfl (by decide) v _ _ hrow1 ⟨w.heap.size, 0, none⟩ 1 1 [.int .i64 x] rfl
    (World.news_of_block (cs := #[.int .i64 x]) (t := 3) (fr := (0, 0)) hnew1) (by simp [Value.oneCell']) (by unfold maxLen; omega) (by omega) (by omega)
  obtain ⟨a', c', rfl⟩ := row_form hown1
  obtain ⟨hok, hv, hw2⟩ := app_of hr
  refine ⟨a', c', w2, hok, hv, hw2, by simpa using hown1, hmv1.grown hgrow (fun k hk => .inl hk), fun g hg => ?_⟩
  rcases hnew g hg with h1 | h1
  · exact .inl h1
  · exact .inr (by omega)

set_option maxRecDepth 100000 in
set_option maxHeartbeats 3200000 in
theorem undo_52 (P : Value → Prop) (J R rb ob : Nat) (W w0 w : World) (kd kv : Value) (n : Int) (log out : List Int) (el : List (Nat × Obj)) (O0 : Nat → Prop) (fs : List Value) (run : Bool) (hR : W.heap.size ≤ R) (hlen : log.length ≤ 100000)
    (e1 : (rb, Obj.cells #[.pointer (some ⟨R, 0, none⟩)] 45 (0, 0)) ∈ el) (e2 : (ob, Obj.cells #[kd, .int .i64 n, kv] 55 (0, 0)) ∈ el) (h : St J (RnE P J R W log out el) w0 O0 fs run w) :
    Calls Try.prog 52 #[.pointer (some ⟨rb, 0, none⟩), .pointer (some ⟨ob, 0, none⟩)] w fun e w' => e = .returned (.tuple #[]) ∧ St J (RnE P J R W (log ++ [n]) out el) w0 O0 fs run w' := by
  obtain ⟨lv, ov, -, hn⟩ := h.user
  obtain ⟨h1, m1, n1, _⟩ := hn.ex _ e1
  obtain ⟨h2, m2, n2, _⟩ := hn.ex _ e2
  have n3 := hn.n1
  have c1 := cell_of_one h1
  have c2 := o_cell1 h2
  obtain ⟨-, c3, -⟩ := r_cell hn.r
  have l1 := lt_of_block h1
  have l2 := lt_of_block h2
  have l3 := lt_of_block hn.r
  obtain ⟨a', c', w2, hok, hv, hw, hown, hmv, hnew⟩ := app_one lv n log W.heap.size w _ (.inl rfl) hn.lr (by omega) (by omega)
  have k1 := cell_of_one (show w2.heap[rb]? = _ from by rw [hmv.block rb l1 n1]; exact h1)
  have hr2 : w2.heap[R]? = some (.cells #[.pointer (some ⟨J, 0, none⟩), lv, ov] 47 (0, 0)) := by rw [hmv.block R l3 n3]; exact hn.r
  obtain ⟨-, k3, -⟩ := r_cell hr2
  have fz : w2.frozen? ⟨R, 1, none⟩ = false := by simp [World.frozen?, hr2]
  have HST := Lib.hid (h.applog hR hn ⟨_, w2, rfl, hown, hmv, hnew⟩)
  obtain ⟨la, lc, hlv⟩ := row_form hn.lr
  subst hlv
  clear h hn h1 h2 n1 n2 n3 hown hmv hnew hr2
  go_enter Try.func52, Try.ntmps52
  go_region
  go_end0
  exact ⟨rfl, HST.out⟩

theorem record_run (J : Nat) (U : World → Prop) (w0 : World) (O0 : Nat → Prop) (fs : List Value) (fn : Fn) (x y : Array Value) (w : World) (h : St J U w0 O0 fs true w) :
    Calls Try.prog 19 #[.pointer (some ⟨J, 0, none⟩), .func fn x y] w fun e w' => e = .returned (.tuple #[]) ∧ w = w' := by
  obtain ⟨s, Uo, hq, _⟩ := h
  exact record_running J s fn x y w hq.blk
theorem forget_run (J : Nat) (U : World → Prop) (w0 : World) (O0 : Nat → Prop) (fs : List Value) (k : Int) (w : World) (h : St J U w0 O0 fs true w) :
    Calls Try.prog 36 #[.pointer (some ⟨J, 0, none⟩), .int .i64 k] w fun e w' => e = .returned (.int .i64 20) ∧ w = w' := by
  obtain ⟨s, Uo, hq, _⟩ := h
  exact forget_err J s fs true k w hq rfl
theorem rewind_run (J : Nat) (U : World → Prop) (w0 : World) (O0 : Nat → Prop) (fs : List Value) (k : Int) (w : World) (h : St J U w0 O0 fs true w) :
    Calls Try.prog 18 #[.pointer (some ⟨J, 0, none⟩), .int .i64 k] w fun e w' => e = .returned (.int .i64 20) ∧ w.alloc (.cells #[.pointer (some ⟨J, 0, none⟩)] 26) = w' := rewind_err J U w0 O0 fs true k w h rfl

set_option maxRecDepth 100000 in
set_option maxHeartbeats 3200000 in
theorem undo_53 (P : Value → Prop) (J R rb ob : Nat) (W w0 w : World) (kd kv : Value) (n : Int) (log out : List Int) (el : List (Nat × Obj)) (O0 : Nat → Prop) (fs : List Value) (hR : W.heap.size ≤ R) (hlen : log.length ≤ 100000)
    (e1 : (rb, Obj.cells #[.pointer (some ⟨R, 0, none⟩)] 45 (0, 0)) ∈ el) (e2 : (ob, Obj.cells #[kd, .int .i64 n, kv] 55 (0, 0)) ∈ el) (h : St J (RnE P J R W log out el) w0 O0 fs true w) :
    Calls Try.prog 53 #[.pointer (some ⟨rb, 0, none⟩), .pointer (some ⟨ob, 0, none⟩)] w fun e w' => e = .returned (.tuple #[]) ∧ St J (RnE P J R W (log ++ [wrap64 (-1000000 - n)]) out el) w0 O0 fs true w' := by
  obtain ⟨lv, ov, -, hn⟩ := h.user
  obtain ⟨h1, m1, n1, _⟩ := hn.ex _ e1
  obtain ⟨h2, m2, n2, _⟩ := hn.ex _ e2
  have n3 := hn.n1
  have c1 := cell_of_one h1
  have c2 := o_cell1 h2
  obtain ⟨-, c3, -⟩ := r_cell hn.r
  have l1 := lt_of_block h1
  have l2 := lt_of_block h2
  have l3 := lt_of_block hn.r
  obtain ⟨a', c', w2, hok, hv, hw, hown, hmv, hnew⟩ := app_one lv (wrap64 (-1000000 - n)) log W.heap.size w _ (.inl rfl) hn.lr (by omega) (by omega)
  have k1 := cell_of_one (show w2.heap[rb]? = _ from by rw [hmv.block rb l1 n1]; exact h1)
  have hr2 : w2.heap[R]? = some (.cells #[.pointer (some ⟨J, 0, none⟩), lv, ov] 47 (0, 0)) := by rw [hmv.block R l3 n3]; exact hn.r
  obtain ⟨-, k3, -⟩ := r_cell hr2
  have fz : w2.frozen? ⟨R, 1, none⟩ = false := by simp [World.frozen?, hr2]
  have hst := h.applog hR hn ⟨_, w2, rfl, hown, hmv, hnew⟩
  have HST := Lib.hid hst
  have HL := Lib.hid (len_st _ _ _ _ _ _ _ hst)
  have HREC := Lib.hid (record_run _ _ _ _ _ (.func 54) #[] #[.pointer (some ⟨rb, 0, none⟩)] _ hst)
  have HRW := Lib.hid (rewind_run _ _ _ _ _ 0 _ hst)
  have hst2 := hst.alloc (.cells #[.pointer (some ⟨J, 0, none⟩)] 26)
  have HF := Lib.hid (forget_run _ _ _ _ _ 0 _ hst2)
  have HL2 := Lib.hid (len_st _ _ _ _ _ _ _ hst2)
  have HST2 := Lib.hid hst2
  obtain ⟨lv2, ov2, -, hn2⟩ := hst.user
  obtain ⟨q1, q2, _⟩ := hn2.ex _ e1
  have s1 := cell_of_one q1
  obtain ⟨s0, -, -⟩ := r_cell hn2.r
  have t1 := lt_of_block q1
  have t0 := lt_of_block hn2.r
  obtain ⟨la, lc, hlv⟩ := row_form hn.lr
  subst hlv
  clear h hn h1 h2 n1 n2 n3 hown hmv hnew hr2 hst hst2 hn2 q1
  go_enter Try.func53, Try.ntmps53
  go_wp2_with fail
  go_region
  generalize w2.setCell ⟨R, 1, none⟩ (.slice a' (log.length + 1) c') = w4 at *
  go_wp2_with fail
  refine HL.out.mono ?_
  rintro e w' ⟨rfl, rfl⟩
  go_wp2_with fail
  refine HREC.out.mono ?_
  rintro e w' ⟨rfl, rfl⟩
  go_wp2_with fail
  refine HRW.out.mono ?_
  rintro e w' ⟨rfl, rfl⟩
  go_wp2_with fail
  refine HF.out.mono ?_
  rintro e w' ⟨rfl, rfl⟩
  go_wp2_with fail
  refine HL2.out.mono ?_
  rintro e w' ⟨rfl, rfl⟩
  go_wp2_with fail
  go_end0
  exact ⟨rfl, HST2.out⟩

end Go.Proofs.Ytlcbfjcfkknmgaa
