/- JournalRuns: a run of a program agrees with the plain model. -/
import Derived.Test.YtlcbfjcfkknmgaaRun4
import Derived.Test.YtlcbfjcfkknmgaaTail
import Derived.Deep.RegionHeld3
import Derived.Deep.DrawnRows
namespace Go.Proofs.Ytlcbfjcfkknmgaa
open Go.RowKit

attribute [local go_sem ↓] run_appOp Go.wp_at_zero Go.wp_at_succ

theorem mlist_bd (W : World) (f : Nat) (l : List Op3) (k : Nat) (s t : MS) (h : mlist (mrun W f) (l.take k) s = (t, none)) :
    t.ms.length + t.log.length ≤ s.ms.length + s.log.length + cntTo W f l k ∧ t.out.length ≤ s.out.length + cntTo W f l k := by
  have h1 := mlist_size W f (mrun_size W f) (l.take k) s
  rw [h] at h1
  exact h1

theorem cntTo_all (W : World) (f : Nat) (l : List Op3) (k : Nat) : cntTo W f l k ≤ cntTo W f l l.length := by
  have := cntTo_le W f l k
  unfold cntTo at this ⊢
  rw [List.take_length]; exact this

/-- the calls inside a region -/
theorem rewind_out (J R rb ob : Nat) (W w1 w : World) (O1 : Nat → Prop) (ov kd kv : Value) (n : Int) (s : MS) (fs : List Value) (el : List (Nat × Obj)) (hR : W.heap.size ≤ R) (hlen : s.ms.length + s.log.length ≤ 1000) (hlen2 : s.out.length ≤ 1000)
    (e1 : (rb, Obj.cells #[.pointer (some ⟨R, 0, none⟩)] 45 (0, 0)) ∈ el) (e2 : (ob, Obj.cells #[kd, .int .i64 n, kv] 55 (0, 0)) ∈ el) (hfn : Fns el R s.ms fs) (h : St J (RnE (fun v => v = ov) J R W s.log s.out el) w1 O1 fs false w) :
    Calls Try.prog 18 #[.pointer (some ⟨J, 0, none⟩), .int .i64 n] w fun e w' => e = .returned (.int .i64 (s.err n)) ∧ OutAt J R rb ob W w1 O1 ov n (s.err n) (s.rew n) el w' := by
  refine (rewind_any _ J R W w1 w O1 s n fs el hR hlen hfn h).mono ?_
  rintro e w' ⟨rfl, fs2, hfn2, hst⟩
  rw [← s.rew_out n] at hst
  exact ⟨rfl, out_at J R rb ob W w1 w' O1 ov kd kv n _ (s.rew n) fs2 el hR (by rw [s.rew_out]; exact hlen2) e1 e2 hfn2 hst⟩
theorem forget_out (J R rb ob : Nat) (W w1 w : World) (O1 : Nat → Prop) (ov kd kv : Value) (n : Int) (s : MS) (fs : List Value) (el : List (Nat × Obj)) (hR : W.heap.size ≤ R) (hlen : s.ms.length + s.log.length ≤ 1000) (hlen2 : s.out.length ≤ 1000)
    (e1 : (rb, Obj.cells #[.pointer (some ⟨R, 0, none⟩)] 45 (0, 0)) ∈ el) (e2 : (ob, Obj.cells #[kd, .int .i64 n, kv] 55 (0, 0)) ∈ el) (hfn : Fns el R s.ms fs) (h : St J (RnE (fun v => v = ov) J R W s.log s.out el) w1 O1 fs false w) :
    Calls Try.prog 36 #[.pointer (some ⟨J, 0, none⟩), .int .i64 n] w fun e w' => e = .returned (.int .i64 (s.err n)) ∧ OutAt J R rb ob W w1 O1 ov n (s.err n) (s.forg n) el w' := by
  refine (forget_any _ J R W w1 w O1 s n fs el hlen hfn h).mono ?_
  rintro e w' ⟨rfl, fs2, hfn2, hst⟩
  rw [← s.forg_out n, ← s.forg_log n] at hst
  exact ⟨rfl, out_at J R rb ob W w1 w' O1 ov kd kv n _ (s.forg n) fs2 el hR (by rw [s.forg_out]; exact hlen2) e1 e2 hfn2 hst⟩

/-- a transaction of a run, behind it -/
theorem att_ran (J R : Nat) (W w1 w3 : World) (O1 : Nat → Prop) (t : MS) (r : MS × Option Int) (el : List (Nat × Obj)) (n : Nat) (e : Ending) (hn : n = t.ms.length) (h : AttPost J n (RunOk J R W r el) (RunFail J R W r el) (fun _ _ _ => False) w1 O1 e w3) :
    ∃ (x : Int) (u : MS) (el3 : List (Nat × Obj)) (fs3 : List Value), mtry t r = u.say x ∧ e = .returned (.int .i64 x) ∧ u.out = r.1.out ∧ (∀ p ∈ el, p ∈ el3) ∧ Fns el3 R u.ms fs3 ∧ St J (RnE NoP J R W u.log u.out el3) w1 O1 fs3 false w3 := by
  subst hn
  rcases h with ⟨fs3, U3, ⟨hr, el3, hs, hf, rfl⟩, he, hst⟩ | ⟨fs3, V, x, ⟨hr, el3, hs, hf, rfl⟩, he, hst⟩ | ⟨_, _, _, _, hP, _⟩
  · exact ⟨0, r.1, el3, fs3, by simp [mtry, hr], he, rfl, hs, hf, hst⟩
  · refine ⟨x, r.1.cut t.ms.length, el3, fs3.take t.ms.length, by simp [mtry, hr], he, rfl, hs, hf.take _, hst.imp fun w hw => ?_⟩
    have h1 := hw.2.2
    have h2 : (fs3.take t.ms.length).length = min t.ms.length r.1.ms.length := by rw [List.length_take, hf.1]
    rw [h2] at h1
    simp only [MS.cut]
    rcases Nat.le_total t.ms.length r.1.ms.length with h3 | h3
    · rwa [Nat.min_eq_left h3] at h1
    · rw [Nat.min_eq_right h3, List.drop_length] at h1
      rw [List.drop_of_length_le h3]
      exact h1
  · exact hP.elim

/-- all that the append of a transaction's result needs to know -/
theorem out_drew (J R rb : Nat) (W w1 w' : World) (O1 : Nat → Prop) (ov : Value) (x : Int) (u : MS) (fs : List Value) (el : List (Nat × Obj)) (hR : W.heap.size ≤ R) (hlen : u.out.length ≤ 1000) (e1 : (rb, Obj.cells #[.pointer (some ⟨R, 0, none⟩)] 45 (0, 0)) ∈ el)
    (hfn : Fns el R u.ms fs) (h : St J (RnE (fun v => v = ov) J R W u.log u.out el) w1 O1 fs false w') :
    ∃ a' c' w2, (w'.cell? ⟨rb, 0, none⟩ = some (.pointer (some ⟨R, 0, none⟩)) ∧ w'.cell? ⟨R, 2, none⟩ = some ov ∧ rb < w'.heap.size ∧ R < w'.heap.size) ∧
    (AppOK Try.prog 30 30 ov (.slice (some ⟨w'.heap.size, 0, none⟩) 1 1) (w'.alloc (.cells #[.int .i64 x] 3)).drew ∧ appV Try.prog 30 30 ov (.slice (some ⟨w'.heap.size, 0, none⟩) 1 1) (w'.alloc (.cells #[.int .i64 x] 3)).drew = .slice a' (u.out.length + 1) c' ∧
      appW Try.prog 30 30 ov (.slice (some ⟨w'.heap.size, 0, none⟩) 1 1) (w'.alloc (.cells #[.int .i64 x] 3)).drew = w2) ∧
    (w2.cell? ⟨rb, 0, none⟩ = some (.pointer (some ⟨R, 0, none⟩)) ∧ w2.cell? ⟨R, 2, none⟩ = some ov ∧ w2.frozen? ⟨R, 2, none⟩ = false ∧ rb < w2.heap.size ∧ R < w2.heap.size) ∧
    Hid (Ran J R W (u.say x) el w1 O1 (w2.setCell ⟨R, 2, none⟩ (.slice a' (u.out.length + 1) c'))) := by
  obtain ⟨lv, ov', rfl, hn⟩ := h.user
  obtain ⟨h1, m1, -, n1⟩ := hn.ex _ e1
  obtain ⟨r0, -, r2⟩ := r_cell hn.r
  have l1 := lt_of_block h1
  have l3 := lt_of_block hn.r
  obtain ⟨a', c', w2, hok, hv, hw, hown, hmv, hnew⟩ := app_one ov' x u.out W.heap.size w' _ (.inl rfl) hn.our (by omega) (by omega)
  have hr2 : w2.heap[R]? = some (.cells #[.pointer (some ⟨J, 0, none⟩), lv, ov'] 47 (0, 0)) := by rw [hmv.block R l3 hn.n2]; exact hn.r
  obtain ⟨k0, -, k2⟩ := r_cell hr2
  have g1 : w2.heap[rb]? = some (.cells #[.pointer (some ⟨R, 0, none⟩)] 45 (0, 0)) := by rw [hmv.block rb l1 n1]; exact h1
  have fz : w2.frozen? ⟨R, 2, none⟩ = false := by simp [World.frozen?, hr2]
  exact ⟨a', c', w2, ⟨cell_of_one h1, r2, l1, l3⟩, ⟨hok, hv, hw⟩, ⟨cell_of_one g1, k2, fz, lt_of_block g1, lt_of_block hr2⟩, Lib.hid ⟨el, fs, fun p hp => hp, hfn, h.appout hR hn ⟨_, w2, rfl, hown, hmv, hnew⟩⟩⟩

set_option maxRecDepth 100000 in
set_option maxHeartbeats 1600000 in
theorem run_step (J R : Nat) (W : World) (f : Nat) (hR : W.heap.size ≤ R) (ih : Runs J R W f) : Runs J R W (f + 1) := by
  intro v s fs el w1 O1 ht hlen hlen2 hfn h
  obtain ⟨hin, hkids⟩ := ht
  obtain ⟨a, cap, hv, hlenl⟩ := hin.form
  have hce : cnt W (f + 1) v = cntTo W f (ops W v) (ops W v).length := by unfold cntTo; rw [List.take_length]; rfl
  have hme : mrun W (f + 1) v s = mlist (mrun W f) (ops W v) s := rfl
  rw [hce] at hlen hlen2
  rw [hme]
  generalize hl : ops W v = l at *
  subst hv
  have h0 := h.rex (.cells #[.pointer (some ⟨R, 0, none⟩)] 45)
  have H0 := Lib.hid h0
  have HIN := Lib.hid hin
  have HK := Lib.hid hkids
  have IH := Lib.hid ih
  have HFN := Lib.hid hfn
  clear h h0 hin hkids ih hfn hl hce hme
  go_enter Try.func33, Try.ntmps33
  go_wp2_with fail
  go_loopw [4] (fun i wr => ∃ k : Nat, i = .int .i64 k ∧ k ≤ l.length ∧ ∃ t, mlist (mrun W f) (l.take k) s = (t, none) ∧ Ran J R W t ((w1.heap.size, .cells #[.pointer (some ⟨R, 0, none⟩)] 45 (0, 0)) :: el) w1 O1 wr) (fun i _ => l.length - (intOf i).toNat)
  case atStart => exact ⟨0, rfl, Nat.zero_le _, s, rfl, _, fs, fun p hp => hp, HFN.out.more fun p hp => List.mem_cons_of_mem _ hp, H0.out⟩
  obtain ⟨k, rfl, hk, t, hmt, el2, fs2, hsub, hfn2, hst⟩ := hrel
  have hbd := mlist_bd W f l k s t hmt
  have hca := cntTo_all W f l k
  obtain ⟨lv, ov, -, hn, hst1⟩ := hst.named
  have e1 : (w1.heap.size, Obj.cells #[.pointer (some ⟨R, 0, none⟩)] 45 (0, 0)) ∈ el2 := hsub _ (by simp)
  have hx := cell_of_one (hn.ex _ e1).1
  have hxl := lt_of_block (hn.ex _ e1).1
  obtain ⟨oa, oc, hov⟩ := row_form hn.our
  subst hov
  obtain ⟨r0, -, r2⟩ := r_cell hn.r
  have hRl := lt_of_block hn.r
  have HMT := Lib.hid hmt
  have HST1 := Lib.hid hst1
  clear hmt
  by_cases hlt : k < l.length
  · obtain ⟨b, off, cap', e, hb, c0, c1, c2⟩ := HIN.out.at hn.old hlt
    simp only [Value.slice.injEq, true_and] at e
    obtain ⟨rfl, rfl⟩ := e
    have hs := cntTo_succ W f l k hlt
    have hca1 := cntTo_all W f l (k + 1)
    have hbl : b < wr.heap.size := World.block_lt_of_cell? wr _ c0
    have htk := HK.out l[k] (List.getElem_mem hlt)
    have HSN := Lib.hid (mlist_snoc (mrun W f) l k hlt s t HMT.out)
    have HFL := Lib.hid (fun u e => mlist_fail (mrun W f) l k hlt s t u e HMT.out)
    generalize hok : l[k] = o at *
    obtain ⟨kd, n, kv⟩ := o
    simp only at c0 c1 c2 htk hs
    obtain ⟨ka, kn, kc, rfl⟩ := htk.form
    have HT := Lib.hid htk
    have HS := Lib.hid hs
    have HSUB := Lib.hid hsub
    have HFN2 := Lib.hid hfn2
    have HST := Lib.hid hst
    have hcc : cntTo W f l k + 1 + cnt W f (.slice ka kn kc) ≤ cntTo W f l l.length := by omega
    clear htk hs hsub hfn2 hst hst1 hn hok hca1
    by_cases h1 : kd = 1
    · subst h1
      have hrx := HST.out.rex (.cells #[.int .i64 1, .int .i64 n, .slice ka kn kc] 55)
      have hfl := HFN2.out.1
      have HREC := Lib.hid (record_st J _ _ _ _ (.func 52) #[] #[.pointer (some ⟨w1.heap.size, 0, none⟩), .pointer (some ⟨wr.heap.size, 0, none⟩)] _ hrx (by omega))
      have HMS := Lib.hid (show mstep (mrun W f) ⟨1, n, .slice ka kn kc⟩ t = (t.push n, none) from by simp [mstep])
      have HFE := Lib.hid (hfl)
      clear hrx hfl
      go_wp2_with fail
      refine HREC.out.mono ?_
      rintro e w2 ⟨rfl, hst2⟩
      have HST2 := Lib.hid hst2
      clear hst2
      go_wp2_with fail
      go_roundw
      case rel =>
        refine ⟨k + 1, by go_num, by omega, t.push n, by rw [HSN.out, HMS.out], _, _, fun p hp => List.mem_cons_of_mem _ (HSUB.out p hp), ?_, HST2.out⟩
        exact (HFN2.out.more fun p hp => List.mem_cons_of_mem _ hp).push ⟨w1.heap.size, wr.heap.size, _, n, _, List.mem_cons_of_mem _ e1, List.mem_cons_self, .inl ⟨rfl, rfl⟩⟩
      case measure => simp [intOf]; omega
    · have h1b : (kd == 1) = false := by simpa using h1
      by_cases h6 : kd = 6
      · subst h6
        clear h1 h1b
        have hrx := HST.out.rex (.cells #[.int .i64 6, .int .i64 n, .slice ka kn kc] 55)
        have hfl := HFN2.out.1
        have HREC := Lib.hid (record_st J _ _ _ _ (.func 53) #[] #[.pointer (some ⟨w1.heap.size, 0, none⟩), .pointer (some ⟨wr.heap.size, 0, none⟩)] _ hrx (by omega))
        have HMS := Lib.hid (show mstep (mrun W f) ⟨6, n, .slice ka kn kc⟩ t = (t.push (wrap64 (-1000000 - n)), none) from by simp [mstep])
        have HFE := Lib.hid (hfl)
        clear hrx hfl
        go_wp2_with fail
        refine HREC.out.mono ?_
        rintro e w2 ⟨rfl, hst2⟩
        have HST2 := Lib.hid hst2
        clear hst2
        go_wp2_with fail
        go_roundw
        case rel =>
          refine ⟨k + 1, by go_num, by omega, t.push (wrap64 (-1000000 - n)), by rw [HSN.out, HMS.out], _, _, fun p hp => List.mem_cons_of_mem _ (HSUB.out p hp), ?_, HST2.out⟩
          exact (HFN2.out.more fun p hp => List.mem_cons_of_mem _ hp).push ⟨w1.heap.size, wr.heap.size, _, n, _, List.mem_cons_of_mem _ e1, List.mem_cons_self, .inr ⟨rfl, rfl⟩⟩
        case measure => simp [intOf]; omega
      · have h6b : (kd == 6) = false := by simpa using h6
        by_cases h2 : kd = 2
        · subst h2
          clear h1 h1b h6 h6b
          have HMS := Lib.hid (mstep_2 (mrun W f) ⟨2, n, .slice ka kn kc⟩ t rfl)
          have hst3 := (HST1.out.rex (.cells #[.int .i64 2, .int .i64 n, .slice ka kn kc] 55)).drew
          have hfm := HFN2.out.more (el2 := (wr.heap.size, .cells #[.int .i64 2, .int .i64 n, .slice ka kn kc] 55) :: el2) fun p hp => List.mem_cons_of_mem _ hp
          have HC := Lib.hid (rewind_out J R w1.heap.size wr.heap.size W w1 _ O1 _ _ _ n t fs2 _ hR (by omega) (by omega) (List.mem_cons_of_mem _ e1) List.mem_cons_self hfm hst3)
          have HE1 := Lib.hid e1
          clear hst3 hfm e1
          go_wp2_with fail
          refine wp_region_tail 16 _ (by kernel_rfl) rfl rfl rfl rfl (by kernel_rfl) (fun w' => w'.cell? ⟨w1.heap.size, 0, none⟩ = some (.pointer (some ⟨R, 0, none⟩)) ∧ w'.cell? ⟨R, 0, none⟩ = some (.pointer (some ⟨J, 0, none⟩)) ∧ w'.cell? ⟨wr.heap.size, 1, none⟩ = some (.int .i64 n) ∧ w'.cell? ⟨R, 2, none⟩ = some (.slice oa t.out.length oc)) ?_ (fun hHeld => ?_)
          · go_keep
          simp only [List.setIfInBounds_toArray, List.set_cons_zero, List.set_cons_succ, idle, List.getElem_toArray, List.getElem_cons_succ, List.getElem_cons_zero]
          refine wpAnyH_take (i := 0) (v := ?vk20) rfl (by kernel_rfl) (by kernel_rfl) (by kernel_rfl) (fun _ _ _ h => h) (Or.inl ⟨by rfl, ?hyk20⟩) (by assumption) ?restk20
          case hyk20 => (intro w hSw; (try dsimp only at hSw); go_simp; try with_reducible rfl)
          try simp only [Act.put, List.setIfInBounds_toArray, List.set_cons_zero, List.set_cons_succ]
          refine wpAnyH_take (i := 1) (v := ?vk21) rfl (by kernel_rfl) (by kernel_rfl) (by kernel_rfl) (fun _ _ _ h => h) (Or.inl ⟨by rfl, ?hyk21⟩) (by assumption) ?restk21
          case hyk21 => (intro w hSw; (try dsimp only at hSw); go_simp; try with_reducible rfl)
          try simp only [Act.put, List.setIfInBounds_toArray, List.set_cons_zero, List.set_cons_succ]
          refine wpAnyH_take (i := 2) (v := ?vk22) rfl (by kernel_rfl) (by kernel_rfl) (by kernel_rfl) (fun _ _ _ h => h) (Or.inl ⟨by rfl, ?hyk22⟩) (by assumption) ?restk22
          case hyk22 => (intro w hSw; (try dsimp only at hSw); go_simp; try with_reducible rfl)
          try simp only [Act.put, List.setIfInBounds_toArray, List.set_cons_zero, List.set_cons_succ]
          refine wpAnyH_take (i := 3) (v := ?vk23) rfl (by kernel_rfl) (by kernel_rfl) (by kernel_rfl) (fun _ _ _ h => h) (Or.inl ⟨by rfl, ?hyk23⟩) (by assumption) ?restk23
          case hyk23 => (intro w hSw; (try dsimp only at hSw); go_simp; try with_reducible rfl)
          try simp only [Act.put, List.setIfInBounds_toArray, List.set_cons_zero, List.set_cons_succ]
          refine wpAnyH_take (i := 4) (v := ?vk24) rfl (by kernel_rfl) (by kernel_rfl) (by kernel_rfl) (fun _ _ _ h => h) (Or.inl ⟨by rfl, ?hyk24⟩) (by assumption) ?restk24
          case hyk24 => (intro w hSw; (try dsimp only at hSw); go_simp; try with_reducible rfl)
          try simp only [Act.put, List.setIfInBounds_toArray, List.set_cons_zero, List.set_cons_succ]
          refine wpAnyH_take (i := 5) (v := ?vk25) rfl (by kernel_rfl) (by kernel_rfl) (by kernel_rfl) (fun _ _ _ h => h) (Or.inl ⟨by rfl, ?hyk25⟩) (by assumption) ?restk25
          case hyk25 => (intro w hSw; (try dsimp only at hSw); go_simp; try with_reducible rfl)
          try simp only [Act.put, List.setIfInBounds_toArray, List.set_cons_zero, List.set_cons_succ]
          refine wpAnyH_take (i := 6) (v := ?vk26) rfl (by kernel_rfl) (by kernel_rfl) (by kernel_rfl) (fun _ _ _ h => h) (Or.inl ⟨by rfl, ?hyk26⟩) (by assumption) ?restk26
          case hyk26 => (intro w hSw; (try dsimp only at hSw); go_simp; try with_reducible rfl)
          try simp only [Act.put, List.setIfInBounds_toArray, List.set_cons_zero, List.set_cons_succ]
          refine wpAnyH_take (i := 7) (v := ?vk27) rfl (by kernel_rfl) (by kernel_rfl) (by kernel_rfl) (fun _ _ _ h => h) (Or.inl ⟨by rfl, ?hyk27⟩) (by assumption) ?restk27
          case hyk27 => (intro w hSw; (try dsimp only at hSw); go_simp; try with_reducible rfl)
          try simp only [Act.put, List.setIfInBounds_toArray, List.set_cons_zero, List.set_cons_succ]
          refine wpAnyH_take (i := 8) (v := ?vk28) rfl (by kernel_rfl) (by kernel_rfl) (by kernel_rfl) (fun _ _ _ h => h) (Or.inl ⟨by rfl, ?hyk28⟩) (by assumption) ?restk28
          case hyk28 => (intro w hSw; (try dsimp only at hSw); go_simp; try with_reducible rfl)
          try simp only [Act.put, List.setIfInBounds_toArray, List.set_cons_zero, List.set_cons_succ]
          refine wpAnyH_take (i := 9) (v := ?vk29) rfl (by kernel_rfl) (by kernel_rfl) (by kernel_rfl) (fun _ _ _ h => h) (Or.inl ⟨by rfl, ?hyk29⟩) (by assumption) ?restk29
          case hyk29 => (intro w hSw; (try dsimp only at hSw); go_simp; try with_reducible rfl)
          try simp only [Act.put, List.setIfInBounds_toArray, List.set_cons_zero, List.set_cons_succ]
          refine wpAnyH_take (i := 10) (v := ?vk210) rfl (by kernel_rfl) (by kernel_rfl) (by kernel_rfl) (fun _ _ _ h => h) (Or.inl ⟨by rfl, ?hyk210⟩) (by assumption) ?restk210
          case hyk210 => (intro w hSw; (try dsimp only at hSw); go_simp; try with_reducible rfl)
          try simp only [Act.put, List.setIfInBounds_toArray, List.set_cons_zero, List.set_cons_succ]
          refine wpAnyH_ready (rs := [11]) (by kernel_rfl) (by simp) ?_
          refine AllReadyH.cons rfl (fun K hK => ?_) AllReadyH.nil
          go_simp
          refine HC.out.mono ?_
          rintro e w2 ⟨rfl, a', c', w4, ⟨⟨x1, x2, x3⟩, x4, x5, x6, x7⟩, ⟨hok, hv, hw⟩, ⟨y1, y2, y3⟩, ⟨y4, y5, y6, y7, y8⟩, HRAN⟩
          go_wp2_with fail
          refine hK.out _ _ ⟨x1, x2, x3, x4⟩ (fun hHeld2 => ?_)
          clear hK K hHeld
          try simp only [Act.put, List.setIfInBounds_toArray, List.set_cons_zero, List.set_cons_succ]
          refine wpAnyH_ready (rs := [12]) (by kernel_rfl) (by simp) ?_
          refine AllReadyH.cons rfl (fun K hK => ?_) AllReadyH.nil
          go_simp
          refine hK.out _ _ ?_ (fun _ => ?_)
          · go_keep
          clear hK K
          try simp only [Act.put, List.setIfInBounds_toArray, List.set_cons_zero, List.set_cons_succ]
          refine wpAnyH_ready (rs := [13]) (by kernel_rfl) (by simp) ?_
          refine AllReadyH.cons rfl (fun K hK => ?_) AllReadyH.nil
          go_simp
          refine hK.out _ _ ?_ (fun _ => ?_)
          · go_keep
          clear hK K
          try simp only [Act.put, List.setIfInBounds_toArray, List.set_cons_zero, List.set_cons_succ]
          refine wpAnyH_ready (rs := [14]) (by kernel_rfl) (by simp) ?_
          refine AllReadyH.cons rfl (fun K hK => ?_) AllReadyH.nil
          go_simp
          refine hK.out _ _ ?_ (fun _ => ?_)
          · go_keep
          clear hK K
          try simp only [Act.put, List.setIfInBounds_toArray, List.set_cons_zero, List.set_cons_succ]
          refine wpAnyH_ready (rs := [15]) (by kernel_rfl) (by simp) ?_
          refine AllReadyH.cons rfl (fun K hK => ?_) AllReadyH.nil
          go_simp
          refine hK.out _ _ ?_ (fun _ => ?_)
          · go_keep
          clear hK K
          try simp only [Act.put, List.setIfInBounds_toArray, List.set_cons_zero, List.set_cons_succ]
          refine wpAnyH_ready (rs := [16]) (by kernel_rfl) (by simp) ?_
          refine AllReadyH.cons rfl (fun K hK => ?_) AllReadyH.nil
          go_simp
          refine hK.out _ _ ?_ (fun _ => ?_)
          · go_keep
          clear hK K
          try simp only [Act.put, List.setIfInBounds_toArray, List.set_cons_zero, List.set_cons_succ]
          refine wpAnyH_done (by kernel_rfl) ?_ _
          simp only [TailPost, List.getElem_toArray, List.getElem_cons_succ, List.getElem_cons_zero]
          go_wp2_with fail
          go_roundw
          case rel =>
            refine ⟨k + 1, by go_num, by omega, _, by rw [HSN.out, HMS.out], ?_⟩
            exact HRAN.out.less fun p hp => List.mem_cons_of_mem _ (HSUB.out p hp)
          case measure => simp [intOf]; omega
        · have h2b : (kd == 2) = false := by simpa using h2
          by_cases h3 : kd = 3
          · subst h3
            clear h1 h1b h6 h6b h2 h2b
            have HMS := Lib.hid (mstep_3 (mrun W f) ⟨3, n, .slice ka kn kc⟩ t rfl)
            have hst3 := (HST1.out.rex (.cells #[.int .i64 3, .int .i64 n, .slice ka kn kc] 55)).drew
            have hfm := HFN2.out.more (el2 := (wr.heap.size, .cells #[.int .i64 3, .int .i64 n, .slice ka kn kc] 55) :: el2) fun p hp => List.mem_cons_of_mem _ hp
            have HC := Lib.hid (forget_out J R w1.heap.size wr.heap.size W w1 _ O1 _ _ _ n t fs2 _ hR (by omega) (by omega) (List.mem_cons_of_mem _ e1) List.mem_cons_self hfm hst3)
            have HE1 := Lib.hid e1
            clear hst3 hfm e1
            go_wp2_with fail
            refine wp_region_tail 16 _ (by kernel_rfl) rfl rfl rfl rfl (by kernel_rfl) (fun w' => w'.cell? ⟨w1.heap.size, 0, none⟩ = some (.pointer (some ⟨R, 0, none⟩)) ∧ w'.cell? ⟨R, 0, none⟩ = some (.pointer (some ⟨J, 0, none⟩)) ∧ w'.cell? ⟨wr.heap.size, 1, none⟩ = some (.int .i64 n) ∧ w'.cell? ⟨R, 2, none⟩ = some (.slice oa t.out.length oc)) ?_ (fun hHeld => ?_)
            · go_keep
            simp only [List.setIfInBounds_toArray, List.set_cons_zero, List.set_cons_succ, idle, List.getElem_toArray, List.getElem_cons_succ, List.getElem_cons_zero]
            refine wpAnyH_take (i := 0) (v := ?vk30) rfl (by kernel_rfl) (by kernel_rfl) (by kernel_rfl) (fun _ _ _ h => h) (Or.inl ⟨by rfl, ?hyk30⟩) (by assumption) ?restk30
            case hyk30 => (intro w hSw; (try dsimp only at hSw); go_simp; try with_reducible rfl)
            try simp only [Act.put, List.setIfInBounds_toArray, List.set_cons_zero, List.set_cons_succ]
            refine wpAnyH_take (i := 1) (v := ?vk31) rfl (by kernel_rfl) (by kernel_rfl) (by kernel_rfl) (fun _ _ _ h => h) (Or.inl ⟨by rfl, ?hyk31⟩) (by assumption) ?restk31
            case hyk31 => (intro w hSw; (try dsimp only at hSw); go_simp; try with_reducible rfl)
            try simp only [Act.put, List.setIfInBounds_toArray, List.set_cons_zero, List.set_cons_succ]
            refine wpAnyH_take (i := 2) (v := ?vk32) rfl (by kernel_rfl) (by kernel_rfl) (by kernel_rfl) (fun _ _ _ h => h) (Or.inl ⟨by rfl, ?hyk32⟩) (by assumption) ?restk32
            case hyk32 => (intro w hSw; (try dsimp only at hSw); go_simp; try with_reducible rfl)
            try simp only [Act.put, List.setIfInBounds_toArray, List.set_cons_zero, List.set_cons_succ]
            refine wpAnyH_take (i := 3) (v := ?vk33) rfl (by kernel_rfl) (by kernel_rfl) (by kernel_rfl) (fun _ _ _ h => h) (Or.inl ⟨by rfl, ?hyk33⟩) (by assumption) ?restk33
            case hyk33 => (intro w hSw; (try dsimp only at hSw); go_simp; try with_reducible rfl)
            try simp only [Act.put, List.setIfInBounds_toArray, List.set_cons_zero, List.set_cons_succ]
            refine wpAnyH_take (i := 4) (v := ?vk34) rfl (by kernel_rfl) (by kernel_rfl) (by kernel_rfl) (fun _ _ _ h => h) (Or.inl ⟨by rfl, ?hyk34⟩) (by assumption) ?restk34
            case hyk34 => (intro w hSw; (try dsimp only at hSw); go_simp; try with_reducible rfl)
            try simp only [Act.put, List.setIfInBounds_toArray, List.set_cons_zero, List.set_cons_succ]
            refine wpAnyH_take (i := 5) (v := ?vk35) rfl (by kernel_rfl) (by kernel_rfl) (by kernel_rfl) (fun _ _ _ h => h) (Or.inl ⟨by rfl, ?hyk35⟩) (by assumption) ?restk35
            case hyk35 => (intro w hSw; (try dsimp only at hSw); go_simp; try with_reducible rfl)
            try simp only [Act.put, List.setIfInBounds_toArray, List.set_cons_zero, List.set_cons_succ]
            refine wpAnyH_take (i := 6) (v := ?vk36) rfl (by kernel_rfl) (by kernel_rfl) (by kernel_rfl) (fun _ _ _ h => h) (Or.inl ⟨by rfl, ?hyk36⟩) (by assumption) ?restk36
            case hyk36 => (intro w hSw; (try dsimp only at hSw); go_simp; try with_reducible rfl)
            try simp only [Act.put, List.setIfInBounds_toArray, List.set_cons_zero, List.set_cons_succ]
            refine wpAnyH_take (i := 7) (v := ?vk37) rfl (by kernel_rfl) (by kernel_rfl) (by kernel_rfl) (fun _ _ _ h => h) (Or.inl ⟨by rfl, ?hyk37⟩) (by assumption) ?restk37
            case hyk37 => (intro w hSw; (try dsimp only at hSw); go_simp; try with_reducible rfl)
            try simp only [Act.put, List.setIfInBounds_toArray, List.set_cons_zero, List.set_cons_succ]
            refine wpAnyH_take (i := 8) (v := ?vk38) rfl (by kernel_rfl) (by kernel_rfl) (by kernel_rfl) (fun _ _ _ h => h) (Or.inl ⟨by rfl, ?hyk38⟩) (by assumption) ?restk38
            case hyk38 => (intro w hSw; (try dsimp only at hSw); go_simp; try with_reducible rfl)
            try simp only [Act.put, List.setIfInBounds_toArray, List.set_cons_zero, List.set_cons_succ]
            refine wpAnyH_take (i := 9) (v := ?vk39) rfl (by kernel_rfl) (by kernel_rfl) (by kernel_rfl) (fun _ _ _ h => h) (Or.inl ⟨by rfl, ?hyk39⟩) (by assumption) ?restk39
            case hyk39 => (intro w hSw; (try dsimp only at hSw); go_simp; try with_reducible rfl)
            try simp only [Act.put, List.setIfInBounds_toArray, List.set_cons_zero, List.set_cons_succ]
            refine wpAnyH_take (i := 10) (v := ?vk310) rfl (by kernel_rfl) (by kernel_rfl) (by kernel_rfl) (fun _ _ _ h => h) (Or.inl ⟨by rfl, ?hyk310⟩) (by assumption) ?restk310
            case hyk310 => (intro w hSw; (try dsimp only at hSw); go_simp; try with_reducible rfl)
            try simp only [Act.put, List.setIfInBounds_toArray, List.set_cons_zero, List.set_cons_succ]
            refine wpAnyH_ready (rs := [11]) (by kernel_rfl) (by simp) ?_
            refine AllReadyH.cons rfl (fun K hK => ?_) AllReadyH.nil
            go_simp
            refine HC.out.mono ?_
            rintro e w2 ⟨rfl, a', c', w4, ⟨⟨x1, x2, x3⟩, x4, x5, x6, x7⟩, ⟨hok, hv, hw⟩, ⟨y1, y2, y3⟩, ⟨y4, y5, y6, y7, y8⟩, HRAN⟩
            go_wp2_with fail
            refine hK.out _ _ ⟨x1, x2, x3, x4⟩ (fun hHeld2 => ?_)
            clear hK K hHeld
            try simp only [Act.put, List.setIfInBounds_toArray, List.set_cons_zero, List.set_cons_succ]
            refine wpAnyH_ready (rs := [12]) (by kernel_rfl) (by simp) ?_
            refine AllReadyH.cons rfl (fun K hK => ?_) AllReadyH.nil
            go_simp
            refine hK.out _ _ ?_ (fun _ => ?_)
            · go_keep
            clear hK K
            try simp only [Act.put, List.setIfInBounds_toArray, List.set_cons_zero, List.set_cons_succ]
            refine wpAnyH_ready (rs := [13]) (by kernel_rfl) (by simp) ?_
            refine AllReadyH.cons rfl (fun K hK => ?_) AllReadyH.nil
            go_simp
            refine hK.out _ _ ?_ (fun _ => ?_)
            · go_keep
            clear hK K
            try simp only [Act.put, List.setIfInBounds_toArray, List.set_cons_zero, List.set_cons_succ]
            refine wpAnyH_ready (rs := [14]) (by kernel_rfl) (by simp) ?_
            refine AllReadyH.cons rfl (fun K hK => ?_) AllReadyH.nil
            go_simp
            refine hK.out _ _ ?_ (fun _ => ?_)
            · go_keep
            clear hK K
            try simp only [Act.put, List.setIfInBounds_toArray, List.set_cons_zero, List.set_cons_succ]
            refine wpAnyH_ready (rs := [15]) (by kernel_rfl) (by simp) ?_
            refine AllReadyH.cons rfl (fun K hK => ?_) AllReadyH.nil
            go_simp
            refine hK.out _ _ ?_ (fun _ => ?_)
            · go_keep
            clear hK K
            try simp only [Act.put, List.setIfInBounds_toArray, List.set_cons_zero, List.set_cons_succ]
            refine wpAnyH_ready (rs := [16]) (by kernel_rfl) (by simp) ?_
            refine AllReadyH.cons rfl (fun K hK => ?_) AllReadyH.nil
            go_simp
            refine hK.out _ _ ?_ (fun _ => ?_)
            · go_keep
            clear hK K
            try simp only [Act.put, List.setIfInBounds_toArray, List.set_cons_zero, List.set_cons_succ]
            refine wpAnyH_done (by kernel_rfl) ?_ _
            simp only [TailPost, List.getElem_toArray, List.getElem_cons_succ, List.getElem_cons_zero]
            go_wp2_with fail
            go_roundw
            case rel =>
              refine ⟨k + 1, by go_num, by omega, _, by rw [HSN.out, HMS.out], ?_⟩
              exact HRAN.out.less fun p hp => List.mem_cons_of_mem _ (HSUB.out p hp)
            case measure => simp [intOf]; omega
          · have h3b : (kd == 3) = false := by simpa using h3
            by_cases h4 : kd = 4
            · subst h4
              clear h1 h1b h6 h6b h2 h2b h3 h3b
              have HMS := Lib.hid (show mstep (mrun W f) ⟨4, n, .slice ka kn kc⟩ t = (t, some (wantE n)) from by simp [mstep])
              have HRN := Lib.hid (show RunEnd (mlist (mrun W f) l s).2 (.panicked [{ v := .iface 63 (.agg #[.int .i64 (wantE n)]), recovered := false }]) ∧ Ran J R W (mlist (mrun W f) l s).1 el w1 O1 (wr.alloc (.cells #[.int .i64 4, .int .i64 n, .slice ka kn kc] 55)) from by
                rw [HFL.out t (wantE n) HMS.out]; exact ⟨rfl, (show Ran J R W t _ w1 O1 _ from ⟨el2, fs2, HSUB.out, HFN2.out, HST.out.alloc _⟩).less fun p hp => List.mem_cons_of_mem _ hp⟩)
              go_wp2_with fail
              refine (fail_any n _).mono ?_
              rintro e w2 ⟨rfl, rfl⟩
              exact ⟨rfl, HRN.out⟩
            · have h4b : (kd == 4) = false := by simpa using h4
              by_cases h5 : kd = 5
              · subst h5
                clear h1 h1b h6 h6b h2 h2b h3 h3b h4 h4b
                have HMS := Lib.hid (show mstep (mrun W f) ⟨5, n, .slice ka kn kc⟩ t = (mtry t (mrun W f (.slice ka kn kc) t), none) from by simp [mstep])
                have hrx := HST.out.rex (.cells #[.int .i64 5, .int .i64 n, .slice ka kn kc] 55)
                have hfm := HFN2.out.more (el2 := (wr.heap.size, .cells #[.int .i64 5, .int .i64 n, .slice ka kn kc] 55) :: el2) fun p hp => List.mem_cons_of_mem _ hp
                have HAT := Lib.hid (attempt_st J 55 #[.pointer (some ⟨w1.heap.size, 0, none⟩), .pointer (some ⟨wr.heap.size, 0, none⟩)] _ _ _ _ _ _ _ _ hrx (ent55 _)
                  (fun w3 O3 h3 _ => act_55 J R w1.heap.size wr.heap.size W f (.int .i64 5) (.int .i64 n) (.slice ka kn kc) t fs2 _ hR IH.out HT.out (by omega) (by omega) hfm (List.mem_cons_of_mem _ e1) List.mem_cons_self w3 O3 h3))
                have HRS := Lib.hid (mrun_size W f (.slice ka kn kc) t)
                generalize hr : mrun W f (.slice ka kn kc) t = r at *
                have HFE := Lib.hid HFN2.out.1
                clear hr hrx hfm
                go_wp2_with fail
                refine HAT.out.mono ?_
                intro e w3 hatt
                obtain ⟨x, u, el3, fs3, hmt, rfl, huo, hs3, hf3, hst3⟩ := att_ran J R W w1 w3 O1 t r _ _ e HFE.out hatt
                obtain ⟨lv3, ov3, -, hn3, hst4⟩ := hst3.named
                obtain ⟨a', c', w4, ⟨x1, x2, x3, x4⟩, ⟨hok, hv, hw⟩, ⟨y1, y2, y3, y4, y5⟩, HRAN⟩ := out_drew J R w1.heap.size W w1 w3 O1 ov3 x u fs3 el3 hR (by rw [huo]; have := HRS.out; omega) (hs3 _ (List.mem_cons_of_mem _ e1)) hf3 hst4
                have HMT3 := Lib.hid hmt
                have HS3 := Lib.hid hs3
                obtain ⟨oa, oc, hov⟩ := row_form hn3.our
                subst hov
                clear hatt hst3 hst4 hn3 hmt hs3 hf3 huo hx r0 r2 c0 c1 c2
                go_wp2_with fail
                go_region
                go_wp2_with fail
                go_roundw
                case rel =>
                  refine ⟨k + 1, by go_num, by omega, u.say x, by rw [HSN.out, HMS.out, HMT3.out], ?_⟩
                  exact HRAN.out.less fun p hp => HS3.out _ (List.mem_cons_of_mem _ (HSUB.out p hp))
                case measure => simp [intOf]; omega
              · have h5b : (kd == 5) = false := by simpa using h5
                have HMS := Lib.hid (show mstep (mrun W f) ⟨kd, n, .slice ka kn kc⟩ t = (t, none) from by simp [mstep, h1, h2, h3, h4, h5, h6])
                clear h1 h2 h3 h4 h5 h6
                go_wp2_with fail
                go_roundw
                case rel =>
                  exact ⟨k + 1, by go_num, by omega, t, by rw [HSN.out, HMS.out], el2, fs2, HSUB.out, HFN2.out, HST.out.alloc _⟩
                case measure => simp [intOf]; omega
  · obtain rfl : k = l.length := by omega
    have hmt := HMT.out
    rw [List.take_length] at hmt
    have HRN := Lib.hid (show RunEnd (mlist (mrun W f) l s).2 (.returned (.tuple #[])) ∧ Ran J R W (mlist (mrun W f) l s).1 el w1 O1 wr from by
      rw [hmt]; exact ⟨rfl, (show Ran J R W t _ w1 O1 wr from ⟨el2, fs2, hsub, hfn2, hst⟩).less fun p hp => List.mem_cons_of_mem _ hp⟩)
    clear hmt hst hst1 hn hfn2 hsub HMT
    go_wp2_with fail
    go_end0
    exact HRN.out

end Go.Proofs.Ytlcbfjcfkknmgaa
