/- JournalRuns: the walk of the law, joined. -/
import Derived.Test.YtlcbfjcfkknmgaaRtop
namespace Go.Proofs.Ytlcbfjcfkknmgaa
open Go.RowKit

attribute [local go_sem ↓] run_appOp

theorem ints_row {w : World} {base : Nat} {v : Value} {xs : List Int} (h : w.ownsRow base 3 1 v xs.length (xs.map (Value.int .i64))) : IntsAt w v xs := by
  obtain ⟨a, c, rfl⟩ := row_form h
  refine ⟨a, c, rfl, fun i x hx => ?_⟩
  have hi := (List.getElem?_eq_some_iff.1 hx).1
  rcases h.2 with ⟨_, h0⟩ | ⟨g, cap, cur, e, _⟩
  · omega
  · simp only [Value.slice.injEq] at e
    obtain ⟨rfl, _, rfl⟩ := e
    refine ⟨g, 0, rfl, ?_⟩
    have h1 := h.cellAt i (by omega)
    rw [Nat.zero_add, h1]
    simpa using hx

/-- the model's memory where only elder blocks are written -/
theorem Mo.stay {M X : Nat} {w0 w w' : World} {lv gv ov : Value} {s : MS} {O : Nat → Prop} (h : Mo M X w0 lv gv ov s w) (hm : Mv O w w') (hO : ∀ b, O b → b < w0.heap.size) :
    w'.cell? ⟨M, 0, none⟩ = some lv ∧ w'.cell? ⟨M, 1, none⟩ = some gv ∧ w'.cell? ⟨X, 0, none⟩ = some ov ∧ IntsAt w' ov s.out ∧ IntsAt w' gv s.log := by
  have hk : ∀ {b : Nat} {o : Obj}, w.heap[b]? = some o → w0.heap.size ≤ b → w'.heap[b]? = some o := fun {b o} hb hge => by rw [hm.block b (lt_of_block hb) (fun e => by have := hO b e; omega)]; exact hb
  obtain ⟨c0, c1⟩ := m_cell (hk h.m h.hM)
  refine ⟨c0, c1, cell_of_one (hk h.x h.hX), ints_row (base := w0.heap.size) ?_, ints_row (base := w0.heap.size) ?_⟩
  · exact row_other h.our fun g hg => hm.block g (h.our.lt g hg).2 (fun e => by have := hO g e; have := (h.our.lt g hg).1; omega)
  · exact row_other h.gr fun g hg => hm.block g (h.gr.lt g hg).2 (fun e => by have := hO g e; have := (h.gr.lt g hg).1; omega)

theorem mtry_size (s : MS) (r : MS × Option Int) : (mtry s r).ms.length + (mtry s r).log.length ≤ r.1.ms.length + r.1.log.length := by
  unfold mtry
  split
  · simp [MS.say]
  · simp [MS.say, MS.cut]; omega

/-- a new model -/
theorem MSt.start (w : World) (o : Obj) : MSt w.heap.size (w.heap.size + 1) w ⟨[], [], []⟩ (((w.alloc (.cells #[.slice none 0 0, .slice none 0 0] 51)).alloc (.cells #[.slice none 0 0] 30)).alloc o) := by
  obtain ⟨n1, n2, n3⟩ := three_new w (.cells #[.slice none 0 0, .slice none 0 0] 51) (.cells #[.slice none 0 0] 30) o
  refine ⟨.slice none 0 0, .slice none 0 0, .slice none 0 0, (((Mv.refl _ _).alloc _).alloc _).alloc _, Nat.le_refl _, by omega, by omega, n1, n2, World.ownsRow_nil _ _ _ _, World.ownsRow_nil _ _ _ _, World.ownsRow_nil _ _ _ _, ?_, ?_, ?_, ?_, ?_, ?_, ?_, ?_, ?_⟩
  all_goals simp [Value.ownBlock]

set_option maxRecDepth 100000 in
set_option maxHeartbeats 3200000 in
theorem runs_walk (f : Nat) (v : Value) (w : World) (ht : Tree w f v) (hf : f ≤ 2000000) (hc : cnt w f v ≤ 2000000) :
    Calls Try.prog 7 #[v] w fun e w' => e = .returned (.bool true) ∧ Below w.heap.size w w' := by
  have HT := Lib.hid ht
  obtain ⟨va, vn, vc, rfl⟩ := ht.form
  have HA := Lib.hid (awake_ok (w.alloc (.cells #[.slice va vn vc] 22)))
  clear ht
  go_enter Try.func7, Try.ntmps7
  go_wp2_with fail
  refine HA.out.mono ?_
  rintro en w1 ⟨rfl, hm1⟩
  have hs := hm1.size
  simp only [World.size_alloc] at hs
  have hm2 : Mv (fun _ => False) w w1 := Mv.trans (O1 := fun _ => False) ((Mv.refl _ _).alloc _) hm1 (fun _ e => e.elim)
  have hfp := fp_old1 hm1
  have r0 := cell_of_one hfp.now.2
  by_cases hg : 60 < cnt w f (.slice va vn vc) ∨ 8 < dep w f (.slice va vn vc)
  · have HM2 := Lib.hid hm2
    have HG := Lib.hid (great_yes w f _ w1 HT.out hfp.now.1 hc hf hg)
    clear hm1 hm2 hfp hg
    go_wp2_with fail
    refine HG.out.mono ?_
    rintro en w' ⟨rfl, rfl⟩
    go_wp2_with fail
    go_ret
    exact ⟨rfl, HM2.out.below⟩
  · have HG := Lib.hid (great_no w f _ w1 HT.out hfp.now.1 hf (by omega) (by omega))
    have hc60 : cnt w f (.slice va vn vc) ≤ 60 := by omega
    have h1 := ((St.begin (O0 := fun b => b < w.heap.size) hfp (hm2.mono (fun _ e => e.elim)) (fun b hb => by rcases Nat.lt_or_ge b w.heap.size with h | h; exact .inl h; exact .inr h)).give (.cells #[.pointer (some ⟨w1.heap.size, 0, none⟩), .slice none 0 0, .slice none 0 0] 47))
    simp only [World.size_alloc] at h1
    have h2 := (h1.imp (V := RnE NoP w1.heap.size (w1.heap.size + 1) w [] [] [(w.heap.size, .cells #[.slice va vn vc] 22 (0, 0))])
      (fun w' hw => ⟨.slice none 0 0, .slice none 0 0, True.intro, hw.1.1, hw.2, World.ownsRow_nil _ _ _ _, World.ownsRow_nil _ _ _ _, by simp [Value.ownBlock], by simp [Value.ownBlock], by simp [Value.ownBlock], fun p hp => by
        simp only [List.mem_cons, List.not_mem_nil, or_false] at hp
        subst hp
        refine ⟨hw.1.2, ?_, by simp [Value.ownBlock], by simp [Value.ownBlock]⟩
        show w.heap.size ≠ _; omega⟩)).rex (.cells #[.pointer (some ⟨w1.heap.size + 1, 0, none⟩)] 45)
    simp only [World.size_alloc] at h2
    have hR : w.heap.size ≤ w1.heap.size + 1 := by omega
    have hrv : (w1.heap.size + 1 + 1, Obj.cells #[.pointer (some ⟨w1.heap.size + 1, 0, none⟩)] 45 (0, 0)) ∈ [(w1.heap.size + 1 + 1, Obj.cells #[.pointer (some ⟨w1.heap.size + 1, 0, none⟩)] 45 (0, 0)), (w.heap.size, Obj.cells #[.slice va vn vc] 22 (0, 0))] := by simp
    have hlv : (w.heap.size, Obj.cells #[.slice va vn vc] 22 (0, 0)) ∈ [(w1.heap.size + 1 + 1, Obj.cells #[.pointer (some ⟨w1.heap.size + 1, 0, none⟩)] 45 (0, 0)), (w.heap.size, Obj.cells #[.slice va vn vc] 22 (0, 0))] := by simp
    have HAT := Lib.hid (attempt_st _ 32 #[.pointer (some ⟨w1.heap.size + 1 + 1, 0, none⟩), .pointer (some ⟨w.heap.size, 0, none⟩)] _ _ _ _ _ _ _ _ h2 (ent32 _)
      (fun w2 O2 h3 _ => act_32 w1.heap.size (w1.heap.size + 1) (w1.heap.size + 1 + 1) w.heap.size w f _ ⟨[], [], []⟩ [] _ hR (runs_all _ _ _ hR f) HT.out (by simp; omega) (by simp; omega) Fns.nil hrv hlv w2 O2 h3))
    clear hm1 hm2 hfp h1 h2 hg
    generalize [(w1.heap.size + 1 + 1, Obj.cells #[.pointer (some ⟨w1.heap.size + 1, 0, none⟩)] 45 (0, 0)), (w.heap.size, Obj.cells #[.slice va vn vc] 22 (0, 0))] = el at *
    have HSZ := Lib.hid (mrun_size w f (.slice va vn vc) ⟨[], [], []⟩)
    have HMT := Lib.hid (fun M X B w0 w1 => mrun_top M X B w w0 f (.slice va vn vc) ⟨[], [], []⟩ w1)
    generalize hr : mrun w f (.slice va vn vc) ⟨[], [], []⟩ = r at *
    clear hr
    go_wp2_with fail
    refine HG.out.mono ?_
    rintro en w' ⟨rfl, rfl⟩
    go_wp2_with fail
    refine HAT.out.mono ?_
    intro e w3 hatt
    obtain ⟨x, u, el3, fs3, hmt, rfl, huo, hs3, hf3, hst3⟩ := att_ran _ _ w w w3 _ ⟨[], [], []⟩ r _ _ e rfl hatt
    have hsz := HSZ.out
    simp only [List.length_nil, Nat.zero_add] at hsz
    obtain ⟨lv3, ov3, -, hn3⟩ := hst3.user
    have hlb3 := cell_of_one (hn3.ex _ (hs3 _ hlv)).1
    have hlbl := lt_of_block (hn3.ex _ (hs3 _ hlv)).1
    have hst := MSt.start w3 (.cells #[.int .i64 5, .int .i64 0, .slice va vn vc] 55)
    have hB := (three_new w3 (.cells #[.slice none 0 0, .slice none 0 0] 51) (.cells #[.slice none 0 0] 30) (.cells #[.int .i64 5, .int .i64 0, .slice va vn vc] 55)).2.2
    have HMR := Lib.hid (HMT.out w3.heap.size (w3.heap.size + 1) (w3.heap.size + 1 + 1) w3 _ (mruns_all _ _ _ _ hn3.old hst3.mv.size f) HT.out (by simp; omega) (by simp; omega) hB hst)
    rw [hmt] at HMR
    have HST3 := Lib.hid hst3
    have HF3 := Lib.hid hf3
    have HRV := Lib.hid (hs3 _ hrv)
    have hbd := mtry_size ⟨[], [], []⟩ r
    rw [hmt] at hbd
    have hbd2 : u.ms.length + u.log.length ≤ 1000 := by simp only [MS.say] at hbd; omega
    have huo2 : u.out.length ≤ 1000 := by rw [huo]; omega
    clear hatt hmt hst3 hs3 hf3 hn3 hst hB hsz huo r0 hbd
    go_wp2_with fail
    refine HMR.out.mono ?_
    rintro e w4 ⟨rfl, lm, gm, om, hmo⟩
    obtain ⟨O1, hb1, hO1, _, hmv04⟩ := HST3.out.baseAt hmo.mv
    obtain ⟨lv4, ov4, -, hn4, hst4⟩ := hb1.named
    obtain ⟨a', c', w5, ⟨x1, x2, x3, x4⟩, ⟨hok, hv, hw⟩, ⟨y1, y2, y3, y4, y5⟩, HRAN⟩ := out_drew w1.heap.size (w1.heap.size + 1) (w1.heap.size + 1 + 1) w w4 w4 O1 ov4 x u fs3 el3 hR huo2 HRV.out HF3.out hst4
    obtain ⟨el5, fs5, hs5, hf5, hst5⟩ := HRAN.out
    obtain ⟨oa, oc, hov⟩ := row_form hn4.our
    subst hov
    obtain ⟨k0, k1, k2, i1, i2⟩ := hmo.stay hst5.mv hO1
    obtain ⟨lv5, ov5, -, hn5⟩ := hst5.user
    have j1 := cell_of_one (hn5.ex _ (hs5 _ HRV.out)).1
    obtain ⟨r0, r1, r2⟩ := r_cell hn5.r
    have HI1 := Lib.hid (fun n => ints_true ov5 om (u.say x).out _ ((ints_row hn5.our).drewN n) (i1.drewN n) (by simp [MS.say]; omega))
    have HI2 := Lib.hid (fun n => ints_true lv5 gm (u.say x).log _ ((ints_row hn5.lr).drewN n) (i2.drewN n) (by simp [MS.say]; omega))
    have HLN := Lib.hid (fun n => (len_st _ _ _ _ _ _ _ (hst5.drewN n)).mono (R' := fun e w' => e = .returned (.int .i64 fs5.length) ∧ w' = World.drewN _ n) (fun e w' h => ⟨h.1, h.2.symm⟩))
    obtain ⟨la, lc, ga, gc, oa, oc, e1, e2, e3, -, -, hMl, hXl⟩ := hmo.know
    have hfl : (u.say x).ms.length = fs5.length := hf5.1.symm
    rw [hfl] at e1
    subst e1
    have HFIN := Lib.hid (show ∀ n, Below w.heap.size w (World.drewN (w5.setCell ⟨w1.heap.size + 1, 2, none⟩ (.slice a' (u.out.length + 1) c')) n) from fun n => by
      have hm5 := hst5.mv
      exact ⟨(hm5.os.trans hmv04.os : _), (hm5.tape.trans hmv04.tape : _), (hm5.output.trans hmv04.output : _), Nat.le_trans hmv04.size hm5.size, hn5.old⟩)
    have hRl5 := lt_of_block hn5.r
    have hrvl5 := lt_of_block (hn5.ex _ (hs5 _ HRV.out)).1
    generalize hw6 : w5.setCell ⟨w1.heap.size + 1, 2, none⟩ (.slice a' (u.out.length + 1) c') = w6 at *
    have HW6 := Lib.hid hw6
    clear hw6 hst5 hn5 hs5 hf5 hmo hb1 hn4 hst4 hmv04 HRAN hO1 i1 i2 e2 e3 hfl
    go_wp2_with fail
    go_region
    rw [HW6.out]
    clear x1 x2 x3 x4 hok hv hw y1 y2 y3 y4 y5
    go_wp2_with fail
    go_quiet (first
      | (go_at_call 16; with_reducible exact Calls.quiet_of (HI1.out _))
      | (go_at_call 16; with_reducible exact Calls.quiet_of (HI2.out _))
      | (go_at_call 17; with_reducible exact Calls.quiet_of_same (HLN.out _)))
    go_wp2_with fail
    go_ret
    exact ⟨rfl, HFIN.out _⟩

end Go.Proofs.Ytlcbfjcfkknmgaa
