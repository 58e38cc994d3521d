import Derived.Test.YtbpodipdfohikaaGreatL37
set_option linter.unusedSimpArgs false
set_option linter.unusedVariables false
set_option maxRecDepth 100000
set_option maxHeartbeats 25600000
namespace Go.Proofs.YtbpodipdfohikaaGreat
section
open Go.RowKit Go.Instr
theorem aG.other {w0 : World} {p : az} {fuel k : Nat} {w w' : World} {x : aK} {s : ah} {E : Nat} (h : aG w0 p fuel k w x s) (hm : Mv (λb => b = E) w w') (ho : x.ρ E = .other) (hl : w0.heap.size <= E) : aG w0 p fuel k w' x s := by
  have st := h.stays hm (λr => r = .other) (λg e _ => by subst e; exact ho)
  exact⟨bN h.g hm (λb e => by subst e; exact hl), st.run (λe => by cases e), st.store (λe => by cases e), st.tape (λe => by cases e), h.jo, λj hj hj' => st.fr j hj hj' (λe => by cases e) (λe => by cases e), st.calls (λe => by cases e), λi hi => st.cell i hi (λe => by cases e) (λe => by cases e), st.fI (λe => by cases e), h.ni, h.low, h.dN, h.re, h.rl, h.bd⟩
set_option maxRecDepth 100000 in
set_option maxHeartbeats 6400000 in
theorem SQ {w0 : World} {vars : List au} {vv : Value} {procs : List aO} {pv : Value} {mk mn : Int} {ms : ByteArray} {ma : Option Addr} {mc : Nat} {ml : List ae} {fuel k g : Nat} (w : World) (x : aK) (s : ah) (res : Except Int ah) (A B C : Nat) (b : Bool)
    (hbl : rH w0 ⟨vars, vv, procs, pv, .mk mk mn ms (.slice ma ml.length mc) ml⟩ fuel k g) (h : aG w0 ⟨vars, vv, procs, pv, .mk mk mn ms (.slice ma ml.length mc) ml⟩ fuel k w x s) (hno : aS (λ_ => True) w0 (.mk mk mn ms (.slice ma ml.length mc) ml)) (hex : exec (procs.map aO.d) fuel g (.stmts (turned b (ae.t (.mk mk mn ms (.slice ma ml.length mc) ml)).kids)) b s = some res)
    (hA : w.heap[A]? = some (.cells #[.pointer (some ⟨x.R, 0, none⟩)] 97 (0, 0))) (hB : w.heap[B]? = some (.cells #[vv, pv, .int .u8 mk, .int .i64 mn, .string ms, .slice ma ml.length mc] 42 (0, 0))) (hC : w.heap[C]? = some (.cells #[.bool b] 4 (0, 0))) :
    Calls Tryz.prog 60 #[.pointer (some ⟨A, 0, none⟩), .pointer (some ⟨B, 0, none⟩), .pointer (some ⟨C, 0, none⟩)] w (bZ w0 ⟨vars, vv, procs, pv, .mk mk mn ms (.slice ma ml.length mc) ml⟩ fuel k x w res) := by
  have HC := Lib.hid (hbl w x s res _ b h hno hex)
  have a0 := cell1 hA
  have c0 := cell1 hC
  obtain⟨⟨b0, b1, b2⟩, b3, b4, b5⟩ := cB hB
  have hla := lt_of_block hA
  have hlb := lt_of_block hB
  have hlc := lt_of_block hC
  simp only[ae.val]at HC
  clear hbl h hno hex hA hB hC
  go_enter Tryz.func60, Tryz.ntmps60
  go_wp2_with fail
  refine HC.out.mono ?_
  intro e w2 hq
  cases res with
  |error n =>
    obtain⟨⟨rfl, hn0⟩, hg⟩ := hq
    refine⟨rfl, ?_⟩
    exact⟨⟨rfl, hn0⟩, hg⟩
  |ok s' =>
    obtain⟨rfl, hx⟩ := hq
    have HX := Lib.hid hx
    clear hx
    go_wp2_with fail
    go_end0
    exact⟨rfl, HX.out⟩
def Jz (w : World) (res : Except Int ah) (e : Ending) (w' : World) : Prop := match res with
  |.ok s' => ∃ ev M steps vs, e = .returned (.tuple #[ev, .agg #[.slice (some ⟨M, 0, none⟩) s'.outs.length s'.outs.length, .slice none 0 0, .slice none 0 0, .int .i64 steps, .int .i64 0]]) /\ gz w w' M s'.outs vs /\ vs.length = s'.outs.length
  |.error n => n ≠ 0 /\ (∃ ev a m c, e = .returned (.tuple #[ev, .agg #[.slice a m c, .slice none 0 0, .slice none 0 0, .int .i64 0, .int .i64 n]])) /\ Grow w w'
theorem Rk {w : World} {base g n : Nat} (hb : w.heap[g]? = some (.cells (Array.replicate n (.int .i64 0)) 3 (0, 0))) (hl : base <= g) (hn : n <= 1000000) : w.ownsRow base 3 1 (.slice (some ⟨g, 0, none⟩) n n) (List.replicate n (0 : Int)).length (flat aB (List.replicate n (0 : Int))) := by
  rw[Ij]
  refine⟨by simp, .inr ⟨g, n, _, by simp, hl, hb, by simp, by simp only[maxLen]; omega, by simp, ?_⟩⟩
  simp
theorem R7 (n : Nat) (w : World) (hn : n <= 1000000) : (Instr.makeSlice 22 (.int .i64 n) (.int .i64 n)).run Tryz.prog w = .ok (.slice (some ⟨w.heap.size, 0, none⟩) n n) (w.alloc (.cells (Array.replicate n (.int .i64 0)) 3)) := by
  obtain⟨i0, hi, hz0, hz1, hz2⟩ := info_parts Tryz.DT
  have := run_make (P := Tryz.prog) w 22 3 i0 _ Tryz.underlying22 hi hz0 .i64 .i64 n n (by omega) (Int.le_refl _) (by rw[hz2]; omega) (by omega)
  have hm : madeCells (Value.int .i64 0).cells (n * i0.size) = Array.replicate n (.int .i64 0) := by
    rw[hz1, Nat.mul_one]
    apply Array.ext
    · simp[madeCells]
    · intro j h1 h2
      simp[madeCells, Value.cells, Nat.mod_one]
  simp only[Int.toNat_natCast]at this
  rw[hm]at this
  exact this
set_option maxRecDepth 100000 in
set_option maxHeartbeats 12800000 in
theorem Rl (p : az) (cv : Value) (L : List (List Int)) (fuel k g : Nat) (w : World) (res : Except Int ah) (hp : jc w p) (hpb : ∀ q ∈ p.procs, aS (λ_ => True) w q.body) (hm : aS (λ_ => True) w p.main) (hpl : ∀ q ∈ p.procs, q.params.length <= k) (hok : p.d.okB = true) (hfa : p.d.faults = 0)
    (hc : Vs w cv L) (hval : mK p.vars = true) (hlen : L.length = p.vars.length) (hk3 : ∀ i (h : i < p.vars.length), p.vars[i].kind = 3) (hL : ∀ i (h : i < L.length), L[i].length <= 1000) (hkk : p.vars.length <= k) (hk2 : k <= 1000) (hfu : fuel <= 500000)
    (hex : exec (p.procs.map aO.d) fuel g (.stmts p.main.t.kids) false ⟨L, ⟨p.vars.zipIdx, 0⟩, [], 0⟩ = some res) (hout : ∀ s', res = .ok s' -> s'.base.locals = 0 /\ s'.base.vars.length <= 900000) :
    Calls Tryz.prog 33 #[p.val, .agg #[cv, .slice none 0 0, .slice none 0 0], .int .i64 fuel, .bool false] w (Jz w res) := by
  have CQ : p.procs.length <= 64 := by
    unfold lJ.okB at hok
    simp only[Bool.and_eq_true, decide_eq_true_eq]at hok
    have := hok.1.2.1
    simpa[az.d]using this
  have mg := Lib.hid (λy (hy : Grow w y) => GM p y (hp.later hy))
  have gU := Lib.hid (λy (hy : Grow w y) => QW p y (hp.later hy))
  rw[hok]at mg
  rw[hfa]at gU
  have iC := Lib.hid (λy (hy : Grow w y) => SN p.vv cv p.vars L y (hp.vars.later hy) (hc.later hy) hval hlen hk3 hL)
  have EH := Lib.hid (λy (hy : Grow w y) => (SL (fuel := fuel) (k := k) (hp.later hy) (λq hq => (hpb q hq).up hy) hpl g).2)
  have iy := Lib.hid (λy (hy : Grow w y) => PY cv L y (hc.later hy) (by have := hk2; omega) (λi hi => by have := hL i hi; omega))
  obtain⟨vars, vv, procs, pv, m⟩ := p
  obtain⟨⟨va, vc, rfl⟩, ⟨pa, pc, rfl⟩, -⟩ := hp.form
  obtain⟨ca, cc, rfl⟩ := hc.form
  obtain⟨mk, mn, ms, mv, ml⟩ := m
  obtain⟨ma, mc, rfl, -, -⟩ := hm.at.form
  simp only at hpb hm hpl hval hlen hk3 hkk hex CQ iC
  have HM := Lib.hid (λy (hy : Grow w y) => hm.up hy)
  have gu := Lib.hid hex
  have EI := Lib.hid hout
  have EJ := Lib.hid (λ(wb w4 w6 : World) (S T : Nat) (aH : List Nat) (dm : List Value) (u1 u2 : Value) (R : Nat) (ev : Value) (el : List Int) (h : lL wb w4 S T vars L vars.length aH dm u1 u2) (hg : Grow w4 w6) hR hRl he hel => h.start (p := ⟨vars, .slice va vars.length vc, procs, .slice pa procs.length pc, .mk mk mn ms (.slice ma ml.length mc) ml⟩) (fuel := fuel) (k := k) (w' := w6) (R := R) (ev := ev) (el := el) hg hR hRl he hel hlen hL hkk hk2 hfu)
  clear hp hpb hm hpl hok hfa hval hk3 hL hkk hk2 hex hout hc
  rw[hlen]at iC iy ⊢
  clear hlen
  simp only[az.val, az.cells, ae.cells]at mg gU EJ ⊢
  have hG1 : Grow w ((((w.alloc (.cells #[.slice va vars.length vc, .slice pa procs.length pc, .int .u8 mk, .int .i64 mn, .string ms, .slice ma ml.length mc] 42)).alloc (.cells #[.slice ca vars.length cc, .slice none 0 0, .slice none 0 0] 54)).alloc (.cells #[.bool false] 4)).alloc (.cells #[.slice none 0 0, .slice none 0 0, .slice none 0 0, .int .i64 0, .int .i64 0] 56)) := ((((Mv.refl _ w).alloc _).alloc _).alloc _).alloc _
  obtain⟨n1, n2, n3⟩ := Dv w (.cells #[.slice va vars.length vc, .slice pa procs.length pc, .int .u8 mk, .int .i64 mn, .string ms, .slice ma ml.length mc] 42) (.cells #[.slice ca vars.length cc, .slice none 0 0, .slice none 0 0] 54) (.cells #[.bool false] 4)
  have n4 := heap_alloc_new (((w.alloc (.cells #[.slice va vars.length vc, .slice pa procs.length pc, .int .u8 mk, .int .i64 mn, .string ms, .slice ma ml.length mc] 42)).alloc (.cells #[.slice ca vars.length cc, .slice none 0 0, .slice none 0 0] 54)).alloc (.cells #[.bool false] 4)) (.cells #[.slice none 0 0, .slice none 0 0, .slice none 0 0, .int .i64 0, .int .i64 0] 56)
  simp only[World.size_alloc]at n4
  have HB := Lib.hid (And.intro (And.intro (bY n1 (.cells #[.slice none 0 0, .slice none 0 0, .slice none 0 0, .int .i64 0, .int .i64 0] 56)) (bY n2 (.cells #[.slice none 0 0, .slice none 0 0, .slice none 0 0, .int .i64 0, .int .i64 0] 56))) (And.intro (bY n3 (.cells #[.slice none 0 0, .slice none 0 0, .slice none 0 0, .int .i64 0, .int .i64 0] 56)) n4))
  have aj := Lib.hid hG1
  clear n1 n2 n3 n4 hG1
  go_enter Tryz.func33, Tryz.ntmps33
  go_upto_region 1 with fail
  generalize ((((w.alloc (.cells #[.slice va vars.length vc, .slice pa procs.length pc, .int .u8 mk, .int .i64 mn, .string ms, .slice ma ml.length mc] 42)).alloc (.cells #[.slice ca vars.length cc, .slice none 0 0, .slice none 0 0] 54)).alloc (.cells #[.bool false] 4)).alloc (.cells #[.slice none 0 0, .slice none 0 0, .slice none 0 0, .int .i64 0, .int .i64 0] 56)) = w1 at *
  obtain⟨⟨b0, b1, b2⟩, b3, b4, b5⟩ := cB HB.out.1.1
  have hbl := lt_of_block HB.out.1.1
  go_wp2_with fail
  refine(mg.out _ aj.out).mono ?_
  rintro e w2 ⟨rfl, hg⟩
  have HG2 := Lib.hid (gtr aj.out hg)
  have HB2 := Lib.hid (And.intro (And.intro (ai HB.out.1.1 hg) (ai HB.out.1.2 hg)) (And.intro (ai HB.out.2.1 hg) (ai HB.out.2.2 hg)))
  clear hg mg HB aj b0 b1 b2 b3 b4 b5 hbl
  obtain⟨⟨b0, b1, b2⟩, b3, b4, b5⟩ := cB HB2.out.1.1
  have hbl := lt_of_block HB2.out.1.1
  go_wp2_with fail
  refine(gU.out _ HG2.out).mono ?_
  rintro e w3 ⟨fa, fc, rfl, hg⟩
  have aA := Lib.hid (gtr HG2.out hg)
  have HB3 := Lib.hid (And.intro (And.intro (ai HB2.out.1.1 hg) (ai HB2.out.1.2 hg)) (And.intro (ai HB2.out.2.1 hg) (ai HB2.out.2.2 hg)))
  clear hg gU HB2 HG2 b0 b1 b2 b3 b4 b5 hbl
  obtain⟨⟨b0, b1, b2⟩, b3, b4, b5⟩ := cB HB3.out.1.1
  have hbl := lt_of_block HB3.out.1.1
  obtain⟨s0, s1, s2⟩ := dF HB3.out.1.2
  have hsl := lt_of_block HB3.out.1.2
  go_wp2_with fail
  refine(iC.out _ aA.out).mono ?_
  rintro e w4 ⟨S, rfl, T, aH, dm, u1, u2, hnu⟩
  have F9 := Lib.hid hnu
  have dE := Lib.hid (ai HB3.out.1.1 hnu.g)
  clear hnu iC b0 b1 b2 b3 b4 b5 hbl s0 s1 s2 hsl
  go_upto_region 6 with fail
  have HK := Lib.hid (λ(y : World) (hy : Grow w4 y) => ai dE.out hy)
  refine wg 66 [some 37, some 38, some 39, some 40, some 41, some 42, some 43, some 44, some 45, some 12, none] [[], [], [], [], [3], [4], [5], [0, 1, 2, 6], [7], [], [9, 8]] [] [.c (.agg #[.slice va vars.length vc, .slice pa procs.length pc, .int .u8 mk, .int .i64 mn, .string ms, .slice ma ml.length mc]), .c (.pointer (some ⟨S, 0, none⟩)), .c (.int .i64 (fuel : Nat)), .c (.pointer (some ⟨w.heap.size, 1, none⟩)), .c (.slice pa procs.length pc), .c (.int .i64 (procs.length : Nat)), .p (λv y => ∃ q, v = .slice (some ⟨q, 0, none⟩) procs.length procs.length /\ (w4.heap.size <= q /\ y.heap[q]? = some (.cells (Array.replicate procs.length (.int .i64 0)) 3 (0, 0)))), .p (λv y => ∃ q, v = .agg #[.slice va vars.length vc, .slice pa procs.length pc, .int .u8 mk, .int .i64 mn, .string ms, .slice ma ml.length mc, .pointer (some ⟨S, 0, none⟩), .int .i64 0, .int .i64 fuel, .slice (some ⟨q, 0, none⟩) procs.length procs.length] /\ (w4.heap.size <= q /\ y.heap[q]? = some (.cells (Array.replicate procs.length (.int .i64 0)) 3 (0, 0)))), .p (λv y => ∃ R, v = .pointer (some ⟨R, 0, none⟩) /\ ∃ q, (w4.heap.size <= R /\ w4.heap.size <= q) /\ y.heap[R]? = some (.cells #[.slice va vars.length vc, .slice pa procs.length pc, .int .u8 mk, .int .i64 mn, .string ms, .slice ma ml.length mc, .pointer (some ⟨S, 0, none⟩), .int .i64 0, .int .i64 fuel, .slice (some ⟨q, 0, none⟩) procs.length procs.length] 99 (0, 0)) /\ y.heap[q]? = some (.cells (Array.replicate procs.length (.int .i64 0)) 3 (0, 0))), .al 10 8 #[.pointer none] 97, .st 9] ⟨⟨(λv x y hg h => by obtain⟨q, hv, h1, hb⟩ := h; exact⟨q, hv, h1, ai hb hg⟩), λ_ => (λz hz g v x y hb hm h => by simp[Kd.zero, Sp.k]at hz; subst hz; obtain⟨q, hv, h1, h3⟩ := h; exact⟨q, hv, h1, (hm.block _ (lt_of_block h3) (eB h3 hb (by decide))).trans h3⟩)⟩, ⟨(λv x y hg h => by obtain⟨q, hv, h1, hb⟩ := h; exact⟨q, hv, h1, ai hb hg⟩), λ_ => (λz hz g v x y hb hm h => by simp[Kd.zero, Sp.k]at hz; subst hz; obtain⟨q, hv, h1, h3⟩ := h; exact⟨q, hv, h1, (hm.block _ (lt_of_block h3) (eB h3 hb (by decide))).trans h3⟩)⟩, ⟨(λv x y hg h => by obtain⟨R, hv, q, h1, h2, h3⟩ := h; exact⟨R, hv, q, h1, ai h2 hg, ai h3 hg⟩), λ_ => (λz hz g v x y hb hm h => by simp[Kd.zero, Sp.k]at hz; subst hz; obtain⟨R, hv, q, h1, h2, h3⟩ := h; exact⟨R, hv, q, h1, (hm.block _ (lt_of_block h2) (eB h2 hb (by decide))).trans h2, (hm.block _ (lt_of_block h3) (eB h3 hb (by decide))).trans h3⟩)⟩, trivial⟩ (dJ rfl) ?steps ?done
  case steps =>
    refine⟨?s0, ?s1, ?s2, ?s3, ?s4, ?s5, ?s6, ?s7, ?s8, ?s9, ?s10, trivial⟩
    case s0 =>
      refine ok HK (λvs x hG HX hP => ?_)
      obtain⟨⟨b0, b1, b2⟩, b3, b4, b5⟩ := cB HX.out
      have hbl := lt_of_block HX.out
      simp only[zS]
      go_simp
      exact gc
    case s1 =>
      refine oo (λvs x hP => ?_)
      simp only[zS]
      go_simp
      exact gc
    case s2 =>
      refine oo (λvs x hP => ?_)
      simp only[zS]
      go_simp
      exact gc
    case s3 =>
      refine oo (λvs x hP => ?_)
      simp only[zS]
      go_simp
      exact gc
    case s4 =>
      refine ok HK (λvs x hG HX hP => ?_)
      obtain⟨⟨b0, b1, b2⟩, b3, b4, b5⟩ := cB HX.out
      have hbl := lt_of_block HX.out
      simp only[zS]
      go_simp
      exact gc
    case s5 =>
      refine oo (λvs x hP => ?_)
      simp only[zS]
      go_simp
      exact gc
    case s6 =>
      refine ok HK (λvs x hG HX hP => ?_)
      have hmk := R7 procs.length x (by omega)
      simp only[zS]
      go_simp
      exact gl ⟨_, rfl, hG.size, heap_alloc_new x _⟩
    case s7 =>
      refine oo (λvs x hP => ?_)
      have p6 := pq hP 6
      obtain⟨q6, h6, i6, j6⟩ := p6
      simp only[zS, h6]
      go_simp
      exact gk ⟨_, rfl, i6, j6⟩
    case s8 =>
      refine ok HK (λvs x hG HX hP => ?_)
      have p7 := pq hP 7
      obtain⟨q7, h7, i7, j7⟩ := p7
      simp only[zS, h7]
      go_simp
      exact gl ⟨_, rfl, _, ⟨hG.size, i7⟩, heap_alloc_new x _, bY j7 _⟩
    case s9 =>
      refine oz (λvs x => ?_)
      simp only[zS]
      go_simp
      exact⟨rfl, rfl⟩
    case s10 =>
      refine os (λvs x g hg hb hv => ?_)
      have p8 := hv
      obtain⟨R8, h8, q8, z8, e8⟩ := p8
      obtain c0 := cell1 hb
      have zt := bD hb
      simp only[zS, hg, h8]
      go_simp
      exact⟨(set1 hb _).1, (set1 hb _).2⟩
  case done =>
  intro vs w6 hE
  have hG := hE.grow
  have p6 := hE.val 6
  obtain⟨q6, h6, i6, j6⟩ := p6
  have p7 := hE.val 7
  obtain⟨q7, h7, i7, j7⟩ := p7
  have p8 := hE.val 8
  obtain⟨R8, h8, q8, z8, e8⟩ := p8
  obtain⟨g9, a9, l9, m9, b9⟩ := hE.box 9
  simp only[fT, zS, h8]at b9
  simp only[zS, Nat.reduceAdd, h6, h7, h8, a9]
  have HRW := Lib.hid (Rk (base := w4.heap.size) e8.2 z8.2 (by omega))
  obtain⟨x, Oe, Og, hxo, Oh, hst⟩ := EJ.out w3 w4 w6 S T aH dm u1 u2 R8 (.slice (some ⟨q8, 0, none⟩) procs.length procs.length) (List.replicate procs.length 0) F9.out hG e8.1 z8.1 HRW.out (by simp)
  have HX := Lib.hid (And.intro (And.intro Oe Og) (And.intro hxo (Oh _ _ _ b9)))
  have HST := Lib.hid hst
  have zo := Lib.hid (And.intro b9 (lt_of_block b9))
  have Na := Lib.hid hG
  clear hE hG Oe Og hxo Oh hst EJ HRW e8 z8 b9 l9 m9
  have HJ := Lib.hid (heap_alloc_new w6 (.cells JZ 104))
  have tH := Lib.hid (show Grow w6 (w6.alloc (.cells JZ 104))from(Mv.refl _ _).alloc _)
  have EK := Lib.hid (P5 w6.heap.size 60 #[.pointer (some ⟨g9, 0, none⟩), .pointer (some ⟨w.heap.size, 0, none⟩), .pointer (some ⟨w.heap.size + 1 + 1, 0, none⟩)] (w6.alloc (.cells JZ 104)) w6
    (λy1 y2 => ∃ s', res = .ok s' /\ ∃ x', ax x x' y1 y2 /\ aG w3 ⟨vars, .slice va vars.length vc, procs, .slice pa procs.length pc, .mk mk mn ms (.slice ma ml.length mc) ml⟩ fuel k y2 x' s')
    (λn y1 y2 => res = .error n /\ Grow w3 y2) HJ.out (Nat.le_refl _) (λw => by simp[go_sem]) (λy1 hy1 => by
      have hy : Grow w6 y1 := gtr tH.out hy1
      have hs1 := HST.out.later hy
      have hT := ai zo.out.1 hy
      rw[← HX.out.1.1]at hT
      refine(SQ (b := false) y1 x _ res g9 w.heap.size (w.heap.size + 1 + 1) (EH.out w3 aA.out) hs1 (HM.out w3 aA.out) (by rw[turned]; exact gu.out) hT (ai HB3.out.1.1 hs1.g) (ai HB3.out.2.1 hs1.g)).mono ?_
      intro e y2 hq
      cases res with
      |ok s' =>
        obtain⟨rfl, x', hr, hs⟩ := hq
        exact⟨λb o hb ho => hr.keep ho (HX.out.2.1 b hb), .inl ⟨rfl, s', rfl, x', hr, hs⟩⟩
      |error n =>
        obtain⟨⟨rfl, hn⟩, hg, x', hr⟩ := hq
        exact⟨λb o hb ho => hr.keep ho (HX.out.2.1 b hb), .inr ⟨n, rfl, hn, rfl, hg⟩⟩) tH.out.size)
  go_wp2_with fail
  refine EK.out.mono ?_
  rintro e w9 ⟨y1, y2, E, hy1, hE1, hE2, Aj, ⟨rfl, s', rfl, x', hr, hs⟩|⟨n, rfl, hn, rfl, hg⟩⟩
  · have Oi : x.ρ E = .other := HX.out.2.1 E (Nat.le_trans tH.out.size hE1)
    have Ga := tH.out.size
    have hl3 := HST.out.g.size
    have CR := Lib.hid (hs.other Aj (hr.o E hE2 Oi) (by omega))
    have Oj := Lib.hid (show w9.heap[g9]? = some (.cells #[.pointer (some ⟨R8, 0, none⟩)] 97 (0, 0))from by
      have h1 := ai zo.out.1 (gtr tH.out hy1)
      have h2 := hr.keep h1 HX.out.2.2
      rw[Aj.block g9 (lt_of_block h2) (λe => by have := zo.out.2; omega)]
      exact h2)
    have Gb := Lib.hid (And.intro (hr.R.trans HX.out.1.1) (hr.S.trans HX.out.1.2))
    have Ol := Lib.hid (EI.out s' rfl)
    have zW := Lib.hid (ai HB3.out.2.2 CR.out.g)
    clear hr hs Oi Ga hl3 Aj hy1 hE1 hE2 EK HX HST zo tH HJ EH gu EI HM F9 dE
    go_upto_region 10 with fail
    have jY := Lib.hid (λ(y : World) (hy : Grow w9 y) => And.intro (ai Oj.out hy) (CR.out.later hy))
    refine jm 12 66 [some 55, some 56, some 57, some 58, some 59, some 60, some 61, some 62, some 63, some 64, some 65, some 8] [[], [0], [1], [2], [], [4], [], [6], [7], [8], [5, 9], [3]] [] [.c (.pointer (some ⟨R8, 0, none⟩)), .c (.pointer (some ⟨R8, 0, none⟩)), .c (.pointer (some ⟨R8, 9, none⟩)), .c (x'.ev), .c (.pointer (some ⟨S, 0, none⟩)), .p (λv y => ∃ M, v = .agg #[.slice (some ⟨M, 0, none⟩) s'.outs.length s'.outs.length, .slice none 0 0, .slice none 0 0] /\ ∃ vs, gz w9 y M s'.outs vs /\ vs.length = s'.outs.length), .c (.pointer (some ⟨R8, 0, none⟩)), .c (.pointer (some ⟨R8, 0, none⟩)), .c (.pointer (some ⟨R8, 7, none⟩)), .c (.int .i64 s'.steps), .p (λv y => ∃ M, v = .agg #[.slice (some ⟨M, 0, none⟩) s'.outs.length s'.outs.length, .slice none 0 0, .slice none 0 0, .int .i64 s'.steps, .int .i64 0] /\ ∃ vs, gz w9 y M s'.outs vs /\ vs.length = s'.outs.length), .c (x'.ev)] ⟨⟨(λv x y hg h => by obtain⟨M, hv, vs, hu, hl⟩ := h; exact⟨M, hv, vs, hu.later hg, hl⟩), λ_ => bu⟩, ⟨(λv x y hg h => by obtain⟨M, hv, vs, hu, hl⟩ := h; exact⟨M, hv, vs, hu.later hg, hl⟩), λ_ => bu⟩, trivial⟩ (dJ rfl) ?steps ?done
    case steps =>
      refine⟨?s0, ?s1, ?s2, ?s3, ?s4, ?s5, ?s6, ?s7, ?s8, ?s9, ?s10, ?s11, trivial⟩
      case s0 =>
        refine ok jY (λvs x hG HX hP => ?_)
        have t0 := cell1 HX.out.1
        have htl := lt_of_block HX.out.1
        simp only[zS]
        go_simp
        exact gc
      case s1 =>
        refine oo (λvs x hP => ?_)
        simp only[zS]
        go_simp
        exact gc
      case s2 =>
        refine oo (λvs x hP => ?_)
        simp only[zS]
        go_simp
        exact gc
      case s3 =>
        refine ok jY (λvs x hG HX hP => ?_)
        have hst := HX.out.2
        obtain⟨⟨-, r7⟩, -, r9⟩ := hst.cells
        have hrl := lt_of_block hst.run
        rw[Gb.out.1]at r7 r9 hrl
        clear hst
        simp only[zS]
        go_simp
        exact gc
      case s4 =>
        refine oo (λvs x hP => ?_)
        simp only[zS]
        go_simp
        exact gc
      case s5 =>
        refine ok jY (λvs x hG HX hP => ?_)
        have kW := Ri _ _ _ _ x _ _ HX.out.2 Ol.out.1 Ol.out.2
        rw[Gb.out.2]at kW
        have HC := Lib.hid kW
        clear kW
        simp only[zS]
        go_simp
        refine(HC.out).mono ?_
        rintro e y ⟨M, rfl, us, hu, hl⟩
        exact⟨_, rfl, hu.g, _, rfl, us, hu.weak hG, hl⟩
      case s6 =>
        refine ok jY (λvs x hG HX hP => ?_)
        have t0 := cell1 HX.out.1
        have htl := lt_of_block HX.out.1
        simp only[zS]
        go_simp
        exact gc
      case s7 =>
        refine oo (λvs x hP => ?_)
        simp only[zS]
        go_simp
        exact gc
      case s8 =>
        refine oo (λvs x hP => ?_)
        simp only[zS]
        go_simp
        exact gc
      case s9 =>
        refine ok jY (λvs x hG HX hP => ?_)
        have hst := HX.out.2
        obtain⟨⟨-, r7⟩, -, r9⟩ := hst.cells
        have hrl := lt_of_block hst.run
        rw[Gb.out.1]at r7 r9 hrl
        clear hst
        simp only[zS]
        go_simp
        exact gc
      case s10 =>
        refine oo (λvs x hP => ?_)
        have p5 := pq hP 5
        obtain⟨M5, h5, Om, u5, k5⟩ := p5
        simp only[zS, h5]
        go_simp
        exact gk ⟨_, rfl, Om, u5, k5⟩
      case s11 =>
        refine oo (λvs x hP => ?_)
        simp only[zS]
        go_simp
        exact gc
    case done =>
    intro vs wx hE
    have hG := hE.grow
    have p5 := hE.val 5
    obtain⟨M5, h5, Om, u5, k5⟩ := p5
    have nH := hE.val 10
    obtain⟨xz, h10, Yi, Oo, k10⟩ := nH
    simp only[zS, Nat.reduceAdd, h5, h10, List.drop_succ_cons, List.drop_zero]
    have fH := Lib.hid (ai zW.out hG)
    have aT := Lib.hid (gtr aA.out (gtr CR.out.g hG))
    have qF := Lib.hid ((Oo.weak CR.out.g).weak aA.out)
    have xX := Lib.hid k10
    clear hE hG u5 Oo k5 k10 jY Oj zW
    have eZ := Lib.hid (Bw fH.out (.slice (some ⟨xz, 0, none⟩) s'.outs.length s'.outs.length) (.slice none 0 0) (.slice none 0 0) (.int .i64 s'.steps) (.int .i64 0))
    obtain⟨⟨c0, c1, c2⟩, c3, c4⟩ := lI fH.out
    have hbl := lt_of_block fH.out
    have zt := bD fH.out
    go_wp2_with fail
    obtain⟨⟨t0, t1, t2⟩, t3, t4⟩ := lI eZ.out.1
    exact bodyPost_ret (v := .tuple #[x'.ev, .agg #[.slice (some ⟨xz, 0, none⟩) s'.outs.length s'.outs.length, .slice none 0 0, .slice none 0 0, .int .i64 s'.steps, .int .i64 0]]) (by simp[results, Tryz.results33, go_sem, t0, t1, t2, t3, t4]) rfl ⟨_, xz, _, _, rfl, qF.out.fill fH.out eZ.out.2 (by omega), xX.out⟩
  · have Ga := tH.out.size
    have hl3 := HST.out.g.size
    have kU := Lib.hid (bN hg Aj (λb e => by omega))
    have hne : (n != 0) = true := by simpa using hn
    have HN := Lib.hid hn
    clear hn hg Aj hy1 hE1 hE2 EK HX HST zo tH HJ EH gu EI HM F9 dE Ga hl3
    obtain⟨s0, s1, s2⟩ := dF (ai HB3.out.1.2 kU.out)
    have hsl := lt_of_block (ai HB3.out.1.2 kU.out)
    go_wp2_with fail
    refine(iy.out _ (gtr aA.out kU.out)).mono ?_
    rintro e zw ⟨a, m, c, rfl, hg⟩
    have aT := Lib.hid (gtr kU.out hg)
    clear hg s0 s1 s2 hsl
    have fH := Lib.hid (ai HB3.out.2.2 aT.out)
    have eZ := Lib.hid (Bw fH.out (.slice a m c) (.slice none 0 0) (.slice none 0 0) (.int .i64 0) (.int .i64 n))
    obtain⟨⟨c0, c1, c2⟩, c3, c4⟩ := lI fH.out
    have hbl := lt_of_block fH.out
    have zt := bD fH.out
    go_wp2_with fail
    obtain⟨⟨t0, t1, t2⟩, t3, t4⟩ := lI eZ.out.1
    exact bodyPost_ret (v := .tuple #[.slice none 0 0, .agg #[.slice a m c, .slice none 0 0, .slice none 0 0, .int .i64 0, .int .i64 n]]) (by simp[results, Tryz.results33, go_sem, t0, t1, t2, t3, t4]) rfl ⟨HN.out, ⟨_, _, _, _, rfl⟩, bN (gtr aA.out aT.out) eZ.out.2 (λb e => by omega)⟩
def KN (w : World) (res : Except Int ah) (e : Ending) (w' : World) : Prop := match res with
  |.ok s' => ∃ M steps vs, e = .returned (.agg #[.slice (some ⟨M, 0, none⟩) s'.outs.length s'.outs.length, .slice none 0 0, .slice none 0 0, .int .i64 steps, .int .i64 0]) /\ gz w w' M s'.outs vs /\ vs.length = s'.outs.length
  |.error n => n ≠ 0 /\ (∃ a m c, e = .returned (.agg #[.slice a m c, .slice none 0 0, .slice none 0 0, .int .i64 0, .int .i64 n])) /\ Grow w w'
set_option maxRecDepth 100000 in
set_option maxHeartbeats 6400000 in
theorem P6 (vars : List au) (va : Option Addr) (vc : Nat) (procs : List aO) (pa : Option Addr) (pc : Nat) (mk mn : Int) (ms : ByteArray) (ma : Option Addr) (ml : List ae) (mc : Nat) (ca : Option Addr) (cn cc : Nat) (fuel : Nat) (w : World) (res : Except Int ah)
    (HST : ∀ z, Grow w z -> Calls Tryz.prog 33 #[.agg #[.slice va vars.length vc, .slice pa procs.length pc, .int .u8 mk, .int .i64 mn, .string ms, .slice ma ml.length mc], .agg #[.slice ca cn cc, .slice none 0 0, .slice none 0 0], .int .i64 fuel, .bool false] z (Jz z res)) :
    Calls Tryz.prog 21 #[.agg #[.slice va vars.length vc, .slice pa procs.length pc, .int .u8 mk, .int .i64 mn, .string ms, .slice ma ml.length mc], .agg #[.slice ca cn cc, .slice none 0 0, .slice none 0 0], .int .i64 fuel] w (KN w res) := by
  have HS := Lib.hid HST
  clear HST
  have hG1 : Grow w (((w.alloc (.cells #[.slice va vars.length vc, .slice pa procs.length pc, .int .u8 mk, .int .i64 mn, .string ms, .slice ma ml.length mc] 42)).alloc (.cells #[.slice ca cn cc, .slice none 0 0, .slice none 0 0] 54)).alloc (.cells #[.slice none 0 0, .slice none 0 0, .slice none 0 0, .int .i64 0, .int .i64 0] 56)) := (((Mv.refl _ w).alloc _).alloc _).alloc _
  obtain⟨n1, n2, n3⟩ := Dv w (.cells #[.slice va vars.length vc, .slice pa procs.length pc, .int .u8 mk, .int .i64 mn, .string ms, .slice ma ml.length mc] 42) (.cells #[.slice ca cn cc, .slice none 0 0, .slice none 0 0] 54) (.cells #[.slice none 0 0, .slice none 0 0, .slice none 0 0, .int .i64 0, .int .i64 0] 56)
  obtain⟨⟨b0, b1, b2⟩, b3, b4, b5⟩ := cB n1
  have hbl := lt_of_block n1
  obtain⟨s0, s1, s2⟩ := dF n2
  have hsl := lt_of_block n2
  have aj := Lib.hid hG1
  have HB := Lib.hid n3
  clear n1 n2 n3 hG1
  go_enter Tryz.func21, Tryz.ntmps21
  go_upto_region 1 with fail
  generalize (((w.alloc (.cells #[.slice va vars.length vc, .slice pa procs.length pc, .int .u8 mk, .int .i64 mn, .string ms, .slice ma ml.length mc] 42)).alloc (.cells #[.slice ca cn cc, .slice none 0 0, .slice none 0 0] 54)).alloc (.cells #[.slice none 0 0, .slice none 0 0, .slice none 0 0, .int .i64 0, .int .i64 0] 56)) = w1 at *
  have HC := Lib.hid (HS.out _ aj.out)
  clear HS
  go_wp2_with fail
  refine HC.out.mono ?_
  clear HC b0 b1 b2 b3 b4 b5 hbl s0 s1 s2 hsl
  intro e w2 hq
  cases res with
  |error n =>
    obtain⟨hn, ⟨ev, a, m, c, rfl⟩, hg⟩ := hq
    have HG2 := Lib.hid (gtr aj.out hg)
    have HB2 := Lib.hid (ai HB.out hg)
    have HN := Lib.hid hn
    clear hn hg aj HB
    have eU := Lib.hid (heap_alloc_new w2 (.cells #[.slice a m c, .slice none 0 0, .slice none 0 0, .int .i64 0, .int .i64 n] 56))
    have aA := Lib.hid (show Grow w (w2.alloc (.cells #[.slice a m c, .slice none 0 0, .slice none 0 0, .int .i64 0, .int .i64 n] 56))from HG2.out.alloc _)
    have HB3 := Lib.hid (show(w2.alloc (.cells #[.slice a m c, .slice none 0 0, .slice none 0 0, .int .i64 0, .int .i64 n] 56)).heap[w.heap.size + 1 + 1]? = _ from bY HB2.out _)
    go_upto_region 2 with fail
    generalize (w2.alloc (.cells #[.slice a m c, .slice none 0 0, .slice none 0 0, .int .i64 0, .int .i64 n] 56)) = w3 at *
    have eZ := Lib.hid (Bw HB3.out (.slice a m c) (.slice none 0 0) (.slice none 0 0) (.int .i64 0) (.int .i64 n))
    obtain⟨⟨c0, c1, c2⟩, c3, c4⟩ := lI HB3.out
    obtain⟨⟨d0, d1, d2⟩, d3, d4⟩ := lI eU.out
    have hbl := lt_of_block HB3.out
    have hnl := lt_of_block eU.out
    have zt := bD HB3.out
    go_wp2_with fail
    obtain⟨⟨t0, t1, t2⟩, t3, t4⟩ := lI eZ.out.1
    exact bodyPost_ret (v := .agg #[.slice a m c, .slice none 0 0, .slice none 0 0, .int .i64 0, .int .i64 n]) (by simp[results, Tryz.results21, go_sem, t0, t1, t2, t3, t4]) rfl ⟨HN.out, ⟨_, _, _, rfl⟩, bN aA.out eZ.out.2 (λb e => by omega)⟩
  |ok s' =>
    obtain⟨ev, M, steps, us, rfl, hu, hl⟩ := hq
    have HG2 := Lib.hid (gtr aj.out hu.g)
    have HB2 := Lib.hid (ai HB.out hu.g)
    have eU := Lib.hid (heap_alloc_new w2 (.cells #[.slice (some ⟨M, 0, none⟩) s'.outs.length s'.outs.length, .slice none 0 0, .slice none 0 0, .int .i64 steps, .int .i64 0] 56))
    have aA := Lib.hid (show Grow w2 (w2.alloc (.cells #[.slice (some ⟨M, 0, none⟩) s'.outs.length s'.outs.length, .slice none 0 0, .slice none 0 0, .int .i64 steps, .int .i64 0] 56))from(Mv.refl _ _).alloc _)
    have HB3 := Lib.hid (ai HB2.out aA.out)
    have WV := Lib.hid ((hu.weak aj.out).later aA.out)
    have HL := Lib.hid hl
    clear hu hl aj HB HG2 aA HB2
    go_upto_region 2 with fail
    generalize (w2.alloc (.cells #[.slice (some ⟨M, 0, none⟩) s'.outs.length s'.outs.length, .slice none 0 0, .slice none 0 0, .int .i64 steps, .int .i64 0] 56)) = w3 at *
    have eZ := Lib.hid (Bw HB3.out (.slice (some ⟨M, 0, none⟩) s'.outs.length s'.outs.length) (.slice none 0 0) (.slice none 0 0) (.int .i64 steps) (.int .i64 0))
    obtain⟨⟨c0, c1, c2⟩, c3, c4⟩ := lI HB3.out
    obtain⟨⟨d0, d1, d2⟩, d3, d4⟩ := lI eU.out
    have hbl := lt_of_block HB3.out
    have hnl := lt_of_block eU.out
    have zt := bD HB3.out
    go_wp2_with fail
    obtain⟨⟨t0, t1, t2⟩, t3, t4⟩ := lI eZ.out.1
    exact bodyPost_ret (v := .agg #[.slice (some ⟨M, 0, none⟩) s'.outs.length s'.outs.length, .slice none 0 0, .slice none 0 0, .int .i64 steps, .int .i64 0]) (by simp[results, Tryz.results21, go_sem, t0, t1, t2, t3, t4]) rfl ⟨M, _, _, rfl, WV.out.fill HB3.out eZ.out.2 (by omega), HL.out⟩
end
section
open Go.RowKit
structure BM (p q : ByteArray) : Prop where
  st : aX (dz p q) = true
  pp : aX (eQ sX p) = true
  ps : aX (psT sX q) = true
  np : (sX == p) = false
  nq : (sX == q) = false
theorem dV {C D : List (List Int)} {i : Nat} {l : List Int} (h : C[i]? = some l) : (C ++ D)[i]? = some l := by
  have hi : i < C.length := (List.getElem?_eq_some_iff.1 h).1
  rw[List.getElem?_append_left hi]; exact h
theorem fK {C : List (List Int)} {i : Nat} {l : List Int} (h : C[i]? = some l) : i < C.length := (List.getElem?_eq_some_iff.1 h).1
theorem om {C : List (List Int)} {V : List (au × Nat)} {n st : Nat} {B : dD} : (S4 C V n st B).value (aC 0) = some (.ok 0) := S4.value (S4.num (Int.le_refl 0))
set_option maxHeartbeats 1000000 in
theorem Tx {P : List bA} {C : List (List Int)} {V : List (au × Nat)} {n st fuel g : Nat} {B : dD} {p q : ByteArray} {dp dq : au} {ip iq : Nat} {l G : List Int} (b : Bool) (hM : BM p q) (hx : bf V sX = none)
    (hp : bf V (if b then q else p) = some (dp, ip)) (hkp : dp.kind = 3) (hq : bf V (if b then p else q) = some (dq, iq)) (hkq : dq.kind = 3) (hl : C[ip]? = some l) (hG : C[iq]? = some G) (hne : ip ≠ iq) (hf : st + 4 <= fuel) :
    exec P fuel (g + 4) (.stmt (dz p q)) b (S4 C V n st B) = some (if l = []then .error 13 else if 1000 <= G.length then .error 5 else .ok (S4 (((C.set ip l.dropLast).set iq (G ++ [l.getLast?.getD 0])) ++ [[0]]) V n (st + 4) B)) := by
  have h1 := fK hl
  have h2 := fK hG
  have CQ := hM.np
  have hnq := hM.nq
  have e1 : (if b then aC 0 else aC 0) = aC 0 := by cases b <;> rfl
  unfold dz
  rw[tT hM.st, S4.step (by omega)]
  simp only[aI, e1, om]
  rw[S4.open hx]
  simp only[if_true]
  have key : ∀ (x y : ByteArray), (sX == x) = false -> (sX == y) = false -> bf V x = some (dp, ip) -> bf V y = some (dq, iq) ->
      (aI (aI (some ((S4 (C ++ [[0]]) (V ++ [(⟨sX, 1, 0⟩, C.length)]) (n + 1) (st + 1) B).step fuel)) λs => s.move false x sX) λs => aI (some (s.step fuel)) λs => s.move true y sX) = some (if l = []then .error 13 else if 1000 <= G.length then .error 5 else .ok (S4 (((C.set ip l.dropLast).set iq (G ++ [l.getLast?.getD 0])) ++ [[0]]) (V ++ [(⟨sX, 1, 0⟩, C.length)]) (n + 1) (st + 1 + 1 + 1) B)) := by
    intro x y hnx hny hx hy
    rw[S4.step (by omega)]
    simp only[aI]
    have lx : bf (V ++ [(⟨sX, 1, 0⟩, C.length)]) x = some (dp, ip) := by rw[yo]; simp only[hnx]; exact hx
    have ly : bf (V ++ [(⟨sX, 1, 0⟩, C.length)]) y = some (dq, iq) := by rw[yo]; simp only[hny]; exact hy
    have lz : bf (V ++ [(⟨sX, 1, 0⟩, C.length)]) sX = some (⟨sX, 1, 0⟩, C.length) := by rw[yo]; simp
    rw[S4.pop lx hkp lz rfl (dV hl) (v := 0) (by simp) (by omega)]
    by_cases hE : l = []
    · simp only[hE, if_true]
    · simp only[hE, if_false, ne_eq, not_true_eq_false]
      rw[S4.step (by omega)]
      simp only
      rw[S4.push ly hkq lz rfl (c := G) (v := l.getLast?.getD 0) (by
        rw[List.getElem?_set_ne (by omega), List.getElem?_set_ne hne]; exact dV hG) (by rw[List.getElem?_set_self (by simp)]) (by omega)]
      by_cases hF : 1000 <= G.length
      · simp[hF]
      · simp only[hF, if_false]
        congr 3
        have e : ∀ (D : List (List Int)) (i : Nat) (v : List Int) (z : List Int), i < D.length -> (D ++ [z]).set i v = D.set i v ++ [z] := λD i v z hi => by rw[List.set_append_left _ _ hi]
        have e2 : ∀ (D : List (List Int)) (k : Nat) (v z : List Int), D.length = k -> (D ++ [z]).set k v = D ++ [v] := λD k v z hk => by subst hk; rw[List.set_append_right _ _ (Nat.le_refl _)]; simp
        rw[e _ _ _ _ h1, e2 _ _ _ _ (by simp), e _ _ _ _ (by simpa using h2), e2 _ _ _ _ (by simp)]
  have fin : ∀ r : Except Int ah, r = (if l = []then .error 13 else if 1000 <= G.length then .error 5 else .ok (S4 (((C.set ip l.dropLast).set iq (G ++ [l.getLast?.getD 0])) ++ [[0]]) (V ++ [(⟨sX, 1, 0⟩, C.length)]) (n + 1) (st + 1 + 1 + 1) B)) ->
      (aI (some r) λs => aI (some (s.step fuel)) λs => aI (s.value (aC 0)) λv => s.close sX v) = some (if l = []then .error 13 else if 1000 <= G.length then .error 5 else .ok (S4 (((C.set ip l.dropLast).set iq (G ++ [l.getLast?.getD 0])) ++ [[0]]) V n (st + 4) B)) := by
    rintro r rfl
    by_cases hE : l = []
    · simp[hE, aI]
    · by_cases hF : 1000 <= G.length
      · simp[hE, hF, aI]
      · simp only[hE, hF, if_false, aI]
        rw[S4.step (by omega)]
        simp only[om]
        rw[S4.close (c := 0) (by rw[List.getElem?_append_right (by simp)]; simp)]
        rfl
  have nil : ∀ {r : Option (Except Int ah)}, aI r (λs => some (.ok s)) = r := by
    intro r
    rcases r with - | e|s <;> rfl
  cases b with
  |false =>
    have k := key p q CQ hnq hp hq
    simp only[turned, Bool.false_eq_true, if_false, eX, AZ hM.pp, qZ hM.ps, Bool.not_false, jr]
    rw[← fin _ rfl, ← k]
    simp only[nil]
    rfl
  |true =>
    have k := key q p hnq CQ hp hq
    simp only[turned, if_true, List.reverse_cons, List.reverse_nil, List.nil_append, List.cons_append, eX, AZ hM.pp, qZ hM.ps, Bool.not_true, jr]
    rw[← fin _ rfl, ← k]
    simp only[nil]
    rfl
end
end Go.Proofs.YtbpodipdfohikaaGreat
