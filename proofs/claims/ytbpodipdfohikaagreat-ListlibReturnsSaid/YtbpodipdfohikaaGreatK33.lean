import Derived.Test.YtbpodipdfohikaaGreatK32
set_option linter.unusedSimpArgs false
set_option linter.unusedVariables false
set_option maxRecDepth 100000
set_option maxHeartbeats 25600000
namespace Go.Proofs.YtbpodipdfohikaaGreat
open Go.RowKit Go.Instr
theorem aF.Hz {w0 : World} {vars : List au} {vv : Value} {procs : List aO} {pv : Value} {mk mn : Int} {ms : ByteArray} {mv : Value} {ml : List ae} {fuel k : Nat} {w : World} {x : aK} {s : ah} (h : aF w0 ⟨vars, vv, procs, pv, .mk mk mn ms mv ml⟩ fuel k w x s) :
    ((w.cell? ⟨x.R, 0, none⟩ = some vv /\ w.cell? ⟨x.R, 1, none⟩ = some pv) /\ (w.cell? ⟨x.R, 2, none⟩ = some (.int .u8 mk) /\ w.cell? ⟨x.R, 3, none⟩ = some (.int .i64 mn)) /\ w.cell? ⟨x.R, 4, none⟩ = some (.string ms) /\ w.cell? ⟨x.R, 5, none⟩ = some mv) /\ x.R < w.heap.size := by
  have hr := h.run
  simp only[az.cells, ae.cells]at hr
  exact⟨by simp[World.cell?, hr], lt_of_block hr⟩
set_option maxRecDepth 100000 in
set_option maxHeartbeats 12800000 in
theorem QF {w0 : World} {p : az} {fuel k g : Nat} (hp : je w0 p) (hpb : ∀ q ∈ p.procs, aS (λ_ => True) w0 q.body) (hpl : ∀ q ∈ p.procs, q.params.length <= k) (IH : ∀ g', g' < g -> rM w0 p fuel k g') (w : World) (x : aK) (s : ah) (res : Except Int ah) (nk nn : Int) (ns : ByteArray) (nv : Value) (nl : List ae) (b : Bool) (hk : nk = 50 \/ nk = 51) (h : aF w0 p fuel k w x s) (hno : aS (λ_ => True) w0 (.mk nk nn ns nv nl)) (hex : exec (p.procs.map aO.d) fuel g (.stmt (ae.t (.mk nk nn ns nv nl))) b s = some res) :
    Calls Tryz.prog 122 #[.pointer (some ⟨x.R, 0, none⟩), ae.val (.mk nk nn ns nv nl), .bool (b != (nk == 51))] w (bY w0 p fuel k x w res) := by
  obtain⟨x1, hr1, ho, h1⟩ := h.fresh
  rw[show x.R = x1.R from hr1.R.symm]
  refine Calls.mono ?_ (λe w' (hq : bY w0 p fuel k x1 w res e w') => hq.of hr1)
  clear hr1 h
  revert h1 ho
  generalize x1 = x
  intro ho h
  have hsh := nR hex
  rw[ae.t]at hsh hex
  have sj := Rk hk hsh
  rw[ae.dz]at sj
  obtain⟨g', rfl, d, sO, oP⟩ := QD hk hex
  clear hsh hex
  generalize (b != (nk == 51)) = bb at *
  obtain⟨i, hi, hix, hpi⟩ := QE sO
  have hi2 : i < p.procs.length := by simpa using hi
  have hk1 := h.bd.2.2.2.2.2
  have hqm := List.getElem_mem hi2
  have ve := hpb _ hqm
  have u6 := hpl _ hqm
  have Cv := hp.procs.each _ hqm
  have hqc := hp.procs.row.at hi2
  rw[List.getElem_map]at hpi
  obtain⟨vars, vv, procs, pv, ⟨mk, mn, ms, mv, ml⟩⟩ := p
  simp only at hi2 hqm ve u6 Cv hqc hpi hpb hpl oP hix sO hi
  obtain⟨pb, po, gW, hpv, -, hqc⟩ := hqc
  subst hpv
  generalize hqq : procs[i] = qq at *
  obtain⟨qn, aM, qv, ⟨bk, bn, bs, bv, bl⟩⟩ := qq
  obtain⟨qa, qc, uZ, -, -⟩ := Cv.params.form
  simp only at uZ
  subst uZ
  obtain⟨ba, bc, rfl, -, -⟩ := ve.at.form
  simp only[aO.cells, ae.cells]at hqc
  subst hpi
  have FT := Lib.hid (λz (hz : Grow w0 z) => And.intro (And.intro (And.intro (bV (hqc 0 _ rfl) hz) (bV (hqc 1 _ rfl) hz)) (And.intro (bV (hqc 2 _ rfl) hz) (bV (hqc 3 _ rfl) hz))) (And.intro (bV (hqc 4 _ rfl) hz) (bV (hqc 5 _ rfl) hz)))
  simp only[Nat.add_zero]at FT
  have Ez := Lib.hid (λz (hz : Grow w0 z) => (yt _ ns z (hp.later hz)).mono (R' := λe w' => e = .returned (.int .i64 (i : Nat)) /\ Grow z w') (λe w' hq => by
    obtain⟨rfl, hg⟩ := hq
    exact⟨by rw[show lJ.procs (az.d ⟨vars, vv, procs, .slice (some ⟨pb, po, none⟩) procs.length gW, .mk mk mn ms mv ml⟩) = procs.map aO.d from rfl, hix], hg⟩))
  have Np := Lib.hid (λz (hz : Grow w0 z) => Cv.params.later hz)
  have Cw := Lib.hid (And.intro hk1 u6)
  have kZ := Lib.hid (λz x' s' jR (hz : aF w0 ⟨vars, vv, procs, .slice (some ⟨pb, po, none⟩) procs.length gW, .mk mk mn ms mv ml⟩ fuel k z x' s') (he : exec (procs.map aO.d) fuel g' (.stmts (turned bb (ae.t (.mk bk bn bs (.slice ba bl.length bc) bl)).kids)) bb s' = some jR) => IH g' (by omega) z x' s' jR (.mk bk bn bs (.slice ba bl.length bc) bl) bb hz ve he)
  obtain⟨na, nc, rfl, -, -⟩ := hno.at.form
  have jo := Lib.hid hno
  have iK := Lib.hid h.g
  have aj := Lib.hid (show Grow w (w.alloc (.cells #[.int .u8 nk, .int .i64 nn, .string ns, .slice na nl.length nc] 40))from(Mv.refl _ w).alloc _)
  have aY := Lib.hid (heap_alloc_new w (.cells #[.int .u8 nk, .int .i64 nn, .string ns, .slice na nl.length nc] 40))
  have HS := Lib.hid h
  have gF := Lib.hid oP
  have HI := Lib.hid hi2
  have HO := Lib.hid ho
  have EA := Lib.hid sj
  clear hno oP h ho hk IH ve u6 Cv hqc hqm hpb hpl hp hk1 hix sO hi hi2 sj hqq
  simp only[ae.val, az.val]at kZ Ez ⊢
  go_enter Tryz.func122, Tryz.ntmps122
  go_upto_region 1 with fail
  generalize (w.alloc (.cells #[.int .u8 nk, .int .i64 nn, .string ns, .slice na nl.length nc] 40)) = w1 at *
  obtain⟨⟨n0, n1⟩, n2, n3⟩ := aI aY.out
  have hbl := lt_of_block aY.out
  have hmk := Rm nl.length w1 (by have := EA.out; omega)
  go_wp2_with fail
  have Nq := Lib.hid (show(w1.alloc (.cells (Array.replicate nl.length (.string ⟨#[]⟩)) 9)).heap[w1.heap.size]? = some (.cells (jf nl 0) 9 (0, 0))from by rw[Pe]; exact heap_alloc_new _ _)
  have pg := Lib.hid (show Grow w1 (w1.alloc (.cells (Array.replicate nl.length (.string ⟨#[]⟩)) 9))from(Mv.refl _ _).alloc _)
  clear hmk n0 n1 n2 n3 hbl
  generalize (w1.alloc (.cells (Array.replicate nl.length (.string ⟨#[]⟩)) 9)) = w2 at *
  go_loopw [18] (λt wr => ∃ j : Nat, t = .int .i64 j /\ j <= nl.length /\ Grow w1 wr /\ wr.heap[w1.heap.size]? = some (.cells (jf nl j) 9 (0, 0))) (λt _ => nl.length - (intOf t).toNat)
  case atStart => exact⟨0, rfl, Nat.zero_le _, pg.out, Nq.out⟩
  obtain⟨j, rfl, hj, hgr, har⟩ := hrel
  have bU := Lib.hid hgr
  have xQ := Lib.hid har
  clear hgr har pg Nq
  rcases Nat.lt_or_ge j nl.length with hlt|hge
  · have BF : decide ((j : Int) < nl.length) = true := by simp; omega
    have HRW := Lib.hid ((jo.out.up (gtr iK.out (gtr aj.out bU.out))).at.row.2.2.2.1)
    have xI := Lib.hid (jo.out.kids)
    obtain⟨kb, ko, cap, e, _, -⟩ := HRW.out.at hlt
    simp only[Value.slice.injEq, true_and]at e
    obtain⟨rfl, rfl⟩ := e
    obtain⟨kk, kn, ks, ka, kc, kl, hke, hcell⟩ := AY HRW.out (λy hy => (xI.out y hy).at.later (gtr iK.out (gtr aj.out bU.out))) hlt
    have kV := Lib.hid hcell
    have Uc := Lib.hid (show(jf nl j).setIfInBounds j (.string ks) = jf nl (j + 1)from by have := P5 nl j hlt; rw[hke, ae.t]at this; exact this)
    have HJ := Lib.hid hlt
    have HK := Lib.hid (λ(y : World) (hy : Grow wr y) => And.intro (And.intro (bV hcell.1.1 hy) (bV hcell.1.2 hy)) (And.intro (bV hcell.2.1 hy) (bV hcell.2.2 hy)))
    clear hcell hke xI HRW hj
    go_upto_region 4 with fail
    refine zm 79 [some 20, some 21, some 22, some 8, some 7, none] [[], [], [1], [], [0], [3, 2]] [] [.c (.int .i64 (j : Nat)), .c (.pointer (some ⟨kb, ko + j * 4, none⟩)), .c (.agg #[.int .u8 kk, .int .i64 kn, .string ks, .slice ka kl.length kc]), .al 5 2 #[.int .u8 0, .int .i64 0, .string ⟨#[]⟩, .slice none 0 0] 40, .c (.int .i64 (j : Nat)), .st 3] trivial (dG rfl) ?steps ?done
    case steps =>
      refine⟨?s0, ?s1, ?s2, ?s3, ?s4, ?s5, trivial⟩
      case s0 =>
        refine oo (λvs x hP => ?_)
        simp only[zS]
        go_simp
        exact gc
      case s1 =>
        refine ok0 HK (λvs x hG HX hP => ?_)
        have hbd : (j : Int) < (nl.length : Nat) := by have := HJ.out; omega
        simp only[zS]
        go_simp
        exact gc
      case s2 =>
        refine ok0 HK (λvs x hG HX hP => ?_)
        obtain⟨⟨d0, d1⟩, d2, d3⟩ := HX.out
        simp only[zS]
        go_simp
        exact gc
      case s3 =>
        refine oz (λvs x => ?_)
        simp only[zS]
        go_simp
        exact⟨rfl, rfl⟩
      case s4 =>
        refine oo (λvs x hP => ?_)
        simp only[zS]
        go_simp
        exact gc
      case s5 =>
        refine os (λvs x g hg hb hv => ?_)
        have h2 : vs 2 = .agg #[.int .u8 kk, .int .i64 kn, .string ks, .slice ka kl.length kc] := hv
        obtain⟨c0, c1, c2, c3⟩ := fA hb
        have zt := bE hb
        simp only[zS, hg, h2]
        go_simp
        exact⟨(dU hb _ _ _ _).1, (dU hb _ _ _ _).2⟩
    case done =>
    intro vs wz hE
    have hG := hE.wQ
    obtain⟨g3, a3, l3, m3, b3⟩ := hE.box 3
    simp only[zS, Nat.reduceAdd, a3]
    have HB3 := Lib.hid b3
    have aT := Lib.hid hG
    simp only[fZ, zS]at HB3
    clear hE hG b3 l3 m3 HK kV
    have zY := ai xQ.out aT.out
    have hsz := xX nl j (by have := HJ.out; omega)
    have qR : wz.cell? ⟨w1.heap.size, j, none⟩ = some ((jf nl j)[j]'(by rw[hsz]; exact HJ.out)) := by
      simp only[World.cell?, zY]
      rw[Array.getElem?_eq_getElem (by rw[hsz]; exact HJ.out)]
      rfl
    have hfz := bE zY
    have hal := lt_of_block zY
    have hbd : (j : Int) < (nl.length : Nat) := by have := HJ.out; omega
    obtain⟨⟨n0, n1⟩, n2, n3⟩ := aI HB3.out
    have hbl := lt_of_block HB3.out
    have hb' := block_setCell (p := ⟨w1.heap.size, j, none⟩) zY rfl (.string ks)
    have hset := Uc.out
    simp only[hset]at hb'
    have HQ := Lib.hid (And.intro (show Grow w1 (wz.setCell ⟨w1.heap.size, j, none⟩ (.string ks))from bS (gtr bU.out aT.out) ((Mv.refl (λb => b = w1.heap.size) wz).setCell (p := ⟨w1.heap.size, j, none⟩) (.inl rfl) _) (λb e => by omega)) hb')
    have XW : j <= 8 := by have := HJ.out; have := EA.out; omega
    clear zY hb' hset HB3 aT
    go_wp2_with fail
    go_roundw
    case rel => exact⟨j + 1, by go_num, by have := HJ.out; omega, HQ.out.1, HQ.out.2⟩
    case measure => simp[intOf]; have := HJ.out; omega
  obtain rfl : j = nl.length := by omega
  have Ud : decide ((nl.length : Int) < nl.length) = false := by simp
  have pK := Lib.hid (HS.out.later (gtr aj.out bU.out))
  have FU := Lib.hid (ai aY.out bU.out)
  have dV := Lib.hid (λz (hz : Grow wr z) => Ez.out z (gtr pK.out.g hz))
  have HK := Lib.hid (λ(y : World) (hy : Grow wr y) => And.intro (ai FU.out hy) (pK.out.later hy).Hz)
  have HW0 := Lib.hid (gtr aj.out bU.out)
  have HW1 := Lib.hid aj.out.size
  clear hj hge Ez HS iK aY
  go_upto_region 7 with fail
  refine wg 79 [some 29, some 30, some 31, some 32, some 33, some 34, some 35, some 9] [[], [0], [1], [2], [], [4], [3, 5], [6]] [] [.c (.pointer (some ⟨x.R, 0, none⟩)), .c (.pointer (some ⟨x.R, 0, none⟩)), .c (.pointer (some ⟨x.R, 0, none⟩)), .c (.agg #[vv, .slice (some ⟨pb, po, none⟩) procs.length gW, .int .u8 mk, .int .i64 mn, .string ms, mv]), .c (.pointer (some ⟨w.heap.size, 2, none⟩)), .c (.string ns), .c (.int .i64 (i : Nat)), .c (.int .i64 (i : Nat))] trivial (dG rfl) ?steps ?done
  case steps =>
    refine⟨?s0, ?s1, ?s2, ?s3, ?s4, ?s5, ?s6, ?s7, trivial⟩
    case s0 =>
      refine oo (λvs x hP => ?_)
      simp only[zS]
      go_simp
      exact gc
    case s1 =>
      refine oo (λvs x hP => ?_)
      simp only[zS]
      go_simp
      exact gc
    case s2 =>
      refine oo (λvs x hP => ?_)
      simp only[zS]
      go_simp
      exact gc
    case s3 =>
      refine ok HK (λvs x hG HX hP => ?_)
      obtain⟨⟨r0, r1⟩, ⟨r2, r3⟩, r4, r5⟩ := HX.out.2.1
      have hrl := HX.out.2.2
      simp only[zS]
      go_simp
      exact gc
    case s4 =>
      refine oo (λvs x hP => ?_)
      simp only[zS]
      go_simp
      exact gc
    case s5 =>
      refine ok HK (λvs x hG HX hP => ?_)
      obtain⟨⟨n0, n1⟩, n2, n3⟩ := aI HX.out.1
      have hbl := lt_of_block HX.out.1
      simp only[zS]
      go_simp
      exact gc
    case s6 =>
      refine ok HK (λvs x hG HX hP => ?_)
      simp only[zS]
      go_simp
      refine(dV.out x hG).mono ?_
      rintro e y ⟨rfl, hg⟩
      exact⟨_, rfl, gy hg rfl⟩
    case s7 =>
      refine oo (λvs x hP => ?_)
      simp only[zS]
      go_simp
      exact gc
  case done =>
  intro vs w5 hE
  have hG := hE.grow
  simp only[zS, Nat.reduceAdd]
  have bI := Lib.hid hG
  have fo := Lib.hid (pK.out.later hG)
  have Nr := Lib.hid (ai xQ.out hG)
  have iY := Lib.hid (ai FU.out hG)
  have FV := Lib.hid (gtr HW0.out hG)
  clear hE hG HK dV pK xQ FU bU HW0 bI Ud
  have HK := Lib.hid (λ(y : World) (hy : Grow w5 y) => And.intro (FT.out y (gtr fo.out.g hy)) (fo.out.later hy).Hz)
  go_upto_region 8 with fail
  refine zm 79 [some 36, some 37, some 38, some 39, some 40, some 41, some 42, some 43, some 10, none] [[], [0], [1], [2], [3], [], [4, 5], [6], [], [8, 7]] [] [.c (.pointer (some ⟨x.R, 0, none⟩)), .c (.pointer (some ⟨x.R, 0, none⟩)), .c (.pointer (some ⟨x.R, 0, none⟩)), .c (.pointer (some ⟨x.R, 1, none⟩)), .c (.slice (some ⟨pb, po, none⟩) procs.length gW), .c (.int .i64 (i : Nat)), .c (.pointer (some ⟨pb, po + i * 6, none⟩)), .c (.agg #[.string qn, .slice qa aM.length qc, .int .u8 bk, .int .i64 bn, .string bs, .slice ba bl.length bc]), .al 9 7 #[.string ⟨#[]⟩, .slice none 0 0, .int .u8 0, .int .i64 0, .string ⟨#[]⟩, .slice none 0 0] 48, .st 8] trivial (dG rfl) ?steps ?done
  case steps =>
    refine⟨?s0, ?s1, ?s2, ?s3, ?s4, ?s5, ?s6, ?s7, ?s8, ?s9, trivial⟩
    case s0 =>
      refine oo (λvs x hP => ?_)
      simp only[zS]
      go_simp
      exact gc
    case s1 =>
      refine oo (λvs x hP => ?_)
      simp only[zS]
      go_simp
      exact gc
    case s2 =>
      refine oo (λvs x hP => ?_)
      simp only[zS]
      go_simp
      exact gc
    case s3 =>
      refine oo (λvs x hP => ?_)
      simp only[zS]
      go_simp
      exact gc
    case s4 =>
      refine ok0 HK (λvs x hG HX hP => ?_)
      obtain⟨⟨r0, r1⟩, ⟨r2, r3⟩, r4, r5⟩ := HX.out.2.1
      have hrl := HX.out.2.2
      simp only[zS]
      go_simp
      exact gc
    case s5 =>
      refine oo (λvs x hP => ?_)
      simp only[zS]
      go_simp
      exact gc
    case s6 =>
      refine ok0 HK (λvs x hG HX hP => ?_)
      have hbd : (i : Int) < (procs.length : Nat) := by have := HI.out; omega
      simp only[zS]
      go_simp
      exact gc
    case s7 =>
      refine ok0 HK (λvs x hG HX hP => ?_)
      obtain⟨⟨⟨q0, q1⟩, q2, q3⟩, q4, q5⟩ := HX.out.1
      simp only[zS]
      go_simp
      exact gc
    case s8 =>
      refine oz (λvs x => ?_)
      simp only[zS]
      go_simp
      exact⟨rfl, rfl⟩
    case s9 =>
      refine os (λvs x g hg hb hv => ?_)
      have h7 : vs 7 = .agg #[.string qn, .slice qa aM.length qc, .int .u8 bk, .int .i64 bn, .string bs, .slice ba bl.length bc] := hv
      obtain⟨⟨c0, c1, c2⟩, c3, c4, c5⟩ := cz hb
      have zt := bE hb
      simp only[zS, hg, h7]
      go_simp
      exact⟨(Em hb _ _ _ _ _ _).1, (Em hb _ _ _ _ _ _).2⟩
  case done =>
  intro vs w6 hE
  have hG := hE.wQ
  obtain⟨g8, a8, l8, m8, b8⟩ := hE.box 8
  simp only[zS, Nat.reduceAdd, a8]
  have tC := Lib.hid b8
  simp only[fZ, zS]at tC
  have kr := Lib.hid (fo.out.later hG)
  have FW := Lib.hid (ai Nr.out hG)
  have xS := Lib.hid (gtr FV.out hG)
  have zZ := Lib.hid (And.intro (HO.out g8 (Nat.le_trans FV.out.size l8)) (HO.out w1.heap.size HW1.out))
  clear hE hG b8 l8 m8 HK fo Nr iY FV FT
  have cB := Lib.hid (rf w0 ⟨vars, vv, procs, .slice (some ⟨pb, po, none⟩) procs.length gW, .mk mk mn ms mv ml⟩ fuel k w6 x s kr.out)
  obtain⟨hbad, hok⟩ := mH gF.out
  have HBAD := Lib.hid hbad
  have bF := Lib.hid hok
  clear hbad hok gF
  go_wp2_with fail
  refine cB.out.mono ?_
  clear cB
  intro e w4 hq
  cases hs1 : s.step fuel with
  |error n =>
    rw[hs1]at hq
    have hre := HBAD.out n hs1
    obtain⟨⟨rfl, hn0⟩, hg⟩ := hq
    refine⟨rfl, ?_⟩
    rw[hre]
    exact⟨⟨rfl, hn0⟩, (by first|exact hg|exact .of (ax.grow aj.out) hg|exact .of (ax.grow HG2.out) hg|exact .of (ax.grow aA.out) hg|exact .of (ax.grow bz.out) hg|exact .of (ax.grow bI.out) hg|exact .of (ax.grow aT.out) hg|exact .of (ax.grow xS.out) hg|exact .of gN.out hg|exact .of dX.out hg|exact .of bZ.out hg|exact .of bM.out hg|exact .of dY.out hg|exact .of HR4.out hg|exact .of HR3.out hg|exact .of HR2.out hg|exact .of HR1.out hg|exact .of HR.out hg|exact .of ((ax.grow aj.out).trans HR.out) hg)⟩
  |ok s1 =>
  rw[hs1]at hq
  have hnext := bF.out s1 hs1
  obtain⟨rfl, x4, hr4, jS⟩ := hq
  have bW := Lib.hid (And.intro hr4.R hr4.S)
  have HR4 := Lib.hid ((ax.grow xS.out).trans hr4)
  have gL := Lib.hid jS
  have qU := Lib.hid (And.intro (hr4.keep tC.out zZ.out.1) (hr4.o _ (lt_of_block tC.out) zZ.out.1))
  have qP := Lib.hid (And.intro (hr4.keep FW.out zZ.out.2) (hr4.o _ (lt_of_block FW.out) zZ.out.2))
  obtain⟨hbad, hok⟩ := mH hnext
  clear HBAD bF
  have HBAD := Lib.hid hbad
  have bF := Lib.hid hok
  clear hr4 jS hnext hbad hok tC FW zZ xS kr hs1
  have jO := Lib.hid (λ(y : World) (hy : y.heap[w1.heap.size]? = some (.cells (jf nl nl.length) 9 (0, 0))) => (show ay 1 nG y (.slice (some ⟨w1.heap.size, 0, none⟩) nl.length nl.length) ((ae.ts nl).map Tree.name)from by
    have hle : ((ae.ts nl).map Tree.name).length = nl.length := by simp[ae.dz]
    have := ay.dI (f := nG) (l := (ae.ts nl).map Tree.name) (λ_ => rfl) hy (PZ nl) (by have := EA.out; omega)
    rwa[hle]at this))
  have gD := Lib.hid (λy hM => uh (w0 := w0) (X := ErrX w0 x4 w4 res) (vok := True) (p := ⟨vars, vv, procs, .slice (some ⟨pb, po, none⟩) procs.length gW, .mk mk mn ms mv ml⟩) (fuel := fuel) (k := k) (xx := x4) (wA := w4) (s1 := s1) (m := 0) (r2 := s1.enter aM ((ae.ts nl).map Tree.name)) y hM (λx' hr hst _ => by
    have := Qu w0 ⟨vars, vv, procs, .slice (some ⟨pb, po, none⟩) procs.length gW, .mk mk mn ms mv ml⟩ fuel k y x' s1 (.slice qa aM.length qc) (.slice (some ⟨w1.heap.size, 0, none⟩) nl.length nl.length) aM ((ae.ts nl).map Tree.name) hst (Np.out y hst.g) (jO.out y (hr.keep qP.out.1 qP.out.2)) (by have := Cw.out; omega) Cw.out.2
    rw[hr.S, bW.out.2]at this
    exact this))
  have gZ := Lib.hid (λy hM => vZ (w0 := w0) (p := ⟨vars, vv, procs, .slice (some ⟨pb, po, none⟩) procs.length gW, .mk mk mn ms mv ml⟩) (fuel := fuel) (k := k) (xx := x4) (wA := w4) (s1 := s1) (vok := True) (r2 := s1.enter aM ((ae.ts nl).map Tree.name)) (res := res) (m := 0) (λe _ he => HBAD.out e he) (.pointer (some ⟨x.R, 0, none⟩)) y hM)
  go_upto_region 10 with fail
  refine wy (ErrX w0 x4 w4 res) 79 [some 46, some 47, some 48, some 49, some 50, some 51, some 52, some 53, some 54, some 55] [[], [], [1], [2], [3], [], [5], [], [4, 6, 7], [0, 8]] [some (.pointer (some ⟨x.R, 0, none⟩)), some (.pointer (some ⟨x.R, 0, none⟩)), some (.pointer (some ⟨x.R, 0, none⟩)), some (.pointer (some ⟨x.R, 6, none⟩)), some (.pointer (some ⟨x.S, 0, none⟩)), some (.pointer (some ⟨g8, 1, none⟩)), some (.slice qa aM.length qc), some (.slice (some ⟨w1.heap.size, 0, none⟩) nl.length nl.length), some (.int .i64 (jh (s1.enter aM ((ae.ts nl).map Tree.name)))), some (.tuple #[])] [8, 9] (dH w0 ⟨vars, vv, procs, .slice (some ⟨pb, po, none⟩) procs.length gW, .mk mk mn ms mv ml⟩ fuel k x4 w4 s1 True (s1.enter aM ((ae.ts nl).map Tree.name)) 0) (dH.zero gL.out) ⟨?s0, ?s1, ?s2, ?s3, ?s4, ?s5, ?s6, ?s7, ?s8, ?s9, trivial⟩ ?fin (λch w9 a9 lg lh => And.intro lg (lh.run HR4.out))
  case s0 =>
    refine yc (λy => ?_)
    simp only[zS, cv, List.getD_cons_zero, List.getD_cons_succ, Option.getD_some]
    go_simp
    exact⟨rfl, rfl⟩
  case s1 =>
    refine yc (λy => ?_)
    simp only[zS, cv, List.getD_cons_zero, List.getD_cons_succ, Option.getD_some]
    go_simp
    exact⟨rfl, rfl⟩
  case s2 =>
    refine yc (λy => ?_)
    simp only[zS, cv, List.getD_cons_zero, List.getD_cons_succ, Option.getD_some]
    go_simp
    exact⟨rfl, rfl⟩
  case s3 =>
    refine yc (λy => ?_)
    simp only[zS, cv, List.getD_cons_zero, List.getD_cons_succ, Option.getD_some]
    go_simp
    exact⟨rfl, rfl⟩
  case s4 =>
    refine yl 0 (λt y ht hM => ?_)
    obtain⟨x9, bf, bG⟩ := hM.read ht
    have c6 := bG.cells.1.1
    rw[bf.R.trans bW.out.1, bf.S.trans bW.out.2]at c6
    have hrl := lt_of_block bG.run
    rw[bf.R.trans bW.out.1]at hrl
    clear hM bf bG
    simp only[zS, cv, List.getD_cons_zero, List.getD_cons_succ, Option.getD_some]
    go_simp
    exact⟨rfl, rfl⟩
  case s5 =>
    refine yc (λy => ?_)
    simp only[zS, cv, List.getD_cons_zero, List.getD_cons_succ, Option.getD_some]
    go_simp
    exact⟨rfl, rfl⟩
  case s6 =>
    refine yl 0 (λt y ht hM => ?_)
    obtain⟨x9, bf, bG⟩ := hM.read ht
    obtain⟨⟨q0, q1, q2⟩, q3, q4, q5⟩ := cz (bf.keep qU.out.1 qU.out.2)
    have u6 := lt_of_block (bf.keep qU.out.1 qU.out.2)
    clear hM bf bG
    simp only[zS, cv, List.getD_cons_zero, List.getD_cons_succ, Option.getD_some]
    go_simp
    exact⟨rfl, rfl⟩
  case s7 =>
    refine yc (λy => ?_)
    simp only[zS, cv, List.getD_cons_zero, List.getD_cons_succ, Option.getD_some]
    go_simp
    exact⟨rfl, rfl⟩
  case s8 =>
    refine yw 0 (λy hM => ?_)
    have HC := Lib.hid (gD.out y hM)
    clear hM
    unfold dM
    simp only[zS, cv, List.getD_cons_zero, List.getD_cons_succ, Option.getD_some]
    go_simp
    exact gG.jw HC.out
  case s9 =>
    refine yw 1 (λy hM => ?_)
    have HC := Lib.hid (gZ.out y hM)
    clear hM
    unfold dM
    simp only[zS, cv, List.getD_cons_zero, List.getD_cons_succ, Option.getD_some]
    go_simp
    exact gG.jw HC.out
  case fin =>
  intro wf hM
  have HM := Lib.hid hM.fin
  clear hM
  simp only[zS, Nat.reduceAdd, cv, List.getD_cons_zero, List.getD_cons_succ, Option.getD_some]
  obtain⟨-, s2, hs2, x5, eQ, dA⟩ := HM.out
  have hnx := bF.out s2 hs2
  have fI := Lib.hid (And.intro (eQ.R.trans bW.out.1) (eQ.S.trans bW.out.2))
  have dY := Lib.hid (HR4.out.trans eQ)
  have fo := Lib.hid dA
  have u7 := Lib.hid (And.intro (eQ.keep qU.out.1 qU.out.2) (eQ.o _ (lt_of_block qU.out.1) qU.out.2))
  have HE := Lib.hid (wF hnx)
  obtain⟨eg, Xv, ⟨hev, hil, hcap⟩, ⟨ea, qR⟩, ⟨hlt, hfz⟩, hup⟩ := dA.Tf HI.out
  have jI := Lib.hid hup
  have c9 := dA.cells.2.2
  rw[hev, fI.out.1]at c9
  have hrl := lt_of_block dA.run
  rw[fI.out.1]at hrl
  have hbd : (i : Int) < (x5.el.length : Nat) := by omega
  clear hs2 eQ dA hnx HM gD gZ jO bW HR4 gL qU qP HBAD bF Np HI hev hil hup
  generalize x5.el.length = en at *
  go_upto_region 12 with fail
  obtain⟨x6, dW, jT⟩ := jI.out (wrap64 (ea + 1))
  have gM := Lib.hid (And.intro (dW.R.trans fI.out.1) (dW.S.trans fI.out.2))
  have bM := Lib.hid (dY.out.trans dW)
  have kr := Lib.hid jT
  have tC := Lib.hid (And.intro (dW.keep u7.out.1 u7.out.2) (dW.o _ (lt_of_block u7.out.1) u7.out.2))
  clear dW jT jI fI dY fo u7 c9 hrl hbd hcap qR hlt hfz
  generalize (wf.setCell ⟨eg, i, none⟩ (.int .i64 (wrap64 (ea + 1)))) = w6 at *
  obtain⟨⟨q0, q1, q2⟩, q3, q4, q5⟩ := cz tC.out.1
  have u6 := lt_of_block tC.out.1
  rcases HE.out with⟨e, hx, hre⟩|⟨s3, hx, hrest⟩
  · have HST := Lib.hid (kZ.out w6 x6 s2 _ kr.out hx)
    rw[gM.out.1]at HST
    have dm := Lib.hid hre
    clear hx hre HE
    go_wp2_with fail
    refine HST.out.mono ?_
    rintro e2 w7 ⟨⟨rfl, hn0⟩, hg⟩
    refine⟨rfl, ?_⟩
    rw[dm.out]
    exact⟨⟨rfl, hn0⟩, (by first|exact hg|exact .of (ax.grow aj.out) hg|exact .of (ax.grow HG2.out) hg|exact .of (ax.grow aA.out) hg|exact .of (ax.grow bz.out) hg|exact .of (ax.grow bI.out) hg|exact .of (ax.grow aT.out) hg|exact .of (ax.grow xS.out) hg|exact .of gN.out hg|exact .of dX.out hg|exact .of bZ.out hg|exact .of bM.out hg|exact .of dY.out hg|exact .of HR4.out hg|exact .of HR3.out hg|exact .of HR2.out hg|exact .of HR1.out hg|exact .of HR.out hg|exact .of ((ax.grow aj.out).trans HR.out) hg)⟩
  have HST := Lib.hid (kZ.out w6 x6 s2 _ kr.out hx)
  rw[gM.out.1]at HST
  obtain⟨hbad, hok⟩ := mH hrest
  have HBAD := Lib.hid hbad
  have bF := Lib.hid hok
  clear hx hrest hbad hok HE
  go_wp2_with fail
  refine HST.out.mono ?_
  rintro e2 w7 ⟨rfl, x7, eH, jU⟩
  have cB := Lib.hid (rf w0 ⟨vars, vv, procs, .slice (some ⟨pb, po, none⟩) procs.length gW, .mk mk mn ms mv ml⟩ fuel k w7 x7 s3 jU)
  rw[eH.R, gM.out.1]at cB
  have gP := Lib.hid (And.intro (eH.R.trans gM.out.1) (eH.S.trans gM.out.2))
  have bZ := Lib.hid (bM.out.trans eH)
  clear eH jU HST q0 q1 q2 q3 q4 q5 u6 gM bM kr tC kZ
  go_wp2_with fail
  refine cB.out.mono ?_
  clear cB
  intro e w8 hq
  cases hs1 : s3.step fuel with
  |error n =>
    rw[hs1]at hq
    have hre := HBAD.out n hs1
    obtain⟨⟨rfl, hn0⟩, hg⟩ := hq
    refine⟨rfl, ?_⟩
    rw[hre]
    exact⟨⟨rfl, hn0⟩, (by first|exact hg|exact .of (ax.grow aj.out) hg|exact .of (ax.grow HG2.out) hg|exact .of (ax.grow aA.out) hg|exact .of (ax.grow bz.out) hg|exact .of (ax.grow bI.out) hg|exact .of (ax.grow aT.out) hg|exact .of (ax.grow xS.out) hg|exact .of gN.out hg|exact .of dX.out hg|exact .of bZ.out hg|exact .of bM.out hg|exact .of dY.out hg|exact .of HR4.out hg|exact .of HR3.out hg|exact .of HR2.out hg|exact .of HR1.out hg|exact .of HR.out hg|exact .of ((ax.grow aj.out).trans HR.out) hg)⟩
  |ok s4 =>
  rw[hs1]at hq
  have hnext := bF.out s4 hs1
  obtain⟨rfl, x8, nO, lW⟩ := hq
  have Cx := Lib.hid (Qt w0 ⟨vars, vv, procs, .slice (some ⟨pb, po, none⟩) procs.length gW, .mk mk mn ms mv ml⟩ fuel k w8 x8 s4 lW)
  rw[nO.S, gP.out.2]at Cx
  have dX := Lib.hid (bZ.out.trans nO)
  have c6 := lW.cells.1.1
  rw[nO.R, nO.S, gP.out.1, gP.out.2]at c6
  have hrl := lt_of_block lW.run
  rw[nO.R, gP.out.1]at hrl
  have bH := Lib.hid (Option.some.inj hnext)
  clear nO lW hnext HBAD bF hs1 gP bZ
  rw[bH.out]at Cx
  go_wp2_with fail
  refine Cx.out.mono ?_
  clear Cx c6 hrl
  intro e w9 hq
  have hck := Al (.pointer (some ⟨x.R, 0, none⟩)) (jh res) w9
  have HQ := Lib.hid (dQ.trans dX.out hq)
  cases res with
  |error n =>
    obtain⟨⟨rfl, hn0⟩, hg⟩ := hq
    simp only[jh, hn0, if_false]at hck
    go_wp2_with fail
    refine hck.mono ?_
    rintro e EI ⟨rfl, rfl⟩
    refine⟨rfl, ?_⟩
    exact⟨⟨rfl, hn0⟩, (by first|exact hg|exact .of (ax.grow aj.out) hg|exact .of (ax.grow HG2.out) hg|exact .of (ax.grow aA.out) hg|exact .of (ax.grow bz.out) hg|exact .of (ax.grow bI.out) hg|exact .of (ax.grow aT.out) hg|exact .of (ax.grow xS.out) hg|exact .of gN.out hg|exact .of dX.out hg|exact .of bZ.out hg|exact .of bM.out hg|exact .of dY.out hg|exact .of HR4.out hg|exact .of HR3.out hg|exact .of HR2.out hg|exact .of HR1.out hg|exact .of HR.out hg|exact .of ((ax.grow aj.out).trans HR.out) hg)⟩
  |ok s9 =>
    obtain⟨rfl, hx⟩ := hq
    simp only[jh, if_true]at hck
    have BX := Lib.hid HQ.out.2
    clear hx HQ
    go_wp2_with fail
    refine hck.mono ?_
    rintro e EI ⟨rfl, rfl⟩
    go_wp2_with fail
    go_end0
    exact⟨rfl, BX.out⟩
end Go.Proofs.YtbpodipdfohikaaGreat
