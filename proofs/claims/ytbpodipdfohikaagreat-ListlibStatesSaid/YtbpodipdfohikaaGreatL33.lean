import Derived.Test.YtbpodipdfohikaaGreatL32
set_option linter.unusedSimpArgs false
set_option linter.unusedVariables false
set_option maxRecDepth 100000
set_option maxHeartbeats 25600000
namespace Go.Proofs.YtbpodipdfohikaaGreat
open Go.RowKit Go.Instr
theorem aG.Ik {w0 : World} {vars : List au} {vv : Value} {procs : List aO} {pv : Value} {mk mn : Int} {ms : ByteArray} {mv : Value} {ml : List ae} {fuel k : Nat} {w : World} {x : aK} {s : ah} (h : aG w0 ⟨vars, vv, procs, pv, .mk mk mn ms mv ml⟩ fuel k w x s) :
    ((w.cell? ⟨x.R, 0, none⟩ = some vv /\ w.cell? ⟨x.R, 1, none⟩ = some pv) /\ (w.cell? ⟨x.R, 2, none⟩ = some (.int .u8 mk) /\ w.cell? ⟨x.R, 3, none⟩ = some (.int .i64 mn)) /\ w.cell? ⟨x.R, 4, none⟩ = some (.string ms) /\ w.cell? ⟨x.R, 5, none⟩ = some mv) /\ x.R < w.heap.size := by
  have hr := h.run
  simp only[az.cells, ae.cells]at hr
  exact⟨by simp[World.cell?, hr], lt_of_block hr⟩
set_option maxRecDepth 100000 in
set_option maxHeartbeats 12800000 in
theorem Ra {w0 : World} {p : az} {fuel k g : Nat} (hp : jc w0 p) (hpb : ∀ q ∈ p.procs, aS (λ_ => True) w0 q.body) (hpl : ∀ q ∈ p.procs, q.params.length <= k) (IH : ∀ g', g' < g -> rH w0 p fuel k g') (w : World) (x : aK) (s : ah) (res : Except Int ah) (nk nn : Int) (ns : ByteArray) (nv : Value) (nl : List ae) (b : Bool) (hk : nk = 50 \/ nk = 51) (h : aG w0 p fuel k w x s) (hno : aS (λ_ => True) w0 (.mk nk nn ns nv nl)) (hex : exec (p.procs.map aO.d) fuel g (.stmt (ae.t (.mk nk nn ns nv nl))) b s = some res) :
    Calls Tryz.prog 122 #[.pointer (some ⟨x.R, 0, none⟩), ae.val (.mk nk nn ns nv nl), .bool (b != (nk == 51))] w (bZ w0 p fuel k x w res) := by
  obtain⟨x1, hr1, ho, h1⟩ := h.fresh
  rw[show x.R = x1.R from hr1.R.symm]
  refine Calls.mono ?_ (λe w' (hq : bZ w0 p fuel k x1 w res e w') => hq.of hr1)
  clear hr1 h
  revert h1 ho
  generalize x1 = x
  intro ho h
  have hsh := nO hex
  rw[ae.t]at hsh hex
  have sj := RV hk hsh
  rw[ae.dB]at sj
  obtain⟨g', rfl, d, sO, oK⟩ := Q8 hk hex
  clear hsh hex
  generalize (b != (nk == 51)) = bb at *
  obtain⟨i, hi, hix, hpi⟩ := Q9 sO
  have hi2 : i < p.procs.length := by simpa using hi
  have hk1 := h.bd.2.2.2.2.2
  have hqm := List.getElem_mem hi2
  have vz := hpb _ hqm
  have vg := hpl _ hqm
  have CE := hp.procs.each _ hqm
  have hqc := hp.procs.row.at hi2
  rw[List.getElem_map]at hpi
  obtain⟨vars, vv, procs, pv, ⟨mk, mn, ms, mv, ml⟩⟩ := p
  simp only at hi2 hqm vz vg CE hqc hpi hpb hpl oK hix sO hi
  obtain⟨pb, po, gP, hpv, -, hqc⟩ := hqc
  subst hpv
  generalize hqq : procs[i] = qq at *
  obtain⟨qn, aM, qv, ⟨bk, bn, bs, bv, bl⟩⟩ := qq
  obtain⟨qa, qc, u7, -, -⟩ := CE.params.form
  simp only at u7
  subst u7
  obtain⟨ba, bc, rfl, -, -⟩ := vz.at.form
  simp only[aO.cells, ae.cells]at hqc
  subst hpi
  have F3 := Lib.hid (λz (hz : Grow w0 z) => And.intro (And.intro (And.intro (bW (hqc 0 _ rfl) hz) (bW (hqc 1 _ rfl) hz)) (And.intro (bW (hqc 2 _ rfl) hz) (bW (hqc 3 _ rfl) hz))) (And.intro (bW (hqc 4 _ rfl) hz) (bW (hqc 5 _ rfl) hz)))
  simp only[Nat.add_zero]at F3
  have EE := Lib.hid (λz (hz : Grow w0 z) => (yA _ ns z (hp.later hz)).mono (R' := λe w' => e = .returned (.int .i64 (i : Nat)) /\ Grow z w') (λe w' hq => by
    obtain⟨rfl, hg⟩ := hq
    exact⟨by rw[show lJ.procs (az.d ⟨vars, vv, procs, .slice (some ⟨pb, po, none⟩) procs.length gP, .mk mk mn ms mv ml⟩) = procs.map aO.d from rfl, hix], hg⟩))
  have NS := Lib.hid (λz (hz : Grow w0 z) => CE.params.later hz)
  have CF := Lib.hid (And.intro hk1 vg)
  have kX := Lib.hid (λz x' s' jO (hz : aG w0 ⟨vars, vv, procs, .slice (some ⟨pb, po, none⟩) procs.length gP, .mk mk mn ms mv ml⟩ fuel k z x' s') (he : exec (procs.map aO.d) fuel g' (.stmts (turned bb (ae.t (.mk bk bn bs (.slice ba bl.length bc) bl)).kids)) bb s' = some jO) => IH g' (by omega) z x' s' jO (.mk bk bn bs (.slice ba bl.length bc) bl) bb hz vz he)
  obtain⟨na, nc, rfl, -, -⟩ := hno.at.form
  have ji := Lib.hid hno
  have iI := Lib.hid h.g
  have aj := Lib.hid (show Grow w (w.alloc (.cells #[.int .u8 nk, .int .i64 nn, .string ns, .slice na nl.length nc] 40))from(Mv.refl _ w).alloc _)
  have aY := Lib.hid (heap_alloc_new w (.cells #[.int .u8 nk, .int .i64 nn, .string ns, .slice na nl.length nc] 40))
  have HS := Lib.hid h
  have gu := Lib.hid oK
  have HI := Lib.hid hi2
  have HO := Lib.hid ho
  have EF := Lib.hid sj
  clear hno oK h ho hk IH vz vg CE hqc hqm hpb hpl hp hk1 hix sO hi hi2 sj hqq
  simp only[ae.val, az.val]at kX EE ⊢
  go_enter Tryz.func122, Tryz.ntmps122
  go_upto_region 1 with fail
  generalize (w.alloc (.cells #[.int .u8 nk, .int .i64 nn, .string ns, .slice na nl.length nc] 40)) = w1 at *
  obtain⟨⟨n0, n1⟩, n2, n3⟩ := aJ aY.out
  have hbl := lt_of_block aY.out
  have hmk := RX nl.length w1 (by have := EF.out; omega)
  go_wp2_with fail
  have NT := Lib.hid (show(w1.alloc (.cells (Array.replicate nl.length (.string ⟨#[]⟩)) 9)).heap[w1.heap.size]? = some (.cells (jd nl 0) 9 (0, 0))from by rw[PT]; exact heap_alloc_new _ _)
  have oV := Lib.hid (show Grow w1 (w1.alloc (.cells (Array.replicate nl.length (.string ⟨#[]⟩)) 9))from(Mv.refl _ _).alloc _)
  clear hmk n0 n1 n2 n3 hbl
  generalize (w1.alloc (.cells (Array.replicate nl.length (.string ⟨#[]⟩)) 9)) = w2 at *
  go_loopw [18] (λt wr => ∃ j : Nat, t = .int .i64 j /\ j <= nl.length /\ Grow w1 wr /\ wr.heap[w1.heap.size]? = some (.cells (jd nl j) 9 (0, 0))) (λt _ => nl.length - (intOf t).toNat)
  case atStart => exact⟨0, rfl, Nat.zero_le _, oV.out, NT.out⟩
  obtain⟨j, rfl, hj, hgr, har⟩ := hrel
  have bR := Lib.hid hgr
  have xS := Lib.hid har
  clear hgr har oV NT
  rcases Nat.lt_or_ge j nl.length with hlt|hge
  · have BK : decide ((j : Int) < nl.length) = true := by simp; omega
    have HRW := Lib.hid ((ji.out.up (gtr iI.out (gtr aj.out bR.out))).at.row.2.2.2.1)
    have xJ := Lib.hid (ji.out.kids)
    obtain⟨kb, ko, cap, e, _, -⟩ := HRW.out.at hlt
    simp only[Value.slice.injEq, true_and]at e
    obtain⟨rfl, rfl⟩ := e
    obtain⟨kk, kn, ks, ka, kc, kl, hke, hcell⟩ := Bb HRW.out (λy hy => (xJ.out y hy).at.later (gtr iI.out (gtr aj.out bR.out))) hlt
    have iy := Lib.hid hcell
    have UK := Lib.hid (show(jd nl j).setIfInBounds j (.string ks) = jd nl (j + 1)from by have := QA nl j hlt; rw[hke, ae.t]at this; exact this)
    have HJ := Lib.hid hlt
    have HK := Lib.hid (λ(y : World) (hy : Grow wr y) => And.intro (And.intro (bW hcell.1.1 hy) (bW hcell.1.2 hy)) (And.intro (bW hcell.2.1 hy) (bW hcell.2.2 hy)))
    clear hcell hke xJ HRW hj
    go_upto_region 4 with fail
    refine zA 79 [some 20, some 21, some 22, some 8, some 7, none] [[], [], [1], [], [0], [3, 2]] [] [.c (.int .i64 (j : Nat)), .c (.pointer (some ⟨kb, ko + j * 4, none⟩)), .c (.agg #[.int .u8 kk, .int .i64 kn, .string ks, .slice ka kl.length kc]), .al 5 2 #[.int .u8 0, .int .i64 0, .string ⟨#[]⟩, .slice none 0 0] 40, .c (.int .i64 (j : Nat)), .st 3] trivial (dJ rfl) ?steps ?done
    case steps =>
      refine⟨?s0, ?s1, ?s2, ?s3, ?s4, ?s5, trivial⟩
      case s0 =>
        refine oo (λvs x hP => ?_)
        simp only[zS]
        go_simp
        exact gc
      case s1 =>
        refine ok0 HK (λvs x hG HX hP => ?_)
        have hbd : (j : Int) < (nl.length : Nat) := by have := HJ.out; omega
        simp only[zS]
        go_simp
        exact gc
      case s2 =>
        refine ok0 HK (λvs x hG HX hP => ?_)
        obtain⟨⟨d0, d1⟩, d2, d3⟩ := HX.out
        simp only[zS]
        go_simp
        exact gc
      case s3 =>
        refine oz (λvs x => ?_)
        simp only[zS]
        go_simp
        exact⟨rfl, rfl⟩
      case s4 =>
        refine oo (λvs x hP => ?_)
        simp only[zS]
        go_simp
        exact gc
      case s5 =>
        refine os (λvs x g hg hb hv => ?_)
        have h2 : vs 2 = .agg #[.int .u8 kk, .int .i64 kn, .string ks, .slice ka kl.length kc] := hv
        obtain⟨c0, c1, c2, c3⟩ := fA hb
        have zt := bD hb
        simp only[zS, hg, h2]
        go_simp
        exact⟨(dW hb _ _ _ _).1, (dW hb _ _ _ _).2⟩
    case done =>
    intro vs wz hE
    have hG := hE.wS
    obtain⟨g3, a3, l3, m3, b3⟩ := hE.box 3
    simp only[zS, Nat.reduceAdd, a3]
    have HB3 := Lib.hid b3
    have aT := Lib.hid hG
    simp only[fT, zS]at HB3
    clear hE hG b3 l3 m3 HK iy
    have Ag := ai xS.out aT.out
    have hsz := yg nl j (by have := HJ.out; omega)
    have tC : wz.cell? ⟨w1.heap.size, j, none⟩ = some ((jd nl j)[j]'(by rw[hsz]; exact HJ.out)) := by
      simp only[World.cell?, Ag]
      rw[Array.getElem?_eq_getElem (by rw[hsz]; exact HJ.out)]
      rfl
    have hfz := bD Ag
    have hal := lt_of_block Ag
    have hbd : (j : Int) < (nl.length : Nat) := by have := HJ.out; omega
    obtain⟨⟨n0, n1⟩, n2, n3⟩ := aJ HB3.out
    have hbl := lt_of_block HB3.out
    have hb' := block_setCell (p := ⟨w1.heap.size, j, none⟩) Ag rfl (.string ks)
    have hset := UK.out
    simp only[hset]at hb'
    have HQ := Lib.hid (And.intro (show Grow w1 (wz.setCell ⟨w1.heap.size, j, none⟩ (.string ks))from bN (gtr bR.out aT.out) ((Mv.refl (λb => b = w1.heap.size) wz).setCell (p := ⟨w1.heap.size, j, none⟩) (.inl rfl) _) (λb e => by omega)) hb')
    have YD : j <= 8 := by have := HJ.out; have := EF.out; omega
    clear Ag hb' hset HB3 aT
    go_wp2_with fail
    go_roundw
    case rel => exact⟨j + 1, by go_num, by have := HJ.out; omega, HQ.out.1, HQ.out.2⟩
    case measure => simp[intOf]; have := HJ.out; omega
  obtain rfl : j = nl.length := by omega
  have UL : decide ((nl.length : Int) < nl.length) = false := by simp
  have pJ := Lib.hid (HS.out.later (gtr aj.out bR.out))
  have F4 := Lib.hid (ai aY.out bR.out)
  have dX := Lib.hid (λz (hz : Grow wr z) => EE.out z (gtr pJ.out.g hz))
  have HK := Lib.hid (λ(y : World) (hy : Grow wr y) => And.intro (ai F4.out hy) (pJ.out.later hy).Ik)
  have HW0 := Lib.hid (gtr aj.out bR.out)
  have HW1 := Lib.hid aj.out.size
  clear hj hge EE HS iI aY
  go_upto_region 7 with fail
  refine wg 79 [some 29, some 30, some 31, some 32, some 33, some 34, some 35, some 9] [[], [0], [1], [2], [], [4], [3, 5], [6]] [] [.c (.pointer (some ⟨x.R, 0, none⟩)), .c (.pointer (some ⟨x.R, 0, none⟩)), .c (.pointer (some ⟨x.R, 0, none⟩)), .c (.agg #[vv, .slice (some ⟨pb, po, none⟩) procs.length gP, .int .u8 mk, .int .i64 mn, .string ms, mv]), .c (.pointer (some ⟨w.heap.size, 2, none⟩)), .c (.string ns), .c (.int .i64 (i : Nat)), .c (.int .i64 (i : Nat))] trivial (dJ rfl) ?steps ?done
  case steps =>
    refine⟨?s0, ?s1, ?s2, ?s3, ?s4, ?s5, ?s6, ?s7, trivial⟩
    case s0 =>
      refine oo (λvs x hP => ?_)
      simp only[zS]
      go_simp
      exact gc
    case s1 =>
      refine oo (λvs x hP => ?_)
      simp only[zS]
      go_simp
      exact gc
    case s2 =>
      refine oo (λvs x hP => ?_)
      simp only[zS]
      go_simp
      exact gc
    case s3 =>
      refine ok HK (λvs x hG HX hP => ?_)
      obtain⟨⟨r0, r1⟩, ⟨r2, r3⟩, r4, r5⟩ := HX.out.2.1
      have hrl := HX.out.2.2
      simp only[zS]
      go_simp
      exact gc
    case s4 =>
      refine oo (λvs x hP => ?_)
      simp only[zS]
      go_simp
      exact gc
    case s5 =>
      refine ok HK (λvs x hG HX hP => ?_)
      obtain⟨⟨n0, n1⟩, n2, n3⟩ := aJ HX.out.1
      have hbl := lt_of_block HX.out.1
      simp only[zS]
      go_simp
      exact gc
    case s6 =>
      refine ok HK (λvs x hG HX hP => ?_)
      simp only[zS]
      go_simp
      refine(dX.out x hG).mono ?_
      rintro e y ⟨rfl, hg⟩
      exact⟨_, rfl, gm hg rfl⟩
    case s7 =>
      refine oo (λvs x hP => ?_)
      simp only[zS]
      go_simp
      exact gc
  case done =>
  intro vs w5 hE
  have hG := hE.grow
  simp only[zS, Nat.reduceAdd]
  have bI := Lib.hid hG
  have eZ := Lib.hid (pJ.out.later hG)
  have NU := Lib.hid (ai xS.out hG)
  have iW := Lib.hid (ai F4.out hG)
  have F5 := Lib.hid (gtr HW0.out hG)
  clear hE hG HK dX pJ xS F4 bR HW0 bI UL
  have HK := Lib.hid (λ(y : World) (hy : Grow w5 y) => And.intro (F3.out y (gtr eZ.out.g hy)) (eZ.out.later hy).Ik)
  go_upto_region 8 with fail
  refine zA 79 [some 36, some 37, some 38, some 39, some 40, some 41, some 42, some 43, some 10, none] [[], [0], [1], [2], [3], [], [4, 5], [6], [], [8, 7]] [] [.c (.pointer (some ⟨x.R, 0, none⟩)), .c (.pointer (some ⟨x.R, 0, none⟩)), .c (.pointer (some ⟨x.R, 0, none⟩)), .c (.pointer (some ⟨x.R, 1, none⟩)), .c (.slice (some ⟨pb, po, none⟩) procs.length gP), .c (.int .i64 (i : Nat)), .c (.pointer (some ⟨pb, po + i * 6, none⟩)), .c (.agg #[.string qn, .slice qa aM.length qc, .int .u8 bk, .int .i64 bn, .string bs, .slice ba bl.length bc]), .al 9 7 #[.string ⟨#[]⟩, .slice none 0 0, .int .u8 0, .int .i64 0, .string ⟨#[]⟩, .slice none 0 0] 48, .st 8] trivial (dJ rfl) ?steps ?done
  case steps =>
    refine⟨?s0, ?s1, ?s2, ?s3, ?s4, ?s5, ?s6, ?s7, ?s8, ?s9, trivial⟩
    case s0 =>
      refine oo (λvs x hP => ?_)
      simp only[zS]
      go_simp
      exact gc
    case s1 =>
      refine oo (λvs x hP => ?_)
      simp only[zS]
      go_simp
      exact gc
    case s2 =>
      refine oo (λvs x hP => ?_)
      simp only[zS]
      go_simp
      exact gc
    case s3 =>
      refine oo (λvs x hP => ?_)
      simp only[zS]
      go_simp
      exact gc
    case s4 =>
      refine ok0 HK (λvs x hG HX hP => ?_)
      obtain⟨⟨r0, r1⟩, ⟨r2, r3⟩, r4, r5⟩ := HX.out.2.1
      have hrl := HX.out.2.2
      simp only[zS]
      go_simp
      exact gc
    case s5 =>
      refine oo (λvs x hP => ?_)
      simp only[zS]
      go_simp
      exact gc
    case s6 =>
      refine ok0 HK (λvs x hG HX hP => ?_)
      have hbd : (i : Int) < (procs.length : Nat) := by have := HI.out; omega
      simp only[zS]
      go_simp
      exact gc
    case s7 =>
      refine ok0 HK (λvs x hG HX hP => ?_)
      obtain⟨⟨⟨q0, q1⟩, q2, q3⟩, q4, q5⟩ := HX.out.1
      simp only[zS]
      go_simp
      exact gc
    case s8 =>
      refine oz (λvs x => ?_)
      simp only[zS]
      go_simp
      exact⟨rfl, rfl⟩
    case s9 =>
      refine os (λvs x g hg hb hv => ?_)
      have h7 : vs 7 = .agg #[.string qn, .slice qa aM.length qc, .int .u8 bk, .int .i64 bn, .string bs, .slice ba bl.length bc] := hv
      obtain⟨⟨c0, c1, c2⟩, c3, c4, c5⟩ := cB hb
      have zt := bD hb
      simp only[zS, hg, h7]
      go_simp
      exact⟨(Es hb _ _ _ _ _ _).1, (Es hb _ _ _ _ _ _).2⟩
  case done =>
  intro vs w6 hE
  have hG := hE.wS
  obtain⟨g8, a8, l8, m8, b8⟩ := hE.box 8
  simp only[zS, Nat.reduceAdd, a8]
  have tF := Lib.hid b8
  simp only[fT, zS]at tF
  have kg := Lib.hid (eZ.out.later hG)
  have F6 := Lib.hid (ai NU.out hG)
  have xV := Lib.hid (gtr F5.out hG)
  have Ah := Lib.hid (And.intro (HO.out g8 (Nat.le_trans F5.out.size l8)) (HO.out w1.heap.size HW1.out))
  clear hE hG b8 l8 m8 HK eZ NU iW F5 F3
  have cK := Lib.hid (rf w0 ⟨vars, vv, procs, .slice (some ⟨pb, po, none⟩) procs.length gP, .mk mk mn ms mv ml⟩ fuel k w6 x s kg.out)
  obtain⟨hbad, hok⟩ := mF gu.out
  have HBAD := Lib.hid hbad
  have bF := Lib.hid hok
  clear hbad hok gu
  go_wp2_with fail
  refine cK.out.mono ?_
  clear cK
  intro e w4 hq
  cases hs1 : s.step fuel with
  |error n =>
    rw[hs1]at hq
    have hre := HBAD.out n hs1
    obtain⟨⟨rfl, hn0⟩, hg⟩ := hq
    refine⟨rfl, ?_⟩
    rw[hre]
    exact⟨⟨rfl, hn0⟩, (by first|exact hg|exact .of (ax.grow aj.out) hg|exact .of (ax.grow HG2.out) hg|exact .of (ax.grow aA.out) hg|exact .of (ax.grow bB.out) hg|exact .of (ax.grow bI.out) hg|exact .of (ax.grow aT.out) hg|exact .of (ax.grow xV.out) hg|exact .of gH.out hg|exact .of dO.out hg|exact .of cz.out hg|exact .of bO.out hg|exact .of dZ.out hg|exact .of HR4.out hg|exact .of HR3.out hg|exact .of HR2.out hg|exact .of HR1.out hg|exact .of HR.out hg|exact .of ((ax.grow aj.out).trans HR.out) hg)⟩
  |ok s1 =>
  rw[hs1]at hq
  have hnext := bF.out s1 hs1
  obtain⟨rfl, x4, hr4, jP⟩ := hq
  have bU := Lib.hid (And.intro hr4.R hr4.S)
  have HR4 := Lib.hid ((ax.grow xV.out).trans hr4)
  have gF := Lib.hid jP
  have qQ := Lib.hid (And.intro (hr4.keep tF.out Ah.out.1) (hr4.o _ (lt_of_block tF.out) Ah.out.1))
  have qO := Lib.hid (And.intro (hr4.keep F6.out Ah.out.2) (hr4.o _ (lt_of_block F6.out) Ah.out.2))
  obtain⟨hbad, hok⟩ := mF hnext
  clear HBAD bF
  have HBAD := Lib.hid hbad
  have bF := Lib.hid hok
  clear hr4 jP hnext hbad hok tF F6 Ah xV kg hs1
  have jL := Lib.hid (λ(y : World) (hy : y.heap[w1.heap.size]? = some (.cells (jd nl nl.length) 9 (0, 0))) => (show ay 1 ny y (.slice (some ⟨w1.heap.size, 0, none⟩) nl.length nl.length) ((ae.ts nl).map Tree.name)from by
    have hle : ((ae.ts nl).map Tree.name).length = nl.length := by simp[ae.dB]
    have := ay.dG (f := ny) (l := (ae.ts nl).map Tree.name) (λ_ => rfl) hy (Qz nl) (by have := EF.out; omega)
    rwa[hle]at this))
  have gq := Lib.hid (λy hM => uj (w0 := w0) (X := ErrX w0 x4 w4 res) (vok := True) (p := ⟨vars, vv, procs, .slice (some ⟨pb, po, none⟩) procs.length gP, .mk mk mn ms mv ml⟩) (fuel := fuel) (k := k) (xx := x4) (wA := w4) (s1 := s1) (m := 0) (r2 := s1.enter aM ((ae.ts nl).map Tree.name)) y hM (λx' hr hst _ => by
    have := QY w0 ⟨vars, vv, procs, .slice (some ⟨pb, po, none⟩) procs.length gP, .mk mk mn ms mv ml⟩ fuel k y x' s1 (.slice qa aM.length qc) (.slice (some ⟨w1.heap.size, 0, none⟩) nl.length nl.length) aM ((ae.ts nl).map Tree.name) hst (NS.out y hst.g) (jL.out y (hr.keep qO.out.1 qO.out.2)) (by have := CF.out; omega) CF.out.2
    rw[hr.S, bU.out.2]at this
    exact this))
  have gU := Lib.hid (λy hM => wu (w0 := w0) (p := ⟨vars, vv, procs, .slice (some ⟨pb, po, none⟩) procs.length gP, .mk mk mn ms mv ml⟩) (fuel := fuel) (k := k) (xx := x4) (wA := w4) (s1 := s1) (vok := True) (r2 := s1.enter aM ((ae.ts nl).map Tree.name)) (res := res) (m := 0) (λe _ he => HBAD.out e he) (.pointer (some ⟨x.R, 0, none⟩)) y hM)
  go_upto_region 10 with fail
  refine wy (ErrX w0 x4 w4 res) 79 [some 46, some 47, some 48, some 49, some 50, some 51, some 52, some 53, some 54, some 55] [[], [], [1], [2], [3], [], [5], [], [4, 6, 7], [0, 8]] [some (.pointer (some ⟨x.R, 0, none⟩)), some (.pointer (some ⟨x.R, 0, none⟩)), some (.pointer (some ⟨x.R, 0, none⟩)), some (.pointer (some ⟨x.R, 6, none⟩)), some (.pointer (some ⟨x.S, 0, none⟩)), some (.pointer (some ⟨g8, 1, none⟩)), some (.slice qa aM.length qc), some (.slice (some ⟨w1.heap.size, 0, none⟩) nl.length nl.length), some (.int .i64 (jf (s1.enter aM ((ae.ts nl).map Tree.name)))), some (.tuple #[])] [8, 9] (dK w0 ⟨vars, vv, procs, .slice (some ⟨pb, po, none⟩) procs.length gP, .mk mk mn ms mv ml⟩ fuel k x4 w4 s1 True (s1.enter aM ((ae.ts nl).map Tree.name)) 0) (dK.zero gF.out) ⟨?s0, ?s1, ?s2, ?s3, ?s4, ?s5, ?s6, ?s7, ?s8, ?s9, trivial⟩ ?fin (λch w9 a9 kY kZ => And.intro kY (kZ.run HR4.out))
  case s0 =>
    refine yc (λy => ?_)
    simp only[zS, cv, List.getD_cons_zero, List.getD_cons_succ, Option.getD_some]
    go_simp
    exact⟨rfl, rfl⟩
  case s1 =>
    refine yc (λy => ?_)
    simp only[zS, cv, List.getD_cons_zero, List.getD_cons_succ, Option.getD_some]
    go_simp
    exact⟨rfl, rfl⟩
  case s2 =>
    refine yc (λy => ?_)
    simp only[zS, cv, List.getD_cons_zero, List.getD_cons_succ, Option.getD_some]
    go_simp
    exact⟨rfl, rfl⟩
  case s3 =>
    refine yc (λy => ?_)
    simp only[zS, cv, List.getD_cons_zero, List.getD_cons_succ, Option.getD_some]
    go_simp
    exact⟨rfl, rfl⟩
  case s4 =>
    refine yl 0 (λt y ht hM => ?_)
    obtain⟨x9, bg, bG⟩ := hM.read ht
    have c6 := bG.cells.1.1
    rw[bg.R.trans bU.out.1, bg.S.trans bU.out.2]at c6
    have hrl := lt_of_block bG.run
    rw[bg.R.trans bU.out.1]at hrl
    clear hM bg bG
    simp only[zS, cv, List.getD_cons_zero, List.getD_cons_succ, Option.getD_some]
    go_simp
    exact⟨rfl, rfl⟩
  case s5 =>
    refine yc (λy => ?_)
    simp only[zS, cv, List.getD_cons_zero, List.getD_cons_succ, Option.getD_some]
    go_simp
    exact⟨rfl, rfl⟩
  case s6 =>
    refine yl 0 (λt y ht hM => ?_)
    obtain⟨x9, bg, bG⟩ := hM.read ht
    obtain⟨⟨q0, q1, q2⟩, q3, q4, q5⟩ := cB (bg.keep qQ.out.1 qQ.out.2)
    have vg := lt_of_block (bg.keep qQ.out.1 qQ.out.2)
    clear hM bg bG
    simp only[zS, cv, List.getD_cons_zero, List.getD_cons_succ, Option.getD_some]
    go_simp
    exact⟨rfl, rfl⟩
  case s7 =>
    refine yc (λy => ?_)
    simp only[zS, cv, List.getD_cons_zero, List.getD_cons_succ, Option.getD_some]
    go_simp
    exact⟨rfl, rfl⟩
  case s8 =>
    refine yw 0 (λy hM => ?_)
    have HC := Lib.hid (gq.out y hM)
    clear hM
    unfold dQ
    simp only[zS, cv, List.getD_cons_zero, List.getD_cons_succ, Option.getD_some]
    go_simp
    exact gy.jq HC.out
  case s9 =>
    refine yw 1 (λy hM => ?_)
    have HC := Lib.hid (gU.out y hM)
    clear hM
    unfold dQ
    simp only[zS, cv, List.getD_cons_zero, List.getD_cons_succ, Option.getD_some]
    go_simp
    exact gy.jq HC.out
  case fin =>
  intro wf hM
  have HM := Lib.hid hM.fin
  clear hM
  simp only[zS, Nat.reduceAdd, cv, List.getD_cons_zero, List.getD_cons_succ, Option.getD_some]
  obtain⟨-, s2, hs2, x5, eP, dC⟩ := HM.out
  have hnx := bF.out s2 hs2
  have eT := Lib.hid (And.intro (eP.R.trans bU.out.1) (eP.S.trans bU.out.2))
  have dZ := Lib.hid (HR4.out.trans eP)
  have eZ := Lib.hid dC
  have vw := Lib.hid (And.intro (eP.keep qQ.out.1 qQ.out.2) (eP.o _ (lt_of_block qQ.out.1) qQ.out.2))
  have HE := Lib.hid (wJ hnx)
  obtain⟨eg, Yh, ⟨hev, hil, hcap⟩, ⟨ea, tC⟩, ⟨hlt, hfz⟩, hup⟩ := dC.TS HI.out
  have jF := Lib.hid hup
  have c9 := dC.cells.2.2
  rw[hev, eT.out.1]at c9
  have hrl := lt_of_block dC.run
  rw[eT.out.1]at hrl
  have hbd : (i : Int) < (x5.el.length : Nat) := by omega
  clear hs2 eP dC hnx HM gq gU jL bU HR4 gF qQ qO HBAD bF NS HI hev hil hup
  generalize x5.el.length = en at *
  go_upto_region 12 with fail
  obtain⟨x6, dY, jQ⟩ := jF.out (wrap64 (ea + 1))
  have gG := Lib.hid (And.intro (dY.R.trans eT.out.1) (dY.S.trans eT.out.2))
  have bO := Lib.hid (dZ.out.trans dY)
  have kg := Lib.hid jQ
  have tF := Lib.hid (And.intro (dY.keep vw.out.1 vw.out.2) (dY.o _ (lt_of_block vw.out.1) vw.out.2))
  clear dY jQ jF eT dZ eZ vw c9 hrl hbd hcap tC hlt hfz
  generalize (wf.setCell ⟨eg, i, none⟩ (.int .i64 (wrap64 (ea + 1)))) = w6 at *
  obtain⟨⟨q0, q1, q2⟩, q3, q4, q5⟩ := cB tF.out.1
  have vg := lt_of_block tF.out.1
  rcases HE.out with⟨e, hx, hre⟩|⟨s3, hx, hrest⟩
  · have HST := Lib.hid (kX.out w6 x6 s2 _ kg.out hx)
    rw[gG.out.1]at HST
    have dx := Lib.hid hre
    clear hx hre HE
    go_wp2_with fail
    refine HST.out.mono ?_
    rintro e2 w7 ⟨⟨rfl, hn0⟩, hg⟩
    refine⟨rfl, ?_⟩
    rw[dx.out]
    exact⟨⟨rfl, hn0⟩, (by first|exact hg|exact .of (ax.grow aj.out) hg|exact .of (ax.grow HG2.out) hg|exact .of (ax.grow aA.out) hg|exact .of (ax.grow bB.out) hg|exact .of (ax.grow bI.out) hg|exact .of (ax.grow aT.out) hg|exact .of (ax.grow xV.out) hg|exact .of gH.out hg|exact .of dO.out hg|exact .of cz.out hg|exact .of bO.out hg|exact .of dZ.out hg|exact .of HR4.out hg|exact .of HR3.out hg|exact .of HR2.out hg|exact .of HR1.out hg|exact .of HR.out hg|exact .of ((ax.grow aj.out).trans HR.out) hg)⟩
  have HST := Lib.hid (kX.out w6 x6 s2 _ kg.out hx)
  rw[gG.out.1]at HST
  obtain⟨hbad, hok⟩ := mF hrest
  have HBAD := Lib.hid hbad
  have bF := Lib.hid hok
  clear hx hrest hbad hok HE
  go_wp2_with fail
  refine HST.out.mono ?_
  rintro e2 w7 ⟨rfl, x7, eG, jR⟩
  have cK := Lib.hid (rf w0 ⟨vars, vv, procs, .slice (some ⟨pb, po, none⟩) procs.length gP, .mk mk mn ms mv ml⟩ fuel k w7 x7 s3 jR)
  rw[eG.R, gG.out.1]at cK
  have gI := Lib.hid (And.intro (eG.R.trans gG.out.1) (eG.S.trans gG.out.2))
  have cz := Lib.hid (bO.out.trans eG)
  clear eG jR HST q0 q1 q2 q3 q4 q5 vg gG bO kg tF kX
  go_wp2_with fail
  refine cK.out.mono ?_
  clear cK
  intro e w8 hq
  cases hs1 : s3.step fuel with
  |error n =>
    rw[hs1]at hq
    have hre := HBAD.out n hs1
    obtain⟨⟨rfl, hn0⟩, hg⟩ := hq
    refine⟨rfl, ?_⟩
    rw[hre]
    exact⟨⟨rfl, hn0⟩, (by first|exact hg|exact .of (ax.grow aj.out) hg|exact .of (ax.grow HG2.out) hg|exact .of (ax.grow aA.out) hg|exact .of (ax.grow bB.out) hg|exact .of (ax.grow bI.out) hg|exact .of (ax.grow aT.out) hg|exact .of (ax.grow xV.out) hg|exact .of gH.out hg|exact .of dO.out hg|exact .of cz.out hg|exact .of bO.out hg|exact .of dZ.out hg|exact .of HR4.out hg|exact .of HR3.out hg|exact .of HR2.out hg|exact .of HR1.out hg|exact .of HR.out hg|exact .of ((ax.grow aj.out).trans HR.out) hg)⟩
  |ok s4 =>
  rw[hs1]at hq
  have hnext := bF.out s4 hs1
  obtain⟨rfl, x8, nM, lW⟩ := hq
  have CG := Lib.hid (QX w0 ⟨vars, vv, procs, .slice (some ⟨pb, po, none⟩) procs.length gP, .mk mk mn ms mv ml⟩ fuel k w8 x8 s4 lW)
  rw[nM.S, gI.out.2]at CG
  have dO := Lib.hid (cz.out.trans nM)
  have c6 := lW.cells.1.1
  rw[nM.R, nM.S, gI.out.1, gI.out.2]at c6
  have hrl := lt_of_block lW.run
  rw[nM.R, gI.out.1]at hrl
  have bK := Lib.hid (Option.some.inj hnext)
  clear nM lW hnext HBAD bF hs1 gI cz
  rw[bK.out]at CG
  go_wp2_with fail
  refine CG.out.mono ?_
  clear CG c6 hrl
  intro e w9 hq
  have hck := Az (.pointer (some ⟨x.R, 0, none⟩)) (jf res) w9
  have HQ := Lib.hid (dU.trans dO.out hq)
  cases res with
  |error n =>
    obtain⟨⟨rfl, hn0⟩, hg⟩ := hq
    simp only[jf, hn0, if_false]at hck
    go_wp2_with fail
    refine hck.mono ?_
    rintro e zw ⟨rfl, rfl⟩
    refine⟨rfl, ?_⟩
    exact⟨⟨rfl, hn0⟩, (by first|exact hg|exact .of (ax.grow aj.out) hg|exact .of (ax.grow HG2.out) hg|exact .of (ax.grow aA.out) hg|exact .of (ax.grow bB.out) hg|exact .of (ax.grow bI.out) hg|exact .of (ax.grow aT.out) hg|exact .of (ax.grow xV.out) hg|exact .of gH.out hg|exact .of dO.out hg|exact .of cz.out hg|exact .of bO.out hg|exact .of dZ.out hg|exact .of HR4.out hg|exact .of HR3.out hg|exact .of HR2.out hg|exact .of HR1.out hg|exact .of HR.out hg|exact .of ((ax.grow aj.out).trans HR.out) hg)⟩
  |ok s9 =>
    obtain⟨rfl, hx⟩ := hq
    simp only[jf, if_true]at hck
    have Cf := Lib.hid HQ.out.2
    clear hx HQ
    go_wp2_with fail
    refine hck.mono ?_
    rintro e zw ⟨rfl, rfl⟩
    go_wp2_with fail
    go_end0
    exact⟨rfl, Cf.out⟩
end Go.Proofs.YtbpodipdfohikaaGreat
