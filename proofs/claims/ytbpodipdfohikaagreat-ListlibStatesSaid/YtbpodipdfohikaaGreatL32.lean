import Derived.Test.YtbpodipdfohikaaGreatL31
import Derived.Deep.LoopGhost
set_option linter.unusedSimpArgs false
set_option linter.unusedVariables false
set_option maxRecDepth 100000
set_option maxHeartbeats 25600000
namespace Go.Proofs.YtbpodipdfohikaaGreat
open Go.RowKit Go.Instr
theorem Qy {k nn : Int} {ns : ByteArray} {nl : List ae} (hk : k = 53) (h : aX (.mk k nn ns (ae.ts nl)) = true) : ∃ f c d z, nl = [f, c, d, z] := by
  subst hk
  rw[aX]at h
  match nl with
  | [] => simp[ae.ts, bz]at h
  | [_] => simp[ae.ts, bz]at h
  | [_, _] => simp[ae.ts, bz]at h
  | [_, _, _] => simp[ae.ts, bz]at h
  | [f, c, d, z] => exact⟨f, c, d, z, rfl⟩
  |_ :: _ :: _ :: _ :: _ :: _ => simp[ae.ts, bz]at h
theorem Q6 {P : List bA} {fuel g : Nat} {nn : Int} {ns : ByteArray} {f c d z : Tree} {b : Bool} {s : ah} {res : Except Int ah} (h : exec P fuel g (.stmt (.mk 53 nn ns [f, c, d, z])) b s = some res) : ∃ g', g = g' + 1 /\
    aI (s.holds fuel (if b then z else f)) (λx => if x.1 = true then exec P fuel g' (.round (.mk 53 nn ns [f, c, d, z])) b x.2 else some (.error 15)) = some res := by
  cases g with
  |zero => cases h
  |succ g =>
    refine⟨g, rfl, ?_⟩
    have he := nO h
    rw[exec, if_neg (by rw[he]; decide), if_pos (show Tree.kind (.mk 53 nn ns [f, c, d, z]) = 53 from rfl)]at h
    cases b <;> exact h
theorem RU {P : List bA} {fuel g : Nat} {nn : Int} {ns : ByteArray} {f c d z : Tree} {b : Bool} {s : ah} {res : Except Int ah} (h : exec P fuel g (.round (.mk 53 nn ns [f, c, d, z])) b s = some res) : ∃ g', g = g' + 1 /\
    aI (exec P fuel g' (.stmts (turned b c.kids)) b s) (λs => aI (s.holds fuel (if b then f else z)) λx => if x.1 = true then some (.ok x.2)else aI (exec P fuel g' (.stmts (turned b d.kids)) b x.2) λs => aI (s.holds fuel (if b then z else f)) λy => if y.1 = true then some (.error 15)else exec P fuel g' (.round (.mk 53 nn ns [f, c, d, z])) b y.2) = some res := by
  cases g with
  |zero => cases h
  |succ g =>
    refine⟨g, rfl, ?_⟩
    rw[exec]at h
    cases b <;> exact h
theorem Dg {s : ah} {fuel : Nat} {t : Tree} {H : Bool × ah -> Option (Except Int ah)} {res : Except Int ah} (h : aI (s.holds fuel t) H = some res) : ∃ rr, s.holds fuel t = some rr /\ (∀ e, rr = .error e -> res = .error e) /\ ∀ x, rr = .ok x -> H x = some res := by
  cases hv : s.holds fuel t with
  |none => rw[hv]at h; cases h
  |some rr =>
    rw[hv]at h
    refine⟨rr, rfl, λe he => ?_, λv he => ?_⟩
    · subst he; exact(Option.some.inj h).symm
    · subst he; exact h
theorem Pj {s : ah} {fuel : Nat} {t : Tree} {H : ah -> Option (Except Int ah)} {res : Except Int ah} (h : aI (s.holds fuel t) (λx => if x.1 = true then H x.2 else some (.error 15)) = some res) : ∃ rr, s.holds fuel t = some rr /\ (∀ e, pV true rr = .error e -> res = .error e) /\ ∀ s1, pV true rr = .ok s1 -> H s1 = some res := by
  obtain⟨rr, h1, h2, h3⟩ := Dg h
  refine⟨rr, h1, ?_, ?_⟩
  · rcases rr with e|⟨b, s1⟩
    · exact λe' he => h2 e' (by cases he; rfl)
    · cases b
      · intro e he
        have := h3 _ rfl
        simp only[Bool.false_eq_true, if_false, Option.some.injEq]at this
        rw[← this]; exact he
      · intro e he; cases he
  · rcases rr with e|⟨b, s1⟩
    · intro s2 he; cases he
    · cases b
      · intro s2 he; cases he
      · intro s2 he
        cases he
        exact h3 _ rfl
theorem Pk {s : ah} {fuel : Nat} {t : Tree} {H : ah -> Option (Except Int ah)} {res : Except Int ah} (h : aI (s.holds fuel t) (λx => if x.1 = true then some (.error 15)else H x.2) = some res) : ∃ rr, s.holds fuel t = some rr /\ (∀ e, pV false rr = .error e -> res = .error e) /\ ∀ s1, pV false rr = .ok s1 -> H s1 = some res := by
  obtain⟨rr, h1, h2, h3⟩ := Dg h
  refine⟨rr, h1, ?_, ?_⟩
  · rcases rr with e|⟨b, s1⟩
    · exact λe' he => h2 e' (by cases he; rfl)
    · cases b
      · intro e he; cases he
      · intro e he
        have := h3 _ rfl
        simp only[if_true, Option.some.injEq]at this
        rw[← this]; exact he
  · rcases rr with e|⟨b, s1⟩
    · intro s2 he; cases he
    · cases b
      · intro s2 he
        cases he
        exact h3 _ rfl
      · intro s2 he; cases he
set_option maxRecDepth 100000 in
set_option maxHeartbeats 12800000 in
theorem Q7 {w0 : World} {p : az} {fuel k g : Nat} (IH : ∀ g', g' < g -> rH w0 p fuel k g') (w : World) (x : aK) (s : ah) (res : Except Int ah) (nk nn : Int) (ns : ByteArray) (nv : Value) (nl : List ae) (b : Bool) (hk : nk = 53) (h : aG w0 p fuel k w x s) (hno : aS (λ_ => True) w0 (.mk nk nn ns nv nl)) (hex : exec (p.procs.map aO.d) fuel g (.stmt (ae.t (.mk nk nn ns nv nl))) b s = some res) :
    Calls Tryz.prog 116 #[.pointer (some ⟨x.R, 0, none⟩), ae.val (.mk nk nn ns nv nl), .bool b] w (bZ w0 p fuel k x w res) := by
  subst hk
  obtain⟨x1, hr1, ho, h1⟩ := h.fresh
  rw[show x.R = x1.R from hr1.R.symm]
  refine Calls.mono ?_ (λe w' (hq : bZ w0 p fuel k x1 w res e w') => hq.of hr1)
  clear hr1 h
  revert h1 ho
  generalize x1 = x
  intro ho h
  have hsh := nO hex
  rw[ae.t]at hsh
  obtain⟨nf, nq, nd, nz, rfl⟩ := Qy rfl hsh
  rw[ae.t, ae.ts, ae.ts, ae.ts, ae.ts, ae.ts]at hex
  obtain⟨g', rfl, oK⟩ := Q6 hex
  clear hsh hex
  revert oK
  intro hex
  have kM := hno.kids nf (by simp)
  have hkq := hno.kids nq (by simp)
  have hkd := hno.kids nd (by simp)
  have hkz := hno.kids nz (by simp)
  have uK := Lib.hid (λz (hz : Grow w0 z) => (IQ z (.mk 53 nn ns nv [nf, nq, nd, nz]) 53 nn ns nv [nf, nq, nd, nz] rfl (hno.at.later hz) (by simp) b).mono (R' := λe w' => e = .returned (.tuple #[(if b then nz else nf).val, (if b then nf else nz).val]) /\ Grow z w') (λe w' hq => by
    obtain⟨a, c, ⟨e1, e2⟩, rfl, hg⟩ := hq
    simp only[List.getElem?_cons_zero, List.length_cons, List.length_nil, Option.some.injEq]at e1 e2
    simp only[Nat.zero_add, Nat.reduceAdd, Nat.add_one_sub_one, List.getElem?_cons_succ, List.getElem?_cons_zero, Option.some.injEq]at e2
    subst e1 e2
    exact⟨rfl, hg⟩))
  obtain⟨nA, hA⟩ : ∃ n : ae, n = if b then nz else nf := ⟨_, rfl⟩
  obtain⟨nZ, hZ⟩ : ∃ n : ae, n = if b then nf else nz := ⟨_, rfl⟩
  have tq : aS (λ_ => True) w0 nA := by rw[hA]; cases b <;> assumption
  have vO : aS (λ_ => True) w0 nZ := by rw[hZ]; cases b <;> assumption
  have tA : (if b then nz.t else nf.t) = nA.t := by rw[hA]; cases b <;> rfl
  have tZ : (if b then nf.t else nz.t) = nZ.t := by rw[hZ]; cases b <;> rfl
  rw[← hA, ← hZ]at uK
  have NM := Lib.hid (λ(gg : Nat) (s' : ah) (hh : exec (p.procs.map aO.d) fuel gg (.round (.mk 53 nn ns [nf.t, nq.t, nd.t, nz.t])) b s' = some res) => RU hh)
  rw[tA]at hex
  simp only[tA, tZ]at NM
  generalize WJ : Tree.mk 53 nn ns [nf.t, nq.t, nd.t, nz.t] = RT at *
  have hrow := hno.at.row.2.2.2.1
  obtain⟨na, nc, rfl, -, -⟩ := hno.at.form
  obtain⟨Cv, Cw, Xw, KJ, _, su⟩ := hrow.at (i := 1) (by simp)
  obtain⟨qk, qn, qs, qv, ql⟩ := nq
  obtain⟨qa, qc, rfl, -, -⟩ := hkq.at.form
  have q0 := su 0 (.int .u8 qk) (by rfl)
  have q1 := su 1 (.int .i64 qn) (by rfl)
  have q2 := su 2 (.string qs) (by rfl)
  have q3 := su 3 (.slice qa ql.length qc) (by rfl)
  obtain⟨YB, YC, Xx, EC, _, xu⟩ := hrow.at (i := 2) (by simp)
  obtain⟨dk, dn, ds, dv, dl⟩ := nd
  obtain⟨da, dc, rfl, -, -⟩ := hkd.at.form
  have d0 := xu 0 (.int .u8 dk) (by rfl)
  have d1 := xu 1 (.int .i64 dn) (by rfl)
  have d2 := xu 2 (.string ds) (by rfl)
  have d3 := xu 3 (.slice da dl.length dc) (by rfl)
  simp only[Value.slice.injEq, true_and]at KJ EC
  obtain⟨rfl, rfl⟩ := KJ
  simp only[Option.some.injEq, Addr.mk.injEq, and_true]at EC
  obtain⟨⟨rfl, rfl⟩, -⟩ := EC
  simp only[Nat.add_zero, Nat.one_mul, Nat.reduceMul]at q0 q1 q2 q3 d0 d1 d2 d3
  have WK := Lib.hid (λz (hz : Grow w0 z) => And.intro (And.intro (bW q0 hz) (bW q1 hz)) (And.intro (bW q2 hz) (bW q3 hz)))
  have pG := Lib.hid (λz (hz : Grow w0 z) => And.intro (And.intro (bW d0 hz) (bW d1 hz)) (And.intro (bW d2 hz) (bW d3 hz)))
  clear su xu q0 q1 q2 q3 d0 d1 d2 d3
  have xM := Lib.hid (λ(g1 : Nat) (h1 : g1 < g' + 1) z x' s' jO (hz : aG w0 p fuel k z x' s') (he : exec (p.procs.map aO.d) fuel g1 (.stmts (turned b (ae.t (.mk qk qn qs (.slice qa ql.length qc) ql)).kids)) b s' = some jO) => IH g1 h1 z x' s' jO (.mk qk qn qs (.slice qa ql.length qc) ql) b hz hkq he)
  have pg := Lib.hid (λ(g1 : Nat) (h1 : g1 < g' + 1) z x' s' jO (hz : aG w0 p fuel k z x' s') (he : exec (p.procs.map aO.d) fuel g1 (.stmts (turned b (ae.t (.mk dk dn ds (.slice da dl.length dc) dl)).kids)) b s' = some jO) => IH g1 h1 z x' s' jO (.mk dk dn ds (.slice da dl.length dc) dl) b hz hkd he)
  generalize hnl : [nf, (.mk qk qn qs (.slice qa ql.length qc) ql), (.mk dk dn ds (.slice da dl.length dc) dl), nz] = nl at *
  have zB := Lib.hid (show nl.length = 4 from by rw[← hnl]; rfl)
  obtain⟨ak, an, mq, av, al⟩ := nA
  obtain⟨aa, ac, rfl, -, -⟩ := tq.at.form
  obtain⟨zk, zn, zs, zv, zl⟩ := nZ
  obtain⟨za, zc, rfl, -, -⟩ := vO.at.form
  have FW := Lib.hid tq
  have FX := Lib.hid vO
  have iI := Lib.hid h.g
  have aj := Lib.hid (show Grow w (w.alloc (.cells #[.int .u8 53, .int .i64 nn, .string ns, .slice (some ⟨Cv, Cw, none⟩) nl.length nc] 40))from(Mv.refl _ w).alloc _)
  have aY := Lib.hid (heap_alloc_new w (.cells #[.int .u8 53, .int .i64 nn, .string ns, .slice (some ⟨Cv, Cw, none⟩) nl.length nc] 40))
  have HS := Lib.hid h
  obtain⟨rr, hrr, hbad, hok⟩ := Pj (H := λs => exec (p.procs.map aO.d) fuel g' (.round RT) b s) hex
  have ED := Lib.hid (λz (hz : Grow w z) => Gx w0 p fuel k z x s (.mk ak an mq (.slice aa al.length ac) al) true rr (h.later hz) (tq.up (gtr h.g hz)) hrr)
  have vT := Lib.hid (λz (hz : Grow w z) => uK.out z (gtr iI.out hz))
  clear hno hex h ho kM hkq hkd hkz hA hZ tA tZ tq vO hrow IH uK hnl WJ hrr
  simp only[ae.val]at vT xM pg ED ⊢
  go_enter Tryz.func116, Tryz.ntmps116
  go_upto_region 1 with fail
  generalize (w.alloc (.cells #[.int .u8 53, .int .i64 nn, .string ns, .slice (some ⟨Cv, Cw, none⟩) nl.length nc] 40)) = w1 at *
  have HK := Lib.hid (λ(y : World) (hy : Grow w1 y) => ai aY.out hy)
  refine zA 37 [some 9, some 10, some 11, some 8, some 12, some 13, some 6, some 7, none, none] [[], [], [0, 1], [2], [3], [3], [], [], [6, 4], [7, 5]] [] [.c (.agg #[.int .u8 53, .int .i64 nn, .string ns, .slice (some ⟨Cv, Cw, none⟩) nl.length nc]), .c (.bool b), .c (.tuple #[.agg #[.int .u8 ak, .int .i64 an, .string mq, .slice aa al.length ac], .agg #[.int .u8 zk, .int .i64 zn, .string zs, .slice za zl.length zc]]), .c (.tuple #[.agg #[.int .u8 ak, .int .i64 an, .string mq, .slice aa al.length ac], .agg #[.int .u8 zk, .int .i64 zn, .string zs, .slice za zl.length zc]]), .c (.agg #[.int .u8 ak, .int .i64 an, .string mq, .slice aa al.length ac]), .c (.agg #[.int .u8 zk, .int .i64 zn, .string zs, .slice za zl.length zc]), .al 8 4 #[.int .u8 0, .int .i64 0, .string ⟨#[]⟩, .slice none 0 0] 40, .al 9 5 #[.int .u8 0, .int .i64 0, .string ⟨#[]⟩, .slice none 0 0] 40, .st 6, .st 7] trivial (dJ rfl) ?steps ?done
  case steps =>
    refine⟨?s0, ?s1, ?s2, ?s3, ?s4, ?s5, ?s6, ?s7, ?s8, ?s9, trivial⟩
    case s0 =>
      refine ok0 HK (λvs x hG HX hP => ?_)
      obtain⟨⟨n0, n1⟩, n2, n3⟩ := aJ HX.out
      have hbl := lt_of_block HX.out
      simp only[zS]
      go_simp
      exact gc
    case s1 =>
      refine oo (λvs x hP => ?_)
      simp only[zS]
      go_simp
      exact gc
    case s2 =>
      refine ok0 HK (λvs x hG HX hP => ?_)
      simp only[zS]
      go_simp
      refine(vT.out x (gtr aj.out hG)).mono ?_
      rintro e y ⟨rfl, hg⟩
      exact⟨_, rfl, gm hg rfl⟩
    case s3 =>
      refine oo (λvs x hP => ?_)
      simp only[zS]
      go_simp
      exact gc
    case s4 =>
      refine oo (λvs x hP => ?_)
      simp only[zS]
      go_simp
      exact gc
    case s5 =>
      refine oo (λvs x hP => ?_)
      simp only[zS]
      go_simp
      exact gc
    case s6 =>
      refine oz (λvs x => ?_)
      simp only[zS]
      go_simp
      exact⟨rfl, rfl⟩
    case s7 =>
      refine oz (λvs x => ?_)
      simp only[zS]
      go_simp
      exact⟨rfl, rfl⟩
    case s8 =>
      refine os (λvs x g hg hb hv => ?_)
      have h4 : vs 4 = .agg #[.int .u8 ak, .int .i64 an, .string mq, .slice aa al.length ac] := hv
      obtain⟨c0, c1, c2, c3⟩ := fA hb
      have zt := bD hb
      simp only[zS, hg, h4]
      go_simp
      exact⟨(dW hb _ _ _ _).1, (dW hb _ _ _ _).2⟩
    case s9 =>
      refine os (λvs x g hg hb hv => ?_)
      have h5 : vs 5 = .agg #[.int .u8 zk, .int .i64 zn, .string zs, .slice za zl.length zc] := hv
      obtain⟨c0, c1, c2, c3⟩ := fA hb
      have zt := bD hb
      simp only[zS, hg, h5]
      go_simp
      exact⟨(dW hb _ _ _ _).1, (dW hb _ _ _ _).2⟩
  case done =>
  intro vs w3 hE
  have hG := hE.wS
  obtain⟨g6, a6, l6, m6, b6⟩ := hE.box 6
  obtain⟨g7, a7, l7, m7, b7⟩ := hE.box 7
  simp only[zS, Nat.reduceAdd, a6, a7]
  have aT := Lib.hid (gtr aj.out hG)
  have qN := Lib.hid b6
  have HZ3 := Lib.hid b7
  have HB3 := Lib.hid (ai aY.out hG)
  clear hE hG b6 b7 l6 l7 m6 m7 HK
  simp only[fT, zS]at qN HZ3
  have xS := Lib.hid (ED.out w3 aT.out)
  clear vT aj aY HS ED iI
  obtain⟨⟨n0, n1⟩, n2, n3⟩ := aJ qN.out
  have hbl := lt_of_block qN.out
  have HBAD := Lib.hid hbad
  have bF := Lib.hid hok
  clear hbad hok
  go_wp2_with fail
  refine xS.out.mono ?_
  clear xS n0 n1 n2 n3 hbl
  intro e w4 hq
  cases hs1 : pV true rr with
  |error n =>
    rw[hs1]at hq
    have hre := HBAD.out n hs1
    obtain⟨⟨rfl, hn0⟩, hg⟩ := hq
    refine⟨rfl, ?_⟩
    rw[hre]
    exact⟨⟨rfl, hn0⟩, (by first|exact hg|exact .of (ax.grow aj.out) hg|exact .of (ax.grow HG2.out) hg|exact .of (ax.grow aA.out) hg|exact .of (ax.grow bB.out) hg|exact .of (ax.grow bI.out) hg|exact .of (ax.grow aT.out) hg|exact .of gH.out hg|exact .of dO.out hg|exact .of cz.out hg|exact .of bO.out hg|exact .of dZ.out hg|exact .of HR4.out hg|exact .of HR3.out hg|exact .of HR2.out hg|exact .of HR1.out hg|exact .of HR.out hg|exact .of (HR4.out.trans vV.out) hg|exact .of (HR4.out.trans bO.out) hg|exact .of (HR4.out.trans cz.out) hg|exact .of (HR4.out.trans dO.out) hg)⟩
  |ok s1 =>
  rw[hs1]at hq
  have hnext := bF.out s1 hs1
  obtain⟨rfl, x4, hr4, jP⟩ := hq
  have HR4 := Lib.hid ((ax.grow aT.out).trans hr4)
  have qF := Lib.hid (And.intro hr4.R hr4.S)
  have gF := Lib.hid jP
  have bU := Lib.hid hnext
  have qO := Lib.hid (hr4.n _ _ _ qN.out)
  have uU := Lib.hid (hr4.n _ _ _ HZ3.out)
  have dE := Lib.hid (hr4.n _ _ _ HB3.out)
  clear hr4 jP hnext HBAD bF hs1 aT qN HZ3 HB3
  go_wp2_with fail
  go_loopg [] g' (λgk wr => ∃ xi si, ax x4 xi w4 wr /\ aG w0 p fuel k wr xi si /\ exec (p.procs.map aO.d) fuel gk (.round RT) b si = some res /\ gk <= g')
  case atStart => exact⟨x4, s1, ax.refl _ _, gF.out, bU.out, Nat.le_refl _⟩
  obtain⟨xi, si, sZ, hsi, hxi, hgi⟩ := hrel
  obtain⟨g1, hg1, hrest⟩ := NM.out _ _ hxi
  have xU := Lib.hid (And.intro hg1 hgi)
  have qH := Lib.hid (And.intro ((sZ.trans (ax.refl _ _)).R.trans qF.out.1) (sZ.S.trans qF.out.2))
  have vV := Lib.hid sZ
  have FZ := Lib.hid hsi
  have Cx := Lib.hid (sZ.n _ _ _ dE.out)
  have HE := Lib.hid (wJ hrest)
  have Cy := Lib.hid (WK.out wr hsi.g)
  clear sZ hsi hxi hgi hg1 hrest
  obtain⟨⟨n0, n1⟩, n2, n3⟩ := aJ Cx.out
  have hbl := lt_of_block Cx.out
  obtain⟨⟨d0, d1⟩, d2, d3⟩ := Cy.out
  have hkl := World.block_lt_of_cell? wr _ d0
  simp only at hkl
  have hbd : (1 : Int) < (nl.length : Nat) := by have := zB.out; omega
  rcases HE.out with⟨e, hx, hre⟩|⟨s3, hx, hrest⟩
  · have HST := Lib.hid (xM.out g1 (by have := xU.out; omega) wr xi si _ FZ.out hx)
    rw[qH.out.1]at HST
    have dx := Lib.hid hre
    clear hx hre HE
    go_wp2_with fail
    refine HST.out.mono ?_
    rintro e2 w6 ⟨⟨rfl, hn0⟩, hg⟩
    refine⟨rfl, ?_⟩
    rw[dx.out]
    exact⟨⟨rfl, hn0⟩, (by first|exact hg|exact .of (ax.grow aj.out) hg|exact .of (ax.grow HG2.out) hg|exact .of (ax.grow aA.out) hg|exact .of (ax.grow bB.out) hg|exact .of (ax.grow bI.out) hg|exact .of (ax.grow aT.out) hg|exact .of gH.out hg|exact .of dO.out hg|exact .of cz.out hg|exact .of bO.out hg|exact .of dZ.out hg|exact .of HR4.out hg|exact .of HR3.out hg|exact .of HR2.out hg|exact .of HR1.out hg|exact .of HR.out hg|exact .of (HR4.out.trans vV.out) hg|exact .of (HR4.out.trans bO.out) hg|exact .of (HR4.out.trans cz.out) hg|exact .of (HR4.out.trans dO.out) hg)⟩
  have HST := Lib.hid (xM.out g1 (by have := xU.out; omega) wr xi si _ FZ.out hx)
  rw[qH.out.1]at HST
  obtain⟨rh, NN, hbad, hok⟩ := Dg hrest
  have HBAD := Lib.hid hbad
  have bF := Lib.hid hok
  have Af := Lib.hid NN
  clear hx hrest hbad hok NN HE
  go_wp2_with fail
  refine HST.out.mono ?_
  rintro e2 w6 ⟨rfl, x6, dY, jQ⟩
  have Cz := Lib.hid (Ii w0 p fuel k w6 x6 s3 (.mk zk zn zs (.slice za zl.length zc) zl) rh jQ (FX.out.up jQ.g) Af.out)
  rw[dY.R, qH.out.1]at Cz
  have gG := Lib.hid (And.intro (dY.R.trans qH.out.1) (dY.S.trans qH.out.2))
  have bO := Lib.hid (vV.out.trans dY)
  have mf := Lib.hid (dY.n _ _ _ Cx.out)
  have oZ := Lib.hid (bO.out.n _ _ _ uU.out)
  clear dY jQ HST n0 n1 n2 n3 hbl d0 d1 d2 d3 hkl qH vV FZ Cx Cy
  obtain⟨⟨n0, n1⟩, n2, n3⟩ := aJ oZ.out
  have hbl := lt_of_block oZ.out
  simp only[ae.val]at Cz
  go_wp2_with fail
  refine Cz.out.mono ?_
  clear Cz n0 n1 n2 n3 hbl
  intro e w7 hq
  unfold qp at hq
  cases rh with
  |error n =>
    have hre := HBAD.out n rfl
    obtain⟨⟨rfl, hn0⟩, hg⟩ := hq
    refine⟨rfl, ?_⟩
    rw[hre]
    exact⟨⟨rfl, hn0⟩, (by first|exact hg|exact .of (ax.grow aj.out) hg|exact .of (ax.grow HG2.out) hg|exact .of (ax.grow aA.out) hg|exact .of (ax.grow bB.out) hg|exact .of (ax.grow bI.out) hg|exact .of (ax.grow aT.out) hg|exact .of gH.out hg|exact .of dO.out hg|exact .of cz.out hg|exact .of bO.out hg|exact .of dZ.out hg|exact .of HR4.out hg|exact .of HR3.out hg|exact .of HR2.out hg|exact .of HR1.out hg|exact .of HR.out hg|exact .of (HR4.out.trans vV.out) hg|exact .of (HR4.out.trans bO.out) hg|exact .of (HR4.out.trans cz.out) hg|exact .of (HR4.out.trans dO.out) hg)⟩
  |ok yy =>
  obtain⟨bb, s4⟩ := yy
  have hnext := bF.out _ rfl
  obtain⟨rfl, x7, eG, jR⟩ := hq
  cases bb with
  |true =>
    simp only[if_true, Option.some.injEq]at hnext
    have HQ := Lib.hid (show bZ w0 p fuel k x w res (.returned (.tuple #[])) w7 from by
      rw[← hnext]
      exact⟨rfl, x7, HR4.out.trans (bO.out.trans eG), jR⟩)
    clear hnext eG jR
    go_wp2_with fail
    go_end0
    exact HQ.out
  |false =>
  simp only[Bool.false_eq_true, if_false]at hnext
  have gI := Lib.hid (And.intro (eG.R.trans gG.out.1) (eG.S.trans gG.out.2))
  have cz := Lib.hid (bO.out.trans eG)
  have vU := Lib.hid jR
  have qP := Lib.hid (eG.n _ _ _ mf.out)
  have NP := Lib.hid (cz.out.n _ _ _ qO.out)
  have NQ := Lib.hid (pG.out w7 jR.g)
  have HE := Lib.hid (wJ hnext)
  clear hnext eG jR HBAD bF Af bO gG mf oZ
  obtain⟨⟨n0, n1⟩, n2, n3⟩ := aJ qP.out
  have hbl := lt_of_block qP.out
  obtain⟨⟨d0, d1⟩, d2, d3⟩ := NQ.out
  have hkl := World.block_lt_of_cell? w7 _ d0
  simp only at hkl
  have Uc : (2 : Int) < (nl.length : Nat) := by have := zB.out; omega
  rcases HE.out with⟨e, hx, hre⟩|⟨s5, hx, hrest⟩
  · have HST := Lib.hid (pg.out g1 (by have := xU.out; omega) w7 x7 s4 _ vU.out hx)
    rw[gI.out.1]at HST
    have dx := Lib.hid hre
    clear hx hre HE
    go_wp2_with fail
    refine HST.out.mono ?_
    rintro e2 w8 ⟨⟨rfl, hn0⟩, hg⟩
    refine⟨rfl, ?_⟩
    rw[dx.out]
    exact⟨⟨rfl, hn0⟩, (by first|exact hg|exact .of (ax.grow aj.out) hg|exact .of (ax.grow HG2.out) hg|exact .of (ax.grow aA.out) hg|exact .of (ax.grow bB.out) hg|exact .of (ax.grow bI.out) hg|exact .of (ax.grow aT.out) hg|exact .of gH.out hg|exact .of dO.out hg|exact .of cz.out hg|exact .of bO.out hg|exact .of dZ.out hg|exact .of HR4.out hg|exact .of HR3.out hg|exact .of HR2.out hg|exact .of HR1.out hg|exact .of HR.out hg|exact .of (HR4.out.trans vV.out) hg|exact .of (HR4.out.trans bO.out) hg|exact .of (HR4.out.trans cz.out) hg|exact .of (HR4.out.trans dO.out) hg)⟩
  have HST := Lib.hid (pg.out g1 (by have := xU.out; omega) w7 x7 s4 _ vU.out hx)
  rw[gI.out.1]at HST
  obtain⟨ra, hra, hbad, hok⟩ := Pk (H := λs => exec (p.procs.map aO.d) fuel g1 (.round RT) b s) hrest
  have HBAD := Lib.hid hbad
  have bF := Lib.hid hok
  have Af := Lib.hid hra
  clear hx hrest hbad hok hra HE
  go_wp2_with fail
  refine HST.out.mono ?_
  rintro e2 w8 ⟨rfl, x8, nM, lW⟩
  have HAS := Lib.hid (Gx w0 p fuel k w8 x8 s5 (.mk ak an mq (.slice aa al.length ac) al) false ra lW (FW.out.up lW.g) Af.out)
  rw[nM.R, gI.out.1]at HAS
  have dO := Lib.hid (cz.out.trans nM)
  have NR := Lib.hid (nM.n _ _ _ NP.out)
  clear nM lW HST n0 n1 n2 n3 hbl d0 d1 d2 d3 hkl gI cz vU qP NQ NP
  obtain⟨⟨n0, n1⟩, n2, n3⟩ := aJ NR.out
  have hbl := lt_of_block NR.out
  simp only[ae.val]at HAS
  go_wp2_with fail
  refine HAS.out.mono ?_
  clear HAS n0 n1 n2 n3 hbl
  intro e w9 hq
  cases hs1 : pV false ra with
  |error n =>
    rw[hs1]at hq
    have hre := HBAD.out n hs1
    obtain⟨⟨rfl, hn0⟩, hg⟩ := hq
    refine⟨rfl, ?_⟩
    rw[hre]
    exact⟨⟨rfl, hn0⟩, (by first|exact hg|exact .of (ax.grow aj.out) hg|exact .of (ax.grow HG2.out) hg|exact .of (ax.grow aA.out) hg|exact .of (ax.grow bB.out) hg|exact .of (ax.grow bI.out) hg|exact .of (ax.grow aT.out) hg|exact .of gH.out hg|exact .of dO.out hg|exact .of cz.out hg|exact .of bO.out hg|exact .of dZ.out hg|exact .of HR4.out hg|exact .of HR3.out hg|exact .of HR2.out hg|exact .of HR1.out hg|exact .of HR.out hg|exact .of (HR4.out.trans vV.out) hg|exact .of (HR4.out.trans bO.out) hg|exact .of (HR4.out.trans cz.out) hg|exact .of (HR4.out.trans dO.out) hg)⟩
  |ok s6 =>
  rw[hs1]at hq
  have hnext := bF.out s6 hs1
  obtain⟨rfl, x9, bg, bG⟩ := hq
  have HQ := Lib.hid (show ∃ xi si, ax x4 xi w4 w9 /\ aG w0 p fuel k w9 xi si /\ exec (p.procs.map aO.d) fuel g1 (.round RT) b si = some res /\ g1 <= g' from⟨x9, s6, dO.out.trans bg, bG, hnext, by have := xU.out; omega⟩)
  clear hnext bg bG HBAD bF Af hs1
  go_wp2_with fail
  go_roundg g1
  case measure => have := xU.out; omega
  case rel => exact HQ.out
theorem Q8 {P : List bA} {fuel g : Nat} {k nn : Int} {ns : ByteArray} {l : List Tree} {b : Bool} {s : ah} {res : Except Int ah} (hk : k = 50 \/ k = 51) (h : exec P fuel g (.stmt (.mk k nn ns l)) b s = some res) : ∃ g', g = g' + 1 /\ ∃ d, P.find? (λp => p.name == ns) = some d /\
    aI (some (s.step fuel)) (λs => aI (some (s.enter d.params (l.map Tree.name))) λs => aI (exec P fuel g' (.stmts (turned (b != (k == 51)) d.body.kids)) (b != (k == 51)) s) λs => aI (some (s.step fuel)) λs => some s.leave) = some res := by
  cases g with
  |zero => cases h
  |succ g =>
    refine⟨g, rfl, ?_⟩
    have he := nO h
    rw[exec, if_neg (by rw[he]; decide), if_neg (show ¬ Tree.kind (.mk k nn ns l) = 53 from by show ¬ k = 53; omega), if_neg (show ¬ Tree.kind (.mk k nn ns l) = 54 from by show ¬ k = 54; omega), if_neg (show ¬ Tree.kind (.mk k nn ns l) = 55 from by show ¬ k = 55; omega), if_pos (show Tree.kind (.mk k nn ns l) = 50 \/ Tree.kind (.mk k nn ns l) = 51 from hk)]at h
    rw[show Tree.name (.mk k nn ns l) = ns from rfl]at h
    cases hf : P.find? (λp => p.name == ns)with
    |none => rw[hf]at h; cases h
    |some d => rw[hf]at h; exact⟨d, rfl, h⟩
theorem RV {k nn : Int} {ns : ByteArray} {l : List Tree} (hk : k = 50 \/ k = 51) (h : aX (.mk k nn ns l) = true) : l.length <= 8 := by
  rw[aX, if_neg (by omega), if_neg (by omega), if_neg (by omega), if_neg (by omega), if_pos (by omega)]at h
  simp only[Bool.and_eq_true, decide_eq_true_eq]at h
  exact h.2.1
theorem Q9 {P : List bA} {s : ByteArray} {d : bA} (h : P.find? (λp => p.name == s) = some d) : ∃ i, ∃ hi : i < P.length, gK P s = i /\ P[i] = d := by
  obtain⟨i, h1⟩ : ∃ i, P.findIdx? (λp => p.name == s) = some i := by
    cases hq : P.findIdx? (λp => p.name == s)with
    |some i => exact⟨i, rfl⟩
    |none =>
      have := List.find?_some h
      have hm := List.mem_of_find?_eq_some h
      rw[List.findIdx?_eq_none_iff]at hq
      rw[hq d hm]at this; cases this
  obtain⟨hi, h2, h3⟩ := List.findIdx?_eq_some_iff_getElem.1 h1
  refine⟨i, hi, by unfold gK; rw[h1], ?_⟩
  have h4 := List.find?_eq_some_iff_getElem.1 h
  obtain⟨h5, j, hj, h6, h7⟩ := h4
  rcases Nat.lt_trichotomy i j with hlt|heq|hgt
  · have := h7 i hlt
    rw[h2]at this; simp at this
  · subst heq; exact h6
  · have := h3 j hgt
    rw[h6]at this
    rw[h5]at this; simp at this
theorem Ij (l : List Int) : flat aB l = l.map (Value.int .i64) := by
  induction l with
  |nil => rfl
  |cons a l ih => simp only[flat, List.map_cons, List.flatten_cons]at ih ⊢; rw[ih]; rfl
theorem IV {e base : Nat} {w w' : World} {g cap : Nat} {l : List Int} {cs : Array Value} {t : TypeId} (h : w.ownsRow base e 1 (.slice (some ⟨g, 0, none⟩) l.length cap) l.length (flat aB l)) (hb : w.heap[g]? = some (.cells cs t (0, 0))) (v : Int) (i : Nat)
    (hb' : w'.heap[g]? = some (.cells (cs.setIfInBounds i (.int .i64 v)) t (0, 0))) : w'.ownsRow base e 1 (.slice (some ⟨g, 0, none⟩) l.length cap) (l.set i v).length (flat aB (l.set i v)) := by
  refine⟨by simp[mE aB 1 cO], .inr ?_⟩
  rcases h.2 with⟨e1, -⟩|⟨g', cap', cur, e1, h1, h2, h3, h4, h5, h6⟩
  · cases e1
  · simp only[Value.slice.injEq, Option.some.injEq, Addr.mk.injEq, true_and, and_true]at e1
    obtain⟨rfl, rfl⟩ := e1
    rw[hb]at h2
    simp only[Option.some.injEq, Obj.cells.injEq, and_true]at h2
    obtain⟨rfl, rfl⟩ := h2
    refine⟨g, cap, _, by simp, h1, hb', by simpa using h3, h4, by simpa using h5, ?_⟩
    rw[Ij]at h6 ⊢
    simp only[Array.toList_setIfInBounds, List.length_set]
    rw[List.take_set, h6, List.map_set]
theorem DY {e base : Nat} {w : World} {v : Value} {l : List Int} (h : w.ownsRow base e 1 v l.length (flat aB l)) (hl : 0 < l.length) : ∃ g cap cs, v = .slice (some ⟨g, 0, none⟩) l.length cap /\ base <= g /\ w.heap[g]? = some (.cells cs e (0, 0)) := by
  rcases h.2 with⟨-, e1⟩|⟨g', cap', cur, e1, h1, h2, h3, h4, h5, h6⟩
  · omega
  · exact⟨g', cap', cur, e1, h1, h2⟩
theorem aG.TS {w0 : World} {p : az} {fuel k : Nat} {w : World} {x : aK} {s : ah} (h : aG w0 p fuel k w x s) {i : Nat} (hi : i < p.procs.length) : ∃ g cap, (x.ev = .slice (some ⟨g, 0, none⟩) x.el.length cap /\ (i < x.el.length /\ x.el.length <= cap)) /\ (∃ a, w.cell? ⟨g, i, none⟩ = some (.int .i64 a)) /\ (g < w.heap.size /\ ∀ j, w.frozen? ⟨g, j, none⟩ = false) /\ ∀ v : Int, ∃ x', ax x x' w (w.setCell ⟨g, i, none⟩ (.int .i64 v)) /\ aG w0 p fuel k (w.setCell ⟨g, i, none⟩ (.int .i64 v)) x' s := by
  have hl : i < x.el.length := by rw[h.ni]; exact hi
  obtain⟨g, cap, cs, hv, hlow, hb⟩ := DY h.fI (by omega)
  have hrow := bX cO h.fI
  have hc : w.cell? ⟨g, i, none⟩ = some (.int .i64 x.el[i]) := by
    rw[hv]at hrow
    have := hrow.at' hl 0 (.int .i64 x.el[i]) rfl
    simpa using this
  refine⟨g, cap, ⟨hv, hl, by rw[hv]at hrow; exact hrow.cap⟩, ⟨_, hc⟩, ⟨lt_of_block hb, λj => bD hb j⟩, λv => ?_⟩
  have rg : x.ρ g = .fI := h.re g (by rw[hv]; rfl)
  have hm : Mv (λb => b = g) w (w.setCell ⟨g, i, none⟩ (.int .i64 v)) := (Mv.refl (λb => b = g) w).setCell (p := ⟨g, i, none⟩) (.inl rfl) _
  have st := h.stays hm (λr => r = .fI) (λb e _ => by subst e; exact rg)
  have hb' := block_setCell (p := ⟨g, i, none⟩) hb rfl (.int .i64 v)
  have hrow' := IV (by rw[← hv]; exact h.fI) hb v i hb'
  refine⟨{ x with el := x.el.set i v }, ⟨rfl, rfl, λ_ _ e => e, hm.mono λb e => .inl (by subst e; rw[rg]; exact λe => by cases e), λb cs' z hg => ?_⟩, bN h.g hm (λb e => by subst e; exact hlow), st.run (λe => by cases e), st.store (λe => by cases e), st.tape (λe => by cases e), h.jo, λj hj hj' => (st.fr j hj hj' (λe => by cases e) (λe => by cases e)).ext (λ_ _ => rfl) (λ_ _ => rfl) (Nat.le_refl _), st.calls (λe => by cases e), λj hj => (st.cell j hj (λe => by cases e) (λe => by cases e)).ext (λ_ _ => rfl) rfl rfl, ?_, by simp[h.ni], h.low, h.dN, h.re, h.rl, h.bd⟩
  · rw[hm.block b (lt_of_block hg) (λe => ?_)]
    · exact hg
    · subst e; rw[hb]at hg; simp only[Option.some.injEq, Obj.cells.injEq]at hg; exact absurd hg.2.1 (by decide)
  · show World.ownsRow _ _ _ _ x.ev _ _
    rw[hv]; exact hrow'
theorem Tryz.SI : (Tryz.prog.info? 9).map (λi => (i.zero, i.size, i.bytes)) = some (some (.string ⟨#[]⟩), 1, 16) := by kernel_rfl
theorem RX (n : Nat) (w : World) (hn : n <= 1000000) : (Instr.makeSlice 44 (.int .i64 n) (.int .i64 n)).run Tryz.prog w = .ok (.slice (some ⟨w.heap.size, 0, none⟩) n n) (w.alloc (.cells (Array.replicate n (.string ⟨#[]⟩)) 9)) := by
  obtain⟨i0, hi, hz0, hz1, hz2⟩ := info_parts Tryz.SI
  have := run_make (P := Tryz.prog) w 44 9 i0 _ Tryz.underlying44 hi hz0 .i64 .i64 n n (by omega) (Int.le_refl _) (by rw[hz2]; omega) (by omega)
  have hm : madeCells (Value.string ⟨#[]⟩).cells (n * i0.size) = Array.replicate n (.string ⟨#[]⟩) := by
    rw[hz1, Nat.mul_one]
    apply Array.ext
    · simp[madeCells]
    · intro j h1 h2
      simp[madeCells, Value.cells, Nat.mod_one]
  simp only[Int.toNat_natCast]at this
  rw[hm]at this
  exact this
def jd (l : List ae) (i : Nat) : Array Value := (((ae.ts l).map Tree.name).take i |>.map Value.string).toArray ++ Array.replicate (l.length - i) (.string ⟨#[]⟩)
theorem PT (l : List ae) : jd l 0 = Array.replicate l.length (.string ⟨#[]⟩) := by simp[jd]
theorem Qz (l : List ae) : (jd l l.length).toList = flat ny ((ae.ts l).map Tree.name) := by
  have h : ((ae.ts l).map Tree.name).length = l.length := by simp[ae.dB]
  have h2 : ∀ m : List ByteArray, flat ny m = m.map Value.string := λm => by
    induction m with
    |nil => rfl
    |cons a m ih => simp only[flat, List.map_cons, List.flatten_cons]at ih ⊢; rw[ih]; rfl
  rw[h2]
  unfold jd
  rw[List.take_of_length_le (by omega)]
  simp
theorem yg (l : List ae) (i : Nat) (hi : i <= l.length) : (jd l i).size = l.length := by
  unfold jd
  simp[ae.dB]
  omega
theorem QA (l : List ae) (i : Nat) (hi : i < l.length) : (jd l i).setIfInBounds i (.string l[i].t.name) = jd l (i + 1) := by
  have ht : ((ae.ts l).map Tree.name).length = l.length := by simp[ae.dB]
  apply Array.ext
  · rw[Array.size_setIfInBounds, yg l i (by omega), yg l (i + 1) (by omega)]
  · intro j h1 h2
    rw[Array.size_setIfInBounds, yg l i (by omega)]at h1
    rw[Array.getElem_setIfInBounds (by rw[yg l i (by omega)]; exact h1)]
    by_cases hij : i = j
    · subst hij
      rw[if_pos rfl]
      simp only[jd]
      rw[Array.getElem_append_left (by simp[ae.dB]; omega)]
      simp[ae.oG l i hi]
    · rw[if_neg hij]
      simp only[jd]
      by_cases hlt : j < i
      · rw[Array.getElem_append_left (by simp[ae.dB]; omega), Array.getElem_append_left (by simp[ae.dB]; omega)]
        simp
      · rw[Array.getElem_append_right (by simp[ae.dB]; omega), Array.getElem_append_right (by simp[ae.dB]; omega)]
        simp
end Go.Proofs.YtbpodipdfohikaaGreat
