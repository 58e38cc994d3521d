import Derived.Test.YtbpodipdfohikaaGreatL30
set_option linter.unusedSimpArgs false
set_option linter.unusedVariables false
set_option maxRecDepth 100000
set_option maxHeartbeats 25600000
namespace Go.Proofs.YtbpodipdfohikaaGreat
open Go.RowKit Go.Instr
theorem GA {s : ah} {t : Tree} {H : Int -> Option (Except Int ah)} {res : Except Int ah} (h : aI (s.value t) H = some res) : ∃ rv, s.value t = some rv /\ (∀ e, rv = .error e -> res = .error e) /\ ((∃ v, rv = .ok v) -> H (valOf rv) = some res) := by
  cases hv : s.value t with
  |none => rw[hv]at h; cases h
  |some rv =>
    rw[hv]at h
    refine⟨rv, rfl, λe he => ?_, λ⟨v, he⟩ => ?_⟩
    · subst he; exact(Option.some.inj h).symm
    · subst he; exact h
theorem mF {o : Except Int ah} {H : ah -> Option (Except Int ah)} {res : Except Int ah} (h : aI (some o) H = some res) : (∀ e, o = .error e -> res = .error e) /\ ∀ s, o = .ok s -> H s = some res := by
  cases o with
  |error e => exact⟨λe' he => (Option.some.inj h).symm.trans (by cases he; rfl), λs he => (nomatch he)⟩
  |ok s => exact⟨λe he => (nomatch he), λs' he => (by cases he; exact h)⟩
theorem Q5 {k nn : Int} {ns : ByteArray} {nl : List ae} (hk : k = 54) (h : aX (.mk k nn ns (ae.ts nl)) = true) : ∃ f bd z, nl = [f, bd, z] := by
  subst hk
  rw[aX]at h
  match nl with
  | [] => simp[ae.ts, bz]at h
  | [_] => simp[ae.ts, bz]at h
  | [_, _] => simp[ae.ts, bz]at h
  | [f, bd, z] => exact⟨f, bd, z, rfl⟩
  |_ :: _ :: _ :: _ :: _ => simp[ae.ts, bz]at h
theorem nO {P : List bA} {fuel g : Nat} {t : Tree} {b : Bool} {s : ah} {res : Except Int ah} (h : exec P fuel g (.stmt t) b s = some res) : aX t = true := by
  cases g with
  |zero => cases h
  |succ g =>
    rw[exec]at h
    by_cases e : aX t = false
    · rw[if_pos e]at h; cases h
    · simpa using e
theorem RS {P : List bA} {fuel g : Nat} {nn : Int} {ns : ByteArray} {f bd z : Tree} {b : Bool} {s : ah} {res : Except Int ah} (h : exec P fuel g (.stmt (.mk 54 nn ns [f, bd, z])) b s = some res) : ∃ g', g = g' + 1 /\
    aI (some (s.step fuel)) (λs => aI (s.value (if b then z else f)) λv => aI (some (s.open ns 1 v)) λs => aI (exec P fuel g' (.stmts (turned b bd.kids)) b s) λs => aI (some (s.step fuel)) λs => aI (s.value (if b then f else z)) λv => s.close ns v) = some res := by
  cases g with
  |zero => cases h
  |succ g =>
    refine⟨g, rfl, ?_⟩
    have he := nO h
    rw[exec, if_neg (by rw[he]; decide), if_neg (show ¬ Tree.kind (.mk 54 nn ns [f, bd, z]) = 53 from by show ¬ (54 : Int) = 53; decide), if_pos (show Tree.kind (.mk 54 nn ns [f, bd, z]) = 54 from rfl)]at h
    cases b <;> exact h
theorem DJ {w0 : World} {p : az} {fuel k : Nat} {w : World} {x : aK} {s s1 : ah} (h : aG w0 p fuel k w x s) (hs : s.step fuel = .ok s1) : Slk k s1 := by
  unfold ah.step at hs
  split at hs
  · cases hs
  · cases hs
    have hb := h.bd
    have hf : s.cur ∈ s.frames := by obtain⟨h1, h2⟩ := wE s; rw[← h2]; exact List.getElem_mem h1
    have h2 := hb.2.1 _ hf
    refine⟨by have := hb.1; show s.cells.length + 1 <= k + (s.steps + 1); omega, ?_, ?_⟩
    · show s.cur.vars.length + 1 <= k + (s.steps + 1); omega
    · show s.cur.locals + 1 <= k + (s.steps + 1); omega
set_option maxRecDepth 100000 in
set_option maxHeartbeats 12800000 in
theorem Qx {w0 : World} {p : az} {fuel k g : Nat} (IH : ∀ g', g' < g -> rH w0 p fuel k g') (w : World) (x : aK) (s : ah) (res : Except Int ah) (nk nn : Int) (ns : ByteArray) (nv : Value) (nl : List ae) (b : Bool) (hk : nk = 54) (h : aG w0 p fuel k w x s) (hno : aS (λ_ => True) w0 (.mk nk nn ns nv nl)) (hex : exec (p.procs.map aO.d) fuel g (.stmt (ae.t (.mk nk nn ns nv nl))) b s = some res) :
    Calls Tryz.prog 117 #[.pointer (some ⟨x.R, 0, none⟩), ae.val (.mk nk nn ns nv nl), .bool b] w (bZ w0 p fuel k x w res) := by
  subst hk
  obtain⟨x1, hr1, ho, h1⟩ := h.fresh
  rw[show x.R = x1.R from hr1.R.symm]
  refine Calls.mono ?_ (λe w' (hq : bZ w0 p fuel k x1 w res e w') => hq.of hr1)
  clear hr1 h
  revert h1 ho
  generalize x1 = x
  intro ho h
  have hsh := nO hex
  rw[ae.t]at hsh
  obtain⟨nf, vN, nz, rfl⟩ := Q5 rfl hsh
  rw[ae.t, ae.ts, ae.ts, ae.ts, ae.ts]at hex
  obtain⟨g', rfl, oK⟩ := RS hex
  clear hsh hex
  revert oK
  intro hex
  have kM := hno.kids nf (by simp)
  have hkb := hno.kids vN (by simp)
  have hkz := hno.kids nz (by simp)
  have uK := Lib.hid (λz (hz : Grow w0 z) => (IQ z (.mk 54 nn ns nv [nf, vN, nz]) 54 nn ns nv [nf, vN, nz] rfl (hno.at.later hz) (by simp) b).mono (R' := λe w' => e = .returned (.tuple #[(if b then nz else nf).val, (if b then nf else nz).val]) /\ Grow z w') (λe w' hq => by
    obtain⟨a, c, ⟨e1, e2⟩, rfl, hg⟩ := hq
    simp only[List.getElem?_cons_zero, List.length_cons, List.length_nil, Option.some.injEq]at e1 e2
    simp only[Nat.zero_add, Nat.reduceAdd, Nat.add_one_sub_one, List.getElem?_cons_succ, List.getElem?_cons_zero, Option.some.injEq]at e2
    subst e1 e2
    exact⟨rfl, hg⟩))
  obtain⟨nA, hA⟩ : ∃ n : ae, n = if b then nz else nf := ⟨_, rfl⟩
  obtain⟨nZ, hZ⟩ : ∃ n : ae, n = if b then nf else nz := ⟨_, rfl⟩
  have tq : aS (λ_ => True) w0 nA := by rw[hA]; cases b <;> assumption
  have vO : aS (λ_ => True) w0 nZ := by rw[hZ]; cases b <;> assumption
  have tA : (if b then nz.t else nf.t) = nA.t := by rw[hA]; cases b <;> rfl
  have tZ : (if b then nf.t else nz.t) = nZ.t := by rw[hZ]; cases b <;> rfl
  rw[← hA, ← hZ]at uK
  rw[tA, tZ]at hex
  have hrow := hno.at.row.2.2.2.1
  obtain⟨na, nc, rfl, -, -⟩ := hno.at.form
  obtain⟨kb, ko, mY, Ad, _, hcc⟩ := hrow.at (i := 1) (by simp)
  simp only[Value.slice.injEq, true_and]at Ad
  obtain⟨rfl, rfl⟩ := Ad
  obtain⟨bk, bn, bs, bv, bl⟩ := vN
  obtain⟨ba, bc, rfl, -, -⟩ := hkb.at.form
  have d0 := hcc 0 (.int .u8 bk) (by rfl)
  have d1 := hcc 1 (.int .i64 bn) (by rfl)
  have d2 := hcc 2 (.string bs) (by rfl)
  have d3 := hcc 3 (.slice ba bl.length bc) (by rfl)
  simp only[Nat.add_zero, Nat.one_mul]at d0 d1 d2 d3
  have pG := Lib.hid (λz (hz : Grow w0 z) => And.intro (And.intro (bW d0 hz) (bW d1 hz)) (And.intro (bW d2 hz) (bW d3 hz)))
  clear hcc
  generalize hnl : [nf, ae.mk bk bn bs (.slice ba bl.length bc) bl, nz] = nl at *
  have WI := Lib.hid (show nl.length = 3 from by rw[← hnl]; rfl)
  have hnt : (ae.mk bk bn bs (.slice ba bl.length bc) bl).t.kids = ae.ts bl := by rw[ae.t]; rfl
  obtain⟨ak, an, mq, av, al⟩ := nA
  obtain⟨aa, ac, rfl, -, -⟩ := tq.at.form
  obtain⟨zk, zn, zs, zv, zl⟩ := nZ
  obtain⟨za, zc, rfl, -, -⟩ := vO.at.form
  have kX := Lib.hid (λz x' s' jO (hz : aG w0 p fuel k z x' s') (he : exec (p.procs.map aO.d) fuel g' (.stmts (turned b (ae.t (.mk bk bn bs (.slice ba bl.length bc) bl)).kids)) b s' = some jO) => IH g' (by omega) z x' s' jO (.mk bk bn bs (.slice ba bl.length bc) bl) b hz hkb he)
  have FW := Lib.hid tq
  have FX := Lib.hid vO
  have iI := Lib.hid h.g
  have aj := Lib.hid (show Grow w (w.alloc (.cells #[.int .u8 54, .int .i64 nn, .string ns, .slice (some ⟨kb, ko, none⟩) nl.length nc] 40))from(Mv.refl _ w).alloc _)
  have aY := Lib.hid (heap_alloc_new w (.cells #[.int .u8 54, .int .i64 nn, .string ns, .slice (some ⟨kb, ko, none⟩) nl.length nc] 40))
  have HS := Lib.hid h
  have gu := Lib.hid hex
  have vT := Lib.hid (λz (hz : Grow w z) => uK.out z (gtr iI.out hz))
  clear hno hex h ho kM hkb hkz hA hZ tA tZ tq vO hrow d0 d1 d2 d3 IH uK hnl hnt
  simp only[ae.val]at vT kX ⊢
  go_enter Tryz.func117, Tryz.ntmps117
  go_upto_region 1 with fail
  generalize (w.alloc (.cells #[.int .u8 54, .int .i64 nn, .string ns, .slice (some ⟨kb, ko, none⟩) nl.length nc] 40)) = w1 at *
  have HK := Lib.hid (λ(y : World) (hy : Grow w1 y) => ai aY.out hy)
  refine zA 50 [some 9, some 10, some 11, some 8, some 12, some 13, some 6, some 7, none, none] [[], [], [0, 1], [2], [3], [3], [], [], [6, 4], [7, 5]] [] [.c (.agg #[.int .u8 54, .int .i64 nn, .string ns, .slice (some ⟨kb, ko, none⟩) nl.length nc]), .c (.bool b), .c (.tuple #[.agg #[.int .u8 ak, .int .i64 an, .string mq, .slice aa al.length ac], .agg #[.int .u8 zk, .int .i64 zn, .string zs, .slice za zl.length zc]]), .c (.tuple #[.agg #[.int .u8 ak, .int .i64 an, .string mq, .slice aa al.length ac], .agg #[.int .u8 zk, .int .i64 zn, .string zs, .slice za zl.length zc]]), .c (.agg #[.int .u8 ak, .int .i64 an, .string mq, .slice aa al.length ac]), .c (.agg #[.int .u8 zk, .int .i64 zn, .string zs, .slice za zl.length zc]), .al 8 4 #[.int .u8 0, .int .i64 0, .string ⟨#[]⟩, .slice none 0 0] 40, .al 9 5 #[.int .u8 0, .int .i64 0, .string ⟨#[]⟩, .slice none 0 0] 40, .st 6, .st 7] trivial (dJ rfl) ?steps ?done
  case steps =>
    refine⟨?s0, ?s1, ?s2, ?s3, ?s4, ?s5, ?s6, ?s7, ?s8, ?s9, trivial⟩
    case s0 =>
      refine ok0 HK (λvs x hG HX hP => ?_)
      obtain⟨⟨n0, n1⟩, n2, n3⟩ := aJ HX.out
      have hbl := lt_of_block HX.out
      simp only[zS]
      go_simp
      exact gc
    case s1 =>
      refine oo (λvs x hP => ?_)
      simp only[zS]
      go_simp
      exact gc
    case s2 =>
      refine ok0 HK (λvs x hG HX hP => ?_)
      simp only[zS]
      go_simp
      refine(vT.out x (gtr aj.out hG)).mono ?_
      rintro e y ⟨rfl, hg⟩
      exact⟨_, rfl, gm hg rfl⟩
    case s3 =>
      refine oo (λvs x hP => ?_)
      simp only[zS]
      go_simp
      exact gc
    case s4 =>
      refine oo (λvs x hP => ?_)
      simp only[zS]
      go_simp
      exact gc
    case s5 =>
      refine oo (λvs x hP => ?_)
      simp only[zS]
      go_simp
      exact gc
    case s6 =>
      refine oz (λvs x => ?_)
      simp only[zS]
      go_simp
      exact⟨rfl, rfl⟩
    case s7 =>
      refine oz (λvs x => ?_)
      simp only[zS]
      go_simp
      exact⟨rfl, rfl⟩
    case s8 =>
      refine os (λvs x g hg hb hv => ?_)
      have h4 : vs 4 = .agg #[.int .u8 ak, .int .i64 an, .string mq, .slice aa al.length ac] := hv
      obtain⟨c0, c1, c2, c3⟩ := fA hb
      have zt := bD hb
      simp only[zS, hg, h4]
      go_simp
      exact⟨(dW hb _ _ _ _).1, (dW hb _ _ _ _).2⟩
    case s9 =>
      refine os (λvs x g hg hb hv => ?_)
      have h5 : vs 5 = .agg #[.int .u8 zk, .int .i64 zn, .string zs, .slice za zl.length zc] := hv
      obtain⟨c0, c1, c2, c3⟩ := fA hb
      have zt := bD hb
      simp only[zS, hg, h5]
      go_simp
      exact⟨(dW hb _ _ _ _).1, (dW hb _ _ _ _).2⟩
  case done =>
  intro vs w3 hE
  have hG := hE.wS
  obtain⟨g6, a6, l6, m6, b6⟩ := hE.box 6
  obtain⟨g7, a7, l7, m7, b7⟩ := hE.box 7
  simp only[zS, Nat.reduceAdd, a6, a7]
  have aT := Lib.hid (gtr aj.out hG)
  have qN := Lib.hid b6
  have HZ3 := Lib.hid b7
  have HB3 := Lib.hid (ai aY.out hG)
  clear hE hG b6 b7 l6 l7 m6 m7 HK
  simp only[fT, zS]at qN HZ3
  have mo := Lib.hid (HS.out.later aT.out)
  have cK := Lib.hid (rf w0 p fuel k w3 x s mo.out)
  obtain⟨hbad, hok⟩ := mF gu.out
  clear vT aj aY HS gu
  go_wp2_with fail
  refine cK.out.mono ?_
  clear cK
  intro e w4 hq
  cases hs1 : s.step fuel with
  |error n =>
    rw[hs1]at hq
    have hre := hbad n hs1
    obtain⟨⟨rfl, hn0⟩, hg⟩ := hq
    refine⟨rfl, ?_⟩
    rw[hre]
    exact⟨⟨rfl, hn0⟩, (by first|exact hg|exact .of (ax.grow aj.out) hg|exact .of (ax.grow HG2.out) hg|exact .of (ax.grow aA.out) hg|exact .of (ax.grow bB.out) hg|exact .of (ax.grow bI.out) hg|exact .of (ax.grow aT.out) hg|exact .of gH.out hg|exact .of dO.out hg|exact .of cz.out hg|exact .of bO.out hg|exact .of dZ.out hg|exact .of HR4.out hg|exact .of HR3.out hg|exact .of HR2.out hg|exact .of HR1.out hg|exact .of HR.out hg|exact .of ((ax.grow aj.out).trans HR.out) hg)⟩
  |ok s1 =>
  rw[hs1]at hq
  have hnext := hok s1 hs1
  obtain⟨rfl, x4, hr4, jP⟩ := hq
  have kS := Lib.hid (DJ mo.out hs1)
  have bU := Lib.hid (And.intro hr4.R hr4.S)
  have HR4 := Lib.hid ((ax.grow aT.out).trans hr4)
  have gF := Lib.hid jP
  have qO := Lib.hid (hr4.n _ _ _ qN.out)
  have uU := Lib.hid (hr4.n _ _ _ HZ3.out)
  have dE := Lib.hid (hr4.n _ _ _ HB3.out)
  obtain⟨rv, hv, yY, zi⟩ := GA hnext
  have HV := Lib.hid hv
  have Cu := Lib.hid yY
  have Ae := Lib.hid zi
  clear aT hbad hok hr4 jP hnext qN HZ3 HB3 mo hv yY zi hs1
  go_upto_region 3 with fail
  have mg := Lib.hid (λy hM => Gz (w0 := w0) (p := p) (fuel := fuel) (k := k) (xx := x4) (wA := w4) (s1 := s1) (vok := ∃ v, rv = .ok v) (r2 := s1.open ns 1 (valOf rv)) (res := res) FW.out HV.out (λv h => ⟨v, h⟩) Cu.out y hM)
  have gq := Lib.hid (λy hM => uj (w0 := w0) (X := ErrX w0 x4 w4 res) (vok := ∃ v, rv = .ok v) (p := p) (fuel := fuel) (k := k) (xx := x4) (wA := w4) (s1 := s1) (m := 1) (r2 := s1.open ns 1 (valOf rv)) y hM (λx' hr hst _ => by
    have := IK w0 p fuel k y x' s1 ns 1 (valOf rv) hst (.inl rfl) kS.out
    rw[hr.S, bU.out.2]at this
    exact this))
  have gU := Lib.hid (λy hM => wu (w0 := w0) (p := p) (fuel := fuel) (k := k) (xx := x4) (wA := w4) (s1 := s1) (vok := ∃ v, rv = .ok v) (r2 := s1.open ns 1 (valOf rv)) (res := res) (m := 1) (λe hv he => (mF (Ae.out (hv (by omega)))).1 e he) (.pointer (some ⟨x.R, 0, none⟩)) y hM)
  rw[bU.out.1]at mg
  refine wy (ErrX w0 x4 w4 res) 50 [some 16, some 17, some 18, some 19, some 20, some 21, some 22, some 23, some 24, some 25, some 26, some 27, some 28] [[], [], [1], [2], [3], [], [5], [6], [], [], [8, 9], [4, 7, 10], [0, 11]] [some (.pointer (some ⟨x.R, 0, none⟩)), some (.pointer (some ⟨x.R, 0, none⟩)), some (.pointer (some ⟨x.R, 0, none⟩)), some (.pointer (some ⟨x.R, 6, none⟩)), some (.pointer (some ⟨x.S, 0, none⟩)), some (.pointer (some ⟨w.heap.size, 2, none⟩)), some (.string ns), some (.agg #[.string ns, .int .u8 1, .int .i64 0]), some (.pointer (some ⟨x.R, 0, none⟩)), some (.agg #[.int .u8 ak, .int .i64 an, .string mq, .slice aa al.length ac]), some (.int .i64 (valOf rv)), some (.int .i64 (jf (s1.open ns 1 (valOf rv)))), some (.tuple #[])] [10, 11, 12] (dK w0 p fuel k x4 w4 s1 (∃ v, rv = .ok v) (s1.open ns 1 (valOf rv)) 1) (dK.zero gF.out) ⟨?s0, ?s1, ?s2, ?s3, ?s4, ?s5, ?s6, ?s7, ?s8, ?s9, ?s10, ?s11, ?s12, trivial⟩ ?fin (λch w9 a9 kY kZ => And.intro kY (kZ.run HR4.out))
  case s0 =>
    refine yc (λy => ?_)
    simp only[zS, cv, List.getD_cons_zero, List.getD_cons_succ, Option.getD_some]
    go_simp
    exact⟨rfl, rfl⟩
  case s1 =>
    refine yc (λy => ?_)
    simp only[zS, cv, List.getD_cons_zero, List.getD_cons_succ, Option.getD_some]
    go_simp
    exact⟨rfl, rfl⟩
  case s2 =>
    refine yc (λy => ?_)
    simp only[zS, cv, List.getD_cons_zero, List.getD_cons_succ, Option.getD_some]
    go_simp
    exact⟨rfl, rfl⟩
  case s3 =>
    refine yc (λy => ?_)
    simp only[zS, cv, List.getD_cons_zero, List.getD_cons_succ, Option.getD_some]
    go_simp
    exact⟨rfl, rfl⟩
  case s4 =>
    refine yl 1 (λt y ht hM => ?_)
    obtain⟨x9, bg, bG⟩ := hM.read ht
    have c6 := bG.cells.1.1
    rw[(bg.R.trans bU.out.1), (bg.S.trans bU.out.2)]at c6
    have hrl := lt_of_block bG.run
    rw[(bg.R.trans bU.out.1)]at hrl
    clear hM bg bG
    simp only[zS, cv, List.getD_cons_zero, List.getD_cons_succ, Option.getD_some]
    go_simp
    exact⟨rfl, rfl⟩
  case s5 =>
    refine yc (λy => ?_)
    simp only[zS, cv, List.getD_cons_zero, List.getD_cons_succ, Option.getD_some]
    go_simp
    exact⟨rfl, rfl⟩
  case s6 =>
    refine yl 1 (λt y ht hM => ?_)
    obtain⟨x9, bg, bG⟩ := hM.read ht
    obtain⟨⟨n0, n1⟩, n2, n3⟩ := aJ (bg.n _ _ _ dE.out)
    have hbl := lt_of_block (bg.n _ _ _ dE.out)
    clear hM bg bG
    simp only[zS, cv, List.getD_cons_zero, List.getD_cons_succ, Option.getD_some]
    go_simp
    exact⟨rfl, rfl⟩
  case s7 =>
    refine yc (λy => ?_)
    simp only[zS, cv, List.getD_cons_zero, List.getD_cons_succ, Option.getD_some]
    go_simp
    exact⟨rfl, rfl⟩
  case s8 =>
    refine yc (λy => ?_)
    simp only[zS, cv, List.getD_cons_zero, List.getD_cons_succ, Option.getD_some]
    go_simp
    exact⟨rfl, rfl⟩
  case s9 =>
    refine yl 1 (λt y ht hM => ?_)
    obtain⟨x9, bg, bG⟩ := hM.read ht
    obtain⟨⟨n0, n1⟩, n2, n3⟩ := aJ (bg.n _ _ _ qO.out)
    have hbl := lt_of_block (bg.n _ _ _ qO.out)
    clear hM bg bG
    simp only[zS, cv, List.getD_cons_zero, List.getD_cons_succ, Option.getD_some]
    go_simp
    exact⟨rfl, rfl⟩
  case s10 =>
    refine yw 0 (λy hM => ?_)
    have HC := Lib.hid (mg.out y hM)
    clear hM
    unfold dQ
    simp only[zS, cv, List.getD_cons_zero, List.getD_cons_succ, Option.getD_some]
    go_simp
    exact gy.jq HC.out
  case s11 =>
    refine yw 1 (λy hM => ?_)
    have HC := Lib.hid (gq.out y hM)
    clear hM
    unfold dQ
    simp only[zS, cv, List.getD_cons_zero, List.getD_cons_succ, Option.getD_some]
    go_simp
    exact gy.jq HC.out
  case s12 =>
    refine yw 2 (λy hM => ?_)
    have HC := Lib.hid (gU.out y hM)
    clear hM
    unfold dQ
    simp only[zS, cv, List.getD_cons_zero, List.getD_cons_succ, Option.getD_some]
    go_simp
    exact gy.jq HC.out
  case fin =>
  intro wf hM
  have HM := Lib.hid hM.fin
  clear hM
  simp only[zS, Nat.reduceAdd, cv, List.getD_cons_zero, List.getD_cons_succ, Option.getD_some]
  obtain⟨hvk, s2, hs2, x5, eP, dC⟩ := HM.out
  have hnx := (mF (Ae.out (hvk (by decide)))).2 s2 hs2
  have eT := Lib.hid (And.intro (eP.R.trans bU.out.1) (eP.S.trans bU.out.2))
  have dZ := Lib.hid (HR4.out.trans eP)
  have eZ := Lib.hid dC
  have zF := Lib.hid (eP.n _ _ _ uU.out)
  have iW := Lib.hid (eP.n _ _ _ dE.out)
  have HE := Lib.hid (wJ hnx)
  have tu := Lib.hid (pG.out wf dC.g)
  clear hvk hs2 eP dC hnx HM mg gq gU bU HR4 gF qO uU dE HV Cu Ae kS
  obtain⟨⟨n0, n1⟩, n2, n3⟩ := aJ iW.out
  have hbl := lt_of_block iW.out
  obtain⟨⟨d0, d1⟩, d2, d3⟩ := tu.out
  have hkl := World.block_lt_of_cell? wf _ d0
  simp only at hkl
  have hbd : (1 : Int) < (nl.length : Nat) := by have := WI.out; omega
  rcases HE.out with⟨e, hx, hre⟩|⟨s3, hx, hrest⟩
  · have HST := Lib.hid (kX.out wf x5 s2 _ eZ.out hx)
    rw[eT.out.1]at HST
    have dx := Lib.hid hre
    clear hx hre HE
    go_wp2_with fail
    refine HST.out.mono ?_
    rintro e2 w6 ⟨⟨rfl, hn0⟩, hg⟩
    refine⟨rfl, ?_⟩
    rw[dx.out]
    exact⟨⟨rfl, hn0⟩, (by first|exact hg|exact .of (ax.grow aj.out) hg|exact .of (ax.grow HG2.out) hg|exact .of (ax.grow aA.out) hg|exact .of (ax.grow bB.out) hg|exact .of (ax.grow bI.out) hg|exact .of (ax.grow aT.out) hg|exact .of gH.out hg|exact .of dO.out hg|exact .of cz.out hg|exact .of bO.out hg|exact .of dZ.out hg|exact .of HR4.out hg|exact .of HR3.out hg|exact .of HR2.out hg|exact .of HR1.out hg|exact .of HR.out hg|exact .of ((ax.grow aj.out).trans HR.out) hg)⟩
  have HST := Lib.hid (kX.out wf x5 s2 _ eZ.out hx)
  rw[eT.out.1]at HST
  obtain⟨hbad, hok⟩ := mF hrest
  have HBAD := Lib.hid hbad
  have bF := Lib.hid hok
  clear hx hrest hbad hok HE
  go_wp2_with fail
  refine HST.out.mono ?_
  rintro e2 w6 ⟨rfl, x6, dY, jQ⟩
  have cK := Lib.hid (rf w0 p fuel k w6 x6 s3 jQ)
  rw[dY.R, eT.out.1]at cK
  have gG := Lib.hid (And.intro (dY.R.trans eT.out.1) (dY.S.trans eT.out.2))
  have bO := Lib.hid (dZ.out.trans dY)
  have kg := Lib.hid jQ
  have oZ := Lib.hid (dY.n _ _ _ zF.out)
  have mf := Lib.hid (dY.n _ _ _ iW.out)
  clear dY jQ HST n0 n1 n2 n3 hbl d0 d1 d2 d3 hkl hbd eT dZ eZ zF iW tu
  go_wp2_with fail
  refine cK.out.mono ?_
  clear cK
  intro e w7 hq
  cases hs1 : s3.step fuel with
  |error n =>
    rw[hs1]at hq
    have hre := HBAD.out n hs1
    obtain⟨⟨rfl, hn0⟩, hg⟩ := hq
    refine⟨rfl, ?_⟩
    rw[hre]
    exact⟨⟨rfl, hn0⟩, (by first|exact hg|exact .of (ax.grow aj.out) hg|exact .of (ax.grow HG2.out) hg|exact .of (ax.grow aA.out) hg|exact .of (ax.grow bB.out) hg|exact .of (ax.grow bI.out) hg|exact .of (ax.grow aT.out) hg|exact .of gH.out hg|exact .of dO.out hg|exact .of cz.out hg|exact .of bO.out hg|exact .of dZ.out hg|exact .of HR4.out hg|exact .of HR3.out hg|exact .of HR2.out hg|exact .of HR1.out hg|exact .of HR.out hg|exact .of ((ax.grow aj.out).trans HR.out) hg)⟩
  |ok s4 =>
  rw[hs1]at hq
  have hnext := bF.out s4 hs1
  obtain⟨rfl, x7, eG, jR⟩ := hq
  have gI := Lib.hid (And.intro (eG.R.trans gG.out.1) (eG.S.trans gG.out.2))
  have cz := Lib.hid (bO.out.trans eG)
  have vU := Lib.hid jR
  have NL := Lib.hid (eG.n _ _ _ oZ.out)
  have qP := Lib.hid (eG.n _ _ _ mf.out)
  obtain⟨xR, hv2, yY, zi⟩ := GA hnext
  have HV := Lib.hid hv2
  have Cu := Lib.hid yY
  have Ae := Lib.hid zi
  clear HBAD bF eG jR hnext oZ mf bO kg gG hv2 yY zi hs1
  go_upto_region 6 with fail
  have KI := Lib.hid (λy hM => Gz (w0 := w0) (p := p) (fuel := fuel) (k := k) (xx := x7) (wA := w7) (s1 := s4) (vok := ∃ v, xR = .ok v) (r2 := res) (res := res) FX.out HV.out (λv h => ⟨v, h⟩) Cu.out y hM)
  have UI := Lib.hid (λy hM => uj (w0 := w0) (X := ErrX w0 x7 w7 res) (vok := ∃ v, xR = .ok v) (p := p) (fuel := fuel) (k := k) (xx := x7) (wA := w7) (s1 := s4) (m := 1) (r2 := res) y hM (λx' hr hst hvk => by
    have := Ic w0 p fuel k y x' s4 ns (valOf xR) res hst (Ae.out (hvk (by decide)))
    rw[hr.S, gI.out.2]at this
    exact this))
  have UJ := Lib.hid (λy hM => wu (w0 := w0) (p := p) (fuel := fuel) (k := k) (xx := x7) (wA := w7) (s1 := s4) (vok := ∃ v, xR = .ok v) (r2 := res) (res := res) (m := 1) (λe _ he => he) (.pointer (some ⟨x.R, 0, none⟩)) y hM)
  rw[gI.out.1]at KI
  refine wy (ErrX w0 x7 w7 res) 50 [some 38, some 39, some 40, some 41, some 42, some 43, some 44, some 45, some 46, some 47, some 48, some 49] [[], [], [1], [2], [3], [], [5], [], [], [7, 8], [4, 6, 9], [0, 10]] [some (.pointer (some ⟨x.R, 0, none⟩)), some (.pointer (some ⟨x.R, 0, none⟩)), some (.pointer (some ⟨x.R, 0, none⟩)), some (.pointer (some ⟨x.R, 6, none⟩)), some (.pointer (some ⟨x.S, 0, none⟩)), some (.pointer (some ⟨w.heap.size, 2, none⟩)), some (.string ns), some (.pointer (some ⟨x.R, 0, none⟩)), some (.agg #[.int .u8 zk, .int .i64 zn, .string zs, .slice za zl.length zc]), some (.int .i64 (valOf xR)), some (.int .i64 (jf res)), some (.tuple #[])] [9, 10, 11] (dK w0 p fuel k x7 w7 s4 (∃ v, xR = .ok v) res 1) (dK.zero vU.out) ⟨?s0, ?s1, ?s2, ?s3, ?s4, ?s5, ?s6, ?s7, ?s8, ?s9, ?s10, ?s11, trivial⟩ ?fin (λch w9 a9 kY kZ => And.intro kY (kZ.run cz.out))
  case s0 =>
    refine yc (λy => ?_)
    simp only[zS, cv, List.getD_cons_zero, List.getD_cons_succ, Option.getD_some]
    go_simp
    exact⟨rfl, rfl⟩
  case s1 =>
    refine yc (λy => ?_)
    simp only[zS, cv, List.getD_cons_zero, List.getD_cons_succ, Option.getD_some]
    go_simp
    exact⟨rfl, rfl⟩
  case s2 =>
    refine yc (λy => ?_)
    simp only[zS, cv, List.getD_cons_zero, List.getD_cons_succ, Option.getD_some]
    go_simp
    exact⟨rfl, rfl⟩
  case s3 =>
    refine yc (λy => ?_)
    simp only[zS, cv, List.getD_cons_zero, List.getD_cons_succ, Option.getD_some]
    go_simp
    exact⟨rfl, rfl⟩
  case s4 =>
    refine yl 1 (λt y ht hM => ?_)
    obtain⟨x9, bg, bG⟩ := hM.read ht
    have c6 := bG.cells.1.1
    rw[(bg.R.trans gI.out.1), (bg.S.trans gI.out.2)]at c6
    have hrl := lt_of_block bG.run
    rw[(bg.R.trans gI.out.1)]at hrl
    clear hM bg bG
    simp only[zS, cv, List.getD_cons_zero, List.getD_cons_succ, Option.getD_some]
    go_simp
    exact⟨rfl, rfl⟩
  case s5 =>
    refine yc (λy => ?_)
    simp only[zS, cv, List.getD_cons_zero, List.getD_cons_succ, Option.getD_some]
    go_simp
    exact⟨rfl, rfl⟩
  case s6 =>
    refine yl 1 (λt y ht hM => ?_)
    obtain⟨x9, bg, bG⟩ := hM.read ht
    obtain⟨⟨n0, n1⟩, n2, n3⟩ := aJ (bg.n _ _ _ qP.out)
    have hbl := lt_of_block (bg.n _ _ _ qP.out)
    clear hM bg bG
    simp only[zS, cv, List.getD_cons_zero, List.getD_cons_succ, Option.getD_some]
    go_simp
    exact⟨rfl, rfl⟩
  case s7 =>
    refine yc (λy => ?_)
    simp only[zS, cv, List.getD_cons_zero, List.getD_cons_succ, Option.getD_some]
    go_simp
    exact⟨rfl, rfl⟩
  case s8 =>
    refine yl 1 (λt y ht hM => ?_)
    obtain⟨x9, bg, bG⟩ := hM.read ht
    obtain⟨⟨n0, n1⟩, n2, n3⟩ := aJ (bg.n _ _ _ NL.out)
    have hbl := lt_of_block (bg.n _ _ _ NL.out)
    clear hM bg bG
    simp only[zS, cv, List.getD_cons_zero, List.getD_cons_succ, Option.getD_some]
    go_simp
    exact⟨rfl, rfl⟩
  case s9 =>
    refine yw 0 (λy hM => ?_)
    have HC := Lib.hid (KI.out y hM)
    clear hM
    unfold dQ
    simp only[zS, cv, List.getD_cons_zero, List.getD_cons_succ, Option.getD_some]
    go_simp
    exact gy.jq HC.out
  case s10 =>
    refine yw 1 (λy hM => ?_)
    have HC := Lib.hid (UI.out y hM)
    clear hM
    unfold dQ
    simp only[zS, cv, List.getD_cons_zero, List.getD_cons_succ, Option.getD_some]
    go_simp
    exact gy.jq HC.out
  case s11 =>
    refine yw 2 (λy hM => ?_)
    have HC := Lib.hid (UJ.out y hM)
    clear hM
    unfold dQ
    simp only[zS, cv, List.getD_cons_zero, List.getD_cons_succ, Option.getD_some]
    go_simp
    exact gy.jq HC.out
  case fin =>
  intro wf hM
  have HM := Lib.hid hM.fin
  clear hM
  simp only[zS, Nat.reduceAdd, cv, List.getD_cons_zero, List.getD_cons_succ, Option.getD_some]
  have HQ := Lib.hid (show bZ w0 p fuel k x w res (.returned (.tuple #[])) wf from by
    obtain⟨s9, FY, x9, bg, bG⟩ := HM.out.2
    rw[FY]
    exact⟨rfl, x9, cz.out.trans bg, bG⟩)
  go_wp2_with fail
  go_end0
  exact HQ.out
end Go.Proofs.YtbpodipdfohikaaGreat
