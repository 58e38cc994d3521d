import Derived.Test.YtbpodipdfohikaaGreatK30
set_option linter.unusedSimpArgs false
set_option linter.unusedVariables false
set_option maxRecDepth 100000
set_option maxHeartbeats 25600000
namespace Go.Proofs.YtbpodipdfohikaaGreat
open Go.RowKit Go.Instr
theorem Gq {s : ah} {t : Tree} {H : Int -> Option (Except Int ah)} {res : Except Int ah} (h : aH (s.value t) H = some res) : ∃ rv, s.value t = some rv /\ (∀ e, rv = .error e -> res = .error e) /\ ((∃ v, rv = .ok v) -> H (valOf rv) = some res) := by
  cases hv : s.value t with
  |none => rw[hv]at h; cases h
  |some rv =>
    rw[hv]at h
    refine⟨rv, rfl, λe he => ?_, λ⟨v, he⟩ => ?_⟩
    · subst he; exact(Option.some.inj h).symm
    · subst he; exact h
theorem mH {o : Except Int ah} {H : ah -> Option (Except Int ah)} {res : Except Int ah} (h : aH (some o) H = some res) : (∀ e, o = .error e -> res = .error e) /\ ∀ s, o = .ok s -> H s = some res := by
  cases o with
  |error e => exact⟨λe' he => (Option.some.inj h).symm.trans (by cases he; rfl), λs he => (nomatch he)⟩
  |ok s => exact⟨λe he => (nomatch he), λs' he => (by cases he; exact h)⟩
theorem Qz {k nn : Int} {ns : ByteArray} {nl : List ae} (hk : k = 54) (h : aX (.mk k nn ns (ae.ts nl)) = true) : ∃ f bd z, nl = [f, bd, z] := by
  subst hk
  rw[aX]at h
  match nl with
  | [] => simp[ae.ts, bA]at h
  | [_] => simp[ae.ts, bA]at h
  | [_, _] => simp[ae.ts, bA]at h
  | [f, bd, z] => exact⟨f, bd, z, rfl⟩
  |_ :: _ :: _ :: _ :: _ => simp[ae.ts, bA]at h
theorem nR {P : List bB} {fuel g : Nat} {t : Tree} {b : Bool} {s : ah} {res : Except Int ah} (h : exec P fuel g (.stmt t) b s = some res) : aX t = true := by
  cases g with
  |zero => cases h
  |succ g =>
    rw[exec]at h
    by_cases e : aX t = false
    · rw[if_pos e]at h; cases h
    · simpa using e
theorem Rh {P : List bB} {fuel g : Nat} {nn : Int} {ns : ByteArray} {f bd z : Tree} {b : Bool} {s : ah} {res : Except Int ah} (h : exec P fuel g (.stmt (.mk 54 nn ns [f, bd, z])) b s = some res) : ∃ g', g = g' + 1 /\
    aH (some (s.step fuel)) (λs => aH (s.value (if b then z else f)) λv => aH (some (s.open ns 1 v)) λs => aH (exec P fuel g' (.stmts (turned b bd.kids)) b s) λs => aH (some (s.step fuel)) λs => aH (s.value (if b then f else z)) λv => s.close ns v) = some res := by
  cases g with
  |zero => cases h
  |succ g =>
    refine⟨g, rfl, ?_⟩
    have he := nR h
    rw[exec, if_neg (by rw[he]; decide), if_neg (show ¬ Tree.kind (.mk 54 nn ns [f, bd, z]) = 53 from by show ¬ (54 : Int) = 53; decide), if_pos (show Tree.kind (.mk 54 nn ns [f, bd, z]) = 54 from rfl)]at h
    cases b <;> exact h
theorem DC {w0 : World} {p : az} {fuel k : Nat} {w : World} {x : aK} {s s1 : ah} (h : aF w0 p fuel k w x s) (hs : s.step fuel = .ok s1) : Slk k s1 := by
  unfold ah.step at hs
  split at hs
  · cases hs
  · cases hs
    have hb := h.bd
    have hf : s.cur ∈ s.frames := by obtain⟨h1, h2⟩ := wu s; rw[← h2]; exact List.getElem_mem h1
    have h2 := hb.2.1 _ hf
    refine⟨by have := hb.1; show s.cells.length + 1 <= k + (s.steps + 1); omega, ?_, ?_⟩
    · show s.cur.vars.length + 1 <= k + (s.steps + 1); omega
    · show s.cur.locals + 1 <= k + (s.steps + 1); omega
set_option maxRecDepth 100000 in
set_option maxHeartbeats 12800000 in
theorem PX {w0 : World} {p : az} {fuel k g : Nat} (IH : ∀ g', g' < g -> rM w0 p fuel k g') (w : World) (x : aK) (s : ah) (res : Except Int ah) (nk nn : Int) (ns : ByteArray) (nv : Value) (nl : List ae) (b : Bool) (hk : nk = 54) (h : aF w0 p fuel k w x s) (hno : aS (λ_ => True) w0 (.mk nk nn ns nv nl)) (hex : exec (p.procs.map aO.d) fuel g (.stmt (ae.t (.mk nk nn ns nv nl))) b s = some res) :
    Calls Tryz.prog 117 #[.pointer (some ⟨x.R, 0, none⟩), ae.val (.mk nk nn ns nv nl), .bool b] w (bY w0 p fuel k x w res) := by
  subst hk
  obtain⟨x1, hr1, ho, h1⟩ := h.fresh
  rw[show x.R = x1.R from hr1.R.symm]
  refine Calls.mono ?_ (λe w' (hq : bY w0 p fuel k x1 w res e w') => hq.of hr1)
  clear hr1 h
  revert h1 ho
  generalize x1 = x
  intro ho h
  have hsh := nR hex
  rw[ae.t]at hsh
  obtain⟨nf, vK, nz, rfl⟩ := Qz rfl hsh
  rw[ae.t, ae.ts, ae.ts, ae.ts, ae.ts]at hex
  obtain⟨g', rfl, oP⟩ := Rh hex
  clear hsh hex
  revert oP
  intro hex
  have kM := hno.kids nf (by simp)
  have hkb := hno.kids vK (by simp)
  have hkz := hno.kids nz (by simp)
  have uH := Lib.hid (λz (hz : Grow w0 z) => (Iy z (.mk 54 nn ns nv [nf, vK, nz]) 54 nn ns nv [nf, vK, nz] rfl (hno.at.later hz) (by simp) b).mono (R' := λe w' => e = .returned (.tuple #[(if b then nz else nf).val, (if b then nf else nz).val]) /\ Grow z w') (λe w' hq => by
    obtain⟨a, c, ⟨e1, e2⟩, rfl, hg⟩ := hq
    simp only[List.getElem?_cons_zero, List.length_cons, List.length_nil, Option.some.injEq]at e1 e2
    simp only[Nat.zero_add, Nat.reduceAdd, Nat.add_one_sub_one, List.getElem?_cons_succ, List.getElem?_cons_zero, Option.some.injEq]at e2
    subst e1 e2
    exact⟨rfl, hg⟩))
  obtain⟨nA, hA⟩ : ∃ n : ae, n = if b then nz else nf := ⟨_, rfl⟩
  obtain⟨nZ, hZ⟩ : ∃ n : ae, n = if b then nf else nz := ⟨_, rfl⟩
  have tq : aS (λ_ => True) w0 nA := by rw[hA]; cases b <;> assumption
  have vL : aS (λ_ => True) w0 nZ := by rw[hZ]; cases b <;> assumption
  have tA : (if b then nz.t else nf.t) = nA.t := by rw[hA]; cases b <;> rfl
  have tZ : (if b then nf.t else nz.t) = nZ.t := by rw[hZ]; cases b <;> rfl
  rw[← hA, ← hZ]at uH
  rw[tA, tZ]at hex
  have hrow := hno.at.row.2.2.2.1
  obtain⟨na, nc, rfl, -, -⟩ := hno.at.form
  obtain⟨kb, ko, ni, zV, _, hcc⟩ := hrow.at (i := 1) (by simp)
  simp only[Value.slice.injEq, true_and]at zV
  obtain⟨rfl, rfl⟩ := zV
  obtain⟨bk, bn, bs, bv, bl⟩ := vK
  obtain⟨ba, bc, rfl, -, -⟩ := hkb.at.form
  have d0 := hcc 0 (.int .u8 bk) (by rfl)
  have d1 := hcc 1 (.int .i64 bn) (by rfl)
  have d2 := hcc 2 (.string bs) (by rfl)
  have d3 := hcc 3 (.slice ba bl.length bc) (by rfl)
  simp only[Nat.add_zero, Nat.one_mul]at d0 d1 d2 d3
  have pI := Lib.hid (λz (hz : Grow w0 z) => And.intro (And.intro (bV d0 hz) (bV d1 hz)) (And.intro (bV d2 hz) (bV d3 hz)))
  clear hcc
  generalize hnl : [nf, ae.mk bk bn bs (.slice ba bl.length bc) bl, nz] = nl at *
  have VT := Lib.hid (show nl.length = 3 from by rw[← hnl]; rfl)
  have hnt : (ae.mk bk bn bs (.slice ba bl.length bc) bl).t.kids = ae.ts bl := by rw[ae.t]; rfl
  obtain⟨ak, an, mE, av, al⟩ := nA
  obtain⟨aa, ac, rfl, -, -⟩ := tq.at.form
  obtain⟨zk, zn, zs, zv, zl⟩ := nZ
  obtain⟨za, zc, rfl, -, -⟩ := vL.at.form
  have kZ := Lib.hid (λz x' s' jR (hz : aF w0 p fuel k z x' s') (he : exec (p.procs.map aO.d) fuel g' (.stmts (turned b (ae.t (.mk bk bn bs (.slice ba bl.length bc) bl)).kids)) b s' = some jR) => IH g' (by omega) z x' s' jR (.mk bk bn bs (.slice ba bl.length bc) bl) b hz hkb he)
  have FN := Lib.hid tq
  have FP := Lib.hid vL
  have iK := Lib.hid h.g
  have aj := Lib.hid (show Grow w (w.alloc (.cells #[.int .u8 54, .int .i64 nn, .string ns, .slice (some ⟨kb, ko, none⟩) nl.length nc] 40))from(Mv.refl _ w).alloc _)
  have aY := Lib.hid (heap_alloc_new w (.cells #[.int .u8 54, .int .i64 nn, .string ns, .slice (some ⟨kb, ko, none⟩) nl.length nc] 40))
  have HS := Lib.hid h
  have gF := Lib.hid hex
  have vM := Lib.hid (λz (hz : Grow w z) => uH.out z (gtr iK.out hz))
  clear hno hex h ho kM hkb hkz hA hZ tA tZ tq vL hrow d0 d1 d2 d3 IH uH hnl hnt
  simp only[ae.val]at vM kZ ⊢
  go_enter Tryz.func117, Tryz.ntmps117
  go_upto_region 1 with fail
  generalize (w.alloc (.cells #[.int .u8 54, .int .i64 nn, .string ns, .slice (some ⟨kb, ko, none⟩) nl.length nc] 40)) = w1 at *
  have HK := Lib.hid (λ(y : World) (hy : Grow w1 y) => ai aY.out hy)
  refine zm 50 [some 9, some 10, some 11, some 8, some 12, some 13, some 6, some 7, none, none] [[], [], [0, 1], [2], [3], [3], [], [], [6, 4], [7, 5]] [] [.c (.agg #[.int .u8 54, .int .i64 nn, .string ns, .slice (some ⟨kb, ko, none⟩) nl.length nc]), .c (.bool b), .c (.tuple #[.agg #[.int .u8 ak, .int .i64 an, .string mE, .slice aa al.length ac], .agg #[.int .u8 zk, .int .i64 zn, .string zs, .slice za zl.length zc]]), .c (.tuple #[.agg #[.int .u8 ak, .int .i64 an, .string mE, .slice aa al.length ac], .agg #[.int .u8 zk, .int .i64 zn, .string zs, .slice za zl.length zc]]), .c (.agg #[.int .u8 ak, .int .i64 an, .string mE, .slice aa al.length ac]), .c (.agg #[.int .u8 zk, .int .i64 zn, .string zs, .slice za zl.length zc]), .al 8 4 #[.int .u8 0, .int .i64 0, .string ⟨#[]⟩, .slice none 0 0] 40, .al 9 5 #[.int .u8 0, .int .i64 0, .string ⟨#[]⟩, .slice none 0 0] 40, .st 6, .st 7] trivial (dG rfl) ?steps ?done
  case steps =>
    refine⟨?s0, ?s1, ?s2, ?s3, ?s4, ?s5, ?s6, ?s7, ?s8, ?s9, trivial⟩
    case s0 =>
      refine ok0 HK (λvs x hG HX hP => ?_)
      obtain⟨⟨n0, n1⟩, n2, n3⟩ := aI HX.out
      have hbl := lt_of_block HX.out
      simp only[zS]
      go_simp
      exact gc
    case s1 =>
      refine oo (λvs x hP => ?_)
      simp only[zS]
      go_simp
      exact gc
    case s2 =>
      refine ok0 HK (λvs x hG HX hP => ?_)
      simp only[zS]
      go_simp
      refine(vM.out x (gtr aj.out hG)).mono ?_
      rintro e y ⟨rfl, hg⟩
      exact⟨_, rfl, gy hg rfl⟩
    case s3 =>
      refine oo (λvs x hP => ?_)
      simp only[zS]
      go_simp
      exact gc
    case s4 =>
      refine oo (λvs x hP => ?_)
      simp only[zS]
      go_simp
      exact gc
    case s5 =>
      refine oo (λvs x hP => ?_)
      simp only[zS]
      go_simp
      exact gc
    case s6 =>
      refine oz (λvs x => ?_)
      simp only[zS]
      go_simp
      exact⟨rfl, rfl⟩
    case s7 =>
      refine oz (λvs x => ?_)
      simp only[zS]
      go_simp
      exact⟨rfl, rfl⟩
    case s8 =>
      refine os (λvs x g hg hb hv => ?_)
      have h4 : vs 4 = .agg #[.int .u8 ak, .int .i64 an, .string mE, .slice aa al.length ac] := hv
      obtain⟨c0, c1, c2, c3⟩ := fA hb
      have zt := bE hb
      simp only[zS, hg, h4]
      go_simp
      exact⟨(dU hb _ _ _ _).1, (dU hb _ _ _ _).2⟩
    case s9 =>
      refine os (λvs x g hg hb hv => ?_)
      have h5 : vs 5 = .agg #[.int .u8 zk, .int .i64 zn, .string zs, .slice za zl.length zc] := hv
      obtain⟨c0, c1, c2, c3⟩ := fA hb
      have zt := bE hb
      simp only[zS, hg, h5]
      go_simp
      exact⟨(dU hb _ _ _ _).1, (dU hb _ _ _ _).2⟩
  case done =>
  intro vs w3 hE
  have hG := hE.wQ
  obtain⟨g6, a6, l6, m6, b6⟩ := hE.box 6
  obtain⟨g7, a7, l7, m7, b7⟩ := hE.box 7
  simp only[zS, Nat.reduceAdd, a6, a7]
  have aT := Lib.hid (gtr aj.out hG)
  have qO := Lib.hid b6
  have HZ3 := Lib.hid b7
  have HB3 := Lib.hid (ai aY.out hG)
  clear hE hG b6 b7 l6 l7 m6 m7 HK
  simp only[fZ, zS]at qO HZ3
  have mr := Lib.hid (HS.out.later aT.out)
  have cB := Lib.hid (rf w0 p fuel k w3 x s mr.out)
  obtain⟨hbad, hok⟩ := mH gF.out
  clear vM aj aY HS gF
  go_wp2_with fail
  refine cB.out.mono ?_
  clear cB
  intro e w4 hq
  cases hs1 : s.step fuel with
  |error n =>
    rw[hs1]at hq
    have hre := hbad n hs1
    obtain⟨⟨rfl, hn0⟩, hg⟩ := hq
    refine⟨rfl, ?_⟩
    rw[hre]
    exact⟨⟨rfl, hn0⟩, (by first|exact hg|exact .of (ax.grow aj.out) hg|exact .of (ax.grow HG2.out) hg|exact .of (ax.grow aA.out) hg|exact .of (ax.grow bz.out) hg|exact .of (ax.grow bI.out) hg|exact .of (ax.grow aT.out) hg|exact .of gN.out hg|exact .of dX.out hg|exact .of bZ.out hg|exact .of bM.out hg|exact .of dY.out hg|exact .of HR4.out hg|exact .of HR3.out hg|exact .of HR2.out hg|exact .of HR1.out hg|exact .of HR.out hg|exact .of ((ax.grow aj.out).trans HR.out) hg)⟩
  |ok s1 =>
  rw[hs1]at hq
  have hnext := hok s1 hs1
  obtain⟨rfl, x4, hr4, jS⟩ := hq
  have kS := Lib.hid (DC mr.out hs1)
  have bW := Lib.hid (And.intro hr4.R hr4.S)
  have HR4 := Lib.hid ((ax.grow aT.out).trans hr4)
  have gL := Lib.hid jS
  have qP := Lib.hid (hr4.n _ _ _ qO.out)
  have uR := Lib.hid (hr4.n _ _ _ HZ3.out)
  have dC := Lib.hid (hr4.n _ _ _ HB3.out)
  obtain⟨rv, hv, yQ, y9⟩ := Gq hnext
  have HV := Lib.hid hv
  have Cn := Lib.hid yQ
  have zW := Lib.hid y9
  clear aT hbad hok hr4 jS hnext qO HZ3 HB3 mr hv yQ y9 hs1
  go_upto_region 3 with fail
  have mi := Lib.hid (λy hM => Gp (w0 := w0) (p := p) (fuel := fuel) (k := k) (xx := x4) (wA := w4) (s1 := s1) (vok := ∃ v, rv = .ok v) (r2 := s1.open ns 1 (valOf rv)) (res := res) FN.out HV.out (λv h => ⟨v, h⟩) Cn.out y hM)
  have gD := Lib.hid (λy hM => uh (w0 := w0) (X := ErrX w0 x4 w4 res) (vok := ∃ v, rv = .ok v) (p := p) (fuel := fuel) (k := k) (xx := x4) (wA := w4) (s1 := s1) (m := 1) (r2 := s1.open ns 1 (valOf rv)) y hM (λx' hr hst _ => by
    have := Iq w0 p fuel k y x' s1 ns 1 (valOf rv) hst (.inl rfl) kS.out
    rw[hr.S, bW.out.2]at this
    exact this))
  have gZ := Lib.hid (λy hM => vZ (w0 := w0) (p := p) (fuel := fuel) (k := k) (xx := x4) (wA := w4) (s1 := s1) (vok := ∃ v, rv = .ok v) (r2 := s1.open ns 1 (valOf rv)) (res := res) (m := 1) (λe hv he => (mH (zW.out (hv (by omega)))).1 e he) (.pointer (some ⟨x.R, 0, none⟩)) y hM)
  rw[bW.out.1]at mi
  refine wy (ErrX w0 x4 w4 res) 50 [some 16, some 17, some 18, some 19, some 20, some 21, some 22, some 23, some 24, some 25, some 26, some 27, some 28] [[], [], [1], [2], [3], [], [5], [6], [], [], [8, 9], [4, 7, 10], [0, 11]] [some (.pointer (some ⟨x.R, 0, none⟩)), some (.pointer (some ⟨x.R, 0, none⟩)), some (.pointer (some ⟨x.R, 0, none⟩)), some (.pointer (some ⟨x.R, 6, none⟩)), some (.pointer (some ⟨x.S, 0, none⟩)), some (.pointer (some ⟨w.heap.size, 2, none⟩)), some (.string ns), some (.agg #[.string ns, .int .u8 1, .int .i64 0]), some (.pointer (some ⟨x.R, 0, none⟩)), some (.agg #[.int .u8 ak, .int .i64 an, .string mE, .slice aa al.length ac]), some (.int .i64 (valOf rv)), some (.int .i64 (jh (s1.open ns 1 (valOf rv)))), some (.tuple #[])] [10, 11, 12] (dH w0 p fuel k x4 w4 s1 (∃ v, rv = .ok v) (s1.open ns 1 (valOf rv)) 1) (dH.zero gL.out) ⟨?s0, ?s1, ?s2, ?s3, ?s4, ?s5, ?s6, ?s7, ?s8, ?s9, ?s10, ?s11, ?s12, trivial⟩ ?fin (λch w9 a9 lg lh => And.intro lg (lh.run HR4.out))
  case s0 =>
    refine yc (λy => ?_)
    simp only[zS, cv, List.getD_cons_zero, List.getD_cons_succ, Option.getD_some]
    go_simp
    exact⟨rfl, rfl⟩
  case s1 =>
    refine yc (λy => ?_)
    simp only[zS, cv, List.getD_cons_zero, List.getD_cons_succ, Option.getD_some]
    go_simp
    exact⟨rfl, rfl⟩
  case s2 =>
    refine yc (λy => ?_)
    simp only[zS, cv, List.getD_cons_zero, List.getD_cons_succ, Option.getD_some]
    go_simp
    exact⟨rfl, rfl⟩
  case s3 =>
    refine yc (λy => ?_)
    simp only[zS, cv, List.getD_cons_zero, List.getD_cons_succ, Option.getD_some]
    go_simp
    exact⟨rfl, rfl⟩
  case s4 =>
    refine yl 1 (λt y ht hM => ?_)
    obtain⟨x9, bf, bG⟩ := hM.read ht
    have c6 := bG.cells.1.1
    rw[(bf.R.trans bW.out.1), (bf.S.trans bW.out.2)]at c6
    have hrl := lt_of_block bG.run
    rw[(bf.R.trans bW.out.1)]at hrl
    clear hM bf bG
    simp only[zS, cv, List.getD_cons_zero, List.getD_cons_succ, Option.getD_some]
    go_simp
    exact⟨rfl, rfl⟩
  case s5 =>
    refine yc (λy => ?_)
    simp only[zS, cv, List.getD_cons_zero, List.getD_cons_succ, Option.getD_some]
    go_simp
    exact⟨rfl, rfl⟩
  case s6 =>
    refine yl 1 (λt y ht hM => ?_)
    obtain⟨x9, bf, bG⟩ := hM.read ht
    obtain⟨⟨n0, n1⟩, n2, n3⟩ := aI (bf.n _ _ _ dC.out)
    have hbl := lt_of_block (bf.n _ _ _ dC.out)
    clear hM bf bG
    simp only[zS, cv, List.getD_cons_zero, List.getD_cons_succ, Option.getD_some]
    go_simp
    exact⟨rfl, rfl⟩
  case s7 =>
    refine yc (λy => ?_)
    simp only[zS, cv, List.getD_cons_zero, List.getD_cons_succ, Option.getD_some]
    go_simp
    exact⟨rfl, rfl⟩
  case s8 =>
    refine yc (λy => ?_)
    simp only[zS, cv, List.getD_cons_zero, List.getD_cons_succ, Option.getD_some]
    go_simp
    exact⟨rfl, rfl⟩
  case s9 =>
    refine yl 1 (λt y ht hM => ?_)
    obtain⟨x9, bf, bG⟩ := hM.read ht
    obtain⟨⟨n0, n1⟩, n2, n3⟩ := aI (bf.n _ _ _ qP.out)
    have hbl := lt_of_block (bf.n _ _ _ qP.out)
    clear hM bf bG
    simp only[zS, cv, List.getD_cons_zero, List.getD_cons_succ, Option.getD_some]
    go_simp
    exact⟨rfl, rfl⟩
  case s10 =>
    refine yw 0 (λy hM => ?_)
    have HC := Lib.hid (mi.out y hM)
    clear hM
    unfold dM
    simp only[zS, cv, List.getD_cons_zero, List.getD_cons_succ, Option.getD_some]
    go_simp
    exact gG.jw HC.out
  case s11 =>
    refine yw 1 (λy hM => ?_)
    have HC := Lib.hid (gD.out y hM)
    clear hM
    unfold dM
    simp only[zS, cv, List.getD_cons_zero, List.getD_cons_succ, Option.getD_some]
    go_simp
    exact gG.jw HC.out
  case s12 =>
    refine yw 2 (λy hM => ?_)
    have HC := Lib.hid (gZ.out y hM)
    clear hM
    unfold dM
    simp only[zS, cv, List.getD_cons_zero, List.getD_cons_succ, Option.getD_some]
    go_simp
    exact gG.jw HC.out
  case fin =>
  intro wf hM
  have HM := Lib.hid hM.fin
  clear hM
  simp only[zS, Nat.reduceAdd, cv, List.getD_cons_zero, List.getD_cons_succ, Option.getD_some]
  obtain⟨hvk, s2, hs2, x5, eQ, dA⟩ := HM.out
  have hnx := (mH (zW.out (hvk (by decide)))).2 s2 hs2
  have fI := Lib.hid (And.intro (eQ.R.trans bW.out.1) (eQ.S.trans bW.out.2))
  have dY := Lib.hid (HR4.out.trans eQ)
  have fo := Lib.hid dA
  have zu := Lib.hid (eQ.n _ _ _ uR.out)
  have iY := Lib.hid (eQ.n _ _ _ dC.out)
  have HE := Lib.hid (wF hnx)
  have tu := Lib.hid (pI.out wf dA.g)
  clear hvk hs2 eQ dA hnx HM mi gD gZ bW HR4 gL qP uR dC HV Cn zW kS
  obtain⟨⟨n0, n1⟩, n2, n3⟩ := aI iY.out
  have hbl := lt_of_block iY.out
  obtain⟨⟨d0, d1⟩, d2, d3⟩ := tu.out
  have hkl := World.block_lt_of_cell? wf _ d0
  simp only at hkl
  have hbd : (1 : Int) < (nl.length : Nat) := by have := VT.out; omega
  rcases HE.out with⟨e, hx, hre⟩|⟨s3, hx, hrest⟩
  · have HST := Lib.hid (kZ.out wf x5 s2 _ fo.out hx)
    rw[fI.out.1]at HST
    have dm := Lib.hid hre
    clear hx hre HE
    go_wp2_with fail
    refine HST.out.mono ?_
    rintro e2 w6 ⟨⟨rfl, hn0⟩, hg⟩
    refine⟨rfl, ?_⟩
    rw[dm.out]
    exact⟨⟨rfl, hn0⟩, (by first|exact hg|exact .of (ax.grow aj.out) hg|exact .of (ax.grow HG2.out) hg|exact .of (ax.grow aA.out) hg|exact .of (ax.grow bz.out) hg|exact .of (ax.grow bI.out) hg|exact .of (ax.grow aT.out) hg|exact .of gN.out hg|exact .of dX.out hg|exact .of bZ.out hg|exact .of bM.out hg|exact .of dY.out hg|exact .of HR4.out hg|exact .of HR3.out hg|exact .of HR2.out hg|exact .of HR1.out hg|exact .of HR.out hg|exact .of ((ax.grow aj.out).trans HR.out) hg)⟩
  have HST := Lib.hid (kZ.out wf x5 s2 _ fo.out hx)
  rw[fI.out.1]at HST
  obtain⟨hbad, hok⟩ := mH hrest
  have HBAD := Lib.hid hbad
  have bF := Lib.hid hok
  clear hx hrest hbad hok HE
  go_wp2_with fail
  refine HST.out.mono ?_
  rintro e2 w6 ⟨rfl, x6, dW, jT⟩
  have cB := Lib.hid (rf w0 p fuel k w6 x6 s3 jT)
  rw[dW.R, fI.out.1]at cB
  have gM := Lib.hid (And.intro (dW.R.trans fI.out.1) (dW.S.trans fI.out.2))
  have bM := Lib.hid (dY.out.trans dW)
  have kr := Lib.hid jT
  have pz := Lib.hid (dW.n _ _ _ zu.out)
  have mg := Lib.hid (dW.n _ _ _ iY.out)
  clear dW jT HST n0 n1 n2 n3 hbl d0 d1 d2 d3 hkl hbd fI dY fo zu iY tu
  go_wp2_with fail
  refine cB.out.mono ?_
  clear cB
  intro e w7 hq
  cases hs1 : s3.step fuel with
  |error n =>
    rw[hs1]at hq
    have hre := HBAD.out n hs1
    obtain⟨⟨rfl, hn0⟩, hg⟩ := hq
    refine⟨rfl, ?_⟩
    rw[hre]
    exact⟨⟨rfl, hn0⟩, (by first|exact hg|exact .of (ax.grow aj.out) hg|exact .of (ax.grow HG2.out) hg|exact .of (ax.grow aA.out) hg|exact .of (ax.grow bz.out) hg|exact .of (ax.grow bI.out) hg|exact .of (ax.grow aT.out) hg|exact .of gN.out hg|exact .of dX.out hg|exact .of bZ.out hg|exact .of bM.out hg|exact .of dY.out hg|exact .of HR4.out hg|exact .of HR3.out hg|exact .of HR2.out hg|exact .of HR1.out hg|exact .of HR.out hg|exact .of ((ax.grow aj.out).trans HR.out) hg)⟩
  |ok s4 =>
  rw[hs1]at hq
  have hnext := bF.out s4 hs1
  obtain⟨rfl, x7, eH, jU⟩ := hq
  have gP := Lib.hid (And.intro (eH.R.trans gM.out.1) (eH.S.trans gM.out.2))
  have bZ := Lib.hid (bM.out.trans eH)
  have vN := Lib.hid jU
  have Nh := Lib.hid (eH.n _ _ _ pz.out)
  have qQ := Lib.hid (eH.n _ _ _ mg.out)
  obtain⟨xP, hv2, yQ, y9⟩ := Gq hnext
  have HV := Lib.hid hv2
  have Cn := Lib.hid yQ
  have zW := Lib.hid y9
  clear HBAD bF eH jU hnext pz mg bM kr gM hv2 yQ y9 hs1
  go_upto_region 6 with fail
  have Kl := Lib.hid (λy hM => Gp (w0 := w0) (p := p) (fuel := fuel) (k := k) (xx := x7) (wA := w7) (s1 := s4) (vok := ∃ v, xP = .ok v) (r2 := res) (res := res) FP.out HV.out (λv h => ⟨v, h⟩) Cn.out y hM)
  have Ua := Lib.hid (λy hM => uh (w0 := w0) (X := ErrX w0 x7 w7 res) (vok := ∃ v, xP = .ok v) (p := p) (fuel := fuel) (k := k) (xx := x7) (wA := w7) (s1 := s4) (m := 1) (r2 := res) y hM (λx' hr hst hvk => by
    have := Hq w0 p fuel k y x' s4 ns (valOf xP) res hst (zW.out (hvk (by decide)))
    rw[hr.S, gP.out.2]at this
    exact this))
  have Ub := Lib.hid (λy hM => vZ (w0 := w0) (p := p) (fuel := fuel) (k := k) (xx := x7) (wA := w7) (s1 := s4) (vok := ∃ v, xP = .ok v) (r2 := res) (res := res) (m := 1) (λe _ he => he) (.pointer (some ⟨x.R, 0, none⟩)) y hM)
  rw[gP.out.1]at Kl
  refine wy (ErrX w0 x7 w7 res) 50 [some 38, some 39, some 40, some 41, some 42, some 43, some 44, some 45, some 46, some 47, some 48, some 49] [[], [], [1], [2], [3], [], [5], [], [], [7, 8], [4, 6, 9], [0, 10]] [some (.pointer (some ⟨x.R, 0, none⟩)), some (.pointer (some ⟨x.R, 0, none⟩)), some (.pointer (some ⟨x.R, 0, none⟩)), some (.pointer (some ⟨x.R, 6, none⟩)), some (.pointer (some ⟨x.S, 0, none⟩)), some (.pointer (some ⟨w.heap.size, 2, none⟩)), some (.string ns), some (.pointer (some ⟨x.R, 0, none⟩)), some (.agg #[.int .u8 zk, .int .i64 zn, .string zs, .slice za zl.length zc]), some (.int .i64 (valOf xP)), some (.int .i64 (jh res)), some (.tuple #[])] [9, 10, 11] (dH w0 p fuel k x7 w7 s4 (∃ v, xP = .ok v) res 1) (dH.zero vN.out) ⟨?s0, ?s1, ?s2, ?s3, ?s4, ?s5, ?s6, ?s7, ?s8, ?s9, ?s10, ?s11, trivial⟩ ?fin (λch w9 a9 lg lh => And.intro lg (lh.run bZ.out))
  case s0 =>
    refine yc (λy => ?_)
    simp only[zS, cv, List.getD_cons_zero, List.getD_cons_succ, Option.getD_some]
    go_simp
    exact⟨rfl, rfl⟩
  case s1 =>
    refine yc (λy => ?_)
    simp only[zS, cv, List.getD_cons_zero, List.getD_cons_succ, Option.getD_some]
    go_simp
    exact⟨rfl, rfl⟩
  case s2 =>
    refine yc (λy => ?_)
    simp only[zS, cv, List.getD_cons_zero, List.getD_cons_succ, Option.getD_some]
    go_simp
    exact⟨rfl, rfl⟩
  case s3 =>
    refine yc (λy => ?_)
    simp only[zS, cv, List.getD_cons_zero, List.getD_cons_succ, Option.getD_some]
    go_simp
    exact⟨rfl, rfl⟩
  case s4 =>
    refine yl 1 (λt y ht hM => ?_)
    obtain⟨x9, bf, bG⟩ := hM.read ht
    have c6 := bG.cells.1.1
    rw[(bf.R.trans gP.out.1), (bf.S.trans gP.out.2)]at c6
    have hrl := lt_of_block bG.run
    rw[(bf.R.trans gP.out.1)]at hrl
    clear hM bf bG
    simp only[zS, cv, List.getD_cons_zero, List.getD_cons_succ, Option.getD_some]
    go_simp
    exact⟨rfl, rfl⟩
  case s5 =>
    refine yc (λy => ?_)
    simp only[zS, cv, List.getD_cons_zero, List.getD_cons_succ, Option.getD_some]
    go_simp
    exact⟨rfl, rfl⟩
  case s6 =>
    refine yl 1 (λt y ht hM => ?_)
    obtain⟨x9, bf, bG⟩ := hM.read ht
    obtain⟨⟨n0, n1⟩, n2, n3⟩ := aI (bf.n _ _ _ qQ.out)
    have hbl := lt_of_block (bf.n _ _ _ qQ.out)
    clear hM bf bG
    simp only[zS, cv, List.getD_cons_zero, List.getD_cons_succ, Option.getD_some]
    go_simp
    exact⟨rfl, rfl⟩
  case s7 =>
    refine yc (λy => ?_)
    simp only[zS, cv, List.getD_cons_zero, List.getD_cons_succ, Option.getD_some]
    go_simp
    exact⟨rfl, rfl⟩
  case s8 =>
    refine yl 1 (λt y ht hM => ?_)
    obtain⟨x9, bf, bG⟩ := hM.read ht
    obtain⟨⟨n0, n1⟩, n2, n3⟩ := aI (bf.n _ _ _ Nh.out)
    have hbl := lt_of_block (bf.n _ _ _ Nh.out)
    clear hM bf bG
    simp only[zS, cv, List.getD_cons_zero, List.getD_cons_succ, Option.getD_some]
    go_simp
    exact⟨rfl, rfl⟩
  case s9 =>
    refine yw 0 (λy hM => ?_)
    have HC := Lib.hid (Kl.out y hM)
    clear hM
    unfold dM
    simp only[zS, cv, List.getD_cons_zero, List.getD_cons_succ, Option.getD_some]
    go_simp
    exact gG.jw HC.out
  case s10 =>
    refine yw 1 (λy hM => ?_)
    have HC := Lib.hid (Ua.out y hM)
    clear hM
    unfold dM
    simp only[zS, cv, List.getD_cons_zero, List.getD_cons_succ, Option.getD_some]
    go_simp
    exact gG.jw HC.out
  case s11 =>
    refine yw 2 (λy hM => ?_)
    have HC := Lib.hid (Ub.out y hM)
    clear hM
    unfold dM
    simp only[zS, cv, List.getD_cons_zero, List.getD_cons_succ, Option.getD_some]
    go_simp
    exact gG.jw HC.out
  case fin =>
  intro wf hM
  have HM := Lib.hid hM.fin
  clear hM
  simp only[zS, Nat.reduceAdd, cv, List.getD_cons_zero, List.getD_cons_succ, Option.getD_some]
  have HQ := Lib.hid (show bY w0 p fuel k x w res (.returned (.tuple #[])) wf from by
    obtain⟨s9, FQ, x9, bf, bG⟩ := HM.out.2
    rw[FQ]
    exact⟨rfl, x9, bZ.out.trans bf, bG⟩)
  go_wp2_with fail
  go_end0
  exact HQ.out
end Go.Proofs.YtbpodipdfohikaaGreat
