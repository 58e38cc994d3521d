import Derived.Test.YtbpodipdfohikaaGreatL26
set_option linter.unusedSimpArgs false
set_option linter.unusedVariables false
set_option maxRecDepth 100000
set_option maxHeartbeats 25600000
namespace Go.Proofs.YtbpodipdfohikaaGreat
section
open Go.RowKit
set_option maxRecDepth 100000 in
set_option maxHeartbeats 1600000 in
theorem Ih (f S : Nat) (st : ah) (x : ae) (w : World) (r : Int × Int) (hx : bJ w x) (hf : ow w f S st) (he : aN x.t = true) (hr : fF st.look x.t = some r) :
    Calls Tryz.prog 146 #[x.val, .func (.func f) #[.pointer (some ⟨S, 0, none⟩)] #[]] w (sW r w) := by
  have heq : ∀ w : World, (binOp .eql 191 (.func (.func f) #[.pointer (some ⟨S, 0, none⟩)] #[]) .nilFunc).run Tryz.prog w = .ok (.bool false) w := λw => C8 w _ _ _ Tryz.underlying191
  have HE := Lib.hid (λz (hz : Grow w z) => qY x z (hx.later hz))
  have HV := Lib.hid (λz (hz : Grow w z) => Qo f S st _ x (Nat.le_refl _) z r (hx.later hz) (hf.later hz) hr)
  rw[he]at HE
  obtain⟨k, n, s, kv, l⟩ := x
  obtain⟨ka, kc, rfl, -, -⟩ := hx.form
  have aj := Lib.hid (show Grow w (w.alloc (.cells #[.int .u8 k, .int .i64 n, .string s, .slice ka l.length kc] 40))from(Mv.refl _ w).alloc _)
  have aY := Lib.hid (heap_alloc_new w (.cells #[.int .u8 k, .int .i64 n, .string s, .slice ka l.length kc] 40))
  clear hx hf he hr
  simp only[ae.val]at HE HV ⊢
  go_enter Tryz.func146, Tryz.ntmps146
  go_wp2_with fail
  refine(HE.out _ aj.out).mono ?_
  rintro e w2 ⟨rfl, hg⟩
  have HG2 := Lib.hid (gtr aj.out hg)
  have hn2 := ai aY.out hg
  obtain⟨⟨n0, n1⟩, n2, n3⟩ := aJ hn2
  have hnl := lt_of_block hn2
  clear hg hn2
  go_wp2_with fail
  refine(HV.out _ HG2.out).mono ?_
  rintro e w3 ⟨rfl, hg⟩
  have aA := Lib.hid (gtr HG2.out hg)
  clear hg n0 n1 n2 n3 hnl
  go_wp2_with fail
  go_ret2
  exact⟨rfl, aA.out⟩
def JM (b : Bool) (n : Int) (w : World) (e : Ending) (w' : World) : Prop := e = .returned (.tuple #[.bool b, .int .i64 n]) /\ Grow w w'
set_option maxRecDepth 100000 in
set_option maxHeartbeats 1600000 in
theorem Q4 (f S : Nat) (st : ah) (x : ae) (w : World) (r : Int × Int) (hx : bJ w x) (hf : ow w f S st) (he : aN x.t = true) (hr : fF st.look x.t = some r) :
    Calls Tryz.prog 144 #[x.val, .func (.func f) #[.pointer (some ⟨S, 0, none⟩)] #[]] w (JM (r.1 != 0) r.2 w) := by
  have HV := Lib.hid (λz (hz : Grow w z) => Ih f S st x z r (hx.later hz) (hf.later hz) he hr)
  obtain⟨k, n, s, kv, l⟩ := x
  obtain⟨ka, kc, rfl, -, -⟩ := hx.form
  have aj := Lib.hid (show Grow w (w.alloc (.cells #[.int .u8 k, .int .i64 n, .string s, .slice ka l.length kc] 40))from(Mv.refl _ w).alloc _)
  obtain⟨r1, r2⟩ := r
  clear hx hf he hr
  simp only[ae.val]at HV ⊢
  go_enter Tryz.func144, Tryz.ntmps144
  go_wp2_with fail
  refine(HV.out _ aj.out).mono ?_
  rintro e w3 ⟨rfl, hg⟩
  have aA := Lib.hid (gtr aj.out hg)
  clear hg
  go_wp2_with fail
  go_ret2
  exact⟨rfl, aA.out⟩
set_option maxRecDepth 100000 in
set_option maxHeartbeats 1600000 in
theorem G5 (f S : Nat) (n : Int) (s : ByteArray) (kv : Value) (l : List ae) (w : World) (hx : bJ w (.mk 2 n s kv l)) (he : fo (ae.t (.mk 2 n s kv l)) = true) :
    Calls Tryz.prog 148 #[ae.val (.mk 2 n s kv l), .func (.func f) #[.pointer (some ⟨S, 0, none⟩)] #[]] w (sW (0, 0) w) := by
  have heq : ∀ w : World, (binOp .eql 191 (.func (.func f) #[.pointer (some ⟨S, 0, none⟩)] #[]) .nilFunc).run Tryz.prog w = .ok (.bool false) w := λw => C8 w _ _ _ Tryz.underlying191
  have HE := Lib.hid (λz (hz : Grow w z) => wm _ z (hx.later hz))
  rw[he]at HE
  obtain⟨ka, kc, rfl, -, -⟩ := hx.form
  have aj := Lib.hid (show Grow w (w.alloc (.cells #[.int .u8 2, .int .i64 n, .string s, .slice ka l.length kc] 40))from(Mv.refl _ w).alloc _)
  have aY := Lib.hid (heap_alloc_new w (.cells #[.int .u8 2, .int .i64 n, .string s, .slice ka l.length kc] 40))
  clear hx he
  simp only[ae.val]at HE ⊢
  go_enter Tryz.func148, Tryz.ntmps148
  go_wp2_with fail
  refine(HE.out _ aj.out).mono ?_
  rintro e w2 ⟨rfl, hg⟩
  have HG2 := Lib.hid (gtr aj.out hg)
  have hn2 := ai aY.out hg
  obtain⟨⟨n0, n1⟩, n2, n3⟩ := aJ hn2
  have hnl := lt_of_block hn2
  clear hg hn2
  go_wp2_with fail
  go_ret2
  exact⟨rfl, HG2.out⟩
end
section
open Go.RowKit Go.Instr
theorem aG.JN {w0 : World} {p : az} {fuel k : Nat} {w : World} {x : aK} {s : ah} (h : aG w0 p fuel k w x s) : ow w 145 x.S s := ⟨.inr rfl, λz hz n => RH w0 p fuel k z x s n (h.later hz)⟩
def qp {α : Type} (f : α -> Value) (w0 : World) (p : az) (fuel k : Nat) (x : aK) (w : World) (res : Except Int (α × ah)) (e : Ending) (w' : World) : Prop := match res with
  |.ok (a, s') => e = .returned (f a) /\ ∃ x', ax x x' w w' /\ aG w0 p fuel k w' x' s'
  |.error n => (e = wV n /\ n ≠ 0) /\ oJ w0 x w w'
theorem qp.of {α : Type} {f : α -> Value} {w0 : World} {p : az} {fuel k : Nat} {x x1 : aK} {w w1 : World} {res : Except Int (α × ah)} {e : Ending} {w' : World} (h : qp f w0 p fuel k x1 w1 res e w') (hr : ax x x1 w w1) : qp f w0 p fuel k x w res e w' := by
  unfold qp at *
  split at h
  · obtain⟨he, x', hx, hs⟩ := h
    exact⟨he, x', hr.trans hx, hs⟩
  · exact⟨h.1, .of hr h.2⟩
theorem bZ.of {w0 : World} {p : az} {fuel k : Nat} {x x1 : aK} {w w1 : World} {res : Except Int ah} {e : Ending} {w' : World} (h : bZ w0 p fuel k x1 w1 res e w') (hr : ax x x1 w w1) : bZ w0 p fuel k x w res e w' := by
  unfold bZ at *
  split at h
  · obtain⟨he, x', hx, hs⟩ := h
    exact⟨he, x', hr.trans hx, hs⟩
  · exact⟨h.1, .of hr h.2⟩
def yV (s : ah) : Except Int Int -> Except Int (Int × ah)
  |.ok v => .ok (v, s)
  |.error e => .error e
theorem IP {s : ah} {t : Tree} {res : Except Int Int} (h : s.value t = some res) : aN t = true /\ ∃ r, fF s.look t = some r /\ res = if r.2 = 0 then .ok r.1 else .error r.2 := by
  unfold ah.value ah.val at h
  by_cases he : aN t = true
  · refine⟨he, ?_⟩
    rw[if_pos he]at h
    cases hr : fF s.look t with
    |none => rw[hr]at h; cases h
    |some r =>
      rw[hr]at h
      obtain⟨v, e⟩ := r
      refine⟨(v, e), rfl, ?_⟩
      simp only at h ⊢
      by_cases h0 : e = 0
      · rw[if_pos h0]at h ⊢; simpa using h.symm
      · rw[if_neg h0]at h ⊢; simpa using h.symm
  · rw[if_neg he]at h; cases h
set_option maxRecDepth 100000 in
set_option maxHeartbeats 6400000 in
theorem Qp (w0 : World) (p : az) (fuel k : Nat) (w : World) (xx : aK) (s : ah) (n : ae) (res : Except Int Int) (h : aG w0 p fuel k w xx s) (hn : bJ w n) (hv : s.value n.t = some res) : Calls Tryz.prog 132 #[.pointer (some ⟨xx.R, 0, none⟩), n.val] w (qp (.int .i64) w0 p fuel k xx w (yV s res)) := by
  obtain⟨he, ⟨r1, r2⟩, hr, hres⟩ := IP hv
  have KE := Lib.hid (λz (hz : Grow w z) => Ih _ xx.S s n z (r1, r2) (hn.later hz) (h.JN.later hz) he hr)
  obtain⟨nk, nn, ns, nv, nl⟩ := n
  obtain⟨na, nc, rfl, -, -⟩ := hn.form
  have HS := Lib.hid h
  have aj := Lib.hid (show Grow w (w.alloc (.cells #[.int .u8 nk, .int .i64 nn, .string ns, .slice na nl.length nc] 40))from(Mv.refl _ w).alloc _)
  have aY := Lib.hid (heap_alloc_new w (.cells #[.int .u8 nk, .int .i64 nn, .string ns, .slice na nl.length nc] 40))
  have Cq := Lib.hid (λz (hz : Grow (w.alloc (.cells #[.int .u8 nk, .int .i64 nn, .string ns, .slice na nl.length nc] 40)) z) => KE.out z (gtr aj.out hz))
  have kV := Lib.hid hres
  clear hn hv he hr h hres KE
  simp only[ae.val, sW]at Cq ⊢
  go_enter Tryz.func132, Tryz.ntmps132
  go_upto_region 1 with fail
  generalize (w.alloc (.cells #[.int .u8 nk, .int .i64 nn, .string ns, .slice na nl.length nc] 40)) = w1 at *
  have HK := Lib.hid (λ(y : World) (hy : Grow w1 y) => And.intro (ai aY.out hy) ((HS.out.later (gtr aj.out hy)).cells.1.1))
  refine wg 21 [some 8, some 9, some 10, some 11, some 12, some 13, some 14, some 7, some 15, some 16, some 5, some 6] [[], [], [1], [2], [3], [4], [0, 5], [6], [7], [7], [8], [9]] [] [.c (.agg #[.int .u8 nk, .int .i64 nn, .string ns, .slice na nl.length nc]), .c (.pointer (some ⟨xx.R, 0, none⟩)), .c (.pointer (some ⟨xx.R, 0, none⟩)), .c (.pointer (some ⟨xx.R, 6, none⟩)), .c (.pointer (some ⟨xx.S, 0, none⟩)), .c (.func (.func 145) #[.pointer (some ⟨xx.S, 0, none⟩)] #[]), .c (.tuple #[.int .i64 r1, .int .i64 r2]), .c (.tuple #[.int .i64 r1, .int .i64 r2]), .c (.int .i64 r1), .c (.int .i64 r2), .c (.int .i64 r1), .c (.int .i64 r2)] trivial (dJ rfl) ?steps ?done
  case steps =>
    refine⟨?s0, ?s1, ?s2, ?s3, ?s4, ?s5, ?s6, ?s7, ?s8, ?s9, ?s10, ?s11, trivial⟩
    case s0 =>
      refine ok HK (λvs x hG HX hP => ?_)
      obtain⟨⟨n0, n1⟩, n2, n3⟩ := aJ HX.out.1
      simp only[zS]
      go_simp
      exact gc
    case s1 =>
      refine oo (λvs x hP => ?_)
      simp only[zS]
      go_simp
      exact gc
    case s2 =>
      refine oo (λvs x hP => ?_)
      simp only[zS]
      go_simp
      exact gc
    case s3 =>
      refine oo (λvs x hP => ?_)
      simp only[zS]
      go_simp
      exact gc
    case s4 =>
      refine ok HK (λvs x hG HX hP => ?_)
      have c6 := HX.out.2
      simp only[zS]
      go_simp
      exact gc
    case s5 =>
      refine oo (λvs x hP => ?_)
      simp only[zS]
      go_simp
      exact gc
    case s6 =>
      refine ok HK (λvs x hG HX hP => ?_)
      have HC := Lib.hid (Cq.out x hG)
      simp only[zS]
      go_simp
      refine(HC.out).mono ?_
      rintro e y ⟨rfl, hg⟩
      exact⟨_, rfl, gm hg rfl⟩
    case s7 =>
      refine oo (λvs x hP => ?_)
      simp only[zS]
      go_simp
      exact gc
    case s8 =>
      refine oo (λvs x hP => ?_)
      simp only[zS]
      go_simp
      exact gc
    case s9 =>
      refine oo (λvs x hP => ?_)
      simp only[zS]
      go_simp
      exact gc
    case s10 =>
      refine oo (λvs x hP => ?_)
      simp only[zS]
      go_simp
      exact gc
    case s11 =>
      refine oo (λvs x hP => ?_)
      simp only[zS]
      go_simp
      exact gc
  case done =>
  intro vs wx hE
  have hG := hE.grow
  have aT := Lib.hid hG
  clear hE hG
  simp only[zS, Nat.reduceAdd]
  have HG2 := Lib.hid (gtr aj.out aT.out)
  go_wp2_with fail
  refine(Az _ r2 wx).mono ?_
  rintro e w3 ⟨rfl, rfl⟩
  by_cases h0 : r2 = 0
  · rw[if_pos h0]
    have HF := Lib.hid (show yV s res = .ok (r1, s)from by rw[kV.out]; simp[h0, yV])
    clear kV
    go_wp2_with fail
    go_ret
    rw[HF.out]
    exact⟨rfl, xx, ax.grow HG2.out, HS.out.later HG2.out⟩
  · rw[if_neg h0]
    have HF := Lib.hid (show yV s res = .error r2 from by rw[kV.out]; simp[h0, yV])
    refine⟨rfl, ?_⟩
    rw[HF.out]
    exact⟨⟨rfl, h0⟩, .new (gtr HS.out.g HG2.out) HG2.out⟩
set_option maxRecDepth 100000 in
set_option maxHeartbeats 6400000 in
theorem Ii (w0 : World) (p : az) (fuel k : Nat) (w : World) (xx : aK) (s : ah) (n : ae) (res : Except Int (Bool × ah)) (h : aG w0 p fuel k w xx s) (hno : aS (λ_ => True) w n) (hv : s.holds fuel n.t = some res) : Calls Tryz.prog 130 #[.pointer (some ⟨xx.R, 0, none⟩), n.val] w (qp .bool w0 p fuel k xx w res) := by
  obtain⟨x1, hr1, ho, h1⟩ := h.fresh
  rw[show xx.R = x1.R from hr1.R.symm]
  refine Calls.mono ?_ (λe w' (hq : qp .bool w0 p fuel k x1 w res e w') => hq.of hr1)
  clear hr1 h
  revert h1 ho
  generalize x1 = xx
  intro ho h
  have bE := Lib.hid (λ(o : Obj) => show Grow w (w.alloc o)from(Mv.refl _ w).alloc _)
  have HST := Lib.hid (λz (hz : Grow w z) => rf w0 p fuel k z xx s (h.later hz))
  have BQ := Lib.hid hno
  have hn := hno.at
  clear hno
  unfold ah.holds at hv
  obtain⟨nk, nn, ns, nv, nl⟩ := n
  obtain⟨na, nc, rfl, -, -⟩ := hn.form
  have aj := Lib.hid (show Grow w (w.alloc (.cells #[.int .u8 nk, .int .i64 nn, .string ns, .slice na nl.length nc] 40))from(Mv.refl _ w).alloc _)
  have aY := Lib.hid (heap_alloc_new w (.cells #[.int .u8 nk, .int .i64 nn, .string ns, .slice na nl.length nc] 40))
  have pJ := Lib.hid (HST.out _ aj.out)
  have WE := Lib.hid h
  clear hn h HST bE
  simp only[ae.val]
  cases hst : s.step fuel with
  |error n =>
    rw[hst]at hv pJ
    have HF := Lib.hid (show res = .error n from by simpa[aI]using hv.symm)
    clear hst hv
    go_enter Tryz.func130, Tryz.ntmps130
    go_wp2_with fail
    refine pJ.out.mono ?_
    rintro e w2 ⟨⟨rfl, hn0⟩, hg⟩
    refine⟨rfl, ?_⟩
    rw[HF.out]
    exact⟨⟨rfl, hn0⟩, .of (ax.grow aj.out) hg⟩
  |ok s' =>
    rw[hst]at hv pJ
    simp only[aI]at hv
    have WG := Lib.hid ho
    go_enter Tryz.func130, Tryz.ntmps130
    go_wp2_with fail
    refine pJ.out.mono ?_
    clear pJ
    rintro e w2 ⟨rfl, x2, hr2, hs2⟩
    have HR2 := Lib.hid ((ax.grow aj.out).trans hr2)
    have bL := Lib.hid (hr2.keep aY.out (WG.out _ (Nat.le_refl _)))
    have eU := Lib.hid (HR2.out.tree BQ.out)
    have HS2 := Lib.hid hs2
    rw[show xx.R = x2.R from hr2.R.symm]
    clear hr2 hs2 hst ho aj aY WE
    cases hvl : s'.value (ae.t (.mk nk nn ns (.slice na nl.length nc) nl))with
    |none => rw[hvl]at hv; exact absurd hv (by simp[aI])
    |some rv =>
      rw[hvl]at hv
      obtain⟨he, ⟨r1, r2⟩, hr, hres⟩ := IP hvl
      have hev := λz (hz : Grow w2 z) => Q4 145 x2.S s' (.mk nk nn ns (.slice na nl.length nc) nl) z (r1, r2) (eU.out.at.later hz) (HS2.out.JN.later hz) he hr
      have kV := Lib.hid (show res = (if r2 = 0 then .ok (r1 != 0, s')else .error r2)from by
        subst hres
        by_cases h0 : r2 = 0
        · simp only[if_pos h0, aI]at hv ⊢; exact(Option.some.inj hv).symm
        · simp only[if_neg h0, aI]at hv ⊢; exact(Option.some.inj hv).symm)
      simp only[JM, ae.val]at hev
      generalize (r1 != 0) = bb at *
      have Cq := Lib.hid hev
      clear hvl he hr hres hev hv BQ
      have HK := Lib.hid (λ(y : World) (hy : Grow w2 y) => And.intro (ai bL.out hy) ((HS2.out.later hy).cells.1.1))
      go_upto_region 2 with fail
      refine wg 23 [some 10, some 11, some 12, some 13, some 14, some 15, some 16, some 9, some 17, some 18, some 5, some 6] [[], [], [1], [2], [3], [4], [0, 5], [6], [7], [7], [8], [9]] [] [.c (.agg #[.int .u8 nk, .int .i64 nn, .string ns, .slice na nl.length nc]), .c (.pointer (some ⟨x2.R, 0, none⟩)), .c (.pointer (some ⟨x2.R, 0, none⟩)), .c (.pointer (some ⟨x2.R, 6, none⟩)), .c (.pointer (some ⟨x2.S, 0, none⟩)), .c (.func (.func 145) #[.pointer (some ⟨x2.S, 0, none⟩)] #[]), .c (.tuple #[.bool bb, .int .i64 r2]), .c (.tuple #[.bool bb, .int .i64 r2]), .c (.bool bb), .c (.int .i64 r2), .c (.bool bb), .c (.int .i64 r2)] trivial (dJ rfl) ?steps ?done
      case steps =>
        refine⟨?s0, ?s1, ?s2, ?s3, ?s4, ?s5, ?s6, ?s7, ?s8, ?s9, ?s10, ?s11, trivial⟩
        case s0 =>
          refine ok HK (λvs x hG HX hP => ?_)
          obtain⟨⟨n0, n1⟩, n2, n3⟩ := aJ HX.out.1
          simp only[zS]
          go_simp
          exact gc
        case s1 =>
          refine oo (λvs x hP => ?_)
          simp only[zS]
          go_simp
          exact gc
        case s2 =>
          refine oo (λvs x hP => ?_)
          simp only[zS]
          go_simp
          exact gc
        case s3 =>
          refine oo (λvs x hP => ?_)
          simp only[zS]
          go_simp
          exact gc
        case s4 =>
          refine ok HK (λvs x hG HX hP => ?_)
          have c6 := HX.out.2
          simp only[zS]
          go_simp
          exact gc
        case s5 =>
          refine oo (λvs x hP => ?_)
          simp only[zS]
          go_simp
          exact gc
        case s6 =>
          refine ok HK (λvs x hG HX hP => ?_)
          have HC := Lib.hid (Cq.out x hG)
          simp only[zS]
          go_simp
          refine(HC.out).mono ?_
          rintro e y ⟨rfl, hg⟩
          exact⟨_, rfl, gm hg rfl⟩
        case s7 =>
          refine oo (λvs x hP => ?_)
          simp only[zS]
          go_simp
          exact gc
        case s8 =>
          refine oo (λvs x hP => ?_)
          simp only[zS]
          go_simp
          exact gc
        case s9 =>
          refine oo (λvs x hP => ?_)
          simp only[zS]
          go_simp
          exact gc
        case s10 =>
          refine oo (λvs x hP => ?_)
          simp only[zS]
          go_simp
          exact gc
        case s11 =>
          refine oo (λvs x hP => ?_)
          simp only[zS]
          go_simp
          exact gc
      case done =>
      intro vs wx hE
      have hG := hE.grow
      have aT := Lib.hid hG
      clear hE hG
      simp only[zS, Nat.reduceAdd]
      go_wp2_with fail
      refine(Az _ r2 wx).mono ?_
      rintro e w3 ⟨rfl, rfl⟩
      by_cases h0 : r2 = 0
      · rw[if_pos h0]
        have HF := Lib.hid (show res = .ok (bb, s')from by rw[kV.out, if_pos h0])
        clear kV
        go_wp2_with fail
        go_ret
        rw[HF.out]
        exact⟨rfl, x2, HR2.out.trans (ax.grow aT.out), HS2.out.later aT.out⟩
      · rw[if_neg h0]
        have HF := Lib.hid (show res = .error r2 from by rw[kV.out, if_neg h0])
        refine⟨rfl, ?_⟩
        rw[HF.out]
        exact⟨⟨rfl, h0⟩, .of HR2.out (.new (gtr HS2.out.g aT.out) aT.out)⟩
end
end Go.Proofs.YtbpodipdfohikaaGreat
