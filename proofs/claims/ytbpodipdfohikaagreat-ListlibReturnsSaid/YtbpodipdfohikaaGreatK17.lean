import Derived.Test.YtbpodipdfohikaaGreatK16
set_option linter.unusedSimpArgs false
set_option linter.unusedVariables false
set_option maxRecDepth 100000
set_option maxHeartbeats 25600000
namespace Go.Proofs.YtbpodipdfohikaaGreat
open Go.RowKit Go.Instr
theorem CY (P : List bB) (s : ByteArray) : (gT P s = -1 /\ P.find? (λq => q.name == s) = none) \/ ∃ j, ∃ hj : j < P.length, gT P s = j /\ P.find? (λq => q.name == s) = some P[j] := by
  cases h : P.findIdx? (λq => q.name == s)with
  |none =>
    refine .inl ⟨by unfold gT; rw[h], List.find?_eq_none.2 λx hx => ?_⟩
    have := List.findIdx?_eq_none_iff.1 h x hx
    simp[this]
  |some j =>
    obtain⟨hj, h1, h2⟩ := List.findIdx?_eq_some_iff_getElem.1 h
    refine .inr ⟨j, hj, by unfold gT; rw[h], ?_⟩
    rw[List.find?_eq_some_iff_getElem]
    exact⟨h1, j, hj, rfl, λi hi => by have := h2 i hi; simpa using this⟩
def gm (P : List bB) (k : Int) (s : ByteArray) (n : Nat) (aC : List au) : Int :=
  if k = 2 then lU aC s 1
  else if k = 3 then lU aC s 2
  else if k = 4 \/ k = 5 \/ k = 44 \/ k = 45 then lU aC s 3
  else if k = 54 \/ k = 55 then jK aC s
  else if k = 50 \/ k = 51 then match P.find? (λq => q.name == s)with
    |none => 6
    |some q => if n = q.params.length then 0 else 7
  else 0
set_option maxRecDepth 100000 in
set_option maxHeartbeats 6400000 in
theorem Qp (p : az) (k n : Int) (s : ByteArray) (ka : Option Addr) (l : List ae) (kc : Nat) (v : Value) (aC : List au) (w : World) (hp : je w p) (hx : bJ w (.mk k n s (.slice ka l.length kc) l)) (hv : ay 3 au.cells w v aC) : Calls Tryz.prog 76 #[p.val, .agg #[.int .u8 k, .int .i64 n, .string s, .slice ka l.length kc], v] w (rR w (gm p.d.procs k s l.length aC)) := by
  obtain⟨vars, vv, procs, pv, ⟨mk, mn, ms, mv, ml⟩⟩ := p
  obtain⟨⟨va, vc, rfl⟩, ⟨pa, pc, rfl⟩, hm⟩ := hp.form
  obtain⟨ma, mc, rfl, -, -⟩ := hm.form
  have hpl : procs.length <= 9223372036854775807 := by obtain⟨_, _, _, _, h⟩ := hp.procs.row.form; exact h
  have hll : l.length <= 9223372036854775807 := by obtain⟨_, _, _, _, h⟩ := hx.form; exact h
  have HP := Lib.hid hp
  have HV := Lib.hid hv
  have HX := Lib.hid (show((w.alloc (.cells #[.slice va vars.length vc, .slice pa procs.length pc, .int .u8 mk, .int .i64 mn, .string ms, .slice ma ml.length mc] 42)).alloc (.cells #[.int .u8 k, .int .i64 n, .string s, .slice ka l.length kc] 40)).heap[w.heap.size]? = some (.cells #[.slice va vars.length vc, .slice pa procs.length pc, .int .u8 mk, .int .i64 mn, .string ms, .slice ma ml.length mc] 42 (0, 0))from bX (heap_alloc_new w _) _)
  have HN := Lib.hid (show((w.alloc (.cells #[.slice va vars.length vc, .slice pa procs.length pc, .int .u8 mk, .int .i64 mn, .string ms, .slice ma ml.length mc] 42)).alloc (.cells #[.int .u8 k, .int .i64 n, .string s, .slice ka l.length kc] 40)).heap[w.heap.size + 1]? = some (.cells #[.int .u8 k, .int .i64 n, .string s, .slice ka l.length kc] 40 (0, 0))from by
    have := heap_alloc_new (w.alloc (.cells #[.slice va vars.length vc, .slice pa procs.length pc, .int .u8 mk, .int .i64 mn, .string ms, .slice ma ml.length mc] 42)) (.cells #[.int .u8 k, .int .i64 n, .string s, .slice ka l.length kc] 40)
    simpa using this)
  have HG := Lib.hid (show Grow w ((w.alloc (.cells #[.slice va vars.length vc, .slice pa procs.length pc, .int .u8 mk, .int .i64 mn, .string ms, .slice ma ml.length mc] 42)).alloc (.cells #[.int .u8 k, .int .i64 n, .string s, .slice ka l.length kc] 40))from((Mv.refl _ w).alloc _).alloc _)
  have HR := Lib.hid (show gm (az.d ⟨vars, .slice va vars.length vc, procs, .slice pa procs.length pc, .mk mk mn ms (.slice ma ml.length mc) ml⟩).procs k s l.length aC = gm (procs.map aO.d) k s l.length aC from rfl)
  generalize gm (az.d ⟨vars, .slice va vars.length vc, procs, .slice pa procs.length pc, .mk mk mn ms (.slice ma ml.length mc) ml⟩).procs k s l.length aC = R at *
  clear hp hv hm hx
  simp only[az.val]
  have hcs : k = 2 \/ k = 3 \/ k = 4 \/ k = 5 \/ k = 44 \/ k = 45 \/ k = 54 \/ k = 55 \/ k = 50 \/ k = 51 \/ (k ≠ 2 /\ k ≠ 3 /\ k ≠ 4 /\ k ≠ 5 /\ k ≠ 44 /\ k ≠ 45 /\ k ≠ 54 /\ k ≠ 55 /\ k ≠ 50 /\ k ≠ 51) := by omega
  obtain⟨⟨x0, x1, x2⟩, x3, x4, x5⟩ := cz HX.out
  obtain⟨⟨n0, n1⟩, n2, n3⟩ := aI HN.out
  have hxl := lt_of_block HX.out
  have hnl := lt_of_block HN.out
  rcases hcs with hk|hk|hk|hk|hk|hk|hk|hk|hk|hk|⟨m2, m3, m4, m5, ME, MF, MG, MH, MI, MJ⟩
  · subst hk
    have HE := Lib.hid (show R = lU aC s 1 from by rw[HR.out]; simp[gm])
    go_enter Tryz.func76, Tryz.ntmps76
    go_wp2_with fail
    refine(wH _ aC s 1 _ (HV.out.later HG.out)).mono ?_
    rintro e w2 ⟨rfl, hg⟩
    have HG2 := Lib.hid (gtr HG.out hg)
    clear hg
    go_wp2_with fail
    go_ret
    exact⟨cK HE.out.symm, HG2.out⟩
  · subst hk
    have HE := Lib.hid (show R = lU aC s 2 from by rw[HR.out]; simp[gm])
    go_enter Tryz.func76, Tryz.ntmps76
    go_wp2_with fail
    refine(wH _ aC s 2 _ (HV.out.later HG.out)).mono ?_
    rintro e w2 ⟨rfl, hg⟩
    have HG2 := Lib.hid (gtr HG.out hg)
    clear hg
    go_wp2_with fail
    go_ret
    exact⟨cK HE.out.symm, HG2.out⟩
  · subst hk
    have HE := Lib.hid (show R = lU aC s 3 from by rw[HR.out]; simp[gm])
    go_enter Tryz.func76, Tryz.ntmps76
    go_wp2_with fail
    refine(wH _ aC s 3 _ (HV.out.later HG.out)).mono ?_
    rintro e w2 ⟨rfl, hg⟩
    have HG2 := Lib.hid (gtr HG.out hg)
    clear hg
    go_wp2_with fail
    go_ret
    exact⟨cK HE.out.symm, HG2.out⟩
  · subst hk
    have HE := Lib.hid (show R = lU aC s 3 from by rw[HR.out]; simp[gm])
    go_enter Tryz.func76, Tryz.ntmps76
    go_wp2_with fail
    refine(wH _ aC s 3 _ (HV.out.later HG.out)).mono ?_
    rintro e w2 ⟨rfl, hg⟩
    have HG2 := Lib.hid (gtr HG.out hg)
    clear hg
    go_wp2_with fail
    go_ret
    exact⟨cK HE.out.symm, HG2.out⟩
  · subst hk
    have HE := Lib.hid (show R = lU aC s 3 from by rw[HR.out]; simp[gm])
    go_enter Tryz.func76, Tryz.ntmps76
    go_wp2_with fail
    refine(wH _ aC s 3 _ (HV.out.later HG.out)).mono ?_
    rintro e w2 ⟨rfl, hg⟩
    have HG2 := Lib.hid (gtr HG.out hg)
    clear hg
    go_wp2_with fail
    go_ret
    exact⟨cK HE.out.symm, HG2.out⟩
  · subst hk
    have HE := Lib.hid (show R = lU aC s 3 from by rw[HR.out]; simp[gm])
    go_enter Tryz.func76, Tryz.ntmps76
    go_wp2_with fail
    refine(wH _ aC s 3 _ (HV.out.later HG.out)).mono ?_
    rintro e w2 ⟨rfl, hg⟩
    have HG2 := Lib.hid (gtr HG.out hg)
    clear hg
    go_wp2_with fail
    go_ret
    exact⟨cK HE.out.symm, HG2.out⟩
  · subst hk
    have HE := Lib.hid (show R = jK aC s from by rw[HR.out]; simp[gm])
    go_enter Tryz.func76, Tryz.ntmps76
    go_wp2_with fail
    refine(Av _ aC s _ (HV.out.later HG.out)).mono ?_
    rintro e w2 ⟨rfl, hg⟩
    have HG2 := Lib.hid (gtr HG.out hg)
    clear hg
    go_wp2_with fail
    go_ret
    exact⟨cK HE.out.symm, HG2.out⟩
  · subst hk
    have HE := Lib.hid (show R = jK aC s from by rw[HR.out]; simp[gm])
    go_enter Tryz.func76, Tryz.ntmps76
    go_wp2_with fail
    refine(Av _ aC s _ (HV.out.later HG.out)).mono ?_
    rintro e w2 ⟨rfl, hg⟩
    have HG2 := Lib.hid (gtr HG.out hg)
    clear hg
    go_wp2_with fail
    go_ret
    exact⟨cK HE.out.symm, HG2.out⟩
  · subst hk
    have HE := Lib.hid (show R = match (procs.map aO.d).find? (λq => q.name == s)with
      |none => 6
      |some q => if l.length = q.params.length then 0 else 7 from by rw[HR.out]; simp[gm])
    have cB := Lib.hid (yt ⟨vars, .slice va vars.length vc, procs, .slice pa procs.length pc, .mk mk mn ms (.slice ma ml.length mc) ml⟩ s _ (HP.out.later HG.out))
    simp only[az.val, az.d]at cB
    go_enter Tryz.func76, Tryz.ntmps76
    go_wp2_with fail
    refine cB.out.mono ?_
    rintro e w2 ⟨rfl, hg⟩
    have HG2 := Lib.hid (gtr HG.out hg)
    have eO := Lib.hid (ai HX.out hg)
    have bK := Lib.hid (ai HN.out hg)
    clear hg cB x0 x1 x2 x3 x4 x5 n0 n1 n2 n3 hxl hnl
    rcases CY (procs.map aO.d) s with⟨hi, hf⟩|⟨j, hj, hi, hf⟩
    · rw[hi]
      rw[hf]at HE
      clear hi hf
      go_wp2_with fail
      go_ret
      exact⟨cK HE.out.symm, HG2.out⟩
    · rw[hi]
      rw[hf]at HE
      simp only[List.length_map]at hj
      simp only[List.getElem_map]at HE
      clear hi hf
      obtain⟨pb, po, gW, hpv, -, hcc⟩ := (HP.out.procs.later HG2.out).row.at hj
      simp only[Value.slice.injEq, true_and]at hpv
      obtain⟨rfl, rfl⟩ := hpv
      have fT := Lib.hid (HP.out.procs.each _ (List.getElem_mem hj))
      generalize procs[j] = q at *
      obtain⟨qs, aM, qv, qb⟩ := q
      obtain⟨qa, qc, rfl, -, -⟩ := fT.out.form
      have HE2 := Lib.hid (show R = if l.length = aM.length then 0 else 7 from HE.out)
      have fu := Lib.hid (hcc 1 _ rfl)
      clear hcc HE
      have hge : decide ((j : Int) < 0) = false := by simp
      go_upto_region 19 with fail
      have HK := Lib.hid (λ(y : World) (hy : Grow w2 y) => And.intro (ai eO.out hy) (And.intro (ai bK.out hy) (show y.cell? ⟨pb, po + j * 6 + 1, none⟩ = some (.slice qa aM.length qc)from by
        rw[← fu.out]
        exact World.cell?_of_block (w := w2) (w' := y) (a := ⟨pb, po + j * 6 + 1, none⟩) (hy.block _ (World.block_lt_of_cell? w2 _ fu.out) (λe => e)))))
      have TF := hpl
      refine wg 58 [some 47, some 48, some 49, some 50, some 51, some 52, some 53, some 54, some 55, some 56, some 57] [[], [0], [1], [], [3], [], [4, 5], [6], [7], [8], [2, 9]] [] [.c (.pointer (some ⟨w.heap.size + 1, 3, none⟩)), .c (.slice ka l.length kc), .c (.int .i64 l.length), .c (.pointer (some ⟨w.heap.size, 1, none⟩)), .c (.slice (some ⟨pb, po, none⟩) procs.length pc), .c (.int .i64 j), .c (.pointer (some ⟨pb, po + j * 6, none⟩)), .c (.pointer (some ⟨pb, po + j * 6 + 1, none⟩)), .c (.slice qa aM.length qc), .c (.int .i64 aM.length), .c (.bool (((l.length : Nat) : Int) != (aM.length : Nat)))] trivial (dG rfl) ?steps ?done
      case steps =>
        refine⟨?s0, ?s1, ?s2, ?s3, ?s4, ?s5, ?s6, ?s7, ?s8, ?s9, ?s10, trivial⟩
        case s0 =>
          refine oo (λvs x hP => ?_)
          simp only[zS]
          go_simp
          exact gc
        case s1 =>
          refine ok HK (λvs x hG HX hP => ?_)
          obtain⟨⟨n0, n1⟩, n2, n3⟩ := aI HX.out.2.1
          simp only[zS]
          go_simp
          exact gc
        case s2 =>
          refine oo (λvs x hP => ?_)
          simp only[zS]
          go_simp
          exact gc
        case s3 =>
          refine oo (λvs x hP => ?_)
          simp only[zS]
          go_simp
          exact gc
        case s4 =>
          refine ok HK (λvs x hG HX hP => ?_)
          obtain⟨⟨x0, x1, x2⟩, x3, x4, x5⟩ := cz HX.out.1
          simp only[zS]
          go_simp
          exact gc
        case s5 =>
          refine oo (λvs x hP => ?_)
          simp only[zS]
          go_simp
          exact gc
        case s6 =>
          refine oo (λvs x hP => ?_)
          simp only[zS]
          go_simp
          exact gc
        case s7 =>
          refine oo (λvs x hP => ?_)
          simp only[zS]
          go_simp
          exact gc
        case s8 =>
          refine ok HK (λvs x hG HX hP => ?_)
          have c1 := HX.out.2.2
          simp only[zS]
          go_simp
          exact gc
        case s9 =>
          refine oo (λvs x hP => ?_)
          simp only[zS]
          go_simp
          exact gc
        case s10 =>
          refine oo (λvs x hP => ?_)
          simp only[zS]
          go_simp
          exact gc
      case done =>
      intro vs wx hE
      have hG := hE.grow
      have aA := Lib.hid (gtr HG2.out hG)
      clear hE hG
      simp only[zS, Nat.reduceAdd]
      by_cases hq : l.length = aM.length
      · have HF := Lib.hid (show R = 0 from by rw[HE2.out, if_pos hq])
        have eb : (((l.length : Nat) : Int) != (aM.length : Nat)) = false := by simp[hq]
        clear hq
        go_wp2_with fail
        go_ret
        exact⟨cK HF.out.symm, aA.out⟩
      · have HF := Lib.hid (show R = 7 from by rw[HE2.out, if_neg hq])
        have eb : (((l.length : Nat) : Int) != (aM.length : Nat)) = true := by simp; omega
        clear hq
        go_wp2_with fail
        go_ret
        exact⟨cK HF.out.symm, aA.out⟩
  · subst hk
    have HE := Lib.hid (show R = match (procs.map aO.d).find? (λq => q.name == s)with
      |none => 6
      |some q => if l.length = q.params.length then 0 else 7 from by rw[HR.out]; simp[gm])
    have cB := Lib.hid (yt ⟨vars, .slice va vars.length vc, procs, .slice pa procs.length pc, .mk mk mn ms (.slice ma ml.length mc) ml⟩ s _ (HP.out.later HG.out))
    simp only[az.val, az.d]at cB
    go_enter Tryz.func76, Tryz.ntmps76
    go_wp2_with fail
    refine cB.out.mono ?_
    rintro e w2 ⟨rfl, hg⟩
    have HG2 := Lib.hid (gtr HG.out hg)
    have eO := Lib.hid (ai HX.out hg)
    have bK := Lib.hid (ai HN.out hg)
    clear hg cB x0 x1 x2 x3 x4 x5 n0 n1 n2 n3 hxl hnl
    rcases CY (procs.map aO.d) s with⟨hi, hf⟩|⟨j, hj, hi, hf⟩
    · rw[hi]
      rw[hf]at HE
      clear hi hf
      go_wp2_with fail
      go_ret
      exact⟨cK HE.out.symm, HG2.out⟩
    · rw[hi]
      rw[hf]at HE
      simp only[List.length_map]at hj
      simp only[List.getElem_map]at HE
      clear hi hf
      obtain⟨pb, po, gW, hpv, -, hcc⟩ := (HP.out.procs.later HG2.out).row.at hj
      simp only[Value.slice.injEq, true_and]at hpv
      obtain⟨rfl, rfl⟩ := hpv
      have fT := Lib.hid (HP.out.procs.each _ (List.getElem_mem hj))
      generalize procs[j] = q at *
      obtain⟨qs, aM, qv, qb⟩ := q
      obtain⟨qa, qc, rfl, -, -⟩ := fT.out.form
      have HE2 := Lib.hid (show R = if l.length = aM.length then 0 else 7 from HE.out)
      have fu := Lib.hid (hcc 1 _ rfl)
      clear hcc HE
      have hge : decide ((j : Int) < 0) = false := by simp
      go_upto_region 19 with fail
      have HK := Lib.hid (λ(y : World) (hy : Grow w2 y) => And.intro (ai eO.out hy) (And.intro (ai bK.out hy) (show y.cell? ⟨pb, po + j * 6 + 1, none⟩ = some (.slice qa aM.length qc)from by
        rw[← fu.out]
        exact World.cell?_of_block (w := w2) (w' := y) (a := ⟨pb, po + j * 6 + 1, none⟩) (hy.block _ (World.block_lt_of_cell? w2 _ fu.out) (λe => e)))))
      have TF := hpl
      refine wg 58 [some 47, some 48, some 49, some 50, some 51, some 52, some 53, some 54, some 55, some 56, some 57] [[], [0], [1], [], [3], [], [4, 5], [6], [7], [8], [2, 9]] [] [.c (.pointer (some ⟨w.heap.size + 1, 3, none⟩)), .c (.slice ka l.length kc), .c (.int .i64 l.length), .c (.pointer (some ⟨w.heap.size, 1, none⟩)), .c (.slice (some ⟨pb, po, none⟩) procs.length pc), .c (.int .i64 j), .c (.pointer (some ⟨pb, po + j * 6, none⟩)), .c (.pointer (some ⟨pb, po + j * 6 + 1, none⟩)), .c (.slice qa aM.length qc), .c (.int .i64 aM.length), .c (.bool (((l.length : Nat) : Int) != (aM.length : Nat)))] trivial (dG rfl) ?steps ?done
      case steps =>
        refine⟨?s0, ?s1, ?s2, ?s3, ?s4, ?s5, ?s6, ?s7, ?s8, ?s9, ?s10, trivial⟩
        case s0 =>
          refine oo (λvs x hP => ?_)
          simp only[zS]
          go_simp
          exact gc
        case s1 =>
          refine ok HK (λvs x hG HX hP => ?_)
          obtain⟨⟨n0, n1⟩, n2, n3⟩ := aI HX.out.2.1
          simp only[zS]
          go_simp
          exact gc
        case s2 =>
          refine oo (λvs x hP => ?_)
          simp only[zS]
          go_simp
          exact gc
        case s3 =>
          refine oo (λvs x hP => ?_)
          simp only[zS]
          go_simp
          exact gc
        case s4 =>
          refine ok HK (λvs x hG HX hP => ?_)
          obtain⟨⟨x0, x1, x2⟩, x3, x4, x5⟩ := cz HX.out.1
          simp only[zS]
          go_simp
          exact gc
        case s5 =>
          refine oo (λvs x hP => ?_)
          simp only[zS]
          go_simp
          exact gc
        case s6 =>
          refine oo (λvs x hP => ?_)
          simp only[zS]
          go_simp
          exact gc
        case s7 =>
          refine oo (λvs x hP => ?_)
          simp only[zS]
          go_simp
          exact gc
        case s8 =>
          refine ok HK (λvs x hG HX hP => ?_)
          have c1 := HX.out.2.2
          simp only[zS]
          go_simp
          exact gc
        case s9 =>
          refine oo (λvs x hP => ?_)
          simp only[zS]
          go_simp
          exact gc
        case s10 =>
          refine oo (λvs x hP => ?_)
          simp only[zS]
          go_simp
          exact gc
      case done =>
      intro vs wx hE
      have hG := hE.grow
      have aA := Lib.hid (gtr HG2.out hG)
      clear hE hG
      simp only[zS, Nat.reduceAdd]
      by_cases hq : l.length = aM.length
      · have HF := Lib.hid (show R = 0 from by rw[HE2.out, if_pos hq])
        have eb : (((l.length : Nat) : Int) != (aM.length : Nat)) = false := by simp[hq]
        clear hq
        go_wp2_with fail
        go_ret
        exact⟨cK HF.out.symm, aA.out⟩
      · have HF := Lib.hid (show R = 7 from by rw[HE2.out, if_neg hq])
        have eb : (((l.length : Nat) : Int) != (aM.length : Nat)) = true := by simp; omega
        clear hq
        go_wp2_with fail
        go_ret
        exact⟨cK HF.out.symm, aA.out⟩
  · have HE := Lib.hid (show R = 0 from by rw[HR.out]; simp[gm, m2, m3, m4, m5, ME, MF, MG, MH, MI, MJ])
    have e2 : (k == 2) = false := by simpa using m2
    have e3 : (k == 3) = false := by simpa using m3
    have e4 : (k == 4) = false := by simpa using m4
    have e5 : (k == 5) = false := by simpa using m5
    have e44 : (k == 44) = false := by simpa using ME
    have e45 : (k == 45) = false := by simpa using MF
    have e54 : (k == 54) = false := by simpa using MG
    have e55 : (k == 55) = false := by simpa using MH
    have e50 : (k == 50) = false := by simpa using MI
    have e51 : (k == 51) = false := by simpa using MJ
    go_enter Tryz.func76, Tryz.ntmps76
    go_wp2_with fail
    go_ret
    exact⟨cK HE.out.symm, HG.out⟩
theorem pR {O : Nat -> Prop} {w w' : World} (h : Mv O w w') (n : Nat) : Mv O w (w'.drewN n) := ⟨h.os, h.tape, h.output, h.size, h.block⟩
def lK (P : List bB) (s : ByteArray) (n : Nat) (a : ByteArray) (i : Nat) (aC : List au) : Int := match fD aC a with
  |none => 6
  |some v => match P.find? (λq => q.name == s)with
    |none => 0
    |some q => if n = q.params.length then(if v.kind = (q.params.getD i jM).kind /\ v.len = (q.params.getD i jM).len then 0 else 7)else 0
set_option maxRecDepth 100000 in
set_option maxHeartbeats 6400000 in
theorem OM (p : az) (k n : Int) (s : ByteArray) (kb ko : Nat) (l : List ae) (kc : Nat) (i : Nat) (hi : i < l.length) (v : Value) (aC : List au) (w : World) (hp : je w p) (hx : bJ w (.mk k n s (.slice (some ⟨kb, ko, none⟩) l.length kc) l)) (hv : ay 3 au.cells w v aC) : Calls Tryz.prog 78 #[p.val, .agg #[.int .u8 k, .int .i64 n, .string s, .slice (some ⟨kb, ko, none⟩) l.length kc], .int .i64 i, v] w (rR w (lK p.d.procs s l.length l[i].t.name i aC)) := by
  obtain⟨vars, vv, procs, pv, ⟨mk, mn, ms, mv, ml⟩⟩ := p
  obtain⟨⟨va, vc, rfl⟩, ⟨pa, pc, rfl⟩, hm⟩ := hp.form
  obtain⟨ma, mc, rfl, -, -⟩ := hm.form
  have hpl : procs.length <= 9223372036854775807 := by obtain⟨_, _, _, _, h⟩ := hp.procs.row.form; exact h
  have hll : l.length <= 9223372036854775807 := by obtain⟨_, _, _, _, h⟩ := hx.form; exact h
  have HP := Lib.hid hp
  have HV := Lib.hid hv
  have HX := Lib.hid (show((w.alloc (.cells #[.slice va vars.length vc, .slice pa procs.length pc, .int .u8 mk, .int .i64 mn, .string ms, .slice ma ml.length mc] 42)).alloc (.cells #[.int .u8 k, .int .i64 n, .string s, .slice (some ⟨kb, ko, none⟩) l.length kc] 40)).heap[w.heap.size]? = some (.cells #[.slice va vars.length vc, .slice pa procs.length pc, .int .u8 mk, .int .i64 mn, .string ms, .slice ma ml.length mc] 42 (0, 0))from bX (heap_alloc_new w _) _)
  have HN := Lib.hid (show((w.alloc (.cells #[.slice va vars.length vc, .slice pa procs.length pc, .int .u8 mk, .int .i64 mn, .string ms, .slice ma ml.length mc] 42)).alloc (.cells #[.int .u8 k, .int .i64 n, .string s, .slice (some ⟨kb, ko, none⟩) l.length kc] 40)).heap[w.heap.size + 1]? = some (.cells #[.int .u8 k, .int .i64 n, .string s, .slice (some ⟨kb, ko, none⟩) l.length kc] 40 (0, 0))from by
    have := heap_alloc_new (w.alloc (.cells #[.slice va vars.length vc, .slice pa procs.length pc, .int .u8 mk, .int .i64 mn, .string ms, .slice ma ml.length mc] 42)) (.cells #[.int .u8 k, .int .i64 n, .string s, .slice (some ⟨kb, ko, none⟩) l.length kc] 40)
    simpa using this)
  have HG := Lib.hid (show Grow w ((w.alloc (.cells #[.slice va vars.length vc, .slice pa procs.length pc, .int .u8 mk, .int .i64 mn, .string ms, .slice ma ml.length mc] 42)).alloc (.cells #[.int .u8 k, .int .i64 n, .string s, .slice (some ⟨kb, ko, none⟩) l.length kc] 40))from((Mv.refl _ w).alloc _).alloc _)
  have eZ := (rH hx i hi).later HG.out
  have HR := Lib.hid (show lK (az.d ⟨vars, .slice va vars.length vc, procs, .slice pa procs.length pc, .mk mk mn ms (.slice ma ml.length mc) ml⟩).procs s l.length l[i].t.name i aC = lK (procs.map aO.d) s l.length l[i].t.name i aC from rfl)
  generalize lK (az.d ⟨vars, .slice va vars.length vc, procs, .slice pa procs.length pc, .mk mk mn ms (.slice ma ml.length mc) ml⟩).procs s l.length l[i].t.name i aC = R at *
  generalize l[i] = y at *
  obtain⟨yk, yn, ys, yv, yl⟩ := y
  obtain⟨ya, yc, rfl, -, -⟩ := eZ.at_.form
  obtain⟨⟨d0, d1⟩, d2, d3⟩ := eZ.four
  have HR1 := Lib.hid (show R = lK (procs.map aO.d) s l.length ys i aC from HR.out)
  have hbl : kb < ((w.alloc (.cells #[.slice va vars.length vc, .slice pa procs.length pc, .int .u8 mk, .int .i64 mn, .string ms, .slice ma ml.length mc] 42)).alloc (.cells #[.int .u8 k, .int .i64 n, .string s, .slice (some ⟨kb, ko, none⟩) l.length kc] 40)).heap.size := World.block_lt_of_cell? _ _ d0
  have xI := Lib.hid hx
  clear hp hv hm hx eZ HR
  simp only[az.val]
  obtain⟨⟨n0, n1⟩, n2, n3⟩ := aI HN.out
  have hnl := lt_of_block HN.out
  have MK := Lib.hid (AU _ aC ys _ (HV.out.later HG.out))
  go_enter Tryz.func78, Tryz.ntmps78
  go_wp2_with fail
  refine MK.out.mono ?_
  rintro e w2 ⟨rfl, hg⟩
  have HG2 := Lib.hid (gtr HG.out hg)
  have eO := Lib.hid (ai HX.out hg)
  have bK := Lib.hid (ai HN.out hg)
  clear hg MK d0 d1 d2 d3 n0 n1 n2 n3 hbl hnl
  generalize sO : fD aC ys = fd at *
  cases fd with
  |none =>
    have HE := Lib.hid (show R = 6 from by rw[HR1.out]; unfold lK; rw[sO])
    simp only[Option.getD_none, Option.isSome_none, jM]
    clear sO
    go_wp2_with fail
    go_ret
    exact⟨cK HE.out.symm, HG2.out.alloc _⟩
  |some fv =>
    obtain⟨fs, fk, fn⟩ := fv
    simp only[Option.getD_some, Option.isSome_some]
    have HE := Lib.hid (show R = match (procs.map aO.d).find? (λq => q.name == s)with
      |none => 0
      |some q => if l.length = q.params.length then(if fk = (q.params.getD i jM).kind /\ fn = (q.params.getD i jM).len then 0 else 7)else 0 from by rw[HR1.out]; unfold lK; rw[sO])
    clear sO HR1
    have aA := Lib.hid (show Grow w (w2.alloc (.cells #[.string fs, .int .u8 fk, .int .i64 fn] 50))from HG2.out.alloc _)
    have mh := Lib.hid (bX eO.out (.cells #[.string fs, .int .u8 fk, .int .i64 fn] 50))
    have eU := Lib.hid (bX bK.out (.cells #[.string fs, .int .u8 fk, .int .i64 fn] 50))
    have BK := Lib.hid (heap_alloc_new w2 (.cells #[.string fs, .int .u8 fk, .int .i64 fn] 50))
    have cB := Lib.hid (yt ⟨vars, .slice va vars.length vc, procs, .slice pa procs.length pc, .mk mk mn ms (.slice ma ml.length mc) ml⟩ s _ (HP.out.later aA.out))
    simp only[az.val, az.d]at cB
    obtain⟨⟨x0, x1, x2⟩, x3, x4, x5⟩ := cz eO.out
    obtain⟨⟨n0, n1⟩, n2, n3⟩ := aI bK.out
    have hxl := lt_of_block eO.out
    have hnl := lt_of_block bK.out
    go_wp2_with fail
    generalize (w2.alloc (.cells #[.string fs, .int .u8 fk, .int .i64 fn] 50)) = w3 at *
    refine cB.out.mono ?_
    rintro e w4 ⟨rfl, hg⟩
    have bz := Lib.hid (gtr aA.out hg)
    have bW := Lib.hid (ai mh.out hg)
    have uO := Lib.hid (ai eU.out hg)
    have Ca := Lib.hid (ai BK.out hg)
    clear hg cB x0 x1 x2 x3 x4 x5 n0 n1 n2 n3 hxl hnl mh eU BK eO bK
    obtain⟨⟨x0, x1, x2⟩, x3, x4, x5⟩ := cz bW.out
    obtain⟨⟨n0, n1⟩, n2, n3⟩ := aI uO.out
    obtain⟨f0, f1, f2⟩ := dD Ca.out
    have hxl := lt_of_block bW.out
    have hnl := lt_of_block uO.out
    have hfl := lt_of_block Ca.out
    rcases CY (procs.map aO.d) s with⟨hj, hf⟩|⟨j, hjl, hj, hf⟩
    · rw[hj]
      rw[hf]at HE
      clear hj hf
      go_wp2_with fail
      go_region
      all_goals
        go_wp2_with fail
        go_ret
        exact⟨cK HE.out.symm, bz.out.drew⟩
    · rw[hj]
      rw[hf]at HE
      simp only[List.length_map]at hjl
      simp only[List.getElem_map]at HE
      clear hj hf
      obtain⟨pb, po, gW, hpv, -, hcc⟩ := (HP.out.procs.later bz.out).row.at hjl
      simp only[Value.slice.injEq, true_and]at hpv
      obtain⟨rfl, rfl⟩ := hpv
      have fT := Lib.hid ((HP.out.procs.later bz.out).each _ (List.getElem_mem hjl))
      generalize procs[j] = q at *
      obtain⟨qs, aM, qv, qb⟩ := q
      obtain⟨qa, qc, rfl, -, u6⟩ := fT.out.form
      have HE2 := Lib.hid (show R = if l.length = aM.length then(if fk = (aM.getD i jM).kind /\ fn = (aM.getD i jM).len then 0 else 7)else 0 from HE.out)
      have c1 := hcc 1 _ rfl
      have hpb : pb < w4.heap.size := World.block_lt_of_cell? w4 _ c1
      have hge : decide ((j : Int) < 0) = false := by simp
      clear hcc HE
      go_wp2_with fail
      by_cases hq : l.length = aM.length
      · have eb : (((l.length : Nat) : Int) != (aM.length : Nat)) = false := by simp[hq]
        have Vm := Lib.hid (show R = if fk = (aM.getD i jM).kind /\ fn = (aM.getD i jM).len then 0 else 7 from by rw[HE2.out, if_pos hq])
        have Fs := Lib.hid fT.out.params
        simp only at Fs
        go_region
        have bI := Lib.hid (bz.out.drew)
        have fI := Lib.hid (show(w4.drew).heap[w.heap.size]? = some (.cells #[.slice va vars.length vc, .slice (some ⟨pb, po, none⟩) procs.length pc, .int .u8 mk, .int .i64 mn, .string ms, .slice ma ml.length mc] 42 (0, 0))from bW.out)
        have ML := Lib.hid (show(w4.drew).heap[w2.heap.size]? = some (.cells #[.string fs, .int .u8 fk, .int .i64 fn] 50 (0, 0))from Ca.out)
        have u7 := Lib.hid (Fs.out.later ((Mv.refl (λ_ => False) w4).drew))
        have c15 : (w4.drew).cell? ⟨pb, po + j * 6 + 1, none⟩ = some (.slice qa aM.length qc) := c1
        have Xd : pb < (w4.drew).heap.size := hpb
        generalize w4.drew = w5 at *
        clear x0 x1 x2 x3 x4 x5 n0 n1 n2 n3 hxl hnl f0 f1 f2 hfl c1 hpb Ca bW uO HP fT Fs
        have MM : i < aM.length := by omega
        obtain⟨Vn, qo, TG, uZ, -, hcc⟩ := u7.out.at MM
        simp only[Value.slice.injEq, true_and]at uZ
        obtain⟨rfl, rfl⟩ := uZ
        have Cb := Lib.hid (show R = if fk = aM[i].kind /\ fn = aM[i].len then 0 else 7 from by
          rw[Vm.out, show aM.getD i jM = aM[i] by simp[List.getD, MM]])
        generalize aM[i] = pr at *
        obtain⟨rs, rk, rn⟩ := pr
        have e0 := hcc 0 _ rfl
        have e1 := hcc 1 _ rfl
        have e2 := hcc 2 _ rfl
        simp only[Nat.add_zero]at e0
        have ve : Vn < w5.heap.size := World.block_lt_of_cell? w5 _ e0
        obtain⟨⟨x0, x1, x2⟩, x3, x4, x5⟩ := cz fI.out
        obtain⟨f0, f1, f2⟩ := dD ML.out
        have hxl := lt_of_block fI.out
        have hfl := lt_of_block ML.out
        simp only at Cb
        clear hcc
        by_cases hk1 : fk = rk
        · subst hk1
          by_cases hk2 : fn = rn
          · subst hk2
            have HF := Lib.hid (show R = 0 from by rw[Cb.out]; simp)
            go_wp2_with fail
            go_ret
            exact⟨cK HF.out.symm, bI.out.alloc _⟩
          · have HF := Lib.hid (show R = 7 from by rw[Cb.out]; simp[hk2])
            have en : (fn != rn) = true := by simpa using hk2
            clear hk2
            go_wp2_with fail
            go_ret
            exact⟨cK HF.out.symm, bI.out.alloc _⟩
        · have HF := Lib.hid (show R = 7 from by rw[Cb.out]; simp[hk1])
          have en : (fk != rk) = true := by simpa using hk1
          clear hk1
          go_wp2_with fail
          go_ret
          exact⟨cK HF.out.symm, bI.out.alloc _⟩
      · have eb : (((l.length : Nat) : Int) != (aM.length : Nat)) = true := by simp; omega
        have HF := Lib.hid (show R = 0 from by rw[HE2.out, if_neg hq])
        go_region
        all_goals
          go_wp2_with fail
          go_ret
          exact⟨cK HF.out.symm, bz.out.drew⟩
end Go.Proofs.YtbpodipdfohikaaGreat
