import Derived.Test.YtbpodipdfohikaaGreatL16
set_option linter.unusedSimpArgs false
set_option linter.unusedVariables false
set_option maxRecDepth 100000
set_option maxHeartbeats 25600000
namespace Go.Proofs.YtbpodipdfohikaaGreat
open Go.RowKit Go.Instr
theorem De (P : List bA) (s : ByteArray) : (gK P s = -1 /\ P.find? (λq => q.name == s) = none) \/ ∃ j, ∃ hj : j < P.length, gK P s = j /\ P.find? (λq => q.name == s) = some P[j] := by
  cases h : P.findIdx? (λq => q.name == s)with
  |none =>
    refine .inl ⟨by unfold gK; rw[h], List.find?_eq_none.2 λx hx => ?_⟩
    have := List.findIdx?_eq_none_iff.1 h x hx
    simp[this]
  |some j =>
    obtain⟨hj, h1, h2⟩ := List.findIdx?_eq_some_iff_getElem.1 h
    refine .inr ⟨j, hj, by unfold gK; rw[h], ?_⟩
    rw[List.find?_eq_some_iff_getElem]
    exact⟨h1, j, hj, rfl, λi hi => by have := h2 i hi; simpa using this⟩
def fU (P : List bA) (k : Int) (s : ByteArray) (n : Nat) (aF : List au) : Int :=
  if k = 2 then lU aF s 1
  else if k = 3 then lU aF s 2
  else if k = 4 \/ k = 5 \/ k = 44 \/ k = 45 then lU aF s 3
  else if k = 54 \/ k = 55 then jH aF s
  else if k = 50 \/ k = 51 then match P.find? (λq => q.name == s)with
    |none => 6
    |some q => if n = q.params.length then 0 else 7
  else 0
set_option maxRecDepth 100000 in
set_option maxHeartbeats 6400000 in
theorem QU (p : az) (k n : Int) (s : ByteArray) (ka : Option Addr) (l : List ae) (kc : Nat) (v : Value) (aF : List au) (w : World) (hp : jc w p) (hx : bJ w (.mk k n s (.slice ka l.length kc) l)) (hv : ay 3 au.cells w v aF) : Calls Tryz.prog 76 #[p.val, .agg #[.int .u8 k, .int .i64 n, .string s, .slice ka l.length kc], v] w (rP w (fU p.d.procs k s l.length aF)) := by
  obtain⟨vars, vv, procs, pv, ⟨mk, mn, ms, mv, ml⟩⟩ := p
  obtain⟨⟨va, vc, rfl⟩, ⟨pa, pc, rfl⟩, hm⟩ := hp.form
  obtain⟨ma, mc, rfl, -, -⟩ := hm.form
  have hpl : procs.length <= 9223372036854775807 := by obtain⟨_, _, _, _, h⟩ := hp.procs.row.form; exact h
  have hll : l.length <= 9223372036854775807 := by obtain⟨_, _, _, _, h⟩ := hx.form; exact h
  have HP := Lib.hid hp
  have HV := Lib.hid hv
  have HX := Lib.hid (show((w.alloc (.cells #[.slice va vars.length vc, .slice pa procs.length pc, .int .u8 mk, .int .i64 mn, .string ms, .slice ma ml.length mc] 42)).alloc (.cells #[.int .u8 k, .int .i64 n, .string s, .slice ka l.length kc] 40)).heap[w.heap.size]? = some (.cells #[.slice va vars.length vc, .slice pa procs.length pc, .int .u8 mk, .int .i64 mn, .string ms, .slice ma ml.length mc] 42 (0, 0))from bY (heap_alloc_new w _) _)
  have HN := Lib.hid (show((w.alloc (.cells #[.slice va vars.length vc, .slice pa procs.length pc, .int .u8 mk, .int .i64 mn, .string ms, .slice ma ml.length mc] 42)).alloc (.cells #[.int .u8 k, .int .i64 n, .string s, .slice ka l.length kc] 40)).heap[w.heap.size + 1]? = some (.cells #[.int .u8 k, .int .i64 n, .string s, .slice ka l.length kc] 40 (0, 0))from by
    have := heap_alloc_new (w.alloc (.cells #[.slice va vars.length vc, .slice pa procs.length pc, .int .u8 mk, .int .i64 mn, .string ms, .slice ma ml.length mc] 42)) (.cells #[.int .u8 k, .int .i64 n, .string s, .slice ka l.length kc] 40)
    simpa using this)
  have HG := Lib.hid (show Grow w ((w.alloc (.cells #[.slice va vars.length vc, .slice pa procs.length pc, .int .u8 mk, .int .i64 mn, .string ms, .slice ma ml.length mc] 42)).alloc (.cells #[.int .u8 k, .int .i64 n, .string s, .slice ka l.length kc] 40))from((Mv.refl _ w).alloc _).alloc _)
  have HR := Lib.hid (show fU (az.d ⟨vars, .slice va vars.length vc, procs, .slice pa procs.length pc, .mk mk mn ms (.slice ma ml.length mc) ml⟩).procs k s l.length aF = fU (procs.map aO.d) k s l.length aF from rfl)
  generalize fU (az.d ⟨vars, .slice va vars.length vc, procs, .slice pa procs.length pc, .mk mk mn ms (.slice ma ml.length mc) ml⟩).procs k s l.length aF = R at *
  clear hp hv hm hx
  simp only[az.val]
  have hcs : k = 2 \/ k = 3 \/ k = 4 \/ k = 5 \/ k = 44 \/ k = 45 \/ k = 54 \/ k = 55 \/ k = 50 \/ k = 51 \/ (k ≠ 2 /\ k ≠ 3 /\ k ≠ 4 /\ k ≠ 5 /\ k ≠ 44 /\ k ≠ 45 /\ k ≠ 54 /\ k ≠ 55 /\ k ≠ 50 /\ k ≠ 51) := by omega
  obtain⟨⟨x0, x1, x2⟩, x3, x4, x5⟩ := cB HX.out
  obtain⟨⟨n0, n1⟩, n2, n3⟩ := aJ HN.out
  have hxl := lt_of_block HX.out
  have hnl := lt_of_block HN.out
  rcases hcs with hk|hk|hk|hk|hk|hk|hk|hk|hk|hk|⟨m2, m3, m4, m5, Ni, Nj, Nk, Nl, Nn, Np⟩
  · subst hk
    have HE := Lib.hid (show R = lU aF s 1 from by rw[HR.out]; simp[fU])
    go_enter Tryz.func76, Tryz.ntmps76
    go_wp2_with fail
    refine(wL _ aF s 1 _ (HV.out.later HG.out)).mono ?_
    rintro e w2 ⟨rfl, hg⟩
    have HG2 := Lib.hid (gtr HG.out hg)
    clear hg
    go_wp2_with fail
    go_ret
    exact⟨cZ HE.out.symm, HG2.out⟩
  · subst hk
    have HE := Lib.hid (show R = lU aF s 2 from by rw[HR.out]; simp[fU])
    go_enter Tryz.func76, Tryz.ntmps76
    go_wp2_with fail
    refine(wL _ aF s 2 _ (HV.out.later HG.out)).mono ?_
    rintro e w2 ⟨rfl, hg⟩
    have HG2 := Lib.hid (gtr HG.out hg)
    clear hg
    go_wp2_with fail
    go_ret
    exact⟨cZ HE.out.symm, HG2.out⟩
  · subst hk
    have HE := Lib.hid (show R = lU aF s 3 from by rw[HR.out]; simp[fU])
    go_enter Tryz.func76, Tryz.ntmps76
    go_wp2_with fail
    refine(wL _ aF s 3 _ (HV.out.later HG.out)).mono ?_
    rintro e w2 ⟨rfl, hg⟩
    have HG2 := Lib.hid (gtr HG.out hg)
    clear hg
    go_wp2_with fail
    go_ret
    exact⟨cZ HE.out.symm, HG2.out⟩
  · subst hk
    have HE := Lib.hid (show R = lU aF s 3 from by rw[HR.out]; simp[fU])
    go_enter Tryz.func76, Tryz.ntmps76
    go_wp2_with fail
    refine(wL _ aF s 3 _ (HV.out.later HG.out)).mono ?_
    rintro e w2 ⟨rfl, hg⟩
    have HG2 := Lib.hid (gtr HG.out hg)
    clear hg
    go_wp2_with fail
    go_ret
    exact⟨cZ HE.out.symm, HG2.out⟩
  · subst hk
    have HE := Lib.hid (show R = lU aF s 3 from by rw[HR.out]; simp[fU])
    go_enter Tryz.func76, Tryz.ntmps76
    go_wp2_with fail
    refine(wL _ aF s 3 _ (HV.out.later HG.out)).mono ?_
    rintro e w2 ⟨rfl, hg⟩
    have HG2 := Lib.hid (gtr HG.out hg)
    clear hg
    go_wp2_with fail
    go_ret
    exact⟨cZ HE.out.symm, HG2.out⟩
  · subst hk
    have HE := Lib.hid (show R = lU aF s 3 from by rw[HR.out]; simp[fU])
    go_enter Tryz.func76, Tryz.ntmps76
    go_wp2_with fail
    refine(wL _ aF s 3 _ (HV.out.later HG.out)).mono ?_
    rintro e w2 ⟨rfl, hg⟩
    have HG2 := Lib.hid (gtr HG.out hg)
    clear hg
    go_wp2_with fail
    go_ret
    exact⟨cZ HE.out.symm, HG2.out⟩
  · subst hk
    have HE := Lib.hid (show R = jH aF s from by rw[HR.out]; simp[fU])
    go_enter Tryz.func76, Tryz.ntmps76
    go_wp2_with fail
    refine(AP _ aF s _ (HV.out.later HG.out)).mono ?_
    rintro e w2 ⟨rfl, hg⟩
    have HG2 := Lib.hid (gtr HG.out hg)
    clear hg
    go_wp2_with fail
    go_ret
    exact⟨cZ HE.out.symm, HG2.out⟩
  · subst hk
    have HE := Lib.hid (show R = jH aF s from by rw[HR.out]; simp[fU])
    go_enter Tryz.func76, Tryz.ntmps76
    go_wp2_with fail
    refine(AP _ aF s _ (HV.out.later HG.out)).mono ?_
    rintro e w2 ⟨rfl, hg⟩
    have HG2 := Lib.hid (gtr HG.out hg)
    clear hg
    go_wp2_with fail
    go_ret
    exact⟨cZ HE.out.symm, HG2.out⟩
  · subst hk
    have HE := Lib.hid (show R = match (procs.map aO.d).find? (λq => q.name == s)with
      |none => 6
      |some q => if l.length = q.params.length then 0 else 7 from by rw[HR.out]; simp[fU])
    have cK := Lib.hid (yA ⟨vars, .slice va vars.length vc, procs, .slice pa procs.length pc, .mk mk mn ms (.slice ma ml.length mc) ml⟩ s _ (HP.out.later HG.out))
    simp only[az.val, az.d]at cK
    go_enter Tryz.func76, Tryz.ntmps76
    go_wp2_with fail
    refine cK.out.mono ?_
    rintro e w2 ⟨rfl, hg⟩
    have HG2 := Lib.hid (gtr HG.out hg)
    have eH := Lib.hid (ai HX.out hg)
    have bL := Lib.hid (ai HN.out hg)
    clear hg cK x0 x1 x2 x3 x4 x5 n0 n1 n2 n3 hxl hnl
    rcases De (procs.map aO.d) s with⟨hi, hf⟩|⟨j, hj, hi, hf⟩
    · rw[hi]
      rw[hf]at HE
      clear hi hf
      go_wp2_with fail
      go_ret
      exact⟨cZ HE.out.symm, HG2.out⟩
    · rw[hi]
      rw[hf]at HE
      simp only[List.length_map]at hj
      simp only[List.getElem_map]at HE
      clear hi hf
      obtain⟨pb, po, gP, hpv, -, hcc⟩ := (HP.out.procs.later HG2.out).row.at hj
      simp only[Value.slice.injEq, true_and]at hpv
      obtain⟨rfl, rfl⟩ := hpv
      have fP := Lib.hid (HP.out.procs.each _ (List.getElem_mem hj))
      generalize procs[j] = q at *
      obtain⟨qs, aM, qv, qb⟩ := q
      obtain⟨qa, qc, rfl, -, -⟩ := fP.out.form
      have HE2 := Lib.hid (show R = if l.length = aM.length then 0 else 7 from HE.out)
      have fu := Lib.hid (hcc 1 _ rfl)
      clear hcc HE
      have hge : decide ((j : Int) < 0) = false := by simp
      go_upto_region 19 with fail
      have HK := Lib.hid (λ(y : World) (hy : Grow w2 y) => And.intro (ai eH.out hy) (And.intro (ai bL.out hy) (show y.cell? ⟨pb, po + j * 6 + 1, none⟩ = some (.slice qa aM.length qc)from by
        rw[← fu.out]
        exact World.cell?_of_block (w := w2) (w' := y) (a := ⟨pb, po + j * 6 + 1, none⟩) (hy.block _ (World.block_lt_of_cell? w2 _ fu.out) (λe => e)))))
      have Un := hpl
      refine wg 58 [some 47, some 48, some 49, some 50, some 51, some 52, some 53, some 54, some 55, some 56, some 57] [[], [0], [1], [], [3], [], [4, 5], [6], [7], [8], [2, 9]] [] [.c (.pointer (some ⟨w.heap.size + 1, 3, none⟩)), .c (.slice ka l.length kc), .c (.int .i64 l.length), .c (.pointer (some ⟨w.heap.size, 1, none⟩)), .c (.slice (some ⟨pb, po, none⟩) procs.length pc), .c (.int .i64 j), .c (.pointer (some ⟨pb, po + j * 6, none⟩)), .c (.pointer (some ⟨pb, po + j * 6 + 1, none⟩)), .c (.slice qa aM.length qc), .c (.int .i64 aM.length), .c (.bool (((l.length : Nat) : Int) != (aM.length : Nat)))] trivial (dJ rfl) ?steps ?done
      case steps =>
        refine⟨?s0, ?s1, ?s2, ?s3, ?s4, ?s5, ?s6, ?s7, ?s8, ?s9, ?s10, trivial⟩
        case s0 =>
          refine oo (λvs x hP => ?_)
          simp only[zS]
          go_simp
          exact gc
        case s1 =>
          refine ok HK (λvs x hG HX hP => ?_)
          obtain⟨⟨n0, n1⟩, n2, n3⟩ := aJ HX.out.2.1
          simp only[zS]
          go_simp
          exact gc
        case s2 =>
          refine oo (λvs x hP => ?_)
          simp only[zS]
          go_simp
          exact gc
        case s3 =>
          refine oo (λvs x hP => ?_)
          simp only[zS]
          go_simp
          exact gc
        case s4 =>
          refine ok HK (λvs x hG HX hP => ?_)
          obtain⟨⟨x0, x1, x2⟩, x3, x4, x5⟩ := cB HX.out.1
          simp only[zS]
          go_simp
          exact gc
        case s5 =>
          refine oo (λvs x hP => ?_)
          simp only[zS]
          go_simp
          exact gc
        case s6 =>
          refine oo (λvs x hP => ?_)
          simp only[zS]
          go_simp
          exact gc
        case s7 =>
          refine oo (λvs x hP => ?_)
          simp only[zS]
          go_simp
          exact gc
        case s8 =>
          refine ok HK (λvs x hG HX hP => ?_)
          have c1 := HX.out.2.2
          simp only[zS]
          go_simp
          exact gc
        case s9 =>
          refine oo (λvs x hP => ?_)
          simp only[zS]
          go_simp
          exact gc
        case s10 =>
          refine oo (λvs x hP => ?_)
          simp only[zS]
          go_simp
          exact gc
      case done =>
      intro vs wx hE
      have hG := hE.grow
      have aA := Lib.hid (gtr HG2.out hG)
      clear hE hG
      simp only[zS, Nat.reduceAdd]
      by_cases hq : l.length = aM.length
      · have HF := Lib.hid (show R = 0 from by rw[HE2.out, if_pos hq])
        have eb : (((l.length : Nat) : Int) != (aM.length : Nat)) = false := by simp[hq]
        clear hq
        go_wp2_with fail
        go_ret
        exact⟨cZ HF.out.symm, aA.out⟩
      · have HF := Lib.hid (show R = 7 from by rw[HE2.out, if_neg hq])
        have eb : (((l.length : Nat) : Int) != (aM.length : Nat)) = true := by simp; omega
        clear hq
        go_wp2_with fail
        go_ret
        exact⟨cZ HF.out.symm, aA.out⟩
  · subst hk
    have HE := Lib.hid (show R = match (procs.map aO.d).find? (λq => q.name == s)with
      |none => 6
      |some q => if l.length = q.params.length then 0 else 7 from by rw[HR.out]; simp[fU])
    have cK := Lib.hid (yA ⟨vars, .slice va vars.length vc, procs, .slice pa procs.length pc, .mk mk mn ms (.slice ma ml.length mc) ml⟩ s _ (HP.out.later HG.out))
    simp only[az.val, az.d]at cK
    go_enter Tryz.func76, Tryz.ntmps76
    go_wp2_with fail
    refine cK.out.mono ?_
    rintro e w2 ⟨rfl, hg⟩
    have HG2 := Lib.hid (gtr HG.out hg)
    have eH := Lib.hid (ai HX.out hg)
    have bL := Lib.hid (ai HN.out hg)
    clear hg cK x0 x1 x2 x3 x4 x5 n0 n1 n2 n3 hxl hnl
    rcases De (procs.map aO.d) s with⟨hi, hf⟩|⟨j, hj, hi, hf⟩
    · rw[hi]
      rw[hf]at HE
      clear hi hf
      go_wp2_with fail
      go_ret
      exact⟨cZ HE.out.symm, HG2.out⟩
    · rw[hi]
      rw[hf]at HE
      simp only[List.length_map]at hj
      simp only[List.getElem_map]at HE
      clear hi hf
      obtain⟨pb, po, gP, hpv, -, hcc⟩ := (HP.out.procs.later HG2.out).row.at hj
      simp only[Value.slice.injEq, true_and]at hpv
      obtain⟨rfl, rfl⟩ := hpv
      have fP := Lib.hid (HP.out.procs.each _ (List.getElem_mem hj))
      generalize procs[j] = q at *
      obtain⟨qs, aM, qv, qb⟩ := q
      obtain⟨qa, qc, rfl, -, -⟩ := fP.out.form
      have HE2 := Lib.hid (show R = if l.length = aM.length then 0 else 7 from HE.out)
      have fu := Lib.hid (hcc 1 _ rfl)
      clear hcc HE
      have hge : decide ((j : Int) < 0) = false := by simp
      go_upto_region 19 with fail
      have HK := Lib.hid (λ(y : World) (hy : Grow w2 y) => And.intro (ai eH.out hy) (And.intro (ai bL.out hy) (show y.cell? ⟨pb, po + j * 6 + 1, none⟩ = some (.slice qa aM.length qc)from by
        rw[← fu.out]
        exact World.cell?_of_block (w := w2) (w' := y) (a := ⟨pb, po + j * 6 + 1, none⟩) (hy.block _ (World.block_lt_of_cell? w2 _ fu.out) (λe => e)))))
      have Un := hpl
      refine wg 58 [some 47, some 48, some 49, some 50, some 51, some 52, some 53, some 54, some 55, some 56, some 57] [[], [0], [1], [], [3], [], [4, 5], [6], [7], [8], [2, 9]] [] [.c (.pointer (some ⟨w.heap.size + 1, 3, none⟩)), .c (.slice ka l.length kc), .c (.int .i64 l.length), .c (.pointer (some ⟨w.heap.size, 1, none⟩)), .c (.slice (some ⟨pb, po, none⟩) procs.length pc), .c (.int .i64 j), .c (.pointer (some ⟨pb, po + j * 6, none⟩)), .c (.pointer (some ⟨pb, po + j * 6 + 1, none⟩)), .c (.slice qa aM.length qc), .c (.int .i64 aM.length), .c (.bool (((l.length : Nat) : Int) != (aM.length : Nat)))] trivial (dJ rfl) ?steps ?done
      case steps =>
        refine⟨?s0, ?s1, ?s2, ?s3, ?s4, ?s5, ?s6, ?s7, ?s8, ?s9, ?s10, trivial⟩
        case s0 =>
          refine oo (λvs x hP => ?_)
          simp only[zS]
          go_simp
          exact gc
        case s1 =>
          refine ok HK (λvs x hG HX hP => ?_)
          obtain⟨⟨n0, n1⟩, n2, n3⟩ := aJ HX.out.2.1
          simp only[zS]
          go_simp
          exact gc
        case s2 =>
          refine oo (λvs x hP => ?_)
          simp only[zS]
          go_simp
          exact gc
        case s3 =>
          refine oo (λvs x hP => ?_)
          simp only[zS]
          go_simp
          exact gc
        case s4 =>
          refine ok HK (λvs x hG HX hP => ?_)
          obtain⟨⟨x0, x1, x2⟩, x3, x4, x5⟩ := cB HX.out.1
          simp only[zS]
          go_simp
          exact gc
        case s5 =>
          refine oo (λvs x hP => ?_)
          simp only[zS]
          go_simp
          exact gc
        case s6 =>
          refine oo (λvs x hP => ?_)
          simp only[zS]
          go_simp
          exact gc
        case s7 =>
          refine oo (λvs x hP => ?_)
          simp only[zS]
          go_simp
          exact gc
        case s8 =>
          refine ok HK (λvs x hG HX hP => ?_)
          have c1 := HX.out.2.2
          simp only[zS]
          go_simp
          exact gc
        case s9 =>
          refine oo (λvs x hP => ?_)
          simp only[zS]
          go_simp
          exact gc
        case s10 =>
          refine oo (λvs x hP => ?_)
          simp only[zS]
          go_simp
          exact gc
      case done =>
      intro vs wx hE
      have hG := hE.grow
      have aA := Lib.hid (gtr HG2.out hG)
      clear hE hG
      simp only[zS, Nat.reduceAdd]
      by_cases hq : l.length = aM.length
      · have HF := Lib.hid (show R = 0 from by rw[HE2.out, if_pos hq])
        have eb : (((l.length : Nat) : Int) != (aM.length : Nat)) = false := by simp[hq]
        clear hq
        go_wp2_with fail
        go_ret
        exact⟨cZ HF.out.symm, aA.out⟩
      · have HF := Lib.hid (show R = 7 from by rw[HE2.out, if_neg hq])
        have eb : (((l.length : Nat) : Int) != (aM.length : Nat)) = true := by simp; omega
        clear hq
        go_wp2_with fail
        go_ret
        exact⟨cZ HF.out.symm, aA.out⟩
  · have HE := Lib.hid (show R = 0 from by rw[HR.out]; simp[fU, m2, m3, m4, m5, Ni, Nj, Nk, Nl, Nn, Np])
    have e2 : (k == 2) = false := by simpa using m2
    have e3 : (k == 3) = false := by simpa using m3
    have e4 : (k == 4) = false := by simpa using m4
    have e5 : (k == 5) = false := by simpa using m5
    have e44 : (k == 44) = false := by simpa using Ni
    have e45 : (k == 45) = false := by simpa using Nj
    have e54 : (k == 54) = false := by simpa using Nk
    have e55 : (k == 55) = false := by simpa using Nl
    have e50 : (k == 50) = false := by simpa using Nn
    have e51 : (k == 51) = false := by simpa using Np
    go_enter Tryz.func76, Tryz.ntmps76
    go_wp2_with fail
    go_ret
    exact⟨cZ HE.out.symm, HG.out⟩
theorem pQ {O : Nat -> Prop} {w w' : World} (h : Mv O w w') (n : Nat) : Mv O w (w'.drewN n) := ⟨h.os, h.tape, h.output, h.size, h.block⟩
def lK (P : List bA) (s : ByteArray) (n : Nat) (a : ByteArray) (i : Nat) (aF : List au) : Int := match fD aF a with
  |none => 6
  |some v => match P.find? (λq => q.name == s)with
    |none => 0
    |some q => if n = q.params.length then(if v.kind = (q.params.getD i jJ).kind /\ v.len = (q.params.getD i jJ).len then 0 else 7)else 0
set_option maxRecDepth 100000 in
set_option maxHeartbeats 6400000 in
theorem Pv (p : az) (k n : Int) (s : ByteArray) (kb ko : Nat) (l : List ae) (kc : Nat) (i : Nat) (hi : i < l.length) (v : Value) (aF : List au) (w : World) (hp : jc w p) (hx : bJ w (.mk k n s (.slice (some ⟨kb, ko, none⟩) l.length kc) l)) (hv : ay 3 au.cells w v aF) : Calls Tryz.prog 78 #[p.val, .agg #[.int .u8 k, .int .i64 n, .string s, .slice (some ⟨kb, ko, none⟩) l.length kc], .int .i64 i, v] w (rP w (lK p.d.procs s l.length l[i].t.name i aF)) := by
  obtain⟨vars, vv, procs, pv, ⟨mk, mn, ms, mv, ml⟩⟩ := p
  obtain⟨⟨va, vc, rfl⟩, ⟨pa, pc, rfl⟩, hm⟩ := hp.form
  obtain⟨ma, mc, rfl, -, -⟩ := hm.form
  have hpl : procs.length <= 9223372036854775807 := by obtain⟨_, _, _, _, h⟩ := hp.procs.row.form; exact h
  have hll : l.length <= 9223372036854775807 := by obtain⟨_, _, _, _, h⟩ := hx.form; exact h
  have HP := Lib.hid hp
  have HV := Lib.hid hv
  have HX := Lib.hid (show((w.alloc (.cells #[.slice va vars.length vc, .slice pa procs.length pc, .int .u8 mk, .int .i64 mn, .string ms, .slice ma ml.length mc] 42)).alloc (.cells #[.int .u8 k, .int .i64 n, .string s, .slice (some ⟨kb, ko, none⟩) l.length kc] 40)).heap[w.heap.size]? = some (.cells #[.slice va vars.length vc, .slice pa procs.length pc, .int .u8 mk, .int .i64 mn, .string ms, .slice ma ml.length mc] 42 (0, 0))from bY (heap_alloc_new w _) _)
  have HN := Lib.hid (show((w.alloc (.cells #[.slice va vars.length vc, .slice pa procs.length pc, .int .u8 mk, .int .i64 mn, .string ms, .slice ma ml.length mc] 42)).alloc (.cells #[.int .u8 k, .int .i64 n, .string s, .slice (some ⟨kb, ko, none⟩) l.length kc] 40)).heap[w.heap.size + 1]? = some (.cells #[.int .u8 k, .int .i64 n, .string s, .slice (some ⟨kb, ko, none⟩) l.length kc] 40 (0, 0))from by
    have := heap_alloc_new (w.alloc (.cells #[.slice va vars.length vc, .slice pa procs.length pc, .int .u8 mk, .int .i64 mn, .string ms, .slice ma ml.length mc] 42)) (.cells #[.int .u8 k, .int .i64 n, .string s, .slice (some ⟨kb, ko, none⟩) l.length kc] 40)
    simpa using this)
  have HG := Lib.hid (show Grow w ((w.alloc (.cells #[.slice va vars.length vc, .slice pa procs.length pc, .int .u8 mk, .int .i64 mn, .string ms, .slice ma ml.length mc] 42)).alloc (.cells #[.int .u8 k, .int .i64 n, .string s, .slice (some ⟨kb, ko, none⟩) l.length kc] 40))from((Mv.refl _ w).alloc _).alloc _)
  have eY := (rF hx i hi).later HG.out
  have HR := Lib.hid (show lK (az.d ⟨vars, .slice va vars.length vc, procs, .slice pa procs.length pc, .mk mk mn ms (.slice ma ml.length mc) ml⟩).procs s l.length l[i].t.name i aF = lK (procs.map aO.d) s l.length l[i].t.name i aF from rfl)
  generalize lK (az.d ⟨vars, .slice va vars.length vc, procs, .slice pa procs.length pc, .mk mk mn ms (.slice ma ml.length mc) ml⟩).procs s l.length l[i].t.name i aF = R at *
  generalize l[i] = y at *
  obtain⟨yk, yn, ys, yv, yl⟩ := y
  obtain⟨ya, yc, rfl, -, -⟩ := eY.at_.form
  obtain⟨⟨d0, d1⟩, d2, d3⟩ := eY.four
  have HR1 := Lib.hid (show R = lK (procs.map aO.d) s l.length ys i aF from HR.out)
  have hbl : kb < ((w.alloc (.cells #[.slice va vars.length vc, .slice pa procs.length pc, .int .u8 mk, .int .i64 mn, .string ms, .slice ma ml.length mc] 42)).alloc (.cells #[.int .u8 k, .int .i64 n, .string s, .slice (some ⟨kb, ko, none⟩) l.length kc] 40)).heap.size := World.block_lt_of_cell? _ _ d0
  have xJ := Lib.hid hx
  clear hp hv hm hx eY HR
  simp only[az.val]
  obtain⟨⟨n0, n1⟩, n2, n3⟩ := aJ HN.out
  have hnl := lt_of_block HN.out
  have Nq := Lib.hid (A8 _ aF ys _ (HV.out.later HG.out))
  go_enter Tryz.func78, Tryz.ntmps78
  go_wp2_with fail
  refine Nq.out.mono ?_
  rintro e w2 ⟨rfl, hg⟩
  have HG2 := Lib.hid (gtr HG.out hg)
  have eH := Lib.hid (ai HX.out hg)
  have bL := Lib.hid (ai HN.out hg)
  clear hg Nq d0 d1 d2 d3 n0 n1 n2 n3 hbl hnl
  generalize sO : fD aF ys = fd at *
  cases fd with
  |none =>
    have HE := Lib.hid (show R = 6 from by rw[HR1.out]; unfold lK; rw[sO])
    simp only[Option.getD_none, Option.isSome_none, jJ]
    clear sO
    go_wp2_with fail
    go_ret
    exact⟨cZ HE.out.symm, HG2.out.alloc _⟩
  |some fv =>
    obtain⟨fs, fk, fn⟩ := fv
    simp only[Option.getD_some, Option.isSome_some]
    have HE := Lib.hid (show R = match (procs.map aO.d).find? (λq => q.name == s)with
      |none => 0
      |some q => if l.length = q.params.length then(if fk = (q.params.getD i jJ).kind /\ fn = (q.params.getD i jJ).len then 0 else 7)else 0 from by rw[HR1.out]; unfold lK; rw[sO])
    clear sO HR1
    have aA := Lib.hid (show Grow w (w2.alloc (.cells #[.string fs, .int .u8 fk, .int .i64 fn] 50))from HG2.out.alloc _)
    have iU := Lib.hid (bY eH.out (.cells #[.string fs, .int .u8 fk, .int .i64 fn] 50))
    have eU := Lib.hid (bY bL.out (.cells #[.string fs, .int .u8 fk, .int .i64 fn] 50))
    have uN := Lib.hid (heap_alloc_new w2 (.cells #[.string fs, .int .u8 fk, .int .i64 fn] 50))
    have cK := Lib.hid (yA ⟨vars, .slice va vars.length vc, procs, .slice pa procs.length pc, .mk mk mn ms (.slice ma ml.length mc) ml⟩ s _ (HP.out.later aA.out))
    simp only[az.val, az.d]at cK
    obtain⟨⟨x0, x1, x2⟩, x3, x4, x5⟩ := cB eH.out
    obtain⟨⟨n0, n1⟩, n2, n3⟩ := aJ bL.out
    have hxl := lt_of_block eH.out
    have hnl := lt_of_block bL.out
    go_wp2_with fail
    generalize (w2.alloc (.cells #[.string fs, .int .u8 fk, .int .i64 fn] 50)) = w3 at *
    refine cK.out.mono ?_
    rintro e w4 ⟨rfl, hg⟩
    have bB := Lib.hid (gtr aA.out hg)
    have bU := Lib.hid (ai iU.out hg)
    have uR := Lib.hid (ai eU.out hg)
    have ve := Lib.hid (ai uN.out hg)
    clear hg cK x0 x1 x2 x3 x4 x5 n0 n1 n2 n3 hxl hnl iU eU uN eH bL
    obtain⟨⟨x0, x1, x2⟩, x3, x4, x5⟩ := cB bU.out
    obtain⟨⟨n0, n1⟩, n2, n3⟩ := aJ uR.out
    obtain⟨f0, f1, f2⟩ := dF ve.out
    have hxl := lt_of_block bU.out
    have hnl := lt_of_block uR.out
    have hfl := lt_of_block ve.out
    rcases De (procs.map aO.d) s with⟨hj, hf⟩|⟨j, hjl, hj, hf⟩
    · rw[hj]
      rw[hf]at HE
      clear hj hf
      go_wp2_with fail
      go_region
      all_goals
        go_wp2_with fail
        go_ret
        exact⟨cZ HE.out.symm, bB.out.drew⟩
    · rw[hj]
      rw[hf]at HE
      simp only[List.length_map]at hjl
      simp only[List.getElem_map]at HE
      clear hj hf
      obtain⟨pb, po, gP, hpv, -, hcc⟩ := (HP.out.procs.later bB.out).row.at hjl
      simp only[Value.slice.injEq, true_and]at hpv
      obtain⟨rfl, rfl⟩ := hpv
      have fP := Lib.hid ((HP.out.procs.later bB.out).each _ (List.getElem_mem hjl))
      generalize procs[j] = q at *
      obtain⟨qs, aM, qv, qb⟩ := q
      obtain⟨qa, qc, rfl, -, vg⟩ := fP.out.form
      have HE2 := Lib.hid (show R = if l.length = aM.length then(if fk = (aM.getD i jJ).kind /\ fn = (aM.getD i jJ).len then 0 else 7)else 0 from HE.out)
      have c1 := hcc 1 _ rfl
      have hpb : pb < w4.heap.size := World.block_lt_of_cell? w4 _ c1
      have hge : decide ((j : Int) < 0) = false := by simp
      clear hcc HE
      go_wp2_with fail
      by_cases hq : l.length = aM.length
      · have eb : (((l.length : Nat) : Int) != (aM.length : Nat)) = false := by simp[hq]
        have V5 := Lib.hid (show R = if fk = (aM.getD i jJ).kind /\ fn = (aM.getD i jJ).len then 0 else 7 from by rw[HE2.out, if_pos hq])
        have FB := Lib.hid fP.out.params
        simp only at FB
        go_region
        have bI := Lib.hid (bB.out.drew)
        have eT := Lib.hid (show(w4.drew).heap[w.heap.size]? = some (.cells #[.slice va vars.length vc, .slice (some ⟨pb, po, none⟩) procs.length pc, .int .u8 mk, .int .i64 mn, .string ms, .slice ma ml.length mc] 42 (0, 0))from bU.out)
        have Nr := Lib.hid (show(w4.drew).heap[w2.heap.size]? = some (.cells #[.string fs, .int .u8 fk, .int .i64 fn] 50 (0, 0))from ve.out)
        have vw := Lib.hid (FB.out.later ((Mv.refl (λ_ => False) w4).drew))
        have c15 : (w4.drew).cell? ⟨pb, po + j * 6 + 1, none⟩ = some (.slice qa aM.length qc) := c1
        have XY : pb < (w4.drew).heap.size := hpb
        generalize w4.drew = w5 at *
        clear x0 x1 x2 x3 x4 x5 n0 n1 n2 n3 hxl hnl f0 f1 f2 hfl c1 hpb ve bU uR HP fP FB
        have Ns : i < aM.length := by omega
        obtain⟨V6, qo, Uo, u7, -, hcc⟩ := vw.out.at Ns
        simp only[Value.slice.injEq, true_and]at u7
        obtain⟨rfl, rfl⟩ := u7
        have Ch := Lib.hid (show R = if fk = aM[i].kind /\ fn = aM[i].len then 0 else 7 from by
          rw[V5.out, show aM.getD i jJ = aM[i] by simp[List.getD, Ns]])
        generalize aM[i] = pr at *
        obtain⟨rs, rk, rn⟩ := pr
        have e0 := hcc 0 _ rfl
        have e1 := hcc 1 _ rfl
        have e2 := hcc 2 _ rfl
        simp only[Nat.add_zero]at e0
        have vz : V6 < w5.heap.size := World.block_lt_of_cell? w5 _ e0
        obtain⟨⟨x0, x1, x2⟩, x3, x4, x5⟩ := cB eT.out
        obtain⟨f0, f1, f2⟩ := dF Nr.out
        have hxl := lt_of_block eT.out
        have hfl := lt_of_block Nr.out
        simp only at Ch
        clear hcc
        by_cases hk1 : fk = rk
        · subst hk1
          by_cases hk2 : fn = rn
          · subst hk2
            have HF := Lib.hid (show R = 0 from by rw[Ch.out]; simp)
            go_wp2_with fail
            go_ret
            exact⟨cZ HF.out.symm, bI.out.alloc _⟩
          · have HF := Lib.hid (show R = 7 from by rw[Ch.out]; simp[hk2])
            have en : (fn != rn) = true := by simpa using hk2
            clear hk2
            go_wp2_with fail
            go_ret
            exact⟨cZ HF.out.symm, bI.out.alloc _⟩
        · have HF := Lib.hid (show R = 7 from by rw[Ch.out]; simp[hk1])
          have en : (fk != rk) = true := by simpa using hk1
          clear hk1
          go_wp2_with fail
          go_ret
          exact⟨cZ HF.out.symm, bI.out.alloc _⟩
      · have eb : (((l.length : Nat) : Int) != (aM.length : Nat)) = true := by simp; omega
        have HF := Lib.hid (show R = 0 from by rw[HE2.out, if_neg hq])
        go_region
        all_goals
          go_wp2_with fail
          go_ret
          exact⟨cZ HF.out.symm, bB.out.drew⟩
end Go.Proofs.YtbpodipdfohikaaGreat
