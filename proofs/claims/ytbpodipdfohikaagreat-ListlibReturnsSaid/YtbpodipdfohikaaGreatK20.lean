import Derived.Test.YtbpodipdfohikaaGreatK19
import Derived.Deep.DeepCutAuto
import Derived.Deep.CutBlock
set_option linter.unusedSimpArgs false
set_option linter.unusedVariables false
set_option maxRecDepth 100000
set_option maxHeartbeats 25600000
namespace Go.Proofs.YtbpodipdfohikaaGreat
open Go.RowKit Go.Instr
attribute [local go_sem ↓] fV
theorem Dx {α : Type} {n : Nat} {f : α -> List Value} {w : World} {a : Option Addr} {c : Nat} {l : List α} (h : ay n f w (.slice a l.length c) l) (j : Nat) (hj : j <= l.length) : ay n f w (.slice a j c) (l.take j) := by
  obtain⟨a', c', e, h2, h3, h4⟩ := h
  simp only[Value.slice.injEq, true_and]at e
  obtain⟨rfl, rfl⟩ := e
  exact⟨a, c, by simp[hj], by simp; omega, by simp; omega, λi x hx => h4 i x (by
    rw[List.getElem?_take]at hx
    split at hx
    · exact hx
    · cases hx)⟩
theorem ay.cap {α : Type} {n : Nat} {f : α -> List Value} {w : World} {a : Option Addr} {k c : Nat} {l : List α} (h : ay n f w (.slice a k c) l) : l.length <= c := by
  obtain⟨a', c', e, h2, -⟩ := h
  simp only[Value.slice.injEq]at e
  omega
theorem Qq {a : Option Addr} {n m c : Nat} (h : n = m) : Ending.returned (.slice a n c) = .returned (.slice a m c) := by rw[h]
theorem take_at {α : Type} (l : List α) (j : Nat) (h : j < l.length) : l.take (j + 1) = l.take j ++ [l[j]] := List.take_succ_eq_append_getElem h
set_option maxRecDepth 100000 in
set_option maxHeartbeats 12800000 in
theorem Qr (p : az) (w : World) (hp : je w p) : Calls Tryz.prog 31 #[p.val] w (Sj w p.d.faults) := by
  have mi := Lib.hid (λz (hz : Grow w z) => Gy p z (hp.later hz))
  obtain⟨vars, Vo, procs, Vp, ⟨mk, mn, ms, mv, ml⟩⟩ := p
  obtain⟨⟨va, vc, rfl⟩, ⟨pa, pc, rfl⟩, hm⟩ := hp.form
  obtain⟨ma, mc, rfl, -, -⟩ := hm.form
  have Cc := Lib.hid hp
  have Xe : vars.length <= vc := ay.cap hp.vars
  clear hp hm
  have vg := Lib.hid (show(az.d ⟨vars, .slice va vars.length vc, procs, .slice pa procs.length pc, .mk mk mn ms (.slice ma ml.length mc) ml⟩).faults = if(az.d ⟨vars, .slice va vars.length vc, procs, .slice pa procs.length pc, .mk mk mn ms (.slice ma ml.length mc) ml⟩).okB then gq [] vars + (kC (procs.map aO.d) 0 (procs.map aO.d) + jL (procs.map aO.d) (ae.t (.mk mk mn ms (.slice ma ml.length mc) ml)) vars)else 0 from rfl)
  have bF := Lib.hid (Ha vars (.slice va vars.length vc) procs (.slice pa procs.length pc) (.mk mk mn ms (.slice ma ml.length mc) ml))
  generalize (az.d ⟨vars, .slice va vars.length vc, procs, .slice pa procs.length pc, .mk mk mn ms (.slice ma ml.length mc) ml⟩).faults = V at *
  generalize hok : (az.d ⟨vars, .slice va vars.length vc, procs, .slice pa procs.length pc, .mk mk mn ms (.slice ma ml.length mc) ml⟩).okB = ok at *
  simp only[az.val]at mi ⊢
  have aj := Lib.hid (show Grow w (w.alloc (.cells #[.slice va vars.length vc, .slice pa procs.length pc, .int .u8 mk, .int .i64 mn, .string ms, .slice ma ml.length mc] 42))from(Mv.refl _ w).alloc _)
  have jH := Lib.hid (heap_alloc_new w (.cells #[.slice va vars.length vc, .slice pa procs.length pc, .int .u8 mk, .int .i64 mn, .string ms, .slice ma ml.length mc] 42))
  have MO := Lib.hid (mi.out _ aj.out)
  clear mi
  go_enter Tryz.func31, Tryz.ntmps31
  go_wp2_with fail
  generalize (w.alloc (.cells #[.slice va vars.length vc, .slice pa procs.length pc, .int .u8 mk, .int .i64 mn, .string ms, .slice ma ml.length mc] 42)) = w1 at *
  refine MO.out.mono ?_
  rintro e w2 ⟨rfl, hg2⟩
  have HG2 := Lib.hid (gtr aj.out hg2)
  have eO := Lib.hid (ai jH.out hg2)
  clear hg2 hok MO
  cases ok with
  |false =>
    have HF := Lib.hid (show V = 0 from vg.out)
    go_wp2_with fail
    go_ret
    exact⟨none, 0, (by rw[HF.out]; rfl), HG2.out⟩
  |true =>
    have HF := Lib.hid (show V = gq [] vars + (kC (procs.map aO.d) 0 (procs.map aO.d) + jL (procs.map aO.d) (ae.t (.mk mk mn ms (.slice ma ml.length mc) ml)) vars)from vg.out)
    have hb := bF.out.symm
    simp only[Bool.and_eq_true, decide_eq_true_eq]at hb
    obtain⟨⟨hv32, Eo, hvd⟩, hpo, hmo⟩ := hb
    have HB1 := Lib.hid (AX vars [])
    have HB2 := Lib.hid (Hg (procs.map aO.d) (procs.map aO.d) 0 hpo)
    have HB3 := Lib.hid (Aw (procs.map aO.d) (ae.t (.mk mk mn ms (.slice ma ml.length mc) ml)) vars)
    have dC := Lib.hid (CZ hmo)
    have MP := Lib.hid hpo
    clear hvd hpo hmo bF vg
    obtain⟨⟨x0, x1, x2⟩, x3, x4, x5⟩ := cz eO.out
    have hxl := lt_of_block eO.out
    go_wp2_with fail
    generalize Fy : w2.heap.size = B at *
    have hB1 : w2.heap.size <= B := by omega
    have qG := Lib.hid (Cc.out.later HG2.out)
    have Bv := Lib.hid (show iL w2 B ((w2.alloc (.cells #[.slice none 0 0] 66)).alloc (.cells #[.func (.func 50) #[] #[.pointer (some ⟨B, 0, none⟩)]] 87)) 0 from⟨((Mv.refl _ w2).alloc _).alloc _, ⟨_, [], by rw[← Fy]; exact bX (heap_alloc_new w2 _) _, World.ownsRow_nil _ _ _ _, rfl⟩, hB1⟩)
    have Er := Lib.hid (show((w2.alloc (.cells #[.slice none 0 0] 66)).alloc (.cells #[.func (.func 50) #[] #[.pointer (some ⟨B, 0, none⟩)]] 87)).heap[B + 1]? = some (.cells #[.func (.func 50) #[] #[.pointer (some ⟨B, 0, none⟩)]] 87 (0, 0))from by
      have := heap_alloc_new (w2.alloc (.cells #[.slice none 0 0] 66)) (.cells #[.func (.func 50) #[] #[.pointer (some ⟨B, 0, none⟩)]] 87)
      subst Fy; simpa using this)
    generalize ((w2.alloc (.cells #[.slice none 0 0] 66)).alloc (.cells #[.func (.func 50) #[] #[.pointer (some ⟨B, 0, none⟩)]] 87)) = w3 at *
    clear x0 x1 x2 x3 x4 x5 hxl Fy
    go_loopw [18] (λt wr => ∃ (j c : Nat), t = .int .i64 j /\ j <= vars.length /\ iL w2 B wr c /\ bN w2 B w3 wr /\ c + gq (vars.take j) (vars.drop j) = gq [] vars) (λt _ => vars.length - (intOf t).toNat)
    case atStart => exact⟨0, 0, rfl, Nat.zero_le _, Bv.out, Mv.refl _ _, by simp⟩
    obtain⟨j, c, rfl, hj, hst', jQ, hrest⟩ := hrel
    have iy := Lib.hid hst'
    have fH := Lib.hid jQ
    have dm := Lib.hid hrest
    clear hst' jQ hrest
    by_cases hlt : j < vars.length
    · obtain⟨kb, ko, ni, dN, -, hcc⟩ := (qG.out.vars.later iy.out.g).at hlt
      simp only[Value.slice.injEq, true_and]at dN
      obtain⟨rfl, rfl⟩ := dN
      have HE := Lib.hid (show gq (vars.take j) (vars.drop j) = jE (jK (vars.take j) vars[j].name) + gq (vars.take (j + 1)) (vars.drop (j + 1))from by
        rw[drop_at _ j hlt, gq, take_at _ j hlt])
      generalize vars[j] = x at *
      obtain⟨xs, xk, xn⟩ := x
      have c0 := hcc 0 _ rfl
      have c1 := hcc 1 _ rfl
      have c2 := hcc 2 _ rfl
      simp only[Nat.add_zero]at c0 HE
      have hbl : kb < wr.heap.size := World.block_lt_of_cell? wr _ c0
      have jX := Lib.hid (heap_alloc_new wr (.cells #[.string xs, .int .u8 xk, .int .i64 xn] 50))
      have fU := Lib.hid (show Grow wr (wr.alloc (.cells #[.string xs, .int .u8 xk, .int .i64 xn] 50))from(Mv.refl _ wr).alloc _)
      have kL := Lib.hid (iy.out.grow fU.out)
      have wZ := Lib.hid (ai (fH.out.keep' Bv.out Er.out (by decide) (by decide)) fU.out)
      have mh := Lib.hid (ai eO.out kL.out.g)
      clear hcc
      go_upto_region 8 with fail
      generalize (wr.alloc (.cells #[.string xs, .int .u8 xk, .int .i64 xn] 50)) = w4 at *
      have fw := Lib.hid (λ(y : World) (hy : Grow w4 y) => And.intro (ai mh.out hy) (And.intro (ai wZ.out hy) (And.intro (ai jX.out hy) True.intro)))
      have aA := Lib.hid kL.out.g
      clear c0 c1 c2
      refine jr 12 93 [some 23, some 24, some 25, some 26, some 27, some 28, some 29, some 30, some 31, some 32, some 33, some 34] [[], [], [1], [], [3], [], [5], [], [6, 7], [], [9], [8, 10]] [] [.c (.func (.func 50) #[] #[.pointer (some ⟨B, 0, none⟩)]), .c (.int .i64 j), .p (λv y => ∃ g, v = .slice (some ⟨g, 0, none⟩) 1 1 /\ y.heap[g]? = some (.cells #[.int .i64 j] 3 (0, 0))), .c (.pointer (some ⟨wr.heap.size, 0, none⟩)), .c (.string xs), .c (.pointer (some ⟨w.heap.size, 0, none⟩)), .c (.slice (some ⟨kb, ko, none⟩) vars.length vc), .c (.int .i64 j), .c (.slice (some ⟨kb, ko, none⟩) j vc), .c (.pointer (some ⟨wr.heap.size, 0, none⟩)), .c (.string xs), .c (.int .i64 (jK (vars.take j) xs))] ⟨⟨(λv x y hg h => by obtain⟨g, hv, hb⟩ := h; exact⟨g, hv, ai hb hg⟩), λ_ => bg⟩, trivial⟩ (dG rfl) ?steps ?done
      case steps =>
        refine⟨?s0, ?s1, ?s2, ?s3, ?s4, ?s5, ?s6, ?s7, ?s8, ?s9, ?s10, ?s11, trivial⟩
        case s0 =>
          refine ok fw (λvs x hG HX hP => ?_)
          have r0 := cell1 HX.out.2.1
          simp only[zS]
          go_simp
          exact gc
        case s1 =>
          refine oo (λvs x hP => ?_)
          simp only[zS]
          go_simp
          exact gc
        case s2 =>
          refine oo (λvs x hP => ?_)
          simp only[zS]
          go_simp
          exact gl ⟨_, rfl, heap_alloc_new x _⟩
        case s3 =>
          refine oo (λvs x hP => ?_)
          simp only[zS]
          go_simp
          exact gc
        case s4 =>
          refine ok fw (λvs x hG HX hP => ?_)
          obtain⟨d0, d1, d2⟩ := dD HX.out.2.2.1
          simp only[zS]
          go_simp
          exact gc
        case s5 =>
          refine oo (λvs x hP => ?_)
          simp only[zS]
          go_simp
          exact gc
        case s6 =>
          refine ok fw (λvs x hG HX hP => ?_)
          obtain⟨⟨x0, x1, x2⟩, x3, x4, x5⟩ := cz HX.out.1
          simp only[zS]
          go_simp
          exact gc
        case s7 =>
          refine oo (λvs x hP => ?_)
          simp only[zS]
          go_simp
          exact gc
        case s8 =>
          refine ok fw (λvs x hG HX hP => ?_)
          have hjc : j <= vc := by omega
          simp only[zS]
          go_simp
          exact gc
        case s9 =>
          refine oo (λvs x hP => ?_)
          simp only[zS]
          go_simp
          exact gc
        case s10 =>
          refine ok fw (λvs x hG HX hP => ?_)
          obtain⟨d0, d1, d2⟩ := dD HX.out.2.2.1
          simp only[zS]
          go_simp
          exact gc
        case s11 =>
          refine ok fw (λvs x hG HX hP => ?_)
          have HC := Lib.hid (Av (.slice (some ⟨kb, ko, none⟩) j vc) (vars.take j) xs x (Dx (qG.out.vars.later (gtr aA.out hG)) j (by omega)))
          simp only[zS]
          go_simp
          refine(HC.out).mono ?_
          rintro e y ⟨rfl, hg⟩
          exact⟨_, rfl, gy hg rfl⟩
      case done =>
      intro vs wx hE
      have hG := hE.grow
      have p2 := hE.val 2
      obtain⟨g2, h2, b2⟩ := p2
      have lV := Lib.hid (kL.out.grow hG)
      have uE := Lib.hid hG
      have hrow := ay.dI (l := [(j : Int)]) (f := aJ) (λ_ => rfl) b2 rfl (by simp)
      clear hE hG
      simp only[zS, Nat.reduceAdd, h2, List.drop_succ_cons, List.drop_zero]
      have HC := Lib.hid (ym w2 B (-1) (.slice (some ⟨g2, 0, none⟩) 1 1) [(j : Int)] xs (jK (vars.take j) xs) c wx lV.out hrow (by simp) (by have := HB1.out; have := dm.out; omega))
      clear hrow
      go_wp2_with fail
      refine HC.out.mono ?_
      rintro e w5 ⟨rfl, dA, iA⟩
      have ny := Lib.hid dA
      have nC := Lib.hid (show bN w2 B w3 w5 from fH.out.trans ((bN.lG fU.out).trans ((bN.lG uE.out).trans iA)))
      clear dA iA HC
      go_wp2_with fail
      go_roundw
      case rel => exact⟨j + 1, _, by go_num, by omega, ny.out, nC.out, by have := dm.out; have := HE.out; omega⟩
      case measure => simp[intOf]; omega
    obtain rfl : j = vars.length := by omega
    have fu := Lib.hid (show c = gq [] vars from by
      have h := dm.out
      rw[List.drop_length]at h
      simpa[gq]using h)
    have Es := Lib.hid iy.out
    have JV := Lib.hid (fH.out.keep' Bv.out Er.out (by decide) (by decide))
    have gM := Lib.hid (ai eO.out iy.out.g)
    clear dm iy fH Bv Er
    obtain⟨⟨x0, x1, x2⟩, x3, x4, x5⟩ := cz gM.out
    have hxl := lt_of_block gM.out
    go_wp2_with fail
    generalize wr = w6 at *
    clear x0 x1 x2 x3 x4 x5 hxl
    generalize vB : procs.map aO.d = P at *
    have Vt : P.length = procs.length := by rw[← vB, List.length_map]
    go_loopw [40] (λt wr => ∃ (j c2 : Nat), t = .int .i64 j /\ j <= procs.length /\ iL w2 B wr c2 /\ bN w2 B w6 wr /\ c2 + kC P j (P.drop j) = c + kC P 0 P) (λt _ => procs.length - (intOf t).toNat)
    case atStart => exact⟨0, c, rfl, Nat.zero_le _, Es.out, Mv.refl _ _, by simp⟩
    obtain⟨j, c2, rfl, hj, hst', jQ, hrest⟩ := hrel
    have iy := Lib.hid hst'
    have fH := Lib.hid jQ
    have dm := Lib.hid hrest
    clear hst' jQ hrest
    by_cases hlt : j < procs.length
    · obtain⟨kb, ko, ni, dN, -, hcc⟩ := (qG.out.procs.later iy.out.g).row.at hlt
      simp only[Value.slice.injEq, true_and]at dN
      obtain⟨rfl, rfl⟩ := dN
      have Vu : j < P.length := by omega
      have HE := Lib.hid (show kC P j (P.drop j) = wS P j procs[j].d + kC P (j + 1) (P.drop (j + 1))from by
        rw[drop_at _ j Vu, kC]; subst vB; simp)
      have fT := Lib.hid (qG.out.procs.each _ (List.getElem_mem hlt))
      have XR := Lib.hid (Io P j procs[j].d (by
        have := List.all_eq_true.1 MP.out procs[j].d (by rw[← vB]; exact List.mem_map.2 ⟨_, List.getElem_mem hlt, rfl⟩)
        exact this))
      have MQ := Lib.hid (show bB.okB procs[j].d = true from List.all_eq_true.1 MP.out procs[j].d (by rw[← vB]; exact List.mem_map.2 ⟨_, List.getElem_mem hlt, rfl⟩))
      generalize procs[j] = q at *
      obtain⟨qs, aM, qv, ⟨bk, bn, bs, bv, bl⟩⟩ := q
      obtain⟨qa, qc, rfl, -, Xf⟩ := fT.out.form
      obtain⟨ba, bc, rfl, -, -⟩ := fT.out.body.form
      have Vv := Lib.hid (show wS P j (aO.d ⟨qs, aM, .slice qa aM.length qc, .mk bk bn bs (.slice ba bl.length bc) bl⟩) = (if gT P qs < j then 1 else 0) + (gq [] aM + jL P (ae.t (.mk bk bn bs (.slice ba bl.length bc) bl)) aM)from rfl)
      have hqo := MQ.out
      simp only[bB.okB, aO.d, Bool.and_eq_true, decide_eq_true_eq]at hqo
      have hq8 : aM.length <= 8 := of_decide_eq_true hqo.2.1
      have Fz := Lib.hid (CZ hqo.2.2.2)
      generalize wS P j (aO.d ⟨qs, aM, .slice qa aM.length qc, .mk bk bn bs (.slice ba bl.length bc) bl⟩) = QC at *
      clear hqo MQ
      have c0 := hcc 0 _ rfl
      have c1 := hcc 1 _ rfl
      have c3 := hcc 2 _ rfl
      have c4 := hcc 3 _ rfl
      have c5 := hcc 4 _ rfl
      have c6 := hcc 5 _ rfl
      simp only[Nat.add_zero]at c0
      have hbl : kb < wr.heap.size := World.block_lt_of_cell? wr _ c0
      have uN := Lib.hid (show((wr.alloc (.cells #[.int .i64 j] 3)).alloc (.cells #[.string qs, .slice qa aM.length qc, .int .u8 bk, .int .i64 bn, .string bs, .slice ba bl.length bc] 48)).heap[wr.heap.size]? = some (.cells #[.int .i64 j] 3 (0, 0))from bX (heap_alloc_new wr _) _)
      have jX := Lib.hid (show((wr.alloc (.cells #[.int .i64 j] 3)).alloc (.cells #[.string qs, .slice qa aM.length qc, .int .u8 bk, .int .i64 bn, .string bs, .slice ba bl.length bc] 48)).heap[wr.heap.size + 1]? = some (.cells #[.string qs, .slice qa aM.length qc, .int .u8 bk, .int .i64 bn, .string bs, .slice ba bl.length bc] 48 (0, 0))from by
        have := heap_alloc_new (wr.alloc (.cells #[.int .i64 j] 3)) (.cells #[.string qs, .slice qa aM.length qc, .int .u8 bk, .int .i64 bn, .string bs, .slice ba bl.length bc] 48)
        simpa using this)
      have fU := Lib.hid (show Grow wr ((wr.alloc (.cells #[.int .i64 j] 3)).alloc (.cells #[.string qs, .slice qa aM.length qc, .int .u8 bk, .int .i64 bn, .string bs, .slice ba bl.length bc] 48))from((Mv.refl _ wr).alloc _).alloc _)
      have kL := Lib.hid (iy.out.grow fU.out)
      have wZ := Lib.hid (ai (fH.out.keep' Es.out JV.out (by decide) (by decide)) fU.out)
      have mh := Lib.hid (ai eO.out kL.out.g)
      clear hcc
      go_upto_region 13 with fail
      generalize ((wr.alloc (.cells #[.int .i64 j] 3)).alloc (.cells #[.string qs, .slice qa aM.length qc, .int .u8 bk, .int .i64 bn, .string bs, .slice ba bl.length bc] 48)) = w7 at *
      have fw := Lib.hid (λ(y : World) (hy : Grow w7 y) => And.intro (ai mh.out hy) (And.intro (ai uN.out hy) (ai jX.out hy)))
      have aA := Lib.hid kL.out.g
      clear c0 c1 c3 c4 c5 c6
      refine wg 93 [some 45, some 46, some 47, some 48, some 49, some 50] [[], [], [1], [0, 2], [], [3, 4]] [] [.c (.agg #[.slice va vars.length vc, .slice (some ⟨kb, ko, none⟩) procs.length pc, .int .u8 mk, .int .i64 mn, .string ms, .slice ma ml.length mc]), .c (.pointer (some ⟨wr.heap.size + 1, 0, none⟩)), .c (.string qs), .c (.int .i64 (gT P qs)), .c (.int .i64 j), .c (.bool (decide (gT P qs < (j : Int))))] trivial (dG rfl) ?steps ?done
      case steps =>
        refine⟨?s0, ?s1, ?s2, ?s3, ?s4, ?s5, trivial⟩
        case s0 =>
          refine ok fw (λvs x hG HX hP => ?_)
          obtain⟨⟨x0, x1, x2⟩, x3, x4, x5⟩ := cz HX.out.1
          simp only[zS]
          go_simp
          exact gc
        case s1 =>
          refine oo (λvs x hP => ?_)
          simp only[zS]
          go_simp
          exact gc
        case s2 =>
          refine ok fw (λvs x hG HX hP => ?_)
          obtain⟨⟨y0, y1, y2⟩, y3, y4, y5⟩ := cz HX.out.2.2
          simp only[zS]
          go_simp
          exact gc
        case s3 =>
          refine ok fw (λvs x hG HX hP => ?_)
          have hc := yt ⟨vars, .slice va vars.length vc, procs, .slice (some ⟨kb, ko, none⟩) procs.length pc, .mk mk mn ms (.slice ma ml.length mc) ml⟩ qs x (qG.out.later (gtr aA.out hG))
          rw[show(az.d ⟨vars, .slice va vars.length vc, procs, .slice (some ⟨kb, ko, none⟩) procs.length pc, .mk mk mn ms (.slice ma ml.length mc) ml⟩).procs = P from vB]at hc
          simp only[az.val]at hc
          have HC := Lib.hid hc
          clear hc
          simp only[zS]
          go_simp
          refine(HC.out).mono ?_
          rintro e y ⟨rfl, hg⟩
          exact⟨_, rfl, gy hg rfl⟩
        case s4 =>
          refine ok fw (λvs x hG HX hP => ?_)
          have i0 := cell1 HX.out.2.1
          simp only[zS]
          go_simp
          exact gc
        case s5 =>
          refine oo (λvs x hP => ?_)
          simp only[zS]
          go_simp
          exact gc
      case done =>
      intro vs wx hE
      have hG := hE.grow
      have lV := Lib.hid (kL.out.grow hG)
      have uE := Lib.hid hG
      have vC := Lib.hid (fw.out _ hG)
      have Bw := Lib.hid (ai wZ.out hG)
      clear hE hG
      simp only[zS, Nat.reduceAdd]
      have i0 := cell1 vC.out.2.1
      obtain⟨⟨y0, y1, y2⟩, y3, y4, y5⟩ := cz vC.out.2.2
      have r0 := cell1 Bw.out
      have hil := lt_of_block vC.out.2.1
      have hyl := lt_of_block vC.out.2.2
      have hrl := lt_of_block Bw.out
      generalize FB : (if gT P qs < (j : Int)then 1 else 0) = DD at *
      have Xg : DD <= 1 := by rw[← FB]; split <;> omega
      have MR := Lib.hid (λ(b : Bool) (h : decide (gT P qs < (j : Int)) = b) => show DD = if b then 1 else 0 from by
        rw[← FB, ← h]; by_cases h : gT P qs < (j : Int) <;> simp[h])
      clear FB
      generalize hbd : decide (gT P qs < (j : Int)) = bd at *
      have HD2 := Lib.hid (MR.out bd rfl)
      clear hbd MR
      have JW := Lib.hid (show bN w2 B w6 wx from fH.out.trans ((bN.lG fU.out).trans (bN.lG uE.out)))
      go_upto_if 50 with fail
      go_cut [55] (λv wc => iL w2 B wc (c2 + DD) /\ bN w2 B wx wc)
      case first =>
        cases bd with
        |true =>
          have HD3 := Lib.hid (show DD = 1 from HD2.out)
          have HC := Lib.hid (ym w2 B j (.slice none 0 0) [] qs 22 c2 wx lV.out (ay.nil _ _ _) (by simp) (by have := HB1.out; have := HB2.out; have := dm.out; have := fu.out; omega))
          clear HD2
          go_wp2_with fail
          refine HC.out.mono ?_
          rintro e w5 ⟨rfl, dA, iA⟩
          have ny := Lib.hid dA
          have nC := Lib.hid iA
          clear dA iA HC
          go_wp2_with fail
          go_meet
          case rel => exact⟨by rw[HD3.out]; exact ny.out, nC.out⟩
        |false =>
          have HD3 := Lib.hid (show DD = 0 from HD2.out)
          clear HD2
          go_wp2_with fail
          go_meet
          case rel => exact⟨by rw[HD3.out]; exact lV.out, Mv.refl _ _⟩
      case rest =>
        obtain⟨lW, yZ⟩ := hcut
        have uF := Lib.hid lW
        have JX := Lib.hid (yZ.keep' lV.out vC.out.2.1 (by decide) (by decide))
        have Bz := Lib.hid (yZ.keep' lV.out vC.out.2.2 (by decide) (by decide))
        have JY := Lib.hid (yZ.keep' lV.out Bw.out (by decide) (by decide))
        have XT := Lib.hid (ai eO.out lW.g)
        have TJ := Lib.hid (show bN w2 B w6 wc from JW.out.trans yZ)
        clear i0 y0 y1 y2 y3 y4 y5 r0 hil hyl hrl lW yZ JW fw vC uN jX wZ Bw mh lV kL
        obtain⟨⟨y0, y1, y2⟩, y3, y4, y5⟩ := cz Bz.out
        have hyl := lt_of_block Bz.out
        have Xh : aM.length <= qc := ay.cap fT.out.params
        generalize wr.heap.size = Z at *
        go_wp2_with fail
        generalize wc = w8 at *
        clear y0 y1 y2 y3 y4 y5 hyl
        go_loopw [59] (λt wr => ∃ (i c3 : Nat), t = .int .i64 i /\ i <= aM.length /\ iL w2 B wr c3 /\ bN w2 B w8 wr /\ c3 + gq (aM.take i) (aM.drop i) = c2 + DD + gq [] aM) (λt _ => aM.length - (intOf t).toNat)
        case atStart => exact⟨0, _, rfl, Nat.zero_le _, uF.out, Mv.refl _ _, by simp⟩
        obtain⟨i, c3, rfl, hi, hst', jQ, hrest⟩ := hrel
        have y7 := Lib.hid hst'
        have rY := Lib.hid jQ
        have Et := Lib.hid hrest
        clear hst' jQ hrest
        have xL := Lib.hid (AX aM [])
        by_cases Eu : i < aM.length
        · obtain⟨vb, vo, J2, hvv, -, hcc⟩ := (fT.out.params.later y7.out.g).at Eu
          simp only[Value.slice.injEq, true_and]at hvv
          obtain⟨rfl, rfl⟩ := hvv
          have sS := Lib.hid (show gq (aM.take i) (aM.drop i) = jE (jK (aM.take i) aM[i].name) + gq (aM.take (i + 1)) (aM.drop (i + 1))from by
            rw[drop_at _ i Eu, gq, take_at _ i Eu])
          generalize aM[i] = x at *
          obtain⟨xs, xk, xn⟩ := x
          have c0 := hcc 0 _ rfl
          have c1 := hcc 1 _ rfl
          have c4 := hcc 2 _ rfl
          simp only[Nat.add_zero]at c0 sS
          have hvl : vb < wr.heap.size := World.block_lt_of_cell? wr _ c0
          have Vw := Lib.hid (heap_alloc_new wr (.cells #[.string xs, .int .u8 xk, .int .i64 xn] 50))
          have zL := Lib.hid (show Grow wr (wr.alloc (.cells #[.string xs, .int .u8 xk, .int .i64 xn] 50))from(Mv.refl _ wr).alloc _)
          have J3 := Lib.hid (y7.out.grow zL.out)
          have TK := Lib.hid (ai (rY.out.keep' uF.out JY.out (by decide) (by decide)) zL.out)
          have TL := Lib.hid (ai (rY.out.keep' uF.out JX.out (by decide) (by decide)) zL.out)
          have TM := Lib.hid (ai (rY.out.keep' uF.out Bz.out (by decide) (by decide)) zL.out)
          clear hcc
          go_upto_region 18 with fail
          generalize (wr.alloc (.cells #[.string xs, .int .u8 xk, .int .i64 xn] 50)) = w9 at *
          have kg := Lib.hid (λ(y : World) (hy : Grow w9 y) => And.intro (ai TK.out hy) (And.intro (ai TL.out hy) (And.intro (ai TM.out hy) (ai Vw.out hy))))
          clear c0 c1 c4
          refine jr 11 93 [some 64, some 65, some 66, some 67, some 68, some 69, some 70, some 71, some 72, some 73, some 74] [[], [], [], [2], [], [4], [], [5, 6], [], [8], [7, 9]] [] [.c (.func (.func 50) #[] #[.pointer (some ⟨B, 0, none⟩)]), .c (.int .i64 j), .c (.pointer (some ⟨wr.heap.size, 0, none⟩)), .c (.string xs), .c (.pointer (some ⟨Z + 1, 1, none⟩)), .c (.slice (some ⟨vb, vo, none⟩) aM.length qc), .c (.int .i64 i), .c (.slice (some ⟨vb, vo, none⟩) i qc), .c (.pointer (some ⟨wr.heap.size, 0, none⟩)), .c (.string xs), .c (.int .i64 (jK (aM.take i) xs))] trivial (dG rfl) ?steps ?done
          case steps =>
            refine⟨?s0, ?s1, ?s2, ?s3, ?s4, ?s5, ?s6, ?s7, ?s8, ?s9, ?s10, trivial⟩
            case s0 =>
              refine ok kg (λvs x hG HX hP => ?_)
              have r0 := cell1 HX.out.1
              simp only[zS]
              go_simp
              exact gc
            case s1 =>
              refine ok kg (λvs x hG HX hP => ?_)
              have i0 := cell1 HX.out.2.1
              simp only[zS]
              go_simp
              exact gc
            case s2 =>
              refine oo (λvs x hP => ?_)
              simp only[zS]
              go_simp
              exact gc
            case s3 =>
              refine ok kg (λvs x hG HX hP => ?_)
              obtain⟨d0, d1, d2⟩ := dD HX.out.2.2.2
              simp only[zS]
              go_simp
              exact gc
            case s4 =>
              refine oo (λvs x hP => ?_)
              simp only[zS]
              go_simp
              exact gc
            case s5 =>
              refine ok kg (λvs x hG HX hP => ?_)
              obtain⟨⟨y0, y1, y2⟩, y3, y4, y5⟩ := cz HX.out.2.2.1
              simp only[zS]
              go_simp
              exact gc
            case s6 =>
              refine oo (λvs x hP => ?_)
              simp only[zS]
              go_simp
              exact gc
            case s7 =>
              refine ok kg (λvs x hG HX hP => ?_)
              have hjc : i <= qc := by omega
              simp only[zS]
              go_simp
              exact gc
            case s8 =>
              refine oo (λvs x hP => ?_)
              simp only[zS]
              go_simp
              exact gc
            case s9 =>
              refine ok kg (λvs x hG HX hP => ?_)
              obtain⟨d0, d1, d2⟩ := dD HX.out.2.2.2
              simp only[zS]
              go_simp
              exact gc
            case s10 =>
              refine ok kg (λvs x hG HX hP => ?_)
              have HC := Lib.hid (Av (.slice (some ⟨vb, vo, none⟩) i qc) (aM.take i) xs x (Dx (fT.out.params.later (gtr J3.out.g hG)) i (by omega)))
              simp only[zS]
              go_simp
              refine(HC.out).mono ?_
              rintro e y ⟨rfl, hg⟩
              exact⟨_, rfl, gy hg rfl⟩
          case done =>
          intro vs Vx hE
          have hG := hE.grow
          have S9 := Lib.hid (J3.out.grow hG)
          have Ta := Lib.hid hG
          clear hE hG
          simp only[zS, Nat.reduceAdd, List.drop_succ_cons, List.drop_zero]
          have HC := Lib.hid (ym w2 B j (.slice none 0 0) [] xs (jK (aM.take i) xs) c3 Vx S9.out (ay.nil _ _ _) (by simp) (by have := HB1.out; have := HB2.out; have := dm.out; have := fu.out; have := Et.out; have := xL.out; omega))
          go_wp2_with fail
          refine HC.out.mono ?_
          rintro e w5 ⟨rfl, dA, iA⟩
          have ny := Lib.hid dA
          have nC := Lib.hid (show bN w2 B w8 w5 from rY.out.trans ((bN.lG zL.out).trans ((bN.lG Ta.out).trans iA)))
          clear dA iA HC
          go_wp2_with fail
          go_roundw
          case rel => exact⟨i + 1, _, by go_num, by omega, ny.out, nC.out, by have := Et.out; have := sS.out; omega⟩
          case measure => simp[intOf]; omega
        obtain rfl : i = aM.length := by omega
        have MS := Lib.hid (show c3 = c2 + DD + gq [] aM from by
          have h := Et.out
          rw[List.drop_length]at h
          simpa[gq]using h)
        have TN := Lib.hid (rY.out.keep' uF.out JY.out (by decide) (by decide))
        have TP := Lib.hid (rY.out.keep' uF.out JX.out (by decide) (by decide))
        have J4 := Lib.hid (rY.out.keep' uF.out Bz.out (by decide) (by decide))
        have qH := Lib.hid (ai eO.out y7.out.g)
        have hvs := GD w2 B ⟨vars, .slice va vars.length vc, procs, .slice (some ⟨kb, ko, none⟩) procs.length pc, .mk mk mn ms (.slice ma ml.length mc) ml⟩ qG.out (B + 1) Z 54 (.inl rfl) _ (.mk bk bn bs (.slice ba bl.length bc) bl) (Nat.le_refl _) fT.out.body wr c3 [] (.slice none 0 0) aM (.slice qa aM.length qc) y7.out ⟨TN.out, .inl ⟨rfl, _, TP.out⟩⟩ ⟨ay.nil 1 aJ _, λh => (h rfl).elim⟩ ((iH.old (λ_ => by simp[au.cells]) fT.out.params).later y7.out.g)
        rw[show(az.d ⟨vars, .slice va vars.length vc, procs, .slice (some ⟨kb, ko, none⟩) procs.length pc, .mk mk mn ms (.slice ma ml.length mc) ml⟩).procs = P from vB]at hvs
        have qI := Lib.hid (hvs (by have := Aw P (ae.t (.mk bk bn bs (.slice ba bl.length bc) bl)) aM; have := Fz.out; have := HB1.out; have := HB2.out; have := dm.out; have := fu.out; have := MS.out; have := xL.out; omega) (by have := Fz.out; simp only[List.length_nil]; omega) (by have := Fz.out; omega))
        clear hvs
        simp only[az.val, ae.val]at qI
        obtain⟨⟨x0, x1, x2⟩, x3, x4, x5⟩ := cz qH.out
        obtain⟨⟨y0, y1, y2⟩, y3, y4, y5⟩ := cz J4.out
        have hxl := lt_of_block qH.out
        have hyl := lt_of_block J4.out
        go_wp2_with fail
        refine qI.out.mono ?_
        rintro e w5 ⟨rfl, dA, iA⟩
        have ny := Lib.hid dA
        have nC := Lib.hid (show bN w2 B w6 w5 from TJ.out.trans (rY.out.trans iA))
        clear dA iA qI x0 x1 x2 x3 x4 x5 y0 y1 y2 y3 y4 y5 hxl hyl
        go_wp2_with fail
        go_roundw
        case rel => exact⟨j + 1, _, by go_num, by omega, ny.out, nC.out, by have := dm.out; have := HE.out; have := Vv.out; have := MS.out; omega⟩
        case measure => simp[intOf]; omega
    obtain rfl : j = procs.length := by omega
    have kT := Lib.hid (show c2 = c + kC P 0 P from by
      have h := dm.out
      rw[← Vt, List.drop_length]at h
      simpa[kC]using h)
    have TQ := Lib.hid (fH.out.keep' Es.out JV.out (by decide) (by decide))
    have FC := Lib.hid (ai eO.out iy.out.g)
    have hvs := GD w2 B ⟨vars, .slice va vars.length vc, procs, .slice pa procs.length pc, .mk mk mn ms (.slice ma ml.length mc) ml⟩ qG.out (B + 1) w.heap.size 55 (.inr rfl) _ (.mk mk mn ms (.slice ma ml.length mc) ml) (Nat.le_refl _) qG.out.main wr c2 [] (.slice none 0 0) vars (.slice va vars.length vc) iy.out ⟨TQ.out, .inr ⟨rfl, _, _, _, _, _, _, _, _, FC.out⟩⟩ ⟨ay.nil 1 aJ _, λh => (h rfl).elim⟩ ((iH.old (λ_ => by simp[au.cells]) qG.out.vars).later iy.out.g)
    rw[show(az.d ⟨vars, .slice va vars.length vc, procs, .slice pa procs.length pc, .mk mk mn ms (.slice ma ml.length mc) ml⟩).procs = P from vB]at hvs
    have qI := Lib.hid (hvs (by have := HB1.out; have := HB2.out; have := HB3.out; have := dC.out; have := fu.out; have := kT.out; omega) (by have := dC.out; simp only[List.length_nil]; omega) (by have := dC.out; omega))
    clear hvs
    simp only[az.val, ae.val]at qI
    obtain⟨⟨x0, x1, x2⟩, x3, x4, x5⟩ := cz FC.out
    have hxl := lt_of_block FC.out
    go_wp2_with fail
    refine qI.out.mono ?_
    rintro e w5 ⟨rfl, dA, iA⟩
    obtain⟨rv, rl, hbx, hrow, hlen⟩ := dA.blk
    obtain⟨ra, rc, eF⟩ := dO hrow
    have bI := Lib.hid (gtr HG2.out dA.g)
    have Vy := Lib.hid (show rl.length = V from by rw[hlen, HF.out, kT.out, fu.out]; omega)
    have b0 := cell1 hbx
    have hbl := lt_of_block hbx
    clear dA iA qI x0 x1 x2 x3 x4 x5 hxl hbx hrow hlen
    subst eF
    go_wp2_with fail
    go_ret
    exact⟨ra, rc, Qq Vy.out, bI.out⟩
end Go.Proofs.YtbpodipdfohikaaGreat
