import Derived.Test.YtbpodipdfohikaaGreatL19
import Derived.Deep.DeepCutAuto
import Derived.Deep.CutBlock
set_option linter.unusedSimpArgs false
set_option linter.unusedVariables false
set_option maxRecDepth 100000
set_option maxHeartbeats 25600000
namespace Go.Proofs.YtbpodipdfohikaaGreat
open Go.RowKit Go.Instr
attribute [local go_sem ↓] fB
theorem II {α : Type} {n : Nat} {f : α -> List Value} {w : World} {a : Option Addr} {c : Nat} {l : List α} (h : ay n f w (.slice a l.length c) l) (j : Nat) (hj : j <= l.length) : ay n f w (.slice a j c) (l.take j) := by
  obtain⟨a', c', e, h2, h3, h4⟩ := h
  simp only[Value.slice.injEq, true_and]at e
  obtain⟨rfl, rfl⟩ := e
  exact⟨a, c, by simp[hj], by simp; omega, by simp; omega, λi x hx => h4 i x (by
    rw[List.getElem?_take]at hx
    split at hx
    · exact hx
    · cases hx)⟩
theorem ay.cap {α : Type} {n : Nat} {f : α -> List Value} {w : World} {a : Option Addr} {k c : Nat} {l : List α} (h : ay n f w (.slice a k c) l) : l.length <= c := by
  obtain⟨a', c', e, h2, -⟩ := h
  simp only[Value.slice.injEq]at e
  omega
theorem QV {a : Option Addr} {n m c : Nat} (h : n = m) : Ending.returned (.slice a n c) = .returned (.slice a m c) := by rw[h]
theorem take_at {α : Type} (l : List α) (j : Nat) (h : j < l.length) : l.take (j + 1) = l.take j ++ [l[j]] := List.take_succ_eq_append_getElem h
set_option maxRecDepth 100000 in
set_option maxHeartbeats 12800000 in
theorem QW (p : az) (w : World) (hp : jc w p) : Calls Tryz.prog 31 #[p.val] w (Tf w p.d.faults) := by
  have mg := Lib.hid (λz (hz : Grow w z) => GM p z (hp.later hz))
  obtain⟨vars, V7, procs, V8, ⟨mk, mn, ms, mv, ml⟩⟩ := p
  obtain⟨⟨va, vc, rfl⟩, ⟨pa, pc, rfl⟩, hm⟩ := hp.form
  obtain⟨ma, mc, rfl, -, -⟩ := hm.form
  have Ci := Lib.hid hp
  have XZ : vars.length <= vc := ay.cap hp.vars
  clear hp hm
  have vB := Lib.hid (show(az.d ⟨vars, .slice va vars.length vc, procs, .slice pa procs.length pc, .mk mk mn ms (.slice ma ml.length mc) ml⟩).faults = if(az.d ⟨vars, .slice va vars.length vc, procs, .slice pa procs.length pc, .mk mk mn ms (.slice ma ml.length mc) ml⟩).okB then fV [] vars + (kz (procs.map aO.d) 0 (procs.map aO.d) + jI (procs.map aO.d) (ae.t (.mk mk mn ms (.slice ma ml.length mc) ml)) vars)else 0 from rfl)
  have bF := Lib.hid (Hr vars (.slice va vars.length vc) procs (.slice pa procs.length pc) (.mk mk mn ms (.slice ma ml.length mc) ml))
  generalize (az.d ⟨vars, .slice va vars.length vc, procs, .slice pa procs.length pc, .mk mk mn ms (.slice ma ml.length mc) ml⟩).faults = V at *
  generalize hok : (az.d ⟨vars, .slice va vars.length vc, procs, .slice pa procs.length pc, .mk mk mn ms (.slice ma ml.length mc) ml⟩).okB = ok at *
  simp only[az.val]at mg ⊢
  have aj := Lib.hid (show Grow w (w.alloc (.cells #[.slice va vars.length vc, .slice pa procs.length pc, .int .u8 mk, .int .i64 mn, .string ms, .slice ma ml.length mc] 42))from(Mv.refl _ w).alloc _)
  have jE := Lib.hid (heap_alloc_new w (.cells #[.slice va vars.length vc, .slice pa procs.length pc, .int .u8 mk, .int .i64 mn, .string ms, .slice ma ml.length mc] 42))
  have Nu := Lib.hid (mg.out _ aj.out)
  clear mg
  go_enter Tryz.func31, Tryz.ntmps31
  go_wp2_with fail
  generalize (w.alloc (.cells #[.slice va vars.length vc, .slice pa procs.length pc, .int .u8 mk, .int .i64 mn, .string ms, .slice ma ml.length mc] 42)) = w1 at *
  refine Nu.out.mono ?_
  rintro e w2 ⟨rfl, hg2⟩
  have HG2 := Lib.hid (gtr aj.out hg2)
  have eH := Lib.hid (ai jE.out hg2)
  clear hg2 hok Nu
  cases ok with
  |false =>
    have HF := Lib.hid (show V = 0 from vB.out)
    go_wp2_with fail
    go_ret
    exact⟨none, 0, (by rw[HF.out]; rfl), HG2.out⟩
  |true =>
    have HF := Lib.hid (show V = fV [] vars + (kz (procs.map aO.d) 0 (procs.map aO.d) + jI (procs.map aO.d) (ae.t (.mk mk mn ms (.slice ma ml.length mc) ml)) vars)from vB.out)
    have hb := bF.out.symm
    simp only[Bool.and_eq_true, decide_eq_true_eq]at hb
    obtain⟨⟨hv32, Eu, hvd⟩, hpo, hmo⟩ := hb
    have HB1 := Lib.hid (Ba vars [])
    have HB2 := Lib.hid (Hy (procs.map aO.d) (procs.map aO.d) 0 hpo)
    have HB3 := Lib.hid (AQ (procs.map aO.d) (ae.t (.mk mk mn ms (.slice ma ml.length mc) ml)) vars)
    have dE := Lib.hid (Df hmo)
    have Nv := Lib.hid hpo
    clear hvd hpo hmo bF vB
    obtain⟨⟨x0, x1, x2⟩, x3, x4, x5⟩ := cB eH.out
    have hxl := lt_of_block eH.out
    go_wp2_with fail
    generalize FI : w2.heap.size = B at *
    have hB1 : w2.heap.size <= B := by omega
    have qG := Lib.hid (Ci.out.later HG2.out)
    have BC := Lib.hid (show iJ w2 B ((w2.alloc (.cells #[.slice none 0 0] 66)).alloc (.cells #[.func (.func 50) #[] #[.pointer (some ⟨B, 0, none⟩)]] 87)) 0 from⟨((Mv.refl _ w2).alloc _).alloc _, ⟨_, [], by rw[← FI]; exact bY (heap_alloc_new w2 _) _, World.ownsRow_nil _ _ _ _, rfl⟩, hB1⟩)
    have Ew := Lib.hid (show((w2.alloc (.cells #[.slice none 0 0] 66)).alloc (.cells #[.func (.func 50) #[] #[.pointer (some ⟨B, 0, none⟩)]] 87)).heap[B + 1]? = some (.cells #[.func (.func 50) #[] #[.pointer (some ⟨B, 0, none⟩)]] 87 (0, 0))from by
      have := heap_alloc_new (w2.alloc (.cells #[.slice none 0 0] 66)) (.cells #[.func (.func 50) #[] #[.pointer (some ⟨B, 0, none⟩)]] 87)
      subst FI; simpa using this)
    generalize ((w2.alloc (.cells #[.slice none 0 0] 66)).alloc (.cells #[.func (.func 50) #[] #[.pointer (some ⟨B, 0, none⟩)]] 87)) = w3 at *
    clear x0 x1 x2 x3 x4 x5 hxl FI
    go_loopw [18] (λt wr => ∃ (j c : Nat), t = .int .i64 j /\ j <= vars.length /\ iJ w2 B wr c /\ bP w2 B w3 wr /\ c + fV (vars.take j) (vars.drop j) = fV [] vars) (λt _ => vars.length - (intOf t).toNat)
    case atStart => exact⟨0, 0, rfl, Nat.zero_le _, BC.out, Mv.refl _ _, by simp⟩
    obtain⟨j, c, rfl, hj, hst', jN, hrest⟩ := hrel
    have ig := Lib.hid hst'
    have fG := Lib.hid jN
    have dx := Lib.hid hrest
    clear hst' jN hrest
    by_cases hlt : j < vars.length
    · obtain⟨kb, ko, mY, dR, -, hcc⟩ := (qG.out.vars.later ig.out.g).at hlt
      simp only[Value.slice.injEq, true_and]at dR
      obtain⟨rfl, rfl⟩ := dR
      have HE := Lib.hid (show fV (vars.take j) (vars.drop j) = jB (jH (vars.take j) vars[j].name) + fV (vars.take (j + 1)) (vars.drop (j + 1))from by
        rw[drop_at _ j hlt, fV, take_at _ j hlt])
      generalize vars[j] = x at *
      obtain⟨xs, xk, xn⟩ := x
      have c0 := hcc 0 _ rfl
      have c1 := hcc 1 _ rfl
      have c2 := hcc 2 _ rfl
      simp only[Nat.add_zero]at c0 HE
      have hbl : kb < wr.heap.size := World.block_lt_of_cell? wr _ c0
      have jV := Lib.hid (heap_alloc_new wr (.cells #[.string xs, .int .u8 xk, .int .i64 xn] 50))
      have fQ := Lib.hid (show Grow wr (wr.alloc (.cells #[.string xs, .int .u8 xk, .int .i64 xn] 50))from(Mv.refl _ wr).alloc _)
      have kL := Lib.hid (ig.out.grow fQ.out)
      have xh := Lib.hid (ai (fG.out.keep' BC.out Ew.out (by decide) (by decide)) fQ.out)
      have iU := Lib.hid (ai eH.out kL.out.g)
      clear hcc
      go_upto_region 8 with fail
      generalize (wr.alloc (.cells #[.string xs, .int .u8 xk, .int .i64 xn] 50)) = w4 at *
      have fw := Lib.hid (λ(y : World) (hy : Grow w4 y) => And.intro (ai iU.out hy) (And.intro (ai xh.out hy) (And.intro (ai jV.out hy) True.intro)))
      have aA := Lib.hid kL.out.g
      clear c0 c1 c2
      refine jm 12 93 [some 23, some 24, some 25, some 26, some 27, some 28, some 29, some 30, some 31, some 32, some 33, some 34] [[], [], [1], [], [3], [], [5], [], [6, 7], [], [9], [8, 10]] [] [.c (.func (.func 50) #[] #[.pointer (some ⟨B, 0, none⟩)]), .c (.int .i64 j), .p (λv y => ∃ g, v = .slice (some ⟨g, 0, none⟩) 1 1 /\ y.heap[g]? = some (.cells #[.int .i64 j] 3 (0, 0))), .c (.pointer (some ⟨wr.heap.size, 0, none⟩)), .c (.string xs), .c (.pointer (some ⟨w.heap.size, 0, none⟩)), .c (.slice (some ⟨kb, ko, none⟩) vars.length vc), .c (.int .i64 j), .c (.slice (some ⟨kb, ko, none⟩) j vc), .c (.pointer (some ⟨wr.heap.size, 0, none⟩)), .c (.string xs), .c (.int .i64 (jH (vars.take j) xs))] ⟨⟨(λv x y hg h => by obtain⟨g, hv, hb⟩ := h; exact⟨g, hv, ai hb hg⟩), λ_ => bu⟩, trivial⟩ (dJ rfl) ?steps ?done
      case steps =>
        refine⟨?s0, ?s1, ?s2, ?s3, ?s4, ?s5, ?s6, ?s7, ?s8, ?s9, ?s10, ?s11, trivial⟩
        case s0 =>
          refine ok fw (λvs x hG HX hP => ?_)
          have r0 := cell1 HX.out.2.1
          simp only[zS]
          go_simp
          exact gc
        case s1 =>
          refine oo (λvs x hP => ?_)
          simp only[zS]
          go_simp
          exact gc
        case s2 =>
          refine oo (λvs x hP => ?_)
          simp only[zS]
          go_simp
          exact gl ⟨_, rfl, heap_alloc_new x _⟩
        case s3 =>
          refine oo (λvs x hP => ?_)
          simp only[zS]
          go_simp
          exact gc
        case s4 =>
          refine ok fw (λvs x hG HX hP => ?_)
          obtain⟨d0, d1, d2⟩ := dF HX.out.2.2.1
          simp only[zS]
          go_simp
          exact gc
        case s5 =>
          refine oo (λvs x hP => ?_)
          simp only[zS]
          go_simp
          exact gc
        case s6 =>
          refine ok fw (λvs x hG HX hP => ?_)
          obtain⟨⟨x0, x1, x2⟩, x3, x4, x5⟩ := cB HX.out.1
          simp only[zS]
          go_simp
          exact gc
        case s7 =>
          refine oo (λvs x hP => ?_)
          simp only[zS]
          go_simp
          exact gc
        case s8 =>
          refine ok fw (λvs x hG HX hP => ?_)
          have hjc : j <= vc := by omega
          simp only[zS]
          go_simp
          exact gc
        case s9 =>
          refine oo (λvs x hP => ?_)
          simp only[zS]
          go_simp
          exact gc
        case s10 =>
          refine ok fw (λvs x hG HX hP => ?_)
          obtain⟨d0, d1, d2⟩ := dF HX.out.2.2.1
          simp only[zS]
          go_simp
          exact gc
        case s11 =>
          refine ok fw (λvs x hG HX hP => ?_)
          have HC := Lib.hid (AP (.slice (some ⟨kb, ko, none⟩) j vc) (vars.take j) xs x (II (qG.out.vars.later (gtr aA.out hG)) j (by omega)))
          simp only[zS]
          go_simp
          refine(HC.out).mono ?_
          rintro e y ⟨rfl, hg⟩
          exact⟨_, rfl, gm hg rfl⟩
      case done =>
      intro vs wx hE
      have hG := hE.grow
      have p2 := hE.val 2
      obtain⟨g2, h2, b2⟩ := p2
      have lV := Lib.hid (kL.out.grow hG)
      have uH := Lib.hid hG
      have hrow := ay.dG (l := [(j : Int)]) (f := aB) (λ_ => rfl) b2 rfl (by simp)
      clear hE hG
      simp only[zS, Nat.reduceAdd, h2, List.drop_succ_cons, List.drop_zero]
      have HC := Lib.hid (yu w2 B (-1) (.slice (some ⟨g2, 0, none⟩) 1 1) [(j : Int)] xs (jH (vars.take j) xs) c wx lV.out hrow (by simp) (by have := HB1.out; have := dx.out; omega))
      clear hrow
      go_wp2_with fail
      refine HC.out.mono ?_
      rintro e w5 ⟨rfl, dC, ik⟩
      have mZ := Lib.hid dC
      have ng := Lib.hid (show bP w2 B w3 w5 from fG.out.trans ((bP.lG fQ.out).trans ((bP.lG uH.out).trans ik)))
      clear dC ik HC
      go_wp2_with fail
      go_roundw
      case rel => exact⟨j + 1, _, by go_num, by omega, mZ.out, ng.out, by have := dx.out; have := HE.out; omega⟩
      case measure => simp[intOf]; omega
    obtain rfl : j = vars.length := by omega
    have fu := Lib.hid (show c = fV [] vars from by
      have h := dx.out
      rw[List.drop_length]at h
      simpa[fV]using h)
    have Ex := Lib.hid ig.out
    have Kj := Lib.hid (fG.out.keep' BC.out Ew.out (by decide) (by decide))
    have gG := Lib.hid (ai eH.out ig.out.g)
    clear dx ig fG BC Ew
    obtain⟨⟨x0, x1, x2⟩, x3, x4, x5⟩ := cB gG.out
    have hxl := lt_of_block gG.out
    go_wp2_with fail
    generalize wr = w6 at *
    clear x0 x1 x2 x3 x4 x5 hxl
    generalize vF : procs.map aO.d = P at *
    have We : P.length = procs.length := by rw[← vF, List.length_map]
    go_loopw [40] (λt wr => ∃ (j c2 : Nat), t = .int .i64 j /\ j <= procs.length /\ iJ w2 B wr c2 /\ bP w2 B w6 wr /\ c2 + kz P j (P.drop j) = c + kz P 0 P) (λt _ => procs.length - (intOf t).toNat)
    case atStart => exact⟨0, c, rfl, Nat.zero_le _, Ex.out, Mv.refl _ _, by simp⟩
    obtain⟨j, c2, rfl, hj, hst', jN, hrest⟩ := hrel
    have ig := Lib.hid hst'
    have fG := Lib.hid jN
    have dx := Lib.hid hrest
    clear hst' jN hrest
    by_cases hlt : j < procs.length
    · obtain⟨kb, ko, mY, dR, -, hcc⟩ := (qG.out.procs.later ig.out.g).row.at hlt
      simp only[Value.slice.injEq, true_and]at dR
      obtain⟨rfl, rfl⟩ := dR
      have Wh : j < P.length := by omega
      have HE := Lib.hid (show kz P j (P.drop j) = wU P j procs[j].d + kz P (j + 1) (P.drop (j + 1))from by
        rw[drop_at _ j Wh, kz]; subst vF; simp)
      have fP := Lib.hid (qG.out.procs.each _ (List.getElem_mem hlt))
      have Yz := Lib.hid (IG P j procs[j].d (by
        have := List.all_eq_true.1 Nv.out procs[j].d (by rw[← vF]; exact List.mem_map.2 ⟨_, List.getElem_mem hlt, rfl⟩)
        exact this))
      have Nw := Lib.hid (show bA.okB procs[j].d = true from List.all_eq_true.1 Nv.out procs[j].d (by rw[← vF]; exact List.mem_map.2 ⟨_, List.getElem_mem hlt, rfl⟩))
      generalize procs[j] = q at *
      obtain⟨qs, aM, qv, ⟨bk, bn, bs, bv, bl⟩⟩ := q
      obtain⟨qa, qc, rfl, -, X0⟩ := fP.out.form
      obtain⟨ba, bc, rfl, -, -⟩ := fP.out.body.form
      have Wi := Lib.hid (show wU P j (aO.d ⟨qs, aM, .slice qa aM.length qc, .mk bk bn bs (.slice ba bl.length bc) bl⟩) = (if gK P qs < j then 1 else 0) + (fV [] aM + jI P (ae.t (.mk bk bn bs (.slice ba bl.length bc) bl)) aM)from rfl)
      have hqo := Nw.out
      simp only[bA.okB, aO.d, Bool.and_eq_true, decide_eq_true_eq]at hqo
      have hq8 : aM.length <= 8 := of_decide_eq_true hqo.2.1
      have FJ := Lib.hid (Df hqo.2.2.2)
      generalize wU P j (aO.d ⟨qs, aM, .slice qa aM.length qc, .mk bk bn bs (.slice ba bl.length bc) bl⟩) = QC at *
      clear hqo Nw
      have c0 := hcc 0 _ rfl
      have c1 := hcc 1 _ rfl
      have c3 := hcc 2 _ rfl
      have c4 := hcc 3 _ rfl
      have c5 := hcc 4 _ rfl
      have c6 := hcc 5 _ rfl
      simp only[Nat.add_zero]at c0
      have hbl : kb < wr.heap.size := World.block_lt_of_cell? wr _ c0
      have uQ := Lib.hid (show((wr.alloc (.cells #[.int .i64 j] 3)).alloc (.cells #[.string qs, .slice qa aM.length qc, .int .u8 bk, .int .i64 bn, .string bs, .slice ba bl.length bc] 48)).heap[wr.heap.size]? = some (.cells #[.int .i64 j] 3 (0, 0))from bY (heap_alloc_new wr _) _)
      have jV := Lib.hid (show((wr.alloc (.cells #[.int .i64 j] 3)).alloc (.cells #[.string qs, .slice qa aM.length qc, .int .u8 bk, .int .i64 bn, .string bs, .slice ba bl.length bc] 48)).heap[wr.heap.size + 1]? = some (.cells #[.string qs, .slice qa aM.length qc, .int .u8 bk, .int .i64 bn, .string bs, .slice ba bl.length bc] 48 (0, 0))from by
        have := heap_alloc_new (wr.alloc (.cells #[.int .i64 j] 3)) (.cells #[.string qs, .slice qa aM.length qc, .int .u8 bk, .int .i64 bn, .string bs, .slice ba bl.length bc] 48)
        simpa using this)
      have fQ := Lib.hid (show Grow wr ((wr.alloc (.cells #[.int .i64 j] 3)).alloc (.cells #[.string qs, .slice qa aM.length qc, .int .u8 bk, .int .i64 bn, .string bs, .slice ba bl.length bc] 48))from((Mv.refl _ wr).alloc _).alloc _)
      have kL := Lib.hid (ig.out.grow fQ.out)
      have xh := Lib.hid (ai (fG.out.keep' Ex.out Kj.out (by decide) (by decide)) fQ.out)
      have iU := Lib.hid (ai eH.out kL.out.g)
      clear hcc
      go_upto_region 13 with fail
      generalize ((wr.alloc (.cells #[.int .i64 j] 3)).alloc (.cells #[.string qs, .slice qa aM.length qc, .int .u8 bk, .int .i64 bn, .string bs, .slice ba bl.length bc] 48)) = w7 at *
      have fw := Lib.hid (λ(y : World) (hy : Grow w7 y) => And.intro (ai iU.out hy) (And.intro (ai uQ.out hy) (ai jV.out hy)))
      have aA := Lib.hid kL.out.g
      clear c0 c1 c3 c4 c5 c6
      refine wg 93 [some 45, some 46, some 47, some 48, some 49, some 50] [[], [], [1], [0, 2], [], [3, 4]] [] [.c (.agg #[.slice va vars.length vc, .slice (some ⟨kb, ko, none⟩) procs.length pc, .int .u8 mk, .int .i64 mn, .string ms, .slice ma ml.length mc]), .c (.pointer (some ⟨wr.heap.size + 1, 0, none⟩)), .c (.string qs), .c (.int .i64 (gK P qs)), .c (.int .i64 j), .c (.bool (decide (gK P qs < (j : Int))))] trivial (dJ rfl) ?steps ?done
      case steps =>
        refine⟨?s0, ?s1, ?s2, ?s3, ?s4, ?s5, trivial⟩
        case s0 =>
          refine ok fw (λvs x hG HX hP => ?_)
          obtain⟨⟨x0, x1, x2⟩, x3, x4, x5⟩ := cB HX.out.1
          simp only[zS]
          go_simp
          exact gc
        case s1 =>
          refine oo (λvs x hP => ?_)
          simp only[zS]
          go_simp
          exact gc
        case s2 =>
          refine ok fw (λvs x hG HX hP => ?_)
          obtain⟨⟨y0, y1, y2⟩, y3, y4, y5⟩ := cB HX.out.2.2
          simp only[zS]
          go_simp
          exact gc
        case s3 =>
          refine ok fw (λvs x hG HX hP => ?_)
          have hc := yA ⟨vars, .slice va vars.length vc, procs, .slice (some ⟨kb, ko, none⟩) procs.length pc, .mk mk mn ms (.slice ma ml.length mc) ml⟩ qs x (qG.out.later (gtr aA.out hG))
          rw[show(az.d ⟨vars, .slice va vars.length vc, procs, .slice (some ⟨kb, ko, none⟩) procs.length pc, .mk mk mn ms (.slice ma ml.length mc) ml⟩).procs = P from vF]at hc
          simp only[az.val]at hc
          have HC := Lib.hid hc
          clear hc
          simp only[zS]
          go_simp
          refine(HC.out).mono ?_
          rintro e y ⟨rfl, hg⟩
          exact⟨_, rfl, gm hg rfl⟩
        case s4 =>
          refine ok fw (λvs x hG HX hP => ?_)
          have i0 := cell1 HX.out.2.1
          simp only[zS]
          go_simp
          exact gc
        case s5 =>
          refine oo (λvs x hP => ?_)
          simp only[zS]
          go_simp
          exact gc
      case done =>
      intro vs wx hE
      have hG := hE.grow
      have lV := Lib.hid (kL.out.grow hG)
      have uH := Lib.hid hG
      have vG := Lib.hid (fw.out _ hG)
      have BD := Lib.hid (ai xh.out hG)
      clear hE hG
      simp only[zS, Nat.reduceAdd]
      have i0 := cell1 vG.out.2.1
      obtain⟨⟨y0, y1, y2⟩, y3, y4, y5⟩ := cB vG.out.2.2
      have r0 := cell1 BD.out
      have hil := lt_of_block vG.out.2.1
      have hyl := lt_of_block vG.out.2.2
      have hrl := lt_of_block BD.out
      generalize FK : (if gK P qs < (j : Int)then 1 else 0) = DD at *
      have X3 : DD <= 1 := by rw[← FK]; split <;> omega
      have Ny := Lib.hid (λ(b : Bool) (h : decide (gK P qs < (j : Int)) = b) => show DD = if b then 1 else 0 from by
        rw[← FK, ← h]; by_cases h : gK P qs < (j : Int) <;> simp[h])
      clear FK
      generalize hbd : decide (gK P qs < (j : Int)) = bd at *
      have HD2 := Lib.hid (Ny.out bd rfl)
      clear hbd Ny
      have Kk := Lib.hid (show bP w2 B w6 wx from fG.out.trans ((bP.lG fQ.out).trans (bP.lG uH.out)))
      go_upto_if 50 with fail
      go_cut [55] (λv wc => iJ w2 B wc (c2 + DD) /\ bP w2 B wx wc)
      case first =>
        cases bd with
        |true =>
          have HD3 := Lib.hid (show DD = 1 from HD2.out)
          have HC := Lib.hid (yu w2 B j (.slice none 0 0) [] qs 22 c2 wx lV.out (ay.nil _ _ _) (by simp) (by have := HB1.out; have := HB2.out; have := dx.out; have := fu.out; omega))
          clear HD2
          go_wp2_with fail
          refine HC.out.mono ?_
          rintro e w5 ⟨rfl, dC, ik⟩
          have mZ := Lib.hid dC
          have ng := Lib.hid ik
          clear dC ik HC
          go_wp2_with fail
          go_meet
          case rel => exact⟨by rw[HD3.out]; exact mZ.out, ng.out⟩
        |false =>
          have HD3 := Lib.hid (show DD = 0 from HD2.out)
          clear HD2
          go_wp2_with fail
          go_meet
          case rel => exact⟨by rw[HD3.out]; exact lV.out, Mv.refl _ _⟩
      case rest =>
        obtain⟨lW, zf⟩ := hcut
        have uI := Lib.hid lW
        have Kl := Lib.hid (zf.keep' lV.out vG.out.2.1 (by decide) (by decide))
        have BF := Lib.hid (zf.keep' lV.out vG.out.2.2 (by decide) (by decide))
        have Km := Lib.hid (zf.keep' lV.out BD.out (by decide) (by decide))
        have YA := Lib.hid (ai eH.out lW.g)
        have Us := Lib.hid (show bP w2 B w6 wc from Kk.out.trans zf)
        clear i0 y0 y1 y2 y3 y4 y5 r0 hil hyl hrl lW zf Kk fw vG uQ jV xh BD iU lV kL
        obtain⟨⟨y0, y1, y2⟩, y3, y4, y5⟩ := cB BF.out
        have hyl := lt_of_block BF.out
        have X4 : aM.length <= qc := ay.cap fP.out.params
        generalize wr.heap.size = Z at *
        go_wp2_with fail
        generalize wc = w8 at *
        clear y0 y1 y2 y3 y4 y5 hyl
        go_loopw [59] (λt wr => ∃ (i c3 : Nat), t = .int .i64 i /\ i <= aM.length /\ iJ w2 B wr c3 /\ bP w2 B w8 wr /\ c3 + fV (aM.take i) (aM.drop i) = c2 + DD + fV [] aM) (λt _ => aM.length - (intOf t).toNat)
        case atStart => exact⟨0, _, rfl, Nat.zero_le _, uI.out, Mv.refl _ _, by simp⟩
        obtain⟨i, c3, rfl, hi, hst', jN, hrest⟩ := hrel
        have zg := Lib.hid hst'
        have rY := Lib.hid jN
        have Ey := Lib.hid hrest
        clear hst' jN hrest
        have xM := Lib.hid (Ba aM [])
        by_cases Ez : i < aM.length
        · obtain⟨vb, vo, Kn, hvv, -, hcc⟩ := (fP.out.params.later zg.out.g).at Ez
          simp only[Value.slice.injEq, true_and]at hvv
          obtain⟨rfl, rfl⟩ := hvv
          have sS := Lib.hid (show fV (aM.take i) (aM.drop i) = jB (jH (aM.take i) aM[i].name) + fV (aM.take (i + 1)) (aM.drop (i + 1))from by
            rw[drop_at _ i Ez, fV, take_at _ i Ez])
          generalize aM[i] = x at *
          obtain⟨xs, xk, xn⟩ := x
          have c0 := hcc 0 _ rfl
          have c1 := hcc 1 _ rfl
          have c4 := hcc 2 _ rfl
          simp only[Nat.add_zero]at c0 sS
          have hvl : vb < wr.heap.size := World.block_lt_of_cell? wr _ c0
          have Wj := Lib.hid (heap_alloc_new wr (.cells #[.string xs, .int .u8 xk, .int .i64 xn] 50))
          have zU := Lib.hid (show Grow wr (wr.alloc (.cells #[.string xs, .int .u8 xk, .int .i64 xn] 50))from(Mv.refl _ wr).alloc _)
          have Ko := Lib.hid (zg.out.grow zU.out)
          have Ut := Lib.hid (ai (rY.out.keep' uI.out Km.out (by decide) (by decide)) zU.out)
          have Uu := Lib.hid (ai (rY.out.keep' uI.out Kl.out (by decide) (by decide)) zU.out)
          have Uv := Lib.hid (ai (rY.out.keep' uI.out BF.out (by decide) (by decide)) zU.out)
          clear hcc
          go_upto_region 18 with fail
          generalize (wr.alloc (.cells #[.string xs, .int .u8 xk, .int .i64 xn] 50)) = w9 at *
          have jY := Lib.hid (λ(y : World) (hy : Grow w9 y) => And.intro (ai Ut.out hy) (And.intro (ai Uu.out hy) (And.intro (ai Uv.out hy) (ai Wj.out hy))))
          clear c0 c1 c4
          refine jm 11 93 [some 64, some 65, some 66, some 67, some 68, some 69, some 70, some 71, some 72, some 73, some 74] [[], [], [], [2], [], [4], [], [5, 6], [], [8], [7, 9]] [] [.c (.func (.func 50) #[] #[.pointer (some ⟨B, 0, none⟩)]), .c (.int .i64 j), .c (.pointer (some ⟨wr.heap.size, 0, none⟩)), .c (.string xs), .c (.pointer (some ⟨Z + 1, 1, none⟩)), .c (.slice (some ⟨vb, vo, none⟩) aM.length qc), .c (.int .i64 i), .c (.slice (some ⟨vb, vo, none⟩) i qc), .c (.pointer (some ⟨wr.heap.size, 0, none⟩)), .c (.string xs), .c (.int .i64 (jH (aM.take i) xs))] trivial (dJ rfl) ?steps ?done
          case steps =>
            refine⟨?s0, ?s1, ?s2, ?s3, ?s4, ?s5, ?s6, ?s7, ?s8, ?s9, ?s10, trivial⟩
            case s0 =>
              refine ok jY (λvs x hG HX hP => ?_)
              have r0 := cell1 HX.out.1
              simp only[zS]
              go_simp
              exact gc
            case s1 =>
              refine ok jY (λvs x hG HX hP => ?_)
              have i0 := cell1 HX.out.2.1
              simp only[zS]
              go_simp
              exact gc
            case s2 =>
              refine oo (λvs x hP => ?_)
              simp only[zS]
              go_simp
              exact gc
            case s3 =>
              refine ok jY (λvs x hG HX hP => ?_)
              obtain⟨d0, d1, d2⟩ := dF HX.out.2.2.2
              simp only[zS]
              go_simp
              exact gc
            case s4 =>
              refine oo (λvs x hP => ?_)
              simp only[zS]
              go_simp
              exact gc
            case s5 =>
              refine ok jY (λvs x hG HX hP => ?_)
              obtain⟨⟨y0, y1, y2⟩, y3, y4, y5⟩ := cB HX.out.2.2.1
              simp only[zS]
              go_simp
              exact gc
            case s6 =>
              refine oo (λvs x hP => ?_)
              simp only[zS]
              go_simp
              exact gc
            case s7 =>
              refine ok jY (λvs x hG HX hP => ?_)
              have hjc : i <= qc := by omega
              simp only[zS]
              go_simp
              exact gc
            case s8 =>
              refine oo (λvs x hP => ?_)
              simp only[zS]
              go_simp
              exact gc
            case s9 =>
              refine ok jY (λvs x hG HX hP => ?_)
              obtain⟨d0, d1, d2⟩ := dF HX.out.2.2.2
              simp only[zS]
              go_simp
              exact gc
            case s10 =>
              refine ok jY (λvs x hG HX hP => ?_)
              have HC := Lib.hid (AP (.slice (some ⟨vb, vo, none⟩) i qc) (aM.take i) xs x (II (fP.out.params.later (gtr Ko.out.g hG)) i (by omega)))
              simp only[zS]
              go_simp
              refine(HC.out).mono ?_
              rintro e y ⟨rfl, hg⟩
              exact⟨_, rfl, gm hg rfl⟩
          case done =>
          intro vs Wl hE
          have hG := hE.grow
          have TM := Lib.hid (Ko.out.grow hG)
          have TN := Lib.hid hG
          clear hE hG
          simp only[zS, Nat.reduceAdd, List.drop_succ_cons, List.drop_zero]
          have HC := Lib.hid (yu w2 B j (.slice none 0 0) [] xs (jH (aM.take i) xs) c3 Wl TM.out (ay.nil _ _ _) (by simp) (by have := HB1.out; have := HB2.out; have := dx.out; have := fu.out; have := Ey.out; have := xM.out; omega))
          go_wp2_with fail
          refine HC.out.mono ?_
          rintro e w5 ⟨rfl, dC, ik⟩
          have mZ := Lib.hid dC
          have ng := Lib.hid (show bP w2 B w8 w5 from rY.out.trans ((bP.lG zU.out).trans ((bP.lG TN.out).trans ik)))
          clear dC ik HC
          go_wp2_with fail
          go_roundw
          case rel => exact⟨i + 1, _, by go_num, by omega, mZ.out, ng.out, by have := Ey.out; have := sS.out; omega⟩
          case measure => simp[intOf]; omega
        obtain rfl : i = aM.length := by omega
        have Nz := Lib.hid (show c3 = c2 + DD + fV [] aM from by
          have h := Ey.out
          rw[List.drop_length]at h
          simpa[fV]using h)
        have Uw := Lib.hid (rY.out.keep' uI.out Km.out (by decide) (by decide))
        have Ux := Lib.hid (rY.out.keep' uI.out Kl.out (by decide) (by decide))
        have Kq := Lib.hid (rY.out.keep' uI.out BF.out (by decide) (by decide))
        have qH := Lib.hid (ai eH.out zg.out.g)
        have hvs := GU w2 B ⟨vars, .slice va vars.length vc, procs, .slice (some ⟨kb, ko, none⟩) procs.length pc, .mk mk mn ms (.slice ma ml.length mc) ml⟩ qG.out (B + 1) Z 54 (.inl rfl) _ (.mk bk bn bs (.slice ba bl.length bc) bl) (Nat.le_refl _) fP.out.body wr c3 [] (.slice none 0 0) aM (.slice qa aM.length qc) zg.out ⟨Uw.out, .inl ⟨rfl, _, Ux.out⟩⟩ ⟨ay.nil 1 aB _, λh => (h rfl).elim⟩ ((iE.old (λ_ => by simp[au.cells]) fP.out.params).later zg.out.g)
        rw[show(az.d ⟨vars, .slice va vars.length vc, procs, .slice (some ⟨kb, ko, none⟩) procs.length pc, .mk mk mn ms (.slice ma ml.length mc) ml⟩).procs = P from vF]at hvs
        have qI := Lib.hid (hvs (by have := AQ P (ae.t (.mk bk bn bs (.slice ba bl.length bc) bl)) aM; have := FJ.out; have := HB1.out; have := HB2.out; have := dx.out; have := fu.out; have := Nz.out; have := xM.out; omega) (by have := FJ.out; simp only[List.length_nil]; omega) (by have := FJ.out; omega))
        clear hvs
        simp only[az.val, ae.val]at qI
        obtain⟨⟨x0, x1, x2⟩, x3, x4, x5⟩ := cB qH.out
        obtain⟨⟨y0, y1, y2⟩, y3, y4, y5⟩ := cB Kq.out
        have hxl := lt_of_block qH.out
        have hyl := lt_of_block Kq.out
        go_wp2_with fail
        refine qI.out.mono ?_
        rintro e w5 ⟨rfl, dC, ik⟩
        have mZ := Lib.hid dC
        have ng := Lib.hid (show bP w2 B w6 w5 from Us.out.trans (rY.out.trans ik))
        clear dC ik qI x0 x1 x2 x3 x4 x5 y0 y1 y2 y3 y4 y5 hxl hyl
        go_wp2_with fail
        go_roundw
        case rel => exact⟨j + 1, _, by go_num, by omega, mZ.out, ng.out, by have := dx.out; have := HE.out; have := Wi.out; have := Nz.out; omega⟩
        case measure => simp[intOf]; omega
    obtain rfl : j = procs.length := by omega
    have oW := Lib.hid (show c2 = c + kz P 0 P from by
      have h := dx.out
      rw[← We, List.drop_length]at h
      simpa[kz]using h)
    have Uy := Lib.hid (fG.out.keep' Ex.out Kj.out (by decide) (by decide))
    have FL := Lib.hid (ai eH.out ig.out.g)
    have hvs := GU w2 B ⟨vars, .slice va vars.length vc, procs, .slice pa procs.length pc, .mk mk mn ms (.slice ma ml.length mc) ml⟩ qG.out (B + 1) w.heap.size 55 (.inr rfl) _ (.mk mk mn ms (.slice ma ml.length mc) ml) (Nat.le_refl _) qG.out.main wr c2 [] (.slice none 0 0) vars (.slice va vars.length vc) ig.out ⟨Uy.out, .inr ⟨rfl, _, _, _, _, _, _, _, _, FL.out⟩⟩ ⟨ay.nil 1 aB _, λh => (h rfl).elim⟩ ((iE.old (λ_ => by simp[au.cells]) qG.out.vars).later ig.out.g)
    rw[show(az.d ⟨vars, .slice va vars.length vc, procs, .slice pa procs.length pc, .mk mk mn ms (.slice ma ml.length mc) ml⟩).procs = P from vF]at hvs
    have qI := Lib.hid (hvs (by have := HB1.out; have := HB2.out; have := HB3.out; have := dE.out; have := fu.out; have := oW.out; omega) (by have := dE.out; simp only[List.length_nil]; omega) (by have := dE.out; omega))
    clear hvs
    simp only[az.val, ae.val]at qI
    obtain⟨⟨x0, x1, x2⟩, x3, x4, x5⟩ := cB FL.out
    have hxl := lt_of_block FL.out
    go_wp2_with fail
    refine qI.out.mono ?_
    rintro e w5 ⟨rfl, dC, ik⟩
    obtain⟨rv, rl, hbx, hrow, hlen⟩ := dC.blk
    obtain⟨ra, rc, eF⟩ := dL hrow
    have bI := Lib.hid (gtr HG2.out dC.g)
    have xN := Lib.hid (show rl.length = V from by rw[hlen, HF.out, oW.out, fu.out]; omega)
    have b0 := cell1 hbx
    have hbl := lt_of_block hbx
    clear dC ik qI x0 x1 x2 x3 x4 x5 hxl hbx hrow hlen
    subst eF
    go_wp2_with fail
    go_ret
    exact⟨ra, rc, QV xN.out, bI.out⟩
end Go.Proofs.YtbpodipdfohikaaGreat
