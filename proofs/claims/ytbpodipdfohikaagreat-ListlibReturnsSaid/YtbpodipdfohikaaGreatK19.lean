import Derived.Test.YtbpodipdfohikaaGreatK18
set_option linter.unusedSimpArgs false
set_option linter.unusedVariables false
set_option maxRecDepth 100000
set_option maxHeartbeats 25600000
namespace Go.Proofs.YtbpodipdfohikaaGreat
open Go.RowKit Go.Instr
attribute [local go_sem ↓] fV
theorem Dn (t : Tree) : 1 <= dJ t := by cases t; rw[dJ]; omega
theorem GA : ∀ l : List Tree, l.length <= ik l
  | [] => Nat.zero_le _
  |t :: l => by have := Dn t; have := GA l; rw[ik, List.length_cons]; omega
theorem Q7 (k n : Int) (s : ByteArray) (kv : Value) (l : List ae) : l.length + 1 <= dJ (ae.t (.mk k n s kv l)) := by
  have := GA (ae.ts l)
  rw[ae.dz]at this
  rw[ae.t, dJ]; omega
set_option maxRecDepth 100000 in
set_option maxHeartbeats 12800000 in
theorem GD (wb : World) (B : Nat) (p : az) (hp : je wb p) (R J f : Nat) (hfl : f = 54 \/ f = 55) : ∀ (m : Nat) (x : ae), SizeOf.sizeOf x <= m -> bJ wb x -> ∀ (w : World) (c : Nat) (path : List Int) (pv : Value) (aC : List au) (vv : Value), iL wb B w c -> rT B w R J f -> iH wb 1 aJ 3 w pv path -> iH wb 3 au.cells 50 w vv aC -> c + jL p.d.procs x.t aC <= 900000 -> path.length + dJ x.t <= 900000 -> aC.length + dJ x.t <= 900000 ->
    Calls Tryz.prog 53 #[p.val, x.val, pv, vv, .func (.func f) #[] #[.pointer (some ⟨R, 0, none⟩), .pointer (some ⟨J, 0, none⟩)]] w (DV wb B w (c + jL p.d.procs x.t aC)) := by
  obtain⟨vars, Vo, procs, Vp, ⟨mk, mn, ms, mv, ml⟩⟩ := p
  obtain⟨⟨va, vc, rfl⟩, ⟨pa, pc, rfl⟩, hm⟩ := hp.form
  obtain⟨ma, mc, rfl, -, -⟩ := hm.form
  have Cc := Lib.hid hp
  have vg := Lib.hid (show(az.d ⟨vars, .slice va vars.length vc, procs, .slice pa procs.length pc, .mk mk mn ms (.slice ma ml.length mc) ml⟩).procs = procs.map aO.d from rfl)
  have hent : ∀ (args : Array Value) (w : World), (callFunc f args).run Tryz.prog w = .ok (.enter f args) w := by
    rcases hfl with rfl|rfl <;> intro args w <;> simp[go_sem]
  clear hp hm hfl
  simp only[vg.out]
  generalize hP : procs.map aO.d = P at *
  intro m
  induction m with
  |zero => intro x hm; cases x; simp at hm
  |succ m ih =>
    intro x hm hx w c path pv aC vv hst hrep hpt Fv hcb hpb hvb
    obtain⟨k, n, s, kv, l⟩ := x
    obtain⟨ka, kc, rfl, hkc, hkl⟩ := hx.form
    obtain⟨qa, qc, rfl, -, -⟩ := hpt.1.form
    obtain⟨ia, ic, rfl, -, -⟩ := Fv.1.form
    have gK := Lib.hid (λ(i : Nat) (hi : i < l.length) => ih l[i] (Nat.le_of_lt_succ (Nat.lt_of_lt_of_le (qX (k := k) (n := n) (s := s) (kv := .slice ka l.length kc) (List.getElem_mem hi)) hm)) (hx.row.2.2.2.2 _ (List.getElem_mem hi)))
    have xK := Lib.hid hx
    have HST := Lib.hid hst
    have JO := Lib.hid hrep
    have sM := Lib.hid hpt
    have Fw := Lib.hid Fv
    have hsz : l.length + 1 <= dJ (ae.t (.mk k n s (.slice ka l.length kc) l)) := Q7 _ _ _ _ _
    have HV := Lib.hid (show jL P (ae.t (.mk k n s (.slice ka l.length kc) l)) aC = jE (gm P k s l.length aC) + (if k = 50 \/ k = 51 then mU P s l.length 0 (ae.ts l) aC else mI P k s 0 (ae.ts l) aC)from by
      rw[ae.t, jL, ae.dz])
    generalize XO : jL P (ae.t (.mk k n s (.slice ka l.length kc) l)) aC = V at *
    generalize hSS : dJ (ae.t (.mk k n s (.slice ka l.length kc) l)) = SZ at *
    have aj := Lib.hid (show Grow w ((w.alloc (.cells #[.slice va vars.length vc, .slice pa procs.length pc, .int .u8 mk, .int .i64 mn, .string ms, .slice ma ml.length mc] 42)).alloc (.cells #[.int .u8 k, .int .i64 n, .string s, .slice ka l.length kc] 40))from((Mv.refl _ w).alloc _).alloc _)
    have zJ := Lib.hid (show((w.alloc (.cells #[.slice va vars.length vc, .slice pa procs.length pc, .int .u8 mk, .int .i64 mn, .string ms, .slice ma ml.length mc] 42)).alloc (.cells #[.int .u8 k, .int .i64 n, .string s, .slice ka l.length kc] 40)).heap[w.heap.size]? = some (.cells #[.slice va vars.length vc, .slice pa procs.length pc, .int .u8 mk, .int .i64 mn, .string ms, .slice ma ml.length mc] 42 (0, 0))from bX (heap_alloc_new w _) _)
    have aY := Lib.hid (show((w.alloc (.cells #[.slice va vars.length vc, .slice pa procs.length pc, .int .u8 mk, .int .i64 mn, .string ms, .slice ma ml.length mc] 42)).alloc (.cells #[.int .u8 k, .int .i64 n, .string s, .slice ka l.length kc] 40)).heap[w.heap.size + 1]? = some (.cells #[.int .u8 k, .int .i64 n, .string s, .slice ka l.length kc] 40 (0, 0))from by
      have := heap_alloc_new (w.alloc (.cells #[.slice va vars.length vc, .slice pa procs.length pc, .int .u8 mk, .int .i64 mn, .string ms, .slice ma ml.length mc] 42)) (.cells #[.int .u8 k, .int .i64 n, .string s, .slice ka l.length kc] 40)
      simpa using this)
    clear hst hrep hpt Fv ih hx
    simp only[az.val, ae.val]at gK ⊢
    go_enter Tryz.func53, Tryz.ntmps53
    go_upto_region 1 with fail
    generalize ((w.alloc (.cells #[.slice va vars.length vc, .slice pa procs.length pc, .int .u8 mk, .int .i64 mn, .string ms, .slice ma ml.length mc] 42)).alloc (.cells #[.int .u8 k, .int .i64 n, .string s, .slice ka l.length kc] 40)) = w1 at *
    have HK := Lib.hid (λ(y : World) (hy : Grow w1 y) => And.intro (ai zJ.out hy) (ai aY.out hy))
    refine jr 8 72 [some 14, some 15, some 16, some 17, some 18, some 19, some 20, some 21] [[], [], [], [2], [], [], [], [4, 5, 6]] [] [.c (.func (.func f) #[] #[.pointer (some ⟨R, 0, none⟩), .pointer (some ⟨J, 0, none⟩)]), .c (.slice qa path.length qc), .c (.pointer (some ⟨w.heap.size + 1, 2, none⟩)), .c (.string s), .c (.agg #[.slice va vars.length vc, .slice pa procs.length pc, .int .u8 mk, .int .i64 mn, .string ms, .slice ma ml.length mc]), .c (.agg #[.int .u8 k, .int .i64 n, .string s, .slice ka l.length kc]), .c (.slice ia aC.length ic), .c (.int .i64 (gm P k s l.length aC))] trivial (dG rfl) ?steps ?done
    case steps =>
      refine⟨?s0, ?s1, ?s2, ?s3, ?s4, ?s5, ?s6, ?s7, trivial⟩
      case s0 =>
        refine oo (λvs x hP => ?_)
        simp only[zS]
        go_simp
        exact gc
      case s1 =>
        refine oo (λvs x hP => ?_)
        simp only[zS]
        go_simp
        exact gc
      case s2 =>
        refine oo (λvs x hP => ?_)
        simp only[zS]
        go_simp
        exact gc
      case s3 =>
        refine ok HK (λvs x hG HX hP => ?_)
        obtain⟨⟨n0, n1⟩, n2, n3⟩ := aI HX.out.2
        simp only[zS]
        go_simp
        exact gc
      case s4 =>
        refine ok HK (λvs x hG HX hP => ?_)
        obtain⟨⟨x0, x1, x2⟩, x3, x4, x5⟩ := cz HX.out.1
        simp only[zS]
        go_simp
        exact gc
      case s5 =>
        refine ok HK (λvs x hG HX hP => ?_)
        obtain⟨⟨n0, n1⟩, n2, n3⟩ := aI HX.out.2
        simp only[zS]
        go_simp
        exact gc
      case s6 =>
        refine oo (λvs x hP => ?_)
        simp only[zS]
        go_simp
        exact gc
      case s7 =>
        refine ok HK (λvs x hG HX hP => ?_)
        have HC := Lib.hid (Qp ⟨vars, .slice va vars.length vc, procs, .slice pa procs.length pc, .mk mk mn ms (.slice ma ml.length mc) ml⟩ k n s ka l kc _ aC x (Cc.out.later (gtr HST.out.g (gtr aj.out hG))) (xK.out.later (gtr HST.out.g (gtr aj.out hG))) (Fw.out.later (gtr aj.out hG)).1)
        simp only[az.val, vg.out]at HC
        simp only[zS]
        go_simp
        refine(HC.out).mono ?_
        rintro e y ⟨rfl, hg⟩
        exact⟨_, rfl, gy hg rfl⟩
    case done =>
    intro vs wx hE
    have hG := hE.grow
    have uD := Lib.hid (HST.out.grow (gtr aj.out hG))
    have HR1 := Lib.hid (JO.out.later (gtr aj.out hG))
    have zK := Lib.hid (HK.out _ hG)
    have aT := Lib.hid (gtr aj.out hG)
    clear hE hG
    simp only[zS, Nat.reduceAdd, List.drop_succ_cons, List.drop_zero]
    have HC := Lib.hid (I1 wb B R J f (.slice qa path.length qc) path s (gm P k s l.length aC) c wx HR1.out uD.out (sM.out.later aT.out).1 (by omega) (by omega))
    go_wp2_with fail
    refine HC.out.mono ?_
    rintro e w2 ⟨rfl, JP, jP⟩
    have ji := Lib.hid JP
    have vw := Lib.hid (jP.keep' uD.out zK.out.1 (by decide) (by decide))
    have bK := Lib.hid (jP.keep' uD.out zK.out.2 (by decide) (by decide))
    have HR2 := Lib.hid (HR1.out.pJ uD.out jP)
    have JQ := Lib.hid ((Fw.out.later aT.out).pJ uD.out jP)
    have JR := Lib.hid ((sM.out.later aT.out).pJ uD.out jP)
    have JS := Lib.hid (show bN wb B w w2 from(bN.lG aT.out).trans jP)
    obtain⟨⟨x0, x1, x2⟩, x3, x4, x5⟩ := cz vw.out
    obtain⟨⟨n0, n1⟩, n2, n3⟩ := aI bK.out
    have hxl := lt_of_block vw.out
    have hnl := lt_of_block bK.out
    clear JP jP HC HK zK zJ aY HR1 uD JO HST Fw sM aj
    by_cases hk : k = 50 \/ k = 51
    · have pG := Lib.hid (show V = jE (gm P k s l.length aC) + mU P s l.length 0 (ae.ts l) aC from by rw[HV.out, if_pos hk])
      clear HV gK
      have hb : (k == 50) = true \/ ((k == 50) = false /\ (k == 51) = true) := by
        rcases hk with rfl|rfl
        · exact .inl rfl
        · exact .inr ⟨rfl, rfl⟩
      clear hk
      rcases hb with hb|⟨hb, hb2⟩
      all_goals
        go_wp2_with fail
        go_loopw [34] (λt wr => ∃ (j c' : Nat), t = .int .i64 j /\ j <= l.length /\ iL wb B wr c' /\ bN wb B w2 wr /\ c' + mU P s l.length j ((ae.ts l).drop j) aC = c + V /\ c' <= c + V) (λt _ => l.length - (intOf t).toNat)
        case atStart => exact⟨0, _, rfl, Nat.zero_le _, ji.out, Mv.refl _ _, by rw[pG.out]; simp only[List.drop_zero]; omega, by rw[pG.out]; omega⟩
        obtain⟨j, c', rfl, hj, hst', jQ, hrest, hcl⟩ := hrel
        have iy := Lib.hid hst'
        have fH := Lib.hid jQ
        have dm := Lib.hid hrest
        clear hst' jQ hrest
        by_cases hlt : j < l.length
        · obtain⟨kb, ko, ni, dN, -, -⟩ := xK.out.row.2.2.2.1.at (show 0 < l.length by omega)
          simp only[Value.slice.injEq, true_and]at dN
          obtain⟨rfl, rfl⟩ := dN
          have eZ := (rH xK.out j hlt).later iy.out.g
          have HE := Lib.hid (show mU P s l.length j ((ae.ts l).drop j) aC = jE (lK P s l.length l[j].t.name j aC) + mU P s l.length (j + 1) ((ae.ts l).drop (j + 1)) aC from by
            rw[drop_at _ j (by rw[ae.dz]; exact hlt), mU, ae.oK l j hlt])
          have Js := Lib.hid (λ(x : World) (hx : Grow wb x) (hv : ay 3 au.cells x (.slice ia aC.length ic) aC) => OM ⟨vars, .slice va vars.length vc, procs, .slice pa procs.length pc, .mk mk mn ms (.slice ma ml.length mc) ml⟩ k n s kb ko l kc j hlt (.slice ia aC.length ic) aC x (Cc.out.later hx) (xK.out.later hx) hv)
          simp only[az.val, vg.out]at Js
          generalize l[j] = y at *
          obtain⟨yk, yn, ys, yv, yl⟩ := y
          obtain⟨ya, yc, rfl, -, -⟩ := eZ.at_.form
          obtain⟨⟨d0, d1⟩, d2, d3⟩ := eZ.four
          have hbl : kb < wr.heap.size := World.block_lt_of_cell? wr _ d0
          have jX := Lib.hid (heap_alloc_new wr (.cells #[.int .u8 yk, .int .i64 yn, .string ys, .slice ya yl.length yc] 40))
          have fU := Lib.hid (show Grow wr (wr.alloc (.cells #[.int .u8 yk, .int .i64 yn, .string ys, .slice ya yl.length yc] 40))from(Mv.refl _ wr).alloc _)
          have kL := Lib.hid (iy.out.grow fU.out)
          have Fx := Lib.hid (ai (fH.out.keep' ji.out vw.out (by decide) (by decide)) fU.out)
          have eU := Lib.hid (ai (fH.out.keep' ji.out bK.out (by decide) (by decide)) fU.out)
          have HR3 := Lib.hid ((HR2.out.pJ ji.out fH.out).later fU.out)
          have Bu := Lib.hid ((JQ.out.pJ ji.out fH.out).later fU.out)
          have yY := Lib.hid ((JR.out.pJ ji.out fH.out).later fU.out)
          clear eZ
          have JU := Lib.hid (λx hx => Js.out x (gtr kL.out.g hx) (Bu.out.later hx).1)
          simp only[ae.t, Tree.name]at JU HE
          go_upto_region 6 with fail
          generalize (wr.alloc (.cells #[.int .u8 yk, .int .i64 yn, .string ys, .slice ya yl.length yc] 40)) = w3 at *
          have fw := Lib.hid (λ(y : World) (hy : Grow w3 y) => And.intro (ai Fx.out hy) (And.intro (ai eU.out hy) (ai jX.out hy)))
          clear d0 d1 d2 d3
          refine jr 11 72 [some 39, some 40, some 41, some 42, some 43, some 44, some 45, some 46, some 47, some 48, some 49] [[], [], [], [1, 2], [], [4], [], [], [], [], [6, 7, 8, 9]] [] [.c (.func (.func f) #[] #[.pointer (some ⟨R, 0, none⟩), .pointer (some ⟨J, 0, none⟩)]), .c (.slice qa path.length qc), .c (.int .i64 j), .p (λv y => ∃ a c, v = .slice a (path.length + 1) c /\ iH wb 1 aJ 3 y (.slice a (path.length + 1) c) (path ++ [(j : Int)])), .c (.pointer (some ⟨wr.heap.size, 2, none⟩)), .c (.string ys), .c (.agg #[.slice va vars.length vc, .slice pa procs.length pc, .int .u8 mk, .int .i64 mn, .string ms, .slice ma ml.length mc]), .c (.agg #[.int .u8 k, .int .i64 n, .string s, .slice (some ⟨kb, ko, none⟩) l.length kc]), .c (.int .i64 j), .c (.slice ia aC.length ic), .c (.int .i64 (lK P s l.length ys j aC))] ⟨⟨(λv x y hg h => by obtain⟨a, c, hv, hr⟩ := h; exact⟨a, c, hv, hr.later hg⟩), λ_ => bg⟩, trivial⟩ (dG rfl) ?steps ?done
          case steps =>
            refine⟨?s0, ?s1, ?s2, ?s3, ?s4, ?s5, ?s6, ?s7, ?s8, ?s9, ?s10, trivial⟩
            case s0 =>
              refine oo (λvs x hP => ?_)
              simp only[zS]
              go_simp
              exact gc
            case s1 =>
              refine oo (λvs x hP => ?_)
              simp only[zS]
              go_simp
              exact gc
            case s2 =>
              refine oo (λvs x hP => ?_)
              simp only[zS]
              go_simp
              exact gc
            case s3 =>
              refine ok fw (λvs x hG HX hP => ?_)
              have HC := Lib.hid (Hd (.slice qa path.length qc) path j x (yY.out.later hG).1 (by omega))
              simp only[zS]
              go_simp
              refine(HC.out).mono ?_
              rintro e y ⟨v', rfl, ⟨hr, ho⟩, hg⟩
              exact⟨_, rfl, Bo hg (by have hf := (yY.out.later hG).Fu hg hr ho; obtain⟨a, c, h, _⟩ := hr.form; simp only[List.length_append, List.length_cons, List.length_nil, Nat.zero_add]at h; subst h; exact⟨a, c, rfl, hf⟩)⟩
            case s4 =>
              refine oo (λvs x hP => ?_)
              simp only[zS]
              go_simp
              exact gc
            case s5 =>
              refine ok fw (λvs x hG HX hP => ?_)
              obtain⟨⟨n0, n1⟩, n2, n3⟩ := aI HX.out.2.2
              simp only[zS]
              go_simp
              exact gc
            case s6 =>
              refine ok fw (λvs x hG HX hP => ?_)
              obtain⟨⟨x0, x1, x2⟩, x3, x4, x5⟩ := cz HX.out.1
              simp only[zS]
              go_simp
              exact gc
            case s7 =>
              refine ok fw (λvs x hG HX hP => ?_)
              obtain⟨⟨n0, n1⟩, n2, n3⟩ := aI HX.out.2.1
              simp only[zS]
              go_simp
              exact gc
            case s8 =>
              refine oo (λvs x hP => ?_)
              simp only[zS]
              go_simp
              exact gc
            case s9 =>
              refine oo (λvs x hP => ?_)
              simp only[zS]
              go_simp
              exact gc
            case s10 =>
              refine ok fw (λvs x hG HX hP => ?_)
              have HC := Lib.hid (JU.out x hG)
              simp only[zS]
              go_simp
              refine(HC.out).mono ?_
              rintro e y ⟨rfl, hg⟩
              exact⟨_, rfl, gy hg rfl⟩
          case done =>
          intro vs wx hE
          have hG := hE.grow
          have p3 := hE.val 3
          obtain⟨a3, c3, h3, r3⟩ := p3
          have uE := Lib.hid hG
          have lV := Lib.hid (kL.out.grow hG)
          have HR4 := Lib.hid (HR3.out.later hG)
          have jO := Lib.hid r3
          clear hE hG r3
          simp only[zS, Nat.reduceAdd, h3, List.drop_succ_cons, List.drop_zero]
          have HC := Lib.hid (I1 wb B R J f (.slice a3 (path.length + 1) c3) (path ++ [(j : Int)]) ys (lK P s l.length ys j aC) c' wx HR4.out lV.out jO.out.1 (by simp; omega) (by omega))
          go_wp2_with fail
          refine HC.out.mono ?_
          rintro e w5 ⟨rfl, dA, iA⟩
          have ny := Lib.hid dA
          have nC := Lib.hid (show bN wb B w2 w5 from(fH.out.trans ((bN.lG fU.out).trans (bN.lG uE.out))).trans iA)
          clear dA iA HC
          go_wp2_with fail
          go_roundw
          case rel => exact⟨j + 1, _, by go_num, by omega, ny.out, nC.out, by have := dm.out; have := HE.out; omega, by have := dm.out; have := HE.out; omega⟩
          case measure => simp[intOf]; omega
        · obtain rfl : j = l.length := by omega
          have HF := Lib.hid (show c' = c + V from by
            have h := dm.out
            rw[List.drop_eq_nil_of_le (by rw[ae.dz]; exact Nat.le_refl _)]at h
            simpa[mU]using h)
          go_wp2_with fail
          go_end0
          exact⟨rfl, by rw[← HF.out]; exact iy.out, JS.out.trans fH.out⟩
        
    · have pG := Lib.hid (show V = jE (gm P k s l.length aC) + mI P k s 0 (ae.ts l) aC from by rw[HV.out, if_neg hk])
      have XP : (k == 50) = false := by simp; omega
      have XQ : (k == 51) = false := by simp; omega
      have HT := Lib.hid (show ∃ T : Tree, T = .mk k 0 s []from⟨_, rfl⟩)
      clear HV
      go_wp2_with fail
      go_loopw [55] (λt wr => ∃ (j c' : Nat), t = .int .i64 j /\ j <= l.length /\ iL wb B wr c' /\ bN wb B w2 wr /\ c' + mI P k s j ((ae.ts l).drop j) aC = c + V /\ c' <= c + V) (λt _ => l.length - (intOf t).toNat)
      case atStart => exact⟨0, _, rfl, Nat.zero_le _, ji.out, Mv.refl _ _, by rw[pG.out]; simp only[List.drop_zero]; omega, by rw[pG.out]; omega⟩
      obtain⟨j, c', rfl, hj, hst', jQ, hrest, hcl⟩ := hrel
      have iy := Lib.hid hst'
      have fH := Lib.hid jQ
      have dm := Lib.hid hrest
      clear hst' jQ hrest
      by_cases hlt : j < l.length
      · obtain⟨kb, ko, ni, dN, -, -⟩ := xK.out.row.2.2.2.1.at (show 0 < l.length by omega)
        simp only[Value.slice.injEq, true_and]at dN
        obtain⟨rfl, rfl⟩ := dN
        have eZ := (rH xK.out j hlt).later iy.out.g
        have HE := Lib.hid (show mI P k s j ((ae.ts l).drop j) aC = jL P l[j].t (kz (.mk k 0 s []) j aC) + mI P k s (j + 1) ((ae.ts l).drop (j + 1)) aC from by
          rw[drop_at _ j (by rw[ae.dz]; exact hlt), mI, ae.oK l j hlt])
        have xG := Lib.hid (AP (k := k) (n := n) (s := s) (kv := .slice (some ⟨kb, ko, none⟩) l.length kc) j hlt)
        have Vq := Lib.hid (PL (.mk k 0 s []) j aC)
        have TI := Lib.hid (gK.out j hlt)
        generalize l[j] = y at *
        obtain⟨yk, yn, ys, yv, yl⟩ := y
        obtain⟨ya, yc, rfl, -, -⟩ := eZ.at_.form
        obtain⟨⟨d0, d1⟩, d2, d3⟩ := eZ.four
        have hbl : kb < wr.heap.size := World.block_lt_of_cell? wr _ d0
        have jX := Lib.hid (heap_alloc_new wr (.cells #[.int .u8 yk, .int .i64 yn, .string ys, .slice ya yl.length yc] 40))
        have fU := Lib.hid (show Grow wr (wr.alloc (.cells #[.int .u8 yk, .int .i64 yn, .string ys, .slice ya yl.length yc] 40))from(Mv.refl _ wr).alloc _)
        have kL := Lib.hid (iy.out.grow fU.out)
        have Fx := Lib.hid (ai (fH.out.keep' ji.out vw.out (by decide) (by decide)) fU.out)
        have eU := Lib.hid (ai (fH.out.keep' ji.out bK.out (by decide) (by decide)) fU.out)
        have HR3 := Lib.hid ((HR2.out.pJ ji.out fH.out).later fU.out)
        have Bu := Lib.hid ((JQ.out.pJ ji.out fH.out).later fU.out)
        have yY := Lib.hid ((JR.out.pJ ji.out fH.out).later fU.out)
        clear eZ
        have vz := Lib.hid (λ(x : World) (hx : Grow _ x) => Qo k n s (some ⟨kb, ko, none⟩) l kc j (.slice ia aC.length ic) aC x (Bu.out.later hx).1 (by omega))
        go_upto_region 11 with fail
        generalize (wr.alloc (.cells #[.int .u8 yk, .int .i64 yn, .string ys, .slice ya yl.length yc] 40)) = w3 at *
        have fw := Lib.hid (λ(y : World) (hy : Grow w3 y) => And.intro (ai Fx.out hy) (And.intro (ai eU.out hy) (ai jX.out hy)))
        clear d0 d1 d2 d3
        refine jr 10 72 [some 60, some 61, some 62, some 63, some 64, some 65, some 66, some 67, some 68, some 69] [[], [], [], [], [2, 3], [], [], [], [5, 6, 7], []] [] [.c (.agg #[.slice va vars.length vc, .slice pa procs.length pc, .int .u8 mk, .int .i64 mn, .string ms, .slice ma ml.length mc]), .c (.agg #[.int .u8 yk, .int .i64 yn, .string ys, .slice ya yl.length yc]), .c (.slice qa path.length qc), .c (.int .i64 j), .p (λv y => ∃ a c, v = .slice a (path.length + 1) c /\ iH wb 1 aJ 3 y (.slice a (path.length + 1) c) (path ++ [(j : Int)])), .c (.agg #[.int .u8 k, .int .i64 n, .string s, .slice (some ⟨kb, ko, none⟩) l.length kc]), .c (.int .i64 j), .c (.slice ia aC.length ic), .p (λv y => ∃ a c, v = .slice a (kz (.mk k 0 s []) j aC).length c /\ iH wb 3 au.cells 50 y (.slice a (kz (.mk k 0 s []) j aC).length c) (kz (.mk k 0 s []) j aC)), .c (.func (.func f) #[] #[.pointer (some ⟨R, 0, none⟩), .pointer (some ⟨J, 0, none⟩)])] ⟨⟨(λv x y hg h => by obtain⟨a, c, hv, hr⟩ := h; exact⟨a, c, hv, hr.later hg⟩), λ_ => bg⟩, ⟨(λv x y hg h => by obtain⟨a, c, hv, hr⟩ := h; exact⟨a, c, hv, hr.later hg⟩), λ_ => bg⟩, trivial⟩ (dG rfl) ?steps ?done
        case steps =>
          refine⟨?s0, ?s1, ?s2, ?s3, ?s4, ?s5, ?s6, ?s7, ?s8, ?s9, trivial⟩
          case s0 =>
            refine ok fw (λvs x hG HX hP => ?_)
            obtain⟨⟨x0, x1, x2⟩, x3, x4, x5⟩ := cz HX.out.1
            simp only[zS]
            go_simp
            exact gc
          case s1 =>
            refine ok fw (λvs x hG HX hP => ?_)
            obtain⟨⟨n0, n1⟩, n2, n3⟩ := aI HX.out.2.2
            simp only[zS]
            go_simp
            exact gc
          case s2 =>
            refine oo (λvs x hP => ?_)
            simp only[zS]
            go_simp
            exact gc
          case s3 =>
            refine oo (λvs x hP => ?_)
            simp only[zS]
            go_simp
            exact gc
          case s4 =>
            refine ok fw (λvs x hG HX hP => ?_)
            have HC := Lib.hid (Hd (.slice qa path.length qc) path j x (yY.out.later hG).1 (by omega))
            simp only[zS]
            go_simp
            refine(HC.out).mono ?_
            rintro e y ⟨v', rfl, ⟨hr, ho⟩, hg⟩
            exact⟨_, rfl, Bo hg (by have hf := (yY.out.later hG).Fu hg hr ho; obtain⟨a, c, h, _⟩ := hr.form; simp only[List.length_append, List.length_cons, List.length_nil, Nat.zero_add]at h; subst h; exact⟨a, c, rfl, hf⟩)⟩
          case s5 =>
            refine ok fw (λvs x hG HX hP => ?_)
            obtain⟨⟨n0, n1⟩, n2, n3⟩ := aI HX.out.2.1
            simp only[zS]
            go_simp
            exact gc
          case s6 =>
            refine oo (λvs x hP => ?_)
            simp only[zS]
            go_simp
            exact gc
          case s7 =>
            refine oo (λvs x hP => ?_)
            simp only[zS]
            go_simp
            exact gc
          case s8 =>
            refine ok fw (λvs x hG HX hP => ?_)
            have HC := Lib.hid (vz.out x hG)
            simp only[zS]
            go_simp
            refine(HC.out).mono ?_
            rintro e y ⟨v', rfl, ⟨hr, ho⟩, hg⟩
            exact⟨_, rfl, Bo hg (by have hf := (Bu.out.later hG).Fu hg hr ho; obtain⟨a, c, h, _⟩ := hr.form; subst h; exact⟨a, c, rfl, hf⟩)⟩
          case s9 =>
            refine oo (λvs x hP => ?_)
            simp only[zS]
            go_simp
            exact gc
        case done =>
        intro vs wx hE
        have hG := hE.grow
        have p4 := hE.val 4
        obtain⟨a4, c4, h4, r4⟩ := p4
        have p8 := hE.val 8
        obtain⟨a8, c8, h8, r8⟩ := p8
        have uE := Lib.hid hG
        have lV := Lib.hid (kL.out.grow hG)
        have HR4 := Lib.hid (HR3.out.later hG)
        have jO := Lib.hid r4
        have Vr := Lib.hid r8
        clear hE hG r4 r8
        simp only[zS, Nat.reduceAdd, h4, h8, List.drop_succ_cons, List.drop_zero]
        have HC := Lib.hid (TI.out wx c' (path ++ [(j : Int)]) (.slice a4 (path.length + 1) c4) (kz (.mk k 0 s []) j aC) (.slice a8 (kz (.mk k 0 s []) j aC).length c8) lV.out HR4.out jO.out Vr.out (by have := dm.out; have := HE.out; omega) (by have := xG.out; simp; omega) (by have := xG.out; have := Vq.out; omega))
        simp only[ae.val]at HC
        go_wp2_with fail
        refine HC.out.mono ?_
        rintro e w5 ⟨rfl, dA, iA⟩
        have ny := Lib.hid dA
        have nC := Lib.hid (show bN wb B w2 w5 from(fH.out.trans ((bN.lG fU.out).trans (bN.lG uE.out))).trans iA)
        clear dA iA HC
        go_wp2_with fail
        go_roundw
        case rel => exact⟨j + 1, _, by go_num, by omega, ny.out, nC.out, by have := dm.out; have := HE.out; omega, by have := dm.out; have := HE.out; omega⟩
        case measure => simp[intOf]; omega
      · obtain rfl : j = l.length := by omega
        have HF := Lib.hid (show c' = c + V from by
          have h := dm.out
          rw[List.drop_eq_nil_of_le (by rw[ae.dz]; exact Nat.le_refl _)]at h
          simpa[mI]using h)
        go_wp2_with fail
        go_end0
        exact⟨rfl, by rw[← HF.out]; exact iy.out, JS.out.trans fH.out⟩
      
theorem DW (e : Int) : jE e <= 1 := by unfold jE; split <;> omega
theorem He (P : List bB) (s : ByteArray) (n : Nat) : ∀ (l : List Tree) (i : Nat) (aC : List au), mU P s n i l aC <= ik l
  | [], _, _ => Nat.zero_le _
  |t :: r, i, aC => by
    have := He P s n r (i + 1) aC
    have := DW (lK P s n t.name i aC)
    have := Dn t
    rw[mU, ik]; omega
mutual
theorem Aw (P : List bB) : ∀ (t : Tree) (aC : List au), jL P t aC <= dJ t
  |.mk k n s l, aC => by
    have h1 := DW (gm P k s l.length aC)
    have h2 := He P s l.length l 0 aC
    have h3 := GG P k s l 0 aC
    rw[jL, dJ]
    split <;> omega
theorem GG (P : List bB) (k : Int) (s : ByteArray) : ∀ (l : List Tree) (i : Nat) (aC : List au), mI P k s i l aC <= ik l
  | [], _, _ => Nat.zero_le _
  |t :: r, i, aC => by
    have h1 := Aw P t (kz (.mk k 0 s []) i aC)
    have h2 := GG P k s r (i + 1) aC
    rw[mI, ik]; omega
end
mutual
theorem Hf : ∀ (t : Tree) (d left : Int), 0 <= left -> (fQ t d left).1 = true -> (dJ t : Int) <= left /\ (fQ t d left).2 = left - dJ t
  |.mk _ _ _ l, d, left, h, ht => by
    rw[fQ]at ht ⊢
    split at ht
    · cases ht
    · rename_i hn
      have := GH l (d - 1) (left - 1) (by omega) ht
      rw[if_neg hn, dJ]
      omega
theorem GH : ∀ (l : List Tree) (d left : Int), 0 <= left -> (jg l d left).1 = true -> (ik l : Int) <= left /\ (jg l d left).2 = left - ik l
  | [], d, left, h, _ => by simp[ik, jg, h]
  |t :: r, d, left, h, ht => by
    rw[jg]at ht ⊢
    split at ht
    · rename_i hb
      have h1 := Hf t d left h hb
      have h2 := GH r d (fQ t d left).2 (by omega) ht
      rw[if_pos hb, ik]
      omega
    · rename_i hb
      simp at ht
end
theorem CZ {t : Tree} (h : jd t = true) : dJ t <= 2000 := by
  simp only[jd, Bool.and_eq_true]at h
  have := (Hf t 80 2000 (by decide) h.1).1
  omega
def gq (pre : List au) : List au -> Nat
  | [] => 0
  |v :: r => jE (jK pre v.name) + gq (pre ++ [v]) r
theorem AX : ∀ (l pre : List au), gq pre l <= l.length
  | [], _ => Nat.zero_le _
  |v :: r, pre => by
    have := AX r (pre ++ [v])
    have := DW (jK pre v.name)
    rw[gq, List.length_cons]; omega
def wS (P : List bB) (i : Nat) (q : bB) : Nat := (if gT P q.name < i then 1 else 0) + (gq [] q.params + jL P q.body q.params)
def kC (P : List bB) : Nat -> List bB -> Nat
  |_, [] => 0
  |i, q :: r => wS P i q + kC P (i + 1) r
theorem Io (P : List bB) (i : Nat) (q : bB) (h : q.okB = true) : wS P i q <= 2009 := by
  simp only[bB.okB, Bool.and_eq_true, decide_eq_true_eq]at h
  have h1 := AX q.params []
  have h2 := Aw P q.body q.params
  have h3 := CZ h.2.2.2
  unfold wS
  split <;> omega
theorem Hg (P : List bB) : ∀ (l : List bB) (i : Nat), l.all bB.okB = true -> kC P i l <= 2009 * l.length
  | [], _, _ => Nat.zero_le _
  |q :: r, i, h => by
    simp only[List.all_cons, Bool.and_eq_true]at h
    have h1 := Io P i q h.1
    have h2 := Hg P r (i + 1) h.2
    rw[kC, List.length_cons]; omega
def lJ.faults (p : lJ) : Nat := if p.okB then gq [] p.vars + (kC p.procs 0 p.procs + jL p.procs p.main p.vars)else 0
def Sj (w : World) (n : Nat) (e : Ending) (w' : World) : Prop := ∃ a c, e = .returned (.slice a n c) /\ Grow w w'
end Go.Proofs.YtbpodipdfohikaaGreat
