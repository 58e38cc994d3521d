import Derived.Test.YtbpodipdfohikaaGreatL18
set_option linter.unusedSimpArgs false
set_option linter.unusedVariables false
set_option maxRecDepth 100000
set_option maxHeartbeats 25600000
namespace Go.Proofs.YtbpodipdfohikaaGreat
open Go.RowKit Go.Instr
attribute [local go_sem ↓] fB
theorem Du (t : Tree) : 1 <= dM t := by cases t; rw[dM]; omega
theorem GQ : ∀ l : List Tree, l.length <= gW l
  | [] => Nat.zero_le _
  |t :: l => by have := Du t; have := GQ l; rw[gW, List.length_cons]; omega
theorem RG (k n : Int) (s : ByteArray) (kv : Value) (l : List ae) : l.length + 1 <= dM (ae.t (.mk k n s kv l)) := by
  have := GQ (ae.ts l)
  rw[ae.dB]at this
  rw[ae.t, dM]; omega
set_option maxRecDepth 100000 in
set_option maxHeartbeats 12800000 in
theorem GU (wb : World) (B : Nat) (p : az) (hp : jc wb p) (R J f : Nat) (hfl : f = 54 \/ f = 55) : ∀ (m : Nat) (x : ae), SizeOf.sizeOf x <= m -> bJ wb x -> ∀ (w : World) (c : Nat) (path : List Int) (pv : Value) (aF : List au) (vv : Value), iJ wb B w c -> rQ B w R J f -> iE wb 1 aB 3 w pv path -> iE wb 3 au.cells 50 w vv aF -> c + jI p.d.procs x.t aF <= 900000 -> path.length + dM x.t <= 900000 -> aF.length + dM x.t <= 900000 ->
    Calls Tryz.prog 53 #[p.val, x.val, pv, vv, .func (.func f) #[] #[.pointer (some ⟨R, 0, none⟩), .pointer (some ⟨J, 0, none⟩)]] w (DW wb B w (c + jI p.d.procs x.t aF)) := by
  obtain⟨vars, V7, procs, V8, ⟨mk, mn, ms, mv, ml⟩⟩ := p
  obtain⟨⟨va, vc, rfl⟩, ⟨pa, pc, rfl⟩, hm⟩ := hp.form
  obtain⟨ma, mc, rfl, -, -⟩ := hm.form
  have Ci := Lib.hid hp
  have vB := Lib.hid (show(az.d ⟨vars, .slice va vars.length vc, procs, .slice pa procs.length pc, .mk mk mn ms (.slice ma ml.length mc) ml⟩).procs = procs.map aO.d from rfl)
  have hent : ∀ (args : Array Value) (w : World), (callFunc f args).run Tryz.prog w = .ok (.enter f args) w := by
    rcases hfl with rfl|rfl <;> intro args w <;> simp[go_sem]
  clear hp hm hfl
  simp only[vB.out]
  generalize hP : procs.map aO.d = P at *
  intro m
  induction m with
  |zero => intro x hm; cases x; simp at hm
  |succ m ih =>
    intro x hm hx w c path pv aF vv hst hrep hpt FD hcb hpb hvb
    obtain⟨k, n, s, kv, l⟩ := x
    obtain⟨ka, kc, rfl, hkc, hkl⟩ := hx.form
    obtain⟨qa, qc, rfl, -, -⟩ := hpt.1.form
    obtain⟨ia, ic, rfl, -, -⟩ := FD.1.form
    have gD := Lib.hid (λ(i : Nat) (hi : i < l.length) => ih l[i] (Nat.le_of_lt_succ (Nat.lt_of_lt_of_le (qX (k := k) (n := n) (s := s) (kv := .slice ka l.length kc) (List.getElem_mem hi)) hm)) (hx.row.2.2.2.2 _ (List.getElem_mem hi)))
    have xL := Lib.hid hx
    have HST := Lib.hid hst
    have Kb := Lib.hid hrep
    have sM := Lib.hid hpt
    have FE := Lib.hid FD
    have hsz : l.length + 1 <= dM (ae.t (.mk k n s (.slice ka l.length kc) l)) := RG _ _ _ _ _
    have HV := Lib.hid (show jI P (ae.t (.mk k n s (.slice ka l.length kc) l)) aF = jB (fU P k s l.length aF) + (if k = 50 \/ k = 51 then mM P s l.length 0 (ae.ts l) aF else mG P k s 0 (ae.ts l) aF)from by
      rw[ae.t, jI, ae.dB])
    generalize Yw : jI P (ae.t (.mk k n s (.slice ka l.length kc) l)) aF = V at *
    generalize hSS : dM (ae.t (.mk k n s (.slice ka l.length kc) l)) = SZ at *
    have aj := Lib.hid (show Grow w ((w.alloc (.cells #[.slice va vars.length vc, .slice pa procs.length pc, .int .u8 mk, .int .i64 mn, .string ms, .slice ma ml.length mc] 42)).alloc (.cells #[.int .u8 k, .int .i64 n, .string s, .slice ka l.length kc] 40))from((Mv.refl _ w).alloc _).alloc _)
    have zR := Lib.hid (show((w.alloc (.cells #[.slice va vars.length vc, .slice pa procs.length pc, .int .u8 mk, .int .i64 mn, .string ms, .slice ma ml.length mc] 42)).alloc (.cells #[.int .u8 k, .int .i64 n, .string s, .slice ka l.length kc] 40)).heap[w.heap.size]? = some (.cells #[.slice va vars.length vc, .slice pa procs.length pc, .int .u8 mk, .int .i64 mn, .string ms, .slice ma ml.length mc] 42 (0, 0))from bY (heap_alloc_new w _) _)
    have aY := Lib.hid (show((w.alloc (.cells #[.slice va vars.length vc, .slice pa procs.length pc, .int .u8 mk, .int .i64 mn, .string ms, .slice ma ml.length mc] 42)).alloc (.cells #[.int .u8 k, .int .i64 n, .string s, .slice ka l.length kc] 40)).heap[w.heap.size + 1]? = some (.cells #[.int .u8 k, .int .i64 n, .string s, .slice ka l.length kc] 40 (0, 0))from by
      have := heap_alloc_new (w.alloc (.cells #[.slice va vars.length vc, .slice pa procs.length pc, .int .u8 mk, .int .i64 mn, .string ms, .slice ma ml.length mc] 42)) (.cells #[.int .u8 k, .int .i64 n, .string s, .slice ka l.length kc] 40)
      simpa using this)
    clear hst hrep hpt FD ih hx
    simp only[az.val, ae.val]at gD ⊢
    go_enter Tryz.func53, Tryz.ntmps53
    go_upto_region 1 with fail
    generalize ((w.alloc (.cells #[.slice va vars.length vc, .slice pa procs.length pc, .int .u8 mk, .int .i64 mn, .string ms, .slice ma ml.length mc] 42)).alloc (.cells #[.int .u8 k, .int .i64 n, .string s, .slice ka l.length kc] 40)) = w1 at *
    have HK := Lib.hid (λ(y : World) (hy : Grow w1 y) => And.intro (ai zR.out hy) (ai aY.out hy))
    refine jm 8 72 [some 14, some 15, some 16, some 17, some 18, some 19, some 20, some 21] [[], [], [], [2], [], [], [], [4, 5, 6]] [] [.c (.func (.func f) #[] #[.pointer (some ⟨R, 0, none⟩), .pointer (some ⟨J, 0, none⟩)]), .c (.slice qa path.length qc), .c (.pointer (some ⟨w.heap.size + 1, 2, none⟩)), .c (.string s), .c (.agg #[.slice va vars.length vc, .slice pa procs.length pc, .int .u8 mk, .int .i64 mn, .string ms, .slice ma ml.length mc]), .c (.agg #[.int .u8 k, .int .i64 n, .string s, .slice ka l.length kc]), .c (.slice ia aF.length ic), .c (.int .i64 (fU P k s l.length aF))] trivial (dJ rfl) ?steps ?done
    case steps =>
      refine⟨?s0, ?s1, ?s2, ?s3, ?s4, ?s5, ?s6, ?s7, trivial⟩
      case s0 =>
        refine oo (λvs x hP => ?_)
        simp only[zS]
        go_simp
        exact gc
      case s1 =>
        refine oo (λvs x hP => ?_)
        simp only[zS]
        go_simp
        exact gc
      case s2 =>
        refine oo (λvs x hP => ?_)
        simp only[zS]
        go_simp
        exact gc
      case s3 =>
        refine ok HK (λvs x hG HX hP => ?_)
        obtain⟨⟨n0, n1⟩, n2, n3⟩ := aJ HX.out.2
        simp only[zS]
        go_simp
        exact gc
      case s4 =>
        refine ok HK (λvs x hG HX hP => ?_)
        obtain⟨⟨x0, x1, x2⟩, x3, x4, x5⟩ := cB HX.out.1
        simp only[zS]
        go_simp
        exact gc
      case s5 =>
        refine ok HK (λvs x hG HX hP => ?_)
        obtain⟨⟨n0, n1⟩, n2, n3⟩ := aJ HX.out.2
        simp only[zS]
        go_simp
        exact gc
      case s6 =>
        refine oo (λvs x hP => ?_)
        simp only[zS]
        go_simp
        exact gc
      case s7 =>
        refine ok HK (λvs x hG HX hP => ?_)
        have HC := Lib.hid (QU ⟨vars, .slice va vars.length vc, procs, .slice pa procs.length pc, .mk mk mn ms (.slice ma ml.length mc) ml⟩ k n s ka l kc _ aF x (Ci.out.later (gtr HST.out.g (gtr aj.out hG))) (xL.out.later (gtr HST.out.g (gtr aj.out hG))) (FE.out.later (gtr aj.out hG)).1)
        simp only[az.val, vB.out]at HC
        simp only[zS]
        go_simp
        refine(HC.out).mono ?_
        rintro e y ⟨rfl, hg⟩
        exact⟨_, rfl, gm hg rfl⟩
    case done =>
    intro vs wx hE
    have hG := hE.grow
    have uG := Lib.hid (HST.out.grow (gtr aj.out hG))
    have HR1 := Lib.hid (Kb.out.later (gtr aj.out hG))
    have zT := Lib.hid (HK.out _ hG)
    have aT := Lib.hid (gtr aj.out hG)
    clear hE hG
    simp only[zS, Nat.reduceAdd, List.drop_succ_cons, List.drop_zero]
    have HC := Lib.hid (Ji wb B R J f (.slice qa path.length qc) path s (fU P k s l.length aF) c wx HR1.out uG.out (sM.out.later aT.out).1 (by omega) (by omega))
    go_wp2_with fail
    refine HC.out.mono ?_
    rintro e w2 ⟨rfl, Kc, jM⟩
    have jg := Lib.hid Kc
    have vC := Lib.hid (jM.keep' uG.out zT.out.1 (by decide) (by decide))
    have bL := Lib.hid (jM.keep' uG.out zT.out.2 (by decide) (by decide))
    have HR2 := Lib.hid (HR1.out.pI uG.out jM)
    have Ke := Lib.hid ((FE.out.later aT.out).pI uG.out jM)
    have Kg := Lib.hid ((sM.out.later aT.out).pI uG.out jM)
    have Kh := Lib.hid (show bP wb B w w2 from(bP.lG aT.out).trans jM)
    obtain⟨⟨x0, x1, x2⟩, x3, x4, x5⟩ := cB vC.out
    obtain⟨⟨n0, n1⟩, n2, n3⟩ := aJ bL.out
    have hxl := lt_of_block vC.out
    have hnl := lt_of_block bL.out
    clear Kc jM HC HK zT zR aY HR1 uG Kb HST FE sM aj
    by_cases hk : k = 50 \/ k = 51
    · have pF := Lib.hid (show V = jB (fU P k s l.length aF) + mM P s l.length 0 (ae.ts l) aF from by rw[HV.out, if_pos hk])
      clear HV gD
      have hb : (k == 50) = true \/ ((k == 50) = false /\ (k == 51) = true) := by
        rcases hk with rfl|rfl
        · exact .inl rfl
        · exact .inr ⟨rfl, rfl⟩
      clear hk
      rcases hb with hb|⟨hb, hb2⟩
      all_goals
        go_wp2_with fail
        go_loopw [34] (λt wr => ∃ (j c' : Nat), t = .int .i64 j /\ j <= l.length /\ iJ wb B wr c' /\ bP wb B w2 wr /\ c' + mM P s l.length j ((ae.ts l).drop j) aF = c + V /\ c' <= c + V) (λt _ => l.length - (intOf t).toNat)
        case atStart => exact⟨0, _, rfl, Nat.zero_le _, jg.out, Mv.refl _ _, by rw[pF.out]; simp only[List.drop_zero]; omega, by rw[pF.out]; omega⟩
        obtain⟨j, c', rfl, hj, hst', jN, hrest, hcl⟩ := hrel
        have ig := Lib.hid hst'
        have fG := Lib.hid jN
        have dx := Lib.hid hrest
        clear hst' jN hrest
        by_cases hlt : j < l.length
        · obtain⟨kb, ko, mY, dR, -, -⟩ := xL.out.row.2.2.2.1.at (show 0 < l.length by omega)
          simp only[Value.slice.injEq, true_and]at dR
          obtain⟨rfl, rfl⟩ := dR
          have eY := (rF xL.out j hlt).later ig.out.g
          have HE := Lib.hid (show mM P s l.length j ((ae.ts l).drop j) aF = jB (lK P s l.length l[j].t.name j aF) + mM P s l.length (j + 1) ((ae.ts l).drop (j + 1)) aF from by
            rw[drop_at _ j (by rw[ae.dB]; exact hlt), mM, ae.oG l j hlt])
          have JL := Lib.hid (λ(x : World) (hx : Grow wb x) (hv : ay 3 au.cells x (.slice ia aF.length ic) aF) => Pv ⟨vars, .slice va vars.length vc, procs, .slice pa procs.length pc, .mk mk mn ms (.slice ma ml.length mc) ml⟩ k n s kb ko l kc j hlt (.slice ia aF.length ic) aF x (Ci.out.later hx) (xL.out.later hx) hv)
          simp only[az.val, vB.out]at JL
          generalize l[j] = y at *
          obtain⟨yk, yn, ys, yv, yl⟩ := y
          obtain⟨ya, yc, rfl, -, -⟩ := eY.at_.form
          obtain⟨⟨d0, d1⟩, d2, d3⟩ := eY.four
          have hbl : kb < wr.heap.size := World.block_lt_of_cell? wr _ d0
          have jV := Lib.hid (heap_alloc_new wr (.cells #[.int .u8 yk, .int .i64 yn, .string ys, .slice ya yl.length yc] 40))
          have fQ := Lib.hid (show Grow wr (wr.alloc (.cells #[.int .u8 yk, .int .i64 yn, .string ys, .slice ya yl.length yc] 40))from(Mv.refl _ wr).alloc _)
          have kL := Lib.hid (ig.out.grow fQ.out)
          have FH := Lib.hid (ai (fG.out.keep' jg.out vC.out (by decide) (by decide)) fQ.out)
          have eU := Lib.hid (ai (fG.out.keep' jg.out bL.out (by decide) (by decide)) fQ.out)
          have HR3 := Lib.hid ((HR2.out.pI jg.out fG.out).later fQ.out)
          have BB := Lib.hid ((Ke.out.pI jg.out fG.out).later fQ.out)
          have ze := Lib.hid ((Kg.out.pI jg.out fG.out).later fQ.out)
          clear eY
          have Ki := Lib.hid (λx hx => JL.out x (gtr kL.out.g hx) (BB.out.later hx).1)
          simp only[ae.t, Tree.name]at Ki HE
          go_upto_region 6 with fail
          generalize (wr.alloc (.cells #[.int .u8 yk, .int .i64 yn, .string ys, .slice ya yl.length yc] 40)) = w3 at *
          have fw := Lib.hid (λ(y : World) (hy : Grow w3 y) => And.intro (ai FH.out hy) (And.intro (ai eU.out hy) (ai jV.out hy)))
          clear d0 d1 d2 d3
          refine jm 11 72 [some 39, some 40, some 41, some 42, some 43, some 44, some 45, some 46, some 47, some 48, some 49] [[], [], [], [1, 2], [], [4], [], [], [], [], [6, 7, 8, 9]] [] [.c (.func (.func f) #[] #[.pointer (some ⟨R, 0, none⟩), .pointer (some ⟨J, 0, none⟩)]), .c (.slice qa path.length qc), .c (.int .i64 j), .p (λv y => ∃ a c, v = .slice a (path.length + 1) c /\ iE wb 1 aB 3 y (.slice a (path.length + 1) c) (path ++ [(j : Int)])), .c (.pointer (some ⟨wr.heap.size, 2, none⟩)), .c (.string ys), .c (.agg #[.slice va vars.length vc, .slice pa procs.length pc, .int .u8 mk, .int .i64 mn, .string ms, .slice ma ml.length mc]), .c (.agg #[.int .u8 k, .int .i64 n, .string s, .slice (some ⟨kb, ko, none⟩) l.length kc]), .c (.int .i64 j), .c (.slice ia aF.length ic), .c (.int .i64 (lK P s l.length ys j aF))] ⟨⟨(λv x y hg h => by obtain⟨a, c, hv, hr⟩ := h; exact⟨a, c, hv, hr.later hg⟩), λ_ => bu⟩, trivial⟩ (dJ rfl) ?steps ?done
          case steps =>
            refine⟨?s0, ?s1, ?s2, ?s3, ?s4, ?s5, ?s6, ?s7, ?s8, ?s9, ?s10, trivial⟩
            case s0 =>
              refine oo (λvs x hP => ?_)
              simp only[zS]
              go_simp
              exact gc
            case s1 =>
              refine oo (λvs x hP => ?_)
              simp only[zS]
              go_simp
              exact gc
            case s2 =>
              refine oo (λvs x hP => ?_)
              simp only[zS]
              go_simp
              exact gc
            case s3 =>
              refine ok fw (λvs x hG HX hP => ?_)
              have HC := Lib.hid (Ht (.slice qa path.length qc) path j x (ze.out.later hG).1 (by omega))
              simp only[zS]
              go_simp
              refine(HC.out).mono ?_
              rintro e y ⟨v', rfl, ⟨hr, ho⟩, hg⟩
              exact⟨_, rfl, Bu hg (by have hf := (ze.out.later hG).FC hg hr ho; obtain⟨a, c, h, _⟩ := hr.form; simp only[List.length_append, List.length_cons, List.length_nil, Nat.zero_add]at h; subst h; exact⟨a, c, rfl, hf⟩)⟩
            case s4 =>
              refine oo (λvs x hP => ?_)
              simp only[zS]
              go_simp
              exact gc
            case s5 =>
              refine ok fw (λvs x hG HX hP => ?_)
              obtain⟨⟨n0, n1⟩, n2, n3⟩ := aJ HX.out.2.2
              simp only[zS]
              go_simp
              exact gc
            case s6 =>
              refine ok fw (λvs x hG HX hP => ?_)
              obtain⟨⟨x0, x1, x2⟩, x3, x4, x5⟩ := cB HX.out.1
              simp only[zS]
              go_simp
              exact gc
            case s7 =>
              refine ok fw (λvs x hG HX hP => ?_)
              obtain⟨⟨n0, n1⟩, n2, n3⟩ := aJ HX.out.2.1
              simp only[zS]
              go_simp
              exact gc
            case s8 =>
              refine oo (λvs x hP => ?_)
              simp only[zS]
              go_simp
              exact gc
            case s9 =>
              refine oo (λvs x hP => ?_)
              simp only[zS]
              go_simp
              exact gc
            case s10 =>
              refine ok fw (λvs x hG HX hP => ?_)
              have HC := Lib.hid (Ki.out x hG)
              simp only[zS]
              go_simp
              refine(HC.out).mono ?_
              rintro e y ⟨rfl, hg⟩
              exact⟨_, rfl, gm hg rfl⟩
          case done =>
          intro vs wx hE
          have hG := hE.grow
          have p3 := hE.val 3
          obtain⟨a3, c3, h3, r3⟩ := p3
          have uH := Lib.hid hG
          have lV := Lib.hid (kL.out.grow hG)
          have HR4 := Lib.hid (HR3.out.later hG)
          have jL := Lib.hid r3
          clear hE hG r3
          simp only[zS, Nat.reduceAdd, h3, List.drop_succ_cons, List.drop_zero]
          have HC := Lib.hid (Ji wb B R J f (.slice a3 (path.length + 1) c3) (path ++ [(j : Int)]) ys (lK P s l.length ys j aF) c' wx HR4.out lV.out jL.out.1 (by simp; omega) (by omega))
          go_wp2_with fail
          refine HC.out.mono ?_
          rintro e w5 ⟨rfl, dC, ik⟩
          have mZ := Lib.hid dC
          have ng := Lib.hid (show bP wb B w2 w5 from(fG.out.trans ((bP.lG fQ.out).trans (bP.lG uH.out))).trans ik)
          clear dC ik HC
          go_wp2_with fail
          go_roundw
          case rel => exact⟨j + 1, _, by go_num, by omega, mZ.out, ng.out, by have := dx.out; have := HE.out; omega, by have := dx.out; have := HE.out; omega⟩
          case measure => simp[intOf]; omega
        · obtain rfl : j = l.length := by omega
          have HF := Lib.hid (show c' = c + V from by
            have h := dx.out
            rw[List.drop_eq_nil_of_le (by rw[ae.dB]; exact Nat.le_refl _)]at h
            simpa[mM]using h)
          go_wp2_with fail
          go_end0
          exact⟨rfl, by rw[← HF.out]; exact ig.out, Kh.out.trans fG.out⟩
        
    · have pF := Lib.hid (show V = jB (fU P k s l.length aF) + mG P k s 0 (ae.ts l) aF from by rw[HV.out, if_neg hk])
      have Yx : (k == 50) = false := by simp; omega
      have Yy : (k == 51) = false := by simp; omega
      have HT := Lib.hid (show ∃ T : Tree, T = .mk k 0 s []from⟨_, rfl⟩)
      clear HV
      go_wp2_with fail
      go_loopw [55] (λt wr => ∃ (j c' : Nat), t = .int .i64 j /\ j <= l.length /\ iJ wb B wr c' /\ bP wb B w2 wr /\ c' + mG P k s j ((ae.ts l).drop j) aF = c + V /\ c' <= c + V) (λt _ => l.length - (intOf t).toNat)
      case atStart => exact⟨0, _, rfl, Nat.zero_le _, jg.out, Mv.refl _ _, by rw[pF.out]; simp only[List.drop_zero]; omega, by rw[pF.out]; omega⟩
      obtain⟨j, c', rfl, hj, hst', jN, hrest, hcl⟩ := hrel
      have ig := Lib.hid hst'
      have fG := Lib.hid jN
      have dx := Lib.hid hrest
      clear hst' jN hrest
      by_cases hlt : j < l.length
      · obtain⟨kb, ko, mY, dR, -, -⟩ := xL.out.row.2.2.2.1.at (show 0 < l.length by omega)
        simp only[Value.slice.injEq, true_and]at dR
        obtain⟨rfl, rfl⟩ := dR
        have eY := (rF xL.out j hlt).later ig.out.g
        have HE := Lib.hid (show mG P k s j ((ae.ts l).drop j) aF = jI P l[j].t (ky (.mk k 0 s []) j aF) + mG P k s (j + 1) ((ae.ts l).drop (j + 1)) aF from by
          rw[drop_at _ j (by rw[ae.dB]; exact hlt), mG, ae.oG l j hlt])
        have xH := Lib.hid (AY (k := k) (n := n) (s := s) (kv := .slice (some ⟨kb, ko, none⟩) l.length kc) j hlt)
        have V9 := Lib.hid (Ql (.mk k 0 s []) j aF)
        have Ur := Lib.hid (gD.out j hlt)
        generalize l[j] = y at *
        obtain⟨yk, yn, ys, yv, yl⟩ := y
        obtain⟨ya, yc, rfl, -, -⟩ := eY.at_.form
        obtain⟨⟨d0, d1⟩, d2, d3⟩ := eY.four
        have hbl : kb < wr.heap.size := World.block_lt_of_cell? wr _ d0
        have jV := Lib.hid (heap_alloc_new wr (.cells #[.int .u8 yk, .int .i64 yn, .string ys, .slice ya yl.length yc] 40))
        have fQ := Lib.hid (show Grow wr (wr.alloc (.cells #[.int .u8 yk, .int .i64 yn, .string ys, .slice ya yl.length yc] 40))from(Mv.refl _ wr).alloc _)
        have kL := Lib.hid (ig.out.grow fQ.out)
        have FH := Lib.hid (ai (fG.out.keep' jg.out vC.out (by decide) (by decide)) fQ.out)
        have eU := Lib.hid (ai (fG.out.keep' jg.out bL.out (by decide) (by decide)) fQ.out)
        have HR3 := Lib.hid ((HR2.out.pI jg.out fG.out).later fQ.out)
        have BB := Lib.hid ((Ke.out.pI jg.out fG.out).later fQ.out)
        have ze := Lib.hid ((Kg.out.pI jg.out fG.out).later fQ.out)
        clear eY
        have vE := Lib.hid (λ(x : World) (hx : Grow _ x) => QT k n s (some ⟨kb, ko, none⟩) l kc j (.slice ia aF.length ic) aF x (BB.out.later hx).1 (by omega))
        go_upto_region 11 with fail
        generalize (wr.alloc (.cells #[.int .u8 yk, .int .i64 yn, .string ys, .slice ya yl.length yc] 40)) = w3 at *
        have fw := Lib.hid (λ(y : World) (hy : Grow w3 y) => And.intro (ai FH.out hy) (And.intro (ai eU.out hy) (ai jV.out hy)))
        clear d0 d1 d2 d3
        refine jm 10 72 [some 60, some 61, some 62, some 63, some 64, some 65, some 66, some 67, some 68, some 69] [[], [], [], [], [2, 3], [], [], [], [5, 6, 7], []] [] [.c (.agg #[.slice va vars.length vc, .slice pa procs.length pc, .int .u8 mk, .int .i64 mn, .string ms, .slice ma ml.length mc]), .c (.agg #[.int .u8 yk, .int .i64 yn, .string ys, .slice ya yl.length yc]), .c (.slice qa path.length qc), .c (.int .i64 j), .p (λv y => ∃ a c, v = .slice a (path.length + 1) c /\ iE wb 1 aB 3 y (.slice a (path.length + 1) c) (path ++ [(j : Int)])), .c (.agg #[.int .u8 k, .int .i64 n, .string s, .slice (some ⟨kb, ko, none⟩) l.length kc]), .c (.int .i64 j), .c (.slice ia aF.length ic), .p (λv y => ∃ a c, v = .slice a (ky (.mk k 0 s []) j aF).length c /\ iE wb 3 au.cells 50 y (.slice a (ky (.mk k 0 s []) j aF).length c) (ky (.mk k 0 s []) j aF)), .c (.func (.func f) #[] #[.pointer (some ⟨R, 0, none⟩), .pointer (some ⟨J, 0, none⟩)])] ⟨⟨(λv x y hg h => by obtain⟨a, c, hv, hr⟩ := h; exact⟨a, c, hv, hr.later hg⟩), λ_ => bu⟩, ⟨(λv x y hg h => by obtain⟨a, c, hv, hr⟩ := h; exact⟨a, c, hv, hr.later hg⟩), λ_ => bu⟩, trivial⟩ (dJ rfl) ?steps ?done
        case steps =>
          refine⟨?s0, ?s1, ?s2, ?s3, ?s4, ?s5, ?s6, ?s7, ?s8, ?s9, trivial⟩
          case s0 =>
            refine ok fw (λvs x hG HX hP => ?_)
            obtain⟨⟨x0, x1, x2⟩, x3, x4, x5⟩ := cB HX.out.1
            simp only[zS]
            go_simp
            exact gc
          case s1 =>
            refine ok fw (λvs x hG HX hP => ?_)
            obtain⟨⟨n0, n1⟩, n2, n3⟩ := aJ HX.out.2.2
            simp only[zS]
            go_simp
            exact gc
          case s2 =>
            refine oo (λvs x hP => ?_)
            simp only[zS]
            go_simp
            exact gc
          case s3 =>
            refine oo (λvs x hP => ?_)
            simp only[zS]
            go_simp
            exact gc
          case s4 =>
            refine ok fw (λvs x hG HX hP => ?_)
            have HC := Lib.hid (Ht (.slice qa path.length qc) path j x (ze.out.later hG).1 (by omega))
            simp only[zS]
            go_simp
            refine(HC.out).mono ?_
            rintro e y ⟨v', rfl, ⟨hr, ho⟩, hg⟩
            exact⟨_, rfl, Bu hg (by have hf := (ze.out.later hG).FC hg hr ho; obtain⟨a, c, h, _⟩ := hr.form; simp only[List.length_append, List.length_cons, List.length_nil, Nat.zero_add]at h; subst h; exact⟨a, c, rfl, hf⟩)⟩
          case s5 =>
            refine ok fw (λvs x hG HX hP => ?_)
            obtain⟨⟨n0, n1⟩, n2, n3⟩ := aJ HX.out.2.1
            simp only[zS]
            go_simp
            exact gc
          case s6 =>
            refine oo (λvs x hP => ?_)
            simp only[zS]
            go_simp
            exact gc
          case s7 =>
            refine oo (λvs x hP => ?_)
            simp only[zS]
            go_simp
            exact gc
          case s8 =>
            refine ok fw (λvs x hG HX hP => ?_)
            have HC := Lib.hid (vE.out x hG)
            simp only[zS]
            go_simp
            refine(HC.out).mono ?_
            rintro e y ⟨v', rfl, ⟨hr, ho⟩, hg⟩
            exact⟨_, rfl, Bu hg (by have hf := (BB.out.later hG).FC hg hr ho; obtain⟨a, c, h, _⟩ := hr.form; subst h; exact⟨a, c, rfl, hf⟩)⟩
          case s9 =>
            refine oo (λvs x hP => ?_)
            simp only[zS]
            go_simp
            exact gc
        case done =>
        intro vs wx hE
        have hG := hE.grow
        have p4 := hE.val 4
        obtain⟨a4, c4, h4, r4⟩ := p4
        have p8 := hE.val 8
        obtain⟨a8, c8, h8, r8⟩ := p8
        have uH := Lib.hid hG
        have lV := Lib.hid (kL.out.grow hG)
        have HR4 := Lib.hid (HR3.out.later hG)
        have jL := Lib.hid r4
        have Wd := Lib.hid r8
        clear hE hG r4 r8
        simp only[zS, Nat.reduceAdd, h4, h8, List.drop_succ_cons, List.drop_zero]
        have HC := Lib.hid (Ur.out wx c' (path ++ [(j : Int)]) (.slice a4 (path.length + 1) c4) (ky (.mk k 0 s []) j aF) (.slice a8 (ky (.mk k 0 s []) j aF).length c8) lV.out HR4.out jL.out Wd.out (by have := dx.out; have := HE.out; omega) (by have := xH.out; simp; omega) (by have := xH.out; have := V9.out; omega))
        simp only[ae.val]at HC
        go_wp2_with fail
        refine HC.out.mono ?_
        rintro e w5 ⟨rfl, dC, ik⟩
        have mZ := Lib.hid dC
        have ng := Lib.hid (show bP wb B w2 w5 from(fG.out.trans ((bP.lG fQ.out).trans (bP.lG uH.out))).trans ik)
        clear dC ik HC
        go_wp2_with fail
        go_roundw
        case rel => exact⟨j + 1, _, by go_num, by omega, mZ.out, ng.out, by have := dx.out; have := HE.out; omega, by have := dx.out; have := HE.out; omega⟩
        case measure => simp[intOf]; omega
      · obtain rfl : j = l.length := by omega
        have HF := Lib.hid (show c' = c + V from by
          have h := dx.out
          rw[List.drop_eq_nil_of_le (by rw[ae.dB]; exact Nat.le_refl _)]at h
          simpa[mG]using h)
        go_wp2_with fail
        go_end0
        exact⟨rfl, by rw[← HF.out]; exact ig.out, Kh.out.trans fG.out⟩
      
theorem DX (e : Int) : jB e <= 1 := by unfold jB; split <;> omega
theorem Hu (P : List bA) (s : ByteArray) (n : Nat) : ∀ (l : List Tree) (i : Nat) (aF : List au), mM P s n i l aF <= gW l
  | [], _, _ => Nat.zero_le _
  |t :: r, i, aF => by
    have := Hu P s n r (i + 1) aF
    have := DX (lK P s n t.name i aF)
    have := Du t
    rw[mM, gW]; omega
mutual
theorem AQ (P : List bA) : ∀ (t : Tree) (aF : List au), jI P t aF <= dM t
  |.mk k n s l, aF => by
    have h1 := DX (fU P k s l.length aF)
    have h2 := Hu P s l.length l 0 aF
    have h3 := GV P k s l 0 aF
    rw[jI, dM]
    split <;> omega
theorem GV (P : List bA) (k : Int) (s : ByteArray) : ∀ (l : List Tree) (i : Nat) (aF : List au), mG P k s i l aF <= gW l
  | [], _, _ => Nat.zero_le _
  |t :: r, i, aF => by
    have h1 := AQ P t (ky (.mk k 0 s []) i aF)
    have h2 := GV P k s r (i + 1) aF
    rw[mG, gW]; omega
end
mutual
theorem Hw : ∀ (t : Tree) (d left : Int), 0 <= left -> (fO t d left).1 = true -> (dM t : Int) <= left /\ (fO t d left).2 = left - dM t
  |.mk _ _ _ l, d, left, h, ht => by
    rw[fO]at ht ⊢
    split at ht
    · cases ht
    · rename_i hn
      have := GX l (d - 1) (left - 1) (by omega) ht
      rw[if_neg hn, dM]
      omega
theorem GX : ∀ (l : List Tree) (d left : Int), 0 <= left -> (je l d left).1 = true -> (gW l : Int) <= left /\ (je l d left).2 = left - gW l
  | [], d, left, h, _ => by simp[gW, je, h]
  |t :: r, d, left, h, ht => by
    rw[je]at ht ⊢
    split at ht
    · rename_i hb
      have h1 := Hw t d left h hb
      have h2 := GX r d (fO t d left).2 (by omega) ht
      rw[if_pos hb, gW]
      omega
    · rename_i hb
      simp at ht
end
theorem Df {t : Tree} (h : jb t = true) : dM t <= 2000 := by
  simp only[jb, Bool.and_eq_true]at h
  have := (Hw t 80 2000 (by decide) h.1).1
  omega
def fV (pre : List au) : List au -> Nat
  | [] => 0
  |v :: r => jB (jH pre v.name) + fV (pre ++ [v]) r
theorem Ba : ∀ (l pre : List au), fV pre l <= l.length
  | [], _ => Nat.zero_le _
  |v :: r, pre => by
    have := Ba r (pre ++ [v])
    have := DX (jH pre v.name)
    rw[fV, List.length_cons]; omega
def wU (P : List bA) (i : Nat) (q : bA) : Nat := (if gK P q.name < i then 1 else 0) + (fV [] q.params + jI P q.body q.params)
def kz (P : List bA) : Nat -> List bA -> Nat
  |_, [] => 0
  |i, q :: r => wU P i q + kz P (i + 1) r
theorem IG (P : List bA) (i : Nat) (q : bA) (h : q.okB = true) : wU P i q <= 2009 := by
  simp only[bA.okB, Bool.and_eq_true, decide_eq_true_eq]at h
  have h1 := Ba q.params []
  have h2 := AQ P q.body q.params
  have h3 := Df h.2.2.2
  unfold wU
  split <;> omega
theorem Hy (P : List bA) : ∀ (l : List bA) (i : Nat), l.all bA.okB = true -> kz P i l <= 2009 * l.length
  | [], _, _ => Nat.zero_le _
  |q :: r, i, h => by
    simp only[List.all_cons, Bool.and_eq_true]at h
    have h1 := IG P i q h.1
    have h2 := Hy P r (i + 1) h.2
    rw[kz, List.length_cons]; omega
def lJ.faults (p : lJ) : Nat := if p.okB then fV [] p.vars + (kz p.procs 0 p.procs + jI p.procs p.main p.vars)else 0
def Tf (w : World) (n : Nat) (e : Ending) (w' : World) : Prop := ∃ a c, e = .returned (.slice a n c) /\ Grow w w'
end Go.Proofs.YtbpodipdfohikaaGreat
