import Derived.Test.YtbpodipdfohikaaGreatL24
set_option linter.unusedSimpArgs false
set_option linter.unusedVariables false
set_option maxRecDepth 100000
set_option maxHeartbeats 25600000
namespace Go.Proofs.YtbpodipdfohikaaGreat
open Go.RowKit Go.Instr
theorem bW {w w' : World} {a : Addr} {v : Value} (h : w.cell? a = some v) (hg : Grow w w') : w'.cell? a = some v := by
  have := World.block_lt_of_cell? w _ h
  unfold World.cell? at h ⊢
  rw[hg.block _ this (λe => e)]
  exact h
def iL (k : Int) : Int := if k = 2 then 1 else if k = 3 then 2 else if k = 4 \/ k = 5 \/ k = 44 \/ k = 45 then 3 else 0
set_option maxRecDepth 100000 in
set_option maxHeartbeats 3200000 in
theorem QZ (k : Int) (w : World) : Calls Tryz.prog 147 #[.int .u8 k] w λe w' => e = .returned (.int .u8 (iL k)) /\ w = w' := by
  by_cases h2 : k = 2
  · subst h2; go_enter Tryz.func147, Tryz.ntmps147; go_wp2_with fail; go_ret; exact⟨rfl, rfl⟩
  by_cases h3 : k = 3
  · subst h3; go_enter Tryz.func147, Tryz.ntmps147; go_wp2_with fail; go_ret; exact⟨rfl, rfl⟩
  by_cases h4 : k = 4
  · subst h4; go_enter Tryz.func147, Tryz.ntmps147; go_wp2_with fail; go_ret; exact⟨rfl, rfl⟩
  by_cases h5 : k = 5
  · subst h5; go_enter Tryz.func147, Tryz.ntmps147; go_wp2_with fail; go_ret; exact⟨rfl, rfl⟩
  by_cases h6 : k = 44
  · subst h6; go_enter Tryz.func147, Tryz.ntmps147; go_wp2_with fail; go_ret; exact⟨rfl, rfl⟩
  by_cases h7 : k = 45
  · subst h7; go_enter Tryz.func147, Tryz.ntmps147; go_wp2_with fail; go_ret; exact⟨rfl, rfl⟩
  have hE : iL k = 0 := by simp[iL, h2, h3, h4, h5, h6, h7]
  have e2 : (k == 2) = false := by simpa using h2
  have e3 : (k == 3) = false := by simpa using h3
  have e4 : (k == 4) = false := by simpa using h4
  have e5 : (k == 5) = false := by simpa using h5
  have e6 : (k == 44) = false := by simpa using h6
  have e7 : (k == 45) = false := by simpa using h7
  clear h2 h3 h4 h5 h6 h7
  rw[hE]
  go_enter Tryz.func147, Tryz.ntmps147; go_wp2_with fail; go_ret; exact⟨rfl, rfl⟩
def oh (k : Int) : Int := if k = 44 then 45 else if k = 45 then 44 else k
theorem Qn (k : Int) (w : World) (h : k = 44 \/ k = 45) : Calls Tryz.prog 138 #[.int .u8 k] w λe w' => e = .returned (.int .u8 (oh k)) /\ w = w' := by
  rcases h with rfl|rfl
  all_goals
    go_enter Tryz.func138, Tryz.ntmps138
    go_wp2_with fail
    go_ret
    exact⟨rfl, rfl⟩
theorem RJ (k : Int) (w : World) (h : k = 44 \/ k = 45) : Calls Tryz.prog 139 #[.int .u8 k] w λe w' => e = .returned (.bool true) /\ w = w' := by
  rcases h with rfl|rfl
  all_goals
    go_enter Tryz.func139, Tryz.ntmps139
    go_wp2_with fail
    go_ret
    exact⟨rfl, rfl⟩
theorem Ie : ∀ {l : List Tree} {t : Tree}, t ∈ l -> dM t <= gW l
  |a :: l, t, h => by
    rw[gW]
    rcases List.mem_cons.1 h with rfl|h
    · omega
    · have := Ie h; omega
mutual
def iM (vars : List au) : Tree -> Int
  |.mk k _ s l => if iL k = 0 then gJ vars l else match fD vars s with
    |none => 6
    |some v => if v.kind = iL k then gJ vars l else 7
def gJ (vars : List au) : List Tree -> Int
  | [] => 0
  |t :: l => if iM vars t = 0 then gJ vars l else iM vars t
end
set_option maxRecDepth 100000 in
set_option maxHeartbeats 6400000 in
theorem Ig (b o : Nat) (vv : Value) (vars : List au) : ∀ (N : Nat) (x : ae), dM x.t <= N -> ∀ w : World, w.cell? ⟨b, o, none⟩ = some vv -> ay 3 au.cells w vv vars -> bJ w x -> Calls Tryz.prog 140 #[.pointer (some ⟨b, o, none⟩), x.val] w (rP w (iM vars x.t))
  |0, x, hN, _, _, _, _ => by
    have := Du x.t
    omega
  |N + 1, .mk k n s kv l, hN, w, hc, hr, hx => by
    have IH := Lib.hid (Ig b o vv vars N)
    obtain⟨va, vc, rfl, lZ, hvl⟩ := hr.form
    obtain⟨ka, kc, rfl, hkc, hkl⟩ := hx.form
    have HR := Lib.hid hr
    have HX := Lib.hid hx
    have NG := Lib.hid hc
    have xH := Lib.hid (show gW (ae.ts l) <= N from by rw[ae.t, dM]at hN; omega)
    have HT := Lib.hid (show iM vars (ae.t (.mk k n s (.slice ka l.length kc) l)) = if iL k = 0 then gJ vars (ae.ts l)else match fD vars s with
      |none => 6
      |some v => if v.kind = iL k then gJ vars (ae.ts l)else 7 from by rw[ae.t, iM])
    generalize iM vars (ae.t (.mk k n s (.slice ka l.length kc) l)) = RES at *
    have aj := Lib.hid (show Grow w (w.alloc (.cells #[.int .u8 k, .int .i64 n, .string s, .slice ka l.length kc] 40))from(Mv.refl _ w).alloc _)
    have aY := Lib.hid (heap_alloc_new w (.cells #[.int .u8 k, .int .i64 n, .string s, .slice ka l.length kc] 40))
    have NH := Lib.hid (QZ k (w.alloc (.cells #[.int .u8 k, .int .i64 n, .string s, .slice ka l.length kc] 40)))
    clear hr hx hc hN
    simp only[ae.val]
    go_enter Tryz.func140, Tryz.ntmps140
    go_wp2_with fail
    generalize (w.alloc (.cells #[.int .u8 k, .int .i64 n, .string s, .slice ka l.length kc] 40)) = w2 at *
    refine NH.out.mono ?_
    rintro e w3 ⟨rfl, rfl⟩
    clear NH
    have HK := Lib.hid (λ(y : World) (hy : Grow w2 y) => And.intro (bW NG.out (gtr aj.out hy)) (And.intro (ai aY.out hy) (HR.out.later (gtr aj.out hy))))
    have iV := Lib.hid (λ(y : World) (hy : ay 3 au.cells y (.slice va vars.length vc) vars) => A8 _ vars s y hy)
    go_upto_if 15 with fail
    go_cut [5] (λv wc => Grow w2 wc /\ RES = gJ vars (ae.ts l))
    case first =>
      by_cases hz : iL k = 0
      · have hne : (iL k != 0) = false := by simp[hz]
        have HR2 := Lib.hid (show RES = gJ vars (ae.ts l)from by rw[HT.out, if_pos hz])
        clear hz HT
        go_wp2_with fail
        go_meet
        case rel => exact⟨Mv.refl _ _, HR2.out⟩
      · have hne : (iL k != 0) = true := by simpa using hz
        have HT2 := Lib.hid (show RES = match fD vars s with
          |none => 6
          |some v => if v.kind = iL k then gJ vars (ae.ts l)else 7 from by rw[HT.out, if_neg hz])
        clear hz HT
        unfold JJ at iV
        generalize FQ : (fD vars s).isSome = fb at *
        generalize mi : (fD vars s).getD jJ = fv at *
        obtain⟨fn, fk, fl⟩ := fv
        simp only[au.val]at iV
        have ji := Lib.hid (λh : fb = false => show RES = 6 from by
          rw[← FQ]at h; rw[HT2.out]; cases hf : fD vars s with
          |none => rfl
          |some v => rw[hf]at h; cases h)
        have EA := Lib.hid (λh : fb = true => show RES = if fk = iL k then gJ vars (ae.ts l)else 7 from by
          rw[← FQ]at h; rw[HT2.out]; cases hf : fD vars s with
          |none => rw[hf]at h; cases h
          |some v => rw[hf]at mi; simp only[Option.getD_some]at mi; subst mi; rfl)
        clear FQ mi HT2
        go_upto_region 3 with fail
        refine wg 46 [some 17, some 18, some 19, some 20, some 21, some 22, some 23, some 16, some 24, some 25, some 6, none, some 7] [[], [0], [1], [2], [], [4], [3, 5], [6], [7], [7], [], [10, 8], [9]] [] [.c (.pointer (some ⟨b, o, none⟩)), .c (.pointer (some ⟨b, o, none⟩)), .c (.pointer (some ⟨b, o, none⟩)), .c (.slice va vars.length vc), .c (.pointer (some ⟨w.heap.size, 2, none⟩)), .c (.string s), .c (.tuple #[.agg #[.string fn, .int .u8 fk, .int .i64 fl], .bool fb]), .c (.tuple #[.agg #[.string fn, .int .u8 fk, .int .i64 fl], .bool fb]), .c (.agg #[.string fn, .int .u8 fk, .int .i64 fl]), .c (.bool fb), .al 11 8 #[.string ⟨#[]⟩, .int .u8 0, .int .i64 0] 50, .st 10, .c (.bool fb)] trivial (dJ rfl) ?steps ?done
        case steps =>
          refine⟨?s0, ?s1, ?s2, ?s3, ?s4, ?s5, ?s6, ?s7, ?s8, ?s9, ?s10, ?s11, ?s12, trivial⟩
          case s0 =>
            refine oo (λvs x hP => ?_)
            simp only[zS]
            go_simp
            exact gc
          case s1 =>
            refine oo (λvs x hP => ?_)
            simp only[zS]
            go_simp
            exact gc
          case s2 =>
            refine oo (λvs x hP => ?_)
            simp only[zS]
            go_simp
            exact gc
          case s3 =>
            refine ok HK (λvs x hG HX hP => ?_)
            have c0 := HX.out.1
            have hbl := World.block_lt_of_cell? x _ c0
            simp only at hbl
            simp only[zS]
            go_simp
            exact gc
          case s4 =>
            refine oo (λvs x hP => ?_)
            simp only[zS]
            go_simp
            exact gc
          case s5 =>
            refine ok HK (λvs x hG HX hP => ?_)
            obtain⟨⟨n0, n1⟩, n2, n3⟩ := aJ HX.out.2.1
            simp only[zS]
            go_simp
            exact gc
          case s6 =>
            refine ok HK (λvs x hG HX hP => ?_)
            have HC := Lib.hid (iV.out x HX.out.2.2)
            simp only[zS]
            go_simp
            refine(HC.out).mono ?_
            rintro e y ⟨rfl, hg⟩
            exact⟨_, rfl, gm hg rfl⟩
          case s7 =>
            refine oo (λvs x hP => ?_)
            simp only[zS]
            go_simp
            exact gc
          case s8 =>
            refine oo (λvs x hP => ?_)
            simp only[zS]
            go_simp
            exact gc
          case s9 =>
            refine oo (λvs x hP => ?_)
            simp only[zS]
            go_simp
            exact gc
          case s10 =>
            refine oz (λvs x => ?_)
            simp only[zS]
            go_simp
            exact⟨rfl, rfl⟩
          case s11 =>
            refine os (λvs x g hg hb hv => ?_)
            have h8 : vs 8 = .agg #[.string fn, .int .u8 fk, .int .i64 fl] := hv
            obtain⟨c0, c1, c2⟩ := dF hb
            have zt := bD hb
            simp only[zS, hg, h8]
            go_simp
            exact⟨(rX hb _ _ _).1, (rX hb _ _ _).2⟩
          case s12 =>
            refine oo (λvs x hP => ?_)
            simp only[zS]
            go_simp
            exact gc
        case done =>
        intro vs wx hE
        have hG := hE.grow
        obtain⟨g10, uV, l10, m10, b10⟩ := hE.box 10
        simp only[zS, Nat.reduceAdd, uV]
        have UG := Lib.hid b10
        have aT := Lib.hid hG
        clear hE hG b10
        cases fb with
        |false =>
          have bK := Lib.hid (ji.out rfl)
          clear ji EA
          go_wp2_with fail
          go_ret
          exact⟨congrArg (λz => Ending.returned (.int .i64 z)) bK.out.symm, gtr aj.out aT.out⟩
        |true =>
          have bK := Lib.hid (EA.out rfl)
          clear ji EA
          obtain⟨c0, c1, c2⟩ := dF UG.out
          by_cases hk : fk = iL k
          · have e1 : (fk != iL k) = false := by simp[hk]
            have HR2 := Lib.hid (show RES = gJ vars (ae.ts l)from by rw[bK.out, if_pos hk])
            clear hk bK
            go_wp2_with fail
            go_meet
            case rel => exact⟨aT.out, HR2.out⟩
          · have e1 : (fk != iL k) = true := by simpa using hk
            have HR2 := Lib.hid (show RES = 7 from by rw[bK.out, if_neg hk])
            clear hk bK
            go_wp2_with fail
            go_ret
            exact⟨congrArg (λz => Ending.returned (.int .i64 z)) HR2.out.symm, gtr aj.out aT.out⟩
    case rest =>
      obtain⟨hgc, hres⟩ := hcut
      have HG2 := Lib.hid (gtr aj.out hgc)
      have uS := Lib.hid (ai aY.out hgc)
      have kV := Lib.hid hres
      obtain⟨⟨n0, n1⟩, n2, n3⟩ := aJ uS.out
      have hnl := lt_of_block uS.out
      clear hgc hres HT HK iV aj aY
      go_wp2_with fail
      clear n0 n1 n2 n3 hnl
      go_loopw [35] (λt wr => ∃ j : Nat, t = .int .i64 j /\ j <= l.length /\ Grow w wr /\ RES = gJ vars ((ae.ts l).drop j)) (λt _ => l.length - (intOf t).toNat)
      case atStart => exact⟨0, rfl, Nat.zero_le _, HG2.out, by simpa using kV.out⟩
      obtain⟨j, rfl, hj, hg, hres⟩ := hrel
      have bR := Lib.hid hg
      have FR := Lib.hid hres
      clear hg hres kV
      rcases Nat.lt_or_ge j l.length with hlt|hge
      · have BK : decide ((j : Int) < l.length) = true := by simp; omega
        obtain⟨-, -, -, hrow, wW⟩ := (HX.out.later bR.out).row
        obtain⟨kb, ko, mY, ek, _, zh⟩ := hrow.at hlt
        simp only[Value.slice.injEq, true_and]at ek
        obtain⟨rfl, rfl⟩ := ek
        have KA := Lib.hid (wW _ (List.getElem_mem hlt))
        have HDR := Lib.hid (show gJ vars ((ae.ts l).drop j) = if iM vars l[j].t = 0 then gJ vars ((ae.ts l).drop (j + 1))else iM vars l[j].t from by
          rw[ae.oF, List.drop_eq_getElem_cons (by simpa using hlt), gJ, List.getElem_map])
        have Wy := Lib.hid (show dM l[j].t <= N from Nat.le_trans (Ie (by rw[ae.oF]; exact List.mem_map.2 ⟨_, List.getElem_mem hlt, rfl⟩)) xH.out)
        clear hrow wW
        generalize l[j] = y at *
        obtain⟨yk, yn, ys, yv, yl⟩ := y
        obtain⟨ya, yc, rfl, -, -⟩ := KA.out.form
        have c0 := zh 0 _ rfl
        have c1 := zh 1 _ rfl
        have c2 := zh 2 _ rfl
        have c3 := zh 3 _ rfl
        clear zh
        simp only[Nat.add_zero]at c0
        have hkb := World.block_lt_of_cell? wr _ c0
        simp only at hkb
        have bE := Lib.hid (show Grow wr (wr.alloc (.cells #[.int .u8 yk, .int .i64 yn, .string ys, .slice ya yl.length yc] 40))from(Mv.refl _ wr).alloc _)
        have wX := Lib.hid (IH.out _ Wy.out _ (bW NG.out (gtr bR.out bE.out)) (HR.out.later (gtr bR.out bE.out)) (KA.out.later bE.out))
        have jV := Lib.hid (heap_alloc_new wr (.cells #[.int .u8 yk, .int .i64 yn, .string ys, .slice ya yl.length yc] 40))
        simp only[ae.val]at wX
        go_wp2_with fail
        generalize (wr.alloc (.cells #[.int .u8 yk, .int .i64 yn, .string ys, .slice ya yl.length yc] 40)) = wy at *
        refine wX.out.mono ?_
        rintro e w4 ⟨rfl, hg4⟩
        have bB := Lib.hid (gtr (gtr bR.out bE.out) hg4)
        clear hg4 wX c0 c1 c2 c3
        generalize iM vars (ae.t (.mk yk yn ys (.slice ya yl.length yc) yl)) = er at *
        by_cases he : er = 0
        · have e1 : (er != 0) = false := by simp[he]
          have nK := Lib.hid (show RES = gJ vars ((ae.ts l).drop (j + 1))from by rw[FR.out, HDR.out, if_pos he])
          clear he
          go_wp2_with fail
          go_roundw
          case rel => exact⟨j + 1, by go_num, by omega, bB.out, nK.out⟩
          case measure => simp[intOf] <;> omega
        · have e1 : (er != 0) = true := by simpa using he
          have nK := Lib.hid (show RES = er from by rw[FR.out, HDR.out, if_neg he])
          clear he
          go_wp2_with fail
          go_ret
          exact⟨congrArg (λz => Ending.returned (.int .i64 z)) nK.out.symm, bB.out⟩
      · obtain rfl : j = l.length := by omega
        have BK : decide ((l.length : Int) < l.length) = false := by simp
        have HZ := Lib.hid (show RES = 0 from by rw[FR.out, List.drop_of_length_le (by rw[ae.oF]; simp), gJ])
        go_wp2_with fail
        go_ret
        exact⟨congrArg (λz => Ending.returned (.int .i64 z)) HZ.out.symm, bR.out⟩
theorem PR {l : List au} {n : ByteArray} {i j : Int} (h : pX l n i) (k : pX l n j) : i = j := by
  rcases h with⟨rfl, h⟩|⟨a, ha, rfl, h1, h2⟩ <;> rcases k with⟨rfl, k⟩|⟨b, hb, rfl, k1, k2⟩
  · rfl
  · have := h b hb; rw[k1]at this; cases this
  · have := k a ha; rw[h1]at this; cases this
  · rcases Nat.lt_trichotomy a b with e|e|e
    · have := h2 b hb e; rw[k1]at this; cases this
    · rw[e]
    · have := k2 a ha e; rw[h1]at this; cases this
theorem uf (l : List au) (n : ByteArray) : ∃ i, pX l n i := by
  induction l with
  |nil => exact⟨-1, .inl ⟨rfl, λj h => by simp at h⟩⟩
  |cons a l ih =>
    obtain⟨i, hi⟩ := ih
    rcases hi with⟨rfl, h⟩|⟨j, hj, rfl, h1, h2⟩
    · by_cases hn : (a.name == n) = true
      · refine⟨0, .inr ⟨0, by simp, rfl, hn, λj' h' hlt => ?_⟩⟩
        obtain⟨m, rfl⟩ : ∃ m, j' = m + 1 := ⟨j' - 1, by omega⟩
        exact h m (by simpa using h')
      · refine⟨-1, .inl ⟨rfl, λj hj => ?_⟩⟩
        cases j with
        |zero => simpa using hn
        |succ m => exact h m (by simpa using hj)
    · refine⟨(j + 1 : Nat), .inr ⟨j + 1, by simpa using hj, rfl, h1, λj' h' hlt => ?_⟩⟩
      obtain⟨m, rfl⟩ : ∃ m, j' = m + 1 := ⟨j' - 1, by omega⟩
      exact h2 m (by simpa using h') (by omega)
theorem Q0 {V : List (au × Nat)} {n : ByteArray} {u : au × Nat} (h : bf V n = some u) : ∃ j, ∃ hj : j < V.length, pX (V.map Prod.fst) n j /\ V[j] = u := by
  obtain⟨i, hi⟩ := uf (V.map Prod.fst) n
  rcases hi.last with⟨rfl, h2⟩|⟨j, hj, rfl, h2⟩
  · rw[h2]at h; cases h
  · exact⟨j, hj, hi, by rw[h2]at h; exact Option.some.inj h⟩
set_option maxRecDepth 100000 in
set_option maxHeartbeats 3200000 in
theorem AR (w0 : World) (p : az) (fuel k : Nat) (w : World) (x : aK) (s : ah) (n : ByteArray) (u : au × Nat) (h : aG w0 p fuel k w x s) (hu : bf s.cur.vars n = some u) : Calls Tryz.prog 150 #[.pointer (some ⟨x.S, 0, none⟩), .string n] w λe w' => e = .returned (.pointer (some ⟨x.aH u.2, 0, none⟩)) /\ ∃ m, w' = w.drewN m := by
  have HS := Lib.hid h
  have HC := Lib.hid (tL w0 p fuel k w x s h)
  have hvl : s.cur.vars.length <= 9223372036854775807 := by
    obtain⟨_, _, e, _, h⟩ := (bX (f := au.cells) (λ_ => rfl) h.fM.vars).form
    simpa using h
  obtain⟨j, hj, hix, NI⟩ := Q0 hu
  have Wz := Lib.hid hix
  clear h hu hix
  go_enter Tryz.func150, Tryz.ntmps150
  go_wp2_with fail
  refine HC.out.mono ?_
  rintro e w2 ⟨⟨b, o, rfl, eO⟩, rfl⟩
  obtain⟨⟨d0, d1, d2⟩, hbl, hfz⟩ := HS.out.nY eO
  have iV := Lib.hid (λm => (yF b o (x.cur s).1 (s.cur.vars.map Prod.fst) n (w.drewN m) (bW d0 (pQ (Mv.refl _ w) m)) (bX (f := au.cells) (λ_ => rfl) (HS.out.later (pQ (Mv.refl _ w) m)).fM.vars)).mono (R' := λe w' => e = .returned (.int .i64 (j : Int)) /\ w' = w.drewN m) (λe w' hq => by
    obtain⟨⟨i, rfl, hi⟩, rfl⟩ := hq
    exact⟨by rw[PR hi Wz.out], rfl⟩))
  have hrow := bX (f := iF) ug HS.out.fM.cls
  have hj2 : j < (s.cur.vars.map λu => x.aH u.2).length := by simpa using hj
  obtain⟨pb, po, gP, e, _, hcc⟩ := hrow.at hj2
  rw[e]at d1
  have p0 := hcc 0 _ rfl
  simp only[Nat.add_zero, Nat.mul_one, List.getElem_map, NI]at p0
  have hpl := World.block_lt_of_cell? w _ p0
  simp only at hpl
  simp only[List.length_map]at d1
  clear hcc hrow e NI hj2 eO
  generalize s.cur.vars.length = nv at *
  go_wp2_with fail
  go_quiet ((go_at_call 135; exact Calls.quiet_of_same (iV.out _)))
  go_wp2_with fail
  go_ret
  exact⟨rfl, nq, rfl⟩
end Go.Proofs.YtbpodipdfohikaaGreat
