import Derived.Test.YtbpodipdfohikaaGreatL36
import Derived.Test.YtbpodipdfohikaaGreatL34
set_option linter.unusedSimpArgs false
set_option linter.unusedVariables false
set_option maxRecDepth 100000
set_option maxHeartbeats 25600000
namespace Go.Proofs.YtbpodipdfohikaaGreat
open Go.RowKit Go.Instr
attribute [local go_sem ↓] fB
structure sF (wb w : World) (B : Nat) (v : Value) (vs : List Value) : Prop where
  g : Grow wb w
  low : wb.heap.size <= B
  box : w.heap[B]? = some (.cells #[v, .slice none 0 0, .slice none 0 0] 54 (0, 0))
  row : w.ownsRow wb.heap.size 22 1 v vs.length (flat nD vs)
theorem sF.later {wb w w' : World} {B : Nat} {v : Value} {vs : List Value} (h : sF wb w B v vs) (hg : Grow w w') : sF wb w' B v vs := ⟨gtr h.g hg, h.low, ai h.box hg, aZ h.row hg (λ_ _ e => e)⟩
theorem sF.more {wb w w2 : World} {B : Nat} {v v' u : Value} {vs : List Value} (h : sF wb w B v vs) (hr : w2.ownsRow wb.heap.size 22 1 v' (vs ++ [u]).length (flat nD (vs ++ [u]))) (hm : Mv (λb => v.ownBlock = some b) w w2) : (w2.heap[B]? = some (.cells #[v, .slice none 0 0, .slice none 0 0] 54 (0, 0))) /\ sF wb (w2.setCell ⟨B, 0, none⟩ v') B v' (vs ++ [u]) := by
  have nB : v.ownBlock ≠ some B := bM h.row h.box (by decide)
  have hb2 := (hm.block B (lt_of_block h.box) nB).trans h.box
  have hm2 := (Mv.refl (λb => b = B) w2).setCell (p := ⟨B, 0, none⟩) (.inl rfl) v'
  refine⟨hb2, bN (bN h.g hm (λb e => (bH h.row b e).1)) hm2 (λb e => by subst e; exact h.low), h.low, ?_, aZ hr hm2 (λg e e2 => by subst e2; exact bM hr hb2 (by decide) e)⟩
  rw[block_setCell (p := ⟨B, 0, none⟩) hb2 rfl v']
  rfl
def TU (w : World) (e : Ending) (w' : World) : Prop := ∃ a n c, e = .returned (.agg #[.slice a n c, .slice none 0 0, .slice none 0 0]) /\ Grow w w'
set_option maxRecDepth 100000 in
set_option maxHeartbeats 6400000 in
theorem PY (cv : Value) (L : List (List Int)) (w : World) (hc : Vs w cv L) (hn : L.length <= 900000) (hL : ∀ i (h : i < L.length), L[i].length <= 900000) : Calls Tryz.prog 57 #[.agg #[cv, .slice none 0 0, .slice none 0 0]] w (TU w) := by
  obtain⟨ca, cc, rfl⟩ := hc.form
  have HC := Lib.hid hc
  have HL := Lib.hid hL
  have aj := Lib.hid (show Grow w ((w.alloc (.cells #[.slice ca L.length cc, .slice none 0 0, .slice none 0 0] 54)).alloc (.cells #[.slice none 0 0, .slice none 0 0, .slice none 0 0] 54))from((Mv.refl _ w).alloc _).alloc _)
  have HB1 := Lib.hid (show((w.alloc (.cells #[.slice ca L.length cc, .slice none 0 0, .slice none 0 0] 54)).alloc (.cells #[.slice none 0 0, .slice none 0 0, .slice none 0 0] 54)).heap[w.heap.size]? = _ from bY (heap_alloc_new w _) _)
  have hres := heap_alloc_new (w.alloc (.cells #[.slice ca L.length cc, .slice none 0 0, .slice none 0 0] 54)) (.cells #[.slice none 0 0, .slice none 0 0, .slice none 0 0] 54)
  rw[World.size_alloc]at hres
  have bK := Lib.hid hres
  clear hc hL hres
  go_enter Tryz.func57, Tryz.ntmps57
  go_upto_region 1 with fail
  generalize ((w.alloc (.cells #[.slice ca L.length cc, .slice none 0 0, .slice none 0 0] 54)).alloc (.cells #[.slice none 0 0, .slice none 0 0, .slice none 0 0] 54)) = w1 at *
  have HK := Lib.hid (λ(y : World) (hy : Grow w1 y) => ai HB1.out hy)
  refine wg 29 [some 6, some 7, some 8, some 9, some 10, some 11, some 12, some 3, none] [[], [0], [1], [], [3], [4], [2, 5], [], [7, 6]] [] [.c (.pointer (some ⟨w.heap.size, 1, none⟩)), .c (.slice none 0 0), .c (.slice none 0 0), .c (.pointer (some ⟨w.heap.size, 2, none⟩)), .c (.slice none 0 0), .c (.slice none 0 0), .c (.agg #[.slice none 0 0, .slice none 0 0, .slice none 0 0]), .al 8 6 #[.slice none 0 0, .slice none 0 0, .slice none 0 0] 54, .st 7] trivial (dJ rfl) ?steps ?done
  case steps =>
    refine⟨?s0, ?s1, ?s2, ?s3, ?s4, ?s5, ?s6, ?s7, ?s8, trivial⟩
    case s0 =>
      refine oo (λvs x hP => ?_)
      simp only[zS]
      go_simp
      exact gc
    case s1 =>
      refine ok HK (λvs x hG HX hP => ?_)
      obtain⟨c0, c1, c2⟩ := dF HX.out
      have hbl := lt_of_block HX.out
      simp only[zS]
      go_simp
      exact gc
    case s2 =>
      refine ok HK (λvs x hG HX hP => ?_)
      have HC := Lib.hid (wB x)
      simp only[zS]
      go_simp
      refine(HC.out).mono ?_
      rintro e y ⟨rfl, hg⟩
      exact⟨_, rfl, gm hg rfl⟩
    case s3 =>
      refine oo (λvs x hP => ?_)
      simp only[zS]
      go_simp
      exact gc
    case s4 =>
      refine ok HK (λvs x hG HX hP => ?_)
      obtain⟨c0, c1, c2⟩ := dF HX.out
      have hbl := lt_of_block HX.out
      simp only[zS]
      go_simp
      exact gc
    case s5 =>
      refine ok HK (λvs x hG HX hP => ?_)
      have HC := Lib.hid (wB x)
      simp only[zS]
      go_simp
      refine(HC.out).mono ?_
      rintro e y ⟨rfl, hg⟩
      exact⟨_, rfl, gm hg rfl⟩
    case s6 =>
      refine oo (λvs x hP => ?_)
      simp only[zS]
      go_simp
      exact gc
    case s7 =>
      refine oz (λvs x => ?_)
      simp only[zS]
      go_simp
      exact⟨rfl, rfl⟩
    case s8 =>
      refine os (λvs x g hg hb hv => ?_)
      have h6 : vs 6 = .agg #[.slice none 0 0, .slice none 0 0, .slice none 0 0] := hv
      obtain⟨c0, c1, c2⟩ := dF hb
      have zt := bD hb
      simp only[zS, hg, h6]
      go_simp
      exact⟨(rX hb _ _ _).1, (rX hb _ _ _).2⟩
  case done =>
  intro vs w2 hE
  have hG := hE.grow
  obtain⟨g7, a7, l7, m7, b7⟩ := hE.box 7
  have HB2 := Lib.hid (ai HB1.out hG)
  have HR2 := Lib.hid (ai bK.out hG)
  have jF := Lib.hid (show sF w w2 g7 (.slice none 0 0) []from⟨gtr aj.out hG, Nat.le_trans aj.out.size l7, b7, World.ownsRow_nil _ _ _ _⟩)
  have WS := Lib.hid (show w.heap.size + 1 ≠ g7 from by have h1 := lt_of_block bK.out; have h2 : w1.drew.heap.size = w1.heap.size := rfl; omega)
  clear hE hG b7 l7 m7
  simp only[zS, Nat.reduceAdd, a7]
  obtain⟨c0, c1, c2⟩ := dF HB2.out
  have hbl := lt_of_block HB2.out
  go_wp2_with fail
  go_loopw [16] (λt wr => ∃ (k : Nat) (v : Value) (us : List Value), t = .int .i64 k /\ k <= L.length /\ us.length = k /\ sF w wr g7 v us /\ wr.heap[w.heap.size + 1]? = some (.cells #[.slice none 0 0, .slice none 0 0, .slice none 0 0] 54 (0, 0))) (λt _ => L.length - (intOf t).toNat)
  case atStart => exact⟨0, .slice none 0 0, [], rfl, Nat.zero_le _, rfl, jF.out, HR2.out⟩
  obtain⟨k, v, us, rfl, hkl, hvk, hu, hrb⟩ := hrel
  have HU := Lib.hid hu
  have jU := Lib.hid hrb
  have NZ := Lib.hid hvk
  clear hu hrb hvk jF HR2 HB2 c0 c1 c2 hbl
  have F7 := Lib.hid WS.out
  by_cases hlt : k < L.length
  · obtain⟨cb, co, rfl, la, lc, d0, hrl⟩ := (HC.out.later HU.out.g).at hlt
    have hl1 := HL.out k hlt
    have hdl := World.block_lt_of_cell? wr _ d0
    simp only at hdl
    obtain⟨va, vc, hvv⟩ := dL HU.out.row
    subst hvv
    have hbd : (k : Int) < (L.length : Nat) := by omega
    have iy := Lib.hid (λy (hy : Grow wr y) => yx _ _ y (hrl.later hy) hl1)
    clear hrl
    go_upto_region 5 with fail
    have tu := Lib.hid (λ(y : World) (hy : Grow wr y) => And.intro (ai HU.out.box hy) (iy.out y hy))
    refine jm 5 29 [some 20, some 21, some 22, some 23, some 24] [[], [0], [], [2], [3]] [] [.c (.pointer (some ⟨g7, 0, none⟩)), .c (.slice va us.length vc), .c (.slice la L[k].length lc), .p (λv y => ∃ a c, v = .slice a L[k].length c /\ y.ownsRow wr.heap.size 3 1 (.slice a L[k].length c) L[k].length (flat aB L[k])), .p (λv y => ∃ g, v = .slice (some ⟨g, 0, none⟩) 1 1 /\ ∃ a c, y.heap[g]? = some (.cells #[.slice a L[k].length c] 22 (0, 0)))] ⟨⟨(λv x y hg h => by obtain⟨a, c, hv, hb⟩ := h; exact⟨a, c, hv, aZ hb hg (λ_ _ e => e)⟩), λ_ => bu⟩, ⟨(λv x y hg h => by obtain⟨g, hv, a, c, hb⟩ := h; exact⟨g, hv, a, c, ai hb hg⟩), λ_ => bu⟩, trivial⟩ (dJ rfl) ?steps ?done
    case steps =>
      refine⟨?s0, ?s1, ?s2, ?s3, ?s4, trivial⟩
      case s0 =>
        refine oo (λvs x hP => ?_)
        simp only[zS]
        go_simp
        exact gc
      case s1 =>
        refine ok tu (λvs x hG HX hP => ?_)
        obtain⟨c0, c1, c2⟩ := dF HX.out.1
        have hbl := lt_of_block HX.out.1
        simp only[zS]
        go_simp
        exact gc
      case s2 =>
        refine oo (λvs x hP => ?_)
        simp only[zS]
        go_simp
        exact gc
      case s3 =>
        refine ok tu (λvs x hG HX hP => ?_)
        have HC := Lib.hid (HX.out.2)
        simp only[zS]
        go_simp
        refine(HC.out).mono ?_
        rintro e y ⟨v1, rfl, hrow, hg⟩
        obtain⟨a, c, rfl⟩ := dL hrow
        exact⟨_, rfl, hg, _, _, rfl, iZ hrow hG.size⟩
      case s4 =>
        refine oo (λvs x hP => ?_)
        have p3 := pq hP 3
        obtain⟨a3, c3, h3, o3⟩ := p3
        simp only[zS, h3]
        go_simp
        exact gl ⟨_, rfl, _, _, heap_alloc_new x _⟩
    case done =>
    intro vs wx hE
    have hG := hE.grow
    have p3 := hE.val 3
    obtain⟨a3, c3, h3, o3⟩ := p3
    have p4 := hE.val 4
    obtain⟨g4, h4, Oa, Ob, b4⟩ := p4
    simp only[zS, Nat.reduceAdd, h3, h4, List.drop_succ_cons, List.drop_zero]
    have xW := Lib.hid (HU.out.later hG)
    have vI : us.length <= 900000 := by have := NZ.out; omega
    obtain⟨a', c', w2, ⟨hok, jZ, haw⟩, hr2, hm2, -⟩ := jv Tryz.Rx (f := nD) yG (.slice va us.length vc) (.slice (some ⟨g4, 0, none⟩) 1 1) us [.slice Oa L[k].length Ob] w.heap.size wx xW.out.row (ay.dG (f := nD) (l := [.slice Oa L[k].length Ob]) yG b4 (by rfl) (Nat.le_of_ble_eq_true rfl)) (λy hy u hu => by simp at hy; subst hy; simp[nD]at hu; subst hu; rfl) xW.out.g.size (by simp; omega)
    obtain⟨hb2, hnew⟩ := xW.out.more hr2 hm2
    have iC := Lib.hid hnew
    have KM := Lib.hid ((hm2.block _ (lt_of_block (ai jU.out hG)) (bM xW.out.row (ai jU.out hG) (by decide))).trans (ai jU.out hG))
    obtain⟨c0, c1, c2⟩ := dF hb2
    have hbl := lt_of_block hb2
    have zt := bD hb2
    clear hE hG hb2 hnew hr2 hm2 b4
    go_wp2_with fail
    have xh := Lib.hid (show(w2.setCell ⟨g7, 0, none⟩ (.slice a' (us.length + 1) c')).heap[w.heap.size + 1]? = _ from(((Mv.refl (λb => b = g7) w2).setCell (p := ⟨g7, 0, none⟩) (.inl rfl) _).block _ (lt_of_block KM.out) F7.out).trans KM.out)
    go_roundw
    case rel => exact⟨k + 1, _, _, by go_num, by omega, by simp; exact NZ.out, iC.out, xh.out⟩
    case measure => (simp[intOf] <;> omega)
  · obtain rfl : k = L.length := by omega
    have hlt' : decide ((L.length : Int) < L.length) = false := by simp
    obtain⟨va, vc, hvv⟩ := dL HU.out.row
    subst hvv
    obtain⟨c0, c1, c2⟩ := dF HU.out.box
    have hbl := lt_of_block HU.out.box
    obtain⟨r0, r1, r2⟩ := dF jU.out
    have hrl := lt_of_block jU.out
    have zt := bD jU.out
    have mo := Lib.hid (rX jU.out (.slice va us.length vc) (.slice none 0 0) (.slice none 0 0))
    have HF := Lib.hid (bN HU.out.g mo.out.2 (λb e => by omega))
    go_wp2_with fail
    obtain⟨t0, t1, t2⟩ := dF mo.out.1
    exact bodyPost_ret (v := .agg #[.slice va us.length vc, .slice none 0 0, .slice none 0 0]) (by simp[results, Tryz.results57, go_sem, t0, t1, t2]) rfl ⟨_, _, _, rfl, HF.out⟩
abbrev JZ : Array Value := #[.slice none 0 0, .bool false]
theorem IW (J : Nat) (w : World) (hb : w.heap[J]? = some (.cells JZ 104 (0, 0))) : Calls Tryz.prog 85 #[.pointer (some ⟨J, 0, none⟩)] w λe w' => e = .returned (.int .i64 0) /\ w = w' := by
  obtain⟨c0, -⟩ := Eg hb
  have hl := lt_of_block hb
  clear hb
  go_enter Tryz.func85, Tryz.ntmps85
  go_wp2_with fail
  go_ret
  exact⟨rfl, rfl⟩
theorem QE (a b c : Value) (w : World) :
    CallsD Tryz.prog 86 #[a, b, c] .returning w λe u' w' => e = .returned (.tuple #[]) /\ u' = .returning /\ w = w' := by
  refine callsD_of_wpS Tryz.func86 rfl λc₀ cs hu => ?_
  simp only[Tryz.ntmps86, List.size_toArray, List.length_cons, List.length_nil, Nat.reduceAdd, Nat.reduceSub, Array.replicate_succ, Array.replicate_zero, List.push_toArray, List.append_toArray, List.nil_append, List.cons_append]
  apply wpS_seq
  apply wpS_region
  simp[wpOpsS, go_sem, recoverD, hu, Exit.thenS]
  apply wpS_of_wp
  go_wp2
  cases c₀
  simp_all [bodyPostS, results, Tryz.results86]
theorem PZ (x : Value) (w : World) : (Instr.typeAssert (.iface 142 x) 20 142 true).run Tryz.prog w = .ok (.tuple #[x, .bool true]) w := by kernel_rfl
def Tw (E : Nat) (n : Int) (older : List PanicEntry) (w : World) (e : Ending) (u' : FrameMode) (w' : World) : Prop :=
  e = .returned (.tuple #[]) /\ u' = .panicking ({ v := .iface 142 (.agg #[.int .i64 n]), recovered := true } :: older) /\ Mv (λb => b = E) w w' /\ w'.heap[E]? = some (.cells #[.int .i64 n] 25 (0, 0))
set_option maxRecDepth 100000 in
set_option maxHeartbeats 1600000 in
theorem QF (J A F E : Nat) (x : Int) (older : List PanicEntry) (w : World)
    (hA : w.heap[A]? = some (.cells #[.pointer (some ⟨J, 0, none⟩)] 101 (0, 0))) (hF : w.heap[F]? = some (.cells #[.int .i64 0] 3 (0, 0))) (hE : w.heap[E]? = some (.cells #[.int .i64 0] 25 (0, 0))) (hJ : w.heap[J]? = some (.cells JZ 104 (0, 0))) :
    CallsD Tryz.prog 86 #[.pointer (some ⟨A, 0, none⟩), .pointer (some ⟨F, 0, none⟩), .pointer (some ⟨E, 0, none⟩)] (.panicking ({ v := .iface 142 (.agg #[.int .i64 x]), recovered := false } :: older)) w
      (Tw E x older w) := by
  have a0 := cell1 hA
  have b0 := cell1 hF
  have HL := Lib.hid (λq => (IW J (w.drewN q) (by simpa using hJ)))
  have HE := Lib.hid hE
  have YH := PZ
  clear hA hF hE hJ
  have hgt : decide ((0 : Int) < 0) = false := by decide
  refine callsD_of_wpS Tryz.func86 rfl λc₀ cs hu => ?_
  simp only[Tryz.ntmps86, List.size_toArray, List.length_cons, List.length_nil, Nat.reduceAdd, Nat.reduceSub, Array.replicate_succ, Array.replicate_zero, List.push_toArray, List.append_toArray, List.nil_append, List.cons_append]
  apply wpS_seq
  apply wpS_region
  simp[wpOpsS, go_sem, recoverD, hu, Exit.thenS]
  apply wpS_of_wp
  go_wp2
  go_quiet ((go_at_call 85; exact Calls.quiet_of_same ((HL.out _).mono (λ_ _ hx => ⟨hx.1, hx.2.symm⟩))))
  have HE2 := Lib.hid (show(w.drewN nq).heap[E]? = _ from by simpa using HE.out)
  have HM := Lib.hid (show Mv (λb => b = E) w (w.drewN nq)from pQ (Mv.refl _ _) nq)
  generalize w.drewN nq = w2 at *
  have e0 := cell1 HE2.out
  have fe := bD HE2.out
  have hE2 := lt_of_block HE2.out
  clear a0 b0 hgt
  go_wp2
  refine⟨rfl, _, rfl, _, results_none rfl _ _ _, rfl, rfl, ?_, ?_⟩
  · exact(((HM.out.setCell (p := ⟨E, 0, none⟩) (.inl rfl) _)).alloc _)
  · rw[Below.heap_alloc _ _ _ (by simpa using hE2)]
    have := block_setCell (p := ⟨E, 0, none⟩) HE2.out rfl (.int .i64 x)
    simpa using this
theorem Dv (w : World) (a b c : Obj) : (((w.alloc a).alloc b).alloc c).heap[w.heap.size]? = some a /\ (((w.alloc a).alloc b).alloc c).heap[w.heap.size + 1]? = some b /\ (((w.alloc a).alloc b).alloc c).heap[w.heap.size + 1 + 1]? = some c := by
  refine⟨?_, ?_, ?_⟩
  · rw[Below.heap_alloc _ _ _ (by simp; omega), Below.heap_alloc _ _ _ (by simp)]; exact heap_alloc_new w a
  · rw[Below.heap_alloc _ _ _ (by simp)]; have := heap_alloc_new (w.alloc a) b; simpa using this
  · have := heap_alloc_new ((w.alloc a).alloc b) c; simpa using this
def UR (w : World) (Q : World -> World -> Prop) (X : Int -> World -> World -> Prop) (w1 : World) (e : Ending) (w2 : World) : Prop :=
  (∀ b o, w.heap.size <= b -> w1.heap[b]? = some o -> w2.heap[b]? = some o) /\ ((e = .returned (.tuple #[]) /\ Q w1 w2) \/ ∃ n, e = wV n /\ n ≠ 0 /\ X n w1 w2)
def UT (w : World) (Q : World -> World -> Prop) (X : Int -> World -> World -> Prop) (e : Ending) (w' : World) : Prop :=
  ∃ w1 w2 E, Grow w w1 /\ w.heap.size <= E /\ E < w1.heap.size /\ Mv (λb => b = E) w2 w' /\ ((e = .returned (.int .i64 0) /\ Q w1 w2) \/ ∃ n, e = .returned (.int .i64 n) /\ n ≠ 0 /\ X n w1 w2)
set_option maxRecDepth 100000 in
set_option maxHeartbeats 1600000 in
theorem P5 (J k : Nat) (cap : Array Value) (w : World) (wj : World) (Q : World -> World -> Prop) (X : Int -> World -> World -> Prop) (hJ : w.heap[J]? = some (.cells JZ 104 (0, 0))) (Oc : wj.heap.size <= J) (hent : ∀ w, (callFunc k cap).run Tryz.prog w = .ok (.enter k cap) w)
    (hact : ∀ w1, Grow w w1 -> Calls Tryz.prog k cap w1 (UR wj Q X w1)) (Od : wj.heap.size <= w.heap.size) :
    Calls Tryz.prog 59 #[.pointer (some ⟨J, 0, none⟩), .func (.func k) #[] cap] w (UT w Q X) := by
  have hgr : Grow w (((w.alloc (.cells #[.pointer (some ⟨J, 0, none⟩)] 101)).alloc (.cells #[.int .i64 0] 25)).alloc (.cells #[.int .i64 0] 3)) := (((Mv.refl _ _).alloc _).alloc _).alloc _
  have HC := Lib.hid (hact _ hgr)
  have HL := Lib.hid (IW J ((w.alloc (.cells #[.pointer (some ⟨J, 0, none⟩)] 101)).alloc (.cells #[.int .i64 0] 25)) (bY (bY hJ _) _))
  have HG := Lib.hid hgr
  obtain⟨n1, n2, n3⟩ := Dv w (.cells #[.pointer (some ⟨J, 0, none⟩)] 101) (.cells #[.int .i64 0] 25) (.cells #[.int .i64 0] 3)
  have aY := Lib.hid n1
  have bL := Lib.hid n2
  have eU := Lib.hid n3
  have Ab := Lib.hid (ai hJ hgr)
  have heq : ∀ w : World, (binOp .eql 1 (.func (.func k) #[] cap) .nilFunc).run Tryz.prog w = .ok (.bool false) w := λw => C8 w _ _ _ Tryz.underlying1
  have WT := Lib.hid Oc
  have CP := Lib.hid Od
  clear hact hgr n1 n2 n3 hJ Oc Od
  go_enter_defers Tryz.func59, Tryz.ntmps59
  go_wp2_with fail
  refine HL.out.mono ?_
  rintro e w' ⟨rfl, rfl⟩
  go_wp2_with fail
  have hW1 : w.heap.size + 1 < (((w.alloc (.cells #[.pointer (some ⟨J, 0, none⟩)] 101)).alloc (.cells #[.int .i64 0] 25)).alloc (.cells #[.int .i64 0] 3)).heap.size := by simp
  generalize (((w.alloc (.cells #[.pointer (some ⟨J, 0, none⟩)] 101)).alloc (.cells #[.int .i64 0] 25)).alloc (.cells #[.int .i64 0] 3)) = w1 at *
  have HW1 := Lib.hid hW1
  clear hW1 HL
  refine HC.out.mono ?_
  rintro e w2 ⟨hk, ⟨rfl, hQ⟩|⟨n, rfl, hn, hX⟩⟩
  · have HE2 := Lib.hid (hk _ _ (by have := CP.out; omega) bL.out)
    have HQ := Lib.hid hQ
    have e0 := cell1 HE2.out
    have fe := bD HE2.out
    have hel := lt_of_block HE2.out
    clear hk hQ HC
    go_wp2_with fail
    refine leaves_cons (f := 86) (args := #[.pointer (some ⟨w.heap.size, 0, none⟩), .pointer (some ⟨w.heap.size + 1 + 1, 0, none⟩), .pointer (some ⟨w.heap.size + 1, 0, none⟩)]) (by simp) (by simp[go_sem]) ?_
    refine(QE _ _ _ _).mono ?_
    rintro e u' w'' ⟨rfl, rfl, rfl⟩
    have hb := block_setCell (p := ⟨w.heap.size + 1, 0, none⟩) HE2.out rfl (.int .i64 0)
    have F8 := cell1 (a := .int .i64 0) (by simpa using hb)
    refine⟨.int .i64 0, ?_, w1, w2, w.heap.size + 1, HG.out, by omega, HW1.out, (Mv.refl (λb => b = w.heap.size + 1) w2).setCell (p := ⟨w.heap.size + 1, 0, none⟩) (.inl rfl) _, .inl ⟨rfl, HQ.out⟩⟩
    simp[results, Tryz.results59, go_sem, F8]
  · have HX := Lib.hid hX
    have uT := Lib.hid (QF J w.heap.size (w.heap.size + 1 + 1) (w.heap.size + 1) n [] w2 (hk _ _ (by have := CP.out; omega) aY.out) (hk _ _ (by have := CP.out; omega) eU.out) (hk _ _ (by have := CP.out; omega) bL.out) (hk _ _ WT.out Ab.out))
    have HN := Lib.hid hn
    clear hk hX hn HC
    unfold wV
    go_wp2_with fail
    refine leaves_cons (f := 86) (args := #[.pointer (some ⟨w.heap.size, 0, none⟩), .pointer (some ⟨w.heap.size + 1 + 1, 0, none⟩), .pointer (some ⟨w.heap.size + 1, 0, none⟩)]) (by simp) (by simp[go_sem]) ?_
    refine uT.out.mono ?_
    rintro e u' w'' ⟨rfl, rfl, FP, F8⟩
    have WU := cell1 F8
    refine⟨.int .i64 n, ?_, w1, w2, w.heap.size + 1, HG.out, by omega, HW1.out, FP, .inr ⟨n, rfl, HN.out, HX.out⟩⟩
    simp[results, Tryz.results59, go_sem, WU]
end Go.Proofs.YtbpodipdfohikaaGreat
