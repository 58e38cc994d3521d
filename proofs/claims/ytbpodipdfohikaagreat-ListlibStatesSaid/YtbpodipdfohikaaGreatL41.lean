import Derived.Test.YtbpodipdfohikaaGreatL13
import Derived.Test.YtbpodipdfohikaaGreatL40
set_option linter.unusedSimpArgs false
set_option linter.unusedVariables false
set_option maxRecDepth 100000
set_option maxHeartbeats 25600000
namespace Go.Proofs.YtbpodipdfohikaaGreat
open Go.RowKit Go.Instr
attribute [local go_sem ↓] fB
def dI (s : ByteArray) : au := ⟨s, 3, 0⟩
set_option maxRecDepth 100000 in
set_option maxHeartbeats 6400000 in
theorem G7 (v : Value) (l : List ByteArray) (w : World) (h : ay 1 ny w v l) (hl : l.length <= 1000) : Calls Tryz.prog 25 #[v] w λe w' => ∃ u, e = .returned u /\ w'.ownsRow w.heap.size 50 3 u (l.map dI).length (flat au.cells (l.map dI)) /\ Grow w w' := by
  obtain⟨va, vc, rfl, -, -⟩ := h.form
  have HV := Lib.hid h
  clear h
  go_enter Tryz.func25, Tryz.ntmps25
  go_wp2_with fail
  go_loopw [3, 8] (λlv t wr => ∃ k : Nat, t = .int .i64 k /\ k <= l.length /\ Grow w wr /\ wr.ownsRow w.heap.size 50 3 lv ((l.take k).map dI).length (flat au.cells ((l.take k).map dI))) (λ_ t _ => l.length - (intOf t).toNat)
  case atStart => exact⟨0, rfl, Nat.zero_le _, Mv.refl _ _, World.ownsRow_nil _ _ _ _⟩
  obtain⟨k, rfl, hk, hg, hrow⟩ := hrel
  have HG := Lib.hid hg
  have HR := Lib.hid hrow
  obtain⟨ra, rc, eF⟩ := dL hrow
  simp only[List.length_map, List.length_take, Nat.min_eq_left hk]at eF
  subst eF
  clear hrow hg
  by_cases hlt : k < l.length
  · obtain⟨b, off, cap', e, _, hcc⟩ := (HV.out.later HG.out).at hlt
    simp only[Value.slice.injEq, true_and]at e
    obtain⟨rfl, rfl⟩ := e
    have c0 := hcc 0 _ rfl
    simp only[Nat.add_zero, Nat.mul_one]at c0
    have hbx := World.block_lt_of_cell? wr _ c0
    simp only at hbx
    have hG1 : Grow wr (wr.alloc (.cells #[.string l[k], .int .u8 3, .int .i64 0] 50)) := (Mv.refl _ _).alloc _
    have Gg := aZ HR.out hG1 (λ_ _ e => e)
    obtain⟨a', c', w2, ⟨hok, jZ, haw⟩, hr2, hm2, -⟩ := jv Tryz.Bi (f := au.cells) uz (.slice ra k rc) (.slice (some ⟨wr.heap.size, 0, none⟩) 1 1) ((l.take k).map dI) [dI l[k]] w.heap.size (wr.alloc (.cells #[.string l[k], .int .u8 3, .int .i64 0] 50)) Gg (ay.dG (f := au.cells) (l := [dI l[k]]) uz (heap_alloc_new wr _) (by simp[flat, au.cells, dI]) (Nat.le_of_ble_eq_true rfl)) (λy hy u hu => by simp at hy; subst hy; simp[au.cells, dI]at hu; rcases hu with rfl|rfl|rfl <;> rfl) (gtr HG.out hG1).size (by simp; omega)
    have hlen : ((l.take k).map dI).length = k := by simp; omega
    rw[hlen]at jZ
    have htk : (l.take (k + 1)).map dI = (l.take k).map dI ++ [dI l[k]] := by rw[List.take_succ_eq_append_getElem hlt, List.map_append]; rfl
    have iC := Lib.hid (show w2.ownsRow w.heap.size 50 3 (.slice a' (k + 1) c') ((l.take (k + 1)).map dI).length (flat au.cells ((l.take (k + 1)).map dI))from by
      rw[htk]
      simp only[hlen, List.length_cons, List.length_nil, Nat.zero_add]at hr2
      exact hr2)
    have WW := Lib.hid (bN (gtr HG.out hG1) hm2 (λb e => (bH Gg b e).1))
    clear hcc hG1 Gg hr2 hm2 hlen htk
    generalize l[k] = s at *
    go_wp2_with fail
    go_roundw
    case rel => exact⟨k + 1, by go_num, by omega, WW.out, iC.out⟩
    case measure => (simp[intOf] <;> omega)
  · obtain rfl : k = l.length := by omega
    have hlt' : decide ((l.length : Int) < l.length) = false := by simp
    have HF := Lib.hid (show wr.ownsRow w.heap.size 50 3 (.slice ra l.length rc) (l.map dI).length (flat au.cells (l.map dI))from by have := HR.out; rwa[List.take_length]at this)
    clear HR
    go_wp2_with fail
    go_ret
    exact⟨_, rfl, HF.out, HG.out⟩
def zq (B : Nat) (l : List au) (v : Value) (y : World) : Prop := ∃ a c, v = .slice a l.length c /\ y.ownsRow B 50 3 (.slice a l.length c) l.length (flat au.cells l)
theorem zq.later {B : Nat} {l : List au} {v : Value} {x y : World} (h : zq B l v x) (hg : Grow x y) : zq B l v y := by
  obtain⟨a, c, h1, h2⟩ := h
  exact⟨a, c, h1, aZ h2 hg (λ_ _ e => e)⟩
def yP (B : Nat) (d : bA) (v : Value) (y : World) : Prop := ∃ q : aO, v = q.val /\ q.d = d /\ y.ownsRow B 50 3 q.pv q.params.length (flat au.cells q.params) /\ aS (λb => B <= b) y q.body
theorem yP.later {B : Nat} {d : bA} {v : Value} {x y : World} (h : yP B d v x) (hg : Grow x y) : yP B d v y := by
  obtain⟨q, h1, h2, h3, h4⟩ := h
  exact⟨q, h1, h2, aZ h3 hg (λ_ _ e => e), h4.later hg⟩
structure fZ (B : Nat) (y : World) (pv : Value) (procs : List aO) : Prop where
  blk : ∃ g, pv = .slice (some ⟨g, 0, none⟩) 2 2 /\ B <= g /\ y.heap[g]? = some (.cells (flat aO.cells procs).toArray 48 (0, 0))
  d : procs.map aO.d = iG
  par : ∀ q ∈ procs, y.ownsRow B 50 3 q.pv q.params.length (flat au.cells q.params)
  body : ∀ q ∈ procs, aS (λb => B <= b) y q.body
theorem fZ.later {B : Nat} {x y : World} {pv : Value} {procs : List aO} (h : fZ B x pv procs) (hg : Grow x y) : fZ B y pv procs :=
  ⟨h.blk.imp λ_ e => ⟨e.1, e.2.1, ai e.2.2 hg⟩, h.d, λq hq => aZ (h.par q hq) hg (λ_ _ e => e), λq hq => (h.body q hq).later hg⟩
theorem fZ.weak {B B' : Nat} {x : World} {pv : Value} {procs : List aO} (h : fZ B x pv procs) (hb : B' <= B) : fZ B' x pv procs :=
  ⟨h.blk.imp λ_ e => ⟨e.1, Nat.le_trans hb e.2.1, e.2.2⟩, h.d, λq hq => iZ (h.par q hq) hb, λq hq => (h.body q hq).from hb⟩
theorem fZ.fill {B A : Nat} {x y : World} {pv : Value} {procs : List aO} (h : fZ B x pv procs) (hm : Mv (λb => b = A) x y) (hA : A < B) : fZ B y pv procs :=
  ⟨h.blk.imp λ_ e => ⟨e.1, e.2.1, (hm.block _ (lt_of_block e.2.2) (λe2 => by have := e.2.1; omega)).trans e.2.2⟩, h.d, λq hq => aZ (h.par q hq) hm (λg hg e => by have := (bH (h.par q hq) g hg).1; omega), λq hq => (h.body q hq).stay hm (λb _ _ hb _ e => by omega)⟩
theorem fZ.len {B : Nat} {y : World} {pv : Value} {procs : List aO} (h : fZ B y pv procs) : procs.length = 2 := by
  have := congrArg List.length h.d
  simpa[iG]using this
theorem fZ.form {B : Nat} {y : World} {pv : Value} {procs : List aO} (h : fZ B y pv procs) : ∃ a c, pv = .slice a procs.length c := by
  obtain⟨g, h1, -⟩ := h.blk
  exact⟨_, 2, by rw[h1, h.len]⟩
theorem fZ.procs {B : Nat} {y : World} {pv : Value} {procs : List aO} (h : fZ B y pv procs) : ru y pv procs := by
  obtain⟨g, h1, -, h3⟩ := h.blk
  have hl := h.len
  refine⟨?_, λq hq => ⟨?_, bX uz (h.par q hq), (h.body q hq).at⟩⟩
  · have := ay.dG (n := 6) (f := aO.cells) (l := procs) (λq => by obtain⟨_, _, _, ⟨_, _, _, _, _⟩⟩ := q; rfl) h3 rfl (by omega)
    rw[hl]at this
    rw[h1]; exact this
  · have hm : q.d ∈ iG := by rw[← h.d]; exact List.mem_map.2 ⟨q, hq, rfl⟩
    have : ∀ d ∈ iG, d.name.size <= 9223372036854775807 := by decide
    exact this q.d hm
theorem fZ.params {B : Nat} {y : World} {pv : Value} {procs : List aO} (h : fZ B y pv procs) : ∀ q ∈ procs, q.params.length <= 1000 /\ ∀ x ∈ q.params, x.name.size <= 9223372036854775807 := λq hq => by
  have hm : q.d ∈ iG := by rw[← h.d]; exact List.mem_map.2 ⟨q, hq, rfl⟩
  have : ∀ d ∈ iG, d.params.length <= 1000 /\ ∀ x ∈ d.params, x.name.size <= 9223372036854775807 := by decide
  exact this q.d hm
def BN (B : Nat) (v : Value) (y : World) : Prop := ∃ procs a c, v = .slice a 2 c /\ fZ B y (.slice a 2 c) procs
theorem BN.later {B : Nat} {v : Value} {x y : World} (h : BN B v x) (hg : Grow x y) : BN B v y := by
  obtain⟨ps, a, c, h1, h2⟩ := h
  exact⟨ps, a, c, h1, h2.later hg⟩
def KO (w : World) (e : Ending) (w' : World) : Prop := ∃ pv procs, e = .returned pv /\ fZ w.heap.size w' pv procs /\ Grow w w'
set_option maxRecDepth 100000 in
set_option maxHeartbeats 6400000 in
theorem Ro (w : World) : Calls Tryz.prog 18 #[] w (KO w) := by
  have HZ := Lib.hid (show w.heap.size <= w.heap.size from Nat.le_refl _)
  obtain⟨B, hB⟩ : ∃ B, B = w.heap.size := ⟨_, rfl⟩
  rw[show(w.heap.size <= w.heap.size) = (B <= w.heap.size)from by rw[hB]]at HZ
  have hBw : w.heap.size <= B := by omega
  clear hB
  go_enter Tryz.func18, Tryz.ntmps18
  go_upto_region 1 with fail
  refine zA 10 [some 1, some 2, some 3, some 4, some 5, some 6, some 7, some 8, some 9, some 0] [[], [0], [], [1, 2], [], [4], [], [5, 6], [3, 7], [8]] [] [.p (λv y => ∃ g, v = .slice (some ⟨g, 0, none⟩) 2 2 /\ y.heap[g]? = some (.cells #[.string sA, .string sB] 9 (0, 0))), .p (zq B [dI sA, dI sB]), .p (bV B yQ), .p (yP B El), .p (λv y => ∃ g, v = .slice (some ⟨g, 0, none⟩) 2 2 /\ y.heap[g]? = some (.cells #[.string sA, .string sG] 9 (0, 0))), .p (zq B [dI sA, dI sG]), .p (bV B yO), .p (yP B Ec), .p (λv y => ∃ procs a c, v = .slice a 2 c /\ fZ B y (.slice a 2 c) procs), .p (λv y => ∃ procs a c, v = .slice a 2 c /\ fZ B y (.slice a 2 c) procs)] ⟨⟨(λv x y hg h => by obtain⟨g, hv, hb⟩ := h; exact⟨g, hv, ai hb hg⟩), λ_ => bu⟩, ⟨(λv x y hg h => h.later hg), λ_ => bu⟩, ⟨(λv x y hg h => h.later hg), λ_ => bu⟩, ⟨(λv x y hg h => h.later hg), λ_ => bu⟩, ⟨(λv x y hg h => by obtain⟨g, hv, hb⟩ := h; exact⟨g, hv, ai hb hg⟩), λ_ => bu⟩, ⟨(λv x y hg h => h.later hg), λ_ => bu⟩, ⟨(λv x y hg h => h.later hg), λ_ => bu⟩, ⟨(λv x y hg h => h.later hg), λ_ => bu⟩, ⟨(λv x y hg h => by obtain⟨ps, a, c, hv, h⟩ := h; exact⟨ps, a, c, hv, h.later hg⟩), λ_ => bu⟩, ⟨(λv x y hg h => by obtain⟨ps, a, c, hv, h⟩ := h; exact⟨ps, a, c, hv, h.later hg⟩), λ_ => bu⟩, trivial⟩ (dJ rfl) ?steps ?done
  case steps =>
    refine⟨?s0, ?s1, ?s2, ?s3, ?s4, ?s5, ?s6, ?s7, ?s8, ?s9, trivial⟩
    case s0 =>
      refine oo (λvs x hP => ?_)
      simp only[zS]
      go_simp
      exact gl ⟨_, rfl, heap_alloc_new x _⟩
    case s1 =>
      refine gp (λvs x hG hP => ?_)
      have p0 := pq hP 0
      obtain⟨g0, h0, b0⟩ := p0
      have hZ := bC hG HZ.out
      have HC := Lib.hid (G7 (.slice (some ⟨g0, 0, none⟩) 2 2) [sA, sB] x (ay.dG (f := ny) (l := [sA, sB]) (λ_ => rfl) b0 (by simp[flat, ny]) (Nat.le_of_ble_eq_true rfl)) (Nat.le_of_ble_eq_true rfl))
      simp only[zS, h0]
      go_simp
      refine(HC.out).mono ?_
      rintro e y ⟨u, rfl, hu, hg⟩
      obtain⟨ua, uc, rfl⟩ := dL hu
      exact⟨_, rfl, hg, ua, uc, rfl, iZ hu hZ⟩
    case s2 =>
      refine gp (λvs x hG hP => ?_)
      have hZ := bC hG HZ.out
      have HC := Lib.hid (Pf x)
      simp only[zS]
      go_simp
      refine(HC.out).mono ?_
      rintro e y ⟨n, rfl, hn, ht, hg⟩
      exact⟨_, rfl, hg, n, rfl, hn.from hZ, ht⟩
    case s3 =>
      refine oo (λvs x hP => ?_)
      have p1 := pq hP 1
      obtain⟨a1, c1, h1, o1⟩ := p1
      have p2 := pq hP 2
      obtain⟨⟨k2, m2, s2, v2, l2⟩, h2, o2, t2⟩ := p2
      obtain⟨a2, c2, rfl, -, -⟩ := o2.at.form
      simp only[ae.val]at h2
      simp only[zS, h1, h2]
      go_simp
      exact gk ⟨⟨rR, _, .slice a1 2 c1, .mk k2 m2 s2 (.slice a2 l2.length c2) l2⟩, rfl, by simp only[aO.d, t2]; rfl, o1, o2⟩
    case s4 =>
      refine oo (λvs x hP => ?_)
      simp only[zS]
      go_simp
      exact gl ⟨_, rfl, heap_alloc_new x _⟩
    case s5 =>
      refine gp (λvs x hG hP => ?_)
      have p4 := pq hP 4
      obtain⟨g4, h4, b4⟩ := p4
      have hZ := bC hG HZ.out
      have HC := Lib.hid (G7 (.slice (some ⟨g4, 0, none⟩) 2 2) [sA, sG] x (ay.dG (f := ny) (l := [sA, sG]) (λ_ => rfl) b4 (by simp[flat, ny]) (Nat.le_of_ble_eq_true rfl)) (Nat.le_of_ble_eq_true rfl))
      simp only[zS, h4]
      go_simp
      refine(HC.out).mono ?_
      rintro e y ⟨u, rfl, hu, hg⟩
      obtain⟨ua, uc, rfl⟩ := dL hu
      exact⟨_, rfl, hg, ua, uc, rfl, iZ hu hZ⟩
    case s6 =>
      refine gp (λvs x hG hP => ?_)
      have hZ := bC hG HZ.out
      have HC := Lib.hid (O9 x)
      simp only[zS]
      go_simp
      refine(HC.out).mono ?_
      rintro e y ⟨n, rfl, hn, ht, hg⟩
      exact⟨_, rfl, hg, n, rfl, hn.from hZ, ht⟩
    case s7 =>
      refine oo (λvs x hP => ?_)
      have p5 := pq hP 5
      obtain⟨a5, c5, h5, o5⟩ := p5
      have p6 := pq hP 6
      obtain⟨⟨k6, m6, s6, v6, l6⟩, h6, o6, t6⟩ := p6
      obtain⟨a6, c6, rfl, -, -⟩ := o6.at.form
      simp only[ae.val]at h6
      simp only[zS, h5, h6]
      go_simp
      exact gk ⟨⟨oC, _, .slice a5 2 c5, .mk k6 m6 s6 (.slice a6 l6.length c6) l6⟩, rfl, by simp only[aO.d, t6]; rfl, o5, o6⟩
    case s8 =>
      refine gp (λvs x hG hP => ?_)
      have p3 := pq hP 3
      obtain⟨⟨n3, CU, YJ, ⟨k3, m3, s3, v3, l3⟩⟩, h3, d3, w3, o3⟩ := p3
      obtain⟨a3, c3, rfl, -, -⟩ := o3.at.form
      obtain⟨WX, WY, hp3⟩ := dL w3
      simp only at hp3
      subst hp3
      simp only[aO.val]at h3
      have p7 := pq hP 7
      obtain⟨⟨n7, OC, YK, ⟨k7, m7, s7, v7, l7⟩⟩, h7, d7, w7, o7⟩ := p7
      obtain⟨a7, c7, rfl, -, -⟩ := o7.at.form
      obtain⟨WZ, W9, OD⟩ := dL w7
      simp only at OD
      subst OD
      simp only[aO.val]at h7
      have hZ := bC hG HZ.out
      simp only[zS, h3, h7]
      go_simp
      exact gl ⟨[⟨n3, CU, .slice WX CU.length WY, .mk k3 m3 s3 (.slice a3 l3.length c3) l3⟩, ⟨n7, OC, .slice WZ OC.length W9, .mk k7 m7 s7 (.slice a7 l7.length c7) l7⟩], _, _, rfl, ⟨_, rfl, hZ, heap_alloc_new x _⟩, by simp only[List.map_cons, List.map_nil, d3, d7]; rfl, (λq hq => by simp only[List.mem_cons, List.mem_nil_iff, or_false]at hq; rcases hq with rfl|rfl; exact aZ w3 ((Mv.refl _ _).alloc _) (λ_ _ e => e); exact aZ w7 ((Mv.refl _ _).alloc _) (λ_ _ e => e)), (λq hq => by simp only[List.mem_cons, List.mem_nil_iff, or_false]at hq; rcases hq with rfl|rfl; exact o3.later ((Mv.refl _ _).alloc _); exact o7.later ((Mv.refl _ _).alloc _))⟩
    case s9 =>
      refine oo (λvs x hP => ?_)
      have p8 := pq hP 8
      obtain⟨YL, a8, c8, h8, L8⟩ := p8
      simp only[zS, h8]
      go_simp
      exact gk ⟨_, _, _, rfl, L8⟩
  case done =>
  intro vs wx hE
  have hG := hE.wS
  have p9 := hE.val 9
  obtain⟨Xa, a9, c9, h9, L9⟩ := p9
  have HQ := Lib.hid (show KO w (.returned (.slice a9 2 c9)) wx from⟨_, Xa, rfl, L9.weak (by omega), hG⟩)
  clear hE
  simp only[zS, Nat.reduceAdd, h9]
  go_wp2_with fail
  go_ret
  exact HQ.out
theorem Sc {B g g1 : Nat} {y : World} {kd : Int} {nm : ByteArray} (hk : 0 <= kd /\ kd <= 255) (hn : nm.size <= 9223372036854775807) (hz : B <= g /\ B <= g1) (hb : y.heap[g]? = some (.cells #[.int .u8 kd, .int .i64 0, .string nm, .slice (some ⟨g1, 0, none⟩) 2 2] 40 (0, 0)))
    (h1 : y.heap[g1]? = some (.cells #[.int .u8 2, .int .i64 0, .string sA, .slice none 0 0, .int .u8 2, .int .i64 0, .string sB, .slice none 0 0] 40 (0, 0))) : aS (λb => B <= b) y (.mk 57 0 ⟨#[]⟩ (.slice (some ⟨g, 0, none⟩) 1 1) [.mk kd 0 nm (.slice (some ⟨g1, 0, none⟩) 2 2) [.mk 2 0 sA (.slice none 0 0) [], .mk 2 0 sB (.slice none 0 0) []]]) :=
  iA (m := 1) ⟨by decide, by decide⟩ ⟨by decide, by decide⟩ (by decide) hb hz.1 rfl (by decide) (λx hx => by
    rw[List.mem_singleton.1 hx]
    exact iA (m := 2) hk ⟨by decide, by decide⟩ hn h1 hz.2 rfl (by decide) (λz hz => by
      simp only[List.mem_cons, List.mem_nil_iff, or_false]at hz
      rcases hz with rfl|rfl
      · exact wK ⟨by decide, by decide⟩ ⟨by decide, by decide⟩ (by decide)
      · exact wK ⟨by decide, by decide⟩ ⟨by decide, by decide⟩ (by decide)))
structure mO (B : Nat) (y : World) (p : az) (kd : Int) (nm : ByteArray) : Prop where
  names : p.vars = [dI sA, dI sB]
  blk : ∃ g, p.vv = .slice (some ⟨g, 0, none⟩) 2 2 /\ B <= g /\ y.heap[g]? = some (.cells #[.string sA, .int .u8 3, .int .i64 0, .string sB, .int .u8 3, .int .i64 0] 50 (0, 0))
  lib : fZ B y p.pv p.procs
  main : aS (λb => B <= b) y p.main
  t : p.main.t = jD [gM kd nm]
theorem mO.later {B : Nat} {x y : World} {p : az} {kd : Int} {nm : ByteArray} (h : mO B x p kd nm) (hg : Grow x y) : mO B y p kd nm :=
  ⟨h.names, h.blk.imp λ_ e => ⟨e.1, e.2.1, ai e.2.2 hg⟩, h.lib.later hg, h.main.later hg, h.t⟩
theorem mO.fill {B A : Nat} {x y : World} {p : az} {kd : Int} {nm : ByteArray} (h : mO B x p kd nm) (hm : Mv (λb => b = A) x y) (hA : A < B) : mO B y p kd nm :=
  ⟨h.names, h.blk.imp λ_ e => ⟨e.1, e.2.1, (hm.block _ (lt_of_block e.2.2) (λe2 => by have := e.2.1; omega)).trans e.2.2⟩, h.lib.fill hm hA, h.main.stay hm (λb _ _ hb _ e => by omega), h.t⟩
theorem mO.prog {B : Nat} {y : World} {p : az} {kd : Int} {nm : ByteArray} (h : mO B y p kd nm) : jc y p := by
  obtain⟨g, h1, -, h3⟩ := h.blk
  refine⟨?_, λx hx => ?_, h.lib.procs, λq hq => (h.lib.params q hq).2, h.main.at⟩
  · rw[h1, h.names]
    exact ay.dG (f := au.cells) (l := [dI sA, dI sB]) uz h3 (by simp[flat, au.cells, dI]) (Nat.le_of_ble_eq_true rfl)
  · rw[h.names]at hx
    have : ∀ x ∈ [dI sA, dI sB], x.name.size <= 9223372036854775807 := by decide
    exact this x hx
def Bp (B : Nat) (kd : Int) (nm : ByteArray) (v : Value) (y : World) : Prop := ∃ p : az, v = p.val /\ mO B y p kd nm
theorem Bp.later {B : Nat} {kd : Int} {nm : ByteArray} {v : Value} {x y : World} (h : Bp B kd nm v x) (hg : Grow x y) : Bp B kd nm v y := h.imp λ_ h => ⟨h.1, h.2.later hg⟩
def TV (kd : Int) (nm : ByteArray) (w : World) (e : Ending) (w' : World) : Prop := ∃ p : az, e = .returned p.val /\ (∃ B, mO B w' p kd nm) /\ Grow w w'
set_option maxRecDepth 100000 in
set_option maxHeartbeats 12800000 in
theorem Rp (kd : Int) (nm : ByteArray) (w : World) (hk : 0 <= kd /\ kd <= 255) (hn : nm.size <= 9223372036854775807) : Calls Tryz.prog 17 #[.int .u8 kd, .string nm] w (TV kd nm w) := by
  have pG := Lib.hid hk
  have zN := Lib.hid hn
  have HB1 := Lib.hid (heap_alloc_new w (.cells #[.slice none 0 0, .slice none 0 0, .int .u8 0, .int .i64 0, .string ⟨#[]⟩, .slice none 0 0] 42))
  have aj := Lib.hid (show Grow w (w.alloc (.cells #[.slice none 0 0, .slice none 0 0, .int .u8 0, .int .i64 0, .string ⟨#[]⟩, .slice none 0 0] 42))from(Mv.refl _ _).alloc _)
  have hsz : (w.alloc (.cells #[.slice none 0 0, .slice none 0 0, .int .u8 0, .int .i64 0, .string ⟨#[]⟩, .slice none 0 0] 42)).heap.size = w.heap.size + 1 := by simp
  clear hk hn
  go_enter Tryz.func17, Tryz.ntmps17
  go_upto_region 1 with fail
  generalize (w.alloc (.cells #[.slice none 0 0, .slice none 0 0, .int .u8 0, .int .i64 0, .string ⟨#[]⟩, .slice none 0 0] 42)) = w1 at *
  have aY := Lib.hid (heap_alloc_new w1 (.cells #[.int .u8 2, .int .i64 0, .string ⟨#[97]⟩, .slice none 0 0] 40))
  have bL := Lib.hid (heap_alloc_new (w1.alloc (.cells #[.int .u8 2, .int .i64 0, .string ⟨#[97]⟩, .slice none 0 0] 40)) (.cells #[.int .u8 2, .int .i64 0, .string ⟨#[98]⟩, .slice none 0 0] 40))
  have aY := Lib.hid (bY aY.out (.cells #[.int .u8 2, .int .i64 0, .string ⟨#[98]⟩, .slice none 0 0] 40))
  have HG2 := Lib.hid (show Grow w1 ((w1.alloc (.cells #[.int .u8 2, .int .i64 0, .string ⟨#[97]⟩, .slice none 0 0] 40)).alloc (.cells #[.int .u8 2, .int .i64 0, .string ⟨#[98]⟩, .slice none 0 0] 40))from((Mv.refl _ _).alloc _).alloc _)
  rw[World.size_alloc]at bL
  go_upto_region 2 with fail
  generalize ((w1.alloc (.cells #[.int .u8 2, .int .i64 0, .string ⟨#[97]⟩, .slice none 0 0] 40)).alloc (.cells #[.int .u8 2, .int .i64 0, .string ⟨#[98]⟩, .slice none 0 0] 40)) = w2 at *
  rw[hsz]at aY bL
  have HZ := Lib.hid (show w.heap.size + 1 <= w2.heap.size from by have := HG2.out.size; omega)
  obtain⟨B, hB⟩ : ∃ B, B = w.heap.size + 1 := ⟨_, rfl⟩
  rw[← hB]at HZ
  have hB1 : w.heap.size < B := by omega
  clear hB hsz
  have HK := Lib.hid (λ(y : World) (hy : Grow w2 y) => And.intro (ai aY.out hy) (ai bL.out hy))
  refine jm 13 22 [some 9, some 10, some 11, some 12, some 13, some 14, some 15, some 16, some 17, some 18, some 19, some 20, some 21] [[], [], [0, 1], [], [], [], [], [], [6, 7], [4, 5, 8], [9], [10], [2, 3, 11]] [] [.c (.agg #[.string sA, .int .u8 3, .int .i64 0]), .c (.agg #[.string sB, .int .u8 3, .int .i64 0]), .p (λv y => ∃ g, v = .slice (some ⟨g, 0, none⟩) 2 2 /\ B <= g /\ y.heap[g]? = some (.cells #[.string sA, .int .u8 3, .int .i64 0, .string sB, .int .u8 3, .int .i64 0] 50 (0, 0))), .p (BN B), .c (.int .u8 kd), .c (.string nm), .c (.agg #[.int .u8 2, .int .i64 0, .string sA, .slice none 0 0]), .c (.agg #[.int .u8 2, .int .i64 0, .string sB, .slice none 0 0]), .p (λv y => ∃ g, v = .slice (some ⟨g, 0, none⟩) 2 2 /\ B <= g /\ y.heap[g]? = some (.cells #[.int .u8 2, .int .i64 0, .string sA, .slice none 0 0, .int .u8 2, .int .i64 0, .string sB, .slice none 0 0] 40 (0, 0))), .p (λv y => ∃ g, v = .agg #[.int .u8 kd, .int .i64 0, .string nm, .slice (some ⟨g, 0, none⟩) 2 2] /\ B <= g /\ y.heap[g]? = some (.cells #[.int .u8 2, .int .i64 0, .string sA, .slice none 0 0, .int .u8 2, .int .i64 0, .string sB, .slice none 0 0] 40 (0, 0))), .p (λv y => ∃ g, v = .slice (some ⟨g, 0, none⟩) 1 1 /\ ∃ g1, (B <= g /\ B <= g1) /\ y.heap[g]? = some (.cells #[.int .u8 kd, .int .i64 0, .string nm, .slice (some ⟨g1, 0, none⟩) 2 2] 40 (0, 0)) /\ y.heap[g1]? = some (.cells #[.int .u8 2, .int .i64 0, .string sA, .slice none 0 0, .int .u8 2, .int .i64 0, .string sB, .slice none 0 0] 40 (0, 0))), .p (λv y => ∃ g, v = .agg #[.int .u8 57, .int .i64 0, .string ⟨#[]⟩, .slice (some ⟨g, 0, none⟩) 1 1] /\ ∃ g1, (B <= g /\ B <= g1) /\ y.heap[g]? = some (.cells #[.int .u8 kd, .int .i64 0, .string nm, .slice (some ⟨g1, 0, none⟩) 2 2] 40 (0, 0)) /\ y.heap[g1]? = some (.cells #[.int .u8 2, .int .i64 0, .string sA, .slice none 0 0, .int .u8 2, .int .i64 0, .string sB, .slice none 0 0] 40 (0, 0))), .p (Bp B kd nm)] ⟨⟨(λv x y hg h => by obtain⟨g, hv, hl, hb⟩ := h; exact⟨g, hv, hl, ai hb hg⟩), λ_ => bu⟩, ⟨(λv x y hg h => h.later hg), λ_ => bu⟩, ⟨(λv x y hg h => by obtain⟨g, hv, hl, hb⟩ := h; exact⟨g, hv, hl, ai hb hg⟩), λ_ => bu⟩, ⟨(λv x y hg h => by obtain⟨g, hv, hl, hb⟩ := h; exact⟨g, hv, hl, ai hb hg⟩), λ_ => bu⟩, ⟨(λv x y hg h => by obtain⟨g, hv, g1, hl, hb, hb1⟩ := h; exact⟨g, hv, g1, hl, ai hb hg, ai hb1 hg⟩), λ_ => bu⟩, ⟨(λv x y hg h => by obtain⟨g, hv, g1, hl, hb, hb1⟩ := h; exact⟨g, hv, g1, hl, ai hb hg, ai hb1 hg⟩), λ_ => bu⟩, ⟨(λv x y hg h => h.later hg), λ_ => bu⟩, trivial⟩ (dJ rfl) ?steps ?done
  case steps =>
    refine⟨?s0, ?s1, ?s2, ?s3, ?s4, ?s5, ?s6, ?s7, ?s8, ?s9, ?s10, ?s11, ?s12, trivial⟩
    case s0 =>
      refine oo (λvs x hP => ?_)
      simp only[zS]
      go_simp
      exact gc
    case s1 =>
      refine oo (λvs x hP => ?_)
      simp only[zS]
      go_simp
      exact gc
    case s2 =>
      refine ok HK (λvs x hG HX hP => ?_)
      have hZ := bC hG HZ.out
      simp only[zS]
      go_simp
      exact gl ⟨_, rfl, hZ, heap_alloc_new x _⟩
    case s3 =>
      refine ok HK (λvs x hG HX hP => ?_)
      have hZ := bC hG HZ.out
      have HC := Lib.hid (Ro x)
      simp only[zS]
      go_simp
      refine(HC.out).mono ?_
      rintro e y ⟨u, ps, rfl, hl, hg⟩
      obtain⟨g, rfl, -⟩ := hl.blk
      exact⟨_, rfl, hg, ps, _, _, rfl, hl.weak hZ⟩
    case s4 =>
      refine oo (λvs x hP => ?_)
      simp only[zS]
      go_simp
      exact gc
    case s5 =>
      refine oo (λvs x hP => ?_)
      simp only[zS]
      go_simp
      exact gc
    case s6 =>
      refine ok HK (λvs x hG HX hP => ?_)
      obtain⟨⟨n0, n1⟩, n2, n3⟩ := aJ HX.out.1
      simp only[zS]
      go_simp
      exact gc
    case s7 =>
      refine ok HK (λvs x hG HX hP => ?_)
      obtain⟨⟨n0, n1⟩, n2, n3⟩ := aJ HX.out.2
      simp only[zS]
      go_simp
      exact gc
    case s8 =>
      refine ok HK (λvs x hG HX hP => ?_)
      have hZ := bC hG HZ.out
      simp only[zS]
      go_simp
      exact gl ⟨_, rfl, hZ, heap_alloc_new x _⟩
    case s9 =>
      refine oo (λvs x hP => ?_)
      have p8 := pq hP 8
      obtain⟨g8, h8, z8, b8⟩ := p8
      simp only[zS, h8]
      go_simp
      exact gk ⟨_, rfl, z8, b8⟩
    case s10 =>
      refine ok HK (λvs x hG HX hP => ?_)
      have p9 := pq hP 9
      obtain⟨g9, h9, z9, b9⟩ := p9
      have hZ := bC hG HZ.out
      simp only[zS, h9]
      go_simp
      exact gl ⟨_, rfl, _, ⟨hZ, z9⟩, heap_alloc_new x _, bY b9 _⟩
    case s11 =>
      refine oo (λvs x hP => ?_)
      have nH := pq hP 10
      obtain⟨g10, h10, e10, Xb, b10, Xc⟩ := nH
      simp only[zS, h10]
      go_simp
      exact gk ⟨_, rfl, _, Xb, b10, Xc⟩
    case s12 =>
      refine ok HK (λvs x hG HX hP => ?_)
      have p2 := pq hP 2
      obtain⟨g2, h2, z2, b2⟩ := p2
      have p3 := pq hP 3
      obtain⟨CU, a3, c3, h3, L3⟩ := p3
      have uW := pq hP 11
      obtain⟨g11, h11, e11, CO, b11, Xd⟩ := uW
      simp only[zS, h2, h3, h11]
      go_simp
      exact gk ⟨⟨[dI sA, dI sB], .slice (some ⟨g2, 0, none⟩) 2 2, CU, .slice a3 2 c3, .mk 57 0 ⟨#[]⟩ (.slice (some ⟨g11, 0, none⟩) 1 1) [.mk kd 0 nm (.slice (some ⟨e11, 0, none⟩) 2 2) [.mk 2 0 sA (.slice none 0 0) [], .mk 2 0 sB (.slice none 0 0) []]]⟩, rfl, rfl, ⟨_, rfl, z2, b2⟩, L3, Sc pG.out zN.out CO b11 Xd, by simp[ae.t, ae.ts]; rfl⟩
  case done =>
  intro vs wx hE
  have hG := hE.grow
  have zH := hE.val 12
  obtain⟨⟨ES, UU, Mt, UW, ⟨k12, m12, s12, v12, qE⟩⟩, h12, OE⟩ := zH
  have aT := Lib.hid hG
  have xX := Lib.hid OE
  clear hE hG OE
  simp only[zS, Nat.reduceAdd, h12, List.drop_succ_cons, List.drop_zero]
  have aA := Lib.hid (gtr (gtr aj.out HG2.out) aT.out)
  have HB3 := Lib.hid (ai HB1.out (gtr HG2.out aT.out))
  obtain⟨hv1, hp1⟩ : (∃ g, UU = .slice (some ⟨g, 0, none⟩) 2 2) /\ ∃ a c, UW = .slice a 2 c := by
    obtain⟨g, e, -⟩ := xX.out.blk
    obtain⟨g', e', -⟩ := xX.out.lib.blk
    exact⟨⟨g, e⟩, _, _, e'⟩
  obtain⟨gv, rfl⟩ := hv1
  obtain⟨pa, pc, rfl⟩ := hp1
  obtain⟨ma, mc, hmv, -, -⟩ := xX.out.main.at.form
  subst hmv
  simp only[az.val]
  have kg := Lib.hid (Es HB3.out (.slice (some ⟨gv, 0, none⟩) 2 2) (.slice pa 2 pc) (.int .u8 k12) (.int .i64 m12) (.string s12) (.slice ma qE.length mc))
  obtain⟨⟨b0, b1, b2⟩, b3, b4, b5⟩ := cB HB3.out
  have hbl := lt_of_block HB3.out
  have zt := bD HB3.out
  go_wp2_with fail
  obtain⟨⟨t0, t1, t2⟩, t3, t4, t5⟩ := cB kg.out.1
  exact bodyPost_ret (v := .agg #[.slice (some ⟨gv, 0, none⟩) 2 2, .slice pa 2 pc, .int .u8 k12, .int .i64 m12, .string s12, .slice ma qE.length mc]) (by simp[results, Tryz.results17, go_sem, t0, t1, t2, t3, t4, t5]) rfl ⟨⟨ES, .slice (some ⟨gv, 0, none⟩) 2 2, Mt, .slice pa 2 pc, .mk k12 m12 s12 (.slice ma qE.length mc) qE⟩, rfl, ⟨B, xX.out.fill kg.out.2 hB1⟩, bN aA.out kg.out.2 (λb e => by omega)⟩
def Bq (kd : Int) (nm : ByteArray) : lJ := ⟨[dI sA, dI sB], iG, jD [gM kd nm]⟩
theorem Sd (kd : Int) (nm : ByteArray) (hk : kd = 50 \/ kd = 51) (hn : nm = rR \/ nm = oC) : (Bq kd nm).okB = true /\ (Bq kd nm).faults = 0 := by
  rcases hk with rfl|rfl <;> rcases hn with rfl|rfl <;> constructor <;> decide +kernel
theorem SV {B : Nat} {kd : Int} {nm : ByteArray} {A G : List Int} {y : World} {p : az} {cv : Value} {res : Except Int ah} {g : Nat} (h : mO B y p kd nm) (hc : Vs y cv [A, G]) (hk : kd = 50 \/ kd = 51) (hn : nm = rR \/ nm = oC) (hA : A.length <= 1000) (hG : G.length <= 1000)
    (hex : exec iG 100000 g (.stmts [gM kd nm]) false (s0 A G) = some res) (hout : ∀ s', res = .ok s' -> s'.base.locals = 0 /\ s'.base.vars.length <= 900000) :
    Calls Tryz.prog 21 #[p.val, .agg #[cv, .slice none 0 0, .slice none 0 0], .int .i64 100000] y (KN y res) := by
  have hd : p.d = Bq kd nm := by
    have h1 := h.names
    have h2 := h.lib.d
    have h3 := h.t
    obtain⟨vars, vv, procs, pv, m⟩ := p
    simp only[az.d, Bq]at h1 h2 h3 ⊢
    rw[h1, h2, h3]
  obtain⟨hok, hfa⟩ := Sd kd nm hk hn
  rw[← hd]at hok hfa
  have HST := λz (hz : Grow y z) => Rl p cv [A, G] 100000 1000 g z res (h.prog.later hz) (λq hq => ((h.lib.body q hq).later hz).weak (λ_ _ _ => trivial)) ((h.main.later hz).weak (λ_ _ _ => trivial)) (λq hq => (h.lib.params q hq).1) hok hfa (hc.later hz) (by rw[h.names]; decide) (by rw[h.names]; rfl) (λi hi => by
      have : ∀ v ∈ p.vars, v.kind = 3 := by rw[h.names]; decide
      exact this _ (List.getElem_mem hi)) (λi hi => by
      have : ∀ l ∈ [A, G], l.length <= 1000 := λl hl => by simp at hl; rcases hl with rfl|rfl <;> assumption
      exact this _ (List.getElem_mem hi)) (by rw[h.names]; decide) (by decide) (by decide) (by rw[h.lib.d, h.t, h.names]; exact hex) hout
  obtain⟨ca, cc, rfl⟩ := hc.form
  obtain⟨⟨gv, hvv, -⟩, pa, pc, hpv⟩ := And.intro h.blk h.lib.form
  have hnm := h.names
  obtain⟨vars, vv, procs, pv, ⟨mk, mn, ms, mv, ml⟩⟩ := p
  have hmain : aS (λb => B <= b) y (.mk mk mn ms mv ml) := h.main
  obtain⟨ma, mc, hmv, -, -⟩ := hmain.at.form
  simp only at hvv hpv hnm
  subst hvv hpv hmv hnm
  simp only[az.val]at HST ⊢
  exact P6 [dI sA, dI sB] (some ⟨gv, 0, none⟩) 2 procs pa pc mk mn ms ma ml mc ca 2 cc 100000 y res HST
def UX (w : World) (R : Except Int (List Int × List Int)) (e : Ending) (w' : World) : Prop := match R with
  |.ok q => ∃ va ca vb cb, e = .returned (.tuple #[.slice va q.1.length ca, .slice vb q.2.length cb, .int .i64 0]) /\ ay 1 aB w' (.slice va q.1.length ca) q.1 /\ ay 1 aB w' (.slice vb q.2.length cb) q.2 /\ Grow w w'
  |.error n => n ≠ 0 /\ e = .returned (.tuple #[.slice none 0 0, .slice none 0 0, .int .i64 n]) /\ Grow w w'
set_option maxRecDepth 100000 in
set_option maxHeartbeats 12800000 in
theorem Bc (kd : Int) (nm : ByteArray) (va vb : Value) (A G : List Int) (R : Except Int (List Int × List Int)) (w : World) (ha : ay 1 aB w va A) (hb : ay 1 aB w vb G) (hk : kd = 50 \/ kd = 51) (hn : nm = rR \/ nm = oC) (hA : A.length <= 1000) (hG : G.length <= 1000)
    (hR : xe (exec iG 100000 1022 (.stmts [gM kd nm]) false (s0 A G)) R) :
    Calls Tryz.prog 10 #[.int .u8 kd, .string nm, va, vb] w (UX w R) := by
  obtain⟨aa, ac, rfl, -, -⟩ := ha.form
  obtain⟨ba, bc, rfl, -, -⟩ := hb.form
  have wX := Lib.hid (Rp kd nm w (by omega) (by rcases hn with rfl|rfl <;> decide))
  have bK : Hid (∃ res, exec iG 100000 1022 (.stmts [gM kd nm]) false (s0 A G) = some res /\ (∀ s', res = .ok s' -> s'.base.locals = 0 /\ s'.base.vars.length <= 900000) /\ ((∃ s' q, res = .ok s' /\ R = .ok q /\ s'.outs = [q.1, q.2]) \/ ∃ n, res = .error n /\ R = .error n)) := by
    refine Lib.hid ?_
    cases R with
    |error n => exact⟨_, hR, (λs' e => by cases e), .inr ⟨n, rfl, rfl⟩⟩
    |ok q =>
      obtain⟨C', st', h1, h2, h3, h4⟩ := hR
      refine⟨_, h1, λs' e => ?_, .inl ⟨_, q, rfl, rfl, ?_⟩⟩
      · cases e; exact⟨rfl, Nat.le_of_ble_eq_true rfl⟩
      · show[C'.getD 0 [], C'.getD 1 []] = _
        simp[List.getD, h2, h3]
  have HA := Lib.hid (And.intro ha hb)
  have HP := Lib.hid (And.intro (And.intro hk hn) (And.intro hA hG))
  clear ha hb hk hn hA hG hR
  go_enter Tryz.func10, Tryz.ntmps10
  go_wp2_with fail
  refine wX.out.mono ?_
  clear wX
  rintro e w2 ⟨p, rfl, ⟨B, tC⟩, hg⟩
  obtain⟨res, hex, hout, hcases⟩ := bK.out
  have hg3 : Grow w2 (w2.alloc (.cells #[.slice aa A.length ac, .slice ba G.length bc] 22)) := (Mv.refl _ _).alloc _
  have hvs : Vs (w2.alloc (.cells #[.slice aa A.length ac, .slice ba G.length bc] 22)) (.slice (some ⟨w2.heap.size, 0, none⟩) 2 2) [A, G] := by
    refine⟨[.slice aa A.length ac, .slice ba G.length bc], rfl, ay.dG (f := nD) (l := [.slice aa A.length ac, .slice ba G.length bc]) yG (heap_alloc_new w2 _) (by rfl) (Nat.le_of_ble_eq_true rfl), λi h1 h2 => ?_⟩
    have h3 : i = 0 \/ i = 1 := by simp at h1; omega
    rcases h3 with rfl|rfl
    · exact(HA.out.1.later hg).later hg3
    · exact(HA.out.2.later hg).later hg3
  have HF := Lib.hid (SV (tC.later hg3) hvs HP.out.1.1 HP.out.1.2 HP.out.2.1 HP.out.2.2 hex hout)
  have aA := Lib.hid (gtr hg hg3)
  have OG := Lib.hid hcases
  obtain⟨⟨gv, hvv, -⟩, pa, pc, hpv⟩ := And.intro tC.blk tC.lib.form
  obtain⟨vars, vv, procs, pv, ⟨mk, mn, ms, mv, ml⟩⟩ := p
  have hmain : aS (λb => B <= b) w2 (.mk mk mn ms mv ml) := tC.main
  obtain⟨ma, mc, hmv, -, -⟩ := hmain.at.form
  simp only at hvv hpv
  subst hvv hpv hmv
  simp only[az.val]at HF ⊢
  clear hg hg3 hvs tC hmain bK hex hout hcases
  go_wp2_with fail
  refine HF.out.mono ?_
  clear HF
  intro e w4 hq
  rcases OG.out with⟨s', q, rfl, rfl, ho⟩|⟨n, rfl, rfl⟩
  · obtain⟨M, steps, us, rfl, hu, hl⟩ := hq
    have HL2 := Lib.hid (show us.length = 2 from by rw[hl, ho]; rfl)
    rw[ho]at hu
    have hvs := hu.all (by rw[hl, ho]) (Nat.le_of_ble_eq_true rfl)
    obtain⟨b0, o0, e0, la, lc, d0, r0⟩ := hvs.at (i := 0) (Nat.le_of_ble_eq_true rfl)
    obtain⟨b1, o1, e1, lb, ld, d1, r1⟩ := hvs.at (i := 1) (Nat.le_of_ble_eq_true rfl)
    cases e0
    cases e1
    simp only[ho, List.length_cons, List.length_nil, Nat.zero_add, Nat.reduceAdd]
    simp only[List.getElem_cons_zero, List.getElem_cons_succ, Nat.zero_add]at d0 d1 r0 r1
    have hg4 : Grow w4 (w4.alloc (.cells #[.slice (some ⟨M, 0, none⟩) 2 2, .slice none 0 0, .slice none 0 0, .int .i64 steps, .int .i64 0] 56)) := (Mv.refl _ _).alloc _
    have Al := Lib.hid (heap_alloc_new w4 (.cells #[.slice (some ⟨M, 0, none⟩) 2 2, .slice none 0 0, .slice none 0 0, .int .i64 steps, .int .i64 0] 56))
    have d0 := bW d0 hg4
    have d1 := bW d1 hg4
    have Xe := Lib.hid (r0.later hg4)
    have HR1 := Lib.hid (r1.later hg4)
    have bI := Lib.hid (gtr (gtr aA.out hu.g) hg4)
    obtain⟨⟨c0, c1, c2⟩, c3, c4⟩ := lI Al.out
    have hbl := lt_of_block Al.out
    have hdl := World.block_lt_of_cell? _ _ d0
    simp only at hdl
    obtain⟨q1, q2⟩ := q
    clear hu hl hvs r0 r1 ho hg4 aA OG
    go_wp2_with fail
    go_region
    go_wp2_with fail
    exact bodyPost_ret (v := .tuple #[.slice la q1.length lc, .slice lb q2.length ld, .int .i64 0]) (by simp[results, Tryz.results10, go_sem]) rfl ⟨_, _, _, _, rfl, Xe.out.later (Mv.refl _ _).drew, HR1.out.later (Mv.refl _ _).drew, bI.out.drew⟩
  · obtain⟨hn0, ⟨a, m, c, rfl⟩, hg⟩ := hq
    have HN := Lib.hid hn0
    have bB := Lib.hid (gtr aA.out hg)
    have hne : (n != 0) = true := by simpa using hn0
    clear hn0 hg aA
    have Al := Lib.hid (heap_alloc_new w4 (.cells #[.slice a m c, .slice none 0 0, .slice none 0 0, .int .i64 0, .int .i64 n] 56))
    obtain⟨⟨c0, c1, c2⟩, c3, c4⟩ := lI Al.out
    have hbl := lt_of_block Al.out
    have bI := Lib.hid (bB.out.alloc (.cells #[.slice a m c, .slice none 0 0, .slice none 0 0, .int .i64 0, .int .i64 n] 56))
    go_wp2_with fail
    go_region
    go_wp2_with fail
    exact bodyPost_ret (v := .tuple #[.slice none 0 0, .slice none 0 0, .int .i64 n]) (by simp[results, Tryz.results10, go_sem]) rfl ⟨HN.out, rfl, bI.out.drew⟩
end Go.Proofs.YtbpodipdfohikaaGreat
