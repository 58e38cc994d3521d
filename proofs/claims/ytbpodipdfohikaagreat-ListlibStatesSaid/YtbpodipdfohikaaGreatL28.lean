import Derived.Test.YtbpodipdfohikaaGreatL27
set_option linter.unusedSimpArgs false
set_option linter.unusedVariables false
set_option maxRecDepth 100000
set_option maxHeartbeats 25600000
namespace Go.Proofs.YtbpodipdfohikaaGreat
open Go.RowKit Go.Instr
def pV (want : Bool) : Except Int (Bool × ah) -> Except Int ah
  |.ok (b, s) => if b = want then .ok s else .error 15
  |.error n => .error n
set_option maxRecDepth 100000 in
set_option maxHeartbeats 6400000 in
theorem Gx (w0 : World) (p : az) (fuel k : Nat) (w : World) (xx : aK) (s : ah) (n : ae) (want : Bool) (res : Except Int (Bool × ah)) (h : aG w0 p fuel k w xx s) (hno : aS (λ_ => True) w n) (hv : s.holds fuel n.t = some res) : Calls Tryz.prog 131 #[.pointer (some ⟨xx.R, 0, none⟩), n.val, .bool want] w (bZ w0 p fuel k xx w (pV want res)) := by
  have hn := hno.at
  have HH := Lib.hid (λz (hz : Grow w z) => Ii w0 p fuel k z xx s n res (h.later hz) ((ax.grow (x := xx) hz).tree hno) hv)
  obtain⟨nk, nn, ns, nv, nl⟩ := n
  obtain⟨na, nc, rfl, -, -⟩ := hn.form
  have aj := Lib.hid (show Grow w (w.alloc (.cells #[.int .u8 nk, .int .i64 nn, .string ns, .slice na nl.length nc] 40))from(Mv.refl _ w).alloc _)
  have aY := Lib.hid (heap_alloc_new w (.cells #[.int .u8 nk, .int .i64 nn, .string ns, .slice na nl.length nc] 40))
  clear hn hno hv h
  simp only[ae.val]at HH ⊢
  have HC := Lib.hid (HH.out _ aj.out)
  clear HH
  go_enter Tryz.func131, Tryz.ntmps131
  go_wp2_with fail
  refine HC.out.mono ?_
  clear HC
  intro e w2 hq
  unfold qp at hq
  cases res with
  |error m =>
    obtain⟨⟨rfl, hm⟩, hg⟩ := hq
    exact⟨rfl, ⟨rfl, hm⟩, .of (ax.grow aj.out) hg⟩
  |ok q =>
    obtain⟨b, s'⟩ := q
    obtain⟨rfl, x', hr, hs⟩ := hq
    have HR := Lib.hid ((ax.grow aj.out).trans hr)
    have HS := Lib.hid hs
    clear hr hs
    have HF := Lib.hid (show pV want (.ok (b, s')) = if b = want then .ok s' else .error 15 from rfl)
    generalize pV want (.ok (b, s')) = A at *
    have uZ := DF 15 w2 (by decide)
    cases b <;> cases want
    case true.true =>
      go_wp2_with fail
      go_end0
      rw[HF.out]
      exact⟨rfl, x', HR.out, HS.out⟩
    case false.false =>
      go_wp2_with fail
      go_end0
      rw[HF.out]
      exact⟨rfl, x', HR.out, HS.out⟩
    all_goals
      go_wp2_with fail
      refine uZ.mono ?_
      rintro e w3 ⟨rfl, rfl⟩
      refine⟨rfl, ?_⟩
      rw[HF.out]
      exact⟨⟨rfl, by decide⟩, .of HR.out (.new HS.out.g (Mv.refl _ _))⟩
def sw (w : World) (G H : Nat) (CA CB X Y : Array Value) (s : Nat) (y : World) : Prop :=
  ((Grow w y /\ w.heap.size + 2 < G /\ w.heap.size + 2 < H) /\ (y.heap[G]? = some (.cells CA 40 (0, 0)) /\ y.heap[H]? = some (.cells CB 40 (0, 0)))) /\
  (y.heap[w.heap.size + 1]? = some (.cells (if s = 0 then #[.int .u8 0, .int .i64 0, .string ⟨#[]⟩, .slice none 0 0]else X) 40 (0, 0)) /\ y.heap[w.heap.size + 1 + 1]? = some (.cells (if s = 2 then Y else #[.int .u8 0, .int .i64 0, .string ⟨#[]⟩, .slice none 0 0]) 40 (0, 0)))
theorem sw.one {w : World} {G H : Nat} {CA CB X Y : Array Value} {x y : World} (h : sw w G H CA CB X Y 0 x) (hm : Mv (λb => b = w.heap.size + 1) x y) (hb : y.heap[w.heap.size + 1]? = some (.cells X 40 (0, 0))) : sw w G H CA CB X Y 1 y :=
  ⟨⟨⟨bN h.1.1.1 hm (λb e => by omega), h.1.1.2⟩, (hm.block _ (lt_of_block h.1.2.1) (λe => by have := h.1.1.2; omega)).trans h.1.2.1, (hm.block _ (lt_of_block h.1.2.2) (λe => by have := h.1.1.2; omega)).trans h.1.2.2⟩, hb, (hm.block _ (lt_of_block h.2.2) (λe => by omega)).trans h.2.2⟩
theorem sw.two {w : World} {G H : Nat} {CA CB X Y : Array Value} {x y : World} (h : sw w G H CA CB X Y 1 x) (hm : Mv (λb => b = w.heap.size + 1 + 1) x y) (hb : y.heap[w.heap.size + 1 + 1]? = some (.cells Y 40 (0, 0))) : sw w G H CA CB X Y 2 y :=
  ⟨⟨⟨bN h.1.1.1 hm (λb e => by omega), h.1.1.2⟩, (hm.block _ (lt_of_block h.1.2.1) (λe => by have := h.1.1.2; omega)).trans h.1.2.1, (hm.block _ (lt_of_block h.1.2.2) (λe => by have := h.1.1.2; omega)).trans h.1.2.2⟩, (hm.block _ (lt_of_block h.2.1) (λe => by omega)).trans h.2.1, hb⟩
theorem Bb {w : World} {l : List ae} {b off cap : Nat} (h : ay 4 ae.cells w (.slice (some ⟨b, off, none⟩) l.length cap) l) (hn : ∀ x ∈ l, bJ w x) {i : Nat} (hi : i < l.length) : ∃ k n s a c m, l[i] = .mk k n s (.slice a m.length c) m /\ ((w.cell? ⟨b, off + i * 4, none⟩ = some (.int .u8 k) /\ w.cell? ⟨b, off + i * 4 + 1, none⟩ = some (.int .i64 n)) /\ w.cell? ⟨b, off + i * 4 + 2, none⟩ = some (.string s) /\ w.cell? ⟨b, off + i * 4 + 3, none⟩ = some (.slice a m.length c)) := by
  have hc := h.at' hi
  have hx := hn _ (List.getElem_mem hi)
  generalize l[i] = x at *
  obtain⟨k, n, s, v, m⟩ := x
  obtain⟨a, c, rfl, -, -⟩ := hx.form
  exact⟨k, n, s, a, c, m, rfl, ⟨hc 0 _ rfl, hc 1 _ rfl⟩, hc 2 _ rfl, hc 3 _ rfl⟩
set_option maxRecDepth 100000 in
set_option maxHeartbeats 6400000 in
theorem IQ (w : World) (n : ae) (k nn : Int) (ns : ByteArray) (nv : Value) (nl : List ae) (he : n = .mk k nn ns nv nl) (hno : bJ w n) (hl : 0 < nl.length) (b : Bool) : Calls Tryz.prog 129 #[n.val, .bool b] w λe w' => ∃ x y : ae, (nl[0]? = some x /\ nl[nl.length - 1]? = some y) /\ e = .returned (.tuple #[(if b then y else x).val, (if b then x else y).val]) /\ Grow w w' := by
  subst he
  obtain⟨na, nc, rfl, hnc, hnl⟩ := hno.form
  obtain⟨-, -, -, hrow, wW⟩ := hno.row
  obtain⟨kb, ko, mY, dR, -, -⟩ := hrow.at hl
  simp only[Value.slice.injEq, true_and]at dR
  obtain⟨rfl, rfl⟩ := dR
  generalize k = nk at *
  obtain⟨i, hi⟩ : ∃ i, i + 1 = nl.length := ⟨nl.length - 1, by omega⟩
  have HX0 := Lib.hid (λ(y : World) (hy : Grow w y) => And.intro (Bb (hrow.later hy) (λx hx => (wW x hx).later hy) hl) (Bb (hrow.later hy) (λx hx => (wW x hx).later hy) (i := i) (by omega)))
  obtain⟨⟨ak, an, as', aa, ac, al, ea, -⟩, bk, bn, bs, ba, bc, bl, eb, -⟩ := HX0.out w (Mv.refl _ _)
  have jE := Lib.hid (λ(y : World) (hy : Grow w y) => show((y.cell? ⟨kb, ko, none⟩ = some (.int .u8 ak) /\ y.cell? ⟨kb, ko + 1, none⟩ = some (.int .i64 an)) /\ y.cell? ⟨kb, ko + 2, none⟩ = some (.string as') /\ y.cell? ⟨kb, ko + 3, none⟩ = some (.slice aa al.length ac)) /\ ((y.cell? ⟨kb, ko + i * 4, none⟩ = some (.int .u8 bk) /\ y.cell? ⟨kb, ko + i * 4 + 1, none⟩ = some (.int .i64 bn)) /\ y.cell? ⟨kb, ko + i * 4 + 2, none⟩ = some (.string bs) /\ y.cell? ⟨kb, ko + i * 4 + 3, none⟩ = some (.slice ba bl.length bc))from by
    obtain⟨⟨_, _, _, _, _, _, e1, h1⟩, _, _, _, _, _, _, e2, h2⟩ := HX0.out y hy
    rw[ea]at e1; rw[eb]at e2
    simp only[ae.mk.injEq, Value.slice.injEq]at e1 e2
    obtain⟨rfl, rfl, rfl, ⟨rfl, -, rfl⟩, rfl⟩ := e1
    obtain⟨rfl, rfl, rfl, ⟨rfl, -, rfl⟩, rfl⟩ := e2
    simp only[Nat.zero_mul, Nat.add_zero]at h1
    exact⟨h1, h2⟩)
  have vE := Lib.hid (show nl[0]? = some (.mk ak an as' (.slice aa al.length ac) al) /\ nl[nl.length - 1]? = some (.mk bk bn bs (.slice ba bl.length bc) bl)from⟨by rw[List.getElem?_eq_getElem hl, ea], by rw[show nl.length - 1 = i from by omega, List.getElem?_eq_getElem (by omega), eb]⟩)
  have HL := Lib.hid hl
  have HI := Lib.hid hi
  have HW := Lib.hid (show IntKind.i64.wrap ((nl.length : Int) - 1) = (i : Int)from by
    rw[show(nl.length : Int) - 1 = (i : Int)from by omega]
    exact IntWalk.i64_in _ (by omega))
  have aA := Lib.hid (show Grow w (((w.alloc (.cells #[.int .u8 nk, .int .i64 nn, .string ns, .slice (some ⟨kb, ko, none⟩) nl.length nc] 40)).alloc (.cells #[.int .u8 0, .int .i64 0, .string ⟨#[]⟩, .slice none 0 0] 40)).alloc (.cells #[.int .u8 0, .int .i64 0, .string ⟨#[]⟩, .slice none 0 0] 40))from((((Mv.refl _ w).alloc _).alloc _).alloc _))
  have eU := Lib.hid (show(((w.alloc (.cells #[.int .u8 nk, .int .i64 nn, .string ns, .slice (some ⟨kb, ko, none⟩) nl.length nc] 40)).alloc (.cells #[.int .u8 0, .int .i64 0, .string ⟨#[]⟩, .slice none 0 0] 40)).alloc (.cells #[.int .u8 0, .int .i64 0, .string ⟨#[]⟩, .slice none 0 0] 40)).heap[w.heap.size]? = some (.cells #[.int .u8 nk, .int .i64 nn, .string ns, .slice (some ⟨kb, ko, none⟩) nl.length nc] 40 (0, 0))from bY (bY (heap_alloc_new w _) _) _)
  have HR1 := Lib.hid (show(((w.alloc (.cells #[.int .u8 nk, .int .i64 nn, .string ns, .slice (some ⟨kb, ko, none⟩) nl.length nc] 40)).alloc (.cells #[.int .u8 0, .int .i64 0, .string ⟨#[]⟩, .slice none 0 0] 40)).alloc (.cells #[.int .u8 0, .int .i64 0, .string ⟨#[]⟩, .slice none 0 0] 40)).heap[w.heap.size + 1]? = some (.cells #[.int .u8 0, .int .i64 0, .string ⟨#[]⟩, .slice none 0 0] 40 (0, 0))from bY (by have := heap_alloc_new (w.alloc (.cells #[.int .u8 nk, .int .i64 nn, .string ns, .slice (some ⟨kb, ko, none⟩) nl.length nc] 40)) (.cells #[.int .u8 0, .int .i64 0, .string ⟨#[]⟩, .slice none 0 0] 40); rwa[World.size_alloc]at this) _)
  have HR2 := Lib.hid (show(((w.alloc (.cells #[.int .u8 nk, .int .i64 nn, .string ns, .slice (some ⟨kb, ko, none⟩) nl.length nc] 40)).alloc (.cells #[.int .u8 0, .int .i64 0, .string ⟨#[]⟩, .slice none 0 0] 40)).alloc (.cells #[.int .u8 0, .int .i64 0, .string ⟨#[]⟩, .slice none 0 0] 40)).heap[w.heap.size + 1 + 1]? = some (.cells #[.int .u8 0, .int .i64 0, .string ⟨#[]⟩, .slice none 0 0] 40 (0, 0))from by have := heap_alloc_new ((w.alloc (.cells #[.int .u8 nk, .int .i64 nn, .string ns, .slice (some ⟨kb, ko, none⟩) nl.length nc] 40)).alloc (.cells #[.int .u8 0, .int .i64 0, .string ⟨#[]⟩, .slice none 0 0] 40)) (.cells #[.int .u8 0, .int .i64 0, .string ⟨#[]⟩, .slice none 0 0] 40); rwa[World.size_alloc, World.size_alloc]at this)
  have mo := Lib.hid (show(((w.alloc (.cells #[.int .u8 nk, .int .i64 nn, .string ns, .slice (some ⟨kb, ko, none⟩) nl.length nc] 40)).alloc (.cells #[.int .u8 0, .int .i64 0, .string ⟨#[]⟩, .slice none 0 0] 40)).alloc (.cells #[.int .u8 0, .int .i64 0, .string ⟨#[]⟩, .slice none 0 0] 40)).heap.size = w.heap.size + 3 from by simp)
  clear hno hrow wW hl hi hnl hnc ea eb HX0
  simp only[ae.val]
  go_enter Tryz.func129, Tryz.ntmps129
  go_upto_region 1 with fail
  generalize (((w.alloc (.cells #[.int .u8 nk, .int .i64 nn, .string ns, .slice (some ⟨kb, ko, none⟩) nl.length nc] 40)).alloc (.cells #[.int .u8 0, .int .i64 0, .string ⟨#[]⟩, .slice none 0 0] 40)).alloc (.cells #[.int .u8 0, .int .i64 0, .string ⟨#[]⟩, .slice none 0 0] 40)) = w3 at *
  have HK := Lib.hid (λ(y : World) (hy : Grow w3 y) => And.intro (ai eU.out hy) (jE.out y (gtr aA.out hy)))
  refine wg 25 [some 8, some 9, some 10, some 11, some 12, some 13, some 14, some 15, some 16, some 17, some 18, some 19, some 6, some 7, none, none] [[], [0], [1], [2], [], [4], [], [6], [7], [8], [5, 9], [10], [], [], [12, 3], [13, 11]] [] [.c (.pointer (some ⟨w.heap.size, 3, none⟩)), .c (.slice (some ⟨kb, ko, none⟩) nl.length nc), .c (.pointer (some ⟨kb, ko, none⟩)), .c (.agg #[.int .u8 ak, .int .i64 an, .string as', .slice aa al.length ac]), .c (.pointer (some ⟨w.heap.size, 3, none⟩)), .c (.slice (some ⟨kb, ko, none⟩) nl.length nc), .c (.pointer (some ⟨w.heap.size, 3, none⟩)), .c (.slice (some ⟨kb, ko, none⟩) nl.length nc), .c (.int .i64 (nl.length : Nat)), .c (.int .i64 (i : Nat)), .c (.pointer (some ⟨kb, ko + i * 4, none⟩)), .c (.agg #[.int .u8 bk, .int .i64 bn, .string bs, .slice ba bl.length bc]), .al 14 3 #[.int .u8 0, .int .i64 0, .string ⟨#[]⟩, .slice none 0 0] 40, .al 15 11 #[.int .u8 0, .int .i64 0, .string ⟨#[]⟩, .slice none 0 0] 40, .st 12, .st 13] trivial (dJ rfl) ?steps ?done
  case steps =>
    refine⟨?s0, ?s1, ?s2, ?s3, ?s4, ?s5, ?s6, ?s7, ?s8, ?s9, ?s10, ?s11, ?s12, ?s13, ?s14, ?s15, trivial⟩
    case s0 =>
      refine oo (λvs x hP => ?_)
      simp only[zS]
      go_simp
      exact gc
    case s1 =>
      refine ok HK (λvs x hG HX hP => ?_)
      obtain⟨⟨n0, n1⟩, n2, n3⟩ := aJ HX.out.1
      simp only[zS]
      go_simp
      exact gc
    case s2 =>
      refine ok HK (λvs x hG HX hP => ?_)
      have hbd : 0 < nl.length := HL.out
      simp only[zS]
      go_simp
      exact gc
    case s3 =>
      refine ok HK (λvs x hG HX hP => ?_)
      obtain⟨⟨d0, d1⟩, d2, d3⟩ := HX.out.2.1
      simp only[zS]
      go_simp
      exact gc
    case s4 =>
      refine oo (λvs x hP => ?_)
      simp only[zS]
      go_simp
      exact gc
    case s5 =>
      refine ok HK (λvs x hG HX hP => ?_)
      obtain⟨⟨n0, n1⟩, n2, n3⟩ := aJ HX.out.1
      simp only[zS]
      go_simp
      exact gc
    case s6 =>
      refine oo (λvs x hP => ?_)
      simp only[zS]
      go_simp
      exact gc
    case s7 =>
      refine ok HK (λvs x hG HX hP => ?_)
      obtain⟨⟨n0, n1⟩, n2, n3⟩ := aJ HX.out.1
      simp only[zS]
      go_simp
      exact gc
    case s8 =>
      refine oo (λvs x hP => ?_)
      simp only[zS]
      go_simp
      exact gc
    case s9 =>
      refine ok HK (λvs x hG HX hP => ?_)
      have hw := HW.out
      simp only[zS]
      go_simp
      exact gc
    case s10 =>
      refine ok HK (λvs x hG HX hP => ?_)
      have hbd : i < nl.length := by have := HI.out; omega
      simp only[zS]
      go_simp
      exact gc
    case s11 =>
      refine ok HK (λvs x hG HX hP => ?_)
      obtain⟨⟨d0, d1⟩, d2, d3⟩ := HX.out.2.2
      simp only[zS]
      go_simp
      exact gc
    case s12 =>
      refine oz (λvs x => ?_)
      simp only[zS]
      go_simp
      exact⟨rfl, rfl⟩
    case s13 =>
      refine oz (λvs x => ?_)
      simp only[zS]
      go_simp
      exact⟨rfl, rfl⟩
    case s14 =>
      refine os (λvs x g hg hb hv => ?_)
      have h3 : vs 3 = .agg #[.int .u8 ak, .int .i64 an, .string as', .slice aa al.length ac] := hv
      obtain⟨c0, c1, c2, c3⟩ := fA hb
      have zt := bD hb
      simp only[zS, hg, h3]
      go_simp
      exact⟨(dW hb _ _ _ _).1, (dW hb _ _ _ _).2⟩
    case s15 =>
      refine os (λvs x g hg hb hv => ?_)
      have h11 : vs 11 = .agg #[.int .u8 bk, .int .i64 bn, .string bs, .slice ba bl.length bc] := hv
      obtain⟨c0, c1, c2, c3⟩ := fA hb
      have zt := bD hb
      simp only[zS, hg, h11]
      go_simp
      exact⟨(dW hb _ _ _ _).1, (dW hb _ _ _ _).2⟩
  case done =>
  intro vs wz hE
  have hG := hE.grow
  obtain⟨g12, a12, qE, m12, b12⟩ := hE.box 12
  obtain⟨g13, zK, uX, m13, b13⟩ := hE.box 13
  have aT := Lib.hid hG
  have HA := Lib.hid b12
  have HB := Lib.hid b13
  have bE := Lib.hid (And.intro qE uX)
  clear hE hG b12 b13 m12 m13
  simp only[fT, zS]at HA HB
  simp only[zS, Nat.reduceAdd, a12, zK]
  have lY := Lib.hid (gtr aA.out aT.out)
  have KF := Lib.hid (show w.heap.size + 2 < g12 /\ w.heap.size + 2 < g13 from by have h1 : w3.heap.size <= g12 := bE.out.1; have h2 : w3.heap.size <= g13 := bE.out.2; have := mo.out; omega)
  have zR := Lib.hid (ai HR1.out aT.out)
  have vC := Lib.hid (ai HR2.out aT.out)
  clear HK eU HR1 HR2 aA aT bE jE HL HI HW mo
  cases b with
  |true =>
    go_upto_region 3 with fail
    refine wx (λ_ _ => False) 25 [some 21, some 22, none, none] [[], [], [0], [1]] [some (.agg #[.int .u8 bk, .int .i64 bn, .string bs, .slice ba bl.length bc]), some (.agg #[.int .u8 ak, .int .i64 an, .string as', .slice aa al.length ac]), none, none] [2, 3] (sw w g12 g13 #[.int .u8 ak, .int .i64 an, .string as', .slice aa al.length ac] #[.int .u8 bk, .int .i64 bn, .string bs, .slice ba bl.length bc] #[.int .u8 bk, .int .i64 bn, .string bs, .slice ba bl.length bc] #[.int .u8 ak, .int .i64 an, .string as', .slice aa al.length ac]) ⟨⟨⟨lY.out.drew, KF.out⟩, HA.out, HB.out⟩, zR.out, vC.out⟩ ?steps ?fin (λ_ _ _ _ h => h.elim)
    case steps =>
      refine⟨?s0, ?s1, ?s2, ?s3, trivial⟩
      case s0 =>
        refine xm (λs x hM => ?_)
        obtain⟨⟨c0, c1⟩, c2, c3⟩ := aJ hM.1.2.2
        have hlb := lt_of_block hM.1.2.2
        clear hM
        simp only[zS]
        go_simp
        exact⟨rfl, rfl⟩
      case s1 =>
        refine xm (λs x hM => ?_)
        obtain⟨⟨c0, c1⟩, c2, c3⟩ := aJ hM.1.2.1
        have hlb := lt_of_block hM.1.2.1
        clear hM
        simp only[zS]
        go_simp
        exact⟨rfl, rfl⟩
      case s2 =>
        refine xw 0 (λx hM => Gives.x ?_)
        have hb : x.heap[w.heap.size + 1]? = some (.cells #[.int .u8 0, .int .i64 0, .string ⟨#[]⟩, .slice none 0 0] 40 (0, 0)) := hM.2.1
        have hs := dW hb (.int .u8 bk) (.int .i64 bn) (.string bs) (.slice ba bl.length bc)
        have HM := Lib.hid (hM.one hs.2 hs.1)
        obtain⟨⟨c0, c1⟩, c2, c3⟩ := aJ hb
        have zt := bD hb
        have hlb := lt_of_block hb
        clear hM hb hs
        simp only[zS, cv, List.getD_cons_zero, List.getD_cons_succ, Option.getD_some]
        go_simp
        exact HM.out
      case s3 =>
        refine xw 1 (λx hM => Gives.x ?_)
        have hb : x.heap[w.heap.size + 1 + 1]? = some (.cells #[.int .u8 0, .int .i64 0, .string ⟨#[]⟩, .slice none 0 0] 40 (0, 0)) := hM.2.2
        have hs := dW hb (.int .u8 ak) (.int .i64 an) (.string as') (.slice aa al.length ac)
        have HM := Lib.hid (hM.two hs.2 hs.1)
        obtain⟨⟨c0, c1⟩, c2, c3⟩ := aJ hb
        have zt := bD hb
        have hlb := lt_of_block hb
        clear hM hb hs
        simp only[zS, cv, List.getD_cons_zero, List.getD_cons_succ, Option.getD_some]
        go_simp
        exact HM.out
    case fin =>
    intro x hM
    obtain⟨⟨c0, c1⟩, c2, c3⟩ := aJ hM.2.1
    obtain⟨⟨d0, d1⟩, d2, d3⟩ := aJ hM.2.2
    have HM := Lib.hid hM.1.1.1
    clear hM
    simp only[zS, Nat.reduceAdd, cv, List.getD_cons_zero, List.getD_cons_succ, Option.getD_some]
    go_wp2_with fail
    exact bodyPost_ret (v := .tuple #[.agg #[.int .u8 bk, .int .i64 bn, .string bs, .slice ba bl.length bc], .agg #[.int .u8 ak, .int .i64 an, .string as', .slice aa al.length ac]]) (by simp[results, Tryz.results129, go_sem, c0, c1, c2, c3, d0, d1, d2, d3]) rfl ⟨_, _, vE.out, rfl, HM.out⟩
  |false =>
    go_upto_region 4 with fail
    refine wx (λ_ _ => False) 25 [some 23, some 24, none, none] [[], [], [0], [1]] [some (.agg #[.int .u8 ak, .int .i64 an, .string as', .slice aa al.length ac]), some (.agg #[.int .u8 bk, .int .i64 bn, .string bs, .slice ba bl.length bc]), none, none] [2, 3] (sw w g12 g13 #[.int .u8 ak, .int .i64 an, .string as', .slice aa al.length ac] #[.int .u8 bk, .int .i64 bn, .string bs, .slice ba bl.length bc] #[.int .u8 ak, .int .i64 an, .string as', .slice aa al.length ac] #[.int .u8 bk, .int .i64 bn, .string bs, .slice ba bl.length bc]) ⟨⟨⟨lY.out.drew, KF.out⟩, HA.out, HB.out⟩, zR.out, vC.out⟩ ?steps ?fin (λ_ _ _ _ h => h.elim)
    case steps =>
      refine⟨?s0, ?s1, ?s2, ?s3, trivial⟩
      case s0 =>
        refine xm (λs x hM => ?_)
        obtain⟨⟨c0, c1⟩, c2, c3⟩ := aJ hM.1.2.1
        have hlb := lt_of_block hM.1.2.1
        clear hM
        simp only[zS]
        go_simp
        exact⟨rfl, rfl⟩
      case s1 =>
        refine xm (λs x hM => ?_)
        obtain⟨⟨c0, c1⟩, c2, c3⟩ := aJ hM.1.2.2
        have hlb := lt_of_block hM.1.2.2
        clear hM
        simp only[zS]
        go_simp
        exact⟨rfl, rfl⟩
      case s2 =>
        refine xw 0 (λx hM => Gives.x ?_)
        have hb : x.heap[w.heap.size + 1]? = some (.cells #[.int .u8 0, .int .i64 0, .string ⟨#[]⟩, .slice none 0 0] 40 (0, 0)) := hM.2.1
        have hs := dW hb (.int .u8 ak) (.int .i64 an) (.string as') (.slice aa al.length ac)
        have HM := Lib.hid (hM.one hs.2 hs.1)
        obtain⟨⟨c0, c1⟩, c2, c3⟩ := aJ hb
        have zt := bD hb
        have hlb := lt_of_block hb
        clear hM hb hs
        simp only[zS, cv, List.getD_cons_zero, List.getD_cons_succ, Option.getD_some]
        go_simp
        exact HM.out
      case s3 =>
        refine xw 1 (λx hM => Gives.x ?_)
        have hb : x.heap[w.heap.size + 1 + 1]? = some (.cells #[.int .u8 0, .int .i64 0, .string ⟨#[]⟩, .slice none 0 0] 40 (0, 0)) := hM.2.2
        have hs := dW hb (.int .u8 bk) (.int .i64 bn) (.string bs) (.slice ba bl.length bc)
        have HM := Lib.hid (hM.two hs.2 hs.1)
        obtain⟨⟨c0, c1⟩, c2, c3⟩ := aJ hb
        have zt := bD hb
        have hlb := lt_of_block hb
        clear hM hb hs
        simp only[zS, cv, List.getD_cons_zero, List.getD_cons_succ, Option.getD_some]
        go_simp
        exact HM.out
    case fin =>
    intro x hM
    obtain⟨⟨c0, c1⟩, c2, c3⟩ := aJ hM.2.1
    obtain⟨⟨d0, d1⟩, d2, d3⟩ := aJ hM.2.2
    have HM := Lib.hid hM.1.1.1
    clear hM
    simp only[zS, Nat.reduceAdd, cv, List.getD_cons_zero, List.getD_cons_succ, Option.getD_some]
    go_wp2_with fail
    exact bodyPost_ret (v := .tuple #[.agg #[.int .u8 ak, .int .i64 an, .string as', .slice aa al.length ac], .agg #[.int .u8 bk, .int .i64 bn, .string bs, .slice ba bl.length bc]]) (by simp[results, Tryz.results129, go_sem, c0, c1, c2, c3, d0, d1, d2, d3]) rfl ⟨_, _, vE.out, rfl, HM.out⟩
def EB (s : ah) (ns : ByteArray) (nl : List ae) (u v : au × Nat) (c : List Int) (val : Int) : Prop :=
  ∃ kn ks kv kl, nl = [.mk 2 kn ks kv kl] /\ fo (ae.t (.mk 2 kn ks kv kl)) = true /\ bf s.cur.vars ns = some u /\ bf s.cur.vars ks = some v /\ s.cells[u.2]? = some c /\ s.cells[v.2]? = some [val] /\ u.2 ≠ v.2
theorem IU {base : Nat} {w : World} {v : Value} {a : Int} {e : TypeId} (h : w.ownsRow base e 1 v [a].length (flat aB [a])) : ∃ g cap, v = .slice (some ⟨g, 0, none⟩) 1 cap := by
  rcases h.2 with⟨_, h0⟩|⟨g, cap, cur, e1, _⟩
  · simp at h0
  · exact⟨g, cap, e1⟩
theorem Jk {w : World} {k nn : Int} {ns : ByteArray} {nv : Value} {kk kn : Int} {ks : ByteArray} {kv : Value} {kl : List ae} (hn : bJ w (.mk k nn ns nv [.mk kk kn ks kv kl])) : ∃ kb ko nc, nv = .slice (some ⟨kb, ko, none⟩) 1 nc /\ bJ w (.mk kk kn ks kv kl) /\ (∃ ka kc, kv = .slice ka kl.length kc) /\
    w.cell? ⟨kb, ko, none⟩ = some (.int .u8 kk) /\ w.cell? ⟨kb, ko + 1, none⟩ = some (.int .i64 kn) /\ w.cell? ⟨kb, ko + 2, none⟩ = some (.string ks) /\ w.cell? ⟨kb, ko + 3, none⟩ = some kv := by
  obtain⟨-, -, -, hr, hk⟩ := hn.row
  have eY := hk _ (List.mem_singleton.2 rfl)
  obtain⟨ka, kc, dR, -, -⟩ := eY.form
  obtain⟨b, o, nc, e, _, hc⟩ := hr.at (i := 0) (by simp)
  have c0 := hc 0 _ rfl
  have c1 := hc 1 _ rfl
  have c2 := hc 2 _ rfl
  have c3 := hc 3 _ rfl
  simp only[Nat.zero_mul, Nat.add_zero]at c0 c1 c2 c3
  exact⟨b, o, nc, e, eY, ⟨ka, kc, dR⟩, c0, c1, c2, c3⟩
theorem dU.int {w0 : World} {p : az} {fuel k : Nat} {x : aK} {w w' : World} {res : Except Int ah} {e : Ending} (h : dU w0 p fuel k x w res e w') : ∃ n, e = .returned (.int .i64 n) := by
  unfold dU at h
  split at h
  · exact⟨_, h.1⟩
  · exact⟨_, h.1.1⟩
set_option maxRecDepth 100000 in
set_option maxHeartbeats 6400000 in
theorem Px (w0 : World) (p : az) (fuel k : Nat) (w : World) (x : aK) (s : ah) (nn : Int) (ns : ByteArray) (nv : Value) (nl : List ae) (u v : au × Nat) (c : List Int) (val : Int) (h : aG w0 p fuel k w x s) (hf : ∀ b, w.heap.size <= b -> x.ρ b = .other) (hn : bJ w (.mk 44 nn ns nv nl)) (hp : EB s ns nl u v c val) :
    Calls Tryz.prog 141 #[.pointer (some ⟨x.S, 0, none⟩), ae.val (.mk 44 nn ns nv nl)] w (dU w0 p fuel k x w (qf s u.2 v.2 c val)) := by
  obtain⟨kn, ks, kv, kl, rfl, hpl, zY, hlv, qL, hcv, huv⟩ := hp
  obtain⟨kb, ko, nc, vJ, hnk, ⟨ka, kc, rfl⟩, d0, d1, d2, d3⟩ := Jk hn
  subst vJ
  have cV := h.cell v.2 (List.getElem?_eq_some_iff.1 hcv).1
  rw[(List.getElem?_eq_some_iff.1 hcv).2]at cV
  obtain⟨g, cap, hgv⟩ := IU cV.row
  have kW := Lib.hid (λz (hz : Grow w z) => ai cV.blk hz)
  rw[hgv]at kW
  have FU := Lib.hid zY
  have HS := Lib.hid h
  have iT := Lib.hid (λz (hz : Grow w z) => Q3 w0 p fuel k z x s u.2 v.2 g cap c val (h.later hz) (λb hb => hf b (Nat.le_trans hz.size hb)) qL hcv huv hgv)
  have zZ := Lib.hid (λz (hz : Grow w z) => AR w0 p fuel k z x s ks v (h.later hz) hlv)
  have sS := Lib.hid (λz (hz : Grow w z) => G5 149 x.S kn ks (.slice ka kl.length kc) kl z (hnk.later hz) hpl)
  have aj := Lib.hid (show Grow w (w.alloc (.cells #[.int .u8 44, .int .i64 nn, .string ns, .slice (some ⟨kb, ko, none⟩) 1 nc] 40))from(Mv.refl _ w).alloc _)
  have aY := Lib.hid (heap_alloc_new w (.cells #[.int .u8 44, .int .i64 nn, .string ns, .slice (some ⟨kb, ko, none⟩) 1 nc] 40))
  have HD := Lib.hid (λz (hz : Grow w z) => And.intro (And.intro (bW d0 hz) (bW d1 hz)) (And.intro (bW d2 hz) (bW d3 hz)))
  have hkl := World.block_lt_of_cell? w _ d0
  have vL := Lib.hid (λz (hz : Grow w z) => show kb < z.heap.size from Nat.lt_of_lt_of_le hkl hz.size)
  clear h hf hn hpl zY hlv qL hcv cV hgv d0 d1 d2 d3 hnk hkl
  obtain⟨⟨d0, d1⟩, d2, d3⟩ := HD.out _ aj.out
  have hkl := vL.out _ aj.out
  have uJ := Lib.hid (sS.out _ aj.out)
  simp only[ae.val, sW, List.length_cons, List.length_nil, Nat.zero_add]at uJ ⊢
  go_enter Tryz.func141, Tryz.ntmps141
  go_wp2_with fail
  generalize (w.alloc (.cells #[.int .u8 44, .int .i64 nn, .string ns, .slice (some ⟨kb, ko, none⟩) 1 nc] 40)) = w1 at *
  refine uJ.out.mono ?_
  rintro e w2 ⟨rfl, hg⟩
  have HG2 := Lib.hid (gtr aj.out hg)
  have bL := Lib.hid (ai aY.out hg)
  clear hg uJ aY aj d0 d1 d2 d3 hkl
  obtain⟨⟨d0, d1⟩, d2, d3⟩ := HD.out _ HG2.out
  have hkl := vL.out _ HG2.out
  obtain⟨⟨n0, n1⟩, n2, n3⟩ := aJ bL.out
  have hnl := lt_of_block bL.out
  go_wp2_with fail
  refine(zZ.out _ HG2.out).mono ?_
  rintro e w3 ⟨rfl, m, rfl⟩
  have aA := Lib.hid (pQ HG2.out m)
  have eU := Lib.hid (ai bL.out (pQ (Mv.refl _ w2) m))
  clear HG2 bL d0 d1 d2 d3 n0 n1 n2 n3 hnl hkl sS zZ HD vL
  generalize w2.drewN m = w3 at *
  have Aa := Lib.hid (kW.out _ aA.out)
  have WH := cell1 Aa.out
  have hcl := lt_of_block Aa.out
  obtain⟨⟨n0, n1⟩, n2, n3⟩ := aJ eU.out
  have hnl := lt_of_block eU.out
  go_upto_region 34 with fail
  have HK := Lib.hid (λ(y : World) (hy : Grow w3 y) => And.intro (ai eU.out hy) (HS.out.later (gtr aA.out hy)))
  refine jm 7 148 [some 135, some 136, some 137, some 138, some 139, some 140, some 141] [[], [0], [], [], [], [4], [3, 5]] [] [.c (.pointer (some ⟨w.heap.size, 0, none⟩)), .c (.int .u8 44), .c (.pointer (some ⟨g, 0, none⟩)), .c (.pointer (some ⟨x.S, 0, none⟩)), .c (.pointer (some ⟨w.heap.size, 2, none⟩)), .c (.string ns), .c (.pointer (some ⟨x.aH u.2, 0, none⟩))] trivial (dJ rfl) ?steps ?done
  case steps =>
    refine⟨?s0, ?s1, ?s2, ?s3, ?s4, ?s5, ?s6, trivial⟩
    case s0 =>
      refine oo (λvs x hP => ?_)
      simp only[zS]
      go_simp
      exact gc
    case s1 =>
      refine ok HK (λvs x1 hG HX hP => ?_)
      obtain⟨⟨n0, n1⟩, n2, n3⟩ := aJ HX.out.1
      simp only[zS]
      go_simp
      exact gc
    case s2 =>
      refine oo (λvs x hP => ?_)
      simp only[zS]
      go_simp
      exact gc
    case s3 =>
      refine oo (λvs x hP => ?_)
      simp only[zS]
      go_simp
      exact gc
    case s4 =>
      refine oo (λvs x hP => ?_)
      simp only[zS]
      go_simp
      exact gc
    case s5 =>
      refine ok HK (λvs x1 hG HX hP => ?_)
      obtain⟨⟨n0, n1⟩, n2, n3⟩ := aJ HX.out.1
      simp only[zS]
      go_simp
      exact gc
    case s6 =>
      refine ok HK (λvs x1 hG HX hP => ?_)
      have HC := Lib.hid (AR w0 p fuel k x1 x s ns u HX.out.2 FU.out)
      simp only[zS]
      go_simp
      refine(HC.out).mono ?_
      rintro e y ⟨rfl, m9, rfl⟩
      exact⟨_, rfl, gm (pQ (Mv.refl _ _) m9) rfl⟩
  case done =>
  intro vs wx hE
  have hG := hE.grow
  have aT := Lib.hid (gtr aA.out hG)
  clear hE hG
  simp only[zS, Nat.reduceAdd, List.drop_succ_cons, List.drop_zero]
  go_wp2_with fail
  refine(iT.out _ aT.out).mono ?_
  intro e w4 hq
  obtain⟨n, rfl⟩ := hq.int
  have HQ := Lib.hid (dU.trans (ax.grow aT.out) hq)
  clear hq
  go_wp2_with fail
  go_ret
  exact HQ.out
set_option maxRecDepth 100000 in
set_option maxHeartbeats 6400000 in
theorem PS (w0 : World) (p : az) (fuel k : Nat) (w : World) (x : aK) (s : ah) (nn : Int) (ns : ByteArray) (nv : Value) (nl : List ae) (u v : au × Nat) (c : List Int) (val : Int) (h : aG w0 p fuel k w x s) (hf : ∀ b, w.heap.size <= b -> x.ρ b = .other) (hn : bJ w (.mk 45 nn ns nv nl)) (hp : EB s ns nl u v c val) :
    Calls Tryz.prog 141 #[.pointer (some ⟨x.S, 0, none⟩), ae.val (.mk 45 nn ns nv nl)] w (dU w0 p fuel k x w (nC s u.2 v.2 c val)) := by
  obtain⟨kn, ks, kv, kl, rfl, hpl, zY, hlv, qL, hcv, huv⟩ := hp
  obtain⟨kb, ko, nc, vJ, hnk, ⟨ka, kc, rfl⟩, d0, d1, d2, d3⟩ := Jk hn
  subst vJ
  have cV := h.cell v.2 (List.getElem?_eq_some_iff.1 hcv).1
  rw[(List.getElem?_eq_some_iff.1 hcv).2]at cV
  obtain⟨g, cap, hgv⟩ := IU cV.row
  have kW := Lib.hid (λz (hz : Grow w z) => ai cV.blk hz)
  rw[hgv]at kW
  have FU := Lib.hid zY
  have HS := Lib.hid h
  have iT := Lib.hid (λz (hz : Grow w z) => RL w0 p fuel k z x s u.2 v.2 g cap c val (h.later hz) (λb hb => hf b (Nat.le_trans hz.size hb)) qL hcv huv hgv)
  have zZ := Lib.hid (λz (hz : Grow w z) => AR w0 p fuel k z x s ks v (h.later hz) hlv)
  have sS := Lib.hid (λz (hz : Grow w z) => G5 149 x.S kn ks (.slice ka kl.length kc) kl z (hnk.later hz) hpl)
  have aj := Lib.hid (show Grow w (w.alloc (.cells #[.int .u8 45, .int .i64 nn, .string ns, .slice (some ⟨kb, ko, none⟩) 1 nc] 40))from(Mv.refl _ w).alloc _)
  have aY := Lib.hid (heap_alloc_new w (.cells #[.int .u8 45, .int .i64 nn, .string ns, .slice (some ⟨kb, ko, none⟩) 1 nc] 40))
  have HD := Lib.hid (λz (hz : Grow w z) => And.intro (And.intro (bW d0 hz) (bW d1 hz)) (And.intro (bW d2 hz) (bW d3 hz)))
  have hkl := World.block_lt_of_cell? w _ d0
  have vL := Lib.hid (λz (hz : Grow w z) => show kb < z.heap.size from Nat.lt_of_lt_of_le hkl hz.size)
  clear h hf hn hpl zY hlv qL hcv cV hgv d0 d1 d2 d3 hnk hkl
  obtain⟨⟨d0, d1⟩, d2, d3⟩ := HD.out _ aj.out
  have hkl := vL.out _ aj.out
  have uJ := Lib.hid (sS.out _ aj.out)
  simp only[ae.val, sW, List.length_cons, List.length_nil, Nat.zero_add]at uJ ⊢
  go_enter Tryz.func141, Tryz.ntmps141
  go_wp2_with fail
  generalize (w.alloc (.cells #[.int .u8 45, .int .i64 nn, .string ns, .slice (some ⟨kb, ko, none⟩) 1 nc] 40)) = w1 at *
  refine uJ.out.mono ?_
  rintro e w2 ⟨rfl, hg⟩
  have HG2 := Lib.hid (gtr aj.out hg)
  have bL := Lib.hid (ai aY.out hg)
  clear hg uJ aY aj d0 d1 d2 d3 hkl
  obtain⟨⟨d0, d1⟩, d2, d3⟩ := HD.out _ HG2.out
  have hkl := vL.out _ HG2.out
  obtain⟨⟨n0, n1⟩, n2, n3⟩ := aJ bL.out
  have hnl := lt_of_block bL.out
  go_wp2_with fail
  refine(zZ.out _ HG2.out).mono ?_
  rintro e w3 ⟨rfl, m, rfl⟩
  have aA := Lib.hid (pQ HG2.out m)
  have eU := Lib.hid (ai bL.out (pQ (Mv.refl _ w2) m))
  clear HG2 bL d0 d1 d2 d3 n0 n1 n2 n3 hnl hkl sS zZ HD vL
  generalize w2.drewN m = w3 at *
  have Aa := Lib.hid (kW.out _ aA.out)
  have WH := cell1 Aa.out
  have hcl := lt_of_block Aa.out
  obtain⟨⟨n0, n1⟩, n2, n3⟩ := aJ eU.out
  have hnl := lt_of_block eU.out
  go_upto_region 34 with fail
  have HK := Lib.hid (λ(y : World) (hy : Grow w3 y) => And.intro (ai eU.out hy) (HS.out.later (gtr aA.out hy)))
  refine jm 7 148 [some 135, some 136, some 137, some 138, some 139, some 140, some 141] [[], [0], [], [], [], [4], [3, 5]] [] [.c (.pointer (some ⟨w.heap.size, 0, none⟩)), .c (.int .u8 45), .c (.pointer (some ⟨g, 0, none⟩)), .c (.pointer (some ⟨x.S, 0, none⟩)), .c (.pointer (some ⟨w.heap.size, 2, none⟩)), .c (.string ns), .c (.pointer (some ⟨x.aH u.2, 0, none⟩))] trivial (dJ rfl) ?steps ?done
  case steps =>
    refine⟨?s0, ?s1, ?s2, ?s3, ?s4, ?s5, ?s6, trivial⟩
    case s0 =>
      refine oo (λvs x hP => ?_)
      simp only[zS]
      go_simp
      exact gc
    case s1 =>
      refine ok HK (λvs x1 hG HX hP => ?_)
      obtain⟨⟨n0, n1⟩, n2, n3⟩ := aJ HX.out.1
      simp only[zS]
      go_simp
      exact gc
    case s2 =>
      refine oo (λvs x hP => ?_)
      simp only[zS]
      go_simp
      exact gc
    case s3 =>
      refine oo (λvs x hP => ?_)
      simp only[zS]
      go_simp
      exact gc
    case s4 =>
      refine oo (λvs x hP => ?_)
      simp only[zS]
      go_simp
      exact gc
    case s5 =>
      refine ok HK (λvs x1 hG HX hP => ?_)
      obtain⟨⟨n0, n1⟩, n2, n3⟩ := aJ HX.out.1
      simp only[zS]
      go_simp
      exact gc
    case s6 =>
      refine ok HK (λvs x1 hG HX hP => ?_)
      have HC := Lib.hid (AR w0 p fuel k x1 x s ns u HX.out.2 FU.out)
      simp only[zS]
      go_simp
      refine(HC.out).mono ?_
      rintro e y ⟨rfl, m9, rfl⟩
      exact⟨_, rfl, gm (pQ (Mv.refl _ _) m9) rfl⟩
  case done =>
  intro vs wx hE
  have hG := hE.grow
  have aT := Lib.hid (gtr aA.out hG)
  clear hE hG
  simp only[zS, Nat.reduceAdd, List.drop_succ_cons, List.drop_zero]
  go_wp2_with fail
  refine(iT.out _ aT.out).mono ?_
  intro e w4 hq
  obtain⟨n, rfl⟩ := hq.int
  have HQ := Lib.hid (dU.trans (ax.grow aT.out) hq)
  clear hq
  go_wp2_with fail
  go_ret
  exact HQ.out
end Go.Proofs.YtbpodipdfohikaaGreat
