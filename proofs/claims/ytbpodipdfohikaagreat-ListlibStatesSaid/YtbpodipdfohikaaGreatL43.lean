import Derived.Test.YtbpodipdfohikaaGreatL42
set_option linter.unusedSimpArgs false
set_option linter.unusedVariables false
set_option maxRecDepth 100000
set_option maxHeartbeats 25600000
namespace Go.Proofs.YtbpodipdfohikaaGreat
open Go.RowKit Go.Instr
attribute [local go_sem ↓] fB
def qU (A G : List Int) : List Int := if A.length + G.length <= 1000 then A else[]
def lg (A G : List Int) : List Int := if A.length + G.length <= 1000 then G ++ A else[]
def kr (A G : List Int) : Int := if A.length + G.length <= 1000 then 0 else 5
def pM (A G : List Int) : List Int := if A.length + G.length + 1 <= 1000 then G ++ A.reverse ++ [(A.length : Int)]else[]
def tK (A G : List Int) : Int := if A.length + G.length + 1 <= 1000 then 0 else 5
abbrev qw (base : Nat) (w : World) (v : Value) (l : List Int) : Prop := w.ownsRow base 3 1 v l.length (flat aB l)
def BO (w : World) (x y : List Int) (n : Int) (e : Ending) (w' : World) : Prop := ∃ a c b d, e = .returned (.tuple #[.slice a x.length c, .slice b y.length d, .int .i64 n]) /\ qw w.heap.size w' (.slice a x.length c) x /\ qw w.heap.size w' (.slice b y.length d) y /\ Grow w w'
def Em (w : World) (y : List Int) (n : Int) (e : Ending) (w' : World) : Prop := ∃ b d, e = .returned (.tuple #[.slice b y.length d, .int .i64 n]) /\ ay 1 aB w' (.slice b y.length d) y /\ Grow w w'
theorem JA {w : World} {va vb : Option Addr} {ca cb : Nat} {A G : List Int} (ha : ay 1 aB w (.slice va A.length ca) A) (hb : ay 1 aB w (.slice vb G.length cb) G) : Vs (w.alloc (.cells #[.slice va A.length ca, .slice vb G.length cb] 22)) (.slice (some ⟨w.heap.size, 0, none⟩) 2 2) [A, G] := by
  have hg : Grow w (w.alloc (.cells #[.slice va A.length ca, .slice vb G.length cb] 22)) := (Mv.refl _ _).alloc _
  refine⟨[.slice va A.length ca, .slice vb G.length cb], rfl, ay.dG (f := nD) (l := [.slice va A.length ca, .slice vb G.length cb]) yG (heap_alloc_new w _) (by rfl) (Nat.le_of_ble_eq_true rfl), λi h1 h2 => ?_⟩
  have h3 : i = 0 \/ i = 1 := by simp at h1; omega
  rcases h3 with rfl|rfl
  · exact ha.later hg
  · exact hb.later hg
set_option maxRecDepth 100000 in
set_option maxHeartbeats 6400000 in
theorem Rq (va : Option Addr) (ca : Nat) (vb : Option Addr) (cb : Nat) (A G : List Int) (w : World) (ha : ay 1 aB w (.slice va A.length ca) A) (hb : ay 1 aB w (.slice vb G.length cb) G) (hl : A.length <= 1000) (hl2 : G.length <= 1000) :
    Calls Tryz.prog 16 #[.slice va A.length ca, .slice vb G.length cb] w (Em w (lg A G) (kr A G)) := by
  by_cases hle : A.length + G.length <= 1000
  · have HY := Lib.hid (show lg A G = G ++ A from if_pos hle)
    have HN := Lib.hid (show kr A G = 0 from if_pos hle)
    obtain⟨a1, c1, w1, ⟨hok, jZ, haw⟩, hr1, hg1⟩ := yC Tryz.kG (f := aB) cO (.slice vb G.length cb) G w.heap.size (w.alloc (.cells #[] 3)) (heap_alloc_new w _) (hb.later ((Mv.refl _ _).alloc _)) (λy hy u hu => by simp[aB]at hu; subst hu; rfl) (by omega)
    have hgw : Grow w w1 := gtr ((Mv.refl (λ_ => False) w).alloc (.cells #[] 3)) hg1
    obtain⟨a2, c2, w2, ⟨hok2, KR, KS⟩, hr2, hm2, -⟩ := jv Tryz.kG (f := aB) cO (.slice a1 G.length c1) (.slice va A.length ca) G A w.heap.size w1 hr1 (ha.later hgw) (λy hy u hu => by simp[aB]at hu; subst hu; rfl) hgw.size (by omega)
    have HQ := Lib.hid (show Em w (G ++ A) 0 (.returned (.tuple #[.slice a2 (G.length + A.length) c2, .int .i64 0])) w2 from⟨a2, c2, by simp, by have := bX cO hr2; simpa using this, bN hgw hm2 (λb e => (bH hr1 b e).1)⟩)
    have hd : decide ((1000 : Int) < (A.length : Int) + G.length) = false := by simp; omega
    clear ha hb hr1 hg1 hr2 hm2 hgw hle
    generalize lg A G = Y at *
    generalize kr A G = N at *
    go_enter Tryz.func16, Tryz.ntmps16
    go_wp2_with fail
    go_ret2
    rw[HY.out, HN.out]
    exact HQ.out
  · have HY := Lib.hid (show lg A G = []from if_neg hle)
    have HN := Lib.hid (show kr A G = 5 from if_neg hle)
    have hd : decide ((1000 : Int) < (A.length : Int) + G.length) = true := by simp; omega
    clear ha hb hle
    generalize lg A G = Y at *
    generalize kr A G = N at *
    go_enter Tryz.func16, Tryz.ntmps16
    go_wp2_with fail
    go_ret2
    rw[HY.out, HN.out]
    exact⟨_, _, rfl, ay.nil _ _ _, Mv.refl _ _⟩
theorem P8 (va : Option Addr) (ca : Nat) (vb : Option Addr) (cb : Nat) (A G : List Int) (w : World) (ha : ay 1 aB w (.slice va A.length ca) A) (hb : ay 1 aB w (.slice vb G.length cb) G) (hl : A.length <= 1000) (hl2 : G.length <= 1000) :
    Calls Tryz.prog 11 #[.slice va A.length ca, .slice vb G.length cb] w (Em w (pM A G) (tK A G)) := by
  refine(G8 va ca vb cb A G w ha hb hl hl2).mono λe w' h => ?_
  unfold uA at h
  unfold pM tK
  by_cases hle : A.length + G.length + 1 <= 1000
  · rw[if_pos hle]at h
    rw[if_pos hle, if_pos hle]
    obtain⟨a, c, h1, h2, h3⟩ := h
    exact⟨a, c, h1, h2, h3⟩
  · rw[if_neg hle]at h
    rw[if_neg hle, if_neg hle]
    exact⟨none, 0, h.1, ay.nil _ _ _, h.2⟩
set_option maxRecDepth 100000 in
set_option maxHeartbeats 6400000 in
theorem Pm (va : Option Addr) (ca : Nat) (vb : Option Addr) (cb : Nat) (A G : List Int) (w : World) (ha : ay 1 aB w (.slice va A.length ca) A) (hb : ay 1 aB w (.slice vb G.length cb) G) (hl : A.length <= 1000) (hl2 : G.length <= 1000) :
    Calls Tryz.prog 14 #[.slice va A.length ca, .slice vb G.length cb] w (BO w (qU A G) (lg A G) (kr A G)) := by
  by_cases hle : A.length + G.length <= 1000
  · have HX := Lib.hid (show qU A G = A from if_pos hle)
    have HY := Lib.hid (show lg A G = G ++ A from if_pos hle)
    have HN := Lib.hid (show kr A G = 0 from if_pos hle)
    have hd : decide ((1000 : Int) < (A.length : Int) + G.length) = false := by simp; omega
    have iy := Lib.hid (yx _ A w ha (by omega))
    have Gh := Lib.hid (λy (hy : Grow w y) => G9 _ [G, A] _ (JA (hb.later hy) (ha.later hy)) (Nat.le_of_ble_eq_true rfl) (by simp; omega))
    have Ao : Hid ([G, A].flatten = G ++ A) := Lib.hid (by simp)
    rw[Ao.out]at Gh
    clear ha hb hle
    generalize qU A G = X at *
    generalize lg A G = Y at *
    generalize kr A G = N at *
    go_enter Tryz.func14, Tryz.ntmps14
    go_wp2_with fail
    refine iy.out.mono ?_
    rintro e w2 ⟨v, rfl, hrow, hg⟩
    obtain⟨xa, xc, rfl⟩ := dL hrow
    have HG := Lib.hid hg
    have HR := Lib.hid hrow
    have HC := Lib.hid (Gh.out w2 hg)
    clear hg hrow iy Gh
    go_wp2_with fail
    refine HC.out.mono ?_
    rintro e w3 ⟨ya, yc, rfl, hrow, hg⟩
    have hgw : Grow w2 w3 := gtr ((Mv.refl (λ_ => False) w2).alloc _) hg
    have HQ := Lib.hid (show BO w A (G ++ A) 0 (.returned (.tuple #[.slice xa A.length xc, .slice ya (G ++ A).length yc, .int .i64 0])) w3 from⟨_, _, _, _, rfl, aZ HR.out hgw (λ_ _ e => e), iZ hrow (gtr HG.out ((Mv.refl _ _).alloc _)).size, gtr HG.out hgw⟩)
    clear hg hrow hgw HC
    generalize (G ++ A).length = n at *
    go_wp2_with fail
    go_ret3
    rw[HX.out, HY.out, HN.out]
    exact HQ.out
  · have HX := Lib.hid (show qU A G = []from if_neg hle)
    have HY := Lib.hid (show lg A G = []from if_neg hle)
    have HN := Lib.hid (show kr A G = 5 from if_neg hle)
    have hd : decide ((1000 : Int) < (A.length : Int) + G.length) = true := by simp; omega
    clear ha hb hle
    generalize qU A G = X at *
    generalize lg A G = Y at *
    generalize kr A G = N at *
    go_enter Tryz.func14, Tryz.ntmps14
    go_wp2_with fail
    go_ret3
    rw[HX.out, HY.out, HN.out]
    exact⟨_, _, _, _, rfl, World.ownsRow_nil _ _ _ _, World.ownsRow_nil _ _ _ _, Mv.refl _ _⟩
set_option maxRecDepth 100000 in
set_option maxHeartbeats 6400000 in
theorem Pb (va : Option Addr) (ca : Nat) (vb : Option Addr) (cb : Nat) (A G : List Int) (w : World) (ha : ay 1 aB w (.slice va A.length ca) A) (hb : ay 1 aB w (.slice vb G.length cb) G) (hl : A.length <= 1000) (hl2 : G.length <= 1000) :
    Calls Tryz.prog 15 #[.slice va A.length ca, .slice vb G.length cb] w (BO w [] (pM A G) (tK A G)) := by
  by_cases hle : A.length + G.length + 1 <= 1000
  · have HY := Lib.hid (show pM A G = G ++ A.reverse ++ [(A.length : Int)]from if_pos hle)
    have HN := Lib.hid (show tK A G = 0 from if_pos hle)
    have hd : decide ((1000 : Int) < (G.length : Int) + A.length + 1) = false := by simp; omega
    have iy := Lib.hid (yx _ A w ha (by omega))
    have HB := Lib.hid hb
    have Ao : Hid ([G, A.reverse].flatten = G ++ A.reverse) := Lib.hid (by simp)
    have xN := Lib.hid (show(G ++ A.reverse).length <= 1000 from by simp; omega)
    clear ha hb hle
    generalize pM A G = Y at *
    generalize tK A G = N at *
    go_enter Tryz.func15, Tryz.ntmps15
    go_wp2_with fail
    refine iy.out.mono ?_
    rintro e w2 ⟨v, rfl, hrow, hg⟩
    obtain⟨xa, xc, rfl⟩ := dL hrow
    have HG := Lib.hid hg
    have OJ := Lib.hid (P7 w.heap.size xa xc A w2 hrow (by omega))
    have KT := Lib.hid (λb e => (bH hrow b e).1)
    clear hg hrow iy
    go_wp2_with fail
    refine OJ.out.mono ?_
    rintro e w3 ⟨rfl, hrr, hm⟩
    have aA := Lib.hid (bN HG.out hm KT.out)
    have hlr : A.length = A.reverse.length := by simp
    have uT := Lib.hid (G9 _ [G, A.reverse] _ (JA (HB.out.later aA.out) (show ay 1 aB w3 (.slice xa A.reverse.length xc) A.reverse from by rw[← hlr]; exact hrr)) (Nat.le_of_ble_eq_true rfl) (by rw[Ao.out]; have := xN.out; omega))
    rw[Ao.out, ← hlr]at uT
    clear hrr hm OJ KT hlr HG
    go_wp2_with fail
    refine uT.out.mono ?_
    rintro e w4 ⟨ya, yc, rfl, hrow, hg⟩
    have hgw : Grow w w4 := gtr aA.out (gtr ((Mv.refl (λ_ => False) w3).alloc _) hg)
    have hrow2 := iZ hrow (gtr aA.out ((Mv.refl _ _).alloc _)).size
    have hgx : Grow w4 (w4.alloc (.cells #[.int .i64 (A.length : Nat)] 3)) := (Mv.refl _ _).alloc _
    obtain⟨a', c', w5, ⟨hok, jZ, haw⟩, hr2, hm2, -⟩ := jv Tryz.kG (f := aB) cO (.slice ya (G ++ A.reverse).length yc) (.slice (some ⟨w4.heap.size, 0, none⟩) 1 1) (G ++ A.reverse) [(A.length : Int)] w.heap.size (w4.alloc (.cells #[.int .i64 (A.length : Nat)] 3)) (aZ hrow2 hgx (λ_ _ e => e)) (ay.dG (f := aB) (l := [(A.length : Int)]) cO (heap_alloc_new w4 _) (by simp[flat, aB]) (Nat.le_of_ble_eq_true rfl)) (λy hy u hu => by simp[aB]at hu; subst hu; rfl) (gtr hgw hgx).size (by have := xN.out; simp at this ⊢; omega)
    have HQ := Lib.hid (show BO w [] (G ++ A.reverse ++ [(A.length : Int)]) 0 (.returned (.tuple #[.slice none 0 0, .slice a' ((G ++ A.reverse).length + 1) c', .int .i64 0])) w5 from by
      have e : (G ++ A.reverse ++ [(A.length : Int)]).length = (G ++ A.reverse).length + 1 := by rw[List.length_append]; rfl
      refine⟨none, 0, a', c', by rw[e]; rfl, World.ownsRow_nil _ _ _ _, ?_, bN (gtr hgw hgx) hm2 (λb e => (bH hrow2 b e).1)⟩
      show World.ownsRow _ _ _ _ (.slice a' (G ++ A.reverse ++ [(A.length : Int)]).length c') _ _
      rw[e]at hr2 ⊢
      exact hr2)
    have hnn : (G ++ A.reverse).length <= 1000 := xN.out
    clear hg hrow hrow2 hgw hgx hr2 hm2 uT xN Ao
    simp only[List.length_cons, List.length_nil, Nat.zero_add]at hok jZ haw
    generalize (G ++ A.reverse).length = n at *
    go_wp2_with fail
    go_ret3
    rw[HY.out, HN.out]
    exact HQ.out
  · have HY := Lib.hid (show pM A G = []from if_neg hle)
    have HN := Lib.hid (show tK A G = 5 from if_neg hle)
    have hd : decide ((1000 : Int) < (G.length : Int) + A.length + 1) = true := by simp; omega
    clear ha hb hle
    generalize pM A G = Y at *
    generalize tK A G = N at *
    go_enter Tryz.func15, Tryz.ntmps15
    go_wp2_with fail
    go_ret3
    rw[HY.out, HN.out]
    exact⟨_, _, _, _, rfl, World.ownsRow_nil _ _ _ _, World.ownsRow_nil _ _ _ _, Mv.refl _ _⟩
attribute [local go_sem ↓] fB
theorem Ir {base : Nat} {w : World} {a : Option Addr} {c n k : Nat} {l : List Int} (h : qw base w (.slice a n c) l) (hn : l.length = n) (hk : k < n) : ∃ g, a = some ⟨g, 0, none⟩ /\ (w.cell? ⟨g, k, none⟩ = some (.int .i64 (l[k]'(by omega))) /\ g < w.heap.size /\ base <= g /\ ∀ j, w.frozen? ⟨g, j, none⟩ = false) /\
    ∀ v : Int, qw base (w.setCell ⟨g, k, none⟩ (.int .i64 v)) (.slice (some ⟨g, 0, none⟩) n c) (l.set k v) := by
  subst hn
  obtain⟨g, cap, cs, e, hb, hg⟩ := DY h (by omega)
  simp only[Value.slice.injEq, true_and]at e
  obtain⟨rfl, rfl⟩ := e
  obtain⟨b, o, e, hc, hl⟩ := yI (bX cO h) hk
  cases e
  refine⟨g, rfl, ⟨by simpa using hc, hl, hb, λj => bD hg j⟩, λv => ?_⟩
  have := IV h hg v k (block_setCell (p := ⟨g, k, none⟩) hg rfl (.int .i64 v))
  show World.ownsRow _ _ _ _ _ (l.set k v).length _
  exact this
set_option maxRecDepth 100000 in
set_option maxHeartbeats 12800000 in
theorem QG (va : Option Addr) (ca : Nat) (vb : Option Addr) (cb : Nat) (A G : List Int) (w : World) (ha : ay 1 aB w (.slice va A.length ca) A) (hb : ay 1 aB w (.slice vb G.length cb) G) :
    Calls Tryz.prog 6 #[.slice va A.length ca, .slice vb G.length cb] w (fq w true) := by
  have bR := Lib.hid (λy => Iq va ca vb cb A.length G.length y ha.Br hb.Br)
  by_cases hgt : 1000 < A.length \/ 1000 < G.length
  · have hd : (decide (1000 < A.length) || decide (1000 < G.length)) = true := by simpa using hgt
    rw[hd]at bR
    clear ha hb hgt hd
    go_enter Tryz.func6, Tryz.ntmps6
    go_wp2_with fail
    refine(yB w).mono ?_
    rintro e w1 ⟨rfl, hg⟩
    have HG := Lib.hid hg
    clear hg
    go_wp2_with fail
    refine(bR.out w1).mono ?_
    rintro e w2 ⟨rfl, rfl⟩
    go_wp2_with fail
    go_ret
    exact⟨rfl, HG.out⟩
  have hd : (decide (1000 < A.length) || decide (1000 < G.length)) = false := by simp; omega
  have hA : A.length <= 1000 := by omega
  have hG : G.length <= 1000 := by omega
  rw[hd]at bR
  have OL := Lib.hid ha
  have jU := Lib.hid hb
  have oP := Lib.hid (And.intro hA hG)
  have Xg := Lib.hid (show(kr A G = 0 /\ qU A G = A) \/ (kr A G ≠ 0 /\ qU A G = [])from by
    unfold kr qU
    by_cases h : A.length + G.length <= 1000
    · rw[if_pos h, if_pos h]; exact .inl ⟨rfl, rfl⟩
    · rw[if_neg h, if_neg h]; exact .inr ⟨by decide, rfl⟩)
  have CY := Lib.hid (show(lg A G).length <= 900000 /\ (pM A G).length <= 900000 from by
    unfold lg pM
    constructor
    · split <;> simp <;> omega
    · split <;> simp <;> omega)
  have OM := Lib.hid (λx xa xc ya yc h1 h2 => Pm xa xc ya yc A G x h1 h2 hA hG)
  have xG := Lib.hid (λx xa xc ya yc h1 h2 => Pb xa xc ya yc A G x h1 h2 hA hG)
  have uN := Lib.hid (λy (hy : Grow w y) => Rq va ca vb cb A G y (ha.later hy) (hb.later hy) hA hG)
  have ve := Lib.hid (λy (hy : Grow w y) => P8 va ca vb cb A G y (ha.later hy) (hb.later hy) hA hG)
  generalize qU A G = X at *
  generalize lg A G = Y at *
  generalize kr A G = N at *
  generalize pM A G = Z at *
  generalize tK A G = K at *
  clear ha hb hgt hd
  go_enter Tryz.func6, Tryz.ntmps6
  go_wp2_with fail
  refine(yB w).mono ?_
  rintro e w1 ⟨rfl, hg⟩
  have aj := Lib.hid hg
  clear hg
  go_wp2_with fail
  refine(bR.out w1).mono ?_
  rintro e w1' ⟨rfl, rfl⟩
  obtain⟨a1, c1, w2, ⟨hok1, UY, UZ⟩, hr1, hg1⟩ := yC Tryz.kG (f := aB) cO (.slice va A.length ca) A w1.heap.size (w1.alloc (.cells #[] 3)) (heap_alloc_new w1 _) ((OL.out.later aj.out).later ((Mv.refl _ _).alloc _)) (λy hy u hu => by simp[aB]at hu; subst hu; rfl) (by omega)
  have hg2 : Grow w w2 := gtr aj.out (gtr ((Mv.refl (λ_ => False) w1).alloc (.cells #[] 3)) hg1)
  obtain⟨a2, c2, w3, ⟨hok2, KR, KS⟩, hr2, hg3⟩ := yC Tryz.kG (f := aB) cO (.slice vb G.length cb) G w2.heap.size (w2.alloc (.cells #[] 3)) (heap_alloc_new w2 _) ((jU.out.later hg2).later ((Mv.refl _ _).alloc _)) (λy hy u hu => by simp[aB]at hu; subst hu; rfl) (by omega)
  have EN : Grow w2 w3 := gtr ((Mv.refl (λ_ => False) w2).alloc (.cells #[] 3)) hg3
  have iU := Lib.hid (show qw w.heap.size w3 (.slice a1 A.length c1) A from aZ (iZ hr1 aj.out.size) EN (λ_ _ e => e))
  have CZ := Lib.hid (show qw w.heap.size w3 (.slice a2 G.length c2) G from iZ hr2 hg2.size)
  have aA := Lib.hid (gtr hg2 EN)
  have OO := Lib.hid (show ∀ g, (Value.slice a1 A.length c1).ownBlock = some g -> (Value.slice a2 G.length c2).ownBlock ≠ some g from λg e1 e2 => by
    obtain⟨-, cs, z, h2⟩ := bH hr1 g e1
    have h3 := lt_of_block h2
    have h4 := (bH hr2 g e2).1
    omega)
  clear hr1 hg1 hg2 hr2 hg3 EN hA hG
  have hA : A.length <= 1000 := oP.out.1
  have hG : G.length <= 1000 := oP.out.2
  go_wp2_with fail
  clear hok1 UY UZ hok2 KR KS
  refine(OM.out w3 a1 c1 a2 c2 (bX cO iU.out) (bX cO CZ.out)).mono ?_
  rintro e w4 ⟨xa, xc, ya, yc, rfl, hx, hy, hg⟩
  have bU := Lib.hid (aZ iU.out hg (λ_ _ e => e))
  have nG := Lib.hid (aZ CZ.out hg (λ_ _ e => e))
  have bB := Lib.hid hg
  have KU := Lib.hid hx
  have KV := Lib.hid hy
  clear hx hy hg OM
  go_wp2_with fail
  refine(xG.out w4 a1 c1 a2 c2 (bX cO bU.out) (bX cO nG.out)).mono ?_
  rintro e w5 ⟨fa, fc, za, zc, rfl, hx, hy, hg⟩
  have OP := Lib.hid (λg (e : (Value.slice a1 A.length c1).ownBlock = some g) => show w.heap.size <= g /\ g < w3.heap.size from by
    obtain⟨h1, cs, z, h2⟩ := bH iU.out g e
    exact⟨h1, lt_of_block h2⟩)
  have KW := Lib.hid (λg (e : (Value.slice a2 G.length c2).ownBlock = some g) => show w.heap.size <= g /\ g < w3.heap.size from by
    obtain⟨h1, cs, z, h2⟩ := bH CZ.out g e
    exact⟨h1, lt_of_block h2⟩)
  have eT := Lib.hid (aZ bU.out hg (λ_ _ e => e))
  have zD := Lib.hid (aZ nG.out hg (λ_ _ e => e))
  have EO := Lib.hid (aZ KU.out hg (λ_ _ e => e))
  have EP := Lib.hid (aZ KV.out hg (λ_ _ e => e))
  have ER := Lib.hid (iZ hy bB.out.size)
  have bI := Lib.hid (gtr bB.out hg)
  clear hx hy hg xG bU nG KU KV bB iU CZ
  simp only[List.length_nil]
  go_wp2_with fail
  go_loopw [46] (λt wr => ∃ (k : Nat) (l : List Int), t = .int .i64 k /\ k <= A.length /\ l.length = A.length /\ qw w.heap.size wr (.slice a1 A.length c1) l /\ qw w.heap.size wr (.slice a2 G.length c2) G /\ Mv (λb => w.heap.size <= b /\ b < w3.heap.size) w5 wr) (λt _ => A.length - (intOf t).toNat)
  case atStart => exact⟨0, A, rfl, Nat.zero_le _, rfl, eT.out, zD.out, Mv.refl _ _⟩
  obtain⟨k, l, rfl, hk, hl, hx, hy, hm⟩ := hrel
  have OQ := Lib.hid hx
  have xY := Lib.hid hy
  have wh := Lib.hid hm
  have qV := Lib.hid hl
  clear hx hy hm hl eT zD
  by_cases hlt : k < A.length
  · obtain⟨g, rfl, ⟨x0, x1, x2, x3⟩, hset⟩ := Ir OQ.out qV.out hlt
    have hkk : (k : Int) < (A.length : Nat) := by omega
    have hx3 := x3 k
    have hgb := OP.out g rfl
    have iC := Lib.hid (λv : Int => And.intro (hset v) (And.intro (aZ xY.out ((Mv.refl (λb => b = g) wr).setCell (p := ⟨g, k, none⟩) (.inl rfl) (.int .i64 v)) (λg' e e2 => by subst e2; exact OO.out g' rfl e)) (wh.out.trans (((Mv.refl (λb => b = g) wr).setCell (p := ⟨g, k, none⟩) (.inl rfl) (.int .i64 v)).mono (O1 := λb => w.heap.size <= b /\ b < w3.heap.size) (λb e => .inl (by subst e; exact hgb))) (λ_ e => .inl e))))
    have Gi := Lib.hid (λv : Int => show(l.set k v).length = A.length from by rw[List.length_set]; exact qV.out)
    clear x3 hset hgb
    generalize (l[k]'(by have := qV.out; omega)) = x at *
    go_wp2_with fail
    go_roundw
    case rel => exact⟨k + 1, _, by go_num, by omega, Gi.out _, (iC.out _).1, (iC.out _).2.1, (iC.out _).2.2⟩
    case measure => (simp[intOf] <;> omega)
  obtain rfl : k = A.length := by omega
  have hlt1 : decide ((A.length : Int) < A.length) = false := by simp
  have OT := Lib.hid wh.out
  have OU := Lib.hid xY.out
  clear OQ xY wh qV OO OP
  generalize wr = w6 at *
  go_wp2_with fail
  clear hlt1
  go_loopw [58] (λt wr => ∃ (k : Nat) (l : List Int), t = .int .i64 k /\ k <= G.length /\ l.length = G.length /\ qw w.heap.size wr (.slice a2 G.length c2) l /\ Mv (λb => w.heap.size <= b /\ b < w3.heap.size) w5 wr) (λt _ => G.length - (intOf t).toNat)
  case atStart => exact⟨0, G, rfl, Nat.zero_le _, rfl, OU.out, OT.out⟩
  obtain⟨k, l, rfl, hk, hl, hy, hm⟩ := hrel
  have xY := Lib.hid hy
  have wh := Lib.hid hm
  have qV := Lib.hid hl
  clear hy hm hl OT OU
  by_cases hlt : k < G.length
  · obtain⟨g, rfl, ⟨x0, x1, x2, x3⟩, hset⟩ := Ir xY.out qV.out hlt
    have hkk : (k : Int) < (G.length : Nat) := by omega
    have hx3 := x3 k
    have hgb := KW.out g rfl
    have iC := Lib.hid (λv : Int => And.intro (hset v) (wh.out.trans (((Mv.refl (λb => b = g) wr).setCell (p := ⟨g, k, none⟩) (.inl rfl) (.int .i64 v)).mono (O1 := λb => w.heap.size <= b /\ b < w3.heap.size) (λb e => .inl (by subst e; exact hgb))) (λ_ e => .inl e)))
    have Gi := Lib.hid (λv : Int => show(l.set k v).length = G.length from by rw[List.length_set]; exact qV.out)
    clear x3 hset hgb
    generalize (l[k]'(by have := qV.out; omega)) = x at *
    go_wp2_with fail
    go_roundw
    case rel => exact⟨k + 1, _, by go_num, by omega, Gi.out _, (iC.out _).1, (iC.out _).2⟩
    case measure => (simp[intOf] <;> omega)
  obtain rfl : k = G.length := by omega
  have hlt1 : decide ((G.length : Int) < G.length) = false := by simp
  have Ap := Lib.hid wh.out
  have Aq := Lib.hid (bN (gtr aA.out bI.out) Ap.out (λb e => e.1))
  have U0 := Lib.hid (bX cO (aZ EO.out Ap.out (λg e e2 => by have := (bH EO.out g e).1; omega)))
  have U1 := Lib.hid (bX cO (aZ EP.out Ap.out (λg e e2 => by have := (bH EP.out g e).1; omega)))
  have U2 := Lib.hid (bX cO (aZ ER.out Ap.out (λg e e2 => by have := (bH ER.out g e).1; omega)))
  have OV := Lib.hid (uN.out wr Aq.out)
  clear xY wh qV KW Ap EO EP ER bI aA uN
  generalize wr = w7 at *
  go_wp2_with fail
  clear hlt1
  refine OV.out.mono ?_
  rintro e w8 ⟨ra, rc, rfl, hr, hg⟩
  have OW := Lib.hid (ve.out w8 (gtr Aq.out hg))
  have dO := Lib.hid hr
  have Xh := Lib.hid hg
  clear hr hg OV ve
  go_wp2_with fail
  refine OW.out.mono ?_
  rintro e w9 ⟨qa, qc, rfl, hr, hg⟩
  have kU := Lib.hid (gtr Xh.out hg)
  have HI1 := Lib.hid (um ya yc ra rc Y Y w9 (U1.out.later kU.out) (dO.out.later hg) CY.out.1 CY.out.1)
  rw[show(Y == Y) = true from by simp]at HI1
  have HI2 := Lib.hid (λy (hy : Grow w9 y) => um za zc qa qc Z Z y (U2.out.later (gtr kU.out hy)) (hr.later hy) CY.out.2 CY.out.2)
  rw[show(Z == Z) = true from by simp]at HI2
  have hb1 : (N != N) = false := by simp
  have hb2 : (K != K) = false := by simp
  clear hr hg OW dO
  go_wp2_with fail
  refine HI1.out.mono ?_
  rintro e zw ⟨rfl, hg⟩
  have HI3 := Lib.hid (HI2.out zw hg)
  have U3 := Lib.hid (gtr kU.out hg)
  clear hg HI1 HI2
  go_wp2_with fail
  refine HI3.out.mono ?_
  rintro e K3 ⟨rfl, hg⟩
  have BP := Lib.hid (gtr U3.out hg)
  clear hg HI3
  rcases Xg.out with⟨rfl, rfl⟩|⟨hn, rfl⟩
  · have HI4 := Lib.hid (um xa xc va ca X X K3 (U0.out.later BP.out) (OL.out.later (gtr Aq.out BP.out)) (by omega) (by omega))
    rw[show(X == X) = true from by simp]at HI4
    go_wp2_with fail
    refine HI4.out.mono ?_
    rintro e ES ⟨rfl, hg⟩
    have U4 := Lib.hid (gtr Aq.out (gtr BP.out hg))
    clear hg HI4
    go_wp2_with fail
    go_ret
    exact⟨rfl, U4.out⟩
  · have hn1 : (N != 0) = true := by simpa using hn
    have hn2 : (N == 0) = false := by simpa using hn
    simp only[List.length_nil]
    go_wp2_with fail
    go_ret
    exact⟨rfl, gtr Aq.out BP.out⟩
theorem OX (a0 : Option Addr) (qy cap0 : Nat) (z0 : List Int) (a1 : Option Addr) (qz oL : Nat) (z1 : List Int) (w : World) (w0 : rT .i64 w a0 qy cap0 z0) (w1 : rT .i64 w a1 qz oL z1) :
    Calls Tryz.prog 6 #[.slice a0 qy cap0, .slice a1 qz oL] w λe w' => e = .returned (.bool true) /\ Below w.heap.size w w' := by
  obtain⟨A, rfl, hA, -⟩ := w0.row
  obtain⟨G, rfl, hG, -⟩ := w1.row
  exact(QG a0 cap0 a1 oL A G w hA hG).mono λe w' h => ⟨h.1, Sj h.2⟩
end Go.Proofs.YtbpodipdfohikaaGreat
