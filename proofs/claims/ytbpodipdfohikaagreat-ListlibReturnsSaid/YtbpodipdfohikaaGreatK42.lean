import Derived.Test.YtbpodipdfohikaaGreatK41
import Derived.Below
import Derived.OpenShut
set_option linter.unusedSimpArgs false
set_option linter.unusedVariables false
set_option maxRecDepth 100000
set_option maxHeartbeats 25600000
namespace Go.Proofs.YtbpodipdfohikaaGreat
open Go.RowKit Go.Instr
attribute [local go_sem ↓] fV
theorem yB {w : World} {a : Option Addr} {n c : Nat} {l : List Int} (h : ay 1 aJ w (.slice a n c) l) {i : Nat} (hi : i < l.length) : ∃ b o, a = some ⟨b, o, none⟩ /\ w.cell? ⟨b, o + i, none⟩ = some (.int .i64 l[i]) /\ b < w.heap.size := by
  obtain⟨b, o, cap, e, _, hc⟩ := h.at hi
  simp only[Value.slice.injEq]at e
  obtain⟨rfl, -, -⟩ := e
  have c0 := hc 0 _ rfl
  simp only[Nat.add_zero, Nat.mul_one]at c0
  exact⟨b, o, rfl, c0, World.block_lt_of_cell? w _ c0⟩
set_option maxRecDepth 100000 in
set_option maxHeartbeats 6400000 in
theorem ru (va : Option Addr) (ca : Nat) (vb : Option Addr) (cb : Nat) (A B : List Int) (w : World) (ha : ay 1 aJ w (.slice va A.length ca) A) (hb : ay 1 aJ w (.slice vb B.length cb) B) (hl : A.length <= 900000) (hl2 : B.length <= 900000) :
    Calls Tryz.prog 12 #[.slice va A.length ca, .slice vb B.length cb] w (eG w (A == B)) := by
  by_cases hlen : A.length = B.length
  · have HA := Lib.hid ha
    have HB := Lib.hid hb
    have uK := Lib.hid hlen
    have zO := Lib.hid (show ∀ k (h : k < A.length) (h' : k < B.length), A[k] ≠ B[k] -> (A == B) = false from λk h h' hn => by
      apply Bool.eq_false_iff.2
      intro e
      have := eq_of_beq e
      subst this
      exact hn rfl)
    have Oa := Lib.hid (show(∀ k (h : k < A.length) (h' : k < B.length), A[k] = B[k]) -> (A == B) = true from λh => by
      rw[beq_iff_eq]
      exact List.ext_getElem hlen h)
    have hne : ((A.length : Int) != B.length) = false := by simp[hlen]
    clear ha hb
    rw[← hlen]at hne HB ⊢
    clear hlen
    go_enter Tryz.func12, Tryz.ntmps12
    go_wp2_with fail
    go_loopw [5] (λt wr => ∃ k : Nat, t = .int .i64 k /\ k <= A.length /\ Grow w wr /\ ∀ j (h : j < A.length) (h' : j < B.length), j < k -> A[j] = B[j]) (λt _ => A.length - (intOf t).toNat)
    case atStart => exact⟨0, rfl, Nat.zero_le _, Mv.refl _ _, λj h h' hj => by omega⟩
    obtain⟨k, rfl, hk, hg, hall⟩ := hrel
    have HG := Lib.hid hg
    have HK := Lib.hid hall
    clear hg hall
    by_cases hlt : k < A.length
    · have h1 : k < A.length := hlt
      have h2 : k < B.length := by have := uK.out; omega
      obtain⟨b1, o1, rfl, c1, l1⟩ := yB (HA.out.later HG.out) h1
      obtain⟨b2, o2, rfl, c2, l2⟩ := yB (HB.out.later HG.out) h2
      have HE := Lib.hid (zO.out k h1 h2)
      have HS := Lib.hid (show A[k] = B[k] -> ∀ j (h : j < A.length) (h' : j < B.length), j < k + 1 -> A[j] = B[j]from λe j h h' hj => by
        rcases Nat.lt_or_ge j k with hj1|hj1
        · exact HK.out j h h' hj1
        · obtain rfl : j = k := by omega
          exact e)
      generalize A[k] = x at *
      generalize B[k] = y at *
      clear h1 h2
      by_cases hxy : x = y
      · have HS2 := Lib.hid (HS.out hxy)
        have hb : (x != y) = false := by simp[hxy]
        clear HE HS hxy
        go_wp2_with fail
        go_region
        go_wp2_with fail
        go_roundw
        case rel => exact⟨k + 1, by go_num, by omega, HG.out.drew, HS2.out⟩
        case measure => (simp[intOf] <;> omega)
      · have HE2 := Lib.hid (HE.out hxy)
        have hb : (x != y) = true := by simp[hxy]
        clear HE HS hxy
        go_wp2_with fail
        go_region
        go_wp2_with fail
        go_ret
        rw[HE2.out]
        exact⟨rfl, HG.out.drew⟩
    · obtain rfl : k = A.length := by omega
      have HT := Lib.hid (Oa.out (λj h h' => HK.out j h h' h))
      clear zO Oa HK hlt
      go_wp2_with fail
      go_ret
      rw[HT.out]
      exact⟨rfl, HG.out⟩
  · have HF := Lib.hid (show(A == B) = false from by
      apply Bool.eq_false_iff.2
      intro e
      exact hlen (congrArg List.length (eq_of_beq e)))
    have hne : ((A.length : Int) != B.length) = true := by
      have : (A.length : Int) ≠ B.length := by omega
      simpa using this
    clear ha hb hlen
    go_enter Tryz.func12, Tryz.ntmps12
    go_wp2_with fail
    go_ret
    rw[HF.out]
    exact⟨rfl, Mv.refl _ _⟩
def Jy (w : World) (r : Option (List Int)) (e : Ending) (w' : World) : Prop := match r with
  |none => e = .returned (.tuple #[.slice none 0 0, .int .i64 5]) /\ Grow w w'
  |some l => ∃ a c, e = .returned (.tuple #[.slice a l.length c, .int .i64 0]) /\ ay 1 aJ w' (.slice a l.length c) l /\ Grow w w'
def wP (A G : List Int) : Option (List Int) := if A.length + G.length + 1 <= 1000 then some (G ++ A.reverse ++ [(A.length : Int)])else none
set_option maxRecDepth 100000 in
set_option maxHeartbeats 6400000 in
theorem Qb (va : Option Addr) (ca : Nat) (vb : Option Addr) (cb : Nat) (A G : List Int) (w : World) (ha : ay 1 aJ w (.slice va A.length ca) A) (hb : ay 1 aJ w (.slice vb G.length cb) G) (hl : A.length <= 1000) (hl2 : G.length <= 1000) :
    Calls Tryz.prog 11 #[.slice va A.length ca, .slice vb G.length cb] w (Jy w (wP A G)) := by
  by_cases hle : A.length + G.length + 1 <= 1000
  · have HR := Lib.hid (show wP A G = some (G ++ A.reverse ++ [(A.length : Int)])from if_pos hle)
    have HA := Lib.hid ha
    obtain⟨a1, c1, w1, ⟨hok, kW, haw⟩, hr1, hg1⟩ := Dr Tryz.qh (f := aJ) fB (.slice vb G.length cb) G w.heap.size (w.alloc (.cells #[] 3)) (heap_alloc_new w _) (hb.later ((Mv.refl _ _).alloc _)) (λy hy u hu => by simp[aJ]at hu; subst hu; rfl) (by omega)
    have aj := Lib.hid (gtr ((Mv.refl (λ_ => False) w).alloc (.cells #[] 3)) hg1)
    have HR1 := Lib.hid hr1
    have hd : decide ((1000 : Int) < (A.length : Int) + G.length + 1) = false := by simp; omega
    clear ha hb hr1 hg1
    generalize wP A G = R at *
    go_enter Tryz.func11, Tryz.ntmps11
    go_wp2_with fail
    clear hok kW haw
    go_loopw [6, 7] (λlv t wr => ∃ (k : Nat) (L : List Int), t = .int .i64 ((A.length : Int) - 1 - k) /\ k <= A.length /\ L = G ++ (A.reverse.take k) /\ Grow w wr /\ wr.ownsRow w.heap.size 3 1 lv L.length (flat aJ L)) (λ_ t _ => (intOf t + 1).toNat)
    case atStart => exact⟨0, G, by simp, Nat.zero_le _, by simp, aj.out, HR1.out⟩
    obtain⟨k, L, rfl, hk, hL, hg, hrow⟩ := hrel
    have HG := Lib.hid hg
    have HW := Lib.hid hrow
    have HL := Lib.hid hL
    obtain⟨ra, rc, eF⟩ := dO hrow
    subst eF
    have xN := Lib.hid (show L.length <= 1000 from by rw[hL]; simp; omega)
    clear hg hrow hL aj HR1
    by_cases hlt : k < A.length
    · have hge : decide ((0 : Int) <= (A.length : Int) - 1 - k) = true := by simp; omega
      obtain⟨j, hj⟩ : ∃ j : Nat, (A.length : Int) - 1 - k = j := ⟨A.length - 1 - k, by omega⟩
      have hjl : j < A.length := by omega
      obtain⟨b1, o1, rfl, c1, l1⟩ := yB (HA.out.later HG.out) hjl
      have HX := Lib.hid (show L ++ [A[j]] = G ++ A.reverse.take (k + 1)from by
        rw[List.take_succ_eq_append_getElem (by simpa using hlt), HL.out, List.append_assoc, List.getElem_reverse]
        congr 3
        have : A.length - 1 - k = j := by omega
        simp only[this])
      have hgx : Grow wr (wr.alloc (.cells #[.int .i64 A[j]] 3)) := (Mv.refl _ _).alloc _
      obtain⟨a', c', w2, ⟨hok, kW, haw⟩, hr2, hm2, -⟩ := ku Tryz.qh (f := aJ) fB (.slice ra L.length rc) (.slice (some ⟨wr.heap.size, 0, none⟩) 1 1) L [A[j]] w.heap.size (wr.alloc (.cells #[.int .i64 A[j]] 3)) (bu HW.out hgx (λ_ _ e => e)) (ay.dI (f := aJ) (l := [A[j]]) fB (heap_alloc_new wr _) (by simp[flat, aJ]) (Nat.le_of_ble_eq_true rfl)) (λy hy u hu => by simp[aJ]at hu; subst hu; rfl) (gtr HG.out hgx).size (by have := xN.out; simp; omega)
      have HN := Lib.hid (And.intro (bS (gtr HG.out hgx) hm2 (λb e => (bR HW.out b e).1)) hr2)
      clear hgx hr2 hm2
      simp only[List.length_append, List.length_cons, List.length_nil, Nat.zero_add]at HN
      rw[hj]
      have HJ := Lib.hid hj
      have hj0 : decide ((0 : Int) <= (j : Int)) = true := by simp
      clear hge hj hle
      generalize A[j] = x at *
      have hLn := xN.out
      have hbd : (j : Int) < (A.length : Nat) := by omega
      go_wp2_with fail
      go_roundw
      case rel => exact⟨k + 1, L ++ [x], by have := HJ.out; simp only[Value.int.injEq, true_and]; omega, by omega, HX.out, HN.out.1, by have := HN.out.2; simpa using this⟩
      case measure => (simp[intOf] <;> omega)
    · obtain rfl : k = A.length := by omega
      have hge : decide ((0 : Int) <= (A.length : Int) - 1 - A.length) = false := by simp; omega
      have HX := Lib.hid (show L ++ [(A.length : Int)] = G ++ A.reverse ++ [(A.length : Int)]from by rw[HL.out, List.take_of_length_le (by simp)])
      have hgx : Grow wr (wr.alloc (.cells #[.int .i64 (A.length : Nat)] 3)) := (Mv.refl _ _).alloc _
      obtain⟨a', c', w2, ⟨hok, kW, haw⟩, hr2, hm2, -⟩ := ku Tryz.qh (f := aJ) fB (.slice ra L.length rc) (.slice (some ⟨wr.heap.size, 0, none⟩) 1 1) L [(A.length : Int)] w.heap.size (wr.alloc (.cells #[.int .i64 (A.length : Nat)] 3)) (bu HW.out hgx (λ_ _ e => e)) (ay.dI (f := aJ) (l := [(A.length : Int)]) fB (heap_alloc_new wr _) (by simp[flat, aJ]) (Nat.le_of_ble_eq_true rfl)) (λy hy u hu => by simp[aJ]at hu; subst hu; rfl) (gtr HG.out hgx).size (by have := xN.out; simp; omega)
      have HN := Lib.hid (And.intro (bS (gtr HG.out hgx) hm2 (λb e => (bR HW.out b e).1)) (dR fB hr2))
      clear hgx hr2 hm2
      simp only[List.length_append, List.length_cons, List.length_nil, Nat.zero_add]at HN
      have HY := Lib.hid (show Jy w (some (L ++ [(A.length : Int)])) (.returned (.tuple #[.slice a' (L.length + 1) c', .int .i64 0])) w2 from⟨a', c', by simp, by have := HN.out.2; simpa using this, HN.out.1⟩)
      rw[HX.out]at HY
      clear HX HN HW HL
      have hLn := xN.out
      go_wp2_with fail
      go_ret2
      rw[HR.out]
      exact HY.out
  · have HR := Lib.hid (show wP A G = none from if_neg hle)
    have hd : decide ((1000 : Int) < (A.length : Int) + G.length + 1) = true := by simp; omega
    clear ha hb hle
    generalize wP A G = R at *
    go_enter Tryz.func11, Tryz.ntmps11
    go_wp2_with fail
    go_ret2
    rw[HR.out]
    exact⟨rfl, Mv.refl _ _⟩
set_option maxRecDepth 100000 in
set_option maxHeartbeats 6400000 in
theorem Ic (va : Option Addr) (ca : Nat) (vb : Option Addr) (cb n m : Nat) (w : World) (hn : n <= 9223372036854775807) (hm : m <= 9223372036854775807) : Calls Tryz.prog 9 #[.slice va n ca, .slice vb m cb] w λe w' => e = .returned (.bool (decide (1000 < n) || decide (1000 < m))) /\ w = w' := by
  by_cases h1 : 1000 < n
  · have hd : decide ((1000 : Int) < n) = true := by simp; omega
    have h2 : decide (1000 < n) = true := by simpa using h1
    go_enter Tryz.func9, Tryz.ntmps9
    go_wp2_with fail
    go_ret
    rw[h2]
    exact⟨rfl, rfl⟩
  · have hd : decide ((1000 : Int) < n) = false := by simp; omega
    have h2 : decide (1000 < n) = false := by simpa using h1
    have h3 : decide ((1000 : Int) < m) = decide (1000 < m) := by
      by_cases h : 1000 < m
      · rw[decide_eq_true h, decide_eq_true (by omega)]
      · rw[decide_eq_false h, decide_eq_false (by omega)]
    rw[h2, ← h3]
    clear h1 h2 h3
    go_enter Tryz.func9, Tryz.ntmps9
    go_wp2_with fail
    go_ret
    exact⟨by simp, rfl⟩
theorem uo {w : World} {g : Nat} {cs : Array Value} (l : List Int) (h : w.heap[g]? = some (.cells cs 3 (0, 0))) (hc : cs.toList = flat aJ l) (hl : l.length <= 9223372036854775807) : ay 1 aJ w (.slice (some ⟨g, 0, none⟩) l.length l.length) l := ay.dI (f := aJ) fB h hc hl
set_option maxRecDepth 100000 in
set_option maxHeartbeats 12800000 in
theorem nU (w : World) : Calls Tryz.prog 8 #[] w (eG w true) := by
  have hE1 : oL (exec gz 100000 1022 (.stmts [fG 50 mY]) false (s0 [1, 2] [7])) (.ok ([1, 2], [7, 1, 2])) := by
    have := DI (A := [1, 2]) (G := [7]) (Nat.le_of_ble_eq_true rfl)
    rwa[show wW [1, 2] [7] = .ok ([1, 2], [7, 1, 2])from by rw[DF _ _ (Nat.le_of_ble_eq_true rfl) (Nat.le_of_ble_eq_true rfl)]; rfl]at this
  have hE2 : oL (exec gz 100000 1022 (.stmts [fG 50 jA]) false (s0 [1, 2] [7])) (.ok ([], [7, 2, 1, 2])) := by
    have := AB (A := [1, 2]) (G := [7]) (Nat.le_of_ble_eq_true rfl)
    rwa[show wO [1, 2] [7] = .ok ([], [7, 2, 1, 2])from by rw[Az]; rfl]at this
  have hg0 : Grow w ((w.alloc (.cells #[.int .i64 1, .int .i64 2] 3)).alloc (.cells #[.int .i64 7] 3)) := ((Mv.refl _ w).alloc _).alloc _
  have hb1 := bX (heap_alloc_new w (.cells #[.int .i64 1, .int .i64 2] 3)) (.cells #[.int .i64 7] 3)
  have hb2 := heap_alloc_new (w.alloc (.cells #[.int .i64 1, .int .i64 2] 3)) (.cells #[.int .i64 7] 3)
  rw[World.size_alloc]at hb2
  have HR1 := Lib.hid (rq 50 mY _ _ [1, 2] [7] _ _ (uo [1, 2] hb1 rfl (by decide)) (uo [7] hb2 rfl (by decide)) (.inl rfl) (.inl rfl) (Nat.le_of_ble_eq_true rfl) (Nat.le_of_ble_eq_true rfl) hE1)
  have iK := Lib.hid hg0
  have HE2 := Lib.hid hE2
  clear hE1 hE2 hg0 hb1 hb2
  go_enter Tryz.func8, Tryz.ntmps8
  go_wp2_with fail
  refine HR1.out.mono ?_
  rintro e w1 ⟨va, ca, vb, cb, rfl, ha, hb, hg⟩
  have HA := Lib.hid ha
  have HB := Lib.hid hb
  have aj := Lib.hid (gtr iK.out hg)
  clear ha hb hg HR1 iK
  have hg0 : Grow w1 ((w1.alloc (.cells #[.int .i64 1, .int .i64 2] 3)).alloc (.cells #[.int .i64 7] 3)) := ((Mv.refl _ w1).alloc _).alloc _
  have hb1 := bX (heap_alloc_new w1 (.cells #[.int .i64 1, .int .i64 2] 3)) (.cells #[.int .i64 7] 3)
  have hb2 := heap_alloc_new (w1.alloc (.cells #[.int .i64 1, .int .i64 2] 3)) (.cells #[.int .i64 7] 3)
  rw[World.size_alloc]at hb2
  have HR2 := Lib.hid (rq 50 jA _ _ [1, 2] [7] _ _ (uo [1, 2] hb1 rfl (by decide)) (uo [7] hb2 rfl (by decide)) (.inl rfl) (.inr rfl) (Nat.le_of_ble_eq_true rfl) (Nat.le_of_ble_eq_true rfl) HE2.out)
  have iK := Lib.hid hg0
  clear hg0 hb1 hb2 HE2
  simp only[List.length_cons, List.length_nil, Nat.zero_add, Nat.reduceAdd]
  go_wp2_with fail
  refine HR2.out.mono ?_
  rintro e w2 ⟨vc, cc, vd, cd, rfl, hc, hd, hg⟩
  have CP := Lib.hid (gtr iK.out hg)
  have HC := Lib.hid hc
  have HD := Lib.hid hd
  have HG2 := Lib.hid (gtr aj.out CP.out)
  have HI1 := Lib.hid (λy (hy : Grow w2 y) (g : Nat) (hb : y.heap[g]? = some (.cells #[.int .i64 1, .int .i64 2] 3 (0, 0))) => ru va ca (some ⟨g, 0, none⟩) 2 [1, 2] [1, 2] y (HA.out.later (gtr CP.out hy)) (uo [1, 2] hb rfl (by decide)) (Nat.le_of_ble_eq_true rfl) (Nat.le_of_ble_eq_true rfl))
  have HI2 := Lib.hid (λy (hy : Grow w2 y) (g : Nat) (hb : y.heap[g]? = some (.cells #[.int .i64 7, .int .i64 1, .int .i64 2] 3 (0, 0))) => ru vb cb (some ⟨g, 0, none⟩) 3 [7, 1, 2] [7, 1, 2] y (HB.out.later (gtr CP.out hy)) (uo [7, 1, 2] hb rfl (by decide)) (Nat.le_of_ble_eq_true rfl) (Nat.le_of_ble_eq_true rfl))
  have HI3 := Lib.hid (λy (hy : Grow w2 y) (g : Nat) (hb : y.heap[g]? = some (.cells #[.int .i64 7, .int .i64 2, .int .i64 1, .int .i64 2] 3 (0, 0))) => ru vd cd (some ⟨g, 0, none⟩) 4 [7, 2, 1, 2] [7, 2, 1, 2] y (HD.out.later hy) (uo [7, 2, 1, 2] hb rfl (by decide)) (Nat.le_of_ble_eq_true rfl) (Nat.le_of_ble_eq_true rfl))
  simp only[List.length_cons, List.length_nil, Nat.zero_add, Nat.reduceAdd]at HI1 HI2 HI3 ⊢
  clear hc hd hg HR2 iK HA HB HC HD CP
  have hgx : Grow w2 (w2.alloc (.cells #[.int .i64 1, .int .i64 2] 3)) := (Mv.refl _ _).alloc _
  have jH := Lib.hid (HI1.out _ hgx _ (heap_alloc_new w2 _))
  have aT := Lib.hid hgx
  clear hgx HI1
  go_wp2_with fail
  refine jH.out.mono ?_
  rintro e w3 ⟨rfl, hg⟩
  have aA := Lib.hid (gtr aT.out hg)
  clear hg jH aT
  have hgx : Grow w3 (w3.alloc (.cells #[.int .i64 7, .int .i64 1, .int .i64 2] 3)) := (Mv.refl _ _).alloc _
  have eO := Lib.hid (HI2.out _ (gtr aA.out hgx) _ (heap_alloc_new w3 _))
  have aT := Lib.hid (gtr aA.out hgx)
  clear hgx HI2 aA
  have hbe : (([1, 2] : List Int) == [1, 2]) = true := rfl
  rw[hbe]
  clear hbe
  go_wp2_with fail
  refine eO.out.mono ?_
  rintro e w4 ⟨rfl, hg⟩
  have bz := Lib.hid (gtr aT.out hg)
  clear hg eO aT
  have hgx : Grow w4 (w4.alloc (.cells #[.int .i64 7, .int .i64 2, .int .i64 1, .int .i64 2] 3)) := (Mv.refl _ _).alloc _
  have mh := Lib.hid (HI3.out _ (gtr bz.out hgx) _ (heap_alloc_new w4 _))
  have aT := Lib.hid (gtr bz.out hgx)
  clear hgx HI3 bz
  have hbe : (([7, 1, 2] : List Int) == [7, 1, 2]) = true := rfl
  rw[hbe]
  clear hbe
  go_wp2_with fail
  refine mh.out.mono ?_
  rintro e w5 ⟨rfl, hg⟩
  have bI := Lib.hid (gtr HG2.out (gtr aT.out hg))
  clear hg mh aT
  have hbe : (([7, 2, 1, 2] : List Int) == [7, 2, 1, 2]) = true := rfl
  rw[hbe]
  clear hbe
  go_wp2_with fail
  go_ret
  exact⟨rfl, bI.out⟩
def iT (k : IntKind) (w : World) (a : Option Addr) (len cap : Nat) (zs : List Int) : Prop :=
  (a = none /\ len = 0 /\ cap = 0 /\ zs = []) \/
  ∃ x, a = some x /\ len <= cap /\ cap <= maxLen /\ zs.length = cap /\ (∀ i, i < zs.length -> w.cell? (x.add i) = some (.int k (zs.getD i 0))) /\ ∀ n ∈ zs, (Lit.int k n).wf = true
theorem iT.row {w : World} {a : Option Addr} {len cap : Nat} {zs : List Int} (h : iT .i64 w a len cap zs) : ∃ A : List Int, len = A.length /\ ay 1 aJ w (.slice a A.length cap) A /\ ∀ x ∈ A, (Lit.int .i64 x).wf = true := by
  rcases h with⟨rfl, rfl, rfl, rfl⟩|⟨x, rfl, h1, h2, h3, h4, h5⟩
  · exact⟨[], rfl, ay.nil _ _ _, by simp⟩
  · have hl : len = (zs.take len).length := by simp; omega
    refine⟨zs.take len, hl, ⟨_, _, rfl, by omega, by unfold maxLen at h2; omega, λi y hy => ?_⟩, λy hy => h5 y (List.mem_of_mem_take hy)⟩
    have hi := (List.getElem?_eq_some_iff.1 hy).1
    have hiz : i < zs.length := by omega
    obtain⟨b, o, rfl, hc⟩ := ints_at h4 (by omega)
    refine⟨b, o, rfl, λj u hu => ?_⟩
    have hj : j = 0 := by
      have := (List.getElem?_eq_some_iff.1 hu).1
      simp[aJ]at this; exact this
    subst hj
    have hu' : u = .int .i64 y := by simpa[aJ]using hu.symm
    have hy' : zs.getD i 0 = y := by
      rw[List.getElem?_take_of_lt (by omega)]at hy
      simp[List.getD, hy]
    rw[hu', ← hy', ← hc i hiz]
    simp
theorem DJ {w w' : World} (hg : Grow w w') : Below w.heap.size w w' := ⟨hg.os, hg.tape, hg.output, hg.size, λj hj => hg.block j hj (λh => h)⟩
theorem ay.yS {w : World} {a : Option Addr} {c : Nat} {l : List Int} (h : ay 1 aJ w (.slice a l.length c) l) : l.length <= 9223372036854775807 := by
  obtain⟨_, _, _, _, h⟩ := h.form
  simpa using h
set_option maxRecDepth 100000 in
set_option maxHeartbeats 12800000 in
theorem Qc (va : Option Addr) (ca : Nat) (vb : Option Addr) (cb : Nat) (A G : List Int) (w : World) (ha : ay 1 aJ w (.slice va A.length ca) A) (hb : ay 1 aJ w (.slice vb G.length cb) G) :
    Calls Tryz.prog 3 #[.slice va A.length ca, .slice vb G.length cb] w (eG w true) := by
  have bU := Lib.hid (λy => Ic va ca vb cb A.length G.length y ha.yS hb.yS)
  have HA := Lib.hid ha
  have HB := Lib.hid hb
  by_cases hgt : 1000 < A.length \/ 1000 < G.length
  · have hd : (decide (1000 < A.length) || decide (1000 < G.length)) = true := by simpa using hgt
    rw[hd]at bU
    clear ha hb hgt hd
    go_enter Tryz.func3, Tryz.ntmps3
    go_wp2_with fail
    refine(nU w).mono ?_
    rintro e w1 ⟨rfl, hg⟩
    have HG := Lib.hid hg
    clear hg
    go_wp2_with fail
    refine(bU.out w1).mono ?_
    rintro e w2 ⟨rfl, rfl⟩
    go_wp2_with fail
    go_ret
    exact⟨rfl, HG.out⟩
  · have hd : (decide (1000 < A.length) || decide (1000 < G.length)) = false := by simp; omega
    have hA : A.length <= 1000 := by omega
    have hG : G.length <= 1000 := by omega
    rw[hd]at bU
    have hE := AB (A := A) (G := G) hA
    rw[Az]at hE
    have dh := Lib.hid (λy (hy : Grow w y) => Qb va ca vb cb A G y (ha.later hy) (hb.later hy) hA hG)
    unfold wP at dh
    by_cases hle : A.length + G.length + 1 <= 1000
    · rw[if_pos hle]at hE dh
      have HL := Lib.hid (show(G ++ A.reverse ++ [(A.length : Int)]).length <= 900000 from by simp; omega)
      obtain⟨L, hL⟩ : ∃ L, L = G ++ A.reverse ++ [(A.length : Int)] := ⟨_, rfl⟩
      rw[← hL]at hE dh HL
      clear hL
      have nQ := Lib.hid (λy (hy : Grow w y) => rq 50 jA (.slice va A.length ca) (.slice vb G.length cb) A G _ y (ha.later hy) (hb.later hy) (.inl rfl) (.inr rfl) hA hG hE)
      clear ha hb hgt hd hE hle
      go_enter Tryz.func3, Tryz.ntmps3
      go_wp2_with fail
      refine(nU w).mono ?_
      rintro e w1 ⟨rfl, hg⟩
      have aj := Lib.hid hg
      clear hg
      go_wp2_with fail
      refine(bU.out w1).mono ?_
      rintro e w2 ⟨rfl, rfl⟩
      go_wp2_with fail
      refine(nQ.out w1 aj.out).mono ?_
      rintro e w3 ⟨xa, xc, ya, yc, rfl, hx, hy, hg⟩
      have aA := Lib.hid (gtr aj.out hg)
      have HY := Lib.hid hy
      clear hg hx hy nQ
      simp only[List.length_nil]
      go_wp2_with fail
      refine(dh.out w3 aA.out).mono ?_
      rintro e w4 ⟨za, zc, rfl, hz, hg⟩
      have HI := Lib.hid (ru ya yc za zc L L w4 (HY.out.later hg) hz HL.out HL.out)
      have bz := Lib.hid (gtr aA.out hg)
      clear hg hz dh HY
      rw[show(L == L) = true from by simp]at HI
      go_wp2_with fail
      refine HI.out.mono ?_
      rintro e w5 ⟨rfl, hg⟩
      have bI := Lib.hid (gtr bz.out hg)
      clear hg
      go_wp2_with fail
      go_ret
      exact⟨rfl, bI.out⟩
    · rw[if_neg hle]at hE dh
      have nQ := Lib.hid (λy (hy : Grow w y) => rq 50 jA (.slice va A.length ca) (.slice vb G.length cb) A G _ y (ha.later hy) (hb.later hy) (.inl rfl) (.inr rfl) hA hG hE)
      clear ha hb hgt hd hE hle
      go_enter Tryz.func3, Tryz.ntmps3
      go_wp2_with fail
      refine(nU w).mono ?_
      rintro e w1 ⟨rfl, hg⟩
      have aj := Lib.hid hg
      clear hg
      go_wp2_with fail
      refine(bU.out w1).mono ?_
      rintro e w2 ⟨rfl, rfl⟩
      go_wp2_with fail
      refine(nQ.out w1 aj.out).mono ?_
      rintro e w3 ⟨-, rfl, hg⟩
      have aA := Lib.hid (gtr aj.out hg)
      clear hg nQ
      go_wp2_with fail
      refine(dh.out w3 aA.out).mono ?_
      rintro e w4 ⟨rfl, hg⟩
      have bz := Lib.hid (gtr aA.out hg)
      clear hg dh
      go_wp2_with fail
      go_ret
      exact⟨rfl, bz.out⟩
theorem Og (a0 : Option Addr) (eB cap0 : Nat) (z0 : List Int) (a1 : Option Addr) (iB gJ : Nat) (z1 : List Int) (w : World) (w0 : iT .i64 w a0 eB cap0 z0) (w1 : iT .i64 w a1 iB gJ z1) :
    Calls Tryz.prog 3 #[.slice a0 eB cap0, .slice a1 iB gJ] w λe w' => e = .returned (.bool true) /\ Below w.heap.size w w' := by
  obtain⟨A, rfl, hA, -⟩ := w0.row
  obtain⟨G, rfl, hG, -⟩ := w1.row
  exact(Qc a0 cap0 a1 gJ A G w hA hG).mono λe w' h => ⟨h.1, DJ h.2⟩
attribute [local go_sem ↓] fV
def Ae (w : World) (r : Option (List Int × List Int)) (e : Ending) (w' : World) : Prop := match r with
  |none => e = .returned (.tuple #[.slice none 0 0, .slice none 0 0, .bool false]) /\ Grow w w'
  |some q => ∃ a c b d, e = .returned (.tuple #[.slice a q.1.length c, .slice b q.2.length d, .bool true]) /\ ay 1 aJ w' (.slice a q.1.length c) q.1 /\ ay 1 aJ w' (.slice b q.2.length d) q.2 /\ Grow w w'
def tJ (R : List Int) (N : Int) : Option (List Int × List Int) := if 0 <= N /\ N <= R.length then some (R.reverse.take N.toNat, R.take (R.length - N.toNat))else none
set_option maxRecDepth 100000 in
theorem OT (w : World) (va : Option Addr) (ca : Nat) : Calls Tryz.prog 13 #[.slice va 0 ca] w (Ae w none) := by
  go_enter Tryz.func13, Tryz.ntmps13
  go_wp2_with fail
  go_ret3
  exact⟨rfl, Mv.refl _ _⟩
set_option maxRecDepth 100000 in
set_option maxHeartbeats 6400000 in
theorem OU (w : World) (va : Option Addr) (ca : Nat) (R : List Int) (N : Int) (h : ay 1 aJ w (.slice va (R.length + 1) ca) (R ++ [N])) (hl : R.length <= 1000) : Calls Tryz.prog 13 #[.slice va (R.length + 1) ca] w (Ae w (tJ R N)) := by
  have hn0 : ((R.length : Int) + 1 == 0) = false := by
    have : (R.length : Int) + 1 ≠ 0 := by omega
    simpa using this
  obtain⟨b, o, rfl, cN, hbl⟩ := yB h (i := R.length) (by simp)
  have eN : (R ++ [N])[R.length]'(by simp) = N := by simp
  rw[eN]at cN
  clear eN
  have HR := Lib.hid h
  have e1 : ((R.length + 1 : Nat) : Int) - 1 = (R.length : Int) := by omega
  have hbd : (R.length : Int) < ((R.length + 1 : Nat) : Int) := by omega
  have Xx : R.length + 1 <= 1001 := by omega
  clear h
  by_cases h0 : N < 0
  · have HU := Lib.hid (show tJ R N = none from if_neg (by omega))
    have d0 : decide (N < 0) = true := by simpa using h0
    generalize tJ R N = U at *
    go_enter Tryz.func13, Tryz.ntmps13
    go_wp2_with fail
    go_ret3
    rw[HU.out]
    exact⟨rfl, Mv.refl _ _⟩
  by_cases h1 : (R.length : Int) < N
  · have HU := Lib.hid (show tJ R N = none from if_neg (by omega))
    have d0 : decide (N < 0) = false := by simpa using h0
    have d1 : decide ((R.length : Int) < N) = true := by simpa using h1
    generalize tJ R N = U at *
    go_enter Tryz.func13, Tryz.ntmps13
    go_wp2_with fail
    go_ret3
    rw[HU.out]
    exact⟨rfl, Mv.refl _ _⟩
  obtain⟨k, rfl⟩ := Int.eq_ofNat_of_zero_le (show 0 <= N by omega)
  have hk : k <= R.length := by omega
  have HU := Lib.hid (show tJ R (k : Int) = some (R.reverse.take k, R.take (R.length - k))from if_pos (by omega))
  have d0 : decide ((k : Int) < 0) = false := by simp
  have d1 : decide (R.length < k) = false := by simp; omega
  have HK := Lib.hid hk
  clear h0 h1 hk
  generalize tJ R (k : Int) = U at *
  go_enter Tryz.func13, Tryz.ntmps13
  go_wp2_with fail
  go_loopw [7, 8] (λlv t wr => ∃ (j : Nat) (L : List Int), t = .int .i64 ((R.length : Int) - 1 - j) /\ j <= k /\ L = R.reverse.take j /\ Grow w wr /\ wr.ownsRow w.heap.size 3 1 lv L.length (flat aJ L)) (λ_ t _ => (intOf t + 1).toNat)
  case atStart => exact⟨0, [], by simp only[Value.int.injEq, true_and]; omega, Nat.zero_le _, by simp, Mv.refl _ _, World.ownsRow_nil _ _ _ _⟩
  obtain⟨j, L, rfl, hj, hL, hg, hrow⟩ := hrel
  have HG := Lib.hid hg
  have HW := Lib.hid hrow
  have HL := Lib.hid hL
  obtain⟨ra, rc, eF⟩ := dO hrow
  subst eF
  have hLn : L.length <= 1000 := by rw[hL]; simp; omega
  clear hg hrow hL
  have hkl := HK.out
  have e2 : ((R.length : Int) - (k : Int)) = ((R.length - k : Nat) : Int) := by omega
  by_cases hlt : j < k
  · obtain⟨i, hi⟩ : ∃ i : Nat, (R.length : Int) - 1 - j = i := ⟨R.length - 1 - j, by omega⟩
    have hil : i < R.length := by omega
    have hi2 : i < (R ++ [(k : Int)]).length := by simp; omega
    obtain⟨b1, o1, e0, c1, l1⟩ := yB (HR.out.later HG.out) hi2
    cases e0
    have eX : (R ++ [(k : Int)])[i] = R[i] := List.getElem_append_left hil
    rw[eX]at c1
    clear eX
    have HX := Lib.hid (show L ++ [R[i]] = R.reverse.take (j + 1)from by
      rw[List.take_succ_eq_append_getElem (by simp; omega), HL.out, List.getElem_reverse]
      congr 2
      have : R.length - 1 - j = i := by omega
      simp only[this])
    have hgx : Grow wr (wr.alloc (.cells #[.int .i64 R[i]] 3)) := (Mv.refl _ _).alloc _
    obtain⟨a', c', w2, ⟨hok, kW, haw⟩, hr2, hm2, -⟩ := ku Tryz.qh (f := aJ) fB (.slice ra L.length rc) (.slice (some ⟨wr.heap.size, 0, none⟩) 1 1) L [R[i]] w.heap.size (wr.alloc (.cells #[.int .i64 R[i]] 3)) (bu HW.out hgx (λ_ _ e => e)) (ay.dI (f := aJ) (l := [R[i]]) fB (heap_alloc_new wr _) (by simp[flat, aJ]) (Nat.le_of_ble_eq_true rfl)) (λy hy u hu => by simp[aJ]at hu; subst hu; rfl) (gtr HG.out hgx).size (by simp; omega)
    have HN := Lib.hid (And.intro (bS (gtr HG.out hgx) hm2 (λb e => (bR HW.out b e).1)) hr2)
    clear hgx hr2 hm2
    simp only[List.length_append, List.length_cons, List.length_nil, Nat.zero_add]at HN
    have HJ := Lib.hid hi
    have Wp : decide (R.length <= i + k) = true := by simp; omega
    rw[hi]
    have hbi : (i : Int) < ((R.length + 1 : Nat) : Int) := by omega
    have hlk : R.length - k <= 1000 := by omega
    clear hi HW HL
    generalize R[i] = x at *
    go_wp2_with fail
    go_roundw
    case rel => exact⟨j + 1, L ++ [x], by have := HJ.out; simp only[Value.int.injEq, true_and]; omega, by omega, HX.out, HN.out.1, by have := HN.out.2; simpa using this⟩
    case measure => (simp[intOf] <;> omega)
  · obtain rfl : j = k := by omega
    obtain⟨t, ht⟩ : ∃ t : Int, (R.length : Int) - 1 - j = t := ⟨_, rfl⟩
    have Wp : decide (((R.length - j : Nat) : Int) <= t) = false := by simp; omega
    rw[ht]
    clear ht
    have hts := Dx (show ay 1 aJ wr (.slice (some ⟨b, o, none⟩) (R ++ [(j : Int)]).length ca) (R ++ [(j : Int)])from by simpa using HR.out.later HG.out) (R.length - j) (by simp; omega)
    have Ob : (R ++ [(j : Int)]).take (R.length - j) = R.take (R.length - j) := by rw[List.take_append_of_le_length (by omega)]
    rw[Ob]at hts
    clear Ob
    have hlt2 : (R.take (R.length - j)).length = R.length - j := by simp
    obtain⟨a1, c1, w1, ⟨hok, kW, haw⟩, hr1, hg1⟩ := Dr Tryz.qh (f := aJ) fB (.slice (some ⟨b, o, none⟩) (R.length - j) ca) (R.take (R.length - j)) wr.heap.size (wr.alloc (.cells #[] 3)) (heap_alloc_new wr _) (hts.later ((Mv.refl _ _).alloc _)) (λy hy u hu => by simp[aJ]at hu; subst hu; rfl) (by omega)
    rw[hlt2]at kW
    have HQ := Lib.hid (show Ae w (some (R.reverse.take j, R.take (R.length - j))) (.returned (.tuple #[.slice ra L.length rc, .slice a1 (R.length - j) c1, .bool true])) w1 from by
      have hgw : Grow wr w1 := gtr ((Mv.refl (λ_ => False) wr).alloc (.cells #[] 3)) hg1
      have h1 := (dR fB HW.out).later hgw
      have h2 := dR fB hr1
      rw[HL.out]at h1 ⊢
      rw[hlt2]at h2
      exact⟨_, _, _, _, by rw[hlt2], h1, by rw[hlt2]; exact h2, gtr HG.out hgw⟩)
    have qR : R.length - j <= ca := by have := (HR.out.form); obtain⟨_, _, e, h1, _⟩ := this; simp only[Value.slice.injEq]at e; simp at h1; omega
    clear hts hr1 hg1 hlt2 HW HL
    go_wp2_with fail
    go_ret3
    rw[HU.out]
    exact HQ.out
set_option maxRecDepth 100000 in
set_option maxHeartbeats 12800000 in
theorem OV (va : Option Addr) (ca : Nat) (G : List Int) (w : World) (hb : ay 1 aJ w (.slice va G.length ca) G) :
    Calls Tryz.prog 4 #[.slice va G.length ca] w (eG w true) := by
  have bU := Lib.hid (λy => Ic va ca none 0 G.length 0 y hb.yS (by decide))
  by_cases hgt : 1000 < G.length
  · have hd : (decide (1000 < G.length) || decide (1000 < 0)) = true := by simpa using hgt
    rw[hd]at bU
    clear hb hgt hd
    go_enter Tryz.func4, Tryz.ntmps4
    go_wp2_with fail
    refine(nU w).mono ?_
    rintro e w1 ⟨rfl, hg⟩
    have HG := Lib.hid hg
    clear hg
    go_wp2_with fail
    refine(bU.out w1).mono ?_
    rintro e w2 ⟨rfl, rfl⟩
    go_wp2_with fail
    go_ret
    exact⟨rfl, HG.out⟩
  have hd : (decide (1000 < G.length) || decide (1000 < 0)) = false := by simp; omega
  have hG : G.length <= 1000 := by omega
  rw[hd]at bU
  have hE := Da (A := []) (G := G) hG
  have bH : Hid ((∃ n, pU [] G = .error n /\ ∀ y, Grow w y -> Calls Tryz.prog 13 #[.slice va G.length ca] y (Ae y none)) \/ ∃ q : List Int × List Int, pU [] G = .ok q /\ (q.1.length <= 900000 /\ q.2.length <= 900000) /\ ∀ y, Grow w y -> Calls Tryz.prog 13 #[.slice va G.length ca] y (Ae y (some q))) := by
    refine Lib.hid ?_
    rcases List.eq_nil_or_concat G with rfl|⟨R, N, rfl⟩
    · exact .inl ⟨13, rfl, λy hy => OT y va ca⟩
    · rw[List.concat_eq_append]at hG hb ⊢
      have hR : R.length <= 999 := by simp at hG; omega
      have hlen : (R ++ [N]).length = R.length + 1 := by simp
      have hb' : ay 1 aJ w (.slice va (R.length + 1) ca) (R ++ [N]) := by rw[hlen]at hb; exact hb
      have hu := C9 N R.reverse (by simp; omega)
      rw[List.reverse_reverse, List.length_reverse]at hu
      rw[hlen]
      have hc := λy (hy : Grow w y) => OU y va ca R N (hb'.later hy) (by omega)
      unfold tJ at hc
      by_cases h : 0 <= N /\ N <= R.length
      · rw[if_pos h]at hu hc
        refine .inr ⟨_, hu, ⟨by simp; omega, by simp; omega⟩, ?_⟩
        have e : R.take (R.length - N.toNat) = (R.reverse.drop N.toNat).reverse := by rw[List.drop_reverse, List.reverse_reverse]
        rw[e]at hc
        exact hc
      · rw[if_neg h]at hu hc
        exact .inl ⟨_, hu, hc⟩
  rcases bH.out with⟨n, hu, hc⟩|⟨⟨X, Y⟩, hu, ⟨hx, hy⟩, hc⟩
  · rw[hu]at hE
    have nQ := Lib.hid (λy (hy : Grow w y) => rq 51 jA (.slice none 0 0) (.slice va G.length ca) [] G _ y (ay.nil _ _ _) (hb.later hy) (.inr rfl) (.inr rfl) (by decide) hG hE)
    have HC := Lib.hid hc
    clear hb hgt hd hE hu hc bH
    go_enter Tryz.func4, Tryz.ntmps4
    go_wp2_with fail
    refine(nU w).mono ?_
    rintro e w1 ⟨rfl, hg⟩
    have aj := Lib.hid hg
    clear hg
    go_wp2_with fail
    refine(bU.out w1).mono ?_
    rintro e w2 ⟨rfl, rfl⟩
    go_wp2_with fail
    refine(nQ.out w1 aj.out).mono ?_
    rintro e w3 ⟨hn0, rfl, hg⟩
    have aA := Lib.hid (gtr aj.out hg)
    have hne : (n == 0) = false := by simpa using hn0
    clear hg nQ hn0
    go_wp2_with fail
    refine(HC.out w3 aA.out).mono ?_
    rintro e w4 ⟨rfl, hg⟩
    have bz := Lib.hid (gtr aA.out hg)
    clear hg HC
    go_wp2_with fail
    go_ret
    exact⟨rfl, bz.out⟩
  · rw[hu]at hE
    have nQ := Lib.hid (λy (hy : Grow w y) => rq 51 jA (.slice none 0 0) (.slice va G.length ca) [] G _ y (ay.nil _ _ _) (hb.later hy) (.inr rfl) (.inr rfl) (by decide) hG hE)
    have HC := Lib.hid hc
    have CQ := Lib.hid (And.intro hx hy)
    clear hb hgt hd hE hu hc hx hy bH
    go_enter Tryz.func4, Tryz.ntmps4
    go_wp2_with fail
    refine(nU w).mono ?_
    rintro e w1 ⟨rfl, hg⟩
    have aj := Lib.hid hg
    clear hg
    go_wp2_with fail
    refine(bU.out w1).mono ?_
    rintro e w2 ⟨rfl, rfl⟩
    go_wp2_with fail
    refine(nQ.out w1 aj.out).mono ?_
    rintro e w3 ⟨xa, xc, ya, yc, rfl, hx, hy, hg⟩
    have aA := Lib.hid (gtr aj.out hg)
    have HX := Lib.hid hx
    have HY := Lib.hid hy
    clear hg nQ hx hy
    go_wp2_with fail
    refine(HC.out w3 aA.out).mono ?_
    rintro e w4 ⟨aa, ac, ba, bc, rfl, h1, h2, hg⟩
    have HI1 := Lib.hid (ru xa xc aa ac X X w4 (HX.out.later hg) h1 CQ.out.1 CQ.out.1)
    rw[show(X == X) = true from by simp]at HI1
    have HI2 := Lib.hid (λy (hy : Grow w4 y) => ru ya yc ba bc Y Y y ((HY.out.later hg).later hy) (h2.later hy) CQ.out.2 CQ.out.2)
    rw[show(Y == Y) = true from by simp]at HI2
    have bz := Lib.hid (gtr aA.out hg)
    clear hg HC h1 h2 HX HY
    go_wp2_with fail
    refine HI1.out.mono ?_
    rintro e w5 ⟨rfl, hg⟩
    have HI3 := Lib.hid (HI2.out w5 hg)
    have bI := Lib.hid (gtr bz.out hg)
    clear hg HI2
    go_wp2_with fail
    refine HI3.out.mono ?_
    rintro e w6 ⟨rfl, hg⟩
    have xE := Lib.hid (gtr bI.out hg)
    clear hg
    go_wp2_with fail
    go_ret
    exact⟨rfl, xE.out⟩
theorem Od (a0 : Option Addr) (eB cap0 : Nat) (z0 : List Int) (w : World) (w0 : iT .i64 w a0 eB cap0 z0) :
    Calls Tryz.prog 4 #[.slice a0 eB cap0] w λe w' => e = .returned (.bool true) /\ Below w.heap.size w w' := by
  obtain⟨A, rfl, hA, -⟩ := w0.row
  exact(OV a0 cap0 A w hA).mono λe w' h => ⟨h.1, DJ h.2⟩
end Go.Proofs.YtbpodipdfohikaaGreat
