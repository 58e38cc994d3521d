import Derived.Test.YtbpodipdfohikaaGreatL41
import Derived.Lib.AppendZeros
import Derived.Below
import Derived.OpenShut
set_option linter.unusedSimpArgs false
set_option linter.unusedVariables false
set_option maxRecDepth 100000
set_option maxHeartbeats 25600000
namespace Go.Proofs.YtbpodipdfohikaaGreat
open Go.RowKit Go.Instr
attribute [local go_sem ↓] fB
theorem yI {w : World} {a : Option Addr} {n c : Nat} {l : List Int} (h : ay 1 aB w (.slice a n c) l) {i : Nat} (hi : i < l.length) : ∃ b o, a = some ⟨b, o, none⟩ /\ w.cell? ⟨b, o + i, none⟩ = some (.int .i64 l[i]) /\ b < w.heap.size := by
  obtain⟨b, o, cap, e, _, hc⟩ := h.at hi
  simp only[Value.slice.injEq]at e
  obtain⟨rfl, -, -⟩ := e
  have c0 := hc 0 _ rfl
  simp only[Nat.add_zero, Nat.mul_one]at c0
  exact⟨b, o, rfl, c0, World.block_lt_of_cell? w _ c0⟩
set_option maxRecDepth 100000 in
set_option maxHeartbeats 6400000 in
theorem um (va : Option Addr) (ca : Nat) (vb : Option Addr) (cb : Nat) (A B : List Int) (w : World) (ha : ay 1 aB w (.slice va A.length ca) A) (hb : ay 1 aB w (.slice vb B.length cb) B) (hl : A.length <= 900000) (hl2 : B.length <= 900000) :
    Calls Tryz.prog 12 #[.slice va A.length ca, .slice vb B.length cb] w (fq w (A == B)) := by
  by_cases hlen : A.length = B.length
  · have HA := Lib.hid ha
    have HB := Lib.hid hb
    have oP := Lib.hid hlen
    have zX := Lib.hid (show ∀ k (h : k < A.length) (h' : k < B.length), A[k] ≠ B[k] -> (A == B) = false from λk h h' hn => by
      apply Bool.eq_false_iff.2
      intro e
      have := eq_of_beq e
      subst this
      exact hn rfl)
    have OH := Lib.hid (show(∀ k (h : k < A.length) (h' : k < B.length), A[k] = B[k]) -> (A == B) = true from λh => by
      rw[beq_iff_eq]
      exact List.ext_getElem hlen h)
    have hne : ((A.length : Int) != B.length) = false := by simp[hlen]
    clear ha hb
    rw[← hlen]at hne HB ⊢
    clear hlen
    go_enter Tryz.func12, Tryz.ntmps12
    go_wp2_with fail
    go_loopw [5] (λt wr => ∃ k : Nat, t = .int .i64 k /\ k <= A.length /\ Grow w wr /\ ∀ j (h : j < A.length) (h' : j < B.length), j < k -> A[j] = B[j]) (λt _ => A.length - (intOf t).toNat)
    case atStart => exact⟨0, rfl, Nat.zero_le _, Mv.refl _ _, λj h h' hj => by omega⟩
    obtain⟨k, rfl, hk, hg, hall⟩ := hrel
    have HG := Lib.hid hg
    have HK := Lib.hid hall
    clear hg hall
    by_cases hlt : k < A.length
    · have h1 : k < A.length := hlt
      have h2 : k < B.length := by have := oP.out; omega
      obtain⟨b1, o1, rfl, c1, l1⟩ := yI (HA.out.later HG.out) h1
      obtain⟨b2, o2, rfl, c2, l2⟩ := yI (HB.out.later HG.out) h2
      have HE := Lib.hid (zX.out k h1 h2)
      have HS := Lib.hid (show A[k] = B[k] -> ∀ j (h : j < A.length) (h' : j < B.length), j < k + 1 -> A[j] = B[j]from λe j h h' hj => by
        rcases Nat.lt_or_ge j k with hj1|hj1
        · exact HK.out j h h' hj1
        · obtain rfl : j = k := by omega
          exact e)
      generalize A[k] = x at *
      generalize B[k] = y at *
      clear h1 h2
      by_cases hxy : x = y
      · have HS2 := Lib.hid (HS.out hxy)
        have hb : (x != y) = false := by simp[hxy]
        clear HE HS hxy
        go_wp2_with fail
        go_region
        go_wp2_with fail
        go_roundw
        case rel => exact⟨k + 1, by go_num, by omega, HG.out.drew, HS2.out⟩
        case measure => (simp[intOf] <;> omega)
      · have HE2 := Lib.hid (HE.out hxy)
        have hb : (x != y) = true := by simp[hxy]
        clear HE HS hxy
        go_wp2_with fail
        go_region
        go_wp2_with fail
        go_ret
        rw[HE2.out]
        exact⟨rfl, HG.out.drew⟩
    · obtain rfl : k = A.length := by omega
      have HT := Lib.hid (OH.out (λj h h' => HK.out j h h' h))
      clear zX OH HK hlt
      go_wp2_with fail
      go_ret
      rw[HT.out]
      exact⟨rfl, HG.out⟩
  · have HF := Lib.hid (show(A == B) = false from by
      apply Bool.eq_false_iff.2
      intro e
      exact hlen (congrArg List.length (eq_of_beq e)))
    have hne : ((A.length : Int) != B.length) = true := by
      have : (A.length : Int) ≠ B.length := by omega
      simpa using this
    clear ha hb hlen
    go_enter Tryz.func12, Tryz.ntmps12
    go_wp2_with fail
    go_ret
    rw[HF.out]
    exact⟨rfl, Mv.refl _ _⟩
def JQ (w : World) (r : Option (List Int)) (e : Ending) (w' : World) : Prop := match r with
  |none => e = .returned (.tuple #[.slice none 0 0, .int .i64 5]) /\ Grow w w'
  |some l => ∃ a c, e = .returned (.tuple #[.slice a l.length c, .int .i64 0]) /\ ay 1 aB w' (.slice a l.length c) l /\ Grow w w'
def uA (A G : List Int) : Option (List Int) := if A.length + G.length + 1 <= 1000 then some (G ++ A.reverse ++ [(A.length : Int)])else none
set_option maxRecDepth 100000 in
set_option maxHeartbeats 6400000 in
theorem G8 (va : Option Addr) (ca : Nat) (vb : Option Addr) (cb : Nat) (A G : List Int) (w : World) (ha : ay 1 aB w (.slice va A.length ca) A) (hb : ay 1 aB w (.slice vb G.length cb) G) (hl : A.length <= 1000) (hl2 : G.length <= 1000) :
    Calls Tryz.prog 11 #[.slice va A.length ca, .slice vb G.length cb] w (JQ w (uA A G)) := by
  by_cases hle : A.length + G.length + 1 <= 1000
  · have HR := Lib.hid (show uA A G = some (G ++ A.reverse ++ [(A.length : Int)])from if_pos hle)
    have HA := Lib.hid ha
    obtain⟨a1, c1, w1, ⟨hok, jZ, haw⟩, hr1, hg1⟩ := yC Tryz.kG (f := aB) cO (.slice vb G.length cb) G w.heap.size (w.alloc (.cells #[] 3)) (heap_alloc_new w _) (hb.later ((Mv.refl _ _).alloc _)) (λy hy u hu => by simp[aB]at hu; subst hu; rfl) (by omega)
    have aj := Lib.hid (gtr ((Mv.refl (λ_ => False) w).alloc (.cells #[] 3)) hg1)
    have HR1 := Lib.hid hr1
    have hd : decide ((1000 : Int) < (A.length : Int) + G.length + 1) = false := by simp; omega
    clear ha hb hr1 hg1
    generalize uA A G = R at *
    go_enter Tryz.func11, Tryz.ntmps11
    go_wp2_with fail
    clear hok jZ haw
    go_loopw [6, 7] (λlv t wr => ∃ (k : Nat) (L : List Int), t = .int .i64 ((A.length : Int) - 1 - k) /\ k <= A.length /\ L = G ++ (A.reverse.take k) /\ Grow w wr /\ wr.ownsRow w.heap.size 3 1 lv L.length (flat aB L)) (λ_ t _ => (intOf t + 1).toNat)
    case atStart => exact⟨0, G, by simp, Nat.zero_le _, by simp, aj.out, HR1.out⟩
    obtain⟨k, L, rfl, hk, hL, hg, hrow⟩ := hrel
    have HG := Lib.hid hg
    have HW := Lib.hid hrow
    have HL := Lib.hid hL
    obtain⟨ra, rc, eF⟩ := dL hrow
    subst eF
    have xP := Lib.hid (show L.length <= 1000 from by rw[hL]; simp; omega)
    clear hg hrow hL aj HR1
    by_cases hlt : k < A.length
    · have hge : decide ((0 : Int) <= (A.length : Int) - 1 - k) = true := by simp; omega
      obtain⟨j, hj⟩ : ∃ j : Nat, (A.length : Int) - 1 - k = j := ⟨A.length - 1 - k, by omega⟩
      have hjl : j < A.length := by omega
      obtain⟨b1, o1, rfl, c1, l1⟩ := yI (HA.out.later HG.out) hjl
      have HX := Lib.hid (show L ++ [A[j]] = G ++ A.reverse.take (k + 1)from by
        rw[List.take_succ_eq_append_getElem (by simpa using hlt), HL.out, List.append_assoc, List.getElem_reverse]
        congr 3
        have : A.length - 1 - k = j := by omega
        simp only[this])
      have hgx : Grow wr (wr.alloc (.cells #[.int .i64 A[j]] 3)) := (Mv.refl _ _).alloc _
      obtain⟨a', c', w2, ⟨hok, jZ, haw⟩, hr2, hm2, -⟩ := jv Tryz.kG (f := aB) cO (.slice ra L.length rc) (.slice (some ⟨wr.heap.size, 0, none⟩) 1 1) L [A[j]] w.heap.size (wr.alloc (.cells #[.int .i64 A[j]] 3)) (aZ HW.out hgx (λ_ _ e => e)) (ay.dG (f := aB) (l := [A[j]]) cO (heap_alloc_new wr _) (by simp[flat, aB]) (Nat.le_of_ble_eq_true rfl)) (λy hy u hu => by simp[aB]at hu; subst hu; rfl) (gtr HG.out hgx).size (by have := xP.out; simp; omega)
      have HN := Lib.hid (And.intro (bN (gtr HG.out hgx) hm2 (λb e => (bH HW.out b e).1)) hr2)
      clear hgx hr2 hm2
      simp only[List.length_append, List.length_cons, List.length_nil, Nat.zero_add]at HN
      rw[hj]
      have HJ := Lib.hid hj
      have hj0 : decide ((0 : Int) <= (j : Int)) = true := by simp
      clear hge hj hle
      generalize A[j] = x at *
      have hLn := xP.out
      have hbd : (j : Int) < (A.length : Nat) := by omega
      go_wp2_with fail
      go_roundw
      case rel => exact⟨k + 1, L ++ [x], by have := HJ.out; simp only[Value.int.injEq, true_and]; omega, by omega, HX.out, HN.out.1, by have := HN.out.2; simpa using this⟩
      case measure => (simp[intOf] <;> omega)
    · obtain rfl : k = A.length := by omega
      have hge : decide ((0 : Int) <= (A.length : Int) - 1 - A.length) = false := by simp; omega
      have HX := Lib.hid (show L ++ [(A.length : Int)] = G ++ A.reverse ++ [(A.length : Int)]from by rw[HL.out, List.take_of_length_le (by simp)])
      have hgx : Grow wr (wr.alloc (.cells #[.int .i64 (A.length : Nat)] 3)) := (Mv.refl _ _).alloc _
      obtain⟨a', c', w2, ⟨hok, jZ, haw⟩, hr2, hm2, -⟩ := jv Tryz.kG (f := aB) cO (.slice ra L.length rc) (.slice (some ⟨wr.heap.size, 0, none⟩) 1 1) L [(A.length : Int)] w.heap.size (wr.alloc (.cells #[.int .i64 (A.length : Nat)] 3)) (aZ HW.out hgx (λ_ _ e => e)) (ay.dG (f := aB) (l := [(A.length : Int)]) cO (heap_alloc_new wr _) (by simp[flat, aB]) (Nat.le_of_ble_eq_true rfl)) (λy hy u hu => by simp[aB]at hu; subst hu; rfl) (gtr HG.out hgx).size (by have := xP.out; simp; omega)
      have HN := Lib.hid (And.intro (bN (gtr HG.out hgx) hm2 (λb e => (bH HW.out b e).1)) (bX cO hr2))
      clear hgx hr2 hm2
      simp only[List.length_append, List.length_cons, List.length_nil, Nat.zero_add]at HN
      have HY := Lib.hid (show JQ w (some (L ++ [(A.length : Int)])) (.returned (.tuple #[.slice a' (L.length + 1) c', .int .i64 0])) w2 from⟨a', c', by simp, by have := HN.out.2; simpa using this, HN.out.1⟩)
      rw[HX.out]at HY
      clear HX HN HW HL
      have hLn := xP.out
      go_wp2_with fail
      go_ret2
      rw[HR.out]
      exact HY.out
  · have HR := Lib.hid (show uA A G = none from if_neg hle)
    have hd : decide ((1000 : Int) < (A.length : Int) + G.length + 1) = true := by simp; omega
    clear ha hb hle
    generalize uA A G = R at *
    go_enter Tryz.func11, Tryz.ntmps11
    go_wp2_with fail
    go_ret2
    rw[HR.out]
    exact⟨rfl, Mv.refl _ _⟩
set_option maxRecDepth 100000 in
set_option maxHeartbeats 6400000 in
theorem Iq (va : Option Addr) (ca : Nat) (vb : Option Addr) (cb n m : Nat) (w : World) (hn : n <= 9223372036854775807) (hm : m <= 9223372036854775807) : Calls Tryz.prog 9 #[.slice va n ca, .slice vb m cb] w λe w' => e = .returned (.bool (decide (1000 < n) || decide (1000 < m))) /\ w = w' := by
  by_cases h1 : 1000 < n
  · have hd : decide ((1000 : Int) < n) = true := by simp; omega
    have h2 : decide (1000 < n) = true := by simpa using h1
    go_enter Tryz.func9, Tryz.ntmps9
    go_wp2_with fail
    go_ret
    rw[h2]
    exact⟨rfl, rfl⟩
  · have hd : decide ((1000 : Int) < n) = false := by simp; omega
    have h2 : decide (1000 < n) = false := by simpa using h1
    have h3 : decide ((1000 : Int) < m) = decide (1000 < m) := by
      by_cases h : 1000 < m
      · rw[decide_eq_true h, decide_eq_true (by omega)]
      · rw[decide_eq_false h, decide_eq_false (by omega)]
    rw[h2, ← h3]
    clear h1 h2 h3
    go_enter Tryz.func9, Tryz.ntmps9
    go_wp2_with fail
    go_ret
    exact⟨by simp, rfl⟩
theorem uu {w : World} {g : Nat} {cs : Array Value} (l : List Int) (h : w.heap[g]? = some (.cells cs 3 (0, 0))) (hc : cs.toList = flat aB l) (hl : l.length <= 9223372036854775807) : ay 1 aB w (.slice (some ⟨g, 0, none⟩) l.length l.length) l := ay.dG (f := aB) cO h hc hl
set_option maxRecDepth 100000 in
set_option maxHeartbeats 12800000 in
theorem yB (w : World) : Calls Tryz.prog 8 #[] w (fq w true) := by
  have hE1 : xe (exec iG 100000 1022 (.stmts [gM 50 rR]) false (s0 [1, 2] [7])) (.ok ([1, 2], [7, 1, 2])) := by
    have := Sb (A := [1, 2]) (G := [7]) (Nat.le_of_ble_eq_true rfl)
    rwa[show wY [1, 2] [7] = .ok ([1, 2], [7, 1, 2])from by rw[Sa _ _ (Nat.le_of_ble_eq_true rfl) (Nat.le_of_ble_eq_true rfl)]; rfl]at this
  have hE2 : xe (exec iG 100000 1022 (.stmts [gM 50 oC]) false (s0 [1, 2] [7])) (.ok ([], [7, 2, 1, 2])) := by
    have := Ip (A := [1, 2]) (G := [7]) (Nat.le_of_ble_eq_true rfl)
    rwa[show wR [1, 2] [7] = .ok ([], [7, 2, 1, 2])from by rw[Im]; rfl]at this
  have hg0 : Grow w ((w.alloc (.cells #[.int .i64 1, .int .i64 2] 3)).alloc (.cells #[.int .i64 7] 3)) := ((Mv.refl _ w).alloc _).alloc _
  have hb1 := bY (heap_alloc_new w (.cells #[.int .i64 1, .int .i64 2] 3)) (.cells #[.int .i64 7] 3)
  have hb2 := heap_alloc_new (w.alloc (.cells #[.int .i64 1, .int .i64 2] 3)) (.cells #[.int .i64 7] 3)
  rw[World.size_alloc]at hb2
  have HR1 := Lib.hid (Bc 50 rR _ _ [1, 2] [7] _ _ (uu [1, 2] hb1 rfl (by decide)) (uu [7] hb2 rfl (by decide)) (.inl rfl) (.inl rfl) (Nat.le_of_ble_eq_true rfl) (Nat.le_of_ble_eq_true rfl) hE1)
  have iI := Lib.hid hg0
  have HE2 := Lib.hid hE2
  clear hE1 hE2 hg0 hb1 hb2
  go_enter Tryz.func8, Tryz.ntmps8
  go_wp2_with fail
  refine HR1.out.mono ?_
  rintro e w1 ⟨va, ca, vb, cb, rfl, ha, hb, hg⟩
  have HA := Lib.hid ha
  have HB := Lib.hid hb
  have aj := Lib.hid (gtr iI.out hg)
  clear ha hb hg HR1 iI
  have hg0 : Grow w1 ((w1.alloc (.cells #[.int .i64 1, .int .i64 2] 3)).alloc (.cells #[.int .i64 7] 3)) := ((Mv.refl _ w1).alloc _).alloc _
  have hb1 := bY (heap_alloc_new w1 (.cells #[.int .i64 1, .int .i64 2] 3)) (.cells #[.int .i64 7] 3)
  have hb2 := heap_alloc_new (w1.alloc (.cells #[.int .i64 1, .int .i64 2] 3)) (.cells #[.int .i64 7] 3)
  rw[World.size_alloc]at hb2
  have HR2 := Lib.hid (Bc 50 oC _ _ [1, 2] [7] _ _ (uu [1, 2] hb1 rfl (by decide)) (uu [7] hb2 rfl (by decide)) (.inl rfl) (.inr rfl) (Nat.le_of_ble_eq_true rfl) (Nat.le_of_ble_eq_true rfl) HE2.out)
  have iI := Lib.hid hg0
  clear hg0 hb1 hb2 HE2
  simp only[List.length_cons, List.length_nil, Nat.zero_add, Nat.reduceAdd]
  go_wp2_with fail
  refine HR2.out.mono ?_
  rintro e w2 ⟨vc, cc, vd, cd, rfl, hc, hd, hg⟩
  have CV := Lib.hid (gtr iI.out hg)
  have HC := Lib.hid hc
  have HD := Lib.hid hd
  have HG2 := Lib.hid (gtr aj.out CV.out)
  have HI1 := Lib.hid (λy (hy : Grow w2 y) (g : Nat) (hb : y.heap[g]? = some (.cells #[.int .i64 1, .int .i64 2] 3 (0, 0))) => um va ca (some ⟨g, 0, none⟩) 2 [1, 2] [1, 2] y (HA.out.later (gtr CV.out hy)) (uu [1, 2] hb rfl (by decide)) (Nat.le_of_ble_eq_true rfl) (Nat.le_of_ble_eq_true rfl))
  have HI2 := Lib.hid (λy (hy : Grow w2 y) (g : Nat) (hb : y.heap[g]? = some (.cells #[.int .i64 7, .int .i64 1, .int .i64 2] 3 (0, 0))) => um vb cb (some ⟨g, 0, none⟩) 3 [7, 1, 2] [7, 1, 2] y (HB.out.later (gtr CV.out hy)) (uu [7, 1, 2] hb rfl (by decide)) (Nat.le_of_ble_eq_true rfl) (Nat.le_of_ble_eq_true rfl))
  have HI3 := Lib.hid (λy (hy : Grow w2 y) (g : Nat) (hb : y.heap[g]? = some (.cells #[.int .i64 7, .int .i64 2, .int .i64 1, .int .i64 2] 3 (0, 0))) => um vd cd (some ⟨g, 0, none⟩) 4 [7, 2, 1, 2] [7, 2, 1, 2] y (HD.out.later hy) (uu [7, 2, 1, 2] hb rfl (by decide)) (Nat.le_of_ble_eq_true rfl) (Nat.le_of_ble_eq_true rfl))
  simp only[List.length_cons, List.length_nil, Nat.zero_add, Nat.reduceAdd]at HI1 HI2 HI3 ⊢
  clear hc hd hg HR2 iI HA HB HC HD CV
  have hgx : Grow w2 (w2.alloc (.cells #[.int .i64 1, .int .i64 2] 3)) := (Mv.refl _ _).alloc _
  have jE := Lib.hid (HI1.out _ hgx _ (heap_alloc_new w2 _))
  have aT := Lib.hid hgx
  clear hgx HI1
  go_wp2_with fail
  refine jE.out.mono ?_
  rintro e w3 ⟨rfl, hg⟩
  have aA := Lib.hid (gtr aT.out hg)
  clear hg jE aT
  have hgx : Grow w3 (w3.alloc (.cells #[.int .i64 7, .int .i64 1, .int .i64 2] 3)) := (Mv.refl _ _).alloc _
  have eH := Lib.hid (HI2.out _ (gtr aA.out hgx) _ (heap_alloc_new w3 _))
  have aT := Lib.hid (gtr aA.out hgx)
  clear hgx HI2 aA
  have hbe : (([1, 2] : List Int) == [1, 2]) = true := rfl
  rw[hbe]
  clear hbe
  go_wp2_with fail
  refine eH.out.mono ?_
  rintro e w4 ⟨rfl, hg⟩
  have bB := Lib.hid (gtr aT.out hg)
  clear hg eH aT
  have hgx : Grow w4 (w4.alloc (.cells #[.int .i64 7, .int .i64 2, .int .i64 1, .int .i64 2] 3)) := (Mv.refl _ _).alloc _
  have iU := Lib.hid (HI3.out _ (gtr bB.out hgx) _ (heap_alloc_new w4 _))
  have aT := Lib.hid (gtr bB.out hgx)
  clear hgx HI3 bB
  have hbe : (([7, 1, 2] : List Int) == [7, 1, 2]) = true := rfl
  rw[hbe]
  clear hbe
  go_wp2_with fail
  refine iU.out.mono ?_
  rintro e w5 ⟨rfl, hg⟩
  have bI := Lib.hid (gtr HG2.out (gtr aT.out hg))
  clear hg iU aT
  have hbe : (([7, 2, 1, 2] : List Int) == [7, 2, 1, 2]) = true := rfl
  rw[hbe]
  clear hbe
  go_wp2_with fail
  go_ret
  exact⟨rfl, bI.out⟩
attribute [local go_sem ↓] fB
def JR (w : World) (e : Ending) (w' : World) : Prop := ∃ a c, e = .returned (.slice a 0 c) /\ w'.ownsRow w.heap.size 3 1 (.slice a 0 c) ([] : List Int).length (flat aB []) /\ Grow w w'
theorem Gl (z : Array Value) (n : Nat) : (Builtin.zeroCells z n).size = n * z.size := by simp[Builtin.zeroCells]
set_option maxRecDepth 100000 in
set_option maxHeartbeats 6400000 in
theorem Sg (n : Nat) (w : World) (hn : n <= 900000) : Calls Tryz.prog 34 #[.slice none 0 0, .int .i64 n] w (JR w) := by
  by_cases h0 : n = 0
  · subst h0
    go_enter Tryz.func34, Tryz.ntmps34
    go_wp2_with fail
    go_ret
    exact⟨_, _, rfl, World.ownsRow_nil _ _ _ _, Mv.refl _ _⟩
  · obtain⟨i0, hi, hz0, hz1, hz2⟩ := info_parts Tryz.DT
    have hr := Go.Lib.run_append_nil_zeros (P := Tryz.prog) w 22 3 22 3 i0 (.int .i64 0) .i64 .i64 Tryz.underlying22 Tryz.underlying3 hi hz0 n (by omega) (by rw[hz1]; decide) (by omega) (by rw[hz2]; omega)
    have hge := grownCap_ge w n 0 3
    have hle := grownCap_le_maxLen w n 0 3 (by unfold maxLen; omega)
    have hb := heap_alloc_new w.drew (.cells (Builtin.zeroCells (Value.int .i64 0).cells n ++ Builtin.zeroCells (Value.int .i64 0).cells (grownCap w n 0 3 - n)) 3)
    have HQ := Lib.hid (show JR w (.returned (.slice (some ⟨w.heap.size, 0, none⟩) 0 (grownCap w n 0 3))) (w.drew.alloc (.cells (Builtin.zeroCells (Value.int .i64 0).cells n ++ Builtin.zeroCells (Value.int .i64 0).cells (grownCap w n 0 3 - n)) 3))from
      ⟨_, _, rfl, ⟨rfl, .inr ⟨w.heap.size, grownCap w n 0 3, _, rfl, Nat.le_refl _, hb, Nat.zero_le _, hle, by rw[Array.size_append, Gl, Gl]; simp only[Value.cells, List.size_toArray, List.length_cons, List.length_nil]; omega, rfl⟩⟩, ((Mv.refl _ w).drew).alloc _⟩)
    have hd : decide ((0 : Int) < n) = true := by simp; omega
    generalize grownCap w n 0 3 = gc at *
    clear hb
    go_enter Tryz.func34, Tryz.ntmps34
    go_wp2_with (at_builtin; refine Go.Lib.wpList_append_run _ rfl _ _ _ _ rfl _ _ rfl rfl _ _ hr ?_)
    go_ret
    exact HQ.out
def KQ (w : World) (l : List Int) (e : Ending) (w' : World) : Prop := ∃ a c, e = .returned (.slice a l.length c) /\ w'.ownsRow w.heap.size 3 1 (.slice a l.length c) l.length (flat aB l) /\ Grow w w'
def pre (L : List (List Int)) (k : Nat) : List Int := (L.take k).flatten
theorem IY (L : List (List Int)) : pre L 0 = [] := rfl
theorem Jo (L : List (List Int)) : pre L L.length = L.flatten := by unfold pre; rw[List.take_length]
theorem Si (L : List (List Int)) (k : Nat) (h : k < L.length) : pre L (k + 1) = pre L k ++ L[k] := by unfold pre; rw[List.take_succ_eq_append_getElem h, List.flatten_append]; simp
theorem Ty (L : List (List Int)) (k : Nat) : (pre L k).length <= L.flatten.length := by
  have : L.flatten = pre L k ++ (L.drop k).flatten := by unfold pre; rw[← List.flatten_append, List.take_append_drop]
  rw[this]; simp
set_option maxRecDepth 100000 in
set_option maxHeartbeats 6400000 in
theorem G9 (cv : Value) (L : List (List Int)) (w : World) (hc : Vs w cv L) (hl : L.length <= 1000) (hL : L.flatten.length <= 900000) : Calls Tryz.prog 23 #[cv] w (KQ w L.flatten) := by
  obtain⟨ca, cc, rfl⟩ := hc.form
  have HC := Lib.hid hc
  have HP := Lib.hid (λk (h : k < L.length) => Si L k h)
  have pz := Lib.hid (λk => Nat.le_trans (Ty L k) hL)
  clear hc
  go_enter Tryz.func23, Tryz.ntmps23
  go_wp2_with fail
  go_loopw [3, 11] (λs t wr => ∃ k : Nat, s = .int .i64 ((pre L k).length : Nat) /\ t = .int .i64 k /\ k <= L.length /\ Grow w wr) (λ_ t _ => L.length - (intOf t).toNat)
  case atStart => exact⟨0, by rw[IY]; rfl, rfl, Nat.zero_le _, Mv.refl _ _⟩
  obtain⟨k, rfl, rfl, hk, hg⟩ := hrel
  have HG := Lib.hid hg
  clear hg
  by_cases hlt : k < L.length
  · obtain⟨cb, co, rfl, la, lc, d0, hrl⟩ := (HC.out.later HG.out).at hlt
    have hdl := World.block_lt_of_cell? wr _ d0
    simp only at hdl
    have hp := HP.out k hlt
    have hb1 := pz.out (k + 1)
    rw[hp, List.length_append]at hb1
    have HQ := Lib.hid (show(((pre L k).length : Nat) : Int) + (L[k].length : Nat) = ((pre L (k + 1)).length : Nat)from by rw[hp]; simp)
    have hbd : (k : Int) < (L.length : Nat) := by omega
    clear hrl hp
    generalize hS : (pre L k).length = S at *
    generalize hK : L[k].length = K at *
    have hneg : decide ((S : Int) + (K : Int) < 0) = false := by simp; omega
    clear hS hK
    go_wp2_with fail
    go_roundw
    case rel => exact⟨k + 1, by rw[← HQ.out], by go_num, by omega, HG.out⟩
    case measure => (simp[intOf] <;> omega)
  · obtain rfl : k = L.length := by omega
    rw[Jo]
    obtain⟨F, hF⟩ : ∃ F, F = L.flatten := ⟨_, rfl⟩
    have hlt' : decide ((L.length : Int) < L.length) = false := by simp
    have bR := Lib.hid (Sg L.flatten.length wr hL)
    rw[← hF]at bR ⊢
    have OI := Lib.hid hF
    have YM : F.length <= 900000 := by rw[hF]; exact hL
    clear hF hL
    go_wp2_with fail
    refine bR.out.mono ?_
    rintro e w3 ⟨ga, gc, rfl, hrow, hg⟩
    have aA := Lib.hid (gtr HG.out hg)
    have HR3 := Lib.hid (iZ hrow HG.out.size)
    clear hrow hg bR hlt'
    go_wp2_with fail
    go_loopw [6, 27] (λs t wr => ∃ k : Nat, t = .int .i64 k /\ k <= L.length /\ Grow w wr /\ wr.ownsRow w.heap.size 3 1 s (pre L k).length (flat aB (pre L k))) (λ_ t _ => L.length - (intOf t).toNat)
    case atStart => exact⟨0, rfl, Nat.zero_le _, aA.out, by rw[IY]; exact HR3.out⟩
    obtain⟨k, rfl, hk, hg, hrow⟩ := hrel
    have CW := Lib.hid hg
    have CX := Lib.hid hrow
    obtain⟨ra, rc, eF⟩ := dL hrow
    subst eF
    clear hg hrow aA HR3
    by_cases hlt : k < L.length
    · obtain⟨cb, co, rfl, la, lc, d0, hrl⟩ := (HC.out.later CW.out).at hlt
      have hdl := World.block_lt_of_cell? _ _ d0
      simp only at hdl
      have hp := HP.out k hlt
      have hb1 := pz.out (k + 1)
      rw[hp, List.length_append]at hb1
      obtain⟨a', c', w2, ⟨hok, jZ, haw⟩, hr2, hm2, -⟩ := jv Tryz.kG (f := aB) cO (.slice ra (pre L k).length rc) (.slice la L[k].length lc) (pre L k) L[k] w.heap.size _ CX.out hrl (λy hy u hu => by simp[aB]at hu; subst hu; rfl) CW.out.size (by omega)
      have hr3 : w2.ownsRow w.heap.size 3 1 (.slice a' ((pre L k).length + L[k].length) c') (pre L (k + 1)).length (flat aB (pre L (k + 1))) := by rw[hp]; exact hr2
      have HN := Lib.hid (And.intro (bN CW.out hm2 (λb e => (bH CX.out b e).1)) hr3)
      have hbd : (k : Int) < (L.length : Nat) := by omega
      clear hrl hp hr2 hr3 hm2
      generalize (pre L k).length = S at *
      generalize L[k].length = K at *
      go_wp2_with fail
      go_roundw
      case rel => exact⟨k + 1, by go_num, by omega, HN.out.1, HN.out.2⟩
      case measure => (simp[intOf] <;> omega)
    · obtain rfl : k = L.length := by omega
      have HF := Lib.hid (show KQ w F (.returned (.slice ra (pre L L.length).length rc)) _ from by
        have h1 := CX.out
        rw[Jo, ← OI.out]at h1 ⊢
        exact⟨ra, rc, rfl, h1, CW.out⟩)
      have hlt' : decide ((L.length : Int) < L.length) = false := by simp
      clear CX
      generalize (pre L L.length).length = S at *
      go_wp2_with fail
      go_ret
      rw[← OI.out]
      exact HF.out
set_option maxRecDepth 100000 in
theorem P7 (base : Nat) (a : Option Addr) (c : Nat) (l : List Int) (w : World) (h : w.ownsRow base 3 1 (.slice a l.length c) l.length (flat aB l)) (hl : l.length <= 900000) : Calls Tryz.prog 24 #[.slice a l.length c] w λe w' => e = .returned (.tuple #[]) /\ ay 1 aB w' (.slice a l.length c) l.reverse /\ Mv (λb => (Value.slice a l.length c).ownBlock = some b) w w' := by
  by_cases h0 : l = []
  · subst h0
    refine(Tryz.slices_Reverse_int_empty a c w).mono ?_
    rintro e w' ⟨rfl, rfl⟩
    exact⟨rfl, bX cO h, Mv.refl _ _⟩
  · have hpos : 0 < l.length := List.length_pos_iff.2 h0
    have hrow := bX cO h
    obtain⟨g, cap, cs, e1, hb1, hg⟩ := DY h hpos
    simp only[Value.slice.injEq, true_and]at e1
    obtain⟨rfl, rfl⟩ := e1
    have hH : Go.Sort.Holds (Value.int .i64) w g 0 l.toArray := λj hj => by
      have hj' : j < l.length := by simpa using hj
      obtain⟨b, o, e, hc, -⟩ := yI hrow hj'
      cases e
      refine⟨?_, bD hg _⟩
      rw[hc]
      simp[hj']
    refine(Tryz.slices_Reverse_int g 0 c l w hH (by omega)).mono ?_
    rintro e w' ⟨rfl, n, rfl⟩
    have hH2 := Go.Sort.holds_putRow (Value.int .i64) (Go.Sort.ahead w n) g 0 _ l.reverse.toArray hH (by simp)
    refine⟨rfl, ⟨some ⟨g, 0, none⟩, c, by simp, by simp; exact hrow.cap, by simp; omega, λi x hx => ⟨g, 0, rfl, λj u hu => ?_⟩⟩, rfl, rfl, rfl, ?_, λb hb hn => ?_⟩
    · have hi := (List.getElem?_eq_some_iff.1 hx).1
      obtain rfl : j = 0 := by
        have := (List.getElem?_eq_some_iff.1 hu).1
        simpa[aB]using this
      have hu' : u = .int .i64 x := by simpa[aB]using hu.symm
      have hc := (hH2 i (by simpa using hi)).1
      simp only[Nat.mul_one, Nat.add_zero]
      rw[hc, hu']
      have Xf : l.reverse[i]'hi = x := by rw[List.getElem?_eq_getElem hi]at hx; simpa using hx
      rw[getElem!_pos l.reverse.toArray i (by simpa using hi)]
      simp only[List.getElem_toArray, Xf]
    · show _ <= (w.heap.modify g _).size
      simp
    · show(w.heap.modify g _)[b]? = _
      rw[Array.getElem?_modify]
      have : ¬ g = b := λe => hn (by rw[e]; rfl)
      simp[this]
def rT (k : IntKind) (w : World) (a : Option Addr) (len cap : Nat) (zs : List Int) : Prop :=
  (a = none /\ len = 0 /\ cap = 0 /\ zs = []) \/
  ∃ x, a = some x /\ len <= cap /\ cap <= maxLen /\ zs.length = cap /\ (∀ i, i < zs.length -> w.cell? (x.add i) = some (.int k (zs.getD i 0))) /\ ∀ n ∈ zs, (Lit.int k n).wf = true
theorem rT.row {w : World} {a : Option Addr} {len cap : Nat} {zs : List Int} (h : rT .i64 w a len cap zs) : ∃ A : List Int, len = A.length /\ ay 1 aB w (.slice a A.length cap) A /\ ∀ x ∈ A, (Lit.int .i64 x).wf = true := by
  rcases h with⟨rfl, rfl, rfl, rfl⟩|⟨x, rfl, h1, h2, h3, h4, h5⟩
  · exact⟨[], rfl, ay.nil _ _ _, by simp⟩
  · have hl : len = (zs.take len).length := by simp; omega
    refine⟨zs.take len, hl, ⟨_, _, rfl, by omega, by unfold maxLen at h2; omega, λi y hy => ?_⟩, λy hy => h5 y (List.mem_of_mem_take hy)⟩
    have hi := (List.getElem?_eq_some_iff.1 hy).1
    have hiz : i < zs.length := by omega
    obtain⟨b, o, rfl, hc⟩ := ints_at h4 (by omega)
    refine⟨b, o, rfl, λj u hu => ?_⟩
    have hj : j = 0 := by
      have := (List.getElem?_eq_some_iff.1 hu).1
      simp[aB]at this; exact this
    subst hj
    have hu' : u = .int .i64 y := by simpa[aB]using hu.symm
    have hy' : zs.getD i 0 = y := by
      rw[List.getElem?_take_of_lt (by omega)]at hy
      simp[List.getD, hy]
    rw[hu', ← hy', ← hc i hiz]
    simp
theorem Sj {w w' : World} (hg : Grow w w') : Below w.heap.size w w' := ⟨hg.os, hg.tape, hg.output, hg.size, λj hj => hg.block j hj (λh => h)⟩
theorem ay.Br {w : World} {a : Option Addr} {c : Nat} {l : List Int} (h : ay 1 aB w (.slice a l.length c) l) : l.length <= 9223372036854775807 := by
  obtain⟨_, _, _, _, h⟩ := h.form
  simpa using h
set_option maxRecDepth 100000 in
set_option maxHeartbeats 12800000 in
theorem Xo (va : Option Addr) (ca : Nat) (vb : Option Addr) (cb : Nat) (A G : List Int) (w : World) (ha : ay 1 aB w (.slice va A.length ca) A) (hb : ay 1 aB w (.slice vb G.length cb) G) :
    Calls Tryz.prog 3 #[.slice va A.length ca, .slice vb G.length cb] w (fq w true) := by
  have bR := Lib.hid (λy => Iq va ca vb cb A.length G.length y ha.Br hb.Br)
  have HA := Lib.hid ha
  have HB := Lib.hid hb
  by_cases hgt : 1000 < A.length \/ 1000 < G.length
  · have hd : (decide (1000 < A.length) || decide (1000 < G.length)) = true := by simpa using hgt
    rw[hd]at bR
    clear ha hb hgt hd
    go_enter Tryz.func3, Tryz.ntmps3
    go_wp2_with fail
    refine(yB w).mono ?_
    rintro e w1 ⟨rfl, hg⟩
    have HG := Lib.hid hg
    clear hg
    go_wp2_with fail
    refine(bR.out w1).mono ?_
    rintro e w2 ⟨rfl, rfl⟩
    go_wp2_with fail
    go_ret
    exact⟨rfl, HG.out⟩
  · have hd : (decide (1000 < A.length) || decide (1000 < G.length)) = false := by simp; omega
    have hA : A.length <= 1000 := by omega
    have hG : G.length <= 1000 := by omega
    rw[hd]at bR
    have hE := Ip (A := A) (G := G) hA
    rw[Im]at hE
    have dw := Lib.hid (λy (hy : Grow w y) => G8 va ca vb cb A G y (ha.later hy) (hb.later hy) hA hG)
    unfold uA at dw
    by_cases hle : A.length + G.length + 1 <= 1000
    · rw[if_pos hle]at hE dw
      have HL := Lib.hid (show(G ++ A.reverse ++ [(A.length : Int)]).length <= 900000 from by simp; omega)
      obtain⟨L, hL⟩ : ∃ L, L = G ++ A.reverse ++ [(A.length : Int)] := ⟨_, rfl⟩
      rw[← hL]at hE dw HL
      clear hL
      have Am := Lib.hid (λy (hy : Grow w y) => Bc 50 oC (.slice va A.length ca) (.slice vb G.length cb) A G _ y (ha.later hy) (hb.later hy) (.inl rfl) (.inr rfl) hA hG hE)
      clear ha hb hgt hd hE hle
      go_enter Tryz.func3, Tryz.ntmps3
      go_wp2_with fail
      refine(yB w).mono ?_
      rintro e w1 ⟨rfl, hg⟩
      have aj := Lib.hid hg
      clear hg
      go_wp2_with fail
      refine(bR.out w1).mono ?_
      rintro e w2 ⟨rfl, rfl⟩
      go_wp2_with fail
      refine(Am.out w1 aj.out).mono ?_
      rintro e w3 ⟨xa, xc, ya, yc, rfl, hx, hy, hg⟩
      have aA := Lib.hid (gtr aj.out hg)
      have HY := Lib.hid hy
      clear hg hx hy Am
      simp only[List.length_nil]
      go_wp2_with fail
      refine(dw.out w3 aA.out).mono ?_
      rintro e w4 ⟨za, zc, rfl, hz, hg⟩
      have HI := Lib.hid (um ya yc za zc L L w4 (HY.out.later hg) hz HL.out HL.out)
      have bB := Lib.hid (gtr aA.out hg)
      clear hg hz dw HY
      rw[show(L == L) = true from by simp]at HI
      go_wp2_with fail
      refine HI.out.mono ?_
      rintro e w5 ⟨rfl, hg⟩
      have bI := Lib.hid (gtr bB.out hg)
      clear hg
      go_wp2_with fail
      go_ret
      exact⟨rfl, bI.out⟩
    · rw[if_neg hle]at hE dw
      have Am := Lib.hid (λy (hy : Grow w y) => Bc 50 oC (.slice va A.length ca) (.slice vb G.length cb) A G _ y (ha.later hy) (hb.later hy) (.inl rfl) (.inr rfl) hA hG hE)
      clear ha hb hgt hd hE hle
      go_enter Tryz.func3, Tryz.ntmps3
      go_wp2_with fail
      refine(yB w).mono ?_
      rintro e w1 ⟨rfl, hg⟩
      have aj := Lib.hid hg
      clear hg
      go_wp2_with fail
      refine(bR.out w1).mono ?_
      rintro e w2 ⟨rfl, rfl⟩
      go_wp2_with fail
      refine(Am.out w1 aj.out).mono ?_
      rintro e w3 ⟨-, rfl, hg⟩
      have aA := Lib.hid (gtr aj.out hg)
      clear hg Am
      go_wp2_with fail
      refine(dw.out w3 aA.out).mono ?_
      rintro e w4 ⟨rfl, hg⟩
      have bB := Lib.hid (gtr aA.out hg)
      clear hg dw
      go_wp2_with fail
      go_ret
      exact⟨rfl, bB.out⟩
end Go.Proofs.YtbpodipdfohikaaGreat
