import Derived.Test.YtbpodipdfohikaaGreatL39
set_option linter.unusedSimpArgs false
set_option linter.unusedVariables false
set_option maxRecDepth 100000
set_option maxHeartbeats 25600000
namespace Go.Proofs.YtbpodipdfohikaaGreat
open Go.RowKit
def tJ : Tree := bT (aW (aL sT) (aC 0)) (aW (aL sA) (aC 0)) [dz sA sT]
def lp2 : Tree := bT (aW (aL sA) (aC 0)) (aW (aL sT) (aC 0)) [kK]
def oq : List Int -> List Int -> List Int -> Except Int (List Int × List Int × List Int)
  | [], b, a => .ok ([], b, a)
  |e :: r, b, a => if 1000 <= b.length then .error 5 else if 1000 <= a.length then .error 5 else oq r (b ++ [e]) (a ++ [e])
def lh : List Int -> List Int -> List Int -> Except Int (List Int × List Int × List Int)
  | [], s, t => .ok (t, s.reverse, [])
  |_ :: _, [], _ => .error 13
  |e :: r, f :: s, t => if f ≠ e then .error 16 else if 1000 <= t.length then .error 5 else lh r s (t ++ [e])
theorem vY : aN (aW (aL sT) (aC 0)) = true := by decide +kernel
theorem vZ : aN (aL sT) = true := by decide +kernel
theorem Oz : aX tJ = true := by decide +kernel
theorem OA : aX lp2 = true := by decide +kernel
theorem OB : aX (qB sT [tJ, lp2]) = true := by decide +kernel
theorem Ak.trans {it ib ia : Nat} {C C' qR : List (List Int)} {t b a t' b' a' : List Int} (h : Ak it ib ia C C' t b a) (h2 : Ak it ib ia C' qR t' b' a') : Ak it ib ia C qR t' b' a' := ⟨h2.t, h2.b, h2.a, h.s.trans h2.s⟩
section
variable {P : List bA} {V : List (au × Nat)} {n fuel : Nat} {B : dD} {it ib ia : Nat} (ht : bf V sT = some (⟨sT, 3, 0⟩, it)) (hb : bf V sB = some (⟨sB, 3, 0⟩, ib)) (ha : bf V sA = some (⟨sA, 3, 0⟩, ia)) (hx : bf V sX = none) (hy : bf V sY = none) (h1 : it ≠ ib) (h2 : it ≠ ia) (h3 : ib ≠ ia)
include ht hb ha hx hy h1 h2 h3
theorem GD : ∀ (r : List Int) {C : List (List Int)} {st g : Nat} {b a : List Int}, C[it]? = some r.reverse -> C[ib]? = some b -> C[ia]? = some a -> st + 9 * r.length + 9 <= fuel -> r.length + 10 <= g ->
    Bo V n st (9 * r.length + 1) B it ib ia C (exec P fuel g (.round lp2) false (S4 C V n st B)) (oq r b a)
  | [], C, st, g, b, a, ct, cb, ca, hf, hg => by
    obtain⟨g, rfl⟩ : ∃ k, g = k + 2 := ⟨g - 2, by simp at hg; omega⟩
    unfold lp2
    rw[yt]
    simp only[Bool.false_eq_true, if_false]
    rw[S4.holds (by simp at hf; omega) (iO vY vZ ht ct)]
    simp only[List.length_nil, List.reverse_nil, beq_self_eq_true, if_true, rJ, aI, oq]
    exact⟨C, st + 1, rfl, ⟨ct, cb, ca, dS.refl _ _⟩, by omega⟩
  |e :: r, C, st, g, b, a, ct, cb, ca, hf, hg => by
    simp only[List.length_cons]at hf hg
    obtain⟨g, rfl⟩ : ∃ k, g = k + 9 := ⟨g - 9, by omega⟩
    have e1 : ((e :: r).reverse.length == 0) = false := by simp
    have e2 : (e :: r).reverse ≠ [] := by simp
    have e3 : (e :: r).reverse.dropLast = r.reverse := by simp
    have e4 : (e :: r).reverse.getLast?.getD 0 = e := by simp
    unfold lp2
    rw[yt]
    simp only[Bool.false_eq_true, if_false]
    rw[S4.holds (by omega) (iO vY vZ ht ct)]
    simp only[e1, Bool.false_eq_true, if_false, uq, aI]
    rw[show turned false [kK] = [kK]from rfl, eX]
    have hd := SS (P := P) (n := n) (fuel := fuel) (B := B) ht hb ha hx hy h1 h2 h3 (st := st + 1) (g := g + 1) ct cb ca (by omega)
    unfold EL at hd
    simp only[e2, e3, e4, if_false]at hd
    rw[oq]
    by_cases hF : 1000 <= b.length
    · rw[if_pos hF]at hd ⊢
      have hd : exec P fuel (g + 1 + 6) _ _ _ = _ := hd
      rw[hd]; rfl
    rw[if_neg hF]at hd ⊢
    by_cases hF2 : 1000 <= a.length
    · rw[if_pos hF2]at hd ⊢
      have hd : exec P fuel (g + 1 + 6) _ _ _ = _ := hd
      rw[hd]; rfl
    rw[if_neg hF2]at hd ⊢
    obtain⟨C', st', d1, d2, d3⟩ := hd
    rw[d1]
    simp only[aI, jr]
    rw[S4.holds (by omega) (iO pK jG ha d2.a)]
    have e5 : ((a ++ [e]).length == 0) = false := by simp
    simp only[e5, Bool.false_eq_true, if_false, uq]
    have ih := GD r (C := C') (st := st' + 1) (g := g + 8) (b := b ++ [e]) (a := a ++ [e]) d2.t d2.b d2.a (by omega) (by omega)
    unfold lp2 at ih
    cases hL : oq r (b ++ [e]) (a ++ [e])with
    |error x => rw[hL]at ih; exact ih
    |ok y =>
      rw[hL]at ih
      obtain⟨qR, EM, f1, f2, f3⟩ := ih
      exact⟨qR, EM, f1, d2.trans f2, by simp only[List.length_cons]; omega⟩
theorem Gp : ∀ (r s : List Int) {C : List (List Int)} {st g : Nat} {t : List Int}, C[it]? = some t -> C[ib]? = some s.reverse -> C[ia]? = some r.reverse -> st + 9 * r.length + 9 <= fuel -> r.length + 10 <= g ->
    Bo V n st (9 * r.length + 1) B it ib ia C (exec P fuel g (.round lp2) true (S4 C V n st B)) (lh r s t)
  | [], s, C, st, g, t, ct, cb, ca, hf, hg => by
    obtain⟨g, rfl⟩ : ∃ k, g = k + 2 := ⟨g - 2, by simp at hg; omega⟩
    unfold lp2
    rw[yt]
    simp only[if_true]
    rw[S4.holds (by simp at hf; omega) (iO pK jG ha ca)]
    simp only[List.length_nil, List.reverse_nil, beq_self_eq_true, if_true, rJ, aI, lh]
    exact⟨C, st + 1, rfl, ⟨ct, cb, ca, dS.refl _ _⟩, by omega⟩
  |e :: r, s, C, st, g, t, ct, cb, ca, hf, hg => by
    simp only[List.length_cons]at hf hg
    obtain⟨g, rfl⟩ : ∃ k, g = k + 9 := ⟨g - 9, by omega⟩
    have e1 : ((e :: r).reverse.length == 0) = false := by simp
    have e2 : (e :: r).reverse ≠ [] := by simp
    have e3 : (e :: r).reverse.dropLast = r.reverse := by simp
    have e4 : (e :: r).reverse.getLast?.getD 0 = e := by simp
    unfold lp2
    rw[yt]
    simp only[if_true]
    rw[S4.holds (by omega) (iO pK jG ha ca)]
    simp only[e1, Bool.false_eq_true, if_false, uq, aI]
    rw[show turned true [kK] = [kK]from rfl, eX]
    have hd := Rn (P := P) (n := n) (fuel := fuel) (B := B) ht hb ha hx hy h1 h2 h3 (st := st + 1) (g := g + 1) ct cb ca (by omega)
    unfold Eb at hd
    simp only[e2, e3, e4, if_false]at hd
    cases s with
    |nil =>
      simp only[List.reverse_nil, if_true, lh]at hd ⊢
      have hd : exec P fuel (g + 1 + 6) _ _ _ = _ := hd
      rw[hd]; rfl
    |cons f s =>
      have f2 : (f :: s).reverse ≠ [] := by simp
      have f3 : (f :: s).reverse.dropLast = s.reverse := by simp
      have f4 : (f :: s).reverse.getLast?.getD 0 = f := by simp
      simp only[f2, f3, f4, if_false]at hd
      rw[lh]
      by_cases hF : f ≠ e
      · rw[if_pos hF]at hd ⊢
        have hd : exec P fuel (g + 1 + 6) _ _ _ = _ := hd
        rw[hd]; rfl
      rw[if_neg hF]at hd ⊢
      by_cases hF2 : 1000 <= t.length
      · rw[if_pos hF2]at hd ⊢
        have hd : exec P fuel (g + 1 + 6) _ _ _ = _ := hd
        rw[hd]; rfl
      rw[if_neg hF2]at hd ⊢
      obtain⟨C', st', d1, d2, d3⟩ := hd
      rw[d1]
      simp only[aI, jr]
      rw[S4.holds (by omega) (iO vY vZ ht d2.t)]
      have e5 : ((t ++ [e]).length == 0) = false := by simp
      simp only[e5, Bool.false_eq_true, if_false, uq]
      have ih := Gp r s (C := C') (st := st' + 1) (g := g + 8) (t := t ++ [e]) d2.t d2.b d2.a (by omega) (by omega)
      unfold lp2 at ih
      cases hL : lh r s (t ++ [e])with
      |error x => rw[hL]at ih; exact ih
      |ok y =>
        rw[hL]at ih
        obtain⟨qR, EM, f1, f2, f3⟩ := ih
        exact⟨qR, EM, f1, d2.trans f2, by simp only[List.length_cons]; omega⟩
end
def wY (A G : List Int) : Except Int (List Int × List Int) := match gX (λs _ => s == 0) (λ_ d => d == 0) A.reverse []with
  |.error e => .error e
  |.ok (l, T) => if l = []then(match oq T.reverse G l with
    |.error e => .error e
    |.ok (t, b, a) => if t = []then .ok (a, b)else .error 16)else .error 15
def Jn (A G : List Int) : Except Int (List Int × List Int) := match lh A.reverse G.reverse []with
  |.error e => .error e
  |.ok (T, b, a) => if a = []then(match gX (λs _ => s == 0) (λ_ d => d == 0) T.reverse a with
    |.error e => .error e
    |.ok (t, a) => if t = []then .ok (a, b)else .error 16)else .error 15
theorem len_nil (l : List Int) : (l.length == 0) = decide (l = []) := by cases l <;> simp
theorem wZ {C : List (List Int)} : bf ([vS sA 0, vS sB 1] ++ [(⟨sT, 3, 0⟩, C.length)]) sT = some (⟨sT, 3, 0⟩, C.length) := rfl
theorem G6 (fX fE : Nat -> Nat -> Bool) : ∀ (r G l G' : List Int), gX fX fE r G = .ok (l, G') -> G'.length <= G.length + r.length
  | [], G, l, G', h => by
    rw[gX]at h
    split at h
    · simp only[Except.ok.injEq, Prod.mk.injEq]at h; rw[← h.2]; omega
    · cases h
  |e :: r, G, l, G', h => by
    rw[gX]at h
    split at h
    · simp only[Except.ok.injEq, Prod.mk.injEq]at h; rw[← h.2]; omega
    · split at h
      · cases h
      · split at h
        · cases h
        · have := G6 fX fE r (G ++ [e]) l G' h
          simp only[List.length_append, List.length_cons, List.length_nil]at this ⊢
          omega
theorem Gq : ∀ (r s t T b a : List Int), lh r s t = .ok (T, b, a) -> T.length = t.length + r.length
  | [], s, t, T, b, a, h => by
    rw[lh]at h
    simp only[Except.ok.injEq, Prod.mk.injEq]at h
    rw[← h.1]; rfl
  |e :: r, [], t, T, b, a, h => by rw[lh]at h; cases h
  |e :: r, f :: s, t, T, b, a, h => by
    rw[lh]at h
    split at h
    · cases h
    · split at h
      · cases h
      · have := Gq r s (t ++ [e]) T b a h
        simp only[List.length_append, List.length_cons, List.length_nil]at this ⊢
        omega
set_option maxHeartbeats 2000000 in
theorem R9 {P : List bA} {C : List (List Int)} {n st fuel g : Nat} {B : dD} {A G : List Int} (hA : C[0]? = some A) (hG : C[1]? = some G) (hf : st + 16 * A.length + 20 <= fuel) (hg : A.length + 20 <= g) :
    qg [vS sA 0, vS sB 1] n st (16 * A.length + 20) B (exec P fuel g (.stmts (turned false yQ.kids)) false (S4 C [vS sA 0, vS sB 1] n st B)) (wY A G) := by
  obtain⟨g, rfl⟩ : ∃ k, g = k + 6 := ⟨g - 6, by omega⟩
  have h0 := fK hA
  have h1 := fK hG
  show qg _ _ _ _ _ (exec P fuel (g + 6) (.stmts [qB sT [tJ, lp2]]) false _) _
  rw[eX, Jd OB, S4.step (by omega)]
  simp only[aI]
  rw[S4.open (by rfl)]
  simp only[show ¬ (3 : Int) = 1 by decide, if_false, turned, Bool.false_eq_true]
  rw[eX, show tJ = bT (aW (aL sT) (aC 0)) (aW (aL sA) (aC 0)) [dz sA sT]from rfl, wI Oz]
  simp only[Bool.false_eq_true, if_false]
  rw[S4.holds (by omega) (iO vY vZ wZ (rz C []))]
  simp only[List.length_nil, beq_self_eq_true, if_true, rJ, aI]
  have L := yH (P := P) (V := [vS sA 0, vS sB 1] ++ [(⟨sT, 3, 0⟩, C.length)]) (n := n + 1) (fuel := fuel) (B := B) (E := aW (aL sT) (aC 0)) (X := aW (aL sA) (aC 0)) (dp := ⟨sA, 3, 0⟩) (dq := ⟨sT, 3, 0⟩) (ip := 0) (iq := C.length) (λs _ => s == 0) (λ_ d => d == 0) false Jm (by rfl) (by rfl) rfl (by rfl) rfl (by omega)
    (λD => C.length < D.length) (λD D' h hs => Nat.lt_of_lt_of_le h hs.1)
    (λD st l G hD hl hG => by
      rw[if_neg (by decide)]
      exact iO pK jG (d := ⟨sA, 3, 0⟩) (i := 0) rfl hl)
    (λD st l G hD hl hG => by
      rw[if_neg (by decide)]
      exact iO vY vZ wZ hG)
    A.reverse (C := C ++ [[]]) (st := st + 1 + 1) (g := g + 2) (G := []) (by simp) (by rw[List.reverse_reverse]; exact dV hA) (rz C []) (by simp; omega) (by simp; omega)
  unfold wY
  cases hL : gX (λs _ => s == 0) (λ_ d => d == 0) A.reverse []with
  |error e =>
    rw[hL]at L
    simp only at L
    rw[L]; rfl
  |ok y =>
    obtain⟨l, T⟩ := y
    have CK : T.length <= A.length := by simpa using G6 _ _ _ _ _ _ hL
    rw[hL]at L
    obtain⟨C1, st1, L1, L2, L3, L4, L5⟩ := L
    rw[L1]
    simp only[List.length_reverse]at L5
    have hg1 : C1[1]? = some G := (L4.2 1 (by simp; omega) (by omega)).trans (dV hG)
    have hcl : C.length < C1.length := by have := L4.1; simp at this; omega
    simp only
    rw[eX, show lp2 = bT (aW (aL sA) (aC 0)) (aW (aL sT) (aC 0)) [kK]from rfl, wI OA]
    simp only[Bool.false_eq_true, if_false]
    rw[S4.holds (by omega) (iO pK jG (d := ⟨sA, 3, 0⟩) (i := 0) rfl L2)]
    rw[len_nil]
    by_cases hl : l = []
    · subst hl
      simp only[decide_true, if_true, rJ, aI]
      have D := GD (P := P) (V := [vS sA 0, vS sB 1] ++ [(⟨sT, 3, 0⟩, C.length)]) (n := n + 1) (fuel := fuel) (B := B) (it := C.length) (ib := 1) (ia := 0) wZ (by rfl) (by rfl) (by rfl) (by rfl) (by omega) (by omega) (by omega) T.reverse (C := C1) (st := st1 + 1) (g := g + 1) (b := G) (a := []) (by rw[List.reverse_reverse]; exact L3) hg1 L2 (by simp; omega) (by simp; omega)
      cases hD : oq T.reverse G []with
      |error e =>
        rw[hD]at D
        have D : exec P fuel (g + 1) _ _ _ = _ := D
        unfold lp2 at D
        rw[D]; rfl
      |ok y =>
        obtain⟨t, b, a⟩ := y
        rw[hD]at D
        obtain⟨C2, st2, D1, D2, D3⟩ := D
        unfold lp2 at D1
        rw[D1]
        simp only[List.length_reverse]at D3
        simp only[jr]
        rw[S4.step (by omega)]
        simp only
        rw[S4.Jw D2.t]
        by_cases hc : t = []
        · simp only[hc, if_true]
          exact⟨_, _, rfl, D2.a, D2.b, by omega⟩
        · simp only[hc, if_false]; rfl
    · simp only[hl, decide_false, Bool.false_eq_true, if_false, uq, aI]; rfl
set_option maxHeartbeats 2000000 in
theorem Xn {P : List bA} {C : List (List Int)} {n st fuel g : Nat} {B : dD} {A G : List Int} (hA : C[0]? = some A) (hG : C[1]? = some G) (hf : st + 16 * A.length + 20 <= fuel) (hg : A.length + 20 <= g) :
    qg [vS sA 0, vS sB 1] n st (16 * A.length + 20) B (exec P fuel g (.stmts (turned true yQ.kids)) true (S4 C [vS sA 0, vS sB 1] n st B)) (Jn A G) := by
  obtain⟨g, rfl⟩ : ∃ k, g = k + 6 := ⟨g - 6, by omega⟩
  have h0 := fK hA
  have h1 := fK hG
  show qg _ _ _ _ _ (exec P fuel (g + 6) (.stmts [qB sT [tJ, lp2]]) true _) _
  rw[eX, Jd OB, S4.step (by omega)]
  simp only[aI]
  rw[S4.open (by rfl)]
  simp only[show ¬ (3 : Int) = 1 by decide, if_false]
  rw[show turned true [tJ, lp2] = [lp2, tJ]from rfl]
  rw[eX, show lp2 = bT (aW (aL sA) (aC 0)) (aW (aL sT) (aC 0)) [kK]from rfl, wI OA]
  simp only[if_true]
  rw[S4.holds (by omega) (iO vY vZ wZ (rz C []))]
  simp only[List.length_nil, beq_self_eq_true, if_true, rJ, aI]
  have D := Gp (P := P) (V := [vS sA 0, vS sB 1] ++ [(⟨sT, 3, 0⟩, C.length)]) (n := n + 1) (fuel := fuel) (B := B) (it := C.length) (ib := 1) (ia := 0) wZ (by rfl) (by rfl) (by rfl) (by rfl) (by omega) (by omega) (by omega) A.reverse G.reverse (C := C ++ [[]]) (st := st + 1 + 1) (g := g + 2) (t := []) (rz C []) (by rw[List.reverse_reverse]; exact dV hG) (by rw[List.reverse_reverse]; exact dV hA) (by simp; omega) (by simp; omega)
  unfold Jn
  cases hD : lh A.reverse G.reverse []with
  |error e =>
    rw[hD]at D
    have D : exec P fuel (g + 2) _ _ _ = _ := D
    unfold lp2 at D
    rw[D]; rfl
  |ok y =>
    obtain⟨T, b, a⟩ := y
    have CK : T.length = A.length := by simpa using Gq _ _ _ _ _ _ hD
    rw[hD]at D
    obtain⟨C1, st1, D1, D2, D3⟩ := D
    unfold lp2 at D1
    rw[D1]
    simp only[List.length_reverse]at D3
    simp only
    rw[eX, show tJ = bT (aW (aL sT) (aC 0)) (aW (aL sA) (aC 0)) [dz sA sT]from rfl, wI Oz]
    simp only[if_true]
    rw[S4.holds (by omega) (iO pK jG (d := ⟨sA, 3, 0⟩) (i := 0) rfl D2.a)]
    rw[len_nil]
    have hcl : C.length < C1.length := fK D2.t
    by_cases hl : a = []
    · subst hl
      simp only[decide_true, if_true, rJ, aI]
      have L := yH (P := P) (V := [vS sA 0, vS sB 1] ++ [(⟨sT, 3, 0⟩, C.length)]) (n := n + 1) (fuel := fuel) (B := B) (E := aW (aL sT) (aC 0)) (X := aW (aL sA) (aC 0)) (dp := ⟨sT, 3, 0⟩) (dq := ⟨sA, 3, 0⟩) (ip := C.length) (iq := 0) (λs _ => s == 0) (λ_ d => d == 0) true Jm (by rfl) (by rfl) rfl (by rfl) rfl (by omega)
        (λD => C.length < D.length) (λD D' h hs => Nat.lt_of_lt_of_le h hs.1)
        (λD st l G hD hl hG => by
          rw[if_pos rfl]
          exact iO vY vZ wZ hl)
        (λD st l G hD hl hG => by
          rw[if_pos rfl]
          exact iO pK jG (d := ⟨sA, 3, 0⟩) (i := 0) rfl hG)
        T.reverse (C := C1) (st := st1 + 1) (g := g + 1) (G := []) hcl (by rw[List.reverse_reverse]; exact D2.t) D2.a (by simp; omega) (by simp; omega)
      cases hL : gX (λs _ => s == 0) (λ_ d => d == 0) T.reverse []with
      |error e =>
        rw[hL]at L
        simp only at L
        rw[L]; rfl
      |ok y =>
        obtain⟨t, a⟩ := y
        rw[hL]at L
        obtain⟨C2, st2, L1, L2, L3, L4, L5⟩ := L
        rw[L1]
        simp only[List.length_reverse]at L5
        have hg1 : C2[1]? = some b := (L4.2 1 (by omega) (by omega)).trans D2.b
        simp only[jr]
        rw[S4.step (by omega)]
        simp only
        rw[S4.Jw L2]
        by_cases hc : t = []
        · simp only[hc, if_true]
          exact⟨_, _, rfl, L3, hg1, by omega⟩
        · simp only[hc, if_false]; rfl
    · simp only[hl, decide_false, Bool.false_eq_true, if_false, uq, aI]; rfl
theorem Dl (fE : Nat -> Nat -> Bool) : ∀ (r G : List Int), (∀ s d, s < r.length -> fE s (d + 1) = false) -> gX (λs _ => s == 0) fE r G = if r.length + G.length <= 1000 \/ r = []then .ok ([], G ++ r)else .error 5
  | [], G, _ => by simp[gX]
  |e :: r, G, h => by
    rw[gX, if_neg (by simp), h r.length G.length (by simp)]
    by_cases hF : 1000 <= G.length
    · rw[if_pos hF, if_neg]
      simp only[List.length_cons, reduceCtorEq, or_false]
      omega
    · rw[if_neg hF, if_neg (by decide), Dl fE r (G ++ [e]) (λs d hs => h s d (by simp; omega))]
      simp only[List.length_append, List.length_cons, List.length_nil, List.append_assoc, List.singleton_append, reduceCtorEq, or_false]
      by_cases h2 : r.length + 1 + G.length <= 1000
      · rw[if_pos h2, if_pos (.inl (by omega))]
      · rw[if_neg h2, if_neg]
        rintro(h3|h3)
        · omega
        · subst h3; simp at h2; omega
theorem Im (A G : List Int) : wR A G = if A.length + G.length + 1 <= 1000 then .ok ([], G ++ A.reverse ++ [(A.length : Int)])else .error 5 := by
  unfold wR
  rw[Dl _ _ _ (λs d hs => by simp at hs ⊢; omega)]
  by_cases h : A.reverse.length + G.length <= 1000 \/ A.reverse = []
  · rw[if_pos h]
    simp only[List.length_append, List.length_reverse]at h ⊢
    by_cases h2 : 1000 <= G.length + A.length
    · rw[if_pos h2, if_neg (by omega)]
    · rw[if_neg h2, if_pos (by omega)]
  · rw[if_neg h]
    simp only[List.length_reverse, not_or]at h
    rw[if_neg (by omega)]
theorem GG : ∀ (r b a : List Int), a.length + r.length <= 1000 -> oq r b a = if r.length + b.length <= 1000 \/ r = []then .ok ([], b ++ r, a ++ r)else .error 5
  | [], b, a, _ => by simp[oq]
  |e :: r, b, a, h => by
    simp only[List.length_cons]at h
    rw[oq]
    by_cases hF : 1000 <= b.length
    · rw[if_pos hF, if_neg]
      simp only[List.length_cons, reduceCtorEq, or_false]
      omega
    · rw[if_neg hF, if_neg (by omega), GG r (b ++ [e]) (a ++ [e]) (by simp; omega)]
      simp only[List.length_append, List.length_cons, List.length_nil, List.append_assoc, List.singleton_append, reduceCtorEq, or_false]
      by_cases h2 : r.length + 1 + b.length <= 1000
      · rw[if_pos h2, if_pos (.inl (by omega))]
      · rw[if_neg h2, if_neg]
        rintro(h3|h3)
        · omega
        · subst h3; simp at h2; omega
theorem Sa (A G : List Int) (hA : A.length <= 1000) (hG : G.length <= 1000) : wY A G = if A.length + G.length <= 1000 then .ok (A, G ++ A)else .error 5 := by
  unfold wY
  rw[Dl _ _ _ (λs d hs => by simp), if_pos (.inl (by simpa using hA))]
  simp only[List.nil_append, List.reverse_reverse, if_true]
  rw[GG A G [] (by simpa using hA)]
  by_cases h : A.length + G.length <= 1000
  · rw[if_pos (.inl h), if_pos h]; rfl
  · rw[if_neg h, if_neg]
    rintro(h3|h3)
    · exact h h3
    · subst h3; simp at h; omega
def rR : ByteArray := ⟨#[108, 99, 111, 112, 121]⟩
def oC : ByteArray := ⟨#[108, 115, 112, 105, 108, 108]⟩
def gM (k : Int) (n : ByteArray) : Tree := .mk k 0 n [bS sA, bS sB]
def El : bA := ⟨rR, [⟨sA, 3, 0⟩, ⟨sB, 3, 0⟩], yQ⟩
def Ec : bA := ⟨oC, [⟨sA, 3, 0⟩, ⟨sG, 3, 0⟩], yO⟩
def iG : List bA := [El, Ec]
def B0 : dD := ⟨[vS sA 0, vS sB 1], 0⟩
def s0 (A G : List Int) : ah := ⟨[A, G], B0, [], 0⟩
def xe (r : Option (Except Int ah)) (a : Except Int (List Int × List Int)) : Prop := match a with
  |.error e => r = some (.error e)
  |.ok y => ∃ C' st', r = some (.ok ⟨C', B0, [], st'⟩) /\ C'[0]? = some y.1 /\ C'[1]? = some y.2 /\ st' <= 20000
theorem Io {k : Int} {nm x : ByteArray} {d : bA} {A G : List Int} {R : Except Int (List Int × List Int)} {g m : Nat} (hk : k = 50 \/ k = 51) (hs : aX (gM k nm) = true) (hd : iG.find? (λp => p.name == nm) = some d) (hp : d.params = [⟨sA, 3, 0⟩, ⟨x, 3, 0⟩])
    (H : qg [vS sA 0, vS x 1] 0 1 m B0 (exec iG 100000 g (.stmts (turned (k == 51) d.body.kids)) (k == 51) (S4 [A, G] [vS sA 0, vS x 1] 0 1 B0)) R) (hm : m <= 19990) (hg : 0 < g) :
    xe (exec iG 100000 (g + 1 + 1) (.stmts [gM k nm]) false (s0 A G)) R := by
  obtain⟨g, rfl⟩ : ∃ j, g = j + 1 := ⟨g - 1, by omega⟩
  rw[eX, exec, if_neg (by rw[hs]; decide), if_neg (show ¬ (gM k nm).kind = 53 from by show ¬ k = 53; omega), if_neg (show ¬ (gM k nm).kind = 54 from by show ¬ k = 54; omega), if_neg (show ¬ (gM k nm).kind = 55 from by show ¬ k = 55; omega), if_pos (show(gM k nm).kind = 50 \/ (gM k nm).kind = 51 from hk)]
  rw[show(gM k nm).name = nm from rfl, hd]
  have e1 : (s0 A G).step 100000 = .ok ⟨[A, G], B0, [], 1⟩ := rfl
  have e2 : ah.enter ⟨[A, G], B0, [], 1⟩ d.params ((gM k nm).kids.map Tree.name) = .ok (S4 [A, G] [vS sA 0, vS x 1] 0 1 B0) := by
    rw[hp]; rfl
  rw[e1]
  simp only[aI]
  rw[e2]
  have eb : (false != ((gM k nm).kind == 51)) = (k == 51) := by
    rw[show(gM k nm).kind = k from rfl]; cases(k == 51) <;> rfl
  simp only[eb]
  cases R with
  |error e =>
    have H : exec iG 100000 (g + 1) _ _ _ = _ := H
    rw[H]; rfl
  |ok y =>
    obtain⟨C', st', h1, h2, h3, h4⟩ := H
    rw[h1]
    simp only[jr]
    rw[S4.step (by omega)]
    simp only
    exact⟨C', st' + 1, rfl, h2, h3, by omega⟩
theorem Sb {A G : List Int} (hA : A.length <= 1000) : xe (exec iG 100000 1022 (.stmts [gM 50 rR]) false (s0 A G)) (wY A G) :=
  Io (d := El) (g := 1020) (x := sB) (.inl rfl) (by decide +kernel) (by rfl) rfl (R9 rfl rfl (by omega) (by omega)) (by omega) (by decide)
theorem Ip {A G : List Int} (hA : A.length <= 1000) : xe (exec iG 100000 1022 (.stmts [gM 50 oC]) false (s0 A G)) (wR A G) :=
  Io (d := Ec) (g := 1020) (x := sG) (.inl rfl) (by decide +kernel) (by rfl) rfl (Rm rfl rfl (by omega) (by omega)) (by omega) (by decide)
end Go.Proofs.YtbpodipdfohikaaGreat
