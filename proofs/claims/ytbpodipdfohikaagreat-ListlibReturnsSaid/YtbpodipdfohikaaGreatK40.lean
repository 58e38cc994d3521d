import Derived.Test.YtbpodipdfohikaaGreatK39
set_option linter.unusedSimpArgs false
set_option linter.unusedVariables false
set_option maxRecDepth 100000
set_option maxHeartbeats 25600000
namespace Go.Proofs.YtbpodipdfohikaaGreat
open Go.RowKit
def tH : Tree := bQ (aW (aL sT) (aB 0)) (aW (aL sA) (aB 0)) [dw sA sT]
def lp2 : Tree := bQ (aW (aL sA) (aB 0)) (aW (aL sT) (aB 0)) [kK]
def oG : List Int -> List Int -> List Int -> Except Int (List Int × List Int × List Int)
  | [], b, a => .ok ([], b, a)
  |e :: r, b, a => if 1000 <= b.length then .error 5 else if 1000 <= a.length then .error 5 else oG r (b ++ [e]) (a ++ [e])
def ja : List Int -> List Int -> List Int -> Except Int (List Int × List Int × List Int)
  | [], s, t => .ok (t, s.reverse, [])
  |_ :: _, [], _ => .error 13
  |e :: r, f :: s, t => if f ≠ e then .error 16 else if 1000 <= t.length then .error 5 else ja r s (t ++ [e])
theorem vV : aN (aW (aL sT) (aB 0)) = true := by decide +kernel
theorem vW : aN (aL sT) = true := by decide +kernel
theorem NS : aX tH = true := by decide +kernel
theorem NT : aX lp2 = true := by decide +kernel
theorem NU : aX (qB sT [tH, lp2]) = true := by decide +kernel
theorem Ac.trans {it ib ia : Nat} {C C' qV : List (List Int)} {t b a t' b' a' : List Int} (h : Ac it ib ia C C' t b a) (h2 : Ac it ib ia C' qV t' b' a') : Ac it ib ia C qV t' b' a' := ⟨h2.t, h2.b, h2.a, h.s.trans h2.s⟩
section
variable {P : List bB} {V : List (au × Nat)} {n fuel : Nat} {B : dB} {it ib ia : Nat} (ht : aZ V sT = some (⟨sT, 3, 0⟩, it)) (hb : aZ V sB = some (⟨sB, 3, 0⟩, ib)) (ha : aZ V sA = some (⟨sA, 3, 0⟩, ia)) (hx : aZ V sX = none) (hy : aZ V sY = none) (h1 : it ≠ ib) (h2 : it ≠ ia) (h3 : ib ≠ ia)
include ht hb ha hx hy h1 h2 h3
theorem Gr : ∀ (r : List Int) {C : List (List Int)} {st g : Nat} {b a : List Int}, C[it]? = some r.reverse -> C[ib]? = some b -> C[ia]? = some a -> st + 9 * r.length + 9 <= fuel -> r.length + 10 <= g ->
    Bh V n st (9 * r.length + 1) B it ib ia C (exec P fuel g (.round lp2) false (S4 C V n st B)) (oG r b a)
  | [], C, st, g, b, a, ct, cb, ca, hf, hg => by
    obtain⟨g, rfl⟩ : ∃ k, g = k + 2 := ⟨g - 2, by simp at hg; omega⟩
    unfold lp2
    rw[yj]
    simp only[Bool.false_eq_true, if_false]
    rw[S4.holds (by simp at hf; omega) (iQ vV vW ht ct)]
    simp only[List.length_nil, List.reverse_nil, beq_self_eq_true, if_true, rP, aH, oG]
    exact⟨C, st + 1, rfl, ⟨ct, cb, ca, dP.refl _ _⟩, by omega⟩
  |e :: r, C, st, g, b, a, ct, cb, ca, hf, hg => by
    simp only[List.length_cons]at hf hg
    obtain⟨g, rfl⟩ : ∃ k, g = k + 9 := ⟨g - 9, by omega⟩
    have e1 : ((e :: r).reverse.length == 0) = false := by simp
    have e2 : (e :: r).reverse ≠ [] := by simp
    have e3 : (e :: r).reverse.dropLast = r.reverse := by simp
    have e4 : (e :: r).reverse.getLast?.getD 0 = e := by simp
    unfold lp2
    rw[yj]
    simp only[Bool.false_eq_true, if_false]
    rw[S4.holds (by omega) (iQ vV vW ht ct)]
    simp only[e1, Bool.false_eq_true, if_false, um, aH]
    rw[show turned false [kK] = [kK]from rfl, eY]
    have hd := R6 (P := P) (n := n) (fuel := fuel) (B := B) ht hb ha hx hy h1 h2 h3 (st := st + 1) (g := g + 1) ct cb ca (by omega)
    unfold EG at hd
    simp only[e2, e3, e4, if_false]at hd
    rw[oG]
    by_cases hF : 1000 <= b.length
    · rw[if_pos hF]at hd ⊢
      have hd : exec P fuel (g + 1 + 6) _ _ _ = _ := hd
      rw[hd]; rfl
    rw[if_neg hF]at hd ⊢
    by_cases hF2 : 1000 <= a.length
    · rw[if_pos hF2]at hd ⊢
      have hd : exec P fuel (g + 1 + 6) _ _ _ = _ := hd
      rw[hd]; rfl
    rw[if_neg hF2]at hd ⊢
    obtain⟨C', st', d1, d2, d3⟩ := hd
    rw[d1]
    simp only[aH, jy]
    rw[S4.holds (by omega) (iQ pM jJ ha d2.a)]
    have e5 : ((a ++ [e]).length == 0) = false := by simp
    simp only[e5, Bool.false_eq_true, if_false, um]
    have ih := Gr r (C := C') (st := st' + 1) (g := g + 8) (b := b ++ [e]) (a := a ++ [e]) d2.t d2.b d2.a (by omega) (by omega)
    unfold lp2 at ih
    cases hL : oG r (b ++ [e]) (a ++ [e])with
    |error x => rw[hL]at ih; exact ih
    |ok y =>
      rw[hL]at ih
      obtain⟨qV, EH, f1, f2, f3⟩ := ih
      exact⟨qV, EH, f1, d2.trans f2, by simp only[List.length_cons]; omega⟩
theorem Gc : ∀ (r s : List Int) {C : List (List Int)} {st g : Nat} {t : List Int}, C[it]? = some t -> C[ib]? = some s.reverse -> C[ia]? = some r.reverse -> st + 9 * r.length + 9 <= fuel -> r.length + 10 <= g ->
    Bh V n st (9 * r.length + 1) B it ib ia C (exec P fuel g (.round lp2) true (S4 C V n st B)) (ja r s t)
  | [], s, C, st, g, t, ct, cb, ca, hf, hg => by
    obtain⟨g, rfl⟩ : ∃ k, g = k + 2 := ⟨g - 2, by simp at hg; omega⟩
    unfold lp2
    rw[yj]
    simp only[if_true]
    rw[S4.holds (by simp at hf; omega) (iQ pM jJ ha ca)]
    simp only[List.length_nil, List.reverse_nil, beq_self_eq_true, if_true, rP, aH, ja]
    exact⟨C, st + 1, rfl, ⟨ct, cb, ca, dP.refl _ _⟩, by omega⟩
  |e :: r, s, C, st, g, t, ct, cb, ca, hf, hg => by
    simp only[List.length_cons]at hf hg
    obtain⟨g, rfl⟩ : ∃ k, g = k + 9 := ⟨g - 9, by omega⟩
    have e1 : ((e :: r).reverse.length == 0) = false := by simp
    have e2 : (e :: r).reverse ≠ [] := by simp
    have e3 : (e :: r).reverse.dropLast = r.reverse := by simp
    have e4 : (e :: r).reverse.getLast?.getD 0 = e := by simp
    unfold lp2
    rw[yj]
    simp only[if_true]
    rw[S4.holds (by omega) (iQ pM jJ ha ca)]
    simp only[e1, Bool.false_eq_true, if_false, um, aH]
    rw[show turned true [kK] = [kK]from rfl, eY]
    have hd := QQ (P := P) (n := n) (fuel := fuel) (B := B) ht hb ha hx hy h1 h2 h3 (st := st + 1) (g := g + 1) ct cb ca (by omega)
    unfold D9 at hd
    simp only[e2, e3, e4, if_false]at hd
    cases s with
    |nil =>
      simp only[List.reverse_nil, if_true, ja]at hd ⊢
      have hd : exec P fuel (g + 1 + 6) _ _ _ = _ := hd
      rw[hd]; rfl
    |cons f s =>
      have f2 : (f :: s).reverse ≠ [] := by simp
      have f3 : (f :: s).reverse.dropLast = s.reverse := by simp
      have f4 : (f :: s).reverse.getLast?.getD 0 = f := by simp
      simp only[f2, f3, f4, if_false]at hd
      rw[ja]
      by_cases hF : f ≠ e
      · rw[if_pos hF]at hd ⊢
        have hd : exec P fuel (g + 1 + 6) _ _ _ = _ := hd
        rw[hd]; rfl
      rw[if_neg hF]at hd ⊢
      by_cases hF2 : 1000 <= t.length
      · rw[if_pos hF2]at hd ⊢
        have hd : exec P fuel (g + 1 + 6) _ _ _ = _ := hd
        rw[hd]; rfl
      rw[if_neg hF2]at hd ⊢
      obtain⟨C', st', d1, d2, d3⟩ := hd
      rw[d1]
      simp only[aH, jy]
      rw[S4.holds (by omega) (iQ vV vW ht d2.t)]
      have e5 : ((t ++ [e]).length == 0) = false := by simp
      simp only[e5, Bool.false_eq_true, if_false, um]
      have ih := Gc r s (C := C') (st := st' + 1) (g := g + 8) (t := t ++ [e]) d2.t d2.b d2.a (by omega) (by omega)
      unfold lp2 at ih
      cases hL : ja r s (t ++ [e])with
      |error x => rw[hL]at ih; exact ih
      |ok y =>
        rw[hL]at ih
        obtain⟨qV, EH, f1, f2, f3⟩ := ih
        exact⟨qV, EH, f1, d2.trans f2, by simp only[List.length_cons]; omega⟩
end
def wW (A G : List Int) : Except Int (List Int × List Int) := match gp (λs _ => s == 0) (λ_ d => d == 0) A.reverse []with
  |.error e => .error e
  |.ok (l, T) => if l = []then(match oG T.reverse G l with
    |.error e => .error e
    |.ok (t, b, a) => if t = []then .ok (a, b)else .error 16)else .error 15
def wJ (A G : List Int) : Except Int (List Int × List Int) := match ja A.reverse G.reverse []with
  |.error e => .error e
  |.ok (T, b, a) => if a = []then(match gp (λs _ => s == 0) (λ_ d => d == 0) T.reverse a with
    |.error e => .error e
    |.ok (t, a) => if t = []then .ok (a, b)else .error 16)else .error 15
theorem len_nil (l : List Int) : (l.length == 0) = decide (l = []) := by cases l <;> simp
theorem wX {C : List (List Int)} : aZ ([vS sA 0, vS sB 1] ++ [(⟨sT, 3, 0⟩, C.length)]) sT = some (⟨sT, 3, 0⟩, C.length) := rfl
theorem GM (fX fE : Nat -> Nat -> Bool) : ∀ (r G l G' : List Int), gp fX fE r G = .ok (l, G') -> G'.length <= G.length + r.length
  | [], G, l, G', h => by
    rw[gp]at h
    split at h
    · simp only[Except.ok.injEq, Prod.mk.injEq]at h; rw[← h.2]; omega
    · cases h
  |e :: r, G, l, G', h => by
    rw[gp]at h
    split at h
    · simp only[Except.ok.injEq, Prod.mk.injEq]at h; rw[← h.2]; omega
    · split at h
      · cases h
      · split at h
        · cases h
        · have := GM fX fE r (G ++ [e]) l G' h
          simp only[List.length_append, List.length_cons, List.length_nil]at this ⊢
          omega
theorem Gd : ∀ (r s t T b a : List Int), ja r s t = .ok (T, b, a) -> T.length = t.length + r.length
  | [], s, t, T, b, a, h => by
    rw[ja]at h
    simp only[Except.ok.injEq, Prod.mk.injEq]at h
    rw[← h.1]; rfl
  |e :: r, [], t, T, b, a, h => by rw[ja]at h; cases h
  |e :: r, f :: s, t, T, b, a, h => by
    rw[ja]at h
    split at h
    · cases h
    · split at h
      · cases h
      · have := Gd r s (t ++ [e]) T b a h
        simp only[List.length_append, List.length_cons, List.length_nil]at this ⊢
        omega
set_option maxHeartbeats 2000000 in
theorem Rv {P : List bB} {C : List (List Int)} {n st fuel g : Nat} {B : dB} {A G : List Int} (hA : C[0]? = some A) (hG : C[1]? = some G) (hf : st + 16 * A.length + 20 <= fuel) (hg : A.length + 20 <= g) :
    qj [vS sA 0, vS sB 1] n st (16 * A.length + 20) B (exec P fuel g (.stmts (turned false yJ.kids)) false (S4 C [vS sA 0, vS sB 1] n st B)) (wW A G) := by
  obtain⟨g, rfl⟩ : ∃ k, g = k + 6 := ⟨g - 6, by omega⟩
  have h0 := fO hA
  have h1 := fO hG
  show qj _ _ _ _ _ (exec P fuel (g + 6) (.stmts [qB sT [tH, lp2]]) false _) _
  rw[eY, IV NU, S4.step (by omega)]
  simp only[aH]
  rw[S4.open (by rfl)]
  simp only[show ¬ (3 : Int) = 1 by decide, if_false, turned, Bool.false_eq_true]
  rw[eY, show tH = bQ (aW (aL sT) (aB 0)) (aW (aL sA) (aB 0)) [dw sA sT]from rfl, wE NS]
  simp only[Bool.false_eq_true, if_false]
  rw[S4.holds (by omega) (iQ vV vW wX (rF C []))]
  simp only[List.length_nil, beq_self_eq_true, if_true, rP, aH]
  have L := yA (P := P) (V := [vS sA 0, vS sB 1] ++ [(⟨sT, 3, 0⟩, C.length)]) (n := n + 1) (fuel := fuel) (B := B) (E := aW (aL sT) (aB 0)) (X := aW (aL sA) (aB 0)) (dp := ⟨sA, 3, 0⟩) (dq := ⟨sT, 3, 0⟩) (ip := 0) (iq := C.length) (λs _ => s == 0) (λ_ d => d == 0) false I7 (by rfl) (by rfl) rfl (by rfl) rfl (by omega)
    (λD => C.length < D.length) (λD D' h hs => Nat.lt_of_lt_of_le h hs.1)
    (λD st l G hD hl hG => by
      rw[if_neg (by decide)]
      exact iQ pM jJ (d := ⟨sA, 3, 0⟩) (i := 0) rfl hl)
    (λD st l G hD hl hG => by
      rw[if_neg (by decide)]
      exact iQ vV vW wX hG)
    A.reverse (C := C ++ [[]]) (st := st + 1 + 1) (g := g + 2) (G := []) (by simp) (by rw[List.reverse_reverse]; exact dS hA) (rF C []) (by simp; omega) (by simp; omega)
  unfold wW
  cases hL : gp (λs _ => s == 0) (λ_ d => d == 0) A.reverse []with
  |error e =>
    rw[hL]at L
    simp only at L
    rw[L]; rfl
  |ok y =>
    obtain⟨l, T⟩ := y
    have Cz : T.length <= A.length := by simpa using GM _ _ _ _ _ _ hL
    rw[hL]at L
    obtain⟨C1, st1, L1, L2, L3, L4, L5⟩ := L
    rw[L1]
    simp only[List.length_reverse]at L5
    have hg1 : C1[1]? = some G := (L4.2 1 (by simp; omega) (by omega)).trans (dS hG)
    have hcl : C.length < C1.length := by have := L4.1; simp at this; omega
    simp only
    rw[eY, show lp2 = bQ (aW (aL sA) (aB 0)) (aW (aL sT) (aB 0)) [kK]from rfl, wE NT]
    simp only[Bool.false_eq_true, if_false]
    rw[S4.holds (by omega) (iQ pM jJ (d := ⟨sA, 3, 0⟩) (i := 0) rfl L2)]
    rw[len_nil]
    by_cases hl : l = []
    · subst hl
      simp only[decide_true, if_true, rP, aH]
      have D := Gr (P := P) (V := [vS sA 0, vS sB 1] ++ [(⟨sT, 3, 0⟩, C.length)]) (n := n + 1) (fuel := fuel) (B := B) (it := C.length) (ib := 1) (ia := 0) wX (by rfl) (by rfl) (by rfl) (by rfl) (by omega) (by omega) (by omega) T.reverse (C := C1) (st := st1 + 1) (g := g + 1) (b := G) (a := []) (by rw[List.reverse_reverse]; exact L3) hg1 L2 (by simp; omega) (by simp; omega)
      cases hD : oG T.reverse G []with
      |error e =>
        rw[hD]at D
        have D : exec P fuel (g + 1) _ _ _ = _ := D
        unfold lp2 at D
        rw[D]; rfl
      |ok y =>
        obtain⟨t, b, a⟩ := y
        rw[hD]at D
        obtain⟨C2, st2, D1, D2, D3⟩ := D
        unfold lp2 at D1
        rw[D1]
        simp only[List.length_reverse]at D3
        simp only[jy]
        rw[S4.step (by omega)]
        simp only
        rw[S4.Jf D2.t]
        by_cases hc : t = []
        · simp only[hc, if_true]
          exact⟨_, _, rfl, D2.a, D2.b, by omega⟩
        · simp only[hc, if_false]; rfl
    · simp only[hl, decide_false, Bool.false_eq_true, if_false, um, aH]; rfl
set_option maxHeartbeats 2000000 in
theorem Qa {P : List bB} {C : List (List Int)} {n st fuel g : Nat} {B : dB} {A G : List Int} (hA : C[0]? = some A) (hG : C[1]? = some G) (hf : st + 16 * A.length + 20 <= fuel) (hg : A.length + 20 <= g) :
    qj [vS sA 0, vS sB 1] n st (16 * A.length + 20) B (exec P fuel g (.stmts (turned true yJ.kids)) true (S4 C [vS sA 0, vS sB 1] n st B)) (wJ A G) := by
  obtain⟨g, rfl⟩ : ∃ k, g = k + 6 := ⟨g - 6, by omega⟩
  have h0 := fO hA
  have h1 := fO hG
  show qj _ _ _ _ _ (exec P fuel (g + 6) (.stmts [qB sT [tH, lp2]]) true _) _
  rw[eY, IV NU, S4.step (by omega)]
  simp only[aH]
  rw[S4.open (by rfl)]
  simp only[show ¬ (3 : Int) = 1 by decide, if_false]
  rw[show turned true [tH, lp2] = [lp2, tH]from rfl]
  rw[eY, show lp2 = bQ (aW (aL sA) (aB 0)) (aW (aL sT) (aB 0)) [kK]from rfl, wE NT]
  simp only[if_true]
  rw[S4.holds (by omega) (iQ vV vW wX (rF C []))]
  simp only[List.length_nil, beq_self_eq_true, if_true, rP, aH]
  have D := Gc (P := P) (V := [vS sA 0, vS sB 1] ++ [(⟨sT, 3, 0⟩, C.length)]) (n := n + 1) (fuel := fuel) (B := B) (it := C.length) (ib := 1) (ia := 0) wX (by rfl) (by rfl) (by rfl) (by rfl) (by omega) (by omega) (by omega) A.reverse G.reverse (C := C ++ [[]]) (st := st + 1 + 1) (g := g + 2) (t := []) (rF C []) (by rw[List.reverse_reverse]; exact dS hG) (by rw[List.reverse_reverse]; exact dS hA) (by simp; omega) (by simp; omega)
  unfold wJ
  cases hD : ja A.reverse G.reverse []with
  |error e =>
    rw[hD]at D
    have D : exec P fuel (g + 2) _ _ _ = _ := D
    unfold lp2 at D
    rw[D]; rfl
  |ok y =>
    obtain⟨T, b, a⟩ := y
    have Cz : T.length = A.length := by simpa using Gd _ _ _ _ _ _ hD
    rw[hD]at D
    obtain⟨C1, st1, D1, D2, D3⟩ := D
    unfold lp2 at D1
    rw[D1]
    simp only[List.length_reverse]at D3
    simp only
    rw[eY, show tH = bQ (aW (aL sT) (aB 0)) (aW (aL sA) (aB 0)) [dw sA sT]from rfl, wE NS]
    simp only[if_true]
    rw[S4.holds (by omega) (iQ pM jJ (d := ⟨sA, 3, 0⟩) (i := 0) rfl D2.a)]
    rw[len_nil]
    have hcl : C.length < C1.length := fO D2.t
    by_cases hl : a = []
    · subst hl
      simp only[decide_true, if_true, rP, aH]
      have L := yA (P := P) (V := [vS sA 0, vS sB 1] ++ [(⟨sT, 3, 0⟩, C.length)]) (n := n + 1) (fuel := fuel) (B := B) (E := aW (aL sT) (aB 0)) (X := aW (aL sA) (aB 0)) (dp := ⟨sT, 3, 0⟩) (dq := ⟨sA, 3, 0⟩) (ip := C.length) (iq := 0) (λs _ => s == 0) (λ_ d => d == 0) true I7 (by rfl) (by rfl) rfl (by rfl) rfl (by omega)
        (λD => C.length < D.length) (λD D' h hs => Nat.lt_of_lt_of_le h hs.1)
        (λD st l G hD hl hG => by
          rw[if_pos rfl]
          exact iQ vV vW wX hl)
        (λD st l G hD hl hG => by
          rw[if_pos rfl]
          exact iQ pM jJ (d := ⟨sA, 3, 0⟩) (i := 0) rfl hG)
        T.reverse (C := C1) (st := st1 + 1) (g := g + 1) (G := []) hcl (by rw[List.reverse_reverse]; exact D2.t) D2.a (by simp; omega) (by simp; omega)
      cases hL : gp (λs _ => s == 0) (λ_ d => d == 0) T.reverse []with
      |error e =>
        rw[hL]at L
        simp only at L
        rw[L]; rfl
      |ok y =>
        obtain⟨t, a⟩ := y
        rw[hL]at L
        obtain⟨C2, st2, L1, L2, L3, L4, L5⟩ := L
        rw[L1]
        simp only[List.length_reverse]at L5
        have hg1 : C2[1]? = some b := (L4.2 1 (by omega) (by omega)).trans D2.b
        simp only[jy]
        rw[S4.step (by omega)]
        simp only
        rw[S4.Jf L2]
        by_cases hc : t = []
        · simp only[hc, if_true]
          exact⟨_, _, rfl, L3, hg1, by omega⟩
        · simp only[hc, if_false]; rfl
    · simp only[hl, decide_false, Bool.false_eq_true, if_false, um, aH]; rfl
theorem Ao (fE : Nat -> Nat -> Bool) : ∀ (r G : List Int), (∀ s d, s < r.length -> fE s (d + 1) = false) -> gp (λs _ => s == 0) fE r G = if r.length + G.length <= 1000 \/ r = []then .ok ([], G ++ r)else .error 5
  | [], G, _ => by simp[gp]
  |e :: r, G, h => by
    rw[gp, if_neg (by simp), h r.length G.length (by simp)]
    by_cases hF : 1000 <= G.length
    · rw[if_pos hF, if_neg]
      simp only[List.length_cons, reduceCtorEq, or_false]
      omega
    · rw[if_neg hF, if_neg (by decide), Ao fE r (G ++ [e]) (λs d hs => h s d (by simp; omega))]
      simp only[List.length_append, List.length_cons, List.length_nil, List.append_assoc, List.singleton_append, reduceCtorEq, or_false]
      by_cases h2 : r.length + 1 + G.length <= 1000
      · rw[if_pos h2, if_pos (.inl (by omega))]
      · rw[if_neg h2, if_neg]
        rintro(h3|h3)
        · omega
        · subst h3; simp at h2; omega
theorem Az (A G : List Int) : wO A G = if A.length + G.length + 1 <= 1000 then .ok ([], G ++ A.reverse ++ [(A.length : Int)])else .error 5 := by
  unfold wO
  rw[Ao _ _ _ (λs d hs => by simp at hs ⊢; omega)]
  by_cases h : A.reverse.length + G.length <= 1000 \/ A.reverse = []
  · rw[if_pos h]
    simp only[List.length_append, List.length_reverse]at h ⊢
    by_cases h2 : 1000 <= G.length + A.length
    · rw[if_pos h2, if_neg (by omega)]
    · rw[if_neg h2, if_pos (by omega)]
  · rw[if_neg h]
    simp only[List.length_reverse, not_or]at h
    rw[if_neg (by omega)]
theorem Gs : ∀ (r b a : List Int), a.length + r.length <= 1000 -> oG r b a = if r.length + b.length <= 1000 \/ r = []then .ok ([], b ++ r, a ++ r)else .error 5
  | [], b, a, _ => by simp[oG]
  |e :: r, b, a, h => by
    simp only[List.length_cons]at h
    rw[oG]
    by_cases hF : 1000 <= b.length
    · rw[if_pos hF, if_neg]
      simp only[List.length_cons, reduceCtorEq, or_false]
      omega
    · rw[if_neg hF, if_neg (by omega), Gs r (b ++ [e]) (a ++ [e]) (by simp; omega)]
      simp only[List.length_append, List.length_cons, List.length_nil, List.append_assoc, List.singleton_append, reduceCtorEq, or_false]
      by_cases h2 : r.length + 1 + b.length <= 1000
      · rw[if_pos h2, if_pos (.inl (by omega))]
      · rw[if_neg h2, if_neg]
        rintro(h3|h3)
        · omega
        · subst h3; simp at h2; omega
theorem DF (A G : List Int) (hA : A.length <= 1000) (hG : G.length <= 1000) : wW A G = if A.length + G.length <= 1000 then .ok (A, G ++ A)else .error 5 := by
  unfold wW
  rw[Ao _ _ _ (λs d hs => by simp), if_pos (.inl (by simpa using hA))]
  simp only[List.nil_append, List.reverse_reverse, if_true]
  rw[Gs A G [] (by simpa using hA)]
  by_cases h : A.length + G.length <= 1000
  · rw[if_pos (.inl h), if_pos h]; rfl
  · rw[if_neg h, if_neg]
    rintro(h3|h3)
    · exact h h3
    · subst h3; simp at h; omega
theorem Ib (N : Int) : ∀ (r G : List Int), r.length + G.length <= 1000 -> gp (λ_ d => decide ((d : Int) = N)) (λ_ d => d == 0) r G = if(G.length : Int) <= N /\ N <= G.length + r.length then .ok ((r.drop (N.toNat - G.length)).reverse, G ++ r.take (N.toNat - G.length))else .error 13
  | [], G, _ => by
    rw[gp]
    by_cases h : (G.length : Int) = N
    · rw[if_pos (by simpa using h), if_pos (by simp; omega)]; simp
    · rw[if_neg (by simpa using h), if_neg (by simp; omega)]
  |e :: r, G, hl => by
    simp only[List.length_cons]at hl
    rw[gp]
    by_cases h : (G.length : Int) = N
    · rw[if_pos (by simpa using h), if_pos (by simp; omega)]
      have : N.toNat - G.length = 0 := by omega
      simp[this]
    · rw[if_neg (by simpa using h), if_neg (by omega), if_neg (by simp), Ib N r (G ++ [e]) (by simp; omega)]
      simp only[List.length_append, List.length_cons, List.length_nil, List.append_assoc, List.singleton_append]
      by_cases h2 : (G.length : Int) <= N /\ N <= G.length + (r.length + 1 : Nat)
      · rw[if_pos h2, if_pos (by omega)]
        have : N.toNat - G.length = N.toNat - (G.length + (0 + 1)) + 1 := by omega
        rw[this, List.drop_succ_cons, List.take_succ_cons]
      · rw[if_neg h2, if_neg (by omega)]
theorem OD (A : List Int) (G : List Int) (hA : A ≠ []) : ∃ e, pU A G = .error e := by
  unfold pU
  cases G.reverse with
  |nil => exact⟨_, rfl⟩
  |cons N r => exact⟨15, if_pos hA⟩
theorem C9 (N : Int) (r : List Int) (h : r.length <= 1000) : pU [] (r.reverse ++ [N]) = if 0 <= N /\ N <= r.length then .ok (r.take N.toNat, (r.drop N.toNat).reverse)else .error 13 := by
  unfold pU
  rw[List.reverse_append, List.reverse_reverse]
  simp only[List.reverse_cons, List.reverse_nil, List.nil_append, List.singleton_append, ne_eq, not_true_eq_false, if_false]
  rw[Ib N r [] (by simpa using h)]
  simp only[List.length_nil, Int.natCast_zero, Int.zero_add, Nat.sub_zero, List.nil_append]
  by_cases h2 : 0 <= N /\ N <= r.length
  · rw[if_pos h2, if_pos h2]
    simp only[List.length_take]
    rw[if_pos (by omega)]
  · rw[if_neg h2, if_neg h2]
theorem Gf : ∀ (r s t : List Int), r.length + t.length <= 1000 -> (∃ e, ja r s t = .error e /\ ¬ r <+: s) \/ (r <+: s /\ ja r s t = .ok (t ++ r, (s.drop r.length).reverse, []))
  | [], s, t, _ => .inr ⟨List.nil_prefix, by simp[ja]⟩
  |e :: r, [], t, _ => .inl ⟨13, rfl, by simp⟩
  |e :: r, f :: s, t, h => by
    simp only[List.length_cons]at h
    rw[ja]
    by_cases hf : f = e
    · subst hf
      rw[if_neg (by simp), if_neg (by omega)]
      rcases Gf r s (t ++ [f]) (by simp; omega)with⟨e, h1, h2⟩|⟨h1, h2⟩
      · exact .inl ⟨e, h1, λhp => h2 ((List.cons_prefix_cons.1 hp).2)⟩
      · exact .inr ⟨List.cons_prefix_cons.2 ⟨rfl, h1⟩, by rw[h2]; simp⟩
    · rw[if_pos hf]
      exact .inl ⟨16, rfl, λhp => hf ((List.cons_prefix_cons.1 hp).1).symm⟩
theorem GN (A G : List Int) (hA : A.length <= 1000) : (∃ e, wJ A G = .error e /\ ¬ A <:+ G) \/ ∃ B, G = B ++ A /\ wJ A G = .ok (A, B) := by
  unfold wJ
  rcases Gf A.reverse G.reverse [] (by simpa using hA)with⟨e, h1, h2⟩|⟨h1, h2⟩
  · rw[h1]
    exact .inl ⟨e, rfl, λhp => h2 (List.reverse_prefix.2 hp)⟩
  · rw[h2]
    obtain⟨B, rfl⟩ := List.reverse_prefix.1 h1
    refine .inr ⟨B, rfl, ?_⟩
    simp only[List.nil_append, List.reverse_reverse, if_true, List.reverse_append, List.length_reverse]
    rw[Ao _ _ _ (λs d hs => by simp), if_pos (.inl (by simpa using hA))]
    simp only[if_true, List.nil_append]
    rw[show A.reverse ++ B.reverse = A.reverse ++ B.reverse from rfl, List.drop_left' (by simp)]
    simp
def mY : ByteArray := ⟨#[108, 99, 111, 112, 121]⟩
def jA : ByteArray := ⟨#[108, 115, 112, 105, 108, 108]⟩
def fG (k : Int) (n : ByteArray) : Tree := .mk k 0 n [bP sA, bP sB]
def Bi : bB := ⟨mY, [⟨sA, 3, 0⟩, ⟨sB, 3, 0⟩], yJ⟩
def Bd : bB := ⟨jA, [⟨sA, 3, 0⟩, ⟨sG, 3, 0⟩], yH⟩
def gz : List bB := [Bi, Bd]
def B0 : dB := ⟨[vS sA 0, vS sB 1], 0⟩
def s0 (A G : List Int) : ah := ⟨[A, G], B0, [], 0⟩
def oL (r : Option (Except Int ah)) (a : Except Int (List Int × List Int)) : Prop := match a with
  |.error e => r = some (.error e)
  |.ok y => ∃ C' st', r = some (.ok ⟨C', B0, [], st'⟩) /\ C'[0]? = some y.1 /\ C'[1]? = some y.2 /\ st' <= 20000
theorem AA {k : Int} {nm x : ByteArray} {d : bB} {A G : List Int} {R : Except Int (List Int × List Int)} {g m : Nat} (hk : k = 50 \/ k = 51) (hs : aX (fG k nm) = true) (hd : gz.find? (λp => p.name == nm) = some d) (hp : d.params = [⟨sA, 3, 0⟩, ⟨x, 3, 0⟩])
    (H : qj [vS sA 0, vS x 1] 0 1 m B0 (exec gz 100000 g (.stmts (turned (k == 51) d.body.kids)) (k == 51) (S4 [A, G] [vS sA 0, vS x 1] 0 1 B0)) R) (hm : m <= 19990) (hg : 0 < g) :
    oL (exec gz 100000 (g + 1 + 1) (.stmts [fG k nm]) false (s0 A G)) R := by
  obtain⟨g, rfl⟩ : ∃ j, g = j + 1 := ⟨g - 1, by omega⟩
  rw[eY, exec, if_neg (by rw[hs]; decide), if_neg (show ¬ (fG k nm).kind = 53 from by show ¬ k = 53; omega), if_neg (show ¬ (fG k nm).kind = 54 from by show ¬ k = 54; omega), if_neg (show ¬ (fG k nm).kind = 55 from by show ¬ k = 55; omega), if_pos (show(fG k nm).kind = 50 \/ (fG k nm).kind = 51 from hk)]
  rw[show(fG k nm).name = nm from rfl, hd]
  have e1 : (s0 A G).step 100000 = .ok ⟨[A, G], B0, [], 1⟩ := rfl
  have e2 : ah.enter ⟨[A, G], B0, [], 1⟩ d.params ((fG k nm).kids.map Tree.name) = .ok (S4 [A, G] [vS sA 0, vS x 1] 0 1 B0) := by
    rw[hp]; rfl
  rw[e1]
  simp only[aH]
  rw[e2]
  have eb : (false != ((fG k nm).kind == 51)) = (k == 51) := by
    rw[show(fG k nm).kind = k from rfl]; cases(k == 51) <;> rfl
  simp only[eb]
  cases R with
  |error e =>
    have H : exec gz 100000 (g + 1) _ _ _ = _ := H
    rw[H]; rfl
  |ok y =>
    obtain⟨C', st', h1, h2, h3, h4⟩ := H
    rw[h1]
    simp only[jy]
    rw[S4.step (by omega)]
    simp only
    exact⟨C', st' + 1, rfl, h2, h3, by omega⟩
theorem DI {A G : List Int} (hA : A.length <= 1000) : oL (exec gz 100000 1022 (.stmts [fG 50 mY]) false (s0 A G)) (wW A G) :=
  AA (d := Bi) (g := 1020) (x := sB) (.inl rfl) (by decide +kernel) (by rfl) rfl (Rv rfl rfl (by omega) (by omega)) (by omega) (by decide)
theorem GQ {A G : List Int} (hA : A.length <= 1000) : oL (exec gz 100000 1022 (.stmts [fG 51 mY]) false (s0 A G)) (wJ A G) :=
  AA (d := Bi) (g := 1020) (x := sB) (.inr rfl) (by decide +kernel) (by rfl) rfl (Qa rfl rfl (by omega) (by omega)) (by omega) (by decide)
theorem AB {A G : List Int} (hA : A.length <= 1000) : oL (exec gz 100000 1022 (.stmts [fG 50 jA]) false (s0 A G)) (wO A G) :=
  AA (d := Bd) (g := 1020) (x := sG) (.inl rfl) (by decide +kernel) (by rfl) rfl (QP rfl rfl (by omega) (by omega)) (by omega) (by decide)
theorem Da {A G : List Int} (hG : G.length <= 1000) : oL (exec gz 100000 1022 (.stmts [fG 51 jA]) false (s0 A G)) (pU A G) :=
  AA (d := Bd) (g := 1020) (x := sG) (.inr rfl) (by decide +kernel) (by rfl) rfl (Pp rfl rfl (by omega) (by omega)) (by omega) (by decide)
end Go.Proofs.YtbpodipdfohikaaGreat
