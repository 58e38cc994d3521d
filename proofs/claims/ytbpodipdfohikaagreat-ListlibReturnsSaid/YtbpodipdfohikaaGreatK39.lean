import Derived.Test.YtbpodipdfohikaaGreatK38
set_option linter.unusedSimpArgs false
set_option linter.unusedVariables false
set_option maxRecDepth 100000
set_option maxHeartbeats 25600000
namespace Go.Proofs.YtbpodipdfohikaaGreat
open Go.RowKit
def gp (fX fE : Nat -> Nat -> Bool) : List Int -> List Int -> Except Int (List Int × List Int)
  | [], G => if fX 0 G.length then .ok ([], G)else .error 13
  |e :: r, G => if fX (r.length + 1) G.length then .ok ((e :: r).reverse, G)else if 1000 <= G.length then .error 5 else if fE r.length (G.length + 1)then .error 15 else gp fX fE r (G ++ [e])
def dP (K : Nat -> Prop) (C C' : List (List Int)) : Prop := C.length <= C'.length /\ ∀ k, k < C.length -> ¬ K k -> C'[k]? = C[k]?
theorem dP.trans {K : Nat -> Prop} {C C' qV : List (List Int)} (h : dP K C C') (h2 : dP K C' qV) : dP K C qV :=
  ⟨Nat.le_trans h.1 h2.1, λk hk hn => (h2.2 k (Nat.lt_of_lt_of_le hk h.1) hn).trans (h.2 k hk hn)⟩
theorem dP.set {K : Nat -> Prop} {C C' : List (List Int)} {i : Nat} (h : dP K C C') (hi : K i) (v : List Int) : dP K C (C'.set i v) :=
  ⟨by simpa using h.1, λk hk hn => by rw[List.getElem?_set_ne (show i ≠ k from λe => hn (by rw[← e]; exact hi))]; exact h.2 k hk hn⟩
theorem dP.app {K : Nat -> Prop} {C C' : List (List Int)} (h : dP K C C') (D : List (List Int)) : dP K C (C' ++ D) :=
  ⟨by have := h.1; simp; omega, λk hk hn => by rw[List.getElem?_append_left (Nat.lt_of_lt_of_le hk h.1)]; exact h.2 k hk hn⟩
theorem dP.refl (K : Nat -> Prop) (C : List (List Int)) : dP K C C := ⟨Nat.le_refl _, λ_ _ _ => rfl⟩
section
variable {P : List bB} {V : List (au × Nat)} {n fuel : Nat} {B : dB} {p q : ByteArray} {dp dq : au} {ip iq : Nat} {E X : Tree} (fX fE : Nat -> Nat -> Bool) (b : Bool) (hM : BH p q) (hx : aZ V sX = none)
    (hp : aZ V (if b then q else p) = some (dp, ip)) (hkp : dp.kind = 3) (hq : aZ V (if b then p else q) = some (dq, iq)) (hkq : dq.kind = 3) (hne : ip ≠ iq)
    (I : List (List Int) -> Prop) (hI : ∀ C C', I C -> dP (λk => k = ip \/ k = iq) C C' -> I C')
    (tX : ∀ C st l G, I C -> C[ip]? = some l -> C[iq]? = some G -> (S4 C V n st B).val (if b then E else X) = some (if fX l.length G.length then 1 else 0, 0))
    (tE : ∀ C st l G, I C -> C[ip]? = some l -> C[iq]? = some G -> (S4 C V n st B).val (if b then X else E) = some (if fE l.length G.length then 1 else 0, 0))
include hM hx hp hkp hq hkq hne hI tX tE
theorem Ia {C : List (List Int)} {st g : Nat} {l G : List Int} (hC : I C) (hl : C[ip]? = some l) (hG : C[iq]? = some G) (hf : st + 6 <= fuel) :
    exec P fuel (g + 6) (.round (bQ E X [dw p q])) b (S4 C V n st B) = if fX l.length G.length then some (.ok (S4 C V n (st + 1) B))else if l = []then some (.error 13)else if 1000 <= G.length then some (.error 5)else if fE (l.length - 1) (G.length + 1)then some (.error 15)else
      exec P fuel (g + 5) (.round (bQ E X [dw p q])) b (S4 (((C.set ip l.dropLast).set iq (G ++ [l.getLast?.getD 0])) ++ [[0]]) V n (st + 6) B) := by
  rw[yj, S4.holds (by omega) (tX C (st + 1) l G hC hl hG)]
  simp only[aH]
  by_cases h1 : fX l.length G.length = true
  · simp[h1]
  · simp only[h1]
    have et : turned b [dw p q] = [dw p q] := by cases b <;> rfl
    rw[et, eY, SB b hM hx hp hkp hq hkq hl hG hne (by omega)]
    by_cases h2 : l = []
    · simp[h2, aH]
    · by_cases h3 : 1000 <= G.length
      · simp[h2, h3, aH]
      · simp only[h2, h3, aH, if_false, jy]
        have hs : dP (λk => k = ip \/ k = iq) C (((C.set ip l.dropLast).set iq (G ++ [l.getLast?.getD 0])) ++ [[0]]) := (((dP.refl _ C).set (.inl rfl) _).set (.inr rfl) _).app _
        have i1 := fO hl
        have i2 := fO hG
        rw[S4.holds (by omega) (tE _ (st + 1 + 4 + 1) l.dropLast (G ++ [l.getLast?.getD 0]) (hI _ _ hC hs) (dS (by rw[List.getElem?_set_ne (Ne.symm hne), List.getElem?_set_self i1])) (dS (by rw[List.getElem?_set_self (by simpa using i2)])))]
        simp only[List.length_dropLast, List.length_append, List.length_cons, List.length_nil, Nat.zero_add]
        by_cases h4 : fE (l.length - 1) (G.length + 1) = true
        · simp[h4]
        · simp[h4]
theorem yA : ∀ (r : List Int) {C : List (List Int)} {st g : Nat} {G : List Int}, I C -> C[ip]? = some r.reverse -> C[iq]? = some G -> st + 6 * r.length + 6 <= fuel -> r.length + 6 <= g ->
    match gp fX fE r G with
    |.ok (l', G') => ∃ C' st', exec P fuel g (.round (bQ E X [dw p q])) b (S4 C V n st B) = some (.ok (S4 C' V n st' B)) /\ C'[ip]? = some l' /\ C'[iq]? = some G' /\ dP (λk => k = ip \/ k = iq) C C' /\ st' <= st + 6 * r.length + 1
    |.error e => exec P fuel g (.round (bQ E X [dw p q])) b (S4 C V n st B) = some (.error e)
  | [], C, st, g, G, hC, hl, hG, hf, hg => by
    obtain⟨g, rfl⟩ : ∃ k, g = k + 6 := ⟨g - 6, by omega⟩
    rw[Ia fX fE b hM hx hp hkp hq hkq hne I hI tX tE hC hl hG (by simp at hf; omega)]
    simp only[gp, List.reverse_nil, List.length_nil, if_true]
    by_cases h1 : fX 0 G.length = true
    · simp only[h1, if_true]
      exact⟨C, st + 1, rfl, hl, hG, dP.refl _ _, by omega⟩
    · simp[h1]
  |e :: r, C, st, g, G, hC, hl, hG, hf, hg => by
    obtain⟨g, rfl⟩ : ∃ k, g = k + 6 := ⟨g - 6, by omega⟩
    simp only[List.length_cons]at hf hg
    rw[Ia fX fE b hM hx hp hkp hq hkq hne I hI tX tE hC hl hG (by omega)]
    have e1 : (e :: r).reverse.length = r.length + 1 := by simp
    have e2 : (e :: r).reverse ≠ [] := by simp
    have e3 : (e :: r).reverse.dropLast = r.reverse := by simp
    have e4 : (e :: r).reverse.getLast?.getD 0 = e := by simp
    simp only[gp, e1, e2, e3, e4, if_false, Nat.add_sub_cancel]
    by_cases h1 : fX (r.length + 1) G.length = true
    · simp only[h1, if_true]
      exact⟨C, st + 1, rfl, hl, hG, dP.refl _ _, by omega⟩
    · simp only[h1]
      by_cases h2 : 1000 <= G.length
      · simp[h2]
      · simp only[h2]
        by_cases h3 : fE r.length (G.length + 1) = true
        · simp[h3]
        · simp only[h3]
          have hs : dP (λk => k = ip \/ k = iq) C (((C.set ip r.reverse).set iq (G ++ [e])) ++ [[0]]) := (((dP.refl _ C).set (.inl rfl) _).set (.inr rfl) _).app _
          have i1 := fO hl
          have i2 := fO hG
          have ih := yA r (C := ((C.set ip r.reverse).set iq (G ++ [e])) ++ [[0]]) (st := st + 6) (g := g + 5) (G := G ++ [e]) (hI _ _ hC hs) (dS (by rw[List.getElem?_set_ne (Ne.symm hne), List.getElem?_set_self i1])) (dS (by rw[List.getElem?_set_self (by simpa using i2)])) (by omega) (by omega)
          simp only[Bool.false_eq_true, if_false]
          cases hL : gp fX fE r (G ++ [e])with
          |error e => rw[hL]at ih; exact ih
          |ok y =>
            obtain⟨l', G'⟩ := y
            rw[hL]at ih
            obtain⟨C', st', h5, h6, h7, h8, h9⟩ := ih
            exact⟨C', st', h5, h6, h7, hs.trans h8, by simp only[List.length_cons]; omega⟩
end
def vS (s : ByteArray) (i : Nat) : au × Nat := (⟨s, 3, 0⟩, i)
def wO (A G : List Int) : Except Int (List Int × List Int) := match gp (λs _ => s == 0) (λs _ => s == A.length) A.reverse G with
  |.error e => .error e
  |.ok (l, G') => if 1000 <= G'.length then .error 5 else .ok (l, G' ++ [(A.length : Int)])
def pU (A G : List Int) : Except Int (List Int × List Int) := match G.reverse with
  | [] => .error 13
  |N :: r => if A ≠ []then .error 15 else match gp (λ_ d => decide ((d : Int) = N)) (λ_ d => d == 0) r []with
    |.error e => .error e
    |.ok (l, G') => if N = (G'.length : Int)then .ok (G', l)else .error 16
theorem I6 : BH sA sG := ⟨by decide +kernel, by decide +kernel, by decide +kernel, by decide, by decide⟩
theorem I7 : BH sA sT := ⟨by decide +kernel, by decide +kernel, by decide +kernel, by decide, by decide⟩
theorem iQ {C : List (List Int)} {V : List (au × Nat)} {n st : Nat} {B : dB} {x : ByteArray} {d : au} {i : Nat} {l : List Int} (hx : aN (aW (aL x) (aB 0)) = true) (hx2 : aN (aL x) = true) (h : aZ V x = some (d, i)) (hl : C[i]? = some l) : (S4 C V n st B).val (aW (aL x) (aB 0)) = some (if(l.length == 0) = true then 1 else 0, 0) := by
  rw[S4.eq hx (S4.size hx2 h hl) (S4.num (Int.le_refl 0))]
  congr 2
  by_cases h0 : l.length = 0 <;> simp[h0]
theorem D8 {C : List (List Int)} {V : List (au × Nat)} {n st : Nat} {B : dB} {x y : ByteArray} {d d2 : au} {i j : Nat} {l : List Int} {N : Int} (hx : aN (aW (aL x) (bP y)) = true) (hx2 : aN (aL x) = true) (hx3 : aN (bP y) = true) (h : aZ V x = some (d, i)) (hl : C[i]? = some l) (h2 : aZ V y = some (d2, j)) (hN : C[j]? = some [N]) : (S4 C V n st B).val (aW (aL x) (bP y)) = some (if(l.length : Int) = N then 1 else 0, 0) := by
  rw[S4.eq hx (S4.size hx2 h hl) (S4.var hx3 h2 hN)]
theorem pM : aN (aW (aL sA) (aB 0)) = true := by decide +kernel
theorem F5 : aN (aW (aL sA) (bP sN)) = true := by decide +kernel
theorem jJ : aN (aL sA) = true := by decide +kernel
theorem F6 : aN (bP sN) = true := by decide +kernel
theorem st1 : aX (cZ sN (aL sA) [bQ (aW (aL sA) (bP sN)) (aW (aL sA) (aB 0)) [dw sA sG], psT sN sG] (aB 0)) = true := by decide +kernel
theorem st2 : aX (bQ (aW (aL sA) (bP sN)) (aW (aL sA) (aB 0)) [dw sA sG]) = true := by decide +kernel
theorem NK : aX (psT sN sG) = true := by decide +kernel
theorem rP : ((1 : Int) != 0) = true := by decide
theorem um : ((0 : Int) != 0) = false := by decide
def qj (V : List (au × Nat)) (n st m : Nat) (B : dB) (r : Option (Except Int ah)) (a : Except Int (List Int × List Int)) : Prop := match a with
  |.error e => r = some (.error e)
  |.ok y => ∃ C' st', r = some (.ok (S4 C' V n st' B)) /\ C'[0]? = some y.1 /\ C'[1]? = some y.2 /\ st' <= st + m
set_option maxHeartbeats 1000000 in
theorem QP {P : List bB} {C : List (List Int)} {n st fuel g : Nat} {B : dB} {A G : List Int} (hA : C[0]? = some A) (hG : C[1]? = some G) (hf : st + 6 * A.length + 12 <= fuel) (hg : A.length + 20 <= g) :
    qj [vS sA 0, vS sG 1] n st (6 * A.length + 12) B (exec P fuel g (.stmts (turned false yH.kids)) false (S4 C [vS sA 0, vS sG 1] n st B)) (wO A G) := by
  obtain⟨g, rfl⟩ : ∃ k, g = k + 5 := ⟨g - 5, by omega⟩
  have h0 := fO hA
  have h1 := fO hG
  show qj _ _ _ _ _ (exec P fuel (g + 5) (.stmts [cZ sN (aL sA) [bQ (aW (aL sA) (bP sN)) (aW (aL sA) (aB 0)) [dw sA sG], psT sN sG] (aB 0)]) false _) _
  rw[eY, tQ st1, S4.step (by omega)]
  simp only[aH, Bool.false_eq_true, if_false]
  rw[S4.value (S4.size jJ (d := ⟨sA, 3, 0⟩) (i := 0) rfl hA)]
  simp only
  rw[S4.open (by rfl)]
  simp only[if_true, turned, Bool.false_eq_true, if_false]
  rw[eY, wE st2]
  simp only[Bool.false_eq_true, if_false]
  have hN : (C ++ [[(A.length : Int)]])[C.length]? = some [(A.length : Int)] := by rw[List.getElem?_append_right (Nat.le_refl _)]; simp
  rw[S4.holds (by omega) (D8 F5 jJ F6 (d := ⟨sA, 3, 0⟩) (i := 0) rfl (dS hA) (d2 := ⟨sN, 1, 0⟩) (j := C.length) rfl hN)]
  simp only[if_true, rP, aH]
  have L := yA (P := P) (V := [vS sA 0, vS sG 1] ++ [(⟨sN, 1, 0⟩, C.length)]) (n := n + 1) (fuel := fuel) (B := B) (E := aW (aL sA) (bP sN)) (X := aW (aL sA) (aB 0)) (dp := ⟨sA, 3, 0⟩) (dq := ⟨sG, 3, 0⟩) (ip := 0) (iq := 1) (λs _ => s == 0) (λs _ => s == A.length) false I6 (by rfl) (by rfl) rfl (by rfl) rfl (by omega)
    (λD => C.length < D.length /\ D[C.length]? = some [(A.length : Int)]) (λD D' h hs => ⟨Nat.lt_of_lt_of_le h.1 hs.1, (hs.2 _ h.1 (by omega)).trans h.2⟩)
    (λD st l G hD hl hG => by
      rw[if_neg (by decide)]
      exact iQ pM jJ (d := ⟨sA, 3, 0⟩) (i := 0) rfl hl)
    (λD st l G hD hl hG => by
      rw[if_neg (by decide)]
      rw[D8 F5 jJ F6 (d := ⟨sA, 3, 0⟩) (i := 0) rfl hl (d2 := ⟨sN, 1, 0⟩) (j := C.length) rfl hD.2]
      congr 2
      by_cases h : l.length = A.length
      · simp[h]
      · have h2 : ¬ (l.length : Int) = A.length := by omega
        rw[if_neg h2, if_neg (by simpa using h)])
    A.reverse (C := C ++ [[(A.length : Int)]]) (st := st + 1 + 1) (g := g + 1) (G := G) ⟨by simp, hN⟩ (by rw[List.reverse_reverse]; exact dS hA) (dS hG) (by simp; omega) (by simp; omega)
  unfold wO
  cases hL : gp (λs _ => s == 0) (λs _ => s == A.length) A.reverse G with
  |error e =>
    rw[hL]at L
    simp only at L
    rw[L]; rfl
  |ok y =>
    obtain⟨l, G'⟩ := y
    rw[hL]at L
    obtain⟨C', st', L1, L2, L3, L4, L5⟩ := L
    rw[L1]
    simp only[List.length_reverse]at L5
    have hn2 : C'[C.length]? = some [(A.length : Int)] := (L4.2 _ (by simp) (by omega)).trans hN
    simp only
    rw[eY, qZ NK, S4.step (by omega)]
    simp only[aH, Bool.not_false]
    rw[S4.push (dn := ⟨sG, 3, 0⟩) (i := 1) (dp := ⟨sN, 1, 0⟩) (j := C.length) (by rfl) rfl (by rfl) rfl L3 hn2 (by omega)]
    by_cases hF : 1000 <= G'.length
    · simp only[hF, if_true]; rfl
    · simp only[hF, if_false, jy]
      rw[S4.step (by omega)]
      simp only[oC]
      have hc := fO hn2
      rw[S4.close (x := sN) (c := 0) (by rw[List.getElem?_set_self (by simpa using hc)])]
      simp only[if_true]
      exact⟨_, _, rfl, by rw[List.getElem?_set_ne (by omega), List.getElem?_set_ne (by omega)]; exact L2, by rw[List.getElem?_set_ne (by omega), List.getElem?_set_self (fO L3)], by omega⟩
set_option maxHeartbeats 1000000 in
theorem Pp {P : List bB} {C : List (List Int)} {n st fuel g : Nat} {B : dB} {A G : List Int} (hA : C[0]? = some A) (hG : C[1]? = some G) (hf : st + 6 * G.length + 12 <= fuel) (hg : G.length + 20 <= g) :
    qj [vS sA 0, vS sG 1] n st (6 * G.length + 12) B (exec P fuel g (.stmts (turned true yH.kids)) true (S4 C [vS sA 0, vS sG 1] n st B)) (pU A G) := by
  obtain⟨g, rfl⟩ : ∃ k, g = k + 5 := ⟨g - 5, by omega⟩
  have h0 := fO hA
  have h1 := fO hG
  show qj _ _ _ _ _ (exec P fuel (g + 5) (.stmts [cZ sN (aL sA) [bQ (aW (aL sA) (bP sN)) (aW (aL sA) (aB 0)) [dw sA sG], psT sN sG] (aB 0)]) true _) _
  rw[eY, tQ st1, S4.step (by omega)]
  simp only[aH, if_true, oC]
  rw[S4.open (by rfl)]
  simp only[if_true]
  rw[show turned true [bQ (aW (aL sA) (bP sN)) (aW (aL sA) (aB 0)) [dw sA sG], psT sN sG] = [psT sN sG, bQ (aW (aL sA) (bP sN)) (aW (aL sA) (aB 0)) [dw sA sG]]from rfl]
  have hN0 : (C ++ [[(0 : Int)]])[C.length]? = some [(0 : Int)] := by rw[List.getElem?_append_right (Nat.le_refl _)]; simp
  rw[eY, qZ NK, S4.step (by omega)]
  simp only[aH, Bool.not_true]
  rw[S4.pop (dn := ⟨sG, 3, 0⟩) (i := 1) (dp := ⟨sN, 1, 0⟩) (j := C.length) (by rfl) rfl (by rfl) rfl (dS hG) hN0 (by omega)]
  unfold pU
  cases hr : G.reverse with
  |nil =>
    have : G = [] := by simpa using hr
    simp only[this, if_true]; rfl
  |cons N r =>
    have CL : G = r.reverse ++ [N] := by rw[← List.reverse_reverse G, hr]; simp
    have X3 : G.length = r.length + 1 := by rw[CL]; simp
    have e2 : G ≠ [] := by rw[CL]; simp
    have e3 : G.dropLast = r.reverse := by rw[CL]; simp
    have e4 : G.getLast?.getD 0 = N := by rw[CL]; simp
    simp only[e2, e3, e4, if_false, ne_eq, not_true_eq_false]
    rw[eY, wE st2]
    simp only[if_true]
    rw[S4.holds (by omega) (iQ pM jJ (d := ⟨sA, 3, 0⟩) (i := 0) rfl (l := A) (by rw[List.getElem?_set_ne (by omega), List.getElem?_set_ne (by omega)]; exact dS hA))]
    by_cases jk : A = []
    · have hA1 : (A.length == 0) = true := by rw[jk]; rfl
      have hA2 : ¬ ¬ A = [] := λh => h jk
      simp only[hA1, hA2, if_true, rP, aH, if_false]
      have hc : C.length < (((C ++ [[(0 : Int)]]).set 1 r.reverse).set C.length [N]).length := by simp
      have hN : (((C ++ [[(0 : Int)]]).set 1 r.reverse).set C.length [N])[C.length]? = some [N] := by rw[List.getElem?_set_self (by simp)]
      have L := yA (P := P) (V := [vS sA 0, vS sG 1] ++ [(⟨sN, 1, 0⟩, C.length)]) (n := n + 1) (fuel := fuel) (B := B) (E := aW (aL sA) (bP sN)) (X := aW (aL sA) (aB 0)) (dp := ⟨sG, 3, 0⟩) (dq := ⟨sA, 3, 0⟩) (ip := 1) (iq := 0) (λ_ d => decide ((d : Int) = N)) (λ_ d => d == 0) true I6 (by rfl) (by rfl) rfl (by rfl) rfl (by omega)
        (λD => C.length < D.length /\ D[C.length]? = some [N]) (λD D' h hs => ⟨Nat.lt_of_lt_of_le h.1 hs.1, (hs.2 _ h.1 (by omega)).trans h.2⟩)
        (λD st l G hD hl hG => by
          rw[if_pos rfl, D8 F5 jJ F6 (d := ⟨sA, 3, 0⟩) (i := 0) rfl hG (d2 := ⟨sN, 1, 0⟩) (j := C.length) rfl hD.2]
          by_cases h : (G.length : Int) = N <;> simp[h])
        (λD st l G hD hl hG => by
          rw[if_pos rfl]
          exact iQ pM jJ (d := ⟨sA, 3, 0⟩) (i := 0) rfl hG)
        r (C := (((C ++ [[(0 : Int)]]).set 1 r.reverse).set C.length [N])) (st := st + 1 + 1 + 1) (g := g) (G := []) ⟨hc, hN⟩ (by rw[List.getElem?_set_ne (by omega), List.getElem?_set_self (by simp; omega)]) (by rw[List.getElem?_set_ne (by omega), List.getElem?_set_ne (by omega), ← jk]; exact dS hA) (by omega) (by omega)
      cases hL : gp (λ_ d => decide ((d : Int) = N)) (λ_ d => d == 0) r []with
      |error e =>
        rw[hL]at L
        simp only at L
        rw[L]; rfl
      |ok y =>
        obtain⟨l, G'⟩ := y
        rw[hL]at L
        obtain⟨C', st', L1, L2, L3, L4, L5⟩ := L
        rw[L1]
        have hn2 : C'[C.length]? = some [N] := (L4.2 _ hc (by omega)).trans hN
        simp only[jy]
        rw[S4.step (by omega)]
        simp only
        rw[S4.value (S4.size jJ (d := ⟨sA, 3, 0⟩) (i := 0) rfl L3)]
        simp only
        rw[S4.close (x := sN) hn2]
        by_cases hq : N = (G'.length : Int)
        · simp only[hq, if_true]
          exact⟨_, _, rfl, L3, L2, by omega⟩
        · simp only[hq, if_false]; rfl
    · have hA1 : (A.length == 0) = false := by simp[jk]
      simp only[hA1, jk, if_true, if_false, Bool.false_eq_true, um, aH, not_false_eq_true]; rfl
theorem dE {C : List (List Int)} {i j : Nat} {l v : List Int} (h : j ≠ i) (hl : C[i]? = some l) : (C.set j v)[i]? = some l := by
  rw[List.getElem?_set_ne h]; exact hl
theorem lq {C : List (List Int)} {j : Nat} {v : List Int} (h : j < C.length) : (C.set j v)[j]? = some v := by
  rw[List.getElem?_set_self h]
theorem rF (C : List (List Int)) (v : List Int) : (C ++ [v])[C.length]? = some v := by
  rw[List.getElem?_append_right (Nat.le_refl _)]; simp
structure Ac (it ib ia : Nat) (C C' : List (List Int)) (t b a : List Int) : Prop where
  t : C'[it]? = some t
  b : C'[ib]? = some b
  a : C'[ia]? = some a
  s : dP (λk => k = it \/ k = ib \/ k = ia) C C'
def Bh (V : List (au × Nat)) (n st m : Nat) (B : dB) (it ib ia : Nat) (C : List (List Int)) (r : Option (Except Int ah)) (x : Except Int (List Int × List Int × List Int)) : Prop := match x with
  |.error e => r = some (.error e)
  |.ok y => ∃ C' st', r = some (.ok (S4 C' V n st' B)) /\ Ac it ib ia C C' y.1 y.2.1 y.2.2 /\ st' <= st + m
def EG (t b a : List Int) : Except Int (List Int × List Int × List Int) := if t = []then .error 13 else if 1000 <= b.length then .error 5 else if 1000 <= a.length then .error 5 else .ok (t.dropLast, b ++ [t.getLast?.getD 0], a ++ [t.getLast?.getD 0])
def D9 (t b a : List Int) : Except Int (List Int × List Int × List Int) := if a = []then .error 13 else if b = []then .error 13 else if b.getLast?.getD 0 ≠ a.getLast?.getD 0 then .error 16 else if 1000 <= t.length then .error 5 else .ok (t ++ [a.getLast?.getD 0], b.dropLast, a.dropLast)
theorem NL : aX kK = true := by decide +kernel
theorem NM : aX (cZ sY (bP sX) [psT sY sB] (aB 0)) = true := by decide +kernel
theorem NN : aX (eT sX sT) = true := by decide +kernel
theorem NP : aX (psT sY sB) = true := by decide +kernel
theorem NQ : aX (psT sX sA) = true := by decide +kernel
theorem NR : aN (bP sX) = true := by decide +kernel
theorem mJ {V : List (au × Nat)} {s n : ByteArray} {k : Int} {i : Nat} {u : Option (au × Nat)} (h : (s == n) = false) (hu : aZ V n = u) : aZ (V ++ [(⟨s, k, 0⟩, i)]) n = u := by
  rw[yh]
  simp only[h]
  exact hu
theorem rG {V : List (au × Nat)} {s : ByteArray} {i : Nat} : aZ (V ++ [(⟨s, 1, 0⟩, i)]) s = some (⟨s, 1, 0⟩, i) := by
  rw[yh]; simp
section
variable {P : List bB} {V : List (au × Nat)} {n fuel : Nat} {B : dB} {it ib ia : Nat} (ht : aZ V sT = some (⟨sT, 3, 0⟩, it)) (hb : aZ V sB = some (⟨sB, 3, 0⟩, ib)) (ha : aZ V sA = some (⟨sA, 3, 0⟩, ia)) (hx : aZ V sX = none) (hy : aZ V sY = none) (h1 : it ≠ ib) (h2 : it ≠ ia) (h3 : ib ≠ ia)
include ht hb ha hx hy h1 h2 h3
set_option maxHeartbeats 2000000 in
theorem R6 {C : List (List Int)} {st g : Nat} {t b a : List Int} (ct : C[it]? = some t) (cb : C[ib]? = some b) (ca : C[ia]? = some a) (hf : st + 7 <= fuel) : Bh V n st 7 B it ib ia C (exec P fuel (g + 6) (.stmt kK) false (S4 C V n st B)) (EG t b a) := by
  have lt := fO ct
  have lb := fO cb
  have la := fO ca
  unfold kK EG
  rw[tQ NL, S4.step (by omega)]
  simp only[aH, Bool.false_eq_true, if_false, oC]
  rw[S4.open hx]
  simp only[if_true, turned, Bool.false_eq_true, if_false]
  rw[eY, AQ NN, S4.step (by omega)]
  simp only[aH]
  rw[S4.pop (mJ (by decide) ht) rfl rG rfl (dS ct) (v := 0) (rF C _) (by omega)]
  by_cases hE : t = []
  · simp only[hE, if_true]; rfl
  simp only[hE, if_false, ne_eq, not_true_eq_false]
  generalize he : t.getLast?.getD 0 = e
  generalize hC2 : ((C ++ [[(0 : Int)]]).set it t.dropLast).set C.length [e] = C2
  have q1 : C2.length = C.length + 1 := by rw[← hC2]; simp
  have qt : C2[it]? = some t.dropLast := by rw[← hC2]; exact dE (by omega) (lq (by simp; omega))
  have qb : C2[ib]? = some b := by rw[← hC2]; exact dE (by omega) (dE h1 (dS cb))
  have qa : C2[ia]? = some a := by rw[← hC2]; exact dE (by omega) (dE h2 (dS ca))
  have qx : C2[C.length]? = some [e] := by rw[← hC2]; exact lq (by simp)
  have qs : dP (λk => k = it \/ k = ib \/ k = ia) C C2 := by
    rw[← hC2, List.set_append_left _ _ lt, List.set_append_right _ _ (by simp)]
    exact((dP.refl _ C).set (.inl rfl) _).app _
  clear hC2
  rw[eY, tQ NM, S4.step (by omega)]
  simp only[aH, Bool.false_eq_true, if_false]
  rw[S4.value (S4.var NR rG qx)]
  simp only
  rw[S4.open (mJ (by decide) hy)]
  simp only[if_true, turned, Bool.false_eq_true, if_false]
  rw[eY, qZ NP, S4.step (by omega)]
  simp only[aH, Bool.not_false]
  rw[S4.push (mJ (by decide) (mJ (by decide) hb)) rfl rG rfl (dS qb) (rF C2 _) (by omega)]
  by_cases hF : 1000 <= b.length
  · simp only[hF, if_true]; rfl
  simp only[hF, if_false, jy]
  rw[S4.step (by omega)]
  simp only[oC]
  generalize iZ : ((C2 ++ [[e]]).set ib (b ++ [e])).set C2.length [0] = C3
  have r1 : C3.length = C.length + 2 := by rw[← iZ]; simp; omega
  have rt : C3[it]? = some t.dropLast := by rw[← iZ]; exact dE (by omega) (dE (Ne.symm h1) (dS qt))
  have rb : C3[ib]? = some (b ++ [e]) := by rw[← iZ]; exact dE (by omega) (lq (by simp; omega))
  have ra : C3[ia]? = some a := by rw[← iZ]; exact dE (by omega) (dE h3 (dS qa))
  have rx : C3[C.length]? = some [e] := by rw[← iZ]; exact dE (by omega) (dE (by omega) (dS qx))
  have ry : C3[C2.length]? = some [0] := by rw[← iZ]; exact lq (by simp)
  have rs : dP (λk => k = it \/ k = ib \/ k = ia) C C3 := by
    rw[← iZ, List.set_append_left _ _ (by omega), List.set_append_right _ _ (by simp)]
    exact(qs.set (.inr (.inl rfl)) _).app _
  clear iZ
  rw[S4.close ry]
  simp only[if_true]
  rw[eY, qZ NQ, S4.step (by omega)]
  simp only[aH, Bool.not_false]
  rw[S4.push (mJ (by decide) ha) rfl rG rfl ra rx (by omega)]
  by_cases hF2 : 1000 <= a.length
  · simp only[hF2, if_true]; rfl
  simp only[hF2, if_false, jy]
  rw[S4.step (by omega)]
  simp only[oC]
  rw[S4.close (x := sX) (c := 0) (lq (by simp; omega))]
  simp only[if_true]
  have F7 : dP (λk => k = it \/ k = ib \/ k = ia) C ((C3.set ia (a ++ [e])).set C.length [0]) := by
    have h5 := rs.set (i := ia) (.inr (.inr rfl)) (a ++ [e])
    exact⟨by simpa using h5.1, λk hk hn => by rw[List.getElem?_set_ne (by omega)]; exact h5.2 k hk hn⟩
  exact⟨_, _, rfl, ⟨dE (by omega) (dE (Ne.symm h2) rt), dE (by omega) (dE (Ne.symm h3) rb), dE (by omega) (lq (by omega)), F7⟩, by omega⟩
set_option maxHeartbeats 2000000 in
theorem QQ {C : List (List Int)} {st g : Nat} {t b a : List Int} (ct : C[it]? = some t) (cb : C[ib]? = some b) (ca : C[ia]? = some a) (hf : st + 7 <= fuel) : Bh V n st 7 B it ib ia C (exec P fuel (g + 6) (.stmt kK) true (S4 C V n st B)) (D9 t b a) := by
  have lt := fO ct
  have lb := fO cb
  have la := fO ca
  unfold kK D9
  rw[tQ NL, S4.step (by omega)]
  simp only[aH, if_true, oC]
  rw[S4.open hx]
  simp only[if_true]
  rw[show turned true [eT sX sT, cZ sY (bP sX) [psT sY sB] (aB 0), psT sX sA] = [psT sX sA, cZ sY (bP sX) [psT sY sB] (aB 0), eT sX sT]from rfl]
  rw[eY, qZ NQ, S4.step (by omega)]
  simp only[aH, Bool.not_true]
  rw[S4.pop (mJ (by decide) ha) rfl rG rfl (dS ca) (v := 0) (rF C _) (by omega)]
  by_cases hE : a = []
  · simp only[hE, if_true]; rfl
  simp only[hE, if_false, ne_eq, not_true_eq_false]
  generalize he : a.getLast?.getD 0 = e
  generalize hC2 : ((C ++ [[(0 : Int)]]).set ia a.dropLast).set C.length [e] = C2
  have q1 : C2.length = C.length + 1 := by rw[← hC2]; simp
  have qt : C2[it]? = some t := by rw[← hC2]; exact dE (by omega) (dE (Ne.symm h2) (dS ct))
  have qb : C2[ib]? = some b := by rw[← hC2]; exact dE (by omega) (dE (Ne.symm h3) (dS cb))
  have qa : C2[ia]? = some a.dropLast := by rw[← hC2]; exact dE (by omega) (lq (by simp; omega))
  have qx : C2[C.length]? = some [e] := by rw[← hC2]; exact lq (by simp)
  have qs : dP (λk => k = it \/ k = ib \/ k = ia) C C2 := by
    rw[← hC2, List.set_append_left _ _ la, List.set_append_right _ _ (by simp)]
    exact((dP.refl _ C).set (.inr (.inr rfl)) _).app _
  clear hC2
  rw[eY, tQ NM, S4.step (by omega)]
  simp only[aH, if_true, oC]
  rw[S4.open (mJ (by decide) hy)]
  simp only[if_true]
  rw[show turned true [psT sY sB] = [psT sY sB]from rfl]
  rw[eY, qZ NP, S4.step (by omega)]
  simp only[aH, Bool.not_true]
  rw[S4.pop (mJ (by decide) (mJ (by decide) hb)) rfl rG rfl (dS qb) (v := 0) (rF C2 _) (by omega)]
  by_cases hF : b = []
  · simp only[hF, if_true]; rfl
  simp only[hF, if_false, ne_eq, not_true_eq_false, jy]
  rw[S4.step (by omega)]
  simp only
  generalize hfl : b.getLast?.getD 0 = f
  generalize iZ : ((C2 ++ [[(0 : Int)]]).set ib b.dropLast).set C2.length [f] = C3
  have r1 : C3.length = C.length + 2 := by rw[← iZ]; simp; omega
  have rt : C3[it]? = some t := by rw[← iZ]; exact dE (by omega) (dE (Ne.symm h1) (dS qt))
  have rb : C3[ib]? = some b.dropLast := by rw[← iZ]; exact dE (by omega) (lq (by simp; omega))
  have ra : C3[ia]? = some a.dropLast := by rw[← iZ]; exact dE (by omega) (dE h3 (dS qa))
  have rx : C3[C.length]? = some [e] := by rw[← iZ]; exact dE (by omega) (dE (by omega) (dS qx))
  have ry : C3[C2.length]? = some [f] := by rw[← iZ]; exact lq (by simp)
  have rs : dP (λk => k = it \/ k = ib \/ k = ia) C C3 := by
    rw[← iZ, List.set_append_left _ _ (by omega), List.set_append_right _ _ (by simp)]
    exact(qs.set (.inr (.inl rfl)) _).app _
  clear iZ
  rw[S4.value (S4.var NR (mJ (by decide) rG) rx)]
  simp only
  rw[S4.close ry]
  by_cases hfe : f = e
  · simp only[hfe, if_true, not_true_eq_false, if_false]
    rw[eY, AQ NN, S4.step (by omega)]
    simp only[aH]
    rw[S4.push (mJ (by decide) ht) rfl rG rfl rt rx (by omega)]
    by_cases hF2 : 1000 <= t.length
    · simp only[hF2, if_true]; rfl
    simp only[hF2, if_false, jy]
    rw[S4.step (by omega)]
    simp only[oC]
    rw[S4.close (x := sX) (c := 0) (lq (by simp; omega))]
    simp only[if_true]
    have F7 : dP (λk => k = it \/ k = ib \/ k = ia) C ((C3.set it (t ++ [e])).set C.length [0]) := by
      have h5 := rs.set (i := it) (.inl rfl) (t ++ [e])
      exact⟨by simpa using h5.1, λk hk hn => by rw[List.getElem?_set_ne (by omega)]; exact h5.2 k hk hn⟩
    exact⟨_, _, rfl, ⟨dE (by omega) (lq (by omega)), dE (by omega) (dE h1 rb), dE (by omega) (dE h2 ra), F7⟩, by omega⟩
  · simp only[hfe, if_false, not_false_eq_true, if_true]; rfl
end
end Go.Proofs.YtbpodipdfohikaaGreat
