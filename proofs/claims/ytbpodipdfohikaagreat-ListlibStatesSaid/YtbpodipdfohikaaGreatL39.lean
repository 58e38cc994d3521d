import Derived.Test.YtbpodipdfohikaaGreatL38
set_option linter.unusedSimpArgs false
set_option linter.unusedVariables false
set_option maxRecDepth 100000
set_option maxHeartbeats 25600000
namespace Go.Proofs.YtbpodipdfohikaaGreat
open Go.RowKit
def gX (fX fE : Nat -> Nat -> Bool) : List Int -> List Int -> Except Int (List Int × List Int)
  | [], G => if fX 0 G.length then .ok ([], G)else .error 13
  |e :: r, G => if fX (r.length + 1) G.length then .ok ((e :: r).reverse, G)else if 1000 <= G.length then .error 5 else if fE r.length (G.length + 1)then .error 15 else gX fX fE r (G ++ [e])
def dS (K : Nat -> Prop) (C C' : List (List Int)) : Prop := C.length <= C'.length /\ ∀ k, k < C.length -> ¬ K k -> C'[k]? = C[k]?
theorem dS.trans {K : Nat -> Prop} {C C' qR : List (List Int)} (h : dS K C C') (h2 : dS K C' qR) : dS K C qR :=
  ⟨Nat.le_trans h.1 h2.1, λk hk hn => (h2.2 k (Nat.lt_of_lt_of_le hk h.1) hn).trans (h.2 k hk hn)⟩
theorem dS.set {K : Nat -> Prop} {C C' : List (List Int)} {i : Nat} (h : dS K C C') (hi : K i) (v : List Int) : dS K C (C'.set i v) :=
  ⟨by simpa using h.1, λk hk hn => by rw[List.getElem?_set_ne (show i ≠ k from λe => hn (by rw[← e]; exact hi))]; exact h.2 k hk hn⟩
theorem dS.app {K : Nat -> Prop} {C C' : List (List Int)} (h : dS K C C') (D : List (List Int)) : dS K C (C' ++ D) :=
  ⟨by have := h.1; simp; omega, λk hk hn => by rw[List.getElem?_append_left (Nat.lt_of_lt_of_le hk h.1)]; exact h.2 k hk hn⟩
theorem dS.refl (K : Nat -> Prop) (C : List (List Int)) : dS K C C := ⟨Nat.le_refl _, λ_ _ _ => rfl⟩
section
variable {P : List bA} {V : List (au × Nat)} {n fuel : Nat} {B : dD} {p q : ByteArray} {dp dq : au} {ip iq : Nat} {E X : Tree} (fX fE : Nat -> Nat -> Bool) (b : Bool) (hM : BM p q) (hx : bf V sX = none)
    (hp : bf V (if b then q else p) = some (dp, ip)) (hkp : dp.kind = 3) (hq : bf V (if b then p else q) = some (dq, iq)) (hkq : dq.kind = 3) (hne : ip ≠ iq)
    (I : List (List Int) -> Prop) (hI : ∀ C C', I C -> dS (λk => k = ip \/ k = iq) C C' -> I C')
    (tX : ∀ C st l G, I C -> C[ip]? = some l -> C[iq]? = some G -> (S4 C V n st B).val (if b then E else X) = some (if fX l.length G.length then 1 else 0, 0))
    (tE : ∀ C st l G, I C -> C[ip]? = some l -> C[iq]? = some G -> (S4 C V n st B).val (if b then X else E) = some (if fE l.length G.length then 1 else 0, 0))
include hM hx hp hkp hq hkq hne hI tX tE
theorem Il {C : List (List Int)} {st g : Nat} {l G : List Int} (hC : I C) (hl : C[ip]? = some l) (hG : C[iq]? = some G) (hf : st + 6 <= fuel) :
    exec P fuel (g + 6) (.round (bT E X [dz p q])) b (S4 C V n st B) = if fX l.length G.length then some (.ok (S4 C V n (st + 1) B))else if l = []then some (.error 13)else if 1000 <= G.length then some (.error 5)else if fE (l.length - 1) (G.length + 1)then some (.error 15)else
      exec P fuel (g + 5) (.round (bT E X [dz p q])) b (S4 (((C.set ip l.dropLast).set iq (G ++ [l.getLast?.getD 0])) ++ [[0]]) V n (st + 6) B) := by
  rw[yt, S4.holds (by omega) (tX C (st + 1) l G hC hl hG)]
  simp only[aI]
  by_cases h1 : fX l.length G.length = true
  · simp[h1]
  · simp only[h1]
    have et : turned b [dz p q] = [dz p q] := by cases b <;> rfl
    rw[et, eX, Tx b hM hx hp hkp hq hkq hl hG hne (by omega)]
    by_cases h2 : l = []
    · simp[h2, aI]
    · by_cases h3 : 1000 <= G.length
      · simp[h2, h3, aI]
      · simp only[h2, h3, aI, if_false, jr]
        have hs : dS (λk => k = ip \/ k = iq) C (((C.set ip l.dropLast).set iq (G ++ [l.getLast?.getD 0])) ++ [[0]]) := (((dS.refl _ C).set (.inl rfl) _).set (.inr rfl) _).app _
        have i1 := fK hl
        have i2 := fK hG
        rw[S4.holds (by omega) (tE _ (st + 1 + 4 + 1) l.dropLast (G ++ [l.getLast?.getD 0]) (hI _ _ hC hs) (dV (by rw[List.getElem?_set_ne (Ne.symm hne), List.getElem?_set_self i1])) (dV (by rw[List.getElem?_set_self (by simpa using i2)])))]
        simp only[List.length_dropLast, List.length_append, List.length_cons, List.length_nil, Nat.zero_add]
        by_cases h4 : fE (l.length - 1) (G.length + 1) = true
        · simp[h4]
        · simp[h4]
theorem yH : ∀ (r : List Int) {C : List (List Int)} {st g : Nat} {G : List Int}, I C -> C[ip]? = some r.reverse -> C[iq]? = some G -> st + 6 * r.length + 6 <= fuel -> r.length + 6 <= g ->
    match gX fX fE r G with
    |.ok (l', G') => ∃ C' st', exec P fuel g (.round (bT E X [dz p q])) b (S4 C V n st B) = some (.ok (S4 C' V n st' B)) /\ C'[ip]? = some l' /\ C'[iq]? = some G' /\ dS (λk => k = ip \/ k = iq) C C' /\ st' <= st + 6 * r.length + 1
    |.error e => exec P fuel g (.round (bT E X [dz p q])) b (S4 C V n st B) = some (.error e)
  | [], C, st, g, G, hC, hl, hG, hf, hg => by
    obtain⟨g, rfl⟩ : ∃ k, g = k + 6 := ⟨g - 6, by omega⟩
    rw[Il fX fE b hM hx hp hkp hq hkq hne I hI tX tE hC hl hG (by simp at hf; omega)]
    simp only[gX, List.reverse_nil, List.length_nil, if_true]
    by_cases h1 : fX 0 G.length = true
    · simp only[h1, if_true]
      exact⟨C, st + 1, rfl, hl, hG, dS.refl _ _, by omega⟩
    · simp[h1]
  |e :: r, C, st, g, G, hC, hl, hG, hf, hg => by
    obtain⟨g, rfl⟩ : ∃ k, g = k + 6 := ⟨g - 6, by omega⟩
    simp only[List.length_cons]at hf hg
    rw[Il fX fE b hM hx hp hkp hq hkq hne I hI tX tE hC hl hG (by omega)]
    have e1 : (e :: r).reverse.length = r.length + 1 := by simp
    have e2 : (e :: r).reverse ≠ [] := by simp
    have e3 : (e :: r).reverse.dropLast = r.reverse := by simp
    have e4 : (e :: r).reverse.getLast?.getD 0 = e := by simp
    simp only[gX, e1, e2, e3, e4, if_false, Nat.add_sub_cancel]
    by_cases h1 : fX (r.length + 1) G.length = true
    · simp only[h1, if_true]
      exact⟨C, st + 1, rfl, hl, hG, dS.refl _ _, by omega⟩
    · simp only[h1]
      by_cases h2 : 1000 <= G.length
      · simp[h2]
      · simp only[h2]
        by_cases h3 : fE r.length (G.length + 1) = true
        · simp[h3]
        · simp only[h3]
          have hs : dS (λk => k = ip \/ k = iq) C (((C.set ip r.reverse).set iq (G ++ [e])) ++ [[0]]) := (((dS.refl _ C).set (.inl rfl) _).set (.inr rfl) _).app _
          have i1 := fK hl
          have i2 := fK hG
          have ih := yH r (C := ((C.set ip r.reverse).set iq (G ++ [e])) ++ [[0]]) (st := st + 6) (g := g + 5) (G := G ++ [e]) (hI _ _ hC hs) (dV (by rw[List.getElem?_set_ne (Ne.symm hne), List.getElem?_set_self i1])) (dV (by rw[List.getElem?_set_self (by simpa using i2)])) (by omega) (by omega)
          simp only[Bool.false_eq_true, if_false]
          cases hL : gX fX fE r (G ++ [e])with
          |error e => rw[hL]at ih; exact ih
          |ok y =>
            obtain⟨l', G'⟩ := y
            rw[hL]at ih
            obtain⟨C', st', h5, h6, h7, h8, h9⟩ := ih
            exact⟨C', st', h5, h6, h7, hs.trans h8, by simp only[List.length_cons]; omega⟩
end
def vS (s : ByteArray) (i : Nat) : au × Nat := (⟨s, 3, 0⟩, i)
def wR (A G : List Int) : Except Int (List Int × List Int) := match gX (λs _ => s == 0) (λs _ => s == A.length) A.reverse G with
  |.error e => .error e
  |.ok (l, G') => if 1000 <= G'.length then .error 5 else .ok (l, G' ++ [(A.length : Int)])
def IX (A G : List Int) : Except Int (List Int × List Int) := match G.reverse with
  | [] => .error 13
  |N :: r => if A ≠ []then .error 15 else match gX (λ_ d => decide ((d : Int) = N)) (λ_ d => d == 0) r []with
    |.error e => .error e
    |.ok (l, G') => if N = (G'.length : Int)then .ok (G', l)else .error 16
theorem Jl : BM sA sG := ⟨by decide +kernel, by decide +kernel, by decide +kernel, by decide, by decide⟩
theorem Jm : BM sA sT := ⟨by decide +kernel, by decide +kernel, by decide +kernel, by decide, by decide⟩
theorem iO {C : List (List Int)} {V : List (au × Nat)} {n st : Nat} {B : dD} {x : ByteArray} {d : au} {i : Nat} {l : List Int} (hx : aN (aW (aL x) (aC 0)) = true) (hx2 : aN (aL x) = true) (h : bf V x = some (d, i)) (hl : C[i]? = some l) : (S4 C V n st B).val (aW (aL x) (aC 0)) = some (if(l.length == 0) = true then 1 else 0, 0) := by
  rw[S4.eq hx (S4.size hx2 h hl) (S4.num (Int.le_refl 0))]
  congr 2
  by_cases h0 : l.length = 0 <;> simp[h0]
theorem Ea {C : List (List Int)} {V : List (au × Nat)} {n st : Nat} {B : dD} {x y : ByteArray} {d d2 : au} {i j : Nat} {l : List Int} {N : Int} (hx : aN (aW (aL x) (bS y)) = true) (hx2 : aN (aL x) = true) (hx3 : aN (bS y) = true) (h : bf V x = some (d, i)) (hl : C[i]? = some l) (h2 : bf V y = some (d2, j)) (hN : C[j]? = some [N]) : (S4 C V n st B).val (aW (aL x) (bS y)) = some (if(l.length : Int) = N then 1 else 0, 0) := by
  rw[S4.eq hx (S4.size hx2 h hl) (S4.var hx3 h2 hN)]
theorem pK : aN (aW (aL sA) (aC 0)) = true := by decide +kernel
theorem Gc : aN (aW (aL sA) (bS sN)) = true := by decide +kernel
theorem jG : aN (aL sA) = true := by decide +kernel
theorem Gd : aN (bS sN) = true := by decide +kernel
theorem st1 : aX (dh sN (aL sA) [bT (aW (aL sA) (bS sN)) (aW (aL sA) (aC 0)) [dz sA sG], psT sN sG] (aC 0)) = true := by decide +kernel
theorem st2 : aX (bT (aW (aL sA) (bS sN)) (aW (aL sA) (aC 0)) [dz sA sG]) = true := by decide +kernel
theorem Oq : aX (psT sN sG) = true := by decide +kernel
theorem rJ : ((1 : Int) != 0) = true := by decide
theorem uq : ((0 : Int) != 0) = false := by decide
def qg (V : List (au × Nat)) (n st m : Nat) (B : dD) (r : Option (Except Int ah)) (a : Except Int (List Int × List Int)) : Prop := match a with
  |.error e => r = some (.error e)
  |.ok y => ∃ C' st', r = some (.ok (S4 C' V n st' B)) /\ C'[0]? = some y.1 /\ C'[1]? = some y.2 /\ st' <= st + m
set_option maxHeartbeats 1000000 in
theorem Rm {P : List bA} {C : List (List Int)} {n st fuel g : Nat} {B : dD} {A G : List Int} (hA : C[0]? = some A) (hG : C[1]? = some G) (hf : st + 6 * A.length + 12 <= fuel) (hg : A.length + 20 <= g) :
    qg [vS sA 0, vS sG 1] n st (6 * A.length + 12) B (exec P fuel g (.stmts (turned false yO.kids)) false (S4 C [vS sA 0, vS sG 1] n st B)) (wR A G) := by
  obtain⟨g, rfl⟩ : ∃ k, g = k + 5 := ⟨g - 5, by omega⟩
  have h0 := fK hA
  have h1 := fK hG
  show qg _ _ _ _ _ (exec P fuel (g + 5) (.stmts [dh sN (aL sA) [bT (aW (aL sA) (bS sN)) (aW (aL sA) (aC 0)) [dz sA sG], psT sN sG] (aC 0)]) false _) _
  rw[eX, tT st1, S4.step (by omega)]
  simp only[aI, Bool.false_eq_true, if_false]
  rw[S4.value (S4.size jG (d := ⟨sA, 3, 0⟩) (i := 0) rfl hA)]
  simp only
  rw[S4.open (by rfl)]
  simp only[if_true, turned, Bool.false_eq_true, if_false]
  rw[eX, wI st2]
  simp only[Bool.false_eq_true, if_false]
  have hN : (C ++ [[(A.length : Int)]])[C.length]? = some [(A.length : Int)] := by rw[List.getElem?_append_right (Nat.le_refl _)]; simp
  rw[S4.holds (by omega) (Ea Gc jG Gd (d := ⟨sA, 3, 0⟩) (i := 0) rfl (dV hA) (d2 := ⟨sN, 1, 0⟩) (j := C.length) rfl hN)]
  simp only[if_true, rJ, aI]
  have L := yH (P := P) (V := [vS sA 0, vS sG 1] ++ [(⟨sN, 1, 0⟩, C.length)]) (n := n + 1) (fuel := fuel) (B := B) (E := aW (aL sA) (bS sN)) (X := aW (aL sA) (aC 0)) (dp := ⟨sA, 3, 0⟩) (dq := ⟨sG, 3, 0⟩) (ip := 0) (iq := 1) (λs _ => s == 0) (λs _ => s == A.length) false Jl (by rfl) (by rfl) rfl (by rfl) rfl (by omega)
    (λD => C.length < D.length /\ D[C.length]? = some [(A.length : Int)]) (λD D' h hs => ⟨Nat.lt_of_lt_of_le h.1 hs.1, (hs.2 _ h.1 (by omega)).trans h.2⟩)
    (λD st l G hD hl hG => by
      rw[if_neg (by decide)]
      exact iO pK jG (d := ⟨sA, 3, 0⟩) (i := 0) rfl hl)
    (λD st l G hD hl hG => by
      rw[if_neg (by decide)]
      rw[Ea Gc jG Gd (d := ⟨sA, 3, 0⟩) (i := 0) rfl hl (d2 := ⟨sN, 1, 0⟩) (j := C.length) rfl hD.2]
      congr 2
      by_cases h : l.length = A.length
      · simp[h]
      · have h2 : ¬ (l.length : Int) = A.length := by omega
        rw[if_neg h2, if_neg (by simpa using h)])
    A.reverse (C := C ++ [[(A.length : Int)]]) (st := st + 1 + 1) (g := g + 1) (G := G) ⟨by simp, hN⟩ (by rw[List.reverse_reverse]; exact dV hA) (dV hG) (by simp; omega) (by simp; omega)
  unfold wR
  cases hL : gX (λs _ => s == 0) (λs _ => s == A.length) A.reverse G with
  |error e =>
    rw[hL]at L
    simp only at L
    rw[L]; rfl
  |ok y =>
    obtain⟨l, G'⟩ := y
    rw[hL]at L
    obtain⟨C', st', L1, L2, L3, L4, L5⟩ := L
    rw[L1]
    simp only[List.length_reverse]at L5
    have hn2 : C'[C.length]? = some [(A.length : Int)] := (L4.2 _ (by simp) (by omega)).trans hN
    simp only
    rw[eX, qZ Oq, S4.step (by omega)]
    simp only[aI, Bool.not_false]
    rw[S4.push (dn := ⟨sG, 3, 0⟩) (i := 1) (dp := ⟨sN, 1, 0⟩) (j := C.length) (by rfl) rfl (by rfl) rfl L3 hn2 (by omega)]
    by_cases hF : 1000 <= G'.length
    · simp only[hF, if_true]; rfl
    · simp only[hF, if_false, jr]
      rw[S4.step (by omega)]
      simp only[om]
      have hc := fK hn2
      rw[S4.close (x := sN) (c := 0) (by rw[List.getElem?_set_self (by simpa using hc)])]
      simp only[if_true]
      exact⟨_, _, rfl, by rw[List.getElem?_set_ne (by omega), List.getElem?_set_ne (by omega)]; exact L2, by rw[List.getElem?_set_ne (by omega), List.getElem?_set_self (fK L3)], by omega⟩
set_option maxHeartbeats 1000000 in
theorem Xl {P : List bA} {C : List (List Int)} {n st fuel g : Nat} {B : dD} {A G : List Int} (hA : C[0]? = some A) (hG : C[1]? = some G) (hf : st + 6 * G.length + 12 <= fuel) (hg : G.length + 20 <= g) :
    qg [vS sA 0, vS sG 1] n st (6 * G.length + 12) B (exec P fuel g (.stmts (turned true yO.kids)) true (S4 C [vS sA 0, vS sG 1] n st B)) (IX A G) := by
  obtain⟨g, rfl⟩ : ∃ k, g = k + 5 := ⟨g - 5, by omega⟩
  have h0 := fK hA
  have h1 := fK hG
  show qg _ _ _ _ _ (exec P fuel (g + 5) (.stmts [dh sN (aL sA) [bT (aW (aL sA) (bS sN)) (aW (aL sA) (aC 0)) [dz sA sG], psT sN sG] (aC 0)]) true _) _
  rw[eX, tT st1, S4.step (by omega)]
  simp only[aI, if_true, om]
  rw[S4.open (by rfl)]
  simp only[if_true]
  rw[show turned true [bT (aW (aL sA) (bS sN)) (aW (aL sA) (aC 0)) [dz sA sG], psT sN sG] = [psT sN sG, bT (aW (aL sA) (bS sN)) (aW (aL sA) (aC 0)) [dz sA sG]]from rfl]
  have hN0 : (C ++ [[(0 : Int)]])[C.length]? = some [(0 : Int)] := by rw[List.getElem?_append_right (Nat.le_refl _)]; simp
  rw[eX, qZ Oq, S4.step (by omega)]
  simp only[aI, Bool.not_true]
  rw[S4.pop (dn := ⟨sG, 3, 0⟩) (i := 1) (dp := ⟨sN, 1, 0⟩) (j := C.length) (by rfl) rfl (by rfl) rfl (dV hG) hN0 (by omega)]
  unfold IX
  cases hr : G.reverse with
  |nil =>
    have : G = [] := by simpa using hr
    simp only[this, if_true]; rfl
  |cons N r =>
    have CS : G = r.reverse ++ [N] := by rw[← List.reverse_reverse G, hr]; simp
    have YI : G.length = r.length + 1 := by rw[CS]; simp
    have e2 : G ≠ [] := by rw[CS]; simp
    have e3 : G.dropLast = r.reverse := by rw[CS]; simp
    have e4 : G.getLast?.getD 0 = N := by rw[CS]; simp
    simp only[e2, e3, e4, if_false, ne_eq, not_true_eq_false]
    rw[eX, wI st2]
    simp only[if_true]
    rw[S4.holds (by omega) (iO pK jG (d := ⟨sA, 3, 0⟩) (i := 0) rfl (l := A) (by rw[List.getElem?_set_ne (by omega), List.getElem?_set_ne (by omega)]; exact dV hA))]
    by_cases oM : A = []
    · have hA1 : (A.length == 0) = true := by rw[oM]; rfl
      have hA2 : ¬ ¬ A = [] := λh => h oM
      simp only[hA1, hA2, if_true, rJ, aI, if_false]
      have hc : C.length < (((C ++ [[(0 : Int)]]).set 1 r.reverse).set C.length [N]).length := by simp
      have hN : (((C ++ [[(0 : Int)]]).set 1 r.reverse).set C.length [N])[C.length]? = some [N] := by rw[List.getElem?_set_self (by simp)]
      have L := yH (P := P) (V := [vS sA 0, vS sG 1] ++ [(⟨sN, 1, 0⟩, C.length)]) (n := n + 1) (fuel := fuel) (B := B) (E := aW (aL sA) (bS sN)) (X := aW (aL sA) (aC 0)) (dp := ⟨sG, 3, 0⟩) (dq := ⟨sA, 3, 0⟩) (ip := 1) (iq := 0) (λ_ d => decide ((d : Int) = N)) (λ_ d => d == 0) true Jl (by rfl) (by rfl) rfl (by rfl) rfl (by omega)
        (λD => C.length < D.length /\ D[C.length]? = some [N]) (λD D' h hs => ⟨Nat.lt_of_lt_of_le h.1 hs.1, (hs.2 _ h.1 (by omega)).trans h.2⟩)
        (λD st l G hD hl hG => by
          rw[if_pos rfl, Ea Gc jG Gd (d := ⟨sA, 3, 0⟩) (i := 0) rfl hG (d2 := ⟨sN, 1, 0⟩) (j := C.length) rfl hD.2]
          by_cases h : (G.length : Int) = N <;> simp[h])
        (λD st l G hD hl hG => by
          rw[if_pos rfl]
          exact iO pK jG (d := ⟨sA, 3, 0⟩) (i := 0) rfl hG)
        r (C := (((C ++ [[(0 : Int)]]).set 1 r.reverse).set C.length [N])) (st := st + 1 + 1 + 1) (g := g) (G := []) ⟨hc, hN⟩ (by rw[List.getElem?_set_ne (by omega), List.getElem?_set_self (by simp; omega)]) (by rw[List.getElem?_set_ne (by omega), List.getElem?_set_ne (by omega), ← oM]; exact dV hA) (by omega) (by omega)
      cases hL : gX (λ_ d => decide ((d : Int) = N)) (λ_ d => d == 0) r []with
      |error e =>
        rw[hL]at L
        simp only at L
        rw[L]; rfl
      |ok y =>
        obtain⟨l, G'⟩ := y
        rw[hL]at L
        obtain⟨C', st', L1, L2, L3, L4, L5⟩ := L
        rw[L1]
        have hn2 : C'[C.length]? = some [N] := (L4.2 _ hc (by omega)).trans hN
        simp only[jr]
        rw[S4.step (by omega)]
        simp only
        rw[S4.value (S4.size jG (d := ⟨sA, 3, 0⟩) (i := 0) rfl L3)]
        simp only
        rw[S4.close (x := sN) hn2]
        by_cases hq : N = (G'.length : Int)
        · simp only[hq, if_true]
          exact⟨_, _, rfl, L3, L2, by omega⟩
        · simp only[hq, if_false]; rfl
    · have hA1 : (A.length == 0) = false := by simp[oM]
      simp only[hA1, oM, if_true, if_false, Bool.false_eq_true, uq, aI, not_false_eq_true]; rfl
theorem dH {C : List (List Int)} {i j : Nat} {l v : List Int} (h : j ≠ i) (hl : C[i]? = some l) : (C.set j v)[i]? = some l := by
  rw[List.getElem?_set_ne h]; exact hl
theorem lq {C : List (List Int)} {j : Nat} {v : List Int} (h : j < C.length) : (C.set j v)[j]? = some v := by
  rw[List.getElem?_set_self h]
theorem rz (C : List (List Int)) (v : List Int) : (C ++ [v])[C.length]? = some v := by
  rw[List.getElem?_append_right (Nat.le_refl _)]; simp
structure Ak (it ib ia : Nat) (C C' : List (List Int)) (t b a : List Int) : Prop where
  t : C'[it]? = some t
  b : C'[ib]? = some b
  a : C'[ia]? = some a
  s : dS (λk => k = it \/ k = ib \/ k = ia) C C'
def Bo (V : List (au × Nat)) (n st m : Nat) (B : dD) (it ib ia : Nat) (C : List (List Int)) (r : Option (Except Int ah)) (x : Except Int (List Int × List Int × List Int)) : Prop := match x with
  |.error e => r = some (.error e)
  |.ok y => ∃ C' st', r = some (.ok (S4 C' V n st' B)) /\ Ak it ib ia C C' y.1 y.2.1 y.2.2 /\ st' <= st + m
def EL (t b a : List Int) : Except Int (List Int × List Int × List Int) := if t = []then .error 13 else if 1000 <= b.length then .error 5 else if 1000 <= a.length then .error 5 else .ok (t.dropLast, b ++ [t.getLast?.getD 0], a ++ [t.getLast?.getD 0])
def Eb (t b a : List Int) : Except Int (List Int × List Int × List Int) := if a = []then .error 13 else if b = []then .error 13 else if b.getLast?.getD 0 ≠ a.getLast?.getD 0 then .error 16 else if 1000 <= t.length then .error 5 else .ok (t ++ [a.getLast?.getD 0], b.dropLast, a.dropLast)
theorem Ot : aX kK = true := by decide +kernel
theorem Ou : aX (dh sY (bS sX) [psT sY sB] (aC 0)) = true := by decide +kernel
theorem Ov : aX (eQ sX sT) = true := by decide +kernel
theorem Ow : aX (psT sY sB) = true := by decide +kernel
theorem Ox : aX (psT sX sA) = true := by decide +kernel
theorem Oy : aN (bS sX) = true := by decide +kernel
theorem mH {V : List (au × Nat)} {s n : ByteArray} {k : Int} {i : Nat} {u : Option (au × Nat)} (h : (s == n) = false) (hu : bf V n = u) : bf (V ++ [(⟨s, k, 0⟩, i)]) n = u := by
  rw[yo]
  simp only[h]
  exact hu
theorem rD {V : List (au × Nat)} {s : ByteArray} {i : Nat} : bf (V ++ [(⟨s, 1, 0⟩, i)]) s = some (⟨s, 1, 0⟩, i) := by
  rw[yo]; simp
section
variable {P : List bA} {V : List (au × Nat)} {n fuel : Nat} {B : dD} {it ib ia : Nat} (ht : bf V sT = some (⟨sT, 3, 0⟩, it)) (hb : bf V sB = some (⟨sB, 3, 0⟩, ib)) (ha : bf V sA = some (⟨sA, 3, 0⟩, ia)) (hx : bf V sX = none) (hy : bf V sY = none) (h1 : it ≠ ib) (h2 : it ≠ ia) (h3 : ib ≠ ia)
include ht hb ha hx hy h1 h2 h3
set_option maxHeartbeats 2000000 in
theorem SS {C : List (List Int)} {st g : Nat} {t b a : List Int} (ct : C[it]? = some t) (cb : C[ib]? = some b) (ca : C[ia]? = some a) (hf : st + 7 <= fuel) : Bo V n st 7 B it ib ia C (exec P fuel (g + 6) (.stmt kK) false (S4 C V n st B)) (EL t b a) := by
  have lt := fK ct
  have lb := fK cb
  have la := fK ca
  unfold kK EL
  rw[tT Ot, S4.step (by omega)]
  simp only[aI, Bool.false_eq_true, if_false, om]
  rw[S4.open hx]
  simp only[if_true, turned, Bool.false_eq_true, if_false]
  rw[eX, AZ Ov, S4.step (by omega)]
  simp only[aI]
  rw[S4.pop (mH (by decide) ht) rfl rD rfl (dV ct) (v := 0) (rz C _) (by omega)]
  by_cases hE : t = []
  · simp only[hE, if_true]; rfl
  simp only[hE, if_false, ne_eq, not_true_eq_false]
  generalize he : t.getLast?.getD 0 = e
  generalize hC2 : ((C ++ [[(0 : Int)]]).set it t.dropLast).set C.length [e] = C2
  have q1 : C2.length = C.length + 1 := by rw[← hC2]; simp
  have qt : C2[it]? = some t.dropLast := by rw[← hC2]; exact dH (by omega) (lq (by simp; omega))
  have qb : C2[ib]? = some b := by rw[← hC2]; exact dH (by omega) (dH h1 (dV cb))
  have qa : C2[ia]? = some a := by rw[← hC2]; exact dH (by omega) (dH h2 (dV ca))
  have qx : C2[C.length]? = some [e] := by rw[← hC2]; exact lq (by simp)
  have qs : dS (λk => k = it \/ k = ib \/ k = ia) C C2 := by
    rw[← hC2, List.set_append_left _ _ lt, List.set_append_right _ _ (by simp)]
    exact((dS.refl _ C).set (.inl rfl) _).app _
  clear hC2
  rw[eX, tT Ou, S4.step (by omega)]
  simp only[aI, Bool.false_eq_true, if_false]
  rw[S4.value (S4.var Oy rD qx)]
  simp only
  rw[S4.open (mH (by decide) hy)]
  simp only[if_true, turned, Bool.false_eq_true, if_false]
  rw[eX, qZ Ow, S4.step (by omega)]
  simp only[aI, Bool.not_false]
  rw[S4.push (mH (by decide) (mH (by decide) hb)) rfl rD rfl (dV qb) (rz C2 _) (by omega)]
  by_cases hF : 1000 <= b.length
  · simp only[hF, if_true]; rfl
  simp only[hF, if_false, jr]
  rw[S4.step (by omega)]
  simp only[om]
  generalize iX : ((C2 ++ [[e]]).set ib (b ++ [e])).set C2.length [0] = C3
  have r1 : C3.length = C.length + 2 := by rw[← iX]; simp; omega
  have rt : C3[it]? = some t.dropLast := by rw[← iX]; exact dH (by omega) (dH (Ne.symm h1) (dV qt))
  have rb : C3[ib]? = some (b ++ [e]) := by rw[← iX]; exact dH (by omega) (lq (by simp; omega))
  have ra : C3[ia]? = some a := by rw[← iX]; exact dH (by omega) (dH h3 (dV qa))
  have rx : C3[C.length]? = some [e] := by rw[← iX]; exact dH (by omega) (dH (by omega) (dV qx))
  have ry : C3[C2.length]? = some [0] := by rw[← iX]; exact lq (by simp)
  have rs : dS (λk => k = it \/ k = ib \/ k = ia) C C3 := by
    rw[← iX, List.set_append_left _ _ (by omega), List.set_append_right _ _ (by simp)]
    exact(qs.set (.inr (.inl rfl)) _).app _
  clear iX
  rw[S4.close ry]
  simp only[if_true]
  rw[eX, qZ Ox, S4.step (by omega)]
  simp only[aI, Bool.not_false]
  rw[S4.push (mH (by decide) ha) rfl rD rfl ra rx (by omega)]
  by_cases hF2 : 1000 <= a.length
  · simp only[hF2, if_true]; rfl
  simp only[hF2, if_false, jr]
  rw[S4.step (by omega)]
  simp only[om]
  rw[S4.close (x := sX) (c := 0) (lq (by simp; omega))]
  simp only[if_true]
  have Gf : dS (λk => k = it \/ k = ib \/ k = ia) C ((C3.set ia (a ++ [e])).set C.length [0]) := by
    have h5 := rs.set (i := ia) (.inr (.inr rfl)) (a ++ [e])
    exact⟨by simpa using h5.1, λk hk hn => by rw[List.getElem?_set_ne (by omega)]; exact h5.2 k hk hn⟩
  exact⟨_, _, rfl, ⟨dH (by omega) (dH (Ne.symm h2) rt), dH (by omega) (dH (Ne.symm h3) rb), dH (by omega) (lq (by omega)), Gf⟩, by omega⟩
set_option maxHeartbeats 2000000 in
theorem Rn {C : List (List Int)} {st g : Nat} {t b a : List Int} (ct : C[it]? = some t) (cb : C[ib]? = some b) (ca : C[ia]? = some a) (hf : st + 7 <= fuel) : Bo V n st 7 B it ib ia C (exec P fuel (g + 6) (.stmt kK) true (S4 C V n st B)) (Eb t b a) := by
  have lt := fK ct
  have lb := fK cb
  have la := fK ca
  unfold kK Eb
  rw[tT Ot, S4.step (by omega)]
  simp only[aI, if_true, om]
  rw[S4.open hx]
  simp only[if_true]
  rw[show turned true [eQ sX sT, dh sY (bS sX) [psT sY sB] (aC 0), psT sX sA] = [psT sX sA, dh sY (bS sX) [psT sY sB] (aC 0), eQ sX sT]from rfl]
  rw[eX, qZ Ox, S4.step (by omega)]
  simp only[aI, Bool.not_true]
  rw[S4.pop (mH (by decide) ha) rfl rD rfl (dV ca) (v := 0) (rz C _) (by omega)]
  by_cases hE : a = []
  · simp only[hE, if_true]; rfl
  simp only[hE, if_false, ne_eq, not_true_eq_false]
  generalize he : a.getLast?.getD 0 = e
  generalize hC2 : ((C ++ [[(0 : Int)]]).set ia a.dropLast).set C.length [e] = C2
  have q1 : C2.length = C.length + 1 := by rw[← hC2]; simp
  have qt : C2[it]? = some t := by rw[← hC2]; exact dH (by omega) (dH (Ne.symm h2) (dV ct))
  have qb : C2[ib]? = some b := by rw[← hC2]; exact dH (by omega) (dH (Ne.symm h3) (dV cb))
  have qa : C2[ia]? = some a.dropLast := by rw[← hC2]; exact dH (by omega) (lq (by simp; omega))
  have qx : C2[C.length]? = some [e] := by rw[← hC2]; exact lq (by simp)
  have qs : dS (λk => k = it \/ k = ib \/ k = ia) C C2 := by
    rw[← hC2, List.set_append_left _ _ la, List.set_append_right _ _ (by simp)]
    exact((dS.refl _ C).set (.inr (.inr rfl)) _).app _
  clear hC2
  rw[eX, tT Ou, S4.step (by omega)]
  simp only[aI, if_true, om]
  rw[S4.open (mH (by decide) hy)]
  simp only[if_true]
  rw[show turned true [psT sY sB] = [psT sY sB]from rfl]
  rw[eX, qZ Ow, S4.step (by omega)]
  simp only[aI, Bool.not_true]
  rw[S4.pop (mH (by decide) (mH (by decide) hb)) rfl rD rfl (dV qb) (v := 0) (rz C2 _) (by omega)]
  by_cases hF : b = []
  · simp only[hF, if_true]; rfl
  simp only[hF, if_false, ne_eq, not_true_eq_false, jr]
  rw[S4.step (by omega)]
  simp only
  generalize hfl : b.getLast?.getD 0 = f
  generalize iX : ((C2 ++ [[(0 : Int)]]).set ib b.dropLast).set C2.length [f] = C3
  have r1 : C3.length = C.length + 2 := by rw[← iX]; simp; omega
  have rt : C3[it]? = some t := by rw[← iX]; exact dH (by omega) (dH (Ne.symm h1) (dV qt))
  have rb : C3[ib]? = some b.dropLast := by rw[← iX]; exact dH (by omega) (lq (by simp; omega))
  have ra : C3[ia]? = some a.dropLast := by rw[← iX]; exact dH (by omega) (dH h3 (dV qa))
  have rx : C3[C.length]? = some [e] := by rw[← iX]; exact dH (by omega) (dH (by omega) (dV qx))
  have ry : C3[C2.length]? = some [f] := by rw[← iX]; exact lq (by simp)
  have rs : dS (λk => k = it \/ k = ib \/ k = ia) C C3 := by
    rw[← iX, List.set_append_left _ _ (by omega), List.set_append_right _ _ (by simp)]
    exact(qs.set (.inr (.inl rfl)) _).app _
  clear iX
  rw[S4.value (S4.var Oy (mH (by decide) rD) rx)]
  simp only
  rw[S4.close ry]
  by_cases hfe : f = e
  · simp only[hfe, if_true, not_true_eq_false, if_false]
    rw[eX, AZ Ov, S4.step (by omega)]
    simp only[aI]
    rw[S4.push (mH (by decide) ht) rfl rD rfl rt rx (by omega)]
    by_cases hF2 : 1000 <= t.length
    · simp only[hF2, if_true]; rfl
    simp only[hF2, if_false, jr]
    rw[S4.step (by omega)]
    simp only[om]
    rw[S4.close (x := sX) (c := 0) (lq (by simp; omega))]
    simp only[if_true]
    have Gf : dS (λk => k = it \/ k = ib \/ k = ia) C ((C3.set it (t ++ [e])).set C.length [0]) := by
      have h5 := rs.set (i := it) (.inl rfl) (t ++ [e])
      exact⟨by simpa using h5.1, λk hk hn => by rw[List.getElem?_set_ne (by omega)]; exact h5.2 k hk hn⟩
    exact⟨_, _, rfl, ⟨dH (by omega) (lq (by omega)), dH (by omega) (dH h1 rb), dH (by omega) (dH h2 ra), Gf⟩, by omega⟩
  · simp only[hfe, if_false, not_false_eq_true, if_true]; rfl
end
end Go.Proofs.YtbpodipdfohikaaGreat
