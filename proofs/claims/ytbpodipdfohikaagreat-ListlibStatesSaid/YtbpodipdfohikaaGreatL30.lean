import Derived.Test.YtbpodipdfohikaaGreatL29
set_option linter.unusedSimpArgs false
set_option linter.unusedVariables false
set_option maxRecDepth 100000
set_option maxHeartbeats 25600000
namespace Go.Proofs.YtbpodipdfohikaaGreat
open Go.RowKit Go.Instr
def xQ (ws : List (List Nat)) : Nat -> Nat -> List Nat
  |0, j => ws.getD j []
  |n + 1, j => ((xQ ws n j) ++ (xQ ws n j).flatMap (λk => ws.getD k [])).eraseDups
theorem DI {ws : List (List Nat)} {L : Array Bool} (hcl : ∀ j, L.getD j false = true -> ∀ i ∈ ws.getD j [], L.getD i false = true) : ∀ (n j : Nat), L.getD j false = true -> ∀ i ∈ xQ ws n j, L.getD i false = true
  |0, j, h, i, hi => hcl j h i hi
  |n + 1, j, h, i, hi => by
    rw[xQ, List.mem_eraseDups, List.mem_append, List.mem_flatMap]at hi
    rcases hi with hi|⟨k, hk, hi⟩
    · exact DI hcl n j h i hi
    · exact hcl k (DI hcl n j h k hk) i hi
def Ac (ws : List (List Nat)) (W : List Nat) (i s : Nat) : Bool := decide (s <= W.length) && (List.range W.length).all λr => !((xQ ws 5 (W.getD r 0)).contains i) || decide (s <= r)
section
variable {P : Program} {Q : Exit -> Act -> World -> Prop}
structure yX (P : Program) (X : List PanicEntry -> World -> Prop) (ds : List (Option Tmp)) (ws ns : List (List Nat)) (Cs : List (Option Value)) (W : List Nat) (M : Nat -> World -> Prop) (a : Act) (i : Nat) (o : Oper) : Prop where
  c : W.contains i = false -> ∀ s x, xD ws W i s = true -> Ac ws W i s = true -> M s x -> Gives P o (aV ds (cv Cs) (ns.getD i []) a) x (λv y => v = cv Cs i /\ y = x)
  w : ∀ r, r < W.length -> W.getD r 0 = i -> ∀ x, M r x -> dQ P X o (aV ds (cv Cs) (ns.getD i []) a) x (λv y => (∀ c, Cs.getD i none = some c -> v = c) /\ M (r + 1) y)
theorem Py {a : Act} {w : World} {l : List Oper} (X : List PanicEntry -> World -> Prop) (hX : ∀ ch w' a', a'.defers = [] -> X ch w' -> Q (.panic ch) a' w') (hd : a.defers = []) (N : Nat) (ds : List (Option Tmp)) (ws ns : List (List Nat)) (Cs : List (Option Value)) (W : List Nat) (M : Nat -> World -> Prop) (hN : a.tmps.size = N) (hok : gL N l.toArray ds ws ns [] = true) (hq : xg ds ws Cs W = true) (hwl : ws.length = l.length) (hns : ((List.range l.length).all λi => (ns.getD i []).all λj => (ws.getD i []).contains j && decide (j < l.length)) = true)
    (hM : M 0 w) (hstep : iY (yX P X ds ws ns Cs W M a) 0 l)
    (hend : ∀ (x : World), M W.length x -> Q .normal (aV ds (cv Cs) (List.range l.length) a) x) : wpAny P .any l.toArray Q l.toArray.size (Array.replicate l.toArray.size false) a w := by
  simp only[xg, Bool.and_eq_true]at hq
  obtain⟨⟨q1, q2⟩, q3⟩ := hq
  have hWd : ∀ r, r < W.length -> W.getD r 0 < l.length /\ (ds.getD (W.getD r 0) none = none \/ (Cs.getD (W.getD r 0) none).isSome = true) := λr hr => by
    have := List.all_eq_true.1 q1 (W.getD r 0) (by simp[List.getD, hr])
    simp only[Bool.and_eq_true, decide_eq_true_eq, Bool.or_eq_true]at this
    exact⟨by rw[← hwl]; exact this.1, by simpa using this.2⟩
  have hWc : ∀ r, r + 1 < W.length -> W.getD r 0 ∈ ws.getD (W.getD (r + 1) 0) [] := λr hr => by
    have := List.all_eq_true.1 q2 r (List.mem_range.2 (by omega))
    simpa using this
  have hval : ∀ j, j < l.length -> (∃ c, Cs.getD j none = some c) \/ ∃ r, r < W.length /\ W.getD r 0 = j := λj hj => by
    have := List.all_eq_true.1 q3 j (List.mem_range.2 (by omega))
    simp only[Bool.or_eq_true]at this
    rcases this with h|h
    · exact .inl (Option.isSome_iff_exists.1 h)
    · exact .inr (Au h)
  have hcv : ∀ (L : Array Bool) (vs : Nat -> Value) (x : World), XI Cs W M L vs x -> ∀ j, j < l.length -> L.getD j false = true -> vs j = cv Cs j \/ ds.getD j none = none := λL vs x hI j hj hL => by
    rcases hval j hj with⟨c, hc⟩|⟨r, hr, e⟩
    · exact .inl (by rw[hI.val j hL c hc]; simp only[cv, hc]; rfl)
    · rcases(hWd r hr).2 with h|h
      · exact .inr (by rw[← e]; exact h)
      · obtain⟨c, hc⟩ := Option.isSome_iff_exists.1 h
        rw[e]at hc
        exact .inl (by rw[hI.val j hL c hc]; simp only[cv, hc]; rfl)
  refine GK X hX hd N ds ws ns [] hN hok (XI Cs W M) ?_ ?_ ?_
  · have hf : ∀ j, (Array.replicate l.toArray.size false).getD j false = false := by
      intro j
      by_cases hj : j < l.toArray.size <;> simp[Array.getD, hj]
    exact⟨⟨0, Nat.zero_le _, λr _ => by rw[hf]; simp, hM⟩, λj h => by rw[hf]at h; cases h⟩
  · intro i o ho L vs x hsz jC iB hcl hI
    have hil : i < L.size := by
      have := (Array.getElem?_eq_some_iff.1 ho).1
      omega
    have Et : i < l.length := by rw[hsz]at hil; simpa using hil
    have iH := yh l 0 hstep i o (by simpa using ho)
    rw[Nat.zero_add]at iH
    have hset : (L.setIfInBounds i true).getD i false = true := by simp[hil]
    have hne : ∀ j, j ≠ i -> (L.setIfInBounds i true).getD j false = L.getD j false := λj hj => getD_set_ne false (λe => hj e.symm)
    have hup : ∀ (v : Value) j, j ≠ i -> upd vs i v j = vs j := λv j hj => by simp[upd, hj]
    have oI : ∀ (v : Value), upd vs i v i = v := λv => by simp[upd]
    have hact : aV ds vs (ns.getD i []) a = aV ds (cv Cs) (ns.getD i []) a := wo _ _ λj hj => by
      have h1 := List.all_eq_true.1 (List.all_eq_true.1 hns i (List.mem_range.2 Et)) j hj
      simp only[Bool.and_eq_true, decide_eq_true_eq]at h1
      exact hcv L vs x hI j h1.2 (iB j (by simpa using h1.1))
    obtain⟨s, hs, hL, hMs⟩ := hI.st
    rw[hact]
    by_cases hw : W.contains i = true
    · obtain⟨r, hr, e⟩ := Au hw
      have h1 : ¬ r < s := λh => by have := hL r hr; rw[e, jC]at this; simp[h]at this
      have E9 : s = r := by
        rcases Nat.eq_zero_or_pos r with h0|h0
        · omega
        · have h2 := hL (r - 1) (by omega)
          have h3 := hWc (r - 1) (by omega)
          rw[Nat.sub_add_cancel h0, e]at h3
          rw[iB _ h3]at h2
          have : r - 1 < s := by simpa using h2.symm
          omega
      subst E9
      refine(iH.w s hr e x hMs).mono λv y hy => ⟨⟨s + 1, hr, λr' hr' => ?_, hy.2⟩, λj hj c hc => ?_⟩
      · by_cases e2 : W.getD r' 0 = i
        · rw[e2, hset]
          have h5 : ¬ r' < s := λh => by have := hL r' hr'; rw[e2, jC]at this; simp[h]at this
          have h4 : r' = s := by
            rcases Nat.lt_or_ge s r' with h|h
            · exfalso
              have hr0 : r' ≠ 0 := by omega
              have h3 := hWc (r' - 1) (by omega)
              rw[Nat.sub_add_cancel (by omega), e2]at h3
              have h6 := hL (r' - 1) (by omega)
              rw[iB _ h3]at h6
              have : r' - 1 < s := by simpa using h6.symm
              omega
            · omega
          subst h4; simp
        · rw[hne _ e2, hL r' hr']
          have : r' ≠ s := λh => by subst h; exact e2 e
          by_cases h : r' < s
          · simp[h]; omega
          · simp[h]; omega
      · by_cases e2 : j = i
        · subst e2; rw[oI]; exact hy.1 c hc
        · rw[hne j e2]at hj; rw[hup v j e2]; exact hI.val j hj c hc
    · have hw' : W.contains i = false := by simpa using hw
      have hlo : xD ws W i s = true := List.all_eq_true.2 λr hr => by
        have hr := List.mem_range.1 hr
        by_cases h : (ws.getD i []).contains (W.getD r 0) = true
        · have := hL r hr
          rw[iB _ (by simpa using h)]at this
          rw[h]; simpa using this.symm
        · rw[Bool.not_eq_true]at h; rw[h]; rfl
      have hhi : Ac ws W i s = true := by
        simp only[Ac, Bool.and_eq_true, decide_eq_true_eq]
        refine⟨hs, List.all_eq_true.2 λr hr => ?_⟩
        have hr := List.mem_range.1 hr
        by_cases h : (xQ ws 5 (W.getD r 0)).contains i = true
        · rw[h]
          have : ¬ r < s := λhlt => by
            have h2 := hL r hr
            simp only[hlt, decide_true]at h2
            have := DI (λj hj i hi => hcl j hj i hi) 5 _ h2 i (by simpa using h)
            rw[jC]at this; cases this
          simp; omega
        · rw[Bool.not_eq_true]at h; rw[h]; rfl
      refine((iH.c hw' s x hlo hhi hMs).x).mono λv y hy => ?_
      obtain⟨rfl, rfl⟩ := hy
      refine⟨⟨s, hs, λr hr => ?_, hMs⟩, λj hj c hc => ?_⟩
      · rw[hne _ (λe => by
          have : W.contains i = true := by rw[← e]; simp[List.getD, hr]
          rw[hw']at this; cases this)]
        exact hL r hr
      · by_cases e2 : j = i
        · subst e2; rw[oI]; simp only[cv, hc]; rfl
        · rw[hne j e2]at hj; rw[hup _ j e2]; exact hI.val j hj c hc
  · intro L vs x hall hI
    have lH : ∀ j, j < l.length -> L.getD j false = true := λj hj => hall j (by simpa using hj)
    obtain⟨s, hs, hL, hMs⟩ := hI.st
    have hse : s = W.length := by
      rcases Nat.lt_or_ge s W.length with h|h
      · exfalso
        have h1 := hL s h
        rw[lH _ (hWd s h).1]at h1
        simp at h1
      · omega
    subst hse
    have := hend x hMs
    rwa[← wo (ds := ds) (vs := vs) (us := cv Cs) _ _ (λj hj => hcv L vs x hI j (List.mem_range.1 hj) (lH j (List.mem_range.1 hj)))]at this
theorem wy {id : Nat} {a : Act} {w : World} {l : List Oper} (X : List PanicEntry -> World -> Prop) (N : Nat) (ds : List (Option Tmp)) (ns : List (List Nat)) (Cs : List (Option Value)) (W : List Nat) (M : Nat -> World -> Prop) (hM : M 0 w.drew) (hstep : iY (yX P X ds (bQ l.toArray) ns Cs W M a) 0 l)
    (hend : ∀ (x : World), M W.length x -> Q .normal (aV ds (cv Cs) (rg 0 ds) a) x)
    (hX : ∀ ch w' a', a'.defers = [] -> X ch w' -> Q (.panic ch) a' w') (hd : a.defers = [] := by rfl) (hm : P.follows .mixedOrders = true := by kernel_rfl) (hN : a.tmps.size = N := by rfl) (hok : gL N l.toArray ds (bQ l.toArray) ns [] = true := by kernel_rfl) (hq : xg ds (bQ l.toArray) Cs W = true := by kernel_rfl) (hwl : (bQ l.toArray).length = l.length := by kernel_rfl) (hns : ((List.range l.length).all λi => (ns.getD i []).all λj => ((bQ l.toArray).getD i []).contains j && decide (j < l.length)) = true := by kernel_rfl) (hr : rg 0 ds = List.range l.length := by rfl) : (Code.region id l.toArray true).wp P Q a w :=
  wp_region_any hm (Py X hX hd N ds (bQ l.toArray) ns Cs W M hN hok hq hwl hns hM hstep λx h => by have := hend x h; rwa[hr]at this)
end
section
variable {P : Program} {X : List PanicEntry -> World -> Prop} {ds : List (Option Tmp)} {ws ns : List (List Nat)} {Cs : List (Option Value)} {W : List Nat} {M : Nat -> World -> Prop} {a : Act} {i : Nat} {o : Oper}
theorem yc (h : ∀ (x : World), Gives P o (aV ds (cv Cs) (ns.getD i []) a) x (λv y => v = cv Cs i /\ y = x)) (hw : W.contains i = false := by kernel_rfl) : yX P X ds ws ns Cs W M a i o :=
  ⟨λ_ _ x _ _ _ => h x, λ_ hr e => (yR hw hr e).elim⟩
theorem yl (m : Nat) (h : ∀ (s : Nat) (x : World), s <= m -> M s x -> Gives P o (aV ds (cv Cs) (ns.getD i []) a) x (λv y => v = cv Cs i /\ y = x)) (hw : W.contains i = false := by kernel_rfl) (hs : ((List.range (W.length + 1)).all λt => !(xD ws W i t && Ac ws W i t) || decide (t <= m)) = true := by kernel_rfl) : yX P X ds ws ns Cs W M a i o :=
  ⟨λ_ t x h1 h2 hM => by
    have ht : t <= W.length := by simp only[Ac, Bool.and_eq_true, decide_eq_true_eq]at h2; exact h2.1
    have := List.all_eq_true.1 hs t (List.mem_range.2 (by omega))
    rw[h1, h2]at this
    exact h t x (by simpa using this) hM, λ_ hr e => (yR hw hr e).elim⟩
theorem yw (r : Nat) (h : ∀ (x : World), M r x -> dQ P X o (aV ds (cv Cs) (ns.getD i []) a) x (λv y => (∀ c, Cs.getD i none = some c -> v = c) /\ M (r + 1) y)) (hw : W.contains i = true := by kernel_rfl) (hu : ((List.range W.length).all λt => !(W.getD t 0 == i) || t == r) = true := by kernel_rfl) : yX P X ds ws ns Cs W M a i o :=
  ⟨λh' => (by rw[hw]at h'; cases h'), λt ht e x hM => by
    have := List.all_eq_true.1 hu t (List.mem_range.2 ht)
    have e2 : t = r := by rw[e]at this; simpa using this
    subst e2; exact h x hM⟩
end
def TR (n : Int) : List PanicEntry := [{ v := .iface 142 (.agg #[.int .i64 n]), recovered := false }]
def ErrX (w0 : World) (x : aK) (w : World) (res : Except Int ah) (ch : List PanicEntry) (w' : World) : Prop := ∃ n, ch = TR n /\ n ≠ 0 /\ res = .error n /\ oJ w0 x w w'
theorem ErrX.run {w0 w w1 w' : World} {p : az} {fuel k : Nat} {x x1 : aK} {res : Except Int ah} {ch : List PanicEntry} (h : ErrX w0 x1 w1 res ch w') (hr : ax x x1 w w1) : bZ w0 p fuel k x w res (.panicked ch) w' := by
  obtain⟨n, rfl, hn, rfl, hg⟩ := h
  exact⟨⟨rfl, hn⟩, .of hr hg⟩
def jf : Except Int ah -> Int
  |.ok _ => 0
  |.error e => e
def valOf : Except Int Int -> Int
  |.ok v => v
  |.error _ => 0
def dK (w0 : World) (p : az) (fuel k : Nat) (xx : aK) (wA : World) (s1 : ah) (vok : Prop) (r2 : Except Int ah) (m t : Nat) (x : World) : Prop :=
  if t <= m then(∃ x', ax xx x' wA x /\ aG w0 p fuel k x x' s1) /\ (1 <= t -> vok)
  else(1 <= m -> vok) /\ (if t = m + 1 then dU w0 p fuel k xx wA r2 (.returned (.int .i64 (jf r2))) x else ∃ s2, r2 = .ok s2 /\ ∃ x', ax xx x' wA x /\ aG w0 p fuel k x x' s2)
def gy (c : Value) (M : World -> Prop) (X : List PanicEntry -> World -> Prop) (e : Ending) (w : World) : Prop := (e = .returned c /\ M w) \/ ∃ ch, e = .panicked ch /\ X ch w
section
variable {w0 : World} {p : az} {fuel k : Nat} {xx : aK} {wA : World} {s1 : ah} {vok : Prop} {r2 res : Except Int ah} {m : Nat}
theorem dK.zero {w : World} (h : aG w0 p fuel k w xx s1) : dK w0 p fuel k xx w s1 vok r2 m 0 w.drew := by
  unfold dK
  rw[if_pos (Nat.zero_le _)]
  exact⟨⟨xx, ax.grow (Mv.refl _ _).drew, h.later (Mv.refl _ _).drew⟩, λe => absurd e (by omega)⟩
theorem dK.read {t : Nat} {x : World} (h : dK w0 p fuel k xx wA s1 vok r2 m t x) (ht : t <= m) : ∃ x', ax xx x' wA x /\ aG w0 p fuel k x x' s1 := by
  unfold dK at h
  rw[if_pos ht]at h
  exact h.1
theorem dK.fin {x : World} (h : dK w0 p fuel k xx wA s1 vok r2 m (m + 2) x) : (1 <= m -> vok) /\ ∃ s2, r2 = .ok s2 /\ ∃ x', ax xx x' wA x /\ aG w0 p fuel k x x' s2 := by
  unfold dK at h
  rw[if_neg (by omega), if_neg (by omega)]at h
  exact h
theorem Gz {n : ae} {rv : Except Int Int} (hn : aS (λ_ => True) w0 n) (hv : s1.value n.t = some rv) (hok : ∀ v, rv = .ok v -> vok) (hbad : ∀ e, rv = .error e -> res = .error e) (z : World) (hM : dK w0 p fuel k xx wA s1 vok r2 1 0 z) :
    Calls Tryz.prog 132 #[.pointer (some ⟨xx.R, 0, none⟩), n.val] z (gy (.int .i64 (valOf rv)) (dK w0 p fuel k xx wA s1 vok r2 1 1) (ErrX w0 xx wA res)) := by
  obtain⟨x', hr, hst⟩ := hM.read (by omega)
  have := Qp w0 p fuel k z x' s1 n rv hst (hn.up hst.g).at hv
  rw[hr.R]at this
  refine this.mono ?_
  intro e y hq
  cases rv with
  |ok v =>
    obtain⟨rfl, Cj, h1, h2⟩ := hq
    refine .inl ⟨rfl, ?_⟩
    unfold dK
    rw[if_pos (by omega)]
    exact⟨⟨Cj, hr.trans h1, h2⟩, λ_ => hok v rfl⟩
  |error n =>
    obtain⟨⟨rfl, h1⟩, h2⟩ := hq
    exact .inr ⟨_, rfl, n, rfl, h1, hbad n rfl, .of hr h2⟩
theorem uj {f : FuncId} {args : Array Value} {X : List PanicEntry -> World -> Prop} (z : World) (hM : dK w0 p fuel k xx wA s1 vok r2 m m z) (h : ∀ x', ax xx x' wA z -> aG w0 p fuel k z x' s1 -> (1 <= m -> vok) -> Calls Tryz.prog f args z (dU w0 p fuel k x' z r2)) :
    Calls Tryz.prog f args z (gy (.int .i64 (jf r2)) (dK w0 p fuel k xx wA s1 vok r2 m (m + 1)) X) := by
  unfold dK at hM
  rw[if_pos (Nat.le_refl _)]at hM
  obtain⟨⟨x', hr, hst⟩, hv⟩ := hM
  refine(h x' hr hst hv).mono ?_
  intro e y hq
  have hq2 := dU.trans hr hq
  refine .inl ⟨?_, ?_⟩
  · cases r2 with
    |ok s => exact hq.1
    |error n => exact hq.1.1
  · unfold dK
    rw[if_neg (by omega), if_pos rfl]
    refine⟨hv, ?_⟩
    cases r2 with
    |ok s => exact⟨rfl, hq2.2⟩
    |error n => exact⟨⟨rfl, hq2.1.2⟩, hq2.2⟩
theorem wu (hbad : ∀ e, (1 <= m -> vok) -> r2 = .error e -> res = .error e) (r : Value) (z : World) (hM : dK w0 p fuel k xx wA s1 vok r2 m (m + 1) z) :
    Calls Tryz.prog 119 #[r, .int .i64 (jf r2)] z (gy (.tuple #[]) (dK w0 p fuel k xx wA s1 vok r2 m (m + 2)) (ErrX w0 xx wA res)) := by
  unfold dK at hM
  rw[if_neg (by omega), if_pos rfl]at hM
  obtain⟨hv, hM⟩ := hM
  refine(Az r (jf r2) z).mono ?_
  rintro e y ⟨rfl, rfl⟩
  cases r2 with
  |ok s =>
    rw[show jf (.ok s) = 0 from rfl, if_pos rfl]
    refine .inl ⟨rfl, ?_⟩
    unfold dK
    rw[if_neg (by omega), if_neg (by omega)]
    exact⟨hv, s, rfl, hM.2⟩
  |error n =>
    rw[show jf (.error n) = n from rfl, if_neg hM.1.2]
    exact .inr ⟨_, rfl, n, rfl, hM.1.2, hbad n hv rfl, hM.2⟩
end
section
variable {P : Program} {X : List PanicEntry -> World -> Prop} {ds : List (Option Tmp)} {ws ns : List (List Nat)} {Cs : List (Option Value)} {W : List Nat} {M : Nat -> World -> Prop} {a : Act} {i : Nat} {o : Oper}
theorem gy.jq {c : Value} {M' : World -> Prop} {f : FuncId} {args : Array Value} {x : World} (h : Calls P f args x (gy c M' X)) : Calls P f args x λe w'' => (∃ v, e = .returned v /\ (v = c /\ M' w'')) \/ (∃ ch, e = .panicked ch /\ X ch w'') :=
  h.mono λe w hq => by
    rcases hq with⟨rfl, hm⟩|hx
    · exact .inl ⟨_, rfl, rfl, hm⟩
    · exact .inr hx
end
end Go.Proofs.YtbpodipdfohikaaGreat
