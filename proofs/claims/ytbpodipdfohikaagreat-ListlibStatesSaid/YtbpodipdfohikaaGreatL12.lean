import Derived.Test.YtbpodipdfohikaaGreatL11
set_option linter.unusedSimpArgs false
set_option linter.unusedVariables false
set_option maxRecDepth 100000
set_option maxHeartbeats 25600000
namespace Go.Proofs.YtbpodipdfohikaaGreat
open Go.RowKit
def Dt (p : Value -> World -> Prop) : Prop := ∀ v x y, p v x -> p v y
theorem Tc : Dt df := λ_ _ _ h => h
def BA : List Bool -> List (Value -> World -> Prop) -> Prop
  |b :: bs, p :: l => (nQ p /\ (b = false -> Dt p)) /\ BA bs l
  | [], [] => True
  |_, _ => False
theorem BA.at : ∀ {bs : List Bool} {l : List (Value -> World -> Prop)}, BA bs l -> ∀ j, nQ (l.getD j df) /\ (bs.getD j false = false -> Dt (l.getD j df))
  | [], [], _, _ => ⟨wO, λ_ => Tc⟩
  |b :: _, _ :: _, h, 0 => ⟨h.1.1, λhb => h.1.2 hb⟩
  |_ :: bs, _ :: l, h, j + 1 => BA.at (bs := bs) (l := l) h.2 j
def JY (ws : List (List Nat)) (e : Nat) (be : List Nat) : Bool := be.all λi => decide (i < e) && ((ws.getD e []).contains i || be.any λm => decide (i < m) && (ws.getD m []).contains i)
section
variable {P : Program} {Q : Exit -> Act -> World -> Prop}
structure LI (ws : List (List Nat)) (e : Nat) (kl : List Bool) (Ps : List (Value -> World -> Prop)) (O : Nat -> Prop) (Pl : Value -> World -> Prop) (w : World) (L : Array Bool) (vs : Nat -> Value) (x : World) : Prop where
  mv : Mv (λb => w.heap.size <= b \/ (O b /\ L.getD e false = true)) w x
  val : ∀ j, j ≠ e -> L.getD j false = true -> (kl.getD j false = true -> L.getD e false = false \/ e ∈ ws.getD j []) -> (Ps.getD j df) (vs j) x
  last : L.getD e false = true -> Pl (vs e) x
structure XX (ws : List (List Nat)) (e : Nat) (kl : List Bool) (Ps : List (Value -> World -> Prop)) (O : Nat -> Prop) (Pl : Value -> World -> Prop) (w : World) (n : Nat) (vs : Nat -> Value) (x : World) : Prop where
  mv : Mv (λb => w.heap.size <= b \/ O b) w x
  val : ∀ j, j < n -> j ≠ e -> (kl.getD j false = false \/ e ∈ ws.getD j []) -> (Ps.getD j df) (vs j) x
  last : Pl (vs e) x
end
section
variable {P : Program} {Q : Exit -> Act -> World -> Prop}
def Qs (P : Program) (Q : Exit -> Act -> World -> Prop) (ops : Array Oper) (suf : List Oper) : Exit -> Act -> World -> Prop
  |.normal, a, w => wpList P ops Q suf a w
  |e, a, w => Q e a w
theorem Qh {ops : Array Oper} {suf : List Oper} (h : LetsOut (Qs P Q ops suf)) : LetsOut Q := h
theorem Oper.TK {ops : Array Oper} {suf : List Oper} {o : Oper} {a : Act} {w : World} {K : Act -> World -> Prop} (h : o.wp P a w K (Qs P Q ops suf)) : o.wp P a w K Q := by
  unfold Oper.wp at *
  generalize (execOp a.eval o).run P w = r at *
  cases r with
  |ok n w' =>
    cases n <;> simp only[Oper.upon]at h ⊢ <;>
      first
        |exact h
        |exact Calls.mono h (λe w'' he => by cases e <;> exact he)
  |halt x w' => cases x <;> simp only[Oper.upon]at h ⊢ <;> exact h
def yD (l : List Oper) : Bool := l.all λo => o.guard.isNone
theorem Gu {l : List Oper} (h : yD l = true) {i : Nat} {o : Oper} (ho : l[i]? = some o) : o.guard = none := by
  have := List.all_eq_true.1 h o (List.mem_of_getElem? ho)
  simpa using this
theorem Dh {ops : Array Oper} {i : Nat} {o : Oper} {K : Act -> World -> Prop} {a : Act} {w : World} (ho : ops[i]? = some o) (hg : o.guard = none) : wpOp P ops Q i K a w ↔ (o.wp P a w K Q \/ (o.asks P a w /\ LetsOut Q)) := by
  unfold wpOp
  rw[ho]
  have hw : Region.wanted o (yielded ops a.tmps) = true := by simp[Region.wanted, hg]
  simp only[hw, if_true]
def uo (ws : List (List Nat)) (m n : Nat) : Bool := ((List.range n).all λi => (ws.getD i []).all λj => decide (j < i)) && ((List.range n).all λi => decide (i < m) || JY ws i (List.range i))
theorem GL {ws : List (List Nat)} {e : Nat} {L : Array Bool} (h : JY ws e (List.range e) = true) (hcl : ll ws L) (hw : ∀ j ∈ ws.getD e [], L.getD j false = true) : ∀ i, i < e -> L.getD i false = true := by
  have key : ∀ n i, e - i <= n -> i < e -> L.getD i false = true := by
    intro n
    induction n with
    |zero => intro i hn hi; omega
    |succ n ih =>
      intro i hn hi
      have h2 := List.all_eq_true.1 h i (List.mem_range.2 hi)
      simp only[Bool.and_eq_true, decide_eq_true_eq, Bool.or_eq_true, List.any_eq_true, List.contains_iff_mem]at h2
      obtain⟨h3, h4|⟨m, hm, h5, h6⟩⟩ := h2
      · exact hw i h4
      · exact hcl m (ih m (by omega) (List.mem_range.1 hm)) i h6
  exact λi hi => key _ i (Nat.le_refl _) hi
theorem A7 {ops : Array Oper} {i : Nat} {o : Oper} (ho : ops[i]? = some o) : (bQ ops).getD i [] = (o.after.toList.filter (Region.binds .any)).map (·.on) := by
  simp[bQ, List.getD, ho]
theorem pO {ops : Array Oper} {L : Array Bool} {i : Nat} (hs : L.size = ops.size) : i ∈ Region.ready .any ops L ↔ i < ops.size /\ L.getD i false = false /\ ∀ j ∈ (bQ ops).getD i [], L.getD j false = true := by
  rw[mem_ready]
  constructor
  · rintro⟨h1, o, ho, h2⟩
    have hi : i < ops.size := (Array.getElem?_eq_some_iff.1 ho).1
    refine⟨hi, ?_, λj hj => ?_⟩
    · simp only[Array.getD, hs, hi, dite_true]at h1 ⊢; exact h1
    · rw[A7 ho]at hj
      obtain⟨e, he, rfl⟩ := List.mem_map.1 hj
      obtain⟨he1, he2⟩ := List.mem_filter.1 he
      exact h2 e (by simpa using he1) he2
  · rintro⟨hi, h1, h2⟩
    refine⟨by simp only[Array.getD, hs, hi, dite_true]at h1 ⊢; exact h1, ops[i], by simp[hi], λe he hb => h2 e.on ?_⟩
    rw[A7 (o := ops[i]) (by simp[hi])]
    exact List.mem_map.2 ⟨e, List.mem_filter.2 ⟨by simpa using he, hb⟩, rfl⟩
theorem Qi {ws : List (List Nat)} {L : Array Bool} {i : Nat} (h : ll ws L) (hw : ∀ j ∈ ws.getD i [], L.getD j false = true) : ll ws (L.setIfInBounds i true) := λj hj k hk => by
  by_cases e : k = i
  · subst e
    by_cases hl : k < L.size
    · simp[Array.getD, hl]
    · have : L.setIfInBounds k true = L := Array.setIfInBounds_eq_of_size_le (by omega)
      rw[this]at hj ⊢; exact h j hj k hk
  · rw[getD_set_ne false (λx => e x.symm)]
    by_cases e2 : j = i
    · subst e2; exact hw k hk
    · rw[getD_set_ne false (λx => e2 x.symm)]at hj; exact h j hj k hk
theorem Pp {l : List Oper} {m : Nat} (hsp : uo (bQ l.toArray) m l.length = true) (hg : yD l = true) : ∀ (r : List Oper) (p f : Nat) (L : Array Bool) (a : Act) (x : World), p + r.length = l.length -> m <= p -> l.drop p = r -> r.length <= f -> L.size = l.length -> (∀ j, j < l.length -> L.getD j false = decide (j < p)) -> wpList P l.toArray Q r a x -> wpAny P .any l.toArray Q f L a x := by
  simp only[uo, Bool.and_eq_true]at hsp
  obtain⟨hlt, hbe⟩ := hsp
  intro r
  induction r with
  |nil =>
    intro p f L a x hp hm hd hf hL hl h
    have hr : Region.ready .any l.toArray L = [] := List.eq_nil_iff_forall_not_mem.2 λi hi => by
      obtain⟨h1, h2, -⟩ := (pO (by simpa using hL)).1 hi
      simp only[List.size_toArray]at h1
      rw[hl i h1]at h2
      simp at hp h2; omega
    cases f with
    |zero => exact⟨hr, h⟩
    |succ f => exact⟨λ_ => h, λi hi => by rw[hr]at hi; cases hi⟩
  |cons o r ih =>
    intro p f L a x hp hm hd hf hL hl h
    simp only[List.length_cons]at hp hf
    obtain⟨f, rfl⟩ : ∃ f', f = f' + 1 := ⟨f - 1, by omega⟩
    have hpl : p < l.length := by omega
    have hop : l[p]? = some o := by
      have := congrArg List.head? hd
      rw[List.head?_drop]at this; simpa using this
    have hgo := Gu hg hop
    have hcl : ll (bQ l.toArray) L := λj hj k hk => by
      have hjl : j < l.length := by
        rcases Nat.lt_or_ge j l.length with h|h
        · exact h
        · simp[Array.getD, hL, Nat.not_lt.2 h]at hj
      have h1 := List.all_eq_true.1 (List.all_eq_true.1 hlt j (List.mem_range.2 hjl)) k hk
      simp only[decide_eq_true_eq]at h1
      rw[hl j hjl]at hj
      rw[hl k (by omega)]
      simp at hj ⊢; omega
    have kT : p ∈ Region.ready .any l.toArray L := (pO (by simpa using hL)).2 ⟨by simpa using hpl, by rw[hl p hpl]; simp, λj hj => by
      have h1 := List.all_eq_true.1 (List.all_eq_true.1 hlt p (List.mem_range.2 hpl)) j hj
      simp only[decide_eq_true_eq]at h1
      rw[hl j (by omega)]; simpa using h1⟩
    refine⟨λhe => (by rw[he]at kT; cases kT), λi hi => ?_⟩
    have hie : i = p := by
      obtain⟨h1, h2, h3⟩ := (pO (by simpa using hL)).1 hi
      simp only[List.size_toArray]at h1
      rw[hl i h1]at h2
      simp only[decide_eq_false_iff_not]at h2
      rcases Nat.lt_or_ge p i with h4|h4
      · exfalso
        have h5 := List.all_eq_true.1 hbe i (List.mem_range.2 h1)
        simp only[Bool.or_eq_true, decide_eq_true_eq]at h5
        rcases h5 with h5|h5
        · omega
        · have := GL h5 hcl h3 p h4
          rw[hl p hpl]at this; simp at this
      · omega
    subst hie
    rw[Dh (by simpa using hop) hgo]
    have h' := h
    rw[wpList]at h'
    have hw : Region.wanted o (yielded l.toArray a.tmps) = true := by simp[Region.wanted, hgo]
    simp only[hw, if_true]at h'
    rcases h' with h' | h'
    · refine .inl (Oper.wp_mono (λa' w' hK => ?_) h')
      refine ih (i + 1) f _ a' w' (by omega) (by omega) ?_ (by omega) (by simpa using hL) (λj hj => ?_) hK
      · have := congrArg List.tail hd
        simpa[List.tail_drop]using this
      · by_cases e : j = i
        · subst e; simp[Array.getD, hL, hj]
        · rw[getD_set_ne false (λx => e x.symm), hl j hj]
          by_cases h6 : j < i
          · simp[h6]; omega
          · simp[h6]; omega
    · exact .inr h'
theorem Gw {pre suf : List Oper} {a : Act} {w : World} (hsp : uo (bQ (pre ++ suf).toArray) pre.length (pre ++ suf).length = true) (hg : yD (pre ++ suf) = true)
    (h : wpAny P .any pre.toArray (Qs P Q (pre ++ suf).toArray suf) pre.toArray.size (Array.replicate pre.toArray.size false) a w) : wpAny P .any (pre ++ suf).toArray Q (pre ++ suf).toArray.size (Array.replicate (pre ++ suf).toArray.size false) a w := by
  have J2 := hsp
  simp only[uo, Bool.and_eq_true]at J2
  obtain⟨hlt, hbe⟩ := J2
  have hln : (pre ++ suf).length = pre.length + suf.length := List.length_append
  have hge : ∀ i, i < pre.length -> (pre ++ suf)[i]? = pre[i]? := λi hi => List.getElem?_append_left hi
  have Fa : ∀ i, i < pre.length -> (bQ (pre ++ suf).toArray).getD i [] = (bQ pre.toArray).getD i [] := λi hi => by
    have h1 : pre[i]? = some pre[i] := List.getElem?_eq_getElem hi
    rw[A7 (o := pre[i]) (by simpa using(hge i hi).trans h1), A7 (o := pre[i]) (by simp)]
  have key : ∀ (fuel : Nat) (La L : Array Bool) (a : Act) (x : World), La.size = pre.length -> L.size = (pre ++ suf).length -> (∀ j, j < pre.length -> La.getD j false = L.getD j false) -> (∀ j, pre.length <= j -> L.getD j false = false) -> ll (bQ (pre ++ suf).toArray) L ->
      wpAny P .any pre.toArray (Qs P Q (pre ++ suf).toArray suf) fuel La a x -> wpAny P .any (pre ++ suf).toArray Q (fuel + suf.length) L a x := by
    intro fuel
    have hmin : ∀ (La L : Array Bool), La.size = pre.length -> L.size = (pre ++ suf).length -> (∀ j, j < pre.length -> La.getD j false = L.getD j false) -> (∃ j, j < pre.length /\ L.getD j false = false) -> ∃ i, i ∈ Region.ready .any pre.toArray La := by
      intro La L h1 h2 h3 hj
      obtain⟨j, hj⟩ := hj
      have : ∀ n j, j < n -> j < pre.length -> L.getD j false = false -> ∃ i, i ∈ Region.ready .any pre.toArray La := by
        intro n
        induction n with
        |zero => intro j hn; omega
        |succ n ih =>
          intro j hn hj hf
          by_cases hall : ∀ k, k < j -> L.getD k false = true
          · refine⟨j, (pO (by simpa using h1)).2 ⟨by simpa using hj, by rw[h3 j hj]; exact hf, λk hk => ?_⟩⟩
            rw[← Fa j hj]at hk
            have h4 := List.all_eq_true.1 (List.all_eq_true.1 hlt j (List.mem_range.2 (by omega))) k hk
            simp only[decide_eq_true_eq]at h4
            rw[h3 k (by omega)]; exact hall k h4
          · simp only[Classical.not_forall]at hall
            obtain⟨k, hk, kM⟩ := hall
            exact ih k (by omega) (by omega) (by simpa using kM)
      exact this (j + 1) j (by omega) hj.1 hj.2
    have hdone : ∀ (f : Nat) (L : Array Bool) (a : Act) (x : World), suf.length <= f -> L.size = (pre ++ suf).length -> (∀ j, j < pre.length -> L.getD j false = true) -> (∀ j, pre.length <= j -> L.getD j false = false) -> wpList P (pre ++ suf).toArray Q suf a x -> wpAny P .any (pre ++ suf).toArray Q f L a x := λf L a x hf hL h1 h2 h => by
      refine Pp hsp hg suf pre.length f L a x hln.symm (Nat.le_refl _) (by simp) hf hL (λj hj => ?_) h
      rcases Nat.lt_or_ge j pre.length with h3|h3
      · rw[h1 j h3]; simp[h3]
      · rw[h2 j h3]; simp; omega
    induction fuel with
    |zero =>
      intro La L a x qC hL he hz hcl h
      refine hdone _ L a x (by omega) hL (λj hj => ?_) hz h.2
      cases hv : L.getD j false with
      |true => rfl
      |false =>
        obtain⟨i, hi⟩ := hmin La L qC hL he ⟨j, hj, hv⟩
        rw[h.1]at hi; cases hi
    |succ fuel ih =>
      intro La L a x qC hL he hz hcl h
      by_cases hall : ∀ j, j < pre.length -> L.getD j false = true
      · refine hdone _ L a x (by omega) hL hall hz (h.1 (List.eq_nil_iff_forall_not_mem.2 λi hi => ?_))
        obtain⟨h1, h2, -⟩ := (pO (by simpa using qC)).1 hi
        simp only[List.size_toArray]at h1
        rw[he i h1, hall i h1]at h2; cases h2
      · simp only[Classical.not_forall]at hall
        obtain⟨j, hj, BX⟩ := hall
        have BX : L.getD j false = false := by simpa using BX
        rw[show fuel + 1 + suf.length = (fuel + suf.length) + 1 by omega]
        refine⟨λhr => ?_, λi hi => ?_⟩
        · exfalso
          obtain⟨i, hi⟩ := hmin La L qC hL he ⟨j, hj, BX⟩
          obtain⟨h1, h2, h3⟩ := (pO (by simpa using qC)).1 hi
          simp only[List.size_toArray]at h1
          have : i ∈ Region.ready .any (pre ++ suf).toArray L := (pO (by simpa using hL)).2 ⟨by simp; omega, by rw[← he i h1]; exact h2, λk hk => by
            rw[Fa i h1]at hk
            have h4 := h3 k hk
            rcases Nat.lt_or_ge k pre.length with h5|h5
            · rw[← he k h5]; exact h4
            · simp[Array.getD, qC, Nat.not_lt.2 h5]at h4⟩
          rw[hr]at this; cases this
        · obtain⟨h1, h2, h3⟩ := (pO (by simpa using hL)).1 hi
          simp only[List.size_toArray]at h1
          have him : i < pre.length := by
            rcases Nat.lt_or_ge i pre.length with h4|h4
            · exact h4
            · exfalso
              have h5 := List.all_eq_true.1 hbe i (List.mem_range.2 h1)
              simp only[Bool.or_eq_true, decide_eq_true_eq]at h5
              rcases h5 with h5|h5
              · omega
              · have := GL h5 hcl h3 j (by omega)
                rw[BX]at this; cases this
          have hir : i ∈ Region.ready .any pre.toArray La := (pO (by simpa using qC)).2 ⟨by simpa using him, by rw[he i him]; exact h2, λk hk => by
            rw[← Fa i him]at hk
            have h4 := List.all_eq_true.1 (List.all_eq_true.1 hlt i (List.mem_range.2 h1)) k hk
            simp only[decide_eq_true_eq]at h4
            rw[he k (by omega)]; exact h3 k hk⟩
          have hp := h.2 i hir
          have hpo : pre[i]? = some pre[i] := List.getElem?_eq_getElem him
          have hlo : (pre ++ suf)[i]? = some pre[i] := (hge i him).trans hpo
          have hgo := Gu hg hlo
          rw[Dh (o := pre[i]) (by simp) hgo]at hp
          rw[Dh (by simpa using hlo) hgo]
          rcases hp with hp|⟨hp1, hp2⟩
          · refine .inl (Oper.wp_mono (λa' w' hK => ?_) (Oper.TK hp))
            refine ih (La.setIfInBounds i true) (L.setIfInBounds i true) a' w' (by simpa using qC) (by simpa using hL) (λk hk => ?_) (λk hk => ?_) (Qi hcl h3) hK
            · by_cases e : k = i
              · subst e; simp[Array.getD, qC, hL, hk]; omega
              · rw[getD_set_ne false (λx => e x.symm), getD_set_ne false (λx => e x.symm)]; exact he k hk
            · rw[getD_set_ne false (by omega)]; exact hz k hk
          · exact .inr ⟨hp1, Qh hp2⟩
  have hf : ∀ n j, (Array.replicate n false).getD j false = false := by
    intro n j
    by_cases hj : j < n <;> simp[Array.getD, hj]
  have := key pre.toArray.size (Array.replicate pre.toArray.size false) (Array.replicate (pre ++ suf).toArray.size false) a w (by simp) (by simp) (λj _ => by rw[hf, hf]) (λj _ => hf _ j) (λj hj => by rw[hf]at hj; cases hj) h
  rw[show(pre ++ suf).toArray.size = pre.toArray.size + suf.length by simp]at this ⊢
  exact this
theorem jm {id : Nat} {a : Act} {w : World} {l : List Oper} (m : Nat) (N : Nat) (ds : List (Option Tmp)) (ns : List (List Nat)) (T : List Nat) (Ss : List Sp) (jw : AS ((Ss.map Sp.k).filterMap Kd.zero) T 0 Ss) (hR0 : ∀ i R iv z t, (Ss.map Sp.k).getD i .op = .rs R iv z t -> R < w.drew.heap.size /\ w.drew.heap[R]? = some (.cells z t (0, 0)))
    (hstep : iY (kF P ds (bQ (l.take m).toArray) ns T Ss w.drew a) 0 (l.take m))
    (hend : ∀ (vs : Nat -> Value) (x : World), GE T Ss w.drew vs x -> wpList P l.toArray Q (l.drop m) (aV ds (λj => sv (Ss.getD j .n) (vs j)) (rg 0 ds) a) x)
    (hm : P.follows .mixedOrders = true := by kernel_rfl) (hN : a.tmps.size = N := by rfl) (hok : gL N (l.take m).toArray ds (bQ (l.take m).toArray) ns [] = true := by kernel_rfl) (hkd : uD (bQ (l.take m).toArray) (jh T Ss.length) (Ss.map Sp.k) = true := by kernel_rfl) (hlen : (Ss.map Sp.k).length = (l.take m).length := by rfl) (hr : rg 0 ds = List.range (l.take m).length := by rfl) (hc : kN T Ss = true := by kernel_rfl)
    (hsp : uo (bQ l.toArray) m l.length = true := by kernel_rfl) (hg : yD l = true := by kernel_rfl) (jT : (l.take m).length = m := by rfl) : (Code.region id l.toArray true).wp P Q a w := by
  refine wp_region_any hm ?_
  have hl : l.take m ++ l.drop m = l := List.take_append_drop m l
  have h1 := Gw (P := P) (Q := Q) (pre := l.take m) (suf := l.drop m) (a := a) (w := w.drew) (by rw[hl, jT]; exact hsp) (by rw[hl]; exact hg) (by
    refine Av N ds (bQ (l.take m).toArray) ns (jh T Ss.length) (Ss.map Sp.k) (Ss.map Sp.P) hN hok hkd hlen (oN Ss) (by have := jw.all; rwa[← List.range_eq_range']at this) hR0 (xZ (λ_ _ h => h.s) _ _ hstep) λvs x h => ?_
    have h1 := GE.of h hc
    have h2 := hend vs x h1
    rw[hl]
    rwa[hr, tN _ _ λj _ => h1.c j]at h2)
  rw[hl]at h1
  exact h1
end
section
variable {P : Program} {Q : Exit -> Act -> World -> Prop}
theorem Ue {id : Nat} {a : Act} {w : World} {l : List Oper} (m : Nat) (N : Nat) (ds : List (Option Tmp)) (ns : List (List Nat)) (T : List Nat) (Ss : List Sp) (jw : AS ((Ss.map Sp.k).filterMap Kd.zero) T 0 Ss) (hR0 : ∀ i R iv z t, (Ss.map Sp.k).getD i .op = .rs R iv z t -> R < w.heap.size /\ w.heap[R]? = some (.cells z t (0, 0)))
    (hstep : iY (kF P ds (bQ (l.take m).toArray) ns T Ss w a) 0 (l.take m))
    (hend : ∀ (vs : Nat -> Value) (x : World), GE T Ss w vs x -> wpList P l.toArray Q (l.drop m) (aV ds (λj => sv (Ss.getD j .n) (vs j)) (rg 0 ds) a) x)
    (hN : a.tmps.size = N := by rfl) (hok : gL N (l.take m).toArray ds (bQ (l.take m).toArray) ns [] = true := by kernel_rfl) (hkd : uD (bQ (l.take m).toArray) (jh T Ss.length) (Ss.map Sp.k) = true := by kernel_rfl) (hlen : (Ss.map Sp.k).length = (l.take m).length := by rfl) (hr : rg 0 ds = List.range (l.take m).length := by rfl) (hc : kN T Ss = true := by kernel_rfl)
    (hsp : uo (bQ l.toArray) m l.length = true := by kernel_rfl) (hg : yD l = true := by kernel_rfl) (jT : (l.take m).length = m := by rfl) : (Code.region id l.toArray false).wp P Q a w := by
  refine wp_region ?_
  have hl : l.take m ++ l.drop m = l := List.take_append_drop m l
  have h1 := Gw (P := P) (Q := Q) (pre := l.take m) (suf := l.drop m) (a := a) (w := w) (by rw[hl, jT]; exact hsp) (by rw[hl]; exact hg) (by
    refine Av N ds (bQ (l.take m).toArray) ns (jh T Ss.length) (Ss.map Sp.k) (Ss.map Sp.P) hN hok hkd hlen (oN Ss) (by have := jw.all; rwa[← List.range_eq_range']at this) hR0 (xZ (λ_ _ h => h.s) _ _ hstep) λvs x h => ?_
    have h1 := GE.of h hc
    have h2 := hend vs x h1
    rw[hl]
    rwa[hr, tN _ _ λj _ => h1.c j]at h2)
  rw[hl]at h1
  have h := Gm (ops := l.toArray) ?_ l.toArray.size 0 _ a w (by simp) (by simp) (λj hj => ?_) h1
  · rw[List.range_eq_range']; exact h
  · intro i o ho e he hb
    have hi : i < l.toArray.size := (Array.getElem?_eq_some_iff.1 ho).1
    simp only[uo, Bool.and_eq_true]at hsp
    have h3 := List.all_eq_true.1 hsp.1 i (List.mem_range.2 (by simpa using hi))
    have hm : e.on ∈ (bQ l.toArray).getD i [] := by
      simp only[bQ]
      have ho' : l[i]? = some o := by simpa using ho
      simp[ho', and_assoc]
      exact⟨e, he, hb, rfl⟩
    simpa using List.all_eq_true.1 h3 e.on hm
  · have : j < l.length := by simpa using hj
    simp[this]
end
end Go.Proofs.YtbpodipdfohikaaGreat
