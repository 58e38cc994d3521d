/- A region that draws its order, by what each operation is known to yield: whatever the order, each operation is looked at once, in any world that is reached. No program is named. -/
import Derived.Test.YtaabkaiifplhgaaDoorTail
namespace Go.Proofs.YtaabkaiifplhgaaDoor
set_option linter.unusedSimpArgs false
set_option linter.unusedVariables false
open Go.RowKit

/-- what an operation gives -/
def GivesR (P : Program) (R : Value → World → Prop) : Result Next → Prop
  | .ok (.value v) w' => R v w'
  | .ok .skip w' => R undef w'
  | .ok (.enter f args) w' => Calls P f args w' fun e w'' => ∃ v, e = .returned v ∧ R v w''
  | .ok (.row row args) w' => Rows P row args w' R
  | _ => False
def Gives (P : Program) (o : Oper) (a : Act) (w : World) (R : Value → World → Prop) : Prop := GivesR P R ((execOp a.eval o).run P w)

theorem givesR_value (P : Program) (R : Value → World → Prop) (v : Value) (w : World) : GivesR P R (.ok (.value v) w) = R v w := rfl
theorem givesR_skip (P : Program) (R : Value → World → Prop) (w : World) : GivesR P R (.ok .skip w) = R undef w := rfl
theorem givesR_enter (P : Program) (R : Value → World → Prop) (f : FuncId) (args : Array Value) (w : World) : GivesR P R (.ok (.enter f args) w) = Calls P f args w fun e w'' => ∃ v, e = .returned v ∧ R v w'' := rfl

theorem Gives.mono {P : Program} {o : Oper} {a : Act} {w : World} {R R' : Value → World → Prop} (h : Gives P o a w R) (hr : ∀ v w', R v w' → R' v w') : Gives P o a w R' := by
  unfold Gives at h ⊢
  generalize (execOp a.eval o).run P w = r at *
  cases r with
  | ok n w' =>
    cases n <;> simp only [GivesR] at h ⊢
    case value v => exact hr _ _ h
    case skip => exact hr _ _ h
    case enter f args =>
      refine Calls.mono h fun e w'' he => ?_
      obtain ⟨v, rfl, hv⟩ := he
      exact ⟨v, rfl, hr _ _ hv⟩
    case row row args => exact Rows.mono h fun v w'' hv => hr _ _ hv
  | halt x w' => exact h.elim
theorem Gives.wp {P : Program} {o : Oper} {a : Act} {w : World} {R : Value → World → Prop} {K : Act → World → Prop} {Q : Exit → Act → World → Prop} (h : Gives P o a w R) (hK : ∀ v w', R v w' → K (a.put o.dst v) w') : o.wp P a w K Q := by
  unfold Gives at h
  unfold Oper.wp
  generalize (execOp a.eval o).run P w = r at *
  cases r with
  | ok n w' =>
    cases n <;> simp only [GivesR, Oper.upon] at h ⊢
    case value v => exact hK _ _ h
    case skip => exact hK _ _ h
    case enter f args =>
      refine Calls.mono h fun e w'' he => ?_
      obtain ⟨v, rfl, hr⟩ := he
      exact hK _ _ hr
    case row row args => exact Rows.mono h fun v w'' hr => hK _ _ hr
  | halt x w' => exact h.elim

def dstsOf (ops : Array Oper) : List (Option Tmp) := ops.toList.map (·.dst)
def waitsOf (ops : Array Oper) : List (List Nat) := ops.toList.map fun o => (o.after.toList.filter (Region.binds .any)).map (·.on)
def noSel (o : Oper) : Bool := match o.op with
  | .select _ _ => false
  | _ => true
/-- the operands that are temporaries -/
def tmpsOf (o : Oper) : List Tmp := o.op.operands.toList.filterMap fun | .tmp t => some t | _ => none

/-- what is asked of the region: no guard, no select; each waits for earlier ones alone; a temporary that it reads and that another one writes is written by one that it waits for, or by one that waits for it; none writes what another writes -/
def relOk (N : Nat) (ops : Array Oper) (ds : List (Option Tmp)) (ws ns us : List (List Nat)) : Bool :=
  (dstsOf ops == ds) && (waitsOf ops == ws) && (List.range ops.size).all fun i => match ops[i]? with
    | none => false
    | some o => o.guard.isNone && noSel o && ((ws.getD i []).all fun j => decide (j < i)) &&
      ((tmpsOf o).all fun t => (List.range ops.size).all fun j => (ds.getD j none != some t) || (ws.getD i []).contains j || (ws.getD j []).contains i || (i == j)) &&
      ((us.getD i []).all fun k => k == i || (ws.getD i []).contains k) &&
      ((List.range ops.size).all fun j => j == i || (ds.getD i none).isNone || ds.getD j none != ds.getD i none) &&
      (match ds.getD i none with | some d => decide (d < N) | none => true) &&
      ((ns.getD i []).all fun j => (ws.getD i []).contains j) && ((tmpsOf o).all fun t => (ws.getD i []).all fun j => (ds.getD j none != some t) || (ns.getD i []).contains j)

/-- the frame behind operations of a list -/
def actL (ds : List (Option Tmp)) (vs : Nat → Value) : List Nat → Act → Act
  | [], a => a
  | j :: r, a => actL ds vs r (a.put (ds.getD j none) (vs j))
def upd (vs : Nat → Value) (i : Nat) (v : Value) : Nat → Value := fun k => if k = i then v else vs k

theorem actL_put {ds : List (Option Tmp)} {vs : Nat → Value} {d : Option Tmp} {v : Value} : ∀ (js : List Nat) (a : Act), (∀ j ∈ js, ∀ t, d = some t → ds.getD j none ≠ some t) → actL ds vs js (a.put d v) = (actL ds vs js a).put d v
  | [], a, _ => rfl
  | j :: r, a, h => by
    simp only [actL]
    rw [Act.put_comm a v (vs j) (fun t ht => h j (by simp) t ht)]
    exact actL_put r _ (fun k hk => h k (by simp [hk]))
theorem actL_congr {ds : List (Option Tmp)} {vs us : Nat → Value} : ∀ (js : List Nat) (a : Act), (∀ j ∈ js, vs j = us j) → actL ds vs js a = actL ds us js a
  | [], a, _ => rfl
  | j :: r, a, h => by
    simp only [actL]
    rw [h j (by simp)]
    exact actL_congr r _ (fun k hk => h k (by simp [hk]))
theorem actL_append {ds : List (Option Tmp)} {vs : Nat → Value} : ∀ (js ks : List Nat) (a : Act), actL ds vs (js ++ ks) a = actL ds vs ks (actL ds vs js a)
  | [], ks, a => rfl
  | j :: r, ks, a => by simp only [List.cons_append, actL]; exact actL_append r ks _
theorem actL_size {ds : List (Option Tmp)} {vs : Nat → Value} : ∀ (js : List Nat) (a : Act), (actL ds vs js a).tmps.size = a.tmps.size
  | [], a => rfl
  | j :: r, a => by
    simp only [actL]
    rw [actL_size r]
    cases ds.getD j none <;> simp [Act.put]
theorem eval_keep {ds : List (Option Tmp)} {vs : Nat → Value} {x : Operand} : ∀ (js : List Nat) (a : Act), (∀ j ∈ js, ∀ t, ds.getD j none = some t → x ≠ .tmp t) → (actL ds vs js a).eval x = a.eval x
  | [], a, _ => rfl
  | j :: r, a, h => by
    simp only [actL]
    rw [eval_keep r _ (fun k hk => h k (by simp [hk]))]
    exact Act.eval_put (fun t ht => h j (by simp) t ht)
theorem eval_at {ds : List (Option Tmp)} {vs : Nat → Value} {t : Tmp} {j : Nat} : ∀ (js : List Nat) (a : Act), j ∈ js → ds.getD j none = some t → t < a.tmps.size → (∀ k ∈ js, ds.getD k none = some t → k = j) → (actL ds vs js a).eval (.tmp t) = vs j
  | [], a, h, _, _, _ => by cases h
  | k :: r, a, h, hd, hs, hu => by
    simp only [actL]
    by_cases hr : j ∈ r
    · refine eval_at r _ hr hd ?_ (fun k' hk' => hu k' (by simp [hk']))
      cases ds.getD k none <;> simpa [Act.put] using hs
    · have hjk : j = k := by
        rcases List.mem_cons.1 h with e | e
        · exact e
        · exact absurd e hr
      subst hjk
      rw [eval_keep r _ (fun k hk t' ht' e => by
        simp only [Operand.tmp.injEq] at e
        subst e
        exact hr ((hu k (by simp [hk]) ht') ▸ hk))]
      rw [hd]
      simp [Act.eval, Act.put, hs]

/-- which have come up -/
def upL (n : Nat) (L : Array Bool) : List Nat := (List.range n).filter fun j => L.getD j false

theorem upL_mem {n : Nat} {L : Array Bool} {j : Nat} : j ∈ upL n L ↔ j < n ∧ L.getD j false = true := by simp [upL]

/-- one after the other -/
def StepAll (f : Nat → Oper → Prop) : Nat → List Oper → Prop
  | _, [] => True
  | i, o :: r => f i o ∧ StepAll f (i + 1) r
theorem stepAll_at {f : Nat → Oper → Prop} : ∀ (l : List Oper) (k : Nat), StepAll f k l → ∀ i o, l[i]? = some o → f (k + i) o
  | [], k, _, i, o, h => by simp at h
  | x :: r, k, h, 0, o, ho => by simp at ho; subst ho; exact h.1
  | x :: r, k, h, i + 1, o, ho => by
    have := stepAll_at r (k + 1) h.2 i o (by simpa using ho)
    rw [show k + (i + 1) = k + 1 + i by omega]; exact this

theorem stepAll_mono {f g : Nat → Oper → Prop} (h : ∀ i o, f i o → g i o) : ∀ (l : List Oper) (k : Nat), StepAll f k l → StepAll g k l
  | [], _, _ => trivial
  | x :: r, k, hs => ⟨h _ _ hs.1, stepAll_mono h r (k + 1) hs.2⟩

section
variable {P : Program} {ops : Array Oper} {Q : Exit → Act → World → Prop}

theorem actL_set {ds : List (Option Tmp)} {vs : Nat → Value} {n i : Nat} {L : Array Bool} {v : Value} {a : Act} (hi : i < n) (hl : L.getD i false = false) (hsz : i < L.size) (hd : ∀ j, j < n → j ≠ i → ∀ t, ds.getD i none = some t → ds.getD j none ≠ some t) :
    actL ds (upd vs i v) (upL n (L.setIfInBounds i true)) a = (actL ds vs (upL n L) a).put (ds.getD i none) v := by
  have key : ∀ (js : List Nat) (a : Act), js.Nodup → (∀ j ∈ js, j < n) → i ∈ js → actL ds (upd vs i v) (js.filter fun j => (L.setIfInBounds i true).getD j false) a = (actL ds vs (js.filter fun j => L.getD j false) a).put (ds.getD i none) v := by
    intro js
    induction js with
    | nil => intro a _ _ h; cases h
    | cons j r ih =>
      intro a hnd hlt hm
      simp only [List.nodup_cons] at hnd
      have hrest : ∀ (a : Act), i ∉ r → actL ds (upd vs i v) (r.filter fun j => (L.setIfInBounds i true).getD j false) a = actL ds vs (r.filter fun j => L.getD j false) a := by
        intro a hir
        have e1 : (r.filter fun j => (L.setIfInBounds i true).getD j false) = r.filter fun j => L.getD j false := by
          apply List.filter_congr
          intro k hk
          exact getD_set_ne false (fun e => hir (e ▸ hk))
        rw [e1]
        exact actL_congr _ _ (fun k hk => by
          have : k ≠ i := fun e => hir (e ▸ (List.mem_filter.1 hk).1)
          simp [upd, this])
      by_cases hji : j = i
      · subst hji
        have hset : (L.setIfInBounds j true).getD j false = true := by simp [hsz]
        rw [List.filter_cons, List.filter_cons, if_pos hset, if_neg (by simp [hl])]
        simp only [actL]
        rw [hrest _ hnd.1]
        have : upd vs j v j = v := by simp [upd]
        rw [this]
        exact actL_put _ _ (fun k hk t ht => hd k (hlt k (by simp [(List.mem_filter.1 hk).1])) (fun e => hnd.1 (e ▸ (List.mem_filter.1 hk).1)) t ht)
      · have hir : i ∈ r := by
          rcases List.mem_cons.1 hm with e | e
          · exact absurd e.symm hji
          · exact e
        have e2 : (L.setIfInBounds i true).getD j false = L.getD j false := getD_set_ne false (fun e => hji e.symm)
        have e3 : upd vs i v j = vs j := by simp [upd, hji]
        by_cases hj : L.getD j false = true
        · rw [List.filter_cons, List.filter_cons, if_pos (by rw [e2]; exact hj), if_pos hj]
          simp only [actL, e3]
          exact ih _ hnd.2 (fun k hk => hlt k (by simp [hk])) hir
        · rw [List.filter_cons, List.filter_cons, if_neg (by rw [e2]; exact hj), if_neg hj]
          exact ih _ hnd.2 (fun k hk => hlt k (by simp [hk])) hir
  exact key (List.range n) a List.nodup_range (fun j hj => List.mem_range.1 hj) (List.mem_range.2 hi)

/-- THE LAW. G: what holds between any two worlds on the way; Y j: what is known of operation j's value (and of the values us[j] that it waited for) from then on, until one of ks[j] comes up -/
theorem wp_region_rel {id : Nat} {a : Act} {w : World} (hm : P.follows .mixedOrders = true) (N : Nat) (ds : List (Option Tmp)) (ws ns us ks : List (List Nat)) (hN : a.tmps.size = N) (hok : relOk N ops ds ws ns us = true)
    (T : World → World → Prop) (hT0 : ∀ w, T w w) (hTt : ∀ x y z, T x y → T y z → T x z)
    (Y : Nat → List Value → World → Prop)
    (hstep : ∀ i o, ops[i]? = some o → ∀ (vs : Nat → Value) (x : World), T w.drew x → (∀ j ∈ ws.getD i [], (∀ k ∈ ks.getD j [], k = i ∨ i ∈ ws.getD k []) → Y j ((us.getD j []).map vs) x) → Gives P o (actL ds vs (ns.getD i []) a) x (fun v y => T x y ∧ Y i ((us.getD i []).map (upd vs i v)) y ∧ ∀ j l, j ≠ i → i ∉ ks.getD j [] → i ∉ ws.getD j [] → (∀ k ∈ ks.getD j [], k ∉ ws.getD i []) → Y j l x → Y j l y))
    (hend : ∀ (vs : Nat → Value) (x : World), T w.drew x → (∀ j, j < ops.size → ks.getD j [] = [] → Y j ((us.getD j []).map vs) x) → Q .normal (actL ds vs (List.range ops.size) a) x) : (Code.region id ops true).wp P Q a w := by
  simp only [relOk, Bool.and_eq_true] at hok
  obtain ⟨⟨hds, hws⟩, hall⟩ := hok
  have hds := eq_of_beq hds
  have hws := eq_of_beq hws
  have hdst : ∀ i o, ops[i]? = some o → ds.getD i none = o.dst := by
    intro i o ho
    rw [← hds]
    simp [dstsOf, ho]
  have hwait : ∀ i o, ops[i]? = some o → ∀ j, j ∈ ws.getD i [] ↔ ∃ e ∈ o.after, Region.binds .any e = true ∧ e.on = j := by
    intro i o ho j
    rw [← hws]
    simp [waitsOf, ho, and_assoc]
  have hop : ∀ i o, ops[i]? = some o → ((o.guard = none ∧ (∀ cs b, o.op ≠ .select cs b)) ∧ (∀ j ∈ ws.getD i [], j < i)) ∧ (∀ t ∈ tmpsOf o, ∀ j, j < ops.size → ds.getD j none = some t → j ∈ ws.getD i [] ∨ i ∈ ws.getD j [] ∨ i = j) ∧ (∀ k ∈ us.getD i [], k = i ∨ k ∈ ws.getD i []) ∧ (∀ j, j < ops.size → j ≠ i → ∀ t, ds.getD i none = some t → ds.getD j none ≠ some t) ∧ (∀ d, ds.getD i none = some d → d < N) ∧ (∀ j ∈ ns.getD i [], j ∈ ws.getD i []) ∧ (∀ t ∈ tmpsOf o, ∀ j ∈ ws.getD i [], ds.getD j none = some t → j ∈ ns.getD i []) := by
    intro i o ho
    have hi : i < ops.size := (Array.getElem?_eq_some_iff.1 ho).1
    have h := List.all_eq_true.1 hall i (List.mem_range.2 hi)
    rw [ho] at h
    simp only [Bool.and_eq_true] at h
    obtain ⟨⟨⟨⟨⟨⟨⟨⟨h1, h2⟩, h3⟩, h4⟩, h5⟩, h6⟩, h7⟩, h8⟩, h9⟩ := h
    refine ⟨⟨⟨by simpa using h1, fun cs b e => by simp [noSel, e] at h2⟩, fun j hj => by simpa using List.all_eq_true.1 h3 j hj⟩, fun t ht j hj hd => ?_, fun k hk => ?_, fun j hj hne t hdi hdj => ?_, fun d hd => ?_, fun j hj => by simpa using List.all_eq_true.1 h8 j hj, fun t ht j hj hd => ?_⟩
    · have := List.all_eq_true.1 (List.all_eq_true.1 h4 t ht) j (List.mem_range.2 hj)
      rw [hd] at this
      simp at this
      rcases this with (h | h) | h
      · exact .inl (by simpa using h)
      · exact .inr (.inl (by simpa using h))
      · exact .inr (.inr h)
    · have := List.all_eq_true.1 h5 k hk
      simp at this
      rcases this with h | h
      · exact .inl h
      · exact .inr (by simpa using h)
    · have := List.all_eq_true.1 h6 j (List.mem_range.2 hj)
      rw [hdi, hdj] at this
      simp at this
      exact hne this
    · rw [hd] at h7; simpa using h7
    · have := List.all_eq_true.1 (List.all_eq_true.1 h9 t ht) j hj
      rw [hd] at this
      simpa using this
  clear hall
  -- the invariant
  have main : ∀ (fuel : Nat) (L : Array Bool) (vs : Nat → Value) (x : World), L.size = ops.size → (∀ j o, ops[j]? = some o → L.getD j false = true → ∀ k ∈ ws.getD j [], L.getD k false = true) → ops.size ≤ fuel + (upL ops.size L).length → T w.drew x → (∀ j, L.getD j false = true → (∀ k ∈ ks.getD j [], L.getD k false = false) → Y j ((us.getD j []).map vs) x) → wpAny P .any ops Q fuel L (actL ds vs (upL ops.size L) a) x := by
    have hdone : ∀ (L : Array Bool) (vs : Nat → Value) (x : World), L.size = ops.size → (∀ j o, ops[j]? = some o → L.getD j false = true → ∀ k ∈ ws.getD j [], L.getD k false = true) → T w.drew x → (∀ j, L.getD j false = true → (∀ k ∈ ks.getD j [], L.getD k false = false) → Y j ((us.getD j []).map vs) x) → Region.ready .any ops L = [] → Q .normal (actL ds vs (upL ops.size L) a) x := by
      intro L vs x hsz hcl hTx hY hr
      have hallL : ∀ (n : Nat), n ≤ ops.size → ∀ j, j < n → L.getD j false = true := by
        intro n
        induction n with
        | zero => intro _ j hj; omega
        | succ n ih =>
          intro hn j hj
          rcases Nat.lt_or_ge j n with h | h
          · exact ih (by omega) j h
          · obtain rfl : j = n := by omega
            have hjs : j < ops.size := by omega
            cases hlj : L.getD j false with
            | true => rfl
            | false =>
              exfalso
              have : j ∈ Region.ready .any ops L := by
                refine mem_ready.2 ⟨?_, ops[j], Array.getElem?_eq_getElem hjs, fun e he hb => ?_⟩
                · have : j < L.size := by omega
                  simp [this] at hlj ⊢; exact hlj
                · have hw := (hwait j _ (Array.getElem?_eq_getElem hjs) e.on).2 ⟨e, he, hb, rfl⟩
                  exact ih (by omega) e.on ((hop j _ (Array.getElem?_eq_getElem hjs)).1.2 _ hw)
              rw [hr] at this; cases this
      have hup : upL ops.size L = List.range ops.size := by
        unfold upL
        exact List.filter_eq_self.2 (fun j hj => hallL ops.size (Nat.le_refl _) j (List.mem_range.1 hj))
      rw [hup]
      exact hend vs x hTx (fun j hj hk => hY j (hallL ops.size (Nat.le_refl _) j hj) (fun k hk' => by rw [hk] at hk'; cases hk'))
    intro fuel
    induction fuel with
    | zero =>
      intro L vs x hsz hcl hf hTx hY
      have hlen : (upL ops.size L).length = ops.size := by
        have h1 : (upL ops.size L).length ≤ (List.range ops.size).length := List.length_filter_le _ _
        simp at h1; omega
      have hr : Region.ready .any ops L = [] := by
        refine List.eq_nil_iff_forall_not_mem.2 fun j hj => ?_
        obtain ⟨h1, o, ho, _⟩ := mem_ready.1 hj
        have hjs : j < ops.size := (Array.getElem?_eq_some_iff.1 ho).1
        have hall2 : upL ops.size L = List.range ops.size := by
          unfold upL
          refine List.filter_eq_self.2 ?_
          have : (List.filter (fun j => L.getD j false) (List.range ops.size)).length = (List.range ops.size).length := by
            have := hlen; unfold upL at this; rw [this]; simp
          exact List.length_filter_eq_length_iff.1 this
        have := (upL_mem (L := L) (n := ops.size) (j := j)).1 (by rw [hall2]; exact List.mem_range.2 hjs)
        have hjl : j < L.size := by omega
        simp [hjl] at h1 this
        rw [h1] at this; cases this.2
      exact ⟨hr, hdone L vs x hsz hcl hTx hY hr⟩
    | succ fuel ih =>
      intro L vs x hsz hcl hf hTx hY
      refine ⟨hdone L vs x hsz hcl hTx hY, fun i hi => ?_⟩
      obtain ⟨h1, o, ho, hdep⟩ := mem_ready.1 hi
      have his : i < ops.size := (Array.getElem?_eq_some_iff.1 ho).1
      have hil : i < L.size := by omega
      have hlf : L.getD i false = false := by simp [hil] at h1 ⊢; exact h1
      obtain ⟨⟨⟨hgd, hsel⟩, hlt⟩, htm, hus, hdd, hdN, hnsub, hnall⟩ := hop i o ho
      have hdepL : ∀ j ∈ ws.getD i [], L.getD j false = true := by
        intro j hj
        obtain ⟨e, he, hb, rfl⟩ := (hwait i o ho j).1 hj
        exact hdep e he hb
      have hg := hstep i o ho vs x hTx (fun j hj hk => hY j (hdepL j hj) (fun k hk' => by
        rcases hk k hk' with e | e
        · rw [e]; exact hlf
        · cases hlk : L.getD k false with
          | false => rfl
          | true =>
            have hks : k < ops.size := by
              rcases Nat.lt_or_ge k L.size with h | h
              · omega
              · simp [Array.getElem?_eq_none h] at hlk
            have := hcl k _ (Array.getElem?_eq_getElem hks) hlk i e
            rw [hlf] at this; cases this))
      have hcong : execOp (actL ds vs (upL ops.size L) a).eval o = execOp (actL ds vs (ns.getD i []) a).eval o := by
        refine execOp_congr o hsel fun y hy => ?_
        cases y with
        | tmp t =>
          have ht : t ∈ tmpsOf o := List.mem_filterMap.2 ⟨.tmp t, by simpa using hy, rfl⟩
          by_cases hex : ∃ j ∈ ws.getD i [], ds.getD j none = some t
          · obtain ⟨j, hj, hd⟩ := hex
            have hjs : j < ops.size := by have := hlt j hj; omega
            have huniq : ∀ k, k < ops.size → ds.getD k none = some t → k = j := fun k hk hkd => by
              apply Classical.byContradiction
              intro hne
              exact (hop j _ (Array.getElem?_eq_getElem hjs)).2.2.2.1 k hk hne t hd hkd
            have htN : t < a.tmps.size := by rw [hN]; exact (hop j _ (Array.getElem?_eq_getElem hjs)).2.2.2.2.1 t hd
            rw [eval_at _ a (upL_mem.2 ⟨hjs, hdepL j hj⟩) hd htN (fun k hk hkd => huniq k (upL_mem.1 hk).1 hkd), eval_at _ a (hnall t ht j hj hd) hd htN (fun k hk hkd => huniq k (by have := hlt k (hnsub k hk); omega) hkd)]
          · rw [eval_keep _ a (fun k hk t' ht' e => ?_), eval_keep _ a (fun k hk t' ht' e => ?_)]
            · simp only [Operand.tmp.injEq] at e
              subst e
              exact hex ⟨k, hnsub k hk, ht'⟩
            · simp only [Operand.tmp.injEq] at e
              subst e
              obtain ⟨hks, hkL⟩ := upL_mem.1 hk
              rcases htm t ht k hks ht' with h | h | h
              · exact hex ⟨k, h, ht'⟩
              · have := hcl k _ (Array.getElem?_eq_getElem hks) hkL i h
                rw [hlf] at this; cases this
              · subst h
                rw [hlf] at hkL; cases hkL
        | _ =>
          rw [eval_keep _ a (fun k hk t' ht' e => by cases e), eval_keep _ a (fun k hk t' ht' e => by cases e)]
      unfold wpOp
      rw [ho]
      have hw : Region.wanted o (yielded ops (actL ds vs (upL ops.size L) a).tmps) = true := by simp [Region.wanted, hgd]
      simp only [hw, if_true]
      refine .inl (Gives.wp (R := fun v y => T x y ∧ Y i ((us.getD i []).map (upd vs i v)) y ∧ ∀ j l, j ≠ i → i ∉ ks.getD j [] → i ∉ ws.getD j [] → (∀ k ∈ ks.getD j [], k ∉ ws.getD i []) → Y j l x → Y j l y) (by unfold Gives at hg ⊢; rw [hcong]; exact hg) ?_)
      rintro v y ⟨hTy, hYi, hYk⟩
      rw [← hdst i o ho, ← actL_set his hlf hil hdd]
      refine ih (L.setIfInBounds i true) (upd vs i v) y (by simpa using hsz) ?_ ?_ (hTt _ _ _ hTx hTy) ?_
      · intro j oj hj hlj k hk
        by_cases hij : i = j
        · subst hij; exact getD_set_true (hdepL k hk)
        · rw [getD_set_ne false hij] at hlj
          exact getD_set_true (hcl j oj hj hlj k hk)
      · have hlen : (upL ops.size (L.setIfInBounds i true)).length = (upL ops.size L).length + 1 := by
          have key : ∀ js : List Nat, js.Nodup → i ∈ js → (js.filter fun j => (L.setIfInBounds i true).getD j false).length = (js.filter fun j => L.getD j false).length + 1 := by
            intro js
            induction js with
            | nil => intro _ h; cases h
            | cons j r ih2 =>
              intro hnd hmem
              simp only [List.nodup_cons] at hnd
              by_cases hji : j = i
              · subst hji
                have hset : (L.setIfInBounds j true).getD j false = true := by simp [hil]
                rw [List.filter_cons, List.filter_cons, if_pos hset, if_neg (by simp [hlf])]
                have e1 : (r.filter fun k => (L.setIfInBounds j true).getD k false) = r.filter fun k => L.getD k false := by
                  apply List.filter_congr
                  intro k hk
                  exact getD_set_ne false (fun e => hnd.1 (e ▸ hk))
                rw [e1]; simp
              · have hir : i ∈ r := by
                  rcases List.mem_cons.1 hmem with e | e
                  · exact absurd e.symm hji
                  · exact e
                have e2 : (L.setIfInBounds i true).getD j false = L.getD j false := getD_set_ne false (fun e => hji e.symm)
                by_cases hj : L.getD j false = true
                · rw [List.filter_cons, List.filter_cons, if_pos (by rw [e2]; exact hj), if_pos hj]
                  rw [List.length_cons, List.length_cons, ih2 hnd.2 hir]
                · rw [List.filter_cons, List.filter_cons, if_neg (by rw [e2]; exact hj), if_neg hj]
                  exact ih2 hnd.2 hir
          exact key _ List.nodup_range (List.mem_range.2 his)
        omega
      · intro j hlj hkl
        by_cases hij : i = j
        · subst hij; exact hYi
        · rw [getD_set_ne false hij] at hlj
          have hnk : i ∉ ks.getD j [] := fun hk => by
            have := hkl i hk
            simp [hil] at this
          have hkl2 : ∀ k ∈ ks.getD j [], L.getD k false = false := fun k hk => by
            have := hkl k hk
            have hik : i ≠ k := fun e => hnk (by rw [e]; exact hk)
            rw [getD_set_ne false hik] at this
            exact this
          have hjl : j < ops.size := by
            rcases Nat.lt_or_ge j L.size with h | h
            · omega
            · simp [Array.getElem?_eq_none h] at hlj
          have e : (us.getD j []).map (upd vs i v) = (us.getD j []).map vs := by
            apply List.map_congr_left
            intro k hk
            have hki : k ≠ i := by
              intro e
              subst e
              rcases (hop j _ (Array.getElem?_eq_getElem hjl)).2.2.1 k hk with h | h
              · exact hij h
              · have := hcl j _ (Array.getElem?_eq_getElem hjl) hlj k h
                rw [hlf] at this; cases this
            simp [upd, hki]
          rw [e]
          exact hYk _ _ (fun e => hij e.symm) hnk (fun hw => by have := hcl j _ (Array.getElem?_eq_getElem hjl) hlj i hw; rw [hlf] at this; cases this) (fun k hk hw => by have := hdepL k hw; rw [hkl2 k hk] at this; cases this) (hY j hlj hkl2)
  have h0 : upL ops.size (Array.replicate ops.size false) = [] := by
    unfold upL
    rw [List.filter_eq_nil_iff]
    intro j hj
    have := List.mem_range.1 hj
    simp [this]
  have hm0 := main ops.size (Array.replicate ops.size false) (fun _ => undef) w.drew (by simp) (fun j o ho hl => by
    exfalso
    by_cases hj : j < ops.size <;> simp [hj] at hl) (by omega) (hT0 _) (fun j hl _ => by
    exfalso
    by_cases hj : j < ops.size <;> simp [hj] at hl)
  rw [h0] at hm0
  exact wp_region_any hm hm0

/-- .. the operations one after the other -/
theorem wp_region_steps2 {id : Nat} {a : Act} {w : World} {l : List Oper} (hm : P.follows .mixedOrders = true) (N : Nat) (ds : List (Option Tmp)) (ws ns us ks : List (List Nat)) (hN : a.tmps.size = N) (hok : relOk N l.toArray ds ws ns us = true)
    (T : World → World → Prop) (hT0 : ∀ w, T w w) (hTt : ∀ x y z, T x y → T y z → T x z)
    (Y : Nat → List Value → World → Prop)
    (hstep : StepAll (fun i o => ∀ (vs : Nat → Value) (x : World), T w.drew x → (∀ j ∈ ws.getD i [], (∀ k ∈ ks.getD j [], k = i ∨ i ∈ ws.getD k []) → Y j ((us.getD j []).map vs) x) → Gives P o (actL ds vs (ns.getD i []) a) x (fun v y => T x y ∧ Y i ((us.getD i []).map (upd vs i v)) y ∧ ∀ j l, j ≠ i → i ∉ ks.getD j [] → i ∉ ws.getD j [] → (∀ k ∈ ks.getD j [], k ∉ ws.getD i []) → Y j l x → Y j l y)) 0 l)
    (hend : ∀ (vs : Nat → Value) (x : World), T w.drew x → (∀ j, j < l.length → ks.getD j [] = [] → Y j ((us.getD j []).map vs) x) → Q .normal (actL ds vs (List.range l.length) a) x) : (Code.region id l.toArray true).wp P Q a w :=
  wp_region_rel hm N ds ws ns us ks hN hok T hT0 hTt Y (fun i o ho => by have := stepAll_at l 0 hstep i o (by simpa using ho); simpa using this) (by simpa using hend)
/-- .. the operations one after the other -/
theorem wp_region_steps {id : Nat} {a : Act} {w : World} {l : List Oper} (hm : P.follows .mixedOrders = true) (N : Nat) (ds : List (Option Tmp)) (ws ns us ks : List (List Nat)) (hN : a.tmps.size = N) (hok : relOk N l.toArray ds ws ns us = true)
    (T : World → World → Prop) (hT0 : ∀ w, T w w) (hTt : ∀ x y z, T x y → T y z → T x z)
    (Y : Nat → List Value → World → Prop)
    (hstep : StepAll (fun i o => ∀ (vs : Nat → Value) (x : World), T w.drew x → (∀ j ∈ ws.getD i [], (∀ k ∈ ks.getD j [], k = i ∨ i ∈ ws.getD k []) → Y j ((us.getD j []).map vs) x) → Gives P o (actL ds vs (ns.getD i []) a) x (fun v y => T x y ∧ Y i ((us.getD i []).map (upd vs i v)) y ∧ ∀ j l, j ≠ i → i ∉ ks.getD j [] → Y j l x → Y j l y)) 0 l)
    (hend : ∀ (vs : Nat → Value) (x : World), T w.drew x → (∀ j, j < l.length → ks.getD j [] = [] → Y j ((us.getD j []).map vs) x) → Q .normal (actL ds vs (List.range l.length) a) x) : (Code.region id l.toArray true).wp P Q a w :=
  wp_region_steps2 hm N ds ws ns us ks hN hok T hT0 hTt Y (stepAll_mono (fun i o h vs x hx hY => (h vs x hx hY).mono fun v y hr => ⟨hr.1, hr.2.1, fun j l hj hk _ _ => hr.2.2 j l hj hk⟩) l 0 hstep) hend
end

end Go.Proofs.YtaabkaiifplhgaaDoor
