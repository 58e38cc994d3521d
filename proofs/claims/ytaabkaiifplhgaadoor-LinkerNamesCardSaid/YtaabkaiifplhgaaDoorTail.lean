/- A region that draws its order and whose last operation waits for all others: the last operation is carried out behind the region. -/
import Derived.Test.YtaabkaiifplhgaaDoorGen
import Derived.Orders
import Derived.Deep.RegionHeld
namespace Go.Proofs.YtaabkaiifplhgaaDoor
set_option linter.unusedSimpArgs false
set_option linter.unusedVariables false
open Go.RowKit

/-- an operation in the place of the last one, that does nothing -/
def idle (o : Oper) : Oper := { o with op := .assign (.const (.bool true)) }

/-- every operation but the last has a later one that waits for it; nothing waits for a later one -/
def tailOk (ops : Array Oper) : Bool :=
  ((List.range (ops.size - 1)).all fun j => (List.range ops.size).any fun k => decide (j < k) && ((ops[k]?).map fun o => o.after.any fun e => Region.binds .any e && e.on == j).getD false) &&
  (List.range ops.size).all fun k => ((ops[k]?).map fun o => o.after.all fun e => decide (e.on < k)).getD false

def TailPost (P : Program) (o : Oper) (Q : Exit → Act → World → Prop) : Exit → Act → World → Prop
  | .normal, a, w => wpList P #[o] Q [o] a w
  | e, a, w => Q e a w

def Closed (ops : Array Oper) (L : Array Bool) : Prop := L.size = ops.size ∧ ∀ (j : Nat) (o : Oper), ops[j]? = some o → L.getD j false = true → ∀ e ∈ o.after, Region.binds .any e = true → L.getD e.on false = true

section
variable {P : Program} {pre : List Oper} {o : Oper} {Q : Exit → Act → World → Prop}

theorem ops_at (x : Oper) (j : Nat) (hj : j ≠ pre.length) : ((pre ++ [x]).toArray)[j]? = ((pre ++ [o]).toArray)[j]? := by
  simp only [List.getElem?_toArray]
  rcases Nat.lt_or_ge j pre.length with h | h
  · rw [List.getElem?_append_left h, List.getElem?_append_left h]
  · rw [List.getElem?_eq_none (by simp; omega), List.getElem?_eq_none (by simp; omega)]
theorem ops_last (x : Oper) : ((pre ++ [x]).toArray)[pre.length]? = some x := by simp

theorem yielded_tail (hd : o.dst = none) (t : Array Value) : yielded (pre ++ [idle o]).toArray t = yielded (pre ++ [o]).toArray t := by
  funext j
  unfold yielded
  by_cases hj : j = pre.length
  · subst hj; rw [ops_last, ops_last]; simp [hd, idle]
  · rw [ops_at (o := o) (idle o) j hj]

theorem ready_tail (L : Array Bool) (j : Nat) : j ∈ Region.ready .any (pre ++ [idle o]).toArray L ↔ j ∈ Region.ready .any (pre ++ [o]).toArray L := by
  rw [mem_ready, mem_ready]
  by_cases hj : j = pre.length
  · subst hj; rw [ops_last, ops_last]; simp [idle]
  · rw [ops_at (o := o) (idle o) j hj]

theorem tail_before (h : tailOk (pre ++ [o]).toArray = true) {L : Array Bool} (hc : Closed (pre ++ [o]).toArray L) (hr : pre.length ∈ Region.ready .any (pre ++ [o]).toArray L) :
    ∀ (n j : Nat), j < pre.length → pre.length - j ≤ n → L.getD j false = true := by
  intro n
  induction n with
  | zero => intro j hj hn; omega
  | succ n ih =>
    intro j hj hn
    simp only [tailOk, Bool.and_eq_true] at h
    have h1 := List.all_eq_true.1 h.1 j (by simp; omega)
    obtain ⟨k, hk, h2⟩ := List.any_eq_true.1 h1
    simp only [Bool.and_eq_true, decide_eq_true_eq] at h2
    obtain ⟨hjk, h3⟩ := h2
    have hk' : k < pre.length + 1 := by simpa using hk
    cases ho : ((pre ++ [o]).toArray)[k]? with
    | none => rw [ho] at h3; simp at h3
    | some ok =>
      rw [ho] at h3
      simp only [Option.map_some, Option.getD_some, Array.any_eq_true'] at h3
      obtain ⟨e, he, hb⟩ := h3
      simp only [Bool.and_eq_true, beq_iff_eq] at hb
      obtain ⟨hb1, rfl⟩ := hb
      by_cases hkd : k = pre.length
      · subst hkd
        obtain ⟨_, ox, hox, hall⟩ := mem_ready.1 hr
        rw [ho] at hox
        cases hox
        exact hall e he hb1
      · exact hc.2 k ok ho (ih k (by omega) (by omega)) e he hb1

theorem ready_some (h : tailOk (pre ++ [o]).toArray = true) {L : Array Bool} (hs : L.size = (pre ++ [o]).toArray.size) (hd : L.getD pre.length true = false) : Region.ready .any (pre ++ [o]).toArray L ≠ [] := by
  have key : ∀ (n : Nat), n ≤ pre.length + 1 → (∃ j, j ∈ Region.ready .any (pre ++ [o]).toArray L) ∨ ∀ j, j < n → L.getD j false = true := by
    intro n
    induction n with
    | zero => intro _; exact .inr fun j hj => by omega
    | succ n ih =>
      intro hn
      rcases ih (by omega) with h1 | h1
      · exact .inl h1
      · by_cases hl : L.getD n true = false
        · refine .inl ⟨n, mem_ready.2 ⟨hl, _, Array.getElem?_eq_getElem (by simp; omega), fun e he _ => ?_⟩⟩
          simp only [tailOk, Bool.and_eq_true] at h
          have h2 := List.all_eq_true.1 h.2 n (by simp; omega)
          rw [Array.getElem?_eq_getElem (by simp; omega)] at h2
          simp only [Option.map_some, Option.getD_some, Array.all_eq_true'] at h2
          exact h1 _ (by simpa using h2 e he)
        · refine .inr fun j hj => ?_
          rcases Nat.lt_or_ge j n with h2 | h2
          · exact h1 j h2
          · obtain rfl : j = n := by omega
            have hlt : j < L.size := by rw [hs]; simp; omega
            simpa [hlt] using hl
  rcases key (pre.length + 1) (Nat.le_refl _) with ⟨j, hj⟩ | h1
  · intro e; rw [e] at hj; cases hj
  · have hlt : pre.length < L.size := by rw [hs]; simp
    have := h1 pre.length (by omega)
    simp [hlt] at hd this
    rw [this] at hd; cases hd

theorem Closed.set {L : Array Bool} {i : Nat} (hc : Closed (pre ++ [o]).toArray L) (hr : i ∈ Region.ready .any (pre ++ [o]).toArray L) : Closed (pre ++ [o]).toArray (L.setIfInBounds i true) := by
  refine ⟨by simpa using hc.1, fun j oj hj hl e he hb => ?_⟩
  by_cases hij : i = j
  · subst hij
    obtain ⟨_, ox, hox, hall⟩ := mem_ready.1 hr
    rw [hj] at hox; cases hox
    exact getD_set_true (hall e he hb)
  · rw [getD_set_ne false hij] at hl
    exact getD_set_true (hc.2 j oj hj hl e he hb)

theorem wpOp_other {i : Nat} {K K' : Act → World → Prop} {a : Act} {w : World} (hd : o.dst = none) (hi : i ≠ pre.length) (hK : ∀ a w, K' a w → K a w)
    (h : wpOp P (pre ++ [idle o]).toArray (TailPost P o Q) i K' a w) : wpOp P (pre ++ [o]).toArray Q i K a w := by
  have h := wpOp_mono hK h
  unfold wpOp at *
  rw [ops_at (o := o) (idle o) i hi] at h
  rw [yielded_tail hd] at h
  split
  · rename_i ho; simpa [ho] using h
  · rename_i oi ho
    simp only [ho] at h
    split
    · rename_i hw
      simp only [hw, if_true] at h
      rcases h with h | ⟨hasks, a1, w1, hlets⟩
      · refine .inl ?_
        unfold Oper.wp at *
        generalize (execOp a.eval oi).run P w = r at *
        cases r with
        | ok n w' =>
          cases n <;> simp only [Oper.upon] at h ⊢ <;>
            first
              | exact h
              | exact Calls.mono h (fun e w'' he => by cases e <;> exact he)
              | exact Rows.mono h (fun _ _ he => he)
        | halt x w' => cases x <;> simp only [Oper.upon] at h ⊢ <;> exact h
      · exact .inr ⟨hasks, a1, w1, hlets⟩
    · rename_i hw; simp only [hw] at h; exact h

theorem wpAny_tail (hd : o.dst = none) (hg : o.guard = none) (hok : tailOk (pre ++ [o]).toArray = true) : ∀ (fuel : Nat) (L : Array Bool) (a : Act) (w : World), Closed (pre ++ [o]).toArray L → L.getD pre.length true = false →
    wpAny P .any (pre ++ [idle o]).toArray (TailPost P o Q) fuel L a w → wpAny P .any (pre ++ [o]).toArray Q fuel L a w := by
  intro fuel
  induction fuel with
  | zero =>
    intro L a w hc hl h
    exfalso
    refine ready_some hok hc.1 hl ?_
    refine List.eq_nil_iff_forall_not_mem.2 fun j hj => ?_
    have := (ready_tail (o := o) L j).2 hj
    rw [h.1] at this; cases this
  | succ fuel ih =>
    intro L a w hc hl h
    refine ⟨fun e => (ready_some hok hc.1 hl e).elim, fun i hi => ?_⟩
    have h1 := h.2 i ((ready_tail L i).2 hi)
    by_cases hid : i = pre.length
    · subst hid
      have hall := tail_before hok hc hi
      have hnone : ∀ j, j ∉ Region.ready .any (pre ++ [o]).toArray (L.setIfInBounds pre.length true) := fun j hj => by
        obtain ⟨h2, ox, hox, _⟩ := mem_ready.1 hj
        have hjlt : j < pre.length + 1 := by
          have := (Array.getElem?_eq_some_iff.1 hox).1
          simpa using this
        by_cases hjd : pre.length = j
        · subst hjd
          have hlt : pre.length < L.size := by rw [hc.1]; simp
          simp [hlt] at h2
        · rw [getD_set_ne true hjd] at h2
          have h3 := hall pre.length j (by omega) (by omega)
          have hlt : j < L.size := by rw [hc.1]; simp; omega
          simp [hlt] at h2 h3
          rw [h3] at h2; cases h2
      have hnil : Region.ready .any (pre ++ [o]).toArray (L.setIfInBounds pre.length true) = [] := List.eq_nil_iff_forall_not_mem.2 hnone
      have hnil' : Region.ready .any (pre ++ [idle o]).toArray (L.setIfInBounds pre.length true) = [] := List.eq_nil_iff_forall_not_mem.2 fun j hj => hnone j ((ready_tail _ j).1 hj)
      unfold wpOp at h1
      rw [ops_last] at h1
      have hw1 : Region.wanted (idle o) (yielded (pre ++ [idle o]).toArray a.tmps) = true := by simp [Region.wanted, idle, hg]
      simp only [hw1, if_true] at h1
      have h4 : TailPost P o Q .normal a w := by
        rcases h1 with h1 | ⟨hasks, _⟩
        · have h5 : wpAny P .any (pre ++ [idle o]).toArray (TailPost P o Q) fuel (L.setIfInBounds pre.length true) a w := by
            generalize wpAny P .any (pre ++ [idle o]).toArray (TailPost P o Q) fuel (L.setIfInBounds pre.length true) = K at h1 ⊢
            unfold Oper.wp at h1
            simp only [idle, execOp, hd] at h1
            simpa [Act.put, Oper.upon] using h1
          cases fuel with
          | zero => exact h5.2
          | succ f => exact h5.1 hnil'
        · exfalso
          unfold Oper.asks at hasks
          have h6 : (Sem.runT P (execOp a.eval (idle o)) w #[]).snd = #[] := rfl
          rw [h6] at hasks
          simp at hasks
      show wpOp P (pre ++ [o]).toArray Q pre.length _ a w
      unfold wpOp
      rw [ops_last]
      have hw2 : Region.wanted o (yielded (pre ++ [o]).toArray a.tmps) = true := by simp [Region.wanted, hg]
      have hw3 : Region.wanted o (yielded #[o] a.tmps) = true := by simp [Region.wanted, hg]
      simp only [TailPost, wpList, hw3, if_true] at h4
      simp only [hw2, if_true]
      exact h4.imp (Oper.wp_mono fun a w hq => wpAny_done hnil hq fuel) id
    · refine wpOp_other hd hid (fun a w h2 => ih _ a w (hc.set hi) ?_ h2) h1
      rw [getD_set_ne true hid]; exact hl

/-- the law -/
theorem wp_region_tail {id : Nat} {ops : Array Oper} {a : Act} {w : World} (n : Nat) (o : Oper) (hm : P.follows .mixedOrders = true) (hsz : ops.size = n + 1) (ho : ops[n]? = some o) (hd : o.dst = none) (hg : o.guard = none) (hok : tailOk ops = true)
    (S : World → Prop) (hS : S w.drew) (h : S w.drew → wpAnyH P .any (ops.setIfInBounds n (idle o)) (TailPost P o Q) S (n + 1) (Array.replicate (n + 1) false) a w.drew) : (Code.region id ops true).wp P Q a w := by
  have hl : ops = (ops.toList.take n ++ [o]).toArray := by
    apply Array.toList_inj.1
    have h1 := List.take_succ_eq_append_getElem (l := ops.toList) (i := n) (by simp; omega)
    rw [List.take_of_length_le (by simp; omega)] at h1
    have h2 : ops.toList[n]'(by simp; omega) = o := by
      rw [Array.getElem?_eq_getElem (by omega)] at ho
      simpa using ho
    rw [h2] at h1
    exact h1
  have hlen : (ops.toList.take n).length = n := by simp; omega
  have hset : ops.setIfInBounds n (idle o) = (ops.toList.take n ++ [idle o]).toArray := by
    apply Array.toList_inj.1
    rw [Array.toList_setIfInBounds]
    have h1 := congrArg Array.toList hl
    simp only at h1
    rw [h1, List.set_append_right _ _ (by omega), hlen]
    simp [hlen]
  have hh := wpAny_of_held _ _ _ _ (h hS)
  clear h
  rw [hset] at hh
  generalize ops.toList.take n = pre at *
  subst hl
  subst hlen
  refine wp_region_any hm (wpAny_tail hd hg hok _ _ a _ ⟨by simp, fun j oj _ hl => ?_⟩ ?_ (by simpa using hh))
  · exfalso
    by_cases hj : j < pre.length + 1 <;> simp [hj] at hl
  · simp
end

end Go.Proofs.YtaabkaiifplhgaaDoor
