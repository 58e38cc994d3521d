/- JournalRuns: what a program of operations comes to, in plain Lean. -/
import Derived.Test.YtlcbfjcfkknmgaaTree
namespace Go.Proofs.Ytlcbfjcfkknmgaa
open Go.RowKit

/-- the journal's numbers, the log, the results -/
structure MS where
  ms : List Int
  log : List Int
  out : List Int

/-- the journal cut to n, with the log of what was undone -/
def MS.cut (s : MS) (n : Nat) : MS := ⟨s.ms.take n, s.log ++ (s.ms.drop n).reverse, s.out⟩
def MS.forget (s : MS) (n : Nat) : MS := ⟨s.ms.take n, s.log, s.out⟩
def MS.say (s : MS) (x : Int) : MS := ⟨s.ms, s.log, s.out ++ [x]⟩
def MS.push (s : MS) (x : Int) : MS := ⟨s.ms ++ [x], s.log, s.out⟩

/-- a transaction -/
def mtry (s : MS) (r : MS × Option Int) : MS :=
  match r.2 with
  | none => r.1.say 0
  | some e => (r.1.cut s.ms.length).say e

def mstep (rec : Value → MS → MS × Option Int) (o : Op3) (s : MS) : MS × Option Int :=
  if o.kind = 1 then (s.push o.n, none)
  else if o.kind = 6 then (s.push (wrap64 (-1000000 - o.n)), none)
  else if o.kind = 2 then (if o.n < 0 ∨ (s.ms.length : Int) < o.n then s.say 2 else (s.cut o.n.toNat).say 0, none)
  else if o.kind = 3 then (if o.n < 0 ∨ (s.ms.length : Int) < o.n then s.say 2 else (s.forget o.n.toNat).say 0, none)
  else if o.kind = 4 then (s, some (wantE o.n))
  else if o.kind = 5 then (mtry s (rec o.kv s), none)
  else (s, none)

def mlist (rec : Value → MS → MS × Option Int) : List Op3 → MS → MS × Option Int
  | [], s => (s, none)
  | o :: l, s => match mstep rec o s with
    | (t, none) => mlist rec l t
    | (t, some e) => (t, some e)

noncomputable def mrun (W : World) : Nat → Value → MS → MS × Option Int
  | 0, _, s => (s, none)
  | f + 1, v, s => mlist (mrun W f) (ops W v) s

theorem mlist_append (rec : Value → MS → MS × Option Int) : ∀ (l m : List Op3) (s t : MS), mlist rec l s = (t, none) → mlist rec (l ++ m) s = mlist rec m t
  | [], m, s, t, h => by simp [mlist] at h; subst h; rfl
  | o :: l, m, s, t, h => by
    simp only [mlist, List.cons_append] at h ⊢
    split at h
    · rename_i u hu
      exact mlist_append rec l m u t h
    · simp at h

theorem mlist_snoc (rec : Value → MS → MS × Option Int) (l : List Op3) (k : Nat) (hk : k < l.length) (s t : MS) (h : mlist rec (l.take k) s = (t, none)) : mlist rec (l.take (k + 1)) s = mstep rec l[k] t := by
  rw [List.take_succ_eq_append_getElem hk, mlist_append rec _ _ s t h]
  simp only [mlist]
  split
  · rename_i u hu; rw [hu]
  · rename_i u e hu; rw [hu]

theorem mlist_fail (rec : Value → MS → MS × Option Int) (l : List Op3) (k : Nat) (hk : k < l.length) (s t u : MS) (e : Int) (h : mlist rec (l.take k) s = (t, none)) (h2 : mstep rec l[k] t = (u, some e)) : mlist rec l s = (u, some e) := by
  have hl : l = l.take k ++ (l[k] :: l.drop (k + 1)) := by rw [List.getElem_cons_drop, List.take_append_drop]
  rw [hl, mlist_append rec _ _ s t h]
  simp only [mlist]
  simp only [h2]

/-- how much there is at most -/
theorem mstep_size (rec : Value → MS → MS × Option Int) (o : Op3) (s : MS) (c : Nat) (hr : (rec o.kv s).1.ms.length + (rec o.kv s).1.log.length ≤ s.ms.length + s.log.length + c ∧ (rec o.kv s).1.out.length ≤ s.out.length + c) :
    (mstep rec o s).1.ms.length + (mstep rec o s).1.log.length ≤ s.ms.length + s.log.length + 1 + c ∧ (mstep rec o s).1.out.length ≤ s.out.length + 1 + c := by
  unfold mstep mtry
  repeat' split
  all_goals simp [MS.say, MS.push, MS.cut, MS.forget]
  all_goals omega

theorem mlist_size (W : World) (f : Nat) (ih : ∀ v s, (mrun W f v s).1.ms.length + (mrun W f v s).1.log.length ≤ s.ms.length + s.log.length + cnt W f v ∧ (mrun W f v s).1.out.length ≤ s.out.length + cnt W f v) :
    ∀ (l : List Op3) (s : MS), (mlist (mrun W f) l s).1.ms.length + (mlist (mrun W f) l s).1.log.length ≤ s.ms.length + s.log.length + (l.map fun o => 1 + cnt W f o.kv).sum ∧ (mlist (mrun W f) l s).1.out.length ≤ s.out.length + (l.map fun o => 1 + cnt W f o.kv).sum
  | [], s => by simp [mlist]
  | o :: l, s => by
    have h1 := mstep_size (mrun W f) o s (cnt W f o.kv) (ih o.kv s)
    simp only [mlist, List.map_cons, List.sum_cons]
    split
    · rename_i t ht
      rw [ht] at h1
      have h2 := mlist_size W f ih l t
      simp only at h1
      omega
    · rename_i t e ht
      rw [ht] at h1
      simp only at h1 ⊢
      omega

theorem mrun_size (W : World) : ∀ (f : Nat) (v : Value) (s : MS), (mrun W f v s).1.ms.length + (mrun W f v s).1.log.length ≤ s.ms.length + s.log.length + cnt W f v ∧ (mrun W f v s).1.out.length ≤ s.out.length + cnt W f v := by
  intro f
  induction f with
  | zero => intro v s; simp [mrun, cnt]
  | succ f ih => intro v s; exact mlist_size W f ih (ops W v) s

end Go.Proofs.Ytlcbfjcfkknmgaa
