/- JournalRuns: a runner's recorded functions, and the undoing of them. -/
import Derived.Test.YtlcbfjcfkknmgaaRun2
import Derived.Test.YtlcbfjcfkknmgaaMdl
namespace Go.Proofs.Ytlcbfjcfkknmgaa
open Go.RowKit

/-- f is a recorded function that logs m -/
def FnAt (el : List (Nat × Obj)) (R : Nat) (f : Value) (m : Int) : Prop :=
  ∃ rb ob kd n kv, (rb, Obj.cells #[.pointer (some ⟨R, 0, none⟩)] 45 (0, 0)) ∈ el ∧ (ob, Obj.cells #[kd, .int .i64 n, kv] 55 (0, 0)) ∈ el ∧
    ((f = .func (.func 52) #[] #[.pointer (some ⟨rb, 0, none⟩), .pointer (some ⟨ob, 0, none⟩)] ∧ m = n) ∨ (f = .func (.func 53) #[] #[.pointer (some ⟨rb, 0, none⟩), .pointer (some ⟨ob, 0, none⟩)] ∧ m = wrap64 (-1000000 - n)))

def Fns (el : List (Nat × Obj)) (R : Nat) (ms : List Int) (fs : List Value) : Prop := fs.length = ms.length ∧ ∀ (j : Nat) (f : Value) (m : Int), fs[j]? = some f → ms[j]? = some m → FnAt el R f m

section
variable {el el2 : List (Nat × Obj)} {R : Nat} {ms : List Int} {fs : List Value} {f : Value} {m : Int}
theorem Fns.more (h : Fns el R ms fs) (hs : ∀ p ∈ el, p ∈ el2) : Fns el2 R ms fs := ⟨h.1, fun j f m hf hm => by
  obtain ⟨rb, ob, kd, n, kv, e1, e2, e⟩ := h.2 j f m hf hm
  exact ⟨rb, ob, kd, n, kv, hs _ e1, hs _ e2, e⟩⟩
theorem Fns.take (h : Fns el R ms fs) (k : Nat) : Fns el R (ms.take k) (fs.take k) := ⟨by simp [h.1], fun j f m hf hm => by
  rw [List.getElem?_take] at hf hm
  split at hf
  · rename_i hj
    rw [if_pos hj] at hm
    exact h.2 j f m hf hm
  · simp at hf⟩
theorem Fns.push (h : Fns el R ms fs) (hn : FnAt el R f m) : Fns el R (ms ++ [m]) (fs ++ [f]) := ⟨by simp [h.1], fun j f' m' hf hm => by
  have hl := h.1
  rcases Nat.lt_trichotomy j fs.length with hj | hj | hj
  · rw [List.getElem?_append_left hj] at hf
    rw [List.getElem?_append_left (by omega)] at hm
    exact h.2 j f' m' hf hm
  · subst hj
    simp at hf
    rw [hl] at hm
    simp at hm
    subst hf; subst hm
    exact hn
  · rw [List.getElem?_eq_none (by simp; omega)] at hf; simp at hf⟩
theorem Fns.nil : Fns el R [] [] := ⟨rfl, fun j f m hf _ => by simp at hf⟩
end

theorem ent52 (c : Array Value) (w : World) : (callFunc 52 c).run Try.prog w = .ok (.enter 52 c) w := by simp [go_sem]
theorem ent53 (c : Array Value) (w : World) : (callFunc 53 c).run Try.prog w = .ok (.enter 53 c) w := by simp [go_sem]
theorem ent55 (c : Array Value) (w : World) : (callFunc 55 c).run Try.prog w = .ok (.enter 55 c) w := by simp [go_sem]
theorem ent32 (c : Array Value) (w : World) : (callFunc 32 c).run Try.prog w = .ok (.enter 32 c) w := by simp [go_sem]

/-- the runner's memory while functions are undone -/
def RunV (P : Value → Prop) (J R : Nat) (W : World) (ms log out : List Int) (el : List (Nat × Obj)) (fs : List Value) (w : World) : Prop :=
  fs.length ≤ ms.length ∧ Fns el R (ms.take fs.length) fs ∧ RnE P J R W (log ++ (ms.drop fs.length).reverse) out el w

theorem undoes_run (P : Value → Prop) (J R : Nat) (W : World) (ms log out : List Int) (el : List (Nat × Obj)) (hR : W.heap.size ≤ R) (hlen : ms.length + log.length ≤ 100000) : Undoes J (RunV P J R W ms log out el) := by
  intro fs f w O h
  obtain ⟨hl, hfns, -⟩ := h.user
  have hl' : fs.length < ms.length := by simp at hl; omega
  obtain ⟨rb, ob, kd, n, kv, e1, e2, e⟩ := hfns.2 fs.length f ms[fs.length] (by simp) (by rw [List.getElem?_take, if_pos (by simp)]; simp [hl'])
  have hd : ms.drop fs.length = ms[fs.length] :: ms.drop (fs.length + 1) := (List.getElem_cons_drop hl').symm
  have hst : St J (RnE P J R W (log ++ (ms.drop (fs.length + 1)).reverse) out el) w O fs true w := h.imp fun w hw => by have := hw.2.2; simpa using this
  have hll : (log ++ (ms.drop (fs.length + 1)).reverse).length ≤ 100000 := by simp; omega
  have hft : Fns el R (ms.take fs.length) fs := by
    have := hfns.take fs.length
    rw [List.take_take] at this
    simpa using this
  have hrv : log ++ (ms.drop fs.length).reverse = log ++ (ms.drop (fs.length + 1)).reverse ++ [ms[fs.length]] := by
    rw [hd, List.reverse_cons, List.append_assoc]
  have hfin : ∀ w', St J (RnE P J R W (log ++ (ms.drop (fs.length + 1)).reverse ++ [ms[fs.length]]) out el) w O fs true w' → St J (RunV P J R W ms log out el fs) w O fs true w' := fun w' h' => h'.imp fun w hw => ⟨by omega, hft, by rw [hrv]; exact hw⟩
  rcases e with ⟨rfl, hm⟩ | ⟨rfl, hm⟩
  · refine ⟨52, _, rfl, ent52 _, (undo_52 P J R rb ob W w w kd kv n _ out el O fs true hR hll e1 e2 hst).mono ?_⟩
    rintro e w' ⟨rfl, h'⟩
    rw [← hm] at h'
    exact ⟨rfl, hfin w' h'⟩
  · refine ⟨53, _, rfl, ent53 _, (undo_53 P J R rb ob W w w kd kv n _ out el O fs hR hll e1 e2 hst).mono ?_⟩
    rintro e w' ⟨rfl, h'⟩
    rw [← hm] at h'
    exact ⟨rfl, hfin w' h'⟩

/-- new blocks that stay as they are -/
theorem RnE.ex1 {P : Value → Prop} {J R N : Nat} {W w : World} {log out : List Int} {el : List (Nat × Obj)} {o : Obj} (h : RnE P J R W log out el w) (hN : w.heap[N]? = some o) (hne : N ≠ R) (hnl : ∀ lv ov, Rn J R W lv ov log out el w → lv.ownBlock ≠ some N ∧ ov.ownBlock ≠ some N) : RnE P J R W log out ((N, o) :: el) w := by
  obtain ⟨lv, ov, hp, hn⟩ := h
  refine ⟨lv, ov, hp, hn.old, hn.r, hn.lr, hn.our, hn.n1, hn.n2, hn.n3, fun p hp => ?_⟩
  rcases List.mem_cons.1 hp with rfl | hp
  · exact ⟨hN, hne, hnl lv ov hn⟩
  · exact hn.ex p hp

theorem St.rex {P : Value → Prop} {J R : Nat} {W w0 w : World} {log out : List Int} {el : List (Nat × Obj)} {O0 : Nat → Prop} {fs : List Value} {run : Bool} (h : St J (RnE P J R W log out el) w0 O0 fs run w) (o : Obj) :
    St J (RnE P J R W log out ((w.heap.size, o) :: el)) w0 O0 fs run (w.alloc o) := by
  obtain ⟨s, Uo, hq, hf, hd, hm, hs⟩ := h
  have ha : Mv (fun _ => False) w (w.alloc o) := (Mv.refl _ _).alloc o
  have hf' := hf.keep ha (fun _ _ h => h)
  obtain ⟨lv, ov, hp, hn⟩ := hf.now
  have hrn := (hf.rnAt hn).keep ha (fun _ _ h => h)
  refine ⟨s, fun b => Uo b ∨ b = w.heap.size, hq.keep ha (fun _ _ h => h), ⟨?_, fun w2 h2 => ?_⟩, ?_, hm.alloc o, ?_⟩
  · rintro b (hb | rfl)
    · exact hf'.1 b hb
    · simp
  · have hn2 := hrn.2 w2 fun b hb => h2 b (.inl hb)
    refine ⟨lv, ov, hp, hn2.old, hn2.r, hn2.lr, hn2.our, hn2.n1, hn2.n2, hn2.n3, fun p hp => ?_⟩
    rcases List.mem_cons.1 hp with rfl | hp
    · refine ⟨?_, ?_, ?_, ?_⟩
      · rw [h2 _ (.inr rfl)]; exact heap_alloc_new w o
      · have := lt_of_block hn.r; show w.heap.size ≠ R; omega
      · intro e; have := (hn.lr.lt _ e).2; simp at this
      · intro e; have := (hn.our.lt _ e).2; simp at this
    · exact hn2.ex p hp
  · rintro b hj (hb | rfl)
    · exact hd b hj hb
    · have := hq.lt _ hj; omega
  · rintro b (hj | hb | rfl)
    · exact hs b (.inl hj)
    · exact hs b (.inr hb)
    · exact .inr hm.size

/-- the results' slice is given its name -/
theorem St.named {P : Value → Prop} {J R : Nat} {W w0 w : World} {log out : List Int} {el : List (Nat × Obj)} {O0 : Nat → Prop} {fs : List Value} {run : Bool} (h : St J (RnE P J R W log out el) w0 O0 fs run w) :
    ∃ lv ov, P ov ∧ Rn J R W lv ov log out el w ∧ St J (RnE (fun v => v = ov) J R W log out el) w0 O0 fs run w := by
  obtain ⟨s, Uo, hq, hf, hd, hm, hs⟩ := h
  obtain ⟨lv, ov, hp, hf'⟩ := hf.rnE
  exact ⟨lv, ov, hp, hf'.now, s, Uo, hq, hf'.imp fun w hw => ⟨lv, ov, rfl, hw⟩, hd, hm, hs⟩
theorem St.unnamed {P : Value → Prop} {J R : Nat} {W w0 w : World} {log out : List Int} {el : List (Nat × Obj)} {O0 : Nat → Prop} {fs : List Value} {run : Bool} (h : St J (RnE P J R W log out el) w0 O0 fs run w) :
    St J (RnE NoP J R W log out el) w0 O0 fs run w := h.imp fun w hw => by
  obtain ⟨lv, ov, _, hn⟩ := hw
  exact ⟨lv, ov, True.intro, hn⟩

/-- blocks are let go -/
theorem RnE.less {P : Value → Prop} {J R : Nat} {W w : World} {log out : List Int} {el el2 : List (Nat × Obj)} (h : RnE P J R W log out el2 w) (hs : ∀ p ∈ el, p ∈ el2) : RnE P J R W log out el w := by
  obtain ⟨lv, ov, hp, hn⟩ := h
  exact ⟨lv, ov, hp, hn.old, hn.r, hn.lr, hn.our, hn.n1, hn.n2, hn.n3, fun p hp => hn.ex p (hs p hp)⟩

end Go.Proofs.Ytlcbfjcfkknmgaa
