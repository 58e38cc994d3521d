/- JournalRuns: the runner's memory and its undo functions. -/
import Derived.Test.YtlcbfjcfkknmgaaWAtomic
import Derived.Test.YtlcbfjcfkknmgaaApp
import Derived.Deep.AppendLies
namespace Go.Proofs.Ytlcbfjcfkknmgaa
open Go.RowKit

attribute [local go_sem ↓] run_appOp

theorem r_cell {w : World} {R : Nat} {a b c : Value} (h : w.heap[R]? = some (.cells #[a, b, c] 47 (0, 0))) : w.cell? ⟨R, 0, none⟩ = some a ∧ w.cell? ⟨R, 1, none⟩ = some b ∧ w.cell? ⟨R, 2, none⟩ = some c := by simp [World.cell?, h]
theorem o_cell1 {w : World} {b : Nat} {x y z : Value} (h : w.heap[b]? = some (.cells #[x, y, z] 55 (0, 0))) : w.cell? ⟨b, 1, none⟩ = some y := by simp [World.cell?, h]
theorem r_set1 {w : World} {R : Nat} {a b c u : Value} (h : w.heap[R]? = some (.cells #[a, b, c] 47 (0, 0))) : (w.setCell ⟨R, 1, none⟩ u).heap[R]? = some (.cells #[a, u, c] 47 (0, 0)) := by
  have := block_setCell (p := ⟨R, 1, none⟩) h rfl u
  simpa using this
theorem r_set2 {w : World} {R : Nat} {a b c u : Value} (h : w.heap[R]? = some (.cells #[a, b, c] 47 (0, 0))) : (w.setCell ⟨R, 2, none⟩ u).heap[R]? = some (.cells #[a, b, u] 47 (0, 0)) := by
  have := block_setCell (p := ⟨R, 2, none⟩) h rfl u
  simpa using this

/-- the runner: its journal, its log, its results; blocks that stay as they are -/
structure Rn (J R : Nat) (W : World) (lv ov : Value) (log out : List Int) (el : List (Nat × Obj)) (w : World) : Prop where
  old : Old W w
  r : w.heap[R]? = some (.cells #[.pointer (some ⟨J, 0, none⟩), lv, ov] 47 (0, 0))
  lr : w.ownsRow W.heap.size 3 1 lv log.length (log.map (Value.int .i64))
  our : w.ownsRow W.heap.size 3 1 ov out.length (out.map (Value.int .i64))
  n1 : lv.ownBlock ≠ some R
  n2 : ov.ownBlock ≠ some R
  n3 : ∀ g, lv.ownBlock = some g → ov.ownBlock ≠ some g
  ex : ∀ p ∈ el, w.heap[p.1]? = some p.2 ∧ p.1 ≠ R ∧ lv.ownBlock ≠ some p.1 ∧ ov.ownBlock ≠ some p.1

def NoP (_ : Value) : Prop := True
/-- .. with something known of the results' slice -/
def RnE (P : Value → Prop) (J R : Nat) (W : World) (log out : List Int) (el : List (Nat × Obj)) (w : World) : Prop := ∃ lv ov, P ov ∧ Rn J R W lv ov log out el w

section
variable {P : Value → Prop} {J R : Nat} {W w : World} {lv ov : Value} {log out : List Int} {el : List (Nat × Obj)} {Uo : Nat → Prop}

theorem Fp.rnE (hf : Fp (RnE P J R W log out el) Uo w) : ∃ lv ov, P ov ∧ Fp (Rn J R W lv ov log out el) Uo w := by
  obtain ⟨lv, ov, hp, hv⟩ := hf.now
  have hL : Uo R := hf.mem (lt_of_block hv.r) (.cells #[] 47 (0, 0)) (fun w' hw ⟨v', o', _, hv'⟩ => by rw [hv'.r] at hw; simp at hw)
  refine ⟨lv, ov, hp, hf.1, fun w' hw => ?_⟩
  obtain ⟨v', o', _, hv'⟩ := hf.2 w' hw
  have := hw R hL
  rw [hv.r, hv'.r] at this
  simp at this
  obtain ⟨rfl, rfl⟩ := this
  exact hv'

theorem Fp.rnR (hf : Fp (Rn J R W lv ov log out el) Uo w) : Uo R := hf.mem (lt_of_block hf.now.r) (.cells #[] 47 (0, 0)) (fun w' hw hv' => by rw [hv'.r] at hw; simp at hw)
theorem Fp.rnL (hf : Fp (Rn J R W lv ov log out el) Uo w) : ∀ g, lv.ownBlock = some g → Uo g := fun g hg => hf.mem (hf.now.lr.lt g hg).2 (.cells #[] 0 (0, 0)) (fun w' hw hv' => by
  rcases hv'.lr.2 with ⟨e, _⟩ | ⟨g', cap, cur, e, _, hg', _⟩
  · rw [e] at hg; simp [Value.ownBlock] at hg
  · rw [e] at hg; simp [Value.ownBlock] at hg; subst hg; rw [hw] at hg'; simp at hg')
theorem Fp.rnO (hf : Fp (Rn J R W lv ov log out el) Uo w) : ∀ g, ov.ownBlock = some g → Uo g := fun g hg => hf.mem (hf.now.our.lt g hg).2 (.cells #[] 0 (0, 0)) (fun w' hw hv' => by
  rcases hv'.our.2 with ⟨e, _⟩ | ⟨g', cap, cur, e, _, hg', _⟩
  · rw [e] at hg; simp [Value.ownBlock] at hg
  · rw [e] at hg; simp [Value.ownBlock] at hg; subst hg; rw [hw] at hg'; simp at hg')
theorem Fp.rnX (hf : Fp (Rn J R W lv ov log out el) Uo w) : ∀ p ∈ el, Uo p.1 := fun p hp => hf.mem (lt_of_block (hf.now.ex p hp).1) (match p.2 with | .cells c t z => .cells (c.push undef) t z | _ => .cells #[] 0 (0, 0)) (fun w' hw hv' => by
  have h1 := (hv'.ex p hp).1
  rw [h1] at hw
  cases h2 : p.2 <;> rw [h2] at hw <;> simp at hw)
theorem Fp.rnW (hf : Fp (Rn J R W lv ov log out el) Uo w) : ∀ b, b < W.heap.size → Uo b := fun b hb => by
  have hn := hf.now.old b hb
  have hlt : b < w.heap.size := by
    rcases Nat.lt_or_ge b w.heap.size with h | h
    · exact h
    · rw [Array.getElem?_eq_none h, Array.getElem?_eq_getElem hb] at hn; cases hn
  refine hf.mem hlt (match W.heap[b]? with | some (.cells c t z) => .cells (c.push undef) t z | _ => .cells #[] 0 (0, 0)) (fun w' hw hv' => ?_)
  have h1 := hv'.old b hb
  rw [h1, Array.getElem?_eq_getElem hb] at hw
  cases h2 : W.heap[b] <;> rw [h2] at hw <;> simp at hw
end

/-- a field of the runner is appended to -/
def AppR (R fld : Nat) (v : Value) (x : Int) (xs : List Int) (base : Nat) (w w' : World) : Prop :=
  ∃ v' w2, w' = w2.setCell ⟨R, fld, none⟩ v' ∧ w2.ownsRow base 3 1 v' (xs.length + 1) ((xs ++ [x]).map (Value.int .i64)) ∧ Mv (fun b => v.ownBlock = some b) w w2 ∧ (∀ g, v'.ownBlock = some g → v.ownBlock = some g ∨ w.heap.size ≤ g)

theorem AppR.log {P : Value → Prop} {J R : Nat} {W w w' : World} {lv ov : Value} {log out : List Int} {el : List (Nat × Obj)} {Uo : Nat → Prop} {x : Int} (hR : W.heap.size ≤ R) (hp : P ov) (hf : Fp (Rn J R W lv ov log out el) Uo w) (h : AppR R 1 lv x log W.heap.size w w') :
    Mv Uo w w' ∧ Fp (RnE P J R W (log ++ [x]) out el) (fun b => Uo b ∨ (w.heap.size ≤ b ∧ b < w'.heap.size)) w' := by
  obtain ⟨v', w2, rfl, hown, hmv2, hnew⟩ := h
  have hn := hf.now
  have hRlt := lt_of_block hn.r
  have hU : Uo R := hf.rnR
  have hmv : Mv Uo w (w2.setCell ⟨R, 1, none⟩ v') := (hmv2.mono (fun b hb => .inl (hf.rnL b hb))).setCell (.inl hU) _
  have hk2 : ∀ {b : Nat} {ob : Obj}, w.heap[b]? = some ob → lv.ownBlock ≠ some b → w2.heap[b]? = some ob := fun {b ob} hb hne => by rw [hmv2.block b (lt_of_block hb) hne]; exact hb
  have hvR : v'.ownBlock ≠ some R := fun e => by
    rcases hnew R e with h1 | h1
    · exact hn.n1 h1
    · omega
  refine ⟨hmv, ?_, fun w3 h3 => ⟨v', ov, hp, ?_⟩⟩
  · rintro b (hb | hb)
    · have := hf.1 b hb; have := hmv2.size; simp; omega
    · exact hb.2
  have hk3 : ∀ {b : Nat} {ob : Obj}, w.heap[b]? = some ob → Uo b → lv.ownBlock ≠ some b → b ≠ R → w3.heap[b]? = some ob := fun {b ob} hb hu hne hbR => by
    rw [h3 b (.inl hu), Below.heap_setCell _ _ _ _ hbR]; exact hk2 hb hne
  have hr3 : w3.heap[R]? = some (.cells #[.pointer (some ⟨J, 0, none⟩), v', ov] 47 (0, 0)) := by
    rw [h3 R (.inl hU)]; exact r_set1 (hk2 hn.r hn.n1)
  have hv3 : w3.ownsRow W.heap.size 3 1 v' (log ++ [x]).length ((log ++ [x]).map (Value.int .i64)) := by
    rw [List.length_append, List.length_singleton]
    refine row_other hown fun g hg => ?_
    have hgl := (hown.lt g hg).2
    have hgU : Uo g ∨ (w.heap.size ≤ g ∧ g < (w2.setCell ⟨R, 1, none⟩ v').heap.size) := by
      rcases hnew g hg with h1 | h1
      · exact .inl (hf.rnL g h1)
      · exact .inr ⟨h1, by simpa using hgl⟩
    rw [h3 g hgU, Below.heap_setCell _ _ _ _ (fun e => hvR (by rw [hg, e]))]
  have ho3 : w3.ownsRow W.heap.size 3 1 ov out.length (out.map (Value.int .i64)) := by
    refine row_other hn.our fun g hg => ?_
    have hne : lv.ownBlock ≠ some g := fun e => hn.n3 g e hg
    have hgR : g ≠ R := fun e => hn.n2 (by rw [hg, e])
    rw [h3 g (.inl (hf.rnO g hg)), Below.heap_setCell _ _ _ _ hgR, hmv2.block g (hn.our.lt g hg).2 hne]
  have hex : ∀ p ∈ el, w3.heap[p.1]? = some p.2 ∧ p.1 ≠ R ∧ lv.ownBlock ≠ some p.1 ∧ v'.ownBlock ≠ some p.1 ∧ ov.ownBlock ≠ some p.1 := fun p hp => by
    obtain ⟨e1, e2, e3, e4⟩ := hn.ex p hp
    refine ⟨hk3 e1 (hf.rnX p hp) e3 e2, e2, e3, fun e => ?_, e4⟩
    rcases hnew p.1 e with h1 | h1
    · exact e3 h1
    · have := lt_of_block e1; omega
  have hn3 : ∀ g, v'.ownBlock = some g → ov.ownBlock ≠ some g := fun g hg e => by
    rcases hnew g hg with h1 | h1
    · exact hn.n3 g h1 e
    · have := (hn.our.lt g e).2; omega
  have hold : Old W w3 := fun b hb => by
    have hu := hf.rnW b hb
    rw [h3 b (.inl hu), Below.heap_setCell _ _ _ _ (by show b ≠ R; omega), hmv2.block b (hf.1 b hu) (fun e => by have := (hn.lr.lt b e).1; omega)]
    exact hn.old b hb
  exact ⟨hold, hr3, hv3, ho3, hvR, hn.n2, hn3, fun p hp => ⟨(hex p hp).1, (hex p hp).2.1, (hex p hp).2.2.2.1, (hex p hp).2.2.2.2⟩⟩

theorem AppR.out {J R : Nat} {W w w' : World} {lv ov : Value} {log out : List Int} {el : List (Nat × Obj)} {Uo : Nat → Prop} {x : Int} (hR : W.heap.size ≤ R) (hf : Fp (Rn J R W lv ov log out el) Uo w) (h : AppR R 2 ov x out W.heap.size w w') :
    Mv Uo w w' ∧ Fp (RnE NoP J R W log (out ++ [x]) el) (fun b => Uo b ∨ (w.heap.size ≤ b ∧ b < w'.heap.size)) w' := by
  obtain ⟨v', w2, rfl, hown, hmv2, hnew⟩ := h
  have hn := hf.now
  have hRlt := lt_of_block hn.r
  have hU : Uo R := hf.rnR
  have hmv : Mv Uo w (w2.setCell ⟨R, 2, none⟩ v') := (hmv2.mono (fun b hb => .inl (hf.rnO b hb))).setCell (.inl hU) _
  have hk2 : ∀ {b : Nat} {ob : Obj}, w.heap[b]? = some ob → ov.ownBlock ≠ some b → w2.heap[b]? = some ob := fun {b ob} hb hne => by rw [hmv2.block b (lt_of_block hb) hne]; exact hb
  have hvR : v'.ownBlock ≠ some R := fun e => by
    rcases hnew R e with h1 | h1
    · exact hn.n2 h1
    · omega
  refine ⟨hmv, ?_, fun w3 h3 => ⟨lv, v', True.intro, ?_⟩⟩
  · rintro b (hb | hb)
    · have := hf.1 b hb; have := hmv2.size; simp; omega
    · exact hb.2
  have hk3 : ∀ {b : Nat} {ob : Obj}, w.heap[b]? = some ob → Uo b → ov.ownBlock ≠ some b → b ≠ R → w3.heap[b]? = some ob := fun {b ob} hb hu hne hbR => by
    rw [h3 b (.inl hu), Below.heap_setCell _ _ _ _ hbR]; exact hk2 hb hne
  have hr3 : w3.heap[R]? = some (.cells #[.pointer (some ⟨J, 0, none⟩), lv, v'] 47 (0, 0)) := by
    rw [h3 R (.inl hU)]; exact r_set2 (hk2 hn.r hn.n2)
  have hv3 : w3.ownsRow W.heap.size 3 1 v' (out ++ [x]).length ((out ++ [x]).map (Value.int .i64)) := by
    rw [List.length_append, List.length_singleton]
    refine row_other hown fun g hg => ?_
    have hgl := (hown.lt g hg).2
    have hgU : Uo g ∨ (w.heap.size ≤ g ∧ g < (w2.setCell ⟨R, 2, none⟩ v').heap.size) := by
      rcases hnew g hg with h1 | h1
      · exact .inl (hf.rnO g h1)
      · exact .inr ⟨h1, by simpa using hgl⟩
    rw [h3 g hgU, Below.heap_setCell _ _ _ _ (fun e => hvR (by rw [hg, e]))]
  have ho3 : w3.ownsRow W.heap.size 3 1 lv log.length (log.map (Value.int .i64)) := by
    refine row_other hn.lr fun g hg => ?_
    have hne : ov.ownBlock ≠ some g := hn.n3 g hg
    have hgR : g ≠ R := fun e => hn.n1 (by rw [hg, e])
    rw [h3 g (.inl (hf.rnL g hg)), Below.heap_setCell _ _ _ _ hgR, hmv2.block g (hn.lr.lt g hg).2 hne]
  have hex : ∀ p ∈ el, w3.heap[p.1]? = some p.2 ∧ p.1 ≠ R ∧ ov.ownBlock ≠ some p.1 ∧ v'.ownBlock ≠ some p.1 ∧ lv.ownBlock ≠ some p.1 := fun p hp => by
    obtain ⟨e1, e2, e3, e4⟩ := hn.ex p hp
    refine ⟨hk3 e1 (hf.rnX p hp) e4 e2, e2, e4, fun e => ?_, e3⟩
    rcases hnew p.1 e with h1 | h1
    · exact e4 h1
    · have := lt_of_block e1; omega
  have hn3 : ∀ g, v'.ownBlock = some g → lv.ownBlock ≠ some g := fun g hg e => by
    rcases hnew g hg with h1 | h1
    · exact hn.n3 g e h1
    · have := (hn.lr.lt g e).2; omega
  have hold : Old W w3 := fun b hb => by
    have hu := hf.rnW b hb
    rw [h3 b (.inl hu), Below.heap_setCell _ _ _ _ (by show b ≠ R; omega), hmv2.block b (hf.1 b hu) (fun e => by have := (hn.our.lt b e).1; omega)]
    exact hn.old b hb
  exact ⟨hold, hr3, ho3, hv3, hn.n1, hvR, fun g hg e => hn3 g e hg, fun p hp => ⟨(hex p hp).1, (hex p hp).2.1, (hex p hp).2.2.2.2, (hex p hp).2.2.2.1⟩⟩

end Go.Proofs.Ytlcbfjcfkknmgaa
