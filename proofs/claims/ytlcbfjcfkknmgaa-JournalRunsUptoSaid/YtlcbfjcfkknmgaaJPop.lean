/- Contracts of pop, Forget, Fail. -/
import Derived.Test.YtlcbfjcfkknmgaaJRec
namespace Go.Proofs.Ytlcbfjcfkknmgaa
open Go.RowKit

set_option maxHeartbeats 400000 in
theorem pop_ok (J g n c : Nat) (r f : Value) (w : World) (h : w.heap[J]? = some (.cells #[.slice (some ⟨g, 0, none⟩) (n + 1) c, r] 29 (0, 0)))
    (hg : w.cell? ⟨g, n, none⟩ = some f) (hz : w.frozen? ⟨g, n, none⟩ = false) (hne : g ≠ J) (hn : n ≤ 1000000) (hc : n + 1 ≤ c) :
    Calls Try.prog 51 #[.pointer (some ⟨J, 0, none⟩)] w fun e w' => e = .returned f ∧ (w.setCell ⟨g, n, none⟩ .nilFunc).setCell ⟨J, 0, none⟩ (.slice (some ⟨g, 0, none⟩) n c) = w' := by
  have c0 := j_cell0 h
  have f0 := j_free (k := 0) h
  clear h
  go_enter Try.func51, Try.ntmps51
  go_wp2
  go_ret
  exact ⟨rfl, rfl⟩

theorem fail_ok (e : Int) (w : World) (he : (e == 0) = false) :
    Calls Try.prog 31 #[.int .i64 e] w fun en w' => en = .panicked [{ v := .iface 63 (.agg #[.int .i64 e]), recovered := false }] ∧ w = w' := by
  go_enter Try.func31, Try.ntmps31
  go_wp2
  exact ⟨rfl, rfl, rfl⟩

theorem fail_zero (w : World) :
    Calls Try.prog 31 #[.int .i64 0] w fun en w' => en = .panicked [{ v := .iface 63 (.agg #[.int .i64 1]), recovered := false }] ∧ w = w' := by
  go_enter Try.func31, Try.ntmps31
  go_wp2
  exact ⟨rfl, rfl, rfl⟩

/-- the journal at J, with the slice s in its field, the functions fs and the mark r -/
structure JQ (J : Nat) (s : Value) (fs : List Value) (r : Value) (w : World) : Prop where
  blk : w.heap[J]? = some (.cells #[s, r] 29 (0, 0))
  own : w.ownsRow (J + 1) 1 1 s fs.length fs

/-- the journal in w' stands where it stood in w, or in new memory -/
def JSub (J : Nat) (s s' : Value) (w : World) : Prop := ∀ b, JO J s' b → JO J s b ∨ w.heap.size ≤ b

theorem JQ.lt {J : Nat} {s r : Value} {fs : List Value} {w : World} (h : JQ J s fs r w) : ∀ b, JO J s b → b < w.heap.size := by
  rintro b (rfl | hb)
  · exact lt_of_block h.blk
  · exact (h.own.lt b hb).2

/-- the journal stays as it is where none of its blocks is written -/
theorem JQ.keep {J : Nat} {s r : Value} {fs : List Value} {w w' : World} {O : Nat → Prop} (h : JQ J s fs r w) (hm : Mv O w w') (hd : ∀ b, JO J s b → ¬ O b) : JQ J s fs r w' := by
  refine ⟨by rw [hm.block J (h.lt J (.inl rfl)) (hd J (.inl rfl))]; exact h.blk, h.own.1, ?_⟩
  rcases h.own.2 with h1 | ⟨g, cap, cur, rfl, hb, hg, rest⟩
  · exact .inl h1
  · refine .inr ⟨g, cap, cur, rfl, hb, ?_, rest⟩
    rw [hm.block g (lt_of_block hg) (hd g (.inr rfl))]
    exact hg

theorem JQ.slice {J : Nat} {s r : Value} {fs : List Value} {w : World} (h : JQ J s fs r w) : ∃ a c, s = .slice a fs.length c := row_form h.own

theorem JQ.mark {J : Nat} {s r u : Value} {fs : List Value} {w : World} (h : JQ J s fs r w) : JQ J s fs u (w.setCell ⟨J, 1, none⟩ u) :=
  ⟨j_set1 h.blk _, ownsRow_setCell_other h.own (a := ⟨J, 1, none⟩) (fun e => by have := (h.own.lt J e).1; omega) u⟩

theorem JQ.top {J : Nat} {s r f : Value} {fs : List Value} {w : World} (h : JQ J s (fs ++ [f]) r w) :
    ∃ g c, s = .slice (some ⟨g, 0, none⟩) (fs.length + 1) c ∧ J < g ∧ w.cell? ⟨g, fs.length, none⟩ = some f ∧ w.frozen? ⟨g, fs.length, none⟩ = false ∧ fs.length + 1 ≤ c := by
  have ho := h.own
  rw [show (fs ++ [f]).length = fs.length + 1 by simp] at ho
  rcases ho.2 with ⟨_, hn⟩ | ⟨g, cap, cur, rfl, hb, hg, hnc, hcm, hcs, htake⟩
  · omega
  · refine ⟨g, cap, rfl, hb, ?_, by simp [World.frozen?, hg], hnc⟩
    have := ho.cellAt fs.length (by omega)
    rw [this]; simp

theorem JQ.popped {J g c : Nat} {r f : Value} {fs : List Value} {w : World} (h : JQ J (.slice (some ⟨g, 0, none⟩) (fs.length + 1) c) (fs ++ [f]) r w) :
    JQ J (.slice (some ⟨g, 0, none⟩) fs.length c) fs r ((w.setCell ⟨g, fs.length, none⟩ .nilFunc).setCell ⟨J, 0, none⟩ (.slice (some ⟨g, 0, none⟩) fs.length c)) := by
  have hJg : J < g := (h.own.lt g rfl).1
  have hb1 : (w.setCell ⟨g, fs.length, none⟩ .nilFunc).heap[J]? = w.heap[J]? := Below.heap_setCell _ _ _ _ (by simp; omega)
  refine ⟨j_set0 (by rw [hb1]; exact h.blk) _, ?_⟩
  refine ownsRow_setCell_other ?_ (by simp [Value.ownBlock]; omega) _
  have ho := h.own
  rw [show (fs ++ [f]).length = fs.length + 1 by simp] at ho
  rcases ho.2 with ⟨_, hn⟩ | ⟨g', cap, cur, e, hb, hg, hnc, hcm, hcs, htake⟩
  · omega
  · simp only [Value.slice.injEq, Option.some.injEq, Addr.mk.injEq, and_true, true_and] at e
    obtain ⟨rfl, rfl⟩ := e
    refine ⟨by simp, .inr ⟨g, c, cur.setIfInBounds fs.length .nilFunc, rfl, hb, ?_, by omega, hcm, by simpa using hcs, ?_⟩⟩
    · have hlt := lt_of_block hg
      have h' : w.heap[g] = .cells cur 1 (0, 0) := by simpa [Array.getElem?_eq_getElem hlt] using hg
      show (w.heap.modify g _)[g]? = _
      rw [Array.getElem?_eq_getElem (by simpa using hlt), Array.getElem_modify_self, h']
      rfl
    · rw [Array.toList_setIfInBounds, Nat.mul_one, List.take_set_of_le (Nat.le_refl _)]
      have := congrArg (List.take fs.length) htake
      rw [List.take_take, Nat.mul_one] at this
      simpa using this

theorem pop_jq (J : Nat) (s r f : Value) (fs : List Value) (w : World) (h : JQ J s (fs ++ [f]) r w) (hn : fs.length ≤ 1000000) :
    Calls Try.prog 51 #[.pointer (some ⟨J, 0, none⟩)] w fun e w' => e = .returned f ∧ ∃ s', JQ J s' fs r w' ∧ Mv (JO J s) w w' ∧ JSub J s s' w := by
  obtain ⟨g, c, rfl, hlt, hc, hz, hcap⟩ := h.top
  refine (pop_ok J g fs.length c r f w h.blk hc hz (by omega) hn hcap).mono ?_
  rintro e w' ⟨rfl, rfl⟩
  refine ⟨rfl, _, h.popped, ?_, ?_⟩
  · exact ((Mv.refl _ _).setCell (.inl (.inr rfl)) _).setCell (.inl (.inl rfl)) _
  · rintro b (rfl | hb)
    · exact .inl (.inl rfl)
    · exact .inl (.inr hb)

end Go.Proofs.Ytlcbfjcfkknmgaa
