/- Contracts of bound and Record. -/
import Derived.Test.YtlcbfjcfkknmgaaJBase
import Derived.Lib.Hide
namespace Go.Proofs.Ytlcbfjcfkknmgaa
open Go.RowKit

theorem bound_nil (n : Int) (w : World) : Calls Try.prog 49 #[.pointer none, .int .i64 n] w fun e w' => e = .returned (.int .i64 1) ∧ w = w' := by
  go_enter Try.func49, Try.ntmps49
  go_wp2
  go_ret
  exact ⟨rfl, rfl⟩

theorem bound_running (J : Nat) (s : Value) (n : Int) (w : World) (h : w.heap[J]? = some (.cells #[s, .bool true] 29 (0, 0))) :
    Calls Try.prog 49 #[.pointer (some ⟨J, 0, none⟩), .int .i64 n] w fun e w' => e = .returned (.int .i64 20) ∧ w = w' := by
  have c1 := j_cell1 h
  clear h
  go_enter Try.func49, Try.ntmps49
  go_wp2
  go_ret
  exact ⟨rfl, rfl⟩

theorem bound_low (J : Nat) (s : Value) (n : Int) (w : World) (h : w.heap[J]? = some (.cells #[s, .bool false] 29 (0, 0))) (hn : n < 0) :
    Calls Try.prog 49 #[.pointer (some ⟨J, 0, none⟩), .int .i64 n] w fun e w' => e = .returned (.int .i64 2) ∧ w = w' := by
  have c1 := j_cell1 h
  clear h
  go_enter Try.func49, Try.ntmps49
  go_wp2
  go_ret
  exact ⟨rfl, rfl⟩

theorem bound_high (J : Nat) (a : Option Addr) (m c : Nat) (n : Int) (w : World) (h : w.heap[J]? = some (.cells #[.slice a m c, .bool false] 29 (0, 0))) (hn : 0 ≤ n) (hm : (m : Int) < n) :
    Calls Try.prog 49 #[.pointer (some ⟨J, 0, none⟩), .int .i64 n] w fun e w' => e = .returned (.int .i64 2) ∧ w = w' := by
  have c0 := j_cell0 h
  have c1 := j_cell1 h
  clear h
  go_enter Try.func49, Try.ntmps49
  go_wp2
  go_ret
  exact ⟨rfl, rfl⟩

theorem bound_ok (J : Nat) (a : Option Addr) (m c : Nat) (n : Int) (w : World) (h : w.heap[J]? = some (.cells #[.slice a m c, .bool false] 29 (0, 0))) (hn : 0 ≤ n) (hm : n ≤ (m : Int)) :
    Calls Try.prog 49 #[.pointer (some ⟨J, 0, none⟩), .int .i64 n] w fun e w' => e = .returned (.int .i64 0) ∧ w = w' := by
  have c0 := j_cell0 h
  have c1 := j_cell1 h
  clear h
  go_enter Try.func49, Try.ntmps49
  go_wp2
  go_ret
  exact ⟨rfl, rfl⟩

theorem Try.info1 : (Try.prog.info? 1).map (fun i => (i.zero, i.size, i.bytes)) = some (some .nilFunc, 1, 8) := by kernel_rfl

theorem record_nil (f : Value) (w : World) : Calls Try.prog 19 #[.pointer none, f] w fun e w' => e = .returned (.tuple #[]) ∧ w = w' := by
  go_enter Try.func19, Try.ntmps19
  go_wp2
  refine bodyPost_ret (results_none rfl _ _ _) rfl ?_
  exact ⟨rfl, rfl⟩

theorem record_nofn (J : Nat) (w : World) : Calls Try.prog 19 #[.pointer (some ⟨J, 0, none⟩), .nilFunc] w fun e w' => e = .returned (.tuple #[]) ∧ w = w' := by
  go_enter Try.func19, Try.ntmps19
  go_wp2
  refine bodyPost_ret (results_none rfl _ _ _) rfl ?_
  exact ⟨rfl, rfl⟩

theorem record_running (J : Nat) (s : Value) (fn : Fn) (x y : Array Value) (w : World) (h : w.heap[J]? = some (.cells #[s, .bool true] 29 (0, 0))) :
    Calls Try.prog 19 #[.pointer (some ⟨J, 0, none⟩), .func fn x y] w fun e w' => e = .returned (.tuple #[]) ∧ w = w' := by
  have c1 := j_cell1 h
  clear h
  go_enter Try.func19, Try.ntmps19
  go_wp2
  refine bodyPost_ret (results_none rfl _ _ _) rfl ?_
  exact ⟨rfl, rfl⟩

/-- the blocks that a journal at J with the slice s owns -/
def JO (J : Nat) (s : Value) (b : Nat) : Prop := b = J ∨ s.ownBlock = some b

theorem j_set0 {w : World} {J : Nat} {s r : Value} (h : w.heap[J]? = some (.cells #[s, r] 29 (0, 0))) (u : Value) : (w.setCell ⟨J, 0, none⟩ u).heap[J]? = some (.cells #[u, r] 29 (0, 0)) := by
  have hlt := lt_of_block h
  have h' : w.heap[J] = .cells #[s, r] 29 (0, 0) := by simpa [Array.getElem?_eq_getElem hlt] using h
  show (w.heap.modify J _)[J]? = _
  rw [Array.getElem?_eq_getElem (by simpa using hlt), Array.getElem_modify_self, h']
  rfl
theorem j_set1 {w : World} {J : Nat} {s r : Value} (h : w.heap[J]? = some (.cells #[s, r] 29 (0, 0))) (u : Value) : (w.setCell ⟨J, 1, none⟩ u).heap[J]? = some (.cells #[s, u] 29 (0, 0)) := by
  have hlt := lt_of_block h
  have h' : w.heap[J] = .cells #[s, r] 29 (0, 0) := by simpa [Array.getElem?_eq_getElem hlt] using h
  show (w.heap.modify J _)[J]? = _
  rw [Array.getElem?_eq_getElem (by simpa using hlt), Array.getElem_modify_self, h']
  rfl

/-- what Record leaves: the journal with f at its end -/
def Recorded (J : Nat) (s : Value) (fs : List Value) (w w' : World) : Prop :=
  ∃ s', w'.heap[J]? = some (.cells #[s', .bool false] 29 (0, 0)) ∧ w'.ownsRow (J + 1) 1 1 s' fs.length fs ∧ Mv (JO J s) w w' ∧ ∀ b, JO J s' b → JO J s b ∨ w.heap.size ≤ b

set_option maxHeartbeats 400000 in
theorem record_ok (J : Nat) (s : Value) (fs : List Value) (fn : Fn) (x y : Array Value) (w : World) (h : w.heap[J]? = some (.cells #[s, .bool false] 29 (0, 0)))
    (hown : w.ownsRow (J + 1) 1 1 s fs.length fs) (hlen : fs.length ≤ 1000000) :
    Calls Try.prog 19 #[.pointer (some ⟨J, 0, none⟩), .func fn x y] w fun e w' => e = .returned (.tuple #[]) ∧ Recorded J s (fs ++ [.func fn x y]) w w' := by
  obtain ⟨i0, hi, hz0, hz1, hz2⟩ := info_parts Try.info1
  obtain ⟨a, c, rfl⟩ := row_form hown
  have c0 := j_cell0 h
  have c1 := j_cell1 h
  have hJ := lt_of_block h
  have H := Lib.hid h
  have HO := Lib.hid hown
  clear h
  go_enter Try.func19, Try.ntmps19
  go_wp2_with (at_builtin; refine wpList_append_own2 _ rfl (.tmp 20) (.tmp 22) 27 rfl (J + 1) 1 i0 .nilFunc 1 8 Try.underlying27 hi hz0 hz1 hz2 rfl (by decide) _ _ _ rfl (hown.alloc _) ⟨w.heap.size, 0, none⟩ 1 1 [.func fn x y] rfl rfl ?c1 ?c2 ?c3 ?c4 ?c5 ?_)
  case c1 => intro j u hj; match j, hj with | 0, hj => simp at hj; subst hj; simp [Addr.add]
  case c2 => intro u hu; simp at hu; subst hu; rfl
  case c3 => unfold maxLen; omega
  case c4 => omega
  case c5 => simp; omega
  intro v' w' hown' hgrow _ hnew
  have hb : ∀ k, (Value.slice a fs.length c).ownBlock = some k → J < k := fun k hk => (HO.out.lt k hk).1
  have hJ' : w'.heap[J]? = some (.cells #[.slice a fs.length c, .bool false] 29 (0, 0)) := by
    rw [hgrow.block J (by simp; omega) (fun e => by have := hb J e.symm; omega), Below.heap_alloc _ _ _ hJ]
    exact H.out
  obtain ⟨a', c', rfl⟩ := row_form hown'
  have k0 := j_cell0 hJ'
  have f0 := j_free (k := 0) hJ'
  have HF := Lib.hid (show Recorded J (.slice a fs.length c) (fs ++ [.func fn x y]) w (w'.setCell ⟨J, 0, none⟩ (.slice a' (fs.length + 1) c')) from by
    refine ⟨_, j_set0 hJ' _, ?_, ?_, ?_⟩
    · have := ownsRow_setCell_other hown' (a := ⟨J, 0, none⟩) (fun e => by have := (hown'.lt J e).1; omega) (.slice a' (fs.length + 1) c')
      simpa using this
    · refine Mv.setCell ?_ (.inl (.inl rfl)) _
      exact ((Mv.refl _ _).alloc _).grown hgrow (fun k hk => .inl (.inr hk))
    · rintro b (rfl | hb)
      · exact .inl (.inl rfl)
      · rcases hnew b hb with h1 | h1
        · exact .inl (.inr h1)
        · exact .inr (by omega))
  clear hown' hgrow hnew hJ' hown HO H hb
  go_wp2
  go_end0
  exact ⟨rfl, HF.out⟩

end Go.Proofs.Ytlcbfjcfkknmgaa
