/- JournalAtomic: the register, its changes and their undo functions. -/
import Derived.Test.YtlcbfjcfkknmgaaTree
namespace Go.Proofs.Ytlcbfjcfkknmgaa
open Go.RowKit

/-- facts on further blocks -/
def Ex (el : List (Nat × Obj)) (w : World) : Prop := ∀ p ∈ el, w.heap[p.1]? = some p.2

theorem Ex.apart {el : List (Nat × Obj)} {N : Nat} (h : ∀ p ∈ el, p.1 ≠ N) : Apart (Ex el) N := fun w1 w2 h1 hk p hp => by rw [hk _ (h p hp)]; exact h1 p hp

/-- one change -/
def add1 (l : List Int) (p : Nat × Int) : List Int := l.set p.1 (wrap64 (l.getD p.1 0 + p.2))
/-- the register after the changes ps -/
def adds (ps : List (Nat × Int)) : List Int := ps.foldl add1 [1, 2, 3, 4]

theorem adds_snoc (ps : List (Nat × Int)) (p : Nat × Int) : adds (ps ++ [p]) = add1 (adds ps) p := by simp [adds]
theorem adds_len (ps : List (Nat × Int)) : (adds ps).length = 4 := by
  have key : ∀ (ps : List (Nat × Int)) (l : List Int), (ps.foldl add1 l).length = l.length := by
    intro ps
    induction ps with
    | nil => intro l; rfl
    | cons p ps ih => intro l; rw [List.foldl_cons, ih]; simp [add1]
  exact key ps _
theorem wrap64_range (x : Int) : -9223372036854775808 ≤ wrap64 x ∧ wrap64 x ≤ 9223372036854775807 := by unfold wrap64; omega
theorem wrap64_id {x : Int} (h : -9223372036854775808 ≤ x ∧ x ≤ 9223372036854775807) : wrap64 x = x := by unfold wrap64; omega
theorem wrap64_back {x : Int} (n : Int) (h : -9223372036854775808 ≤ x ∧ x ≤ 9223372036854775807) : wrap64 (wrap64 (x + n) - n) = x := by unfold wrap64; omega

theorem adds_range (ps : List (Nat × Int)) : ∀ x ∈ adds ps, -9223372036854775808 ≤ x ∧ x ≤ 9223372036854775807 := by
  have key : ∀ (ps : List (Nat × Int)) (l : List Int), (∀ x ∈ l, -9223372036854775808 ≤ x ∧ x ≤ 9223372036854775807) → ∀ x ∈ ps.foldl add1 l, -9223372036854775808 ≤ x ∧ x ≤ 9223372036854775807 := by
    intro ps
    induction ps with
    | nil => intro l h; exact h
    | cons p ps ih =>
      intro l h
      rw [List.foldl_cons]
      refine ih _ fun x hx => ?_
      rcases List.mem_or_eq_of_mem_set hx with h1 | h1
      · exact h x h1
      · rw [h1]; exact wrap64_range _
  exact key ps _ (by decide)

/-- the change undone -/
theorem adds_undo (ps : List (Nat × Int)) (i : Nat) (n : Int) (hi : i < 4) : (adds (ps ++ [(i, n)])).set i (wrap64 ((adds (ps ++ [(i, n)])).getD i 0 - n)) = adds ps := by
  have hl := adds_len ps
  have hx := adds_range ps ((adds ps)[i]) (List.getElem_mem _)
  rw [adds_snoc]
  simp only [add1]
  have h1 : ((adds ps).set i (wrap64 ((adds ps).getD i 0 + n))).getD i 0 = wrap64 ((adds ps)[i] + n) := by
    simp [List.getD, hl, hi]
  rw [h1, List.set_set, wrap64_back n hx]
  simp

/-- the register and the journal: ps are the changes that are recorded -/
structure Reg (J X L : Nat) (W : World) (ps : List (Nat × Int)) (fs : List Value) (w : World) : Prop where
  old : Old W w
  x : w.heap[X]? = some (.cells #[.pointer (some ⟨J, 0, none⟩), .slice (some ⟨L, 0, none⟩) 4 4] 32 (0, 0))
  l : w.heap[L]? = some (.cells (rowA (adds ps)) 3 (0, 0))
  len : fs.length = ps.length
  fn : ∀ (j : Nat) (f : Value), fs[j]? = some f → ∃ bx bi bn i n, f = .func (.func 57) #[] #[.pointer (some ⟨bx, 0, none⟩), .pointer (some ⟨bi, 0, none⟩), .pointer (some ⟨bn, 0, none⟩)] ∧ ps[j]? = some (i, n) ∧ i < 4 ∧
    w.heap[bx]? = some (.cells #[.pointer (some ⟨X, 0, none⟩)] 25 (0, 0)) ∧ w.heap[bi]? = some (.cells #[.int .i64 (i : Nat)] 3 (0, 0)) ∧ w.heap[bn]? = some (.cells #[.int .i64 n] 3 (0, 0)) ∧ bx ≠ L ∧ bi ≠ L ∧ bn ≠ L

section
variable {J X L : Nat} {W : World} {ps qs : List (Nat × Int)} {fs : List Value} {el : List (Nat × Obj)} {w0 w : World} {O0 : Nat → Prop} {run : Bool}

theorem Reg.set {gs hs : List Value} {w1 w2 : World} (hL : W.heap.size ≤ L) (hXL : X ≠ L) (hq : hs.length = qs.length) (h : Reg J X L W ps gs w1) (hpq : ∀ (j : Nat) (f : Value), hs[j]? = some f → gs[j]? = some f ∧ qs[j]? = ps[j]?)
    (hk : ∀ b, b ≠ L → w2.heap[b]? = w1.heap[b]?) (hn : w2.heap[L]? = some (.cells (rowA (adds qs)) 3 (0, 0))) : Reg J X L W qs hs w2 := by
  refine ⟨fun b hb => by rw [hk b (by omega)]; exact h.old b hb, by rw [hk X hXL]; exact h.x, hn, hq, fun j f hf => ?_⟩
  obtain ⟨h1, h2⟩ := hpq j f hf
  obtain ⟨bx, bi, bn, i, n, e1, e2, e3, e4, e5, e6, e7, e8, e9⟩ := h.fn j f h1
  exact ⟨bx, bi, bn, i, n, e1, by rw [h2]; exact e2, e3, by rw [hk _ e7]; exact e4, by rw [hk _ e8]; exact e5, by rw [hk _ e9]; exact e6, e7, e8, e9⟩

theorem x_cell0 {w : World} {X : Nat} {a b : Value} (h : w.heap[X]? = some (.cells #[a, b] 32 (0, 0))) : w.cell? ⟨X, 0, none⟩ = some a := by simp [World.cell?, h]
theorem x_cell1 {w : World} {X : Nat} {a b : Value} (h : w.heap[X]? = some (.cells #[a, b] 32 (0, 0))) : w.cell? ⟨X, 1, none⟩ = some b := by simp [World.cell?, h]

/-- the changes of a longer list, up to the functions that are left -/
def RegV (J X L : Nat) (W : World) (qs : List (Nat × Int)) (el : List (Nat × Obj)) (fs : List Value) (w : World) : Prop :=
  fs.length ≤ qs.length ∧ Reg J X L W (qs.take fs.length) fs w ∧ Ex el w

theorem St.reg (hL : W.heap.size ≤ L) (hXL : X ≠ L) (hE : ∀ p ∈ el, p.1 ≠ L) (i : Nat) (y : Int) {gs hs : List Value} (hq : hs.length = qs.length) (hpq : ∀ (j : Nat) (f : Value), hs[j]? = some f → gs[j]? = some f ∧ qs[j]? = ps[j]?) (ha : (adds ps).set i y = adds qs)
    (h : St J (fun w => Reg J X L W ps gs w ∧ Ex el w) w0 O0 fs run w) : St J (fun w => Reg J X L W qs hs w ∧ Ex el w) w0 O0 fs run (w.setCell ⟨L, i, none⟩ (.int .i64 y)) :=
  h.set L i _ (fun _ hc => hc.1.l) (fun w1 w2 hc hk hn => ⟨hc.1.set hL hXL hq hpq hk (by rw [rowA_set, ha] at hn; exact hn), Ex.apart hE w1 w2 hc.2 hk⟩)
end

theorem ent57 (c : Array Value) (w : World) : (callFunc 57 c).run Try.prog w = .ok (.enter 57 c) w := by simp [go_sem]

set_option maxHeartbeats 400000 in
theorem undo_57 (X L bx bi bn i : Nat) (n : Int) (xs : List Int) (J : Value) (w : World) (hi : i < 4) (hxs : xs.length = 4) (hX : w.heap[X]? = some (.cells #[J, .slice (some ⟨L, 0, none⟩) 4 4] 32 (0, 0))) (hl : w.heap[L]? = some (.cells (rowA xs) 3 (0, 0)))
    (h1 : w.heap[bx]? = some (.cells #[.pointer (some ⟨X, 0, none⟩)] 25 (0, 0))) (h2 : w.heap[bi]? = some (.cells #[.int .i64 i] 3 (0, 0))) (h3 : w.heap[bn]? = some (.cells #[.int .i64 n] 3 (0, 0))) :
    Calls Try.prog 57 #[.pointer (some ⟨bx, 0, none⟩), .pointer (some ⟨bi, 0, none⟩), .pointer (some ⟨bn, 0, none⟩)] w fun e w' => e = .returned (.tuple #[]) ∧ (w.setCell ⟨L, i, none⟩ (.int .i64 (wrap64 (xs.getD i 0 - n)))).drew = w' := by
  have a0 := cell_of_one h1
  have a1 := cell_of_one h2
  have a2 := cell_of_one h3
  have x1 := x_cell1 hX
  have l0 := rowA_cell hl (i := i) (by omega)
  have f0 := rowA_free (i := i) hl
  generalize xs.getD i 0 = x at *
  clear hX hl h1 h2 h3
  go_enter Try.func57, Try.ntmps57
  go_region
  go_end0
  exact ⟨rfl, rfl⟩

theorem undoes_57 (J X L : Nat) (W : World) (qs : List (Nat × Int)) (el : List (Nat × Obj)) (hL : W.heap.size ≤ L) (hXL : X ≠ L) (hE : ∀ p ∈ el, p.1 ≠ L) : Undoes J (RegV J X L W qs el) := by
  intro fs f w O h
  obtain ⟨hlen, hreg, _⟩ := h.user
  have hl : (fs ++ [f]).length = fs.length + 1 := by simp
  rw [hl] at hlen hreg
  obtain ⟨bx, bi, bn, i, n, rfl, e2, e3, e4, e5, e6, e7, e8, e9⟩ := hreg.fn fs.length f (by simp)
  have hq : qs.take (fs.length + 1) = qs.take fs.length ++ [(i, n)] := by
    rw [List.take_succ_eq_append_getElem (by omega)]
    rw [List.getElem?_take, if_pos (by omega), List.getElem?_eq_getElem (by omega)] at e2
    rw [Option.some.inj e2]
  refine ⟨57, _, rfl, ent57 _, ?_⟩
  refine (undo_57 X L bx bi bn i n _ _ w e3 (adds_len _) hreg.x hreg.l e4 e5 e6).mono ?_
  rintro e w' ⟨rfl, rfl⟩
  refine ⟨rfl, St.drew ?_⟩
  have h1 : St J (fun w => Reg J X L W (qs.take (fs.length + 1)) (fs ++ [_]) w ∧ Ex el w) w O fs true w := h.imp fun w hw => by have := hw.2; rw [hl] at this; exact this
  have h2 := h1.reg (qs := qs.take fs.length) (hs := fs) hL hXL hE i (wrap64 ((adds (qs.take (fs.length + 1))).getD i 0 - n)) (by simp; omega)
    (fun j g hg => by
      have hj := (List.getElem?_eq_some_iff.1 hg).1
      refine ⟨by rw [List.getElem?_append_left hj]; exact hg, ?_⟩
      rw [List.getElem?_take, List.getElem?_take, if_pos hj, if_pos (by omega)])
    (by rw [hq]; exact adds_undo _ i n e3)
  exact h2.imp fun w hw => ⟨by omega, hw.1, hw.2⟩

/-- a change, with its undo function behind it -/
theorem Reg.grow {J X L bx bi bn i : Nat} {n : Int} {W : World} {ps : List (Nat × Int)} {fs : List Value} {w1 w2 : World} (hL : W.heap.size ≤ L) (hXL : X ≠ L) (hi : i < 4) (h : Reg J X L W ps fs w1)
    (h1 : w1.heap[bx]? = some (.cells #[.pointer (some ⟨X, 0, none⟩)] 25 (0, 0))) (h2 : w1.heap[bi]? = some (.cells #[.int .i64 (i : Nat)] 3 (0, 0))) (h3 : w1.heap[bn]? = some (.cells #[.int .i64 n] 3 (0, 0))) (n1 : bx ≠ L) (n2 : bi ≠ L) (n3 : bn ≠ L)
    (hk : ∀ b, b ≠ L → w2.heap[b]? = w1.heap[b]?) (hn : w2.heap[L]? = some (.cells (rowA (adds (ps ++ [(i, n)]))) 3 (0, 0))) :
    Reg J X L W (ps ++ [(i, n)]) (fs ++ [.func (.func 57) #[] #[.pointer (some ⟨bx, 0, none⟩), .pointer (some ⟨bi, 0, none⟩), .pointer (some ⟨bn, 0, none⟩)]]) w2 := by
  have hlen := h.len
  refine ⟨fun b hb => by rw [hk b (by omega)]; exact h.old b hb, by rw [hk X hXL]; exact h.x, hn, by simp [hlen], fun j f hf => ?_⟩
  by_cases hj : j < fs.length
  · rw [List.getElem?_append_left hj] at hf
    obtain ⟨bx, bi, bn, i, n, e1, e2, e3, e4, e5, e6, e7, e8, e9⟩ := h.fn j f hf
    exact ⟨bx, bi, bn, i, n, e1, by rw [List.getElem?_append_left (by omega)]; exact e2, e3, by rw [hk _ e7]; exact e4, by rw [hk _ e8]; exact e5, by rw [hk _ e9]; exact e6, e7, e8, e9⟩
  · have hlt := (List.getElem?_eq_some_iff.1 hf).1
    simp at hlt
    obtain rfl : j = fs.length := by omega
    simp at hf
    subst hf
    exact ⟨bx, bi, bn, i, n, rfl, by rw [hlen]; simp, hi, by rw [hk _ n1]; exact h1, by rw [hk _ n2]; exact h2, by rw [hk _ n3]; exact h3, n1, n2, n3⟩

set_option maxHeartbeats 800000 in
theorem add_47 (J X L i : Nat) (n : Int) (W : World) (ps : List (Nat × Int)) (fs : List Value) (el : List (Nat × Obj)) (w0 w : World) (O0 : Nat → Prop) (hL : W.heap.size ≤ L) (hXL : X ≠ L) (hE : ∀ p ∈ el, p.1 ≠ L) (hi : i < 4) (hlen : fs.length ≤ 1000)
    (h : St J (fun w => Reg J X L W ps fs w ∧ Ex el w) w0 O0 fs false w) :
    Calls Try.prog 47 #[.pointer (some ⟨X, 0, none⟩), .int .i64 i, .int .i64 n] w fun e w' => e = .returned (.tuple #[]) ∧ ∃ f, St J (fun w => Reg J X L W (ps ++ [(i, n)]) (fs ++ [f]) w ∧ Ex el w) w0 O0 (fs ++ [f]) false w' := by
  have hLlt := lt_of_block h.user.1.l
  have h1 := ((h.give (.cells #[.pointer (some ⟨X, 0, none⟩)] 25)).give (.cells #[.int .i64 i] 3)).give (.cells #[.int .i64 n] 3)
  simp only [World.size_alloc] at h1
  have hu := h1.user
  have x0 := x_cell0 hu.1.1.1.1.x
  have x1 := x_cell1 hu.1.1.1.1.x
  have l0 := rowA_cell hu.1.1.1.1.l (i := i) (by rw [adds_len]; exact hi)
  have f0 := rowA_free (i := i) hu.1.1.1.1.l
  have b0 := cell_of_one hu.1.1.2
  have b1 := cell_of_one hu.1.2
  have b2 := cell_of_one hu.2
  have h2 : St J (fun w' => Reg J X L W (ps ++ [(i, n)]) (fs ++ [.func (.func 57) #[] #[.pointer (some ⟨w.heap.size, 0, none⟩), .pointer (some ⟨w.heap.size + 1, 0, none⟩), .pointer (some ⟨w.heap.size + 1 + 1, 0, none⟩)]]) w' ∧ Ex el w') w0 O0 fs false _ :=
    h1.set L i (.int .i64 (wrap64 ((adds ps).getD i 0 + n))) (fun _ hc => hc.1.1.1.1.l) (fun w1 w2 hc hk hn => ⟨Reg.grow hL hXL hi hc.1.1.1.1 hc.1.1.2 hc.1.2 hc.2 (by omega) (by omega) (by omega) hk (by rw [rowA_set] at hn; rw [adds_snoc]; exact hn), Ex.apart hE w1 w2 hc.1.1.1.2 hk⟩)
  have HR := Lib.hid (record_st _ _ _ _ _ (.func 57) #[] #[.pointer (some ⟨w.heap.size, 0, none⟩), .pointer (some ⟨w.heap.size + 1, 0, none⟩), .pointer (some ⟨w.heap.size + 1 + 1, 0, none⟩)] _ h2.drew (by omega))
  generalize (adds ps).getD i 0 = x at *
  have hne1 : (⟨L, i, none⟩ : Addr) ≠ ⟨X, 0, none⟩ := fun e => by injection e with e1; exact hXL e1.symm
  have hne2 : (⟨L, i, none⟩ : Addr) ≠ ⟨w.heap.size, 0, none⟩ := fun e => by injection e with e1; omega
  clear h h1 h2 hu
  go_enter Try.func47, Try.ntmps47
  go_wp2_with fail
  generalize ((w.alloc (.cells #[.pointer (some ⟨X, 0, none⟩)] 25)).alloc (.cells #[.int .i64 i] 3)).alloc (.cells #[.int .i64 n] 3) = w3 at *
  have k0 := World.cell?_setCell_other w3 ⟨L, i, none⟩ ⟨X, 0, none⟩ (.int .i64 (wrap64 (x + n))) hne1
  have k1 := World.cell?_setCell_other w3 ⟨L, i, none⟩ ⟨w.heap.size, 0, none⟩ (.int .i64 (wrap64 (x + n))) hne2
  rw [x0] at k0
  rw [b0] at k1
  go_region
  go_wp2_with fail
  refine HR.out.mono ?_
  rintro e w' ⟨rfl, hst⟩
  have HST := Lib.hid hst
  clear hst
  go_wp2_with fail
  go_end0
  exact ⟨rfl, _, HST.out⟩

end Go.Proofs.Ytlcbfjcfkknmgaa
