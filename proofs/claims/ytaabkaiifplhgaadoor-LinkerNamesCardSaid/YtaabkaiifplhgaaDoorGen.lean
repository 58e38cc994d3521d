/- General facts on worlds and on append, over any program: no text of the program is named. -/
import Derived.WalkKit
import Derived.WalkSpells
import Derived.WalkLawsBesides
import Derived.Laws.EntriesVeiled
import Derived.Deep.QuietTactic
import Derived.BigQuiet
namespace Go.Proofs.YtaabkaiifplhgaaDoor
set_option linter.unusedSimpArgs false
set_option linter.unusedVariables false
open Go.RowKit

/-- w' is as w was but for the blocks in O and for new ones. -/
structure Mv (O : Nat → Prop) (w w' : World) : Prop where
  os : w'.os = w.os
  tape : w'.tape = w.tape
  output : w'.output = w.output
  size : w.heap.size ≤ w'.heap.size
  block : ∀ b, b < w.heap.size → ¬ O b → w'.heap[b]? = w.heap[b]?

theorem Mv.refl (O : Nat → Prop) (w : World) : Mv O w w := ⟨rfl, rfl, rfl, Nat.le_refl _, fun _ _ _ => rfl⟩

theorem Mv.trans {O O1 : Nat → Prop} {a b c : World} (h : Mv O a b) (k : Mv O1 b c) (hs : ∀ x, O1 x → O x ∨ a.heap.size ≤ x) : Mv O a c :=
  ⟨k.os.trans h.os, k.tape.trans h.tape, k.output.trans h.output, Nat.le_trans h.size k.size, fun i hi hn =>
    (k.block i (Nat.lt_of_lt_of_le hi h.size) (fun e => by rcases hs i e with h1 | h1; exact hn h1; omega)).trans (h.block i hi hn)⟩

theorem Mv.mono {O O1 : Nat → Prop} {a b : World} (h : Mv O a b) (hs : ∀ x, O x → O1 x ∨ a.heap.size ≤ x) : Mv O1 a b :=
  ⟨h.os, h.tape, h.output, h.size, fun i hi hn => h.block i hi (fun e => by rcases hs i e with h1 | h1; exact hn h1; omega)⟩

theorem Mv.alloc {O : Nat → Prop} {a w : World} (h : Mv O a w) (o : Obj) : Mv O a (w.alloc o) :=
  h.trans (O1 := fun _ => False) ⟨rfl, rfl, rfl, by simp, fun k hk _ => Below.heap_alloc w o k hk⟩ (fun _ e => e.elim)

theorem Mv.drew {O : Nat → Prop} {a w : World} (h : Mv O a w) : Mv O a w.drew := ⟨h.os, h.tape, h.output, h.size, h.block⟩

theorem Mv.setCell {O : Nat → Prop} {a w : World} (h : Mv O a w) {p : Addr} (hp : O p.block ∨ a.heap.size ≤ p.block) (u : Value) : Mv O a (w.setCell p u) :=
  h.trans (O1 := fun x => x = p.block) ⟨rfl, rfl, rfl, by simp, fun k _ hn => Below.heap_setCell _ _ _ _ hn⟩ (fun x e => by subst e; exact hp)

theorem Mv.grown {O : Nat → Prop} {a w w' : World} {row : Option Nat} (h : Mv O a w) (hg : w.grownBy w' row) (hr : ∀ k, row = some k → O k ∨ a.heap.size ≤ k) : Mv O a w' :=
  h.trans (O1 := fun x => row = some x) ⟨hg.os, hg.tape, hg.output, hg.size, fun k hk hn => hg.block k hk (fun e => hn e.symm)⟩ (fun x e => hr x e)

theorem equalIn_func_nil {P : Program} (w : World) (d : Nat) {t : TypeId} {a b : Array TypeId} {v : Bool} (fn : Fn) (x y : Array Value) (h : P.underlying t = some (.func a b v)) :
    (Op.equalIn (d + 1) t (.func fn x y) .nilFunc).run P w = .ok false w := by simp [Op.equalIn, run_underlying h]
theorem equalIn_nilFunc_nil {P : Program} (w : World) (d : Nat) {t : TypeId} {a b : Array TypeId} {v : Bool} (h : P.underlying t = some (.func a b v)) :
    (Op.equalIn (d + 1) t .nilFunc .nilFunc).run P w = .ok true w := by simp [Op.equalIn, run_underlying h]
theorem run_eql_func_nil {P : Program} (w : World) {t : TypeId} {a b : Array TypeId} {v : Bool} (fn : Fn) (x y : Array Value) (h : P.underlying t = some (.func a b v)) :
    (binOp .eql t (.func fn x y) .nilFunc).run P w = .ok (.bool false) w := by
  have e : (Op.equal t (.func fn x y) .nilFunc).run P w = .ok false w := equalIn_func_nil w 9999 fn x y h
  simp only [binOp]
  simp [e]
theorem run_eql_nilFunc_nil {P : Program} (w : World) {t : TypeId} {a b : Array TypeId} {v : Bool} (h : P.underlying t = some (.func a b v)) :
    (binOp .eql t .nilFunc .nilFunc).run P w = .ok (.bool true) w := by
  have e : (Op.equal t .nilFunc .nilFunc).run P w = .ok true w := equalIn_nilFunc_nil w 9999 h
  simp only [binOp]
  simp [e]

/-- append to a row of the call's own, with where the new row lies -/
theorem run_append_own2 {P : Program} (w : World) (base : Nat) (t ty e : TypeId) (i : TypeInfo) (z : Value) (size bytes : Nat) (ht : P.underlying t = some (.slice e)) (hi : P.info? e = some i) (hz : i.zero = some z)
    (hsize : i.size = size) (hby : i.bytes = bytes) (hzs : z.cells.size = size) (hsz : 0 < size)
    (v : Value) (n : Nat) (xs : List Value) (hown : w.ownsRow base e size v n xs)
    (a : Addr) (m c : Nat) (news : List Value) (hl : news.length = m * size) (hnews : ∀ j u, news[j]? = some u → w.cell? (a.add j) = some u) (h1 : ∀ u ∈ news, u.oneCell' = true)
    (h63 : n + m ≤ maxLen) (hbytes : (n + m) * bytes ≤ 140737488355328) (hbase : base ≤ w.heap.size) :
    ∃ v' w', (Builtin.append_ #[t, t] ty #[v, .slice (some a) m c]).run P w = .ok v' w' ∧ w'.ownsRow base e size v' (n + m) (xs ++ news) ∧ w.grownBy w' v.ownBlock ∧
      (v' = .slice none 0 0 ↔ v = .slice none 0 0 ∧ m = 0) ∧ (∀ g, v'.ownBlock = some g → v.ownBlock = some g ∨ w.heap.size ≤ g) := by
  obtain ⟨v', w', hr, h2, h3, h4⟩ := run_append_own (P := P) w base t ty e i z size bytes ht hi hz hsize hby hzs hsz v n xs hown a m c news hl hnews h1 h63 hbytes hbase
  refine ⟨v', w', hr, h2, h3, h4, ?_⟩
  rcases hown.2 with ⟨rfl, rfl⟩ | ⟨g, cap, cur, rfl, hbg, hg, hnc, hcm, hcs, htake⟩
  · have hx : xs = [] := List.eq_nil_of_length_eq_zero (by simpa using hown.1)
    subst hx
    obtain ⟨v2, w2, hr2, h22, _⟩ := run_append_own (P := P) w w.heap.size t ty e i z size bytes ht hi hz hsize hby hzs hsz (.slice none 0 0) 0 [] (World.ownsRow_nil _ _ _ _) a m c news hl hnews h1 h63 hbytes (Nat.le_refl _)
    rw [hr] at hr2
    simp only [Result.ok.injEq] at hr2
    obtain ⟨rfl, rfl⟩ := hr2
    exact fun g hg => .inr (h22.lt g hg).1
  · subst hsize
    by_cases hroom : n + m ≤ cap
    · have hfit : n * i.size + news.length ≤ cur.size := by rw [hl, hcs, ← Nat.add_mul]; exact Nat.mul_le_mul_right _ hroom
      have hr2 := run_append_room (P := P) w t ty e i ht hi g n cap cur hg a m c news hl hnews h1 hroom hfit
      rw [hr] at hr2
      simp only [Result.ok.injEq] at hr2
      obtain ⟨rfl, rfl⟩ := hr2
      exact fun g' hg' => .inl (by simpa [Value.ownBlock] using hg')
    · have holds : ∀ j u, xs[j]? = some u → w.cell? ((⟨g, 0, none⟩ : Addr).add j) = some u := hown.cells (g := g) rfl
      subst hby
      have hsmall : n + m ≤ 9223372036854775807 := by simp only [maxLen] at h63; omega
      have hr2 := run_append_grow (P := P) w t ty e i z ht hi hz ⟨g, 0, none⟩ n cap xs hown.1 holds a m c news hl hnews (by omega) (by omega) (growslice_fits (by omega) hbytes)
      rw [hr] at hr2
      simp only [Result.ok.injEq] at hr2
      obtain ⟨rfl, rfl⟩ := hr2
      exact fun g' hg' => .inr (by simp [Value.ownBlock] at hg'; omega)

theorem wpList_append_own2 {P : Program} (w : World) {ops : Array Oper} {rest : List Oper} {o : Oper} {a : Act} {Q : Exit → Act → World → Prop} (hgd : o.guard = none) (s x : Operand) (t : TypeId)
    (ho : o.op = .call { callee := .builtin .append, args := #[s, x], argTypes := #[t, t] })
    (base : Nat) (e : TypeId) (i : TypeInfo) (z : Value) (size bytes : Nat) (ht : P.underlying t = some (.slice e)) (hi : P.info? e = some i) (hz : i.zero = some z)
    (hsize : i.size = size) (hby : i.bytes = bytes) (hzs : z.cells.size = size) (hsz : 0 < size)
    (v : Value) (n : Nat) (xs : List Value) (hs : a.eval s = v) (hown : w.ownsRow base e size v n xs)
    (ad : Addr) (m c : Nat) (news : List Value) (hx : a.eval x = .slice (some ad) m c) (hl : news.length = m * size) (hnews : ∀ j u, news[j]? = some u → w.cell? (ad.add j) = some u) (h1 : ∀ u ∈ news, u.oneCell' = true)
    (h63 : n + m ≤ maxLen) (hbytes : (n + m) * bytes ≤ 140737488355328) (hbase : base ≤ w.heap.size)
    (h : ∀ v' w', w'.ownsRow base e size v' (n + m) (xs ++ news) → w.grownBy w' v.ownBlock → (v' = .slice none 0 0 ↔ v = .slice none 0 0 ∧ m = 0) → (∀ g, v'.ownBlock = some g → v.ownBlock = some g ∨ w.heap.size ≤ g) → wpList P ops Q rest (a.put o.dst v') w') : wpList P ops Q (o :: rest) a w :=
  wpList_plain hgd fun _ hK => by
    obtain ⟨v', w', hr, h2, h3, h4, h5⟩ := run_append_own2 (P := P) w base t o.type e i z size bytes ht hi hz hsize hby hzs hsz v n xs hown ad m c news hl hnews h1 h63 hbytes hbase
    unfold Oper.wp execOp
    simp only [ho, resolve, invoke, builtin, Sem.run_bind, Sem.run_pure, Result.andThen_ok, List.map_toArray, List.map_cons, List.map_nil, hs, hx, hr]
    exact hK _ _ (h v' w' h2 h3 h4 h5)

end Go.Proofs.YtaabkaiifplhgaaDoor
