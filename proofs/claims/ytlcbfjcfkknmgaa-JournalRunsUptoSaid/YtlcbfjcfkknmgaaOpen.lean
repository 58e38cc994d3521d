/- The programs that come in, read as trees of operations. -/
import Derived.Test.YtlcbfjcfkknmgaaTree
import Derived.ProofKit
namespace Go.Proofs.Ytlcbfjcfkknmgaa
open Go.RowKit Go.Deep

theorem Try.cells55 : Try.prog.cellsOf 55 = 3 := by kernel_rfl
theorem Try.cells3 : Try.prog.cellsOf 3 = 1 := by kernel_rfl
theorem Try.cells22 : Try.prog.cellsOf 22 = 1 := by kernel_rfl

theorem bulkAll_map {H : Type} (D : Nat → DataW H) (g : Nat → Nat) : ∀ (l : List Nat), (∀ i ∈ l, g i ≤ Rows.uptoBulk (D i)) → (l.map g).sum ≤ Rows.uptoBulkAll (l.map D)
  | [], _ => by simp [Rows.uptoBulkAll]
  | i :: l, h => by
    have h1 := h i (by simp)
    have h2 := bulkAll_map D g l (fun j hj => h j (by simp [hj]))
    simp only [List.map_cons, List.sum_cons, Rows.uptoBulkAll]
    omega

theorem bulk_mem {H : Type} {d : DataW H} {l : List (DataW H)} (h : d ∈ l) : Rows.uptoBulk d ≤ Rows.uptoBulkAll l := by
  induction l with
  | nil => cases h
  | cons x r ih =>
    simp only [Rows.uptoBulkAll]
    cases List.mem_cons.1 h with
    | inl e => subst e; omega
    | inr e => have := ih e; omega

theorem bulk_len {H : Type} (l : List (DataW H)) : l.length ≤ Rows.uptoBulkAll l := by
  induction l with
  | nil => simp
  | cons x r ih =>
    have h1 : 1 ≤ Rows.uptoBulk x := by
      cases x with
      | lit y => cases y <;> simp [Rows.uptoBulk]
      | _ => simp [Rows.uptoBulk]
    simp only [Rows.uptoBulkAll, List.length_cons]; omega

/-- one operation, opened -/
theorem open_op {H : Type} {enc : TypeId × Value → H} {W : World} {n : Nat} {cs : List Value} {x : DataW H × List MemPlace} (h : DataW.trod enc Try.prog W 0 (fun _ => true) true n 55 cs = some x) :
    ∃ kind num kv m y, cs = [.int .i64 kind, .int .i64 num, kv] ∧ DataW.trod enc Try.prog W 0 (fun _ => true) true m 22 [kv] = some y ∧ Rows.uptoBulk y.1 + 1 ≤ Rows.uptoBulk x.1 := by
  obtain ⟨xs, m, rfl, rfl, hcl, hxl, hf⟩ := DataW.trod_struct Try.underlying55 h
  rw [Try.cells55] at hcl
  match cs, hcl with
  | [c0, c1, c2], _ =>
    match xs, hxl with
    | [x0, x1, x2], _ =>
      have f0 := hf 0 _ rfl
      have f1 := hf 1 _ rfl
      have f2 := hf 2 _ rfl
      simp [Try.cells3, Try.cells22] at f0 f1 f2
      obtain ⟨a, e0, _, _⟩ := DataW.trod_int Try.underlying3 f0
      obtain ⟨b, e1, _, _⟩ := DataW.trod_int Try.underlying3 f1
      simp at e0 e1
      subst e0 e1
      refine ⟨a, b, c2, m, x2, rfl, f2, ?_⟩
      simp [Rows.uptoBulk, Rows.uptoBulkAll]
      omega

instance : Inhabited Op3 := ⟨⟨0, 0, .nilFunc⟩⟩

theorem tree_of {H : Type} {enc : TypeId × Value → H} {W : World} : ∀ (B fuel : Nat) (v : Value) (x : DataW H × List MemPlace), DataW.trod enc Try.prog W 0 (fun _ => true) true fuel 22 [v] = some x → Rows.uptoBulk x.1 ≤ B →
    Tree W (B + 1) v ∧ cnt W (B + 1) v ≤ Rows.uptoBulk x.1 := by
  intro B
  induction B with
  | zero =>
    intro fuel v x h hb
    exfalso
    have h1 : 1 ≤ Rows.uptoBulk x.1 := by
      cases x.1 with
      | lit y => cases y <;> simp [Rows.uptoBulk]
      | _ => simp [Rows.uptoBulk]
    omega
  | succ B ih =>
    intro fuel v x h hb
    rcases open_slice Try.underlying22 h with ⟨hcs, hx⟩ | ⟨a, len, cap, m, n, D, Pl, hcs, _, hl, hm, hme, hx, hel⟩
    · simp at hcs
      subst hcs
      have hin : OpsIn W (.slice none 0 0) [] := ⟨none, 0, rfl, by simp, by simp⟩
      have ho := hin.ops
      refine ⟨⟨by rw [ho]; exact hin, by rw [ho]; simp⟩, ?_⟩
      simp [cnt, ho]
    · simp only [List.cons.injEq, and_true] at hcs
      simp only [if_true] at hme
      subst hcs
      subst hx
      rw [Try.cells55] at hel
      have hop : ∀ i, i < len → ∃ o : Op3, W.cells? 0 (a.add (i * 3)) 3 = some [.int .i64 o.kind, .int .i64 o.n, o.kv] ∧ (∃ k y, DataW.trod enc Try.prog W 0 (fun _ => true) true k 22 [o.kv] = some y ∧ Rows.uptoBulk y.1 + 1 ≤ Rows.uptoBulk (D i)) := by
        intro i hi
        obtain ⟨cs', hc, ht⟩ := hel i (by omega)
        obtain ⟨kind, num, kv, k, y, rfl, hy, hbu⟩ := open_op ht
        exact ⟨⟨kind, num, kv⟩, hc, k, y, hy, hbu⟩
      obtain ⟨o, ho⟩ := choose_lt hop
      have hbl : Rows.uptoBulkAll ((List.range len).map D) + 1 ≤ B + 1 := by simp only [Rows.uptoBulk] at hb; omega
      have hlen : len ≤ B := by
        have := bulk_len ((List.range len).map D)
        simp at this; omega
      have hcell : ∀ i, i < len → ∃ b off, a = ⟨b, off, none⟩ ∧ b < W.heap.size ∧ W.cell? ⟨b, off + i * 3, none⟩ = some (.int .i64 (o i).kind) ∧ W.cell? ⟨b, off + i * 3 + 1, none⟩ = some (.int .i64 (o i).n) ∧ W.cell? ⟨b, off + i * 3 + 2, none⟩ = some (o i).kv := by
        intro i hi
        have h00 := (World.cells?_some (ho 0 (by omega)).1).2.2 0 (by omega)
        simp only [Nat.zero_mul, List.getElem?_cons_zero, add_add, Nat.add_zero] at h00
        have hsp : a.spot = none := by
          have := World.cell?_spot h00
          simpa [Addr.add] using this
        obtain ⟨b, off, spot⟩ := a
        simp only at hsp
        subst hsp
        obtain ⟨_, _, hc⟩ := World.cells?_some (ho i hi).1
        have c0 := hc 0 (by omega)
        have c1 := hc 1 (by omega)
        have c2 := hc 2 (by omega)
        have hadd : ∀ k, (⟨b, off, none⟩ : Addr).add k = ⟨b, off + k, none⟩ := fun k => by unfold Addr.add; split <;> simp_all
        simp only [List.getElem?_cons_zero, List.getElem?_cons_succ, hadd] at c0 c1 c2
        exact ⟨b, off, rfl, World.block_lt_of_cell? W _ c0, c0, c1, c2⟩
      have hin : OpsIn W (.slice (some a) len cap) ((List.range len).map o) := by
        refine ⟨some a, cap, by simp, by unfold maxLen at hm; simp; omega, fun i x hx => ?_⟩
        have hi : i < len := by have := (List.getElem?_eq_some_iff.1 hx).1; simpa using this
        simp [hi] at hx
        subst hx
        obtain ⟨b, off, rfl, h1⟩ := hcell i hi
        exact ⟨b, off, rfl, h1⟩
      have hops := hin.ops
      have hsub : ∀ i, i < len → Tree W (B + 1) (o i).kv ∧ cnt W (B + 1) (o i).kv + 1 ≤ Rows.uptoBulk (D i) := by
        intro i hi
        obtain ⟨_, k, y, hy, hbu⟩ := ho i hi
        have hdi := bulk_mem (show D i ∈ (List.range len).map D from List.mem_map.2 ⟨i, List.mem_range.2 hi, rfl⟩)
        obtain ⟨h1, h2⟩ := ih k (o i).kv y hy (by omega)
        exact ⟨h1, by omega⟩
      refine ⟨⟨by rw [hops]; exact hin, fun x hx => ?_⟩, ?_⟩
      · rw [hops] at hx
        obtain ⟨i, hi, rfl⟩ := List.mem_map.1 hx
        exact (hsub i (List.mem_range.1 hi)).1
      · show ((ops W (.slice (some a) len cap)).map fun o => 1 + cnt W (B + 1) o.kv).sum ≤ _
        rw [hops, List.map_map]
        have h3 := bulkAll_map D (fun i => 1 + cnt W (B + 1) (o i).kv) (List.range len) (fun i hi => by have := (hsub i (List.mem_range.1 hi)).2; omega)
        simp only [Rows.uptoBulk]
        have h4 : (List.map ((fun o => 1 + cnt W (B + 1) o.kv) ∘ o) (List.range len)).sum = (List.map (fun i => 1 + cnt W (B + 1) (o i).kv) (List.range len)).sum := rfl
        omega

end Go.Proofs.Ytlcbfjcfkknmgaa
