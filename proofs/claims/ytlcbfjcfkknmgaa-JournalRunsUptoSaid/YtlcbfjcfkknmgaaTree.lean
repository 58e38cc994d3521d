/- The programs that JournalAtomic and JournalRuns take: trees of operations in the memory that came in; Size and great. -/
import Derived.Test.YtlcbfjcfkknmgaaWPanics
import Derived.Deep.Slices
namespace Go.Proofs.Ytlcbfjcfkknmgaa
open Go.RowKit

/-- an operation: its kind, its number, the slice of its kids -/
structure Op3 where
  kind : Int
  n : Int
  kv : Value

/-- a slice of operations that lies in W -/
def OpsIn (W : World) (v : Value) (l : List Op3) : Prop :=
  ∃ a cap, v = .slice a l.length cap ∧ l.length ≤ 9223372036854775807 ∧ ∀ (i : Nat) (o : Op3), l[i]? = some o → ∃ b off, a = some ⟨b, off, none⟩ ∧ b < W.heap.size ∧
    W.cell? ⟨b, off + i * 3, none⟩ = some (.int .i64 o.kind) ∧ W.cell? ⟨b, off + i * 3 + 1, none⟩ = some (.int .i64 o.n) ∧ W.cell? ⟨b, off + i * 3 + 2, none⟩ = some o.kv

theorem OpsIn.unique {W : World} {v : Value} {l m : List Op3} (h : OpsIn W v l) (k : OpsIn W v m) : l = m := by
  obtain ⟨a, cap, rfl, _, hl⟩ := h
  obtain ⟨a', cap', e, _, hm⟩ := k
  simp only [Value.slice.injEq] at e
  obtain ⟨rfl, e2, _⟩ := e
  apply List.ext_getElem? fun i => ?_
  by_cases hi : i < l.length
  · have h1 : l[i]? = some l[i] := List.getElem?_eq_getElem hi
    have h2 : m[i]? = some m[i] := List.getElem?_eq_getElem (by omega)
    obtain ⟨b, off, rfl, _, k1, k2, k3⟩ := hl i _ h1
    obtain ⟨b', off', e3, _, j1, j2, j3⟩ := hm i _ h2
    simp only [Option.some.injEq, Addr.mk.injEq, and_true] at e3
    obtain ⟨rfl, rfl⟩ := e3
    rw [k1] at j1; rw [k2] at j2; rw [k3] at j3
    simp only [Option.some.injEq, Value.int.injEq, true_and] at j1 j2 j3
    rw [h1, h2]
    congr 1
    cases hx : l[i]; cases hy : m[i]
    simp_all
  · rw [List.getElem?_eq_none (by omega), List.getElem?_eq_none (by omega)]

open Classical in
/-- the operations of a slice -/
noncomputable def ops (W : World) (v : Value) : List Op3 := if h : ∃ l, OpsIn W v l then Classical.choose h else []

theorem OpsIn.ops {W : World} {v : Value} {l : List Op3} (h : OpsIn W v l) : ops W v = l := by
  have hex : ∃ l, OpsIn W v l := ⟨l, h⟩
  unfold Ytlcbfjcfkknmgaa.ops
  rw [dif_pos hex]
  exact (Classical.choose_spec hex).unique h

/-- a tree of operations of depth at most f -/
def Tree (W : World) : Nat → Value → Prop
  | 0, _ => False
  | f + 1, v => OpsIn W v (ops W v) ∧ ∀ o ∈ ops W v, Tree W f o.kv

/-- the number of its operations, and its depth, as Size counts them -/
noncomputable def cnt (W : World) : Nat → Value → Nat
  | 0, _ => 0
  | f + 1, v => ((ops W v).map fun o => 1 + cnt W f o.kv).sum
noncomputable def dep (W : World) : Nat → Value → Nat
  | 0, _ => 0
  | f + 1, v => ((ops W v).foldl (fun d o => max d (dep W f o.kv)) 0) + 1

theorem dep_le (W : World) : ∀ f v, dep W f v ≤ f := by
  intro f
  induction f with
  | zero => intro v; exact Nat.le_refl _
  | succ f ih =>
    intro v
    have key : ∀ (l : List Op3) (d : Nat), d ≤ f → l.foldl (fun d o => max d (dep W f o.kv)) d ≤ f := by
      intro l
      induction l with
      | nil => intro d hd; exact hd
      | cons o l ihl => intro d hd; exact ihl _ (Nat.max_le.2 ⟨hd, ih o.kv⟩)
    have := key (ops W v) 0 (Nat.zero_le _)
    simp only [dep]
    omega

/-- the memory that came in is as it was -/
def Old (W w : World) : Prop := ∀ b, b < W.heap.size → w.heap[b]? = W.heap[b]?

theorem Old.cell {W w : World} (h : Old W w) {p : Addr} (hp : p.block < W.heap.size) : w.cell? p = W.cell? p := World.cell?_of_block (w := W) (w' := w) (h p.block hp)

/-- the cells of one operation -/
theorem OpsIn.at {W w : World} {v : Value} {l : List Op3} (h : OpsIn W v l) (ho : Old W w) {i : Nat} (hi : i < l.length) :
    ∃ b off cap, v = .slice (some ⟨b, off, none⟩) l.length cap ∧ b < W.heap.size ∧ w.cell? ⟨b, off + i * 3, none⟩ = some (.int .i64 l[i].kind) ∧ w.cell? ⟨b, off + i * 3 + 1, none⟩ = some (.int .i64 l[i].n) ∧ w.cell? ⟨b, off + i * 3 + 2, none⟩ = some l[i].kv := by
  obtain ⟨a, cap, rfl, _, hl⟩ := h
  obtain ⟨b, off, rfl, hb, h1, h2, h3⟩ := hl i _ (List.getElem?_eq_getElem hi)
  exact ⟨b, off, cap, rfl, hb, by rw [ho.cell hb]; exact h1, by rw [ho.cell hb]; exact h2, by rw [ho.cell hb]; exact h3⟩

theorem OpsIn.form {W : World} {v : Value} {l : List Op3} (h : OpsIn W v l) : ∃ a cap, v = .slice a l.length cap ∧ l.length ≤ 9223372036854775807 := by
  obtain ⟨a, cap, rfl, hl, _⟩ := h
  exact ⟨a, cap, rfl, hl⟩

/-- what Size has counted after i rounds -/
noncomputable def cntTo (W : World) (f : Nat) (l : List Op3) (i : Nat) : Nat := ((l.take i).map fun o => 1 + cnt W f o.kv).sum
noncomputable def depTo (W : World) (f : Nat) (l : List Op3) (i : Nat) : Nat := (l.take i).foldl (fun d o => max d (dep W f o.kv)) 0

theorem cntTo_succ (W : World) (f : Nat) (l : List Op3) (i : Nat) (h : i < l.length) : cntTo W f l (i + 1) = cntTo W f l i + 1 + cnt W f l[i].kv := by
  unfold cntTo
  rw [List.take_succ_eq_append_getElem h, List.map_append, List.sum_append_nat, List.map_cons, List.map_nil, List.sum_cons, List.sum_nil]
  omega
theorem depTo_succ (W : World) (f : Nat) (l : List Op3) (i : Nat) (h : i < l.length) : depTo W f l (i + 1) = max (depTo W f l i) (dep W f l[i].kv) := by
  unfold depTo
  rw [List.take_succ_eq_append_getElem h, List.foldl_append]
  rfl
theorem cntTo_le (W : World) (f : Nat) (l : List Op3) (i : Nat) : cntTo W f l i ≤ (l.map fun o => 1 + cnt W f o.kv).sum := by
  unfold cntTo
  have h : (l.map fun o => 1 + cnt W f o.kv).sum = ((l.take i).map fun o => 1 + cnt W f o.kv).sum + ((l.drop i).map fun o => 1 + cnt W f o.kv).sum := by
    rw [← List.sum_append_nat, ← List.map_append, List.take_append_drop]
  omega
theorem depTo_le (W : World) (f : Nat) (l : List Op3) (i : Nat) : depTo W f l i ≤ f := by
  have key : ∀ (l : List Op3) (d : Nat), d ≤ f → l.foldl (fun d o => max d (dep W f o.kv)) d ≤ f := by
    intro l
    induction l with
    | nil => intro d hd; exact hd
    | cons o l ihl => intro d hd; exact ihl _ (Nat.max_le.2 ⟨hd, dep_le W f o.kv⟩)
  exact key _ 0 (Nat.zero_le _)

set_option maxHeartbeats 800000 in
theorem size_tree (W : World) : ∀ (f : Nat) (v : Value) (w : World), Tree W f v → Old W w → cnt W f v ≤ 2000000 → f ≤ 2000000 →
    Calls Try.prog 45 #[v] w fun e w' => e = .returned (.tuple #[.int .i64 (cnt W f v), .int .i64 (dep W f v)]) ∧ w = w' := by
  intro f
  induction f with
  | zero => intro v w h; exact h.elim
  | succ f ih =>
    intro v w ht ho hc hf
    obtain ⟨hin, hk⟩ := ht
    obtain ⟨a, cap, hv, hlen⟩ := hin.form
    have hce : cnt W (f + 1) v = ((ops W v).map fun o => 1 + cnt W f o.kv).sum := rfl
    have hde : dep W (f + 1) v = depTo W f (ops W v) (ops W v).length + 1 := by unfold depTo; rw [List.take_length]; rfl
    have hce2 : cnt W (f + 1) v = cntTo W f (ops W v) (ops W v).length := by unfold cntTo; rw [List.take_length]; rfl
    rw [hde, hce2]
    rw [hce] at hc
    generalize hl : ops W v = l at *
    subst hv
    have HIN := Lib.hid hin
    have HK := Lib.hid hk
    have HO := Lib.hid ho
    have IH := Lib.hid ih
    clear hin hk ho ih hl hce hde hce2
    go_enter Try.func45, Try.ntmps45
    go_wp2_with fail
    go_loop [4, 5, 6] (fun n d i => ∃ k : Nat, k ≤ l.length ∧ i = .int .i64 k ∧ n = .int .i64 (cntTo W f l k) ∧ d = .int .i64 (depTo W f l k)) (fun _ _ i => l.length - (intOf i).toNat)
    case atStart => exact ⟨0, Nat.zero_le _, rfl, rfl, rfl⟩
    case round =>
      obtain ⟨k, hk, rfl, rfl, rfl⟩ := hrel
      by_cases hlt : k < l.length
      · obtain ⟨b, off, cap', e, hb, c0, c1, c2⟩ := HIN.out.at HO.out hlt
        simp only [Value.slice.injEq, true_and] at e
        obtain ⟨rfl, rfl⟩ := e
        have hs := cntTo_succ W f l k hlt
        have hd := depTo_succ W f l k hlt
        have hsl := cntTo_le W f l (k + 1)
        have hd1 := depTo_le W f l k
        have hd2 := dep_le W f l[k].kv
        have HC := Lib.hid (IH.out l[k].kv w (HK.out _ (List.getElem_mem hlt)) HO.out (by omega) (by omega))
        have HS := Lib.hid hs
        have HD := Lib.hid hd
        have hb1 : cntTo W f l k + 1 + cnt W f l[k].kv ≤ 2000000 := by omega
        clear hs hd hsl
        generalize cnt W f l[k].kv = cc at *
        generalize dep W f l[k].kv = dd at *
        generalize l[k].kv = kk at *
        go_wp2_with fail
        refine HC.out.mono ?_
        rintro e w' ⟨rfl, rfl⟩
        go_wp2_with fail
        go_round
        case rel => exact ⟨k + 1, by omega, by go_num, by rw [HS.out]; go_num, by rw [HD.out]; go_num⟩
        case measure => simp [intOf]; omega
      · obtain rfl : k = l.length := by omega
        have hd1 := depTo_le W f l l.length
        go_wp2_with fail
        go_ret2
        exact ⟨rfl, rfl⟩

theorem great_yes (W : World) (f : Nat) (v : Value) (w : World) (ht : Tree W f v) (ho : Old W w) (hc : cnt W f v ≤ 2000000) (hf : f ≤ 2000000) (hg : 60 < cnt W f v ∨ 8 < dep W f v) :
    Calls Try.prog 12 #[v] w fun e w' => e = .returned (.bool true) ∧ w = w' := by
  have HC := Lib.hid (size_tree W f v w ht ho hc hf)
  have hd := dep_le W f v
  clear ht ho
  generalize cnt W f v = c at *
  generalize dep W f v = d at *
  by_cases h1 : 60 < c
  · go_enter Try.func12, Try.ntmps12
    go_wp2_with fail
    refine HC.out.mono ?_
    rintro e w' ⟨rfl, rfl⟩
    go_wp2_with fail
    go_ret
    exact ⟨rfl, rfl⟩
  · have h2 : 8 < d := by omega
    clear hg
    go_enter Try.func12, Try.ntmps12
    go_wp2_with fail
    refine HC.out.mono ?_
    rintro e w' ⟨rfl, rfl⟩
    go_wp2_with fail
    go_ret
    exact ⟨by simp; omega, rfl⟩

theorem great_no (W : World) (f : Nat) (v : Value) (w : World) (ht : Tree W f v) (ho : Old W w) (hf : f ≤ 2000000) (hc : cnt W f v ≤ 60) (hd8 : dep W f v ≤ 8) :
    Calls Try.prog 12 #[v] w fun e w' => e = .returned (.bool false) ∧ w = w' := by
  have HC := Lib.hid (size_tree W f v w ht ho (by omega) hf)
  clear ht ho
  generalize cnt W f v = c at *
  generalize dep W f v = d at *
  go_enter Try.func12, Try.ntmps12
  go_wp2_with fail
  refine HC.out.mono ?_
  rintro e w' ⟨rfl, rfl⟩
  go_wp2_with fail
  go_ret
  exact ⟨by simp; omega, rfl⟩

end Go.Proofs.Ytlcbfjcfkknmgaa
