/- linker.Link: the walk. -/
import Derived.Test.YtaabkaiifplhgaaDoorLLink
namespace Go.Proofs.YtaabkaiifplhgaaDoor
set_option linter.unusedSimpArgs false
set_option linter.unusedVariables false
open Go.RowKit Go.Instr

attribute [local go_sem ↓] run_appOp

/-- what Link hands back -/
def Linked (w : World) (d : ImgD) (e : Ending) (w' : World) : Prop :=
  ∃ cv sv, e = .returned (.tuple #[.agg #[cv, .int .i64 d.mem, .int .i64 d.stacks], sv, .int .i64 d.err]) ∧ Grow w w' ∧ RowAt 5 Ins.cells w' cv d.code ∧ RowAt 2 SymD.cells w' sv d.syms

theorem img_cells {w : World} {X : Nat} {a b c : Value} (h : w.heap[X]? = some (.cells #[a, b, c] 36 (0, 0))) : w.cell? ⟨X, 0, none⟩ = some a ∧ w.cell? ⟨X, 1, none⟩ = some b ∧ w.cell? ⟨X, 2, none⟩ = some c ∧ ∀ i, w.frozen? ⟨X, i, none⟩ = false := by
  refine ⟨?_, ?_, ?_, fun i => ?_⟩
  · simp [World.cell?, h]
  · simp [World.cell?, h]
  · simp [World.cell?, h]
  · simp [World.frozen?, h]

theorem set3 {w : World} {X : Nat} {a b c : Value} {t : TypeId} (h : w.heap[X]? = some (.cells #[a, b, c] t (0, 0))) (p q r : Value) :
    (((w.setCell ⟨X, 0, none⟩ p).setCell ⟨X, 1, none⟩ q).setCell ⟨X, 2, none⟩ r).heap[X]? = some (.cells #[p, q, r] t (0, 0)) ∧ Mv (fun b => b = X) w (((w.setCell ⟨X, 0, none⟩ p).setCell ⟨X, 1, none⟩ q).setCell ⟨X, 2, none⟩ r) := by
  constructor
  · have h1 := block_setCell (p := ⟨X, 0, none⟩) h rfl p
    have h2 := block_setCell (p := ⟨X, 1, none⟩) h1 rfl q
    have h3 := block_setCell (p := ⟨X, 2, none⟩) h2 rfl r
    simpa using h3
  · exact ((((Mv.refl (fun b => b = X) w).setCell (p := ⟨X, 0, none⟩) (.inl rfl) p).setCell (p := ⟨X, 1, none⟩) (.inl rfl) q).setCell (p := ⟨X, 2, none⟩) (.inl rfl) r)

set_option maxRecDepth 100000 in
set_option maxHeartbeats 8000000 in
theorem link_err (o : ObjV) (pv : Value) (procs : List ObjV) (w : World) (ht : TabOk w) (ho : ObjAt w o) (hp : ObjsAt w pv procs) (hfew : FewO o.d (procs.map (·.d))) (herr : linkErr o.d (procs.map (·.d)) ≠ 0) :
    Calls Tryd.prog 11 #[o.val, pv] w (Linked w (linkD o.d (procs.map (·.d)))) := by
  obtain ⟨pa, pcap, rfl, hpcap, hplen⟩ := hp.row.form
  obtain ⟨y1, y2, y3, y4, y5, y6, y7, y8, ⟨hy1, hy2, hy3, hy4⟩, -, hrcap, hrlen⟩ := ho.slices
  have HLD := Lib.hid (show linkD o.d (procs.map (·.d)) = ⟨[], 0, 0, [], linkErr o.d (procs.map (·.d))⟩ from if_pos herr)
  have hg0 : Grow w ((w.alloc (.cells #[.string o.d.name, o.pv, o.sv, .int .i64 o.d.cells, .int .i64 o.d.stacks, o.cv, o.rv] 31)).alloc (.cells #[.slice none 0 0, .int .i64 0, .int .i64 0] 36)) := ((Mv.refl _ _).alloc _).alloc _
  have HLK := Lib.hid (linkable_any o _ procs _ (ht.later hg0) (ho.later hg0) (hp.later hg0) hfew.refs)
  have hbI := heap_alloc_new (w.alloc (.cells #[.string o.d.name, o.pv, o.sv, .int .i64 o.d.cells, .int .i64 o.d.stacks, o.cv, o.rv] 31)) (.cells #[.slice none 0 0, .int .i64 0, .int .i64 0] 36)
  rw [World.size_alloc] at hbI
  have HBI := Lib.hid hbI
  have HG0 := Lib.hid hg0
  clear ho hp hfew ht hg0 hbI
  obtain ⟨⟨s, ps, ss, cl, st, co, rf⟩, qv, sv, cv, rv⟩ := o
  simp only at hy1 hy2 hy3 hy4 hrcap hrlen
  subst hy1 hy2 hy3 hy4
  generalize linkErr ⟨s, ps, ss, cl, st, co, rf⟩ (procs.map (·.d)) = le at *
  have hle : (le != 0) = true := by simpa using herr
  clear herr
  go_enter Tryd.func11, Tryd.ntmps11
  go_wp2_with fail
  refine HLK.out.mono ?_
  rintro e w2 ⟨rfl, hm2⟩
  have hs2 := hm2.size
  simp only [World.size_alloc] at hs2
  have hI2 : w2.heap[w.heap.size + 1]? = some (.cells #[.slice none 0 0, .int .i64 0, .int .i64 0] 36 (0, 0)) := by
    rw [hm2.block _ (by simp) (fun h => h)]; exact HBI.out
  obtain ⟨i0, i1, i2, iz⟩ := img_cells hI2
  have HGR := Lib.hid (Mv.trans HG0.out hm2 (fun _ e => e.elim))
  obtain ⟨hI3, hmv3⟩ := set3 hI2 (.slice none 0 0) (.int .i64 0) (.int .i64 0)
  have HI3 := Lib.hid hI3
  have HMV3 := Lib.hid hmv3
  clear hm2 hI2 hI3 hmv3
  go_wp2_with fail
  have hI3 := HI3.out
  have hmv3 := HMV3.out
  generalize ((w2.setCell ⟨w.heap.size + 1, 0, none⟩ (.slice none 0 0)).setCell ⟨w.heap.size + 1, 1, none⟩ (.int .i64 0)).setCell ⟨w.heap.size + 1, 2, none⟩ (.int .i64 0) = w3 at *
  obtain ⟨j0, j1, j2, -⟩ := img_cells hI3
  refine bodyPost_ret (v := .tuple #[.agg #[.slice none 0 0, .int .i64 0, .int .i64 0], .slice none 0 0, .int .i64 le]) ?_ rfl ⟨.slice none 0 0, .slice none 0 0, by rw [HLD.out], ?_, by rw [HLD.out]; exact RowAt.nil _ _ _, by rw [HLD.out]; exact RowAt.nil _ _ _⟩
  · simp [results, Tryd.results11, go_sem, j0, j1, j2]
  · exact HGR.out.trans hmv3 (fun x e => .inr (by omega))

end Go.Proofs.YtaabkaiifplhgaaDoor
