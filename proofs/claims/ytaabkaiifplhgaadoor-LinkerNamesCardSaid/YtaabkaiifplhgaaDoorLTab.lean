/- The listed table isa.table: what the condition gives the walks, and a start that meets it. -/
import Derived.Test.YtaabkaiifplhgaaDoorLOpen
import Derived.Test.YtaabkaiifplhgaaDoorTie
import Derived.LaidMore
import Derived.JoinedTies
import Derived.ChangeSame
import Derived.JoinedOf
import Derived.Stop.Joined
namespace Go.Proofs.YtaabkaiifplhgaaDoor
set_option linter.unusedSimpArgs false
set_option linter.unusedVariables false
open Go.ChangeShapes Go.WideShapes Go.RowKit

abbrev laidList : List (String × DataW Unit) := [("backstep/isa.table", Rows.laid_backstep_isa_table)]

theorem Tryd.gTable : Tryd.prog.globalNamed "backstep/isa.table" = some 0 := by kernel_rfl
theorem Tryd.tTable : (Tryd.prog.globals[0]?).map (·.type) = some 111 := by kernel_rfl
theorem Tryd.cellsRow : Tryd.prog.cellsOf 110 = 2 := by kernel_rfl
theorem Tryd.cellsTab : Tryd.prog.cellsOf 111 = 70 := by kernel_rfl

theorem tab_datum {H : Type} : ∃ l : List (DataW H), Rows.laid_backstep_isa_table = .agg l ∧ ∀ i, i < 35 → ∃ s, l[i]? = some (.agg [.lit (.string s), .lit (.int .i64 (opnds.getD i 0))]) := by
  refine ⟨_, rfl, fun i hi => ?_⟩
  match i, hi with
  | 0, _ => exact ⟨_, rfl⟩
  | 1, _ => exact ⟨_, rfl⟩
  | 2, _ => exact ⟨_, rfl⟩
  | 3, _ => exact ⟨_, rfl⟩
  | 4, _ => exact ⟨_, rfl⟩
  | 5, _ => exact ⟨_, rfl⟩
  | 6, _ => exact ⟨_, rfl⟩
  | 7, _ => exact ⟨_, rfl⟩
  | 8, _ => exact ⟨_, rfl⟩
  | 9, _ => exact ⟨_, rfl⟩
  | 10, _ => exact ⟨_, rfl⟩
  | 11, _ => exact ⟨_, rfl⟩
  | 12, _ => exact ⟨_, rfl⟩
  | 13, _ => exact ⟨_, rfl⟩
  | 14, _ => exact ⟨_, rfl⟩
  | 15, _ => exact ⟨_, rfl⟩
  | 16, _ => exact ⟨_, rfl⟩
  | 17, _ => exact ⟨_, rfl⟩
  | 18, _ => exact ⟨_, rfl⟩
  | 19, _ => exact ⟨_, rfl⟩
  | 20, _ => exact ⟨_, rfl⟩
  | 21, _ => exact ⟨_, rfl⟩
  | 22, _ => exact ⟨_, rfl⟩
  | 23, _ => exact ⟨_, rfl⟩
  | 24, _ => exact ⟨_, rfl⟩
  | 25, _ => exact ⟨_, rfl⟩
  | 26, _ => exact ⟨_, rfl⟩
  | 27, _ => exact ⟨_, rfl⟩
  | 28, _ => exact ⟨_, rfl⟩
  | 29, _ => exact ⟨_, rfl⟩
  | 30, _ => exact ⟨_, rfl⟩
  | 31, _ => exact ⟨_, rfl⟩
  | 32, _ => exact ⟨_, rfl⟩
  | 33, _ => exact ⟨_, rfl⟩
  | 34, _ => exact ⟨_, rfl⟩
  | n + 35, h => exact absurd h (by omega)

set_option maxRecDepth 100000 in
theorem tab_of_laid {W : World} (h : laidMetH Tryd.prog laidList W) : TabOk W := by
  rw [MakeChecks.laidMetH_plain _ _ _ (by kernel_rfl)] at h
  obtain ⟨ps, ⟨g0, t0, cs0, f0, p0, q0, hg0, ht0, hv0, hd0, _, _⟩, _⟩ := h
  obtain rfl := Option.some.inj (Tryd.gTable.symm.trans hg0)
  obtain rfl := Option.some.inj (Tryd.tTable.symm.trans ht0)
  obtain ⟨l, hl, hli⟩ := tab_datum (H := Unit)
  rw [hl] at hd0
  obtain ⟨xs, m1, rfl, hx1, hlen, hn3, hel⟩ := DataW.trod_array Tryd.underlying111 hd0
  simp only [Prod.mk.injEq, DataW.agg.injEq] at hx1
  intro k hk
  obtain ⟨s, hs⟩ := hli k hk
  have hek := hel k hk
  rw [hx1.1, List.getElem?_map] at hs
  cases hxk : xs[k]? with
  | none => rw [hxk] at hs; simp at hs
  | some x =>
    rw [hxk] at hs hek
    simp only [Option.map_some, Option.some.injEq] at hs
    obtain ⟨ys, m2, rfl, hx2, hcl, hyl, hf⟩ := DataW.trod_struct Tryd.underlying110 hek
    match ys, hyl with
    | [y0, y1], _ =>
      have f1 := hf 1 _ rfl
      obtain ⟨n, e1, e2, _⟩ := DataW.trod_int Tryd.underlying3 (show DataW.trod _ _ _ _ _ _ _ _ _ = some y1 from f1)
      rw [hx2] at hs
      simp only [List.map_cons, List.map_nil, DataW.agg.injEq, List.cons.injEq, and_true] at hs
      have hn : n = opnds.getD k 0 := by
        have := hs.2
        rw [e2] at this
        simpa using this
      rw [World.var?_cell hg0 hv0 (k * 2 + 1)]
      have c1 : Tryd.prog.cellsOf 3 = 1 := Tryd.cellsInt
      have h3 : (cs0.toList.drop (k * 2))[1]? = some (.int .i64 n) := by
        have h4 := congrArg (fun t => t[0]?) e1
        simp only [Tryd.cellsRow, c1] at h4
        simp [List.getElem?_drop, List.getElem?_take] at h4
        simpa [List.getElem?_drop] using h4.2
      rw [List.getElem?_drop] at h3
      rw [← hn]
      simpa using h3

/-- The door's own heap meets the condition. -/
theorem door_met (os : Os) (args : Array Value) : laidMetH Tryd.prog laidList ((World.doorLaid Tryd.prog 400 os).forCall (fun _ _ => 0) ⟨#[], args, []⟩).memory :=
  laidMetH_of_parts3 (fuel := 8) (laidMet_of_run' 8 (by kernel_rfl) (by kernel_rfl)) (by kernel_rfl) (by kernel_rfl)

end Go.Proofs.YtaabkaiifplhgaaDoor
