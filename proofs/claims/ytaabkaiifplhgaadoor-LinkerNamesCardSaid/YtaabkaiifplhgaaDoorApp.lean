/- append as an equation: what it yields and the world behind it, under names, so that a region that draws its order can be run by rewriting. -/
import Derived.Test.YtaabkaiifplhgaaDoorGen
namespace Go.Proofs.YtaabkaiifplhgaaDoor
set_option linter.unusedSimpArgs false
set_option linter.unusedVariables false
open Go.RowKit

/-- what an append yields -/
noncomputable def appV (P : Program) (t ty : TypeId) (v s : Value) (w : World) : Value :=
  match (Builtin.append_ #[t, t] ty #[v, s]).run P w with
  | .ok x _ => x
  | _ => undef
/-- the world behind it -/
noncomputable def appW (P : Program) (t ty : TypeId) (v s : Value) (w : World) : World :=
  match (Builtin.append_ #[t, t] ty #[v, s]).run P w with
  | .ok _ y => y
  | _ => w
/-- it does not fail -/
def AppOK (P : Program) (t ty : TypeId) (v s : Value) (w : World) : Prop := ∃ x y, (Builtin.append_ #[t, t] ty #[v, s]).run P w = .ok x y

theorem run_app {P : Program} {t ty : TypeId} {v s : Value} {w : World} (h : AppOK P t ty v s w) : (Builtin.append_ #[t, t] ty #[v, s]).run P w = .ok (appV P t ty v s w) (appW P t ty v s w) := by
  obtain ⟨x, y, h⟩ := h
  simp only [appV, appW, h]

/-- .. at the operation -/
theorem run_appOp {P : Program} {ρ : Operand → Value} {d : Option Tmp} {s x : Operand} {t ty : TypeId} {pos : String} {af : Array Edge} {gd : Option (Nat × Bool)} {w : World} (h : AppOK P t ty (ρ s) (ρ x) w) :
    (execOp ρ { dst := d, op := .call { callee := .builtin .append, args := #[s, x], argTypes := #[t, t] }, type := ty, pos := pos, after := af, guard := gd }).run P w = .ok (.value (appV P t ty (ρ s) (ρ x) w)) (appW P t ty (ρ s) (ρ x) w) := by
  have hr := run_app h
  unfold execOp
  simp only [resolve, invoke, builtin, Sem.run_bind, Sem.run_pure, Result.andThen_ok, List.map_toArray, List.map_cons, List.map_nil, hr]

theorem app_of {P : Program} {t ty : TypeId} {v s x : Value} {w y : World} (h : (Builtin.append_ #[t, t] ty #[v, s]).run P w = .ok x y) : AppOK P t ty v s w ∧ appV P t ty v s w = x ∧ appW P t ty v s w = y :=
  ⟨⟨x, y, h⟩, by simp only [appV, h], by simp only [appW, h]⟩

end Go.Proofs.YtaabkaiifplhgaaDoor
