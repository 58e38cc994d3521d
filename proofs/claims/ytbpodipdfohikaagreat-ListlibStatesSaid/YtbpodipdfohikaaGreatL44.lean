/- ListlibStates, proved for every input: the call returns true and every argument reads as before. No condition beyond the row's own. The texts before this one are pressed by a program: short names, no comments. -/
import Derived.Test.YtbpodipdfohikaaGreatL43
import Derived.ProofKit
import Derived.ShutString
import Derived.ChangeOld
set_option linter.unusedSimpArgs false
set_option linter.unusedVariables false
set_option maxRecDepth 100000
set_option maxHeartbeats 25600000
namespace Go.Proofs.YtbpodipdfohikaaGreat
end Go.Proofs.YtbpodipdfohikaaGreat
namespace Go.Proofs.YtbpodipdfohikaaGreat.listlibStates
open Go.ChangeShapes Go.WideShapes Go.ChangeAt Go.RowKit
open Go.ChangeMaps (open_string shut_string)
theorem own : ownKnob Tryz.prog.godebug = none := by kernel_rfl
theorem laidOut : laidOutB Tryz.prog = true := by kernel_rfl
theorem walk (a0 : Option Addr) (qy cap0 : Nat) (z0 : List Int) (a1 : Option Addr) (qz oL : Nat) (z1 : List Int) (w : World) (w0 : rT .i64 w a0 qy cap0 z0) (w1 : rT .i64 w a1 qz oL z1) :
    Calls Tryz.prog 6 #[.slice a0 qy cap0, .slice a1 qz oL] w λe w' => e = .returned (.bool true) /\ Below w.heap.size w w' :=
  OX a0 qy cap0 z0 a1 qz oL z1 w w0 w1
set_option maxRecDepth 100000 in
theorem lifted (os : Os) (started : os.Started) (H : Type) (enc : TypeId × Value -> H) :
    ReturnsInHanded {} Tryz.checked os 6 .any (Rows.listlibStatesSpec.pre6 enc Tryz.prog Tryz.f6 Rows.listlibStatesRow.domain false) (Rows.listlibStatesSpec.post enc Tryz.prog Tryz.f6 false true false false) := by
  refine returnsInHanded_of_change (C := Tryz.checked) own started (by kernel_rfl) Tryz.func6
    (ChangeSpec.witness6 (enc := enc) (C := Tryz.checked) false ⟨#[], #[.slice none 0 0, .slice none 0 0], []⟩ 8 (by kernel_rfl) (by kernel_rfl) (by kernel_rfl) (by kernel_rfl)) ?_
  intro W base args ds gs before hval0 hW hcnd _
  have hval : ∀ (j : Nat) t v, Tryz.f6.params[j]? = some t -> args[j]? = some v -> Value.okWide Tryz.prog W .any base t v := hval0
  have hW' := hW
  obtain⟨p, q, oM, hV, rfl, hfz, hnd⟩ := hW
  have hA : DataW.TrodAll enc Tryz.prog W 0 (λ_ => true) true Tryz.f6.params.toList args.toList ds p := oM
  rw[Tryz.params6]at hA hval
  obtain⟨v0, YO, d0, ds0, p0, q0, hargs, rfl, rfl, h0, r0⟩ := trodAll_cons hA
  obtain⟨v1, vs1, d1, ds1, p1, q1, rfl, rfl, rfl, h1, r1⟩ := trodAll_cons r0
  obtain⟨rfl, rfl, rfl⟩ := trodAll_nil r1
  obtain rfl : args = #[v0, v1] := by cases args; simp_all
  obtain⟨rfl, rfl⟩ := trodVars_none hV
  obtain⟨a0, qy, cap0, rfl⟩ := okWide_slice Tryz.underlying22 (hval 0 22 v0 rfl rfl)
  have k0 := h0
  have Xi : ∀ x ∈ p0, x.block < W.heap.size := by obtain⟨m, hm⟩ := k0; exact DataW.trod_lt m _ _ _ hm
  obtain⟨z0, w0⟩ : ∃ zs, rT .i64 W a0 qy cap0 zs := by
    obtain⟨fuel, hf⟩ := h0
    rcases open_ints Tryz.underlying22 Tryz.underlying3 (by kernel_rfl) hf with⟨hcs, _⟩|⟨x, l, c, zs, hcs, _, hl, hm, hz, _, hcell, hwz⟩
    · simp[Value.cells]at hcs
      obtain⟨rfl, rfl, rfl⟩ := hcs
      exact⟨[], .inl ⟨rfl, rfl, rfl, rfl⟩⟩
    · simp[Value.cells]at hcs
      obtain⟨rfl, rfl, rfl⟩ := hcs
      exact⟨zs, .inr ⟨_, rfl, hl, hm, by simpa using hz, hcell, hwz⟩⟩
  obtain⟨a1, qz, oL, rfl⟩ := okWide_slice Tryz.underlying22 (hval 1 22 v1 rfl rfl)
  have k1 := h1
  have Xj : ∀ x ∈ p1, x.block < W.heap.size := by obtain⟨m, hm⟩ := k1; exact DataW.trod_lt m _ _ _ hm
  obtain⟨z1, w1⟩ : ∃ zs, rT .i64 W a1 qz oL zs := by
    obtain⟨fuel, hf⟩ := h1
    rcases open_ints Tryz.underlying22 Tryz.underlying3 (by kernel_rfl) hf with⟨hcs, _⟩|⟨x, l, c, zs, hcs, _, hl, hm, hz, _, hcell, hwz⟩
    · simp[Value.cells]at hcs
      obtain⟨rfl, rfl, rfl⟩ := hcs
      exact⟨[], .inl ⟨rfl, rfl, rfl, rfl⟩⟩
    · simp[Value.cells]at hcs
      obtain⟨rfl, rfl, rfl⟩ := hcs
      exact⟨zs, .inr ⟨_, rfl, hl, hm, by simpa using hz, hcell, hwz⟩⟩
  clear oM hval0
  refine(walk a0 qy cap0 z0 a1 qz oL z1 W w0 w1).mono λe W' ⟨he, Gj⟩ => ?_
  subst he
  exact⟨_, rfl, _, _, _, [], _, [], hW', trodAll_mk1 (shut_bool Tryz.underlying4 _), (trodAll_cons_mk (Below.trod laidOut (by kernel_rfl) (of_decide_eq_true (by kernel_rfl)) k0 Gj Xi) (trodAll_cons_mk (Below.trod laidOut (by kernel_rfl) (of_decide_eq_true (by kernel_rfl)) k1 Gj Xj) trodAll_mk0)), rfl, Gj.frame _, λh => by cases h⟩
theorem over : Rows.listlibStatesRow.holds Tryz.pinned (OpenSpec.ofChange Rows.listlibStatesSpec) :=
  OpenClaim.holds_of_wide 6 Tryz.f6 rfl rfl rfl rfl rfl rfl rfl ⟨rfl, rfl, rfl, rfl, rfl⟩ rfl rfl rfl rfl rfl (by kernel_rfl) Tryz.func6 (by kernel_rfl)
    (of_decide_eq_true (by kernel_rfl)) (by unfold Func.isWrapper; first|(rw[if_pos (by decide +kernel)]; kernel_rfl)|(rw[if_neg (by decide +kernel)]; exact⟨rfl, rfl⟩))
    (λos started H enc _ => lifted os started H enc)
theorem proved : Rows.ListlibStatesSaid := over
#print axioms proved
end Go.Proofs.YtbpodipdfohikaaGreat.listlibStates
namespace Go.Proofs.YtbpodipdfohikaaGreat
end Go.Proofs.YtbpodipdfohikaaGreat
