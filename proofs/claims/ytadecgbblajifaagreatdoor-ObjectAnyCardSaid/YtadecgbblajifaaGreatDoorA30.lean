/- ObjectAny, proved for every input: the call returns true and every argument reads as before; the listed variables are tied to the program's text (the card). No condition beyond the row's own. The texts before this one are pressed by a program: short names, no comments. -/
import Derived.Test.YtadecgbblajifaaGreatDoorA29
set_option linter.unusedSimpArgs false
set_option linter.unusedVariables false
set_option maxRecDepth 100000
set_option maxHeartbeats 25600000
namespace Go.Proofs.YtadecgbblajifaaGreatDoor
end Go.Proofs.YtadecgbblajifaaGreatDoor
namespace Go.Proofs.YtadecgbblajifaaGreatDoor.objectAny
open Go.ChangeShapes Go.WideShapes Go.ChangeAt Go.RowKit Go.Deep
theorem over:Rows.ObjectAnySaid :=
 OpenClaim.holds_of_wide 7 Tryz.f7 rfl rfl rfl rfl rfl rfl rfl ⟨rfl,rfl,rfl,rfl,rfl⟩ rfl rfl rfl rfl rfl Ku Tryz.func7 U7 Xj Xk
  (λos started H enc _=>lifted os started H enc)
theorem proved:Rows.ObjectAnyCardSaid :=
 Claim7.holds_tied_plain_at .later [] [.data,.data,.data,.data,.data,.sentinel,.sentinel] true Rows.objectAnyCard.stood.harness true
  over (λ_ h=>by cases h) ZA (λ_ h=>by cases h) objectAny_row_tie rfl ⟨rfl,rfl⟩ Xl rfl
  (λf fn hf hfn=>by
   obtain rfl:f=7:=Option.some.inj (Ku.symm.trans hf) |>.symm
   obtain rfl:fn=Tryz.f7:=(Option.some.inj (Tryz.func7.symm.trans hfn)).symm;exact⟨Wy,λj t ht=>by
    rw[Tryz.params7]at ht;have hm:t∈[51]:=by simpa using Array.mem_of_getElem? ht
    exact(show Tryz.pinned.checked.prog.wantsStandIn t=false by simpa using List.all_eq_true.1 Wz t hm)⟩)
  Xm
#print axioms proved
end Go.Proofs.YtadecgbblajifaaGreatDoor.objectAny
namespace Go.Proofs.YtadecgbblajifaaGreatDoor
end Go.Proofs.YtadecgbblajifaaGreatDoor
