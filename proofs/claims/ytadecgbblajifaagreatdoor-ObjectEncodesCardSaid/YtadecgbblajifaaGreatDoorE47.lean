/- ObjectEncodes, proved for every input: the call returns true and every argument reads as before; the listed variables are tied to the program's text (the card). No condition beyond the row's own. The texts before this one are pressed by a program: short names, no comments. -/
import Derived.Test.YtadecgbblajifaaGreatDoorE46
set_option linter.unusedSimpArgs false
set_option linter.unusedVariables false
set_option maxRecDepth 100000
set_option maxHeartbeats 25600000
namespace Go.Proofs.YtadecgbblajifaaGreatDoor
end Go.Proofs.YtadecgbblajifaaGreatDoor
namespace Go.Proofs.YtadecgbblajifaaGreatDoor.objectEncodes
open Go.ChangeShapes Go.WideShapes Go.ChangeAt Go.RowKit Go.Deep
theorem over:Rows.ObjectEncodesSaid :=
 OpenClaim.holds_of_wide 5 Tryz.f5 rfl rfl rfl rfl rfl rfl rfl ⟨rfl,rfl,rfl,rfl,rfl⟩ rfl rfl rfl rfl rfl QH Tryz.func5 _H abZ ab0
  (λos started H enc _=>lifted os started H enc)
theorem proved:Rows.ObjectEncodesCardSaid :=
 Claim7.holds_tied_plain_at .later [] [.data,.data,.data,.data,.data,.sentinel,.sentinel] true Rows.objectEncodesCard.stood.harness true
  over (λ_ h=>by cases h) fWf (λ_ h=>by cases h) objectEncodes_row_tie rfl ⟨rfl,rfl⟩ ab1 rfl
  (λf fn hf hfn=>by
   obtain rfl:f=5:=Option.some.inj (QH.symm.trans hf) |>.symm
   obtain rfl:fn=Tryz.f5:=(Option.some.inj (Tryz.func5.symm.trans hfn)).symm
   exact⟨aa4,λj t ht=>by
    rw[Tryz.params5]at ht
    have hm:t∈[39]:=by simpa using Array.mem_of_getElem? ht
    exact(show Tryz.pinned.checked.prog.wantsStandIn t=false by simpa using List.all_eq_true.1 aa5 t hm)⟩)
  ab2
#print axioms proved
end Go.Proofs.YtadecgbblajifaaGreatDoor.objectEncodes
namespace Go.Proofs.YtadecgbblajifaaGreatDoor
end Go.Proofs.YtadecgbblajifaaGreatDoor
