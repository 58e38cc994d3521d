/- ObjectChecks, proved for every input: the call returns true and every argument reads as before; the listed variables are tied to the program's text (the card). No condition beyond the row's own. The texts before this one are pressed by a program: short names, no comments. -/
import Derived.Test.YtadecgbblajifaaGreatDoorC26
set_option linter.unusedSimpArgs false
set_option linter.unusedVariables false
set_option maxRecDepth 100000
set_option maxHeartbeats 25600000
namespace Go.Proofs.YtadecgbblajifaaGreatDoor
end Go.Proofs.YtadecgbblajifaaGreatDoor
namespace Go.Proofs.YtadecgbblajifaaGreatDoor.objectChecks
open Go.ChangeShapes Go.WideShapes Go.ChangeAt Go.RowKit Go.Deep
theorem over:Rows.ObjectChecksSaid :=
 OpenClaim.holds_of_wide 4 Tryz.f4 rfl rfl rfl rfl rfl rfl rfl ⟨rfl,rfl,rfl,rfl,rfl⟩ rfl rfl rfl rfl rfl Dt Tryz.func4 K5 Nt Nu
  (λos started H enc _=>lifted os started H enc)
theorem proved:Rows.ObjectChecksCardSaid :=
 Claim7.holds_tied_plain_at .later [] [.data,.data,.data,.data,.data,.sentinel,.sentinel] true Rows.objectChecksCard.stood.harness true
  over (λ_ h=>by cases h) OL (λ_ h=>by cases h) objectChecks_row_tie rfl ⟨rfl,rfl⟩ Nv rfl
  (λf fn hf hfn=>by
   obtain rfl:f=4:=Option.some.inj (Dt.symm.trans hf) |>.symm
   obtain rfl:fn=Tryz.f4:=(Option.some.inj (Tryz.func4.symm.trans hfn)).symm
   exact⟨MB,λj t ht=>by
    rw[Tryz.params4]at ht
    have hm:t∈[39]:=by simpa using Array.mem_of_getElem? ht
    exact(show Tryz.pinned.checked.prog.wantsStandIn t=false by simpa using List.all_eq_true.1 MC t hm)⟩)
  Ny
#print axioms proved
end Go.Proofs.YtadecgbblajifaaGreatDoor.objectChecks
namespace Go.Proofs.YtadecgbblajifaaGreatDoor
end Go.Proofs.YtadecgbblajifaaGreatDoor
