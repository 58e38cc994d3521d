/-
  DERIVED. GIVEN WITH THE SEED: THE CARDS: each row of YtadecgbblajifaaGreatDoorRows.lean that lists a variable, with what it lists TIED to the program's text (the seventh form; the later family's looks); each row that meets fmt, with fmt's text TOLD by the authors' own Lean function (tested against real Go, not proved from fmt's source: count such statements apart). THE CARD IS WHAT COUNTS. Prove the row's statement (the work); the ties are given (YtadecgbblajifaaGreatDoorTie.lean); close each card by the builder's one call (the guide's Derived/Test/ToyasCard.lean, 'card_holds'). Laid BY PROGRAM, IN A SANDBOX (cutbox-door.mjs). By AI agents, Wed Nov 11 2026. No macro, syntax, notation, axiom, sorry.
-/
import Derived.Test.YtadecgbblajifaaGreatDoorRows
import GoSem.ClaimSeven
namespace Go.Proofs.YtadecgbblajifaaGreatDoor
namespace Rows

/-- THE TIED CARD OF 'backsteplaw29.ObjectProcs'. -/
def objectProcsCard : Claim7 := { stood := { row := objectProcsRow, standIns := [], harness := (true, "bc85a9f06f4b3d5be3defe6c03a2586d7a304c59de15768871cf731f40bbc958"), looks := true }, kinds := [], alts := [], laidByText := true, laidKinds := [.data, .data, .data, .data, .data, .sentinel, .sentinel], laidTests := true, laidLooks := .later }
def ObjectProcsCardSaid : Prop := Claim7.holds Tryz.pinned (.plain (OpenSpec.ofChange objectProcsSpec)) objectProcsCard

/-- THE TIED CARD OF 'backsteplaw29.ObjectChecks'. -/
def objectChecksCard : Claim7 := { stood := { row := objectChecksRow, standIns := [], harness := (true, "bc85a9f06f4b3d5be3defe6c03a2586d7a304c59de15768871cf731f40bbc958"), looks := true }, kinds := [], alts := [], laidByText := true, laidKinds := [.data, .data, .data, .data, .data, .sentinel, .sentinel], laidTests := true, laidLooks := .later }
def ObjectChecksCardSaid : Prop := Claim7.holds Tryz.pinned (.plain (OpenSpec.ofChange objectChecksSpec)) objectChecksCard

/-- THE TIED CARD OF 'backsteplaw29.ObjectEncodes'. -/
def objectEncodesCard : Claim7 := { stood := { row := objectEncodesRow, standIns := [], harness := (true, "bc85a9f06f4b3d5be3defe6c03a2586d7a304c59de15768871cf731f40bbc958"), looks := true }, kinds := [], alts := [], laidByText := true, laidKinds := [.data, .data, .data, .data, .data, .sentinel, .sentinel], laidTests := true, laidLooks := .later }
def ObjectEncodesCardSaid : Prop := Claim7.holds Tryz.pinned (.plain (OpenSpec.ofChange objectEncodesSpec)) objectEncodesCard

/-- THE TIED CARD OF 'backsteplaw29.ObjectRound'. -/
def objectRoundCard : Claim7 := { stood := { row := objectRoundRow, standIns := [], harness := (true, "bc85a9f06f4b3d5be3defe6c03a2586d7a304c59de15768871cf731f40bbc958"), looks := true }, kinds := [], alts := [], laidByText := true, laidKinds := [.data, .data, .data, .data, .data, .sentinel, .sentinel], laidTests := true, laidLooks := .later }
def ObjectRoundCardSaid : Prop := Claim7.holds Tryz.pinned (.plain (OpenSpec.ofChange objectRoundSpec)) objectRoundCard

/-- THE TIED CARD OF 'backsteplaw29.ObjectAny'. -/
def objectAnyCard : Claim7 := { stood := { row := objectAnyRow, standIns := [], harness := (true, "bc85a9f06f4b3d5be3defe6c03a2586d7a304c59de15768871cf731f40bbc958"), looks := true }, kinds := [], alts := [], laidByText := true, laidKinds := [.data, .data, .data, .data, .data, .sentinel, .sentinel], laidTests := true, laidLooks := .later }
def ObjectAnyCardSaid : Prop := Claim7.holds Tryz.pinned (.plain (OpenSpec.ofChange objectAnySpec)) objectAnyCard

/-- THE TIED CARD OF 'backsteplaw29.ObjectCuts'. -/
def objectCutsCard : Claim7 := { stood := { row := objectCutsRow, standIns := [], harness := (true, "bc85a9f06f4b3d5be3defe6c03a2586d7a304c59de15768871cf731f40bbc958"), looks := true }, kinds := [], alts := [], laidByText := true, laidKinds := [.data, .data, .data, .data, .data, .sentinel, .sentinel], laidTests := true, laidLooks := .later }
def ObjectCutsCardSaid : Prop := Claim7.holds Tryz.pinned (.plain (OpenSpec.ofChange objectCutsSpec)) objectCutsCard

/-- THE TIED CARD OF 'backsteplaw29.ObjectCalls'. -/
def objectCallsCard : Claim7 := { stood := { row := objectCallsRow, standIns := [], harness := (true, "bc85a9f06f4b3d5be3defe6c03a2586d7a304c59de15768871cf731f40bbc958"), looks := true }, kinds := [], alts := [], laidByText := true, laidKinds := [.data, .data, .data, .data, .data, .sentinel, .sentinel], laidTests := true, laidLooks := .later }
def ObjectCallsCardSaid : Prop := Claim7.holds Tryz.pinned (.plain (OpenSpec.ofChange objectCallsSpec)) objectCallsCard

/-- THE TIED CARD OF 'backsteplaw29.ObjectAlone'. -/
def objectAloneCard : Claim7 := { stood := { row := objectAloneRow, standIns := [], harness := (true, "bc85a9f06f4b3d5be3defe6c03a2586d7a304c59de15768871cf731f40bbc958"), looks := true }, kinds := [], alts := [], laidByText := true, laidKinds := [.data, .data, .data, .data, .data, .sentinel, .sentinel], laidTests := true, laidLooks := .later }
def ObjectAloneCardSaid : Prop := Claim7.holds Tryz.pinned (.plain (OpenSpec.ofChange objectAloneSpec)) objectAloneCard

/-- THE SECOND FORM's CARD OF 'backsteplaw29.ObjectProcs'. -/
def objectProcsUptoCard : Claim7 := { stood := { row := objectProcsUptoRow, standIns := [], harness := (true, "bc85a9f06f4b3d5be3defe6c03a2586d7a304c59de15768871cf731f40bbc958"), looks := true }, kinds := [], alts := [], laidByText := true, laidKinds := [.data, .data, .data, .data, .data, .sentinel, .sentinel], laidTests := true, laidLooks := .later }
def ObjectProcsUptoCardSaid : Prop := Claim7.holds Tryz.pinned (.plain (OpenSpec.upto objectProcsSpec)) objectProcsUptoCard

/-- THE SECOND FORM's CARD OF 'backsteplaw29.ObjectChecks'. -/
def objectChecksUptoCard : Claim7 := { stood := { row := objectChecksUptoRow, standIns := [], harness := (true, "bc85a9f06f4b3d5be3defe6c03a2586d7a304c59de15768871cf731f40bbc958"), looks := true }, kinds := [], alts := [], laidByText := true, laidKinds := [.data, .data, .data, .data, .data, .sentinel, .sentinel], laidTests := true, laidLooks := .later }
def ObjectChecksUptoCardSaid : Prop := Claim7.holds Tryz.pinned (.plain (OpenSpec.upto objectChecksSpec)) objectChecksUptoCard

/-- THE SECOND FORM's CARD OF 'backsteplaw29.ObjectEncodes'. -/
def objectEncodesUptoCard : Claim7 := { stood := { row := objectEncodesUptoRow, standIns := [], harness := (true, "bc85a9f06f4b3d5be3defe6c03a2586d7a304c59de15768871cf731f40bbc958"), looks := true }, kinds := [], alts := [], laidByText := true, laidKinds := [.data, .data, .data, .data, .data, .sentinel, .sentinel], laidTests := true, laidLooks := .later }
def ObjectEncodesUptoCardSaid : Prop := Claim7.holds Tryz.pinned (.plain (OpenSpec.upto objectEncodesSpec)) objectEncodesUptoCard

/-- THE SECOND FORM's CARD OF 'backsteplaw29.ObjectRound'. -/
def objectRoundUptoCard : Claim7 := { stood := { row := objectRoundUptoRow, standIns := [], harness := (true, "bc85a9f06f4b3d5be3defe6c03a2586d7a304c59de15768871cf731f40bbc958"), looks := true }, kinds := [], alts := [], laidByText := true, laidKinds := [.data, .data, .data, .data, .data, .sentinel, .sentinel], laidTests := true, laidLooks := .later }
def ObjectRoundUptoCardSaid : Prop := Claim7.holds Tryz.pinned (.plain (OpenSpec.upto objectRoundSpec)) objectRoundUptoCard

/-- THE SECOND FORM's CARD OF 'backsteplaw29.ObjectAny'. -/
def objectAnyUptoCard : Claim7 := { stood := { row := objectAnyUptoRow, standIns := [], harness := (true, "bc85a9f06f4b3d5be3defe6c03a2586d7a304c59de15768871cf731f40bbc958"), looks := true }, kinds := [], alts := [], laidByText := true, laidKinds := [.data, .data, .data, .data, .data, .sentinel, .sentinel], laidTests := true, laidLooks := .later }
def ObjectAnyUptoCardSaid : Prop := Claim7.holds Tryz.pinned (.plain (OpenSpec.upto objectAnySpec)) objectAnyUptoCard

/-- THE SECOND FORM's CARD OF 'backsteplaw29.ObjectCuts'. -/
def objectCutsUptoCard : Claim7 := { stood := { row := objectCutsUptoRow, standIns := [], harness := (true, "bc85a9f06f4b3d5be3defe6c03a2586d7a304c59de15768871cf731f40bbc958"), looks := true }, kinds := [], alts := [], laidByText := true, laidKinds := [.data, .data, .data, .data, .data, .sentinel, .sentinel], laidTests := true, laidLooks := .later }
def ObjectCutsUptoCardSaid : Prop := Claim7.holds Tryz.pinned (.plain (OpenSpec.upto objectCutsSpec)) objectCutsUptoCard

/-- THE SECOND FORM's CARD OF 'backsteplaw29.ObjectCalls'. -/
def objectCallsUptoCard : Claim7 := { stood := { row := objectCallsUptoRow, standIns := [], harness := (true, "bc85a9f06f4b3d5be3defe6c03a2586d7a304c59de15768871cf731f40bbc958"), looks := true }, kinds := [], alts := [], laidByText := true, laidKinds := [.data, .data, .data, .data, .data, .sentinel, .sentinel], laidTests := true, laidLooks := .later }
def ObjectCallsUptoCardSaid : Prop := Claim7.holds Tryz.pinned (.plain (OpenSpec.upto objectCallsSpec)) objectCallsUptoCard

/-- THE SECOND FORM's CARD OF 'backsteplaw29.ObjectAlone'. -/
def objectAloneUptoCard : Claim7 := { stood := { row := objectAloneUptoRow, standIns := [], harness := (true, "bc85a9f06f4b3d5be3defe6c03a2586d7a304c59de15768871cf731f40bbc958"), looks := true }, kinds := [], alts := [], laidByText := true, laidKinds := [.data, .data, .data, .data, .data, .sentinel, .sentinel], laidTests := true, laidLooks := .later }
def ObjectAloneUptoCardSaid : Prop := Claim7.holds Tryz.pinned (.plain (OpenSpec.upto objectAloneSpec)) objectAloneUptoCard
end Rows
end Go.Proofs.YtadecgbblajifaaGreatDoor
