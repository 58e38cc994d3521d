/-
  DERIVED. GIVEN WITH THE SEED: THE CARDS: each row of YtaabkaiifplhgaaDoorRows.lean that lists a variable, with what it lists TIED to the program's text (the seventh form; the later family's looks); each row that meets fmt, with fmt's text TOLD by the authors' own Lean function (tested against real Go, not proved from fmt's source: count such statements apart). THE CARD IS WHAT COUNTS. Prove the row's statement (the work); the ties are given (YtaabkaiifplhgaaDoorTie.lean); close each card by the builder's one call (the guide's Derived/Test/ToyasCard.lean, 'card_holds'). Laid BY PROGRAM, IN A SANDBOX (cutbox-door.mjs). By AI agents, Wed Nov 11 2026. No macro, syntax, notation, axiom, sorry.
-/
import Derived.Test.YtaabkaiifplhgaaDoorRows
import GoSem.ClaimSeven
namespace Go.Proofs.YtaabkaiifplhgaaDoor
namespace Rows

/-- THE TIED CARD OF 'backsteplaw30.LinkerLinks'. -/
def linkerLinksCard : Claim7 := { stood := { row := linkerLinksRow, standIns := [], harness := (true, "a2271f0cbdccda7d8929c3da85a02b424f487c9582ca5659d4caadf205ab8840"), looks := false }, kinds := [], alts := [], laidByText := true, laidKinds := [.data], laidTests := true, laidLooks := .later }
def LinkerLinksCardSaid : Prop := Claim7.holds Tryd.pinned (.plain (OpenSpec.ofChange linkerLinksSpec)) linkerLinksCard

/-- THE TIED CARD OF 'backsteplaw30.LinkerOrder'. -/
def linkerOrderCard : Claim7 := { stood := { row := linkerOrderRow, standIns := [], harness := (true, "a2271f0cbdccda7d8929c3da85a02b424f487c9582ca5659d4caadf205ab8840"), looks := false }, kinds := [], alts := [], laidByText := true, laidKinds := [.data], laidTests := true, laidLooks := .later }
def LinkerOrderCardSaid : Prop := Claim7.holds Tryd.pinned (.plain (OpenSpec.ofChange linkerOrderSpec)) linkerOrderCard

/-- THE TIED CARD OF 'backsteplaw30.LinkerMisses'. -/
def linkerMissesCard : Claim7 := { stood := { row := linkerMissesRow, standIns := [], harness := (true, "a2271f0cbdccda7d8929c3da85a02b424f487c9582ca5659d4caadf205ab8840"), looks := false }, kinds := [], alts := [], laidByText := true, laidKinds := [.data], laidTests := true, laidLooks := .later }
def LinkerMissesCardSaid : Prop := Claim7.holds Tryd.pinned (.plain (OpenSpec.ofChange linkerMissesSpec)) linkerMissesCard

/-- THE TIED CARD OF 'backsteplaw30.LinkerErrors'. -/
def linkerErrorsCard : Claim7 := { stood := { row := linkerErrorsRow, standIns := [], harness := (true, "a2271f0cbdccda7d8929c3da85a02b424f487c9582ca5659d4caadf205ab8840"), looks := false }, kinds := [], alts := [], laidByText := true, laidKinds := [.data], laidTests := true, laidLooks := .later }
def LinkerErrorsCardSaid : Prop := Claim7.holds Tryd.pinned (.plain (OpenSpec.ofChange linkerErrorsSpec)) linkerErrorsCard

/-- THE TIED CARD OF 'backsteplaw30.LinkerNames'. -/
def linkerNamesCard : Claim7 := { stood := { row := linkerNamesRow, standIns := [], harness := (true, "a2271f0cbdccda7d8929c3da85a02b424f487c9582ca5659d4caadf205ab8840"), looks := false }, kinds := [], alts := [], laidByText := true, laidKinds := [.data], laidTests := true, laidLooks := .later }
def LinkerNamesCardSaid : Prop := Claim7.holds Tryd.pinned (.plain (OpenSpec.ofChange linkerNamesSpec)) linkerNamesCard

/-- THE TIED CARD OF 'backsteplaw30.LinkerReaches'. -/
def linkerReachesCard : Claim7 := { stood := { row := linkerReachesRow, standIns := [], harness := (true, "a2271f0cbdccda7d8929c3da85a02b424f487c9582ca5659d4caadf205ab8840"), looks := false }, kinds := [], alts := [], laidByText := true, laidKinds := [.data], laidTests := true, laidLooks := .later }
def LinkerReachesCardSaid : Prop := Claim7.holds Tryd.pinned (.plain (OpenSpec.ofChange linkerReachesSpec)) linkerReachesCard

/-- THE SECOND FORM's CARD OF 'backsteplaw30.LinkerLinks'. -/
def linkerLinksUptoCard : Claim7 := { stood := { row := linkerLinksUptoRow, standIns := [], harness := (true, "a2271f0cbdccda7d8929c3da85a02b424f487c9582ca5659d4caadf205ab8840"), looks := false }, kinds := [], alts := [], laidByText := true, laidKinds := [.data], laidTests := true, laidLooks := .later }
def LinkerLinksUptoCardSaid : Prop := Claim7.holds Tryd.pinned (.plain (OpenSpec.upto linkerLinksSpec)) linkerLinksUptoCard

/-- THE SECOND FORM's CARD OF 'backsteplaw30.LinkerOrder'. -/
def linkerOrderUptoCard : Claim7 := { stood := { row := linkerOrderUptoRow, standIns := [], harness := (true, "a2271f0cbdccda7d8929c3da85a02b424f487c9582ca5659d4caadf205ab8840"), looks := false }, kinds := [], alts := [], laidByText := true, laidKinds := [.data], laidTests := true, laidLooks := .later }
def LinkerOrderUptoCardSaid : Prop := Claim7.holds Tryd.pinned (.plain (OpenSpec.upto linkerOrderSpec)) linkerOrderUptoCard

/-- THE SECOND FORM's CARD OF 'backsteplaw30.LinkerMisses'. -/
def linkerMissesUptoCard : Claim7 := { stood := { row := linkerMissesUptoRow, standIns := [], harness := (true, "a2271f0cbdccda7d8929c3da85a02b424f487c9582ca5659d4caadf205ab8840"), looks := false }, kinds := [], alts := [], laidByText := true, laidKinds := [.data], laidTests := true, laidLooks := .later }
def LinkerMissesUptoCardSaid : Prop := Claim7.holds Tryd.pinned (.plain (OpenSpec.upto linkerMissesSpec)) linkerMissesUptoCard

/-- THE SECOND FORM's CARD OF 'backsteplaw30.LinkerErrors'. -/
def linkerErrorsUptoCard : Claim7 := { stood := { row := linkerErrorsUptoRow, standIns := [], harness := (true, "a2271f0cbdccda7d8929c3da85a02b424f487c9582ca5659d4caadf205ab8840"), looks := false }, kinds := [], alts := [], laidByText := true, laidKinds := [.data], laidTests := true, laidLooks := .later }
def LinkerErrorsUptoCardSaid : Prop := Claim7.holds Tryd.pinned (.plain (OpenSpec.upto linkerErrorsSpec)) linkerErrorsUptoCard

/-- THE SECOND FORM's CARD OF 'backsteplaw30.LinkerNames'. -/
def linkerNamesUptoCard : Claim7 := { stood := { row := linkerNamesUptoRow, standIns := [], harness := (true, "a2271f0cbdccda7d8929c3da85a02b424f487c9582ca5659d4caadf205ab8840"), looks := false }, kinds := [], alts := [], laidByText := true, laidKinds := [.data], laidTests := true, laidLooks := .later }
def LinkerNamesUptoCardSaid : Prop := Claim7.holds Tryd.pinned (.plain (OpenSpec.upto linkerNamesSpec)) linkerNamesUptoCard

/-- THE SECOND FORM's CARD OF 'backsteplaw30.LinkerReaches'. -/
def linkerReachesUptoCard : Claim7 := { stood := { row := linkerReachesUptoRow, standIns := [], harness := (true, "a2271f0cbdccda7d8929c3da85a02b424f487c9582ca5659d4caadf205ab8840"), looks := false }, kinds := [], alts := [], laidByText := true, laidKinds := [.data], laidTests := true, laidLooks := .later }
def LinkerReachesUptoCardSaid : Prop := Claim7.holds Tryd.pinned (.plain (OpenSpec.upto linkerReachesSpec)) linkerReachesUptoCard
end Rows
end Go.Proofs.YtaabkaiifplhgaaDoor
