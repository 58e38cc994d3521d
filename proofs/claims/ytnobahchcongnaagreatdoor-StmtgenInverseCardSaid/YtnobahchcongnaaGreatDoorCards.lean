/-
  DERIVED. GIVEN WITH THE SEED: THE CARDS: each row of YtnobahchcongnaaGreatDoorRows.lean that lists a variable, with what it lists TIED to the program's text (the seventh form; the later family's looks); each row that meets fmt, with fmt's text TOLD by the authors' own Lean function (tested against real Go, not proved from fmt's source: count such statements apart). THE CARD IS WHAT COUNTS. Prove the row's statement (the work); the ties are given (YtnobahchcongnaaGreatDoorTie.lean); close each card by the builder's one call (the guide's Derived/Test/ToyasCard.lean, 'card_holds'). Laid BY PROGRAM, IN A SANDBOX (cutbox-door.mjs). By AI agents, Wed Nov 11 2026. No macro, syntax, notation, axiom, sorry.
-/
import Derived.Test.YtnobahchcongnaaGreatDoorRows
import GoSem.ClaimSeven
namespace Go.Proofs.YtnobahchcongnaaGreatDoor
namespace Rows

/-- THE TIED CARD OF 'backsteplaw28.StmtgenConcat'. -/
def stmtgenConcatCard : Claim7 := { stood := { row := stmtgenConcatRow, standIns := [], harness := (true, "1d756c49469d297d7bab717083661f5a4c35748d9ab70873605b89046a7248d8"), looks := false }, kinds := [], alts := [], laidByText := true, laidKinds := [.data], laidTests := true, laidLooks := .later }
def StmtgenConcatCardSaid : Prop := Claim7.holds Tryz.pinned (.plain (OpenSpec.ofChange stmtgenConcatSpec)) stmtgenConcatCard

/-- THE TIED CARD OF 'backsteplaw28.StmtgenInverse'. -/
def stmtgenInverseCard : Claim7 := { stood := { row := stmtgenInverseRow, standIns := [], harness := (true, "1d756c49469d297d7bab717083661f5a4c35748d9ab70873605b89046a7248d8"), looks := false }, kinds := [], alts := [], laidByText := true, laidKinds := [.data], laidTests := true, laidLooks := .later }
def StmtgenInverseCardSaid : Prop := Claim7.holds Tryz.pinned (.plain (OpenSpec.ofChange stmtgenInverseSpec)) stmtgenInverseCard

/-- THE SECOND FORM's CARD OF 'backsteplaw28.StmtgenConcat'. -/
def stmtgenConcatUptoCard : Claim7 := { stood := { row := stmtgenConcatUptoRow, standIns := [], harness := (true, "1d756c49469d297d7bab717083661f5a4c35748d9ab70873605b89046a7248d8"), looks := false }, kinds := [], alts := [], laidByText := true, laidKinds := [.data], laidTests := true, laidLooks := .later }
def StmtgenConcatUptoCardSaid : Prop := Claim7.holds Tryz.pinned (.plain (OpenSpec.upto stmtgenConcatSpec)) stmtgenConcatUptoCard

/-- THE SECOND FORM's CARD OF 'backsteplaw28.StmtgenInverse'. -/
def stmtgenInverseUptoCard : Claim7 := { stood := { row := stmtgenInverseUptoRow, standIns := [], harness := (true, "1d756c49469d297d7bab717083661f5a4c35748d9ab70873605b89046a7248d8"), looks := false }, kinds := [], alts := [], laidByText := true, laidKinds := [.data], laidTests := true, laidLooks := .later }
def StmtgenInverseUptoCardSaid : Prop := Claim7.holds Tryz.pinned (.plain (OpenSpec.upto stmtgenInverseSpec)) stmtgenInverseUptoCard
end Rows
end Go.Proofs.YtnobahchcongnaaGreatDoor
