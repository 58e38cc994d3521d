/-
  NARROWER THAN 'FOR EVERY INPUT', by the rows' own cells (each row's printed sentence says how): LinkerLinks: laid · LinkerOrder: laid · LinkerMisses: laid · LinkerErrors: laid · LinkerNames: laid · LinkerReaches: laid.
  DERIVED. THE GIVEN ROWS OF THIS SEAT. 6 by the template 'for every input the law returns true; each argument reads behind the call as it read before'; 0 by the template 'total and deterministic' (their statements: YtaabkaiifplhgaaDoorTotals.lean).
  GIVEN WITH THE SEED: the statements are not yours to turn. If you find one false, say at which input.
  Laid BY PROGRAM, IN A SANDBOX (cutbox-rows.mjs): the forced cells as the released guide's own fill.sh prints them over the translation b6a473a3c23c87e7… (all of the seat's roots in one cut). By AI agents, Wed Nov 11 2026. No macro, syntax, notation, axiom, sorry.
-/
import Derived.Test.YtaabkaiifplhgaaDoorChecked
import GoSem.Claim
import GoSem.ClaimJoined
import GoSem.ClaimMapViews
import Derived.JoinedTies
import Derived.KernelRfl
namespace Go.Proofs.YtaabkaiifplhgaaDoor
/- THE CELL 'sum', in the pinned program and in every row, IS THE sha256 OF THE DUMP (.gsa) THAT YtaabkaiifplhgaaDoorProg.lean LOADS. Nothing in Lean hashes anything: it is a label: what it is worth is what the hold of that sum in a sandbox is worth. -/
noncomputable def Tryd.pinned : Pinned := { name := "ytaabkaiifplhgaadoor", sum := "b6a473a3c23c87e783560912533caafe9521b6854f66e251f1097217a93e1b2a", checked := Tryd.checked }
namespace Rows
def none {H : Type} : Left H := { results := [], args := [] }

/- WHAT THE LISTED PACKAGE-LEVEL VARIABLES READ AS WHEN THE CALL BEGINS. Each datum BY PROGRAM (the guide's laid-datum.mjs) off the statement by which the dump's own 'gosem.cut.vars' lays the variable. In a bare row this is a premise. The card (YtaabkaiifplhgaaDoorCards.lean) ties it to the program's text. -/
def laid_backstep_isa_table {H : Type} : DataW H := .agg [.agg [.lit (.string [110, 111, 112]), .lit (.int .i64 0)], .agg [.lit (.string [97, 100, 100]), .lit (.int .i64 2)], .agg [.lit (.string [115, 117, 98]), .lit (.int .i64 2)], .agg [.lit (.string [120, 111, 114]), .lit (.int .i64 2)], .agg [.lit (.string [97, 100, 100, 105]), .lit (.int .i64 2)], .agg [.lit (.string [115, 117, 98, 105]), .lit (.int .i64 2)], .agg [.lit (.string [120, 111, 114, 105]), .lit (.int .i64 2)], .agg [.lit (.string [115, 119, 97, 112]), .lit (.int .i64 2)], .agg [.lit (.string [110, 101, 103]), .lit (.int .i64 1)], .agg [.lit (.string [99, 97, 108, 99]), .lit (.int .i64 4)], .agg [.lit (.string [109, 101, 109]), .lit (.int .i64 2)], .agg [.lit (.string [105, 100, 120]), .lit (.int .i64 4)], .agg [.lit (.string [112, 117, 115, 104]), .lit (.int .i64 2)], .agg [.lit (.string [112, 111, 112]), .lit (.int .i64 2)], .agg [.lit (.string [116, 111, 112]), .lit (.int .i64 2)], .agg [.lit (.string [115, 105, 122, 101]), .lit (.int .i64 2)], .agg [.lit (.string [115, 119, 97, 112, 115]), .lit (.int .i64 2)], .agg [.lit (.string [114, 101, 97, 100]), .lit (.int .i64 1)], .agg [.lit (.string [117, 110, 114, 101, 97, 100]), .lit (.int .i64 1)], .agg [.lit (.string [119, 114, 105, 116, 101]), .lit (.int .i64 1)], .agg [.lit (.string [117, 110, 119, 114, 105, 116, 101]), .lit (.int .i64 1)], .agg [.lit (.string [122, 101, 114, 111]), .lit (.int .i64 2)], .agg [.lit (.string [106, 109, 112]), .lit (.int .i64 1)], .agg [.lit (.string [106, 109, 112, 122]), .lit (.int .i64 2)], .agg [.lit (.string [106, 109, 112, 110]), .lit (.int .i64 2)], .agg [.lit (.string [108, 97, 110, 100]), .lit (.int .i64 1)], .agg [.lit (.string [108, 97, 110, 100, 122]), .lit (.int .i64 2)], .agg [.lit (.string [108, 97, 110, 100, 110]), .lit (.int .i64 2)], .agg [.lit (.string [102, 114, 97, 109, 101]), .lit (.int .i64 2)], .agg [.lit (.string [117, 110, 102, 114, 97, 109, 101]), .lit (.int .i64 2)], .agg [.lit (.string [99, 97, 108, 108]), .lit (.int .i64 1)], .agg [.lit (.string [117, 110, 99, 97, 108, 108]), .lit (.int .i64 1)], .agg [.lit (.string [115, 116, 97, 114, 116]), .lit (.int .i64 1)], .agg [.lit (.string [101, 110, 100]), .lit (.int .i64 1)], .agg [.lit (.string [104, 97, 108, 116]), .lit (.int .i64 0)]]

/-- 'backsteplaw30.LinkerLinks': WHATEVER THE INPUT: true; the input reads as it did. -/
def linkerLinksSpec : ChangeSpec := { name := "linkerLinks", fn := fun _ => fun
  | [d1, d2] => { results := [.lit (.bool true)], args := [d1, d2] }
  | _ => none }
def linkerLinksRow : OpenClaim := { program := "ytaabkaiifplhgaadoor", sum := "b6a473a3c23c87e783560912533caafe9521b6854f66e251f1097217a93e1b2a", func := "backstep/backsteplaw30.LinkerLinks", spec := "linkerLinks", inPlace := ["internal/bytealg.IndexByteString"], unfollowed := true, recurses := true, named := ["backstep/isa.table"], apart := false, laid := [("backstep/isa.table", laid_backstep_isa_table)] }
def LinkerLinksSaid : Prop := linkerLinksRow.holds Tryd.pinned (OpenSpec.ofChange linkerLinksSpec)

/-- ITS FALSE NEIGHBOUR: 'it returns false'. Refute it at one input. -/
def linkerLinksWrong : ChangeSpec := { name := "linkerLinks", fn := fun _ => fun
  | [d1, d2] => { results := [.lit (.bool false)], args := [d1, d2] }
  | _ => none }
def LinkerLinksWrongFalsely : Prop := linkerLinksRow.holds Tryd.pinned (OpenSpec.ofChange linkerLinksWrong)

/-- 'backsteplaw30.LinkerOrder': WHATEVER THE INPUT: true; the input reads as it did. -/
def linkerOrderSpec : ChangeSpec := { name := "linkerOrder", fn := fun _ => fun
  | [d1, d2] => { results := [.lit (.bool true)], args := [d1, d2] }
  | _ => none }
def linkerOrderRow : OpenClaim := { program := "ytaabkaiifplhgaadoor", sum := "b6a473a3c23c87e783560912533caafe9521b6854f66e251f1097217a93e1b2a", func := "backstep/backsteplaw30.LinkerOrder", spec := "linkerOrder", inPlace := ["internal/bytealg.IndexByteString"], unfollowed := true, recurses := true, named := ["backstep/isa.table"], apart := false, laid := [("backstep/isa.table", laid_backstep_isa_table)] }
def LinkerOrderSaid : Prop := linkerOrderRow.holds Tryd.pinned (OpenSpec.ofChange linkerOrderSpec)

/-- ITS FALSE NEIGHBOUR: 'it returns false'. Refute it at one input. -/
def linkerOrderWrong : ChangeSpec := { name := "linkerOrder", fn := fun _ => fun
  | [d1, d2] => { results := [.lit (.bool false)], args := [d1, d2] }
  | _ => none }
def LinkerOrderWrongFalsely : Prop := linkerOrderRow.holds Tryd.pinned (OpenSpec.ofChange linkerOrderWrong)

/-- 'backsteplaw30.LinkerMisses': WHATEVER THE INPUT: true; the input reads as it did. -/
def linkerMissesSpec : ChangeSpec := { name := "linkerMisses", fn := fun _ => fun
  | [d1, d2, d3] => { results := [.lit (.bool true)], args := [d1, d2, d3] }
  | _ => none }
def linkerMissesRow : OpenClaim := { program := "ytaabkaiifplhgaadoor", sum := "b6a473a3c23c87e783560912533caafe9521b6854f66e251f1097217a93e1b2a", func := "backstep/backsteplaw30.LinkerMisses", spec := "linkerMisses", inPlace := ["internal/bytealg.IndexByteString"], unfollowed := true, recurses := true, named := ["backstep/isa.table"], apart := false, laid := [("backstep/isa.table", laid_backstep_isa_table)] }
def LinkerMissesSaid : Prop := linkerMissesRow.holds Tryd.pinned (OpenSpec.ofChange linkerMissesSpec)

/-- ITS FALSE NEIGHBOUR: 'it returns false'. Refute it at one input. -/
def linkerMissesWrong : ChangeSpec := { name := "linkerMisses", fn := fun _ => fun
  | [d1, d2, d3] => { results := [.lit (.bool false)], args := [d1, d2, d3] }
  | _ => none }
def LinkerMissesWrongFalsely : Prop := linkerMissesRow.holds Tryd.pinned (OpenSpec.ofChange linkerMissesWrong)

/-- 'backsteplaw30.LinkerErrors': WHATEVER THE INPUT: true; the input reads as it did. -/
def linkerErrorsSpec : ChangeSpec := { name := "linkerErrors", fn := fun _ => fun
  | [d1, d2, d3] => { results := [.lit (.bool true)], args := [d1, d2, d3] }
  | _ => none }
def linkerErrorsRow : OpenClaim := { program := "ytaabkaiifplhgaadoor", sum := "b6a473a3c23c87e783560912533caafe9521b6854f66e251f1097217a93e1b2a", func := "backstep/backsteplaw30.LinkerErrors", spec := "linkerErrors", inPlace := ["internal/bytealg.IndexByteString"], unfollowed := true, recurses := true, named := ["backstep/isa.table"], apart := false, laid := [("backstep/isa.table", laid_backstep_isa_table)] }
def LinkerErrorsSaid : Prop := linkerErrorsRow.holds Tryd.pinned (OpenSpec.ofChange linkerErrorsSpec)

/-- ITS FALSE NEIGHBOUR: 'it returns false'. Refute it at one input. -/
def linkerErrorsWrong : ChangeSpec := { name := "linkerErrors", fn := fun _ => fun
  | [d1, d2, d3] => { results := [.lit (.bool false)], args := [d1, d2, d3] }
  | _ => none }
def LinkerErrorsWrongFalsely : Prop := linkerErrorsRow.holds Tryd.pinned (OpenSpec.ofChange linkerErrorsWrong)

/-- 'backsteplaw30.LinkerNames': WHATEVER THE INPUT: true; the input reads as it did. -/
def linkerNamesSpec : ChangeSpec := { name := "linkerNames", fn := fun _ => fun
  | [d1, d2] => { results := [.lit (.bool true)], args := [d1, d2] }
  | _ => none }
def linkerNamesRow : OpenClaim := { program := "ytaabkaiifplhgaadoor", sum := "b6a473a3c23c87e783560912533caafe9521b6854f66e251f1097217a93e1b2a", func := "backstep/backsteplaw30.LinkerNames", spec := "linkerNames", inPlace := ["internal/bytealg.IndexByteString"], unfollowed := true, recurses := true, named := ["backstep/isa.table"], apart := false, laid := [("backstep/isa.table", laid_backstep_isa_table)] }
def LinkerNamesSaid : Prop := linkerNamesRow.holds Tryd.pinned (OpenSpec.ofChange linkerNamesSpec)

/-- ITS FALSE NEIGHBOUR: 'it returns false'. Refute it at one input. -/
def linkerNamesWrong : ChangeSpec := { name := "linkerNames", fn := fun _ => fun
  | [d1, d2] => { results := [.lit (.bool false)], args := [d1, d2] }
  | _ => none }
def LinkerNamesWrongFalsely : Prop := linkerNamesRow.holds Tryd.pinned (OpenSpec.ofChange linkerNamesWrong)

/-- 'backsteplaw30.LinkerReaches': WHATEVER THE INPUT: true; the input reads as it did. -/
def linkerReachesSpec : ChangeSpec := { name := "linkerReaches", fn := fun _ => fun
  | [d1, d2] => { results := [.lit (.bool true)], args := [d1, d2] }
  | _ => none }
def linkerReachesRow : OpenClaim := { program := "ytaabkaiifplhgaadoor", sum := "b6a473a3c23c87e783560912533caafe9521b6854f66e251f1097217a93e1b2a", func := "backstep/backsteplaw30.LinkerReaches", spec := "linkerReaches", inPlace := ["internal/bytealg.IndexByteString"], unfollowed := true, recurses := true, named := ["backstep/isa.table"], apart := false, laid := [("backstep/isa.table", laid_backstep_isa_table)] }
def LinkerReachesSaid : Prop := linkerReachesRow.holds Tryd.pinned (OpenSpec.ofChange linkerReachesSpec)

/-- ITS FALSE NEIGHBOUR: 'it returns false'. Refute it at one input. -/
def linkerReachesWrong : ChangeSpec := { name := "linkerReaches", fn := fun _ => fun
  | [d1, d2] => { results := [.lit (.bool false)], args := [d1, d2] }
  | _ => none }
def LinkerReachesWrongFalsely : Prop := linkerReachesRow.holds Tryd.pinned (OpenSpec.ofChange linkerReachesWrong)

/- THE SECOND FORM. 'bulk': how many values and letters a reading holds, each counted each time it is reached (what is shared counts as often as it is met; a slice's spare places count too). A statement '..UptoSaid' is the law's where the arguments, and the package variables that the reading takes, are together of bulk at most 1048576: NARROWER than '..Said'. Prove '..Said' where nothing that the law and all that it calls make is longer than what came in: it says more and counts as full. Else prove '..UptoSaid'. A law counts once. -/
mutual
def uptoBulk {H : Type} : DataW H → Nat
  | .lit (.string bytes) => bytes.length + 1
  | .lit _ => 1
  | .nil => 1
  | .ptr d => uptoBulk d + 1
  | .slice elems spare => uptoBulkAll elems + uptoBulkAll spare + 1
  | .agg parts => uptoBulkAll parts + 1
  | .iface _ d => uptoBulk d + 1
  | .map entries => uptoBulkEntries entries + 1
  | .held _ => 1
def uptoBulkAll {H : Type} : List (DataW H) → Nat
  | [] => 0
  | d :: r => uptoBulk d + uptoBulkAll r
def uptoBulkEntries {H : Type} : List (Lit × DataW H) → Nat
  | [] => 0
  | x :: r => uptoBulkEntry x + uptoBulkEntries r
def uptoBulkEntry {H : Type} : Lit × DataW H → Nat
  | (.string bytes, d) => bytes.length + uptoBulk d + 1
  | (_, d) => uptoBulk d + 1
 end
def uptoSmall : (H : Type) → List (DataW H) → Bool := fun _ ds => decide (uptoBulkAll ds ≤ 1048576)
def OpenSpec.upto (s : _root_.Go.ChangeSpec) : _root_.Go.OpenSpec := { _root_.Go.OpenSpec.ofChange s with cond := some uptoSmall }

/-- 'backsteplaw30.LinkerLinks', WHERE WHAT IT READS IS OF BULK AT MOST 1048576: true; the input reads as it did. -/
def linkerLinksUptoRow : OpenClaim := { program := "ytaabkaiifplhgaadoor", sum := "b6a473a3c23c87e783560912533caafe9521b6854f66e251f1097217a93e1b2a", func := "backstep/backsteplaw30.LinkerLinks", spec := "linkerLinks", inPlace := ["internal/bytealg.IndexByteString"], unfollowed := true, recurses := true, named := ["backstep/isa.table"], apart := false, laid := [("backstep/isa.table", laid_backstep_isa_table)], narrowed := true }
def LinkerLinksUptoSaid : Prop := linkerLinksUptoRow.holds Tryd.pinned (OpenSpec.upto linkerLinksSpec)

/-- 'backsteplaw30.LinkerOrder', WHERE WHAT IT READS IS OF BULK AT MOST 1048576: true; the input reads as it did. -/
def linkerOrderUptoRow : OpenClaim := { program := "ytaabkaiifplhgaadoor", sum := "b6a473a3c23c87e783560912533caafe9521b6854f66e251f1097217a93e1b2a", func := "backstep/backsteplaw30.LinkerOrder", spec := "linkerOrder", inPlace := ["internal/bytealg.IndexByteString"], unfollowed := true, recurses := true, named := ["backstep/isa.table"], apart := false, laid := [("backstep/isa.table", laid_backstep_isa_table)], narrowed := true }
def LinkerOrderUptoSaid : Prop := linkerOrderUptoRow.holds Tryd.pinned (OpenSpec.upto linkerOrderSpec)

/-- 'backsteplaw30.LinkerMisses', WHERE WHAT IT READS IS OF BULK AT MOST 1048576: true; the input reads as it did. -/
def linkerMissesUptoRow : OpenClaim := { program := "ytaabkaiifplhgaadoor", sum := "b6a473a3c23c87e783560912533caafe9521b6854f66e251f1097217a93e1b2a", func := "backstep/backsteplaw30.LinkerMisses", spec := "linkerMisses", inPlace := ["internal/bytealg.IndexByteString"], unfollowed := true, recurses := true, named := ["backstep/isa.table"], apart := false, laid := [("backstep/isa.table", laid_backstep_isa_table)], narrowed := true }
def LinkerMissesUptoSaid : Prop := linkerMissesUptoRow.holds Tryd.pinned (OpenSpec.upto linkerMissesSpec)

/-- 'backsteplaw30.LinkerErrors', WHERE WHAT IT READS IS OF BULK AT MOST 1048576: true; the input reads as it did. -/
def linkerErrorsUptoRow : OpenClaim := { program := "ytaabkaiifplhgaadoor", sum := "b6a473a3c23c87e783560912533caafe9521b6854f66e251f1097217a93e1b2a", func := "backstep/backsteplaw30.LinkerErrors", spec := "linkerErrors", inPlace := ["internal/bytealg.IndexByteString"], unfollowed := true, recurses := true, named := ["backstep/isa.table"], apart := false, laid := [("backstep/isa.table", laid_backstep_isa_table)], narrowed := true }
def LinkerErrorsUptoSaid : Prop := linkerErrorsUptoRow.holds Tryd.pinned (OpenSpec.upto linkerErrorsSpec)

/-- 'backsteplaw30.LinkerNames', WHERE WHAT IT READS IS OF BULK AT MOST 1048576: true; the input reads as it did. -/
def linkerNamesUptoRow : OpenClaim := { program := "ytaabkaiifplhgaadoor", sum := "b6a473a3c23c87e783560912533caafe9521b6854f66e251f1097217a93e1b2a", func := "backstep/backsteplaw30.LinkerNames", spec := "linkerNames", inPlace := ["internal/bytealg.IndexByteString"], unfollowed := true, recurses := true, named := ["backstep/isa.table"], apart := false, laid := [("backstep/isa.table", laid_backstep_isa_table)], narrowed := true }
def LinkerNamesUptoSaid : Prop := linkerNamesUptoRow.holds Tryd.pinned (OpenSpec.upto linkerNamesSpec)

/-- 'backsteplaw30.LinkerReaches', WHERE WHAT IT READS IS OF BULK AT MOST 1048576: true; the input reads as it did. -/
def linkerReachesUptoRow : OpenClaim := { program := "ytaabkaiifplhgaadoor", sum := "b6a473a3c23c87e783560912533caafe9521b6854f66e251f1097217a93e1b2a", func := "backstep/backsteplaw30.LinkerReaches", spec := "linkerReaches", inPlace := ["internal/bytealg.IndexByteString"], unfollowed := true, recurses := true, named := ["backstep/isa.table"], apart := false, laid := [("backstep/isa.table", laid_backstep_isa_table)], narrowed := true }
def LinkerReachesUptoSaid : Prop := linkerReachesUptoRow.holds Tryd.pinned (OpenSpec.upto linkerReachesSpec)

end Rows
end Go.Proofs.YtaabkaiifplhgaaDoor
