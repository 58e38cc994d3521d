/-
  No cell of these rows narrows 'for every input' (looked for: loops, veiled, ifaces, maps, wideKeys, modest, calm, conditions, laid).
  DERIVED. THE GIVEN ROWS OF THIS SEAT. 5 by the template 'for every input the law returns true; each argument reads behind the call as it read before'; 0 by the template 'total and deterministic' (their statements: YtbpodipdfohikaaGreatTotals.lean).
  GIVEN WITH THE SEED: the statements are not yours to turn. If you find one false, say at which input.
  Laid BY PROGRAM, IN A SANDBOX (cutbox-rows.mjs): the forced cells as the released guide's own fill.sh prints them over the translation 9f4a1f436eaff026… (all of the seat's roots in one cut). By AI agents, Wed Nov 11 2026. No macro, syntax, notation, axiom, sorry.
-/
import Derived.Test.YtbpodipdfohikaaGreatChecked
import GoSem.Claim
import GoSem.ClaimJoined
import GoSem.ClaimMapViews
import Derived.JoinedTies
import Derived.KernelRfl
namespace Go.Proofs.YtbpodipdfohikaaGreat
/- THE CELL 'sum', in the pinned program and in every row, IS THE sha256 OF THE DUMP (.gsa) THAT YtbpodipdfohikaaGreatProg.lean LOADS. Nothing in Lean hashes anything: it is a label: what it is worth is what the hold of that sum in a sandbox is worth. -/
noncomputable def Tryz.pinned : Pinned := { name := "ytbpodipdfohikaagreat", sum := "9f4a1f436eaff0266f0831e624dbd0ede9ffab9872add2c5938f9425eb780def", checked := Tryz.checked }
namespace Rows
def none {H : Type} : Left H := { results := [], args := [] }

/-- 'backsteplaw39.ListlibSpills': WHATEVER THE INPUT: true; the input reads as it did. -/
def listlibSpillsSpec : ChangeSpec := { name := "listlibSpills", fn := fun _ => fun
  | [d1, d2] => { results := [.lit (.bool true)], args := [d1, d2] }
  | _ => none }
def listlibSpillsRow : OpenClaim := { program := "ytbpodipdfohikaagreat", sum := "9f4a1f436eaff0266f0831e624dbd0ede9ffab9872add2c5938f9425eb780def", func := "backstep/backsteplaw39.ListlibSpills", spec := "listlibSpills", inPlace := ["internal/bytealg.IndexByteString", "slices.overlaps[int]"], unfollowed := true, recurses := true, apart := false }
def ListlibSpillsSaid : Prop := listlibSpillsRow.holds Tryz.pinned (OpenSpec.ofChange listlibSpillsSpec)

/-- ITS FALSE NEIGHBOUR: 'it returns false'. Refute it at one input. -/
def listlibSpillsWrong : ChangeSpec := { name := "listlibSpills", fn := fun _ => fun
  | [d1, d2] => { results := [.lit (.bool false)], args := [d1, d2] }
  | _ => none }
def ListlibSpillsWrongFalsely : Prop := listlibSpillsRow.holds Tryz.pinned (OpenSpec.ofChange listlibSpillsWrong)

/-- 'backsteplaw39.ListlibUnspills': WHATEVER THE INPUT: true; the input reads as it did. -/
def listlibUnspillsSpec : ChangeSpec := { name := "listlibUnspills", fn := fun _ => fun
  | [d] => { results := [.lit (.bool true)], args := [d] }
  | _ => none }
def listlibUnspillsRow : OpenClaim := { program := "ytbpodipdfohikaagreat", sum := "9f4a1f436eaff0266f0831e624dbd0ede9ffab9872add2c5938f9425eb780def", func := "backstep/backsteplaw39.ListlibUnspills", spec := "listlibUnspills", inPlace := ["internal/bytealg.IndexByteString", "slices.overlaps[int]"], unfollowed := true, recurses := true, apart := false }
def ListlibUnspillsSaid : Prop := listlibUnspillsRow.holds Tryz.pinned (OpenSpec.ofChange listlibUnspillsSpec)

/-- ITS FALSE NEIGHBOUR: 'it returns false'. Refute it at one input. -/
def listlibUnspillsWrong : ChangeSpec := { name := "listlibUnspills", fn := fun _ => fun
  | [d] => { results := [.lit (.bool false)], args := [d] }
  | _ => none }
def ListlibUnspillsWrongFalsely : Prop := listlibUnspillsRow.holds Tryz.pinned (OpenSpec.ofChange listlibUnspillsWrong)

/-- 'backsteplaw39.ListlibReturns': WHATEVER THE INPUT: true; the input reads as it did. -/
def listlibReturnsSpec : ChangeSpec := { name := "listlibReturns", fn := fun _ => fun
  | [d1, d2, d3, d4] => { results := [.lit (.bool true)], args := [d1, d2, d3, d4] }
  | _ => none }
def listlibReturnsRow : OpenClaim := { program := "ytbpodipdfohikaagreat", sum := "9f4a1f436eaff0266f0831e624dbd0ede9ffab9872add2c5938f9425eb780def", func := "backstep/backsteplaw39.ListlibReturns", spec := "listlibReturns", inPlace := ["internal/bytealg.IndexByteString", "slices.overlaps[int]"], unfollowed := true, recurses := true, apart := false }
def ListlibReturnsSaid : Prop := listlibReturnsRow.holds Tryz.pinned (OpenSpec.ofChange listlibReturnsSpec)

/-- ITS FALSE NEIGHBOUR: 'it returns false'. Refute it at one input. -/
def listlibReturnsWrong : ChangeSpec := { name := "listlibReturns", fn := fun _ => fun
  | [d1, d2, d3, d4] => { results := [.lit (.bool false)], args := [d1, d2, d3, d4] }
  | _ => none }
def ListlibReturnsWrongFalsely : Prop := listlibReturnsRow.holds Tryz.pinned (OpenSpec.ofChange listlibReturnsWrong)

/-- 'backsteplaw39.ListlibStates': WHATEVER THE INPUT: true; the input reads as it did. -/
def listlibStatesSpec : ChangeSpec := { name := "listlibStates", fn := fun _ => fun
  | [d1, d2] => { results := [.lit (.bool true)], args := [d1, d2] }
  | _ => none }
def listlibStatesRow : OpenClaim := { program := "ytbpodipdfohikaagreat", sum := "9f4a1f436eaff0266f0831e624dbd0ede9ffab9872add2c5938f9425eb780def", func := "backstep/backsteplaw39.ListlibStates", spec := "listlibStates", inPlace := ["internal/bytealg.IndexByteString", "slices.overlaps[int]"], unfollowed := true, recurses := true, apart := false }
def ListlibStatesSaid : Prop := listlibStatesRow.holds Tryz.pinned (OpenSpec.ofChange listlibStatesSpec)

/-- ITS FALSE NEIGHBOUR: 'it returns false'. Refute it at one input. -/
def listlibStatesWrong : ChangeSpec := { name := "listlibStates", fn := fun _ => fun
  | [d1, d2] => { results := [.lit (.bool false)], args := [d1, d2] }
  | _ => none }
def ListlibStatesWrongFalsely : Prop := listlibStatesRow.holds Tryz.pinned (OpenSpec.ofChange listlibStatesWrong)

/-- 'backsteplaw39.ListlibAccepted': WHATEVER THE INPUT: true; the input reads as it did. -/
def listlibAcceptedSpec : ChangeSpec := { name := "listlibAccepted", fn := fun _ => fun
  | [d] => { results := [.lit (.bool true)], args := [d] }
  | _ => none }
def listlibAcceptedRow : OpenClaim := { program := "ytbpodipdfohikaagreat", sum := "9f4a1f436eaff0266f0831e624dbd0ede9ffab9872add2c5938f9425eb780def", func := "backstep/backsteplaw39.ListlibAccepted", spec := "listlibAccepted", inPlace := ["internal/bytealg.IndexByteString", "slices.overlaps[int]"], unfollowed := true, recurses := true, apart := false }
def ListlibAcceptedSaid : Prop := listlibAcceptedRow.holds Tryz.pinned (OpenSpec.ofChange listlibAcceptedSpec)

/-- ITS FALSE NEIGHBOUR: 'it returns false'. Refute it at one input. -/
def listlibAcceptedWrong : ChangeSpec := { name := "listlibAccepted", fn := fun _ => fun
  | [d] => { results := [.lit (.bool false)], args := [d] }
  | _ => none }
def ListlibAcceptedWrongFalsely : Prop := listlibAcceptedRow.holds Tryz.pinned (OpenSpec.ofChange listlibAcceptedWrong)

/- THE SECOND FORM. 'bulk': how many values and letters a reading holds, each counted each time it is reached (what is shared counts as often as it is met; a slice's spare places count too). A statement '..UptoSaid' is the law's where the arguments, and the package variables that the reading takes, are together of bulk at most 1048576: NARROWER than '..Said'. Prove '..Said' where nothing that the law and all that it calls make is longer than what came in: it says more and counts as full. Else prove '..UptoSaid'. A law counts once. -/
mutual
def uptoBulk {H : Type} : DataW H → Nat
  | .lit (.string bytes) => bytes.length + 1
  | .lit _ => 1
  | .nil => 1
  | .ptr d => uptoBulk d + 1
  | .slice elems spare => uptoBulkAll elems + uptoBulkAll spare + 1
  | .agg parts => uptoBulkAll parts + 1
  | .iface _ d => uptoBulk d + 1
  | .map entries => uptoBulkEntries entries + 1
  | .held _ => 1
def uptoBulkAll {H : Type} : List (DataW H) → Nat
  | [] => 0
  | d :: r => uptoBulk d + uptoBulkAll r
def uptoBulkEntries {H : Type} : List (Lit × DataW H) → Nat
  | [] => 0
  | x :: r => uptoBulkEntry x + uptoBulkEntries r
def uptoBulkEntry {H : Type} : Lit × DataW H → Nat
  | (.string bytes, d) => bytes.length + uptoBulk d + 1
  | (_, d) => uptoBulk d + 1
 end
def uptoSmall : (H : Type) → List (DataW H) → Bool := fun _ ds => decide (uptoBulkAll ds ≤ 1048576)
def OpenSpec.upto (s : _root_.Go.ChangeSpec) : _root_.Go.OpenSpec := { _root_.Go.OpenSpec.ofChange s with cond := some uptoSmall }

/-- 'backsteplaw39.ListlibSpills', WHERE WHAT IT READS IS OF BULK AT MOST 1048576: true; the input reads as it did. -/
def listlibSpillsUptoRow : OpenClaim := { program := "ytbpodipdfohikaagreat", sum := "9f4a1f436eaff0266f0831e624dbd0ede9ffab9872add2c5938f9425eb780def", func := "backstep/backsteplaw39.ListlibSpills", spec := "listlibSpills", inPlace := ["internal/bytealg.IndexByteString", "slices.overlaps[int]"], unfollowed := true, recurses := true, apart := false, narrowed := true }
def ListlibSpillsUptoSaid : Prop := listlibSpillsUptoRow.holds Tryz.pinned (OpenSpec.upto listlibSpillsSpec)

/-- 'backsteplaw39.ListlibUnspills', WHERE WHAT IT READS IS OF BULK AT MOST 1048576: true; the input reads as it did. -/
def listlibUnspillsUptoRow : OpenClaim := { program := "ytbpodipdfohikaagreat", sum := "9f4a1f436eaff0266f0831e624dbd0ede9ffab9872add2c5938f9425eb780def", func := "backstep/backsteplaw39.ListlibUnspills", spec := "listlibUnspills", inPlace := ["internal/bytealg.IndexByteString", "slices.overlaps[int]"], unfollowed := true, recurses := true, apart := false, narrowed := true }
def ListlibUnspillsUptoSaid : Prop := listlibUnspillsUptoRow.holds Tryz.pinned (OpenSpec.upto listlibUnspillsSpec)

/-- 'backsteplaw39.ListlibReturns', WHERE WHAT IT READS IS OF BULK AT MOST 1048576: true; the input reads as it did. -/
def listlibReturnsUptoRow : OpenClaim := { program := "ytbpodipdfohikaagreat", sum := "9f4a1f436eaff0266f0831e624dbd0ede9ffab9872add2c5938f9425eb780def", func := "backstep/backsteplaw39.ListlibReturns", spec := "listlibReturns", inPlace := ["internal/bytealg.IndexByteString", "slices.overlaps[int]"], unfollowed := true, recurses := true, apart := false, narrowed := true }
def ListlibReturnsUptoSaid : Prop := listlibReturnsUptoRow.holds Tryz.pinned (OpenSpec.upto listlibReturnsSpec)

/-- 'backsteplaw39.ListlibStates', WHERE WHAT IT READS IS OF BULK AT MOST 1048576: true; the input reads as it did. -/
def listlibStatesUptoRow : OpenClaim := { program := "ytbpodipdfohikaagreat", sum := "9f4a1f436eaff0266f0831e624dbd0ede9ffab9872add2c5938f9425eb780def", func := "backstep/backsteplaw39.ListlibStates", spec := "listlibStates", inPlace := ["internal/bytealg.IndexByteString", "slices.overlaps[int]"], unfollowed := true, recurses := true, apart := false, narrowed := true }
def ListlibStatesUptoSaid : Prop := listlibStatesUptoRow.holds Tryz.pinned (OpenSpec.upto listlibStatesSpec)

/-- 'backsteplaw39.ListlibAccepted', WHERE WHAT IT READS IS OF BULK AT MOST 1048576: true; the input reads as it did. -/
def listlibAcceptedUptoRow : OpenClaim := { program := "ytbpodipdfohikaagreat", sum := "9f4a1f436eaff0266f0831e624dbd0ede9ffab9872add2c5938f9425eb780def", func := "backstep/backsteplaw39.ListlibAccepted", spec := "listlibAccepted", inPlace := ["internal/bytealg.IndexByteString", "slices.overlaps[int]"], unfollowed := true, recurses := true, apart := false, narrowed := true }
def ListlibAcceptedUptoSaid : Prop := listlibAcceptedUptoRow.holds Tryz.pinned (OpenSpec.upto listlibAcceptedSpec)

end Rows
end Go.Proofs.YtbpodipdfohikaaGreat
