/-
  NARROWER THAN 'FOR EVERY INPUT', by the rows' own cells (each row's printed sentence says how): JournalAtomic: loops · JournalRuns: loops.
  DERIVED. THE GIVEN ROWS OF THIS SEAT. 8 by the template 'for every input the law returns true; each argument reads behind the call as it read before'; 0 by the template 'total and deterministic' (their statements: YtlcbfjcfkknmgaaTotals.lean).
  GIVEN WITH THE SEED: the statements are not yours to turn. If you find one false, say at which input.
  Laid BY PROGRAM, IN A SANDBOX (cutbox-rows.mjs): the forced cells as the released guide's own fill.sh prints them over the translation 90de6037c59bf95a… (all of the seat's roots in one cut). By AI agents, Wed Nov 11 2026. No macro, syntax, notation, axiom, sorry.
-/
import Derived.Test.YtlcbfjcfkknmgaaChecked
import GoSem.Claim
import GoSem.ClaimJoined
import GoSem.ClaimMapViews
import Derived.JoinedTies
import Derived.KernelRfl
namespace Go.Proofs.Ytlcbfjcfkknmgaa
/- THE CELL 'sum', in the pinned program and in every row, IS THE sha256 OF THE DUMP (.gsa) THAT YtlcbfjcfkknmgaaProg.lean LOADS. Nothing in Lean hashes anything: it is a label: what it is worth is what the hold of that sum in a sandbox is worth. -/
noncomputable def Try.pinned : Pinned := { name := "ytlcbfjcfkknmgaa", sum := "90de6037c59bf95a715cfd18a66792d42f1cd5e3fb4614e52b1c32187ab1195e", checked := Try.checked }
namespace Rows
def none {H : Type} : Left H := { results := [], args := [] }

/-- 'backsteplaw15.JournalAtomic': WHATEVER THE INPUT: true; the input reads as it did. -/
def journalAtomicSpec : ChangeSpec := { name := "journalAtomic", fn := fun _ => fun
  | [d] => { results := [.lit (.bool true)], args := [d] }
  | _ => none }
def journalAtomicRow : OpenClaim := { program := "ytlcbfjcfkknmgaa", sum := "90de6037c59bf95a715cfd18a66792d42f1cd5e3fb4614e52b1c32187ab1195e", func := "backstep/backsteplaw15.JournalAtomic", spec := "journalAtomic", unfollowed := true, recurses := true, loops := true, apart := false }
def JournalAtomicSaid : Prop := journalAtomicRow.holds Try.pinned (OpenSpec.ofChange journalAtomicSpec)

/-- ITS FALSE NEIGHBOUR: 'it returns false'. Refute it at one input. -/
def journalAtomicWrong : ChangeSpec := { name := "journalAtomic", fn := fun _ => fun
  | [d] => { results := [.lit (.bool false)], args := [d] }
  | _ => none }
def JournalAtomicWrongFalsely : Prop := journalAtomicRow.holds Try.pinned (OpenSpec.ofChange journalAtomicWrong)

/-- 'backsteplaw15.JournalOrder': WHATEVER THE INPUT: true; the input reads as it did. -/
def journalOrderSpec : ChangeSpec := { name := "journalOrder", fn := fun _ => fun
  | [d1, d2] => { results := [.lit (.bool true)], args := [d1, d2] }
  | _ => none }
def journalOrderRow : OpenClaim := { program := "ytlcbfjcfkknmgaa", sum := "90de6037c59bf95a715cfd18a66792d42f1cd5e3fb4614e52b1c32187ab1195e", func := "backstep/backsteplaw15.JournalOrder", spec := "journalOrder", unfollowed := true, recurses := true, apart := false }
def JournalOrderSaid : Prop := journalOrderRow.holds Try.pinned (OpenSpec.ofChange journalOrderSpec)

/-- ITS FALSE NEIGHBOUR: 'it returns false'. Refute it at one input. -/
def journalOrderWrong : ChangeSpec := { name := "journalOrder", fn := fun _ => fun
  | [d1, d2] => { results := [.lit (.bool false)], args := [d1, d2] }
  | _ => none }
def JournalOrderWrongFalsely : Prop := journalOrderRow.holds Try.pinned (OpenSpec.ofChange journalOrderWrong)

/-- 'backsteplaw15.JournalPanics': WHATEVER THE INPUT: true; the input reads as it did. -/
def journalPanicsSpec : ChangeSpec := { name := "journalPanics", fn := fun _ => fun
  | [d1, d2] => { results := [.lit (.bool true)], args := [d1, d2] }
  | _ => none }
def journalPanicsRow : OpenClaim := { program := "ytlcbfjcfkknmgaa", sum := "90de6037c59bf95a715cfd18a66792d42f1cd5e3fb4614e52b1c32187ab1195e", func := "backstep/backsteplaw15.JournalPanics", spec := "journalPanics", unfollowed := true, recurses := true, apart := false }
def JournalPanicsSaid : Prop := journalPanicsRow.holds Try.pinned (OpenSpec.ofChange journalPanicsSpec)

/-- ITS FALSE NEIGHBOUR: 'it returns false'. Refute it at one input. -/
def journalPanicsWrong : ChangeSpec := { name := "journalPanics", fn := fun _ => fun
  | [d1, d2] => { results := [.lit (.bool false)], args := [d1, d2] }
  | _ => none }
def JournalPanicsWrongFalsely : Prop := journalPanicsRow.holds Try.pinned (OpenSpec.ofChange journalPanicsWrong)

/-- 'backsteplaw15.JournalFails': WHATEVER THE INPUT: true; the input reads as it did. -/
def journalFailsSpec : ChangeSpec := { name := "journalFails", fn := fun _ => fun
  | [d1, d2, d3] => { results := [.lit (.bool true)], args := [d1, d2, d3] }
  | _ => none }
def journalFailsRow : OpenClaim := { program := "ytlcbfjcfkknmgaa", sum := "90de6037c59bf95a715cfd18a66792d42f1cd5e3fb4614e52b1c32187ab1195e", func := "backstep/backsteplaw15.JournalFails", spec := "journalFails", unfollowed := true, recurses := true, apart := false }
def JournalFailsSaid : Prop := journalFailsRow.holds Try.pinned (OpenSpec.ofChange journalFailsSpec)

/-- ITS FALSE NEIGHBOUR: 'it returns false'. Refute it at one input. -/
def journalFailsWrong : ChangeSpec := { name := "journalFails", fn := fun _ => fun
  | [d1, d2, d3] => { results := [.lit (.bool false)], args := [d1, d2, d3] }
  | _ => none }
def JournalFailsWrongFalsely : Prop := journalFailsRow.holds Try.pinned (OpenSpec.ofChange journalFailsWrong)

/-- 'backsteplaw15.JournalRuns': WHATEVER THE INPUT: true; the input reads as it did. -/
def journalRunsSpec : ChangeSpec := { name := "journalRuns", fn := fun _ => fun
  | [d] => { results := [.lit (.bool true)], args := [d] }
  | _ => none }
def journalRunsRow : OpenClaim := { program := "ytlcbfjcfkknmgaa", sum := "90de6037c59bf95a715cfd18a66792d42f1cd5e3fb4614e52b1c32187ab1195e", func := "backstep/backsteplaw15.JournalRuns", spec := "journalRuns", unfollowed := true, recurses := true, loops := true, apart := false }
def JournalRunsSaid : Prop := journalRunsRow.holds Try.pinned (OpenSpec.ofChange journalRunsSpec)

/-- ITS FALSE NEIGHBOUR: 'it returns false'. Refute it at one input. -/
def journalRunsWrong : ChangeSpec := { name := "journalRuns", fn := fun _ => fun
  | [d] => { results := [.lit (.bool false)], args := [d] }
  | _ => none }
def JournalRunsWrongFalsely : Prop := journalRunsRow.holds Try.pinned (OpenSpec.ofChange journalRunsWrong)

/-- 'backsteplaw15.JournalForgets': WHATEVER THE INPUT: true; the input reads as it did. -/
def journalForgetsSpec : ChangeSpec := { name := "journalForgets", fn := fun _ => fun
  | [d1, d2] => { results := [.lit (.bool true)], args := [d1, d2] }
  | _ => none }
def journalForgetsRow : OpenClaim := { program := "ytlcbfjcfkknmgaa", sum := "90de6037c59bf95a715cfd18a66792d42f1cd5e3fb4614e52b1c32187ab1195e", func := "backstep/backsteplaw15.JournalForgets", spec := "journalForgets", unfollowed := true, recurses := true, apart := false }
def JournalForgetsSaid : Prop := journalForgetsRow.holds Try.pinned (OpenSpec.ofChange journalForgetsSpec)

/-- ITS FALSE NEIGHBOUR: 'it returns false'. Refute it at one input. -/
def journalForgetsWrong : ChangeSpec := { name := "journalForgets", fn := fun _ => fun
  | [d1, d2] => { results := [.lit (.bool false)], args := [d1, d2] }
  | _ => none }
def JournalForgetsWrongFalsely : Prop := journalForgetsRow.holds Try.pinned (OpenSpec.ofChange journalForgetsWrong)

/-- 'backsteplaw15.JournalNil': WHATEVER THE INPUT: true; the input reads as it did. -/
def journalNilSpec : ChangeSpec := { name := "journalNil", fn := fun _ => fun
  | [d] => { results := [.lit (.bool true)], args := [d] }
  | _ => none }
def journalNilRow : OpenClaim := { program := "ytlcbfjcfkknmgaa", sum := "90de6037c59bf95a715cfd18a66792d42f1cd5e3fb4614e52b1c32187ab1195e", func := "backstep/backsteplaw15.JournalNil", spec := "journalNil", unfollowed := true, recurses := true, apart := false }
def JournalNilSaid : Prop := journalNilRow.holds Try.pinned (OpenSpec.ofChange journalNilSpec)

/-- ITS FALSE NEIGHBOUR: 'it returns false'. Refute it at one input. -/
def journalNilWrong : ChangeSpec := { name := "journalNil", fn := fun _ => fun
  | [d] => { results := [.lit (.bool false)], args := [d] }
  | _ => none }
def JournalNilWrongFalsely : Prop := journalNilRow.holds Try.pinned (OpenSpec.ofChange journalNilWrong)

/-- 'backsteplaw15.JournalRange': WHATEVER THE INPUT: true; the input reads as it did. -/
def journalRangeSpec : ChangeSpec := { name := "journalRange", fn := fun _ => fun
  | [d1, d2, d3] => { results := [.lit (.bool true)], args := [d1, d2, d3] }
  | _ => none }
def journalRangeRow : OpenClaim := { program := "ytlcbfjcfkknmgaa", sum := "90de6037c59bf95a715cfd18a66792d42f1cd5e3fb4614e52b1c32187ab1195e", func := "backstep/backsteplaw15.JournalRange", spec := "journalRange", unfollowed := true, recurses := true, apart := false }
def JournalRangeSaid : Prop := journalRangeRow.holds Try.pinned (OpenSpec.ofChange journalRangeSpec)

/-- ITS FALSE NEIGHBOUR: 'it returns false'. Refute it at one input. -/
def journalRangeWrong : ChangeSpec := { name := "journalRange", fn := fun _ => fun
  | [d1, d2, d3] => { results := [.lit (.bool false)], args := [d1, d2, d3] }
  | _ => none }
def JournalRangeWrongFalsely : Prop := journalRangeRow.holds Try.pinned (OpenSpec.ofChange journalRangeWrong)

/- THE SECOND FORM. 'bulk': how many values and letters a reading holds, each counted each time it is reached (what is shared counts as often as it is met; a slice's spare places count too). A statement '..UptoSaid' is the law's where the arguments, and the package variables that the reading takes, are together of bulk at most 1048576: NARROWER than '..Said'. Prove '..Said' where nothing that the law and all that it calls make is longer than what came in: it says more and counts as full. Else prove '..UptoSaid'. A law counts once. -/
mutual
def uptoBulk {H : Type} : DataW H → Nat
  | .lit (.string bytes) => bytes.length + 1
  | .lit _ => 1
  | .nil => 1
  | .ptr d => uptoBulk d + 1
  | .slice elems spare => uptoBulkAll elems + uptoBulkAll spare + 1
  | .agg parts => uptoBulkAll parts + 1
  | .iface _ d => uptoBulk d + 1
  | .map entries => uptoBulkEntries entries + 1
  | .held _ => 1
def uptoBulkAll {H : Type} : List (DataW H) → Nat
  | [] => 0
  | d :: r => uptoBulk d + uptoBulkAll r
def uptoBulkEntries {H : Type} : List (Lit × DataW H) → Nat
  | [] => 0
  | x :: r => uptoBulkEntry x + uptoBulkEntries r
def uptoBulkEntry {H : Type} : Lit × DataW H → Nat
  | (.string bytes, d) => bytes.length + uptoBulk d + 1
  | (_, d) => uptoBulk d + 1
 end
def uptoSmall : (H : Type) → List (DataW H) → Bool := fun _ ds => decide (uptoBulkAll ds ≤ 1048576)
def OpenSpec.upto (s : _root_.Go.ChangeSpec) : _root_.Go.OpenSpec := { _root_.Go.OpenSpec.ofChange s with cond := some uptoSmall }

/-- 'backsteplaw15.JournalAtomic', WHERE WHAT IT READS IS OF BULK AT MOST 1048576: true; the input reads as it did. -/
def journalAtomicUptoRow : OpenClaim := { program := "ytlcbfjcfkknmgaa", sum := "90de6037c59bf95a715cfd18a66792d42f1cd5e3fb4614e52b1c32187ab1195e", func := "backstep/backsteplaw15.JournalAtomic", spec := "journalAtomic", unfollowed := true, recurses := true, loops := true, apart := false, narrowed := true }
def JournalAtomicUptoSaid : Prop := journalAtomicUptoRow.holds Try.pinned (OpenSpec.upto journalAtomicSpec)

/-- 'backsteplaw15.JournalOrder', WHERE WHAT IT READS IS OF BULK AT MOST 1048576: true; the input reads as it did. -/
def journalOrderUptoRow : OpenClaim := { program := "ytlcbfjcfkknmgaa", sum := "90de6037c59bf95a715cfd18a66792d42f1cd5e3fb4614e52b1c32187ab1195e", func := "backstep/backsteplaw15.JournalOrder", spec := "journalOrder", unfollowed := true, recurses := true, apart := false, narrowed := true }
def JournalOrderUptoSaid : Prop := journalOrderUptoRow.holds Try.pinned (OpenSpec.upto journalOrderSpec)

/-- 'backsteplaw15.JournalPanics', WHERE WHAT IT READS IS OF BULK AT MOST 1048576: true; the input reads as it did. -/
def journalPanicsUptoRow : OpenClaim := { program := "ytlcbfjcfkknmgaa", sum := "90de6037c59bf95a715cfd18a66792d42f1cd5e3fb4614e52b1c32187ab1195e", func := "backstep/backsteplaw15.JournalPanics", spec := "journalPanics", unfollowed := true, recurses := true, apart := false, narrowed := true }
def JournalPanicsUptoSaid : Prop := journalPanicsUptoRow.holds Try.pinned (OpenSpec.upto journalPanicsSpec)

/-- 'backsteplaw15.JournalFails', WHERE WHAT IT READS IS OF BULK AT MOST 1048576: true; the input reads as it did. -/
def journalFailsUptoRow : OpenClaim := { program := "ytlcbfjcfkknmgaa", sum := "90de6037c59bf95a715cfd18a66792d42f1cd5e3fb4614e52b1c32187ab1195e", func := "backstep/backsteplaw15.JournalFails", spec := "journalFails", unfollowed := true, recurses := true, apart := false, narrowed := true }
def JournalFailsUptoSaid : Prop := journalFailsUptoRow.holds Try.pinned (OpenSpec.upto journalFailsSpec)

/-- 'backsteplaw15.JournalRuns', WHERE WHAT IT READS IS OF BULK AT MOST 1048576: true; the input reads as it did. -/
def journalRunsUptoRow : OpenClaim := { program := "ytlcbfjcfkknmgaa", sum := "90de6037c59bf95a715cfd18a66792d42f1cd5e3fb4614e52b1c32187ab1195e", func := "backstep/backsteplaw15.JournalRuns", spec := "journalRuns", unfollowed := true, recurses := true, loops := true, apart := false, narrowed := true }
def JournalRunsUptoSaid : Prop := journalRunsUptoRow.holds Try.pinned (OpenSpec.upto journalRunsSpec)

/-- 'backsteplaw15.JournalForgets', WHERE WHAT IT READS IS OF BULK AT MOST 1048576: true; the input reads as it did. -/
def journalForgetsUptoRow : OpenClaim := { program := "ytlcbfjcfkknmgaa", sum := "90de6037c59bf95a715cfd18a66792d42f1cd5e3fb4614e52b1c32187ab1195e", func := "backstep/backsteplaw15.JournalForgets", spec := "journalForgets", unfollowed := true, recurses := true, apart := false, narrowed := true }
def JournalForgetsUptoSaid : Prop := journalForgetsUptoRow.holds Try.pinned (OpenSpec.upto journalForgetsSpec)

/-- 'backsteplaw15.JournalNil', WHERE WHAT IT READS IS OF BULK AT MOST 1048576: true; the input reads as it did. -/
def journalNilUptoRow : OpenClaim := { program := "ytlcbfjcfkknmgaa", sum := "90de6037c59bf95a715cfd18a66792d42f1cd5e3fb4614e52b1c32187ab1195e", func := "backstep/backsteplaw15.JournalNil", spec := "journalNil", unfollowed := true, recurses := true, apart := false, narrowed := true }
def JournalNilUptoSaid : Prop := journalNilUptoRow.holds Try.pinned (OpenSpec.upto journalNilSpec)

/-- 'backsteplaw15.JournalRange', WHERE WHAT IT READS IS OF BULK AT MOST 1048576: true; the input reads as it did. -/
def journalRangeUptoRow : OpenClaim := { program := "ytlcbfjcfkknmgaa", sum := "90de6037c59bf95a715cfd18a66792d42f1cd5e3fb4614e52b1c32187ab1195e", func := "backstep/backsteplaw15.JournalRange", spec := "journalRange", unfollowed := true, recurses := true, apart := false, narrowed := true }
def JournalRangeUptoSaid : Prop := journalRangeUptoRow.holds Try.pinned (OpenSpec.upto journalRangeSpec)

end Rows
end Go.Proofs.Ytlcbfjcfkknmgaa
