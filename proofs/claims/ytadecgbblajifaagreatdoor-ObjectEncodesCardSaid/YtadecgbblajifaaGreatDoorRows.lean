/-
  NARROWER THAN 'FOR EVERY INPUT', by the rows' own cells (each row's printed sentence says how): ObjectProcs: loops, laid · ObjectChecks: laid · ObjectEncodes: laid · ObjectRound: loops, laid · ObjectAny: laid · ObjectCuts: loops, laid · ObjectCalls: loops, laid · ObjectAlone: loops, laid.
  DERIVED. THE GIVEN ROWS OF THIS SEAT. 8 by the template 'for every input the law returns true; each argument reads behind the call as it read before'; 0 by the template 'total and deterministic' (their statements: YtadecgbblajifaaGreatDoorTotals.lean).
  GIVEN WITH THE SEED: the statements are not yours to turn. If you find one false, say at which input.
  Laid BY PROGRAM, IN A SANDBOX (cutbox-rows.mjs): the forced cells as the released guide's own fill.sh prints them over the translation a4a6b148d4f5f101… (all of the seat's roots in one cut). By AI agents, Wed Nov 11 2026. No macro, syntax, notation, axiom, sorry.
-/
import Derived.Test.YtadecgbblajifaaGreatDoorChecked
import GoSem.Claim
import GoSem.ClaimJoined
import GoSem.ClaimMapViews
import Derived.JoinedTies
import Derived.KernelRfl
namespace Go.Proofs.YtadecgbblajifaaGreatDoor
/- THE CELL 'sum', in the pinned program and in every row, IS THE sha256 OF THE DUMP (.gsa) THAT YtadecgbblajifaaGreatDoorProg.lean LOADS. Nothing in Lean hashes anything: it is a label: what it is worth is what the hold of that sum in a sandbox is worth. -/
noncomputable def Tryz.pinned : Pinned := { name := "ytadecgbblajifaagreatdoor", sum := "a4a6b148d4f5f10197c52545130ee48dc1ec2f97cdd2f860bf1fd27316447427", checked := Tryz.checked }
namespace Rows
def none {H : Type} : Left H := { results := [], args := [] }

/- WHAT THE LISTED PACKAGE-LEVEL VARIABLES READ AS WHEN THE CALL BEGINS. Each datum BY PROGRAM (the guide's laid-datum.mjs) off the statement by which the dump's own 'gosem.cut.vars' lays the variable. In a bare row this is a premise. The card (YtadecgbblajifaaGreatDoorCards.lean) ties it to the program's text. -/
def laid_backstep_arith_symbols {H : Type} : DataW H := .agg [.lit (.string []), .lit (.string []), .lit (.string []), .lit (.string []), .lit (.string []), .lit (.string []), .lit (.string [45]), .lit (.string [33]), .lit (.string [43]), .lit (.string [45]), .lit (.string [42]), .lit (.string [47]), .lit (.string [37]), .lit (.string [38]), .lit (.string [124]), .lit (.string [94]), .lit (.string [61, 61]), .lit (.string [33, 61]), .lit (.string [60]), .lit (.string [60, 61]), .lit (.string [62]), .lit (.string [62, 61]), .lit (.string [38, 38]), .lit (.string [124, 124]), .lit (.string []), .lit (.string []), .lit (.string []), .lit (.string []), .lit (.string []), .lit (.string []), .lit (.string []), .lit (.string []), .lit (.string []), .lit (.string []), .lit (.string []), .lit (.string []), .lit (.string []), .lit (.string []), .lit (.string []), .lit (.string []), .lit (.string [43, 61]), .lit (.string [45, 61]), .lit (.string [94, 61])]
def laid_backstep_isa_table {H : Type} : DataW H := .agg [.agg [.lit (.string [110, 111, 112]), .lit (.int .i64 0)], .agg [.lit (.string [97, 100, 100]), .lit (.int .i64 2)], .agg [.lit (.string [115, 117, 98]), .lit (.int .i64 2)], .agg [.lit (.string [120, 111, 114]), .lit (.int .i64 2)], .agg [.lit (.string [97, 100, 100, 105]), .lit (.int .i64 2)], .agg [.lit (.string [115, 117, 98, 105]), .lit (.int .i64 2)], .agg [.lit (.string [120, 111, 114, 105]), .lit (.int .i64 2)], .agg [.lit (.string [115, 119, 97, 112]), .lit (.int .i64 2)], .agg [.lit (.string [110, 101, 103]), .lit (.int .i64 1)], .agg [.lit (.string [99, 97, 108, 99]), .lit (.int .i64 4)], .agg [.lit (.string [109, 101, 109]), .lit (.int .i64 2)], .agg [.lit (.string [105, 100, 120]), .lit (.int .i64 4)], .agg [.lit (.string [112, 117, 115, 104]), .lit (.int .i64 2)], .agg [.lit (.string [112, 111, 112]), .lit (.int .i64 2)], .agg [.lit (.string [116, 111, 112]), .lit (.int .i64 2)], .agg [.lit (.string [115, 105, 122, 101]), .lit (.int .i64 2)], .agg [.lit (.string [115, 119, 97, 112, 115]), .lit (.int .i64 2)], .agg [.lit (.string [114, 101, 97, 100]), .lit (.int .i64 1)], .agg [.lit (.string [117, 110, 114, 101, 97, 100]), .lit (.int .i64 1)], .agg [.lit (.string [119, 114, 105, 116, 101]), .lit (.int .i64 1)], .agg [.lit (.string [117, 110, 119, 114, 105, 116, 101]), .lit (.int .i64 1)], .agg [.lit (.string [122, 101, 114, 111]), .lit (.int .i64 2)], .agg [.lit (.string [106, 109, 112]), .lit (.int .i64 1)], .agg [.lit (.string [106, 109, 112, 122]), .lit (.int .i64 2)], .agg [.lit (.string [106, 109, 112, 110]), .lit (.int .i64 2)], .agg [.lit (.string [108, 97, 110, 100]), .lit (.int .i64 1)], .agg [.lit (.string [108, 97, 110, 100, 122]), .lit (.int .i64 2)], .agg [.lit (.string [108, 97, 110, 100, 110]), .lit (.int .i64 2)], .agg [.lit (.string [102, 114, 97, 109, 101]), .lit (.int .i64 2)], .agg [.lit (.string [117, 110, 102, 114, 97, 109, 101]), .lit (.int .i64 2)], .agg [.lit (.string [99, 97, 108, 108]), .lit (.int .i64 1)], .agg [.lit (.string [117, 110, 99, 97, 108, 108]), .lit (.int .i64 1)], .agg [.lit (.string [115, 116, 97, 114, 116]), .lit (.int .i64 1)], .agg [.lit (.string [101, 110, 100]), .lit (.int .i64 1)], .agg [.lit (.string [104, 97, 108, 116]), .lit (.int .i64 0)]]
def laid_math_bits_deBruijn32tab {H : Type} : DataW H := .agg [.lit (.int .u8 0), .lit (.int .u8 1), .lit (.int .u8 28), .lit (.int .u8 2), .lit (.int .u8 29), .lit (.int .u8 14), .lit (.int .u8 24), .lit (.int .u8 3), .lit (.int .u8 30), .lit (.int .u8 22), .lit (.int .u8 20), .lit (.int .u8 15), .lit (.int .u8 25), .lit (.int .u8 17), .lit (.int .u8 4), .lit (.int .u8 8), .lit (.int .u8 31), .lit (.int .u8 27), .lit (.int .u8 13), .lit (.int .u8 23), .lit (.int .u8 21), .lit (.int .u8 19), .lit (.int .u8 16), .lit (.int .u8 7), .lit (.int .u8 26), .lit (.int .u8 12), .lit (.int .u8 18), .lit (.int .u8 6), .lit (.int .u8 11), .lit (.int .u8 5), .lit (.int .u8 10), .lit (.int .u8 9)]
def laid_math_bits_deBruijn64tab {H : Type} : DataW H := .agg [.lit (.int .u8 0), .lit (.int .u8 1), .lit (.int .u8 56), .lit (.int .u8 2), .lit (.int .u8 57), .lit (.int .u8 49), .lit (.int .u8 28), .lit (.int .u8 3), .lit (.int .u8 61), .lit (.int .u8 58), .lit (.int .u8 42), .lit (.int .u8 50), .lit (.int .u8 38), .lit (.int .u8 29), .lit (.int .u8 17), .lit (.int .u8 4), .lit (.int .u8 62), .lit (.int .u8 47), .lit (.int .u8 59), .lit (.int .u8 36), .lit (.int .u8 45), .lit (.int .u8 43), .lit (.int .u8 51), .lit (.int .u8 22), .lit (.int .u8 53), .lit (.int .u8 39), .lit (.int .u8 33), .lit (.int .u8 30), .lit (.int .u8 24), .lit (.int .u8 18), .lit (.int .u8 12), .lit (.int .u8 5), .lit (.int .u8 63), .lit (.int .u8 55), .lit (.int .u8 48), .lit (.int .u8 27), .lit (.int .u8 60), .lit (.int .u8 41), .lit (.int .u8 37), .lit (.int .u8 16), .lit (.int .u8 46), .lit (.int .u8 35), .lit (.int .u8 44), .lit (.int .u8 21), .lit (.int .u8 52), .lit (.int .u8 32), .lit (.int .u8 23), .lit (.int .u8 11), .lit (.int .u8 54), .lit (.int .u8 26), .lit (.int .u8 40), .lit (.int .u8 15), .lit (.int .u8 34), .lit (.int .u8 20), .lit (.int .u8 31), .lit (.int .u8 10), .lit (.int .u8 25), .lit (.int .u8 14), .lit (.int .u8 19), .lit (.int .u8 9), .lit (.int .u8 13), .lit (.int .u8 8), .lit (.int .u8 7), .lit (.int .u8 6)]
def laid_internal_strconv_uint64pow10 {H : Type} : DataW H := .agg [.lit (.int .u64 1), .lit (.int .u64 10), .lit (.int .u64 100), .lit (.int .u64 1000), .lit (.int .u64 10000), .lit (.int .u64 100000), .lit (.int .u64 1000000), .lit (.int .u64 10000000), .lit (.int .u64 100000000), .lit (.int .u64 1000000000), .lit (.int .u64 10000000000), .lit (.int .u64 100000000000), .lit (.int .u64 1000000000000), .lit (.int .u64 10000000000000), .lit (.int .u64 100000000000000), .lit (.int .u64 1000000000000000), .lit (.int .u64 10000000000000000), .lit (.int .u64 100000000000000000), .lit (.int .u64 1000000000000000000), .lit (.int .u64 10000000000000000000)]
def laid_strconv_ErrRange {H : Type} : DataW H := .iface "*errors.errorString" (.ptr (.agg [.lit (.string [118, 97, 108, 117, 101, 32, 111, 117, 116, 32, 111, 102, 32, 114, 97, 110, 103, 101])]))
def laid_strconv_ErrSyntax {H : Type} : DataW H := .iface "*errors.errorString" (.ptr (.agg [.lit (.string [105, 110, 118, 97, 108, 105, 100, 32, 115, 121, 110, 116, 97, 120])]))

/-- 'backsteplaw29.ObjectProcs': WHATEVER THE INPUT: true; the input reads as it did. -/
def objectProcsSpec : ChangeSpec := { name := "objectProcs", fn := fun _ => fun
  | [d1, d2] => { results := [.lit (.bool true)], args := [d1, d2] }
  | _ => none }
def objectProcsRow : OpenClaim := { program := "ytadecgbblajifaagreatdoor", sum := "a4a6b148d4f5f10197c52545130ee48dc1ec2f97cdd2f860bf1fd27316447427", func := "backstep/backsteplaw29.ObjectProcs", spec := "objectProcs", inPlace := ["internal/bytealg.IndexByteString"], unfollowed := true, recurses := true, named := ["backstep/arith.symbols", "strconv.ErrSyntax", "strconv.ErrRange", "internal/strconv.uint64pow10", "math/bits.deBruijn32tab", "math/bits.deBruijn64tab", "backstep/isa.table"], loops := true, apart := false, laid := [("backstep/arith.symbols", laid_backstep_arith_symbols), ("backstep/isa.table", laid_backstep_isa_table), ("math/bits.deBruijn32tab", laid_math_bits_deBruijn32tab), ("math/bits.deBruijn64tab", laid_math_bits_deBruijn64tab), ("internal/strconv.uint64pow10", laid_internal_strconv_uint64pow10), ("strconv.ErrRange", laid_strconv_ErrRange), ("strconv.ErrSyntax", laid_strconv_ErrSyntax)] }
def ObjectProcsSaid : Prop := objectProcsRow.holds Tryz.pinned (OpenSpec.ofChange objectProcsSpec)

/-- ITS FALSE NEIGHBOUR: 'it returns false'. Refute it at one input. -/
def objectProcsWrong : ChangeSpec := { name := "objectProcs", fn := fun _ => fun
  | [d1, d2] => { results := [.lit (.bool false)], args := [d1, d2] }
  | _ => none }
def ObjectProcsWrongFalsely : Prop := objectProcsRow.holds Tryz.pinned (OpenSpec.ofChange objectProcsWrong)

/-- 'backsteplaw29.ObjectChecks': WHATEVER THE INPUT: true; the input reads as it did. -/
def objectChecksSpec : ChangeSpec := { name := "objectChecks", fn := fun _ => fun
  | [d] => { results := [.lit (.bool true)], args := [d] }
  | _ => none }
def objectChecksRow : OpenClaim := { program := "ytadecgbblajifaagreatdoor", sum := "a4a6b148d4f5f10197c52545130ee48dc1ec2f97cdd2f860bf1fd27316447427", func := "backstep/backsteplaw29.ObjectChecks", spec := "objectChecks", inPlace := ["internal/bytealg.IndexByteString"], unfollowed := true, recurses := true, named := ["backstep/arith.symbols", "strconv.ErrSyntax", "strconv.ErrRange", "internal/strconv.uint64pow10", "math/bits.deBruijn32tab", "math/bits.deBruijn64tab", "backstep/isa.table"], apart := false, laid := [("backstep/arith.symbols", laid_backstep_arith_symbols), ("backstep/isa.table", laid_backstep_isa_table), ("math/bits.deBruijn32tab", laid_math_bits_deBruijn32tab), ("math/bits.deBruijn64tab", laid_math_bits_deBruijn64tab), ("internal/strconv.uint64pow10", laid_internal_strconv_uint64pow10), ("strconv.ErrRange", laid_strconv_ErrRange), ("strconv.ErrSyntax", laid_strconv_ErrSyntax)] }
def ObjectChecksSaid : Prop := objectChecksRow.holds Tryz.pinned (OpenSpec.ofChange objectChecksSpec)

/-- ITS FALSE NEIGHBOUR: 'it returns false'. Refute it at one input. -/
def objectChecksWrong : ChangeSpec := { name := "objectChecks", fn := fun _ => fun
  | [d] => { results := [.lit (.bool false)], args := [d] }
  | _ => none }
def ObjectChecksWrongFalsely : Prop := objectChecksRow.holds Tryz.pinned (OpenSpec.ofChange objectChecksWrong)

/-- 'backsteplaw29.ObjectEncodes': WHATEVER THE INPUT: true; the input reads as it did. -/
def objectEncodesSpec : ChangeSpec := { name := "objectEncodes", fn := fun _ => fun
  | [d] => { results := [.lit (.bool true)], args := [d] }
  | _ => none }
def objectEncodesRow : OpenClaim := { program := "ytadecgbblajifaagreatdoor", sum := "a4a6b148d4f5f10197c52545130ee48dc1ec2f97cdd2f860bf1fd27316447427", func := "backstep/backsteplaw29.ObjectEncodes", spec := "objectEncodes", inPlace := ["internal/bytealg.IndexByteString"], unfollowed := true, recurses := true, named := ["backstep/arith.symbols", "strconv.ErrSyntax", "strconv.ErrRange", "internal/strconv.uint64pow10", "math/bits.deBruijn32tab", "math/bits.deBruijn64tab", "backstep/isa.table"], apart := false, laid := [("backstep/arith.symbols", laid_backstep_arith_symbols), ("backstep/isa.table", laid_backstep_isa_table), ("math/bits.deBruijn32tab", laid_math_bits_deBruijn32tab), ("math/bits.deBruijn64tab", laid_math_bits_deBruijn64tab), ("internal/strconv.uint64pow10", laid_internal_strconv_uint64pow10), ("strconv.ErrRange", laid_strconv_ErrRange), ("strconv.ErrSyntax", laid_strconv_ErrSyntax)] }
def ObjectEncodesSaid : Prop := objectEncodesRow.holds Tryz.pinned (OpenSpec.ofChange objectEncodesSpec)

/-- ITS FALSE NEIGHBOUR: 'it returns false'. Refute it at one input. -/
def objectEncodesWrong : ChangeSpec := { name := "objectEncodes", fn := fun _ => fun
  | [d] => { results := [.lit (.bool false)], args := [d] }
  | _ => none }
def ObjectEncodesWrongFalsely : Prop := objectEncodesRow.holds Tryz.pinned (OpenSpec.ofChange objectEncodesWrong)

/-- 'backsteplaw29.ObjectRound': WHATEVER THE INPUT: true; the input reads as it did. -/
def objectRoundSpec : ChangeSpec := { name := "objectRound", fn := fun _ => fun
  | [d] => { results := [.lit (.bool true)], args := [d] }
  | _ => none }
def objectRoundRow : OpenClaim := { program := "ytadecgbblajifaagreatdoor", sum := "a4a6b148d4f5f10197c52545130ee48dc1ec2f97cdd2f860bf1fd27316447427", func := "backstep/backsteplaw29.ObjectRound", spec := "objectRound", inPlace := ["internal/bytealg.IndexByteString"], unfollowed := true, recurses := true, named := ["backstep/arith.symbols", "strconv.ErrSyntax", "strconv.ErrRange", "internal/strconv.uint64pow10", "math/bits.deBruijn32tab", "math/bits.deBruijn64tab", "backstep/isa.table"], loops := true, apart := false, laid := [("backstep/arith.symbols", laid_backstep_arith_symbols), ("backstep/isa.table", laid_backstep_isa_table), ("math/bits.deBruijn32tab", laid_math_bits_deBruijn32tab), ("math/bits.deBruijn64tab", laid_math_bits_deBruijn64tab), ("internal/strconv.uint64pow10", laid_internal_strconv_uint64pow10), ("strconv.ErrRange", laid_strconv_ErrRange), ("strconv.ErrSyntax", laid_strconv_ErrSyntax)] }
def ObjectRoundSaid : Prop := objectRoundRow.holds Tryz.pinned (OpenSpec.ofChange objectRoundSpec)

/-- ITS FALSE NEIGHBOUR: 'it returns false'. Refute it at one input. -/
def objectRoundWrong : ChangeSpec := { name := "objectRound", fn := fun _ => fun
  | [d] => { results := [.lit (.bool false)], args := [d] }
  | _ => none }
def ObjectRoundWrongFalsely : Prop := objectRoundRow.holds Tryz.pinned (OpenSpec.ofChange objectRoundWrong)

/-- 'backsteplaw29.ObjectAny': WHATEVER THE INPUT: true; the input reads as it did. -/
def objectAnySpec : ChangeSpec := { name := "objectAny", fn := fun _ => fun
  | [d] => { results := [.lit (.bool true)], args := [d] }
  | _ => none }
def objectAnyRow : OpenClaim := { program := "ytadecgbblajifaagreatdoor", sum := "a4a6b148d4f5f10197c52545130ee48dc1ec2f97cdd2f860bf1fd27316447427", func := "backstep/backsteplaw29.ObjectAny", spec := "objectAny", inPlace := ["internal/bytealg.IndexByteString"], unfollowed := true, recurses := true, named := ["backstep/arith.symbols", "strconv.ErrSyntax", "strconv.ErrRange", "internal/strconv.uint64pow10", "math/bits.deBruijn32tab", "math/bits.deBruijn64tab", "backstep/isa.table"], apart := false, laid := [("backstep/arith.symbols", laid_backstep_arith_symbols), ("backstep/isa.table", laid_backstep_isa_table), ("math/bits.deBruijn32tab", laid_math_bits_deBruijn32tab), ("math/bits.deBruijn64tab", laid_math_bits_deBruijn64tab), ("internal/strconv.uint64pow10", laid_internal_strconv_uint64pow10), ("strconv.ErrRange", laid_strconv_ErrRange), ("strconv.ErrSyntax", laid_strconv_ErrSyntax)] }
def ObjectAnySaid : Prop := objectAnyRow.holds Tryz.pinned (OpenSpec.ofChange objectAnySpec)

/-- ITS FALSE NEIGHBOUR: 'it returns false'. Refute it at one input. -/
def objectAnyWrong : ChangeSpec := { name := "objectAny", fn := fun _ => fun
  | [d] => { results := [.lit (.bool false)], args := [d] }
  | _ => none }
def ObjectAnyWrongFalsely : Prop := objectAnyRow.holds Tryz.pinned (OpenSpec.ofChange objectAnyWrong)

/-- 'backsteplaw29.ObjectCuts': WHATEVER THE INPUT: true; the input reads as it did. -/
def objectCutsSpec : ChangeSpec := { name := "objectCuts", fn := fun _ => fun
  | [d1, d2, d3] => { results := [.lit (.bool true)], args := [d1, d2, d3] }
  | _ => none }
def objectCutsRow : OpenClaim := { program := "ytadecgbblajifaagreatdoor", sum := "a4a6b148d4f5f10197c52545130ee48dc1ec2f97cdd2f860bf1fd27316447427", func := "backstep/backsteplaw29.ObjectCuts", spec := "objectCuts", inPlace := ["internal/bytealg.IndexByteString"], unfollowed := true, recurses := true, named := ["backstep/arith.symbols", "strconv.ErrSyntax", "strconv.ErrRange", "internal/strconv.uint64pow10", "math/bits.deBruijn32tab", "math/bits.deBruijn64tab", "backstep/isa.table"], loops := true, apart := false, laid := [("backstep/arith.symbols", laid_backstep_arith_symbols), ("backstep/isa.table", laid_backstep_isa_table), ("math/bits.deBruijn32tab", laid_math_bits_deBruijn32tab), ("math/bits.deBruijn64tab", laid_math_bits_deBruijn64tab), ("internal/strconv.uint64pow10", laid_internal_strconv_uint64pow10), ("strconv.ErrRange", laid_strconv_ErrRange), ("strconv.ErrSyntax", laid_strconv_ErrSyntax)] }
def ObjectCutsSaid : Prop := objectCutsRow.holds Tryz.pinned (OpenSpec.ofChange objectCutsSpec)

/-- ITS FALSE NEIGHBOUR: 'it returns false'. Refute it at one input. -/
def objectCutsWrong : ChangeSpec := { name := "objectCuts", fn := fun _ => fun
  | [d1, d2, d3] => { results := [.lit (.bool false)], args := [d1, d2, d3] }
  | _ => none }
def ObjectCutsWrongFalsely : Prop := objectCutsRow.holds Tryz.pinned (OpenSpec.ofChange objectCutsWrong)

/-- 'backsteplaw29.ObjectCalls': WHATEVER THE INPUT: true; the input reads as it did. -/
def objectCallsSpec : ChangeSpec := { name := "objectCalls", fn := fun _ => fun
  | [d] => { results := [.lit (.bool true)], args := [d] }
  | _ => none }
def objectCallsRow : OpenClaim := { program := "ytadecgbblajifaagreatdoor", sum := "a4a6b148d4f5f10197c52545130ee48dc1ec2f97cdd2f860bf1fd27316447427", func := "backstep/backsteplaw29.ObjectCalls", spec := "objectCalls", inPlace := ["internal/bytealg.IndexByteString"], unfollowed := true, recurses := true, named := ["backstep/arith.symbols", "strconv.ErrSyntax", "strconv.ErrRange", "internal/strconv.uint64pow10", "math/bits.deBruijn32tab", "math/bits.deBruijn64tab", "backstep/isa.table"], loops := true, apart := false, laid := [("backstep/arith.symbols", laid_backstep_arith_symbols), ("backstep/isa.table", laid_backstep_isa_table), ("math/bits.deBruijn32tab", laid_math_bits_deBruijn32tab), ("math/bits.deBruijn64tab", laid_math_bits_deBruijn64tab), ("internal/strconv.uint64pow10", laid_internal_strconv_uint64pow10), ("strconv.ErrRange", laid_strconv_ErrRange), ("strconv.ErrSyntax", laid_strconv_ErrSyntax)] }
def ObjectCallsSaid : Prop := objectCallsRow.holds Tryz.pinned (OpenSpec.ofChange objectCallsSpec)

/-- ITS FALSE NEIGHBOUR: 'it returns false'. Refute it at one input. -/
def objectCallsWrong : ChangeSpec := { name := "objectCalls", fn := fun _ => fun
  | [d] => { results := [.lit (.bool false)], args := [d] }
  | _ => none }
def ObjectCallsWrongFalsely : Prop := objectCallsRow.holds Tryz.pinned (OpenSpec.ofChange objectCallsWrong)

/-- 'backsteplaw29.ObjectAlone': WHATEVER THE INPUT: true; the input reads as it did. -/
def objectAloneSpec : ChangeSpec := { name := "objectAlone", fn := fun _ => fun
  | [d1, d2] => { results := [.lit (.bool true)], args := [d1, d2] }
  | _ => none }
def objectAloneRow : OpenClaim := { program := "ytadecgbblajifaagreatdoor", sum := "a4a6b148d4f5f10197c52545130ee48dc1ec2f97cdd2f860bf1fd27316447427", func := "backstep/backsteplaw29.ObjectAlone", spec := "objectAlone", inPlace := ["internal/bytealg.IndexByteString"], unfollowed := true, recurses := true, named := ["backstep/arith.symbols", "strconv.ErrSyntax", "strconv.ErrRange", "internal/strconv.uint64pow10", "math/bits.deBruijn32tab", "math/bits.deBruijn64tab", "backstep/isa.table"], loops := true, apart := false, laid := [("backstep/arith.symbols", laid_backstep_arith_symbols), ("backstep/isa.table", laid_backstep_isa_table), ("math/bits.deBruijn32tab", laid_math_bits_deBruijn32tab), ("math/bits.deBruijn64tab", laid_math_bits_deBruijn64tab), ("internal/strconv.uint64pow10", laid_internal_strconv_uint64pow10), ("strconv.ErrRange", laid_strconv_ErrRange), ("strconv.ErrSyntax", laid_strconv_ErrSyntax)] }
def ObjectAloneSaid : Prop := objectAloneRow.holds Tryz.pinned (OpenSpec.ofChange objectAloneSpec)

/-- ITS FALSE NEIGHBOUR: 'it returns false'. Refute it at one input. -/
def objectAloneWrong : ChangeSpec := { name := "objectAlone", fn := fun _ => fun
  | [d1, d2] => { results := [.lit (.bool false)], args := [d1, d2] }
  | _ => none }
def ObjectAloneWrongFalsely : Prop := objectAloneRow.holds Tryz.pinned (OpenSpec.ofChange objectAloneWrong)

/- THE SECOND FORM. 'bulk': how many values and letters a reading holds, each counted each time it is reached (what is shared counts as often as it is met; a slice's spare places count too). A statement '..UptoSaid' is the law's where the arguments, and the package variables that the reading takes, are together of bulk at most 1048576: NARROWER than '..Said'. Prove '..Said' where nothing that the law and all that it calls make is longer than what came in: it says more and counts as full. Else prove '..UptoSaid'. A law counts once. -/
mutual
def uptoBulk {H : Type} : DataW H → Nat
  | .lit (.string bytes) => bytes.length + 1
  | .lit _ => 1
  | .nil => 1
  | .ptr d => uptoBulk d + 1
  | .slice elems spare => uptoBulkAll elems + uptoBulkAll spare + 1
  | .agg parts => uptoBulkAll parts + 1
  | .iface _ d => uptoBulk d + 1
  | .map entries => uptoBulkEntries entries + 1
  | .held _ => 1
def uptoBulkAll {H : Type} : List (DataW H) → Nat
  | [] => 0
  | d :: r => uptoBulk d + uptoBulkAll r
def uptoBulkEntries {H : Type} : List (Lit × DataW H) → Nat
  | [] => 0
  | x :: r => uptoBulkEntry x + uptoBulkEntries r
def uptoBulkEntry {H : Type} : Lit × DataW H → Nat
  | (.string bytes, d) => bytes.length + uptoBulk d + 1
  | (_, d) => uptoBulk d + 1
 end
def uptoSmall : (H : Type) → List (DataW H) → Bool := fun _ ds => decide (uptoBulkAll ds ≤ 1048576)
def OpenSpec.upto (s : _root_.Go.ChangeSpec) : _root_.Go.OpenSpec := { _root_.Go.OpenSpec.ofChange s with cond := some uptoSmall }

/-- 'backsteplaw29.ObjectProcs', WHERE WHAT IT READS IS OF BULK AT MOST 1048576: true; the input reads as it did. -/
def objectProcsUptoRow : OpenClaim := { program := "ytadecgbblajifaagreatdoor", sum := "a4a6b148d4f5f10197c52545130ee48dc1ec2f97cdd2f860bf1fd27316447427", func := "backstep/backsteplaw29.ObjectProcs", spec := "objectProcs", inPlace := ["internal/bytealg.IndexByteString"], unfollowed := true, recurses := true, named := ["backstep/arith.symbols", "strconv.ErrSyntax", "strconv.ErrRange", "internal/strconv.uint64pow10", "math/bits.deBruijn32tab", "math/bits.deBruijn64tab", "backstep/isa.table"], loops := true, apart := false, laid := [("backstep/arith.symbols", laid_backstep_arith_symbols), ("backstep/isa.table", laid_backstep_isa_table), ("math/bits.deBruijn32tab", laid_math_bits_deBruijn32tab), ("math/bits.deBruijn64tab", laid_math_bits_deBruijn64tab), ("internal/strconv.uint64pow10", laid_internal_strconv_uint64pow10), ("strconv.ErrRange", laid_strconv_ErrRange), ("strconv.ErrSyntax", laid_strconv_ErrSyntax)], narrowed := true }
def ObjectProcsUptoSaid : Prop := objectProcsUptoRow.holds Tryz.pinned (OpenSpec.upto objectProcsSpec)

/-- 'backsteplaw29.ObjectChecks', WHERE WHAT IT READS IS OF BULK AT MOST 1048576: true; the input reads as it did. -/
def objectChecksUptoRow : OpenClaim := { program := "ytadecgbblajifaagreatdoor", sum := "a4a6b148d4f5f10197c52545130ee48dc1ec2f97cdd2f860bf1fd27316447427", func := "backstep/backsteplaw29.ObjectChecks", spec := "objectChecks", inPlace := ["internal/bytealg.IndexByteString"], unfollowed := true, recurses := true, named := ["backstep/arith.symbols", "strconv.ErrSyntax", "strconv.ErrRange", "internal/strconv.uint64pow10", "math/bits.deBruijn32tab", "math/bits.deBruijn64tab", "backstep/isa.table"], apart := false, laid := [("backstep/arith.symbols", laid_backstep_arith_symbols), ("backstep/isa.table", laid_backstep_isa_table), ("math/bits.deBruijn32tab", laid_math_bits_deBruijn32tab), ("math/bits.deBruijn64tab", laid_math_bits_deBruijn64tab), ("internal/strconv.uint64pow10", laid_internal_strconv_uint64pow10), ("strconv.ErrRange", laid_strconv_ErrRange), ("strconv.ErrSyntax", laid_strconv_ErrSyntax)], narrowed := true }
def ObjectChecksUptoSaid : Prop := objectChecksUptoRow.holds Tryz.pinned (OpenSpec.upto objectChecksSpec)

/-- 'backsteplaw29.ObjectEncodes', WHERE WHAT IT READS IS OF BULK AT MOST 1048576: true; the input reads as it did. -/
def objectEncodesUptoRow : OpenClaim := { program := "ytadecgbblajifaagreatdoor", sum := "a4a6b148d4f5f10197c52545130ee48dc1ec2f97cdd2f860bf1fd27316447427", func := "backstep/backsteplaw29.ObjectEncodes", spec := "objectEncodes", inPlace := ["internal/bytealg.IndexByteString"], unfollowed := true, recurses := true, named := ["backstep/arith.symbols", "strconv.ErrSyntax", "strconv.ErrRange", "internal/strconv.uint64pow10", "math/bits.deBruijn32tab", "math/bits.deBruijn64tab", "backstep/isa.table"], apart := false, laid := [("backstep/arith.symbols", laid_backstep_arith_symbols), ("backstep/isa.table", laid_backstep_isa_table), ("math/bits.deBruijn32tab", laid_math_bits_deBruijn32tab), ("math/bits.deBruijn64tab", laid_math_bits_deBruijn64tab), ("internal/strconv.uint64pow10", laid_internal_strconv_uint64pow10), ("strconv.ErrRange", laid_strconv_ErrRange), ("strconv.ErrSyntax", laid_strconv_ErrSyntax)], narrowed := true }
def ObjectEncodesUptoSaid : Prop := objectEncodesUptoRow.holds Tryz.pinned (OpenSpec.upto objectEncodesSpec)

/-- 'backsteplaw29.ObjectRound', WHERE WHAT IT READS IS OF BULK AT MOST 1048576: true; the input reads as it did. -/
def objectRoundUptoRow : OpenClaim := { program := "ytadecgbblajifaagreatdoor", sum := "a4a6b148d4f5f10197c52545130ee48dc1ec2f97cdd2f860bf1fd27316447427", func := "backstep/backsteplaw29.ObjectRound", spec := "objectRound", inPlace := ["internal/bytealg.IndexByteString"], unfollowed := true, recurses := true, named := ["backstep/arith.symbols", "strconv.ErrSyntax", "strconv.ErrRange", "internal/strconv.uint64pow10", "math/bits.deBruijn32tab", "math/bits.deBruijn64tab", "backstep/isa.table"], loops := true, apart := false, laid := [("backstep/arith.symbols", laid_backstep_arith_symbols), ("backstep/isa.table", laid_backstep_isa_table), ("math/bits.deBruijn32tab", laid_math_bits_deBruijn32tab), ("math/bits.deBruijn64tab", laid_math_bits_deBruijn64tab), ("internal/strconv.uint64pow10", laid_internal_strconv_uint64pow10), ("strconv.ErrRange", laid_strconv_ErrRange), ("strconv.ErrSyntax", laid_strconv_ErrSyntax)], narrowed := true }
def ObjectRoundUptoSaid : Prop := objectRoundUptoRow.holds Tryz.pinned (OpenSpec.upto objectRoundSpec)

/-- 'backsteplaw29.ObjectAny', WHERE WHAT IT READS IS OF BULK AT MOST 1048576: true; the input reads as it did. -/
def objectAnyUptoRow : OpenClaim := { program := "ytadecgbblajifaagreatdoor", sum := "a4a6b148d4f5f10197c52545130ee48dc1ec2f97cdd2f860bf1fd27316447427", func := "backstep/backsteplaw29.ObjectAny", spec := "objectAny", inPlace := ["internal/bytealg.IndexByteString"], unfollowed := true, recurses := true, named := ["backstep/arith.symbols", "strconv.ErrSyntax", "strconv.ErrRange", "internal/strconv.uint64pow10", "math/bits.deBruijn32tab", "math/bits.deBruijn64tab", "backstep/isa.table"], apart := false, laid := [("backstep/arith.symbols", laid_backstep_arith_symbols), ("backstep/isa.table", laid_backstep_isa_table), ("math/bits.deBruijn32tab", laid_math_bits_deBruijn32tab), ("math/bits.deBruijn64tab", laid_math_bits_deBruijn64tab), ("internal/strconv.uint64pow10", laid_internal_strconv_uint64pow10), ("strconv.ErrRange", laid_strconv_ErrRange), ("strconv.ErrSyntax", laid_strconv_ErrSyntax)], narrowed := true }
def ObjectAnyUptoSaid : Prop := objectAnyUptoRow.holds Tryz.pinned (OpenSpec.upto objectAnySpec)

/-- 'backsteplaw29.ObjectCuts', WHERE WHAT IT READS IS OF BULK AT MOST 1048576: true; the input reads as it did. -/
def objectCutsUptoRow : OpenClaim := { program := "ytadecgbblajifaagreatdoor", sum := "a4a6b148d4f5f10197c52545130ee48dc1ec2f97cdd2f860bf1fd27316447427", func := "backstep/backsteplaw29.ObjectCuts", spec := "objectCuts", inPlace := ["internal/bytealg.IndexByteString"], unfollowed := true, recurses := true, named := ["backstep/arith.symbols", "strconv.ErrSyntax", "strconv.ErrRange", "internal/strconv.uint64pow10", "math/bits.deBruijn32tab", "math/bits.deBruijn64tab", "backstep/isa.table"], loops := true, apart := false, laid := [("backstep/arith.symbols", laid_backstep_arith_symbols), ("backstep/isa.table", laid_backstep_isa_table), ("math/bits.deBruijn32tab", laid_math_bits_deBruijn32tab), ("math/bits.deBruijn64tab", laid_math_bits_deBruijn64tab), ("internal/strconv.uint64pow10", laid_internal_strconv_uint64pow10), ("strconv.ErrRange", laid_strconv_ErrRange), ("strconv.ErrSyntax", laid_strconv_ErrSyntax)], narrowed := true }
def ObjectCutsUptoSaid : Prop := objectCutsUptoRow.holds Tryz.pinned (OpenSpec.upto objectCutsSpec)

/-- 'backsteplaw29.ObjectCalls', WHERE WHAT IT READS IS OF BULK AT MOST 1048576: true; the input reads as it did. -/
def objectCallsUptoRow : OpenClaim := { program := "ytadecgbblajifaagreatdoor", sum := "a4a6b148d4f5f10197c52545130ee48dc1ec2f97cdd2f860bf1fd27316447427", func := "backstep/backsteplaw29.ObjectCalls", spec := "objectCalls", inPlace := ["internal/bytealg.IndexByteString"], unfollowed := true, recurses := true, named := ["backstep/arith.symbols", "strconv.ErrSyntax", "strconv.ErrRange", "internal/strconv.uint64pow10", "math/bits.deBruijn32tab", "math/bits.deBruijn64tab", "backstep/isa.table"], loops := true, apart := false, laid := [("backstep/arith.symbols", laid_backstep_arith_symbols), ("backstep/isa.table", laid_backstep_isa_table), ("math/bits.deBruijn32tab", laid_math_bits_deBruijn32tab), ("math/bits.deBruijn64tab", laid_math_bits_deBruijn64tab), ("internal/strconv.uint64pow10", laid_internal_strconv_uint64pow10), ("strconv.ErrRange", laid_strconv_ErrRange), ("strconv.ErrSyntax", laid_strconv_ErrSyntax)], narrowed := true }
def ObjectCallsUptoSaid : Prop := objectCallsUptoRow.holds Tryz.pinned (OpenSpec.upto objectCallsSpec)

/-- 'backsteplaw29.ObjectAlone', WHERE WHAT IT READS IS OF BULK AT MOST 1048576: true; the input reads as it did. -/
def objectAloneUptoRow : OpenClaim := { program := "ytadecgbblajifaagreatdoor", sum := "a4a6b148d4f5f10197c52545130ee48dc1ec2f97cdd2f860bf1fd27316447427", func := "backstep/backsteplaw29.ObjectAlone", spec := "objectAlone", inPlace := ["internal/bytealg.IndexByteString"], unfollowed := true, recurses := true, named := ["backstep/arith.symbols", "strconv.ErrSyntax", "strconv.ErrRange", "internal/strconv.uint64pow10", "math/bits.deBruijn32tab", "math/bits.deBruijn64tab", "backstep/isa.table"], loops := true, apart := false, laid := [("backstep/arith.symbols", laid_backstep_arith_symbols), ("backstep/isa.table", laid_backstep_isa_table), ("math/bits.deBruijn32tab", laid_math_bits_deBruijn32tab), ("math/bits.deBruijn64tab", laid_math_bits_deBruijn64tab), ("internal/strconv.uint64pow10", laid_internal_strconv_uint64pow10), ("strconv.ErrRange", laid_strconv_ErrRange), ("strconv.ErrSyntax", laid_strconv_ErrSyntax)], narrowed := true }
def ObjectAloneUptoSaid : Prop := objectAloneUptoRow.holds Tryz.pinned (OpenSpec.upto objectAloneSpec)

end Rows
end Go.Proofs.YtadecgbblajifaaGreatDoor
