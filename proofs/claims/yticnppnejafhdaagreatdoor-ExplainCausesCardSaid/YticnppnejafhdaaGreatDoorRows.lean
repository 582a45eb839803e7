/-
  NARROWER THAN 'FOR EVERY INPUT', by the rows' own cells (each row's printed sentence says how): ExplainFinds: laid · ExplainChecks: laid · ExplainNamed: laid · ExplainNothing: laid · ExplainRight: laid · ExplainCauses: laid.
  DERIVED. THE GIVEN ROWS OF THIS SEAT. 6 by the template 'for every input the law returns true; each argument reads behind the call as it read before'; 0 by the template 'total and deterministic' (their statements: YticnppnejafhdaaGreatDoorTotals.lean).
  GIVEN WITH THE SEED: the statements are not yours to turn. If you find one false, say at which input.
  Laid BY PROGRAM, IN A SANDBOX (cutbox-rows.mjs): the forced cells as the released guide's own fill.sh prints them over the translation 7e43592b40c7ffd6… (all of the seat's roots in one cut). By AI agents, Wed Nov 11 2026. No macro, syntax, notation, axiom, sorry.
-/
import Derived.Test.YticnppnejafhdaaGreatDoorChecked
import GoSem.Claim
import GoSem.ClaimJoined
import GoSem.ClaimMapViews
import Derived.JoinedTies
import Derived.KernelRfl
namespace Go.Proofs.YticnppnejafhdaaGreatDoor
/- THE CELL 'sum', in the pinned program and in every row, IS THE sha256 OF THE DUMP (.gsa) THAT YticnppnejafhdaaGreatDoorProg.lean LOADS. Nothing in Lean hashes anything: it is a label: what it is worth is what the hold of that sum in a sandbox is worth. -/
noncomputable def Tryz.pinned : Pinned := { name := "yticnppnejafhdaagreatdoor", sum := "7e43592b40c7ffd61982b52a5ced4f65360aaad259208435a6fea7eb47449e5f", checked := Tryz.checked }
namespace Rows
def none {H : Type} : Left H := { results := [], args := [] }

/- WHAT THE LISTED PACKAGE-LEVEL VARIABLES READ AS WHEN THE CALL BEGINS. Each datum BY PROGRAM (the guide's laid-datum.mjs) off the statement by which the dump's own 'gosem.cut.vars' lays the variable. In a bare row this is a premise. The card (YticnppnejafhdaaGreatDoorCards.lean) ties it to the program's text. -/
def laid_math_bits_deBruijn32tab {H : Type} : DataW H := .agg [.lit (.int .u8 0), .lit (.int .u8 1), .lit (.int .u8 28), .lit (.int .u8 2), .lit (.int .u8 29), .lit (.int .u8 14), .lit (.int .u8 24), .lit (.int .u8 3), .lit (.int .u8 30), .lit (.int .u8 22), .lit (.int .u8 20), .lit (.int .u8 15), .lit (.int .u8 25), .lit (.int .u8 17), .lit (.int .u8 4), .lit (.int .u8 8), .lit (.int .u8 31), .lit (.int .u8 27), .lit (.int .u8 13), .lit (.int .u8 23), .lit (.int .u8 21), .lit (.int .u8 19), .lit (.int .u8 16), .lit (.int .u8 7), .lit (.int .u8 26), .lit (.int .u8 12), .lit (.int .u8 18), .lit (.int .u8 6), .lit (.int .u8 11), .lit (.int .u8 5), .lit (.int .u8 10), .lit (.int .u8 9)]
def laid_math_bits_deBruijn64tab {H : Type} : DataW H := .agg [.lit (.int .u8 0), .lit (.int .u8 1), .lit (.int .u8 56), .lit (.int .u8 2), .lit (.int .u8 57), .lit (.int .u8 49), .lit (.int .u8 28), .lit (.int .u8 3), .lit (.int .u8 61), .lit (.int .u8 58), .lit (.int .u8 42), .lit (.int .u8 50), .lit (.int .u8 38), .lit (.int .u8 29), .lit (.int .u8 17), .lit (.int .u8 4), .lit (.int .u8 62), .lit (.int .u8 47), .lit (.int .u8 59), .lit (.int .u8 36), .lit (.int .u8 45), .lit (.int .u8 43), .lit (.int .u8 51), .lit (.int .u8 22), .lit (.int .u8 53), .lit (.int .u8 39), .lit (.int .u8 33), .lit (.int .u8 30), .lit (.int .u8 24), .lit (.int .u8 18), .lit (.int .u8 12), .lit (.int .u8 5), .lit (.int .u8 63), .lit (.int .u8 55), .lit (.int .u8 48), .lit (.int .u8 27), .lit (.int .u8 60), .lit (.int .u8 41), .lit (.int .u8 37), .lit (.int .u8 16), .lit (.int .u8 46), .lit (.int .u8 35), .lit (.int .u8 44), .lit (.int .u8 21), .lit (.int .u8 52), .lit (.int .u8 32), .lit (.int .u8 23), .lit (.int .u8 11), .lit (.int .u8 54), .lit (.int .u8 26), .lit (.int .u8 40), .lit (.int .u8 15), .lit (.int .u8 34), .lit (.int .u8 20), .lit (.int .u8 31), .lit (.int .u8 10), .lit (.int .u8 25), .lit (.int .u8 14), .lit (.int .u8 19), .lit (.int .u8 9), .lit (.int .u8 13), .lit (.int .u8 8), .lit (.int .u8 7), .lit (.int .u8 6)]
def laid_internal_strconv_uint64pow10 {H : Type} : DataW H := .agg [.lit (.int .u64 1), .lit (.int .u64 10), .lit (.int .u64 100), .lit (.int .u64 1000), .lit (.int .u64 10000), .lit (.int .u64 100000), .lit (.int .u64 1000000), .lit (.int .u64 10000000), .lit (.int .u64 100000000), .lit (.int .u64 1000000000), .lit (.int .u64 10000000000), .lit (.int .u64 100000000000), .lit (.int .u64 1000000000000), .lit (.int .u64 10000000000000), .lit (.int .u64 100000000000000), .lit (.int .u64 1000000000000000), .lit (.int .u64 10000000000000000), .lit (.int .u64 100000000000000000), .lit (.int .u64 1000000000000000000), .lit (.int .u64 10000000000000000000)]

/-- 'hopmeshlaw57.ExplainFinds': WHATEVER THE INPUT: true; the input reads as it did. -/
def explainFindsSpec : ChangeSpec := { name := "explainFinds", fn := fun _ => fun
  | [d1, d2, d3, d4, d5, d6, d7] => { results := [.lit (.bool true)], args := [d1, d2, d3, d4, d5, d6, d7] }
  | _ => none }
def explainFindsRow : OpenClaim := { program := "yticnppnejafhdaagreatdoor", sum := "7e43592b40c7ffd61982b52a5ced4f65360aaad259208435a6fea7eb47449e5f", func := "hopmesh/hopmeshlaw57.ExplainFinds", spec := "explainFinds", inPlace := ["internal/abi.NoEscape", "internal/bytealg.MakeNoZero"], unfollowed := true, recurses := true, named := ["internal/strconv.uint64pow10", "math/bits.deBruijn32tab", "math/bits.deBruijn64tab"], plainKeys := false, apart := false, laid := [("math/bits.deBruijn32tab", laid_math_bits_deBruijn32tab), ("math/bits.deBruijn64tab", laid_math_bits_deBruijn64tab), ("internal/strconv.uint64pow10", laid_internal_strconv_uint64pow10)] }
def ExplainFindsSaid : Prop := explainFindsRow.holds Tryz.pinned (OpenSpec.ofChange explainFindsSpec)

/-- ITS FALSE NEIGHBOUR: 'it returns false'. Refute it at one input. -/
def explainFindsWrong : ChangeSpec := { name := "explainFinds", fn := fun _ => fun
  | [d1, d2, d3, d4, d5, d6, d7] => { results := [.lit (.bool false)], args := [d1, d2, d3, d4, d5, d6, d7] }
  | _ => none }
def ExplainFindsWrongFalsely : Prop := explainFindsRow.holds Tryz.pinned (OpenSpec.ofChange explainFindsWrong)

/-- 'hopmeshlaw57.ExplainChecks': WHATEVER THE INPUT: true; the input reads as it did. -/
def explainChecksSpec : ChangeSpec := { name := "explainChecks", fn := fun _ => fun
  | [d1, d2, d3, d4, d5] => { results := [.lit (.bool true)], args := [d1, d2, d3, d4, d5] }
  | _ => none }
def explainChecksRow : OpenClaim := { program := "yticnppnejafhdaagreatdoor", sum := "7e43592b40c7ffd61982b52a5ced4f65360aaad259208435a6fea7eb47449e5f", func := "hopmesh/hopmeshlaw57.ExplainChecks", spec := "explainChecks", inPlace := ["internal/abi.NoEscape", "internal/bytealg.MakeNoZero"], unfollowed := true, recurses := true, named := ["internal/strconv.uint64pow10", "math/bits.deBruijn32tab", "math/bits.deBruijn64tab"], plainKeys := false, apart := false, laid := [("math/bits.deBruijn32tab", laid_math_bits_deBruijn32tab), ("math/bits.deBruijn64tab", laid_math_bits_deBruijn64tab), ("internal/strconv.uint64pow10", laid_internal_strconv_uint64pow10)] }
def ExplainChecksSaid : Prop := explainChecksRow.holds Tryz.pinned (OpenSpec.ofChange explainChecksSpec)

/-- ITS FALSE NEIGHBOUR: 'it returns false'. Refute it at one input. -/
def explainChecksWrong : ChangeSpec := { name := "explainChecks", fn := fun _ => fun
  | [d1, d2, d3, d4, d5] => { results := [.lit (.bool false)], args := [d1, d2, d3, d4, d5] }
  | _ => none }
def ExplainChecksWrongFalsely : Prop := explainChecksRow.holds Tryz.pinned (OpenSpec.ofChange explainChecksWrong)

/-- 'hopmeshlaw57.ExplainNamed': WHATEVER THE INPUT: true; the input reads as it did. -/
def explainNamedSpec : ChangeSpec := { name := "explainNamed", fn := fun _ => fun
  | [d1, d2, d3, d4, d5] => { results := [.lit (.bool true)], args := [d1, d2, d3, d4, d5] }
  | _ => none }
def explainNamedRow : OpenClaim := { program := "yticnppnejafhdaagreatdoor", sum := "7e43592b40c7ffd61982b52a5ced4f65360aaad259208435a6fea7eb47449e5f", func := "hopmesh/hopmeshlaw57.ExplainNamed", spec := "explainNamed", inPlace := ["internal/abi.NoEscape", "internal/bytealg.MakeNoZero"], unfollowed := true, recurses := true, named := ["internal/strconv.uint64pow10", "math/bits.deBruijn32tab", "math/bits.deBruijn64tab"], plainKeys := false, apart := false, laid := [("math/bits.deBruijn32tab", laid_math_bits_deBruijn32tab), ("math/bits.deBruijn64tab", laid_math_bits_deBruijn64tab), ("internal/strconv.uint64pow10", laid_internal_strconv_uint64pow10)] }
def ExplainNamedSaid : Prop := explainNamedRow.holds Tryz.pinned (OpenSpec.ofChange explainNamedSpec)

/-- ITS FALSE NEIGHBOUR: 'it returns false'. Refute it at one input. -/
def explainNamedWrong : ChangeSpec := { name := "explainNamed", fn := fun _ => fun
  | [d1, d2, d3, d4, d5] => { results := [.lit (.bool false)], args := [d1, d2, d3, d4, d5] }
  | _ => none }
def ExplainNamedWrongFalsely : Prop := explainNamedRow.holds Tryz.pinned (OpenSpec.ofChange explainNamedWrong)

/-- 'hopmeshlaw57.ExplainNothing': WHATEVER THE INPUT: true; the input reads as it did. -/
def explainNothingSpec : ChangeSpec := { name := "explainNothing", fn := fun _ => fun
  | [d1, d2, d3, d4, d5] => { results := [.lit (.bool true)], args := [d1, d2, d3, d4, d5] }
  | _ => none }
def explainNothingRow : OpenClaim := { program := "yticnppnejafhdaagreatdoor", sum := "7e43592b40c7ffd61982b52a5ced4f65360aaad259208435a6fea7eb47449e5f", func := "hopmesh/hopmeshlaw57.ExplainNothing", spec := "explainNothing", inPlace := ["internal/abi.NoEscape", "internal/bytealg.MakeNoZero"], unfollowed := true, recurses := true, named := ["internal/strconv.uint64pow10", "math/bits.deBruijn32tab", "math/bits.deBruijn64tab"], plainKeys := false, apart := false, laid := [("math/bits.deBruijn32tab", laid_math_bits_deBruijn32tab), ("math/bits.deBruijn64tab", laid_math_bits_deBruijn64tab), ("internal/strconv.uint64pow10", laid_internal_strconv_uint64pow10)] }
def ExplainNothingSaid : Prop := explainNothingRow.holds Tryz.pinned (OpenSpec.ofChange explainNothingSpec)

/-- ITS FALSE NEIGHBOUR: 'it returns false'. Refute it at one input. -/
def explainNothingWrong : ChangeSpec := { name := "explainNothing", fn := fun _ => fun
  | [d1, d2, d3, d4, d5] => { results := [.lit (.bool false)], args := [d1, d2, d3, d4, d5] }
  | _ => none }
def ExplainNothingWrongFalsely : Prop := explainNothingRow.holds Tryz.pinned (OpenSpec.ofChange explainNothingWrong)

/-- 'hopmeshlaw57.ExplainRight': WHATEVER THE INPUT: true; the input reads as it did. -/
def explainRightSpec : ChangeSpec := { name := "explainRight", fn := fun _ => fun
  | [d1, d2, d3, d4, d5] => { results := [.lit (.bool true)], args := [d1, d2, d3, d4, d5] }
  | _ => none }
def explainRightRow : OpenClaim := { program := "yticnppnejafhdaagreatdoor", sum := "7e43592b40c7ffd61982b52a5ced4f65360aaad259208435a6fea7eb47449e5f", func := "hopmesh/hopmeshlaw57.ExplainRight", spec := "explainRight", inPlace := ["internal/abi.NoEscape", "internal/bytealg.MakeNoZero", "internal/bytealg.CountString", "internal/bytealg.IndexByteString", "internal/bytealg.IndexString"], unfollowed := true, recurses := true, named := ["internal/strconv.uint64pow10", "math/bits.deBruijn32tab", "math/bits.deBruijn64tab", "internal/bytealg.MaxLen"], plainKeys := false, apart := false, laid := [("math/bits.deBruijn32tab", laid_math_bits_deBruijn32tab), ("math/bits.deBruijn64tab", laid_math_bits_deBruijn64tab), ("internal/strconv.uint64pow10", laid_internal_strconv_uint64pow10)] }
def ExplainRightSaid : Prop := explainRightRow.holds Tryz.pinned (OpenSpec.ofChange explainRightSpec)

/-- ITS FALSE NEIGHBOUR: 'it returns false'. Refute it at one input. -/
def explainRightWrong : ChangeSpec := { name := "explainRight", fn := fun _ => fun
  | [d1, d2, d3, d4, d5] => { results := [.lit (.bool false)], args := [d1, d2, d3, d4, d5] }
  | _ => none }
def ExplainRightWrongFalsely : Prop := explainRightRow.holds Tryz.pinned (OpenSpec.ofChange explainRightWrong)

/-- 'hopmeshlaw57.ExplainCauses': WHATEVER THE INPUT: true; the input reads as it did. -/
def explainCausesSpec : ChangeSpec := { name := "explainCauses", fn := fun _ => fun
  | [d1, d2, d3, d4, d5, d6] => { results := [.lit (.bool true)], args := [d1, d2, d3, d4, d5, d6] }
  | _ => none }
def explainCausesRow : OpenClaim := { program := "yticnppnejafhdaagreatdoor", sum := "7e43592b40c7ffd61982b52a5ced4f65360aaad259208435a6fea7eb47449e5f", func := "hopmesh/hopmeshlaw57.ExplainCauses", spec := "explainCauses", inPlace := ["internal/abi.NoEscape", "internal/bytealg.MakeNoZero"], unfollowed := true, recurses := true, named := ["internal/strconv.uint64pow10", "math/bits.deBruijn32tab", "math/bits.deBruijn64tab"], plainKeys := false, apart := false, laid := [("math/bits.deBruijn32tab", laid_math_bits_deBruijn32tab), ("math/bits.deBruijn64tab", laid_math_bits_deBruijn64tab), ("internal/strconv.uint64pow10", laid_internal_strconv_uint64pow10)] }
def ExplainCausesSaid : Prop := explainCausesRow.holds Tryz.pinned (OpenSpec.ofChange explainCausesSpec)

/-- ITS FALSE NEIGHBOUR: 'it returns false'. Refute it at one input. -/
def explainCausesWrong : ChangeSpec := { name := "explainCauses", fn := fun _ => fun
  | [d1, d2, d3, d4, d5, d6] => { results := [.lit (.bool false)], args := [d1, d2, d3, d4, d5, d6] }
  | _ => none }
def ExplainCausesWrongFalsely : Prop := explainCausesRow.holds Tryz.pinned (OpenSpec.ofChange explainCausesWrong)

/- THE SECOND FORM. 'bulk': how many values and letters a reading holds, each counted each time it is reached (what is shared counts as often as it is met; a slice's spare places count too). A statement '..UptoSaid' is the law's where the arguments, and the package variables that the reading takes, are together of bulk at most 1048576: NARROWER than '..Said'. Prove '..Said' where nothing that the law and all that it calls make is longer than what came in: it says more and counts as full. Else prove '..UptoSaid'. A law counts once. -/
mutual
def uptoBulk {H : Type} : DataW H → Nat
  | .lit (.string bytes) => bytes.length + 1
  | .lit _ => 1
  | .nil => 1
  | .ptr d => uptoBulk d + 1
  | .slice elems spare => uptoBulkAll elems + uptoBulkAll spare + 1
  | .agg parts => uptoBulkAll parts + 1
  | .iface _ d => uptoBulk d + 1
  | .map entries => uptoBulkEntries entries + 1
  | .held _ => 1
def uptoBulkAll {H : Type} : List (DataW H) → Nat
  | [] => 0
  | d :: r => uptoBulk d + uptoBulkAll r
def uptoBulkEntries {H : Type} : List (Lit × DataW H) → Nat
  | [] => 0
  | x :: r => uptoBulkEntry x + uptoBulkEntries r
def uptoBulkEntry {H : Type} : Lit × DataW H → Nat
  | (.string bytes, d) => bytes.length + uptoBulk d + 1
  | (_, d) => uptoBulk d + 1
 end
def uptoSmall : (H : Type) → List (DataW H) → Bool := fun _ ds => decide (uptoBulkAll ds ≤ 1048576)
def OpenSpec.upto (s : _root_.Go.ChangeSpec) : _root_.Go.OpenSpec := { _root_.Go.OpenSpec.ofChange s with cond := some uptoSmall }

/-- 'hopmeshlaw57.ExplainFinds', WHERE WHAT IT READS IS OF BULK AT MOST 1048576: true; the input reads as it did. -/
def explainFindsUptoRow : OpenClaim := { program := "yticnppnejafhdaagreatdoor", sum := "7e43592b40c7ffd61982b52a5ced4f65360aaad259208435a6fea7eb47449e5f", func := "hopmesh/hopmeshlaw57.ExplainFinds", spec := "explainFinds", inPlace := ["internal/abi.NoEscape", "internal/bytealg.MakeNoZero"], unfollowed := true, recurses := true, named := ["internal/strconv.uint64pow10", "math/bits.deBruijn32tab", "math/bits.deBruijn64tab"], plainKeys := false, apart := false, laid := [("math/bits.deBruijn32tab", laid_math_bits_deBruijn32tab), ("math/bits.deBruijn64tab", laid_math_bits_deBruijn64tab), ("internal/strconv.uint64pow10", laid_internal_strconv_uint64pow10)], narrowed := true }
def ExplainFindsUptoSaid : Prop := explainFindsUptoRow.holds Tryz.pinned (OpenSpec.upto explainFindsSpec)

/-- 'hopmeshlaw57.ExplainChecks', WHERE WHAT IT READS IS OF BULK AT MOST 1048576: true; the input reads as it did. -/
def explainChecksUptoRow : OpenClaim := { program := "yticnppnejafhdaagreatdoor", sum := "7e43592b40c7ffd61982b52a5ced4f65360aaad259208435a6fea7eb47449e5f", func := "hopmesh/hopmeshlaw57.ExplainChecks", spec := "explainChecks", inPlace := ["internal/abi.NoEscape", "internal/bytealg.MakeNoZero"], unfollowed := true, recurses := true, named := ["internal/strconv.uint64pow10", "math/bits.deBruijn32tab", "math/bits.deBruijn64tab"], plainKeys := false, apart := false, laid := [("math/bits.deBruijn32tab", laid_math_bits_deBruijn32tab), ("math/bits.deBruijn64tab", laid_math_bits_deBruijn64tab), ("internal/strconv.uint64pow10", laid_internal_strconv_uint64pow10)], narrowed := true }
def ExplainChecksUptoSaid : Prop := explainChecksUptoRow.holds Tryz.pinned (OpenSpec.upto explainChecksSpec)

/-- 'hopmeshlaw57.ExplainNamed', WHERE WHAT IT READS IS OF BULK AT MOST 1048576: true; the input reads as it did. -/
def explainNamedUptoRow : OpenClaim := { program := "yticnppnejafhdaagreatdoor", sum := "7e43592b40c7ffd61982b52a5ced4f65360aaad259208435a6fea7eb47449e5f", func := "hopmesh/hopmeshlaw57.ExplainNamed", spec := "explainNamed", inPlace := ["internal/abi.NoEscape", "internal/bytealg.MakeNoZero"], unfollowed := true, recurses := true, named := ["internal/strconv.uint64pow10", "math/bits.deBruijn32tab", "math/bits.deBruijn64tab"], plainKeys := false, apart := false, laid := [("math/bits.deBruijn32tab", laid_math_bits_deBruijn32tab), ("math/bits.deBruijn64tab", laid_math_bits_deBruijn64tab), ("internal/strconv.uint64pow10", laid_internal_strconv_uint64pow10)], narrowed := true }
def ExplainNamedUptoSaid : Prop := explainNamedUptoRow.holds Tryz.pinned (OpenSpec.upto explainNamedSpec)

/-- 'hopmeshlaw57.ExplainNothing', WHERE WHAT IT READS IS OF BULK AT MOST 1048576: true; the input reads as it did. -/
def explainNothingUptoRow : OpenClaim := { program := "yticnppnejafhdaagreatdoor", sum := "7e43592b40c7ffd61982b52a5ced4f65360aaad259208435a6fea7eb47449e5f", func := "hopmesh/hopmeshlaw57.ExplainNothing", spec := "explainNothing", inPlace := ["internal/abi.NoEscape", "internal/bytealg.MakeNoZero"], unfollowed := true, recurses := true, named := ["internal/strconv.uint64pow10", "math/bits.deBruijn32tab", "math/bits.deBruijn64tab"], plainKeys := false, apart := false, laid := [("math/bits.deBruijn32tab", laid_math_bits_deBruijn32tab), ("math/bits.deBruijn64tab", laid_math_bits_deBruijn64tab), ("internal/strconv.uint64pow10", laid_internal_strconv_uint64pow10)], narrowed := true }
def ExplainNothingUptoSaid : Prop := explainNothingUptoRow.holds Tryz.pinned (OpenSpec.upto explainNothingSpec)

/-- 'hopmeshlaw57.ExplainRight', WHERE WHAT IT READS IS OF BULK AT MOST 1048576: true; the input reads as it did. -/
def explainRightUptoRow : OpenClaim := { program := "yticnppnejafhdaagreatdoor", sum := "7e43592b40c7ffd61982b52a5ced4f65360aaad259208435a6fea7eb47449e5f", func := "hopmesh/hopmeshlaw57.ExplainRight", spec := "explainRight", inPlace := ["internal/abi.NoEscape", "internal/bytealg.MakeNoZero", "internal/bytealg.CountString", "internal/bytealg.IndexByteString", "internal/bytealg.IndexString"], unfollowed := true, recurses := true, named := ["internal/strconv.uint64pow10", "math/bits.deBruijn32tab", "math/bits.deBruijn64tab", "internal/bytealg.MaxLen"], plainKeys := false, apart := false, laid := [("math/bits.deBruijn32tab", laid_math_bits_deBruijn32tab), ("math/bits.deBruijn64tab", laid_math_bits_deBruijn64tab), ("internal/strconv.uint64pow10", laid_internal_strconv_uint64pow10)], narrowed := true }
def ExplainRightUptoSaid : Prop := explainRightUptoRow.holds Tryz.pinned (OpenSpec.upto explainRightSpec)

/-- 'hopmeshlaw57.ExplainCauses', WHERE WHAT IT READS IS OF BULK AT MOST 1048576: true; the input reads as it did. -/
def explainCausesUptoRow : OpenClaim := { program := "yticnppnejafhdaagreatdoor", sum := "7e43592b40c7ffd61982b52a5ced4f65360aaad259208435a6fea7eb47449e5f", func := "hopmesh/hopmeshlaw57.ExplainCauses", spec := "explainCauses", inPlace := ["internal/abi.NoEscape", "internal/bytealg.MakeNoZero"], unfollowed := true, recurses := true, named := ["internal/strconv.uint64pow10", "math/bits.deBruijn32tab", "math/bits.deBruijn64tab"], plainKeys := false, apart := false, laid := [("math/bits.deBruijn32tab", laid_math_bits_deBruijn32tab), ("math/bits.deBruijn64tab", laid_math_bits_deBruijn64tab), ("internal/strconv.uint64pow10", laid_internal_strconv_uint64pow10)], narrowed := true }
def ExplainCausesUptoSaid : Prop := explainCausesUptoRow.holds Tryz.pinned (OpenSpec.upto explainCausesSpec)

end Rows
end Go.Proofs.YticnppnejafhdaaGreatDoor
