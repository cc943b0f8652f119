/-
  NARROWER THAN 'FOR EVERY INPUT', by the rows' own cells (each row's printed sentence says how): ExactMakes: laid · ExactTurns: laid · ExactRounds: laid · ExactPhases: laid · ExactPhasors: laid · ExactExamples: laid · ExactComputes: laid · ExactField: laid.
  DERIVED. THE GIVEN ROWS OF THIS SEAT. 8 by the template 'for every input the law returns true; each argument reads behind the call as it read before'; 0 by the template 'total and deterministic' (their statements: YtjeijmnhbckjdaaGreatDoorTotals.lean).
  GIVEN WITH THE SEED: the statements are not yours to turn. If you find one false, say at which input.
  Laid BY PROGRAM, IN A SANDBOX (cutbox-rows.mjs): the forced cells as the released guide's own fill.sh prints them over the translation 055c94e1a69e2b37… (all of the seat's roots in one cut). By AI agents, Wed Nov 11 2026. No macro, syntax, notation, axiom, sorry.
-/
import Derived.Test.YtjeijmnhbckjdaaGreatDoorChecked
import GoSem.Claim
import GoSem.ClaimJoined
import GoSem.ClaimMapViews
import Derived.JoinedTies
import Derived.KernelRfl
namespace Go.Proofs.YtjeijmnhbckjdaaGreatDoor
/- THE CELL 'sum', in the pinned program and in every row, IS THE sha256 OF THE DUMP (.gsa) THAT YtjeijmnhbckjdaaGreatDoorProg.lean LOADS. Nothing in Lean hashes anything: it is a label: what it is worth is what the hold of that sum in a sandbox is worth. -/
noncomputable def Tryz.pinned : Pinned := { name := "ytjeijmnhbckjdaagreatdoor", sum := "055c94e1a69e2b377793187d1ea31b811a8dc8ffbcf2cf1ad89056f8a051ef61", checked := Tryz.checked }
namespace Rows
def none {H : Type} : Left H := { results := [], args := [] }

/- WHAT THE LISTED PACKAGE-LEVEL VARIABLES READ AS WHEN THE CALL BEGINS. Each datum BY PROGRAM (the guide's laid-datum.mjs) off the statement by which the dump's own 'gosem.cut.vars' lays the variable. In a bare row this is a premise. The card (YtjeijmnhbckjdaaGreatDoorCards.lean) ties it to the program's text. -/
def laid_math_bits_deBruijn32tab {H : Type} : DataW H := .agg [.lit (.int .u8 0), .lit (.int .u8 1), .lit (.int .u8 28), .lit (.int .u8 2), .lit (.int .u8 29), .lit (.int .u8 14), .lit (.int .u8 24), .lit (.int .u8 3), .lit (.int .u8 30), .lit (.int .u8 22), .lit (.int .u8 20), .lit (.int .u8 15), .lit (.int .u8 25), .lit (.int .u8 17), .lit (.int .u8 4), .lit (.int .u8 8), .lit (.int .u8 31), .lit (.int .u8 27), .lit (.int .u8 13), .lit (.int .u8 23), .lit (.int .u8 21), .lit (.int .u8 19), .lit (.int .u8 16), .lit (.int .u8 7), .lit (.int .u8 26), .lit (.int .u8 12), .lit (.int .u8 18), .lit (.int .u8 6), .lit (.int .u8 11), .lit (.int .u8 5), .lit (.int .u8 10), .lit (.int .u8 9)]
def laid_math_bits_deBruijn64tab {H : Type} : DataW H := .agg [.lit (.int .u8 0), .lit (.int .u8 1), .lit (.int .u8 56), .lit (.int .u8 2), .lit (.int .u8 57), .lit (.int .u8 49), .lit (.int .u8 28), .lit (.int .u8 3), .lit (.int .u8 61), .lit (.int .u8 58), .lit (.int .u8 42), .lit (.int .u8 50), .lit (.int .u8 38), .lit (.int .u8 29), .lit (.int .u8 17), .lit (.int .u8 4), .lit (.int .u8 62), .lit (.int .u8 47), .lit (.int .u8 59), .lit (.int .u8 36), .lit (.int .u8 45), .lit (.int .u8 43), .lit (.int .u8 51), .lit (.int .u8 22), .lit (.int .u8 53), .lit (.int .u8 39), .lit (.int .u8 33), .lit (.int .u8 30), .lit (.int .u8 24), .lit (.int .u8 18), .lit (.int .u8 12), .lit (.int .u8 5), .lit (.int .u8 63), .lit (.int .u8 55), .lit (.int .u8 48), .lit (.int .u8 27), .lit (.int .u8 60), .lit (.int .u8 41), .lit (.int .u8 37), .lit (.int .u8 16), .lit (.int .u8 46), .lit (.int .u8 35), .lit (.int .u8 44), .lit (.int .u8 21), .lit (.int .u8 52), .lit (.int .u8 32), .lit (.int .u8 23), .lit (.int .u8 11), .lit (.int .u8 54), .lit (.int .u8 26), .lit (.int .u8 40), .lit (.int .u8 15), .lit (.int .u8 34), .lit (.int .u8 20), .lit (.int .u8 31), .lit (.int .u8 10), .lit (.int .u8 25), .lit (.int .u8 14), .lit (.int .u8 19), .lit (.int .u8 9), .lit (.int .u8 13), .lit (.int .u8 8), .lit (.int .u8 7), .lit (.int .u8 6)]
def laid_internal_strconv_uint64pow10 {H : Type} : DataW H := .agg [.lit (.int .u64 1), .lit (.int .u64 10), .lit (.int .u64 100), .lit (.int .u64 1000), .lit (.int .u64 10000), .lit (.int .u64 100000), .lit (.int .u64 1000000), .lit (.int .u64 10000000), .lit (.int .u64 100000000), .lit (.int .u64 1000000000), .lit (.int .u64 10000000000), .lit (.int .u64 100000000000), .lit (.int .u64 1000000000000), .lit (.int .u64 10000000000000), .lit (.int .u64 100000000000000), .lit (.int .u64 1000000000000000), .lit (.int .u64 10000000000000000), .lit (.int .u64 100000000000000000), .lit (.int .u64 1000000000000000000), .lit (.int .u64 10000000000000000000)]

/-- 'substationlaw38.ExactMakes': WHATEVER THE INPUT: true; the input reads as it did. -/
def exactMakesSpec : ChangeSpec := { name := "exactMakes", fn := fun _ => fun
  | [d1, d2, d3] => { results := [.lit (.bool true)], args := [d1, d2, d3] }
  | _ => none }
def exactMakesRow : OpenClaim := { program := "ytjeijmnhbckjdaagreatdoor", sum := "055c94e1a69e2b377793187d1ea31b811a8dc8ffbcf2cf1ad89056f8a051ef61", func := "substation/substationlaw38.ExactMakes", spec := "exactMakes", inPlace := ["internal/abi.NoEscape", "internal/bytealg.MakeNoZero"], named := ["internal/strconv.uint64pow10", "math/bits.deBruijn32tab", "math/bits.deBruijn64tab"], apart := false, laid := [("math/bits.deBruijn32tab", laid_math_bits_deBruijn32tab), ("math/bits.deBruijn64tab", laid_math_bits_deBruijn64tab), ("internal/strconv.uint64pow10", laid_internal_strconv_uint64pow10)] }
def ExactMakesSaid : Prop := exactMakesRow.holds Tryz.pinned (OpenSpec.ofChange exactMakesSpec)

/-- ITS FALSE NEIGHBOUR: 'it returns false'. Refute it at one input. -/
def exactMakesWrong : ChangeSpec := { name := "exactMakes", fn := fun _ => fun
  | [d1, d2, d3] => { results := [.lit (.bool false)], args := [d1, d2, d3] }
  | _ => none }
def ExactMakesWrongFalsely : Prop := exactMakesRow.holds Tryz.pinned (OpenSpec.ofChange exactMakesWrong)

/-- 'substationlaw38.ExactTurns': WHATEVER THE INPUT: true; the input reads as it did. -/
def exactTurnsSpec : ChangeSpec := { name := "exactTurns", fn := fun _ => fun
  | [d1, d2, d3] => { results := [.lit (.bool true)], args := [d1, d2, d3] }
  | _ => none }
def exactTurnsRow : OpenClaim := { program := "ytjeijmnhbckjdaagreatdoor", sum := "055c94e1a69e2b377793187d1ea31b811a8dc8ffbcf2cf1ad89056f8a051ef61", func := "substation/substationlaw38.ExactTurns", spec := "exactTurns", inPlace := ["internal/abi.NoEscape", "internal/bytealg.MakeNoZero"], named := ["internal/strconv.uint64pow10", "math/bits.deBruijn32tab", "math/bits.deBruijn64tab"], apart := false, laid := [("math/bits.deBruijn32tab", laid_math_bits_deBruijn32tab), ("math/bits.deBruijn64tab", laid_math_bits_deBruijn64tab), ("internal/strconv.uint64pow10", laid_internal_strconv_uint64pow10)] }
def ExactTurnsSaid : Prop := exactTurnsRow.holds Tryz.pinned (OpenSpec.ofChange exactTurnsSpec)

/-- ITS FALSE NEIGHBOUR: 'it returns false'. Refute it at one input. -/
def exactTurnsWrong : ChangeSpec := { name := "exactTurns", fn := fun _ => fun
  | [d1, d2, d3] => { results := [.lit (.bool false)], args := [d1, d2, d3] }
  | _ => none }
def ExactTurnsWrongFalsely : Prop := exactTurnsRow.holds Tryz.pinned (OpenSpec.ofChange exactTurnsWrong)

/-- 'substationlaw38.ExactRounds': WHATEVER THE INPUT: true; the input reads as it did. -/
def exactRoundsSpec : ChangeSpec := { name := "exactRounds", fn := fun _ => fun
  | [d1, d2] => { results := [.lit (.bool true)], args := [d1, d2] }
  | _ => none }
def exactRoundsRow : OpenClaim := { program := "ytjeijmnhbckjdaagreatdoor", sum := "055c94e1a69e2b377793187d1ea31b811a8dc8ffbcf2cf1ad89056f8a051ef61", func := "substation/substationlaw38.ExactRounds", spec := "exactRounds", inPlace := ["internal/abi.NoEscape", "internal/bytealg.MakeNoZero"], named := ["internal/strconv.uint64pow10", "math/bits.deBruijn32tab", "math/bits.deBruijn64tab"], apart := false, laid := [("math/bits.deBruijn32tab", laid_math_bits_deBruijn32tab), ("math/bits.deBruijn64tab", laid_math_bits_deBruijn64tab), ("internal/strconv.uint64pow10", laid_internal_strconv_uint64pow10)] }
def ExactRoundsSaid : Prop := exactRoundsRow.holds Tryz.pinned (OpenSpec.ofChange exactRoundsSpec)

/-- ITS FALSE NEIGHBOUR: 'it returns false'. Refute it at one input. -/
def exactRoundsWrong : ChangeSpec := { name := "exactRounds", fn := fun _ => fun
  | [d1, d2] => { results := [.lit (.bool false)], args := [d1, d2] }
  | _ => none }
def ExactRoundsWrongFalsely : Prop := exactRoundsRow.holds Tryz.pinned (OpenSpec.ofChange exactRoundsWrong)

/-- 'substationlaw38.ExactPhases': WHATEVER THE INPUT: true; the input reads as it did. -/
def exactPhasesSpec : ChangeSpec := { name := "exactPhases", fn := fun _ => fun
  | [d1, d2, d3] => { results := [.lit (.bool true)], args := [d1, d2, d3] }
  | _ => none }
def exactPhasesRow : OpenClaim := { program := "ytjeijmnhbckjdaagreatdoor", sum := "055c94e1a69e2b377793187d1ea31b811a8dc8ffbcf2cf1ad89056f8a051ef61", func := "substation/substationlaw38.ExactPhases", spec := "exactPhases", inPlace := ["internal/abi.NoEscape", "internal/bytealg.MakeNoZero"], named := ["internal/strconv.uint64pow10", "math/bits.deBruijn32tab", "math/bits.deBruijn64tab"], apart := false, laid := [("math/bits.deBruijn32tab", laid_math_bits_deBruijn32tab), ("math/bits.deBruijn64tab", laid_math_bits_deBruijn64tab), ("internal/strconv.uint64pow10", laid_internal_strconv_uint64pow10)] }
def ExactPhasesSaid : Prop := exactPhasesRow.holds Tryz.pinned (OpenSpec.ofChange exactPhasesSpec)

/-- ITS FALSE NEIGHBOUR: 'it returns false'. Refute it at one input. -/
def exactPhasesWrong : ChangeSpec := { name := "exactPhases", fn := fun _ => fun
  | [d1, d2, d3] => { results := [.lit (.bool false)], args := [d1, d2, d3] }
  | _ => none }
def ExactPhasesWrongFalsely : Prop := exactPhasesRow.holds Tryz.pinned (OpenSpec.ofChange exactPhasesWrong)

/-- 'substationlaw38.ExactPhasors': WHATEVER THE INPUT: true; the input reads as it did. -/
def exactPhasorsSpec : ChangeSpec := { name := "exactPhasors", fn := fun _ => fun
  | [d1, d2, d3] => { results := [.lit (.bool true)], args := [d1, d2, d3] }
  | _ => none }
def exactPhasorsRow : OpenClaim := { program := "ytjeijmnhbckjdaagreatdoor", sum := "055c94e1a69e2b377793187d1ea31b811a8dc8ffbcf2cf1ad89056f8a051ef61", func := "substation/substationlaw38.ExactPhasors", spec := "exactPhasors", inPlace := ["internal/abi.NoEscape", "internal/bytealg.MakeNoZero"], named := ["internal/strconv.uint64pow10", "math/bits.deBruijn32tab", "math/bits.deBruijn64tab"], apart := false, laid := [("math/bits.deBruijn32tab", laid_math_bits_deBruijn32tab), ("math/bits.deBruijn64tab", laid_math_bits_deBruijn64tab), ("internal/strconv.uint64pow10", laid_internal_strconv_uint64pow10)] }
def ExactPhasorsSaid : Prop := exactPhasorsRow.holds Tryz.pinned (OpenSpec.ofChange exactPhasorsSpec)

/-- ITS FALSE NEIGHBOUR: 'it returns false'. Refute it at one input. -/
def exactPhasorsWrong : ChangeSpec := { name := "exactPhasors", fn := fun _ => fun
  | [d1, d2, d3] => { results := [.lit (.bool false)], args := [d1, d2, d3] }
  | _ => none }
def ExactPhasorsWrongFalsely : Prop := exactPhasorsRow.holds Tryz.pinned (OpenSpec.ofChange exactPhasorsWrong)

/-- 'substationlaw38.ExactExamples': WHATEVER THE INPUT: true; the input reads as it did. -/
def exactExamplesSpec : ChangeSpec := { name := "exactExamples", fn := fun _ => fun
  | [] => { results := [.lit (.bool true)], args := [] }
  | _ => none }
def exactExamplesRow : OpenClaim := { program := "ytjeijmnhbckjdaagreatdoor", sum := "055c94e1a69e2b377793187d1ea31b811a8dc8ffbcf2cf1ad89056f8a051ef61", func := "substation/substationlaw38.ExactExamples", spec := "exactExamples", inPlace := ["internal/abi.NoEscape", "internal/bytealg.MakeNoZero"], named := ["internal/strconv.uint64pow10", "math/bits.deBruijn32tab", "math/bits.deBruijn64tab"], apart := false, laid := [("math/bits.deBruijn32tab", laid_math_bits_deBruijn32tab), ("math/bits.deBruijn64tab", laid_math_bits_deBruijn64tab), ("internal/strconv.uint64pow10", laid_internal_strconv_uint64pow10)] }
def ExactExamplesSaid : Prop := exactExamplesRow.holds Tryz.pinned (OpenSpec.ofChange exactExamplesSpec)

/-- ITS FALSE NEIGHBOUR: 'it returns false'. Refute it at one input. -/
def exactExamplesWrong : ChangeSpec := { name := "exactExamples", fn := fun _ => fun
  | [] => { results := [.lit (.bool false)], args := [] }
  | _ => none }
def ExactExamplesWrongFalsely : Prop := exactExamplesRow.holds Tryz.pinned (OpenSpec.ofChange exactExamplesWrong)

/-- 'substationlaw38.ExactComputes': WHATEVER THE INPUT: true; the input reads as it did. -/
def exactComputesSpec : ChangeSpec := { name := "exactComputes", fn := fun _ => fun
  | [d1, d2] => { results := [.lit (.bool true)], args := [d1, d2] }
  | _ => none }
def exactComputesRow : OpenClaim := { program := "ytjeijmnhbckjdaagreatdoor", sum := "055c94e1a69e2b377793187d1ea31b811a8dc8ffbcf2cf1ad89056f8a051ef61", func := "substation/substationlaw38.ExactComputes", spec := "exactComputes", inPlace := ["internal/abi.NoEscape", "internal/bytealg.MakeNoZero"], named := ["internal/strconv.uint64pow10", "math/bits.deBruijn32tab", "math/bits.deBruijn64tab"], apart := false, laid := [("math/bits.deBruijn32tab", laid_math_bits_deBruijn32tab), ("math/bits.deBruijn64tab", laid_math_bits_deBruijn64tab), ("internal/strconv.uint64pow10", laid_internal_strconv_uint64pow10)] }
def ExactComputesSaid : Prop := exactComputesRow.holds Tryz.pinned (OpenSpec.ofChange exactComputesSpec)

/-- ITS FALSE NEIGHBOUR: 'it returns false'. Refute it at one input. -/
def exactComputesWrong : ChangeSpec := { name := "exactComputes", fn := fun _ => fun
  | [d1, d2] => { results := [.lit (.bool false)], args := [d1, d2] }
  | _ => none }
def ExactComputesWrongFalsely : Prop := exactComputesRow.holds Tryz.pinned (OpenSpec.ofChange exactComputesWrong)

/-- 'substationlaw38.ExactField': WHATEVER THE INPUT: true; the input reads as it did. -/
def exactFieldSpec : ChangeSpec := { name := "exactField", fn := fun _ => fun
  | [d1, d2, d3] => { results := [.lit (.bool true)], args := [d1, d2, d3] }
  | _ => none }
def exactFieldRow : OpenClaim := { program := "ytjeijmnhbckjdaagreatdoor", sum := "055c94e1a69e2b377793187d1ea31b811a8dc8ffbcf2cf1ad89056f8a051ef61", func := "substation/substationlaw38.ExactField", spec := "exactField", inPlace := ["internal/abi.NoEscape", "internal/bytealg.MakeNoZero"], named := ["internal/strconv.uint64pow10", "math/bits.deBruijn32tab", "math/bits.deBruijn64tab"], apart := false, laid := [("math/bits.deBruijn32tab", laid_math_bits_deBruijn32tab), ("math/bits.deBruijn64tab", laid_math_bits_deBruijn64tab), ("internal/strconv.uint64pow10", laid_internal_strconv_uint64pow10)] }
def ExactFieldSaid : Prop := exactFieldRow.holds Tryz.pinned (OpenSpec.ofChange exactFieldSpec)

/-- ITS FALSE NEIGHBOUR: 'it returns false'. Refute it at one input. -/
def exactFieldWrong : ChangeSpec := { name := "exactField", fn := fun _ => fun
  | [d1, d2, d3] => { results := [.lit (.bool false)], args := [d1, d2, d3] }
  | _ => none }
def ExactFieldWrongFalsely : Prop := exactFieldRow.holds Tryz.pinned (OpenSpec.ofChange exactFieldWrong)

/- THE SECOND FORM. 'bulk': how many values and letters a reading holds, each counted each time it is reached (what is shared counts as often as it is met; a slice's spare places count too). A statement '..UptoSaid' is the law's where the arguments, and the package variables that the reading takes, are together of bulk at most 1048576: NARROWER than '..Said'. Prove '..Said' where nothing that the law and all that it calls make is longer than what came in: it says more and counts as full. Else prove '..UptoSaid'. A law counts once. -/
mutual
def uptoBulk {H : Type} : DataW H → Nat
  | .lit (.string bytes) => bytes.length + 1
  | .lit _ => 1
  | .nil => 1
  | .ptr d => uptoBulk d + 1
  | .slice elems spare => uptoBulkAll elems + uptoBulkAll spare + 1
  | .agg parts => uptoBulkAll parts + 1
  | .iface _ d => uptoBulk d + 1
  | .map entries => uptoBulkEntries entries + 1
  | .held _ => 1
def uptoBulkAll {H : Type} : List (DataW H) → Nat
  | [] => 0
  | d :: r => uptoBulk d + uptoBulkAll r
def uptoBulkEntries {H : Type} : List (Lit × DataW H) → Nat
  | [] => 0
  | x :: r => uptoBulkEntry x + uptoBulkEntries r
def uptoBulkEntry {H : Type} : Lit × DataW H → Nat
  | (.string bytes, d) => bytes.length + uptoBulk d + 1
  | (_, d) => uptoBulk d + 1
 end
def uptoSmall : (H : Type) → List (DataW H) → Bool := fun _ ds => decide (uptoBulkAll ds ≤ 1048576)
def OpenSpec.upto (s : _root_.Go.ChangeSpec) : _root_.Go.OpenSpec := { _root_.Go.OpenSpec.ofChange s with cond := some uptoSmall }

/-- 'substationlaw38.ExactMakes', WHERE WHAT IT READS IS OF BULK AT MOST 1048576: true; the input reads as it did. -/
def exactMakesUptoRow : OpenClaim := { program := "ytjeijmnhbckjdaagreatdoor", sum := "055c94e1a69e2b377793187d1ea31b811a8dc8ffbcf2cf1ad89056f8a051ef61", func := "substation/substationlaw38.ExactMakes", spec := "exactMakes", inPlace := ["internal/abi.NoEscape", "internal/bytealg.MakeNoZero"], named := ["internal/strconv.uint64pow10", "math/bits.deBruijn32tab", "math/bits.deBruijn64tab"], apart := false, laid := [("math/bits.deBruijn32tab", laid_math_bits_deBruijn32tab), ("math/bits.deBruijn64tab", laid_math_bits_deBruijn64tab), ("internal/strconv.uint64pow10", laid_internal_strconv_uint64pow10)], narrowed := true }
def ExactMakesUptoSaid : Prop := exactMakesUptoRow.holds Tryz.pinned (OpenSpec.upto exactMakesSpec)

/-- 'substationlaw38.ExactTurns', WHERE WHAT IT READS IS OF BULK AT MOST 1048576: true; the input reads as it did. -/
def exactTurnsUptoRow : OpenClaim := { program := "ytjeijmnhbckjdaagreatdoor", sum := "055c94e1a69e2b377793187d1ea31b811a8dc8ffbcf2cf1ad89056f8a051ef61", func := "substation/substationlaw38.ExactTurns", spec := "exactTurns", inPlace := ["internal/abi.NoEscape", "internal/bytealg.MakeNoZero"], named := ["internal/strconv.uint64pow10", "math/bits.deBruijn32tab", "math/bits.deBruijn64tab"], apart := false, laid := [("math/bits.deBruijn32tab", laid_math_bits_deBruijn32tab), ("math/bits.deBruijn64tab", laid_math_bits_deBruijn64tab), ("internal/strconv.uint64pow10", laid_internal_strconv_uint64pow10)], narrowed := true }
def ExactTurnsUptoSaid : Prop := exactTurnsUptoRow.holds Tryz.pinned (OpenSpec.upto exactTurnsSpec)

/-- 'substationlaw38.ExactRounds', WHERE WHAT IT READS IS OF BULK AT MOST 1048576: true; the input reads as it did. -/
def exactRoundsUptoRow : OpenClaim := { program := "ytjeijmnhbckjdaagreatdoor", sum := "055c94e1a69e2b377793187d1ea31b811a8dc8ffbcf2cf1ad89056f8a051ef61", func := "substation/substationlaw38.ExactRounds", spec := "exactRounds", inPlace := ["internal/abi.NoEscape", "internal/bytealg.MakeNoZero"], named := ["internal/strconv.uint64pow10", "math/bits.deBruijn32tab", "math/bits.deBruijn64tab"], apart := false, laid := [("math/bits.deBruijn32tab", laid_math_bits_deBruijn32tab), ("math/bits.deBruijn64tab", laid_math_bits_deBruijn64tab), ("internal/strconv.uint64pow10", laid_internal_strconv_uint64pow10)], narrowed := true }
def ExactRoundsUptoSaid : Prop := exactRoundsUptoRow.holds Tryz.pinned (OpenSpec.upto exactRoundsSpec)

/-- 'substationlaw38.ExactPhases', WHERE WHAT IT READS IS OF BULK AT MOST 1048576: true; the input reads as it did. -/
def exactPhasesUptoRow : OpenClaim := { program := "ytjeijmnhbckjdaagreatdoor", sum := "055c94e1a69e2b377793187d1ea31b811a8dc8ffbcf2cf1ad89056f8a051ef61", func := "substation/substationlaw38.ExactPhases", spec := "exactPhases", inPlace := ["internal/abi.NoEscape", "internal/bytealg.MakeNoZero"], named := ["internal/strconv.uint64pow10", "math/bits.deBruijn32tab", "math/bits.deBruijn64tab"], apart := false, laid := [("math/bits.deBruijn32tab", laid_math_bits_deBruijn32tab), ("math/bits.deBruijn64tab", laid_math_bits_deBruijn64tab), ("internal/strconv.uint64pow10", laid_internal_strconv_uint64pow10)], narrowed := true }
def ExactPhasesUptoSaid : Prop := exactPhasesUptoRow.holds Tryz.pinned (OpenSpec.upto exactPhasesSpec)

/-- 'substationlaw38.ExactPhasors', WHERE WHAT IT READS IS OF BULK AT MOST 1048576: true; the input reads as it did. -/
def exactPhasorsUptoRow : OpenClaim := { program := "ytjeijmnhbckjdaagreatdoor", sum := "055c94e1a69e2b377793187d1ea31b811a8dc8ffbcf2cf1ad89056f8a051ef61", func := "substation/substationlaw38.ExactPhasors", spec := "exactPhasors", inPlace := ["internal/abi.NoEscape", "internal/bytealg.MakeNoZero"], named := ["internal/strconv.uint64pow10", "math/bits.deBruijn32tab", "math/bits.deBruijn64tab"], apart := false, laid := [("math/bits.deBruijn32tab", laid_math_bits_deBruijn32tab), ("math/bits.deBruijn64tab", laid_math_bits_deBruijn64tab), ("internal/strconv.uint64pow10", laid_internal_strconv_uint64pow10)], narrowed := true }
def ExactPhasorsUptoSaid : Prop := exactPhasorsUptoRow.holds Tryz.pinned (OpenSpec.upto exactPhasorsSpec)

/-- 'substationlaw38.ExactExamples', WHERE WHAT IT READS IS OF BULK AT MOST 1048576: true; the input reads as it did. -/
def exactExamplesUptoRow : OpenClaim := { program := "ytjeijmnhbckjdaagreatdoor", sum := "055c94e1a69e2b377793187d1ea31b811a8dc8ffbcf2cf1ad89056f8a051ef61", func := "substation/substationlaw38.ExactExamples", spec := "exactExamples", inPlace := ["internal/abi.NoEscape", "internal/bytealg.MakeNoZero"], named := ["internal/strconv.uint64pow10", "math/bits.deBruijn32tab", "math/bits.deBruijn64tab"], apart := false, laid := [("math/bits.deBruijn32tab", laid_math_bits_deBruijn32tab), ("math/bits.deBruijn64tab", laid_math_bits_deBruijn64tab), ("internal/strconv.uint64pow10", laid_internal_strconv_uint64pow10)], narrowed := true }
def ExactExamplesUptoSaid : Prop := exactExamplesUptoRow.holds Tryz.pinned (OpenSpec.upto exactExamplesSpec)

/-- 'substationlaw38.ExactComputes', WHERE WHAT IT READS IS OF BULK AT MOST 1048576: true; the input reads as it did. -/
def exactComputesUptoRow : OpenClaim := { program := "ytjeijmnhbckjdaagreatdoor", sum := "055c94e1a69e2b377793187d1ea31b811a8dc8ffbcf2cf1ad89056f8a051ef61", func := "substation/substationlaw38.ExactComputes", spec := "exactComputes", inPlace := ["internal/abi.NoEscape", "internal/bytealg.MakeNoZero"], named := ["internal/strconv.uint64pow10", "math/bits.deBruijn32tab", "math/bits.deBruijn64tab"], apart := false, laid := [("math/bits.deBruijn32tab", laid_math_bits_deBruijn32tab), ("math/bits.deBruijn64tab", laid_math_bits_deBruijn64tab), ("internal/strconv.uint64pow10", laid_internal_strconv_uint64pow10)], narrowed := true }
def ExactComputesUptoSaid : Prop := exactComputesUptoRow.holds Tryz.pinned (OpenSpec.upto exactComputesSpec)

/-- 'substationlaw38.ExactField', WHERE WHAT IT READS IS OF BULK AT MOST 1048576: true; the input reads as it did. -/
def exactFieldUptoRow : OpenClaim := { program := "ytjeijmnhbckjdaagreatdoor", sum := "055c94e1a69e2b377793187d1ea31b811a8dc8ffbcf2cf1ad89056f8a051ef61", func := "substation/substationlaw38.ExactField", spec := "exactField", inPlace := ["internal/abi.NoEscape", "internal/bytealg.MakeNoZero"], named := ["internal/strconv.uint64pow10", "math/bits.deBruijn32tab", "math/bits.deBruijn64tab"], apart := false, laid := [("math/bits.deBruijn32tab", laid_math_bits_deBruijn32tab), ("math/bits.deBruijn64tab", laid_math_bits_deBruijn64tab), ("internal/strconv.uint64pow10", laid_internal_strconv_uint64pow10)], narrowed := true }
def ExactFieldUptoSaid : Prop := exactFieldUptoRow.holds Tryz.pinned (OpenSpec.upto exactFieldSpec)

end Rows
end Go.Proofs.YtjeijmnhbckjdaaGreatDoor
