/-
  No cell of these rows narrows 'for every input' (looked for: loops, veiled, ifaces, maps, wideKeys, modest, calm, conditions, laid).
  DERIVED. THE GIVEN ROWS OF THIS SEAT. 5 by the template 'for every input the law returns true; each argument reads behind the call as it read before'; 0 by the template 'total and deterministic' (their statements: YtnicgmgihmfjbaaTotals.lean).
  GIVEN WITH THE SEED: the statements are not yours to turn. If you find one false, say at which input.
  Laid BY PROGRAM, IN A SANDBOX (cutbox-rows.mjs): the forced cells as the released guide's own fill.sh prints them over the translation 455649964c9f7a4b… (all of the seat's roots in one cut). By AI agents, Wed Nov 11 2026. No macro, syntax, notation, axiom, sorry.
-/
import Derived.Test.YtnicgmgihmfjbaaChecked
import GoSem.Claim
import GoSem.ClaimJoined
import GoSem.ClaimMapViews
import Derived.JoinedTies
import Derived.KernelRfl
namespace Go.Proofs.Ytnicgmgihmfjbaa
/- THE CELL 'sum', in the pinned program and in every row, IS THE sha256 OF THE DUMP (.gsa) THAT YtnicgmgihmfjbaaProg.lean LOADS. Nothing in Lean hashes anything: it is a label: what it is worth is what the hold of that sum in a sandbox is worth. -/
noncomputable def Try.pinned : Pinned := { name := "ytnicgmgihmfjbaa", sum := "455649964c9f7a4b7e1901f7f68f49352b62d4bc632de0fc9b1b0ae7b1286ee6", checked := Try.checked }
namespace Rows
def none {H : Type} : Left H := { results := [], args := [] }

/-- 'substationlaw17.RingRuns': WHATEVER THE INPUT: true; the input reads as it did. -/
def ringRunsSpec : ChangeSpec := { name := "ringRuns", fn := fun _ => fun
  | [d1, d2] => { results := [.lit (.bool true)], args := [d1, d2] }
  | _ => none }
def ringRunsRow : OpenClaim := { program := "ytnicgmgihmfjbaa", sum := "455649964c9f7a4b7e1901f7f68f49352b62d4bc632de0fc9b1b0ae7b1286ee6", func := "substation/substationlaw17.RingRuns", spec := "ringRuns", unfollowed := true, recurses := true, apart := false }
def RingRunsSaid : Prop := ringRunsRow.holds Try.pinned (OpenSpec.ofChange ringRunsSpec)

/-- ITS FALSE NEIGHBOUR: 'it returns false'. Refute it at one input. -/
def ringRunsWrong : ChangeSpec := { name := "ringRuns", fn := fun _ => fun
  | [d1, d2] => { results := [.lit (.bool false)], args := [d1, d2] }
  | _ => none }
def RingRunsWrongFalsely : Prop := ringRunsRow.holds Try.pinned (OpenSpec.ofChange ringRunsWrong)

/-- 'substationlaw17.RingTwice': WHATEVER THE INPUT: true; the input reads as it did. -/
def ringTwiceSpec : ChangeSpec := { name := "ringTwice", fn := fun _ => fun
  | [d1, d2] => { results := [.lit (.bool true)], args := [d1, d2] }
  | _ => none }
def ringTwiceRow : OpenClaim := { program := "ytnicgmgihmfjbaa", sum := "455649964c9f7a4b7e1901f7f68f49352b62d4bc632de0fc9b1b0ae7b1286ee6", func := "substation/substationlaw17.RingTwice", spec := "ringTwice", unfollowed := true, recurses := true, apart := false }
def RingTwiceSaid : Prop := ringTwiceRow.holds Try.pinned (OpenSpec.ofChange ringTwiceSpec)

/-- ITS FALSE NEIGHBOUR: 'it returns false'. Refute it at one input. -/
def ringTwiceWrong : ChangeSpec := { name := "ringTwice", fn := fun _ => fun
  | [d1, d2] => { results := [.lit (.bool false)], args := [d1, d2] }
  | _ => none }
def RingTwiceWrongFalsely : Prop := ringTwiceRow.holds Try.pinned (OpenSpec.ofChange ringTwiceWrong)

/-- 'substationlaw17.RingSurvives': WHATEVER THE INPUT: true; the input reads as it did. -/
def ringSurvivesSpec : ChangeSpec := { name := "ringSurvives", fn := fun _ => fun
  | [d1, d2, d3] => { results := [.lit (.bool true)], args := [d1, d2, d3] }
  | _ => none }
def ringSurvivesRow : OpenClaim := { program := "ytnicgmgihmfjbaa", sum := "455649964c9f7a4b7e1901f7f68f49352b62d4bc632de0fc9b1b0ae7b1286ee6", func := "substation/substationlaw17.RingSurvives", spec := "ringSurvives", unfollowed := true, recurses := true, apart := false }
def RingSurvivesSaid : Prop := ringSurvivesRow.holds Try.pinned (OpenSpec.ofChange ringSurvivesSpec)

/-- ITS FALSE NEIGHBOUR: 'it returns false'. Refute it at one input. -/
def ringSurvivesWrong : ChangeSpec := { name := "ringSurvives", fn := fun _ => fun
  | [d1, d2, d3] => { results := [.lit (.bool false)], args := [d1, d2, d3] }
  | _ => none }
def RingSurvivesWrongFalsely : Prop := ringSurvivesRow.holds Try.pinned (OpenSpec.ofChange ringSurvivesWrong)

/-- 'substationlaw17.RingWays': WHATEVER THE INPUT: true; the input reads as it did. -/
def ringWaysSpec : ChangeSpec := { name := "ringWays", fn := fun _ => fun
  | [d1, d2, d3] => { results := [.lit (.bool true)], args := [d1, d2, d3] }
  | _ => none }
def ringWaysRow : OpenClaim := { program := "ytnicgmgihmfjbaa", sum := "455649964c9f7a4b7e1901f7f68f49352b62d4bc632de0fc9b1b0ae7b1286ee6", func := "substation/substationlaw17.RingWays", spec := "ringWays", unfollowed := true, recurses := true, apart := false }
def RingWaysSaid : Prop := ringWaysRow.holds Try.pinned (OpenSpec.ofChange ringWaysSpec)

/-- ITS FALSE NEIGHBOUR: 'it returns false'. Refute it at one input. -/
def ringWaysWrong : ChangeSpec := { name := "ringWays", fn := fun _ => fun
  | [d1, d2, d3] => { results := [.lit (.bool false)], args := [d1, d2, d3] }
  | _ => none }
def RingWaysWrongFalsely : Prop := ringWaysRow.holds Try.pinned (OpenSpec.ofChange ringWaysWrong)

/-- 'substationlaw17.RingSymmetric': WHATEVER THE INPUT: true; the input reads as it did. -/
def ringSymmetricSpec : ChangeSpec := { name := "ringSymmetric", fn := fun _ => fun
  | [d] => { results := [.lit (.bool true)], args := [d] }
  | _ => none }
def ringSymmetricRow : OpenClaim := { program := "ytnicgmgihmfjbaa", sum := "455649964c9f7a4b7e1901f7f68f49352b62d4bc632de0fc9b1b0ae7b1286ee6", func := "substation/substationlaw17.RingSymmetric", spec := "ringSymmetric", unfollowed := true, recurses := true, apart := false }
def RingSymmetricSaid : Prop := ringSymmetricRow.holds Try.pinned (OpenSpec.ofChange ringSymmetricSpec)

/-- ITS FALSE NEIGHBOUR: 'it returns false'. Refute it at one input. -/
def ringSymmetricWrong : ChangeSpec := { name := "ringSymmetric", fn := fun _ => fun
  | [d] => { results := [.lit (.bool false)], args := [d] }
  | _ => none }
def RingSymmetricWrongFalsely : Prop := ringSymmetricRow.holds Try.pinned (OpenSpec.ofChange ringSymmetricWrong)

/- THE SECOND FORM. 'bulk': how many values and letters a reading holds, each counted each time it is reached (what is shared counts as often as it is met; a slice's spare places count too). A statement '..UptoSaid' is the law's where the arguments, and the package variables that the reading takes, are together of bulk at most 1048576: NARROWER than '..Said'. Prove '..Said' where nothing that the law and all that it calls make is longer than what came in: it says more and counts as full. Else prove '..UptoSaid'. A law counts once. -/
mutual
def uptoBulk {H : Type} : DataW H → Nat
  | .lit (.string bytes) => bytes.length + 1
  | .lit _ => 1
  | .nil => 1
  | .ptr d => uptoBulk d + 1
  | .slice elems spare => uptoBulkAll elems + uptoBulkAll spare + 1
  | .agg parts => uptoBulkAll parts + 1
  | .iface _ d => uptoBulk d + 1
  | .map entries => uptoBulkEntries entries + 1
  | .held _ => 1
def uptoBulkAll {H : Type} : List (DataW H) → Nat
  | [] => 0
  | d :: r => uptoBulk d + uptoBulkAll r
def uptoBulkEntries {H : Type} : List (Lit × DataW H) → Nat
  | [] => 0
  | x :: r => uptoBulkEntry x + uptoBulkEntries r
def uptoBulkEntry {H : Type} : Lit × DataW H → Nat
  | (.string bytes, d) => bytes.length + uptoBulk d + 1
  | (_, d) => uptoBulk d + 1
 end
def uptoSmall : (H : Type) → List (DataW H) → Bool := fun _ ds => decide (uptoBulkAll ds ≤ 1048576)
def OpenSpec.upto (s : _root_.Go.ChangeSpec) : _root_.Go.OpenSpec := { _root_.Go.OpenSpec.ofChange s with cond := some uptoSmall }

/-- 'substationlaw17.RingRuns', WHERE WHAT IT READS IS OF BULK AT MOST 1048576: true; the input reads as it did. -/
def ringRunsUptoRow : OpenClaim := { program := "ytnicgmgihmfjbaa", sum := "455649964c9f7a4b7e1901f7f68f49352b62d4bc632de0fc9b1b0ae7b1286ee6", func := "substation/substationlaw17.RingRuns", spec := "ringRuns", unfollowed := true, recurses := true, apart := false, narrowed := true }
def RingRunsUptoSaid : Prop := ringRunsUptoRow.holds Try.pinned (OpenSpec.upto ringRunsSpec)

/-- 'substationlaw17.RingTwice', WHERE WHAT IT READS IS OF BULK AT MOST 1048576: true; the input reads as it did. -/
def ringTwiceUptoRow : OpenClaim := { program := "ytnicgmgihmfjbaa", sum := "455649964c9f7a4b7e1901f7f68f49352b62d4bc632de0fc9b1b0ae7b1286ee6", func := "substation/substationlaw17.RingTwice", spec := "ringTwice", unfollowed := true, recurses := true, apart := false, narrowed := true }
def RingTwiceUptoSaid : Prop := ringTwiceUptoRow.holds Try.pinned (OpenSpec.upto ringTwiceSpec)

/-- 'substationlaw17.RingSurvives', WHERE WHAT IT READS IS OF BULK AT MOST 1048576: true; the input reads as it did. -/
def ringSurvivesUptoRow : OpenClaim := { program := "ytnicgmgihmfjbaa", sum := "455649964c9f7a4b7e1901f7f68f49352b62d4bc632de0fc9b1b0ae7b1286ee6", func := "substation/substationlaw17.RingSurvives", spec := "ringSurvives", unfollowed := true, recurses := true, apart := false, narrowed := true }
def RingSurvivesUptoSaid : Prop := ringSurvivesUptoRow.holds Try.pinned (OpenSpec.upto ringSurvivesSpec)

/-- 'substationlaw17.RingWays', WHERE WHAT IT READS IS OF BULK AT MOST 1048576: true; the input reads as it did. -/
def ringWaysUptoRow : OpenClaim := { program := "ytnicgmgihmfjbaa", sum := "455649964c9f7a4b7e1901f7f68f49352b62d4bc632de0fc9b1b0ae7b1286ee6", func := "substation/substationlaw17.RingWays", spec := "ringWays", unfollowed := true, recurses := true, apart := false, narrowed := true }
def RingWaysUptoSaid : Prop := ringWaysUptoRow.holds Try.pinned (OpenSpec.upto ringWaysSpec)

/-- 'substationlaw17.RingSymmetric', WHERE WHAT IT READS IS OF BULK AT MOST 1048576: true; the input reads as it did. -/
def ringSymmetricUptoRow : OpenClaim := { program := "ytnicgmgihmfjbaa", sum := "455649964c9f7a4b7e1901f7f68f49352b62d4bc632de0fc9b1b0ae7b1286ee6", func := "substation/substationlaw17.RingSymmetric", spec := "ringSymmetric", unfollowed := true, recurses := true, apart := false, narrowed := true }
def RingSymmetricUptoSaid : Prop := ringSymmetricUptoRow.holds Try.pinned (OpenSpec.upto ringSymmetricSpec)

end Rows
end Go.Proofs.Ytnicgmgihmfjbaa
