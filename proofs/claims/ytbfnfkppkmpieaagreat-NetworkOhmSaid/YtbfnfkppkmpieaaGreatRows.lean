/-
  No cell of these rows narrows 'for every input' (looked for: loops, veiled, ifaces, maps, wideKeys, modest, calm, conditions, laid).
  DERIVED. THE GIVEN ROWS OF THIS SEAT. 6 by the template 'for every input the law returns true; each argument reads behind the call as it read before'; 0 by the template 'total and deterministic' (their statements: YtbfnfkppkmpieaaGreatTotals.lean).
  GIVEN WITH THE SEED: the statements are not yours to turn. If you find one false, say at which input.
  Laid BY PROGRAM, IN A SANDBOX (cutbox-rows.mjs): the forced cells as the released guide's own fill.sh prints them over the translation 1594adab9270102b… (all of the seat's roots in one cut). By AI agents, Wed Nov 11 2026. No macro, syntax, notation, axiom, sorry.
-/
import Derived.Test.YtbfnfkppkmpieaaGreatChecked
import GoSem.Claim
import GoSem.ClaimJoined
import GoSem.ClaimMapViews
import Derived.JoinedTies
import Derived.KernelRfl
namespace Go.Proofs.YtbfnfkppkmpieaaGreat
/- THE CELL 'sum', in the pinned program and in every row, IS THE sha256 OF THE DUMP (.gsa) THAT YtbfnfkppkmpieaaGreatProg.lean LOADS. Nothing in Lean hashes anything: it is a label: what it is worth is what the hold of that sum in a sandbox is worth. -/
noncomputable def Tryz.pinned : Pinned := { name := "ytbfnfkppkmpieaagreat", sum := "1594adab9270102b8e9e29cf9000e461909163573dfdd5a699a2780668cdecba", checked := Tryz.checked }
namespace Rows
def none {H : Type} : Left H := { results := [], args := [] }

/-- 'substationtop.DistanceLaw': WHATEVER THE INPUT: true; the input reads as it did. -/
def distanceLawSpec : ChangeSpec := { name := "distanceLaw", fn := fun _ => fun
  | [d1, d2, d3] => { results := [.lit (.bool true)], args := [d1, d2, d3] }
  | _ => none }
def distanceLawRow : OpenClaim := { program := "ytbfnfkppkmpieaagreat", sum := "1594adab9270102b8e9e29cf9000e461909163573dfdd5a699a2780668cdecba", func := "substation/substationtop.DistanceLaw", spec := "distanceLaw", unfollowed := true, recurses := true, apart := false }
def DistanceLawSaid : Prop := distanceLawRow.holds Tryz.pinned (OpenSpec.ofChange distanceLawSpec)

/-- ITS FALSE NEIGHBOUR: 'it returns false'. Refute it at one input. -/
def distanceLawWrong : ChangeSpec := { name := "distanceLaw", fn := fun _ => fun
  | [d1, d2, d3] => { results := [.lit (.bool false)], args := [d1, d2, d3] }
  | _ => none }
def DistanceLawWrongFalsely : Prop := distanceLawRow.holds Tryz.pinned (OpenSpec.ofChange distanceLawWrong)

/-- 'substationlaw40.NetworkChecks': WHATEVER THE INPUT: true; the input reads as it did. -/
def networkChecksSpec : ChangeSpec := { name := "networkChecks", fn := fun _ => fun
  | [d1, d2] => { results := [.lit (.bool true)], args := [d1, d2] }
  | _ => none }
def networkChecksRow : OpenClaim := { program := "ytbfnfkppkmpieaagreat", sum := "1594adab9270102b8e9e29cf9000e461909163573dfdd5a699a2780668cdecba", func := "substation/substationlaw40.NetworkChecks", spec := "networkChecks", unfollowed := true, recurses := true, apart := false }
def NetworkChecksSaid : Prop := networkChecksRow.holds Tryz.pinned (OpenSpec.ofChange networkChecksSpec)

/-- ITS FALSE NEIGHBOUR: 'it returns false'. Refute it at one input. -/
def networkChecksWrong : ChangeSpec := { name := "networkChecks", fn := fun _ => fun
  | [d1, d2] => { results := [.lit (.bool false)], args := [d1, d2] }
  | _ => none }
def NetworkChecksWrongFalsely : Prop := networkChecksRow.holds Tryz.pinned (OpenSpec.ofChange networkChecksWrong)

/-- 'substationlaw40.NetworkOhm': WHATEVER THE INPUT: true; the input reads as it did. -/
def networkOhmSpec : ChangeSpec := { name := "networkOhm", fn := fun _ => fun
  | [d1, d2, d3] => { results := [.lit (.bool true)], args := [d1, d2, d3] }
  | _ => none }
def networkOhmRow : OpenClaim := { program := "ytbfnfkppkmpieaagreat", sum := "1594adab9270102b8e9e29cf9000e461909163573dfdd5a699a2780668cdecba", func := "substation/substationlaw40.NetworkOhm", spec := "networkOhm", unfollowed := true, recurses := true, apart := false }
def NetworkOhmSaid : Prop := networkOhmRow.holds Tryz.pinned (OpenSpec.ofChange networkOhmSpec)

/-- ITS FALSE NEIGHBOUR: 'it returns false'. Refute it at one input. -/
def networkOhmWrong : ChangeSpec := { name := "networkOhm", fn := fun _ => fun
  | [d1, d2, d3] => { results := [.lit (.bool false)], args := [d1, d2, d3] }
  | _ => none }
def NetworkOhmWrongFalsely : Prop := networkOhmRow.holds Tryz.pinned (OpenSpec.ofChange networkOhmWrong)

/-- 'substationlaw40.NetworkConditions': WHATEVER THE INPUT: true; the input reads as it did. -/
def networkConditionsSpec : ChangeSpec := { name := "networkConditions", fn := fun _ => fun
  | [d1, d2, d3] => { results := [.lit (.bool true)], args := [d1, d2, d3] }
  | _ => none }
def networkConditionsRow : OpenClaim := { program := "ytbfnfkppkmpieaagreat", sum := "1594adab9270102b8e9e29cf9000e461909163573dfdd5a699a2780668cdecba", func := "substation/substationlaw40.NetworkConditions", spec := "networkConditions", unfollowed := true, recurses := true, apart := false }
def NetworkConditionsSaid : Prop := networkConditionsRow.holds Tryz.pinned (OpenSpec.ofChange networkConditionsSpec)

/-- ITS FALSE NEIGHBOUR: 'it returns false'. Refute it at one input. -/
def networkConditionsWrong : ChangeSpec := { name := "networkConditions", fn := fun _ => fun
  | [d1, d2, d3] => { results := [.lit (.bool false)], args := [d1, d2, d3] }
  | _ => none }
def NetworkConditionsWrongFalsely : Prop := networkConditionsRow.holds Tryz.pinned (OpenSpec.ofChange networkConditionsWrong)

/-- 'substationlaw40.NetworkScales': WHATEVER THE INPUT: true; the input reads as it did. -/
def networkScalesSpec : ChangeSpec := { name := "networkScales", fn := fun _ => fun
  | [d1, d2, d3] => { results := [.lit (.bool true)], args := [d1, d2, d3] }
  | _ => none }
def networkScalesRow : OpenClaim := { program := "ytbfnfkppkmpieaagreat", sum := "1594adab9270102b8e9e29cf9000e461909163573dfdd5a699a2780668cdecba", func := "substation/substationlaw40.NetworkScales", spec := "networkScales", unfollowed := true, recurses := true, apart := false }
def NetworkScalesSaid : Prop := networkScalesRow.holds Tryz.pinned (OpenSpec.ofChange networkScalesSpec)

/-- ITS FALSE NEIGHBOUR: 'it returns false'. Refute it at one input. -/
def networkScalesWrong : ChangeSpec := { name := "networkScales", fn := fun _ => fun
  | [d1, d2, d3] => { results := [.lit (.bool false)], args := [d1, d2, d3] }
  | _ => none }
def NetworkScalesWrongFalsely : Prop := networkScalesRow.holds Tryz.pinned (OpenSpec.ofChange networkScalesWrong)

/-- 'substationlaw40.NetworkExamples': WHATEVER THE INPUT: true; the input reads as it did. -/
def networkExamplesSpec : ChangeSpec := { name := "networkExamples", fn := fun _ => fun
  | [] => { results := [.lit (.bool true)], args := [] }
  | _ => none }
def networkExamplesRow : OpenClaim := { program := "ytbfnfkppkmpieaagreat", sum := "1594adab9270102b8e9e29cf9000e461909163573dfdd5a699a2780668cdecba", func := "substation/substationlaw40.NetworkExamples", spec := "networkExamples", unfollowed := true, recurses := true, apart := false }
def NetworkExamplesSaid : Prop := networkExamplesRow.holds Tryz.pinned (OpenSpec.ofChange networkExamplesSpec)

/-- ITS FALSE NEIGHBOUR: 'it returns false'. Refute it at one input. -/
def networkExamplesWrong : ChangeSpec := { name := "networkExamples", fn := fun _ => fun
  | [] => { results := [.lit (.bool false)], args := [] }
  | _ => none }
def NetworkExamplesWrongFalsely : Prop := networkExamplesRow.holds Tryz.pinned (OpenSpec.ofChange networkExamplesWrong)

/- THE SECOND FORM. 'bulk': how many values and letters a reading holds, each counted each time it is reached (what is shared counts as often as it is met; a slice's spare places count too). A statement '..UptoSaid' is the law's where the arguments, and the package variables that the reading takes, are together of bulk at most 1048576: NARROWER than '..Said'. Prove '..Said' where nothing that the law and all that it calls make is longer than what came in: it says more and counts as full. Else prove '..UptoSaid'. A law counts once. -/
mutual
def uptoBulk {H : Type} : DataW H → Nat
  | .lit (.string bytes) => bytes.length + 1
  | .lit _ => 1
  | .nil => 1
  | .ptr d => uptoBulk d + 1
  | .slice elems spare => uptoBulkAll elems + uptoBulkAll spare + 1
  | .agg parts => uptoBulkAll parts + 1
  | .iface _ d => uptoBulk d + 1
  | .map entries => uptoBulkEntries entries + 1
  | .held _ => 1
def uptoBulkAll {H : Type} : List (DataW H) → Nat
  | [] => 0
  | d :: r => uptoBulk d + uptoBulkAll r
def uptoBulkEntries {H : Type} : List (Lit × DataW H) → Nat
  | [] => 0
  | x :: r => uptoBulkEntry x + uptoBulkEntries r
def uptoBulkEntry {H : Type} : Lit × DataW H → Nat
  | (.string bytes, d) => bytes.length + uptoBulk d + 1
  | (_, d) => uptoBulk d + 1
 end
def uptoSmall : (H : Type) → List (DataW H) → Bool := fun _ ds => decide (uptoBulkAll ds ≤ 1048576)
def OpenSpec.upto (s : _root_.Go.ChangeSpec) : _root_.Go.OpenSpec := { _root_.Go.OpenSpec.ofChange s with cond := some uptoSmall }

/-- 'substationtop.DistanceLaw', WHERE WHAT IT READS IS OF BULK AT MOST 1048576: true; the input reads as it did. -/
def distanceLawUptoRow : OpenClaim := { program := "ytbfnfkppkmpieaagreat", sum := "1594adab9270102b8e9e29cf9000e461909163573dfdd5a699a2780668cdecba", func := "substation/substationtop.DistanceLaw", spec := "distanceLaw", unfollowed := true, recurses := true, apart := false, narrowed := true }
def DistanceLawUptoSaid : Prop := distanceLawUptoRow.holds Tryz.pinned (OpenSpec.upto distanceLawSpec)

/-- 'substationlaw40.NetworkChecks', WHERE WHAT IT READS IS OF BULK AT MOST 1048576: true; the input reads as it did. -/
def networkChecksUptoRow : OpenClaim := { program := "ytbfnfkppkmpieaagreat", sum := "1594adab9270102b8e9e29cf9000e461909163573dfdd5a699a2780668cdecba", func := "substation/substationlaw40.NetworkChecks", spec := "networkChecks", unfollowed := true, recurses := true, apart := false, narrowed := true }
def NetworkChecksUptoSaid : Prop := networkChecksUptoRow.holds Tryz.pinned (OpenSpec.upto networkChecksSpec)

/-- 'substationlaw40.NetworkOhm', WHERE WHAT IT READS IS OF BULK AT MOST 1048576: true; the input reads as it did. -/
def networkOhmUptoRow : OpenClaim := { program := "ytbfnfkppkmpieaagreat", sum := "1594adab9270102b8e9e29cf9000e461909163573dfdd5a699a2780668cdecba", func := "substation/substationlaw40.NetworkOhm", spec := "networkOhm", unfollowed := true, recurses := true, apart := false, narrowed := true }
def NetworkOhmUptoSaid : Prop := networkOhmUptoRow.holds Tryz.pinned (OpenSpec.upto networkOhmSpec)

/-- 'substationlaw40.NetworkConditions', WHERE WHAT IT READS IS OF BULK AT MOST 1048576: true; the input reads as it did. -/
def networkConditionsUptoRow : OpenClaim := { program := "ytbfnfkppkmpieaagreat", sum := "1594adab9270102b8e9e29cf9000e461909163573dfdd5a699a2780668cdecba", func := "substation/substationlaw40.NetworkConditions", spec := "networkConditions", unfollowed := true, recurses := true, apart := false, narrowed := true }
def NetworkConditionsUptoSaid : Prop := networkConditionsUptoRow.holds Tryz.pinned (OpenSpec.upto networkConditionsSpec)

/-- 'substationlaw40.NetworkScales', WHERE WHAT IT READS IS OF BULK AT MOST 1048576: true; the input reads as it did. -/
def networkScalesUptoRow : OpenClaim := { program := "ytbfnfkppkmpieaagreat", sum := "1594adab9270102b8e9e29cf9000e461909163573dfdd5a699a2780668cdecba", func := "substation/substationlaw40.NetworkScales", spec := "networkScales", unfollowed := true, recurses := true, apart := false, narrowed := true }
def NetworkScalesUptoSaid : Prop := networkScalesUptoRow.holds Tryz.pinned (OpenSpec.upto networkScalesSpec)

/-- 'substationlaw40.NetworkExamples', WHERE WHAT IT READS IS OF BULK AT MOST 1048576: true; the input reads as it did. -/
def networkExamplesUptoRow : OpenClaim := { program := "ytbfnfkppkmpieaagreat", sum := "1594adab9270102b8e9e29cf9000e461909163573dfdd5a699a2780668cdecba", func := "substation/substationlaw40.NetworkExamples", spec := "networkExamples", unfollowed := true, recurses := true, apart := false, narrowed := true }
def NetworkExamplesUptoSaid : Prop := networkExamplesUptoRow.holds Tryz.pinned (OpenSpec.upto networkExamplesSpec)

end Rows
end Go.Proofs.YtbfnfkppkmpieaaGreat
