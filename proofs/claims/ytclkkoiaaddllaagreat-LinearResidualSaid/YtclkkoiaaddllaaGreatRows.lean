/-
  No cell of these rows narrows 'for every input' (looked for: loops, veiled, ifaces, maps, wideKeys, modest, calm, conditions, laid).
  DERIVED. THE GIVEN ROWS OF THIS SEAT. 5 by the template 'for every input the law returns true; each argument reads behind the call as it read before'; 0 by the template 'total and deterministic' (their statements: YtclkkoiaaddllaaGreatTotals.lean).
  GIVEN WITH THE SEED: the statements are not yours to turn. If you find one false, say at which input.
  Laid BY PROGRAM, IN A SANDBOX (cutbox-rows.mjs): the forced cells as the released guide's own fill.sh prints them over the translation e3d7b14314b12452… (all of the seat's roots in one cut). By AI agents, Wed Nov 11 2026. No macro, syntax, notation, axiom, sorry.
-/
import Derived.Test.YtclkkoiaaddllaaGreatChecked
import GoSem.Claim
import GoSem.ClaimJoined
import GoSem.ClaimMapViews
import Derived.JoinedTies
import Derived.KernelRfl
namespace Go.Proofs.YtclkkoiaaddllaaGreat
/- THE CELL 'sum', in the pinned program and in every row, IS THE sha256 OF THE DUMP (.gsa) THAT YtclkkoiaaddllaaGreatProg.lean LOADS. Nothing in Lean hashes anything: it is a label: what it is worth is what the hold of that sum in a sandbox is worth. -/
noncomputable def Tryz.pinned : Pinned := { name := "ytclkkoiaaddllaagreat", sum := "e3d7b14314b12452f8cc64121cef259d18150a90aceb55227642f5a41c41d619", checked := Tryz.checked }
namespace Rows
def none {H : Type} : Left H := { results := [], args := [] }

/-- 'substationlaw39.LinearRanks': WHATEVER THE INPUT: true; the input reads as it did. -/
def linearRanksSpec : ChangeSpec := { name := "linearRanks", fn := fun _ => fun
  | [d] => { results := [.lit (.bool true)], args := [d] }
  | _ => none }
def linearRanksRow : OpenClaim := { program := "ytclkkoiaaddllaagreat", sum := "e3d7b14314b12452f8cc64121cef259d18150a90aceb55227642f5a41c41d619", func := "substation/substationlaw39.LinearRanks", spec := "linearRanks", apart := false }
def LinearRanksSaid : Prop := linearRanksRow.holds Tryz.pinned (OpenSpec.ofChange linearRanksSpec)

/-- ITS FALSE NEIGHBOUR: 'it returns false'. Refute it at one input. -/
def linearRanksWrong : ChangeSpec := { name := "linearRanks", fn := fun _ => fun
  | [d] => { results := [.lit (.bool false)], args := [d] }
  | _ => none }
def LinearRanksWrongFalsely : Prop := linearRanksRow.holds Tryz.pinned (OpenSpec.ofChange linearRanksWrong)

/-- 'substationlaw39.LinearMultiplies': WHATEVER THE INPUT: true; the input reads as it did. -/
def linearMultipliesSpec : ChangeSpec := { name := "linearMultiplies", fn := fun _ => fun
  | [d1, d2, d3] => { results := [.lit (.bool true)], args := [d1, d2, d3] }
  | _ => none }
def linearMultipliesRow : OpenClaim := { program := "ytclkkoiaaddllaagreat", sum := "e3d7b14314b12452f8cc64121cef259d18150a90aceb55227642f5a41c41d619", func := "substation/substationlaw39.LinearMultiplies", spec := "linearMultiplies", apart := false }
def LinearMultipliesSaid : Prop := linearMultipliesRow.holds Tryz.pinned (OpenSpec.ofChange linearMultipliesSpec)

/-- ITS FALSE NEIGHBOUR: 'it returns false'. Refute it at one input. -/
def linearMultipliesWrong : ChangeSpec := { name := "linearMultiplies", fn := fun _ => fun
  | [d1, d2, d3] => { results := [.lit (.bool false)], args := [d1, d2, d3] }
  | _ => none }
def LinearMultipliesWrongFalsely : Prop := linearMultipliesRow.holds Tryz.pinned (OpenSpec.ofChange linearMultipliesWrong)

/-- 'substationlaw39.LinearExamples': WHATEVER THE INPUT: true; the input reads as it did. -/
def linearExamplesSpec : ChangeSpec := { name := "linearExamples", fn := fun _ => fun
  | [] => { results := [.lit (.bool true)], args := [] }
  | _ => none }
def linearExamplesRow : OpenClaim := { program := "ytclkkoiaaddllaagreat", sum := "e3d7b14314b12452f8cc64121cef259d18150a90aceb55227642f5a41c41d619", func := "substation/substationlaw39.LinearExamples", spec := "linearExamples", apart := false }
def LinearExamplesSaid : Prop := linearExamplesRow.holds Tryz.pinned (OpenSpec.ofChange linearExamplesSpec)

/-- ITS FALSE NEIGHBOUR: 'it returns false'. Refute it at one input. -/
def linearExamplesWrong : ChangeSpec := { name := "linearExamples", fn := fun _ => fun
  | [] => { results := [.lit (.bool false)], args := [] }
  | _ => none }
def LinearExamplesWrongFalsely : Prop := linearExamplesRow.holds Tryz.pinned (OpenSpec.ofChange linearExamplesWrong)

/-- 'substationlaw39.LinearResidual': WHATEVER THE INPUT: true; the input reads as it did. -/
def linearResidualSpec : ChangeSpec := { name := "linearResidual", fn := fun _ => fun
  | [d1, d2] => { results := [.lit (.bool true)], args := [d1, d2] }
  | _ => none }
def linearResidualRow : OpenClaim := { program := "ytclkkoiaaddllaagreat", sum := "e3d7b14314b12452f8cc64121cef259d18150a90aceb55227642f5a41c41d619", func := "substation/substationlaw39.LinearResidual", spec := "linearResidual", apart := false }
def LinearResidualSaid : Prop := linearResidualRow.holds Tryz.pinned (OpenSpec.ofChange linearResidualSpec)

/-- ITS FALSE NEIGHBOUR: 'it returns false'. Refute it at one input. -/
def linearResidualWrong : ChangeSpec := { name := "linearResidual", fn := fun _ => fun
  | [d1, d2] => { results := [.lit (.bool false)], args := [d1, d2] }
  | _ => none }
def LinearResidualWrongFalsely : Prop := linearResidualRow.holds Tryz.pinned (OpenSpec.ofChange linearResidualWrong)

/-- 'substationlaw41.WaveformExamples': WHATEVER THE INPUT: true; the input reads as it did. -/
def waveformExamplesSpec : ChangeSpec := { name := "waveformExamples", fn := fun _ => fun
  | [] => { results := [.lit (.bool true)], args := [] }
  | _ => none }
def waveformExamplesRow : OpenClaim := { program := "ytclkkoiaaddllaagreat", sum := "e3d7b14314b12452f8cc64121cef259d18150a90aceb55227642f5a41c41d619", func := "substation/substationlaw41.WaveformExamples", spec := "waveformExamples", unfollowed := true, recurses := true, apart := false }
def WaveformExamplesSaid : Prop := waveformExamplesRow.holds Tryz.pinned (OpenSpec.ofChange waveformExamplesSpec)

/-- ITS FALSE NEIGHBOUR: 'it returns false'. Refute it at one input. -/
def waveformExamplesWrong : ChangeSpec := { name := "waveformExamples", fn := fun _ => fun
  | [] => { results := [.lit (.bool false)], args := [] }
  | _ => none }
def WaveformExamplesWrongFalsely : Prop := waveformExamplesRow.holds Tryz.pinned (OpenSpec.ofChange waveformExamplesWrong)

/- THE SECOND FORM. 'bulk': how many values and letters a reading holds, each counted each time it is reached (what is shared counts as often as it is met; a slice's spare places count too). A statement '..UptoSaid' is the law's where the arguments, and the package variables that the reading takes, are together of bulk at most 1048576: NARROWER than '..Said'. Prove '..Said' where nothing that the law and all that it calls make is longer than what came in: it says more and counts as full. Else prove '..UptoSaid'. A law counts once. -/
mutual
def uptoBulk {H : Type} : DataW H → Nat
  | .lit (.string bytes) => bytes.length + 1
  | .lit _ => 1
  | .nil => 1
  | .ptr d => uptoBulk d + 1
  | .slice elems spare => uptoBulkAll elems + uptoBulkAll spare + 1
  | .agg parts => uptoBulkAll parts + 1
  | .iface _ d => uptoBulk d + 1
  | .map entries => uptoBulkEntries entries + 1
  | .held _ => 1
def uptoBulkAll {H : Type} : List (DataW H) → Nat
  | [] => 0
  | d :: r => uptoBulk d + uptoBulkAll r
def uptoBulkEntries {H : Type} : List (Lit × DataW H) → Nat
  | [] => 0
  | x :: r => uptoBulkEntry x + uptoBulkEntries r
def uptoBulkEntry {H : Type} : Lit × DataW H → Nat
  | (.string bytes, d) => bytes.length + uptoBulk d + 1
  | (_, d) => uptoBulk d + 1
 end
def uptoSmall : (H : Type) → List (DataW H) → Bool := fun _ ds => decide (uptoBulkAll ds ≤ 1048576)
def OpenSpec.upto (s : _root_.Go.ChangeSpec) : _root_.Go.OpenSpec := { _root_.Go.OpenSpec.ofChange s with cond := some uptoSmall }

/-- 'substationlaw39.LinearRanks', WHERE WHAT IT READS IS OF BULK AT MOST 1048576: true; the input reads as it did. -/
def linearRanksUptoRow : OpenClaim := { program := "ytclkkoiaaddllaagreat", sum := "e3d7b14314b12452f8cc64121cef259d18150a90aceb55227642f5a41c41d619", func := "substation/substationlaw39.LinearRanks", spec := "linearRanks", apart := false, narrowed := true }
def LinearRanksUptoSaid : Prop := linearRanksUptoRow.holds Tryz.pinned (OpenSpec.upto linearRanksSpec)

/-- 'substationlaw39.LinearMultiplies', WHERE WHAT IT READS IS OF BULK AT MOST 1048576: true; the input reads as it did. -/
def linearMultipliesUptoRow : OpenClaim := { program := "ytclkkoiaaddllaagreat", sum := "e3d7b14314b12452f8cc64121cef259d18150a90aceb55227642f5a41c41d619", func := "substation/substationlaw39.LinearMultiplies", spec := "linearMultiplies", apart := false, narrowed := true }
def LinearMultipliesUptoSaid : Prop := linearMultipliesUptoRow.holds Tryz.pinned (OpenSpec.upto linearMultipliesSpec)

/-- 'substationlaw39.LinearExamples', WHERE WHAT IT READS IS OF BULK AT MOST 1048576: true; the input reads as it did. -/
def linearExamplesUptoRow : OpenClaim := { program := "ytclkkoiaaddllaagreat", sum := "e3d7b14314b12452f8cc64121cef259d18150a90aceb55227642f5a41c41d619", func := "substation/substationlaw39.LinearExamples", spec := "linearExamples", apart := false, narrowed := true }
def LinearExamplesUptoSaid : Prop := linearExamplesUptoRow.holds Tryz.pinned (OpenSpec.upto linearExamplesSpec)

/-- 'substationlaw39.LinearResidual', WHERE WHAT IT READS IS OF BULK AT MOST 1048576: true; the input reads as it did. -/
def linearResidualUptoRow : OpenClaim := { program := "ytclkkoiaaddllaagreat", sum := "e3d7b14314b12452f8cc64121cef259d18150a90aceb55227642f5a41c41d619", func := "substation/substationlaw39.LinearResidual", spec := "linearResidual", apart := false, narrowed := true }
def LinearResidualUptoSaid : Prop := linearResidualUptoRow.holds Tryz.pinned (OpenSpec.upto linearResidualSpec)

/-- 'substationlaw41.WaveformExamples', WHERE WHAT IT READS IS OF BULK AT MOST 1048576: true; the input reads as it did. -/
def waveformExamplesUptoRow : OpenClaim := { program := "ytclkkoiaaddllaagreat", sum := "e3d7b14314b12452f8cc64121cef259d18150a90aceb55227642f5a41c41d619", func := "substation/substationlaw41.WaveformExamples", spec := "waveformExamples", unfollowed := true, recurses := true, apart := false, narrowed := true }
def WaveformExamplesUptoSaid : Prop := waveformExamplesUptoRow.holds Tryz.pinned (OpenSpec.upto waveformExamplesSpec)

end Rows
end Go.Proofs.YtclkkoiaaddllaaGreat
