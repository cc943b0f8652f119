/-
  No cell of these rows narrows 'for every input' (looked for: loops, veiled, ifaces, maps, wideKeys, modest, calm, conditions, laid).
  DERIVED. THE GIVEN ROWS OF THIS SEAT. 4 by the template 'for every input the law returns true; each argument reads behind the call as it read before'; 0 by the template 'total and deterministic' (their statements: YtjeijmnhbckjdaaTotals.lean).
  GIVEN WITH THE SEED: the statements are not yours to turn. If you find one false, say at which input.
  Laid BY PROGRAM, IN A SANDBOX (cutbox-rows.mjs): the forced cells as the released guide's own fill.sh prints them over the translation 16f9d28972d6aca4… (all of the seat's roots in one cut). By AI agents, Wed Nov 11 2026. No macro, syntax, notation, axiom, sorry.
-/
import Derived.Test.YtjeijmnhbckjdaaChecked
import GoSem.Claim
import GoSem.ClaimJoined
import GoSem.ClaimMapViews
import Derived.JoinedTies
import Derived.KernelRfl
namespace Go.Proofs.Ytjeijmnhbckjdaa
/- THE CELL 'sum', in the pinned program and in every row, IS THE sha256 OF THE DUMP (.gsa) THAT YtjeijmnhbckjdaaProg.lean LOADS. Nothing in Lean hashes anything: it is a label: what it is worth is what the hold of that sum in a sandbox is worth. -/
noncomputable def Try.pinned : Pinned := { name := "ytjeijmnhbckjdaa", sum := "16f9d28972d6aca4a147edda6599d4bea2c1d3b2e65b73d0df9fe101742b609e", checked := Try.checked }
namespace Rows
def none {H : Type} : Left H := { results := [], args := [] }

/-- 'substationlaw41.WaveformChannels': WHATEVER THE INPUT: true; the input reads as it did. -/
def waveformChannelsSpec : ChangeSpec := { name := "waveformChannels", fn := fun _ => fun
  | [d1, d2, d3] => { results := [.lit (.bool true)], args := [d1, d2, d3] }
  | _ => none }
def waveformChannelsRow : OpenClaim := { program := "ytjeijmnhbckjdaa", sum := "16f9d28972d6aca4a147edda6599d4bea2c1d3b2e65b73d0df9fe101742b609e", func := "substation/substationlaw41.WaveformChannels", spec := "waveformChannels", apart := false }
def WaveformChannelsSaid : Prop := waveformChannelsRow.holds Try.pinned (OpenSpec.ofChange waveformChannelsSpec)

/-- ITS FALSE NEIGHBOUR: 'it returns false'. Refute it at one input. -/
def waveformChannelsWrong : ChangeSpec := { name := "waveformChannels", fn := fun _ => fun
  | [d1, d2, d3] => { results := [.lit (.bool false)], args := [d1, d2, d3] }
  | _ => none }
def WaveformChannelsWrongFalsely : Prop := waveformChannelsRow.holds Try.pinned (OpenSpec.ofChange waveformChannelsWrong)

/-- 'substationlaw41.WaveformAntisymmetric': WHATEVER THE INPUT: true; the input reads as it did. -/
def waveformAntisymmetricSpec : ChangeSpec := { name := "waveformAntisymmetric", fn := fun _ => fun
  | [d1, d2] => { results := [.lit (.bool true)], args := [d1, d2] }
  | _ => none }
def waveformAntisymmetricRow : OpenClaim := { program := "ytjeijmnhbckjdaa", sum := "16f9d28972d6aca4a147edda6599d4bea2c1d3b2e65b73d0df9fe101742b609e", func := "substation/substationlaw41.WaveformAntisymmetric", spec := "waveformAntisymmetric", apart := false }
def WaveformAntisymmetricSaid : Prop := waveformAntisymmetricRow.holds Try.pinned (OpenSpec.ofChange waveformAntisymmetricSpec)

/-- ITS FALSE NEIGHBOUR: 'it returns false'. Refute it at one input. -/
def waveformAntisymmetricWrong : ChangeSpec := { name := "waveformAntisymmetric", fn := fun _ => fun
  | [d1, d2] => { results := [.lit (.bool false)], args := [d1, d2] }
  | _ => none }
def WaveformAntisymmetricWrongFalsely : Prop := waveformAntisymmetricRow.holds Try.pinned (OpenSpec.ofChange waveformAntisymmetricWrong)

/-- 'substationlaw41.WaveformTurns': WHATEVER THE INPUT: true; the input reads as it did. -/
def waveformTurnsSpec : ChangeSpec := { name := "waveformTurns", fn := fun _ => fun
  | [d1, d2, d3] => { results := [.lit (.bool true)], args := [d1, d2, d3] }
  | _ => none }
def waveformTurnsRow : OpenClaim := { program := "ytjeijmnhbckjdaa", sum := "16f9d28972d6aca4a147edda6599d4bea2c1d3b2e65b73d0df9fe101742b609e", func := "substation/substationlaw41.WaveformTurns", spec := "waveformTurns", apart := false }
def WaveformTurnsSaid : Prop := waveformTurnsRow.holds Try.pinned (OpenSpec.ofChange waveformTurnsSpec)

/-- ITS FALSE NEIGHBOUR: 'it returns false'. Refute it at one input. -/
def waveformTurnsWrong : ChangeSpec := { name := "waveformTurns", fn := fun _ => fun
  | [d1, d2, d3] => { results := [.lit (.bool false)], args := [d1, d2, d3] }
  | _ => none }
def WaveformTurnsWrongFalsely : Prop := waveformTurnsRow.holds Try.pinned (OpenSpec.ofChange waveformTurnsWrong)

/-- 'substationlaw41.WaveformFlats': WHATEVER THE INPUT: true; the input reads as it did. -/
def waveformFlatsSpec : ChangeSpec := { name := "waveformFlats", fn := fun _ => fun
  | [d1, d2, d3] => { results := [.lit (.bool true)], args := [d1, d2, d3] }
  | _ => none }
def waveformFlatsRow : OpenClaim := { program := "ytjeijmnhbckjdaa", sum := "16f9d28972d6aca4a147edda6599d4bea2c1d3b2e65b73d0df9fe101742b609e", func := "substation/substationlaw41.WaveformFlats", spec := "waveformFlats", apart := false }
def WaveformFlatsSaid : Prop := waveformFlatsRow.holds Try.pinned (OpenSpec.ofChange waveformFlatsSpec)

/-- ITS FALSE NEIGHBOUR: 'it returns false'. Refute it at one input. -/
def waveformFlatsWrong : ChangeSpec := { name := "waveformFlats", fn := fun _ => fun
  | [d1, d2, d3] => { results := [.lit (.bool false)], args := [d1, d2, d3] }
  | _ => none }
def WaveformFlatsWrongFalsely : Prop := waveformFlatsRow.holds Try.pinned (OpenSpec.ofChange waveformFlatsWrong)

/- THE SECOND FORM. 'bulk': how many values and letters a reading holds, each counted each time it is reached (what is shared counts as often as it is met; a slice's spare places count too). A statement '..UptoSaid' is the law's where the arguments, and the package variables that the reading takes, are together of bulk at most 1048576: NARROWER than '..Said'. Prove '..Said' where nothing that the law and all that it calls make is longer than what came in: it says more and counts as full. Else prove '..UptoSaid'. A law counts once. -/
mutual
def uptoBulk {H : Type} : DataW H → Nat
  | .lit (.string bytes) => bytes.length + 1
  | .lit _ => 1
  | .nil => 1
  | .ptr d => uptoBulk d + 1
  | .slice elems spare => uptoBulkAll elems + uptoBulkAll spare + 1
  | .agg parts => uptoBulkAll parts + 1
  | .iface _ d => uptoBulk d + 1
  | .map entries => uptoBulkEntries entries + 1
  | .held _ => 1
def uptoBulkAll {H : Type} : List (DataW H) → Nat
  | [] => 0
  | d :: r => uptoBulk d + uptoBulkAll r
def uptoBulkEntries {H : Type} : List (Lit × DataW H) → Nat
  | [] => 0
  | x :: r => uptoBulkEntry x + uptoBulkEntries r
def uptoBulkEntry {H : Type} : Lit × DataW H → Nat
  | (.string bytes, d) => bytes.length + uptoBulk d + 1
  | (_, d) => uptoBulk d + 1
 end
def uptoSmall : (H : Type) → List (DataW H) → Bool := fun _ ds => decide (uptoBulkAll ds ≤ 1048576)
def OpenSpec.upto (s : _root_.Go.ChangeSpec) : _root_.Go.OpenSpec := { _root_.Go.OpenSpec.ofChange s with cond := some uptoSmall }

/-- 'substationlaw41.WaveformChannels', WHERE WHAT IT READS IS OF BULK AT MOST 1048576: true; the input reads as it did. -/
def waveformChannelsUptoRow : OpenClaim := { program := "ytjeijmnhbckjdaa", sum := "16f9d28972d6aca4a147edda6599d4bea2c1d3b2e65b73d0df9fe101742b609e", func := "substation/substationlaw41.WaveformChannels", spec := "waveformChannels", apart := false, narrowed := true }
def WaveformChannelsUptoSaid : Prop := waveformChannelsUptoRow.holds Try.pinned (OpenSpec.upto waveformChannelsSpec)

/-- 'substationlaw41.WaveformAntisymmetric', WHERE WHAT IT READS IS OF BULK AT MOST 1048576: true; the input reads as it did. -/
def waveformAntisymmetricUptoRow : OpenClaim := { program := "ytjeijmnhbckjdaa", sum := "16f9d28972d6aca4a147edda6599d4bea2c1d3b2e65b73d0df9fe101742b609e", func := "substation/substationlaw41.WaveformAntisymmetric", spec := "waveformAntisymmetric", apart := false, narrowed := true }
def WaveformAntisymmetricUptoSaid : Prop := waveformAntisymmetricUptoRow.holds Try.pinned (OpenSpec.upto waveformAntisymmetricSpec)

/-- 'substationlaw41.WaveformTurns', WHERE WHAT IT READS IS OF BULK AT MOST 1048576: true; the input reads as it did. -/
def waveformTurnsUptoRow : OpenClaim := { program := "ytjeijmnhbckjdaa", sum := "16f9d28972d6aca4a147edda6599d4bea2c1d3b2e65b73d0df9fe101742b609e", func := "substation/substationlaw41.WaveformTurns", spec := "waveformTurns", apart := false, narrowed := true }
def WaveformTurnsUptoSaid : Prop := waveformTurnsUptoRow.holds Try.pinned (OpenSpec.upto waveformTurnsSpec)

/-- 'substationlaw41.WaveformFlats', WHERE WHAT IT READS IS OF BULK AT MOST 1048576: true; the input reads as it did. -/
def waveformFlatsUptoRow : OpenClaim := { program := "ytjeijmnhbckjdaa", sum := "16f9d28972d6aca4a147edda6599d4bea2c1d3b2e65b73d0df9fe101742b609e", func := "substation/substationlaw41.WaveformFlats", spec := "waveformFlats", apart := false, narrowed := true }
def WaveformFlatsUptoSaid : Prop := waveformFlatsUptoRow.holds Try.pinned (OpenSpec.upto waveformFlatsSpec)

end Rows
end Go.Proofs.Ytjeijmnhbckjdaa
