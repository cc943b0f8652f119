/-
  DERIVED. GIVEN WITH THE SEED: THE CARDS: each row of YtjeijmnhbckjdaaGreatDoorRows.lean that lists a variable, with what it lists TIED to the program's text (the seventh form; the later family's looks); each row that meets fmt, with fmt's text TOLD by the authors' own Lean function (tested against real Go, not proved from fmt's source: count such statements apart). THE CARD IS WHAT COUNTS. Prove the row's statement (the work); the ties are given (YtjeijmnhbckjdaaGreatDoorTie.lean); close each card by the builder's one call (the guide's Derived/Test/ToyasCard.lean, 'card_holds'). Laid BY PROGRAM, IN A SANDBOX (cutbox-door.mjs). By AI agents, Wed Nov 11 2026. No macro, syntax, notation, axiom, sorry.
-/
import Derived.Test.YtjeijmnhbckjdaaGreatDoorRows
import GoSem.ClaimSeven
namespace Go.Proofs.YtjeijmnhbckjdaaGreatDoor
namespace Rows

/-- THE TIED CARD OF 'substationlaw38.ExactMakes'. -/
def exactMakesCard : Claim7 := { stood := { row := exactMakesRow, standIns := [], harness := (true, "74250e998000ea05cffb7b708203a3a1703b78e5923976d5be014d9589fe0644"), looks := false }, kinds := [], alts := [], laidByText := true, laidKinds := [.data, .data, .data], laidTests := true, laidLooks := .later }
def ExactMakesCardSaid : Prop := Claim7.holds Tryz.pinned (.plain (OpenSpec.ofChange exactMakesSpec)) exactMakesCard

/-- THE TIED CARD OF 'substationlaw38.ExactTurns'. -/
def exactTurnsCard : Claim7 := { stood := { row := exactTurnsRow, standIns := [], harness := (true, "74250e998000ea05cffb7b708203a3a1703b78e5923976d5be014d9589fe0644"), looks := false }, kinds := [], alts := [], laidByText := true, laidKinds := [.data, .data, .data], laidTests := true, laidLooks := .later }
def ExactTurnsCardSaid : Prop := Claim7.holds Tryz.pinned (.plain (OpenSpec.ofChange exactTurnsSpec)) exactTurnsCard

/-- THE TIED CARD OF 'substationlaw38.ExactRounds'. -/
def exactRoundsCard : Claim7 := { stood := { row := exactRoundsRow, standIns := [], harness := (true, "74250e998000ea05cffb7b708203a3a1703b78e5923976d5be014d9589fe0644"), looks := false }, kinds := [], alts := [], laidByText := true, laidKinds := [.data, .data, .data], laidTests := true, laidLooks := .later }
def ExactRoundsCardSaid : Prop := Claim7.holds Tryz.pinned (.plain (OpenSpec.ofChange exactRoundsSpec)) exactRoundsCard

/-- THE TIED CARD OF 'substationlaw38.ExactPhases'. -/
def exactPhasesCard : Claim7 := { stood := { row := exactPhasesRow, standIns := [], harness := (true, "74250e998000ea05cffb7b708203a3a1703b78e5923976d5be014d9589fe0644"), looks := false }, kinds := [], alts := [], laidByText := true, laidKinds := [.data, .data, .data], laidTests := true, laidLooks := .later }
def ExactPhasesCardSaid : Prop := Claim7.holds Tryz.pinned (.plain (OpenSpec.ofChange exactPhasesSpec)) exactPhasesCard

/-- THE TIED CARD OF 'substationlaw38.ExactPhasors'. -/
def exactPhasorsCard : Claim7 := { stood := { row := exactPhasorsRow, standIns := [], harness := (true, "74250e998000ea05cffb7b708203a3a1703b78e5923976d5be014d9589fe0644"), looks := false }, kinds := [], alts := [], laidByText := true, laidKinds := [.data, .data, .data], laidTests := true, laidLooks := .later }
def ExactPhasorsCardSaid : Prop := Claim7.holds Tryz.pinned (.plain (OpenSpec.ofChange exactPhasorsSpec)) exactPhasorsCard

/-- THE TIED CARD OF 'substationlaw38.ExactExamples'. -/
def exactExamplesCard : Claim7 := { stood := { row := exactExamplesRow, standIns := [], harness := (true, "74250e998000ea05cffb7b708203a3a1703b78e5923976d5be014d9589fe0644"), looks := false }, kinds := [], alts := [], laidByText := true, laidKinds := [.data, .data, .data], laidTests := true, laidLooks := .later }
def ExactExamplesCardSaid : Prop := Claim7.holds Tryz.pinned (.plain (OpenSpec.ofChange exactExamplesSpec)) exactExamplesCard

/-- THE TIED CARD OF 'substationlaw38.ExactComputes'. -/
def exactComputesCard : Claim7 := { stood := { row := exactComputesRow, standIns := [], harness := (true, "74250e998000ea05cffb7b708203a3a1703b78e5923976d5be014d9589fe0644"), looks := false }, kinds := [], alts := [], laidByText := true, laidKinds := [.data, .data, .data], laidTests := true, laidLooks := .later }
def ExactComputesCardSaid : Prop := Claim7.holds Tryz.pinned (.plain (OpenSpec.ofChange exactComputesSpec)) exactComputesCard

/-- THE TIED CARD OF 'substationlaw38.ExactField'. -/
def exactFieldCard : Claim7 := { stood := { row := exactFieldRow, standIns := [], harness := (true, "74250e998000ea05cffb7b708203a3a1703b78e5923976d5be014d9589fe0644"), looks := false }, kinds := [], alts := [], laidByText := true, laidKinds := [.data, .data, .data], laidTests := true, laidLooks := .later }
def ExactFieldCardSaid : Prop := Claim7.holds Tryz.pinned (.plain (OpenSpec.ofChange exactFieldSpec)) exactFieldCard

/-- THE SECOND FORM's CARD OF 'substationlaw38.ExactMakes'. -/
def exactMakesUptoCard : Claim7 := { stood := { row := exactMakesUptoRow, standIns := [], harness := (true, "74250e998000ea05cffb7b708203a3a1703b78e5923976d5be014d9589fe0644"), looks := false }, kinds := [], alts := [], laidByText := true, laidKinds := [.data, .data, .data], laidTests := true, laidLooks := .later }
def ExactMakesUptoCardSaid : Prop := Claim7.holds Tryz.pinned (.plain (OpenSpec.upto exactMakesSpec)) exactMakesUptoCard

/-- THE SECOND FORM's CARD OF 'substationlaw38.ExactTurns'. -/
def exactTurnsUptoCard : Claim7 := { stood := { row := exactTurnsUptoRow, standIns := [], harness := (true, "74250e998000ea05cffb7b708203a3a1703b78e5923976d5be014d9589fe0644"), looks := false }, kinds := [], alts := [], laidByText := true, laidKinds := [.data, .data, .data], laidTests := true, laidLooks := .later }
def ExactTurnsUptoCardSaid : Prop := Claim7.holds Tryz.pinned (.plain (OpenSpec.upto exactTurnsSpec)) exactTurnsUptoCard

/-- THE SECOND FORM's CARD OF 'substationlaw38.ExactRounds'. -/
def exactRoundsUptoCard : Claim7 := { stood := { row := exactRoundsUptoRow, standIns := [], harness := (true, "74250e998000ea05cffb7b708203a3a1703b78e5923976d5be014d9589fe0644"), looks := false }, kinds := [], alts := [], laidByText := true, laidKinds := [.data, .data, .data], laidTests := true, laidLooks := .later }
def ExactRoundsUptoCardSaid : Prop := Claim7.holds Tryz.pinned (.plain (OpenSpec.upto exactRoundsSpec)) exactRoundsUptoCard

/-- THE SECOND FORM's CARD OF 'substationlaw38.ExactPhases'. -/
def exactPhasesUptoCard : Claim7 := { stood := { row := exactPhasesUptoRow, standIns := [], harness := (true, "74250e998000ea05cffb7b708203a3a1703b78e5923976d5be014d9589fe0644"), looks := false }, kinds := [], alts := [], laidByText := true, laidKinds := [.data, .data, .data], laidTests := true, laidLooks := .later }
def ExactPhasesUptoCardSaid : Prop := Claim7.holds Tryz.pinned (.plain (OpenSpec.upto exactPhasesSpec)) exactPhasesUptoCard

/-- THE SECOND FORM's CARD OF 'substationlaw38.ExactPhasors'. -/
def exactPhasorsUptoCard : Claim7 := { stood := { row := exactPhasorsUptoRow, standIns := [], harness := (true, "74250e998000ea05cffb7b708203a3a1703b78e5923976d5be014d9589fe0644"), looks := false }, kinds := [], alts := [], laidByText := true, laidKinds := [.data, .data, .data], laidTests := true, laidLooks := .later }
def ExactPhasorsUptoCardSaid : Prop := Claim7.holds Tryz.pinned (.plain (OpenSpec.upto exactPhasorsSpec)) exactPhasorsUptoCard

/-- THE SECOND FORM's CARD OF 'substationlaw38.ExactExamples'. -/
def exactExamplesUptoCard : Claim7 := { stood := { row := exactExamplesUptoRow, standIns := [], harness := (true, "74250e998000ea05cffb7b708203a3a1703b78e5923976d5be014d9589fe0644"), looks := false }, kinds := [], alts := [], laidByText := true, laidKinds := [.data, .data, .data], laidTests := true, laidLooks := .later }
def ExactExamplesUptoCardSaid : Prop := Claim7.holds Tryz.pinned (.plain (OpenSpec.upto exactExamplesSpec)) exactExamplesUptoCard

/-- THE SECOND FORM's CARD OF 'substationlaw38.ExactComputes'. -/
def exactComputesUptoCard : Claim7 := { stood := { row := exactComputesUptoRow, standIns := [], harness := (true, "74250e998000ea05cffb7b708203a3a1703b78e5923976d5be014d9589fe0644"), looks := false }, kinds := [], alts := [], laidByText := true, laidKinds := [.data, .data, .data], laidTests := true, laidLooks := .later }
def ExactComputesUptoCardSaid : Prop := Claim7.holds Tryz.pinned (.plain (OpenSpec.upto exactComputesSpec)) exactComputesUptoCard

/-- THE SECOND FORM's CARD OF 'substationlaw38.ExactField'. -/
def exactFieldUptoCard : Claim7 := { stood := { row := exactFieldUptoRow, standIns := [], harness := (true, "74250e998000ea05cffb7b708203a3a1703b78e5923976d5be014d9589fe0644"), looks := false }, kinds := [], alts := [], laidByText := true, laidKinds := [.data, .data, .data], laidTests := true, laidLooks := .later }
def ExactFieldUptoCardSaid : Prop := Claim7.holds Tryz.pinned (.plain (OpenSpec.upto exactFieldSpec)) exactFieldUptoCard
end Rows
end Go.Proofs.YtjeijmnhbckjdaaGreatDoor
