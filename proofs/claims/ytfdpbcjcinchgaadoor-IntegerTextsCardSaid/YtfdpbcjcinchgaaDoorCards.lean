/-
  DERIVED. GIVEN WITH THE SEED: THE CARDS: each row of YtfdpbcjcinchgaaDoorRows.lean that lists a variable, with what it lists TIED to the program's text (the seventh form; the later family's looks); each row that meets fmt, with fmt's text TOLD by the authors' own Lean function (tested against real Go, not proved from fmt's source: count such statements apart). THE CARD IS WHAT COUNTS. Prove the row's statement (the work); the ties are given (YtfdpbcjcinchgaaDoorTie.lean); close each card by the builder's one call (the guide's Derived/Test/ToyasCard.lean, 'card_holds'). Laid BY PROGRAM, IN A SANDBOX (cutbox-door.mjs). By AI agents, Wed Nov 11 2026. No macro, syntax, notation, axiom, sorry.
-/
import Derived.Test.YtfdpbcjcinchgaaDoorRows
import GoSem.ClaimSeven
namespace Go.Proofs.YtfdpbcjcinchgaaDoor
namespace Rows

/-- THE TIED CARD OF 'substationlaw01.IntegerValid'. -/
def integerValidCard : Claim7 := { stood := { row := integerValidRow, standIns := [], harness := (true, "a13a8394b3c8a532f2cadfbd12bb6851392457b275959896a3b594576ee02bf4"), looks := false }, kinds := [], alts := [], laidByText := true, laidKinds := [.data, .data, .data], laidTests := true, laidLooks := .later }
def IntegerValidCardSaid : Prop := Claim7.holds Tryd.pinned (.plain (OpenSpec.ofChange integerValidSpec)) integerValidCard

/-- THE TIED CARD OF 'substationlaw01.IntegerLimits'. -/
def integerLimitsCard : Claim7 := { stood := { row := integerLimitsRow, standIns := [], harness := (true, "a13a8394b3c8a532f2cadfbd12bb6851392457b275959896a3b594576ee02bf4"), looks := false }, kinds := [], alts := [], laidByText := true, laidKinds := [.data, .data, .data], laidTests := true, laidLooks := .later }
def IntegerLimitsCardSaid : Prop := Claim7.holds Tryd.pinned (.plain (OpenSpec.ofChange integerLimitsSpec)) integerLimitsCard

/-- THE TIED CARD OF 'substationlaw01.IntegerArithmetic'. -/
def integerArithmeticCard : Claim7 := { stood := { row := integerArithmeticRow, standIns := [], harness := (true, "a13a8394b3c8a532f2cadfbd12bb6851392457b275959896a3b594576ee02bf4"), looks := false }, kinds := [], alts := [], laidByText := true, laidKinds := [.data, .data, .data], laidTests := true, laidLooks := .later }
def IntegerArithmeticCardSaid : Prop := Claim7.holds Tryd.pinned (.plain (OpenSpec.ofChange integerArithmeticSpec)) integerArithmeticCard

/-- THE TIED CARD OF 'substationlaw01.IntegerSmall'. -/
def integerSmallCard : Claim7 := { stood := { row := integerSmallRow, standIns := [], harness := (true, "a13a8394b3c8a532f2cadfbd12bb6851392457b275959896a3b594576ee02bf4"), looks := false }, kinds := [], alts := [], laidByText := true, laidKinds := [.data, .data, .data], laidTests := true, laidLooks := .later }
def IntegerSmallCardSaid : Prop := Claim7.holds Tryd.pinned (.plain (OpenSpec.ofChange integerSmallSpec)) integerSmallCard

/-- THE TIED CARD OF 'substationlaw01.IntegerDivision'. -/
def integerDivisionCard : Claim7 := { stood := { row := integerDivisionRow, standIns := [], harness := (true, "a13a8394b3c8a532f2cadfbd12bb6851392457b275959896a3b594576ee02bf4"), looks := false }, kinds := [], alts := [], laidByText := true, laidKinds := [.data, .data, .data], laidTests := true, laidLooks := .later }
def IntegerDivisionCardSaid : Prop := Claim7.holds Tryd.pinned (.plain (OpenSpec.ofChange integerDivisionSpec)) integerDivisionCard

/-- THE TIED CARD OF 'substationlaw01.IntegerTexts'. -/
def integerTextsCard : Claim7 := { stood := { row := integerTextsRow, standIns := [], harness := (true, "a13a8394b3c8a532f2cadfbd12bb6851392457b275959896a3b594576ee02bf4"), looks := false }, kinds := [], alts := [], laidByText := true, laidKinds := [.data, .data, .data], laidTests := true, laidLooks := .later }
def IntegerTextsCardSaid : Prop := Claim7.holds Tryd.pinned (.plain (OpenSpec.ofChange integerTextsSpec)) integerTextsCard

/-- THE TIED CARD OF 'substationlaw01.IntegerSquares'. -/
def integerSquaresCard : Claim7 := { stood := { row := integerSquaresRow, standIns := [], harness := (true, "a13a8394b3c8a532f2cadfbd12bb6851392457b275959896a3b594576ee02bf4"), looks := false }, kinds := [], alts := [], laidByText := true, laidKinds := [.data, .data, .data], laidTests := true, laidLooks := .later }
def IntegerSquaresCardSaid : Prop := Claim7.holds Tryd.pinned (.plain (OpenSpec.ofChange integerSquaresSpec)) integerSquaresCard

/-- THE TIED CARD OF 'substationlaw01.IntegerRing'. -/
def integerRingCard : Claim7 := { stood := { row := integerRingRow, standIns := [], harness := (true, "a13a8394b3c8a532f2cadfbd12bb6851392457b275959896a3b594576ee02bf4"), looks := false }, kinds := [], alts := [], laidByText := true, laidKinds := [.data, .data, .data], laidTests := true, laidLooks := .later }
def IntegerRingCardSaid : Prop := Claim7.holds Tryd.pinned (.plain (OpenSpec.ofChange integerRingSpec)) integerRingCard

/-- THE TIED CARD OF 'substationlaw01.IntegerRoots'. -/
def integerRootsCard : Claim7 := { stood := { row := integerRootsRow, standIns := [], harness := (true, "a13a8394b3c8a532f2cadfbd12bb6851392457b275959896a3b594576ee02bf4"), looks := false }, kinds := [], alts := [], laidByText := true, laidKinds := [.data, .data, .data], laidTests := true, laidLooks := .later }
def IntegerRootsCardSaid : Prop := Claim7.holds Tryd.pinned (.plain (OpenSpec.ofChange integerRootsSpec)) integerRootsCard

/-- THE TIED CARD OF 'substationlaw01.IntegerEuclid'. -/
def integerEuclidCard : Claim7 := { stood := { row := integerEuclidRow, standIns := [], harness := (true, "a13a8394b3c8a532f2cadfbd12bb6851392457b275959896a3b594576ee02bf4"), looks := false }, kinds := [], alts := [], laidByText := true, laidKinds := [.data, .data, .data], laidTests := true, laidLooks := .later }
def IntegerEuclidCardSaid : Prop := Claim7.holds Tryd.pinned (.plain (OpenSpec.ofChange integerEuclidSpec)) integerEuclidCard

/-- THE SECOND FORM's CARD OF 'substationlaw01.IntegerValid'. -/
def integerValidUptoCard : Claim7 := { stood := { row := integerValidUptoRow, standIns := [], harness := (true, "a13a8394b3c8a532f2cadfbd12bb6851392457b275959896a3b594576ee02bf4"), looks := false }, kinds := [], alts := [], laidByText := true, laidKinds := [.data, .data, .data], laidTests := true, laidLooks := .later }
def IntegerValidUptoCardSaid : Prop := Claim7.holds Tryd.pinned (.plain (OpenSpec.upto integerValidSpec)) integerValidUptoCard

/-- THE SECOND FORM's CARD OF 'substationlaw01.IntegerLimits'. -/
def integerLimitsUptoCard : Claim7 := { stood := { row := integerLimitsUptoRow, standIns := [], harness := (true, "a13a8394b3c8a532f2cadfbd12bb6851392457b275959896a3b594576ee02bf4"), looks := false }, kinds := [], alts := [], laidByText := true, laidKinds := [.data, .data, .data], laidTests := true, laidLooks := .later }
def IntegerLimitsUptoCardSaid : Prop := Claim7.holds Tryd.pinned (.plain (OpenSpec.upto integerLimitsSpec)) integerLimitsUptoCard

/-- THE SECOND FORM's CARD OF 'substationlaw01.IntegerArithmetic'. -/
def integerArithmeticUptoCard : Claim7 := { stood := { row := integerArithmeticUptoRow, standIns := [], harness := (true, "a13a8394b3c8a532f2cadfbd12bb6851392457b275959896a3b594576ee02bf4"), looks := false }, kinds := [], alts := [], laidByText := true, laidKinds := [.data, .data, .data], laidTests := true, laidLooks := .later }
def IntegerArithmeticUptoCardSaid : Prop := Claim7.holds Tryd.pinned (.plain (OpenSpec.upto integerArithmeticSpec)) integerArithmeticUptoCard

/-- THE SECOND FORM's CARD OF 'substationlaw01.IntegerSmall'. -/
def integerSmallUptoCard : Claim7 := { stood := { row := integerSmallUptoRow, standIns := [], harness := (true, "a13a8394b3c8a532f2cadfbd12bb6851392457b275959896a3b594576ee02bf4"), looks := false }, kinds := [], alts := [], laidByText := true, laidKinds := [.data, .data, .data], laidTests := true, laidLooks := .later }
def IntegerSmallUptoCardSaid : Prop := Claim7.holds Tryd.pinned (.plain (OpenSpec.upto integerSmallSpec)) integerSmallUptoCard

/-- THE SECOND FORM's CARD OF 'substationlaw01.IntegerDivision'. -/
def integerDivisionUptoCard : Claim7 := { stood := { row := integerDivisionUptoRow, standIns := [], harness := (true, "a13a8394b3c8a532f2cadfbd12bb6851392457b275959896a3b594576ee02bf4"), looks := false }, kinds := [], alts := [], laidByText := true, laidKinds := [.data, .data, .data], laidTests := true, laidLooks := .later }
def IntegerDivisionUptoCardSaid : Prop := Claim7.holds Tryd.pinned (.plain (OpenSpec.upto integerDivisionSpec)) integerDivisionUptoCard

/-- THE SECOND FORM's CARD OF 'substationlaw01.IntegerTexts'. -/
def integerTextsUptoCard : Claim7 := { stood := { row := integerTextsUptoRow, standIns := [], harness := (true, "a13a8394b3c8a532f2cadfbd12bb6851392457b275959896a3b594576ee02bf4"), looks := false }, kinds := [], alts := [], laidByText := true, laidKinds := [.data, .data, .data], laidTests := true, laidLooks := .later }
def IntegerTextsUptoCardSaid : Prop := Claim7.holds Tryd.pinned (.plain (OpenSpec.upto integerTextsSpec)) integerTextsUptoCard

/-- THE SECOND FORM's CARD OF 'substationlaw01.IntegerSquares'. -/
def integerSquaresUptoCard : Claim7 := { stood := { row := integerSquaresUptoRow, standIns := [], harness := (true, "a13a8394b3c8a532f2cadfbd12bb6851392457b275959896a3b594576ee02bf4"), looks := false }, kinds := [], alts := [], laidByText := true, laidKinds := [.data, .data, .data], laidTests := true, laidLooks := .later }
def IntegerSquaresUptoCardSaid : Prop := Claim7.holds Tryd.pinned (.plain (OpenSpec.upto integerSquaresSpec)) integerSquaresUptoCard

/-- THE SECOND FORM's CARD OF 'substationlaw01.IntegerRing'. -/
def integerRingUptoCard : Claim7 := { stood := { row := integerRingUptoRow, standIns := [], harness := (true, "a13a8394b3c8a532f2cadfbd12bb6851392457b275959896a3b594576ee02bf4"), looks := false }, kinds := [], alts := [], laidByText := true, laidKinds := [.data, .data, .data], laidTests := true, laidLooks := .later }
def IntegerRingUptoCardSaid : Prop := Claim7.holds Tryd.pinned (.plain (OpenSpec.upto integerRingSpec)) integerRingUptoCard

/-- THE SECOND FORM's CARD OF 'substationlaw01.IntegerRoots'. -/
def integerRootsUptoCard : Claim7 := { stood := { row := integerRootsUptoRow, standIns := [], harness := (true, "a13a8394b3c8a532f2cadfbd12bb6851392457b275959896a3b594576ee02bf4"), looks := false }, kinds := [], alts := [], laidByText := true, laidKinds := [.data, .data, .data], laidTests := true, laidLooks := .later }
def IntegerRootsUptoCardSaid : Prop := Claim7.holds Tryd.pinned (.plain (OpenSpec.upto integerRootsSpec)) integerRootsUptoCard

/-- THE SECOND FORM's CARD OF 'substationlaw01.IntegerEuclid'. -/
def integerEuclidUptoCard : Claim7 := { stood := { row := integerEuclidUptoRow, standIns := [], harness := (true, "a13a8394b3c8a532f2cadfbd12bb6851392457b275959896a3b594576ee02bf4"), looks := false }, kinds := [], alts := [], laidByText := true, laidKinds := [.data, .data, .data], laidTests := true, laidLooks := .later }
def IntegerEuclidUptoCardSaid : Prop := Claim7.holds Tryd.pinned (.plain (OpenSpec.upto integerEuclidSpec)) integerEuclidUptoCard
end Rows
end Go.Proofs.YtfdpbcjcinchgaaDoor
