/- Linear: refused arguments; the product of matrices without columns. -/
import Derived.Test.YtclkkoiaaddllaaGreatQYridgc
namespace Go.Proofs.YtclkkoiaaddllaaGreat
open Go.RowKit
set_option linter.unusedVariables false

section
variable {A A2 : Option Addr} {B O B2 O2 m m2 c c2 : Nat} {R R2 : Nat → Rw} {E E2 : Nat → Nat → En} {w : World} {vb vb2 : Nat → Nat → Bool}
end
end Go.Proofs.YtclkkoiaaddllaaGreat
