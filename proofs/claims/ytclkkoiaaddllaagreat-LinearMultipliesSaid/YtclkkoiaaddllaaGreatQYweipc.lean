/- Linear: the fixed cases that are refused, and the product without columns. -/
import Derived.Test.YtclkkoiaaddllaaGreatQYvfnio
namespace Go.Proofs.YtclkkoiaaddllaaGreat
open Go.RowKit
set_option linter.unusedVariables false

end Go.Proofs.YtclkkoiaaddllaaGreat
