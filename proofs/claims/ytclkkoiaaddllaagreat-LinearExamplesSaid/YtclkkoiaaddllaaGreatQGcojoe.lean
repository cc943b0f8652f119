/- Rows of numbers, whatever they hold: valid, low. -/
import Derived.Test.YtclkkoiaaddllaaGreatQGaekbj
import Derived.Test.YtclkkoiaaddllaaGreatQNGfpjc
namespace Go.Proofs.YtclkkoiaaddllaaGreat
open Go.RowKit
set_option linter.unusedVariables false

end Go.Proofs.YtclkkoiaaddllaaGreat
