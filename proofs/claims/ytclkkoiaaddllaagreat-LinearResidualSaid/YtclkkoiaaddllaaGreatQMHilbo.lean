/- Words and contracts that the laws share, several texts in one. -/
import Derived.Test.YtclkkoiaaddllaaGreatQMGldam
import Derived.Deep.LoopGhost
/- Square roots: plain laws, and the contract of rootMag. -/
namespace Go.Proofs.YtclkkoiaaddllaaGreat
open Go.RowKit
set_option linter.unusedVariables false

end Go.Proofs.YtclkkoiaaddllaaGreat

/- Contracts: square roots of integers. -/
namespace Go.Proofs.YtclkkoiaaddllaaGreat
open Go.RowKit
set_option linter.unusedVariables false

end Go.Proofs.YtclkkoiaaddllaaGreat
