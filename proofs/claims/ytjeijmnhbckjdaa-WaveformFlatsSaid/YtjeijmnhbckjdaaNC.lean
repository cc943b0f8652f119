/- Words and contracts that the laws share, several texts in one. -/
import Derived.Test.YtjeijmnhbckjdaaNB
/- Contracts of the calculator: products. -/
namespace Go.Proofs.Ytjeijmnhbckjdaa
open Go.RowKit
set_option linter.unusedVariables false
end Go.Proofs.Ytjeijmnhbckjdaa

/- Contracts of the calculator: quotients, the walk. -/
namespace Go.Proofs.Ytjeijmnhbckjdaa
open Go.RowKit
set_option linter.unusedVariables false
end Go.Proofs.Ytjeijmnhbckjdaa
