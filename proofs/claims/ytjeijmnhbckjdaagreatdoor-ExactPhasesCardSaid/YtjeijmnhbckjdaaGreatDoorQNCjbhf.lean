/- Words and contracts that the laws share, several texts in one. -/
import Derived.Test.YtjeijmnhbckjdaaGreatDoorQNBlpfp
/- Contracts of the calculator: products. -/
namespace Go.Proofs.YtjeijmnhbckjdaaGreatDoor
open Go.RowKit
set_option linter.unusedVariables false

end Go.Proofs.YtjeijmnhbckjdaaGreatDoor

/- Contracts of the calculator: quotients, the walk. -/
namespace Go.Proofs.YtjeijmnhbckjdaaGreatDoor
open Go.RowKit
set_option linter.unusedVariables false

end Go.Proofs.YtjeijmnhbckjdaaGreatDoor
