/- Numbers that are not valid: the program says so. -/
import Derived.Test.YtjeijmnhbckjdaaGreatDoorQGcmmam
import Derived.Test.YtjeijmnhbckjdaaGreatDoorQNGpnem
namespace Go.Proofs.YtjeijmnhbckjdaaGreatDoor
open Go.RowKit
set_option linter.unusedVariables false

end Go.Proofs.YtjeijmnhbckjdaaGreatDoor
