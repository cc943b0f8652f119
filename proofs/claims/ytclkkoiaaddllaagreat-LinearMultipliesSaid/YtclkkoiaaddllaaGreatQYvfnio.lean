/- Linear: the fixed cases, each call by itself. -/
import Derived.Test.YtclkkoiaaddllaaGreatQYtjdjj
import Derived.Test.YtclkkoiaaddllaaGreatQYuhaef
namespace Go.Proofs.YtclkkoiaaddllaaGreat
open Go.RowKit
set_option linter.unusedVariables false

theorem mem0 (w : World) (A : Option Addr) : Mem w A 0 0 0 (fun _ => nilRw) (fun _ _ => zEn) := ⟨fun h => absurd h (by omega), fun i hi => absurd hi (by omega), fun i hi => absurd hi (by omega), fun i j hi => absurd hi (by omega), by omega, fun i hi => absurd hi (by omega)⟩
end Go.Proofs.YtclkkoiaaddllaaGreat
