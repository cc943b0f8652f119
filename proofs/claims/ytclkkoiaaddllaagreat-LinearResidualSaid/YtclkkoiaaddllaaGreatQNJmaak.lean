/- Words and contracts that the laws share, several texts in one. -/
import Derived.Test.YtclkkoiaaddllaaGreatQNEkihd
import Derived.Test.YtclkkoiaaddllaaGreatQNDeooe
import Derived.Test.YtclkkoiaaddllaaGreatQNBkdgd
/- The sign of a + b sqrt 3. -/
namespace Go.Proofs.YtclkkoiaaddllaaGreat
open Go.RowKit
set_option linter.unusedVariables false

theorem rCompare_at (v u : Value) (x y k : Int) (w : World) (hX : RI w v x) (hY : RI w u y) (ax : x.natAbs < lim) (ay : y.natAbs < lim) (h : cmpZ x y = k) :
    Calls Tryz.prog 69 #[v, u] w fun e w' => e = .returned (.int .i64 k) ∧ Ext w w' := by
  have := rCompare_ok v u x y w hX hY ax ay
  rwa [h] at this
end Go.Proofs.YtclkkoiaaddllaaGreat

/- The sign of a + b sqrt 3: the contract. -/
namespace Go.Proofs.YtclkkoiaaddllaaGreat
open Go.RowKit
set_option linter.unusedVariables false

end Go.Proofs.YtclkkoiaaddllaaGreat
