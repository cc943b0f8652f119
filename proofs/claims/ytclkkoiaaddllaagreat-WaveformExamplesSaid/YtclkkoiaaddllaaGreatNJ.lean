/- Words and contracts that the laws share, several texts in one. -/
import Derived.Test.YtclkkoiaaddllaaGreatNE
import Derived.Test.YtclkkoiaaddllaaGreatND
import Derived.Test.YtclkkoiaaddllaaGreatNB
/- The sign of a + b sqrt 3. -/
namespace Go.Proofs.YtclkkoiaaddllaaGreat
open Go.RowKit
set_option linter.unusedVariables false

theorem Compare_at (v u : Value) (x y k : Int) (w : World) (hX : RI w v x) (hY : RI w u y) (ax : x.natAbs < lim) (ay : y.natAbs < lim) (h : cmpZ x y = k) :
    Calls Tryz.prog 118 #[v, u] w fun e w' => e = .returned (.int .i64 k) ∧ Ext w w' := by
  have := Compare_ok v u x y w hX hY ax ay
  rwa [h] at this
theorem rCompare_at (v u : Value) (x y k : Int) (w : World) (hX : RI w v x) (hY : RI w u y) (ax : x.natAbs < lim) (ay : y.natAbs < lim) (h : cmpZ x y = k) :
    Calls Tryz.prog 69 #[v, u] w fun e w' => e = .returned (.int .i64 k) ∧ Ext w w' := by
  have := rCompare_ok v u x y w hX hY ax ay
  rwa [h] at this
end Go.Proofs.YtclkkoiaaddllaaGreat

/- The sign of a + b sqrt 3: the contract. -/
namespace Go.Proofs.YtclkkoiaaddllaaGreat
open Go.RowKit
set_option linter.unusedVariables false

theorem sg_n {x : Int} (h : x < 0) : sg x = -1 := by simp [sg, h]
theorem sg_z {x : Int} (h : x = 0) : sg x = 0 := by subst h; rfl
theorem sg_p {x : Int} (h : 0 < x) : sg x = 1 := by unfold sg; rw [if_neg (by omega), if_pos h]
theorem sgn3_of {x y a b : Int} (ha : sg x = a) (hb : sg y = b) : sgn3 x y = if 0 ≤ a * b then max (-1) (min 1 (a + b)) else cm (x * x) (3 * (y * y)) * a := by unfold sgn3; rw [ha, hb]
end Go.Proofs.YtclkkoiaaddllaaGreat
