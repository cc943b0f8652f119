/- Words and contracts that the laws share, several texts in one. -/
import Derived.Test.YtclkkoiaaddllaaGreatQNBkdgd
import Derived.Test.YtclkkoiaaddllaaGreatQMHilbo
import Derived.Test.YtclkkoiaaddllaaGreatQNDeooe
import Derived.Test.YtclkkoiaaddllaaGreatQNGpcea
/- Rounding down a multiple of the root of 3. -/
namespace Go.Proofs.YtclkkoiaaddllaaGreat
open Go.RowKit
set_option linter.unusedVariables false

theorem RI.lenne {w : World} {s : Bool} {A : Option Addr} {n c : Nat} {z : Int} (h : RI w (iv s A n c) z) (hz : z ≠ 0) : ((n : Int) == 0) = false := by
  obtain ⟨A', n', c', e, h'⟩ := h
  simp [iv] at e
  obtain ⟨_, _, rfl, _⟩ := e
  have := (digs_some h'.len).2 (by omega)
  simp
  omega
theorem RI.len0 {w : World} {s : Bool} {A : Option Addr} {n c : Nat} {z : Int} (h : RI w (iv s A n c) z) (hz : z = 0) : ((n : Int) == 0) = true := by
  obtain ⟨A', n', c', e, h'⟩ := h
  simp [iv] at e
  obtain ⟨_, _, rfl, _⟩ := e
  have := (digs_some h'.len)
  simp
  omega
end Go.Proofs.YtclkkoiaaddllaaGreat

/- Rounding: bounds. -/
namespace Go.Proofs.YtclkkoiaaddllaaGreat
open Go.RowKit
set_option linter.unusedVariables false

end Go.Proofs.YtclkkoiaaddllaaGreat

/- Rounding: the walk. -/
namespace Go.Proofs.YtclkkoiaaddllaaGreat
open Go.RowKit
set_option linter.unusedVariables false

end Go.Proofs.YtclkkoiaaddllaaGreat

/- Rounding: what it says. -/
namespace Go.Proofs.YtclkkoiaaddllaaGreat
open Go.RowKit
set_option linter.unusedVariables false

/-- n is reached: n ≤ r / ratio + 1/2. -/
def RZ (a d b e r n : Int) : Prop := Le3 ((2 * n - 1) * r * (d * e) - 2 * (a * e)) (2 * (b * d))
end Go.Proofs.YtclkkoiaaddllaaGreat

/- Rounding: the contract of Round. -/
namespace Go.Proofs.YtclkkoiaaddllaaGreat
open Go.RowKit
set_option linter.unusedVariables false

end Go.Proofs.YtclkkoiaaddllaaGreat
