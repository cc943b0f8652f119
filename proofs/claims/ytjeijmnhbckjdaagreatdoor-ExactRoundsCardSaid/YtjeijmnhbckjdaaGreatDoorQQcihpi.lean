/- Rounding with the root of 3: more plain laws (negatives, a whole ratio more). -/
import Derived.Test.YtjeijmnhbckjdaaGreatDoorQNIpkdb
namespace Go.Proofs.YtjeijmnhbckjdaaGreatDoor
set_option linter.unusedVariables false

/-- A whole ratio more: one more. -/
theorem rz_more {a d b e r n a1 d1 : Int} (hd : 0 < d) (hd1 : 0 < d1) (h : a1 * d = (a + r * d) * d1) : RZ a1 d1 b e r n ↔ RZ a d b e r (n - 1) := by
  unfold RZ
  rw [← le3_scale hd, ← le3_scale (k := (2 * (n - 1) - 1) * r * (d * e) - 2 * (a * e)) hd1]
  have e1 : d * ((2 * n - 1) * r * (d1 * e) - 2 * (a1 * e)) = d1 * ((2 * (n - 1) - 1) * r * (d * e) - 2 * (a * e)) := by
    have : d * ((2 * n - 1) * r * (d1 * e) - 2 * (a1 * e)) = (2 * n - 1) * r * (d1 * e) * d - 2 * e * (a1 * d) := by grind
    rw [this, h]
    grind
  have e2 : d * (2 * (b * d1)) = d1 * (2 * (b * d)) := by grind
  rw [e1, e2]
end Go.Proofs.YtjeijmnhbckjdaaGreatDoor
