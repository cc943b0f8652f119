/- The samples of a phasor: Channel for valid phasors. -/
import Derived.Test.YtclkkoiaaddllaaGreatGh
import Derived.Test.YtclkkoiaaddllaaGreatGd
import Derived.Test.YtclkkoiaaddllaaGreatQc
namespace Go.Proofs.YtclkkoiaaddllaaGreat
open Go.RowKit
set_option linter.unusedVariables false

/-- A sample: rounded, and within the limit. -/
def lm (L x : Int) : Int := min (max (clamp x) (-L)) L
/-- The samples up to the k-th; zeros behind. -/
def smp (L : Int) (f : Nat → Int) (k : Nat) : List Value := (List.range 12).map fun j => .int .i64 (if j < k then lm L (f j) else 0)
theorem smp_len (L : Int) (f : Nat → Int) (k : Nat) : (smp L f k).length = 12 := by simp [smp]
theorem smp_zero (L : Int) (f : Nat → Int) : smp L f 0 = List.replicate 12 (.int .i64 0) := by simp [smp]; rfl
theorem smp_set {L : Int} {f : Nat → Int} {k : Nat} (hk : k < 12) : (smp L f k).set k (.int .i64 (lm L (f k))) = smp L f (k + 1) := by
  apply List.ext_getElem?
  intro j
  rw [List.getElem?_set]
  unfold smp
  rw [List.getElem?_map, List.getElem?_map]
  by_cases hj : j < 12
  · rw [List.getElem?_range hj]
    by_cases e : k = j
    · subst e; simp [hj]
    · rw [if_neg e]
      simp
      by_cases h1 : j < k
      · simp [h1, show j < k + 1 by omega]
      · simp [h1, show ¬ j < k + 1 by omega]
  · rw [List.getElem?_eq_none (by simpa using hj)]
    have : k ≠ j := by omega
    simp [this]
theorem lm_cast {L n : Int} : min (max (clamp n) (-L)) L = lm L n := rfl
/-- A phasor that is 0 is rounded to 0. -/
theorem Rd.zero {p : PQ} {r : Int} (hr : 0 < r) (hu : p.u = GQ.i 0 0) (hv : p.v = GQ.i 0 0) : Rd p r 0 := by
  refine Rd.of (p := p) (by rw [hu]; exact is_i 0 0) (by rw [hv]; exact is_i 0 0) (Rd.at_ (by omega) ?_ ?_)
  · unfold RZ; simp [Le3]; omega
  · unfold RZ Le3; simp; have := sq_pos' (x := r) (by omega); constructor <;> first | omega | (simp; omega)
end Go.Proofs.YtclkkoiaaddllaaGreat
