/- Rounding with the root of 3: more plain laws (negatives, a whole ratio more). -/
import Derived.Test.YtclkkoiaaddllaaGreatNI
namespace Go.Proofs.YtclkkoiaaddllaaGreat
set_option linter.unusedVariables false

theorem le3_or (k y : Int) : Le3 k y ∨ Le3 (-k) (-y) := by
  unfold Le3
  have e1 : -k * -k = k * k := by grind
  have e2 : -y * -y = y * y := by grind
  rw [e1, e2]
  generalize hK : k * k = K at *
  generalize hY : 3 * (y * y) = Y at *
  have h0 : y = 0 → Y = 0 := by intro h; subst h; simpa using hY.symm
  have h1 : 0 ≤ K := by rw [← hK]; exact sq_nonneg' k
  have h2 : 0 ≤ Y := by have := sq_nonneg' y; omega
  by_cases p1 : 0 ≤ y <;> by_cases p2 : 0 ≤ -y <;> simp only [p1, p2, if_true, if_false] <;> omega
theorem le3_anti {k k' y : Int} (h1 : Le3 k y) (h2 : Le3 (-k') (-y)) : k ≤ k' := by
  rcases Int.lt_or_le k' k with hlt | hle
  · exfalso
    unfold Le3 at h1 h2
    have e1 : -k' * -k' = k' * k' := by grind
    have e2 : -y * -y = y * y := by grind
    rw [e1, e2] at h2
    have hy : y = 0 ∨ k * k ≠ 3 * (y * y) := by
      by_cases h : y = 0
      · exact .inl h
      · exact .inr (ne_root3 h)
    have hy' : y = 0 ∨ k' * k' ≠ 3 * (y * y) := by
      by_cases h : y = 0
      · exact .inl h
      · exact .inr (ne_root3 h)
    have s1 : 0 ≤ k' → k' * k' < k * k := fun h => sq_lt h hlt
    have s2 : k ≤ 0 → k * k < k' * k' := by
      intro h
      have := sq_lt (a := -k) (b := -k') (by omega) (by omega)
      grind
    have z1 : y = 0 → 3 * (y * y) = 0 := by intro h; subst h; rfl
    have z2 : k ≠ 0 → 0 < k * k := sq_pos'
    have z3 : k' ≠ 0 → 0 < k' * k' := sq_pos'
    generalize k * k = K at *
    generalize k' * k' = K' at *
    generalize 3 * (y * y) = Y at *
    by_cases p1 : 0 ≤ y <;> by_cases p2 : 0 ≤ -y <;> simp only [p1, p2, if_true, if_false] at h1 h2 <;> omega
  · exact hle
theorem rz_scale {a d b e r n a1 d1 e1 b1 g h : Int} (hg : 0 < g) (hh : 0 < h) (e0 : g * ((2 * n - 1) * r * (d * e) - 2 * (a * e)) = h * ((2 * n - 1) * r * (d1 * e1) - 2 * (a1 * e1))) (e2 : g * (2 * (b * d)) = h * (2 * (b1 * d1))) : RZ a d b e r n ↔ RZ a1 d1 b1 e1 r n := by
  unfold RZ
  rw [← le3_scale hg, ← le3_scale (k := (2 * n - 1) * r * (d1 * e1) - 2 * (a1 * e1)) hh, e0, e2]
/-- A whole ratio more: one more. -/
theorem rz_more {a d b e r n a1 d1 : Int} (hd : 0 < d) (hd1 : 0 < d1) (h : a1 * d = (a + r * d) * d1) : RZ a1 d1 b e r n ↔ RZ a d b e r (n - 1) := by
  unfold RZ
  rw [← le3_scale hd, ← le3_scale (k := (2 * (n - 1) - 1) * r * (d * e) - 2 * (a * e)) hd1]
  have e1 : d * ((2 * n - 1) * r * (d1 * e) - 2 * (a1 * e)) = d1 * ((2 * (n - 1) - 1) * r * (d * e) - 2 * (a * e)) := by
    have : d * ((2 * n - 1) * r * (d1 * e) - 2 * (a1 * e)) = (2 * n - 1) * r * (d1 * e) * d - 2 * e * (a1 * d) := by grind
    rw [this, h]
    grind
  have e2 : d * (2 * (b * d1)) = d1 * (2 * (b * d)) := by grind
  rw [e1, e2]
theorem top_more {p p' : Int → Prop} {N N' : Int} (h : ∀ k, p k ↔ k ≤ N) (h' : ∀ k, p' k ↔ k ≤ N') (hp : ∀ k, p' k ↔ p (k - 1)) : N' = N + 1 := by
  have a := (h' N').2 (Int.le_refl _)
  rw [hp, h] at a
  have b := (h' (N + 1)).1 (by rw [hp, h]; omega)
  omega
/-- The negative: the two add up to 0 or 1. -/
theorem rz_neg {a d b e r N N' : Int} (hd : 0 < d) (he : 0 < e) (hr : 0 < r) (h : ∀ k, RZ a d b e r k ↔ k ≤ N) (h' : ∀ k, RZ (-a) d (-b) e r k ↔ k ≤ N') : N + N' = 0 ∨ N + N' = 1 := by
  have hX : ∀ n : Int, RZ (-a) d (-b) e r n ↔ Le3 (-((2 * (1 - n) - 1) * r * (d * e) - 2 * (a * e))) (-(2 * (b * d))) := by
    intro n
    unfold RZ
    have e1 : (2 * n - 1) * r * (d * e) - 2 * (-a * e) = -((2 * (1 - n) - 1) * r * (d * e) - 2 * (a * e)) := by grind
    have e2 : 2 * (-b * d) = -(2 * (b * d)) := by grind
    rw [e1, e2]
  have hpos : 0 < r * (d * e) := Int.mul_pos hr (Int.mul_pos hd he)
  have l1 : -N ≤ N' := by
    rw [← h', hX]
    rcases le3_or ((2 * (1 - -N) - 1) * r * (d * e) - 2 * (a * e)) (2 * (b * d)) with h1 | h1
    · have := (h (1 - -N)).1 h1
      omega
    · exact h1
  have l2 : N' ≤ 1 - N := by
    have h1 := (h N).2 (Int.le_refl _)
    have h2 := (h' N').2 (Int.le_refl _)
    rw [hX] at h2
    unfold RZ at h1
    have h3 := le3_anti h1 h2
    have h4 : (2 * N - 1) * (r * (d * e)) ≤ (2 * (1 - N') - 1) * (r * (d * e)) := by
      have e1 : (2 * N - 1) * (r * (d * e)) = (2 * N - 1) * r * (d * e) := by grind
      have e2 : (2 * (1 - N') - 1) * (r * (d * e)) = (2 * (1 - N') - 1) * r * (d * e) := by grind
      omega
    have := Int.le_of_mul_le_mul_right h4 hpos
    omega
  omega
end Go.Proofs.YtclkkoiaaddllaaGreat
