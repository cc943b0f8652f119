/- Bounds of small integers; plain laws of Euclidean division and greatest common divisors. -/
import Derived.Test.YtfdpbcjcinchgaaDoorLb
namespace Go.Proofs.YtfdpbcjcinchgaaDoor
open Go.RowKit
set_option linter.unusedVariables false

/-- Integers of at most k digits. -/
def Fits (k : Nat) (z : Int) : Prop := z.natAbs < 4294967296 ^ k
theorem Fits.lim {k : Nat} {z : Int} (h : Fits k z) (hk : k ≤ 400) : z.natAbs < lim := lt_lim h hk
theorem Fits.mono {k m : Nat} {z : Int} (h : Fits k z) (hk : k ≤ m) : Fits m z := Nat.lt_of_lt_of_le h (Nat.pow_le_pow_right (by omega) hk)
theorem Fits.of_len {s : Bool} {l : List Nat} {k : Nat} (hd : Dig l) (h : l.length ≤ k) : Fits k (zOf s (val l)) := by
  unfold Fits
  rw [zOf_abs]
  exact Nat.lt_of_lt_of_le (val_lt hd) (Nat.pow_le_pow_right (by omega) h)
theorem Fits.le {k : Nat} {x z : Int} (h : Fits k x) (hz : z.natAbs ≤ x.natAbs) : Fits k z := Nat.lt_of_le_of_lt hz h
theorem Fits.add {k : Nat} {x y : Int} (hx : Fits k x) (hy : Fits k y) : Fits (k + 1) (x + y) := by
  unfold Fits at *
  have h1 := Int.natAbs_add_le x y
  rw [Nat.pow_succ]
  omega
theorem Fits.neg {k : Nat} {x : Int} (hx : Fits k x) : Fits k (-x) := by unfold Fits at *; rwa [Int.natAbs_neg]
theorem Fits.sub {k : Nat} {x y : Int} (hx : Fits k x) (hy : Fits k y) : Fits (k + 1) (x - y) := by
  rw [Int.sub_eq_add_neg]; exact hx.add hy.neg
theorem Fits.mul {k m : Nat} {x y : Int} (hx : Fits k x) (hy : Fits m y) : Fits (k + m) (x * y) := by
  unfold Fits at *
  rw [Int.natAbs_mul, Nat.pow_add]
  exact Nat.mul_lt_mul'' hx hy
theorem Fits.zero {k : Nat} : Fits k 0 := Nat.pow_pos (by decide)
theorem Fits.one {k : Nat} (hk : 1 ≤ k) : Fits k 1 := Nat.lt_of_lt_of_le (show (1 : Nat) < 4294967296 ^ 1 by decide) (Nat.pow_le_pow_right (by omega) hk)
theorem Fits.abs {k : Nat} {x : Int} (hx : Fits k x) : Fits k (x.natAbs : Int) := by unfold Fits at *; simpa using hx
theorem res_fits {k : Nat} {z : Int} (h : Fits k z) (hk : k ≤ 400) : z = (resS z).1 := by rw [resS_ok (h.lim hk)]
theorem resS_fits {k : Nat} {z : Int} (h : Fits k z) (hk : k ≤ 400) : resS z = (z, 0) := resS_ok (h.lim hk)

theorem mod_nonneg {x y : Int} (hy : y ≠ 0) : 0 ≤ x % y := Int.emod_nonneg x hy
theorem mod_lt_abs {x y : Int} (hy : y ≠ 0) : x % y < (y.natAbs : Int) := Int.emod_lt x hy
theorem gcd_step {x y : Int} : Nat.gcd y.natAbs (x % y).natAbs = Nat.gcd x.natAbs y.natAbs := by
  have hx : y * (x / y) + x % y = x := Int.mul_ediv_add_emod x y
  generalize x / y = q at hx
  generalize x % y = r at hx
  have hr : r = x - y * q := by omega
  apply Nat.dvd_antisymm
  · refine Nat.dvd_gcd (Int.ofNat_dvd_left.1 ?_) (Nat.gcd_dvd_left _ _)
    have h1 : ((Nat.gcd y.natAbs r.natAbs : Nat) : Int) ∣ y := Int.ofNat_dvd_left.2 (Nat.gcd_dvd_left _ _)
    have h2 : ((Nat.gcd y.natAbs r.natAbs : Nat) : Int) ∣ r := Int.ofNat_dvd_left.2 (Nat.gcd_dvd_right _ _)
    generalize ((Nat.gcd y.natAbs r.natAbs : Nat) : Int) = g at *
    rw [← hx]
    exact Int.dvd_add (Int.dvd_mul_of_dvd_left h1) h2
  · refine Nat.dvd_gcd (Nat.gcd_dvd_right _ _) (Int.ofNat_dvd_left.1 ?_)
    have h1 : ((Nat.gcd x.natAbs y.natAbs : Nat) : Int) ∣ x := Int.ofNat_dvd_left.2 (Nat.gcd_dvd_left _ _)
    have h2 : ((Nat.gcd x.natAbs y.natAbs : Nat) : Int) ∣ y := Int.ofNat_dvd_left.2 (Nat.gcd_dvd_right _ _)
    generalize ((Nat.gcd x.natAbs y.natAbs : Nat) : Int) = g at *
    rw [hr]
    exact Int.dvd_sub h1 (Int.dvd_mul_of_dvd_left h2)
theorem gcd_mod_l {x y : Int} : x % ((Nat.gcd x.natAbs y.natAbs : Nat) : Int) = 0 := Int.emod_eq_zero_of_dvd (Int.gcd_dvd_left x y)
theorem gcd_mod_r {x y : Int} : y % ((Nat.gcd x.natAbs y.natAbs : Nat) : Int) = 0 := Int.emod_eq_zero_of_dvd (Int.gcd_dvd_right x y)
end Go.Proofs.YtfdpbcjcinchgaaDoor
