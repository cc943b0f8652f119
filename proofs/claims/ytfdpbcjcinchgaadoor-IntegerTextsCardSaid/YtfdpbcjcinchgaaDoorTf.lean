/- Decimal digits: the reference's text is the program's. -/
import Derived.Test.YtfdpbcjcinchgaaDoorTb
namespace Go.Proofs.YtfdpbcjcinchgaaDoor
open Go.RowKit
set_option linter.unusedVariables false

def dgt (n : Nat) : UInt8 := UInt8.ofNat (48 + n % 10)
/-- The digits of a number, the lowest first. -/
def rdigF : Nat → Nat → List UInt8
  | 0, _ => []
  | f + 1, n => if n = 0 then [] else dgt n :: rdigF f (n / 10)
def rdig (n : Nat) : List UInt8 := rdigF n n
theorem rdigF_any : ∀ (f g n : Nat), n ≤ f → n ≤ g → rdigF f n = rdigF g n
  | 0, g, n, h1, _ => by
    obtain rfl : n = 0 := by omega
    cases g <;> simp [rdigF]
  | f + 1, 0, n, _, h2 => by
    obtain rfl : n = 0 := by omega
    simp [rdigF]
  | f + 1, g + 1, n, h1, h2 => by
    unfold rdigF
    split
    · rfl
    · rw [rdigF_any f g (n / 10) (by omega) (by omega)]
theorem rdig_zero : rdig 0 = [] := rfl
theorem rdig_pos {n : Nat} (h : 0 < n) : rdig n = dgt n :: rdig (n / 10) := by
  unfold rdig
  obtain ⟨m, rfl⟩ : ∃ m, n = m + 1 := ⟨n - 1, by omega⟩
  rw [rdigF, if_neg (by omega), rdigF_any m ((m + 1) / 10) _ (by omega) (Nat.le_refl _)]
/-- The lowest k digits. -/
def lowD : Nat → Nat → List UInt8
  | 0, _ => []
  | k + 1, n => dgt n :: lowD k (n / 10)
theorem lowD_mod : ∀ (k n : Nat), lowD k (n % 10 ^ k) = lowD k n
  | 0, n => rfl
  | k + 1, n => by
    unfold lowD
    have h1 : n % 10 ^ (k + 1) % 10 = n % 10 := Nat.mod_mod_of_dvd n (by rw [Nat.pow_succ]; exact Nat.dvd_mul_left 10 _)
    have h2 : n % 10 ^ (k + 1) / 10 = n / 10 % 10 ^ k := by rw [Nat.pow_succ, Nat.mul_comm, Nat.mod_mul_right_div_self]
    rw [show dgt (n % 10 ^ (k + 1)) = dgt n by unfold dgt; rw [h1], h2, lowD_mod k (n / 10)]
theorem rdig_low : ∀ (k n : Nat), 10 ^ k ≤ n → rdig n = lowD k n ++ rdig (n / 10 ^ k)
  | 0, n, h => by simp [lowD]
  | k + 1, n, h => by
    have hn : 0 < n := Nat.lt_of_lt_of_le (Nat.pow_pos (by decide)) h
    have h1 : 10 ^ k ≤ n / 10 := by rw [Nat.le_div_iff_mul_le (by decide), ← Nat.pow_succ]; exact h
    rw [rdig_pos hn, rdig_low k (n / 10) h1, lowD, Nat.div_div_eq_div_mul, ← Nat.pow_succ']
    rfl
theorem dec_unfold {u : Nat} (h : ¬ u < 10) : Lib.decDigits u = Lib.decDigits (u / 10) ++ [dgt u] := by
  rw [Lib.decDigits, dif_neg h]; rfl
theorem dec_rdig : ∀ (f n : Nat), n ≤ f → 0 < n → Lib.decDigits n = (rdig n).reverse
  | 0, n, h1, h2 => by omega
  | f + 1, n, h1, h2 => by
    rw [rdig_pos h2, List.reverse_cons]
    by_cases h : n < 10
    · rw [Lib.decDigits_one h, show n / 10 = 0 by omega, rdig_zero]
      simp [dgt, Nat.mod_eq_of_lt h]
    · rw [dec_unfold h, dec_rdig f (n / 10) (by omega) (by omega)]
theorem low_zero : ∀ k, lowD k 0 = List.replicate k 48
  | 0 => rfl
  | k + 1 => by
    rw [lowD, show 0 / 10 = 0 by rfl, low_zero k, List.replicate_succ]
    rfl
theorem low_pad : ∀ (k g : Nat), g < 10 ^ (k + 1) → (lowD (k + 1) g).reverse = List.replicate (k + 1 - (Lib.decDigits g).length) 48 ++ Lib.decDigits g
  | k, g, h => by
    by_cases h10 : g < 10
    · rw [Lib.decDigits_one h10, lowD, show g / 10 = 0 by omega, low_zero, List.reverse_cons, List.reverse_replicate]
      simp [dgt, Nat.mod_eq_of_lt h10]
    · match k with
      | 0 => simp at h; omega
      | k + 1 =>
        have h1 : g / 10 < 10 ^ (k + 1) := by rw [Nat.div_lt_iff_lt_mul (by decide), ← Nat.pow_succ]; exact h
        rw [lowD, List.reverse_cons, low_pad k (g / 10) h1, dec_unfold h10, List.length_append, List.append_assoc]
        congr 2
        simp
theorem gtxt_rdig : ∀ (f n : Nat), n ≤ f → 0 < n → gtxt (grp n) = (rdig n).reverse
  | 0, n, h1, h2 => by omega
  | f + 1, n, h1, h2 => by
    rw [grp_pos h2]
    by_cases h : n < 1000000000
    · rw [show n / 1000000000 = 0 by omega, grp_zero, gtxt, Nat.mod_eq_of_lt h]
      exact dec_rdig n n (Nat.le_refl _) h2
    · have h3 : 0 < n / 1000000000 := by omega
      have h4 := gtxt_rdig f (n / 1000000000) (by omega) h3
      rw [grp_pos h3] at h4 ⊢
      rw [gtxt, h4, rdig_low 9 n (by omega), List.reverse_append, ← lowD_mod 9 n, low_pad 8 _ (by omega)]
theorem txt_rdig (z : Int) (hz : z ≠ 0) : txt z = ((rdig z.natAbs) ++ (if z < 0 then [45] else [])).reverse := by
  unfold txt
  rw [if_neg hz, gtxt_rdig _ _ (Nat.le_refl _) (by omega), List.reverse_append]
  congr 1
  split <;> rfl
theorem rdig_len {n m : Nat} (h : (digs n).length = m) : (rdig n).length ≤ 18 * m := by
  rcases Nat.eq_zero_or_pos n with h0 | h0
  · subst h0; simp [rdig_zero]
  · have h1 := gtxt_rdig n n (Nat.le_refl _) h0
    have h2 := gtxt_len (grp n) (fun g hg => grp_lt _ _ g hg)
    have h3 := grp_len_digs h
    rw [h1, List.length_reverse] at h2
    omega
/-- What the inner loop has still to write. -/
def restD (q k r : Nat) : List UInt8 := if 0 < q then lowD (9 - k) r ++ rdig q else rdig r
theorem rest_start {n : Nat} : restD (n / 1000000000) 0 (n % 1000000000) = rdig n := by
  unfold restD
  split
  · rename_i h
    rw [rdig_low 9 n (by omega), ← lowD_mod 9 n]
  · rename_i h
    rw [Nat.mod_eq_of_lt (by omega)]
theorem rest_step {q k r : Nat} (hk : k < 9) (h : 0 < q ∨ 0 < r) : restD q k r = dgt r :: restD q (k + 1) (r / 10) := by
  unfold restD
  by_cases hq : 0 < q
  · rw [if_pos hq, if_pos hq, show 9 - k = 9 - (k + 1) + 1 by omega, lowD]
    rfl
  · rw [if_neg hq, if_neg hq, rdig_pos (by omega)]
theorem rest_end {q k r : Nat} (hk : k ≤ 9) (hr : r < 10 ^ (9 - k)) (h : ¬ (k < 9 ∧ (0 < q ∨ 0 < r))) : restD q k r = rdig q := by
  unfold restD
  by_cases hq : 0 < q
  · have h9 : k = 9 := by omega
    subst h9
    rw [if_pos hq]
    rfl
  · rw [if_neg hq]
    have h0 : r = 0 := by
      by_cases h9 : k < 9
      · omega
      · have h9' : k = 9 := by omega
        subst h9'
        simpa using hr
    rw [h0, show q = 0 by omega]
theorem rest_low {k r : Nat} (hk : k < 9) (hr : r < 10 ^ (9 - k)) : r / 10 < 10 ^ (9 - (k + 1)) := by
  rw [Nat.div_lt_iff_lt_mul (by decide), ← Nat.pow_succ, show (9 - (k + 1)).succ = 9 - k by omega]
  exact hr
end Go.Proofs.YtfdpbcjcinchgaaDoor
