/- Parse undoes Text: the plain law. -/
import Derived.Test.YtfdpbcjcinchgaaDoorPe
namespace Go.Proofs.YtfdpbcjcinchgaaDoor
open Go.RowKit
set_option linter.unusedVariables false

theorem dgt_isD (n : Nat) : isD (dgt n) = true := by
  unfold isD
  rw [dgt_nat]
  simp
  omega
theorem dgt_dv (n : Nat) : dv (dgt n) = n % 10 := by
  unfold dv
  rw [dgt_nat]
  omega
theorem rdig_all : ∀ (f n : Nat), n ≤ f → (rdig n).all isD = true
  | 0, n, h => by
    obtain rfl : n = 0 := by omega
    rfl
  | f + 1, n, h => by
    rcases Nat.eq_zero_or_pos n with h0 | h0
    · subst h0; rfl
    · rw [rdig_pos h0, List.all_cons, dgt_isD, rdig_all f (n / 10) (by omega)]
      rfl
theorem rdig_val : ∀ (f n : Nat), n ≤ f → decV (rdig n).reverse 0 = n
  | 0, n, h => by
    obtain rfl : n = 0 := by omega
    rfl
  | f + 1, n, h => by
    rcases Nat.eq_zero_or_pos n with h0 | h0
    · subst h0; rfl
    · rw [rdig_pos h0, List.reverse_cons, decV_snoc, rdig_val f (n / 10) (by omega), dgt_dv]
      omega
theorem rdig_last : ∀ (f n : Nat), n ≤ f → 0 < n → ∃ b, (rdig n).getLast? = some b ∧ b.toNat ≠ 48 ∧ isD b = true
  | 0, n, h, h0 => by omega
  | f + 1, n, h, h0 => by
    rw [rdig_pos h0]
    by_cases h10 : n < 10
    · rw [show n / 10 = 0 by omega, rdig_zero]
      exact ⟨dgt n, rfl, by rw [dgt_nat]; omega, dgt_isD n⟩
    · obtain ⟨b, h1, h2, h3⟩ := rdig_last f (n / 10) (by omega) (by omega)
      refine ⟨b, ?_, h2, h3⟩
      rw [List.getLast?_cons]
      rw [h1]
      rfl
/-- The digits of a number, the highest first. -/
theorem dd_list {n : Nat} (hn : 0 < n) : ∃ c m, (rdig n).reverse = c :: m ∧ c.toNat ≠ 48 ∧ isD c = true := by
  obtain ⟨b, h1, h2, h3⟩ := rdig_last n n (Nat.le_refl _) hn
  rw [← List.head?_reverse] at h1
  cases hr : (rdig n).reverse with
  | nil => rw [hr] at h1; cases h1
  | cons c m =>
    rw [hr] at h1
    simp at h1
    subst h1
    exact ⟨c, m, rfl, h2, h3⟩
theorem dd_ok {n : Nat} (hn : 0 < n) : decOk (rdig n).reverse = true := by
  obtain ⟨c, m, h1, h2, h3⟩ := dd_list hn
  have hall : (rdig n).reverse.all isD = true := by rw [List.all_reverse]; exact rdig_all n n (Nat.le_refl _)
  rw [h1] at hall ⊢
  rw [decOk_all (fun h => h2 h.1)]
  exact hall
theorem parse_text {z : Int} {n : Nat} (hn : (digs z.natAbs).length = n) (h40 : n ≤ 40) : parseR (txt z) = (z, 0) ∧ (txt z).length ≤ 4000 := by
  have hlim : z.natAbs < lim := by
    have := val_lt (dig_digs z.natAbs)
    rw [val_digs, hn] at this
    exact lt_lim this (by omega)
  by_cases hz : z = 0
  · subst hz
    refine ⟨?_, by simp [txt]⟩
    have h1 : txt 0 = [48] := rfl
    rw [h1]
    unfold parseR
    rw [if_neg (by simp), if_pos (by decide)]
    have : zOf (sgnS [48]) (decV (bodyS [48]) 0) = 0 := by decide
    rw [this]
    exact resS_ok hlim
  · have hp : 0 < z.natAbs := by omega
    have htx := txt_rdig z hz
    rw [List.reverse_append] at htx
    have hlen := rdig_len hn
    obtain ⟨c, m, h1, h2, h3⟩ := dd_list hp
    have hok := dd_ok hp
    have hval := rdig_val z.natAbs z.natAbs (Nat.le_refl _)
    have hc45 : c.toNat ≠ 45 := by unfold isD at h3; simp at h3; omega
    have hdl : (rdig z.natAbs).reverse.length ≤ 720 := by rw [List.length_reverse]; omega
    by_cases hneg : z < 0
    · rw [if_pos hneg] at htx
      have e : txt z = 45 :: (rdig z.natAbs).reverse := htx
      rw [e]
      refine ⟨?_, by rw [List.length_cons]; omega⟩
      unfold parseR
      rw [if_neg (by rw [List.length_cons]; omega)]
      have hs : sgnS (45 :: (rdig z.natAbs).reverse) = true := rfl
      have hb : bodyS (45 :: (rdig z.natAbs).reverse) = (rdig z.natAbs).reverse := rfl
      have hk : okS (45 :: (rdig z.natAbs).reverse) = true := by
        rw [h1, ok_neg (b := 45) rfl h2, ← h1]
        exact hok
      rw [if_pos hk, hs, hb, hval]
      have : zOf true z.natAbs = z := by unfold zOf; simp; omega
      rw [this]
      exact resS_ok hlim
    · rw [if_neg hneg] at htx
      have e : txt z = (rdig z.natAbs).reverse := htx
      rw [e]
      refine ⟨?_, by omega⟩
      unfold parseR
      rw [if_neg (by omega)]
      have hs : sgnS (rdig z.natAbs).reverse = false := by rw [h1]; exact sgn_not hc45
      have hb : bodyS (rdig z.natAbs).reverse = (rdig z.natAbs).reverse := by unfold bodyS; rw [hs]; rfl
      have hk : okS (rdig z.natAbs).reverse = true := by
        rw [h1, ok_pos hc45, ← h1]
        exact hok
      rw [if_pos hk, hs, hb, hval]
      have : zOf false z.natAbs = z := by unfold zOf; simp; omega
      rw [this]
      exact resS_ok hlim
end Go.Proofs.YtfdpbcjcinchgaaDoor
