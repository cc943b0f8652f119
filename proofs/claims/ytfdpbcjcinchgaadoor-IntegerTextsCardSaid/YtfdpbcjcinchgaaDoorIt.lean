/- Long division: the loop over the digits of the quotient, plain mathematics; the reference's walk. -/
import Derived.Test.YtfdpbcjcinchgaaDoorIs
namespace Go.Proofs.YtfdpbcjcinchgaaDoor
open Go.RowKit
set_option linter.unusedVariables false

/-- The digits of the quotient from k on are qs; U holds what is left. -/
def DivInv (U qs : List Nat) (N V k : Nat) : Prop := val U + V * (4294967296 ^ k * val qs) = N ∧ val (U.drop k) < V
theorem div_seg {U : List Nat} {j x V : Nat} (hd : Dig U) (hx : U[j]? = some x) (h : val (U.drop (j + 1)) < V) : val (U.drop j) < 4294967296 * V := by
  rw [val_drop hx]
  have := hd.at_ hx
  have h1 : 4294967296 * (val (U.drop (j + 1)) + 1) ≤ 4294967296 * V := Nat.mul_le_mul_left _ h
  omega
theorem DivInv.step {U U' qs : List Nat} {N V j q : Nat} (h : DivInv U qs N V (j + 1)) (hj : j ≤ U.length) (hl : U'.length = U.length) (ht : U'.take j = U.take j) (hv : val U' + 4294967296 ^ j * (V * q) = val U) (hq : q = val (U.drop j) / V) (hV : 0 < V) : DivInv U' (q :: qs) N V j := by
  have e1 := val_split U j hj
  have e2 := val_split U' j (by omega)
  rw [ht] at e2
  have e3 : 4294967296 ^ j * (val (U'.drop j) + V * q) = 4294967296 ^ j * val (U.drop j) := by rw [Nat.mul_add]; omega
  have e4 := Nat.eq_of_mul_eq_mul_left (Nat.pow_pos (by omega)) e3
  refine ⟨?_, ?_⟩
  · rw [← h.1, ← hv, val, Nat.mul_add, Nat.mul_add, Nat.pow_succ]
    have a1 : V * (4294967296 ^ j * q) = 4294967296 ^ j * (V * q) := Nat.mul_left_comm _ _ _
    have a2 : V * (4294967296 ^ j * (4294967296 * val qs)) = V * (4294967296 ^ j * 4294967296 * val qs) := by rw [Nat.mul_assoc (4294967296 ^ j)]
    omega
  · have h1 := Nat.div_add_mod (val (U.drop j)) V
    have h2 := Nat.mod_lt (val (U.drop j)) hV
    rw [← hq] at h1
    omega
theorem DivInv.start {U : List Nat} {N V k : Nat} (h : val U = N) (hk : val (U.drop k) < V) : DivInv U [] N V k := ⟨by simp [val, h], hk⟩
theorem DivInv.done {U qs : List Nat} {N V : Nat} (h : DivInv U qs N V 0) : val qs = N / V ∧ val U = N % V := by
  obtain ⟨h1, h2⟩ := h
  simp only [Nat.pow_zero, Nat.one_mul, List.drop_zero] at h1 h2
  have hV : 0 < V := by omega
  rw [← h1]
  constructor
  · rw [Nat.add_comm, Nat.mul_add_div hV, Nat.div_eq_of_lt h2, Nat.add_zero]
  · rw [Nat.add_comm, Nat.mul_add_mod, Nat.mod_eq_of_lt h2]
theorem tops_of {U v : List Nat} {j n v1 v0 : Nat} (hU : Dig U) (hv : Dig v) (hlen : j + n + 3 ≤ U.length) (hvl : v.length = n + 2) (h1 : v[n + 1]? = some v1) (h0 : v[n]? = some v0) (ht : 2147483648 ≤ v1) (hlt : val (U.drop (j + 1)) < val v) :
    ∃ u2 u1 u0, U[j + n + 2]? = some u2 ∧ U[j + n + 1]? = some u1 ∧ U[j + n]? = some u0 ∧ Tops (val (U.drop j)) (val v) (4294967296 ^ n) u2 u1 u0 v1 v0 := by
  have e2 : U[j + n + 2]? = some U[j + n + 2] := List.getElem?_eq_getElem (by omega)
  have e1 : U[j + n + 1]? = some U[j + n + 1] := List.getElem?_eq_getElem (by omega)
  have e0 : U[j + n]? = some U[j + n] := List.getElem?_eq_getElem (by omega)
  have ej : U[j]? = some U[j] := List.getElem?_eq_getElem (by omega)
  have hS := div_seg hU ej hlt
  have hV := val_lt hv
  rw [hvl] at hV
  have hS2 : val (U.drop j) < 4294967296 ^ (n + 3) := by
    rw [show n + 3 = (n + 2) + 1 from rfl, Nat.pow_succ, Nat.mul_comm]
    have : 4294967296 * val v ≤ 4294967296 * 4294967296 ^ (n + 2) := Nat.mul_le_mul_left _ (Nat.le_of_lt hV)
    omega
  refine ⟨_, _, _, e2, e1, e0, Nat.pow_pos (by omega), ?_, ?_, ht, hv.at_ h1, hv.at_ h0, hU.at_ e2, hU.at_ e1, hU.at_ e0, hS⟩
  · exact top3 (hU.drop j) hS2 (by rw [List.getElem?_drop]; exact e2) (by rw [List.getElem?_drop]; exact e1) (by rw [List.getElem?_drop]; exact e0)
  · exact top2 hv hvl h1 h0
theorem div_cancel {a b s : Nat} : a * 2 ^ s / (b * 2 ^ s) = a / b := Nat.mul_div_mul_right _ _ (Nat.pow_pos (by omega))
theorem mod_cancel {a b s : Nat} : a * 2 ^ s % (b * 2 ^ s) = a % b * 2 ^ s := Nat.mul_mod_mul_right _ _ _
theorem val_cut {U : List Nat} {n : Nat} (hd : Dig U) (hn : n ≤ U.length) (h : val U < 4294967296 ^ n) : val (U.take n) = val U := by
  have h1 := val_split U n hn
  have h3 : val (U.drop n) = 0 := by
    rcases Nat.eq_zero_or_pos (val (U.drop n)) with h0 | h0
    · exact h0
    · have : 4294967296 ^ n * 1 ≤ 4294967296 ^ n * val (U.drop n) := Nat.mul_le_mul_left _ h0
      omega
  rw [h3] at h1; omega
end Go.Proofs.YtfdpbcjcinchgaaDoor
