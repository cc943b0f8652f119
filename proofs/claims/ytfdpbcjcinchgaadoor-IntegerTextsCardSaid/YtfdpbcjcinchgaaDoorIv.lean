/- Contract: one digit of a quotient, in place. -/
import Derived.Test.YtfdpbcjcinchgaaDoorIu
import Derived.Deep.CutBlock
import Derived.Deep.DeepCutAuto
import Derived.Deep.LoopGhost
namespace Go.Proofs.YtfdpbcjcinchgaaDoor
open Go.RowKit
set_option linter.unusedVariables false

/-- Subtracting g * v from U, from place j on, behind i digits. -/
def Msub (U U' v : List Nat) (j i g cy bo : Nat) : Prop :=
  U'.length = U.length ∧ U'.take j = U.take j ∧ (∀ t, j + i ≤ t → U'[t]? = U[t]?) ∧ val U' + 4294967296 ^ j * (g * val (v.take i)) = val U + 4294967296 ^ (j + i) * (cy + bo)
theorem Msub.start (U v : List Nat) (j g : Nat) : Msub U U v j 0 g 0 0 := ⟨rfl, rfl, fun _ _ => rfl, by simp [val]⟩
theorem ms_digit {x bo pl : Nat} (hx : x < 4294967296) (hb : bo ≤ 1) (hp : pl < 4294967296) : x + 4294967296 * sbor ((x : Int) - bo - pl) = sdig ((x : Int) - bo - pl) + bo + pl := by
  have := sdig_eq hx hp hb
  omega
theorem Msub.step {U U' v : List Nat} {j i g cy bo x y p : Nat} (h : Msub U U' v j i g cy bo) (hx : U[j + i]? = some x) (hy : v[i]? = some y) (hx32 : x < 4294967296) (hb : bo ≤ 1) (hp : p = g * y + cy) :
    Msub U (U'.set (j + i) (sdig ((x : Int) - bo - (p % 4294967296 : Nat)))) v j (i + 1) g (p / 4294967296) (sbor ((x : Int) - bo - (p % 4294967296 : Nat))) := by
  obtain ⟨h1, h2, h3, h4⟩ := h
  refine ⟨by rw [List.length_set]; exact h1, ?_, fun t ht => ?_, ?_⟩
  · rw [List.take_set_of_le (by omega)]; exact h2
  · rw [List.getElem?_set_ne (by omega)]; exact h3 t (by omega)
  · have hx' : U'[j + i]? = some x := by rw [h3 _ (Nat.le_refl _)]; exact hx
    have hm := ms_digit hx32 hb (Nat.mod_lt p (show 0 < 4294967296 by omega))
    generalize sdig ((x : Int) - bo - (p % 4294967296 : Nat)) = dg at *
    generalize sbor ((x : Int) - bo - (p % 4294967296 : Nat)) = bo' at *
    have h5 := val_set (y := dg) hx'
    rw [val_take_succ hy, show j + (i + 1) = (j + i) + 1 from rfl, Nat.pow_succ, Nat.mul_assoc]
    have e1 : 4294967296 ^ j * (g * (val (v.take i) + 4294967296 ^ i * y)) = 4294967296 ^ j * (g * val (v.take i)) + 4294967296 ^ (j + i) * (g * y) := by
      rw [Nat.mul_add, Nat.mul_add, Nat.pow_add]
      congr 1
      rw [Nat.mul_left_comm g, Nat.mul_assoc]
    have e2 : 4294967296 ^ (j + i) * dg + 4294967296 ^ (j + i) * (g * y) + 4294967296 ^ (j + i) * (cy + bo) = 4294967296 ^ (j + i) * x + 4294967296 ^ (j + i) * (4294967296 * (p / 4294967296 + bo')) := by
      rw [← Nat.mul_add, ← Nat.mul_add, ← Nat.mul_add]
      congr 1
      omega
    omega

/-- Nothing lies from m on. -/
theorem low_of {U X : List Nat} {m : Nat} (hU : val (U.drop m) = 0) (hX : Dig X) (hl : X.length = U.length) (h : ∀ t, m ≤ t → X[t]? = U[t]?) : val X < 4294967296 ^ m := by
  rcases Nat.lt_or_ge U.length m with h0 | h0
  · have := val_lt hX
    exact Nat.lt_of_lt_of_le this (Nat.pow_le_pow_right (by omega) (by omega))
  · have e : X.drop m = U.drop m := by
      apply List.ext_getElem?
      intro i
      rw [List.getElem?_drop, List.getElem?_drop]
      exact h _ (by omega)
    have h1 := val_split X m (by omega)
    rw [e, hU] at h1
    have h2 := val_take_lt hX m
    omega
theorem drop_zero {U : List Nat} {j m : Nat} (hm : j + m ≤ U.length) (h : val (U.drop j) < 4294967296 ^ m) : val (U.drop (j + m)) = 0 := by
  have h1 := val_split (U.drop j) m (by rw [List.length_drop]; omega)
  rw [List.drop_drop] at h1
  rcases Nat.eq_zero_or_pos (val (U.drop (j + m))) with h0 | h0
  · exact h0
  · have : 4294967296 ^ m * 1 ≤ 4294967296 ^ m * val (U.drop (j + m)) := Nat.mul_le_mul_left _ h0
    omega
/-- The last digit of the subtraction. -/
theorem ms_last {U U' v : List Nat} {j m g cy bo u : Nat} (h : Msub U U' v j m g cy bo) (hv : v.length = m) (hu : U[j + m]? = some u) (hu32 : u < 4294967296) (hc : cy < 4294967296) (hb : bo ≤ 1) :
    val (U'.set (j + m) (sdig ((u : Int) - bo - cy))) + 4294967296 ^ j * (g * val v) = val U + 4294967296 ^ (j + m + 1) * sbor ((u : Int) - bo - cy) := by
  obtain ⟨h1, h2, h3, h4⟩ := h
  have hx' : U'[j + m]? = some u := by rw [h3 _ (Nat.le_refl _)]; exact hu
  have hm := sdig_eq hu32 hc hb
  generalize sdig ((u : Int) - bo - cy) = dg at *
  generalize sbor ((u : Int) - bo - cy) = bo' at *
  have h5 := val_set (y := dg) hx'
  rw [List.take_of_length_le (l := v) (by omega)] at h4
  have e : 4294967296 ^ (j + m + 1) * bo' = 4294967296 ^ (j + m) * (4294967296 * bo') := by rw [Nat.pow_succ, Nat.mul_assoc]
  have e2 : 4294967296 ^ (j + m) * u + 4294967296 ^ (j + m) * (4294967296 * bo') = 4294967296 ^ (j + m) * (cy + bo) + 4294967296 ^ (j + m) * dg := by
    rw [← Nat.mul_add, ← Nat.mul_add]; congr 1
  omega
theorem ms_exact {U X : List Nat} {j m V q bo : Nat} (h : val X + 4294967296 ^ j * (q * V) = val U + 4294967296 ^ m * bo) (hX : val X < 4294967296 ^ m) (hq : 4294967296 ^ j * (q * V) ≤ val U) : bo = 0 := by
  rcases Nat.eq_zero_or_pos bo with h0 | h0
  · exact h0
  · have : 4294967296 ^ m * 1 ≤ 4294967296 ^ m * bo := Nat.mul_le_mul_left _ h0
    omega
theorem ms_over {U X : List Nat} {j m V q bo : Nat} (h : val X + 4294967296 ^ j * (q * V) = val U + 4294967296 ^ m * bo) (hb : bo ≤ 1) (hq : val U < 4294967296 ^ j * (q * V)) : bo = 1 := by
  rcases Nat.eq_zero_or_pos bo with h0 | h0
  · subst h0; omega
  · omega
theorem seg_le {U : List Nat} {j V q : Nat} (hj : j ≤ U.length) (hq : V * q ≤ val (U.drop j)) : 4294967296 ^ j * (q * V) ≤ val U := by
  have h1 := val_split U j hj
  have h2 : 4294967296 ^ j * (q * V) ≤ 4294967296 ^ j * val (U.drop j) := Nat.mul_le_mul_left _ (by rw [Nat.mul_comm]; exact hq)
  omega
theorem seg_lt {U : List Nat} {j V q : Nat} (hd : Dig U) (hj : j ≤ U.length) (hq : val (U.drop j) < V * q) : val U < 4294967296 ^ j * (q * V) := by
  have h1 := val_split U j hj
  have h2 := val_take_lt hd j
  have h3 : 4294967296 ^ j * (val (U.drop j) + 1) ≤ 4294967296 ^ j * (q * V) := Nat.mul_le_mul_left _ (by rw [Nat.mul_comm q]; exact hq)
  rw [Nat.mul_add, Nat.mul_one] at h3
  omega

/-- Adding v to U, from place j on. -/
def Madd (U U' v : List Nat) (j i cy : Nat) : Prop :=
  U'.length = U.length ∧ U'.take j = U.take j ∧ (∀ t, j + i ≤ t → U'[t]? = U[t]?) ∧ val U' + 4294967296 ^ (j + i) * cy = val U + 4294967296 ^ j * val (v.take i)
theorem Madd.start (U v : List Nat) (j : Nat) : Madd U U v j 0 0 := ⟨rfl, rfl, fun _ _ => rfl, by simp [val]⟩
theorem Madd.step {U U' v : List Nat} {j i cy x y s : Nat} (h : Madd U U' v j i cy) (hx : U[j + i]? = some x) (hy : v[i]? = some y) (hs : s = x + y + cy) : Madd U (U'.set (j + i) (s % 4294967296)) v j (i + 1) (s / 4294967296) := by
  obtain ⟨h1, h2, h3, h4⟩ := h
  refine ⟨by rw [List.length_set]; exact h1, ?_, fun t ht => ?_, ?_⟩
  · rw [List.take_set_of_le (by omega)]; exact h2
  · rw [List.getElem?_set_ne (by omega)]; exact h3 t (by omega)
  · have hx' : U'[j + i]? = some x := by rw [h3 _ (Nat.le_refl _)]; exact hx
    have h5 := val_set (y := s % 4294967296) hx'
    rw [val_take_succ hy, show j + (i + 1) = (j + i) + 1 from rfl, Nat.pow_succ, Nat.mul_assoc, Nat.mul_add, ← Nat.mul_assoc (4294967296 ^ j), ← Nat.pow_add]
    have e : 4294967296 ^ (j + i) * (s % 4294967296) + 4294967296 ^ (j + i) * (4294967296 * (s / 4294967296)) = 4294967296 ^ (j + i) * x + 4294967296 ^ (j + i) * y + 4294967296 ^ (j + i) * cy := by
      rw [← Nat.mul_add, ← Nat.mul_add, ← Nat.mul_add]; congr 1; omega
    omega
theorem ma_last {U X Y v : List Nat} {j m c d V q : Nat} (hX : val X + 4294967296 ^ j * ((q + 1) * V) = val U + 4294967296 ^ (j + m + 1)) (h : Madd X Y v j m c) (hv : v.length = m) (hV : val v = V) (hd : X[j + m]? = some d)
    (hlow : val (Y.set (j + m) ((d + c) % 4294967296)) < 4294967296 ^ (j + m + 1)) (hq : 4294967296 ^ j * (q * V) ≤ val U) (hd32 : d < 4294967296) (hc : c ≤ 1) :
    val (Y.set (j + m) ((d + c) % 4294967296)) + 4294967296 ^ j * (q * V) = val U := by
  obtain ⟨h1, h2, h3, h4⟩ := h
  have hx' : Y[j + m]? = some d := by rw [h3 _ (Nat.le_refl _)]; exact hd
  have h5 := val_set (y := (d + c) % 4294967296) hx'
  rw [List.take_of_length_le (l := v) (by omega), hV] at h4
  have e1 : 4294967296 ^ j * ((q + 1) * V) = 4294967296 ^ j * (q * V) + 4294967296 ^ j * V := by rw [Nat.add_mul, Nat.one_mul, Nat.mul_add]
  generalize val (Y.set (j + m) ((d + c) % 4294967296)) = R at *
  have hk : (d + c) % 4294967296 = d + c ∨ (d + c) % 4294967296 + 4294967296 = d + c := by omega
  rcases hk with hk | hk
  · exfalso
    rw [hk, Nat.mul_add] at h5
    omega
  · have e2 : 4294967296 ^ (j + m) * ((d + c) % 4294967296) + 4294967296 ^ (j + m + 1) = 4294967296 ^ (j + m) * d + 4294967296 ^ (j + m) * c := by
      rw [Nat.pow_succ, ← Nat.mul_add, ← Nat.mul_add]; congr 1
    omega
end Go.Proofs.YtfdpbcjcinchgaaDoor
