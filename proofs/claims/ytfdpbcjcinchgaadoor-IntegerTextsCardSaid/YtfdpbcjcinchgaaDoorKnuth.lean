/- Division of digits, one digit of the quotient after the other: plain mathematics. -/
import Derived.Test.YtfdpbcjcinchgaaDoorDig
namespace Go.Proofs.YtfdpbcjcinchgaaDoor

abbrev BB : Nat := 4294967296

/-- The three top digits of a number of n + 3 digits. -/
theorem top3 {l : List Nat} {n a b c : Nat} (hd : Dig l) (hlt : val l < 4294967296 ^ (n + 3)) (ha : l[n + 2]? = some a) (hb : l[n + 1]? = some b) (hc : l[n]? = some c) :
    ∃ r, r < 4294967296 ^ n ∧ val l = (a * (4294967296 * 4294967296) + b * 4294967296 + c) * 4294967296 ^ n + r := by
  have hn : n + 2 < l.length := (List.getElem?_eq_some_iff.1 ha).1
  have h0 := val_split l (n + 3) (by omega)
  have hz : val (l.drop (n + 3)) = 0 := by
    rcases Nat.eq_zero_or_pos (val (l.drop (n + 3))) with h | h
    · exact h
    · have : 4294967296 ^ (n + 3) * 1 ≤ 4294967296 ^ (n + 3) * val (l.drop (n + 3)) := Nat.mul_le_mul_left _ h
      omega
  rw [hz, Nat.mul_zero, Nat.add_zero, val_take_succ ha, val_take_succ hb, val_take_succ hc] at h0
  refine ⟨val (l.take n), ?_, ?_⟩
  · have := val_lt (hd.take n)
    rwa [List.length_take, Nat.min_eq_left (by omega)] at this
  · rw [h0]
    have e1 : 4294967296 ^ (n + 2) = 4294967296 ^ n * (4294967296 * 4294967296) := by rw [Nat.pow_add]
    have e2 : 4294967296 ^ (n + 1) = 4294967296 ^ n * 4294967296 := by rw [Nat.pow_succ]
    rw [e1, e2, Nat.add_mul, Nat.add_mul, Nat.mul_comm (a * (4294967296 * 4294967296)), Nat.mul_comm (b * 4294967296), Nat.mul_comm c, Nat.mul_assoc, Nat.mul_assoc, Nat.mul_comm a, Nat.mul_comm b]
    omega
theorem top2 {l : List Nat} {n b c : Nat} (hd : Dig l) (hl : l.length = n + 2) (hb : l[n + 1]? = some b) (hc : l[n]? = some c) :
    ∃ r, r < 4294967296 ^ n ∧ val l = (b * 4294967296 + c) * 4294967296 ^ n + r := by
  have h0 := val_take_all (l := l) (k := n + 2) (by omega)
  rw [val_take_succ hb, val_take_succ hc] at h0
  refine ⟨val (l.take n), ?_, ?_⟩
  · have := val_lt (hd.take n)
    rwa [List.length_take, Nat.min_eq_left (by omega)] at this
  · rw [← h0, Nat.pow_succ, Nat.add_mul, Nat.mul_comm (b * 4294967296), Nat.mul_comm c, Nat.mul_assoc, Nat.mul_comm b]
    omega

section
variable {S V P u2 u1 u0 v1 v0 r s g rest : Nat}
/-- What the guess of a digit stands on: S by its three top digits, V by its two top digits, the head of both. -/
structure Tops (S V P u2 u1 u0 v1 v0 : Nat) : Prop where
  pos : 0 < P
  hS : ∃ r, r < P ∧ S = (u2 * (4294967296 * 4294967296) + u1 * 4294967296 + u0) * P + r
  hV : ∃ s, s < P ∧ V = (v1 * 4294967296 + v0) * P + s
  top : 2147483648 ≤ v1
  l1 : v1 < 4294967296
  l0 : v0 < 4294967296
  m2 : u2 < 4294967296
  m1 : u1 < 4294967296
  m0 : u0 < 4294967296
  fits : S < 4294967296 * V
theorem Tops.vpos (t : Tops S V P u2 u1 u0 v1 v0) : 0 < V := by
  rcases Nat.eq_zero_or_pos V with h | h
  · have := t.fits; rw [h] at this; omega
  · exact h
theorem Tops.q_lt (t : Tops S V P u2 u1 u0 v1 v0) : S / V < 4294967296 := by
  rw [Nat.div_lt_iff_lt_mul t.vpos]; exact t.fits
/-- The head is not above B * v1 + B - 1. -/
theorem Tops.head_lt (t : Tops S V P u2 u1 u0 v1 v0) : u2 * 4294967296 + u1 < 4294967296 * (v1 + 1) := by
  obtain ⟨r, hr, hS⟩ := t.hS
  obtain ⟨s, hs, hV⟩ := t.hV
  have hf := t.fits
  have h0 := t.l0
  rcases Nat.lt_or_ge (u2 * 4294967296 + u1) (4294967296 * (v1 + 1)) with h | h
  · exact h
  · exfalso
    have h1 : 4294967296 * (v1 + 1) * (4294967296 * P) ≤ (u2 * 4294967296 + u1) * (4294967296 * P) := Nat.mul_le_mul_right _ h
    have h2 : (u2 * 4294967296 + u1) * (4294967296 * P) ≤ S := by
      rw [hS]
      have : (u2 * 4294967296 + u1) * (4294967296 * P) = (u2 * (4294967296 * 4294967296) + u1 * 4294967296) * P := by rw [← Nat.mul_assoc, Nat.add_mul (u2 * 4294967296) u1 4294967296, Nat.mul_assoc u2]
      rw [this]
      have : (u2 * (4294967296 * 4294967296) + u1 * 4294967296) * P ≤ (u2 * (4294967296 * 4294967296) + u1 * 4294967296 + u0) * P := Nat.mul_le_mul_right _ (by omega)
      omega
    have h3 : V ≤ (v1 + 1) * (4294967296 * P) := by
      rw [hV]
      have e : (v1 + 1) * (4294967296 * P) = (v1 * 4294967296 + 4294967296) * P := by rw [← Nat.mul_assoc, Nat.add_mul v1 1, Nat.one_mul]
      rw [e]
      have : (v1 * 4294967296 + v0 + 1) * P ≤ (v1 * 4294967296 + 4294967296) * P := Nat.mul_le_mul_right _ (by omega)
      rw [Nat.add_mul _ 1, Nat.one_mul] at this
      omega
    have h4 : 4294967296 * V ≤ 4294967296 * ((v1 + 1) * (4294967296 * P)) := Nat.mul_le_mul_left _ h3
    rw [← Nat.mul_assoc] at h4
    omega
/-- A guess with g * (v1 v0) above the three top digits is too great. -/
theorem Tops.above (t : Tops S V P u2 u1 u0 v1 v0) (h : u2 * (4294967296 * 4294967296) + u1 * 4294967296 + u0 < g * (v1 * 4294967296 + v0)) : S / V < g := by
  obtain ⟨r, hr, hS⟩ := t.hS
  obtain ⟨s, hs, hV⟩ := t.hV
  rw [Nat.div_lt_iff_lt_mul t.vpos]
  have h1 : (u2 * (4294967296 * 4294967296) + u1 * 4294967296 + u0 + 1) * P ≤ g * (v1 * 4294967296 + v0) * P := Nat.mul_le_mul_right _ h
  rw [Nat.add_mul _ 1, Nat.one_mul] at h1
  have h2 : g * (v1 * 4294967296 + v0) * P ≤ g * V := by
    rw [Nat.mul_assoc]
    exact Nat.mul_le_mul_left _ (by rw [hV]; omega)
  omega
/-- The first guess is not too small. -/
theorem Tops.first (t : Tops S V P u2 u1 u0 v1 v0) : S / V ≤ (u2 * 4294967296 + u1) / v1 := by
  obtain ⟨r, hr, hS⟩ := t.hS
  obtain ⟨s, hs, hV⟩ := t.hV
  have hv := t.top
  have hm := t.m0
  rw [Nat.le_div_iff_mul_le (by omega)]
  have h1 : S / V * V ≤ S := Nat.div_mul_le_self S V
  have h2 : S / V * (v1 * (4294967296 * P)) ≤ S / V * V := by
    refine Nat.mul_le_mul_left _ ?_
    rw [hV]
    have e : v1 * (4294967296 * P) = v1 * 4294967296 * P := by rw [Nat.mul_assoc]
    have : v1 * 4294967296 * P ≤ (v1 * 4294967296 + v0) * P := Nat.mul_le_mul_right _ (by omega)
    omega
  have h3 : S < (u2 * 4294967296 + u1 + 1) * (4294967296 * P) := by
    rw [hS]
    have e : (u2 * 4294967296 + u1 + 1) * (4294967296 * P) = (u2 * (4294967296 * 4294967296) + u1 * 4294967296 + 4294967296) * P := by rw [← Nat.mul_assoc, Nat.add_mul (u2 * 4294967296 + u1) 1 4294967296, Nat.add_mul (u2 * 4294967296) u1 4294967296, Nat.mul_assoc u2, Nat.one_mul]
    rw [e]
    have : (u2 * (4294967296 * 4294967296) + u1 * 4294967296 + u0 + 1) * P ≤ (u2 * (4294967296 * 4294967296) + u1 * 4294967296 + 4294967296) * P := Nat.mul_le_mul_right _ (by omega)
    rw [Nat.add_mul _ 1, Nat.one_mul] at this
    omega
  have h4 : S / V * v1 * (4294967296 * P) < (u2 * 4294967296 + u1 + 1) * (4294967296 * P) := by
    rw [Nat.mul_assoc]; omega
  have := Nat.lt_of_mul_lt_mul_right h4
  omega
/-- A guess that passes the test is at most one too great. -/
theorem Tops.close (t : Tops S V P u2 u1 u0 v1 v0) (hg : g < 4294967296) (h : g * (v1 * 4294967296 + v0) ≤ u2 * (4294967296 * 4294967296) + u1 * 4294967296 + u0) : g ≤ S / V + 1 := by
  obtain ⟨r, hr, hS⟩ := t.hS
  obtain ⟨s, hs, hV⟩ := t.hV
  have hv := t.top
  have h1 : g * V ≤ (u2 * (4294967296 * 4294967296) + u1 * 4294967296 + u0) * P + g * P := by
    rw [hV, Nat.mul_add, ← Nat.mul_assoc]
    have a1 : g * (v1 * 4294967296 + v0) * P ≤ (u2 * (4294967296 * 4294967296) + u1 * 4294967296 + u0) * P := Nat.mul_le_mul_right _ h
    have a2 : g * s ≤ g * P := Nat.mul_le_mul_left _ (Nat.le_of_lt hs)
    omega
  have h2 : g * P < V := by
    rw [hV]
    have a1 : g * P < 4294967296 * P := Nat.mul_lt_mul_of_pos_right hg t.pos
    have a2 : 4294967296 * P ≤ (v1 * 4294967296 + v0) * P := Nat.mul_le_mul_right _ (by omega)
    omega
  have h3 : g * V < S + V := by omega
  rcases Nat.lt_or_ge (S / V + 1) g with hc | hc
  · exfalso
    have a1 : (S / V + 2) * V ≤ g * V := Nat.mul_le_mul_right _ hc
    have a2 := Nat.lt_div_mul_add (a := S) (b := V) t.vpos
    have a3 : (S / V + 2) * V = S / V * V + V + V := by rw [Nat.add_mul]; omega
    omega
  · exact hc
end

theorem gt_aux {A C D R u0 X : Nat} (e : X = C + D) (e2 : A = C + R) : D > R + u0 ↔ A + u0 < X := by
  subst e e2
  constructor
  · intro h1; omega
  · intro h1; omega
/-- One test and its step: 'head' is g * v1 + rest. -/
theorem guess_test {u2 u1 u0 v1 v0 g rest : Nat} (h : g * v1 + rest = u2 * 4294967296 + u1) : g * v0 > rest * 4294967296 + u0 ↔ u2 * (4294967296 * 4294967296) + u1 * 4294967296 + u0 < g * (v1 * 4294967296 + v0) :=
  gt_aux (C := g * v1 * 4294967296) (by rw [Nat.mul_add, ← Nat.mul_assoc]) (by omega)
end Go.Proofs.YtfdpbcjcinchgaaDoor
