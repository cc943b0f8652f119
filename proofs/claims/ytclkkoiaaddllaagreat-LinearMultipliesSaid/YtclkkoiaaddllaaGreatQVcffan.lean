/- Linear: determinants of two and three rows. -/
import Derived.Test.YtclkkoiaaddllaaGreatQVblnbm
namespace Go.Proofs.YtclkkoiaaddllaaGreat
set_option linter.unusedVariables false
set_option linter.unusedSimpArgs false

namespace GQ
theorem zero_add' (x : GQ) : i 0 0 + x = x := by ext <;> simp only [i_re, i_im, add_re, add_im] <;> grind
theorem zero_neg' {x : GQ} (h : i 0 0 = -x) : i 0 0 = x := by
  have a := congrArg re h; have b := congrArg im h
  simp only [neg_re, neg_im, i_re, i_im] at a b
  ext <;> simp only [i_re, i_im] <;> grind
end GQ
def D2 (X : Nat → Nat → GQ) : GQ := X 0 0 * X 1 1 - X 0 1 * X 1 0
def D3 (X : Nat → Nat → GQ) : GQ := X 0 0 * (X 1 1 * X 2 2 - X 1 2 * X 2 1) - X 0 1 * (X 1 0 * X 2 2 - X 1 2 * X 2 0) + X 0 2 * (X 1 0 * X 2 1 - X 1 1 * X 2 0)
def d3 (a b c d e f g h i : GQ) : GQ := a * (e * i - f * h) - b * (d * i - f * g) + c * (d * h - e * g)
set_option maxRecDepth 20000 in
theorem d3a (d e f g h i A B C D E F G H I : GQ) : d3 A B C (d*A+e*D+f*G) (d*B+e*E+f*H) (d*C+e*F+f*I) (g*A+h*D+i*G) (g*B+h*E+i*H) (g*C+h*F+i*I) = (e * i - f * h) * d3 A B C D E F G H I := by
  unfold d3; (ext <;> simp only [GQ.add_re, GQ.add_im, GQ.sub_re, GQ.sub_im, GQ.mul_re, GQ.mul_im, GQ.neg_re, GQ.neg_im, GQ.i_re, GQ.i_im] <;> grind)
set_option maxRecDepth 20000 in
theorem d3b (d e f g h i A B C D E F G H I : GQ) : d3 D E F (d*A+e*D+f*G) (d*B+e*E+f*H) (d*C+e*F+f*I) (g*A+h*D+i*G) (g*B+h*E+i*H) (g*C+h*F+i*I) = (f * g - d * i) * d3 A B C D E F G H I := by
  unfold d3; (ext <;> simp only [GQ.add_re, GQ.add_im, GQ.sub_re, GQ.sub_im, GQ.mul_re, GQ.mul_im, GQ.neg_re, GQ.neg_im, GQ.i_re, GQ.i_im] <;> grind)
set_option maxRecDepth 20000 in
theorem d3c (d e f g h i A B C D E F G H I : GQ) : d3 G H I (d*A+e*D+f*G) (d*B+e*E+f*H) (d*C+e*F+f*I) (g*A+h*D+i*G) (g*B+h*E+i*H) (g*C+h*F+i*I) = (d * h - e * g) * d3 A B C D E F G H I := by
  unfold d3; (ext <;> simp only [GQ.add_re, GQ.add_im, GQ.sub_re, GQ.sub_im, GQ.mul_re, GQ.mul_im, GQ.neg_re, GQ.neg_im, GQ.i_re, GQ.i_im] <;> grind)
set_option maxRecDepth 20000 in
theorem d3l (a b c A B C D E F G H I d e f g h i : GQ) : d3 (a*A+b*D+c*G) (a*B+b*E+c*H) (a*C+b*F+c*I) d e f g h i = a * d3 A B C d e f g h i + b * d3 D E F d e f g h i + c * d3 G H I d e f g h i := by
  unfold d3; (ext <;> simp only [GQ.add_re, GQ.add_im, GQ.sub_re, GQ.sub_im, GQ.mul_re, GQ.mul_im, GQ.neg_re, GQ.neg_im, GQ.i_re, GQ.i_im] <;> grind)
theorem d3_mul (a b c d e f g h i A B C D E F G H I : GQ) : d3 (a*A+b*D+c*G) (a*B+b*E+c*H) (a*C+b*F+c*I) (d*A+e*D+f*G) (d*B+e*E+f*H) (d*C+e*F+f*I) (g*A+h*D+i*G) (g*B+h*E+i*H) (g*C+h*F+i*I) = d3 a b c d e f g h i * d3 A B C D E F G H I := by
  rw [d3l, d3a, d3b, d3c]
  generalize d3 A B C D E F G H I = z
  unfold d3; (ext <;> simp only [GQ.add_re, GQ.add_im, GQ.sub_re, GQ.sub_im, GQ.mul_re, GQ.mul_im, GQ.neg_re, GQ.neg_im, GQ.i_re, GQ.i_im] <;> grind)
theorem D2_mul (X Y : Nat → Nat → GQ) : D2 (fun i j => psum X Y i j 2) = D2 X * D2 Y := by
  simp only [D2, psum, GQ.zero_add']
  (ext <;> simp only [GQ.add_re, GQ.add_im, GQ.sub_re, GQ.sub_im, GQ.mul_re, GQ.mul_im, GQ.neg_re, GQ.neg_im, GQ.i_re, GQ.i_im] <;> grind)
theorem D3_mul (X Y : Nat → Nat → GQ) : D3 (fun i j => psum X Y i j 3) = D3 X * D3 Y := by
  have := d3_mul (X 0 0) (X 0 1) (X 0 2) (X 1 0) (X 1 1) (X 1 2) (X 2 0) (X 2 1) (X 2 2) (Y 0 0) (Y 0 1) (Y 0 2) (Y 1 0) (Y 1 1) (Y 1 2) (Y 2 0) (Y 2 1) (Y 2 2)
  simp only [D3, psum, GQ.zero_add']
  exact this
theorem D2_swap (X : Nat → Nat → GQ) {k r : Nat} (hk : k < 2) (hr : r ≤ k) : D2 (fun i => X (swp k r i)) = if k = r then D2 X else -D2 X := by
  match k, hk, r, hr with
  | 0, _, 0, _ => simp only [D2, swp]; simp
  | 1, _, 0, _ => simp only [D2, swp]; simp; (ext <;> simp only [GQ.add_re, GQ.add_im, GQ.sub_re, GQ.sub_im, GQ.mul_re, GQ.mul_im, GQ.neg_re, GQ.neg_im, GQ.i_re, GQ.i_im] <;> grind)
  | 1, _, 1, _ => simp only [D2, swp]; simp
theorem D3_swap (X : Nat → Nat → GQ) {k r : Nat} (hk : k < 3) (hr : r ≤ k) : D3 (fun i => X (swp k r i)) = if k = r then D3 X else -D3 X := by
  match k, hk, r, hr with
  | 0, _, 0, _ => simp only [D3, swp]; simp
  | 1, _, 0, _ => simp only [D3, swp]; simp; (ext <;> simp only [GQ.add_re, GQ.add_im, GQ.sub_re, GQ.sub_im, GQ.mul_re, GQ.mul_im, GQ.neg_re, GQ.neg_im, GQ.i_re, GQ.i_im] <;> grind)
  | 1, _, 1, _ => simp only [D3, swp]; simp
  | 2, _, 0, _ => simp only [D3, swp]; simp; (ext <;> simp only [GQ.add_re, GQ.add_im, GQ.sub_re, GQ.sub_im, GQ.mul_re, GQ.mul_im, GQ.neg_re, GQ.neg_im, GQ.i_re, GQ.i_im] <;> grind)
  | 2, _, 1, _ => simp only [D3, swp]; simp; (ext <;> simp only [GQ.add_re, GQ.add_im, GQ.sub_re, GQ.sub_im, GQ.mul_re, GQ.mul_im, GQ.neg_re, GQ.neg_im, GQ.i_re, GQ.i_im] <;> grind)
  | 2, _, 2, _ => simp only [D3, swp]; simp
theorem D2_clr (X : Nat → Nat → GQ) {r c : Nat} (hr : r < 2) : D2 (clr X r c) = D2 X := by
  match r, hr with
  | 0, _ =>
    simp only [D2, clr]; simp
    generalize X 1 c / X 0 c = f
    (ext <;> simp only [GQ.add_re, GQ.add_im, GQ.sub_re, GQ.sub_im, GQ.mul_re, GQ.mul_im, GQ.neg_re, GQ.neg_im, GQ.i_re, GQ.i_im] <;> grind)
  | 1, _ => simp only [D2, clr]; simp
theorem D3_clr (X : Nat → Nat → GQ) {r c : Nat} (hr : r < 3) : D3 (clr X r c) = D3 X := by
  match r, hr with
  | 0, _ =>
    simp only [D3, clr]; simp
    generalize X 1 c / X 0 c = f; generalize X 2 c / X 0 c = g
    (ext <;> simp only [GQ.add_re, GQ.add_im, GQ.sub_re, GQ.sub_im, GQ.mul_re, GQ.mul_im, GQ.neg_re, GQ.neg_im, GQ.i_re, GQ.i_im] <;> grind)
  | 1, _ =>
    simp only [D3, clr]; simp
    generalize X 2 c / X 1 c = f
    (ext <;> simp only [GQ.add_re, GQ.add_im, GQ.sub_re, GQ.sub_im, GQ.mul_re, GQ.mul_im, GQ.neg_re, GQ.neg_im, GQ.i_re, GQ.i_im] <;> grind)
  | 2, _ => simp only [D3, clr]; simp
/-- A number that changes its sign with each exchange of rows and else stays. -/
theorem ech_sign {m : Nat} {D : (Nat → Nat → GQ) → GQ} (hs : ∀ X k r, k < m → r ≤ k → D (fun i => X (swp k r i)) = if k = r then D X else -D X) (hc : ∀ X r c, r < m → D (clr X r c) = D X) (X : Nat → Nat → GQ) : ∀ c, D (ech m X c).X = if (ech m X c).odd then -D X else D X
  | 0 => rfl
  | c + 1 => by
    have ih := ech_sign hs hc X c
    show D (estep m c (ech m X c)).X = if (estep m c (ech m X c)).odd then -D X else D X
    cases hf : fp (ech m X c).X c (m - (ech m X c).r) (ech m X c).r with
    | none => rw [estep_none hf]; exact ih
    | some k =>
      obtain ⟨h1, h2, h3, h4⟩ := of_fp_some hf
      rw [estep_some hf]
      show D (clr (fun i => (ech m X c).X (swp k (ech m X c).r i)) (ech m X c).r c) = if ((ech m X c).odd ^^ decide (k ≠ (ech m X c).r)) then -D X else D X
      rw [hc _ _ _ (by omega), hs _ _ _ (by omega) h1, ih]
      by_cases e : k = (ech m X c).r
      · rw [if_pos e]; simp [e]
      · rw [if_neg e]
        cases (ech m X c).odd
        · simp [e]
        · simp [e]; (ext <;> simp only [GQ.add_re, GQ.add_im, GQ.sub_re, GQ.sub_im, GQ.mul_re, GQ.mul_im, GQ.neg_re, GQ.neg_im, GQ.i_re, GQ.i_im] <;> grind)
theorem ech_low (m : Nat) (X : Nat → Nat → GQ) : ∀ c, (ech m X c).r = c → ∀ i j, i < m → j < i → j < c → (ech m X c).X i j = GQ.i 0 0
  | 0, _, i, j, _, _, h => by omega
  | c + 1, h, i, j, hi, hji, hjc => by
    have hle := ech_le m X c
    by_cases hic : c + 1 ≤ i
    · obtain ⟨o, P, hI⟩ := ech_inv m X (c + 1)
      exact hI.z i j (by omega) hi hjc
    have e : ech m X (c + 1) = estep m c (ech m X c) := rfl
    rw [e] at h ⊢
    cases hf : fp (ech m X c).X c (m - (ech m X c).r) (ech m X c).r with
    | none => rw [estep_none hf] at h; omega
    | some k =>
      rw [estep_some hf] at h ⊢
      have hr : (ech m X c).r = c := by have h' : (ech m X c).r + 1 = c + 1 := h; omega
      obtain ⟨h1, h2, h3, h4⟩ := of_fp_some hf
      show clr (fun i => (ech m X c).X (swp k (ech m X c).r i)) (ech m X c).r c i j = _
      rw [hr] at h1 ⊢
      unfold clr
      rw [if_neg (by omega)]
      show (ech m X c).X (swp k c i) j = _
      by_cases e2 : i = c
      · subst e2
        rw [swp_r]
        obtain ⟨o, P, hI⟩ := ech_inv m X i
        exact hI.z k j (by omega) (by omega) (by omega)
      · rw [swp_ne (by omega) e2]; exact ech_low m X c hr i j hi hji (by omega)
theorem ech_last {m : Nat} (X : Nat → Nat → GQ) (h : (ech m X m).r < m) : ∀ j, j < m → (ech m X m).X (m - 1) j = GQ.i 0 0 := fun j hj => by
  obtain ⟨o, P, hI⟩ := ech_inv m X m
  exact hI.z _ j (by omega) (by omega) hj
theorem ech_full {m : Nat} (X : Nat → Nat → GQ) (h : ¬ (ech m X m).r < m) : (ech m X m).r = m := by
  have := ech_le m X m; omega
theorem detv2 (X : Nat → Nat → GQ) : detv 2 X = D2 X := by
  have hs := ech_sign (m := 2) (D := D2) (fun X k r h1 h2 => D2_swap X h1 h2) (fun X r c h => D2_clr X h) X 2
  unfold detv
  by_cases h : (ech 2 X 2).r < 2
  · rw [if_pos h]
    have l0 := ech_last X h 0 (by omega); have l1 := ech_last X h 1 (by omega)
    simp only [Nat.reduceSub] at l0 l1
    have hz : D2 (ech 2 X 2).X = GQ.i 0 0 := by simp only [D2, l0, l1]; (ext <;> simp only [GQ.add_re, GQ.add_im, GQ.sub_re, GQ.sub_im, GQ.mul_re, GQ.mul_im, GQ.neg_re, GQ.neg_im, GQ.i_re, GQ.i_im] <;> grind)
    rw [hz] at hs
    split at hs
    · exact GQ.zero_neg' hs
    · exact hs
  · rw [if_neg h]
    have l := ech_low 2 X 2 (ech_full X h) 1 0 (by omega) (by omega) (by omega)
    have hp : pprod (ech 2 X 2).X 2 = D2 (ech 2 X 2).X := by simp only [D2, pprod, l]; (ext <;> simp only [GQ.add_re, GQ.add_im, GQ.sub_re, GQ.sub_im, GQ.mul_re, GQ.mul_im, GQ.neg_re, GQ.neg_im, GQ.i_re, GQ.i_im] <;> grind)
    rw [hp, hs]
    split
    · (ext <;> simp only [GQ.add_re, GQ.add_im, GQ.sub_re, GQ.sub_im, GQ.mul_re, GQ.mul_im, GQ.neg_re, GQ.neg_im, GQ.i_re, GQ.i_im] <;> grind)
    · rfl
theorem detv3 (X : Nat → Nat → GQ) : detv 3 X = D3 X := by
  have hs := ech_sign (m := 3) (D := D3) (fun X k r h1 h2 => D3_swap X h1 h2) (fun X r c h => D3_clr X h) X 3
  unfold detv
  by_cases h : (ech 3 X 3).r < 3
  · rw [if_pos h]
    have l0 := ech_last X h 0 (by omega); have l1 := ech_last X h 1 (by omega); have l2 := ech_last X h 2 (by omega)
    simp only [Nat.reduceSub] at l0 l1 l2
    have hz : D3 (ech 3 X 3).X = GQ.i 0 0 := by simp only [D3, l0, l1, l2]; (ext <;> simp only [GQ.add_re, GQ.add_im, GQ.sub_re, GQ.sub_im, GQ.mul_re, GQ.mul_im, GQ.neg_re, GQ.neg_im, GQ.i_re, GQ.i_im] <;> grind)
    rw [hz] at hs
    split at hs
    · exact GQ.zero_neg' hs
    · exact hs
  · rw [if_neg h]
    have l1 := ech_low 3 X 3 (ech_full X h) 1 0 (by omega) (by omega) (by omega)
    have l2 := ech_low 3 X 3 (ech_full X h) 2 0 (by omega) (by omega) (by omega)
    have l3 := ech_low 3 X 3 (ech_full X h) 2 1 (by omega) (by omega) (by omega)
    have hp : pprod (ech 3 X 3).X 3 = D3 (ech 3 X 3).X := by simp only [D3, pprod, l1, l2, l3]; (ext <;> simp only [GQ.add_re, GQ.add_im, GQ.sub_re, GQ.sub_im, GQ.mul_re, GQ.mul_im, GQ.neg_re, GQ.neg_im, GQ.i_re, GQ.i_im] <;> grind)
    rw [hp, hs]
    split
    · (ext <;> simp only [GQ.add_re, GQ.add_im, GQ.sub_re, GQ.sub_im, GQ.mul_re, GQ.mul_im, GQ.neg_re, GQ.neg_im, GQ.i_re, GQ.i_im] <;> grind)
    · rfl
/-- The sizes of all rows: row i has the size of its pivots' number. -/
theorem ech_bd {m W b : Nat} {X : Nat → Nat → GQ} {F : Nat → Nat} (hb : ∀ i j, i < m → j < W → Bd (X i j) b) (hF : ∀ k, k < m → room b k < 2 ^ F k) : ∀ c, c ≤ W → ∀ i j, i < m → j < W → Bd ((ech m X c).X i j) (F (min i (ech m X c).r))
  | 0, _, i, j, hi, hj => by
    obtain ⟨o, P, hI⟩ := ech_inv m X 0
    have h0 : (ech m X 0).r = 0 := rfl
    rw [h0, Nat.min_zero]
    exact hI.bd hb (by omega) (by rw [h0]; exact hF 0 (by omega)) i j (by omega) hi hj
  | c + 1, hc, i, j, hi, hj => by
    by_cases hic : (ech m X (c + 1)).r ≤ i
    · obtain ⟨o, P, hI⟩ := ech_inv m X (c + 1)
      rw [Nat.min_eq_right hic]
      exact hI.bd hb hc (hF _ (by omega)) i j hic hi hj
    have ih := ech_bd hb hF c (by omega)
    have e : ech m X (c + 1) = estep m c (ech m X c) := rfl
    rw [e] at hic ⊢
    cases hf : fp (ech m X c).X c (m - (ech m X c).r) (ech m X c).r with
    | none => rw [estep_none hf]; exact ih i j hi hj
    | some k =>
      rw [estep_some hf] at hic ⊢
      obtain ⟨h1, h2, h3, h4⟩ := of_fp_some hf
      have hic' : ¬ (ech m X c).r + 1 ≤ i := hic
      show Bd (clr (fun i => (ech m X c).X (swp k (ech m X c).r i)) (ech m X c).r c i j) (F (min i ((ech m X c).r + 1)))
      unfold clr
      rw [if_neg (by omega), show min i ((ech m X c).r + 1) = i by omega]
      by_cases e2 : i = (ech m X c).r
      · have := ih k j (by omega) hj
        rw [show min k (ech m X c).r = i by omega] at this
        subst e2; show Bd ((ech m X c).X (swp k (ech m X c).r (ech m X c).r) j) _
        rw [swp_r]; exact this
      · have := ih i j hi hj
        rw [show min i (ech m X c).r = i by omega] at this
        show Bd ((ech m X c).X (swp k (ech m X c).r i) j) _
        rw [swp_ne (by omega) e2]; exact this
theorem ech_dg {m b : Nat} {X : Nat → Nat → GQ} {F : Nat → Nat} (hb : ∀ i j, i < m → j < m → Bd (X i j) b) (hF : ∀ k, k < m → room b k < 2 ^ F k) (hmono : ∀ i j, i ≤ j → F i ≤ F j) : ∀ i j, i < m → j < m → Bd ((ech m X m).X i j) (F i) := fun i j hi hj =>
  (ech_bd hb hF m (Nat.le_refl _) i j hi hj).mono (hmono _ _ (Nat.min_le_left _ _))
/-- The sizes with which Determinant of at most three rows does. -/
def F3 : Nat → Nat := fun k => if k = 0 then 402 else if k = 1 then 1607 else 3617
theorem room200 : ∀ k, k < 3 → room 200 k < 2 ^ F3 k := by
  intro k hk
  match k, hk with
  | 0, _ => decide +kernel
  | 1, _ => decide +kernel
  | 2, _ => decide +kernel
theorem roomf200 : ∀ k, k + 1 < 3 → room 200 k < 2 ^ 2410 ∧ roomf 200 k < 2 ^ 2410 := by
  intro k hk
  match k, hk with
  | 0, _ => exact ⟨by decide +kernel, by decide +kernel⟩
  | 1, _ => exact ⟨by decide +kernel, by decide +kernel⟩
theorem F3_mono : ∀ i j, i ≤ j → F3 i ≤ F3 j := by
  intro i j h
  unfold F3
  split <;> split <;> (try split) <;> (try split) <;> omega
structure DetS (m : Nat) (X : Nat → Nat → GQ) : Prop where
  room : Room 2410 m m 0 X
  pp : ∀ k, k ≤ m → Bd (pprod (ech m X m).X k) 6000
  dg : ∀ i, i < m → Bd ((ech m X m).X i i) 6000
theorem det_s {m : Nat} {X : Nat → Nat → GQ} (hm : m ≤ 3) (hb : ∀ i j, i < m → j < m → Bd (X i j) 200) : DetS m X := by
  have hd : ∀ i, i < m → Bd ((ech m X m).X i i) (F3 i) := fun i hi => ech_dg hb (fun k hk => room200 k (by omega)) F3_mono i i hi hi
  have p0 : Bd (pprod (ech m X m).X 0) 64 := Bd.i (by omega) (by omega) (by omega) (by omega)
  refine ⟨room_of (by simpa using hb) fun k hk => roomf200 k (by omega), fun k hk => ?_, fun i hi => (hd i hi).mono ?_⟩
  · have p1 : 1 ≤ m → Bd (pprod (ech m X m).X 1) (64 + 402 + 1) := fun h => p0.mul (hd 0 (by omega))
    have p2 : 2 ≤ m → Bd (pprod (ech m X m).X 2) (64 + 402 + 1 + 1607 + 1) := fun h => (p1 (by omega)).mul (hd 1 (by omega))
    have p3 : 3 ≤ m → Bd (pprod (ech m X m).X 3) (64 + 402 + 1 + 1607 + 1 + 3617 + 1) := fun h => (p2 (by omega)).mul (hd 2 (by omega))
    rcases (by omega : k = 0 ∨ k = 1 ∨ k = 2 ∨ k = 3) with rfl | rfl | rfl | rfl
    · exact p0.mono (by omega)
    · exact (p1 hk).mono (by omega)
    · exact (p2 hk).mono (by omega)
    · exact (p3 hk).mono (by omega)
  · have : F3 i ≤ F3 2 := F3_mono i 2 (by omega)
    have e : F3 2 = 3617 := rfl
    omega
theorem detS_ok {A : Option Addr} {B O m c : Nat} {R : Nat → Rw} {E : Nat → Nat → En} {X : Nat → Nat → GQ} {w : World} {vb : Nat → Nat → Bool} (h : Mem w A B O m R E) (hvb : ∀ i j, i < m → j < (R i).n → VB w (E i j).v (vb i j)) (hM : IsM m R vb) (hn : ∀ i, i < m → (R i).n = m)
    (hv : ∀ i j, i < m → j < m → GV w (E i j).v (X i j) 12800) (hm : m ≤ 3) (hb : ∀ i j, i < m → j < m → Bd (X i j) 200) :
    Calls Tryz.prog 12 #[.slice A m c] w fun e w' => ∃ v, e = .returned (.tuple #[v, .int .i64 0]) ∧ GV w' v (detv m X) 12800 ∧ Ext w w' :=
  det_ok (N := 2410) (N2 := 6000) h hvb hM hn hv (by omega) (det_s hm hb).room (fun _ => (det_s hm hb).pp) (det_s hm hb).dg (by omega) (by omega)
theorem D2_bd {X : Nat → Nat → GQ} {b : Nat} (h : ∀ i j, i < 2 → j < 2 → Bd (X i j) b) : Bd (D2 X) (8 * b + 20) :=
  (((h 0 0 (by omega) (by omega)).mul (h 1 1 (by omega) (by omega))).sub ((h 0 1 (by omega) (by omega)).mul (h 1 0 (by omega) (by omega)))).mono (by omega)
theorem D3_bd {X : Nat → Nat → GQ} {b : Nat} (h : ∀ i j, i < 3 → j < 3 → Bd (X i j) b) : Bd (D3 X) (18 * b + 60) := by
  have t : ∀ a b' c d, a < 3 → b' < 3 → c < 3 → d < 3 → ∀ a' c' e' f', a' < 3 → c' < 3 → e' < 3 → f' < 3 → Bd (X a b' * X c d - X a' c' * X e' f') (4 * b + 3) := fun a b' c d h1 h2 h3 h4 a' c' e' f' h5 h6 h7 h8 => (((h a b' h1 h2).mul (h c d h3 h4)).sub ((h a' c' h5 h6).mul (h e' f' h7 h8))).mono (by omega)
  have x := (((h 0 0 (by omega) (by omega)).mul (t 1 1 2 2 (by omega) (by omega) (by omega) (by omega) 1 2 2 1 (by omega) (by omega) (by omega) (by omega))).sub ((h 0 1 (by omega) (by omega)).mul (t 1 0 2 2 (by omega) (by omega) (by omega) (by omega) 1 2 2 0 (by omega) (by omega) (by omega) (by omega)))).add ((h 0 2 (by omega) (by omega)).mul (t 1 0 2 1 (by omega) (by omega) (by omega) (by omega) 1 1 2 0 (by omega) (by omega) (by omega) (by omega)))
  exact x.mono (by omega)
theorem detv_bd {m : Nat} {X : Nat → Nat → GQ} (hm : m = 2 ∨ m = 3) (h : ∀ i j, i < m → j < m → Bd (X i j) 32) : Bd (detv m X) 700 := by
  rcases hm with rfl | rfl
  · rw [detv2]; exact (D2_bd h).mono (by omega)
  · rw [detv3]; exact (D3_bd h).mono (by omega)
theorem detv_mul {m : Nat} (X Y : Nat → Nat → GQ) (hm : m = 2 ∨ m = 3) : detv m (fun i j => psum X Y i j m) = detv m X * detv m Y := by
  rcases hm with rfl | rfl
  · rw [detv2, detv2, detv2]; exact D2_mul X Y
  · rw [detv3, detv3, detv3]; exact D3_mul X Y
theorem detv_swp {m : Nat} (X : Nat → Nat → GQ) (hm : m = 2 ∨ m = 3) {i : Nat} (hi : i + 1 < m) : detv m (fun k => X (swp (i + 1) i k)) = GQ.i 0 0 - detv m X := by
  rcases hm with rfl | rfl
  · rw [detv2, detv2, D2_swap X (by omega) (by omega), if_neg (by omega)]; (ext <;> simp only [GQ.add_re, GQ.add_im, GQ.sub_re, GQ.sub_im, GQ.mul_re, GQ.mul_im, GQ.neg_re, GQ.neg_im, GQ.i_re, GQ.i_im] <;> grind)
  · rw [detv3, detv3, D3_swap X (by omega) (by omega), if_neg (by omega)]; (ext <;> simp only [GQ.add_re, GQ.add_im, GQ.sub_re, GQ.sub_im, GQ.mul_re, GQ.mul_im, GQ.neg_re, GQ.neg_im, GQ.i_re, GQ.i_im] <;> grind)
theorem psum_bd {X Y : Nat → Nat → GQ} {m : Nat} (hX : ∀ i j, i < m → j < m → Bd (X i j) 32) (hY : ∀ i j, i < m → j < m → Bd (Y i j) 32) (hm : m ≤ 3) {i j : Nat} (hi : i < m) (hj : j < m) : ∀ s, s ≤ m → Bd (psum X Y i j s) (1 + 66 * s)
  | 0, _ => ⟨0, 0, 1, is_i 0 0, by decide, by decide, by decide⟩
  | s + 1, hs => ((psum_bd hX hY hm hi hj s (by omega)).add ((hX i s hi (by omega)).mul (hY s j (by omega) hj))).mono (by omega)
end Go.Proofs.YtclkkoiaaddllaaGreat
