/- Linear: the sizes of matrices of at most six rows; the reference's rank and determinant are the program's. -/
import Derived.Test.YtclkkoiaaddllaaGreatQVjjgme
import Derived.Test.YtclkkoiaaddllaaGreatQVelhpc
namespace Go.Proofs.YtclkkoiaaddllaaGreat
set_option linter.unusedVariables false
set_option linter.unusedSimpArgs false

theorem small_room : ∀ k, k ≤ 6 → roomp 32 k < 2 ^ 2720 ∧ roomd 32 k < 2 ^ 2320 := by
  intro k hk
  match k, hk with
  | 0, _ => exact ⟨by decide +kernel, by decide +kernel⟩
  | 1, _ => exact ⟨by decide +kernel, by decide +kernel⟩
  | 2, _ => exact ⟨by decide +kernel, by decide +kernel⟩
  | 3, _ => exact ⟨by decide +kernel, by decide +kernel⟩
  | 4, _ => exact ⟨by decide +kernel, by decide +kernel⟩
  | 5, _ => exact ⟨by decide +kernel, by decide +kernel⟩
  | 6, _ => exact ⟨by decide +kernel, by decide +kernel⟩
theorem small_room5 : ∀ k, k < 6 → room 32 k < 2 ^ 2340 := by
  intro k hk
  match k, hk with
  | 0, _ => decide +kernel
  | 1, _ => decide +kernel
  | 2, _ => decide +kernel
  | 3, _ => decide +kernel
  | 4, _ => decide +kernel
  | 5, _ => decide +kernel
theorem small_room5' : ∀ k, k < 6 → room 32 k < 2 ^ 2720 := by
  intro k hk
  match k, hk with
  | 0, _ => decide +kernel
  | 1, _ => decide +kernel
  | 2, _ => decide +kernel
  | 3, _ => decide +kernel
  | 4, _ => decide +kernel
  | 5, _ => decide +kernel
theorem small_roomf : ∀ k, k < 5 → roomf 32 k < 2 ^ 2340 := by
  intro k hk
  match k, hk with
  | 0, _ => decide +kernel
  | 1, _ => decide +kernel
  | 2, _ => decide +kernel
  | 3, _ => decide +kernel
  | 4, _ => decide +kernel
theorem room6 {m n : Nat} {X : Nat → Nat → GQ} (hm : m ≤ 6) (hb : ∀ i j, i < m → j < n → Bd (X i j) 32) : Room 2340 m n 0 X :=
  room_of (b := 32) (by simpa using hb) fun k hk => ⟨small_room5 k (by omega), small_roomf k (by omega)⟩
theorem roomR6 {m n : Nat} {X : Nat → Nat → GQ} (hm : m ≤ 6) (hb : ∀ i j, i < m → j < n → Bd (X i j) 32) : RoomR 2720 2320 m n X := by
  refine ⟨fun c hc => ?_, fun c hc => ?_⟩
  · obtain ⟨o, P, h⟩ := rech_inv m X c
    have hrm := h.inv.rm
    refine h.bd hb hc (fun hr => small_room5' _ (by omega)) (small_room _ (by omega)).1
  · obtain ⟨o, P, h⟩ := rech_inv m X c
    have hrm := h.inv.rm
    have hd := h.bd_det hb hc (small_room _ (by omega)).2
    rw [h.dd]
    split
    · exact hd.neg
    · exact hd
theorem ech_keep (m : Nat) (X : Nat → Nat → GQ) (c : Nat) : ∀ d, c ≤ d → ∀ i, i < (ech m X c).r → (ech m X d).X i = (ech m X c).X i ∧ (ech m X c).r ≤ (ech m X d).r
  | 0, hd, i, hi => by rw [show c = 0 by omega] at hi ⊢; exact ⟨rfl, Nat.le_refl _⟩
  | d + 1, hd, i, hi => by
    by_cases e : c = d + 1
    · rw [e]; exact ⟨rfl, Nat.le_refl _⟩
    · obtain ⟨h1, h2⟩ := ech_keep m X c d (by omega) i hi
      have es : ech m X (d + 1) = estep m d (ech m X d) := rfl
      rw [es, ← h1]
      cases hf : fp (ech m X d).X d (m - (ech m X d).r) (ech m X d).r with
      | none => rw [estep_none hf]; exact ⟨rfl, h2⟩
      | some k =>
        obtain ⟨k1, k2, k3, k4⟩ := of_fp_some hf
        rw [estep_some hf]
        refine ⟨?_, by show (ech m X c).r ≤ (ech m X d).r + 1; omega⟩
        funext j
        show clr (fun i => (ech m X d).X (swp k (ech m X d).r i)) (ech m X d).r d i j = _
        unfold clr
        rw [if_neg (by omega)]
        show (ech m X d).X (swp k (ech m X d).r i) j = _
        rw [swp_ne (by omega) (by omega)]
theorem ech_up (m : Nat) (X : Nat → Nat → GQ) (c : Nat) : ∀ e, (ech m X (c + e)).r ≤ (ech m X c).r + e
  | 0 => Nat.le_refl _
  | e + 1 => by
    have ih := ech_up m X c e
    show (estep m (c + e) (ech m X (c + e))).r ≤ _
    cases hf : fp (ech m X (c + e)).X (c + e) (m - (ech m X (c + e)).r) (ech m X (c + e)).r with
    | none => rw [estep_none hf]; omega
    | some k => rw [estep_some hf]; show (ech m X (c + e)).r + 1 ≤ _; omega
theorem ech_full_at {m : Nat} {X : Nat → Nat → GQ} (h : ¬ (ech m X m).r < m) {k : Nat} (hk : k ≤ m) : (ech m X k).r = k := by
  have h1 := ech_le' m X k
  have h2 := ech_up m X k (m - k)
  rw [show k + (m - k) = m by omega] at h2
  omega
/-- The product of the pivots so far is a determinant. -/
theorem pprod_det {m : Nat} {X : Nat → Nat → GQ} (h : ¬ (ech m X m).r < m) {k : Nat} (hk : k ≤ m) : ∃ o P, RInv m X k (ech m X k) (rech m X k) o P ∧ pprod (ech m X m).X k = det P (ech m X k).q := by
  obtain ⟨o, P, hI⟩ := rech_inv m X k
  have hr := ech_full_at h hk
  refine ⟨o, P, hI, ?_⟩
  rw [← hI.pp hr]
  exact pprod_congr fun i hi => by rw [(ech_keep m X k m hk i (by omega)).1]
theorem pp6 {m : Nat} {X : Nat → Nat → GQ} (hm : m ≤ 6) (hb : ∀ i j, i < m → j < m → Bd (X i j) 32) (h : ¬ (ech m X m).r < m) (k : Nat) (hk : k ≤ m) : Bd (pprod (ech m X m).X k) 2340 := by
  obtain ⟨o, P, hI, he⟩ := pprod_det h hk
  have hrm := hI.inv.rm
  rw [he]
  exact (hI.bd_det hb hk (small_room _ (by omega)).2).mono (by omega)
theorem dg6 {m : Nat} {X : Nat → Nat → GQ} (hm : m ≤ 6) (hb : ∀ i j, i < m → j < m → Bd (X i j) 32) (i : Nat) (hi : i < m) : Bd ((ech m X m).X i i) 2340 :=
  ech_dg (F := fun _ => 2340) hb (fun k hk => small_room5 k (by omega)) (fun _ _ _ => Nat.le_refl _) i i hi hi
theorem rech_r (m : Nat) (X : Nat → Nat → GQ) (c : Nat) : (rech m X c).r = (ech m X c).r := by
  obtain ⟨o, P, h⟩ := rech_inv m X c
  exact h.re
theorem rdet_detv (m : Nat) (X : Nat → Nat → GQ) : (if (rech m X m).r < m ∨ (rech m X m).r < m then GQ.i 0 0 else (rech m X m).d) = detv m X := by
  unfold detv
  rw [rech_r]
  by_cases h : (ech m X m).r < m
  · rw [if_pos (.inl h), if_pos h]
  · rw [if_neg (by omega), if_neg h]
    obtain ⟨o, P, hI, he⟩ := pprod_det h (Nat.le_refl m)
    rw [he, hI.dd, GQ.zero_sub']
end Go.Proofs.YtclkkoiaaddllaaGreat
