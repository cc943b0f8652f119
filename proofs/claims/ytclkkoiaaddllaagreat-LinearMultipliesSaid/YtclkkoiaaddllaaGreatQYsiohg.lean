/- Linear: the sizes that elimination meets follow from the sizes of the first entries; the numbers of the sanity check. -/
import Derived.Test.YtclkkoiaaddllaaGreatQYridgc
namespace Go.Proofs.YtclkkoiaaddllaaGreat
open Go.RowKit
set_option linter.unusedVariables false

theorem room_of {b N m na nb : Nat} {Z : Nat → Nat → GQ} (hb : ∀ i j, i < m → j < na + nb → Bd (Z i j) b) (h : ∀ k, k + 1 < m → room b k < 2 ^ N ∧ roomf b k < 2 ^ N) : Room N m na nb Z := by
  intro c hc hr
  obtain ⟨o, P, hI⟩ := ech_inv m Z c
  obtain ⟨h1, h2⟩ := h _ hr
  exact ⟨hI.bd hb (by omega) h1, fun i k a1 a2 a3 a4 a5 => hI.fac hb (by omega) h2 a1 a2 a3 a4 a5⟩
theorem bd_i {a b : Int} {n : Nat} (ha : a.natAbs < 2 ^ n) (hb : b.natAbs < 2 ^ n) (hn : 1 ≤ n) : Bd (GQ.i a b) n := by
  refine ⟨a, b, 1, is_i a b, ha, hb, ?_⟩
  have : 2 ^ 1 ≤ 2 ^ n := Nat.pow_le_pow_right (by omega) hn
  show (1 : Int).natAbs < 2 ^ n
  simp; omega
/-- A matrix of two rows and two columns. -/
def mx2 (a b c d : GQ) : Nat → Nat → GQ := fun i j => if i = 0 then (if j = 0 then a else b) else (if j = 0 then c else d)
def kA : Nat → Nat → GQ := mx2 (GQ.i 0 0) (GQ.i 1 0) (GQ.i 1 0) (GQ.i 0 0)
def kB : Nat → Nat → GQ := mx2 (GQ.i 5 0) (GQ.i 5 0) (GQ.i 7 0) (GQ.i 7 0)
theorem kZ_bd : ∀ i j, i < 2 → j < 2 + 1 → Bd (side 2 kA kB i j) 4 := by
  intro i j hi hj
  match i, hi, j, hj with
  | 0, _, 0, _ => exact bd_i (by decide) (by decide) (by decide)
  | 0, _, 1, _ => exact bd_i (by decide) (by decide) (by decide)
  | 0, _, 2, _ => exact bd_i (by decide) (by decide) (by decide)
  | 1, _, 0, _ => exact bd_i (by decide) (by decide) (by decide)
  | 1, _, 1, _ => exact bd_i (by decide) (by decide) (by decide)
  | 1, _, 2, _ => exact bd_i (by decide) (by decide) (by decide)
theorem kroom : ∀ k, k + 1 < 2 → room 4 k < 2 ^ 100 ∧ roomf 4 k < 2 ^ 100 := by
  intro k hk
  obtain rfl : k = 0 := by omega
  exact ⟨by decide +kernel, by decide +kernel⟩
theorem kZ_room : Room 100 2 2 1 (side 2 kA kB) := room_of kZ_bd kroom
theorem kA_bd : ∀ i j, i < 2 → j < 2 + 0 → Bd (kA i j) 4 := by
  intro i j hi hj
  match i, hi, j, hj with
  | 0, _, 0, _ => exact bd_i (by decide) (by decide) (by decide)
  | 0, _, 1, _ => exact bd_i (by decide) (by decide) (by decide)
  | 1, _, 0, _ => exact bd_i (by decide) (by decide) (by decide)
  | 1, _, 1, _ => exact bd_i (by decide) (by decide) (by decide)
theorem kA_room : Room 100 2 2 0 kA := room_of kA_bd kroom
theorem kZ_r : (ech 2 (side 2 kA kB) 2).r = 2 := by decide +kernel
theorem kx00 : (ech 2 (side 2 kA kB) 2).X 0 0 = GQ.i 1 0 := by decide +kernel
theorem kx01 : (ech 2 (side 2 kA kB) 2).X 0 1 = GQ.i 0 0 := by decide +kernel
theorem kx10 : (ech 2 (side 2 kA kB) 2).X 1 0 = GQ.i 0 0 := by decide +kernel
theorem kx11 : (ech 2 (side 2 kA kB) 2).X 1 1 = GQ.i 1 0 := by decide +kernel
theorem kb00 : bps (ech 2 (side 2 kA kB) 2).X (bsol (ech 2 (side 2 kA kB) 2).X 2 0) 2 1 0 0 = GQ.i 5 0 := by decide +kernel
theorem kb10 : bps (ech 2 (side 2 kA kB) 2).X (bsol (ech 2 (side 2 kA kB) 2).X 2 1) 2 0 0 0 = GQ.i 7 0 := by decide +kernel
theorem kb11 : bps (ech 2 (side 2 kA kB) 2).X (bsol (ech 2 (side 2 kA kB) 2).X 2 1) 2 0 0 1 = GQ.i 7 0 := by decide +kernel
theorem ks1 : bsol (ech 2 (side 2 kA kB) 2).X 2 1 1 0 = GQ.i 5 0 := by decide +kernel
theorem ks2 : bsol (ech 2 (side 2 kA kB) 2).X 2 2 1 0 = GQ.i 5 0 := by decide +kernel
theorem ks3 : bsol (ech 2 (side 2 kA kB) 2).X 2 2 0 0 = GQ.i 7 0 := by decide +kernel
theorem kroomB : RoomB 4 4 4 4 2 1 (ech 2 (side 2 kA kB) 2).X := by
  refine ⟨fun i l hi hl => ?_, fun k j s hk hj hs => ?_, fun k j hk hj => ?_, fun k i j hk h1 h2 hj => ?_, by omega, by omega, by omega⟩
  · match i, hi, l, hl with
    | 0, _, 0, _ => rw [kx00]; exact bd_i (by decide) (by decide) (by decide)
    | 0, _, 1, _ => rw [kx01]; exact bd_i (by decide) (by decide) (by decide)
    | 1, _, 0, _ => rw [kx10]; exact bd_i (by decide) (by decide) (by decide)
    | 1, _, 1, _ => rw [kx11]; exact bd_i (by decide) (by decide) (by decide)
  · obtain rfl : k = 1 := by omega
    obtain rfl : s = 0 := by omega
    obtain rfl : j = 0 := by omega
    show Bd (bps _ _ 2 0 0 0) 4
    rw [kb10]; exact bd_i (by decide) (by decide) (by decide)
  · obtain rfl : j = 0 := by omega
    match k, hk with
    | 0, _ => show Bd (bps _ _ 2 1 0 0) 4; rw [kb00]; exact bd_i (by decide) (by decide) (by decide)
    | 1, _ => show Bd (bps _ _ 2 0 0 1) 4; rw [kb11]; exact bd_i (by decide) (by decide) (by decide)
  · obtain rfl : j = 0 := by omega
    match k, hk with
    | 0, _ => omega
    | 1, _ => obtain rfl : i = 1 := by omega
              rw [ks1]; exact bd_i (by decide) (by decide) (by decide)
    | 2, _ =>
      match i, h2 with
      | 0, _ => rw [ks3]; exact bd_i (by decide) (by decide) (by decide)
      | 1, _ => rw [ks2]; exact bd_i (by decide) (by decide) (by decide)
theorem Bd.up {q : GQ} {m n : Nat} (h : Bd q m) (hn : m ≤ n) : Bd q n := by
  obtain ⟨a, b, d, I, Z⟩ := h
  exact ⟨a, b, d, I, Z.mono hn⟩
theorem kroomB' : RoomB 100 4 4 4 2 1 (ech 2 (side 2 kA kB) 2).X :=
  ⟨fun i l hi hl => (kroomB.a i l hi hl).up (by omega), kroomB.s, kroomB.d, kroomB.x, by omega, by omega, by omega⟩
theorem kdet : detv 2 kA = GQ.i (-1) 0 := by decide +kernel
theorem kp (k : Nat) (hk : k ≤ 2) : Bd (pprod (ech 2 kA 2).X k) 64 := by
  match k, hk with
  | 0, _ => rw [show pprod (ech 2 kA 2).X 0 = GQ.i 1 0 by decide +kernel]; exact bd_i (by decide) (by decide) (by decide)
  | 1, _ => rw [show pprod (ech 2 kA 2).X 1 = GQ.i 1 0 by decide +kernel]; exact bd_i (by decide) (by decide) (by decide)
  | 2, _ => rw [show pprod (ech 2 kA 2).X 2 = GQ.i 1 0 by decide +kernel]; exact bd_i (by decide) (by decide) (by decide)
theorem kd (i : Nat) (hi : i < 2) : Bd ((ech 2 kA 2).X i i) 64 := by
  match i, hi with
  | 0, _ => rw [show (ech 2 kA 2).X 0 0 = GQ.i 1 0 by decide +kernel]; exact bd_i (by decide) (by decide) (by decide)
  | 1, _ => rw [show (ech 2 kA 2).X 1 1 = GQ.i 1 0 by decide +kernel]; exact bd_i (by decide) (by decide) (by decide)
end Go.Proofs.YtclkkoiaaddllaaGreat
