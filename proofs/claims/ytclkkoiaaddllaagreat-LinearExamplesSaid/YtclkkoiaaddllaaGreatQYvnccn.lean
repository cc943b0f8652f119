/- Linear: the fixed cases, each call by itself. -/
import Derived.Test.YtclkkoiaaddllaaGreatQYtkoad
import Derived.Test.YtclkkoiaaddllaaGreatQYudamh
namespace Go.Proofs.YtclkkoiaaddllaaGreat
open Go.RowKit
set_option linter.unusedVariables false

theorem vb_zero2 (w : World) : VB w (gv false none 0 0 false none 0 0 false none 0 0) false := fun w' _ =>
  ⟨eValid_Z _ 0 0 0 w' (RG.mk (RI.zero _) (RI.zero _) (RI.zero _)) lim0 lim0 lim0 (Lib.hid rfl), qValid_Z _ 0 0 0 w' (RG.mk (RI.zero _) (RI.zero _) (RI.zero _)) lim0 lim0 lim0 (Lib.hid rfl)⟩
theorem mem0 (w : World) (A : Option Addr) : Mem w A 0 0 0 (fun _ => nilRw) (fun _ _ => zEn) := ⟨fun h => absurd h (by omega), fun i hi => absurd hi (by omega), fun i hi => absurd hi (by omega), fun i j hi => absurd hi (by omega), by omega, fun i hi => absurd hi (by omega)⟩
theorem isM0 (vb : Nat → Nat → Bool) : IsM 0 (fun _ => nilRw) vb := ⟨by omega, by unfold wd; simp, fun i hi => absurd hi (by omega), fun i j hi => absurd hi (by omega)⟩
theorem mem_of {W : World} {G m : Nat} {RX : Nat → Rw} {E : Nat → Nat → En} (hx : Blk W G 37 (mxc m RX).toArray) (hr : ∀ i, i < m → (RX i).o = 0 ∧ (0 < (RX i).n → (RX i).A = some ⟨(RX i).b, 0, none⟩) ∧ Blk W (RX i).b 32 (rowc (RX i).n (E i)).toArray ∧ (RX i).n ≤ 1000) (hm : m ≤ 1000) :
    Mem W (some ⟨G, 0, none⟩) G 0 m RX E := by
  refine ⟨fun _ => rfl, fun i hi => by rw [Nat.zero_add, hx.cell, mxc_at hi], fun i hi hn => ?_, fun i j hi hj t u hu => ?_, by omega, fun i hi => by have := (hr i hi).2.2.2; omega⟩
  · obtain ⟨h1, h2, _⟩ := hr i hi
    rw [h1]; exact h2 hn
  · obtain ⟨h1, h2, h3, _⟩ := hr i hi
    have ht : t < 6 := (List.getElem?_eq_some_iff.1 hu).1
    rw [h1, Nat.zero_add, h3.cell, List.getElem?_toArray, rowc_at ht hj]; exact hu
set_option maxRecDepth 100000 in
theorem solve_none (A A2 : Option Addr) (c c2 : Nat) (w : World) : Calls Tryz.prog 20 #[.slice A 0 c, .slice A2 0 c2] w fun e w' => ∃ G, e = .returned (.tuple #[.slice (some ⟨G, 0, none⟩) 0 0, .int .i64 0]) ∧ Ext w w' := by
  refine (solve_ok (m := 0) (nb := 0) (X := fun _ _ => GQ.i 0 0) (Y := fun _ _ => GQ.i 0 0) (N := 0) (Ns := 0) (Nd := 0) (Nx := 0) (vb := fun _ _ => true) (vb2 := fun _ _ => true) (mem0 w A) (mem0 w A2) (fun i j hi => absurd hi (by omega)) (fun i j hi => absurd hi (by omega)) (isM0 _) (isM0 _) (fun i hi => absurd hi (by omega)) (fun i hi => absurd hi (by omega)) (by omega) (fun i j hi => absurd hi (by omega)) (fun i j hi => absurd hi (by omega)) (by omega)
    (fun c hc => absurd hc (by omega)) (fun _ => ⟨fun i l hi => absurd hi (by omega), fun k j s hk => absurd hk (by omega), fun k j hk => absurd hk (by omega), fun k i j _ _ hi => absurd hi (by omega), by omega, by omega, by omega⟩)).mono ?_
  rintro e w' ⟨h | ⟨_, G, RX, he, _⟩, hx⟩
  · omega
  · exact ⟨G, he, hx⟩
set_option maxRecDepth 100000 in
theorem det_none (A : Option Addr) (c : Nat) (w : World) : Calls Tryz.prog 12 #[.slice A 0 c] w fun e w' => ∃ v, e = .returned (.tuple #[v, .int .i64 0]) ∧ GV w' v (GQ.i 1 0) 12800 ∧ Ext w w' :=
  det_ok (m := 0) (X := fun _ _ => GQ.i 0 0) (N := 0) (N2 := 64) (vb := fun _ _ => true) (mem0 w A) (fun i j hi => absurd hi (by omega)) (isM0 _) (fun i hi => absurd hi (by omega)) (fun i j hi => absurd hi (by omega)) (by omega) (fun c hc => absurd hc (by omega)) (fun k hk => by
    obtain rfl : k = 0 := by omega
    exact bd_i (by decide) (by decide) (by decide)) (fun i hi => absurd hi (by omega)) (by omega) (by omega)
def oneM : Nat → Nat → GQ := mx2 (GQ.i 1 0) (GQ.i 1 0) (GQ.i 1 0) (GQ.i 1 0)
theorem one_bd : ∀ i j, i < 2 → j < 2 + 1 → Bd (side 2 oneM oneM i j) 4 := by
  intro i j hi hj
  match i, hi, j, hj with
  | 0, _, 0, _ => exact bd_i (by decide) (by decide) (by decide)
  | 0, _, 1, _ => exact bd_i (by decide) (by decide) (by decide)
  | 0, _, 2, _ => exact bd_i (by decide) (by decide) (by decide)
  | 1, _, 0, _ => exact bd_i (by decide) (by decide) (by decide)
  | 1, _, 1, _ => exact bd_i (by decide) (by decide) (by decide)
  | 1, _, 2, _ => exact bd_i (by decide) (by decide) (by decide)
theorem one_r : (ech 2 (side 2 oneM oneM) 2).r = 1 := by decide +kernel
set_option maxRecDepth 100000 in
theorem solve_sing (Ga Gb : Nat) (w : World) (ha : ∃ RX, Out w Ga 2 2 RX oneM) (hb : ∃ RX, Out w Gb 2 1 RX oneM) :
    Calls Tryz.prog 20 #[.slice (some ⟨Ga, 0, none⟩) 2 2, .slice (some ⟨Gb, 0, none⟩) 2 2] w fun e w' => e = .returned (.tuple #[.slice none 0 0, .int .i64 45]) ∧ Ext w w' := by
  obtain ⟨RA, ha⟩ := ha
  obtain ⟨RB, hb⟩ := hb
  obtain ⟨R, E, hM, hn, hv⟩ := ha.mem (by omega) (by omega)
  obtain ⟨R2, E2, hM2, hn2, hv2⟩ := hb.mem (by omega) (by omega)
  have w1 : wd 2 R = 2 := by unfold wd; rw [if_neg (by omega)]; exact hn 0 (by omega)
  have w2 : wd 2 R2 = 1 := by unfold wd; rw [if_neg (by omega)]; exact hn2 0 (by omega)
  refine (solve_ok (m := 2) (X := oneM) (Y := oneM) (c := 2) (c2 := 2) (nb := 1) (N := 100) (Ns := 4) (Nd := 4) (Nx := 4) (vb := fun _ _ => true) (vb2 := fun _ _ => true) hM hM2 (fun i j hi hj => (hv i j hi (by rw [hn i hi] at hj; exact hj)).vb (by omega)) (fun i j hi hj => (hv2 i j hi (by rw [hn2 i hi] at hj; exact hj)).vb (by omega))
    ⟨by omega, by omega, fun i hi => by rw [w1]; exact hn i hi, fun _ _ _ _ => rfl⟩ ⟨by omega, by omega, fun i hi => by rw [w2]; exact hn2 i hi, fun _ _ _ _ => rfl⟩ hn hn2 (by omega) hv hv2 (by omega) (room_of one_bd kroom) (fun h => by have := one_r; omega)).mono ?_
  rintro e w' ⟨⟨_, he⟩ | ⟨h, _⟩, hx⟩
  · exact ⟨he, hx⟩
  · have := one_r; omega
def threeM : Nat → Nat → GQ := fun i j => if i = 2 then (if j = 0 then GQ.i 1 0 else GQ.i 0 1) else GQ.i 1 0
theorem three_bd : ∀ i j, i < 3 → j < 2 + 0 → Bd (threeM i j) 4 := by
  intro i j hi hj
  match i, hi, j, hj with
  | 0, _, 0, _ => exact bd_i (by decide) (by decide) (by decide)
  | 0, _, 1, _ => exact bd_i (by decide) (by decide) (by decide)
  | 1, _, 0, _ => exact bd_i (by decide) (by decide) (by decide)
  | 1, _, 1, _ => exact bd_i (by decide) (by decide) (by decide)
  | 2, _, 0, _ => exact bd_i (by decide) (by decide) (by decide)
  | 2, _, 1, _ => exact bd_i (by decide) (by decide) (by decide)
theorem three_room : ∀ k, k + 1 < 3 → room 4 k < 2 ^ 200 ∧ roomf 4 k < 2 ^ 200 := by
  intro k hk
  match k, hk with
  | 0, _ => exact ⟨by decide +kernel, by decide +kernel⟩
  | 1, _ => exact ⟨by decide +kernel, by decide +kernel⟩
theorem three_r : (ech 3 threeM 2).r = 2 := by decide +kernel
set_option maxRecDepth 100000 in
theorem rank_three (Ga : Nat) (w : World) (ha : ∃ RX, Out w Ga 3 2 RX threeM) :
    Calls Tryz.prog 10 #[.slice (some ⟨Ga, 0, none⟩) 3 3] w fun e w' => e = .returned (.tuple #[.int .i64 2, .int .i64 0]) ∧ Ext w w' := by
  obtain ⟨RA, ha⟩ := ha
  obtain ⟨R, E, hM, hn, hv⟩ := ha.mem (by omega) (by omega)
  have w1 : wd 3 R = 2 := by unfold wd; rw [if_neg (by omega)]; exact hn 0 (by omega)
  have := rank_ok (m := 3) (na := 2) (X := threeM) (c := 3) (N := 200) (vb := fun _ _ => true) hM (fun i j hi hj => (hv i j hi (by rw [hn i hi] at hj; exact hj)).vb (by omega)) ⟨by omega, by omega, fun i hi => by rw [w1]; exact hn i hi, fun _ _ _ _ => rfl⟩ hn (by omega) (by omega) hv (by omega) (room_of three_bd three_room)
  rw [three_r] at this
  exact this
end Go.Proofs.YtclkkoiaaddllaaGreat
