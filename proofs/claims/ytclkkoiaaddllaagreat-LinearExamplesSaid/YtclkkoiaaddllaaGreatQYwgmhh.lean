/- Linear: the fixed cases that are refused, and the product without columns. -/
import Derived.Test.YtclkkoiaaddllaaGreatQYvnccn
namespace Go.Proofs.YtclkkoiaaddllaaGreat
open Go.RowKit
set_option linter.unusedVariables false

theorem out1_new {w : World} {g0 n : Nat} {x0 : Nat → GQ} (h0 : RowIs w g0 n x0) (X : Nat → Nat → GQ) (e0 : X 0 = x0) : ∃ RX, Out (w.alloc (.cells #[.slice (some ⟨g0, 0, none⟩) n n] 37)) w.heap.size 1 n RX X := by
  have hx := Ext.new w (.cells #[.slice (some ⟨g0, 0, none⟩) n n] 37)
  refine ⟨fun i => ⟨some ⟨g0, 0, none⟩, g0, 0, n, n⟩, Blk.new _ _ _, fun i hi => ?_⟩
  obtain rfl : i = 0 := by omega
  exact ⟨rfl, rfl, rfl, by rw [e0]; exact h0.ext hx⟩
theorem out3_new {w : World} {g0 g1 g2 n : Nat} {x0 x1 x2 : Nat → GQ} (h0 : RowIs w g0 n x0) (h1 : RowIs w g1 n x1) (h2 : RowIs w g2 n x2) (X : Nat → Nat → GQ) (e0 : X 0 = x0) (e1 : X 1 = x1) (e2 : X 2 = x2) :
    ∃ RX, Out (w.alloc (.cells #[.slice (some ⟨g0, 0, none⟩) n n, .slice (some ⟨g1, 0, none⟩) n n, .slice (some ⟨g2, 0, none⟩) n n] 37)) w.heap.size 3 n RX X := by
  have hx := Ext.new w (.cells #[.slice (some ⟨g0, 0, none⟩) n n, .slice (some ⟨g1, 0, none⟩) n n, .slice (some ⟨g2, 0, none⟩) n n] 37)
  refine ⟨fun i => if i = 0 then ⟨some ⟨g0, 0, none⟩, g0, 0, n, n⟩ else if i = 1 then ⟨some ⟨g1, 0, none⟩, g1, 0, n, n⟩ else ⟨some ⟨g2, 0, none⟩, g2, 0, n, n⟩, Blk.new _ _ _, fun i hi => ?_⟩
  match i, hi with
  | 0, _ => exact ⟨rfl, rfl, rfl, by rw [e0]; exact h0.ext hx⟩
  | 1, _ => exact ⟨rfl, rfl, rfl, by rw [e1]; exact h1.ext hx⟩
  | 2, _ => exact ⟨rfl, rfl, rfl, by rw [e2]; exact h2.ext hx⟩
theorem solve_c1 {Ga c2 : Nat} {A2 : Option Addr} {w : World} {X : Nat → Nat → GQ} (ha : ∃ RX, Out w Ga 1 1 RX X) :
    Calls Tryz.prog 20 #[.slice (some ⟨Ga, 0, none⟩) 1 1, .slice A2 0 c2] w fun e w' => e = .returned (.tuple #[.slice none 0 0, .int .i64 3]) ∧ Ext w w' := by
  obtain ⟨RA, ha⟩ := ha
  obtain ⟨R, E, hM, hn, hv⟩ := ha.mem (by omega) (by omega)
  have w1 : wd 1 R = 1 := by unfold wd; rw [if_neg (by omega)]; exact hn 0 (by omega)
  exact solve_cnt (c := 1) (vb := fun _ _ => true) (vb2 := fun _ _ => true) hM (mem0 w A2) (fun i j hi hj => (hv i j hi (by rw [hn i hi] at hj; exact hj)).vb (by omega)) (fun i j hi => absurd hi (by omega)) ⟨by omega, by omega, fun i hi => by rw [w1]; exact hn i hi, fun _ _ _ _ => rfl⟩ (isM0 _) w1 (by omega)
theorem det_c1 {Ga : Nat} {w : World} {X : Nat → Nat → GQ} (ha : ∃ RX, Out w Ga 1 2 RX X) :
    Calls Tryz.prog 12 #[.slice (some ⟨Ga, 0, none⟩) 1 1] w fun e w' => e = .returned (.tuple #[gv false none 0 0 false none 0 0 false none 0 0, .int .i64 3]) ∧ Ext w w' := by
  obtain ⟨RA, ha⟩ := ha
  obtain ⟨R, E, hM, hn, hv⟩ := ha.mem (by omega) (by omega)
  have w1 : wd 1 R = 2 := by unfold wd; rw [if_neg (by omega)]; exact hn 0 (by omega)
  exact det_cnt (c := 1) (vb := fun _ _ => true) hM (fun i j hi hj => (hv i j hi (by rw [hn i hi] at hj; exact hj)).vb (by omega)) ⟨by omega, by omega, fun i hi => by rw [w1]; exact hn i hi, fun _ _ _ _ => rfl⟩ (by omega)
theorem product_rag {G g0 g1 m2 c2 : Nat} {A2 : Option Addr} {w : World} {x0 x1 : Nat → GQ} (hG : Blk w G 37 #[.slice (some ⟨g0, 0, none⟩) 1 1, .slice (some ⟨g1, 0, none⟩) 2 2]) (h0 : RowIs w g0 1 x0) (h1 : RowIs w g1 2 x1) :
    Calls Tryz.prog 16 #[.slice (some ⟨G, 0, none⟩) 2 2, .slice A2 m2 c2] w fun e w' => e = .returned (.tuple #[.slice none 0 0, .int .i64 1]) ∧ Ext w w' := by
  obtain ⟨f0, b0, v0⟩ := h0
  obtain ⟨f1, b1, v1⟩ := h1
  have hM : Mem w (some ⟨G, 0, none⟩) G 0 2 (fun i => if i = 0 then ⟨some ⟨g0, 0, none⟩, g0, 0, 1, 1⟩ else ⟨some ⟨g1, 0, none⟩, g1, 0, 2, 2⟩) (fun i => if i = 0 then f0 else f1) := by
    refine mem_of hG (fun i hi => ?_) (by omega)
    match i, hi with
    | 0, _ => exact ⟨rfl, fun _ => rfl, b0, by show 1 ≤ 1000; omega⟩
    | 1, _ => exact ⟨rfl, fun _ => rfl, b1, by show 2 ≤ 1000; omega⟩
  refine product_arg (c := 2) (vb := fun _ _ => true) hM (fun i j hi hj => ?_) (fun h => ?_)
  · match i, hi with
    | 0, _ => exact (v0 j hj).vb (by omega)
    | 1, _ => exact (v1 j hj).vb (by omega)
  · have := h.2.2.1 1 (by omega)
    exact absurd (show (2 : Nat) = 1 from this) (by omega)
theorem product_e {G g0 g1 c2 : Nat} {A2 : Option Addr} {w : World} (hG : Blk w G 37 #[.slice (some ⟨g0, 0, none⟩) 0 0, .slice (some ⟨g1, 0, none⟩) 0 0]) :
    Calls Tryz.prog 16 #[.slice (some ⟨G, 0, none⟩) 2 2, .slice A2 0 c2] w fun e w' => (∃ G' g, e = .returned (.tuple #[.slice (some ⟨G', 0, none⟩) 2 2, .int .i64 0]) ∧ w'.cell? ⟨G', 0, none⟩ = some (.slice (some ⟨g, 0, none⟩) 0 0)) ∧ Ext w w' := by
  have hM : Mem w (some ⟨G, 0, none⟩) G 0 2 (fun i => if i = 0 then ⟨some ⟨g0, 0, none⟩, g0, 0, 0, 0⟩ else ⟨some ⟨g1, 0, none⟩, g1, 0, 0, 0⟩) (fun _ _ => zEn) := by
    refine ⟨fun _ => rfl, fun i hi => ?_, fun i hi hn => ?_, fun i j hi hj => ?_, by omega, fun i hi => ?_⟩
    · match i, hi with
      | 0, _ => rw [hG.cell]; rfl
      | 1, _ => rw [hG.cell]; rfl
    · match i, hi with
      | 0, _ => exact absurd hn (by show ¬ 0 < 0; omega)
      | 1, _ => exact absurd hn (by show ¬ 0 < 0; omega)
    · match i, hi with
      | 0, _ => exact absurd hj (by show ¬ j < 0; omega)
      | 1, _ => exact absurd hj (by show ¬ j < 0; omega)
    · match i, hi with
      | 0, _ => show 0 ≤ _; omega
      | 1, _ => show 0 ≤ _; omega
  refine (product_nil (c := 2) hM (fun i hi => ?_) (by omega) A2 c2).mono ?_
  · match i, hi with
    | 0, _ => rfl
    | 1, _ => rfl
  · rintro e w' ⟨⟨G', RX, he, ho⟩, hx⟩
    refine ⟨⟨G', (RX 0).b, he, ?_⟩, hx⟩
    obtain ⟨h1, h2, h3, _⟩ := ho.row 0 (by omega)
    rw [ho.x.cell, mxc_at (by omega)]
    unfold Rw.v; rw [h1, h2, h3]
theorem rank_z {G g : Nat} {w : World} (hG : Blk w G 37 #[.slice (some ⟨g, 0, none⟩) 1 1]) (hg : Blk w g 32 #[.bool false, .slice none 0 0, .bool false, .slice none 0 0, .bool false, .slice none 0 0]) :
    Calls Tryz.prog 10 #[.slice (some ⟨G, 0, none⟩) 1 1] w fun e w' => e = .returned (.tuple #[.int .i64 0, .int .i64 1]) ∧ Ext w w' := by
  have hM : Mem w (some ⟨G, 0, none⟩) G 0 1 (fun i => ⟨some ⟨g, 0, none⟩, g, 0, 1, 1⟩) (fun _ _ => zEn) := by
    refine mem_of hG (fun i hi => ?_) (by omega)
    exact ⟨rfl, fun _ => rfl, hg, by show 1 ≤ 1000; omega⟩
  refine rank_arg (c := 1) (vb := fun _ _ => false) hM (fun i j hi hj => vb_zero2 w) (fun h => ?_)
  have := h.2.2.2 0 0 (by omega) (by show 0 < 1; omega)
  cases this
end Go.Proofs.YtclkkoiaaddllaaGreat
