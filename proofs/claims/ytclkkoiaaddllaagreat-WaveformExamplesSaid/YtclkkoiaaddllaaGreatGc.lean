/- Rows of numbers, whatever they hold: valid, low. -/
import Derived.Test.YtclkkoiaaddllaaGreatGa
import Derived.Test.YtclkkoiaaddllaaGreatNG
namespace Go.Proofs.YtclkkoiaaddllaaGreat
open Go.RowKit
set_option linter.unusedVariables false

theorem xvalid2_raw (gs : Nat) (b0 b1 r : Bool) (w : World) {s00 : Bool} {A00 : Option Addr} {n00 c00 : Nat} {s01 : Bool} {A01 : Option Addr} {n01 c01 : Nat} {s02 : Bool} {A02 : Option Addr} {n02 c02 : Nat} {s10 : Bool} {A10 : Option Addr} {n10 c10 : Nat} {s11 : Bool} {A11 : Option Addr} {n11 c11 : Nat} {s12 : Bool} {A12 : Option Addr} {n12 c12 : Nat} (hb : Blk w gs 32 #[.bool s00, .slice A00 n00 c00, .bool s01, .slice A01 n01 c01, .bool s02, .slice A02 n02 c02, .bool s10, .slice A10 n10 c10, .bool s11, .slice A11 n11 c11, .bool s12, .slice A12 n12 c12]) (h0 : VB w (gv s00 A00 n00 c00 s01 A01 n01 c01 s02 A02 n02 c02) b0) (h1 : VB w (gv s10 A10 n10 c10 s11 A11 n11 c11 s12 A12 n12 c12) b1) (hr : [b0, b1].all id = r) :
    Calls Tryz.prog 84 #[.slice (some ⟨gs, 0, none⟩) 2 2] w fun e w' => e = .returned (.bool r) ∧ Ext w w' := by
  subst hr
  refine xvalid_any gs 2 [b0, b1] _ w hb rfl (by omega) (fun j b hj => ?_)
  match j, hj with
  | 0, hj => injection hj with hj; subst hj; exact ⟨_, _, _, _, _, _, _, _, _, _, _, _, rfl, rfl, rfl, rfl, rfl, rfl, fun w' hx => (h0 w' hx).1⟩
  | 1, hj => injection hj with hj; subst hj; exact ⟨_, _, _, _, _, _, _, _, _, _, _, _, rfl, rfl, rfl, rfl, rfl, rfl, fun w' hx => (h1 w' hx).1⟩
theorem xvalid3_raw (gs : Nat) (b0 b1 b2 r : Bool) (w : World) {s00 : Bool} {A00 : Option Addr} {n00 c00 : Nat} {s01 : Bool} {A01 : Option Addr} {n01 c01 : Nat} {s02 : Bool} {A02 : Option Addr} {n02 c02 : Nat} {s10 : Bool} {A10 : Option Addr} {n10 c10 : Nat} {s11 : Bool} {A11 : Option Addr} {n11 c11 : Nat} {s12 : Bool} {A12 : Option Addr} {n12 c12 : Nat} {s20 : Bool} {A20 : Option Addr} {n20 c20 : Nat} {s21 : Bool} {A21 : Option Addr} {n21 c21 : Nat} {s22 : Bool} {A22 : Option Addr} {n22 c22 : Nat} (hb : Blk w gs 32 #[.bool s00, .slice A00 n00 c00, .bool s01, .slice A01 n01 c01, .bool s02, .slice A02 n02 c02, .bool s10, .slice A10 n10 c10, .bool s11, .slice A11 n11 c11, .bool s12, .slice A12 n12 c12, .bool s20, .slice A20 n20 c20, .bool s21, .slice A21 n21 c21, .bool s22, .slice A22 n22 c22]) (h0 : VB w (gv s00 A00 n00 c00 s01 A01 n01 c01 s02 A02 n02 c02) b0) (h1 : VB w (gv s10 A10 n10 c10 s11 A11 n11 c11 s12 A12 n12 c12) b1) (h2 : VB w (gv s20 A20 n20 c20 s21 A21 n21 c21 s22 A22 n22 c22) b2) (hr : [b0, b1, b2].all id = r) :
    Calls Tryz.prog 84 #[.slice (some ⟨gs, 0, none⟩) 3 3] w fun e w' => e = .returned (.bool r) ∧ Ext w w' := by
  subst hr
  refine xvalid_any gs 3 [b0, b1, b2] _ w hb rfl (by omega) (fun j b hj => ?_)
  match j, hj with
  | 0, hj => injection hj with hj; subst hj; exact ⟨_, _, _, _, _, _, _, _, _, _, _, _, rfl, rfl, rfl, rfl, rfl, rfl, fun w' hx => (h0 w' hx).1⟩
  | 1, hj => injection hj with hj; subst hj; exact ⟨_, _, _, _, _, _, _, _, _, _, _, _, rfl, rfl, rfl, rfl, rfl, rfl, fun w' hx => (h1 w' hx).1⟩
  | 2, hj => injection hj with hj; subst hj; exact ⟨_, _, _, _, _, _, _, _, _, _, _, _, rfl, rfl, rfl, rfl, rfl, rfl, fun w' hx => (h2 w' hx).1⟩
theorem xvalid4_raw (gs : Nat) (b0 b1 b2 b3 r : Bool) (w : World) {s00 : Bool} {A00 : Option Addr} {n00 c00 : Nat} {s01 : Bool} {A01 : Option Addr} {n01 c01 : Nat} {s02 : Bool} {A02 : Option Addr} {n02 c02 : Nat} {s10 : Bool} {A10 : Option Addr} {n10 c10 : Nat} {s11 : Bool} {A11 : Option Addr} {n11 c11 : Nat} {s12 : Bool} {A12 : Option Addr} {n12 c12 : Nat} {s20 : Bool} {A20 : Option Addr} {n20 c20 : Nat} {s21 : Bool} {A21 : Option Addr} {n21 c21 : Nat} {s22 : Bool} {A22 : Option Addr} {n22 c22 : Nat} {s30 : Bool} {A30 : Option Addr} {n30 c30 : Nat} {s31 : Bool} {A31 : Option Addr} {n31 c31 : Nat} {s32 : Bool} {A32 : Option Addr} {n32 c32 : Nat} (hb : Blk w gs 32 #[.bool s00, .slice A00 n00 c00, .bool s01, .slice A01 n01 c01, .bool s02, .slice A02 n02 c02, .bool s10, .slice A10 n10 c10, .bool s11, .slice A11 n11 c11, .bool s12, .slice A12 n12 c12, .bool s20, .slice A20 n20 c20, .bool s21, .slice A21 n21 c21, .bool s22, .slice A22 n22 c22, .bool s30, .slice A30 n30 c30, .bool s31, .slice A31 n31 c31, .bool s32, .slice A32 n32 c32]) (h0 : VB w (gv s00 A00 n00 c00 s01 A01 n01 c01 s02 A02 n02 c02) b0) (h1 : VB w (gv s10 A10 n10 c10 s11 A11 n11 c11 s12 A12 n12 c12) b1) (h2 : VB w (gv s20 A20 n20 c20 s21 A21 n21 c21 s22 A22 n22 c22) b2) (h3 : VB w (gv s30 A30 n30 c30 s31 A31 n31 c31 s32 A32 n32 c32) b3) (hr : [b0, b1, b2, b3].all id = r) :
    Calls Tryz.prog 84 #[.slice (some ⟨gs, 0, none⟩) 4 4] w fun e w' => e = .returned (.bool r) ∧ Ext w w' := by
  subst hr
  refine xvalid_any gs 4 [b0, b1, b2, b3] _ w hb rfl (by omega) (fun j b hj => ?_)
  match j, hj with
  | 0, hj => injection hj with hj; subst hj; exact ⟨_, _, _, _, _, _, _, _, _, _, _, _, rfl, rfl, rfl, rfl, rfl, rfl, fun w' hx => (h0 w' hx).1⟩
  | 1, hj => injection hj with hj; subst hj; exact ⟨_, _, _, _, _, _, _, _, _, _, _, _, rfl, rfl, rfl, rfl, rfl, rfl, fun w' hx => (h1 w' hx).1⟩
  | 2, hj => injection hj with hj; subst hj; exact ⟨_, _, _, _, _, _, _, _, _, _, _, _, rfl, rfl, rfl, rfl, rfl, rfl, fun w' hx => (h2 w' hx).1⟩
  | 3, hj => injection hj with hj; subst hj; exact ⟨_, _, _, _, _, _, _, _, _, _, _, _, rfl, rfl, rfl, rfl, rfl, rfl, fun w' hx => (h3 w' hx).1⟩
set_option maxRecDepth 100000 in
set_option maxHeartbeats 1600000 in
theorem qSmall_any (s1 : Bool) (A1 : Option Addr) (n1 c1 : Nat) (s2 : Bool) (A2 : Option Addr) (n2 c2 : Nat) (s3 : Bool) (A3 : Option Addr) (n3 c3 : Nat) (k : Nat) (w : World) :
    Calls Tryz.prog 28 #[gv s1 A1 n1 c1 s2 A2 n2 c2 s3 A3 n3 c3, .int .i64 (k : Int)] w fun e w' => e = .returned (.bool (decide (n1 ≤ k) && decide (n2 ≤ k) && decide (n3 ≤ k))) ∧ Ext w w' := by
  have b0 := Blk.new w 32 #[.bool s1, .slice A1 n1 c1, .bool s2, .slice A2 n2 c2, .bool s3, .slice A3 n3 c3]
  have k0 := b0.cell
  by_cases h1 : n1 ≤ k
  · have d1 : decide ((n1 : Int) ≤ (k : Int)) = true := by simp; omega
    have d1' : decide (n1 ≤ k) = true := by simp; omega
    by_cases h2 : n2 ≤ k
    · have d2 : decide ((n2 : Int) ≤ (k : Int)) = true := by simp; omega
      have d2' : decide (n2 ≤ k) = true := by simp; omega
      by_cases h3 : n3 ≤ k
      · have d3 : decide ((n3 : Int) ≤ (k : Int)) = true := by simp; omega
        have d3' : decide (n3 ≤ k) = true := by simp; omega
        go_enter Tryz.func28, Tryz.ntmps28
        go_wp2
        go_ret
        exact ⟨ret_bool (by simp [h1, h2, h3]), Ext.new _ _⟩
      · have d3 : decide ((n3 : Int) ≤ (k : Int)) = false := by simp; omega
        have d3' : decide (n3 ≤ k) = false := by simp; omega
        go_enter Tryz.func28, Tryz.ntmps28
        go_wp2
        go_ret
        exact ⟨ret_bool (by simp [h3]), Ext.new _ _⟩
    · have d2 : decide ((n2 : Int) ≤ (k : Int)) = false := by simp; omega
      have d2' : decide (n2 ≤ k) = false := by simp; omega
      go_enter Tryz.func28, Tryz.ntmps28
      go_wp2
      go_ret
      exact ⟨ret_bool (by simp [h2]), Ext.new _ _⟩
  · have d1 : decide ((n1 : Int) ≤ (k : Int)) = false := by simp; omega
    have d1' : decide (n1 ≤ k) = false := by simp; omega
    go_enter Tryz.func28, Tryz.ntmps28
    go_wp2
    go_ret
    exact ⟨ret_bool (by simp [h1]), Ext.new _ _⟩

end Go.Proofs.YtclkkoiaaddllaaGreat
