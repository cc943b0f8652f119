/- Rows of numbers, whatever they hold: valid, low. -/
import Derived.Test.YtjeijmnhbckjdaaGreatDoorQGapgop
import Derived.Test.YtjeijmnhbckjdaaGreatDoorQNGiaom
namespace Go.Proofs.YtjeijmnhbckjdaaGreatDoor
open Go.RowKit
set_option linter.unusedVariables false

theorem xvalid2_raw (gs : Nat) (b0 b1 r : Bool) (w : World) {s00 : Bool} {A00 : Option Addr} {n00 c00 : Nat} {s01 : Bool} {A01 : Option Addr} {n01 c01 : Nat} {s02 : Bool} {A02 : Option Addr} {n02 c02 : Nat} {s10 : Bool} {A10 : Option Addr} {n10 c10 : Nat} {s11 : Bool} {A11 : Option Addr} {n11 c11 : Nat} {s12 : Bool} {A12 : Option Addr} {n12 c12 : Nat} (hb : Blk w gs 26 #[.bool s00, .slice A00 n00 c00, .bool s01, .slice A01 n01 c01, .bool s02, .slice A02 n02 c02, .bool s10, .slice A10 n10 c10, .bool s11, .slice A11 n11 c11, .bool s12, .slice A12 n12 c12]) (h0 : VB w (gv s00 A00 n00 c00 s01 A01 n01 c01 s02 A02 n02 c02) b0) (h1 : VB w (gv s10 A10 n10 c10 s11 A11 n11 c11 s12 A12 n12 c12) b1) (hr : [b0, b1].all id = r) :
    Calls Tryz.prog 62 #[.slice (some ⟨gs, 0, none⟩) 2 2] w fun e w' => e = .returned (.bool r) ∧ Ext w w' := by
  subst hr
  refine xvalid_any gs 2 [b0, b1] _ w hb rfl (by omega) (fun j b hj => ?_)
  match j, hj with
  | 0, hj => injection hj with hj; subst hj; exact ⟨_, _, _, _, _, _, _, _, _, _, _, _, rfl, rfl, rfl, rfl, rfl, rfl, fun w' hx => (h0 w' hx).1⟩
  | 1, hj => injection hj with hj; subst hj; exact ⟨_, _, _, _, _, _, _, _, _, _, _, _, rfl, rfl, rfl, rfl, rfl, rfl, fun w' hx => (h1 w' hx).1⟩
end Go.Proofs.YtjeijmnhbckjdaaGreatDoor
