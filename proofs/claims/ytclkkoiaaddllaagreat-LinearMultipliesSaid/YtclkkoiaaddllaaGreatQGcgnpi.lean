/- Rows of numbers, whatever they hold: valid, low. -/
import Derived.Test.YtclkkoiaaddllaaGreatQGafcpo
import Derived.Test.YtclkkoiaaddllaaGreatQNGcamk
namespace Go.Proofs.YtclkkoiaaddllaaGreat
open Go.RowKit
set_option linter.unusedVariables false

set_option maxRecDepth 100000 in
set_option maxHeartbeats 1600000 in
theorem qSmall_any (s1 : Bool) (A1 : Option Addr) (n1 c1 : Nat) (s2 : Bool) (A2 : Option Addr) (n2 c2 : Nat) (s3 : Bool) (A3 : Option Addr) (n3 c3 : Nat) (k : Nat) (w : World) :
    Calls Tryz.prog 28 #[gv s1 A1 n1 c1 s2 A2 n2 c2 s3 A3 n3 c3, .int .i64 (k : Int)] w fun e w' => e = .returned (.bool (decide (n1 ≤ k) && decide (n2 ≤ k) && decide (n3 ≤ k))) ∧ Ext w w' := by
  have b0 := Blk.new w 32 #[.bool s1, .slice A1 n1 c1, .bool s2, .slice A2 n2 c2, .bool s3, .slice A3 n3 c3]
  have k0 := b0.cell
  by_cases h1 : n1 ≤ k
  · have d1 : decide ((n1 : Int) ≤ (k : Int)) = true := by simp; omega
    have d1' : decide (n1 ≤ k) = true := by simp; omega
    by_cases h2 : n2 ≤ k
    · have d2 : decide ((n2 : Int) ≤ (k : Int)) = true := by simp; omega
      have d2' : decide (n2 ≤ k) = true := by simp; omega
      by_cases h3 : n3 ≤ k
      · have d3 : decide ((n3 : Int) ≤ (k : Int)) = true := by simp; omega
        have d3' : decide (n3 ≤ k) = true := by simp; omega
        go_enter Tryz.func28, Tryz.ntmps28
        go_wp2
        go_ret
        exact ⟨ret_bool (by simp [h1, h2, h3]), Ext.new _ _⟩
      · have d3 : decide ((n3 : Int) ≤ (k : Int)) = false := by simp; omega
        have d3' : decide (n3 ≤ k) = false := by simp; omega
        go_enter Tryz.func28, Tryz.ntmps28
        go_wp2
        go_ret
        exact ⟨ret_bool (by simp [h3]), Ext.new _ _⟩
    · have d2 : decide ((n2 : Int) ≤ (k : Int)) = false := by simp; omega
      have d2' : decide (n2 ≤ k) = false := by simp; omega
      go_enter Tryz.func28, Tryz.ntmps28
      go_wp2
      go_ret
      exact ⟨ret_bool (by simp [h2]), Ext.new _ _⟩
  · have d1 : decide ((n1 : Int) ≤ (k : Int)) = false := by simp; omega
    have d1' : decide (n1 ≤ k) = false := by simp; omega
    go_enter Tryz.func28, Tryz.ntmps28
    go_wp2
    go_ret
    exact ⟨ret_bool (by simp [h1]), Ext.new _ _⟩

end Go.Proofs.YtclkkoiaaddllaaGreat
