/- Contracts over any two integers, valid or not: Divide, Gcd, Root. -/
import Derived.Test.YtfdpbcjcinchgaaDoorLd
import Derived.Test.YtfdpbcjcinchgaaDoorJc
import Derived.Test.YtfdpbcjcinchgaaDoorJe
namespace Go.Proofs.YtfdpbcjcinchgaaDoor
open Go.RowKit
set_option linter.unusedVariables false

/-- What Divide answers. -/
def resD (s : Bool) (l : List Nat) (t : Bool) (k : List Nat) : Int × Int × Int :=
  if validB s l && validB t k then (if zOf t (val k) = 0 then (0, 0, 21) else (zOf s (val l) / zOf t (val k), zOf s (val l) % zOf t (val k), 0)) else (0, 0, 1)
theorem Divide_res (v u : Value) (s t : Bool) (l k : List Nat) (w : World) (hX : RX w v s l) (hY : RX w u t k) :
    Calls Tryd.prog 37 #[v, u] w fun e w' => ∃ v, e = .returned v ∧ RetD (resD s l t k).1 (resD s l t k).2.1 (resD s l t k).2.2 v w' ∧ Ext w w' := by
  unfold resD
  cases h : validB s l && validB t k
  · simp only [Bool.false_eq_true, if_false]
    exact Divide_bad v u s t l k w hX hY h
  · simp only [if_true]
    obtain ⟨h1, h2⟩ := Bool.and_eq_true_iff.1 h
    obtain ⟨hx, ax⟩ := RI.of_valid hX h1
    obtain ⟨hy, ay⟩ := RI.of_valid hY h2
    by_cases h0 : zOf t (val k) = 0
    · rw [if_pos h0]
      exact Divide_zero v u _ _ w hx hy (by rw [zOf_abs]; exact ax) (by rw [zOf_abs]; exact ay) h0
    · rw [if_neg h0]
      exact Divide_ok v u _ _ w hx hy (by rw [zOf_abs]; exact ax) (by rw [zOf_abs]; exact ay) h0
theorem rDivide_res (v u : Value) (s t : Bool) (l k : List Nat) (w : World) (hX : RX w v s l) (hY : RX w u t k) :
    Calls Tryd.prog 38 #[v, u] w fun e w' => ∃ v, e = .returned v ∧ RetD (resD s l t k).1 (resD s l t k).2.1 (resD s l t k).2.2 v w' ∧ Ext w w' := by
  unfold resD
  cases h : validB s l && validB t k
  · simp only [Bool.false_eq_true, if_false]
    exact rDivide_bad v u s t l k w hX hY h
  · simp only [if_true]
    obtain ⟨h1, h2⟩ := Bool.and_eq_true_iff.1 h
    obtain ⟨hx, ax⟩ := RI.of_valid hX h1
    obtain ⟨hy, ay⟩ := RI.of_valid hY h2
    by_cases h0 : zOf t (val k) = 0
    · rw [if_pos h0]
      exact rDivide_zero v u _ _ w hx hy (by rw [zOf_abs]; exact ax) (by rw [zOf_abs]; exact ay) h0
    · rw [if_neg h0]
      exact rDivide_ok v u _ _ w hx hy (by rw [zOf_abs]; exact ax) (by rw [zOf_abs]; exact ay) h0
theorem Gcd_res (v u : Value) (s t : Bool) (l k : List Nat) (w : World) (hX : RX w v s l) (hY : RX w u t k) :
    Calls Tryd.prog 40 #[v, u] w fun e w' => ∃ v, e = .returned v ∧ RetI (res2 (fun x y => (((Nat.gcd x.natAbs y.natAbs : Nat) : Int), 0)) s l t k) v w' ∧ Ext w w' := by
  unfold res2
  cases h : validB s l && validB t k
  · simp only [Bool.false_eq_true, if_false]
    exact Gcd_bad v u s t l k w hX hY h
  · simp only [if_true]
    obtain ⟨h1, h2⟩ := Bool.and_eq_true_iff.1 h
    obtain ⟨hx, ax⟩ := RI.of_valid hX h1
    obtain ⟨hy, ay⟩ := RI.of_valid hY h2
    exact Gcd_ok v u _ _ w hx hy (by rw [zOf_abs]; exact ax) (by rw [zOf_abs]; exact ay)
theorem rGcd_res (v u : Value) (s t : Bool) (l k : List Nat) (w : World) (hX : RX w v s l) (hY : RX w u t k) :
    Calls Tryd.prog 41 #[v, u] w fun e w' => ∃ v, e = .returned v ∧ RetI (res2 (fun x y => (((Nat.gcd x.natAbs y.natAbs : Nat) : Int), 0)) s l t k) v w' ∧ Ext w w' := by
  unfold res2
  cases h : validB s l && validB t k
  · simp only [Bool.false_eq_true, if_false]
    exact rGcd_bad v u s t l k w hX hY h
  · simp only [if_true]
    obtain ⟨h1, h2⟩ := Bool.and_eq_true_iff.1 h
    obtain ⟨hx, ax⟩ := RI.of_valid hX h1
    obtain ⟨hy, ay⟩ := RI.of_valid hY h2
    exact rGcd_ok v u _ _ w hx hy (by rw [zOf_abs]; exact ax) (by rw [zOf_abs]; exact ay)
/-- The root of a number. -/
noncomputable def nroot (a : Nat) : Nat := (root_ex a).choose
theorem nroot_le (a : Nat) : nroot a * nroot a ≤ a := (root_ex a).choose_spec.1
theorem nroot_lt (a : Nat) : a < (nroot a + 1) * (nroot a + 1) := (root_ex a).choose_spec.2
noncomputable def resR (s : Bool) (l : List Nat) : Int × Int := if validB s l && !s then ((nroot (val l) : Int), 0) else (0, 1)
theorem Root_res (v : Value) (s : Bool) (l : List Nat) (w : World) (hX : RX w v s l) :
    Calls Tryd.prog 42 #[v] w fun e w' => ∃ v, e = .returned v ∧ RetI (resR s l) v w' ∧ Ext w w' := by
  unfold resR
  cases h : validB s l
  · simp only [Bool.false_and, Bool.false_eq_true, if_false]
    exact Root_bad1 v s l w hX h
  · cases s
    · simp only [Bool.not_false, Bool.and_self, if_true]
      obtain ⟨hx, ax⟩ := RI.of_valid hX h
      exact Root_ok v (val l) (nroot (val l)) _ _ w hx (zOf_pos _) ax (nroot_le _) (nroot_lt _) rfl
    · simp only [Bool.not_true, Bool.and_false, Bool.false_eq_true, if_false]
      exact Root_bad2 v l w hX h
theorem rRoot_res (v : Value) (s : Bool) (l : List Nat) (w : World) (hX : RX w v s l) :
    Calls Tryd.prog 43 #[v] w fun e w' => ∃ v, e = .returned v ∧ RetI (resR s l) v w' ∧ Ext w w' := by
  unfold resR
  cases h : validB s l
  · simp only [Bool.false_and, Bool.false_eq_true, if_false]
    exact rRoot_bad1 v s l w hX h
  · cases s
    · simp only [Bool.not_false, Bool.and_self, if_true]
      obtain ⟨hx, ax⟩ := RI.of_valid hX h
      exact rRoot_ok v (val l) (nroot (val l)) _ _ w hx (zOf_pos _) ax (nroot_le _) (nroot_lt _) rfl
    · simp only [Bool.not_true, Bool.and_false, Bool.false_eq_true, if_false]
      exact rRoot_bad2 v l w hX h
end Go.Proofs.YtfdpbcjcinchgaaDoor
