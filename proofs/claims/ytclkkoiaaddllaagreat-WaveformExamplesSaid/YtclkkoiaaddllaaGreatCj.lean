/- The samples of 10 at the ratio 3. -/
import Derived.Test.YtclkkoiaaddllaaGreatCc
namespace Go.Proofs.YtclkkoiaaddllaaGreat
open Go.RowKit
set_option linter.unusedVariables false

/-- The samples of 10 at the ratio 3. -/
def tri : Nat → Int
  | 0 => 3
  | 1 => 3
  | 2 => 2
  | 3 => 0
  | 4 => -2
  | 5 => -3
  | 6 => -3
  | 7 => -3
  | 8 => -2
  | 9 => 0
  | 10 => 2
  | 11 => 3
  | _ => 0
theorem tri_rd0 : Rd ((⟨GQ.i 10 0, GQ.i 0 0⟩ : PQ) * PQ.zp 0) 3 (3) := by
  have e : (⟨GQ.i 10 0, GQ.i 0 0⟩ : PQ) * PQ.zp 0 = ⟨GQ.i (10) (0), GQ.i (0) (0)⟩ := by
    rw [PQ.zp0]
    ext <;> simp only [PQ.mk4, PQ.mul_u, PQ.mul_v, GQ.mul_re, GQ.mul_im, GQ.add_re, GQ.add_im, GQ.i_re, GQ.i_im] <;> grind
  rw [e]
  exact Rd.of (p := ⟨GQ.i (10) (0), GQ.i (0) (0)⟩) (is_i _ _) (is_i _ _) (Rd.at_ (by decide) (by decide) (by decide))
theorem tri_rd1 : Rd ((⟨GQ.i 10 0, GQ.i 0 0⟩ : PQ) * PQ.zp 1) 3 (3) := by
  have e : (⟨GQ.i 10 0, GQ.i 0 0⟩ : PQ) * PQ.zp 1 = ⟨GQ.i (0) (5), GQ.i (5) (0)⟩ := by
    rw [PQ.zp1]
    ext <;> simp only [PQ.mk4, PQ.mul_u, PQ.mul_v, GQ.mul_re, GQ.mul_im, GQ.add_re, GQ.add_im, GQ.i_re, GQ.i_im] <;> grind
  rw [e]
  exact Rd.of (p := ⟨GQ.i (0) (5), GQ.i (5) (0)⟩) (is_i _ _) (is_i _ _) (Rd.at_ (by decide) (by decide) (by decide))
theorem tri_rd2 : Rd ((⟨GQ.i 10 0, GQ.i 0 0⟩ : PQ) * PQ.zp 2) 3 (2) := by
  have e : (⟨GQ.i 10 0, GQ.i 0 0⟩ : PQ) * PQ.zp 2 = ⟨GQ.i (5) (0), GQ.i (0) (5)⟩ := by
    rw [PQ.zp2]
    ext <;> simp only [PQ.mk4, PQ.mul_u, PQ.mul_v, GQ.mul_re, GQ.mul_im, GQ.add_re, GQ.add_im, GQ.i_re, GQ.i_im] <;> grind
  rw [e]
  exact Rd.of (p := ⟨GQ.i (5) (0), GQ.i (0) (5)⟩) (is_i _ _) (is_i _ _) (Rd.at_ (by decide) (by decide) (by decide))
theorem tri_rd3 : Rd ((⟨GQ.i 10 0, GQ.i 0 0⟩ : PQ) * PQ.zp 3) 3 (0) := by
  have e : (⟨GQ.i 10 0, GQ.i 0 0⟩ : PQ) * PQ.zp 3 = ⟨GQ.i (0) (10), GQ.i (0) (0)⟩ := by
    rw [PQ.zp3]
    ext <;> simp only [PQ.mk4, PQ.mul_u, PQ.mul_v, GQ.mul_re, GQ.mul_im, GQ.add_re, GQ.add_im, GQ.i_re, GQ.i_im] <;> grind
  rw [e]
  exact Rd.of (p := ⟨GQ.i (0) (10), GQ.i (0) (0)⟩) (is_i _ _) (is_i _ _) (Rd.at_ (by decide) (by decide) (by decide))
theorem tri_rd4 : Rd ((⟨GQ.i 10 0, GQ.i 0 0⟩ : PQ) * PQ.zp 4) 3 (-2) := by
  have e : (⟨GQ.i 10 0, GQ.i 0 0⟩ : PQ) * PQ.zp 4 = ⟨GQ.i (-5) (0), GQ.i (0) (5)⟩ := by
    rw [PQ.zp4]
    ext <;> simp only [PQ.mk4, PQ.mul_u, PQ.mul_v, GQ.mul_re, GQ.mul_im, GQ.add_re, GQ.add_im, GQ.i_re, GQ.i_im] <;> grind
  rw [e]
  exact Rd.of (p := ⟨GQ.i (-5) (0), GQ.i (0) (5)⟩) (is_i _ _) (is_i _ _) (Rd.at_ (by decide) (by decide) (by decide))
theorem tri_rd5 : Rd ((⟨GQ.i 10 0, GQ.i 0 0⟩ : PQ) * PQ.zp 5) 3 (-3) := by
  have e : (⟨GQ.i 10 0, GQ.i 0 0⟩ : PQ) * PQ.zp 5 = ⟨GQ.i (0) (5), GQ.i (-5) (0)⟩ := by
    rw [PQ.zp5]
    ext <;> simp only [PQ.mk4, PQ.mul_u, PQ.mul_v, GQ.mul_re, GQ.mul_im, GQ.add_re, GQ.add_im, GQ.i_re, GQ.i_im] <;> grind
  rw [e]
  exact Rd.of (p := ⟨GQ.i (0) (5), GQ.i (-5) (0)⟩) (is_i _ _) (is_i _ _) (Rd.at_ (by decide) (by decide) (by decide))
theorem tri_rd6 : Rd ((⟨GQ.i 10 0, GQ.i 0 0⟩ : PQ) * PQ.zp 6) 3 (-3) := by
  have e : (⟨GQ.i 10 0, GQ.i 0 0⟩ : PQ) * PQ.zp 6 = ⟨GQ.i (-10) (0), GQ.i (0) (0)⟩ := by
    rw [PQ.zp6]
    ext <;> simp only [PQ.mk4, PQ.mul_u, PQ.mul_v, GQ.mul_re, GQ.mul_im, GQ.add_re, GQ.add_im, GQ.i_re, GQ.i_im] <;> grind
  rw [e]
  exact Rd.of (p := ⟨GQ.i (-10) (0), GQ.i (0) (0)⟩) (is_i _ _) (is_i _ _) (Rd.at_ (by decide) (by decide) (by decide))
theorem tri_rd7 : Rd ((⟨GQ.i 10 0, GQ.i 0 0⟩ : PQ) * PQ.zp 7) 3 (-3) := by
  have e : (⟨GQ.i 10 0, GQ.i 0 0⟩ : PQ) * PQ.zp 7 = ⟨GQ.i (0) (-5), GQ.i (-5) (0)⟩ := by
    rw [PQ.zp7]
    ext <;> simp only [PQ.mk4, PQ.mul_u, PQ.mul_v, GQ.mul_re, GQ.mul_im, GQ.add_re, GQ.add_im, GQ.i_re, GQ.i_im] <;> grind
  rw [e]
  exact Rd.of (p := ⟨GQ.i (0) (-5), GQ.i (-5) (0)⟩) (is_i _ _) (is_i _ _) (Rd.at_ (by decide) (by decide) (by decide))
theorem tri_rd8 : Rd ((⟨GQ.i 10 0, GQ.i 0 0⟩ : PQ) * PQ.zp 8) 3 (-2) := by
  have e : (⟨GQ.i 10 0, GQ.i 0 0⟩ : PQ) * PQ.zp 8 = ⟨GQ.i (-5) (0), GQ.i (0) (-5)⟩ := by
    rw [PQ.zp8]
    ext <;> simp only [PQ.mk4, PQ.mul_u, PQ.mul_v, GQ.mul_re, GQ.mul_im, GQ.add_re, GQ.add_im, GQ.i_re, GQ.i_im] <;> grind
  rw [e]
  exact Rd.of (p := ⟨GQ.i (-5) (0), GQ.i (0) (-5)⟩) (is_i _ _) (is_i _ _) (Rd.at_ (by decide) (by decide) (by decide))
theorem tri_rd9 : Rd ((⟨GQ.i 10 0, GQ.i 0 0⟩ : PQ) * PQ.zp 9) 3 (0) := by
  have e : (⟨GQ.i 10 0, GQ.i 0 0⟩ : PQ) * PQ.zp 9 = ⟨GQ.i (0) (-10), GQ.i (0) (0)⟩ := by
    rw [PQ.zp9]
    ext <;> simp only [PQ.mk4, PQ.mul_u, PQ.mul_v, GQ.mul_re, GQ.mul_im, GQ.add_re, GQ.add_im, GQ.i_re, GQ.i_im] <;> grind
  rw [e]
  exact Rd.of (p := ⟨GQ.i (0) (-10), GQ.i (0) (0)⟩) (is_i _ _) (is_i _ _) (Rd.at_ (by decide) (by decide) (by decide))
theorem tri_rd10 : Rd ((⟨GQ.i 10 0, GQ.i 0 0⟩ : PQ) * PQ.zp 10) 3 (2) := by
  have e : (⟨GQ.i 10 0, GQ.i 0 0⟩ : PQ) * PQ.zp 10 = ⟨GQ.i (5) (0), GQ.i (0) (-5)⟩ := by
    rw [PQ.zp10]
    ext <;> simp only [PQ.mk4, PQ.mul_u, PQ.mul_v, GQ.mul_re, GQ.mul_im, GQ.add_re, GQ.add_im, GQ.i_re, GQ.i_im] <;> grind
  rw [e]
  exact Rd.of (p := ⟨GQ.i (5) (0), GQ.i (0) (-5)⟩) (is_i _ _) (is_i _ _) (Rd.at_ (by decide) (by decide) (by decide))
theorem tri_rd11 : Rd ((⟨GQ.i 10 0, GQ.i 0 0⟩ : PQ) * PQ.zp 11) 3 (3) := by
  have e : (⟨GQ.i 10 0, GQ.i 0 0⟩ : PQ) * PQ.zp 11 = ⟨GQ.i (0) (-5), GQ.i (5) (0)⟩ := by
    rw [PQ.zp11]
    ext <;> simp only [PQ.mk4, PQ.mul_u, PQ.mul_v, GQ.mul_re, GQ.mul_im, GQ.add_re, GQ.add_im, GQ.i_re, GQ.i_im] <;> grind
  rw [e]
  exact Rd.of (p := ⟨GQ.i (0) (-5), GQ.i (5) (0)⟩) (is_i _ _) (is_i _ _) (Rd.at_ (by decide) (by decide) (by decide))
theorem tri_rd (k : Nat) (hk : k < 12) : Rd ((⟨GQ.i 10 0, GQ.i 0 0⟩ : PQ) * PQ.zp k) 3 (tri k) := by
  match k, hk with
  | 0, _ => exact tri_rd0
  | 1, _ => exact tri_rd1
  | 2, _ => exact tri_rd2
  | 3, _ => exact tri_rd3
  | 4, _ => exact tri_rd4
  | 5, _ => exact tri_rd5
  | 6, _ => exact tri_rd6
  | 7, _ => exact tri_rd7
  | 8, _ => exact tri_rd8
  | 9, _ => exact tri_rd9
  | 10, _ => exact tri_rd10
  | 11, _ => exact tri_rd11
theorem smp_tri : row12 (fun j => lm 100 (tri j)) = #[.int .i64 3, .int .i64 3, .int .i64 2, .int .i64 0, .int .i64 (-2), .int .i64 (-3), .int .i64 (-3), .int .i64 (-3), .int .i64 (-2), .int .i64 0, .int .i64 2, .int .i64 3] := by kernel_rfl
theorem smp_ten7 : row12 (fun j => lm 7 (ten j)) = #[.int .i64 7, .int .i64 7, .int .i64 5, .int .i64 0, .int .i64 (-5), .int .i64 (-7), .int .i64 (-7), .int .i64 (-7), .int .i64 (-5), .int .i64 0, .int .i64 5, .int .i64 7] := by kernel_rfl
end Go.Proofs.YtclkkoiaaddllaaGreat
