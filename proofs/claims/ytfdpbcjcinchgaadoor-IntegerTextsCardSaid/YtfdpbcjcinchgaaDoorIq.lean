/- Contracts: the guess of a digit. -/
import Derived.Test.YtfdpbcjcinchgaaDoorIp
import Derived.Test.YtfdpbcjcinchgaaDoorKnuth
namespace Go.Proofs.YtfdpbcjcinchgaaDoor
open Go.RowKit
set_option linter.unusedVariables false

/-- What is known of a guess: it is not too small, and the head is told by it. -/
def Guess (S V u2 u1 v1 g rest : Nat) : Prop := g * v1 + rest = u2 * 4294967296 + u1 ∧ S / V ≤ g
section
variable {S V P u2 u1 u0 v1 v0 g rest : Nat}
theorem Guess.first (t : Tops S V P u2 u1 u0 v1 v0) : Guess S V u2 u1 v1 ((u2 * 4294967296 + u1) / v1) ((u2 * 4294967296 + u1) % v1) :=
  ⟨by rw [Nat.mul_comm]; exact Nat.div_add_mod _ _, t.first⟩
theorem Guess.le (t : Tops S V P u2 u1 u0 v1 v0) (h : Guess S V u2 u1 v1 g rest) : g ≤ 4294967299 := by
  have h1 := t.head_lt
  have h2 := h.1
  have h3 := t.top
  have h4 := t.l1
  rcases Nat.lt_or_ge 4294967299 g with hc | hc
  · exfalso
    have : 4294967300 * v1 ≤ g * v1 := Nat.mul_le_mul_right _ hc
    omega
  · exact hc
theorem Guess.big (t : Tops S V P u2 u1 u0 v1 v0) (h : Guess S V u2 u1 v1 g rest) (hg : 4294967296 ≤ g) : Guess S V u2 u1 v1 (g - 1) (rest + v1) := by
  have h1 := t.q_lt
  refine ⟨?_, by omega⟩
  rw [← h.1, Nat.sub_mul, Nat.one_mul]
  have : 1 * v1 ≤ g * v1 := Nat.mul_le_mul_right _ (by omega)
  omega
theorem Guess.fail (t : Tops S V P u2 u1 u0 v1 v0) (h : Guess S V u2 u1 v1 g rest) (hg : g * v0 > u0 + 4294967296 * rest) : 0 < g ∧ Guess S V u2 u1 v1 (g - 1) (rest + v1) := by
  have h1 := t.above ((guess_test (u0 := u0) (v0 := v0) h.1).1 (by omega))
  have h0 : 0 < g := Nat.lt_of_le_of_lt (Nat.zero_le _) h1
  refine ⟨h0, ?_, by omega⟩
  rw [← h.1, Nat.sub_mul, Nat.one_mul]
  have : 1 * v1 ≤ g * v1 := Nat.mul_le_mul_right _ h0
  omega
theorem Guess.pass (t : Tops S V P u2 u1 u0 v1 v0) (h : Guess S V u2 u1 v1 g rest) (hb : g < 4294967296) (hg : ¬ g * v0 > u0 + 4294967296 * rest) : S / V ≤ g ∧ g ≤ S / V + 1 := by
  refine ⟨h.2, t.close hb ?_⟩
  have := mt (guess_test (u0 := u0) (v0 := v0) h.1).2 (by omega)
  omega
theorem Guess.stop (t : Tops S V P u2 u1 u0 v1 v0) (h : Guess S V u2 u1 v1 g rest) (hr : 4294967296 ≤ rest) : g < 4294967296 ∧ S / V ≤ g ∧ g ≤ S / V + 1 := by
  have h1 := t.head_lt
  have h2 := h.1
  have hb : g < 4294967296 := by
    rcases Nat.lt_or_ge g 4294967296 with hc | hc
    · exact hc
    · exfalso
      have : 4294967296 * v1 ≤ g * v1 := Nat.mul_le_mul_right _ hc
      omega
  refine ⟨hb, h.pass t hb ?_⟩
  have := prod_lt hb t.l0
  omega
end

set_option maxRecDepth 100000 in
set_option maxHeartbeats 800000 in
theorem rguess_any (S V P u2 u1 u0 v1 v0 : Nat) (w : World) (t : Tops S V P u2 u1 u0 v1 v0) :
    Calls Tryd.prog 93 #[.int .u64 (u2 : Int), .int .u64 (u1 : Int), .int .u64 (u0 : Int), .int .u64 (v1 : Int), .int .u64 (v0 : Int)] w fun e w' => (∃ g : Nat, e = .returned (.int .u64 (g : Int)) ∧ g < 4294967296 ∧ S / V ≤ g ∧ g ≤ S / V + 1) ∧ w = w' := by
  have hu2 := t.m2; have hu1 := t.m1; have hu0 := t.m0; have hv1 := t.l1; have hv0 := t.l0; have htop := t.top
  have HG0 := Lib.hid (Guess.first t)
  obtain ⟨hd, hhd⟩ : ∃ hd, hd = u2 * 4294967296 + u1 := ⟨_, rfl⟩
  rw [← hhd] at HG0
  have hdb : hd < 18446744073709551616 := by omega
  have e0 : bits .or .u64 ((u2 : Int) * 4294967296) (u1 : Int) = (hd : Int) := by rw [or_hi hu2 hu1, hhd]; omega
  have HHD := Lib.hid hhd; clear hhd
  have hv0' : 1 ≤ v1 := by omega
  have hdq : (0 : Int) ≤ (hd : Int) / (v1 : Int) := Int.ediv_nonneg (by omega) (by omega)
  have hdq2 : (hd : Int) / (v1 : Int) ≤ 18446744073709551615 := by
    have := Nat.div_le_self hd v1
    rw [← Int.natCast_ediv]; omega
  go_enter Tryd.func93, Tryd.ntmps93
  go_wp2
  clear e0
  go_loop [11, 12] (fun qv rv => ∃ g rest : Nat, qv = .int .u64 (g : Int) ∧ rv = .int .u64 (rest : Int) ∧ rest < 4294967296 ∧ Guess S V u2 u1 v1 g rest) (fun qv _ => (intOf qv).toNat)
  case atStart => exact ⟨hd / v1, hd % v1, rfl, rfl, Nat.lt_trans (Nat.mod_lt _ (by omega)) hv1, HG0.out⟩
  case round =>
    obtain ⟨g, rest, rfl, rfl, hr, hG⟩ := hrel
    have hgle := Guess.le t hG
    have HG := Lib.hid hG; clear hG
    by_cases hb : 4294967296 ≤ g
    · have hb' : (4294967296 : Int) ≤ (g : Int) := by omega
      have HG2 := Lib.hid (Guess.big t HG.out hb)
      by_cases hr2 : 4294967296 ≤ rest + v1
      · have hr3 : (4294967296 : Int) ≤ (rest : Int) + (v1 : Int) := by omega
        go_wp2
        go_ret
        obtain ⟨s1, s2, s3⟩ := Guess.stop t HG2.out hr2
        exact ⟨⟨g - 1, ret_int (by omega), s1, s2, s3⟩, rfl⟩
      · have hr3 : decide ((4294967296 : Int) ≤ (rest : Int) + (v1 : Int)) = false := by rw [decide_eq_false_iff_not]; omega
        have hr4 : decide (4294967296 ≤ rest + v1) = false := decide_eq_false hr2
        have HR2 := Lib.hid hr2; clear hr2
        go_wp2
        go_round
        case rel => exact ⟨g - 1, rest + v1, by go_num, by go_num, by have := HR2.out; omega, HG2.out⟩
        case measure => simp [intOf] <;> omega
    · obtain ⟨tp, htp⟩ : ∃ tp, tp = g * v0 := ⟨_, rfl⟩
      obtain ⟨z, hz⟩ : ∃ z, z = u0 + 4294967296 * rest := ⟨_, rfl⟩
      have htb : tp ≤ 18446744065119617025 := by rw [htp]; exact prod_lt (by omega) hv0
      have e1 : IntKind.u64.wrap ((g : Int) * (v0 : Int)) = (tp : Int) := by rw [IntWalk.u64_in _ (by rw [show ((g : Int) * (v0 : Int)) = ((g * v0 : Nat) : Int) by simp, ← htp]; omega), htp]; simp
      have e2 : bits .or .u64 ((rest : Int) * 4294967296) (u0 : Int) = (z : Int) := by rw [or_hi hr hu0, hz]
      have hzb : z < 18446744073709551616 := by omega
      have hb' : decide ((4294967296 : Int) ≤ (g : Int)) = false := by rw [decide_eq_false_iff_not]; omega
      have hb2 : decide (4294967296 ≤ g) = false := decide_eq_false hb
      have HB := Lib.hid hb
      by_cases hc : z < tp
      · obtain ⟨hg0, hG2⟩ := Guess.fail (u0 := u0) (v0 := v0) t HG.out (by rw [← htp, ← hz]; exact hc)
        have HG2 := Lib.hid hG2; clear hG2
        clear htp hz hb
        have hc' : (z : Int) < (tp : Int) := by omega
        clear hc
        by_cases hr2 : 4294967296 ≤ rest + v1
        · have hr3 : (4294967296 : Int) ≤ (rest : Int) + (v1 : Int) := by omega
          have HR2 := Lib.hid hr2; clear hr2
          go_wp2
          go_ret
          obtain ⟨s1, s2, s3⟩ := Guess.stop t HG2.out HR2.out
          exact ⟨⟨g - 1, ret_int (by omega), s1, s2, s3⟩, rfl⟩
        · have hr3 : decide ((4294967296 : Int) ≤ (rest : Int) + (v1 : Int)) = false := by rw [decide_eq_false_iff_not]; omega
          have hr4 : decide (4294967296 ≤ rest + v1) = false := decide_eq_false hr2
          have HR2 := Lib.hid hr2; clear hr2
          go_wp2
          go_round
          case rel => exact ⟨g - 1, rest + v1, by go_num, by go_num, by have := HR2.out; omega, HG2.out⟩
          case measure => simp [intOf] <;> omega
      · obtain ⟨s2, s3⟩ := Guess.pass (u0 := u0) (v0 := v0) t HG.out (by omega) (by rw [← htp, ← hz]; omega)
        have S2 := Lib.hid s2; have S3 := Lib.hid s3; clear s2 s3 htp hz hb
        have hc' : (tp : Int) ≤ (z : Int) := by omega
        clear hc
        go_wp2
        go_ret
        exact ⟨⟨g, rfl, by have := HB.out; omega, S2.out, S3.out⟩, rfl⟩
end Go.Proofs.YtfdpbcjcinchgaaDoor
