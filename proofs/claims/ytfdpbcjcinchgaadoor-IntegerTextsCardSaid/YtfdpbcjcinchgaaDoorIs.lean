/- Contracts: the reference's division of digits. -/
import Derived.Test.YtfdpbcjcinchgaaDoorIr
namespace Go.Proofs.YtfdpbcjcinchgaaDoor
open Go.RowKit
set_option linter.unusedVariables false

theorem le_of_digs {a n : Nat} (h : (digs a).length = n) (h0 : n ≠ 0) : 4294967296 ^ (n - 1) ≤ a := by
  have := val_ge (canon_digs a) (by intro e; rw [e] at h; simp at h; omega)
  rwa [val_digs, h] at this

set_option maxRecDepth 100000 in
set_option maxHeartbeats 800000 in
theorem rdivide_lt (A B : Option Addr) (n m c d a b : Nat) (w : World) (hA : RM w A n c (digs a)) (hB : RM w B m d (digs b)) (hab : a < b) :
    Calls Tryd.prog 73 #[.slice A n c, .slice B m d] w fun e w' => ∃ q r, e = .returned (.tuple #[q, r]) ∧ SlM (digs (a / b)) q w' ∧ SlM (digs (a % b)) r w' ∧ Ext w w' := by
  have hcm : decide (cmpN a b < 0) = true := by rw [cmp_lt_iff]; exact decide_eq_true hab
  go_enter Tryd.func73, Tryd.ntmps73
  go_wp2_with fail
  refine (rcompare_any A B n m c d _ _ _ hA hB (canon_digs _) (canon_digs _)).mono ?_
  rintro e w1 ⟨rfl, hx1⟩
  rw [val_digs, val_digs]
  go_wp2
  go_ret2
  refine ⟨_, _, rfl, ⟨none, 0, 0, rfl, ?_⟩, ⟨A, n, c, rfl, ?_⟩, hx1⟩
  · rw [Nat.div_eq_of_lt hab, digs_zero]; exact RM.nil
  · rw [Nat.mod_eq_of_lt hab]; exact hA.ext hx1

set_option maxRecDepth 100000 in
set_option maxHeartbeats 800000 in
theorem rdivide_one (A B : Option Addr) (n c d a b : Nat) (w : World) (hA : RM w A n c (digs a)) (hB : RM w B 1 d (digs b)) (hab : b ≤ a) (hn : n ≤ 1000000) :
    Calls Tryd.prog 73 #[.slice A n c, .slice B 1 d] w fun e w' => ∃ q r, e = .returned (.tuple #[q, r]) ∧ SlM (digs (a / b)) q w' ∧ SlM (digs (a % b)) r w' ∧ Ext w w' := by
  have hcm : decide (cmpN a b < 0) = false := by rw [cmp_lt_iff]; exact decide_eq_false (by omega)
  obtain ⟨ad, x, rfl, _, hx, hx32, hcx⟩ := hB.at_ (k := 0) (by omega)
  have hl := hB.len
  have hbx : digs b = [x] := by
    match hd : digs b, hl, hx with
    | [y], _, h => simp at h; rw [h]
  have hb : b = x := by rw [← val_digs b, hbx]; simp [val]
  subst hb
  have hb0 : 0 < b := by
    rcases Nat.eq_zero_or_pos b with h | h
    · subst h; rw [digs_zero] at hl; simp at hl
    · exact h
  have HC := Lib.hid hcx; clear hcx hx hl hbx
  go_enter Tryd.func73, Tryd.ntmps73
  go_wp2_with fail
  refine (rcompare_any A (some ad) n 1 c d _ _ _ hA hB (canon_digs _) (canon_digs _)).mono ?_
  rintro e w1 ⟨rfl, hx1⟩
  rw [val_digs, val_digs]
  have hc1 : w1.cell? ad = some (.int .u32 (b : Int)) := hx1.cell_ HC.out
  go_wp2_with fail
  refine (rshort_any A n c b _ _ (hA.ext hx1) hn hb0 hx32).mono ?_
  rintro e w2 ⟨v2, rfl, hR2, hx2⟩
  rw [val_digs] at hR2
  rw [val_digs]
  have hmod : a % b < 4294967296 := Nat.lt_trans (Nat.mod_lt _ hb0) hx32
  generalize hr : a % b = r at *
  have HRR := Lib.hid hr; clear hr
  go_wp2_with fail
  refine (rtrim_any _ 1 1 [r] _ (RM.blk (Blk.new _ _ _) (Dig.one hmod) rfl (by omega)) (by omega)).mono ?_
  rintro e w3 ⟨v3, rfl, hR3, hx3⟩
  have hR2' := hR2.ext ((Ext.new w2 _).trans hx3)
  go_wp2
  go_ret2
  refine ⟨_, _, rfl, hR2', by rw [HRR.out]; simpa [val] using hR3, (hx1.trans hx2).trans ((Ext.new w2 _).trans hx3)⟩

theorem and31n {y : Nat} (h : y < 4294967296) : y &&& 2147483648 = 0 ↔ y < 2147483648 := by
  have hb : y.testBit 31 = decide (y / 2 ^ 31 % 2 = 1) := Nat.testBit_eq_decide_div_mod_eq
  constructor
  · intro h0
    have h1 : (y &&& 2 ^ 31).testBit 31 = false := by rw [show y &&& 2 ^ 31 = 0 from h0]; simp
    rw [Nat.testBit_and, Nat.testBit_two_pow_self, Bool.and_true, hb, decide_eq_false_iff_not] at h1
    omega
  · intro h0
    have h1 : y.testBit 31 = false := by rw [hb, decide_eq_false_iff_not]; omega
    refine Nat.eq_of_testBit_eq fun i => ?_
    rw [show (2147483648 : Nat) = 2 ^ 31 from rfl, Nat.testBit_and, Nat.testBit_two_pow]
    by_cases hi : 31 = i
    · subst hi; simp [h1]
    · simp [hi]
theorem and31 {y : Nat} (h : y < 4294967296) : (bits .and .u32 (y : Int) 2147483648 == 0) = decide (y < 2147483648) := by
  have e : bits .and .u32 (y : Int) ((2147483648 : Nat) : Int) = ((y &&& 2147483648 : Nat) : Int) :=
    (bits_nat .u32 32 (by decide) wraps_u32 y 2147483648 (by omega) (by omega)).1
  rw [show (2147483648 : Int) = ((2147483648 : Nat) : Int) from rfl, e]
  have h1 := and31n h
  generalize y &&& 2147483648 = z at h1
  by_cases hy : y < 2147483648
  · rw [h1.2 hy, decide_eq_true hy]; rfl
  · rw [decide_eq_false hy]
    have : z ≠ 0 := fun e => hy (h1.1 e)
    simp; exact this

/-! A divisor of two or more digits. -/
/-- What the shift does: its number, the shifted divisor. -/
structure Norm (b n s : Nat) (x : Nat) : Prop where
  len : (digs b).length = n + 2
  top : (digs b)[n + 1]? = some x
  lo : 2147483648 ≤ x * 2 ^ s
  hi : x * 2 ^ s < 4294967296
  hs : s < 32
theorem Norm.lt {b n s x : Nat} (h : Norm b n s x) : b * 2 ^ s < 4294967296 ^ (n + 2) := by
  have h1 := val_take_succ h.top
  rw [val_take_all (by rw [h.len]; omega), val_digs] at h1
  have h2 := val_take_lt (dig_digs b) (n + 1)
  have h3 : x * 2 ^ s + 2 ^ s ≤ 4294967296 := by
    have e := pow32 (show s ≤ 32 by have := h.hs; omega)
    have h4 := h.hi
    rw [← e, Nat.mul_comm x] at h4
    have h5 := Nat.lt_of_mul_lt_mul_left h4
    have h6 : 2 ^ s * (x + 1) ≤ 2 ^ s * 2 ^ (32 - s) := Nat.mul_le_mul_left _ h5
    rw [e, Nat.mul_add, Nat.mul_one, Nat.mul_comm] at h6
    exact h6
  have h4 : b * 2 ^ s < 4294967296 ^ (n + 1) * (x + 1) * 2 ^ s := by
    refine Nat.mul_lt_mul_of_pos_right ?_ (Nat.pow_pos (by omega))
    rw [Nat.mul_add, Nat.mul_one]; omega
  have h5 : 4294967296 ^ (n + 1) * (x + 1) * 2 ^ s = 4294967296 ^ (n + 1) * (x * 2 ^ s + 2 ^ s) := by rw [Nat.mul_assoc, Nat.add_mul, Nat.one_mul]
  have h6 : 4294967296 ^ (n + 1) * (x * 2 ^ s + 2 ^ s) ≤ 4294967296 ^ (n + 1) * 4294967296 := Nat.mul_le_mul_left _ h3
  rw [show n + 2 = (n + 1) + 1 from rfl, Nat.pow_succ]
  omega
theorem Norm.ge {b n s x : Nat} (h : Norm b n s x) : 2147483648 * 4294967296 ^ (n + 1) ≤ b * 2 ^ s := by
  have h1 := val_take_succ h.top
  rw [val_take_all (by rw [h.len]; omega), val_digs] at h1
  have h2 : 4294967296 ^ (n + 1) * x * 2 ^ s ≤ b * 2 ^ s := Nat.mul_le_mul_right _ (by omega)
  have h3 : 4294967296 ^ (n + 1) * 2147483648 ≤ 4294967296 ^ (n + 1) * (x * 2 ^ s) := Nat.mul_le_mul_left _ h.lo
  rw [← Nat.mul_assoc] at h3
  omega
/-- The shifted divisor's digits. -/
theorem Norm.digits {b n s x : Nat} {q : List Nat} (h : Norm b n s x) (hq : q.length = n + 3) (hd : Dig q) (hv : val q = b * 2 ^ s) : val (q.take (n + 2)) = b * 2 ^ s ∧ ∃ v1 v0, (q.take (n + 2))[n + 1]? = some v1 ∧ (q.take (n + 2))[n]? = some v0 ∧ 2147483648 ≤ v1 := by
  have h1 := val_split q (n + 2) (by omega)
  have h2 := h.lt
  have h3 : val (q.drop (n + 2)) = 0 := by
    rcases Nat.eq_zero_or_pos (val (q.drop (n + 2))) with h0 | h0
    · exact h0
    · have : 4294967296 ^ (n + 2) * 1 ≤ 4294967296 ^ (n + 2) * val (q.drop (n + 2)) := Nat.mul_le_mul_left _ h0
      omega
  have h4 : val (q.take (n + 2)) = b * 2 ^ s := by rw [h3] at h1; omega
  have hlen : (q.take (n + 2)).length = n + 2 := by rw [List.length_take]; omega
  refine ⟨h4, _, _, List.getElem?_eq_getElem (by omega), List.getElem?_eq_getElem (by omega), ?_⟩
  have h5 : (q.take (n + 2))[n + 1]? = some (q.take (n + 2))[n + 1] := List.getElem?_eq_getElem (by omega)
  have h6 := val_take_succ h5
  rw [val_take_all (by omega), h4] at h6
  have h7 := val_take_lt (hd.take (n + 2)) (n + 1)
  have h8 := h.ge
  generalize (q.take (n + 2))[n + 1] = v1 at *
  rcases Nat.lt_or_ge v1 2147483648 with hc | hc
  · exfalso
    have : 4294967296 ^ (n + 1) * (v1 + 1) ≤ 4294967296 ^ (n + 1) * 2147483648 := Nat.mul_le_mul_left _ hc
    rw [Nat.mul_add, Nat.mul_one] at this
    omega
  · exact hc
end Go.Proofs.YtfdpbcjcinchgaaDoor
