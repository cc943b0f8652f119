/- Contracts: the reference's equality, absolute value and Of. -/
import Derived.Test.YtfdpbcjcinchgaaDoorIl
namespace Go.Proofs.YtfdpbcjcinchgaaDoor
open Go.RowKit
set_option linter.unusedVariables false

theorem cmpN_zero {p q : Nat} : (cmpN p q == 0) = decide (p = q) := by
  unfold cmpN
  rcases Nat.lt_trichotomy p q with h | h | h
  · simp [h]; omega
  · simp [h]
  · have : ¬ p < q := by omega
    simp [h, this]; omega
theorem abs_same {x y : Int} (h : decide (x < 0) = decide (y < 0)) : decide (x.natAbs = y.natAbs) = decide (x = y) := by
  by_cases hx : x < 0
  · have hy : y < 0 := by simpa [hx] using h
    rw [decide_eq_decide]; omega
  · have hy : ¬ y < 0 := by simpa [hx] using h
    rw [decide_eq_decide]; omega

set_option maxRecDepth 100000 in
set_option maxHeartbeats 400000 in
theorem rSame_any (v u : Value) (x y : Int) (w : World) (hX : RI w v x) (hY : RI w u y) :
    Calls Tryd.prog 39 #[v, u] w fun e w' => e = .returned (.bool (decide (x = y))) ∧ Ext w w' := by
  obtain ⟨A, n, c, rfl, hx⟩ := hX
  obtain ⟨B, m, d, rfl, hy⟩ := hY
  by_cases hs : decide (x < 0) = decide (y < 0)
  · have hs1 : (decide (x < 0) == decide (y < 0)) = true := by simpa using hs
    have HS := Lib.hid hs; clear hs
    go_enter Tryd.func39, Tryd.ntmps39
    go_wp2_with fail
    refine (rcompare_any A B n m c d _ _ _ (hx.ext ((Ext.new w _).alloc _)) (hy.ext ((Ext.new w _).alloc _)) (canon_digs _) (canon_digs _)).mono ?_
    rintro e w1 ⟨rfl, hx1⟩
    go_wp2
    go_ret
    refine ⟨ret_bool ?_, ((Ext.new w _).alloc _).trans hx1⟩
    rw [val_digs, val_digs, cmpN_zero, abs_same HS.out]
  · have hs1 : (decide (x < 0) == decide (y < 0)) = false := by simpa using hs
    have hne : x ≠ y := fun e => hs (by rw [e])
    go_enter Tryd.func39, Tryd.ntmps39
    go_wp2
    go_ret
    exact ⟨ret_bool (by simp [hne]), (Ext.new w _).alloc _⟩

set_option maxRecDepth 100000 in
set_option maxHeartbeats 400000 in
theorem rSize_any (v : Value) (x z : Int) (w : World) (hX : RI w v x) (ax : x.natAbs < lim) (hz : z = (x.natAbs : Int)) :
    Calls Tryd.prog 47 #[v] w fun e w' => ∃ v, e = .returned v ∧ RI w' v z ∧ Ext w w' := by
  obtain ⟨A, n, c, rfl, hx⟩ := hX
  have hn := hx.le400 ax
  have HZ := Lib.hid hz; clear hz
  go_enter Tryd.func47, Tryd.ntmps47
  go_wp2_with fail
  refine (rmade_any false A n c _ _ (hx.ext ((Ext.new w _).alloc _)) (by omega)).mono ?_
  rintro e w3 ⟨v2, rfl, ⟨A2, n2, c2, rfl, hI⟩, hx3⟩
  rw [val_digs, zOf_pos, ← HZ.out] at hI
  rw [val_digs, zOf_pos, ← HZ.out]
  have b4 := box2b hx3
  have c4 := b4.cell
  have f4 := b4.frozen
  obtain ⟨k1, k2, k3⟩ := put2 (box2 hx3) (by omega) b4 (decide (z < 0)) A2 n2 c2
  have K1 := Lib.hid k1; have K2 := Lib.hid k2; have K3 := Lib.hid (k3 _ _ _ _ hI); clear k1 k2 k3
  go_wp2
  exact bp_int1 rfl rfl rfl K2.out ⟨_, rfl, ⟨_, _, _, rfl, K3.out⟩, K1.out⟩

theorem u64_back {m : Nat} (h0 : 0 < m) (h : m ≤ 9223372036854775808) : IntKind.u64.wrap (bits .xor .u64 IntKind.u64.max (IntKind.u64.wrap (-(m : Int))) + 1) = (m : Int) := by
  have e : IntKind.u64.wrap (-(m : Int)) = ((18446744073709551616 - m : Nat) : Int) := by rw [u64_wrap]; omega
  rw [e, u64_not (by omega), u64_wrap]; omega

set_option maxRecDepth 100000 in
set_option maxHeartbeats 400000 in
theorem rOf_any (n : Int) (w : World) (h1 : -9223372036854775808 ≤ n) (h2 : n ≤ 9223372036854775807) :
    Calls Tryd.prog 48 #[.int .i64 n] w fun e w' => ∃ v, e = .returned v ∧ RI w' v n ∧ Ext w w' := by
  obtain ⟨z, hz⟩ : ∃ z, z = n := ⟨_, rfl⟩
  by_cases h0 : n < 0
  · obtain ⟨m, rfl⟩ : ∃ m : Nat, n = -(m : Int) := ⟨n.natAbs, by omega⟩
    rw [← hz]
    have HZ := Lib.hid hz; clear hz
    rw [HZ.out]
    go_enter Tryd.func48, Tryd.ntmps48
    go_wp2_with fail
    rw [u64_back (by omega) (by omega)]
    refine (rdigits_any m _ (by omega)).mono ?_
    rintro e w1 ⟨v1, rfl, ⟨A1, n1, c1, rfl, hR⟩, hx1⟩
    go_wp2_with fail
    have hn1 : n1 ≤ 1000000 := by
      have h1 := hR.len
      have h2 := digs_len_le (n := m) (k := 2) (by omega)
      omega
    refine (rmade_any true A1 n1 c1 _ _ hR hn1).mono ?_
    rintro e w3 ⟨v2, rfl, ⟨A2, n2, c2, rfl, hI⟩, hx3⟩
    rw [val_digs, zOf_min, ← HZ.out] at hI
    rw [val_digs, zOf_min, ← HZ.out]
    have hx3 := hx1.trans hx3
    have b4 := (Blk.new w 24 _).ext hx3
    have c4 := b4.cell
    have f4 := b4.frozen
    obtain ⟨k1, k2, k3⟩ := put2 ((Ext.new w _).trans hx3) (by omega) b4 (decide (z < 0)) A2 n2 c2
    have K1 := Lib.hid k1; have K2 := Lib.hid k2; have K3 := Lib.hid (k3 _ _ _ _ hI); clear k1 k2 k3
    go_wp2
    exact bp_int1 rfl rfl rfl K2.out ⟨_, rfl, HZ.out.subst (motive := fun t => RI _ (iv (decide (z < 0)) A2 n2 c2) t) (show RI _ (iv (decide (z < 0)) A2 n2 c2) z from ⟨_, _, _, rfl, K3.out⟩), K1.out⟩
  · obtain ⟨m, rfl⟩ : ∃ m : Nat, n = (m : Int) := ⟨n.natAbs, by omega⟩
    rw [← hz]
    have HZ := Lib.hid hz; clear hz
    rw [HZ.out]
    go_enter Tryd.func48, Tryd.ntmps48
    go_wp2_with fail
    refine (rdigits_any m _ (by omega)).mono ?_
    rintro e w1 ⟨v1, rfl, ⟨A1, n1, c1, rfl, hR⟩, hx1⟩
    go_wp2_with fail
    have hn1 : n1 ≤ 1000000 := by
      have h1 := hR.len
      have h2 := digs_len_le (n := m) (k := 2) (by omega)
      omega
    refine (rmade_any false A1 n1 c1 _ _ hR hn1).mono ?_
    rintro e w3 ⟨v2, rfl, ⟨A2, n2, c2, rfl, hI⟩, hx3⟩
    rw [val_digs, zOf_pos, ← HZ.out] at hI
    rw [val_digs, zOf_pos, ← HZ.out]
    have hx3 := hx1.trans hx3
    have b4 := (Blk.new w 24 _).ext hx3
    have c4 := b4.cell
    have f4 := b4.frozen
    obtain ⟨k1, k2, k3⟩ := put2 ((Ext.new w _).trans hx3) (by omega) b4 (decide (z < 0)) A2 n2 c2
    have K1 := Lib.hid k1; have K2 := Lib.hid k2; have K3 := Lib.hid (k3 _ _ _ _ hI); clear k1 k2 k3
    go_wp2
    exact bp_int1 rfl rfl rfl K2.out ⟨_, rfl, HZ.out.subst (motive := fun t => RI _ (iv (decide (z < 0)) A2 n2 c2) t) (show RI _ (iv (decide (z < 0)) A2 n2 c2) z from ⟨_, _, _, rfl, K3.out⟩), K1.out⟩
end Go.Proofs.YtfdpbcjcinchgaaDoor
