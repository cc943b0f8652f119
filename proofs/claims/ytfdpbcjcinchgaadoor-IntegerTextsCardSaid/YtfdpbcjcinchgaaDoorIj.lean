/- Contracts: sums, differences and products of integers, valid or not. -/
import Derived.Test.YtfdpbcjcinchgaaDoorIi
namespace Go.Proofs.YtfdpbcjcinchgaaDoor
open Go.RowKit
set_option linter.unusedVariables false

theorem RM.le400 {w : World} {A : Option Addr} {n c : Nat} {z : Int} (h : RM w A n c (digs z.natAbs)) (hz : z.natAbs < lim) : n ≤ 400 := by
  have h1 := h.len
  have h2 := len_lim hz
  omega
theorem zOf_abs_of (z : Int) : zOf (decide (z < 0)) z.natAbs = z := by
  by_cases h : z < 0 <;> simp [zOf, h] <;> omega

theorem zOf_not_of (z : Int) : zOf (!decide (z < 0)) z.natAbs = -z := by
  by_cases h : z < 0 <;> simp [zOf, h] <;> omega
set_option maxRecDepth 100000 in
set_option maxHeartbeats 400000 in
theorem Add_bad1 (v u : Value) (s t : Bool) (l k : List Nat) (w : World) (hX : RX w v s l) (hY : RX w u t k) (hv : validB s l = false) :
    Calls Tryd.prog 26 #[v, u] w fun e w' => ∃ v, e = .returned v ∧ RetI (0, 1) v w' ∧ Ext w w' := by
  obtain ⟨A, n, c, rfl, hx⟩ := hX
  obtain ⟨B, m, d, rfl, hy⟩ := hY
  have HV1 := Lib.hid hv; clear hv
  go_enter Tryd.func26, Tryd.ntmps26
  go_wp2_with fail
  refine (Valid_any _ A n c _ _ (hx.ext (((Ext.new w _).alloc _).alloc _))).mono ?_
  rintro e w1 ⟨rfl, hx1⟩
  rw [HV1.out]
  have b4 := box3c hx1
  have c4 := b4.cell
  have f4 := b4.frozen
  obtain ⟨k1, k2, _⟩ := put2 (box3 hx1) (by omega) b4 false none 0 0
  have K1 := Lib.hid k1; have K2 := Lib.hid k2; clear k1 k2
  go_wp2
  exact bp_int2 rfl rfl rfl K2.out ⟨_, rfl, ⟨_, rfl, RI.zero _⟩, K1.out⟩
set_option maxRecDepth 100000 in
set_option maxHeartbeats 400000 in
theorem Add_bad2 (v u : Value) (s t : Bool) (l k : List Nat) (w : World) (hX : RX w v s l) (hY : RX w u t k) (hv : validB s l = true) (hu : validB t k = false) :
    Calls Tryd.prog 26 #[v, u] w fun e w' => ∃ v, e = .returned v ∧ RetI (0, 1) v w' ∧ Ext w w' := by
  obtain ⟨A, n, c, rfl, hx⟩ := hX
  obtain ⟨B, m, d, rfl, hy⟩ := hY
  have HV1 := Lib.hid hv; clear hv
  have HV2 := Lib.hid hu; clear hu
  go_enter Tryd.func26, Tryd.ntmps26
  go_wp2_with fail
  refine (Valid_any _ A n c _ _ (hx.ext (((Ext.new w _).alloc _).alloc _))).mono ?_
  rintro e w1 ⟨rfl, hx1⟩
  rw [HV1.out]
  have c0 := (box3a hx1).cell
  have c1 := (box3b hx1).cell
  go_wp2_with fail
  refine (Valid_any _ B m d _ _ (hy.ext (box3 hx1))).mono ?_
  rintro e w2 ⟨rfl, hx2⟩
  rw [HV2.out]
  clear c0 c1
  have hx2 := hx1.trans hx2
  have b4 := box3c hx2
  have c4 := b4.cell
  have f4 := b4.frozen
  obtain ⟨k1, k2, _⟩ := put2 (box3 hx2) (by omega) b4 false none 0 0
  have K1 := Lib.hid k1; have K2 := Lib.hid k2; clear k1 k2
  go_wp2
  exact bp_int2 rfl rfl rfl K2.out ⟨_, rfl, ⟨_, rfl, RI.zero _⟩, K1.out⟩
theorem Add_bad (v u : Value) (s t : Bool) (l k : List Nat) (w : World) (hX : RX w v s l) (hY : RX w u t k) (hv : (validB s l && validB t k) = false) :
    Calls Tryd.prog 26 #[v, u] w fun e w' => ∃ v, e = .returned v ∧ RetI (0, 1) v w' ∧ Ext w w' := by
  cases h1 : validB s l
  · exact Add_bad1 v u s t l k w hX hY h1
  · exact Add_bad2 v u s t l k w hX hY h1 (by simpa [h1] using hv)
set_option maxRecDepth 100000 in
set_option maxHeartbeats 400000 in
theorem Sub_bad1 (v u : Value) (s t : Bool) (l k : List Nat) (w : World) (hX : RX w v s l) (hY : RX w u t k) (hv : validB s l = false) :
    Calls Tryd.prog 33 #[v, u] w fun e w' => ∃ v, e = .returned v ∧ RetI (0, 1) v w' ∧ Ext w w' := by
  obtain ⟨A, n, c, rfl, hx⟩ := hX
  obtain ⟨B, m, d, rfl, hy⟩ := hY
  have HV1 := Lib.hid hv; clear hv
  go_enter Tryd.func33, Tryd.ntmps33
  go_wp2_with fail
  refine (Valid_any _ A n c _ _ (hx.ext (((Ext.new w _).alloc _).alloc _))).mono ?_
  rintro e w1 ⟨rfl, hx1⟩
  rw [HV1.out]
  have b4 := box3c hx1
  have c4 := b4.cell
  have f4 := b4.frozen
  obtain ⟨k1, k2, _⟩ := put2 (box3 hx1) (by omega) b4 false none 0 0
  have K1 := Lib.hid k1; have K2 := Lib.hid k2; clear k1 k2
  go_wp2
  exact bp_int2 rfl rfl rfl K2.out ⟨_, rfl, ⟨_, rfl, RI.zero _⟩, K1.out⟩
set_option maxRecDepth 100000 in
set_option maxHeartbeats 400000 in
theorem Sub_bad2 (v u : Value) (s t : Bool) (l k : List Nat) (w : World) (hX : RX w v s l) (hY : RX w u t k) (hv : validB s l = true) (hu : validB t k = false) :
    Calls Tryd.prog 33 #[v, u] w fun e w' => ∃ v, e = .returned v ∧ RetI (0, 1) v w' ∧ Ext w w' := by
  obtain ⟨A, n, c, rfl, hx⟩ := hX
  obtain ⟨B, m, d, rfl, hy⟩ := hY
  have HV1 := Lib.hid hv; clear hv
  have HV2 := Lib.hid hu; clear hu
  go_enter Tryd.func33, Tryd.ntmps33
  go_wp2_with fail
  refine (Valid_any _ A n c _ _ (hx.ext (((Ext.new w _).alloc _).alloc _))).mono ?_
  rintro e w1 ⟨rfl, hx1⟩
  rw [HV1.out]
  have c0 := (box3a hx1).cell
  have c1 := (box3b hx1).cell
  go_wp2_with fail
  refine (Valid_any _ B m d _ _ (hy.ext (box3 hx1))).mono ?_
  rintro e w2 ⟨rfl, hx2⟩
  rw [HV2.out]
  clear c0 c1
  have hx2 := hx1.trans hx2
  have b4 := box3c hx2
  have c4 := b4.cell
  have f4 := b4.frozen
  obtain ⟨k1, k2, _⟩ := put2 (box3 hx2) (by omega) b4 false none 0 0
  have K1 := Lib.hid k1; have K2 := Lib.hid k2; clear k1 k2
  go_wp2
  exact bp_int2 rfl rfl rfl K2.out ⟨_, rfl, ⟨_, rfl, RI.zero _⟩, K1.out⟩
theorem Sub_bad (v u : Value) (s t : Bool) (l k : List Nat) (w : World) (hX : RX w v s l) (hY : RX w u t k) (hv : (validB s l && validB t k) = false) :
    Calls Tryd.prog 33 #[v, u] w fun e w' => ∃ v, e = .returned v ∧ RetI (0, 1) v w' ∧ Ext w w' := by
  cases h1 : validB s l
  · exact Sub_bad1 v u s t l k w hX hY h1
  · exact Sub_bad2 v u s t l k w hX hY h1 (by simpa [h1] using hv)
set_option maxRecDepth 100000 in
set_option maxHeartbeats 400000 in
theorem Mul_bad1 (v u : Value) (s t : Bool) (l k : List Nat) (w : World) (hX : RX w v s l) (hY : RX w u t k) (hv : validB s l = false) :
    Calls Tryd.prog 28 #[v, u] w fun e w' => ∃ v, e = .returned v ∧ RetI (0, 1) v w' ∧ Ext w w' := by
  obtain ⟨A, n, c, rfl, hx⟩ := hX
  obtain ⟨B, m, d, rfl, hy⟩ := hY
  have HV1 := Lib.hid hv; clear hv
  go_enter Tryd.func28, Tryd.ntmps28
  go_wp2_with fail
  refine (Valid_any _ A n c _ _ (hx.ext (((Ext.new w _).alloc _).alloc _))).mono ?_
  rintro e w1 ⟨rfl, hx1⟩
  rw [HV1.out]
  have b4 := box3c hx1
  have c4 := b4.cell
  have f4 := b4.frozen
  obtain ⟨k1, k2, _⟩ := put2 (box3 hx1) (by omega) b4 false none 0 0
  have K1 := Lib.hid k1; have K2 := Lib.hid k2; clear k1 k2
  go_wp2
  exact bp_int2 rfl rfl rfl K2.out ⟨_, rfl, ⟨_, rfl, RI.zero _⟩, K1.out⟩
set_option maxRecDepth 100000 in
set_option maxHeartbeats 400000 in
theorem Mul_bad2 (v u : Value) (s t : Bool) (l k : List Nat) (w : World) (hX : RX w v s l) (hY : RX w u t k) (hv : validB s l = true) (hu : validB t k = false) :
    Calls Tryd.prog 28 #[v, u] w fun e w' => ∃ v, e = .returned v ∧ RetI (0, 1) v w' ∧ Ext w w' := by
  obtain ⟨A, n, c, rfl, hx⟩ := hX
  obtain ⟨B, m, d, rfl, hy⟩ := hY
  have HV1 := Lib.hid hv; clear hv
  have HV2 := Lib.hid hu; clear hu
  go_enter Tryd.func28, Tryd.ntmps28
  go_wp2_with fail
  refine (Valid_any _ A n c _ _ (hx.ext (((Ext.new w _).alloc _).alloc _))).mono ?_
  rintro e w1 ⟨rfl, hx1⟩
  rw [HV1.out]
  have c0 := (box3a hx1).cell
  have c1 := (box3b hx1).cell
  go_wp2_with fail
  refine (Valid_any _ B m d _ _ (hy.ext (box3 hx1))).mono ?_
  rintro e w2 ⟨rfl, hx2⟩
  rw [HV2.out]
  clear c0 c1
  have hx2 := hx1.trans hx2
  have b4 := box3c hx2
  have c4 := b4.cell
  have f4 := b4.frozen
  obtain ⟨k1, k2, _⟩ := put2 (box3 hx2) (by omega) b4 false none 0 0
  have K1 := Lib.hid k1; have K2 := Lib.hid k2; clear k1 k2
  go_wp2
  exact bp_int2 rfl rfl rfl K2.out ⟨_, rfl, ⟨_, rfl, RI.zero _⟩, K1.out⟩
theorem Mul_bad (v u : Value) (s t : Bool) (l k : List Nat) (w : World) (hX : RX w v s l) (hY : RX w u t k) (hv : (validB s l && validB t k) = false) :
    Calls Tryd.prog 28 #[v, u] w fun e w' => ∃ v, e = .returned v ∧ RetI (0, 1) v w' ∧ Ext w w' := by
  cases h1 : validB s l
  · exact Mul_bad1 v u s t l k w hX hY h1
  · exact Mul_bad2 v u s t l k w hX hY h1 (by simpa [h1] using hv)
set_option maxRecDepth 100000 in
set_option maxHeartbeats 400000 in
theorem rAdd_bad1 (v u : Value) (s t : Bool) (l k : List Nat) (w : World) (hX : RX w v s l) (hY : RX w u t k) (hv : validB s l = false) :
    Calls Tryd.prog 27 #[v, u] w fun e w' => ∃ v, e = .returned v ∧ RetI (0, 1) v w' ∧ Ext w w' := by
  obtain ⟨A, n, c, rfl, hx⟩ := hX
  obtain ⟨B, m, d, rfl, hy⟩ := hY
  have HV1 := Lib.hid hv; clear hv
  go_enter Tryd.func27, Tryd.ntmps27
  go_wp2_with fail
  refine (rValid_any _ A n c _ _ (hx.ext (((Ext.new w _).alloc _).alloc _))).mono ?_
  rintro e w1 ⟨rfl, hx1⟩
  rw [HV1.out]
  have b4 := box3c hx1
  have c4 := b4.cell
  have f4 := b4.frozen
  obtain ⟨k1, k2, _⟩ := put2 (box3 hx1) (by omega) b4 false none 0 0
  have K1 := Lib.hid k1; have K2 := Lib.hid k2; clear k1 k2
  go_wp2
  exact bp_int2 rfl rfl rfl K2.out ⟨_, rfl, ⟨_, rfl, RI.zero _⟩, K1.out⟩
set_option maxRecDepth 100000 in
set_option maxHeartbeats 400000 in
theorem rAdd_bad2 (v u : Value) (s t : Bool) (l k : List Nat) (w : World) (hX : RX w v s l) (hY : RX w u t k) (hv : validB s l = true) (hu : validB t k = false) :
    Calls Tryd.prog 27 #[v, u] w fun e w' => ∃ v, e = .returned v ∧ RetI (0, 1) v w' ∧ Ext w w' := by
  obtain ⟨A, n, c, rfl, hx⟩ := hX
  obtain ⟨B, m, d, rfl, hy⟩ := hY
  have HV1 := Lib.hid hv; clear hv
  have HV2 := Lib.hid hu; clear hu
  go_enter Tryd.func27, Tryd.ntmps27
  go_wp2_with fail
  refine (rValid_any _ A n c _ _ (hx.ext (((Ext.new w _).alloc _).alloc _))).mono ?_
  rintro e w1 ⟨rfl, hx1⟩
  rw [HV1.out]
  have c0 := (box3a hx1).cell
  have c1 := (box3b hx1).cell
  go_wp2_with fail
  refine (rValid_any _ B m d _ _ (hy.ext (box3 hx1))).mono ?_
  rintro e w2 ⟨rfl, hx2⟩
  rw [HV2.out]
  clear c0 c1
  have hx2 := hx1.trans hx2
  have b4 := box3c hx2
  have c4 := b4.cell
  have f4 := b4.frozen
  obtain ⟨k1, k2, _⟩ := put2 (box3 hx2) (by omega) b4 false none 0 0
  have K1 := Lib.hid k1; have K2 := Lib.hid k2; clear k1 k2
  go_wp2
  exact bp_int2 rfl rfl rfl K2.out ⟨_, rfl, ⟨_, rfl, RI.zero _⟩, K1.out⟩
theorem rAdd_bad (v u : Value) (s t : Bool) (l k : List Nat) (w : World) (hX : RX w v s l) (hY : RX w u t k) (hv : (validB s l && validB t k) = false) :
    Calls Tryd.prog 27 #[v, u] w fun e w' => ∃ v, e = .returned v ∧ RetI (0, 1) v w' ∧ Ext w w' := by
  cases h1 : validB s l
  · exact rAdd_bad1 v u s t l k w hX hY h1
  · exact rAdd_bad2 v u s t l k w hX hY h1 (by simpa [h1] using hv)
set_option maxRecDepth 100000 in
set_option maxHeartbeats 400000 in
theorem rMul_bad1 (v u : Value) (s t : Bool) (l k : List Nat) (w : World) (hX : RX w v s l) (hY : RX w u t k) (hv : validB s l = false) :
    Calls Tryd.prog 29 #[v, u] w fun e w' => ∃ v, e = .returned v ∧ RetI (0, 1) v w' ∧ Ext w w' := by
  obtain ⟨A, n, c, rfl, hx⟩ := hX
  obtain ⟨B, m, d, rfl, hy⟩ := hY
  have HV1 := Lib.hid hv; clear hv
  go_enter Tryd.func29, Tryd.ntmps29
  go_wp2_with fail
  refine (rValid_any _ A n c _ _ (hx.ext (((Ext.new w _).alloc _).alloc _))).mono ?_
  rintro e w1 ⟨rfl, hx1⟩
  rw [HV1.out]
  have b4 := box3c hx1
  have c4 := b4.cell
  have f4 := b4.frozen
  obtain ⟨k1, k2, _⟩ := put2 (box3 hx1) (by omega) b4 false none 0 0
  have K1 := Lib.hid k1; have K2 := Lib.hid k2; clear k1 k2
  go_wp2
  exact bp_int2 rfl rfl rfl K2.out ⟨_, rfl, ⟨_, rfl, RI.zero _⟩, K1.out⟩
set_option maxRecDepth 100000 in
set_option maxHeartbeats 400000 in
theorem rMul_bad2 (v u : Value) (s t : Bool) (l k : List Nat) (w : World) (hX : RX w v s l) (hY : RX w u t k) (hv : validB s l = true) (hu : validB t k = false) :
    Calls Tryd.prog 29 #[v, u] w fun e w' => ∃ v, e = .returned v ∧ RetI (0, 1) v w' ∧ Ext w w' := by
  obtain ⟨A, n, c, rfl, hx⟩ := hX
  obtain ⟨B, m, d, rfl, hy⟩ := hY
  have HV1 := Lib.hid hv; clear hv
  have HV2 := Lib.hid hu; clear hu
  go_enter Tryd.func29, Tryd.ntmps29
  go_wp2_with fail
  refine (rValid_any _ A n c _ _ (hx.ext (((Ext.new w _).alloc _).alloc _))).mono ?_
  rintro e w1 ⟨rfl, hx1⟩
  rw [HV1.out]
  have c0 := (box3a hx1).cell
  have c1 := (box3b hx1).cell
  go_wp2_with fail
  refine (rValid_any _ B m d _ _ (hy.ext (box3 hx1))).mono ?_
  rintro e w2 ⟨rfl, hx2⟩
  rw [HV2.out]
  clear c0 c1
  have hx2 := hx1.trans hx2
  have b4 := box3c hx2
  have c4 := b4.cell
  have f4 := b4.frozen
  obtain ⟨k1, k2, _⟩ := put2 (box3 hx2) (by omega) b4 false none 0 0
  have K1 := Lib.hid k1; have K2 := Lib.hid k2; clear k1 k2
  go_wp2
  exact bp_int2 rfl rfl rfl K2.out ⟨_, rfl, ⟨_, rfl, RI.zero _⟩, K1.out⟩
theorem rMul_bad (v u : Value) (s t : Bool) (l k : List Nat) (w : World) (hX : RX w v s l) (hY : RX w u t k) (hv : (validB s l && validB t k) = false) :
    Calls Tryd.prog 29 #[v, u] w fun e w' => ∃ v, e = .returned v ∧ RetI (0, 1) v w' ∧ Ext w w' := by
  cases h1 : validB s l
  · exact rMul_bad1 v u s t l k w hX hY h1
  · exact rMul_bad2 v u s t l k w hX hY h1 (by simpa [h1] using hv)

/-! Valid arguments. -/
set_option maxRecDepth 100000 in
set_option maxHeartbeats 800000 in
theorem Add_ok (v u : Value) (x y : Int) (w : World) (hX : RI w v x) (hY : RI w u y) (ax : x.natAbs < lim) (ay : y.natAbs < lim) :
    Calls Tryd.prog 26 #[v, u] w fun e w' => ∃ v, e = .returned v ∧ RetI (resS (x + y)) v w' ∧ Ext w w' := by
  have HV1 := Lib.hid (RI.valid hX ax)
  have HV2 := Lib.hid (RI.valid hY ay)
  obtain ⟨A, n, c, rfl, hx⟩ := hX
  obtain ⟨B, m, d, rfl, hy⟩ := hY
  have hn := hx.le400 ax
  have hm := hy.le400 ay
  go_enter Tryd.func26, Tryd.ntmps26
  go_wp2_with fail
  refine (Valid_any _ A n c _ _ (hx.ext (((Ext.new w _).alloc _).alloc _))).mono ?_
  rintro e w1 ⟨rfl, hx1⟩
  rw [HV1.out]
  have c0 := (box3a hx1).cell
  have c1 := (box3b hx1).cell
  go_wp2_with fail
  refine (Valid_any _ B m d _ _ (hy.ext (box3 hx1))).mono ?_
  rintro e w2 ⟨rfl, hx2⟩
  rw [HV2.out]
  clear c0 c1
  have hx2 := hx1.trans hx2
  have c0 := (box3a hx2).cell
  have c1 := (box3b hx2).cell
  go_wp2_with fail
  clear c0 c1
  refine (sum_any _ _ A B n m c d _ _ _ (hx.ext (box3 hx2)) (hy.ext (box3 hx2)) (by omega) (by omega)).mono ?_
  rintro e w3 ⟨v2, rfl, ⟨u, rfl, A2, n2, c2, rfl, hI⟩, hx3⟩
  rw [zOf_abs_of, zOf_abs_of] at hI
  rw [zOf_abs_of, zOf_abs_of]
  have hx3 := hx2.trans hx3
  have b4 := box3c hx3
  have c4 := b4.cell
  have f4 := b4.frozen
  obtain ⟨k1, k2, k3⟩ := put2 (box3 hx3) (by omega) b4 _ A2 n2 c2
  have K1 := Lib.hid k1; have K2 := Lib.hid k2; have K3 := Lib.hid (k3 _ _ _ _ hI); clear k1 k2 k3
  go_wp2
  exact bp_int2 rfl rfl rfl K2.out ⟨_, rfl, ⟨_, rfl, _, _, _, rfl, K3.out⟩, K1.out⟩

set_option maxRecDepth 100000 in
set_option maxHeartbeats 800000 in
theorem Sub_ok (v u : Value) (x y : Int) (w : World) (hX : RI w v x) (hY : RI w u y) (ax : x.natAbs < lim) (ay : y.natAbs < lim) :
    Calls Tryd.prog 33 #[v, u] w fun e w' => ∃ v, e = .returned v ∧ RetI (resS (x - y)) v w' ∧ Ext w w' := by
  have HV1 := Lib.hid (RI.valid hX ax)
  have HV2 := Lib.hid (RI.valid hY ay)
  obtain ⟨A, n, c, rfl, hx⟩ := hX
  obtain ⟨B, m, d, rfl, hy⟩ := hY
  have hn := hx.le400 ax
  have hm := hy.le400 ay
  go_enter Tryd.func33, Tryd.ntmps33
  go_wp2_with fail
  refine (Valid_any _ A n c _ _ (hx.ext (((Ext.new w _).alloc _).alloc _))).mono ?_
  rintro e w1 ⟨rfl, hx1⟩
  rw [HV1.out]
  have c0 := (box3a hx1).cell
  have c1 := (box3b hx1).cell
  go_wp2_with fail
  refine (Valid_any _ B m d _ _ (hy.ext (box3 hx1))).mono ?_
  rintro e w2 ⟨rfl, hx2⟩
  rw [HV2.out]
  clear c0 c1
  have hx2 := hx1.trans hx2
  have c0 := (box3a hx2).cell
  have c1 := (box3b hx2).cell
  go_wp2_with fail
  clear c0 c1
  refine (sum_any _ _ A B n m c d _ _ _ (hx.ext (box3 hx2)) (hy.ext (box3 hx2)) (by omega) (by omega)).mono ?_
  rintro e w3 ⟨v2, rfl, ⟨u, rfl, A2, n2, c2, rfl, hI⟩, hx3⟩
  rw [zOf_abs_of, zOf_not_of, ← Int.sub_eq_add_neg] at hI
  rw [zOf_abs_of, zOf_not_of, ← Int.sub_eq_add_neg]
  have hx3 := hx2.trans hx3
  have b4 := box3c hx3
  have c4 := b4.cell
  have f4 := b4.frozen
  obtain ⟨k1, k2, k3⟩ := put2 (box3 hx3) (by omega) b4 _ A2 n2 c2
  have K1 := Lib.hid k1; have K2 := Lib.hid k2; have K3 := Lib.hid (k3 _ _ _ _ hI); clear k1 k2 k3
  go_wp2
  exact bp_int2 rfl rfl rfl K2.out ⟨_, rfl, ⟨_, rfl, _, _, _, rfl, K3.out⟩, K1.out⟩

theorem mul_digs_len {p q : Nat} (hp : p < lim) (hq : q < lim) : (digs (p * q)).length ≤ 800 := by
  have h : p * q < 4294967296 ^ (limK + limK) := by
    rw [Nat.pow_add]
    exact Nat.mul_lt_mul'' hp hq
  exact show (digs (p * q)).length ≤ limK + limK from digs_len_le h
theorem zOf_mul (x y : Int) : zOf (decide (x < 0) != decide (y < 0)) (x.natAbs * y.natAbs) = x * y := by
  by_cases hx : x < 0
  · by_cases hy : y < 0
    · simp only [hx, hy, decide_true, bne_self_eq_false, zOf, Bool.false_eq_true, if_false]
      have h1 : (x.natAbs : Int) = -x := by omega
      have h2 : (y.natAbs : Int) = -y := by omega
      push_cast; rw [h1, h2, Int.neg_mul_neg]
    · simp only [hx, hy, decide_true, decide_false, zOf]
      have h1 : (x.natAbs : Int) = -x := by omega
      have h2 : (y.natAbs : Int) = y := by omega
      simp only [show (true != false) = true from rfl, if_true]
      push_cast; rw [h1, h2, Int.neg_mul, Int.neg_neg]
  · by_cases hy : y < 0
    · simp only [hx, hy, decide_true, decide_false, zOf]
      have h1 : (x.natAbs : Int) = x := by omega
      have h2 : (y.natAbs : Int) = -y := by omega
      simp only [show (false != true) = true from rfl, if_true]
      push_cast; rw [h1, h2, Int.mul_neg, Int.neg_neg]
    · simp only [hx, hy, decide_false, bne_self_eq_false, zOf, Bool.false_eq_true, if_false]
      have h1 : (x.natAbs : Int) = x := by omega
      have h2 : (y.natAbs : Int) = y := by omega
      push_cast; rw [h1, h2]

theorem zOf_mul' (x y : Int) : zOf (!(decide (x < 0) == decide (y < 0))) (x.natAbs * y.natAbs) = x * y := zOf_mul x y
set_option maxRecDepth 100000 in
set_option maxHeartbeats 800000 in
theorem Mul_ok (v u : Value) (x y : Int) (w : World) (hX : RI w v x) (hY : RI w u y) (ax : x.natAbs < lim) (ay : y.natAbs < lim) :
    Calls Tryd.prog 28 #[v, u] w fun e w' => ∃ v, e = .returned v ∧ RetI (resS (x * y)) v w' ∧ Ext w w' := by
  have HV1 := Lib.hid (RI.valid hX ax)
  have HV2 := Lib.hid (RI.valid hY ay)
  obtain ⟨A, n, c, rfl, hx⟩ := hX
  obtain ⟨B, m, d, rfl, hy⟩ := hY
  have hn := hx.le400 ax
  have hm := hy.le400 ay
  go_enter Tryd.func28, Tryd.ntmps28
  go_wp2_with fail
  refine (Valid_any _ A n c _ _ (hx.ext (((Ext.new w _).alloc _).alloc _))).mono ?_
  rintro e w1 ⟨rfl, hx1⟩
  rw [HV1.out]
  have c0 := (box3a hx1).cell
  have c1 := (box3b hx1).cell
  go_wp2_with fail
  refine (Valid_any _ B m d _ _ (hy.ext (box3 hx1))).mono ?_
  rintro e w2 ⟨rfl, hx2⟩
  rw [HV2.out]
  clear c0 c1
  have hx2 := hx1.trans hx2
  have c0 := (box3a hx2).cell
  have c1 := (box3b hx2).cell
  go_wp2
  clear c0 c1
  have Y0 := ExtOf.blk (box3a hx2)
  have Y1 := ExtOf.blk (box3b hx2)
  refine wp_region_ordE 13 [(true, 0), (true, 1), (true, 2), (true, 3), (true, 4), (true, 5), (true, 6), (true, 7), (true, 8), (false, 9), (false, 10), (true, 11), (true, 12)] (by kernel_rfl) (by kernel_rfl) ?_
  refine wpOrdT_quiet [0, 1, 2, 3, 4, 5, 6, 7, 8] [(false, 9), (false, 10), (true, 11), (true, 12)] _ (by kernel_rfl) ?_
  simp only [nthOps, nthOp, List.cons_append, List.nil_append]
  repeat (go_big_quiet_step (fail))
  refine wpQuiet_nil ?_
  refine wpOrdT_act 9 [(false, 10), (true, 11), (true, 12)] (by kernel_rfl) ?_
  intro K hK
  simp only [nthOp]
  go_wp2_with fail
  refine (mulMag_any A B n m c d _ _ _ (hx.ext (box3 hx2).drew) (hy.ext (box3 hx2).drew) (by omega) (by omega)).mono ?_
  rintro e w3 ⟨v1, rfl, ⟨A1, n1, c1, rfl, hR⟩, hxw3⟩
  have hxw3 := Ext.undrew hxw3
  go_wp2
  refine hK _ _ ⟨⟨w3, hxw3⟩, rfl⟩ ?_
  clear hK K
  refine wpOrdT_act 10 [(true, 11), (true, 12)] (by kernel_rfl) ?_
  intro K hK
  simp only [nthOp]
  go_wp2_with fail
  refine (result_any _ A1 n1 c1 _ _ hR).mono ?_
  rintro e w5 ⟨v5, rfl, ⟨u, rfl, A2, n2, c2, rfl, hI⟩, hxw5⟩
  have hxw5 := hxw3.trans hxw5
  go_wp2
  refine hK _ _ ⟨⟨w5, hxw5⟩, rfl⟩ ?_
  clear hK K
  rw [val_digs, val_digs, val_digs, zOf_mul'] at hI
  simp only [val_digs, zOf_mul']
  refine wpOrdT_quiet [11, 12] [] _ (by kernel_rfl) ?_
  simp only [nthOps, nthOp, List.cons_append, List.nil_append]
  repeat (go_big_quiet_step (fail))
  refine wpQuiet_nil ?_
  have hx5 := hx2.trans hxw5
  simp only [wpOrdT, List.drop_succ_cons, List.drop_zero]
  have b4 := box3c hx5
  have c4 := b4.cell
  have f4 := b4.frozen
  obtain ⟨k1, k2, k3⟩ := put2 (box3 hx5) (by omega) b4 _ A2 n2 c2
  have K1 := Lib.hid k1; have K2 := Lib.hid k2; have K3 := Lib.hid (k3 _ _ _ _ hI); clear k1 k2 k3
  go_wp2
  exact bp_int2 rfl rfl rfl K2.out ⟨_, rfl, ⟨_, rfl, _, _, _, rfl, K3.out⟩, K1.out⟩

set_option maxRecDepth 100000 in
set_option maxHeartbeats 800000 in
theorem rMul_ok (v u : Value) (x y : Int) (w : World) (hX : RI w v x) (hY : RI w u y) (ax : x.natAbs < lim) (ay : y.natAbs < lim) :
    Calls Tryd.prog 29 #[v, u] w fun e w' => ∃ v, e = .returned v ∧ RetI (resS (x * y)) v w' ∧ Ext w w' := by
  have HV1 := Lib.hid (RI.valid hX ax)
  have HV2 := Lib.hid (RI.valid hY ay)
  obtain ⟨A, n, c, rfl, hx⟩ := hX
  obtain ⟨B, m, d, rfl, hy⟩ := hY
  have hn := hx.le400 ax
  have hm := hy.le400 ay
  go_enter Tryd.func29, Tryd.ntmps29
  go_wp2_with fail
  refine (rValid_any _ A n c _ _ (hx.ext (((Ext.new w _).alloc _).alloc _))).mono ?_
  rintro e w1 ⟨rfl, hx1⟩
  rw [HV1.out]
  have c0 := (box3a hx1).cell
  have c1 := (box3b hx1).cell
  go_wp2_with fail
  refine (rValid_any _ B m d _ _ (hy.ext (box3 hx1))).mono ?_
  rintro e w2 ⟨rfl, hx2⟩
  rw [HV2.out]
  clear c0 c1
  have hx2 := hx1.trans hx2
  have c0 := (box3a hx2).cell
  have c1 := (box3b hx2).cell
  go_wp2
  clear c0 c1
  have Y0 := ExtOf.blk (box3a hx2)
  have Y1 := ExtOf.blk (box3b hx2)
  refine wp_region_ordE 14 [(true, 0), (true, 1), (true, 2), (true, 3), (true, 4), (true, 5), (true, 6), (true, 7), (true, 8), (false, 9), (false, 10), (false, 11), (true, 12), (true, 13)] (by kernel_rfl) (by kernel_rfl) ?_
  refine wpOrdT_quiet [0, 1, 2, 3, 4, 5, 6, 7, 8] [(false, 9), (false, 10), (false, 11), (true, 12), (true, 13)] _ (by kernel_rfl) ?_
  simp only [nthOps, nthOp, List.cons_append, List.nil_append]
  repeat (go_big_quiet_step (fail))
  refine wpQuiet_nil ?_
  refine wpOrdT_act 9 [(false, 10), (false, 11), (true, 12), (true, 13)] (by kernel_rfl) ?_
  intro K hK
  simp only [nthOp]
  go_wp2_with fail
  refine (rtimes_any A B n m c d _ _ _ (hx.ext (box3 hx2).drew) (hy.ext (box3 hx2).drew) (by omega) (by omega)).mono ?_
  rintro e w3 ⟨v1, rfl, ⟨A1, n1, c1, rfl, hR⟩, hxw3⟩
  have hxw3 := Ext.undrew hxw3
  go_wp2
  refine hK _ _ ⟨⟨w3, hxw3⟩, rfl⟩ ?_
  clear hK K
  rw [val_digs, val_digs] at hR
  have hn1 : n1 ≤ 1000000 := by have := hR.len; have := mul_digs_len ax ay; omega
  refine wpOrdT_act 10 [(false, 11), (true, 12), (true, 13)] (by kernel_rfl) ?_
  intro K hK
  simp only [nthOp]
  go_wp2_with fail
  refine (rmade_any _ A1 n1 c1 _ _ hR hn1).mono ?_
  rintro e w4 ⟨v4, rfl, hI4, hxw4⟩
  have hxw4 := hxw3.trans hxw4
  go_wp2
  refine hK _ _ ⟨⟨w4, hxw4⟩, rfl⟩ ?_
  clear hK K
  rw [val_digs, zOf_mul'] at hI4
  refine wpOrdT_act 11 [(true, 12), (true, 13)] (by kernel_rfl) ?_
  intro K hK
  simp only [nthOp]
  go_wp2_with fail
  refine (rresult_any v4 _ _ hI4).mono ?_
  rintro e w5 ⟨v5, rfl, ⟨u, rfl, A2, n2, c2, rfl, hI⟩, hxw5⟩
  have hxw5 := hxw4.trans hxw5
  go_wp2
  refine hK _ _ ⟨⟨w5, hxw5⟩, rfl⟩ ?_
  clear hK K
  refine wpOrdT_quiet [12, 13] [] _ (by kernel_rfl) ?_
  simp only [nthOps, nthOp, List.cons_append, List.nil_append]
  repeat (go_big_quiet_step (fail))
  refine wpQuiet_nil ?_
  have hx5 := hx2.trans hxw5
  simp only [wpOrdT, List.drop_succ_cons, List.drop_zero]
  have b4 := box3c hx5
  have c4 := b4.cell
  have f4 := b4.frozen
  obtain ⟨k1, k2, k3⟩ := put2 (box3 hx5) (by omega) b4 _ A2 n2 c2
  have K1 := Lib.hid k1; have K2 := Lib.hid k2; have K3 := Lib.hid (k3 _ _ _ _ hI); clear k1 k2 k3
  go_wp2
  exact bp_int2 rfl rfl rfl K2.out ⟨_, rfl, ⟨_, rfl, _, _, _, rfl, K3.out⟩, K1.out⟩

theorem zOf_same {x y : Int} (h : decide (x < 0) = decide (y < 0)) : zOf (decide (x < 0)) (x.natAbs + y.natAbs) = x + y := by
  by_cases hx : x < 0
  · have hy : y < 0 := by simpa [hx] using h
    simp [zOf, hx]; omega
  · have hy : ¬ y < 0 := by simpa [hx] using h
    simp [zOf, hx]; omega
theorem zOf_diff {x y : Int} (h : ¬ decide (x < 0) = decide (y < 0)) (hle : y.natAbs ≤ x.natAbs) : zOf (decide (x < 0)) (x.natAbs - y.natAbs) = x + y := by
  by_cases hx : x < 0
  · have hy : ¬ y < 0 := by simpa [hx] using h
    simp [zOf, hx]; omega
  · have hy : y < 0 := by simpa [hx] using h
    simp [zOf, hx]; omega

set_option maxRecDepth 100000 in
set_option maxHeartbeats 800000 in
theorem rAdd_same (v u : Value) (x y : Int) (w : World) (hX : RI w v x) (hY : RI w u y) (ax : x.natAbs < lim) (ay : y.natAbs < lim) (hs : decide (x < 0) = decide (y < 0)) :
    Calls Tryd.prog 27 #[v, u] w fun e w' => ∃ v, e = .returned v ∧ RetI (resS (x + y)) v w' ∧ Ext w w' := by
  have HV1 := Lib.hid (RI.valid hX ax)
  have HV2 := Lib.hid (RI.valid hY ay)
  obtain ⟨A, n, c, rfl, hx⟩ := hX
  obtain ⟨B, m, d, rfl, hy⟩ := hY
  have hn := hx.le400 ax
  have hm := hy.le400 ay
  have hs1 : (decide (x < 0) == decide (y < 0)) = true := by simpa using hs
  have HS := Lib.hid hs; clear hs
  go_enter Tryd.func27, Tryd.ntmps27
  go_wp2_with fail
  refine (rValid_any _ A n c _ _ (hx.ext (((Ext.new w _).alloc _).alloc _))).mono ?_
  rintro e w1 ⟨rfl, hx1⟩
  rw [HV1.out]
  have c0 := (box3a hx1).cell
  have c1 := (box3b hx1).cell
  go_wp2_with fail
  refine (rValid_any _ B m d _ _ (hy.ext (box3 hx1))).mono ?_
  rintro e w2 ⟨rfl, hx2⟩
  rw [HV2.out]
  clear c0 c1
  have hx2 := hx1.trans hx2
  have c0 := (box3a hx2).cell
  have c1 := (box3b hx2).cell
  go_wp2
  clear c0 c1
  have Y0 := ExtOf.blk (box3a hx2)
  have Y1 := ExtOf.blk (box3b hx2)
  refine wp_region_ordE 11 [(true, 0), (true, 1), (true, 2), (true, 3), (true, 4), (true, 5), (false, 6), (false, 7), (false, 8), (true, 9), (true, 10)] (by kernel_rfl) (by kernel_rfl) ?_
  refine wpOrdT_quiet [0, 1, 2, 3, 4, 5] [(false, 6), (false, 7), (false, 8), (true, 9), (true, 10)] _ (by kernel_rfl) ?_
  simp only [nthOps, nthOp, List.cons_append, List.nil_append]
  repeat (go_big_quiet_step (fail))
  refine wpQuiet_nil ?_
  refine wpOrdT_act 6 [(false, 7), (false, 8), (true, 9), (true, 10)] (by kernel_rfl) ?_
  intro K hK
  simp only [nthOp]
  go_wp2_with fail
  refine (rplus_any A B n m c d _ _ _ (hx.ext (box3 hx2).drew) (hy.ext (box3 hx2).drew) (by omega) (by omega)).mono ?_
  rintro e w3 ⟨v1, rfl, ⟨l1, ⟨A1, n1, c1, rfl, hR⟩, hval, hlen⟩, hxw3⟩
  have hxw3 := Ext.undrew hxw3
  go_wp2
  refine hK _ _ ⟨⟨w3, hxw3⟩, rfl⟩ ?_
  clear hK K
  rw [val_digs, val_digs] at hval
  have hn1 : n1 ≤ 1000000 := by have := hR.len; omega
  refine wpOrdT_act 7 [(false, 8), (true, 9), (true, 10)] (by kernel_rfl) ?_
  intro K hK
  simp only [nthOp]
  go_wp2_with fail
  refine (rmade_any _ A1 n1 c1 _ _ hR hn1).mono ?_
  rintro e w4 ⟨v4, rfl, hI4, hxw4⟩
  have hxw4 := hxw3.trans hxw4
  go_wp2
  refine hK _ _ ⟨⟨w4, hxw4⟩, rfl⟩ ?_
  clear hK K
  rw [hval, zOf_same HS.out] at hI4
  refine wpOrdT_act 8 [(true, 9), (true, 10)] (by kernel_rfl) ?_
  intro K hK
  simp only [nthOp]
  go_wp2_with fail
  refine (rresult_any v4 _ _ hI4).mono ?_
  rintro e w5 ⟨v5, rfl, ⟨u, rfl, A2, n2, c2, rfl, hI⟩, hxw5⟩
  have hxw5 := hxw4.trans hxw5
  go_wp2
  refine hK _ _ ⟨⟨w5, hxw5⟩, rfl⟩ ?_
  clear hK K
  refine wpOrdT_quiet [9, 10] [] _ (by kernel_rfl) ?_
  simp only [nthOps, nthOp, List.cons_append, List.nil_append]
  repeat (go_big_quiet_step (fail))
  refine wpQuiet_nil ?_
  have hx5 := hx2.trans hxw5
  simp only [wpOrdT, List.drop_succ_cons, List.drop_zero]
  have b4 := box3c hx5
  have c4 := b4.cell
  have f4 := b4.frozen
  obtain ⟨k1, k2, k3⟩ := put2 (box3 hx5) (by omega) b4 _ A2 n2 c2
  have K1 := Lib.hid k1; have K2 := Lib.hid k2; have K3 := Lib.hid (k3 _ _ _ _ hI); clear k1 k2 k3
  go_wp2
  exact bp_int2 rfl rfl rfl K2.out ⟨_, rfl, ⟨_, rfl, _, _, _, rfl, K3.out⟩, K1.out⟩

set_option maxRecDepth 100000 in
set_option maxHeartbeats 800000 in
theorem rAdd_ge (v u : Value) (x y : Int) (w : World) (hX : RI w v x) (hY : RI w u y) (ax : x.natAbs < lim) (ay : y.natAbs < lim) (hs : ¬ decide (x < 0) = decide (y < 0)) (hle : y.natAbs ≤ x.natAbs) :
    Calls Tryd.prog 27 #[v, u] w fun e w' => ∃ v, e = .returned v ∧ RetI (resS (x + y)) v w' ∧ Ext w w' := by
  have HV1 := Lib.hid (RI.valid hX ax)
  have HV2 := Lib.hid (RI.valid hY ay)
  obtain ⟨A, n, c, rfl, hx⟩ := hX
  obtain ⟨B, m, d, rfl, hy⟩ := hY
  have hn := hx.le400 ax
  have hm := hy.le400 ay
  have hs1 : (decide (x < 0) == decide (y < 0)) = false := by simpa using hs
  have HS := Lib.hid hs; clear hs
  have HL := Lib.hid hle; clear hle
  have hmn : m ≤ n := by
    have h0 := HL.out
    have h1 := hx.len
    have h2 := hy.len
    have h3 := digs_len_le (n := y.natAbs) (k := n) (Nat.lt_of_le_of_lt (show y.natAbs ≤ x.natAbs by omega) (lt_of_digs_len (by omega)))
    omega
  go_enter Tryd.func27, Tryd.ntmps27
  go_wp2_with fail
  refine (rValid_any _ A n c _ _ (hx.ext (((Ext.new w _).alloc _).alloc _))).mono ?_
  rintro e w1 ⟨rfl, hx1⟩
  rw [HV1.out]
  have c0 := (box3a hx1).cell
  have c1 := (box3b hx1).cell
  go_wp2_with fail
  refine (rValid_any _ B m d _ _ (hy.ext (box3 hx1))).mono ?_
  rintro e w2 ⟨rfl, hx2⟩
  rw [HV2.out]
  clear c0 c1
  have hx2 := hx1.trans hx2
  have c0 := (box3a hx2).cell
  have c1 := (box3b hx2).cell
  go_wp2_with fail
  clear c0 c1
  refine (rcompare_any A B n m c d _ _ _ (hx.ext (box3 hx2)) (hy.ext (box3 hx2)) (canon_digs _) (canon_digs _)).mono ?_
  rintro e w0 ⟨rfl, hx0⟩
  rw [val_digs, val_digs]
  have hcmp := cmp_ge0 HL.out
  have hx2 := hx2.trans hx0
  have c0 := (box3a hx2).cell
  have c1 := (box3b hx2).cell
  go_wp2
  clear c0 c1 hcmp
  have Y0 := ExtOf.blk (box3a hx2)
  have Y1 := ExtOf.blk (box3b hx2)
  refine wp_region_ordE 11 [(true, 0), (true, 1), (true, 2), (true, 3), (true, 4), (true, 5), (false, 6), (false, 7), (false, 8), (true, 9), (true, 10)] (by kernel_rfl) (by kernel_rfl) ?_
  refine wpOrdT_quiet [0, 1, 2, 3, 4, 5] [(false, 6), (false, 7), (false, 8), (true, 9), (true, 10)] _ (by kernel_rfl) ?_
  simp only [nthOps, nthOp, List.cons_append, List.nil_append]
  repeat (go_big_quiet_step (fail))
  refine wpQuiet_nil ?_
  refine wpOrdT_act 6 [(false, 7), (false, 8), (true, 9), (true, 10)] (by kernel_rfl) ?_
  intro K hK
  simp only [nthOp]
  go_wp2_with fail
  refine (rminus_any A B n m c d _ _ _ (hx.ext (box3 hx2).drew) (hy.ext (box3 hx2).drew) (by omega) hmn (by rw [val_digs, val_digs]; have := HL.out; omega)).mono ?_
  rintro e w3 ⟨v1, rfl, ⟨A1, n1, c1, rfl, hR⟩, hxw3⟩
  have hxw3 := Ext.undrew hxw3
  go_wp2
  refine hK _ _ ⟨⟨w3, hxw3⟩, rfl⟩ ?_
  clear hK K
  rw [val_digs, val_digs] at hR
  have hn1 : n1 ≤ 1000000 := by
    have h1 := hR.len
    have h2 := len_lim (m := x.natAbs - y.natAbs) (by omega)
    omega
  refine wpOrdT_act 7 [(false, 8), (true, 9), (true, 10)] (by kernel_rfl) ?_
  intro K hK
  simp only [nthOp]
  go_wp2_with fail
  refine (rmade_any _ A1 n1 c1 _ _ hR hn1).mono ?_
  rintro e w4 ⟨v4, rfl, hI4, hxw4⟩
  have hxw4 := hxw3.trans hxw4
  go_wp2
  refine hK _ _ ⟨⟨w4, hxw4⟩, rfl⟩ ?_
  clear hK K
  rw [val_digs, zOf_diff HS.out HL.out] at hI4
  refine wpOrdT_act 8 [(true, 9), (true, 10)] (by kernel_rfl) ?_
  intro K hK
  simp only [nthOp]
  go_wp2_with fail
  refine (rresult_any v4 _ _ hI4).mono ?_
  rintro e w5 ⟨v5, rfl, ⟨u, rfl, A2, n2, c2, rfl, hI⟩, hxw5⟩
  have hxw5 := hxw4.trans hxw5
  go_wp2
  refine hK _ _ ⟨⟨w5, hxw5⟩, rfl⟩ ?_
  clear hK K
  refine wpOrdT_quiet [9, 10] [] _ (by kernel_rfl) ?_
  simp only [nthOps, nthOp, List.cons_append, List.nil_append]
  repeat (go_big_quiet_step (fail))
  refine wpQuiet_nil ?_
  have hx5 := hx2.trans hxw5
  simp only [wpOrdT, List.drop_succ_cons, List.drop_zero]
  have b4 := box3c hx5
  have c4 := b4.cell
  have f4 := b4.frozen
  obtain ⟨k1, k2, k3⟩ := put2 (box3 hx5) (by omega) b4 _ A2 n2 c2
  have K1 := Lib.hid k1; have K2 := Lib.hid k2; have K3 := Lib.hid (k3 _ _ _ _ hI); clear k1 k2 k3
  go_wp2
  exact bp_int2 rfl rfl rfl K2.out ⟨_, rfl, ⟨_, rfl, _, _, _, rfl, K3.out⟩, K1.out⟩

set_option maxRecDepth 100000 in
set_option maxHeartbeats 800000 in
theorem rAdd_lt (v u : Value) (x y : Int) (w : World) (hX : RI w v x) (hY : RI w u y) (ax : x.natAbs < lim) (ay : y.natAbs < lim) (hs : ¬ decide (x < 0) = decide (y < 0)) (hle : x.natAbs < y.natAbs) :
    Calls Tryd.prog 27 #[v, u] w fun e w' => ∃ v, e = .returned v ∧ RetI (resS (x + y)) v w' ∧ Ext w w' := by
  have HV1 := Lib.hid (RI.valid hX ax)
  have HV2 := Lib.hid (RI.valid hY ay)
  obtain ⟨A, n, c, rfl, hx⟩ := hX
  obtain ⟨B, m, d, rfl, hy⟩ := hY
  have hn := hx.le400 ax
  have hm := hy.le400 ay
  have hs1 : (decide (x < 0) == decide (y < 0)) = false := by simpa using hs
  have HS := Lib.hid hs; clear hs
  have HL := Lib.hid hle; clear hle
  have hmn : n ≤ m := by
    have h0 := HL.out
    have h1 := hy.len
    have h2 := hx.len
    have h3 := digs_len_le (n := x.natAbs) (k := m) (Nat.lt_of_le_of_lt (show x.natAbs ≤ y.natAbs by omega) (lt_of_digs_len (by omega)))
    omega
  go_enter Tryd.func27, Tryd.ntmps27
  go_wp2_with fail
  refine (rValid_any _ A n c _ _ (hx.ext (((Ext.new w _).alloc _).alloc _))).mono ?_
  rintro e w1 ⟨rfl, hx1⟩
  rw [HV1.out]
  have c0 := (box3a hx1).cell
  have c1 := (box3b hx1).cell
  go_wp2_with fail
  refine (rValid_any _ B m d _ _ (hy.ext (box3 hx1))).mono ?_
  rintro e w2 ⟨rfl, hx2⟩
  rw [HV2.out]
  clear c0 c1
  have hx2 := hx1.trans hx2
  have c0 := (box3a hx2).cell
  have c1 := (box3b hx2).cell
  go_wp2_with fail
  clear c0 c1
  refine (rcompare_any A B n m c d _ _ _ (hx.ext (box3 hx2)) (hy.ext (box3 hx2)) (canon_digs _) (canon_digs _)).mono ?_
  rintro e w0 ⟨rfl, hx0⟩
  rw [val_digs, val_digs]
  have hcmp := cmp_lt0 HL.out
  have hx2 := hx2.trans hx0
  have c0 := (box3a hx2).cell
  have c1 := (box3b hx2).cell
  go_wp2
  clear c0 c1 hcmp
  have Y0 := ExtOf.blk (box3a hx2)
  have Y1 := ExtOf.blk (box3b hx2)
  refine wp_region_ordE 11 [(true, 0), (true, 1), (true, 2), (true, 3), (true, 4), (true, 5), (false, 6), (false, 7), (false, 8), (true, 9), (true, 10)] (by kernel_rfl) (by kernel_rfl) ?_
  refine wpOrdT_quiet [0, 1, 2, 3, 4, 5] [(false, 6), (false, 7), (false, 8), (true, 9), (true, 10)] _ (by kernel_rfl) ?_
  simp only [nthOps, nthOp, List.cons_append, List.nil_append]
  repeat (go_big_quiet_step (fail))
  refine wpQuiet_nil ?_
  refine wpOrdT_act 6 [(false, 7), (false, 8), (true, 9), (true, 10)] (by kernel_rfl) ?_
  intro K hK
  simp only [nthOp]
  go_wp2_with fail
  refine (rminus_any B A m n d c _ _ _ (hy.ext (box3 hx2).drew) (hx.ext (box3 hx2).drew) (by omega) hmn (by rw [val_digs, val_digs]; have := HL.out; omega)).mono ?_
  rintro e w3 ⟨v1, rfl, ⟨A1, n1, c1, rfl, hR⟩, hxw3⟩
  have hxw3 := Ext.undrew hxw3
  go_wp2
  refine hK _ _ ⟨⟨w3, hxw3⟩, rfl⟩ ?_
  clear hK K
  rw [val_digs, val_digs] at hR
  have hn1 : n1 ≤ 1000000 := by
    have h1 := hR.len
    have h2 := len_lim (m := y.natAbs - x.natAbs) (by omega)
    omega
  refine wpOrdT_act 7 [(false, 8), (true, 9), (true, 10)] (by kernel_rfl) ?_
  intro K hK
  simp only [nthOp]
  go_wp2_with fail
  refine (rmade_any _ A1 n1 c1 _ _ hR hn1).mono ?_
  rintro e w4 ⟨v4, rfl, hI4, hxw4⟩
  have hxw4 := hxw3.trans hxw4
  go_wp2
  refine hK _ _ ⟨⟨w4, hxw4⟩, rfl⟩ ?_
  clear hK K
  rw [val_digs, zOf_diff (fun h => HS.out h.symm) (Nat.le_of_lt HL.out), Int.add_comm] at hI4
  refine wpOrdT_act 8 [(true, 9), (true, 10)] (by kernel_rfl) ?_
  intro K hK
  simp only [nthOp]
  go_wp2_with fail
  refine (rresult_any v4 _ _ hI4).mono ?_
  rintro e w5 ⟨v5, rfl, ⟨u, rfl, A2, n2, c2, rfl, hI⟩, hxw5⟩
  have hxw5 := hxw4.trans hxw5
  go_wp2
  refine hK _ _ ⟨⟨w5, hxw5⟩, rfl⟩ ?_
  clear hK K
  refine wpOrdT_quiet [9, 10] [] _ (by kernel_rfl) ?_
  simp only [nthOps, nthOp, List.cons_append, List.nil_append]
  repeat (go_big_quiet_step (fail))
  refine wpQuiet_nil ?_
  have hx5 := hx2.trans hxw5
  simp only [wpOrdT, List.drop_succ_cons, List.drop_zero]
  have b4 := box3c hx5
  have c4 := b4.cell
  have f4 := b4.frozen
  obtain ⟨k1, k2, k3⟩ := put2 (box3 hx5) (by omega) b4 _ A2 n2 c2
  have K1 := Lib.hid k1; have K2 := Lib.hid k2; have K3 := Lib.hid (k3 _ _ _ _ hI); clear k1 k2 k3
  go_wp2
  exact bp_int2 rfl rfl rfl K2.out ⟨_, rfl, ⟨_, rfl, _, _, _, rfl, K3.out⟩, K1.out⟩

theorem rAdd_ok (v u : Value) (x y : Int) (w : World) (hX : RI w v x) (hY : RI w u y) (ax : x.natAbs < lim) (ay : y.natAbs < lim) :
    Calls Tryd.prog 27 #[v, u] w fun e w' => ∃ v, e = .returned v ∧ RetI (resS (x + y)) v w' ∧ Ext w w' := by
  by_cases hs : decide (x < 0) = decide (y < 0)
  · exact rAdd_same v u x y w hX hY ax ay hs
  · rcases Nat.lt_or_ge x.natAbs y.natAbs with h | h
    · exact rAdd_lt v u x y w hX hY ax ay hs h
    · exact rAdd_ge v u x y w hX hY ax ay hs h
end Go.Proofs.YtfdpbcjcinchgaaDoor
