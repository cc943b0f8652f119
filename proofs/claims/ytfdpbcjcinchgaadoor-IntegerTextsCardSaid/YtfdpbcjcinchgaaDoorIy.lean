/- Contracts: division of integers. -/
import Derived.Test.YtfdpbcjcinchgaaDoorIx
namespace Go.Proofs.YtfdpbcjcinchgaaDoor
open Go.RowKit
set_option linter.unusedVariables false

/-- One Euclidean division. -/
theorem euclid {x y q r : Int} (hy : y ≠ 0) (h : q * y + r = x) (h0 : 0 ≤ r) (h1 : r < (y.natAbs : Int)) : x / y = q ∧ x % y = r := by
  rcases Int.lt_or_lt_of_ne hy with hn | hp
  · have h2 : (-y) * (-q) + r = x := by rw [Int.neg_mul_neg, Int.mul_comm]; exact h
    have := (Int.ediv_emod_unique (a := x) (b := -y) (q := -q) (r := r) (by omega)).2 ⟨by omega, h0, by omega⟩
    rw [Int.ediv_neg, Int.emod_neg] at this
    exact ⟨by omega, this.2⟩
  · exact (Int.ediv_emod_unique hp).2 ⟨by rw [Int.mul_comm] at h; omega, h0, by omega⟩
theorem zOf_self (z : Int) : zOf (decide (z < 0)) z.natAbs = z := by
  unfold zOf
  by_cases h : z < 0
  · simp [h]; omega
  · simp [h]; omega
theorem zOf_prod (a b : Bool) (m n : Nat) : zOf a m * zOf b n = zOf (a != b) (m * n) := by
  cases a <;> cases b <;> simp [zOf, Int.neg_mul, Int.mul_neg]
/-- The digits' division answers: no rest to turn. -/
theorem divide_plain {x y : Int} (hy : y ≠ 0) (h : x < 0 → x.natAbs % y.natAbs = 0) : x / y = zOf (decide (x < 0) != decide (y < 0)) (x.natAbs / y.natAbs) ∧ x % y = ((x.natAbs % y.natAbs : Nat) : Int) := by
  have hp : 0 < y.natAbs := by omega
  have h1 := Nat.div_add_mod x.natAbs y.natAbs
  have h2 := Nat.mod_lt x.natAbs hp
  refine euclid hy ?_ (by omega) (by omega)
  have e : zOf (decide (x < 0) != decide (y < 0)) (x.natAbs / y.natAbs) * y = zOf (decide (x < 0)) (x.natAbs / y.natAbs * y.natAbs) := by
    have h3 := zOf_prod (decide (x < 0) != decide (y < 0)) (decide (y < 0)) (x.natAbs / y.natAbs) y.natAbs
    rw [zOf_self] at h3
    rw [h3]
    congr 1
    cases decide (x < 0) <;> cases decide (y < 0) <;> rfl
  rw [e]
  rw [Nat.mul_comm] at h1
  generalize x.natAbs / y.natAbs * y.natAbs = t at *
  unfold zOf
  by_cases hx : x < 0
  · have := h hx
    simp [hx]; omega
  · simp [hx]; omega
/-- A rest below zero is turned. -/
theorem divide_turn {x y : Int} (hy : y ≠ 0) (hx : x < 0) (h : 0 < x.natAbs % y.natAbs) : x / y = zOf (decide (x < 0) != decide (y < 0)) (x.natAbs / y.natAbs + 1) ∧ x % y = ((y.natAbs - x.natAbs % y.natAbs : Nat) : Int) := by
  have hp : 0 < y.natAbs := by omega
  have h1 := Nat.div_add_mod x.natAbs y.natAbs
  have h2 := Nat.mod_lt x.natAbs hp
  refine euclid hy ?_ (by omega) (by omega)
  have e : zOf (decide (x < 0) != decide (y < 0)) (x.natAbs / y.natAbs + 1) * y = zOf (decide (x < 0)) ((x.natAbs / y.natAbs + 1) * y.natAbs) := by
    have h3 := zOf_prod (decide (x < 0) != decide (y < 0)) (decide (y < 0)) (x.natAbs / y.natAbs + 1) y.natAbs
    rw [zOf_self] at h3
    rw [h3]
    congr 1
    cases decide (x < 0) <;> cases decide (y < 0) <;> rfl
  rw [e, Nat.add_mul, Nat.one_mul]
  rw [Nat.mul_comm] at h1
  generalize x.natAbs / y.natAbs * y.natAbs = t at *
  unfold zOf
  simp [hx]; omega
/-- A quotient is not greater than what is divided. -/
theorem divide_le {x y : Int} (hy : y ≠ 0) (hx : x < 0) (h : 0 < x.natAbs % y.natAbs) : x.natAbs / y.natAbs + 1 ≤ x.natAbs := by
  have hp : 0 < y.natAbs := by omega
  have h1 := Nat.div_add_mod x.natAbs y.natAbs
  have h2 := Nat.mod_lt x.natAbs hp
  have h3 : 1 * (x.natAbs / y.natAbs) ≤ y.natAbs * (x.natAbs / y.natAbs) := Nat.mul_le_mul_right _ hp
  omega

/-- Two integers and an error. -/
def RetD (q r e : Int) (v : Value) (w : World) : Prop := ∃ a b, v = .tuple #[a, b, .int .i64 e] ∧ RI w a q ∧ RI w b r
/-! Four boxes: two arguments, two results. -/
section
variable {w w1 : World} {x y r s : Obj} {cs : Array Value} {t : TypeId}
theorem boxq (hx : Ext ((((w.alloc x).alloc y).alloc r).alloc s) w1) : Ext w w1 := ((((Ext.new w _).alloc _).alloc _).alloc _).trans hx
theorem boxqa (hx : Ext ((((w.alloc (.cells cs t)).alloc y).alloc r).alloc s) w1) : Blk w1 w.heap.size t cs := ((((Blk.new w t cs).alloc _).alloc _).alloc _).ext hx
theorem boxqb (hx : Ext ((((w.alloc x).alloc (.cells cs t)).alloc r).alloc s) w1) : Blk w1 (w.heap.size + 1) t cs := (((Blk.new' t cs (by simp)).alloc _).alloc _).ext hx
theorem boxqc (hx : Ext ((((w.alloc x).alloc y).alloc (.cells cs t)).alloc s) w1) : Blk w1 (w.heap.size + 2) t cs := ((Blk.new' t cs (by simp)).alloc _).ext hx
theorem boxqd (hx : Ext ((((w.alloc x).alloc y).alloc r).alloc (.cells cs t)) w1) : Blk w1 (w.heap.size + 3) t cs := (Blk.new' t cs (by simp)).ext hx
end

set_option maxRecDepth 100000 in
set_option maxHeartbeats 400000 in
theorem Divide_bad1 (v u : Value) (s t : Bool) (l k : List Nat) (w : World) (hX : RX w v s l) (hY : RX w u t k) (hv : validB s l = false) :
    Calls Tryd.prog 37 #[v, u] w fun e w' => ∃ v, e = .returned v ∧ RetD 0 0 1 v w' ∧ Ext w w' := by
  obtain ⟨A, n, c, rfl, hx⟩ := hX
  obtain ⟨B, m, d, rfl, hy⟩ := hY
  have HV1 := Lib.hid hv; clear hv
  go_enter Tryd.func37, Tryd.ntmps37
  go_wp2_with fail
  refine (Valid_any _ A n c _ _ (hx.ext ((((Ext.new w _).alloc _).alloc _).alloc _))).mono ?_
  rintro e w1 ⟨rfl, hx1⟩
  rw [HV1.out]
  have b4 := boxqc hx1
  have b5 := boxqd hx1
  have c4 := b4.cell
  have f4 := b4.frozen
  have c5 := b5.cell
  have f5 := b5.frozen
  obtain ⟨k1, k2, _⟩ := put2 (boxq hx1) (by omega) b4 false none 0 0
  have b5' := (b5.far (p := ⟨w.heap.size + 2, 0, none⟩) (by simp) (.bool false)).far (p := ⟨w.heap.size + 2, 1, none⟩) (by simp) (.slice none 0 0)
  obtain ⟨k3, k4, _⟩ := put2 k1 (by omega) b5' false none 0 0
  have k2' := (k2.far (p := ⟨w.heap.size + 3, 0, none⟩) (by simp) (.bool false)).far (p := ⟨w.heap.size + 3, 1, none⟩) (by simp) (.slice none 0 0)
  have K2 := Lib.hid k2'; have K3 := Lib.hid k3; have K4 := Lib.hid k4
  clear k1 k2 k3 k4 k2' b5'
  go_wp2
  exact bp_int3 rfl rfl rfl K2.out rfl K4.out ⟨_, rfl, ⟨_, _, rfl, RI.zero _, RI.zero _⟩, K3.out⟩
set_option maxRecDepth 100000 in
set_option maxHeartbeats 400000 in
theorem Divide_bad2 (v u : Value) (s t : Bool) (l k : List Nat) (w : World) (hX : RX w v s l) (hY : RX w u t k) (hv : validB s l = true) (hu : validB t k = false) :
    Calls Tryd.prog 37 #[v, u] w fun e w' => ∃ v, e = .returned v ∧ RetD 0 0 1 v w' ∧ Ext w w' := by
  obtain ⟨A, n, c, rfl, hx⟩ := hX
  obtain ⟨B, m, d, rfl, hy⟩ := hY
  have HV1 := Lib.hid hv; clear hv
  have HV2 := Lib.hid hu; clear hu
  go_enter Tryd.func37, Tryd.ntmps37
  go_wp2_with fail
  refine (Valid_any _ A n c _ _ (hx.ext ((((Ext.new w _).alloc _).alloc _).alloc _))).mono ?_
  rintro e w1 ⟨rfl, hx1⟩
  rw [HV1.out]
  have c0 := (boxqa hx1).cell
  have c1 := (boxqb hx1).cell
  go_wp2_with fail
  refine (Valid_any _ B m d _ _ (hy.ext (boxq hx1))).mono ?_
  rintro e w2 ⟨rfl, hx2⟩
  rw [HV2.out]
  clear c0 c1
  have hx2 := hx1.trans hx2
  have b4 := boxqc hx2
  have b5 := boxqd hx2
  have c4 := b4.cell
  have f4 := b4.frozen
  have c5 := b5.cell
  have f5 := b5.frozen
  obtain ⟨k1, k2, _⟩ := put2 (boxq hx2) (by omega) b4 false none 0 0
  have b5' := (b5.far (p := ⟨w.heap.size + 2, 0, none⟩) (by simp) (.bool false)).far (p := ⟨w.heap.size + 2, 1, none⟩) (by simp) (.slice none 0 0)
  obtain ⟨k3, k4, _⟩ := put2 k1 (by omega) b5' false none 0 0
  have k2' := (k2.far (p := ⟨w.heap.size + 3, 0, none⟩) (by simp) (.bool false)).far (p := ⟨w.heap.size + 3, 1, none⟩) (by simp) (.slice none 0 0)
  have K2 := Lib.hid k2'; have K3 := Lib.hid k3; have K4 := Lib.hid k4
  clear k1 k2 k3 k4 k2' b5'
  go_wp2
  exact bp_int3 rfl rfl rfl K2.out rfl K4.out ⟨_, rfl, ⟨_, _, rfl, RI.zero _, RI.zero _⟩, K3.out⟩
theorem Divide_bad (v u : Value) (s t : Bool) (l k : List Nat) (w : World) (hX : RX w v s l) (hY : RX w u t k) (hv : (validB s l && validB t k) = false) :
    Calls Tryd.prog 37 #[v, u] w fun e w' => ∃ v, e = .returned v ∧ RetD 0 0 1 v w' ∧ Ext w w' := by
  cases h1 : validB s l
  · exact Divide_bad1 v u s t l k w hX hY h1
  · exact Divide_bad2 v u s t l k w hX hY h1 (by simpa [h1] using hv)
set_option maxRecDepth 100000 in
set_option maxHeartbeats 400000 in
theorem Divide_zero (v u : Value) (x y : Int) (w : World) (hX : RI w v x) (hY : RI w u y) (ax : x.natAbs < lim) (ay : y.natAbs < lim) (hy0 : y = 0) :
    Calls Tryd.prog 37 #[v, u] w fun e w' => ∃ v, e = .returned v ∧ RetD 0 0 21 v w' ∧ Ext w w' := by
  have HV1 := Lib.hid (RI.valid hX ax)
  have HV2 := Lib.hid (RI.valid hY ay)
  obtain ⟨A, n, c, rfl, hx⟩ := hX
  obtain ⟨B, m, d, rfl, hy⟩ := hY
  have hm0 : m = 0 := by have := hy.len; rw [hy0] at this; simpa [digs_zero] using this.symm
  subst hm0
  clear hy0
  go_enter Tryd.func37, Tryd.ntmps37
  go_wp2_with fail
  refine (Valid_any _ A n c _ _ (hx.ext ((((Ext.new w _).alloc _).alloc _).alloc _))).mono ?_
  rintro e w1 ⟨rfl, hx1⟩
  rw [HV1.out]
  have c0 := (boxqa hx1).cell
  have c1 := (boxqb hx1).cell
  go_wp2_with fail
  refine (Valid_any _ B 0 d _ _ (hy.ext (boxq hx1))).mono ?_
  rintro e w2 ⟨rfl, hx2⟩
  rw [HV2.out]
  clear c0 c1
  have hx2 := hx1.trans hx2
  have c1 := (boxqb hx2).cell
  have b4 := boxqc hx2
  have b5 := boxqd hx2
  have c4 := b4.cell
  have f4 := b4.frozen
  have c5 := b5.cell
  have f5 := b5.frozen
  obtain ⟨k1, k2, _⟩ := put2 (boxq hx2) (by omega) b4 false none 0 0
  have b5' := (b5.far (p := ⟨w.heap.size + 2, 0, none⟩) (by simp) (.bool false)).far (p := ⟨w.heap.size + 2, 1, none⟩) (by simp) (.slice none 0 0)
  obtain ⟨k3, k4, _⟩ := put2 k1 (by omega) b5' false none 0 0
  have k2' := (k2.far (p := ⟨w.heap.size + 3, 0, none⟩) (by simp) (.bool false)).far (p := ⟨w.heap.size + 3, 1, none⟩) (by simp) (.slice none 0 0)
  have K2 := Lib.hid k2'; have K3 := Lib.hid k3; have K4 := Lib.hid k4
  clear k1 k2 k3 k4 k2' b5'
  go_wp2
  exact bp_int3 rfl rfl rfl K2.out rfl K4.out ⟨_, rfl, ⟨_, _, rfl, RI.zero _, RI.zero _⟩, K3.out⟩
set_option maxRecDepth 100000 in
set_option maxHeartbeats 400000 in
theorem rDivide_bad1 (v u : Value) (s t : Bool) (l k : List Nat) (w : World) (hX : RX w v s l) (hY : RX w u t k) (hv : validB s l = false) :
    Calls Tryd.prog 38 #[v, u] w fun e w' => ∃ v, e = .returned v ∧ RetD 0 0 1 v w' ∧ Ext w w' := by
  obtain ⟨A, n, c, rfl, hx⟩ := hX
  obtain ⟨B, m, d, rfl, hy⟩ := hY
  have HV1 := Lib.hid hv; clear hv
  go_enter Tryd.func38, Tryd.ntmps38
  go_wp2_with fail
  refine (rValid_any _ A n c _ _ (hx.ext ((((Ext.new w _).alloc _).alloc _).alloc _))).mono ?_
  rintro e w1 ⟨rfl, hx1⟩
  rw [HV1.out]
  have b4 := boxqc hx1
  have b5 := boxqd hx1
  have c4 := b4.cell
  have f4 := b4.frozen
  have c5 := b5.cell
  have f5 := b5.frozen
  obtain ⟨k1, k2, _⟩ := put2 (boxq hx1) (by omega) b4 false none 0 0
  have b5' := (b5.far (p := ⟨w.heap.size + 2, 0, none⟩) (by simp) (.bool false)).far (p := ⟨w.heap.size + 2, 1, none⟩) (by simp) (.slice none 0 0)
  obtain ⟨k3, k4, _⟩ := put2 k1 (by omega) b5' false none 0 0
  have k2' := (k2.far (p := ⟨w.heap.size + 3, 0, none⟩) (by simp) (.bool false)).far (p := ⟨w.heap.size + 3, 1, none⟩) (by simp) (.slice none 0 0)
  have K2 := Lib.hid k2'; have K3 := Lib.hid k3; have K4 := Lib.hid k4
  clear k1 k2 k3 k4 k2' b5'
  go_wp2
  exact bp_int3 rfl rfl rfl K2.out rfl K4.out ⟨_, rfl, ⟨_, _, rfl, RI.zero _, RI.zero _⟩, K3.out⟩
set_option maxRecDepth 100000 in
set_option maxHeartbeats 400000 in
theorem rDivide_bad2 (v u : Value) (s t : Bool) (l k : List Nat) (w : World) (hX : RX w v s l) (hY : RX w u t k) (hv : validB s l = true) (hu : validB t k = false) :
    Calls Tryd.prog 38 #[v, u] w fun e w' => ∃ v, e = .returned v ∧ RetD 0 0 1 v w' ∧ Ext w w' := by
  obtain ⟨A, n, c, rfl, hx⟩ := hX
  obtain ⟨B, m, d, rfl, hy⟩ := hY
  have HV1 := Lib.hid hv; clear hv
  have HV2 := Lib.hid hu; clear hu
  go_enter Tryd.func38, Tryd.ntmps38
  go_wp2_with fail
  refine (rValid_any _ A n c _ _ (hx.ext ((((Ext.new w _).alloc _).alloc _).alloc _))).mono ?_
  rintro e w1 ⟨rfl, hx1⟩
  rw [HV1.out]
  have c0 := (boxqa hx1).cell
  have c1 := (boxqb hx1).cell
  go_wp2_with fail
  refine (rValid_any _ B m d _ _ (hy.ext (boxq hx1))).mono ?_
  rintro e w2 ⟨rfl, hx2⟩
  rw [HV2.out]
  clear c0 c1
  have hx2 := hx1.trans hx2
  have b4 := boxqc hx2
  have b5 := boxqd hx2
  have c4 := b4.cell
  have f4 := b4.frozen
  have c5 := b5.cell
  have f5 := b5.frozen
  obtain ⟨k1, k2, _⟩ := put2 (boxq hx2) (by omega) b4 false none 0 0
  have b5' := (b5.far (p := ⟨w.heap.size + 2, 0, none⟩) (by simp) (.bool false)).far (p := ⟨w.heap.size + 2, 1, none⟩) (by simp) (.slice none 0 0)
  obtain ⟨k3, k4, _⟩ := put2 k1 (by omega) b5' false none 0 0
  have k2' := (k2.far (p := ⟨w.heap.size + 3, 0, none⟩) (by simp) (.bool false)).far (p := ⟨w.heap.size + 3, 1, none⟩) (by simp) (.slice none 0 0)
  have K2 := Lib.hid k2'; have K3 := Lib.hid k3; have K4 := Lib.hid k4
  clear k1 k2 k3 k4 k2' b5'
  go_wp2
  exact bp_int3 rfl rfl rfl K2.out rfl K4.out ⟨_, rfl, ⟨_, _, rfl, RI.zero _, RI.zero _⟩, K3.out⟩
theorem rDivide_bad (v u : Value) (s t : Bool) (l k : List Nat) (w : World) (hX : RX w v s l) (hY : RX w u t k) (hv : (validB s l && validB t k) = false) :
    Calls Tryd.prog 38 #[v, u] w fun e w' => ∃ v, e = .returned v ∧ RetD 0 0 1 v w' ∧ Ext w w' := by
  cases h1 : validB s l
  · exact rDivide_bad1 v u s t l k w hX hY h1
  · exact rDivide_bad2 v u s t l k w hX hY h1 (by simpa [h1] using hv)
set_option maxRecDepth 100000 in
set_option maxHeartbeats 400000 in
theorem rDivide_zero (v u : Value) (x y : Int) (w : World) (hX : RI w v x) (hY : RI w u y) (ax : x.natAbs < lim) (ay : y.natAbs < lim) (hy0 : y = 0) :
    Calls Tryd.prog 38 #[v, u] w fun e w' => ∃ v, e = .returned v ∧ RetD 0 0 21 v w' ∧ Ext w w' := by
  have HV1 := Lib.hid (RI.valid hX ax)
  have HV2 := Lib.hid (RI.valid hY ay)
  obtain ⟨A, n, c, rfl, hx⟩ := hX
  obtain ⟨B, m, d, rfl, hy⟩ := hY
  have hm0 : m = 0 := by have := hy.len; rw [hy0] at this; simpa [digs_zero] using this.symm
  subst hm0
  clear hy0
  go_enter Tryd.func38, Tryd.ntmps38
  go_wp2_with fail
  refine (rValid_any _ A n c _ _ (hx.ext ((((Ext.new w _).alloc _).alloc _).alloc _))).mono ?_
  rintro e w1 ⟨rfl, hx1⟩
  rw [HV1.out]
  have c0 := (boxqa hx1).cell
  have c1 := (boxqb hx1).cell
  go_wp2_with fail
  refine (rValid_any _ B 0 d _ _ (hy.ext (boxq hx1))).mono ?_
  rintro e w2 ⟨rfl, hx2⟩
  rw [HV2.out]
  clear c0 c1
  have hx2 := hx1.trans hx2
  have c1 := (boxqb hx2).cell
  have b4 := boxqc hx2
  have b5 := boxqd hx2
  have c4 := b4.cell
  have f4 := b4.frozen
  have c5 := b5.cell
  have f5 := b5.frozen
  obtain ⟨k1, k2, _⟩ := put2 (boxq hx2) (by omega) b4 false none 0 0
  have b5' := (b5.far (p := ⟨w.heap.size + 2, 0, none⟩) (by simp) (.bool false)).far (p := ⟨w.heap.size + 2, 1, none⟩) (by simp) (.slice none 0 0)
  obtain ⟨k3, k4, _⟩ := put2 k1 (by omega) b5' false none 0 0
  have k2' := (k2.far (p := ⟨w.heap.size + 3, 0, none⟩) (by simp) (.bool false)).far (p := ⟨w.heap.size + 3, 1, none⟩) (by simp) (.slice none 0 0)
  have K2 := Lib.hid k2'; have K3 := Lib.hid k3; have K4 := Lib.hid k4
  clear k1 k2 k3 k4 k2' b5'
  go_wp2
  exact bp_int3 rfl rfl rfl K2.out rfl K4.out ⟨_, rfl, ⟨_, _, rfl, RI.zero _, RI.zero _⟩, K3.out⟩
end Go.Proofs.YtfdpbcjcinchgaaDoor
