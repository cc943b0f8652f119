/- Contracts: negation, the reference's difference, comparisons and signs. -/
import Derived.Test.YtfdpbcjcinchgaaDoorIj
namespace Go.Proofs.YtfdpbcjcinchgaaDoor
open Go.RowKit
set_option linter.unusedVariables false

theorem box2 {w w1 : World} {x r : Obj} (hx : Ext ((w.alloc x).alloc r) w1) : Ext w w1 := ((Ext.new w _).alloc _).trans hx
theorem box2a {w w1 : World} {cs : Array Value} {t : TypeId} {r : Obj} (hx : Ext ((w.alloc (.cells cs t)).alloc r) w1) : Blk w1 w.heap.size t cs := ((Blk.new w t cs).alloc _).ext hx
theorem box2b {w w1 : World} {cs : Array Value} {t : TypeId} {x : Obj} (hx : Ext ((w.alloc x).alloc (.cells cs t)) w1) : Blk w1 (w.heap.size + 1) t cs := (Blk.new' t cs (by simp)).ext hx

set_option maxRecDepth 100000 in
set_option maxHeartbeats 400000 in
theorem Neg_bad (v : Value) (s : Bool) (l : List Nat) (w : World) (hX : RX w v s l) (hv : validB s l = false) :
    Calls Tryd.prog 31 #[v] w fun e w' => ∃ v, e = .returned v ∧ RetI (0, 1) v w' ∧ Ext w w' := by
  obtain ⟨A, n, c, rfl, hx⟩ := hX
  have HV1 := Lib.hid hv; clear hv
  go_enter Tryd.func31, Tryd.ntmps31
  go_wp2_with fail
  refine (Valid_any _ A n c _ _ (hx.ext ((Ext.new w _).alloc _))).mono ?_
  rintro e w1 ⟨rfl, hx1⟩
  rw [HV1.out]
  have b4 := box2b hx1
  have c4 := b4.cell
  have f4 := b4.frozen
  obtain ⟨k1, k2, _⟩ := put2 (box2 hx1) (by omega) b4 false none 0 0
  have K1 := Lib.hid k1; have K2 := Lib.hid k2; clear k1 k2
  go_wp2
  exact bp_int2 rfl rfl rfl K2.out ⟨_, rfl, ⟨_, rfl, RI.zero _⟩, K1.out⟩
set_option maxRecDepth 100000 in
set_option maxHeartbeats 400000 in
theorem rNeg_bad (v : Value) (s : Bool) (l : List Nat) (w : World) (hX : RX w v s l) (hv : validB s l = false) :
    Calls Tryd.prog 32 #[v] w fun e w' => ∃ v, e = .returned v ∧ RetI (0, 1) v w' ∧ Ext w w' := by
  obtain ⟨A, n, c, rfl, hx⟩ := hX
  have HV1 := Lib.hid hv; clear hv
  go_enter Tryd.func32, Tryd.ntmps32
  go_wp2_with fail
  refine (rValid_any _ A n c _ _ (hx.ext ((Ext.new w _).alloc _))).mono ?_
  rintro e w1 ⟨rfl, hx1⟩
  rw [HV1.out]
  have b4 := box2b hx1
  have c4 := b4.cell
  have f4 := b4.frozen
  obtain ⟨k1, k2, _⟩ := put2 (box2 hx1) (by omega) b4 false none 0 0
  have K1 := Lib.hid k1; have K2 := Lib.hid k2; clear k1 k2
  go_wp2
  exact bp_int2 rfl rfl rfl K2.out ⟨_, rfl, ⟨_, rfl, RI.zero _⟩, K1.out⟩

set_option maxRecDepth 100000 in
set_option maxHeartbeats 800000 in
theorem Neg_ok (v : Value) (x z : Int) (w : World) (hX : RI w v x) (ax : x.natAbs < lim) (hz : z = -x) :
    Calls Tryd.prog 31 #[v] w fun e w' => ∃ v, e = .returned v ∧ RetI (z, 0) v w' ∧ Ext w w' := by
  have HZ := Lib.hid hz
  have HV1 := Lib.hid (RI.valid hX ax)
  obtain ⟨A, n, c, rfl, hx⟩ := hX
  have hn := hx.le400 ax
  have HS := Lib.hid (resS_ok (z := z) (by omega))
  clear hz
  go_enter Tryd.func31, Tryd.ntmps31
  go_wp2_with fail
  refine (Valid_any _ A n c _ _ (hx.ext ((Ext.new w _).alloc _))).mono ?_
  rintro e w1 ⟨rfl, hx1⟩
  rw [HV1.out]
  go_wp2
  have Y0 := ExtOf.blk (box2a hx1)
  refine wp_region_ordE 9 [(true, 0), (true, 1), (true, 2), (true, 3), (true, 4), (false, 5), (false, 6), (true, 7), (true, 8)] (by kernel_rfl) (by kernel_rfl) ?_
  refine wpOrdT_quiet [0, 1, 2, 3, 4] [(false, 5), (false, 6), (true, 7), (true, 8)] _ (by kernel_rfl) ?_
  simp only [nthOps, nthOp, List.cons_append, List.nil_append]
  repeat (go_big_quiet_step (fail))
  refine wpQuiet_nil ?_
  refine wpOrdT_act 5 [(false, 6), (true, 7), (true, 8)] (by kernel_rfl) ?_
  intro K hK
  simp only [nthOp]
  go_wp2_with fail
  refine (clone_any A n c _ _ (hx.ext (box2 hx1).drew) (by omega)).mono ?_
  rintro e w3 ⟨v1, rfl, ⟨A1, n1, c1, rfl, hR⟩, hxw3⟩
  have hxw3 := Ext.undrew hxw3
  go_wp2
  refine hK _ _ ⟨⟨w3, hxw3⟩, rfl⟩ ?_
  clear hK K
  refine wpOrdT_act 6 [(true, 7), (true, 8)] (by kernel_rfl) ?_
  intro K hK
  simp only [nthOp]
  go_wp2_with fail
  refine (result_any _ A1 n1 c1 _ _ hR).mono ?_
  rintro e w5 ⟨v5, rfl, ⟨u, rfl, A2, n2, c2, rfl, hI⟩, hxw5⟩
  have hxw5 := hxw3.trans hxw5
  go_wp2
  refine hK _ _ ⟨⟨w5, hxw5⟩, rfl⟩ ?_
  clear hK K
  rw [val_digs, zOf_not_of, ← HZ.out, HS.out] at hI
  simp only [val_digs, zOf_not_of, ← HZ.out, HS.out]
  refine wpOrdT_quiet [7, 8] [] _ (by kernel_rfl) ?_
  simp only [nthOps, nthOp, List.cons_append, List.nil_append]
  repeat (go_big_quiet_step (fail))
  refine wpQuiet_nil ?_
  have hx5 := hx1.trans hxw5
  simp only [wpOrdT, List.drop_succ_cons, List.drop_zero]
  have b4 := box2b hx5
  have c4 := b4.cell
  have f4 := b4.frozen
  obtain ⟨k1, k2, k3⟩ := put2 (box2 hx5) (by omega) b4 _ A2 n2 c2
  have K1 := Lib.hid k1; have K2 := Lib.hid k2; have K3 := Lib.hid (k3 _ _ _ _ hI); clear k1 k2 k3
  go_wp2
  exact bp_int2 rfl rfl rfl K2.out ⟨_, rfl, ⟨_, rfl, _, _, _, rfl, K3.out⟩, K1.out⟩

set_option maxRecDepth 100000 in
set_option maxHeartbeats 800000 in
theorem rNeg_ok (v : Value) (x z : Int) (w : World) (hX : RI w v x) (ax : x.natAbs < lim) (hz : z = -x) :
    Calls Tryd.prog 32 #[v] w fun e w' => ∃ v, e = .returned v ∧ RetI (z, 0) v w' ∧ Ext w w' := by
  have HZ := Lib.hid hz
  have HV1 := Lib.hid (RI.valid hX ax)
  obtain ⟨A, n, c, rfl, hx⟩ := hX
  have hn := hx.le400 ax
  clear hz
  go_enter Tryd.func32, Tryd.ntmps32
  go_wp2_with fail
  refine (rValid_any _ A n c _ _ (hx.ext ((Ext.new w _).alloc _))).mono ?_
  rintro e w1 ⟨rfl, hx1⟩
  rw [HV1.out]
  have c0 := (box2a hx1).cell
  go_wp2_with fail
  clear c0
  refine (rmade_any _ A n c _ _ (hx.ext (box2 hx1)) (by omega)).mono ?_
  rintro e w3 ⟨v2, rfl, ⟨A2, n2, c2, rfl, hI⟩, hx3⟩
  rw [val_digs, zOf_not_of, ← HZ.out] at hI
  rw [val_digs, zOf_not_of, ← HZ.out]
  have hx3 := hx1.trans hx3
  have b4 := box2b hx3
  have c4 := b4.cell
  have f4 := b4.frozen
  obtain ⟨k1, k2, k3⟩ := put2 (box2 hx3) (by omega) b4 _ A2 n2 c2
  have K1 := Lib.hid k1; have K2 := Lib.hid k2; have K3 := Lib.hid (k3 _ _ _ _ hI); clear k1 k2 k3
  go_wp2
  exact bp_int2 rfl rfl rfl K2.out ⟨_, rfl, ⟨_, rfl, _, _, _, rfl, K3.out⟩, K1.out⟩

/-! The reference's difference: it negates first. -/
theorem box4 {w w1 w2 : World} {x y r : Obj} (h1 : Ext (((w.alloc x).alloc y).alloc r) w1) {o : Obj} (h2 : Ext (w1.alloc o) w2) : Ext (((w.alloc x).alloc y).alloc r) w2 := h1.trans ((Ext.new w1 o).trans h2)

set_option maxRecDepth 100000 in
set_option maxHeartbeats 800000 in
theorem rSub_badY (v u : Value) (s t : Bool) (l k : List Nat) (w : World) (hX : RX w v s l) (hY : RX w u t k) (hu : validB t k = false) :
    Calls Tryd.prog 34 #[v, u] w fun e w' => ∃ v, e = .returned v ∧ RetI (0, 1) v w' ∧ Ext w w' := by
  obtain ⟨A, n, c, rfl, hx⟩ := hX
  obtain ⟨B, m, d, rfl, hy⟩ := hY
  go_enter Tryd.func34, Tryd.ntmps34
  go_wp2_with fail
  refine (rNeg_bad (iv t B m d) t k _ (show RX _ _ _ _ from ⟨_, _, _, rfl, hy.ext (((Ext.new w _).alloc _).alloc _)⟩) hu).mono ?_
  rintro e w1 ⟨v1, rfl, ⟨u1, rfl, A1, n1, c1, rfl, hI1⟩, hx1⟩
  have b4 := ((box3c hx1).alloc (.cells #[.bool false, .slice A1 n1 c1] 24))
  have c4 := b4.cell
  have f4 := b4.frozen
  obtain ⟨k1, k2, _⟩ := put2 ((box3 hx1).alloc (.cells #[.bool false, .slice A1 n1 c1] 24)) (by omega) b4 false none 0 0
  have K1 := Lib.hid k1; have K2 := Lib.hid k2; clear k1 k2
  go_wp2
  exact bp_int2 rfl rfl rfl K2.out ⟨_, rfl, ⟨_, rfl, RI.zero _⟩, K1.out⟩

set_option maxRecDepth 100000 in
set_option maxHeartbeats 800000 in
theorem rSub_badX (v u : Value) (s : Bool) (l : List Nat) (y : Int) (w : World) (hX : RX w v s l) (hY : RI w u y) (ay : y.natAbs < lim) (hv : validB s l = false) :
    Calls Tryd.prog 34 #[v, u] w fun e w' => ∃ v, e = .returned v ∧ RetI (0, 1) v w' ∧ Ext w w' := by
  obtain ⟨z, hz⟩ : ∃ z, z = -y := ⟨_, rfl⟩
  obtain ⟨A, n, c, rfl, hx⟩ := hX
  obtain ⟨B, m, d, rfl, hy⟩ := hY
  have HV1 := Lib.hid hv; clear hv
  have HZ := Lib.hid hz; clear hz
  go_enter Tryd.func34, Tryd.ntmps34
  go_wp2_with fail
  refine (rNeg_ok (iv (decide (y < 0)) B m d) y z _ (show RI _ _ _ from ⟨_, _, _, rfl, hy.ext (((Ext.new w _).alloc _).alloc _)⟩) ay HZ.out).mono ?_
  rintro e w1 ⟨v1, rfl, ⟨u1, rfl, A1, n1, c1, rfl, hI1⟩, hx1⟩
  have b0 := ((box3a hx1).alloc (.cells #[.bool (decide (z < 0)), .slice A1 n1 c1] 24)).cell
  go_wp2_with fail
  refine (rValid_any _ A n c _ _ (hx.ext ((box3 hx1).alloc _))).mono ?_
  rintro e w2 ⟨rfl, hx2⟩
  clear b0
  rw [HV1.out]
  have b4 := (box3c hx1).ext ((Ext.new w1 _).trans hx2)
  have c4 := b4.cell
  have f4 := b4.frozen
  obtain ⟨k1, k2, _⟩ := put2 ((box3 hx1).trans ((Ext.new w1 _).trans hx2)) (by omega) b4 false none 0 0
  have K1 := Lib.hid k1; have K2 := Lib.hid k2; clear k1 k2
  go_wp2
  exact bp_int2 rfl rfl rfl K2.out ⟨_, rfl, ⟨_, rfl, RI.zero _⟩, K1.out⟩

set_option maxRecDepth 100000 in
set_option maxHeartbeats 800000 in
theorem rSub_ok (v u : Value) (x y : Int) (w : World) (hX : RI w v x) (hY : RI w u y) (ax : x.natAbs < lim) (ay : y.natAbs < lim) :
    Calls Tryd.prog 34 #[v, u] w fun e w' => ∃ v, e = .returned v ∧ RetI (resS (x - y)) v w' ∧ Ext w w' := by
  obtain ⟨z, hz⟩ : ∃ z, z = -y := ⟨_, rfl⟩
  have HV1 := Lib.hid (RI.valid hX ax)
  obtain ⟨A, n, c, rfl, hx⟩ := hX
  obtain ⟨B, m, d, rfl, hy⟩ := hY
  have az : z.natAbs < lim := by omega
  have HZ := Lib.hid hz; clear hz
  go_enter Tryd.func34, Tryd.ntmps34
  go_wp2_with fail
  refine (rNeg_ok (iv (decide (y < 0)) B m d) y z _ (show RI _ _ _ from ⟨_, _, _, rfl, hy.ext (((Ext.new w _).alloc _).alloc _)⟩) ay HZ.out).mono ?_
  rintro e w1 ⟨v1, rfl, ⟨u1, rfl, A1, n1, c1, rfl, hI1⟩, hx1⟩
  have b0 := ((box3a hx1).alloc (.cells #[.bool (decide (z < 0)), .slice A1 n1 c1] 24)).cell
  go_wp2_with fail
  refine (rValid_any _ A n c _ _ (hx.ext ((box3 hx1).alloc _))).mono ?_
  rintro e w2 ⟨rfl, hx2⟩
  clear b0
  rw [HV1.out]
  have b0 := ((box3a hx1).ext ((Ext.new w1 _).trans hx2)).cell
  have b1 := ((Blk.new w1 24 #[.bool (decide (z < 0)), .slice A1 n1 c1]).ext hx2).cell
  have hxx := hx1.trans ((Ext.new w1 _).trans hx2)
  go_wp2_with fail
  clear b0 b1
  refine (rAdd_ok _ _ x z _ (show RI _ _ _ from ⟨_, _, _, rfl, hx.ext (box3 hxx)⟩) (show RI _ _ _ from ⟨_, _, _, rfl, hI1.ext ((Ext.new w1 _).trans hx2)⟩) ax az).mono ?_
  rintro e w3 ⟨v2, rfl, ⟨u, rfl, A2, n2, c2, rfl, hI⟩, hx3⟩
  rw [HZ.out, ← Int.sub_eq_add_neg] at hI
  rw [show x + z = x - y by rw [HZ.out, Int.sub_eq_add_neg]]
  have hx3 := hxx.trans hx3
  have b4 := box3c hx3
  have c4 := b4.cell
  have f4 := b4.frozen
  obtain ⟨k1, k2, k3⟩ := put2 (box3 hx3) (by omega) b4 _ A2 n2 c2
  have K1 := Lib.hid k1; have K2 := Lib.hid k2; have K3 := Lib.hid (k3 _ _ _ _ hI); clear k1 k2 k3
  go_wp2
  exact bp_int2 rfl rfl rfl K2.out ⟨_, rfl, ⟨_, rfl, _, _, _, rfl, K3.out⟩, K1.out⟩

/-! Comparisons. -/
def cmpZ (a b : Int) : Int := if a < b then -1 else if b < a then 1 else 0
theorem cmpZ_np {x y : Int} (hx : x < 0) (hy : ¬ y < 0) : -1 = cmpZ x y := by unfold cmpZ; rw [if_pos (by omega)]
theorem cmpZ_pn {x y : Int} (hx : ¬ x < 0) (hy : y < 0) : 1 = cmpZ x y := by unfold cmpZ; rw [if_neg (by omega), if_pos (by omega)]
theorem cmpZ_pp {x y : Int} (hx : ¬ x < 0) (hy : ¬ y < 0) : cmpN x.natAbs y.natAbs = cmpZ x y := by
  unfold cmpZ cmpN
  by_cases h1 : x < y
  · rw [if_pos h1, if_pos (by omega)]
  · rw [if_neg h1, if_neg (by omega)]
    by_cases h2 : y < x
    · rw [if_pos h2, if_pos (by omega)]
    · rw [if_neg h2, if_neg (by omega)]
theorem cmpZ_nn {x y : Int} (hx : x < 0) (hy : y < 0) : cmpN y.natAbs x.natAbs = cmpZ x y := by
  unfold cmpZ cmpN
  by_cases h1 : x < y
  · rw [if_pos h1, if_pos (by omega)]
  · rw [if_neg h1, if_neg (by omega)]
    by_cases h2 : y < x
    · rw [if_pos h2, if_pos (by omega)]
    · rw [if_neg h2, if_neg (by omega)]

set_option maxRecDepth 100000 in
set_option maxHeartbeats 800000 in
theorem Compare_ok (v u : Value) (x y : Int) (w : World) (hX : RI w v x) (hY : RI w u y) (ax : x.natAbs < lim) (ay : y.natAbs < lim) :
    Calls Tryd.prog 21 #[v, u] w fun e w' => e = .returned (.int .i64 (cmpZ x y)) ∧ Ext w w' := by
  have HV1 := Lib.hid (RI.valid hX ax)
  have HV2 := Lib.hid (RI.valid hY ay)
  obtain ⟨A, n, c, rfl, hx⟩ := hX
  obtain ⟨B, m, d, rfl, hy⟩ := hY
  go_enter Tryd.func21, Tryd.ntmps21
  go_wp2_with fail
  refine (Valid_any _ A n c _ _ (hx.ext ((Ext.new w _).alloc _))).mono ?_
  rintro e w1 ⟨rfl, hx1⟩
  rw [HV1.out]
  have c0 := (box2a hx1).cell
  have c1 := (box2b hx1).cell
  go_wp2_with fail
  refine (Valid_any _ B m d _ _ (hy.ext (box2 hx1))).mono ?_
  rintro e w2 ⟨rfl, hx2⟩
  rw [HV2.out]
  clear c0 c1
  have hx2 := hx1.trans hx2
  have c0 := (box2a hx2).cell
  have c1 := (box2b hx2).cell
  by_cases h1 : x < 0
  · have d1 : decide (x < 0) = true := decide_eq_true h1
    by_cases h2 : y < 0
    · have d2 : decide (y < 0) = true := decide_eq_true h2
      go_wp2_with fail
      clear c0 c1
      refine (compareMag_any B A m n d c _ _ _ (hy.ext (box2 hx2)) (hx.ext (box2 hx2)) (canon_digs _) (canon_digs _)).mono ?_
      rintro e w3 ⟨rfl, hx3⟩
      go_wp2
      go_ret
      exact ⟨ret_int (by rw [val_digs, val_digs, cmpZ_nn (x := x) (y := y) (by omega) (by omega)]), (box2 hx2).trans hx3⟩
    · have d2 : decide (y < 0) = false := decide_eq_false h2
      go_wp2
      go_ret
      exact ⟨ret_int (cmpZ_np (by omega) (by omega)), box2 hx2⟩
  · have d1 : decide (x < 0) = false := decide_eq_false h1
    by_cases h2 : y < 0
    · have d2 : decide (y < 0) = true := decide_eq_true h2
      go_wp2
      go_ret
      exact ⟨ret_int (cmpZ_pn (by omega) (by omega)), box2 hx2⟩
    · have d2 : decide (y < 0) = false := decide_eq_false h2
      go_wp2_with fail
      clear c0 c1
      refine (compareMag_any A B n m c d _ _ _ (hx.ext (box2 hx2)) (hy.ext (box2 hx2)) (canon_digs _) (canon_digs _)).mono ?_
      rintro e w3 ⟨rfl, hx3⟩
      go_wp2
      go_ret
      exact ⟨ret_int (by rw [val_digs, val_digs, cmpZ_pp (x := x) (y := y) (by omega) (by omega)]), (box2 hx2).trans hx3⟩
set_option maxRecDepth 100000 in
set_option maxHeartbeats 800000 in
theorem Compare_bad (v u : Value) (s t : Bool) (l k : List Nat) (w : World) (hX : RX w v s l) (hY : RX w u t k) (hv : (validB s l && validB t k) = false) :
    Calls Tryd.prog 21 #[v, u] w fun e w' => e = .returned (.int .i64 0) ∧ Ext w w' := by
  obtain ⟨A, n, c, rfl, hx⟩ := hX
  obtain ⟨B, m, d, rfl, hy⟩ := hY
  cases h1 : validB s l
  · have HV1 := Lib.hid h1; clear h1 hv
    go_enter Tryd.func21, Tryd.ntmps21
    go_wp2_with fail
    refine (Valid_any _ A n c _ _ (hx.ext ((Ext.new w _).alloc _))).mono ?_
    rintro e w1 ⟨rfl, hx1⟩
    rw [HV1.out]
    go_wp2
    go_ret
    exact ⟨rfl, box2 hx1⟩
  · have h2 : validB t k = false := by simpa [h1] using hv
    have HV1 := Lib.hid h1; clear h1 hv
    have HV2 := Lib.hid h2; clear h2
    go_enter Tryd.func21, Tryd.ntmps21
    go_wp2_with fail
    refine (Valid_any _ A n c _ _ (hx.ext ((Ext.new w _).alloc _))).mono ?_
    rintro e w1 ⟨rfl, hx1⟩
    rw [HV1.out]
    have c0 := (box2a hx1).cell
    have c1 := (box2b hx1).cell
    go_wp2_with fail
    refine (Valid_any _ B m d _ _ (hy.ext (box2 hx1))).mono ?_
    rintro e w2 ⟨rfl, hx2⟩
    rw [HV2.out]
    clear c0 c1
    go_wp2
    go_ret
    exact ⟨rfl, (box2 hx1).trans hx2⟩
set_option maxRecDepth 100000 in
set_option maxHeartbeats 800000 in
theorem rCompare_ok (v u : Value) (x y : Int) (w : World) (hX : RI w v x) (hY : RI w u y) (ax : x.natAbs < lim) (ay : y.natAbs < lim) :
    Calls Tryd.prog 22 #[v, u] w fun e w' => e = .returned (.int .i64 (cmpZ x y)) ∧ Ext w w' := by
  have HV1 := Lib.hid (RI.valid hX ax)
  have HV2 := Lib.hid (RI.valid hY ay)
  obtain ⟨A, n, c, rfl, hx⟩ := hX
  obtain ⟨B, m, d, rfl, hy⟩ := hY
  go_enter Tryd.func22, Tryd.ntmps22
  go_wp2_with fail
  refine (rValid_any _ A n c _ _ (hx.ext ((Ext.new w _).alloc _))).mono ?_
  rintro e w1 ⟨rfl, hx1⟩
  rw [HV1.out]
  have c0 := (box2a hx1).cell
  have c1 := (box2b hx1).cell
  go_wp2_with fail
  refine (rValid_any _ B m d _ _ (hy.ext (box2 hx1))).mono ?_
  rintro e w2 ⟨rfl, hx2⟩
  rw [HV2.out]
  clear c0 c1
  have hx2 := hx1.trans hx2
  have c0 := (box2a hx2).cell
  have c1 := (box2b hx2).cell
  by_cases h1 : x < 0
  · have d1 : decide (x < 0) = true := decide_eq_true h1
    by_cases h2 : y < 0
    · have d2 : decide (y < 0) = true := decide_eq_true h2
      go_wp2_with fail
      clear c0 c1
      refine (rcompare_any B A m n d c _ _ _ (hy.ext (box2 hx2)) (hx.ext (box2 hx2)) (canon_digs _) (canon_digs _)).mono ?_
      rintro e w3 ⟨rfl, hx3⟩
      go_wp2
      go_ret
      exact ⟨ret_int (by rw [val_digs, val_digs, cmpZ_nn (x := x) (y := y) (by omega) (by omega)]), (box2 hx2).trans hx3⟩
    · have d2 : decide (y < 0) = false := decide_eq_false h2
      go_wp2
      go_ret
      exact ⟨ret_int (cmpZ_np (by omega) (by omega)), box2 hx2⟩
  · have d1 : decide (x < 0) = false := decide_eq_false h1
    by_cases h2 : y < 0
    · have d2 : decide (y < 0) = true := decide_eq_true h2
      go_wp2
      go_ret
      exact ⟨ret_int (cmpZ_pn (by omega) (by omega)), box2 hx2⟩
    · have d2 : decide (y < 0) = false := decide_eq_false h2
      go_wp2_with fail
      clear c0 c1
      refine (rcompare_any A B n m c d _ _ _ (hx.ext (box2 hx2)) (hy.ext (box2 hx2)) (canon_digs _) (canon_digs _)).mono ?_
      rintro e w3 ⟨rfl, hx3⟩
      go_wp2
      go_ret
      exact ⟨ret_int (by rw [val_digs, val_digs, cmpZ_pp (x := x) (y := y) (by omega) (by omega)]), (box2 hx2).trans hx3⟩
set_option maxRecDepth 100000 in
set_option maxHeartbeats 800000 in
theorem rCompare_bad (v u : Value) (s t : Bool) (l k : List Nat) (w : World) (hX : RX w v s l) (hY : RX w u t k) (hv : (validB s l && validB t k) = false) :
    Calls Tryd.prog 22 #[v, u] w fun e w' => e = .returned (.int .i64 0) ∧ Ext w w' := by
  obtain ⟨A, n, c, rfl, hx⟩ := hX
  obtain ⟨B, m, d, rfl, hy⟩ := hY
  cases h1 : validB s l
  · have HV1 := Lib.hid h1; clear h1 hv
    go_enter Tryd.func22, Tryd.ntmps22
    go_wp2_with fail
    refine (rValid_any _ A n c _ _ (hx.ext ((Ext.new w _).alloc _))).mono ?_
    rintro e w1 ⟨rfl, hx1⟩
    rw [HV1.out]
    go_wp2
    go_ret
    exact ⟨rfl, box2 hx1⟩
  · have h2 : validB t k = false := by simpa [h1] using hv
    have HV1 := Lib.hid h1; clear h1 hv
    have HV2 := Lib.hid h2; clear h2
    go_enter Tryd.func22, Tryd.ntmps22
    go_wp2_with fail
    refine (rValid_any _ A n c _ _ (hx.ext ((Ext.new w _).alloc _))).mono ?_
    rintro e w1 ⟨rfl, hx1⟩
    rw [HV1.out]
    have c0 := (box2a hx1).cell
    have c1 := (box2b hx1).cell
    go_wp2_with fail
    refine (rValid_any _ B m d _ _ (hy.ext (box2 hx1))).mono ?_
    rintro e w2 ⟨rfl, hx2⟩
    rw [HV2.out]
    clear c0 c1
    go_wp2
    go_ret
    exact ⟨rfl, (box2 hx1).trans hx2⟩
end Go.Proofs.YtfdpbcjcinchgaaDoor
