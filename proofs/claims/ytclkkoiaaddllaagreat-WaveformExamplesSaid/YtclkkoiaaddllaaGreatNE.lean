/- Words and contracts that the laws share, several texts in one. -/
import Derived.Test.YtclkkoiaaddllaaGreatNB
import Derived.Test.YtclkkoiaaddllaaGreatMG
/- The specification of numbers: integers, lowest terms. -/
namespace Go.Proofs.YtclkkoiaaddllaaGreat
open Go.RowKit
set_option linter.unusedVariables false

theorem lim1 : (1 : Int).natAbs < lim := lt_lim64 (by omega) (by omega)
theorem rAdd_in (v u : Value) (x y z : Int) (w : World) (hX : RI w v x) (hY : RI w u y) (ax : x.natAbs < lim) (ay : y.natAbs < lim) (hz : z = x + y) (az : z.natAbs < lim) :
    Calls Tryz.prog 75 #[v, u] w fun e w' => ∃ v, e = .returned v ∧ RetI (z, 0) v w' ∧ Ext w w' := by
  have := rAdd_ok v u x y w hX hY ax ay
  rwa [← hz, resS_ok az] at this
theorem rSub_in (v u : Value) (x y z : Int) (w : World) (hX : RI w v x) (hY : RI w u y) (ax : x.natAbs < lim) (ay : y.natAbs < lim) (hz : z = x - y) (az : z.natAbs < lim) :
    Calls Tryz.prog 73 #[v, u] w fun e w' => ∃ v, e = .returned v ∧ RetI (z, 0) v w' ∧ Ext w w' := by
  have := rSub_ok v u x y w hX hY ax ay
  rwa [← hz, resS_ok az] at this
theorem rMul_in (v u : Value) (x y z : Int) (w : World) (hX : RI w v x) (hY : RI w u y) (ax : x.natAbs < lim) (ay : y.natAbs < lim) (hz : z = x * y) (az : z.natAbs < lim) :
    Calls Tryz.prog 74 #[v, u] w fun e w' => ∃ v, e = .returned v ∧ RetI (z, 0) v w' ∧ Ext w w' := by
  have := rMul_ok v u x y w hX hY ax ay
  rwa [← hz, resS_ok az] at this
theorem rGcd_in (v u : Value) (x y z : Int) (w : World) (hX : RI w v x) (hY : RI w u y) (ax : x.natAbs < lim) (ay : y.natAbs < lim) (hz : z = (Nat.gcd x.natAbs y.natAbs : Nat)) :
    Calls Tryz.prog 108 #[v, u] w fun e w' => ∃ v, e = .returned v ∧ RetI (z, 0) v w' ∧ Ext w w' := by
  subst hz
  exact rGcd_ok v u x y w hX hY ax ay
theorem rDivide_in (v u : Value) (x y q r : Int) (w : World) (hX : RI w v x) (hY : RI w u y) (ax : x.natAbs < lim) (ay : y.natAbs < lim) (hy0 : y ≠ 0) (hq : q = x / y) (hr : r = x % y) :
    Calls Tryz.prog 139 #[v, u] w fun e w' => ∃ v, e = .returned v ∧ RetD q r 0 v w' ∧ Ext w w' := by
  subst hq hr
  exact rDivide_ok v u x y w hX hY ax ay hy0
theorem gcd_lt {x y : Int} (ax : x.natAbs < lim) (ay : y.natAbs < lim) : Nat.gcd x.natAbs y.natAbs < lim := by
  rcases Nat.eq_zero_or_pos x.natAbs with h | h
  · rw [h, Nat.gcd_zero_left]; exact ay
  · exact Nat.lt_of_le_of_lt (Nat.gcd_le_left _ h) ax

set_option maxRecDepth 100000 in
set_option maxHeartbeats 800000 in
theorem qOf_ok (m0 : Int) (w : World) (l0 : -9223372036854775808 ≤ m0) (u0 : m0 ≤ 9223372036854775807)
      :
    Calls Tryz.prog 49 #[.int .i64 m0] w fun e w' => ∃ v, e = .returned v ∧ RI w' v m0 ∧ Ext w w' := by
  have hS := St.start w
  have o2 : Own w w.heap.size := Own.of hS.ext (by simp)
  go_enter Tryz.func49, Tryz.ntmps49
  go_wp2_with fail
  replace hS := (St.al hS 30 #[.bool false, .slice none 0 0] (g := w.heap.size) (by simp))
  generalize (w.alloc (.cells #[.bool false, .slice none 0 0] 30)) = w1 at hS ⊢
  generalize w.heap.size = g2 at hS o2 ⊢
  refine (rOf_any (m0) _ l0 u0).mono ?_
  rintro e w2 ⟨v_, rfl, hv_, hx_⟩
  replace hS := hS.mv hx_
  clear hx_
  obtain ⟨s4, A_4, n4, c4, rfl, f_s4⟩ := RI.opn hv_
  clear hv_
  replace hS := hS.addI f_s4
  clear f_s4
  have k_1 := (hS.blk 0 rfl).cell
  have k_2 := (hS.blk 0 rfl).frozen
  go_wp2
  replace hS := (St.put (W' := ((w2.setCell ⟨g2, 0, none⟩ (.bool s4)).setCell ⟨g2, 1, none⟩ (.slice A_4 n4 c4))) hS 0 0 [.bool s4, .slice A_4 n4 c4] (cs' := #[.bool s4, .slice A_4 n4 c4]) (bs' := _) rfl o2 rfl rfl rfl rfl)
  exact bp_int1 rfl rfl rfl (hS.blk 0 rfl) ⟨_, rfl, (hS.num 0 rfl), hS.ext⟩

set_option maxRecDepth 100000 in
set_option maxHeartbeats 800000 in
theorem qPlus_w (v0 : Value) (x0 : Int) (v1 : Value) (x1 : Int) (w : World) (hX0 : RI w v0 x0) (ax0 : x0.natAbs < lim) (hX1 : RI w v1 x1) (ax1 : x1.natAbs < lim)
    (z10 : Int) (E10 : Hid (z10 = x0 + x1)) (A10 : z10.natAbs < lim)  :
    Calls Tryz.prog 47 #[v0, v1] w fun e w' => ∃ v, e = .returned v ∧ RI w' v z10 ∧ Ext w w' := by
  have hS := St.start w
  obtain ⟨sx0, Ax0, nx0, cx0, rfl, hY0⟩ := hX0.opn
  replace hS := hS.addI hY0
  clear hX0 hY0
  obtain ⟨sx1, Ax1, nx1, cx1, rfl, hY1⟩ := hX1.opn
  replace hS := hS.addI hY1
  clear hX1 hY1
  have o2 : Own w w.heap.size := Own.of hS.ext (by simp)
  have o3 : Own w (w.heap.size + 1) := Own.of hS.ext (by simp)
  have o4 : Own w (w.heap.size + 2) := Own.of hS.ext (by simp)
  have hT1 := (St.al (St.al (St.al hS 30 #[.bool sx0, .slice Ax0 nx0 cx0] (g := w.heap.size) (by simp)) 30 #[.bool sx1, .slice Ax1 nx1 cx1] (g := (w.heap.size + 1)) (by simp)) 30 #[.bool false, .slice none 0 0] (g := (w.heap.size + 2)) (by simp))
  have k_1 := (hT1.blk 2 rfl).cell
  have k_2 := (hT1.blk 1 rfl).cell
  go_enter Tryz.func47, Tryz.ntmps47
  go_wp2_with fail
  clear k_1 k_2
  clear hT1
  replace hS := (St.al (St.al (St.al hS 30 #[.bool sx0, .slice Ax0 nx0 cx0] (g := w.heap.size) (by simp)) 30 #[.bool sx1, .slice Ax1 nx1 cx1] (g := (w.heap.size + 1)) (by simp)) 30 #[.bool false, .slice none 0 0] (g := (w.heap.size + 2)) (by simp))
  generalize (((w.alloc (.cells #[.bool sx0, .slice Ax0 nx0 cx0] 30)).alloc (.cells #[.bool sx1, .slice Ax1 nx1 cx1] 30)).alloc (.cells #[.bool false, .slice none 0 0] 30)) = w1 at hS ⊢
  generalize w.heap.size + 2 = g4 at hS o4 ⊢
  generalize w.heap.size + 1 = g3 at hS o3 ⊢
  generalize w.heap.size = g2 at hS o2 ⊢
  refine (rAdd_in _ _ x0 x1 z10 _ (hS.num 1 rfl) (hS.num 0 rfl) ax0 ax1 E10.out A10).mono ?_
  rintro e w2 ⟨v_, rfl, hv_, hx_⟩
  replace hS := hS.mv hx_
  clear hx_
  obtain ⟨_, rfl, hv1_⟩ := hv_
  obtain ⟨s10, A_10, n10, c10, rfl, f_s10⟩ := RI.opn hv1_
  clear hv1_
  replace hS := hS.addI f_s10
  clear f_s10
  have o5 : Own w w2.heap.size := Own.of hS.ext (by simp)
  have hT2 := (St.al hS 30 #[.bool false, .slice none 0 0] (g := w2.heap.size) (by simp))
  have k_3 := (hT2.blk 0 rfl).cell
  have k_4 := (hT2.blk 0 rfl).frozen
  have hT3 := (St.al hS 30 #[.bool s10, .slice A_10 n10 c10] (g := w2.heap.size) (by simp))
  have k_5 := (hT3.blk 0 rfl).cell
  have k_6 := (hT3.blk 1 rfl).cell
  have k_7 := (hT3.blk 1 rfl).frozen
  go_wp2
  replace hS := (St.put (W' := (((w2.alloc (.cells #[.bool s10, .slice A_10 n10 c10] 30)).setCell ⟨g4, 0, none⟩ (.bool s10)).setCell ⟨g4, 1, none⟩ (.slice A_10 n10 c10))) (St.al hS 30 #[.bool s10, .slice A_10 n10 c10] (g := w2.heap.size) (by simp)) 1 0 [.bool s10, .slice A_10 n10 c10] (cs' := #[.bool s10, .slice A_10 n10 c10]) (bs' := _) rfl o4 rfl rfl rfl rfl)
  exact bp_int1 rfl rfl rfl (hS.blk 1 rfl) ⟨_, rfl, (hS.num 0 rfl), hS.ext⟩

theorem qPlus_ok (v u : Value) (x y z : Int) (w : World) (hX : RI w v x) (hY : RI w u y) (ax : x.natAbs < lim) (ay : y.natAbs < lim) (hz : z = x + y) (az : z.natAbs < lim) :
    Calls Tryz.prog 47 #[v, u] w fun e w' => ∃ v, e = .returned v ∧ RI w' v z ∧ Ext w w' := qPlus_w v x u y w hX ax hY ay z (Lib.hid hz) az
set_option maxRecDepth 100000 in
set_option maxHeartbeats 800000 in
theorem qMinus_w (v0 : Value) (x0 : Int) (v1 : Value) (x1 : Int) (w : World) (hX0 : RI w v0 x0) (ax0 : x0.natAbs < lim) (hX1 : RI w v1 x1) (ax1 : x1.natAbs < lim)
    (z10 : Int) (E10 : Hid (z10 = x0 - x1)) (A10 : z10.natAbs < lim)  :
    Calls Tryz.prog 45 #[v0, v1] w fun e w' => ∃ v, e = .returned v ∧ RI w' v z10 ∧ Ext w w' := by
  have hS := St.start w
  obtain ⟨sx0, Ax0, nx0, cx0, rfl, hY0⟩ := hX0.opn
  replace hS := hS.addI hY0
  clear hX0 hY0
  obtain ⟨sx1, Ax1, nx1, cx1, rfl, hY1⟩ := hX1.opn
  replace hS := hS.addI hY1
  clear hX1 hY1
  have o2 : Own w w.heap.size := Own.of hS.ext (by simp)
  have o3 : Own w (w.heap.size + 1) := Own.of hS.ext (by simp)
  have o4 : Own w (w.heap.size + 2) := Own.of hS.ext (by simp)
  have hT1 := (St.al (St.al (St.al hS 30 #[.bool sx0, .slice Ax0 nx0 cx0] (g := w.heap.size) (by simp)) 30 #[.bool sx1, .slice Ax1 nx1 cx1] (g := (w.heap.size + 1)) (by simp)) 30 #[.bool false, .slice none 0 0] (g := (w.heap.size + 2)) (by simp))
  have k_1 := (hT1.blk 2 rfl).cell
  have k_2 := (hT1.blk 1 rfl).cell
  go_enter Tryz.func45, Tryz.ntmps45
  go_wp2_with fail
  clear k_1 k_2
  clear hT1
  replace hS := (St.al (St.al (St.al hS 30 #[.bool sx0, .slice Ax0 nx0 cx0] (g := w.heap.size) (by simp)) 30 #[.bool sx1, .slice Ax1 nx1 cx1] (g := (w.heap.size + 1)) (by simp)) 30 #[.bool false, .slice none 0 0] (g := (w.heap.size + 2)) (by simp))
  generalize (((w.alloc (.cells #[.bool sx0, .slice Ax0 nx0 cx0] 30)).alloc (.cells #[.bool sx1, .slice Ax1 nx1 cx1] 30)).alloc (.cells #[.bool false, .slice none 0 0] 30)) = w1 at hS ⊢
  generalize w.heap.size + 2 = g4 at hS o4 ⊢
  generalize w.heap.size + 1 = g3 at hS o3 ⊢
  generalize w.heap.size = g2 at hS o2 ⊢
  refine (rSub_in _ _ x0 x1 z10 _ (hS.num 1 rfl) (hS.num 0 rfl) ax0 ax1 E10.out A10).mono ?_
  rintro e w2 ⟨v_, rfl, hv_, hx_⟩
  replace hS := hS.mv hx_
  clear hx_
  obtain ⟨_, rfl, hv1_⟩ := hv_
  obtain ⟨s10, A_10, n10, c10, rfl, f_s10⟩ := RI.opn hv1_
  clear hv1_
  replace hS := hS.addI f_s10
  clear f_s10
  have o5 : Own w w2.heap.size := Own.of hS.ext (by simp)
  have hT2 := (St.al hS 30 #[.bool false, .slice none 0 0] (g := w2.heap.size) (by simp))
  have k_3 := (hT2.blk 0 rfl).cell
  have k_4 := (hT2.blk 0 rfl).frozen
  have hT3 := (St.al hS 30 #[.bool s10, .slice A_10 n10 c10] (g := w2.heap.size) (by simp))
  have k_5 := (hT3.blk 0 rfl).cell
  have k_6 := (hT3.blk 1 rfl).cell
  have k_7 := (hT3.blk 1 rfl).frozen
  go_wp2
  replace hS := (St.put (W' := (((w2.alloc (.cells #[.bool s10, .slice A_10 n10 c10] 30)).setCell ⟨g4, 0, none⟩ (.bool s10)).setCell ⟨g4, 1, none⟩ (.slice A_10 n10 c10))) (St.al hS 30 #[.bool s10, .slice A_10 n10 c10] (g := w2.heap.size) (by simp)) 1 0 [.bool s10, .slice A_10 n10 c10] (cs' := #[.bool s10, .slice A_10 n10 c10]) (bs' := _) rfl o4 rfl rfl rfl rfl)
  exact bp_int1 rfl rfl rfl (hS.blk 1 rfl) ⟨_, rfl, (hS.num 0 rfl), hS.ext⟩

theorem qMinus_ok (v u : Value) (x y z : Int) (w : World) (hX : RI w v x) (hY : RI w u y) (ax : x.natAbs < lim) (ay : y.natAbs < lim) (hz : z = x - y) (az : z.natAbs < lim) :
    Calls Tryz.prog 45 #[v, u] w fun e w' => ∃ v, e = .returned v ∧ RI w' v z ∧ Ext w w' := qMinus_w v x u y w hX ax hY ay z (Lib.hid hz) az
set_option maxRecDepth 100000 in
set_option maxHeartbeats 800000 in
theorem qTimes_w (v0 : Value) (x0 : Int) (v1 : Value) (x1 : Int) (w : World) (hX0 : RI w v0 x0) (ax0 : x0.natAbs < lim) (hX1 : RI w v1 x1) (ax1 : x1.natAbs < lim)
    (z10 : Int) (E10 : Hid (z10 = x0 * x1)) (A10 : z10.natAbs < lim)  :
    Calls Tryz.prog 46 #[v0, v1] w fun e w' => ∃ v, e = .returned v ∧ RI w' v z10 ∧ Ext w w' := by
  have hS := St.start w
  obtain ⟨sx0, Ax0, nx0, cx0, rfl, hY0⟩ := hX0.opn
  replace hS := hS.addI hY0
  clear hX0 hY0
  obtain ⟨sx1, Ax1, nx1, cx1, rfl, hY1⟩ := hX1.opn
  replace hS := hS.addI hY1
  clear hX1 hY1
  have o2 : Own w w.heap.size := Own.of hS.ext (by simp)
  have o3 : Own w (w.heap.size + 1) := Own.of hS.ext (by simp)
  have o4 : Own w (w.heap.size + 2) := Own.of hS.ext (by simp)
  have hT1 := (St.al (St.al (St.al hS 30 #[.bool sx0, .slice Ax0 nx0 cx0] (g := w.heap.size) (by simp)) 30 #[.bool sx1, .slice Ax1 nx1 cx1] (g := (w.heap.size + 1)) (by simp)) 30 #[.bool false, .slice none 0 0] (g := (w.heap.size + 2)) (by simp))
  have k_1 := (hT1.blk 2 rfl).cell
  have k_2 := (hT1.blk 1 rfl).cell
  go_enter Tryz.func46, Tryz.ntmps46
  go_wp2_with fail
  clear k_1 k_2
  clear hT1
  replace hS := (St.al (St.al (St.al hS 30 #[.bool sx0, .slice Ax0 nx0 cx0] (g := w.heap.size) (by simp)) 30 #[.bool sx1, .slice Ax1 nx1 cx1] (g := (w.heap.size + 1)) (by simp)) 30 #[.bool false, .slice none 0 0] (g := (w.heap.size + 2)) (by simp))
  generalize (((w.alloc (.cells #[.bool sx0, .slice Ax0 nx0 cx0] 30)).alloc (.cells #[.bool sx1, .slice Ax1 nx1 cx1] 30)).alloc (.cells #[.bool false, .slice none 0 0] 30)) = w1 at hS ⊢
  generalize w.heap.size + 2 = g4 at hS o4 ⊢
  generalize w.heap.size + 1 = g3 at hS o3 ⊢
  generalize w.heap.size = g2 at hS o2 ⊢
  refine (rMul_in _ _ x0 x1 z10 _ (hS.num 1 rfl) (hS.num 0 rfl) ax0 ax1 E10.out A10).mono ?_
  rintro e w2 ⟨v_, rfl, hv_, hx_⟩
  replace hS := hS.mv hx_
  clear hx_
  obtain ⟨_, rfl, hv1_⟩ := hv_
  obtain ⟨s10, A_10, n10, c10, rfl, f_s10⟩ := RI.opn hv1_
  clear hv1_
  replace hS := hS.addI f_s10
  clear f_s10
  have o5 : Own w w2.heap.size := Own.of hS.ext (by simp)
  have hT2 := (St.al hS 30 #[.bool false, .slice none 0 0] (g := w2.heap.size) (by simp))
  have k_3 := (hT2.blk 0 rfl).cell
  have k_4 := (hT2.blk 0 rfl).frozen
  have hT3 := (St.al hS 30 #[.bool s10, .slice A_10 n10 c10] (g := w2.heap.size) (by simp))
  have k_5 := (hT3.blk 0 rfl).cell
  have k_6 := (hT3.blk 1 rfl).cell
  have k_7 := (hT3.blk 1 rfl).frozen
  go_wp2
  replace hS := (St.put (W' := (((w2.alloc (.cells #[.bool s10, .slice A_10 n10 c10] 30)).setCell ⟨g4, 0, none⟩ (.bool s10)).setCell ⟨g4, 1, none⟩ (.slice A_10 n10 c10))) (St.al hS 30 #[.bool s10, .slice A_10 n10 c10] (g := w2.heap.size) (by simp)) 1 0 [.bool s10, .slice A_10 n10 c10] (cs' := #[.bool s10, .slice A_10 n10 c10]) (bs' := _) rfl o4 rfl rfl rfl rfl)
  exact bp_int1 rfl rfl rfl (hS.blk 1 rfl) ⟨_, rfl, (hS.num 0 rfl), hS.ext⟩

theorem qTimes_ok (v u : Value) (x y z : Int) (w : World) (hX : RI w v x) (hY : RI w u y) (ax : x.natAbs < lim) (ay : y.natAbs < lim) (hz : z = x * y) (az : z.natAbs < lim) :
    Calls Tryz.prog 46 #[v, u] w fun e w' => ∃ v, e = .returned v ∧ RI w' v z ∧ Ext w w' := qTimes_w v x u y w hX ax hY ay z (Lib.hid hz) az
set_option maxRecDepth 100000 in
set_option maxHeartbeats 800000 in
theorem qgcd_w (v0 : Value) (x0 : Int) (v1 : Value) (x1 : Int) (w : World) (hX0 : RI w v0 x0) (ax0 : x0.natAbs < lim) (hX1 : RI w v1 x1) (ax1 : x1.natAbs < lim)
    (z10 : Int) (E10 : Hid (z10 = (Nat.gcd x0.natAbs x1.natAbs : Nat))) (A10 : z10.natAbs < lim)  :
    Calls Tryz.prog 70 #[v0, v1] w fun e w' => ∃ v, e = .returned v ∧ RI w' v z10 ∧ Ext w w' := by
  have hS := St.start w
  obtain ⟨sx0, Ax0, nx0, cx0, rfl, hY0⟩ := hX0.opn
  replace hS := hS.addI hY0
  clear hX0 hY0
  obtain ⟨sx1, Ax1, nx1, cx1, rfl, hY1⟩ := hX1.opn
  replace hS := hS.addI hY1
  clear hX1 hY1
  have o2 : Own w w.heap.size := Own.of hS.ext (by simp)
  have o3 : Own w (w.heap.size + 1) := Own.of hS.ext (by simp)
  have o4 : Own w (w.heap.size + 2) := Own.of hS.ext (by simp)
  have hT1 := (St.al (St.al (St.al hS 30 #[.bool sx0, .slice Ax0 nx0 cx0] (g := w.heap.size) (by simp)) 30 #[.bool sx1, .slice Ax1 nx1 cx1] (g := (w.heap.size + 1)) (by simp)) 30 #[.bool false, .slice none 0 0] (g := (w.heap.size + 2)) (by simp))
  have k_1 := (hT1.blk 2 rfl).cell
  have k_2 := (hT1.blk 1 rfl).cell
  go_enter Tryz.func70, Tryz.ntmps70
  go_wp2_with fail
  clear k_1 k_2
  clear hT1
  replace hS := (St.al (St.al (St.al hS 30 #[.bool sx0, .slice Ax0 nx0 cx0] (g := w.heap.size) (by simp)) 30 #[.bool sx1, .slice Ax1 nx1 cx1] (g := (w.heap.size + 1)) (by simp)) 30 #[.bool false, .slice none 0 0] (g := (w.heap.size + 2)) (by simp))
  generalize (((w.alloc (.cells #[.bool sx0, .slice Ax0 nx0 cx0] 30)).alloc (.cells #[.bool sx1, .slice Ax1 nx1 cx1] 30)).alloc (.cells #[.bool false, .slice none 0 0] 30)) = w1 at hS ⊢
  generalize w.heap.size + 2 = g4 at hS o4 ⊢
  generalize w.heap.size + 1 = g3 at hS o3 ⊢
  generalize w.heap.size = g2 at hS o2 ⊢
  refine (rGcd_in _ _ x0 x1 z10 _ (hS.num 1 rfl) (hS.num 0 rfl) ax0 ax1 E10.out).mono ?_
  rintro e w2 ⟨v_, rfl, hv_, hx_⟩
  replace hS := hS.mv hx_
  clear hx_
  obtain ⟨_, rfl, hv1_⟩ := hv_
  obtain ⟨s10, A_10, n10, c10, rfl, f_s10⟩ := RI.opn hv1_
  clear hv1_
  replace hS := hS.addI f_s10
  clear f_s10
  have o5 : Own w w2.heap.size := Own.of hS.ext (by simp)
  have hT2 := (St.al hS 30 #[.bool false, .slice none 0 0] (g := w2.heap.size) (by simp))
  have k_3 := (hT2.blk 0 rfl).cell
  have k_4 := (hT2.blk 0 rfl).frozen
  have hT3 := (St.al hS 30 #[.bool s10, .slice A_10 n10 c10] (g := w2.heap.size) (by simp))
  have k_5 := (hT3.blk 0 rfl).cell
  have k_6 := (hT3.blk 1 rfl).cell
  have k_7 := (hT3.blk 1 rfl).frozen
  go_wp2
  replace hS := (St.put (W' := (((w2.alloc (.cells #[.bool s10, .slice A_10 n10 c10] 30)).setCell ⟨g4, 0, none⟩ (.bool s10)).setCell ⟨g4, 1, none⟩ (.slice A_10 n10 c10))) (St.al hS 30 #[.bool s10, .slice A_10 n10 c10] (g := w2.heap.size) (by simp)) 1 0 [.bool s10, .slice A_10 n10 c10] (cs' := #[.bool s10, .slice A_10 n10 c10]) (bs' := _) rfl o4 rfl rfl rfl rfl)
  exact bp_int1 rfl rfl rfl (hS.blk 1 rfl) ⟨_, rfl, (hS.num 0 rfl), hS.ext⟩

theorem qgcd_ok (v u : Value) (x y z : Int) (w : World) (hX : RI w v x) (hY : RI w u y) (ax : x.natAbs < lim) (ay : y.natAbs < lim) (hz : z = (Nat.gcd x.natAbs y.natAbs : Nat)) :
    Calls Tryz.prog 70 #[v, u] w fun e w' => ∃ v, e = .returned v ∧ RI w' v z ∧ Ext w w' := qgcd_w v x u y w hX ax hY ay z (Lib.hid hz) (by rw [hz]; exact gcd_lt ax ay)
set_option maxRecDepth 100000 in
set_option maxHeartbeats 800000 in
theorem qBy_w (v0 : Value) (x0 : Int) (v1 : Value) (x1 : Int) (w : World) (hX0 : RI w v0 x0) (ax0 : x0.natAbs < lim) (hX1 : RI w v1 x1) (ax1 : x1.natAbs < lim)
    (z11q : Int) (E11q : Hid (z11q = x0 / x1)) (A11q : z11q.natAbs < lim)
    (z11r : Int) (E11r : Hid (z11r = x0 % x1))
    (N11 : Hid (x1 ≠ 0))  :
    Calls Tryz.prog 109 #[v0, v1] w fun e w' => ∃ v, e = .returned v ∧ RI w' v z11q ∧ Ext w w' := by
  have hS := St.start w
  obtain ⟨sx0, Ax0, nx0, cx0, rfl, hY0⟩ := hX0.opn
  replace hS := hS.addI hY0
  clear hX0 hY0
  obtain ⟨sx1, Ax1, nx1, cx1, rfl, hY1⟩ := hX1.opn
  replace hS := hS.addI hY1
  clear hX1 hY1
  have o2 : Own w w.heap.size := Own.of hS.ext (by simp)
  have o3 : Own w (w.heap.size + 1) := Own.of hS.ext (by simp)
  have o4 : Own w (w.heap.size + 2) := Own.of hS.ext (by simp)
  have hT1 := (St.al (St.al (St.al hS 30 #[.bool sx0, .slice Ax0 nx0 cx0] (g := w.heap.size) (by simp)) 30 #[.bool sx1, .slice Ax1 nx1 cx1] (g := (w.heap.size + 1)) (by simp)) 30 #[.bool false, .slice none 0 0] (g := (w.heap.size + 2)) (by simp))
  have k_1 := (hT1.blk 2 rfl).cell
  have k_2 := (hT1.blk 1 rfl).cell
  go_enter Tryz.func109, Tryz.ntmps109
  go_wp2_with fail
  clear k_1 k_2
  clear hT1
  replace hS := (St.al (St.al (St.al hS 30 #[.bool sx0, .slice Ax0 nx0 cx0] (g := w.heap.size) (by simp)) 30 #[.bool sx1, .slice Ax1 nx1 cx1] (g := (w.heap.size + 1)) (by simp)) 30 #[.bool false, .slice none 0 0] (g := (w.heap.size + 2)) (by simp))
  generalize (((w.alloc (.cells #[.bool sx0, .slice Ax0 nx0 cx0] 30)).alloc (.cells #[.bool sx1, .slice Ax1 nx1 cx1] 30)).alloc (.cells #[.bool false, .slice none 0 0] 30)) = w1 at hS ⊢
  generalize w.heap.size + 2 = g4 at hS o4 ⊢
  generalize w.heap.size + 1 = g3 at hS o3 ⊢
  generalize w.heap.size = g2 at hS o2 ⊢
  refine (rDivide_in _ _ x0 x1 z11q z11r _ (hS.num 1 rfl) (hS.num 0 rfl) ax0 ax1 N11.out E11q.out E11r.out).mono ?_
  rintro e w2 ⟨v_, rfl, hv_, hx_⟩
  replace hS := hS.mv hx_
  clear hx_
  obtain ⟨_, _, rfl, hv1_, hv2_⟩ := hv_
  obtain ⟨s11a, A_11a, n11a, c11a, rfl, f_s11a⟩ := RI.opn hv1_
  obtain ⟨s11b, A_11b, n11b, c11b, rfl, f_s11b⟩ := RI.opn hv2_
  clear hv1_ hv2_
  replace hS := hS.addI f_s11a
  clear f_s11a
  replace hS := hS.addI f_s11b
  clear f_s11b
  have o5 : Own w w2.heap.size := Own.of hS.ext (by simp)
  have o6 : Own w (w2.heap.size + 1) := Own.of hS.ext (by simp)
  have hT2 := (St.al (St.al hS 30 #[.bool false, .slice none 0 0] (g := w2.heap.size) (by simp)) 30 #[.bool false, .slice none 0 0] (g := (w2.heap.size + 1)) (by simp))
  have k_3 := (hT2.blk 1 rfl).cell
  have k_4 := (hT2.blk 1 rfl).frozen
  have hT3 := (St.al (St.al hS 30 #[.bool s11a, .slice A_11a n11a c11a] (g := w2.heap.size) (by simp)) 30 #[.bool false, .slice none 0 0] (g := (w2.heap.size + 1)) (by simp))
  have k_5 := (hT3.blk 0 rfl).cell
  have k_6 := (hT3.blk 0 rfl).frozen
  have hT4 := (St.al (St.al hS 30 #[.bool s11a, .slice A_11a n11a c11a] (g := w2.heap.size) (by simp)) 30 #[.bool s11b, .slice A_11b n11b c11b] (g := (w2.heap.size + 1)) (by simp))
  have k_7 := (hT4.blk 1 rfl).cell
  have k_8 := (hT4.blk 2 rfl).cell
  have k_9 := (hT4.blk 2 rfl).frozen
  go_wp2
  replace hS := (St.put (W' := ((((w2.alloc (.cells #[.bool s11a, .slice A_11a n11a c11a] 30)).alloc (.cells #[.bool s11b, .slice A_11b n11b c11b] 30)).setCell ⟨g4, 0, none⟩ (.bool s11a)).setCell ⟨g4, 1, none⟩ (.slice A_11a n11a c11a))) (St.al (St.al hS 30 #[.bool s11a, .slice A_11a n11a c11a] (g := w2.heap.size) (by simp)) 30 #[.bool s11b, .slice A_11b n11b c11b] (g := (w2.heap.size + 1)) (by simp)) 2 0 [.bool s11a, .slice A_11a n11a c11a] (cs' := #[.bool s11a, .slice A_11a n11a c11a]) (bs' := _) rfl o4 rfl rfl rfl rfl)
  exact bp_int1 rfl rfl rfl (hS.blk 2 rfl) ⟨_, rfl, (hS.num 1 rfl), hS.ext⟩

theorem qBy_ok (v u : Value) (x y z : Int) (w : World) (hX : RI w v x) (hY : RI w u y) (ax : x.natAbs < lim) (ay : y.natAbs < lim) (hy : y ≠ 0) (hz : z = x / y) (az : z.natAbs < lim) :
    Calls Tryz.prog 109 #[v, u] w fun e w' => ∃ v, e = .returned v ∧ RI w' v z ∧ Ext w w' := qBy_w v x u y w hX ax hY ay z (Lib.hid hz) az _ (Lib.hid rfl) (Lib.hid hy)
set_option maxRecDepth 100000 in
set_option maxHeartbeats 800000 in
theorem qquotient_p (v0 : Value) (x0 : Int) (v1 : Value) (x1 : Int) (w : World) (hX0 : RI w v0 x0) (ax0 : x0.natAbs < lim) (hX1 : RI w v1 x1) (ax1 : x1.natAbs < lim) (H1 : Hid (0 < x1))
    (z17 : Int) (E17 : Hid (z17 = x0 / x1)) (A17 : z17.natAbs < lim)
    (N17 : Hid (x1 ≠ 0))  :
    Calls Tryz.prog 72 #[v0, v1] w fun e w' => ∃ v, e = .returned v ∧ RI w' v z17 ∧ Ext w w' := by
  have hS := St.start w
  obtain ⟨sx0, Ax0, nx0, cx0, rfl, hY0⟩ := hX0.opn
  replace hS := hS.addI hY0
  clear hX0 hY0
  obtain ⟨sx1, Ax1, nx1, cx1, rfl, hY1⟩ := hX1.opn
  replace hS := hS.addI hY1
  clear hX1 hY1
  have o2 : Own w w.heap.size := Own.of hS.ext (by simp)
  have o3 : Own w (w.heap.size + 1) := Own.of hS.ext (by simp)
  have o4 : Own w (w.heap.size + 2) := Own.of hS.ext (by simp)
  have hT1 := (St.al (St.al (St.al hS 30 #[.bool sx0, .slice Ax0 nx0 cx0] (g := w.heap.size) (by simp)) 30 #[.bool sx1, .slice Ax1 nx1 cx1] (g := (w.heap.size + 1)) (by simp)) 30 #[.bool false, .slice none 0 0] (g := (w.heap.size + 2)) (by simp))
  have k_1 := (hT1.blk 1 rfl).cell
  go_enter Tryz.func72, Tryz.ntmps72
  go_wp2_with fail
  clear k_1
  clear hT1
  replace hS := (St.al (St.al (St.al hS 30 #[.bool sx0, .slice Ax0 nx0 cx0] (g := w.heap.size) (by simp)) 30 #[.bool sx1, .slice Ax1 nx1 cx1] (g := (w.heap.size + 1)) (by simp)) 30 #[.bool false, .slice none 0 0] (g := (w.heap.size + 2)) (by simp))
  generalize (((w.alloc (.cells #[.bool sx0, .slice Ax0 nx0 cx0] 30)).alloc (.cells #[.bool sx1, .slice Ax1 nx1 cx1] 30)).alloc (.cells #[.bool false, .slice none 0 0] 30)) = w1 at hS ⊢
  generalize w.heap.size + 2 = g4 at hS o4 ⊢
  generalize w.heap.size + 1 = g3 at hS o3 ⊢
  generalize w.heap.size = g2 at hS o2 ⊢
  refine (rSign_at _ x1 (1) _ (hS.num 0 rfl) ax1 (cmpZ_pos H1.out)).mono ?_
  rintro e w2 ⟨rfl, hx_⟩
  replace hS := hS.mv hx_
  clear hx_
  have k_2 := (hS.blk 2 rfl).cell
  have k_3 := (hS.blk 1 rfl).cell
  go_wp2_with fail
  clear k_2 k_3
  refine (qBy_ok _ _ x0 x1 z17 _ (hS.num 1 rfl) (hS.num 0 rfl) ax0 ax1 N17.out E17.out A17).mono ?_
  rintro e w3 ⟨v_, rfl, hv_, hx_⟩
  replace hS := hS.mv hx_
  clear hx_
  obtain ⟨s17, A_17, n17, c17, rfl, f_s17⟩ := RI.opn hv_
  clear hv_
  replace hS := hS.addI f_s17
  clear f_s17
  have k_4 := (hS.blk 0 rfl).cell
  have k_5 := (hS.blk 0 rfl).frozen
  go_wp2
  replace hS := (St.put (W' := ((w3.setCell ⟨g4, 0, none⟩ (.bool s17)).setCell ⟨g4, 1, none⟩ (.slice A_17 n17 c17))) hS 0 0 [.bool s17, .slice A_17 n17 c17] (cs' := #[.bool s17, .slice A_17 n17 c17]) (bs' := _) rfl o4 rfl rfl rfl rfl)
  exact bp_int1 rfl rfl rfl (hS.blk 0 rfl) ⟨_, rfl, (hS.num 0 rfl), hS.ext⟩

set_option maxRecDepth 100000 in
set_option maxHeartbeats 1600000 in
theorem qquotient_n (v0 : Value) (x0 : Int) (v1 : Value) (x1 : Int) (w : World) (hX0 : RI w v0 x0) (ax0 : x0.natAbs < lim) (hX1 : RI w v1 x1) (ax1 : x1.natAbs < lim) (H1 : Hid (x1 < 0))
    (z10 : Int) (E10 : Hid (z10 = (0) - x0)) (A10 : z10.natAbs < lim)
    (z13 : Int) (E13 : Hid (z13 = (0) - x1)) (A13 : z13.natAbs < lim)
    (z14 : Int) (E14 : Hid (z14 = z10 / z13)) (A14 : z14.natAbs < lim)
    (N14 : Hid (z13 ≠ 0))  :
    Calls Tryz.prog 72 #[v0, v1] w fun e w' => ∃ v, e = .returned v ∧ RI w' v z14 ∧ Ext w w' := by
  have hS := St.start w
  obtain ⟨sx0, Ax0, nx0, cx0, rfl, hY0⟩ := hX0.opn
  replace hS := hS.addI hY0
  clear hX0 hY0
  obtain ⟨sx1, Ax1, nx1, cx1, rfl, hY1⟩ := hX1.opn
  replace hS := hS.addI hY1
  clear hX1 hY1
  have o2 : Own w w.heap.size := Own.of hS.ext (by simp)
  have o3 : Own w (w.heap.size + 1) := Own.of hS.ext (by simp)
  have o4 : Own w (w.heap.size + 2) := Own.of hS.ext (by simp)
  have hT1 := (St.al (St.al (St.al hS 30 #[.bool sx0, .slice Ax0 nx0 cx0] (g := w.heap.size) (by simp)) 30 #[.bool sx1, .slice Ax1 nx1 cx1] (g := (w.heap.size + 1)) (by simp)) 30 #[.bool false, .slice none 0 0] (g := (w.heap.size + 2)) (by simp))
  have k_1 := (hT1.blk 1 rfl).cell
  go_enter Tryz.func72, Tryz.ntmps72
  go_wp2_with fail
  clear k_1
  clear hT1
  replace hS := (St.al (St.al (St.al hS 30 #[.bool sx0, .slice Ax0 nx0 cx0] (g := w.heap.size) (by simp)) 30 #[.bool sx1, .slice Ax1 nx1 cx1] (g := (w.heap.size + 1)) (by simp)) 30 #[.bool false, .slice none 0 0] (g := (w.heap.size + 2)) (by simp))
  generalize (((w.alloc (.cells #[.bool sx0, .slice Ax0 nx0 cx0] 30)).alloc (.cells #[.bool sx1, .slice Ax1 nx1 cx1] 30)).alloc (.cells #[.bool false, .slice none 0 0] 30)) = w1 at hS ⊢
  generalize w.heap.size + 2 = g4 at hS o4 ⊢
  generalize w.heap.size + 1 = g3 at hS o3 ⊢
  generalize w.heap.size = g2 at hS o2 ⊢
  refine (rSign_at _ x1 (-1) _ (hS.num 0 rfl) ax1 (cmpZ_neg H1.out)).mono ?_
  rintro e w2 ⟨rfl, hx_⟩
  replace hS := hS.mv hx_
  clear hx_
  go_wp2_with fail
  have Y3 := ExtOf.blk (hS.blk 1 rfl)
  have Y2 := ExtOf.blk (hS.blk 2 rfl)
  have hE_ := hS.ext
  refine wp_region_tame 7 (hasF [(0, .any), (2, .any), (3, .any), (5, .any), (6, .any)]) (Fcs [(0, .ri ((0))), (2, .ri (z10)), (3, .ri ((0))), (5, .ri (z13)), (6, .ri (z14))]) (Fcs_stab _) (by kernel_rfl) (by kernel_rfl) ?_
  simp only [List.take_succ_cons, List.take_zero, List.drop_succ_cons, List.drop_zero]
  refine wpT_eff (by rfl) (by rfl) (by rfl) ?_ ?_
  · intro W_ hK
    have hW := hK.1
    clear hK
    go_simp
    exact ⟨rfl, (qOf_ok (0) _ (by omega) (by omega)).mono fun e w' ⟨v, he, hR, hx⟩ => ⟨v, he, hx, hR⟩⟩
  intro v_ lo8 hi8 hr_
  obtain ⟨W_, hW_⟩ := hr_
  have hv_ : Fc.holds (.ri ((0))) lo8 hi8 v_ W_ := hW_.get
  clear hW_
  obtain ⟨s8, A_8, n8, c8, rfl, -⟩ := RI.opn hv_
  clear hv_
  clear W_
  try simp only [Act.put, List.setIfInBounds_toArray, List.set_cons_succ, List.set_cons_zero]
  refine wpT_quiet 1 (by rfl) (by kernel_rfl) ?_
  simp only [List.take_succ_cons, List.take_zero, List.drop_succ_cons, List.drop_zero]
  repeat (go_big_quiet_step (fail))
  refine wpQuiet_nil ?_
  refine wpT_eff (by rfl) (by rfl) (by rfl) ?_ ?_
  · intro W_ hK
    have hW := hK.1
    have F_s8 : RI W_ (iv s8 A_8 n8 c8) (0) := hK.2 0 ((iv s8 A_8 n8 c8), lo8, hi8) (by rfl) (by kernel_rfl)
    clear hK
    go_simp
    exact ⟨rfl, (qMinus_ok _ _ (0) x0 z10 _ F_s8 (RI.ext (hS.num 1 rfl) hW) (lt_lim64 (by omega) (by omega)) ax0 E10.out A10).mono fun e w' ⟨v, he, hR, hx⟩ => ⟨v, he, hx, hR⟩⟩
  intro v_ lo10 hi10 hr_
  obtain ⟨W_, hW_⟩ := hr_
  have hv_ : Fc.holds (.ri (z10)) lo10 hi10 v_ W_ := hW_.get
  clear hW_
  obtain ⟨s10, A_10, n10, c10, rfl, -⟩ := RI.opn hv_
  clear hv_
  clear W_
  try simp only [Act.put, List.setIfInBounds_toArray, List.set_cons_succ, List.set_cons_zero]
  refine wpT_eff (by rfl) (by rfl) (by rfl) ?_ ?_
  · intro W_ hK
    have hW := hK.1
    clear hK
    go_simp
    exact ⟨rfl, (qOf_ok (0) _ (by omega) (by omega)).mono fun e w' ⟨v, he, hR, hx⟩ => ⟨v, he, hx, hR⟩⟩
  intro v_ lo11 hi11 hr_
  obtain ⟨W_, hW_⟩ := hr_
  have hv_ : Fc.holds (.ri ((0))) lo11 hi11 v_ W_ := hW_.get
  clear hW_
  obtain ⟨s11, A_11, n11, c11, rfl, -⟩ := RI.opn hv_
  clear hv_
  clear W_
  try simp only [Act.put, List.setIfInBounds_toArray, List.set_cons_succ, List.set_cons_zero]
  refine wpT_quiet 1 (by rfl) (by kernel_rfl) ?_
  simp only [List.take_succ_cons, List.take_zero, List.drop_succ_cons, List.drop_zero]
  repeat (go_big_quiet_step (fail))
  refine wpQuiet_nil ?_
  refine wpT_eff (by rfl) (by rfl) (by rfl) ?_ ?_
  · intro W_ hK
    have hW := hK.1
    have F_s11 : RI W_ (iv s11 A_11 n11 c11) (0) := hK.2 3 ((iv s11 A_11 n11 c11), lo11, hi11) (by rfl) (by kernel_rfl)
    clear hK
    go_simp
    exact ⟨rfl, (qMinus_ok _ _ (0) x1 z13 _ F_s11 (RI.ext (hS.num 0 rfl) hW) (lt_lim64 (by omega) (by omega)) ax1 E13.out A13).mono fun e w' ⟨v, he, hR, hx⟩ => ⟨v, he, hx, hR⟩⟩
  intro v_ lo13 hi13 hr_
  obtain ⟨W_, hW_⟩ := hr_
  have hv_ : Fc.holds (.ri (z13)) lo13 hi13 v_ W_ := hW_.get
  clear hW_
  obtain ⟨s13, A_13, n13, c13, rfl, -⟩ := RI.opn hv_
  clear hv_
  clear W_
  try simp only [Act.put, List.setIfInBounds_toArray, List.set_cons_succ, List.set_cons_zero]
  refine wpT_eff (by rfl) (by rfl) (by rfl) ?_ ?_
  · intro W_ hK
    have hW := hK.1
    have F_s10 : RI W_ (iv s10 A_10 n10 c10) z10 := hK.2 2 ((iv s10 A_10 n10 c10), lo10, hi10) (by rfl) (by kernel_rfl)
    have F_s13 : RI W_ (iv s13 A_13 n13 c13) z13 := hK.2 5 ((iv s13 A_13 n13 c13), lo13, hi13) (by rfl) (by kernel_rfl)
    clear hK
    go_simp
    exact ⟨rfl, (qBy_ok _ _ z10 z13 z14 _ F_s10 F_s13 A10 A13 N14.out E14.out A14).mono fun e w' ⟨v, he, hR, hx⟩ => ⟨v, he, hx, hR⟩⟩
  intro v_ lo14 hi14 hr_
  obtain ⟨W_, hW_⟩ := hr_
  have hv_ : Fc.holds (.ri (z14)) lo14 hi14 v_ W_ := hW_.get
  clear hW_
  obtain ⟨s14, A_14, n14, c14, rfl, -⟩ := RI.opn hv_
  clear hv_
  clear W_
  try simp only [Act.put, List.setIfInBounds_toArray, List.set_cons_succ, List.set_cons_zero]
  refine wpT_nil ?_
  intro w3 hK
  have hlt_ := hS.lt
  replace hS := hS.mv hK.ext
  replace hS := hS.addI (show RI w3 (iv s8 A_8 n8 c8) (0) from hK.at_ 0 (e := ((iv s8 A_8 n8 c8), lo8, hi8)) (by rfl))
  replace hS := hS.addI (show RI w3 (iv s10 A_10 n10 c10) z10 from hK.at_ 2 (e := ((iv s10 A_10 n10 c10), lo10, hi10)) (by rfl))
  replace hS := hS.addI (show RI w3 (iv s11 A_11 n11 c11) (0) from hK.at_ 3 (e := ((iv s11 A_11 n11 c11), lo11, hi11)) (by rfl))
  replace hS := hS.addI (show RI w3 (iv s13 A_13 n13 c13) z13 from hK.at_ 5 (e := ((iv s13 A_13 n13 c13), lo13, hi13)) (by rfl))
  replace hS := hS.addI (show RI w3 (iv s14 A_14 n14 c14) z14 from hK.at_ 6 (e := ((iv s14 A_14 n14 c14), lo14, hi14)) (by rfl))
  clear hK hlt_ hE_ Y3 Y2
  have k_2 := (hS.blk 0 rfl).cell
  have k_3 := (hS.blk 0 rfl).frozen
  go_wp2
  replace hS := (St.put (W' := ((w3.setCell ⟨g4, 0, none⟩ (.bool s14)).setCell ⟨g4, 1, none⟩ (.slice A_14 n14 c14))) hS 0 0 [.bool s14, .slice A_14 n14 c14] (cs' := #[.bool s14, .slice A_14 n14 c14]) (bs' := _) rfl o4 rfl rfl rfl rfl)
  exact bp_int1 rfl rfl rfl (hS.blk 0 rfl) ⟨_, rfl, (hS.num 0 rfl), hS.ext⟩

theorem qquotient_ok (v u : Value) (x y z : Int) (w : World) (hX : RI w v x) (hY : RI w u y) (ax : x.natAbs < lim) (ay : y.natAbs < lim) (hy : y ≠ 0) (hd : y ∣ x) (hz : z = x / y) :
    Calls Tryz.prog 72 #[v, u] w fun e w' => ∃ v, e = .returned v ∧ RI w' v z ∧ Ext w w' := by
  have hl : z.natAbs < lim := by rw [hz]; exact div_abs ax hd
  by_cases h : y < 0
  · refine qquotient_n v x u y w hX ax hY ay (Lib.hid h) (0 - x) (Lib.hid rfl) (by omega) (0 - y) (Lib.hid rfl) (by omega) z (Lib.hid ?_) hl (Lib.hid (by omega))
    rw [hz]
    obtain ⟨k, rfl⟩ := hd
    have e : 0 - y * k = (0 - y) * k := by grind
    rw [e, Int.mul_ediv_cancel_left _ hy, Int.mul_ediv_cancel_left _ (by omega)]
  · exact qquotient_p v x u y w hX ax hY ay (Lib.hid (by omega)) z (Lib.hid hz) hl (Lib.hid hy)
set_option maxRecDepth 100000 in
set_option maxHeartbeats 4000000 in
theorem qMake_n (v0 : Value) (x0 : Int) (v1 : Value) (x1 : Int) (v2 : Value) (x2 : Int) (w : World) (hX0 : RI w v0 x0) (ax0 : x0.natAbs < lim) (hX1 : RI w v1 x1) (ax1 : x1.natAbs < lim) (hX2 : RI w v2 x2) (ax2 : x2.natAbs < lim) (H1 : Hid (x2 < 0))
    (z10 : Int) (E10 : Hid (z10 = (Nat.gcd x0.natAbs x1.natAbs : Nat))) (A10 : z10.natAbs < lim)
    (z12 : Int) (E12 : Hid (z12 = (Nat.gcd z10.natAbs x2.natAbs : Nat))) (A12 : z12.natAbs < lim)
    (z18 : Int) (E18 : Hid (z18 = (0) - z12)) (A18 : z18.natAbs < lim)
    (z21 : Int) (E21 : Hid (z21 = x0 / z18)) (A21 : z21.natAbs < lim)
    (N21 : Hid (z18 ≠ 0))
    (ND21 : Hid (z18 ∣ x0))
    (z24 : Int) (E24 : Hid (z24 = x1 / z18)) (A24 : z24.natAbs < lim)
    (N24 : Hid (z18 ≠ 0))
    (ND24 : Hid (z18 ∣ x1))
    (z27 : Int) (E27 : Hid (z27 = x2 / z18)) (A27 : z27.natAbs < lim)
    (N27 : Hid (z18 ≠ 0))
    (ND27 : Hid (z18 ∣ x2))  :
    Calls Tryz.prog 44 #[v0, v1, v2] w fun e w' => ∃ v, e = .returned v ∧ RG w' v z21 z24 z27 ∧ Ext w w' := by
  have hS := St.start w
  obtain ⟨sx0, Ax0, nx0, cx0, rfl, hY0⟩ := hX0.opn
  replace hS := hS.addI hY0
  clear hX0 hY0
  obtain ⟨sx1, Ax1, nx1, cx1, rfl, hY1⟩ := hX1.opn
  replace hS := hS.addI hY1
  clear hX1 hY1
  obtain ⟨sx2, Ax2, nx2, cx2, rfl, hY2⟩ := hX2.opn
  replace hS := hS.addI hY2
  clear hX2 hY2
  have o3 : Own w w.heap.size := Own.of hS.ext (by simp)
  have o4 : Own w (w.heap.size + 1) := Own.of hS.ext (by simp)
  have o5 : Own w (w.heap.size + 2) := Own.of hS.ext (by simp)
  have o6 : Own w (w.heap.size + 3) := Own.of hS.ext (by simp)
  go_enter Tryz.func44, Tryz.ntmps44
  go_wp2_with fail
  replace hS := (St.al (St.al (St.al (St.al hS 30 #[.bool sx0, .slice Ax0 nx0 cx0] (g := w.heap.size) (by simp)) 30 #[.bool sx1, .slice Ax1 nx1 cx1] (g := (w.heap.size + 1)) (by simp)) 30 #[.bool sx2, .slice Ax2 nx2 cx2] (g := (w.heap.size + 2)) (by simp)) 32 #[.bool false, .slice none 0 0, .bool false, .slice none 0 0, .bool false, .slice none 0 0] (g := (w.heap.size + 3)) (by simp))
  generalize ((((w.alloc (.cells #[.bool sx0, .slice Ax0 nx0 cx0] 30)).alloc (.cells #[.bool sx1, .slice Ax1 nx1 cx1] 30)).alloc (.cells #[.bool sx2, .slice Ax2 nx2 cx2] 30)).alloc (.cells #[.bool false, .slice none 0 0, .bool false, .slice none 0 0, .bool false, .slice none 0 0] 32)) = w1 at hS ⊢
  generalize w.heap.size + 3 = g6 at hS o6 ⊢
  generalize w.heap.size + 2 = g5 at hS o5 ⊢
  generalize w.heap.size + 1 = g4 at hS o4 ⊢
  generalize w.heap.size = g3 at hS o3 ⊢
  have Y5 := ExtOf.blk (hS.blk 1 rfl)
  have Y4 := ExtOf.blk (hS.blk 2 rfl)
  have Y3 := ExtOf.blk (hS.blk 3 rfl)
  have hE_ := hS.ext
  refine wp_region_tame 6 (hasF [(2, .any), (4, .any), (5, .any)]) (Fcs [(2, .ri (z10)), (4, .ri (z12)), (5, .box 30 #[.bool false, .slice none 0 0])]) (Fcs_stab _) (by kernel_rfl) (by kernel_rfl) ?_
  simp only [List.take_succ_cons, List.take_zero, List.drop_succ_cons, List.drop_zero]
  refine wpT_quiet 2 (by rfl) (by kernel_rfl) ?_
  simp only [List.take_succ_cons, List.take_zero, List.drop_succ_cons, List.drop_zero]
  repeat (go_big_quiet_step (fail))
  refine wpQuiet_nil ?_
  refine wpT_eff (by rfl) (by rfl) (by rfl) ?_ ?_
  · intro W_ hK
    have hW := hK.1
    clear hK
    go_simp
    exact ⟨rfl, (qgcd_ok _ _ x0 x1 z10 _ (RI.ext (hS.num 2 rfl) hW) (RI.ext (hS.num 1 rfl) hW) ax0 ax1 E10.out).mono fun e w' ⟨v, he, hR, hx⟩ => ⟨v, he, hx, hR⟩⟩
  intro v_ lo10 hi10 hr_
  obtain ⟨W_, hW_⟩ := hr_
  have hv_ : Fc.holds (.ri (z10)) lo10 hi10 v_ W_ := hW_.get
  clear hW_
  obtain ⟨s10, A_10, n10, c10, rfl, -⟩ := RI.opn hv_
  clear hv_
  clear W_
  try simp only [Act.put, List.setIfInBounds_toArray, List.set_cons_succ, List.set_cons_zero]
  refine wpT_quiet 1 (by rfl) (by kernel_rfl) ?_
  simp only [List.take_succ_cons, List.take_zero, List.drop_succ_cons, List.drop_zero]
  repeat (go_big_quiet_step (fail))
  refine wpQuiet_nil ?_
  refine wpT_eff (by rfl) (by rfl) (by rfl) ?_ ?_
  · intro W_ hK
    have hW := hK.1
    have F_s10 : RI W_ (iv s10 A_10 n10 c10) z10 := hK.2 2 ((iv s10 A_10 n10 c10), lo10, hi10) (by rfl) (by kernel_rfl)
    clear hK
    go_simp
    exact ⟨rfl, (qgcd_ok _ _ z10 x2 z12 _ F_s10 (RI.ext (hS.num 0 rfl) hW) A10 ax2 E12.out).mono fun e w' ⟨v, he, hR, hx⟩ => ⟨v, he, hx, hR⟩⟩
  intro v_ lo12 hi12 hr_
  obtain ⟨W_, hW_⟩ := hr_
  have hv_ : Fc.holds (.ri (z12)) lo12 hi12 v_ W_ := hW_.get
  clear hW_
  obtain ⟨s12, A_12, n12, c12, rfl, -⟩ := RI.opn hv_
  clear hv_
  clear W_
  try simp only [Act.put, List.setIfInBounds_toArray, List.set_cons_succ, List.set_cons_zero]
  refine wpT_eff (by rfl) (by rfl) (by rfl) ?_ ?_
  · intro W_ hK
    go_simp
    exact ⟨Ext.new _ _, rfl, by simp, Blk.new _ _ _⟩
  intro v_ g7 hi7 hr_
  obtain ⟨W_, hW_⟩ := hr_
  obtain ⟨rfl, hl7, -⟩ : Fc.holds (.box 30 #[.bool false, .slice none 0 0]) g7 hi7 v_ W_ := hW_.get
  clear hW_ W_
  try simp only [Act.put, List.setIfInBounds_toArray, List.set_cons_succ, List.set_cons_zero]
  refine wpT_nil ?_
  intro w2 hK
  have hlt_ := hS.lt
  replace hS := hS.mv hK.ext
  replace hS := hS.addI (show RI w2 (iv s10 A_10 n10 c10) z10 from hK.at_ 2 (e := ((iv s10 A_10 n10 c10), lo10, hi10)) (by rfl))
  replace hS := hS.addI (show RI w2 (iv s12 A_12 n12 c12) z12 from hK.at_ 4 (e := ((iv s12 A_12 n12 c12), lo12, hi12)) (by rfl))
  have lw7 : w1.heap.size ≤ g7 := hK.low 5 _ (by rfl)
  have o7 : Own w g7 := Own.of hE_ lw7
  replace hS := hS.addB (show Blk w2 g7 30 #[.bool false, .slice none 0 0] from (hK.at_ 5 (by rfl)).2.2) (apart_of fun p hp => Nat.ne_of_lt (Nat.lt_of_lt_of_le (hlt_ p hp) lw7))
  clear hK hlt_ hE_ Y5 Y4 Y3
  clear lw7 hl7 hi7
  have k_1 := (hS.blk 0 rfl).cell
  have k_2 := (hS.blk 0 rfl).frozen
  have hT1 := (St.put (W' := ((w2.setCell ⟨g7, 0, none⟩ (.bool s12)).setCell ⟨g7, 1, none⟩ (.slice A_12 n12 c12))) hS 0 0 [.bool s12, .slice A_12 n12 c12] (cs' := #[.bool s12, .slice A_12 n12 c12]) (bs' := _) rfl o7 rfl rfl rfl rfl)
  have k_3 := (hT1.blk 2 rfl).cell
  go_wp2_with fail
  clear k_1 k_2 k_3
  clear hT1
  replace hS := (St.put (W' := ((w2.setCell ⟨g7, 0, none⟩ (.bool s12)).setCell ⟨g7, 1, none⟩ (.slice A_12 n12 c12))) hS 0 0 [.bool s12, .slice A_12 n12 c12] (cs' := #[.bool s12, .slice A_12 n12 c12]) (bs' := _) rfl o7 rfl rfl rfl rfl)
  simp only [List.set_cons_zero] at hS
  generalize ((w2.setCell ⟨g7, 0, none⟩ (.bool s12)).setCell ⟨g7, 1, none⟩ (.slice A_12 n12 c12)) = w3 at hS ⊢
  refine (rSign_at _ x2 (-1) _ (hS.num 2 rfl) ax2 (cmpZ_neg H1.out)).mono ?_
  rintro e w4 ⟨rfl, hx_⟩
  replace hS := hS.mv hx_
  clear hx_
  go_wp2_with fail
  have Y7 := ExtOf.blk (hS.blk 0 rfl)
  have hE_ := hS.ext
  refine wp_region_tame 3 (hasF [(0, .any), (2, .any)]) (Fcs [(0, .ri ((0))), (2, .ri (z18))]) (Fcs_stab _) (by kernel_rfl) (by kernel_rfl) ?_
  simp only [List.take_succ_cons, List.take_zero, List.drop_succ_cons, List.drop_zero]
  refine wpT_eff (by rfl) (by rfl) (by rfl) ?_ ?_
  · intro W_ hK
    have hW := hK.1
    clear hK
    go_simp
    exact ⟨rfl, (qOf_ok (0) _ (by omega) (by omega)).mono fun e w' ⟨v, he, hR, hx⟩ => ⟨v, he, hx, hR⟩⟩
  intro v_ lo16 hi16 hr_
  obtain ⟨W_, hW_⟩ := hr_
  have hv_ : Fc.holds (.ri ((0))) lo16 hi16 v_ W_ := hW_.get
  clear hW_
  obtain ⟨s16, A_16, n16, c16, rfl, -⟩ := RI.opn hv_
  clear hv_
  clear W_
  try simp only [Act.put, List.setIfInBounds_toArray, List.set_cons_succ, List.set_cons_zero]
  refine wpT_quiet 1 (by rfl) (by kernel_rfl) ?_
  simp only [List.take_succ_cons, List.take_zero, List.drop_succ_cons, List.drop_zero]
  repeat (go_big_quiet_step (fail))
  refine wpQuiet_nil ?_
  refine wpT_eff (by rfl) (by rfl) (by rfl) ?_ ?_
  · intro W_ hK
    have hW := hK.1
    have F_s16 : RI W_ (iv s16 A_16 n16 c16) (0) := hK.2 0 ((iv s16 A_16 n16 c16), lo16, hi16) (by rfl) (by kernel_rfl)
    clear hK
    go_simp
    exact ⟨rfl, (qMinus_ok _ _ (0) z12 z18 _ F_s16 (RI.ext (hS.num 0 rfl) hW) (lt_lim64 (by omega) (by omega)) A12 E18.out A18).mono fun e w' ⟨v, he, hR, hx⟩ => ⟨v, he, hx, hR⟩⟩
  intro v_ lo18 hi18 hr_
  obtain ⟨W_, hW_⟩ := hr_
  have hv_ : Fc.holds (.ri (z18)) lo18 hi18 v_ W_ := hW_.get
  clear hW_
  obtain ⟨s18, A_18, n18, c18, rfl, -⟩ := RI.opn hv_
  clear hv_
  clear W_
  try simp only [Act.put, List.setIfInBounds_toArray, List.set_cons_succ, List.set_cons_zero]
  refine wpT_nil ?_
  intro w5 hK
  have hlt_ := hS.lt
  replace hS := hS.mv hK.ext
  replace hS := hS.addI (show RI w5 (iv s16 A_16 n16 c16) (0) from hK.at_ 0 (e := ((iv s16 A_16 n16 c16), lo16, hi16)) (by rfl))
  replace hS := hS.addI (show RI w5 (iv s18 A_18 n18 c18) z18 from hK.at_ 2 (e := ((iv s18 A_18 n18 c18), lo18, hi18)) (by rfl))
  clear hK hlt_ hE_ Y7
  have k_4 := (hS.blk 0 rfl).cell
  have k_5 := (hS.blk 0 rfl).frozen
  go_wp2_with fail
  clear k_4 k_5
  replace hS := (St.put (W' := ((w5.setCell ⟨g7, 0, none⟩ (.bool s18)).setCell ⟨g7, 1, none⟩ (.slice A_18 n18 c18))) hS 0 0 [.bool s18, .slice A_18 n18 c18] (cs' := #[.bool s18, .slice A_18 n18 c18]) (bs' := _) rfl o7 rfl rfl rfl rfl)
  simp only [List.set_cons_zero] at hS
  generalize ((w5.setCell ⟨g7, 0, none⟩ (.bool s18)).setCell ⟨g7, 1, none⟩ (.slice A_18 n18 c18)) = w6 at hS ⊢
  have Y7 := ExtOf.blk (hS.blk 0 rfl)
  have Y5 := ExtOf.blk (hS.blk 2 rfl)
  have Y4 := ExtOf.blk (hS.blk 3 rfl)
  have Y3 := ExtOf.blk (hS.blk 4 rfl)
  have hE_ := hS.ext
  refine wp_region_tame 10 (hasF [(2, .any), (5, .any), (8, .any)]) (Fcs [(2, .ri (z21)), (5, .ri (z24)), (8, .ri (z27))]) (Fcs_stab _) (by kernel_rfl) (by kernel_rfl) ?_
  simp only [List.take_succ_cons, List.take_zero, List.drop_succ_cons, List.drop_zero]
  refine wpT_quiet 2 (by rfl) (by kernel_rfl) ?_
  simp only [List.take_succ_cons, List.take_zero, List.drop_succ_cons, List.drop_zero]
  repeat (go_big_quiet_step (fail))
  refine wpQuiet_nil ?_
  refine wpT_eff (by rfl) (by rfl) (by rfl) ?_ ?_
  · intro W_ hK
    have hW := hK.1
    clear hK
    go_simp
    exact ⟨rfl, (qquotient_ok _ _ x0 z18 z21 _ (RI.ext (hS.num 6 rfl) hW) (RI.ext (hS.num 0 rfl) hW) ax0 A18 N21.out ND21.out E21.out).mono fun e w' ⟨v, he, hR, hx⟩ => ⟨v, he, hx, hR⟩⟩
  intro v_ lo21 hi21 hr_
  obtain ⟨W_, hW_⟩ := hr_
  have hv_ : Fc.holds (.ri (z21)) lo21 hi21 v_ W_ := hW_.get
  clear hW_
  obtain ⟨s21, A_21, n21, c21, rfl, -⟩ := RI.opn hv_
  clear hv_
  clear W_
  try simp only [Act.put, List.setIfInBounds_toArray, List.set_cons_succ, List.set_cons_zero]
  refine wpT_quiet 2 (by rfl) (by kernel_rfl) ?_
  simp only [List.take_succ_cons, List.take_zero, List.drop_succ_cons, List.drop_zero]
  repeat (go_big_quiet_step (fail))
  refine wpQuiet_nil ?_
  refine wpT_eff (by rfl) (by rfl) (by rfl) ?_ ?_
  · intro W_ hK
    have hW := hK.1
    clear hK
    go_simp
    exact ⟨rfl, (qquotient_ok _ _ x1 z18 z24 _ (RI.ext (hS.num 5 rfl) hW) (RI.ext (hS.num 0 rfl) hW) ax1 A18 N24.out ND24.out E24.out).mono fun e w' ⟨v, he, hR, hx⟩ => ⟨v, he, hx, hR⟩⟩
  intro v_ lo24 hi24 hr_
  obtain ⟨W_, hW_⟩ := hr_
  have hv_ : Fc.holds (.ri (z24)) lo24 hi24 v_ W_ := hW_.get
  clear hW_
  obtain ⟨s24, A_24, n24, c24, rfl, -⟩ := RI.opn hv_
  clear hv_
  clear W_
  try simp only [Act.put, List.setIfInBounds_toArray, List.set_cons_succ, List.set_cons_zero]
  refine wpT_quiet 2 (by rfl) (by kernel_rfl) ?_
  simp only [List.take_succ_cons, List.take_zero, List.drop_succ_cons, List.drop_zero]
  repeat (go_big_quiet_step (fail))
  refine wpQuiet_nil ?_
  refine wpT_eff (by rfl) (by rfl) (by rfl) ?_ ?_
  · intro W_ hK
    have hW := hK.1
    clear hK
    go_simp
    exact ⟨rfl, (qquotient_ok _ _ x2 z18 z27 _ (RI.ext (hS.num 4 rfl) hW) (RI.ext (hS.num 0 rfl) hW) ax2 A18 N27.out ND27.out E27.out).mono fun e w' ⟨v, he, hR, hx⟩ => ⟨v, he, hx, hR⟩⟩
  intro v_ lo27 hi27 hr_
  obtain ⟨W_, hW_⟩ := hr_
  have hv_ : Fc.holds (.ri (z27)) lo27 hi27 v_ W_ := hW_.get
  clear hW_
  obtain ⟨s27, A_27, n27, c27, rfl, -⟩ := RI.opn hv_
  clear hv_
  clear W_
  try simp only [Act.put, List.setIfInBounds_toArray, List.set_cons_succ, List.set_cons_zero]
  refine wpT_quiet 1 (by rfl) (by kernel_rfl) ?_
  simp only [List.take_succ_cons, List.take_zero, List.drop_succ_cons, List.drop_zero]
  repeat (go_big_quiet_step (fail))
  refine wpQuiet_nil ?_
  refine wpT_nil ?_
  intro w7 hK
  have hlt_ := hS.lt
  replace hS := hS.mv hK.ext
  replace hS := hS.addI (show RI w7 (iv s21 A_21 n21 c21) z21 from hK.at_ 2 (e := ((iv s21 A_21 n21 c21), lo21, hi21)) (by rfl))
  replace hS := hS.addI (show RI w7 (iv s24 A_24 n24 c24) z24 from hK.at_ 5 (e := ((iv s24 A_24 n24 c24), lo24, hi24)) (by rfl))
  replace hS := hS.addI (show RI w7 (iv s27 A_27 n27 c27) z27 from hK.at_ 8 (e := ((iv s27 A_27 n27 c27), lo27, hi27)) (by rfl))
  clear hK hlt_ hE_ Y7 Y5 Y4 Y3
  have k_6 := (hS.blk 1 rfl).cell
  have k_7 := (hS.blk 1 rfl).frozen
  go_wp2
  replace hS := (St.put (W' := ((((((w7.setCell ⟨g6, 0, none⟩ (.bool s21)).setCell ⟨g6, 1, none⟩ (.slice A_21 n21 c21)).setCell ⟨g6, 2, none⟩ (.bool s24)).setCell ⟨g6, 3, none⟩ (.slice A_24 n24 c24)).setCell ⟨g6, 4, none⟩ (.bool s27)).setCell ⟨g6, 5, none⟩ (.slice A_27 n27 c27))) hS 1 0 [.bool s21, .slice A_21 n21 c21, .bool s24, .slice A_24 n24 c24, .bool s27, .slice A_27 n27 c27] (cs' := #[.bool s21, .slice A_21 n21 c21, .bool s24, .slice A_24 n24 c24, .bool s27, .slice A_27 n27 c27]) (bs' := _) rfl o6 rfl rfl rfl rfl)
  exact bp_gauss1 rfl rfl rfl (hS.blk 1 rfl) ⟨_, rfl, RG.mk (hS.num 2 rfl) (hS.num 1 rfl) (hS.num 0 rfl), hS.ext⟩

set_option maxRecDepth 100000 in
set_option maxHeartbeats 4000000 in
theorem qMake_p (v0 : Value) (x0 : Int) (v1 : Value) (x1 : Int) (v2 : Value) (x2 : Int) (w : World) (hX0 : RI w v0 x0) (ax0 : x0.natAbs < lim) (hX1 : RI w v1 x1) (ax1 : x1.natAbs < lim) (hX2 : RI w v2 x2) (ax2 : x2.natAbs < lim) (H1 : Hid (0 < x2))
    (z10 : Int) (E10 : Hid (z10 = (Nat.gcd x0.natAbs x1.natAbs : Nat))) (A10 : z10.natAbs < lim)
    (z12 : Int) (E12 : Hid (z12 = (Nat.gcd z10.natAbs x2.natAbs : Nat))) (A12 : z12.natAbs < lim)
    (z21 : Int) (E21 : Hid (z21 = x0 / z12)) (A21 : z21.natAbs < lim)
    (N21 : Hid (z12 ≠ 0))
    (ND21 : Hid (z12 ∣ x0))
    (z24 : Int) (E24 : Hid (z24 = x1 / z12)) (A24 : z24.natAbs < lim)
    (N24 : Hid (z12 ≠ 0))
    (ND24 : Hid (z12 ∣ x1))
    (z27 : Int) (E27 : Hid (z27 = x2 / z12)) (A27 : z27.natAbs < lim)
    (N27 : Hid (z12 ≠ 0))
    (ND27 : Hid (z12 ∣ x2))  :
    Calls Tryz.prog 44 #[v0, v1, v2] w fun e w' => ∃ v, e = .returned v ∧ RG w' v z21 z24 z27 ∧ Ext w w' := by
  have hS := St.start w
  obtain ⟨sx0, Ax0, nx0, cx0, rfl, hY0⟩ := hX0.opn
  replace hS := hS.addI hY0
  clear hX0 hY0
  obtain ⟨sx1, Ax1, nx1, cx1, rfl, hY1⟩ := hX1.opn
  replace hS := hS.addI hY1
  clear hX1 hY1
  obtain ⟨sx2, Ax2, nx2, cx2, rfl, hY2⟩ := hX2.opn
  replace hS := hS.addI hY2
  clear hX2 hY2
  have o3 : Own w w.heap.size := Own.of hS.ext (by simp)
  have o4 : Own w (w.heap.size + 1) := Own.of hS.ext (by simp)
  have o5 : Own w (w.heap.size + 2) := Own.of hS.ext (by simp)
  have o6 : Own w (w.heap.size + 3) := Own.of hS.ext (by simp)
  go_enter Tryz.func44, Tryz.ntmps44
  go_wp2_with fail
  replace hS := (St.al (St.al (St.al (St.al hS 30 #[.bool sx0, .slice Ax0 nx0 cx0] (g := w.heap.size) (by simp)) 30 #[.bool sx1, .slice Ax1 nx1 cx1] (g := (w.heap.size + 1)) (by simp)) 30 #[.bool sx2, .slice Ax2 nx2 cx2] (g := (w.heap.size + 2)) (by simp)) 32 #[.bool false, .slice none 0 0, .bool false, .slice none 0 0, .bool false, .slice none 0 0] (g := (w.heap.size + 3)) (by simp))
  generalize ((((w.alloc (.cells #[.bool sx0, .slice Ax0 nx0 cx0] 30)).alloc (.cells #[.bool sx1, .slice Ax1 nx1 cx1] 30)).alloc (.cells #[.bool sx2, .slice Ax2 nx2 cx2] 30)).alloc (.cells #[.bool false, .slice none 0 0, .bool false, .slice none 0 0, .bool false, .slice none 0 0] 32)) = w1 at hS ⊢
  generalize w.heap.size + 3 = g6 at hS o6 ⊢
  generalize w.heap.size + 2 = g5 at hS o5 ⊢
  generalize w.heap.size + 1 = g4 at hS o4 ⊢
  generalize w.heap.size = g3 at hS o3 ⊢
  have Y5 := ExtOf.blk (hS.blk 1 rfl)
  have Y4 := ExtOf.blk (hS.blk 2 rfl)
  have Y3 := ExtOf.blk (hS.blk 3 rfl)
  have hE_ := hS.ext
  refine wp_region_tame 6 (hasF [(2, .any), (4, .any), (5, .any)]) (Fcs [(2, .ri (z10)), (4, .ri (z12)), (5, .box 30 #[.bool false, .slice none 0 0])]) (Fcs_stab _) (by kernel_rfl) (by kernel_rfl) ?_
  simp only [List.take_succ_cons, List.take_zero, List.drop_succ_cons, List.drop_zero]
  refine wpT_quiet 2 (by rfl) (by kernel_rfl) ?_
  simp only [List.take_succ_cons, List.take_zero, List.drop_succ_cons, List.drop_zero]
  repeat (go_big_quiet_step (fail))
  refine wpQuiet_nil ?_
  refine wpT_eff (by rfl) (by rfl) (by rfl) ?_ ?_
  · intro W_ hK
    have hW := hK.1
    clear hK
    go_simp
    exact ⟨rfl, (qgcd_ok _ _ x0 x1 z10 _ (RI.ext (hS.num 2 rfl) hW) (RI.ext (hS.num 1 rfl) hW) ax0 ax1 E10.out).mono fun e w' ⟨v, he, hR, hx⟩ => ⟨v, he, hx, hR⟩⟩
  intro v_ lo10 hi10 hr_
  obtain ⟨W_, hW_⟩ := hr_
  have hv_ : Fc.holds (.ri (z10)) lo10 hi10 v_ W_ := hW_.get
  clear hW_
  obtain ⟨s10, A_10, n10, c10, rfl, -⟩ := RI.opn hv_
  clear hv_
  clear W_
  try simp only [Act.put, List.setIfInBounds_toArray, List.set_cons_succ, List.set_cons_zero]
  refine wpT_quiet 1 (by rfl) (by kernel_rfl) ?_
  simp only [List.take_succ_cons, List.take_zero, List.drop_succ_cons, List.drop_zero]
  repeat (go_big_quiet_step (fail))
  refine wpQuiet_nil ?_
  refine wpT_eff (by rfl) (by rfl) (by rfl) ?_ ?_
  · intro W_ hK
    have hW := hK.1
    have F_s10 : RI W_ (iv s10 A_10 n10 c10) z10 := hK.2 2 ((iv s10 A_10 n10 c10), lo10, hi10) (by rfl) (by kernel_rfl)
    clear hK
    go_simp
    exact ⟨rfl, (qgcd_ok _ _ z10 x2 z12 _ F_s10 (RI.ext (hS.num 0 rfl) hW) A10 ax2 E12.out).mono fun e w' ⟨v, he, hR, hx⟩ => ⟨v, he, hx, hR⟩⟩
  intro v_ lo12 hi12 hr_
  obtain ⟨W_, hW_⟩ := hr_
  have hv_ : Fc.holds (.ri (z12)) lo12 hi12 v_ W_ := hW_.get
  clear hW_
  obtain ⟨s12, A_12, n12, c12, rfl, -⟩ := RI.opn hv_
  clear hv_
  clear W_
  try simp only [Act.put, List.setIfInBounds_toArray, List.set_cons_succ, List.set_cons_zero]
  refine wpT_eff (by rfl) (by rfl) (by rfl) ?_ ?_
  · intro W_ hK
    go_simp
    exact ⟨Ext.new _ _, rfl, by simp, Blk.new _ _ _⟩
  intro v_ g7 hi7 hr_
  obtain ⟨W_, hW_⟩ := hr_
  obtain ⟨rfl, hl7, -⟩ : Fc.holds (.box 30 #[.bool false, .slice none 0 0]) g7 hi7 v_ W_ := hW_.get
  clear hW_ W_
  try simp only [Act.put, List.setIfInBounds_toArray, List.set_cons_succ, List.set_cons_zero]
  refine wpT_nil ?_
  intro w2 hK
  have hlt_ := hS.lt
  replace hS := hS.mv hK.ext
  replace hS := hS.addI (show RI w2 (iv s10 A_10 n10 c10) z10 from hK.at_ 2 (e := ((iv s10 A_10 n10 c10), lo10, hi10)) (by rfl))
  replace hS := hS.addI (show RI w2 (iv s12 A_12 n12 c12) z12 from hK.at_ 4 (e := ((iv s12 A_12 n12 c12), lo12, hi12)) (by rfl))
  have lw7 : w1.heap.size ≤ g7 := hK.low 5 _ (by rfl)
  have o7 : Own w g7 := Own.of hE_ lw7
  replace hS := hS.addB (show Blk w2 g7 30 #[.bool false, .slice none 0 0] from (hK.at_ 5 (by rfl)).2.2) (apart_of fun p hp => Nat.ne_of_lt (Nat.lt_of_lt_of_le (hlt_ p hp) lw7))
  clear hK hlt_ hE_ Y5 Y4 Y3
  clear lw7 hl7 hi7
  have k_1 := (hS.blk 0 rfl).cell
  have k_2 := (hS.blk 0 rfl).frozen
  have hT1 := (St.put (W' := ((w2.setCell ⟨g7, 0, none⟩ (.bool s12)).setCell ⟨g7, 1, none⟩ (.slice A_12 n12 c12))) hS 0 0 [.bool s12, .slice A_12 n12 c12] (cs' := #[.bool s12, .slice A_12 n12 c12]) (bs' := _) rfl o7 rfl rfl rfl rfl)
  have k_3 := (hT1.blk 2 rfl).cell
  go_wp2_with fail
  clear k_1 k_2 k_3
  clear hT1
  replace hS := (St.put (W' := ((w2.setCell ⟨g7, 0, none⟩ (.bool s12)).setCell ⟨g7, 1, none⟩ (.slice A_12 n12 c12))) hS 0 0 [.bool s12, .slice A_12 n12 c12] (cs' := #[.bool s12, .slice A_12 n12 c12]) (bs' := _) rfl o7 rfl rfl rfl rfl)
  simp only [List.set_cons_zero] at hS
  generalize ((w2.setCell ⟨g7, 0, none⟩ (.bool s12)).setCell ⟨g7, 1, none⟩ (.slice A_12 n12 c12)) = w3 at hS ⊢
  refine (rSign_at _ x2 (1) _ (hS.num 2 rfl) ax2 (cmpZ_pos H1.out)).mono ?_
  rintro e w4 ⟨rfl, hx_⟩
  replace hS := hS.mv hx_
  clear hx_
  go_wp2_with fail
  have Y7 := ExtOf.blk (hS.blk 0 rfl)
  have Y5 := ExtOf.blk (hS.blk 2 rfl)
  have Y4 := ExtOf.blk (hS.blk 3 rfl)
  have Y3 := ExtOf.blk (hS.blk 4 rfl)
  have hE_ := hS.ext
  refine wp_region_tame 10 (hasF [(2, .any), (5, .any), (8, .any)]) (Fcs [(2, .ri (z21)), (5, .ri (z24)), (8, .ri (z27))]) (Fcs_stab _) (by kernel_rfl) (by kernel_rfl) ?_
  simp only [List.take_succ_cons, List.take_zero, List.drop_succ_cons, List.drop_zero]
  refine wpT_quiet 2 (by rfl) (by kernel_rfl) ?_
  simp only [List.take_succ_cons, List.take_zero, List.drop_succ_cons, List.drop_zero]
  repeat (go_big_quiet_step (fail))
  refine wpQuiet_nil ?_
  refine wpT_eff (by rfl) (by rfl) (by rfl) ?_ ?_
  · intro W_ hK
    have hW := hK.1
    clear hK
    go_simp
    exact ⟨rfl, (qquotient_ok _ _ x0 z12 z21 _ (RI.ext (hS.num 4 rfl) hW) (RI.ext (hS.num 0 rfl) hW) ax0 A12 N21.out ND21.out E21.out).mono fun e w' ⟨v, he, hR, hx⟩ => ⟨v, he, hx, hR⟩⟩
  intro v_ lo21 hi21 hr_
  obtain ⟨W_, hW_⟩ := hr_
  have hv_ : Fc.holds (.ri (z21)) lo21 hi21 v_ W_ := hW_.get
  clear hW_
  obtain ⟨s21, A_21, n21, c21, rfl, -⟩ := RI.opn hv_
  clear hv_
  clear W_
  try simp only [Act.put, List.setIfInBounds_toArray, List.set_cons_succ, List.set_cons_zero]
  refine wpT_quiet 2 (by rfl) (by kernel_rfl) ?_
  simp only [List.take_succ_cons, List.take_zero, List.drop_succ_cons, List.drop_zero]
  repeat (go_big_quiet_step (fail))
  refine wpQuiet_nil ?_
  refine wpT_eff (by rfl) (by rfl) (by rfl) ?_ ?_
  · intro W_ hK
    have hW := hK.1
    clear hK
    go_simp
    exact ⟨rfl, (qquotient_ok _ _ x1 z12 z24 _ (RI.ext (hS.num 3 rfl) hW) (RI.ext (hS.num 0 rfl) hW) ax1 A12 N24.out ND24.out E24.out).mono fun e w' ⟨v, he, hR, hx⟩ => ⟨v, he, hx, hR⟩⟩
  intro v_ lo24 hi24 hr_
  obtain ⟨W_, hW_⟩ := hr_
  have hv_ : Fc.holds (.ri (z24)) lo24 hi24 v_ W_ := hW_.get
  clear hW_
  obtain ⟨s24, A_24, n24, c24, rfl, -⟩ := RI.opn hv_
  clear hv_
  clear W_
  try simp only [Act.put, List.setIfInBounds_toArray, List.set_cons_succ, List.set_cons_zero]
  refine wpT_quiet 2 (by rfl) (by kernel_rfl) ?_
  simp only [List.take_succ_cons, List.take_zero, List.drop_succ_cons, List.drop_zero]
  repeat (go_big_quiet_step (fail))
  refine wpQuiet_nil ?_
  refine wpT_eff (by rfl) (by rfl) (by rfl) ?_ ?_
  · intro W_ hK
    have hW := hK.1
    clear hK
    go_simp
    exact ⟨rfl, (qquotient_ok _ _ x2 z12 z27 _ (RI.ext (hS.num 2 rfl) hW) (RI.ext (hS.num 0 rfl) hW) ax2 A12 N27.out ND27.out E27.out).mono fun e w' ⟨v, he, hR, hx⟩ => ⟨v, he, hx, hR⟩⟩
  intro v_ lo27 hi27 hr_
  obtain ⟨W_, hW_⟩ := hr_
  have hv_ : Fc.holds (.ri (z27)) lo27 hi27 v_ W_ := hW_.get
  clear hW_
  obtain ⟨s27, A_27, n27, c27, rfl, -⟩ := RI.opn hv_
  clear hv_
  clear W_
  try simp only [Act.put, List.setIfInBounds_toArray, List.set_cons_succ, List.set_cons_zero]
  refine wpT_quiet 1 (by rfl) (by kernel_rfl) ?_
  simp only [List.take_succ_cons, List.take_zero, List.drop_succ_cons, List.drop_zero]
  repeat (go_big_quiet_step (fail))
  refine wpQuiet_nil ?_
  refine wpT_nil ?_
  intro w5 hK
  have hlt_ := hS.lt
  replace hS := hS.mv hK.ext
  replace hS := hS.addI (show RI w5 (iv s21 A_21 n21 c21) z21 from hK.at_ 2 (e := ((iv s21 A_21 n21 c21), lo21, hi21)) (by rfl))
  replace hS := hS.addI (show RI w5 (iv s24 A_24 n24 c24) z24 from hK.at_ 5 (e := ((iv s24 A_24 n24 c24), lo24, hi24)) (by rfl))
  replace hS := hS.addI (show RI w5 (iv s27 A_27 n27 c27) z27 from hK.at_ 8 (e := ((iv s27 A_27 n27 c27), lo27, hi27)) (by rfl))
  clear hK hlt_ hE_ Y7 Y5 Y4 Y3
  have k_4 := (hS.blk 1 rfl).cell
  have k_5 := (hS.blk 1 rfl).frozen
  go_wp2
  replace hS := (St.put (W' := ((((((w5.setCell ⟨g6, 0, none⟩ (.bool s21)).setCell ⟨g6, 1, none⟩ (.slice A_21 n21 c21)).setCell ⟨g6, 2, none⟩ (.bool s24)).setCell ⟨g6, 3, none⟩ (.slice A_24 n24 c24)).setCell ⟨g6, 4, none⟩ (.bool s27)).setCell ⟨g6, 5, none⟩ (.slice A_27 n27 c27))) hS 1 0 [.bool s21, .slice A_21 n21 c21, .bool s24, .slice A_24 n24 c24, .bool s27, .slice A_27 n27 c27] (cs' := #[.bool s21, .slice A_21 n21 c21, .bool s24, .slice A_24 n24 c24, .bool s27, .slice A_27 n27 c27]) (bs' := _) rfl o6 rfl rfl rfl rfl)
  exact bp_gauss1 rfl rfl rfl (hS.blk 1 rfl) ⟨_, rfl, RG.mk (hS.num 2 rfl) (hS.num 1 rfl) (hS.num 0 rfl), hS.ext⟩

theorem qMake_ok (v1 v2 v3 : Value) (x1 x2 x3 a b d : Int) (w : World) (h1 : RI w v1 x1) (h2 : RI w v2 x2) (h3 : RI w v3 x3) (a1 : x1.natAbs < lim) (a2 : x2.natAbs < lim) (a3 : x3.natAbs < lim) (hd : x3 ≠ 0) (E : (a, b, d) = nf x1 x2 x3) :
    Calls Tryz.prog 44 #[v1, v2, v3] w fun e w' => ∃ v, e = .returned v ∧ RG w' v a b d ∧ Ext w w' := by
  obtain ⟨d1, d2, d3⟩ := g3_dvd x1 x2 x3
  have hg0 := g3_pos (a := x1) (b := x2) hd
  have hgl := g3_lt a1 a2 a3
  have hG : ((Nat.gcd (Nat.gcd x1.natAbs x2.natAbs : Int).natAbs x3.natAbs : Nat) : Int) = g3 x1 x2 x3 := by rw [Int.natAbs_natCast, g3_ref]
  have g1 := gcd_lt a1 a2
  unfold nf gZ sgZ at E
  by_cases hn : x3 < 0
  · rw [if_pos hn] at E
    have e1 : (-1 : Int) * (g3 x1 x2 x3 : Int) = 0 - (g3 x1 x2 x3 : Int) := by omega
    rw [e1] at E
    injection E with ea E
    injection E with eb ed
    have n1 : 0 - (g3 x1 x2 x3 : Int) ≠ 0 := by omega
    have q1 : 0 - (g3 x1 x2 x3 : Int) ∣ x1 := by rw [Int.zero_sub]; exact Int.neg_dvd.2 d1
    have q2 : 0 - (g3 x1 x2 x3 : Int) ∣ x2 := by rw [Int.zero_sub]; exact Int.neg_dvd.2 d2
    have q3 : 0 - (g3 x1 x2 x3 : Int) ∣ x3 := by rw [Int.zero_sub]; exact Int.neg_dvd.2 d3
    exact qMake_n v1 x1 v2 x2 v3 x3 w h1 a1 h2 a2 h3 a3 (Lib.hid hn) _ (Lib.hid rfl) (by simpa using g1) _ (Lib.hid hG.symm) (by simpa using hgl) _ (Lib.hid rfl) (by omega) a (Lib.hid ea) (by rw [ea]; exact div_abs a1 q1) (Lib.hid n1) (Lib.hid q1) b (Lib.hid eb) (by rw [eb]; exact div_abs a2 q2) (Lib.hid n1) (Lib.hid q2) d (Lib.hid ed) (by rw [ed]; exact div_abs a3 q3) (Lib.hid n1) (Lib.hid q3)
  · rw [if_neg hn, Int.one_mul] at E
    injection E with ea E
    injection E with eb ed
    have n1 : (g3 x1 x2 x3 : Int) ≠ 0 := by omega
    exact qMake_p v1 x1 v2 x2 v3 x3 w h1 a1 h2 a2 h3 a3 (Lib.hid (by omega)) _ (Lib.hid rfl) (by simpa using g1) _ (Lib.hid hG.symm) (by simpa using hgl) a (Lib.hid ea) (by rw [ea]; exact div_abs a1 d1) (Lib.hid n1) (Lib.hid d1) b (Lib.hid eb) (by rw [eb]; exact div_abs a2 d2) (Lib.hid n1) (Lib.hid d2) d (Lib.hid ed) (by rw [ed]; exact div_abs a3 d3) (Lib.hid n1) (Lib.hid d3)
end Go.Proofs.YtclkkoiaaddllaaGreat

/- The specification of numbers: sums and products. -/
namespace Go.Proofs.YtclkkoiaaddllaaGreat
open Go.RowKit
set_option linter.unusedVariables false

set_option maxRecDepth 100000 in
set_option maxHeartbeats 800000 in
theorem qInt_w (m0 : Int) (m1 : Int) (w : World) (l0 : -9223372036854775808 ≤ m0) (u0 : m0 ≤ 9223372036854775807) (l1 : -9223372036854775808 ≤ m1) (u1 : m1 ≤ 9223372036854775807)
    (N10 : Hid ((1 : Int) ≠ 0))
    (z10a z10b z10d : Int) (E10 : Hid ((z10a, z10b, z10d) = nf (m0) (m1) (1 : Int))) (A10a : z10a.natAbs < lim) (A10b : z10b.natAbs < lim) (A10d : z10d.natAbs < lim)  :
    Calls Tryz.prog 19 #[.int .i64 m0, .int .i64 m1] w fun e w' => ∃ v, e = .returned v ∧ RG w' v z10a z10b z10d ∧ Ext w w' := by
  have hS := St.start w
  have o4 : Own w w.heap.size := Own.of hS.ext (by simp)
  go_enter Tryz.func19, Tryz.ntmps19
  go_wp2_with fail
  replace hS := (St.al hS 32 #[.bool false, .slice none 0 0, .bool false, .slice none 0 0, .bool false, .slice none 0 0] (g := w.heap.size) (by simp))
  generalize (w.alloc (.cells #[.bool false, .slice none 0 0, .bool false, .slice none 0 0, .bool false, .slice none 0 0] 32)) = w1 at hS ⊢
  generalize w.heap.size = g4 at hS o4 ⊢
  refine (qOf_ok (m0) _ l0 u0).mono ?_
  rintro e w2 ⟨v_, rfl, hv_, hx_⟩
  replace hS := hS.mv hx_
  clear hx_
  obtain ⟨s6, A_6, n6, c6, rfl, f_s6⟩ := RI.opn hv_
  clear hv_
  replace hS := hS.addI f_s6
  clear f_s6
  go_wp2_with fail
  refine (qOf_ok (m1) _ l1 u1).mono ?_
  rintro e w3 ⟨v_, rfl, hv_, hx_⟩
  replace hS := hS.mv hx_
  clear hx_
  obtain ⟨s8, A_8, n8, c8, rfl, f_s8⟩ := RI.opn hv_
  clear hv_
  replace hS := hS.addI f_s8
  clear f_s8
  go_wp2_with fail
  refine (qOf_ok (1) _ (by omega) (by omega)).mono ?_
  rintro e w4 ⟨v_, rfl, hv_, hx_⟩
  replace hS := hS.mv hx_
  clear hx_
  obtain ⟨s9, A_9, n9, c9, rfl, f_s9⟩ := RI.opn hv_
  clear hv_
  replace hS := hS.addI f_s9
  clear f_s9
  go_wp2_with fail
  refine (qMake_ok _ _ _ (m0) (m1) (1 : Int) z10a z10b z10d _ (hS.num 2 rfl) (hS.num 1 rfl) (hS.num 0 rfl) (lt_lim64 l0 u0) (lt_lim64 l1 u1) (lt_lim64 (by omega) (by omega)) N10.out E10.out).mono ?_
  rintro e w5 ⟨v_, rfl, hv_, hx_⟩
  replace hS := hS.mv hx_
  clear hx_
  obtain ⟨s10a, A_10a, n10a, c10a, s10b, A_10b, n10b, c10b, s10d, A_10d, n10d, c10d, rfl, f_s10a, f_s10b, f_s10d⟩ := hv_
  replace hS := hS.addI f_s10a
  clear f_s10a
  replace hS := hS.addI f_s10b
  clear f_s10b
  replace hS := hS.addI f_s10d
  clear f_s10d
  have k_1 := (hS.blk 0 rfl).cell
  have k_2 := (hS.blk 0 rfl).frozen
  go_wp2
  replace hS := (St.put (W' := ((((((w5.setCell ⟨g4, 0, none⟩ (.bool s10a)).setCell ⟨g4, 1, none⟩ (.slice A_10a n10a c10a)).setCell ⟨g4, 2, none⟩ (.bool s10b)).setCell ⟨g4, 3, none⟩ (.slice A_10b n10b c10b)).setCell ⟨g4, 4, none⟩ (.bool s10d)).setCell ⟨g4, 5, none⟩ (.slice A_10d n10d c10d))) hS 0 0 [.bool s10a, .slice A_10a n10a c10a, .bool s10b, .slice A_10b n10b c10b, .bool s10d, .slice A_10d n10d c10d] (cs' := #[.bool s10a, .slice A_10a n10a c10a, .bool s10b, .slice A_10b n10b c10b, .bool s10d, .slice A_10d n10d c10d]) (bs' := _) rfl o4 rfl rfl rfl rfl)
  exact bp_gauss1 rfl rfl rfl (hS.blk 0 rfl) ⟨_, rfl, RG.mk (hS.num 2 rfl) (hS.num 1 rfl) (hS.num 0 rfl), hS.ext⟩

theorem low_i (a b : Int) : Low a b 1 := ⟨by omega, by unfold g3; simp⟩
theorem qInt_ok (m n : Int) (w : World) (l0 : -9223372036854775808 ≤ m) (u0 : m ≤ 9223372036854775807) (l1 : -9223372036854775808 ≤ n) (u1 : n ≤ 9223372036854775807) :
    Calls Tryz.prog 19 #[.int .i64 m, .int .i64 n] w fun e w' => ∃ v, e = .returned v ∧ RG w' v m n 1 ∧ Ext w w' :=
  qInt_w m n w l0 u0 l1 u1 (Lib.hid (by omega)) m n 1 (Lib.hid (nf_low (low_i m n)).symm) (lt_lim64 l0 u0) (lt_lim64 l1 u1) lim1
/-- A sum in reach. -/
structure AddOk (m n : Nat) (a b d a' b' d' u v t : Int) : Prop where
  sx : Sz m a b d
  sy : Sz n a' b' d'
  hn : m + n + 1 ≤ 12800
  hd : d ≠ 0
  hd' : d' ≠ 0
  E : (u, v, t) = nf (a * d' + a' * d) (b * d' + b' * d) (d * d')
/-- A product in reach. -/
structure MulOk (m n : Nat) (a b d a' b' d' u v t : Int) : Prop where
  sx : Sz m a b d
  sy : Sz n a' b' d'
  hn : m + n + 1 ≤ 12800
  hd : d ≠ 0
  hd' : d' ≠ 0
  E : (u, v, t) = nf (a * a' - b * b') (a * b' + b * a') (d * d')
theorem AddOk.size {m n : Nat} {a b d a' b' d' u v t : Int} (h : AddOk m n a b d a' b' d' u v t) : Sz (m + n + 1) u v t := by
  refine nf_size' (Int.mul_ne_zero h.hd h.hd') h.E (lt_add (lt_mul h.sx.a h.sy.d) ?_) (lt_add (lt_mul h.sx.b h.sy.d) ?_) (lt_up (lt_mul h.sx.d h.sy.d) (by omega))
  · rw [Nat.add_comm]; exact lt_mul h.sy.a h.sx.d
  · rw [Nat.add_comm]; exact lt_mul h.sy.b h.sx.d
theorem MulOk.size {m n : Nat} {a b d a' b' d' u v t : Int} (h : MulOk m n a b d a' b' d' u v t) : Sz (m + n + 1) u v t :=
  nf_size' (Int.mul_ne_zero h.hd h.hd') h.E (lt_sub (lt_mul h.sx.a h.sy.a) (lt_mul h.sx.b h.sy.b)) (lt_add (lt_mul h.sx.a h.sy.b) (lt_mul h.sx.b h.sy.a)) (lt_up (lt_mul h.sx.d h.sy.d) (by omega))
theorem AddOk.of {x y : GQ} {m n : Nat} {a b d a' b' d' u v t : Int} (hx : Is x a b d) (sx : Sz m a b d) (hy : Is y a' b' d') (sy : Sz n a' b' d') (h : Is (x + y) u v t) (hn : m + n + 1 ≤ 12800) : AddOk m n a b d a' b' d' u v t := by
  have h1 := cast_ne hx.dne
  have h2 := cast_ne hy.dne
  refine ⟨sx, sy, hn, hx.dne, hy.dne, (h.nf_eq (Int.mul_ne_zero hx.dne hy.dne) ?_ ?_).symm⟩
  · rw [GQ.add_re, hx.re, hy.re]; simp only [Rat.intCast_mul, Rat.intCast_add]; grind
  · rw [GQ.add_im, hx.im, hy.im]; simp only [Rat.intCast_mul, Rat.intCast_add]; grind
theorem MulOk.of {x y : GQ} {m n : Nat} {a b d a' b' d' u v t : Int} (hx : Is x a b d) (sx : Sz m a b d) (hy : Is y a' b' d') (sy : Sz n a' b' d') (h : Is (x * y) u v t) (hn : m + n + 1 ≤ 12800) : MulOk m n a b d a' b' d' u v t := by
  have h1 := cast_ne hx.dne
  have h2 := cast_ne hy.dne
  refine ⟨sx, sy, hn, hx.dne, hy.dne, (h.nf_eq (Int.mul_ne_zero hx.dne hy.dne) ?_ ?_).symm⟩
  · rw [GQ.mul_re, hx.re, hy.re, hx.im, hy.im]; simp only [Rat.intCast_mul, Rat.intCast_sub]; grind
  · rw [GQ.mul_im, hx.re, hy.re, hx.im, hy.im]; simp only [Rat.intCast_mul, Rat.intCast_add]; grind

set_option maxRecDepth 100000 in
set_option maxHeartbeats 8000000 in
theorem qAdd_w (v0 : Value) (x0a x0b x0d : Int) (v1 : Value) (x1a x1b x1d : Int) (w : World) (hX0 : RG w v0 x0a x0b x0d) (ax0a : x0a.natAbs < lim) (ax0b : x0b.natAbs < lim) (ax0d : x0d.natAbs < lim) (hX1 : RG w v1 x1a x1b x1d) (ax1a : x1a.natAbs < lim) (ax1b : x1b.natAbs < lim) (ax1d : x1d.natAbs < lim)
    (z9 : Int) (E9 : Hid (z9 = x0a * x1d)) (A9 : z9.natAbs < lim)
    (z14 : Int) (E14 : Hid (z14 = x1a * x0d)) (A14 : z14.natAbs < lim)
    (z15 : Int) (E15 : Hid (z15 = z9 + z14)) (A15 : z15.natAbs < lim)
    (z20 : Int) (E20 : Hid (z20 = x0b * x1d)) (A20 : z20.natAbs < lim)
    (z25 : Int) (E25 : Hid (z25 = x1b * x0d)) (A25 : z25.natAbs < lim)
    (z26 : Int) (E26 : Hid (z26 = z20 + z25)) (A26 : z26.natAbs < lim)
    (z31 : Int) (E31 : Hid (z31 = x0d * x1d)) (A31 : z31.natAbs < lim)
    (N32 : Hid (z31 ≠ 0))
    (z32a z32b z32d : Int) (E32 : Hid ((z32a, z32b, z32d) = nf z15 z26 z31)) (A32a : z32a.natAbs < lim) (A32b : z32b.natAbs < lim) (A32d : z32d.natAbs < lim)  :
    Calls Tryz.prog 48 #[v0, v1] w fun e w' => ∃ v, e = .returned v ∧ RG w' v z32a z32b z32d ∧ Ext w w' := by
  have hS := St.start w
  obtain ⟨sx0a, Ax0a, nx0a, cx0a, sx0b, Ax0b, nx0b, cx0b, sx0d, Ax0d, nx0d, cx0d, rfl, hx0a, hx0b, hx0d⟩ := hX0
  replace hS := hS.addI hx0a
  clear hx0a
  replace hS := hS.addI hx0b
  clear hx0b
  replace hS := hS.addI hx0d
  clear hx0d
  obtain ⟨sx1a, Ax1a, nx1a, cx1a, sx1b, Ax1b, nx1b, cx1b, sx1d, Ax1d, nx1d, cx1d, rfl, hx1a, hx1b, hx1d⟩ := hX1
  replace hS := hS.addI hx1a
  clear hx1a
  replace hS := hS.addI hx1b
  clear hx1b
  replace hS := hS.addI hx1d
  clear hx1d
  have o2 : Own w w.heap.size := Own.of hS.ext (by simp)
  have o3 : Own w (w.heap.size + 1) := Own.of hS.ext (by simp)
  have o4 : Own w (w.heap.size + 2) := Own.of hS.ext (by simp)
  go_enter Tryz.func48, Tryz.ntmps48
  go_wp2_with fail
  replace hS := (St.al (St.al (St.al hS 32 #[.bool sx0a, .slice Ax0a nx0a cx0a, .bool sx0b, .slice Ax0b nx0b cx0b, .bool sx0d, .slice Ax0d nx0d cx0d] (g := w.heap.size) (by simp)) 32 #[.bool sx1a, .slice Ax1a nx1a cx1a, .bool sx1b, .slice Ax1b nx1b cx1b, .bool sx1d, .slice Ax1d nx1d cx1d] (g := (w.heap.size + 1)) (by simp)) 32 #[.bool false, .slice none 0 0, .bool false, .slice none 0 0, .bool false, .slice none 0 0] (g := (w.heap.size + 2)) (by simp))
  generalize (((w.alloc (.cells #[.bool sx0a, .slice Ax0a nx0a cx0a, .bool sx0b, .slice Ax0b nx0b cx0b, .bool sx0d, .slice Ax0d nx0d cx0d] 32)).alloc (.cells #[.bool sx1a, .slice Ax1a nx1a cx1a, .bool sx1b, .slice Ax1b nx1b cx1b, .bool sx1d, .slice Ax1d nx1d cx1d] 32)).alloc (.cells #[.bool false, .slice none 0 0, .bool false, .slice none 0 0, .bool false, .slice none 0 0] 32)) = w1 at hS ⊢
  generalize w.heap.size + 2 = g4 at hS o4 ⊢
  generalize w.heap.size + 1 = g3 at hS o3 ⊢
  generalize w.heap.size = g2 at hS o2 ⊢
  have Y3 := ExtOf.blk (hS.blk 1 rfl)
  have Y2 := ExtOf.blk (hS.blk 2 rfl)
  have hE_ := hS.ext
  refine wp_region_tame 28 (hasF [(4, .any), (9, .any), (10, .any), (15, .any), (20, .any), (21, .any), (26, .any), (27, .any)]) (Fcs [(4, .ri (z9)), (9, .ri (z14)), (10, .ri (z15)), (15, .ri (z20)), (20, .ri (z25)), (21, .ri (z26)), (26, .ri (z31)), (27, .rg (z32a) (z32b) (z32d))]) (Fcs_stab _) (by kernel_rfl) (by kernel_rfl) ?_
  simp only [List.take_succ_cons, List.take_zero, List.drop_succ_cons, List.drop_zero]
  refine wpT_quiet 4 (by rfl) (by kernel_rfl) ?_
  simp only [List.take_succ_cons, List.take_zero, List.drop_succ_cons, List.drop_zero]
  repeat (go_big_quiet_step (fail))
  refine wpQuiet_nil ?_
  refine wpT_eff (by rfl) (by rfl) (by rfl) ?_ ?_
  · intro W_ hK
    have hW := hK.1
    clear hK
    go_simp
    exact ⟨rfl, (qTimes_ok _ _ x0a x1d z9 _ (RI.ext (hS.num 5 rfl) hW) (RI.ext (hS.num 0 rfl) hW) ax0a ax1d E9.out A9).mono fun e w' ⟨v, he, hR, hx⟩ => ⟨v, he, hx, hR⟩⟩
  intro v_ lo9 hi9 hr_
  obtain ⟨W_, hW_⟩ := hr_
  have hv_ : Fc.holds (.ri (z9)) lo9 hi9 v_ W_ := hW_.get
  clear hW_
  obtain ⟨s9, A_9, n9, c9, rfl, -⟩ := RI.opn hv_
  clear hv_
  clear W_
  try simp only [Act.put, List.setIfInBounds_toArray, List.set_cons_succ, List.set_cons_zero]
  refine wpT_quiet 4 (by rfl) (by kernel_rfl) ?_
  simp only [List.take_succ_cons, List.take_zero, List.drop_succ_cons, List.drop_zero]
  repeat (go_big_quiet_step (fail))
  refine wpQuiet_nil ?_
  refine wpT_eff (by rfl) (by rfl) (by rfl) ?_ ?_
  · intro W_ hK
    have hW := hK.1
    clear hK
    go_simp
    exact ⟨rfl, (qTimes_ok _ _ x1a x0d z14 _ (RI.ext (hS.num 2 rfl) hW) (RI.ext (hS.num 3 rfl) hW) ax1a ax0d E14.out A14).mono fun e w' ⟨v, he, hR, hx⟩ => ⟨v, he, hx, hR⟩⟩
  intro v_ lo14 hi14 hr_
  obtain ⟨W_, hW_⟩ := hr_
  have hv_ : Fc.holds (.ri (z14)) lo14 hi14 v_ W_ := hW_.get
  clear hW_
  obtain ⟨s14, A_14, n14, c14, rfl, -⟩ := RI.opn hv_
  clear hv_
  clear W_
  try simp only [Act.put, List.setIfInBounds_toArray, List.set_cons_succ, List.set_cons_zero]
  refine wpT_eff (by rfl) (by rfl) (by rfl) ?_ ?_
  · intro W_ hK
    have hW := hK.1
    have F_s9 : RI W_ (iv s9 A_9 n9 c9) z9 := hK.2 4 ((iv s9 A_9 n9 c9), lo9, hi9) (by rfl) (by kernel_rfl)
    have F_s14 : RI W_ (iv s14 A_14 n14 c14) z14 := hK.2 9 ((iv s14 A_14 n14 c14), lo14, hi14) (by rfl) (by kernel_rfl)
    clear hK
    go_simp
    exact ⟨rfl, (qPlus_ok _ _ z9 z14 z15 _ F_s9 F_s14 A9 A14 E15.out A15).mono fun e w' ⟨v, he, hR, hx⟩ => ⟨v, he, hx, hR⟩⟩
  intro v_ lo15 hi15 hr_
  obtain ⟨W_, hW_⟩ := hr_
  have hv_ : Fc.holds (.ri (z15)) lo15 hi15 v_ W_ := hW_.get
  clear hW_
  obtain ⟨s15, A_15, n15, c15, rfl, -⟩ := RI.opn hv_
  clear hv_
  clear W_
  try simp only [Act.put, List.setIfInBounds_toArray, List.set_cons_succ, List.set_cons_zero]
  refine wpT_quiet 4 (by rfl) (by kernel_rfl) ?_
  simp only [List.take_succ_cons, List.take_zero, List.drop_succ_cons, List.drop_zero]
  repeat (go_big_quiet_step (fail))
  refine wpQuiet_nil ?_
  refine wpT_eff (by rfl) (by rfl) (by rfl) ?_ ?_
  · intro W_ hK
    have hW := hK.1
    clear hK
    go_simp
    exact ⟨rfl, (qTimes_ok _ _ x0b x1d z20 _ (RI.ext (hS.num 4 rfl) hW) (RI.ext (hS.num 0 rfl) hW) ax0b ax1d E20.out A20).mono fun e w' ⟨v, he, hR, hx⟩ => ⟨v, he, hx, hR⟩⟩
  intro v_ lo20 hi20 hr_
  obtain ⟨W_, hW_⟩ := hr_
  have hv_ : Fc.holds (.ri (z20)) lo20 hi20 v_ W_ := hW_.get
  clear hW_
  obtain ⟨s20, A_20, n20, c20, rfl, -⟩ := RI.opn hv_
  clear hv_
  clear W_
  try simp only [Act.put, List.setIfInBounds_toArray, List.set_cons_succ, List.set_cons_zero]
  refine wpT_quiet 4 (by rfl) (by kernel_rfl) ?_
  simp only [List.take_succ_cons, List.take_zero, List.drop_succ_cons, List.drop_zero]
  repeat (go_big_quiet_step (fail))
  refine wpQuiet_nil ?_
  refine wpT_eff (by rfl) (by rfl) (by rfl) ?_ ?_
  · intro W_ hK
    have hW := hK.1
    clear hK
    go_simp
    exact ⟨rfl, (qTimes_ok _ _ x1b x0d z25 _ (RI.ext (hS.num 1 rfl) hW) (RI.ext (hS.num 3 rfl) hW) ax1b ax0d E25.out A25).mono fun e w' ⟨v, he, hR, hx⟩ => ⟨v, he, hx, hR⟩⟩
  intro v_ lo25 hi25 hr_
  obtain ⟨W_, hW_⟩ := hr_
  have hv_ : Fc.holds (.ri (z25)) lo25 hi25 v_ W_ := hW_.get
  clear hW_
  obtain ⟨s25, A_25, n25, c25, rfl, -⟩ := RI.opn hv_
  clear hv_
  clear W_
  try simp only [Act.put, List.setIfInBounds_toArray, List.set_cons_succ, List.set_cons_zero]
  refine wpT_eff (by rfl) (by rfl) (by rfl) ?_ ?_
  · intro W_ hK
    have hW := hK.1
    have F_s20 : RI W_ (iv s20 A_20 n20 c20) z20 := hK.2 15 ((iv s20 A_20 n20 c20), lo20, hi20) (by rfl) (by kernel_rfl)
    have F_s25 : RI W_ (iv s25 A_25 n25 c25) z25 := hK.2 20 ((iv s25 A_25 n25 c25), lo25, hi25) (by rfl) (by kernel_rfl)
    clear hK
    go_simp
    exact ⟨rfl, (qPlus_ok _ _ z20 z25 z26 _ F_s20 F_s25 A20 A25 E26.out A26).mono fun e w' ⟨v, he, hR, hx⟩ => ⟨v, he, hx, hR⟩⟩
  intro v_ lo26 hi26 hr_
  obtain ⟨W_, hW_⟩ := hr_
  have hv_ : Fc.holds (.ri (z26)) lo26 hi26 v_ W_ := hW_.get
  clear hW_
  obtain ⟨s26, A_26, n26, c26, rfl, -⟩ := RI.opn hv_
  clear hv_
  clear W_
  try simp only [Act.put, List.setIfInBounds_toArray, List.set_cons_succ, List.set_cons_zero]
  refine wpT_quiet 4 (by rfl) (by kernel_rfl) ?_
  simp only [List.take_succ_cons, List.take_zero, List.drop_succ_cons, List.drop_zero]
  repeat (go_big_quiet_step (fail))
  refine wpQuiet_nil ?_
  refine wpT_eff (by rfl) (by rfl) (by rfl) ?_ ?_
  · intro W_ hK
    have hW := hK.1
    clear hK
    go_simp
    exact ⟨rfl, (qTimes_ok _ _ x0d x1d z31 _ (RI.ext (hS.num 3 rfl) hW) (RI.ext (hS.num 0 rfl) hW) ax0d ax1d E31.out A31).mono fun e w' ⟨v, he, hR, hx⟩ => ⟨v, he, hx, hR⟩⟩
  intro v_ lo31 hi31 hr_
  obtain ⟨W_, hW_⟩ := hr_
  have hv_ : Fc.holds (.ri (z31)) lo31 hi31 v_ W_ := hW_.get
  clear hW_
  obtain ⟨s31, A_31, n31, c31, rfl, -⟩ := RI.opn hv_
  clear hv_
  clear W_
  try simp only [Act.put, List.setIfInBounds_toArray, List.set_cons_succ, List.set_cons_zero]
  refine wpT_eff (by rfl) (by rfl) (by rfl) ?_ ?_
  · intro W_ hK
    have hW := hK.1
    have F_s15 : RI W_ (iv s15 A_15 n15 c15) z15 := hK.2 10 ((iv s15 A_15 n15 c15), lo15, hi15) (by rfl) (by kernel_rfl)
    have F_s26 : RI W_ (iv s26 A_26 n26 c26) z26 := hK.2 21 ((iv s26 A_26 n26 c26), lo26, hi26) (by rfl) (by kernel_rfl)
    have F_s31 : RI W_ (iv s31 A_31 n31 c31) z31 := hK.2 26 ((iv s31 A_31 n31 c31), lo31, hi31) (by rfl) (by kernel_rfl)
    clear hK
    go_simp
    exact ⟨rfl, (qMake_ok _ _ _ z15 z26 z31 z32a z32b z32d _ F_s15 F_s26 F_s31 A15 A26 A31 N32.out E32.out).mono fun e w' ⟨v, he, hR, hx⟩ => ⟨v, he, hx, hR⟩⟩
  intro v_ lo32 hi32 hr_
  obtain ⟨W_, hW_⟩ := hr_
  have hv_ : Fc.holds (.rg (z32a) (z32b) (z32d)) lo32 hi32 v_ W_ := hW_.get
  clear hW_
  obtain ⟨s32a, A_32a, n32a, c32a, s32b, A_32b, n32b, c32b, s32d, A_32d, n32d, c32d, rfl, -, -, -⟩ := hv_
  clear W_
  try simp only [Act.put, List.setIfInBounds_toArray, List.set_cons_succ, List.set_cons_zero]
  refine wpT_nil ?_
  intro w2 hK
  have hlt_ := hS.lt
  replace hS := hS.mv hK.ext
  replace hS := hS.addI (show RI w2 (iv s9 A_9 n9 c9) z9 from hK.at_ 4 (e := ((iv s9 A_9 n9 c9), lo9, hi9)) (by rfl))
  replace hS := hS.addI (show RI w2 (iv s14 A_14 n14 c14) z14 from hK.at_ 9 (e := ((iv s14 A_14 n14 c14), lo14, hi14)) (by rfl))
  replace hS := hS.addI (show RI w2 (iv s15 A_15 n15 c15) z15 from hK.at_ 10 (e := ((iv s15 A_15 n15 c15), lo15, hi15)) (by rfl))
  replace hS := hS.addI (show RI w2 (iv s20 A_20 n20 c20) z20 from hK.at_ 15 (e := ((iv s20 A_20 n20 c20), lo20, hi20)) (by rfl))
  replace hS := hS.addI (show RI w2 (iv s25 A_25 n25 c25) z25 from hK.at_ 20 (e := ((iv s25 A_25 n25 c25), lo25, hi25)) (by rfl))
  replace hS := hS.addI (show RI w2 (iv s26 A_26 n26 c26) z26 from hK.at_ 21 (e := ((iv s26 A_26 n26 c26), lo26, hi26)) (by rfl))
  replace hS := hS.addI (show RI w2 (iv s31 A_31 n31 c31) z31 from hK.at_ 26 (e := ((iv s31 A_31 n31 c31), lo31, hi31)) (by rfl))
  replace hS := hS.addI (show RI w2 (iv s32a A_32a n32a c32a) z32a from RG.at1 (hK.at_ 27 (e := ((gv s32a A_32a n32a c32a s32b A_32b n32b c32b s32d A_32d n32d c32d), lo32, hi32)) (by rfl)))
  replace hS := hS.addI (show RI w2 (iv s32b A_32b n32b c32b) z32b from RG.at2 (hK.at_ 27 (e := ((gv s32a A_32a n32a c32a s32b A_32b n32b c32b s32d A_32d n32d c32d), lo32, hi32)) (by rfl)))
  replace hS := hS.addI (show RI w2 (iv s32d A_32d n32d c32d) z32d from RG.at3 (hK.at_ 27 (e := ((gv s32a A_32a n32a c32a s32b A_32b n32b c32b s32d A_32d n32d c32d), lo32, hi32)) (by rfl)))
  clear hK hlt_ hE_ Y3 Y2
  have k_1 := (hS.blk 0 rfl).cell
  have k_2 := (hS.blk 0 rfl).frozen
  go_wp2
  replace hS := (St.put (W' := ((((((w2.setCell ⟨g4, 0, none⟩ (.bool s32a)).setCell ⟨g4, 1, none⟩ (.slice A_32a n32a c32a)).setCell ⟨g4, 2, none⟩ (.bool s32b)).setCell ⟨g4, 3, none⟩ (.slice A_32b n32b c32b)).setCell ⟨g4, 4, none⟩ (.bool s32d)).setCell ⟨g4, 5, none⟩ (.slice A_32d n32d c32d))) hS 0 0 [.bool s32a, .slice A_32a n32a c32a, .bool s32b, .slice A_32b n32b c32b, .bool s32d, .slice A_32d n32d c32d] (cs' := #[.bool s32a, .slice A_32a n32a c32a, .bool s32b, .slice A_32b n32b c32b, .bool s32d, .slice A_32d n32d c32d]) (bs' := _) rfl o4 rfl rfl rfl rfl)
  exact bp_gauss1 rfl rfl rfl (hS.blk 0 rfl) ⟨_, rfl, RG.mk (hS.num 2 rfl) (hS.num 1 rfl) (hS.num 0 rfl), hS.ext⟩

set_option maxRecDepth 100000 in
set_option maxHeartbeats 8000000 in
theorem qMul_w (v0 : Value) (x0a x0b x0d : Int) (v1 : Value) (x1a x1b x1d : Int) (w : World) (hX0 : RG w v0 x0a x0b x0d) (ax0a : x0a.natAbs < lim) (ax0b : x0b.natAbs < lim) (ax0d : x0d.natAbs < lim) (hX1 : RG w v1 x1a x1b x1d) (ax1a : x1a.natAbs < lim) (ax1b : x1b.natAbs < lim) (ax1d : x1d.natAbs < lim)
    (z9 : Int) (E9 : Hid (z9 = x0a * x1a)) (A9 : z9.natAbs < lim)
    (z14 : Int) (E14 : Hid (z14 = x0b * x1b)) (A14 : z14.natAbs < lim)
    (z15 : Int) (E15 : Hid (z15 = z9 - z14)) (A15 : z15.natAbs < lim)
    (z20 : Int) (E20 : Hid (z20 = x0a * x1b)) (A20 : z20.natAbs < lim)
    (z25 : Int) (E25 : Hid (z25 = x0b * x1a)) (A25 : z25.natAbs < lim)
    (z26 : Int) (E26 : Hid (z26 = z20 + z25)) (A26 : z26.natAbs < lim)
    (z31 : Int) (E31 : Hid (z31 = x0d * x1d)) (A31 : z31.natAbs < lim)
    (N32 : Hid (z31 ≠ 0))
    (z32a z32b z32d : Int) (E32 : Hid ((z32a, z32b, z32d) = nf z15 z26 z31)) (A32a : z32a.natAbs < lim) (A32b : z32b.natAbs < lim) (A32d : z32d.natAbs < lim)  :
    Calls Tryz.prog 17 #[v0, v1] w fun e w' => ∃ v, e = .returned v ∧ RG w' v z32a z32b z32d ∧ Ext w w' := by
  have hS := St.start w
  obtain ⟨sx0a, Ax0a, nx0a, cx0a, sx0b, Ax0b, nx0b, cx0b, sx0d, Ax0d, nx0d, cx0d, rfl, hx0a, hx0b, hx0d⟩ := hX0
  replace hS := hS.addI hx0a
  clear hx0a
  replace hS := hS.addI hx0b
  clear hx0b
  replace hS := hS.addI hx0d
  clear hx0d
  obtain ⟨sx1a, Ax1a, nx1a, cx1a, sx1b, Ax1b, nx1b, cx1b, sx1d, Ax1d, nx1d, cx1d, rfl, hx1a, hx1b, hx1d⟩ := hX1
  replace hS := hS.addI hx1a
  clear hx1a
  replace hS := hS.addI hx1b
  clear hx1b
  replace hS := hS.addI hx1d
  clear hx1d
  have o2 : Own w w.heap.size := Own.of hS.ext (by simp)
  have o3 : Own w (w.heap.size + 1) := Own.of hS.ext (by simp)
  have o4 : Own w (w.heap.size + 2) := Own.of hS.ext (by simp)
  go_enter Tryz.func17, Tryz.ntmps17
  go_wp2_with fail
  replace hS := (St.al (St.al (St.al hS 32 #[.bool sx0a, .slice Ax0a nx0a cx0a, .bool sx0b, .slice Ax0b nx0b cx0b, .bool sx0d, .slice Ax0d nx0d cx0d] (g := w.heap.size) (by simp)) 32 #[.bool sx1a, .slice Ax1a nx1a cx1a, .bool sx1b, .slice Ax1b nx1b cx1b, .bool sx1d, .slice Ax1d nx1d cx1d] (g := (w.heap.size + 1)) (by simp)) 32 #[.bool false, .slice none 0 0, .bool false, .slice none 0 0, .bool false, .slice none 0 0] (g := (w.heap.size + 2)) (by simp))
  generalize (((w.alloc (.cells #[.bool sx0a, .slice Ax0a nx0a cx0a, .bool sx0b, .slice Ax0b nx0b cx0b, .bool sx0d, .slice Ax0d nx0d cx0d] 32)).alloc (.cells #[.bool sx1a, .slice Ax1a nx1a cx1a, .bool sx1b, .slice Ax1b nx1b cx1b, .bool sx1d, .slice Ax1d nx1d cx1d] 32)).alloc (.cells #[.bool false, .slice none 0 0, .bool false, .slice none 0 0, .bool false, .slice none 0 0] 32)) = w1 at hS ⊢
  generalize w.heap.size + 2 = g4 at hS o4 ⊢
  generalize w.heap.size + 1 = g3 at hS o3 ⊢
  generalize w.heap.size = g2 at hS o2 ⊢
  have Y3 := ExtOf.blk (hS.blk 1 rfl)
  have Y2 := ExtOf.blk (hS.blk 2 rfl)
  have hE_ := hS.ext
  refine wp_region_tame 28 (hasF [(4, .any), (9, .any), (10, .any), (15, .any), (20, .any), (21, .any), (26, .any), (27, .any)]) (Fcs [(4, .ri (z9)), (9, .ri (z14)), (10, .ri (z15)), (15, .ri (z20)), (20, .ri (z25)), (21, .ri (z26)), (26, .ri (z31)), (27, .rg (z32a) (z32b) (z32d))]) (Fcs_stab _) (by kernel_rfl) (by kernel_rfl) ?_
  simp only [List.take_succ_cons, List.take_zero, List.drop_succ_cons, List.drop_zero]
  refine wpT_quiet 4 (by rfl) (by kernel_rfl) ?_
  simp only [List.take_succ_cons, List.take_zero, List.drop_succ_cons, List.drop_zero]
  repeat (go_big_quiet_step (fail))
  refine wpQuiet_nil ?_
  refine wpT_eff (by rfl) (by rfl) (by rfl) ?_ ?_
  · intro W_ hK
    have hW := hK.1
    clear hK
    go_simp
    exact ⟨rfl, (qTimes_ok _ _ x0a x1a z9 _ (RI.ext (hS.num 5 rfl) hW) (RI.ext (hS.num 2 rfl) hW) ax0a ax1a E9.out A9).mono fun e w' ⟨v, he, hR, hx⟩ => ⟨v, he, hx, hR⟩⟩
  intro v_ lo9 hi9 hr_
  obtain ⟨W_, hW_⟩ := hr_
  have hv_ : Fc.holds (.ri (z9)) lo9 hi9 v_ W_ := hW_.get
  clear hW_
  obtain ⟨s9, A_9, n9, c9, rfl, -⟩ := RI.opn hv_
  clear hv_
  clear W_
  try simp only [Act.put, List.setIfInBounds_toArray, List.set_cons_succ, List.set_cons_zero]
  refine wpT_quiet 4 (by rfl) (by kernel_rfl) ?_
  simp only [List.take_succ_cons, List.take_zero, List.drop_succ_cons, List.drop_zero]
  repeat (go_big_quiet_step (fail))
  refine wpQuiet_nil ?_
  refine wpT_eff (by rfl) (by rfl) (by rfl) ?_ ?_
  · intro W_ hK
    have hW := hK.1
    clear hK
    go_simp
    exact ⟨rfl, (qTimes_ok _ _ x0b x1b z14 _ (RI.ext (hS.num 4 rfl) hW) (RI.ext (hS.num 1 rfl) hW) ax0b ax1b E14.out A14).mono fun e w' ⟨v, he, hR, hx⟩ => ⟨v, he, hx, hR⟩⟩
  intro v_ lo14 hi14 hr_
  obtain ⟨W_, hW_⟩ := hr_
  have hv_ : Fc.holds (.ri (z14)) lo14 hi14 v_ W_ := hW_.get
  clear hW_
  obtain ⟨s14, A_14, n14, c14, rfl, -⟩ := RI.opn hv_
  clear hv_
  clear W_
  try simp only [Act.put, List.setIfInBounds_toArray, List.set_cons_succ, List.set_cons_zero]
  refine wpT_eff (by rfl) (by rfl) (by rfl) ?_ ?_
  · intro W_ hK
    have hW := hK.1
    have F_s9 : RI W_ (iv s9 A_9 n9 c9) z9 := hK.2 4 ((iv s9 A_9 n9 c9), lo9, hi9) (by rfl) (by kernel_rfl)
    have F_s14 : RI W_ (iv s14 A_14 n14 c14) z14 := hK.2 9 ((iv s14 A_14 n14 c14), lo14, hi14) (by rfl) (by kernel_rfl)
    clear hK
    go_simp
    exact ⟨rfl, (qMinus_ok _ _ z9 z14 z15 _ F_s9 F_s14 A9 A14 E15.out A15).mono fun e w' ⟨v, he, hR, hx⟩ => ⟨v, he, hx, hR⟩⟩
  intro v_ lo15 hi15 hr_
  obtain ⟨W_, hW_⟩ := hr_
  have hv_ : Fc.holds (.ri (z15)) lo15 hi15 v_ W_ := hW_.get
  clear hW_
  obtain ⟨s15, A_15, n15, c15, rfl, -⟩ := RI.opn hv_
  clear hv_
  clear W_
  try simp only [Act.put, List.setIfInBounds_toArray, List.set_cons_succ, List.set_cons_zero]
  refine wpT_quiet 4 (by rfl) (by kernel_rfl) ?_
  simp only [List.take_succ_cons, List.take_zero, List.drop_succ_cons, List.drop_zero]
  repeat (go_big_quiet_step (fail))
  refine wpQuiet_nil ?_
  refine wpT_eff (by rfl) (by rfl) (by rfl) ?_ ?_
  · intro W_ hK
    have hW := hK.1
    clear hK
    go_simp
    exact ⟨rfl, (qTimes_ok _ _ x0a x1b z20 _ (RI.ext (hS.num 5 rfl) hW) (RI.ext (hS.num 1 rfl) hW) ax0a ax1b E20.out A20).mono fun e w' ⟨v, he, hR, hx⟩ => ⟨v, he, hx, hR⟩⟩
  intro v_ lo20 hi20 hr_
  obtain ⟨W_, hW_⟩ := hr_
  have hv_ : Fc.holds (.ri (z20)) lo20 hi20 v_ W_ := hW_.get
  clear hW_
  obtain ⟨s20, A_20, n20, c20, rfl, -⟩ := RI.opn hv_
  clear hv_
  clear W_
  try simp only [Act.put, List.setIfInBounds_toArray, List.set_cons_succ, List.set_cons_zero]
  refine wpT_quiet 4 (by rfl) (by kernel_rfl) ?_
  simp only [List.take_succ_cons, List.take_zero, List.drop_succ_cons, List.drop_zero]
  repeat (go_big_quiet_step (fail))
  refine wpQuiet_nil ?_
  refine wpT_eff (by rfl) (by rfl) (by rfl) ?_ ?_
  · intro W_ hK
    have hW := hK.1
    clear hK
    go_simp
    exact ⟨rfl, (qTimes_ok _ _ x0b x1a z25 _ (RI.ext (hS.num 4 rfl) hW) (RI.ext (hS.num 2 rfl) hW) ax0b ax1a E25.out A25).mono fun e w' ⟨v, he, hR, hx⟩ => ⟨v, he, hx, hR⟩⟩
  intro v_ lo25 hi25 hr_
  obtain ⟨W_, hW_⟩ := hr_
  have hv_ : Fc.holds (.ri (z25)) lo25 hi25 v_ W_ := hW_.get
  clear hW_
  obtain ⟨s25, A_25, n25, c25, rfl, -⟩ := RI.opn hv_
  clear hv_
  clear W_
  try simp only [Act.put, List.setIfInBounds_toArray, List.set_cons_succ, List.set_cons_zero]
  refine wpT_eff (by rfl) (by rfl) (by rfl) ?_ ?_
  · intro W_ hK
    have hW := hK.1
    have F_s20 : RI W_ (iv s20 A_20 n20 c20) z20 := hK.2 15 ((iv s20 A_20 n20 c20), lo20, hi20) (by rfl) (by kernel_rfl)
    have F_s25 : RI W_ (iv s25 A_25 n25 c25) z25 := hK.2 20 ((iv s25 A_25 n25 c25), lo25, hi25) (by rfl) (by kernel_rfl)
    clear hK
    go_simp
    exact ⟨rfl, (qPlus_ok _ _ z20 z25 z26 _ F_s20 F_s25 A20 A25 E26.out A26).mono fun e w' ⟨v, he, hR, hx⟩ => ⟨v, he, hx, hR⟩⟩
  intro v_ lo26 hi26 hr_
  obtain ⟨W_, hW_⟩ := hr_
  have hv_ : Fc.holds (.ri (z26)) lo26 hi26 v_ W_ := hW_.get
  clear hW_
  obtain ⟨s26, A_26, n26, c26, rfl, -⟩ := RI.opn hv_
  clear hv_
  clear W_
  try simp only [Act.put, List.setIfInBounds_toArray, List.set_cons_succ, List.set_cons_zero]
  refine wpT_quiet 4 (by rfl) (by kernel_rfl) ?_
  simp only [List.take_succ_cons, List.take_zero, List.drop_succ_cons, List.drop_zero]
  repeat (go_big_quiet_step (fail))
  refine wpQuiet_nil ?_
  refine wpT_eff (by rfl) (by rfl) (by rfl) ?_ ?_
  · intro W_ hK
    have hW := hK.1
    clear hK
    go_simp
    exact ⟨rfl, (qTimes_ok _ _ x0d x1d z31 _ (RI.ext (hS.num 3 rfl) hW) (RI.ext (hS.num 0 rfl) hW) ax0d ax1d E31.out A31).mono fun e w' ⟨v, he, hR, hx⟩ => ⟨v, he, hx, hR⟩⟩
  intro v_ lo31 hi31 hr_
  obtain ⟨W_, hW_⟩ := hr_
  have hv_ : Fc.holds (.ri (z31)) lo31 hi31 v_ W_ := hW_.get
  clear hW_
  obtain ⟨s31, A_31, n31, c31, rfl, -⟩ := RI.opn hv_
  clear hv_
  clear W_
  try simp only [Act.put, List.setIfInBounds_toArray, List.set_cons_succ, List.set_cons_zero]
  refine wpT_eff (by rfl) (by rfl) (by rfl) ?_ ?_
  · intro W_ hK
    have hW := hK.1
    have F_s15 : RI W_ (iv s15 A_15 n15 c15) z15 := hK.2 10 ((iv s15 A_15 n15 c15), lo15, hi15) (by rfl) (by kernel_rfl)
    have F_s26 : RI W_ (iv s26 A_26 n26 c26) z26 := hK.2 21 ((iv s26 A_26 n26 c26), lo26, hi26) (by rfl) (by kernel_rfl)
    have F_s31 : RI W_ (iv s31 A_31 n31 c31) z31 := hK.2 26 ((iv s31 A_31 n31 c31), lo31, hi31) (by rfl) (by kernel_rfl)
    clear hK
    go_simp
    exact ⟨rfl, (qMake_ok _ _ _ z15 z26 z31 z32a z32b z32d _ F_s15 F_s26 F_s31 A15 A26 A31 N32.out E32.out).mono fun e w' ⟨v, he, hR, hx⟩ => ⟨v, he, hx, hR⟩⟩
  intro v_ lo32 hi32 hr_
  obtain ⟨W_, hW_⟩ := hr_
  have hv_ : Fc.holds (.rg (z32a) (z32b) (z32d)) lo32 hi32 v_ W_ := hW_.get
  clear hW_
  obtain ⟨s32a, A_32a, n32a, c32a, s32b, A_32b, n32b, c32b, s32d, A_32d, n32d, c32d, rfl, -, -, -⟩ := hv_
  clear W_
  try simp only [Act.put, List.setIfInBounds_toArray, List.set_cons_succ, List.set_cons_zero]
  refine wpT_nil ?_
  intro w2 hK
  have hlt_ := hS.lt
  replace hS := hS.mv hK.ext
  replace hS := hS.addI (show RI w2 (iv s9 A_9 n9 c9) z9 from hK.at_ 4 (e := ((iv s9 A_9 n9 c9), lo9, hi9)) (by rfl))
  replace hS := hS.addI (show RI w2 (iv s14 A_14 n14 c14) z14 from hK.at_ 9 (e := ((iv s14 A_14 n14 c14), lo14, hi14)) (by rfl))
  replace hS := hS.addI (show RI w2 (iv s15 A_15 n15 c15) z15 from hK.at_ 10 (e := ((iv s15 A_15 n15 c15), lo15, hi15)) (by rfl))
  replace hS := hS.addI (show RI w2 (iv s20 A_20 n20 c20) z20 from hK.at_ 15 (e := ((iv s20 A_20 n20 c20), lo20, hi20)) (by rfl))
  replace hS := hS.addI (show RI w2 (iv s25 A_25 n25 c25) z25 from hK.at_ 20 (e := ((iv s25 A_25 n25 c25), lo25, hi25)) (by rfl))
  replace hS := hS.addI (show RI w2 (iv s26 A_26 n26 c26) z26 from hK.at_ 21 (e := ((iv s26 A_26 n26 c26), lo26, hi26)) (by rfl))
  replace hS := hS.addI (show RI w2 (iv s31 A_31 n31 c31) z31 from hK.at_ 26 (e := ((iv s31 A_31 n31 c31), lo31, hi31)) (by rfl))
  replace hS := hS.addI (show RI w2 (iv s32a A_32a n32a c32a) z32a from RG.at1 (hK.at_ 27 (e := ((gv s32a A_32a n32a c32a s32b A_32b n32b c32b s32d A_32d n32d c32d), lo32, hi32)) (by rfl)))
  replace hS := hS.addI (show RI w2 (iv s32b A_32b n32b c32b) z32b from RG.at2 (hK.at_ 27 (e := ((gv s32a A_32a n32a c32a s32b A_32b n32b c32b s32d A_32d n32d c32d), lo32, hi32)) (by rfl)))
  replace hS := hS.addI (show RI w2 (iv s32d A_32d n32d c32d) z32d from RG.at3 (hK.at_ 27 (e := ((gv s32a A_32a n32a c32a s32b A_32b n32b c32b s32d A_32d n32d c32d), lo32, hi32)) (by rfl)))
  clear hK hlt_ hE_ Y3 Y2
  have k_1 := (hS.blk 0 rfl).cell
  have k_2 := (hS.blk 0 rfl).frozen
  go_wp2
  replace hS := (St.put (W' := ((((((w2.setCell ⟨g4, 0, none⟩ (.bool s32a)).setCell ⟨g4, 1, none⟩ (.slice A_32a n32a c32a)).setCell ⟨g4, 2, none⟩ (.bool s32b)).setCell ⟨g4, 3, none⟩ (.slice A_32b n32b c32b)).setCell ⟨g4, 4, none⟩ (.bool s32d)).setCell ⟨g4, 5, none⟩ (.slice A_32d n32d c32d))) hS 0 0 [.bool s32a, .slice A_32a n32a c32a, .bool s32b, .slice A_32b n32b c32b, .bool s32d, .slice A_32d n32d c32d] (cs' := #[.bool s32a, .slice A_32a n32a c32a, .bool s32b, .slice A_32b n32b c32b, .bool s32d, .slice A_32d n32d c32d]) (bs' := _) rfl o4 rfl rfl rfl rfl)
  exact bp_gauss1 rfl rfl rfl (hS.blk 0 rfl) ⟨_, rfl, RG.mk (hS.num 2 rfl) (hS.num 1 rfl) (hS.num 0 rfl), hS.ext⟩

theorem qAdd_ok (v1 v2 : Value) (a b d a' b' d' u v t : Int) (m n : Nat) (w : World) (hX : RG w v1 a b d) (hY : RG w v2 a' b' d') (K : AddOk m n a b d a' b' d' u v t) :
    Calls Tryz.prog 48 #[v1, v2] w fun e w' => ∃ x, e = .returned x ∧ RG w' x u v t ∧ Ext w w' := by
  have hn := K.hn
  obtain ⟨x1, x2, x3⟩ := K.sx.lims (by omega)
  obtain ⟨y1, y2, y3⟩ := K.sy.lims (by omega)
  obtain ⟨s1, s2, s3⟩ := K.size.lims hn
  have p1 := lt_mul K.sx.a K.sy.d
  have p2 := lt_up (lt_mul K.sy.a K.sx.d) (n := m + n) (by omega)
  have p3 := lt_mul K.sx.b K.sy.d
  have p4 := lt_up (lt_mul K.sy.b K.sx.d) (n := m + n) (by omega)
  have p5 := lt_mul K.sx.d K.sy.d
  exact qAdd_w v1 a b d v2 a' b' d' w hX x1 x2 x3 hY y1 y2 y3 _ (Lib.hid rfl) (lim_of p1 (by omega)) _ (Lib.hid rfl) (lim_of p2 (by omega)) _ (Lib.hid rfl) (lim_of (lt_add p1 p2) (by omega))
    _ (Lib.hid rfl) (lim_of p3 (by omega)) _ (Lib.hid rfl) (lim_of p4 (by omega)) _ (Lib.hid rfl) (lim_of (lt_add p3 p4) (by omega)) _ (Lib.hid rfl) (lim_of p5 (by omega)) (Lib.hid (Int.mul_ne_zero K.hd K.hd')) u v t (Lib.hid K.E) s1 s2 s3
theorem qMul_ok (v1 v2 : Value) (a b d a' b' d' u v t : Int) (m n : Nat) (w : World) (hX : RG w v1 a b d) (hY : RG w v2 a' b' d') (K : MulOk m n a b d a' b' d' u v t) :
    Calls Tryz.prog 17 #[v1, v2] w fun e w' => ∃ x, e = .returned x ∧ RG w' x u v t ∧ Ext w w' := by
  have hn := K.hn
  obtain ⟨x1, x2, x3⟩ := K.sx.lims (by omega)
  obtain ⟨y1, y2, y3⟩ := K.sy.lims (by omega)
  obtain ⟨s1, s2, s3⟩ := K.size.lims hn
  have p1 := lt_mul K.sx.a K.sy.a
  have p2 := lt_mul K.sx.b K.sy.b
  have p3 := lt_mul K.sx.a K.sy.b
  have p4 := lt_mul K.sx.b K.sy.a
  have p5 := lt_mul K.sx.d K.sy.d
  exact qMul_w v1 a b d v2 a' b' d' w hX x1 x2 x3 hY y1 y2 y3 _ (Lib.hid rfl) (lim_of p1 (by omega)) _ (Lib.hid rfl) (lim_of p2 (by omega)) _ (Lib.hid rfl) (lim_of (lt_sub p1 p2) (by omega))
    _ (Lib.hid rfl) (lim_of p3 (by omega)) _ (Lib.hid rfl) (lim_of p4 (by omega)) _ (Lib.hid rfl) (lim_of (lt_add p3 p4) (by omega)) _ (Lib.hid rfl) (lim_of p5 (by omega)) (Lib.hid (Int.mul_ne_zero K.hd K.hd')) u v t (Lib.hid K.E) s1 s2 s3
end Go.Proofs.YtclkkoiaaddllaaGreat
