/- Words and contracts that the laws share, several texts in one. -/
import Derived.Test.YtclkkoiaaddllaaGreatQNBkdgd
import Derived.Test.YtclkkoiaaddllaaGreatQMGldam
/- The specification of numbers: integers, lowest terms. -/
namespace Go.Proofs.YtclkkoiaaddllaaGreat
open Go.RowKit
set_option linter.unusedVariables false

theorem lim1 : (1 : Int).natAbs < lim := lt_lim64 (by omega) (by omega)
theorem rSub_in (v u : Value) (x y z : Int) (w : World) (hX : RI w v x) (hY : RI w u y) (ax : x.natAbs < lim) (ay : y.natAbs < lim) (hz : z = x - y) (az : z.natAbs < lim) :
    Calls Tryz.prog 73 #[v, u] w fun e w' => ∃ v, e = .returned v ∧ RetI (z, 0) v w' ∧ Ext w w' := by
  have := rSub_ok v u x y w hX hY ax ay
  rwa [← hz, resS_ok az] at this
theorem rGcd_in (v u : Value) (x y z : Int) (w : World) (hX : RI w v x) (hY : RI w u y) (ax : x.natAbs < lim) (ay : y.natAbs < lim) (hz : z = (Nat.gcd x.natAbs y.natAbs : Nat)) :
    Calls Tryz.prog 108 #[v, u] w fun e w' => ∃ v, e = .returned v ∧ RetI (z, 0) v w' ∧ Ext w w' := by
  subst hz
  exact rGcd_ok v u x y w hX hY ax ay
theorem rDivide_in (v u : Value) (x y q r : Int) (w : World) (hX : RI w v x) (hY : RI w u y) (ax : x.natAbs < lim) (ay : y.natAbs < lim) (hy0 : y ≠ 0) (hq : q = x / y) (hr : r = x % y) :
    Calls Tryz.prog 139 #[v, u] w fun e w' => ∃ v, e = .returned v ∧ RetD q r 0 v w' ∧ Ext w w' := by
  subst hq hr
  exact rDivide_ok v u x y w hX hY ax ay hy0
theorem gcd_lt {x y : Int} (ax : x.natAbs < lim) (ay : y.natAbs < lim) : Nat.gcd x.natAbs y.natAbs < lim := by
  rcases Nat.eq_zero_or_pos x.natAbs with h | h
  · rw [h, Nat.gcd_zero_left]; exact ay
  · exact Nat.lt_of_le_of_lt (Nat.gcd_le_left _ h) ax

set_option maxRecDepth 100000 in
set_option maxHeartbeats 800000 in
theorem qOf_ok (m0 : Int) (w : World) (l0 : -9223372036854775808 ≤ m0) (u0 : m0 ≤ 9223372036854775807)
      :
    Calls Tryz.prog 49 #[.int .i64 m0] w fun e w' => ∃ v, e = .returned v ∧ RI w' v m0 ∧ Ext w w' := by
  have hS := St.start w
  have o2 : Own w w.heap.size := Own.of hS.ext (by simp)
  go_enter Tryz.func49, Tryz.ntmps49
  go_wp2_with fail
  replace hS := (St.al hS 30 #[.bool false, .slice none 0 0] (g := w.heap.size) (by simp))
  generalize (w.alloc (.cells #[.bool false, .slice none 0 0] 30)) = w1 at hS ⊢
  generalize w.heap.size = g2 at hS o2 ⊢
  refine (rOf_any (m0) _ l0 u0).mono ?_
  rintro e w2 ⟨v_, rfl, hv_, hx_⟩
  replace hS := hS.mv hx_
  clear hx_
  obtain ⟨s4, A_4, n4, c4, rfl, f_s4⟩ := RI.opn hv_
  clear hv_
  replace hS := hS.addI f_s4
  clear f_s4
  have k_1 := (hS.blk 0 rfl).cell
  have k_2 := (hS.blk 0 rfl).frozen
  go_wp2
  replace hS := (St.put (W' := ((w2.setCell ⟨g2, 0, none⟩ (.bool s4)).setCell ⟨g2, 1, none⟩ (.slice A_4 n4 c4))) hS 0 0 [.bool s4, .slice A_4 n4 c4] (cs' := #[.bool s4, .slice A_4 n4 c4]) (bs' := _) rfl o2 rfl rfl rfl rfl)
  exact bp_int1 rfl rfl rfl (hS.blk 0 rfl) ⟨_, rfl, (hS.num 0 rfl), hS.ext⟩

set_option maxRecDepth 100000 in
set_option maxHeartbeats 800000 in
theorem qMinus_w (v0 : Value) (x0 : Int) (v1 : Value) (x1 : Int) (w : World) (hX0 : RI w v0 x0) (ax0 : x0.natAbs < lim) (hX1 : RI w v1 x1) (ax1 : x1.natAbs < lim)
    (a5 : Int) (E10 : Hid (a5 = x0 - x1)) (A10 : a5.natAbs < lim)  :
    Calls Tryz.prog 45 #[v0, v1] w fun e w' => ∃ v, e = .returned v ∧ RI w' v a5 ∧ Ext w w' := by
  have hS := St.start w
  obtain ⟨a6, a7, a8, a9, rfl, hY0⟩ := hX0.opn
  replace hS := hS.addI hY0
  clear hX0 hY0
  obtain ⟨aa, ab, ac, ad, rfl, hY1⟩ := hX1.opn
  replace hS := hS.addI hY1
  clear hX1 hY1
  have o2 : Own w w.heap.size := Own.of hS.ext (by simp)
  have o3 : Own w (w.heap.size + 1) := Own.of hS.ext (by simp)
  have o4 : Own w (w.heap.size + 2) := Own.of hS.ext (by simp)
  have ae := (St.al (St.al (St.al hS 30 #[.bool a6, .slice a7 a8 a9] (g := w.heap.size) (by simp)) 30 #[.bool aa, .slice ab ac ad] (g := (w.heap.size + 1)) (by simp)) 30 #[.bool false, .slice none 0 0] (g := (w.heap.size + 2)) (by simp))
  have k_1 := (ae.blk 2 rfl).cell
  have k_2 := (ae.blk 1 rfl).cell
  go_enter Tryz.func45, Tryz.ntmps45
  go_wp2_with fail
  clear k_1 k_2
  clear ae
  replace hS := (St.al (St.al (St.al hS 30 #[.bool a6, .slice a7 a8 a9] (g := w.heap.size) (by simp)) 30 #[.bool aa, .slice ab ac ad] (g := (w.heap.size + 1)) (by simp)) 30 #[.bool false, .slice none 0 0] (g := (w.heap.size + 2)) (by simp))
  generalize (((w.alloc (.cells #[.bool a6, .slice a7 a8 a9] 30)).alloc (.cells #[.bool aa, .slice ab ac ad] 30)).alloc (.cells #[.bool false, .slice none 0 0] 30)) = w1 at hS ⊢
  generalize w.heap.size + 2 = g4 at hS o4 ⊢
  generalize w.heap.size + 1 = g3 at hS o3 ⊢
  generalize w.heap.size = g2 at hS o2 ⊢
  refine (rSub_in _ _ x0 x1 a5 _ (hS.num 1 rfl) (hS.num 0 rfl) ax0 ax1 E10.out A10).mono ?_
  rintro e w2 ⟨v_, rfl, hv_, hx_⟩
  replace hS := hS.mv hx_
  clear hx_
  obtain ⟨_, rfl, hv1_⟩ := hv_
  obtain ⟨a2, a0, a3, a4, rfl, a1⟩ := RI.opn hv1_
  clear hv1_
  replace hS := hS.addI a1
  clear a1
  have o5 : Own w w2.heap.size := Own.of hS.ext (by simp)
  have ag := (St.al hS 30 #[.bool false, .slice none 0 0] (g := w2.heap.size) (by simp))
  have k_3 := (ag.blk 0 rfl).cell
  have k_4 := (ag.blk 0 rfl).frozen
  have af := (St.al hS 30 #[.bool a2, .slice a0 a3 a4] (g := w2.heap.size) (by simp))
  have k_5 := (af.blk 0 rfl).cell
  have k_6 := (af.blk 1 rfl).cell
  have k_7 := (af.blk 1 rfl).frozen
  go_wp2
  replace hS := (St.put (W' := (((w2.alloc (.cells #[.bool a2, .slice a0 a3 a4] 30)).setCell ⟨g4, 0, none⟩ (.bool a2)).setCell ⟨g4, 1, none⟩ (.slice a0 a3 a4))) (St.al hS 30 #[.bool a2, .slice a0 a3 a4] (g := w2.heap.size) (by simp)) 1 0 [.bool a2, .slice a0 a3 a4] (cs' := #[.bool a2, .slice a0 a3 a4]) (bs' := _) rfl o4 rfl rfl rfl rfl)
  exact bp_int1 rfl rfl rfl (hS.blk 1 rfl) ⟨_, rfl, (hS.num 0 rfl), hS.ext⟩

theorem qMinus_ok (v u : Value) (x y z : Int) (w : World) (hX : RI w v x) (hY : RI w u y) (ax : x.natAbs < lim) (ay : y.natAbs < lim) (hz : z = x - y) (az : z.natAbs < lim) :
    Calls Tryz.prog 45 #[v, u] w fun e w' => ∃ v, e = .returned v ∧ RI w' v z ∧ Ext w w' := qMinus_w v x u y w hX ax hY ay z (Lib.hid hz) az
set_option maxRecDepth 100000 in
set_option maxHeartbeats 800000 in
theorem qgcd_w (v0 : Value) (x0 : Int) (v1 : Value) (x1 : Int) (w : World) (hX0 : RI w v0 x0) (ax0 : x0.natAbs < lim) (hX1 : RI w v1 x1) (ax1 : x1.natAbs < lim)
    (a5 : Int) (E10 : Hid (a5 = (Nat.gcd x0.natAbs x1.natAbs : Nat))) (A10 : a5.natAbs < lim)  :
    Calls Tryz.prog 70 #[v0, v1] w fun e w' => ∃ v, e = .returned v ∧ RI w' v a5 ∧ Ext w w' := by
  have hS := St.start w
  obtain ⟨a6, a7, a8, a9, rfl, hY0⟩ := hX0.opn
  replace hS := hS.addI hY0
  clear hX0 hY0
  obtain ⟨aa, ab, ac, ad, rfl, hY1⟩ := hX1.opn
  replace hS := hS.addI hY1
  clear hX1 hY1
  have o2 : Own w w.heap.size := Own.of hS.ext (by simp)
  have o3 : Own w (w.heap.size + 1) := Own.of hS.ext (by simp)
  have o4 : Own w (w.heap.size + 2) := Own.of hS.ext (by simp)
  have ae := (St.al (St.al (St.al hS 30 #[.bool a6, .slice a7 a8 a9] (g := w.heap.size) (by simp)) 30 #[.bool aa, .slice ab ac ad] (g := (w.heap.size + 1)) (by simp)) 30 #[.bool false, .slice none 0 0] (g := (w.heap.size + 2)) (by simp))
  have k_1 := (ae.blk 2 rfl).cell
  have k_2 := (ae.blk 1 rfl).cell
  go_enter Tryz.func70, Tryz.ntmps70
  go_wp2_with fail
  clear k_1 k_2
  clear ae
  replace hS := (St.al (St.al (St.al hS 30 #[.bool a6, .slice a7 a8 a9] (g := w.heap.size) (by simp)) 30 #[.bool aa, .slice ab ac ad] (g := (w.heap.size + 1)) (by simp)) 30 #[.bool false, .slice none 0 0] (g := (w.heap.size + 2)) (by simp))
  generalize (((w.alloc (.cells #[.bool a6, .slice a7 a8 a9] 30)).alloc (.cells #[.bool aa, .slice ab ac ad] 30)).alloc (.cells #[.bool false, .slice none 0 0] 30)) = w1 at hS ⊢
  generalize w.heap.size + 2 = g4 at hS o4 ⊢
  generalize w.heap.size + 1 = g3 at hS o3 ⊢
  generalize w.heap.size = g2 at hS o2 ⊢
  refine (rGcd_in _ _ x0 x1 a5 _ (hS.num 1 rfl) (hS.num 0 rfl) ax0 ax1 E10.out).mono ?_
  rintro e w2 ⟨v_, rfl, hv_, hx_⟩
  replace hS := hS.mv hx_
  clear hx_
  obtain ⟨_, rfl, hv1_⟩ := hv_
  obtain ⟨a2, a0, a3, a4, rfl, a1⟩ := RI.opn hv1_
  clear hv1_
  replace hS := hS.addI a1
  clear a1
  have o5 : Own w w2.heap.size := Own.of hS.ext (by simp)
  have ag := (St.al hS 30 #[.bool false, .slice none 0 0] (g := w2.heap.size) (by simp))
  have k_3 := (ag.blk 0 rfl).cell
  have k_4 := (ag.blk 0 rfl).frozen
  have af := (St.al hS 30 #[.bool a2, .slice a0 a3 a4] (g := w2.heap.size) (by simp))
  have k_5 := (af.blk 0 rfl).cell
  have k_6 := (af.blk 1 rfl).cell
  have k_7 := (af.blk 1 rfl).frozen
  go_wp2
  replace hS := (St.put (W' := (((w2.alloc (.cells #[.bool a2, .slice a0 a3 a4] 30)).setCell ⟨g4, 0, none⟩ (.bool a2)).setCell ⟨g4, 1, none⟩ (.slice a0 a3 a4))) (St.al hS 30 #[.bool a2, .slice a0 a3 a4] (g := w2.heap.size) (by simp)) 1 0 [.bool a2, .slice a0 a3 a4] (cs' := #[.bool a2, .slice a0 a3 a4]) (bs' := _) rfl o4 rfl rfl rfl rfl)
  exact bp_int1 rfl rfl rfl (hS.blk 1 rfl) ⟨_, rfl, (hS.num 0 rfl), hS.ext⟩

theorem qgcd_ok (v u : Value) (x y z : Int) (w : World) (hX : RI w v x) (hY : RI w u y) (ax : x.natAbs < lim) (ay : y.natAbs < lim) (hz : z = (Nat.gcd x.natAbs y.natAbs : Nat)) :
    Calls Tryz.prog 70 #[v, u] w fun e w' => ∃ v, e = .returned v ∧ RI w' v z ∧ Ext w w' := qgcd_w v x u y w hX ax hY ay z (Lib.hid hz) (by rw [hz]; exact gcd_lt ax ay)
set_option maxRecDepth 100000 in
set_option maxHeartbeats 800000 in
theorem qBy_w (v0 : Value) (x0 : Int) (v1 : Value) (x1 : Int) (w : World) (hX0 : RI w v0 x0) (ax0 : x0.natAbs < lim) (hX1 : RI w v1 x1) (ax1 : x1.natAbs < lim)
    (a7 : Int) (ac : Hid (a7 = x0 / x1)) (A11q : a7.natAbs < lim)
    (ab : Int) (ad : Hid (ab = x0 % x1))
    (N11 : Hid (x1 ≠ 0))  :
    Calls Tryz.prog 109 #[v0, v1] w fun e w' => ∃ v, e = .returned v ∧ RI w' v a7 ∧ Ext w w' := by
  have hS := St.start w
  obtain ⟨ae, af, ag, ah, rfl, hY0⟩ := hX0.opn
  replace hS := hS.addI hY0
  clear hX0 hY0
  obtain ⟨ai, aj, ak, am, rfl, hY1⟩ := hX1.opn
  replace hS := hS.addI hY1
  clear hX1 hY1
  have o2 : Own w w.heap.size := Own.of hS.ext (by simp)
  have o3 : Own w (w.heap.size + 1) := Own.of hS.ext (by simp)
  have o4 : Own w (w.heap.size + 2) := Own.of hS.ext (by simp)
  have an := (St.al (St.al (St.al hS 30 #[.bool ae, .slice af ag ah] (g := w.heap.size) (by simp)) 30 #[.bool ai, .slice aj ak am] (g := (w.heap.size + 1)) (by simp)) 30 #[.bool false, .slice none 0 0] (g := (w.heap.size + 2)) (by simp))
  have k_1 := (an.blk 2 rfl).cell
  have k_2 := (an.blk 1 rfl).cell
  go_enter Tryz.func109, Tryz.ntmps109
  go_wp2_with fail
  clear k_1 k_2
  clear an
  replace hS := (St.al (St.al (St.al hS 30 #[.bool ae, .slice af ag ah] (g := w.heap.size) (by simp)) 30 #[.bool ai, .slice aj ak am] (g := (w.heap.size + 1)) (by simp)) 30 #[.bool false, .slice none 0 0] (g := (w.heap.size + 2)) (by simp))
  generalize (((w.alloc (.cells #[.bool ae, .slice af ag ah] 30)).alloc (.cells #[.bool ai, .slice aj ak am] 30)).alloc (.cells #[.bool false, .slice none 0 0] 30)) = w1 at hS ⊢
  generalize w.heap.size + 2 = g4 at hS o4 ⊢
  generalize w.heap.size + 1 = g3 at hS o3 ⊢
  generalize w.heap.size = g2 at hS o2 ⊢
  refine (rDivide_in _ _ x0 x1 a7 ab _ (hS.num 1 rfl) (hS.num 0 rfl) ax0 ax1 N11.out ac.out ad.out).mono ?_
  rintro e w2 ⟨v_, rfl, hv_, hx_⟩
  replace hS := hS.mv hx_
  clear hx_
  obtain ⟨_, _, rfl, hv1_, hv2_⟩ := hv_
  obtain ⟨a1, a0, a2, a3, rfl, a4⟩ := RI.opn hv1_
  obtain ⟨a8, a5, a9, aa, rfl, a6⟩ := RI.opn hv2_
  clear hv1_ hv2_
  replace hS := hS.addI a4
  clear a4
  replace hS := hS.addI a6
  clear a6
  have o5 : Own w w2.heap.size := Own.of hS.ext (by simp)
  have o6 : Own w (w2.heap.size + 1) := Own.of hS.ext (by simp)
  have ap := (St.al (St.al hS 30 #[.bool false, .slice none 0 0] (g := w2.heap.size) (by simp)) 30 #[.bool false, .slice none 0 0] (g := (w2.heap.size + 1)) (by simp))
  have k_3 := (ap.blk 1 rfl).cell
  have k_4 := (ap.blk 1 rfl).frozen
  have aq := (St.al (St.al hS 30 #[.bool a1, .slice a0 a2 a3] (g := w2.heap.size) (by simp)) 30 #[.bool false, .slice none 0 0] (g := (w2.heap.size + 1)) (by simp))
  have k_5 := (aq.blk 0 rfl).cell
  have k_6 := (aq.blk 0 rfl).frozen
  have ao := (St.al (St.al hS 30 #[.bool a1, .slice a0 a2 a3] (g := w2.heap.size) (by simp)) 30 #[.bool a8, .slice a5 a9 aa] (g := (w2.heap.size + 1)) (by simp))
  have k_7 := (ao.blk 1 rfl).cell
  have k_8 := (ao.blk 2 rfl).cell
  have k_9 := (ao.blk 2 rfl).frozen
  go_wp2
  replace hS := (St.put (W' := ((((w2.alloc (.cells #[.bool a1, .slice a0 a2 a3] 30)).alloc (.cells #[.bool a8, .slice a5 a9 aa] 30)).setCell ⟨g4, 0, none⟩ (.bool a1)).setCell ⟨g4, 1, none⟩ (.slice a0 a2 a3))) (St.al (St.al hS 30 #[.bool a1, .slice a0 a2 a3] (g := w2.heap.size) (by simp)) 30 #[.bool a8, .slice a5 a9 aa] (g := (w2.heap.size + 1)) (by simp)) 2 0 [.bool a1, .slice a0 a2 a3] (cs' := #[.bool a1, .slice a0 a2 a3]) (bs' := _) rfl o4 rfl rfl rfl rfl)
  exact bp_int1 rfl rfl rfl (hS.blk 2 rfl) ⟨_, rfl, (hS.num 1 rfl), hS.ext⟩

theorem qBy_ok (v u : Value) (x y z : Int) (w : World) (hX : RI w v x) (hY : RI w u y) (ax : x.natAbs < lim) (ay : y.natAbs < lim) (hy : y ≠ 0) (hz : z = x / y) (az : z.natAbs < lim) :
    Calls Tryz.prog 109 #[v, u] w fun e w' => ∃ v, e = .returned v ∧ RI w' v z ∧ Ext w w' := qBy_w v x u y w hX ax hY ay z (Lib.hid hz) az _ (Lib.hid rfl) (Lib.hid hy)
set_option maxRecDepth 100000 in
set_option maxHeartbeats 800000 in
theorem qquotient_p (v0 : Value) (x0 : Int) (v1 : Value) (x1 : Int) (w : World) (hX0 : RI w v0 x0) (ax0 : x0.natAbs < lim) (hX1 : RI w v1 x1) (ae : x1.natAbs < lim) (H1 : Hid (0 < x1))
    (a2 : Int) (E17 : Hid (a2 = x0 / x1)) (A17 : a2.natAbs < lim)
    (N17 : Hid (x1 ≠ 0))  :
    Calls Tryz.prog 72 #[v0, v1] w fun e w' => ∃ v, e = .returned v ∧ RI w' v a2 ∧ Ext w w' := by
  have hS := St.start w
  obtain ⟨a3, a4, a5, a6, rfl, hY0⟩ := hX0.opn
  replace hS := hS.addI hY0
  clear hX0 hY0
  obtain ⟨a7, a8, a9, aa, rfl, hY1⟩ := hX1.opn
  replace hS := hS.addI hY1
  clear hX1 hY1
  have o2 : Own w w.heap.size := Own.of hS.ext (by simp)
  have o3 : Own w (w.heap.size + 1) := Own.of hS.ext (by simp)
  have o4 : Own w (w.heap.size + 2) := Own.of hS.ext (by simp)
  have af := (St.al (St.al (St.al hS 30 #[.bool a3, .slice a4 a5 a6] (g := w.heap.size) (by simp)) 30 #[.bool a7, .slice a8 a9 aa] (g := (w.heap.size + 1)) (by simp)) 30 #[.bool false, .slice none 0 0] (g := (w.heap.size + 2)) (by simp))
  have k_1 := (af.blk 1 rfl).cell
  go_enter Tryz.func72, Tryz.ntmps72
  go_wp2_with fail
  clear k_1
  clear af
  replace hS := (St.al (St.al (St.al hS 30 #[.bool a3, .slice a4 a5 a6] (g := w.heap.size) (by simp)) 30 #[.bool a7, .slice a8 a9 aa] (g := (w.heap.size + 1)) (by simp)) 30 #[.bool false, .slice none 0 0] (g := (w.heap.size + 2)) (by simp))
  generalize (((w.alloc (.cells #[.bool a3, .slice a4 a5 a6] 30)).alloc (.cells #[.bool a7, .slice a8 a9 aa] 30)).alloc (.cells #[.bool false, .slice none 0 0] 30)) = w1 at hS ⊢
  generalize w.heap.size + 2 = g4 at hS o4 ⊢
  generalize w.heap.size + 1 = g3 at hS o3 ⊢
  generalize w.heap.size = g2 at hS o2 ⊢
  refine (rSign_at _ x1 (1) _ (hS.num 0 rfl) ae (cmpZ_pos H1.out)).mono ?_
  rintro e w2 ⟨rfl, hx_⟩
  replace hS := hS.mv hx_
  clear hx_
  have k_2 := (hS.blk 2 rfl).cell
  have k_3 := (hS.blk 1 rfl).cell
  go_wp2_with fail
  clear k_2 k_3
  refine (qBy_ok _ _ x0 x1 a2 _ (hS.num 1 rfl) (hS.num 0 rfl) ax0 ae N17.out E17.out A17).mono ?_
  rintro e w3 ⟨v_, rfl, hv_, hx_⟩
  replace hS := hS.mv hx_
  clear hx_
  obtain ⟨ab, a1, ac, ad, rfl, a0⟩ := RI.opn hv_
  clear hv_
  replace hS := hS.addI a0
  clear a0
  have k_4 := (hS.blk 0 rfl).cell
  have k_5 := (hS.blk 0 rfl).frozen
  go_wp2
  replace hS := (St.put (W' := ((w3.setCell ⟨g4, 0, none⟩ (.bool ab)).setCell ⟨g4, 1, none⟩ (.slice a1 ac ad))) hS 0 0 [.bool ab, .slice a1 ac ad] (cs' := #[.bool ab, .slice a1 ac ad]) (bs' := _) rfl o4 rfl rfl rfl rfl)
  exact bp_int1 rfl rfl rfl (hS.blk 0 rfl) ⟨_, rfl, (hS.num 0 rfl), hS.ext⟩

set_option maxRecDepth 100000 in
set_option maxHeartbeats 1600000 in
theorem qquotient_n (v0 : Value) (x0 : Int) (v1 : Value) (x1 : Int) (w : World) (hX0 : RI w v0 x0) (ax0 : x0.natAbs < lim) (hX1 : RI w v1 x1) (aJ : x1.natAbs < lim) (H1 : Hid (x1 < 0))
    (a2 : Int) (E10 : Hid (a2 = (0) - x0)) (aK : a2.natAbs < lim)
    (a1 : Int) (E13 : Hid (a1 = (0) - x1)) (aL : a1.natAbs < lim)
    (a6 : Int) (E14 : Hid (a6 = a2 / a1)) (A14 : a6.natAbs < lim)
    (N14 : Hid (a1 ≠ 0))  :
    Calls Tryz.prog 72 #[v0, v1] w fun e w' => ∃ v, e = .returned v ∧ RI w' v a6 ∧ Ext w w' := by
  have hS := St.start w
  obtain ⟨ay, az, aA, aB, rfl, hY0⟩ := hX0.opn
  replace hS := hS.addI hY0
  clear hX0 hY0
  obtain ⟨aC, aD, aE, aF, rfl, hY1⟩ := hX1.opn
  replace hS := hS.addI hY1
  clear hX1 hY1
  have o2 : Own w w.heap.size := Own.of hS.ext (by simp)
  have o3 : Own w (w.heap.size + 1) := Own.of hS.ext (by simp)
  have o4 : Own w (w.heap.size + 2) := Own.of hS.ext (by simp)
  have aM := (St.al (St.al (St.al hS 30 #[.bool ay, .slice az aA aB] (g := w.heap.size) (by simp)) 30 #[.bool aC, .slice aD aE aF] (g := (w.heap.size + 1)) (by simp)) 30 #[.bool false, .slice none 0 0] (g := (w.heap.size + 2)) (by simp))
  have k_1 := (aM.blk 1 rfl).cell
  go_enter Tryz.func72, Tryz.ntmps72
  go_wp2_with fail
  clear k_1
  clear aM
  replace hS := (St.al (St.al (St.al hS 30 #[.bool ay, .slice az aA aB] (g := w.heap.size) (by simp)) 30 #[.bool aC, .slice aD aE aF] (g := (w.heap.size + 1)) (by simp)) 30 #[.bool false, .slice none 0 0] (g := (w.heap.size + 2)) (by simp))
  generalize (((w.alloc (.cells #[.bool ay, .slice az aA aB] 30)).alloc (.cells #[.bool aC, .slice aD aE aF] 30)).alloc (.cells #[.bool false, .slice none 0 0] 30)) = w1 at hS ⊢
  generalize w.heap.size + 2 = g4 at hS o4 ⊢
  generalize w.heap.size + 1 = g3 at hS o3 ⊢
  generalize w.heap.size = g2 at hS o2 ⊢
  refine (rSign_at _ x1 (-1) _ (hS.num 0 rfl) aJ (cmpZ_neg H1.out)).mono ?_
  rintro e w2 ⟨rfl, hx_⟩
  replace hS := hS.mv hx_
  clear hx_
  go_wp2_with fail
  have Y3 := ExtOf.blk (hS.blk 1 rfl)
  have Y2 := ExtOf.blk (hS.blk 2 rfl)
  have hE_ := hS.ext
  refine wp_region_tame 7 (hasF [(0, .any), (2, .any), (3, .any), (5, .any), (6, .any)]) (Fcs [(0, .ri ((0))), (2, .ri (a2)), (3, .ri ((0))), (5, .ri (a1)), (6, .ri (a6))]) (Fcs_stab _) (by kernel_rfl) (by kernel_rfl) ?_
  simp only [tk1, tk0, dp1, dp0]
  refine wpT_eff (by rfl) (by rfl) (by rfl) ?_ ?_
  · intro W_ hK
    have hW := hK.1
    clear hK
    go_simp
    exact ⟨rfl, (qOf_ok (0) _ (by omega) (by omega)).mono fun e w' ⟨v, he, hR, hx⟩ => ⟨v, he, hx, hR⟩⟩
  intro v_ aG aH hr_
  obtain ⟨W_, hW_⟩ := hr_
  have hv_ : Fc.holds (.ri ((0))) aG aH v_ W_ := hW_.get
  clear hW_
  obtain ⟨s8, am, n8, c8, rfl, -⟩ := RI.opn hv_
  clear hv_
  clear W_
  try simp only [Act.put, sa0, sa1, sa2]
  refine wpT_quiet 1 (by rfl) (by kernel_rfl) ?_
  simp only [tk1, tk0, dp1, dp0]
  repeat (go_big_quiet_step (fail))
  refine wpQuiet_nil ?_
  refine wpT_eff (by rfl) (by rfl) (by rfl) ?_ ?_
  · intro W_ hK
    have hW := hK.1
    have aI : RI W_ (iv s8 am n8 c8) (0) := hK.2 0 ((iv s8 am n8 c8), aG, aH) (by rfl) (by kernel_rfl)
    clear hK
    go_simp
    exact ⟨rfl, (qMinus_ok _ _ (0) x0 a2 _ aI (RI.ext (hS.num 1 rfl) hW) (lt_lim64 (by omega) (by omega)) ax0 E10.out aK).mono fun e w' ⟨v, he, hR, hx⟩ => ⟨v, he, hx, hR⟩⟩
  intro v_ a7 a8 hr_
  obtain ⟨W_, hW_⟩ := hr_
  have hv_ : Fc.holds (.ri (a2)) a7 a8 v_ W_ := hW_.get
  clear hW_
  obtain ⟨an, a3, ao, ap, rfl, -⟩ := RI.opn hv_
  clear hv_
  clear W_
  try simp only [Act.put, sa0, sa1, sa2]
  refine wpT_eff (by rfl) (by rfl) (by rfl) ?_ ?_
  · intro W_ hK
    have hW := hK.1
    clear hK
    go_simp
    exact ⟨rfl, (qOf_ok (0) _ (by omega) (by omega)).mono fun e w' ⟨v, he, hR, hx⟩ => ⟨v, he, hx, hR⟩⟩
  intro v_ a9 aa hr_
  obtain ⟨W_, hW_⟩ := hr_
  have hv_ : Fc.holds (.ri ((0))) a9 aa v_ W_ := hW_.get
  clear hW_
  obtain ⟨aq, a4, ar, au, rfl, -⟩ := RI.opn hv_
  clear hv_
  clear W_
  try simp only [Act.put, sa0, sa1, sa2]
  refine wpT_quiet 1 (by rfl) (by kernel_rfl) ?_
  simp only [tk1, tk0, dp1, dp0]
  repeat (go_big_quiet_step (fail))
  refine wpQuiet_nil ?_
  refine wpT_eff (by rfl) (by rfl) (by rfl) ?_ ?_
  · intro W_ hK
    have hW := hK.1
    have ad : RI W_ (iv aq a4 ar au) (0) := hK.2 3 ((iv aq a4 ar au), a9, aa) (by rfl) (by kernel_rfl)
    clear hK
    go_simp
    exact ⟨rfl, (qMinus_ok _ _ (0) x1 a1 _ ad (RI.ext (hS.num 0 rfl) hW) (lt_lim64 (by omega) (by omega)) aJ E13.out aL).mono fun e w' ⟨v, he, hR, hx⟩ => ⟨v, he, hx, hR⟩⟩
  intro v_ ab ac hr_
  obtain ⟨W_, hW_⟩ := hr_
  have hv_ : Fc.holds (.ri (a1)) ab ac v_ W_ := hW_.get
  clear hW_
  obtain ⟨av, a5, aw, ax, rfl, -⟩ := RI.opn hv_
  clear hv_
  clear W_
  try simp only [Act.put, sa0, sa1, sa2]
  refine wpT_eff (by rfl) (by rfl) (by rfl) ?_ ?_
  · intro W_ hK
    have hW := hK.1
    have ae : RI W_ (iv an a3 ao ap) a2 := hK.2 2 ((iv an a3 ao ap), a7, a8) (by rfl) (by kernel_rfl)
    have af : RI W_ (iv av a5 aw ax) a1 := hK.2 5 ((iv av a5 aw ax), ab, ac) (by rfl) (by kernel_rfl)
    clear hK
    go_simp
    exact ⟨rfl, (qBy_ok _ _ a2 a1 a6 _ ae af aK aL N14.out E14.out A14).mono fun e w' ⟨v, he, hR, hx⟩ => ⟨v, he, hx, hR⟩⟩
  intro v_ ag ah hr_
  obtain ⟨W_, hW_⟩ := hr_
  have hv_ : Fc.holds (.ri (a6)) ag ah v_ W_ := hW_.get
  clear hW_
  obtain ⟨ai, a0, aj, ak, rfl, -⟩ := RI.opn hv_
  clear hv_
  clear W_
  try simp only [Act.put, sa0, sa1, sa2]
  refine wpT_nil ?_
  intro w3 hK
  have hlt_ := hS.lt
  replace hS := hS.mv hK.ext
  replace hS := hS.addI (show RI w3 (iv s8 am n8 c8) (0) from hK.at_ 0 (e := ((iv s8 am n8 c8), aG, aH)) (by rfl))
  replace hS := hS.addI (show RI w3 (iv an a3 ao ap) a2 from hK.at_ 2 (e := ((iv an a3 ao ap), a7, a8)) (by rfl))
  replace hS := hS.addI (show RI w3 (iv aq a4 ar au) (0) from hK.at_ 3 (e := ((iv aq a4 ar au), a9, aa)) (by rfl))
  replace hS := hS.addI (show RI w3 (iv av a5 aw ax) a1 from hK.at_ 5 (e := ((iv av a5 aw ax), ab, ac)) (by rfl))
  replace hS := hS.addI (show RI w3 (iv ai a0 aj ak) a6 from hK.at_ 6 (e := ((iv ai a0 aj ak), ag, ah)) (by rfl))
  clear hK hlt_ hE_ Y3 Y2
  have k_2 := (hS.blk 0 rfl).cell
  have k_3 := (hS.blk 0 rfl).frozen
  go_wp2
  replace hS := (St.put (W' := ((w3.setCell ⟨g4, 0, none⟩ (.bool ai)).setCell ⟨g4, 1, none⟩ (.slice a0 aj ak))) hS 0 0 [.bool ai, .slice a0 aj ak] (cs' := #[.bool ai, .slice a0 aj ak]) (bs' := _) rfl o4 rfl rfl rfl rfl)
  exact bp_int1 rfl rfl rfl (hS.blk 0 rfl) ⟨_, rfl, (hS.num 0 rfl), hS.ext⟩

theorem qquotient_ok (v u : Value) (x y z : Int) (w : World) (hX : RI w v x) (hY : RI w u y) (ax : x.natAbs < lim) (ay : y.natAbs < lim) (hy : y ≠ 0) (hd : y ∣ x) (hz : z = x / y) :
    Calls Tryz.prog 72 #[v, u] w fun e w' => ∃ v, e = .returned v ∧ RI w' v z ∧ Ext w w' := by
  have hl : z.natAbs < lim := by rw [hz]; exact div_abs ax hd
  by_cases h : y < 0
  · refine qquotient_n v x u y w hX ax hY ay (Lib.hid h) (0 - x) (Lib.hid rfl) (by omega) (0 - y) (Lib.hid rfl) (by omega) z (Lib.hid ?_) hl (Lib.hid (by omega))
    rw [hz]
    obtain ⟨k, rfl⟩ := hd
    have e : 0 - y * k = (0 - y) * k := by grind
    rw [e, Int.mul_ediv_cancel_left _ hy, Int.mul_ediv_cancel_left _ (by omega)]
  · exact qquotient_p v x u y w hX ax hY ay (Lib.hid (by omega)) z (Lib.hid hz) hl (Lib.hid hy)
set_option maxRecDepth 100000 in
set_option maxHeartbeats 4000000 in
theorem qMake_n (v0 : Value) (x0 : Int) (v1 : Value) (x1 : Int) (v2 : Value) (x2 : Int) (w : World) (hX0 : RI w v0 x0) (aX : x0.natAbs < lim) (hX1 : RI w v1 x1) (aY : x1.natAbs < lim) (hX2 : RI w v2 x2) (aS : x2.natAbs < lim) (H1 : Hid (x2 < 0))
    (a6 : Int) (E10 : Hid (a6 = (Nat.gcd x0.natAbs x1.natAbs : Nat))) (A10 : a6.natAbs < lim)
    (ac : Int) (E12 : Hid (ac = (Nat.gcd a6.natAbs x2.natAbs : Nat))) (A12 : ac.natAbs < lim)
    (a1 : Int) (E18 : Hid (a1 = (0) - ac)) (aL : a1.natAbs < lim)
    (ad : Int) (E21 : Hid (ad = x0 / a1)) (A21 : ad.natAbs < lim)
    (N21 : Hid (a1 ≠ 0))
    (aT : Hid (a1 ∣ x0))
    (ae : Int) (E24 : Hid (ae = x1 / a1)) (A24 : ae.natAbs < lim)
    (N24 : Hid (a1 ≠ 0))
    (aU : Hid (a1 ∣ x1))
    (af : Int) (E27 : Hid (af = x2 / a1)) (A27 : af.natAbs < lim)
    (N27 : Hid (a1 ≠ 0))
    (aV : Hid (a1 ∣ x2))  :
    Calls Tryz.prog 44 #[v0, v1, v2] w fun e w' => ∃ v, e = .returned v ∧ RG w' v ad ae af ∧ Ext w w' := by
  have hS := St.start w
  obtain ⟨aZ, b0, b1, b2, rfl, hY0⟩ := hX0.opn
  replace hS := hS.addI hY0
  clear hX0 hY0
  obtain ⟨b3, b4, b5, b6, rfl, hY1⟩ := hX1.opn
  replace hS := hS.addI hY1
  clear hX1 hY1
  obtain ⟨b7, b8, b9, ba, rfl, hY2⟩ := hX2.opn
  replace hS := hS.addI hY2
  clear hX2 hY2
  have o3 : Own w w.heap.size := Own.of hS.ext (by simp)
  have o4 : Own w (w.heap.size + 1) := Own.of hS.ext (by simp)
  have o5 : Own w (w.heap.size + 2) := Own.of hS.ext (by simp)
  have o6 : Own w (w.heap.size + 3) := Own.of hS.ext (by simp)
  go_enter Tryz.func44, Tryz.ntmps44
  go_wp2_with fail
  replace hS := (St.al (St.al (St.al (St.al hS 30 #[.bool aZ, .slice b0 b1 b2] (g := w.heap.size) (by simp)) 30 #[.bool b3, .slice b4 b5 b6] (g := (w.heap.size + 1)) (by simp)) 30 #[.bool b7, .slice b8 b9 ba] (g := (w.heap.size + 2)) (by simp)) 32 #[.bool false, .slice none 0 0, .bool false, .slice none 0 0, .bool false, .slice none 0 0] (g := (w.heap.size + 3)) (by simp))
  generalize ((((w.alloc (.cells #[.bool aZ, .slice b0 b1 b2] 30)).alloc (.cells #[.bool b3, .slice b4 b5 b6] 30)).alloc (.cells #[.bool b7, .slice b8 b9 ba] 30)).alloc (.cells #[.bool false, .slice none 0 0, .bool false, .slice none 0 0, .bool false, .slice none 0 0] 32)) = w1 at hS ⊢
  generalize w.heap.size + 3 = g6 at hS o6 ⊢
  generalize w.heap.size + 2 = g5 at hS o5 ⊢
  generalize w.heap.size + 1 = g4 at hS o4 ⊢
  generalize w.heap.size = g3 at hS o3 ⊢
  have Y5 := ExtOf.blk (hS.blk 1 rfl)
  have Y4 := ExtOf.blk (hS.blk 2 rfl)
  have Y3 := ExtOf.blk (hS.blk 3 rfl)
  have hE_ := hS.ext
  refine wp_region_tame 6 (hasF [(2, .any), (4, .any), (5, .any)]) (Fcs [(2, .ri (a6)), (4, .ri (ac)), (5, .box 30 #[.bool false, .slice none 0 0])]) (Fcs_stab _) (by kernel_rfl) (by kernel_rfl) ?_
  simp only [tk1, tk0, dp1, dp0]
  refine wpT_quiet 2 (by rfl) (by kernel_rfl) ?_
  simp only [tk1, tk0, dp1, dp0]
  repeat (go_big_quiet_step (fail))
  refine wpQuiet_nil ?_
  refine wpT_eff (by rfl) (by rfl) (by rfl) ?_ ?_
  · intro W_ hK
    have hW := hK.1
    clear hK
    go_simp
    exact ⟨rfl, (qgcd_ok _ _ x0 x1 a6 _ (RI.ext (hS.num 2 rfl) hW) (RI.ext (hS.num 1 rfl) hW) aX aY E10.out).mono fun e w' ⟨v, he, hR, hx⟩ => ⟨v, he, hx, hR⟩⟩
  intro v_ ag ah hr_
  obtain ⟨W_, hW_⟩ := hr_
  have hv_ : Fc.holds (.ri (a6)) ag ah v_ W_ := hW_.get
  clear hW_
  obtain ⟨aM, a7, aN, aO, rfl, -⟩ := RI.opn hv_
  clear hv_
  clear W_
  try simp only [Act.put, sa0, sa1, sa2]
  refine wpT_quiet 1 (by rfl) (by kernel_rfl) ?_
  simp only [tk1, tk0, dp1, dp0]
  repeat (go_big_quiet_step (fail))
  refine wpQuiet_nil ?_
  refine wpT_eff (by rfl) (by rfl) (by rfl) ?_ ?_
  · intro W_ hK
    have hW := hK.1
    have ao : RI W_ (iv aM a7 aN aO) a6 := hK.2 2 ((iv aM a7 aN aO), ag, ah) (by rfl) (by kernel_rfl)
    clear hK
    go_simp
    exact ⟨rfl, (qgcd_ok _ _ a6 x2 ac _ ao (RI.ext (hS.num 0 rfl) hW) A10 aS E12.out).mono fun e w' ⟨v, he, hR, hx⟩ => ⟨v, he, hx, hR⟩⟩
  intro v_ ap aq hr_
  obtain ⟨W_, hW_⟩ := hr_
  have hv_ : Fc.holds (.ri (ac)) ap aq v_ W_ := hW_.get
  clear hW_
  obtain ⟨a8, a0, a9, aa, rfl, -⟩ := RI.opn hv_
  clear hv_
  clear W_
  try simp only [Act.put, sa0, sa1, sa2]
  refine wpT_eff (by rfl) (by rfl) (by rfl) ?_ ?_
  · intro W_ hK
    go_simp
    exact ⟨Ext.new _ _, rfl, by simp, Blk.new _ _ _⟩
  intro v_ g7 bb hr_
  obtain ⟨W_, hW_⟩ := hr_
  obtain ⟨rfl, hl7, -⟩ : Fc.holds (.box 30 #[.bool false, .slice none 0 0]) g7 bb v_ W_ := hW_.get
  clear hW_ W_
  try simp only [Act.put, sa0, sa1, sa2]
  refine wpT_nil ?_
  intro w2 hK
  have hlt_ := hS.lt
  replace hS := hS.mv hK.ext
  replace hS := hS.addI (show RI w2 (iv aM a7 aN aO) a6 from hK.at_ 2 (e := ((iv aM a7 aN aO), ag, ah)) (by rfl))
  replace hS := hS.addI (show RI w2 (iv a8 a0 a9 aa) ac from hK.at_ 4 (e := ((iv a8 a0 a9 aa), ap, aq)) (by rfl))
  have aW : w1.heap.size ≤ g7 := hK.low 5 _ (by rfl)
  have o7 : Own w g7 := Own.of hE_ aW
  replace hS := hS.addB (show Blk w2 g7 30 #[.bool false, .slice none 0 0] from (hK.at_ 5 (by rfl)).2.2) (apart_of fun p hp => Nat.ne_of_lt (Nat.lt_of_lt_of_le (hlt_ p hp) aW))
  clear hK hlt_ hE_ Y5 Y4 Y3
  clear aW hl7 bb
  have k_1 := (hS.blk 0 rfl).cell
  have k_2 := (hS.blk 0 rfl).frozen
  have bc := (St.put (W' := ((w2.setCell ⟨g7, 0, none⟩ (.bool a8)).setCell ⟨g7, 1, none⟩ (.slice a0 a9 aa))) hS 0 0 [.bool a8, .slice a0 a9 aa] (cs' := #[.bool a8, .slice a0 a9 aa]) (bs' := _) rfl o7 rfl rfl rfl rfl)
  have k_3 := (bc.blk 2 rfl).cell
  go_wp2_with fail
  clear k_1 k_2 k_3
  clear bc
  replace hS := (St.put (W' := ((w2.setCell ⟨g7, 0, none⟩ (.bool a8)).setCell ⟨g7, 1, none⟩ (.slice a0 a9 aa))) hS 0 0 [.bool a8, .slice a0 a9 aa] (cs' := #[.bool a8, .slice a0 a9 aa]) (bs' := _) rfl o7 rfl rfl rfl rfl)
  simp only [List.set_cons_zero] at hS
  generalize ((w2.setCell ⟨g7, 0, none⟩ (.bool a8)).setCell ⟨g7, 1, none⟩ (.slice a0 a9 aa)) = w3 at hS ⊢
  refine (rSign_at _ x2 (-1) _ (hS.num 2 rfl) aS (cmpZ_neg H1.out)).mono ?_
  rintro e w4 ⟨rfl, hx_⟩
  replace hS := hS.mv hx_
  clear hx_
  go_wp2_with fail
  have Y7 := ExtOf.blk (hS.blk 0 rfl)
  have hE_ := hS.ext
  refine wp_region_tame 3 (hasF [(0, .any), (2, .any)]) (Fcs [(0, .ri ((0))), (2, .ri (a1))]) (Fcs_stab _) (by kernel_rfl) (by kernel_rfl) ?_
  simp only [tk1, tk0, dp1, dp0]
  refine wpT_eff (by rfl) (by rfl) (by rfl) ?_ ?_
  · intro W_ hK
    have hW := hK.1
    clear hK
    go_simp
    exact ⟨rfl, (qOf_ok (0) _ (by omega) (by omega)).mono fun e w' ⟨v, he, hR, hx⟩ => ⟨v, he, hx, hR⟩⟩
  intro v_ ai aj hr_
  obtain ⟨W_, hW_⟩ := hr_
  have hv_ : Fc.holds (.ri ((0))) ai aj v_ W_ := hW_.get
  clear hW_
  obtain ⟨aP, ab, aQ, aR, rfl, -⟩ := RI.opn hv_
  clear hv_
  clear W_
  try simp only [Act.put, sa0, sa1, sa2]
  refine wpT_quiet 1 (by rfl) (by kernel_rfl) ?_
  simp only [tk1, tk0, dp1, dp0]
  repeat (go_big_quiet_step (fail))
  refine wpQuiet_nil ?_
  refine wpT_eff (by rfl) (by rfl) (by rfl) ?_ ?_
  · intro W_ hK
    have hW := hK.1
    have ar : RI W_ (iv aP ab aQ aR) (0) := hK.2 0 ((iv aP ab aQ aR), ai, aj) (by rfl) (by kernel_rfl)
    clear hK
    go_simp
    exact ⟨rfl, (qMinus_ok _ _ (0) ac a1 _ ar (RI.ext (hS.num 0 rfl) hW) (lt_lim64 (by omega) (by omega)) A12 E18.out aL).mono fun e w' ⟨v, he, hR, hx⟩ => ⟨v, he, hx, hR⟩⟩
  intro v_ au av hr_
  obtain ⟨W_, hW_⟩ := hr_
  have hv_ : Fc.holds (.ri (a1)) au av v_ W_ := hW_.get
  clear hW_
  obtain ⟨ak, a2, am, an, rfl, -⟩ := RI.opn hv_
  clear hv_
  clear W_
  try simp only [Act.put, sa0, sa1, sa2]
  refine wpT_nil ?_
  intro w5 hK
  have hlt_ := hS.lt
  replace hS := hS.mv hK.ext
  replace hS := hS.addI (show RI w5 (iv aP ab aQ aR) (0) from hK.at_ 0 (e := ((iv aP ab aQ aR), ai, aj)) (by rfl))
  replace hS := hS.addI (show RI w5 (iv ak a2 am an) a1 from hK.at_ 2 (e := ((iv ak a2 am an), au, av)) (by rfl))
  clear hK hlt_ hE_ Y7
  have k_4 := (hS.blk 0 rfl).cell
  have k_5 := (hS.blk 0 rfl).frozen
  go_wp2_with fail
  clear k_4 k_5
  replace hS := (St.put (W' := ((w5.setCell ⟨g7, 0, none⟩ (.bool ak)).setCell ⟨g7, 1, none⟩ (.slice a2 am an))) hS 0 0 [.bool ak, .slice a2 am an] (cs' := #[.bool ak, .slice a2 am an]) (bs' := _) rfl o7 rfl rfl rfl rfl)
  simp only [List.set_cons_zero] at hS
  generalize ((w5.setCell ⟨g7, 0, none⟩ (.bool ak)).setCell ⟨g7, 1, none⟩ (.slice a2 am an)) = w6 at hS ⊢
  have Y7 := ExtOf.blk (hS.blk 0 rfl)
  have Y5 := ExtOf.blk (hS.blk 2 rfl)
  have Y4 := ExtOf.blk (hS.blk 3 rfl)
  have Y3 := ExtOf.blk (hS.blk 4 rfl)
  have hE_ := hS.ext
  refine wp_region_tame 10 (hasF [(2, .any), (5, .any), (8, .any)]) (Fcs [(2, .ri (ad)), (5, .ri (ae)), (8, .ri (af))]) (Fcs_stab _) (by kernel_rfl) (by kernel_rfl) ?_
  simp only [tk1, tk0, dp1, dp0]
  refine wpT_quiet 2 (by rfl) (by kernel_rfl) ?_
  simp only [tk1, tk0, dp1, dp0]
  repeat (go_big_quiet_step (fail))
  refine wpQuiet_nil ?_
  refine wpT_eff (by rfl) (by rfl) (by rfl) ?_ ?_
  · intro W_ hK
    have hW := hK.1
    clear hK
    go_simp
    exact ⟨rfl, (qquotient_ok _ _ x0 a1 ad _ (RI.ext (hS.num 6 rfl) hW) (RI.ext (hS.num 0 rfl) hW) aX aL N21.out aT.out E21.out).mono fun e w' ⟨v, he, hR, hx⟩ => ⟨v, he, hx, hR⟩⟩
  intro v_ aw ax hr_
  obtain ⟨W_, hW_⟩ := hr_
  have hv_ : Fc.holds (.ri (ad)) aw ax v_ W_ := hW_.get
  clear hW_
  obtain ⟨ay, a3, az, aA, rfl, -⟩ := RI.opn hv_
  clear hv_
  clear W_
  try simp only [Act.put, sa0, sa1, sa2]
  refine wpT_quiet 2 (by rfl) (by kernel_rfl) ?_
  simp only [tk1, tk0, dp1, dp0]
  repeat (go_big_quiet_step (fail))
  refine wpQuiet_nil ?_
  refine wpT_eff (by rfl) (by rfl) (by rfl) ?_ ?_
  · intro W_ hK
    have hW := hK.1
    clear hK
    go_simp
    exact ⟨rfl, (qquotient_ok _ _ x1 a1 ae _ (RI.ext (hS.num 5 rfl) hW) (RI.ext (hS.num 0 rfl) hW) aY aL N24.out aU.out E24.out).mono fun e w' ⟨v, he, hR, hx⟩ => ⟨v, he, hx, hR⟩⟩
  intro v_ aB aC hr_
  obtain ⟨W_, hW_⟩ := hr_
  have hv_ : Fc.holds (.ri (ae)) aB aC v_ W_ := hW_.get
  clear hW_
  obtain ⟨aD, a4, aE, aF, rfl, -⟩ := RI.opn hv_
  clear hv_
  clear W_
  try simp only [Act.put, sa0, sa1, sa2]
  refine wpT_quiet 2 (by rfl) (by kernel_rfl) ?_
  simp only [tk1, tk0, dp1, dp0]
  repeat (go_big_quiet_step (fail))
  refine wpQuiet_nil ?_
  refine wpT_eff (by rfl) (by rfl) (by rfl) ?_ ?_
  · intro W_ hK
    have hW := hK.1
    clear hK
    go_simp
    exact ⟨rfl, (qquotient_ok _ _ x2 a1 af _ (RI.ext (hS.num 4 rfl) hW) (RI.ext (hS.num 0 rfl) hW) aS aL N27.out aV.out E27.out).mono fun e w' ⟨v, he, hR, hx⟩ => ⟨v, he, hx, hR⟩⟩
  intro v_ aG aH hr_
  obtain ⟨W_, hW_⟩ := hr_
  have hv_ : Fc.holds (.ri (af)) aG aH v_ W_ := hW_.get
  clear hW_
  obtain ⟨aI, a5, aJ, aK, rfl, -⟩ := RI.opn hv_
  clear hv_
  clear W_
  try simp only [Act.put, sa0, sa1, sa2]
  refine wpT_quiet 1 (by rfl) (by kernel_rfl) ?_
  simp only [tk1, tk0, dp1, dp0]
  repeat (go_big_quiet_step (fail))
  refine wpQuiet_nil ?_
  refine wpT_nil ?_
  intro w7 hK
  have hlt_ := hS.lt
  replace hS := hS.mv hK.ext
  replace hS := hS.addI (show RI w7 (iv ay a3 az aA) ad from hK.at_ 2 (e := ((iv ay a3 az aA), aw, ax)) (by rfl))
  replace hS := hS.addI (show RI w7 (iv aD a4 aE aF) ae from hK.at_ 5 (e := ((iv aD a4 aE aF), aB, aC)) (by rfl))
  replace hS := hS.addI (show RI w7 (iv aI a5 aJ aK) af from hK.at_ 8 (e := ((iv aI a5 aJ aK), aG, aH)) (by rfl))
  clear hK hlt_ hE_ Y7 Y5 Y4 Y3
  have k_6 := (hS.blk 1 rfl).cell
  have k_7 := (hS.blk 1 rfl).frozen
  go_wp2
  replace hS := (St.put (W' := ((((((w7.setCell ⟨g6, 0, none⟩ (.bool ay)).setCell ⟨g6, 1, none⟩ (.slice a3 az aA)).setCell ⟨g6, 2, none⟩ (.bool aD)).setCell ⟨g6, 3, none⟩ (.slice a4 aE aF)).setCell ⟨g6, 4, none⟩ (.bool aI)).setCell ⟨g6, 5, none⟩ (.slice a5 aJ aK))) hS 1 0 [.bool ay, .slice a3 az aA, .bool aD, .slice a4 aE aF, .bool aI, .slice a5 aJ aK] (cs' := #[.bool ay, .slice a3 az aA, .bool aD, .slice a4 aE aF, .bool aI, .slice a5 aJ aK]) (bs' := _) rfl o6 rfl rfl rfl rfl)
  exact bp_gauss1 rfl rfl rfl (hS.blk 1 rfl) ⟨_, rfl, RG.mk (hS.num 2 rfl) (hS.num 1 rfl) (hS.num 0 rfl), hS.ext⟩

set_option maxRecDepth 100000 in
set_option maxHeartbeats 4000000 in
theorem qMake_p (v0 : Value) (x0 : Int) (v1 : Value) (x1 : Int) (v2 : Value) (x2 : Int) (w : World) (hX0 : RI w v0 x0) (aJ : x0.natAbs < lim) (hX1 : RI w v1 x1) (aK : x1.natAbs < lim) (hX2 : RI w v2 x2) (aD : x2.natAbs < lim) (H1 : Hid (0 < x2))
    (a5 : Int) (E10 : Hid (a5 = (Nat.gcd x0.natAbs x1.natAbs : Nat))) (A10 : a5.natAbs < lim)
    (a1 : Int) (E12 : Hid (a1 = (Nat.gcd a5.natAbs x2.natAbs : Nat))) (aE : a1.natAbs < lim)
    (aa : Int) (E21 : Hid (aa = x0 / a1)) (A21 : aa.natAbs < lim)
    (N21 : Hid (a1 ≠ 0))
    (aF : Hid (a1 ∣ x0))
    (ab : Int) (E24 : Hid (ab = x1 / a1)) (A24 : ab.natAbs < lim)
    (N24 : Hid (a1 ≠ 0))
    (aG : Hid (a1 ∣ x1))
    (ac : Int) (E27 : Hid (ac = x2 / a1)) (A27 : ac.natAbs < lim)
    (N27 : Hid (a1 ≠ 0))
    (aH : Hid (a1 ∣ x2))  :
    Calls Tryz.prog 44 #[v0, v1, v2] w fun e w' => ∃ v, e = .returned v ∧ RG w' v aa ab ac ∧ Ext w w' := by
  have hS := St.start w
  obtain ⟨aL, aM, aN, aO, rfl, hY0⟩ := hX0.opn
  replace hS := hS.addI hY0
  clear hX0 hY0
  obtain ⟨aP, aQ, aR, aS, rfl, hY1⟩ := hX1.opn
  replace hS := hS.addI hY1
  clear hX1 hY1
  obtain ⟨aT, aU, aV, aW, rfl, hY2⟩ := hX2.opn
  replace hS := hS.addI hY2
  clear hX2 hY2
  have o3 : Own w w.heap.size := Own.of hS.ext (by simp)
  have o4 : Own w (w.heap.size + 1) := Own.of hS.ext (by simp)
  have o5 : Own w (w.heap.size + 2) := Own.of hS.ext (by simp)
  have o6 : Own w (w.heap.size + 3) := Own.of hS.ext (by simp)
  go_enter Tryz.func44, Tryz.ntmps44
  go_wp2_with fail
  replace hS := (St.al (St.al (St.al (St.al hS 30 #[.bool aL, .slice aM aN aO] (g := w.heap.size) (by simp)) 30 #[.bool aP, .slice aQ aR aS] (g := (w.heap.size + 1)) (by simp)) 30 #[.bool aT, .slice aU aV aW] (g := (w.heap.size + 2)) (by simp)) 32 #[.bool false, .slice none 0 0, .bool false, .slice none 0 0, .bool false, .slice none 0 0] (g := (w.heap.size + 3)) (by simp))
  generalize ((((w.alloc (.cells #[.bool aL, .slice aM aN aO] 30)).alloc (.cells #[.bool aP, .slice aQ aR aS] 30)).alloc (.cells #[.bool aT, .slice aU aV aW] 30)).alloc (.cells #[.bool false, .slice none 0 0, .bool false, .slice none 0 0, .bool false, .slice none 0 0] 32)) = w1 at hS ⊢
  generalize w.heap.size + 3 = g6 at hS o6 ⊢
  generalize w.heap.size + 2 = g5 at hS o5 ⊢
  generalize w.heap.size + 1 = g4 at hS o4 ⊢
  generalize w.heap.size = g3 at hS o3 ⊢
  have Y5 := ExtOf.blk (hS.blk 1 rfl)
  have Y4 := ExtOf.blk (hS.blk 2 rfl)
  have Y3 := ExtOf.blk (hS.blk 3 rfl)
  have hE_ := hS.ext
  refine wp_region_tame 6 (hasF [(2, .any), (4, .any), (5, .any)]) (Fcs [(2, .ri (a5)), (4, .ri (a1)), (5, .box 30 #[.bool false, .slice none 0 0])]) (Fcs_stab _) (by kernel_rfl) (by kernel_rfl) ?_
  simp only [tk1, tk0, dp1, dp0]
  refine wpT_quiet 2 (by rfl) (by kernel_rfl) ?_
  simp only [tk1, tk0, dp1, dp0]
  repeat (go_big_quiet_step (fail))
  refine wpQuiet_nil ?_
  refine wpT_eff (by rfl) (by rfl) (by rfl) ?_ ?_
  · intro W_ hK
    have hW := hK.1
    clear hK
    go_simp
    exact ⟨rfl, (qgcd_ok _ _ x0 x1 a5 _ (RI.ext (hS.num 2 rfl) hW) (RI.ext (hS.num 1 rfl) hW) aJ aK E10.out).mono fun e w' ⟨v, he, hR, hx⟩ => ⟨v, he, hx, hR⟩⟩
  intro v_ ad ae hr_
  obtain ⟨W_, hW_⟩ := hr_
  have hv_ : Fc.holds (.ri (a5)) ad ae v_ W_ := hW_.get
  clear hW_
  obtain ⟨aA, a6, aB, aC, rfl, -⟩ := RI.opn hv_
  clear hv_
  clear W_
  try simp only [Act.put, sa0, sa1, sa2]
  refine wpT_quiet 1 (by rfl) (by kernel_rfl) ?_
  simp only [tk1, tk0, dp1, dp0]
  repeat (go_big_quiet_step (fail))
  refine wpQuiet_nil ?_
  refine wpT_eff (by rfl) (by rfl) (by rfl) ?_ ?_
  · intro W_ hK
    have hW := hK.1
    have af : RI W_ (iv aA a6 aB aC) a5 := hK.2 2 ((iv aA a6 aB aC), ad, ae) (by rfl) (by kernel_rfl)
    clear hK
    go_simp
    exact ⟨rfl, (qgcd_ok _ _ a5 x2 a1 _ af (RI.ext (hS.num 0 rfl) hW) A10 aD E12.out).mono fun e w' ⟨v, he, hR, hx⟩ => ⟨v, he, hx, hR⟩⟩
  intro v_ ag ah hr_
  obtain ⟨W_, hW_⟩ := hr_
  have hv_ : Fc.holds (.ri (a1)) ag ah v_ W_ := hW_.get
  clear hW_
  obtain ⟨a7, a0, a8, a9, rfl, -⟩ := RI.opn hv_
  clear hv_
  clear W_
  try simp only [Act.put, sa0, sa1, sa2]
  refine wpT_eff (by rfl) (by rfl) (by rfl) ?_ ?_
  · intro W_ hK
    go_simp
    exact ⟨Ext.new _ _, rfl, by simp, Blk.new _ _ _⟩
  intro v_ g7 aX hr_
  obtain ⟨W_, hW_⟩ := hr_
  obtain ⟨rfl, hl7, -⟩ : Fc.holds (.box 30 #[.bool false, .slice none 0 0]) g7 aX v_ W_ := hW_.get
  clear hW_ W_
  try simp only [Act.put, sa0, sa1, sa2]
  refine wpT_nil ?_
  intro w2 hK
  have hlt_ := hS.lt
  replace hS := hS.mv hK.ext
  replace hS := hS.addI (show RI w2 (iv aA a6 aB aC) a5 from hK.at_ 2 (e := ((iv aA a6 aB aC), ad, ae)) (by rfl))
  replace hS := hS.addI (show RI w2 (iv a7 a0 a8 a9) a1 from hK.at_ 4 (e := ((iv a7 a0 a8 a9), ag, ah)) (by rfl))
  have aI : w1.heap.size ≤ g7 := hK.low 5 _ (by rfl)
  have o7 : Own w g7 := Own.of hE_ aI
  replace hS := hS.addB (show Blk w2 g7 30 #[.bool false, .slice none 0 0] from (hK.at_ 5 (by rfl)).2.2) (apart_of fun p hp => Nat.ne_of_lt (Nat.lt_of_lt_of_le (hlt_ p hp) aI))
  clear hK hlt_ hE_ Y5 Y4 Y3
  clear aI hl7 aX
  have k_1 := (hS.blk 0 rfl).cell
  have k_2 := (hS.blk 0 rfl).frozen
  have aY := (St.put (W' := ((w2.setCell ⟨g7, 0, none⟩ (.bool a7)).setCell ⟨g7, 1, none⟩ (.slice a0 a8 a9))) hS 0 0 [.bool a7, .slice a0 a8 a9] (cs' := #[.bool a7, .slice a0 a8 a9]) (bs' := _) rfl o7 rfl rfl rfl rfl)
  have k_3 := (aY.blk 2 rfl).cell
  go_wp2_with fail
  clear k_1 k_2 k_3
  clear aY
  replace hS := (St.put (W' := ((w2.setCell ⟨g7, 0, none⟩ (.bool a7)).setCell ⟨g7, 1, none⟩ (.slice a0 a8 a9))) hS 0 0 [.bool a7, .slice a0 a8 a9] (cs' := #[.bool a7, .slice a0 a8 a9]) (bs' := _) rfl o7 rfl rfl rfl rfl)
  simp only [List.set_cons_zero] at hS
  generalize ((w2.setCell ⟨g7, 0, none⟩ (.bool a7)).setCell ⟨g7, 1, none⟩ (.slice a0 a8 a9)) = w3 at hS ⊢
  refine (rSign_at _ x2 (1) _ (hS.num 2 rfl) aD (cmpZ_pos H1.out)).mono ?_
  rintro e w4 ⟨rfl, hx_⟩
  replace hS := hS.mv hx_
  clear hx_
  go_wp2_with fail
  have Y7 := ExtOf.blk (hS.blk 0 rfl)
  have Y5 := ExtOf.blk (hS.blk 2 rfl)
  have Y4 := ExtOf.blk (hS.blk 3 rfl)
  have Y3 := ExtOf.blk (hS.blk 4 rfl)
  have hE_ := hS.ext
  refine wp_region_tame 10 (hasF [(2, .any), (5, .any), (8, .any)]) (Fcs [(2, .ri (aa)), (5, .ri (ab)), (8, .ri (ac))]) (Fcs_stab _) (by kernel_rfl) (by kernel_rfl) ?_
  simp only [tk1, tk0, dp1, dp0]
  refine wpT_quiet 2 (by rfl) (by kernel_rfl) ?_
  simp only [tk1, tk0, dp1, dp0]
  repeat (go_big_quiet_step (fail))
  refine wpQuiet_nil ?_
  refine wpT_eff (by rfl) (by rfl) (by rfl) ?_ ?_
  · intro W_ hK
    have hW := hK.1
    clear hK
    go_simp
    exact ⟨rfl, (qquotient_ok _ _ x0 a1 aa _ (RI.ext (hS.num 4 rfl) hW) (RI.ext (hS.num 0 rfl) hW) aJ aE N21.out aF.out E21.out).mono fun e w' ⟨v, he, hR, hx⟩ => ⟨v, he, hx, hR⟩⟩
  intro v_ ai aj hr_
  obtain ⟨W_, hW_⟩ := hr_
  have hv_ : Fc.holds (.ri (aa)) ai aj v_ W_ := hW_.get
  clear hW_
  obtain ⟨ak, a2, am, an, rfl, -⟩ := RI.opn hv_
  clear hv_
  clear W_
  try simp only [Act.put, sa0, sa1, sa2]
  refine wpT_quiet 2 (by rfl) (by kernel_rfl) ?_
  simp only [tk1, tk0, dp1, dp0]
  repeat (go_big_quiet_step (fail))
  refine wpQuiet_nil ?_
  refine wpT_eff (by rfl) (by rfl) (by rfl) ?_ ?_
  · intro W_ hK
    have hW := hK.1
    clear hK
    go_simp
    exact ⟨rfl, (qquotient_ok _ _ x1 a1 ab _ (RI.ext (hS.num 3 rfl) hW) (RI.ext (hS.num 0 rfl) hW) aK aE N24.out aG.out E24.out).mono fun e w' ⟨v, he, hR, hx⟩ => ⟨v, he, hx, hR⟩⟩
  intro v_ ao ap hr_
  obtain ⟨W_, hW_⟩ := hr_
  have hv_ : Fc.holds (.ri (ab)) ao ap v_ W_ := hW_.get
  clear hW_
  obtain ⟨aq, a3, ar, au, rfl, -⟩ := RI.opn hv_
  clear hv_
  clear W_
  try simp only [Act.put, sa0, sa1, sa2]
  refine wpT_quiet 2 (by rfl) (by kernel_rfl) ?_
  simp only [tk1, tk0, dp1, dp0]
  repeat (go_big_quiet_step (fail))
  refine wpQuiet_nil ?_
  refine wpT_eff (by rfl) (by rfl) (by rfl) ?_ ?_
  · intro W_ hK
    have hW := hK.1
    clear hK
    go_simp
    exact ⟨rfl, (qquotient_ok _ _ x2 a1 ac _ (RI.ext (hS.num 2 rfl) hW) (RI.ext (hS.num 0 rfl) hW) aD aE N27.out aH.out E27.out).mono fun e w' ⟨v, he, hR, hx⟩ => ⟨v, he, hx, hR⟩⟩
  intro v_ av aw hr_
  obtain ⟨W_, hW_⟩ := hr_
  have hv_ : Fc.holds (.ri (ac)) av aw v_ W_ := hW_.get
  clear hW_
  obtain ⟨ax, a4, ay, az, rfl, -⟩ := RI.opn hv_
  clear hv_
  clear W_
  try simp only [Act.put, sa0, sa1, sa2]
  refine wpT_quiet 1 (by rfl) (by kernel_rfl) ?_
  simp only [tk1, tk0, dp1, dp0]
  repeat (go_big_quiet_step (fail))
  refine wpQuiet_nil ?_
  refine wpT_nil ?_
  intro w5 hK
  have hlt_ := hS.lt
  replace hS := hS.mv hK.ext
  replace hS := hS.addI (show RI w5 (iv ak a2 am an) aa from hK.at_ 2 (e := ((iv ak a2 am an), ai, aj)) (by rfl))
  replace hS := hS.addI (show RI w5 (iv aq a3 ar au) ab from hK.at_ 5 (e := ((iv aq a3 ar au), ao, ap)) (by rfl))
  replace hS := hS.addI (show RI w5 (iv ax a4 ay az) ac from hK.at_ 8 (e := ((iv ax a4 ay az), av, aw)) (by rfl))
  clear hK hlt_ hE_ Y7 Y5 Y4 Y3
  have k_4 := (hS.blk 1 rfl).cell
  have k_5 := (hS.blk 1 rfl).frozen
  go_wp2
  replace hS := (St.put (W' := ((((((w5.setCell ⟨g6, 0, none⟩ (.bool ak)).setCell ⟨g6, 1, none⟩ (.slice a2 am an)).setCell ⟨g6, 2, none⟩ (.bool aq)).setCell ⟨g6, 3, none⟩ (.slice a3 ar au)).setCell ⟨g6, 4, none⟩ (.bool ax)).setCell ⟨g6, 5, none⟩ (.slice a4 ay az))) hS 1 0 [.bool ak, .slice a2 am an, .bool aq, .slice a3 ar au, .bool ax, .slice a4 ay az] (cs' := #[.bool ak, .slice a2 am an, .bool aq, .slice a3 ar au, .bool ax, .slice a4 ay az]) (bs' := _) rfl o6 rfl rfl rfl rfl)
  exact bp_gauss1 rfl rfl rfl (hS.blk 1 rfl) ⟨_, rfl, RG.mk (hS.num 2 rfl) (hS.num 1 rfl) (hS.num 0 rfl), hS.ext⟩

theorem qMake_ok (v1 v2 v3 : Value) (x1 x2 x3 a b d : Int) (w : World) (h1 : RI w v1 x1) (h2 : RI w v2 x2) (h3 : RI w v3 x3) (a1 : x1.natAbs < lim) (a2 : x2.natAbs < lim) (a3 : x3.natAbs < lim) (hd : x3 ≠ 0) (E : (a, b, d) = nf x1 x2 x3) :
    Calls Tryz.prog 44 #[v1, v2, v3] w fun e w' => ∃ v, e = .returned v ∧ RG w' v a b d ∧ Ext w w' := by
  obtain ⟨d1, d2, d3⟩ := g3_dvd x1 x2 x3
  have hg0 := g3_pos (a := x1) (b := x2) hd
  have hgl := g3_lt a1 a2 a3
  have hG : ((Nat.gcd (Nat.gcd x1.natAbs x2.natAbs : Int).natAbs x3.natAbs : Nat) : Int) = g3 x1 x2 x3 := by rw [Int.natAbs_natCast, g3_ref]
  have g1 := gcd_lt a1 a2
  unfold nf gZ sgZ at E
  by_cases hn : x3 < 0
  · rw [if_pos hn] at E
    have e1 : (-1 : Int) * (g3 x1 x2 x3 : Int) = 0 - (g3 x1 x2 x3 : Int) := by omega
    rw [e1] at E
    injection E with ea E
    injection E with eb ed
    have n1 : 0 - (g3 x1 x2 x3 : Int) ≠ 0 := by omega
    have q1 : 0 - (g3 x1 x2 x3 : Int) ∣ x1 := by rw [Int.zero_sub]; exact Int.neg_dvd.2 d1
    have q2 : 0 - (g3 x1 x2 x3 : Int) ∣ x2 := by rw [Int.zero_sub]; exact Int.neg_dvd.2 d2
    have q3 : 0 - (g3 x1 x2 x3 : Int) ∣ x3 := by rw [Int.zero_sub]; exact Int.neg_dvd.2 d3
    exact qMake_n v1 x1 v2 x2 v3 x3 w h1 a1 h2 a2 h3 a3 (Lib.hid hn) _ (Lib.hid rfl) (by simpa using g1) _ (Lib.hid hG.symm) (by simpa using hgl) _ (Lib.hid rfl) (by omega) a (Lib.hid ea) (by rw [ea]; exact div_abs a1 q1) (Lib.hid n1) (Lib.hid q1) b (Lib.hid eb) (by rw [eb]; exact div_abs a2 q2) (Lib.hid n1) (Lib.hid q2) d (Lib.hid ed) (by rw [ed]; exact div_abs a3 q3) (Lib.hid n1) (Lib.hid q3)
  · rw [if_neg hn, Int.one_mul] at E
    injection E with ea E
    injection E with eb ed
    have n1 : (g3 x1 x2 x3 : Int) ≠ 0 := by omega
    exact qMake_p v1 x1 v2 x2 v3 x3 w h1 a1 h2 a2 h3 a3 (Lib.hid (by omega)) _ (Lib.hid rfl) (by simpa using g1) _ (Lib.hid hG.symm) (by simpa using hgl) a (Lib.hid ea) (by rw [ea]; exact div_abs a1 d1) (Lib.hid n1) (Lib.hid d1) b (Lib.hid eb) (by rw [eb]; exact div_abs a2 d2) (Lib.hid n1) (Lib.hid d2) d (Lib.hid ed) (by rw [ed]; exact div_abs a3 d3) (Lib.hid n1) (Lib.hid d3)
end Go.Proofs.YtclkkoiaaddllaaGreat

/- The specification of numbers: sums and products. -/
namespace Go.Proofs.YtclkkoiaaddllaaGreat
open Go.RowKit
set_option linter.unusedVariables false

set_option maxRecDepth 100000 in
set_option maxHeartbeats 800000 in
theorem qInt_w (m0 : Int) (m1 : Int) (w : World) (l0 : -9223372036854775808 ≤ m0) (u0 : m0 ≤ 9223372036854775807) (l1 : -9223372036854775808 ≤ m1) (u1 : m1 ≤ 9223372036854775807)
    (N10 : Hid ((1 : Int) ≠ 0))
    (a6 a7 a8 : Int) (E10 : Hid ((a6, a7, a8) = nf (m0) (m1) (1 : Int))) (A10a : a6.natAbs < lim) (A10b : a7.natAbs < lim) (A10d : a8.natAbs < lim)  :
    Calls Tryz.prog 19 #[.int .i64 m0, .int .i64 m1] w fun e w' => ∃ v, e = .returned v ∧ RG w' v a6 a7 a8 ∧ Ext w w' := by
  have hS := St.start w
  have o4 : Own w w.heap.size := Own.of hS.ext (by simp)
  go_enter Tryz.func19, Tryz.ntmps19
  go_wp2_with fail
  replace hS := (St.al hS 32 #[.bool false, .slice none 0 0, .bool false, .slice none 0 0, .bool false, .slice none 0 0] (g := w.heap.size) (by simp))
  generalize (w.alloc (.cells #[.bool false, .slice none 0 0, .bool false, .slice none 0 0, .bool false, .slice none 0 0] 32)) = w1 at hS ⊢
  generalize w.heap.size = g4 at hS o4 ⊢
  refine (qOf_ok (m0) _ l0 u0).mono ?_
  rintro e w2 ⟨v_, rfl, hv_, hx_⟩
  replace hS := hS.mv hx_
  clear hx_
  obtain ⟨s6, A_6, n6, c6, rfl, ai⟩ := RI.opn hv_
  clear hv_
  replace hS := hS.addI ai
  clear ai
  go_wp2_with fail
  refine (qOf_ok (m1) _ l1 u1).mono ?_
  rintro e w3 ⟨v_, rfl, hv_, hx_⟩
  replace hS := hS.mv hx_
  clear hx_
  obtain ⟨s8, A_8, n8, c8, rfl, aj⟩ := RI.opn hv_
  clear hv_
  replace hS := hS.addI aj
  clear aj
  go_wp2_with fail
  refine (qOf_ok (1) _ (by omega) (by omega)).mono ?_
  rintro e w4 ⟨v_, rfl, hv_, hx_⟩
  replace hS := hS.mv hx_
  clear hx_
  obtain ⟨s9, A_9, n9, c9, rfl, ak⟩ := RI.opn hv_
  clear hv_
  replace hS := hS.addI ak
  clear ak
  go_wp2_with fail
  refine (qMake_ok _ _ _ (m0) (m1) (1 : Int) a6 a7 a8 _ (hS.num 2 rfl) (hS.num 1 rfl) (hS.num 0 rfl) (lt_lim64 l0 u0) (lt_lim64 l1 u1) (lt_lim64 (by omega) (by omega)) N10.out E10.out).mono ?_
  rintro e w5 ⟨v_, rfl, hv_, hx_⟩
  replace hS := hS.mv hx_
  clear hx_
  obtain ⟨a9, a0, aa, ab, ac, a1, ad, ae, af, a2, ag, ah, rfl, a3, a4, a5⟩ := hv_
  replace hS := hS.addI a3
  clear a3
  replace hS := hS.addI a4
  clear a4
  replace hS := hS.addI a5
  clear a5
  have k_1 := (hS.blk 0 rfl).cell
  have k_2 := (hS.blk 0 rfl).frozen
  go_wp2
  replace hS := (St.put (W' := ((((((w5.setCell ⟨g4, 0, none⟩ (.bool a9)).setCell ⟨g4, 1, none⟩ (.slice a0 aa ab)).setCell ⟨g4, 2, none⟩ (.bool ac)).setCell ⟨g4, 3, none⟩ (.slice a1 ad ae)).setCell ⟨g4, 4, none⟩ (.bool af)).setCell ⟨g4, 5, none⟩ (.slice a2 ag ah))) hS 0 0 [.bool a9, .slice a0 aa ab, .bool ac, .slice a1 ad ae, .bool af, .slice a2 ag ah] (cs' := #[.bool a9, .slice a0 aa ab, .bool ac, .slice a1 ad ae, .bool af, .slice a2 ag ah]) (bs' := _) rfl o4 rfl rfl rfl rfl)
  exact bp_gauss1 rfl rfl rfl (hS.blk 0 rfl) ⟨_, rfl, RG.mk (hS.num 2 rfl) (hS.num 1 rfl) (hS.num 0 rfl), hS.ext⟩

theorem low_i (a b : Int) : Low a b 1 := ⟨by omega, by unfold g3; simp⟩
theorem qInt_ok (m n : Int) (w : World) (l0 : -9223372036854775808 ≤ m) (u0 : m ≤ 9223372036854775807) (l1 : -9223372036854775808 ≤ n) (u1 : n ≤ 9223372036854775807) :
    Calls Tryz.prog 19 #[.int .i64 m, .int .i64 n] w fun e w' => ∃ v, e = .returned v ∧ RG w' v m n 1 ∧ Ext w w' :=
  qInt_w m n w l0 u0 l1 u1 (Lib.hid (by omega)) m n 1 (Lib.hid (nf_low (low_i m n)).symm) (lt_lim64 l0 u0) (lt_lim64 l1 u1) lim1
/-- A sum in reach. -/
structure AddOk (m n : Nat) (a b d a' b' d' u v t : Int) : Prop where
  sx : Sz m a b d
  sy : Sz n a' b' d'
  hn : m + n + 1 ≤ 12800
  hd : d ≠ 0
  hd' : d' ≠ 0
  E : (u, v, t) = nf (a * d' + a' * d) (b * d' + b' * d) (d * d')
/-- A product in reach. -/
structure MulOk (m n : Nat) (a b d a' b' d' u v t : Int) : Prop where
  sx : Sz m a b d
  sy : Sz n a' b' d'
  hn : m + n + 1 ≤ 12800
  hd : d ≠ 0
  hd' : d' ≠ 0
  E : (u, v, t) = nf (a * a' - b * b') (a * b' + b * a') (d * d')
theorem AddOk.size {m n : Nat} {a b d a' b' d' u v t : Int} (h : AddOk m n a b d a' b' d' u v t) : Sz (m + n + 1) u v t := by
  refine nf_size' (Int.mul_ne_zero h.hd h.hd') h.E (lt_add (lt_mul h.sx.a h.sy.d) ?_) (lt_add (lt_mul h.sx.b h.sy.d) ?_) (lt_up (lt_mul h.sx.d h.sy.d) (by omega))
  · rw [Nat.add_comm]; exact lt_mul h.sy.a h.sx.d
  · rw [Nat.add_comm]; exact lt_mul h.sy.b h.sx.d
theorem MulOk.size {m n : Nat} {a b d a' b' d' u v t : Int} (h : MulOk m n a b d a' b' d' u v t) : Sz (m + n + 1) u v t :=
  nf_size' (Int.mul_ne_zero h.hd h.hd') h.E (lt_sub (lt_mul h.sx.a h.sy.a) (lt_mul h.sx.b h.sy.b)) (lt_add (lt_mul h.sx.a h.sy.b) (lt_mul h.sx.b h.sy.a)) (lt_up (lt_mul h.sx.d h.sy.d) (by omega))
theorem AddOk.of {x y : GQ} {m n : Nat} {a b d a' b' d' u v t : Int} (hx : Is x a b d) (sx : Sz m a b d) (hy : Is y a' b' d') (sy : Sz n a' b' d') (h : Is (x + y) u v t) (hn : m + n + 1 ≤ 12800) : AddOk m n a b d a' b' d' u v t := by
  have h1 := cast_ne hx.dne
  have h2 := cast_ne hy.dne
  refine ⟨sx, sy, hn, hx.dne, hy.dne, (h.nf_eq (Int.mul_ne_zero hx.dne hy.dne) ?_ ?_).symm⟩
  · rw [GQ.add_re, hx.re, hy.re]; simp only [Rat.intCast_mul, Rat.intCast_add]; grind
  · rw [GQ.add_im, hx.im, hy.im]; simp only [Rat.intCast_mul, Rat.intCast_add]; grind
theorem MulOk.of {x y : GQ} {m n : Nat} {a b d a' b' d' u v t : Int} (hx : Is x a b d) (sx : Sz m a b d) (hy : Is y a' b' d') (sy : Sz n a' b' d') (h : Is (x * y) u v t) (hn : m + n + 1 ≤ 12800) : MulOk m n a b d a' b' d' u v t := by
  have h1 := cast_ne hx.dne
  have h2 := cast_ne hy.dne
  refine ⟨sx, sy, hn, hx.dne, hy.dne, (h.nf_eq (Int.mul_ne_zero hx.dne hy.dne) ?_ ?_).symm⟩
  · rw [GQ.mul_re, hx.re, hy.re, hx.im, hy.im]; simp only [Rat.intCast_mul, Rat.intCast_sub]; grind
  · rw [GQ.mul_im, hx.re, hy.re, hx.im, hy.im]; simp only [Rat.intCast_mul, Rat.intCast_add]; grind

end Go.Proofs.YtclkkoiaaddllaaGreat
