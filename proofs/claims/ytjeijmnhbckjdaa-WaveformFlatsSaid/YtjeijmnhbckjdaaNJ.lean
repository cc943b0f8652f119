/- Words and contracts that the laws share, several texts in one. -/
import Derived.Test.YtjeijmnhbckjdaaNE
import Derived.Test.YtjeijmnhbckjdaaND
import Derived.Test.YtjeijmnhbckjdaaNB
/- The sign of a + b sqrt 3. -/
namespace Go.Proofs.Ytjeijmnhbckjdaa
open Go.RowKit
set_option linter.unusedVariables false

theorem Compare_at (v u : Value) (x y k : Int) (w : World) (hX : RI w v x) (hY : RI w u y) (ax : x.natAbs < lim) (ay : y.natAbs < lim) (h : cmpZ x y = k) :
    Calls Try.prog 55 #[v, u] w fun e w' => e = .returned (.int .i64 k) ∧ Ext w w' := by
  have := Compare_ok v u x y w hX hY ax ay
  rwa [h] at this
theorem rCompare_at (v u : Value) (x y k : Int) (w : World) (hX : RI w v x) (hY : RI w u y) (ax : x.natAbs < lim) (ay : y.natAbs < lim) (h : cmpZ x y = k) :
    Calls Try.prog 23 #[v, u] w fun e w' => e = .returned (.int .i64 k) ∧ Ext w w' := by
  have := rCompare_ok v u x y w hX hY ax ay
  rwa [h] at this
set_option maxRecDepth 100000 in
set_option maxHeartbeats 1600000 in
theorem qSign_nn (v0 : Value) (x0 : Int) (v1 : Value) (x1 : Int) (w : World) (hX0 : RI w v0 x0) (ax0 : x0.natAbs < lim) (hX1 : RI w v1 x1) (ax1 : x1.natAbs < lim) (H0 : Hid (x0 < 0)) (H1 : Hid (x1 < 0))
      :
    Calls Try.prog 51 #[v0, v1] w fun e w' => e = .returned (.int .i64 (-1)) ∧ Ext w w' := by
  have hS := St.start w
  obtain ⟨sx0, Ax0, nx0, cx0, rfl, hY0⟩ := hX0.opn
  replace hS := hS.addI hY0
  clear hX0 hY0
  obtain ⟨sx1, Ax1, nx1, cx1, rfl, hY1⟩ := hX1.opn
  replace hS := hS.addI hY1
  clear hX1 hY1
  have o2 : Own w w.heap.size := Own.of hS.ext (by simp)
  have o3 : Own w (w.heap.size + 1) := Own.of hS.ext (by simp)
  go_enter Try.func51, Try.ntmps51
  go_wp2_with fail
  replace hS := (St.al (St.al hS 24 #[.bool sx0, .slice Ax0 nx0 cx0] (g := w.heap.size) (by simp)) 24 #[.bool sx1, .slice Ax1 nx1 cx1] (g := (w.heap.size + 1)) (by simp))
  generalize ((w.alloc (.cells #[.bool sx0, .slice Ax0 nx0 cx0] 24)).alloc (.cells #[.bool sx1, .slice Ax1 nx1 cx1] 24)) = w1 at hS ⊢
  generalize w.heap.size + 1 = g3 at hS o3 ⊢
  generalize w.heap.size = g2 at hS o2 ⊢
  have Y3 := ExtOf.blk (hS.blk 0 rfl)
  have Y2 := ExtOf.blk (hS.blk 1 rfl)
  have hE_ := hS.ext
  refine wp_region_tame 4 (hasF [(1, .any), (3, .any)]) (Fcs [(1, .eq (.int .i64 (-1))), (3, .eq (.int .i64 (-1)))]) (Fcs_stab _) (by kernel_rfl) (by kernel_rfl) ?_
  simp only [List.take_succ_cons, List.take_zero, List.drop_succ_cons, List.drop_zero]
  refine wpT_quiet 1 (by rfl) (by kernel_rfl) ?_
  simp only [List.take_succ_cons, List.take_zero, List.drop_succ_cons, List.drop_zero]
  repeat (go_big_quiet_step (fail))
  refine wpQuiet_nil ?_
  refine wpT_eff (by rfl) (by rfl) (by rfl) ?_ ?_
  · intro W_ hK
    have hW := hK.1
    clear hK
    go_simp
    exact ⟨rfl, (rSign_at _ x0 (-1) _ (RI.ext (hS.num 1 rfl) hW) ax0 (cmpZ_neg H0.out)).mono fun e w' ⟨he, hx⟩ => ⟨_, he, hx, rfl⟩⟩
  intro v_ lo9 hi9 hr_
  obtain ⟨W_, hW_⟩ := hr_
  obtain rfl : v_ = .int .i64 (-1) := hW_.get
  clear hW_ W_
  try simp only [Act.put, List.setIfInBounds_toArray, List.set_cons_succ, List.set_cons_zero]
  refine wpT_quiet 1 (by rfl) (by kernel_rfl) ?_
  simp only [List.take_succ_cons, List.take_zero, List.drop_succ_cons, List.drop_zero]
  repeat (go_big_quiet_step (fail))
  refine wpQuiet_nil ?_
  refine wpT_eff (by rfl) (by rfl) (by rfl) ?_ ?_
  · intro W_ hK
    have hW := hK.1
    clear hK
    go_simp
    exact ⟨rfl, (rSign_at _ x1 (-1) _ (RI.ext (hS.num 0 rfl) hW) ax1 (cmpZ_neg H1.out)).mono fun e w' ⟨he, hx⟩ => ⟨_, he, hx, rfl⟩⟩
  intro v_ lo11 hi11 hr_
  obtain ⟨W_, hW_⟩ := hr_
  obtain rfl : v_ = .int .i64 (-1) := hW_.get
  clear hW_ W_
  try simp only [Act.put, List.setIfInBounds_toArray, List.set_cons_succ, List.set_cons_zero]
  refine wpT_nil ?_
  intro w2 hK
  have hlt_ := hS.lt
  replace hS := hS.mv hK.ext
  clear hK hlt_ hE_ Y3 Y2
  go_wp2
  go_ret
  exact ⟨ret_int (rfl), hS.ext⟩

set_option maxRecDepth 100000 in
set_option maxHeartbeats 1600000 in
theorem qSign_nz (v0 : Value) (x0 : Int) (v1 : Value) (x1 : Int) (w : World) (hX0 : RI w v0 x0) (ax0 : x0.natAbs < lim) (hX1 : RI w v1 x1) (ax1 : x1.natAbs < lim) (H0 : Hid (x0 < 0)) (H1 : Hid (x1 = 0))
      :
    Calls Try.prog 51 #[v0, v1] w fun e w' => e = .returned (.int .i64 (-1)) ∧ Ext w w' := by
  have hS := St.start w
  obtain ⟨sx0, Ax0, nx0, cx0, rfl, hY0⟩ := hX0.opn
  replace hS := hS.addI hY0
  clear hX0 hY0
  obtain ⟨sx1, Ax1, nx1, cx1, rfl, hY1⟩ := hX1.opn
  replace hS := hS.addI hY1
  clear hX1 hY1
  have o2 : Own w w.heap.size := Own.of hS.ext (by simp)
  have o3 : Own w (w.heap.size + 1) := Own.of hS.ext (by simp)
  go_enter Try.func51, Try.ntmps51
  go_wp2_with fail
  replace hS := (St.al (St.al hS 24 #[.bool sx0, .slice Ax0 nx0 cx0] (g := w.heap.size) (by simp)) 24 #[.bool sx1, .slice Ax1 nx1 cx1] (g := (w.heap.size + 1)) (by simp))
  generalize ((w.alloc (.cells #[.bool sx0, .slice Ax0 nx0 cx0] 24)).alloc (.cells #[.bool sx1, .slice Ax1 nx1 cx1] 24)) = w1 at hS ⊢
  generalize w.heap.size + 1 = g3 at hS o3 ⊢
  generalize w.heap.size = g2 at hS o2 ⊢
  have Y3 := ExtOf.blk (hS.blk 0 rfl)
  have Y2 := ExtOf.blk (hS.blk 1 rfl)
  have hE_ := hS.ext
  refine wp_region_tame 4 (hasF [(1, .any), (3, .any)]) (Fcs [(1, .eq (.int .i64 (-1))), (3, .eq (.int .i64 (0)))]) (Fcs_stab _) (by kernel_rfl) (by kernel_rfl) ?_
  simp only [List.take_succ_cons, List.take_zero, List.drop_succ_cons, List.drop_zero]
  refine wpT_quiet 1 (by rfl) (by kernel_rfl) ?_
  simp only [List.take_succ_cons, List.take_zero, List.drop_succ_cons, List.drop_zero]
  repeat (go_big_quiet_step (fail))
  refine wpQuiet_nil ?_
  refine wpT_eff (by rfl) (by rfl) (by rfl) ?_ ?_
  · intro W_ hK
    have hW := hK.1
    clear hK
    go_simp
    exact ⟨rfl, (rSign_at _ x0 (-1) _ (RI.ext (hS.num 1 rfl) hW) ax0 (cmpZ_neg H0.out)).mono fun e w' ⟨he, hx⟩ => ⟨_, he, hx, rfl⟩⟩
  intro v_ lo9 hi9 hr_
  obtain ⟨W_, hW_⟩ := hr_
  obtain rfl : v_ = .int .i64 (-1) := hW_.get
  clear hW_ W_
  try simp only [Act.put, List.setIfInBounds_toArray, List.set_cons_succ, List.set_cons_zero]
  refine wpT_quiet 1 (by rfl) (by kernel_rfl) ?_
  simp only [List.take_succ_cons, List.take_zero, List.drop_succ_cons, List.drop_zero]
  repeat (go_big_quiet_step (fail))
  refine wpQuiet_nil ?_
  refine wpT_eff (by rfl) (by rfl) (by rfl) ?_ ?_
  · intro W_ hK
    have hW := hK.1
    clear hK
    go_simp
    exact ⟨rfl, (rSign_at _ x1 (0) _ (RI.ext (hS.num 0 rfl) hW) ax1 (cmpZ_zero H1.out)).mono fun e w' ⟨he, hx⟩ => ⟨_, he, hx, rfl⟩⟩
  intro v_ lo11 hi11 hr_
  obtain ⟨W_, hW_⟩ := hr_
  obtain rfl : v_ = .int .i64 (0) := hW_.get
  clear hW_ W_
  try simp only [Act.put, List.setIfInBounds_toArray, List.set_cons_succ, List.set_cons_zero]
  refine wpT_nil ?_
  intro w2 hK
  have hlt_ := hS.lt
  replace hS := hS.mv hK.ext
  clear hK hlt_ hE_ Y3 Y2
  go_wp2
  go_ret
  exact ⟨ret_int (rfl), hS.ext⟩

set_option maxRecDepth 100000 in
set_option maxHeartbeats 1600000 in
theorem qSign_npn (v0 : Value) (x0 : Int) (v1 : Value) (x1 : Int) (w : World) (hX0 : RI w v0 x0) (ax0 : x0.natAbs < lim) (hX1 : RI w v1 x1) (ax1 : x1.natAbs < lim) (H0 : Hid (x0 < 0)) (H1 : Hid (0 < x1))
    (z23 : Int) (E23 : Hid (z23 = x0 * x0)) (A23 : z23.natAbs < lim)
    (z27 : Int) (E27 : Hid (z27 = x1 * x1)) (A27 : z27.natAbs < lim)
    (z28 : Int) (E28 : Hid (z28 = (3 : Int) * z27)) (A28 : z28.natAbs < lim) (H2 : Hid (cmpZ z23 z28 = -1)) :
    Calls Try.prog 51 #[v0, v1] w fun e w' => e = .returned (.int .i64 (1)) ∧ Ext w w' := by
  have hS := St.start w
  obtain ⟨sx0, Ax0, nx0, cx0, rfl, hY0⟩ := hX0.opn
  replace hS := hS.addI hY0
  clear hX0 hY0
  obtain ⟨sx1, Ax1, nx1, cx1, rfl, hY1⟩ := hX1.opn
  replace hS := hS.addI hY1
  clear hX1 hY1
  have o2 : Own w w.heap.size := Own.of hS.ext (by simp)
  have o3 : Own w (w.heap.size + 1) := Own.of hS.ext (by simp)
  go_enter Try.func51, Try.ntmps51
  go_wp2_with fail
  replace hS := (St.al (St.al hS 24 #[.bool sx0, .slice Ax0 nx0 cx0] (g := w.heap.size) (by simp)) 24 #[.bool sx1, .slice Ax1 nx1 cx1] (g := (w.heap.size + 1)) (by simp))
  generalize ((w.alloc (.cells #[.bool sx0, .slice Ax0 nx0 cx0] 24)).alloc (.cells #[.bool sx1, .slice Ax1 nx1 cx1] 24)) = w1 at hS ⊢
  generalize w.heap.size + 1 = g3 at hS o3 ⊢
  generalize w.heap.size = g2 at hS o2 ⊢
  have Y3 := ExtOf.blk (hS.blk 0 rfl)
  have Y2 := ExtOf.blk (hS.blk 1 rfl)
  have hE_ := hS.ext
  refine wp_region_tame 4 (hasF [(1, .any), (3, .any)]) (Fcs [(1, .eq (.int .i64 (-1))), (3, .eq (.int .i64 (1)))]) (Fcs_stab _) (by kernel_rfl) (by kernel_rfl) ?_
  simp only [List.take_succ_cons, List.take_zero, List.drop_succ_cons, List.drop_zero]
  refine wpT_quiet 1 (by rfl) (by kernel_rfl) ?_
  simp only [List.take_succ_cons, List.take_zero, List.drop_succ_cons, List.drop_zero]
  repeat (go_big_quiet_step (fail))
  refine wpQuiet_nil ?_
  refine wpT_eff (by rfl) (by rfl) (by rfl) ?_ ?_
  · intro W_ hK
    have hW := hK.1
    clear hK
    go_simp
    exact ⟨rfl, (rSign_at _ x0 (-1) _ (RI.ext (hS.num 1 rfl) hW) ax0 (cmpZ_neg H0.out)).mono fun e w' ⟨he, hx⟩ => ⟨_, he, hx, rfl⟩⟩
  intro v_ lo9 hi9 hr_
  obtain ⟨W_, hW_⟩ := hr_
  obtain rfl : v_ = .int .i64 (-1) := hW_.get
  clear hW_ W_
  try simp only [Act.put, List.setIfInBounds_toArray, List.set_cons_succ, List.set_cons_zero]
  refine wpT_quiet 1 (by rfl) (by kernel_rfl) ?_
  simp only [List.take_succ_cons, List.take_zero, List.drop_succ_cons, List.drop_zero]
  repeat (go_big_quiet_step (fail))
  refine wpQuiet_nil ?_
  refine wpT_eff (by rfl) (by rfl) (by rfl) ?_ ?_
  · intro W_ hK
    have hW := hK.1
    clear hK
    go_simp
    exact ⟨rfl, (rSign_at _ x1 (1) _ (RI.ext (hS.num 0 rfl) hW) ax1 (cmpZ_pos H1.out)).mono fun e w' ⟨he, hx⟩ => ⟨_, he, hx, rfl⟩⟩
  intro v_ lo11 hi11 hr_
  obtain ⟨W_, hW_⟩ := hr_
  obtain rfl : v_ = .int .i64 (1) := hW_.get
  clear hW_ W_
  try simp only [Act.put, List.setIfInBounds_toArray, List.set_cons_succ, List.set_cons_zero]
  refine wpT_nil ?_
  intro w2 hK
  have hlt_ := hS.lt
  replace hS := hS.mv hK.ext
  clear hK hlt_ hE_ Y3 Y2
  go_wp2_with fail
  have Y3 := ExtOf.blk (hS.blk 0 rfl)
  have Y2 := ExtOf.blk (hS.blk 1 rfl)
  have hE_ := hS.ext
  refine wp_region_tame 9 (hasF [(2, .any), (3, .any), (6, .any), (7, .any), (8, .any)]) (Fcs [(2, .ri (z23)), (3, .ri ((3 : Int))), (6, .ri (z27)), (7, .ri (z28)), (8, .eq (.int .i64 (-1)))]) (Fcs_stab _) (by kernel_rfl) (by kernel_rfl) ?_
  simp only [List.take_succ_cons, List.take_zero, List.drop_succ_cons, List.drop_zero]
  refine wpT_quiet 2 (by rfl) (by kernel_rfl) ?_
  simp only [List.take_succ_cons, List.take_zero, List.drop_succ_cons, List.drop_zero]
  repeat (go_big_quiet_step (fail))
  refine wpQuiet_nil ?_
  refine wpT_eff (by rfl) (by rfl) (by rfl) ?_ ?_
  · intro W_ hK
    have hW := hK.1
    clear hK
    go_simp
    exact ⟨rfl, (qTimes_ok _ _ x0 x0 z23 _ (RI.ext (hS.num 1 rfl) hW) (RI.ext (hS.num 1 rfl) hW) ax0 ax0 E23.out A23).mono fun e w' ⟨v, he, hR, hx⟩ => ⟨v, he, hx, hR⟩⟩
  intro v_ lo23 hi23 hr_
  obtain ⟨W_, hW_⟩ := hr_
  have hv_ : Fc.holds (.ri (z23)) lo23 hi23 v_ W_ := hW_.get
  clear hW_
  obtain ⟨s23, A_23, n23, c23, rfl, -⟩ := RI.opn hv_
  clear hv_
  clear W_
  try simp only [Act.put, List.setIfInBounds_toArray, List.set_cons_succ, List.set_cons_zero]
  refine wpT_eff (by rfl) (by rfl) (by rfl) ?_ ?_
  · intro W_ hK
    have hW := hK.1
    clear hK
    go_simp
    exact ⟨rfl, (qOf_ok (3) _ (by omega) (by omega)).mono fun e w' ⟨v, he, hR, hx⟩ => ⟨v, he, hx, hR⟩⟩
  intro v_ lo24 hi24 hr_
  obtain ⟨W_, hW_⟩ := hr_
  have hv_ : Fc.holds (.ri ((3 : Int))) lo24 hi24 v_ W_ := hW_.get
  clear hW_
  obtain ⟨s24, A_24, n24, c24, rfl, -⟩ := RI.opn hv_
  clear hv_
  clear W_
  try simp only [Act.put, List.setIfInBounds_toArray, List.set_cons_succ, List.set_cons_zero]
  refine wpT_quiet 2 (by rfl) (by kernel_rfl) ?_
  simp only [List.take_succ_cons, List.take_zero, List.drop_succ_cons, List.drop_zero]
  repeat (go_big_quiet_step (fail))
  refine wpQuiet_nil ?_
  refine wpT_eff (by rfl) (by rfl) (by rfl) ?_ ?_
  · intro W_ hK
    have hW := hK.1
    clear hK
    go_simp
    exact ⟨rfl, (qTimes_ok _ _ x1 x1 z27 _ (RI.ext (hS.num 0 rfl) hW) (RI.ext (hS.num 0 rfl) hW) ax1 ax1 E27.out A27).mono fun e w' ⟨v, he, hR, hx⟩ => ⟨v, he, hx, hR⟩⟩
  intro v_ lo27 hi27 hr_
  obtain ⟨W_, hW_⟩ := hr_
  have hv_ : Fc.holds (.ri (z27)) lo27 hi27 v_ W_ := hW_.get
  clear hW_
  obtain ⟨s27, A_27, n27, c27, rfl, -⟩ := RI.opn hv_
  clear hv_
  clear W_
  try simp only [Act.put, List.setIfInBounds_toArray, List.set_cons_succ, List.set_cons_zero]
  refine wpT_eff (by rfl) (by rfl) (by rfl) ?_ ?_
  · intro W_ hK
    have hW := hK.1
    have F_s24 : RI W_ (iv s24 A_24 n24 c24) (3 : Int) := hK.2 3 ((iv s24 A_24 n24 c24), lo24, hi24) (by rfl) (by kernel_rfl)
    have F_s27 : RI W_ (iv s27 A_27 n27 c27) z27 := hK.2 6 ((iv s27 A_27 n27 c27), lo27, hi27) (by rfl) (by kernel_rfl)
    clear hK
    go_simp
    exact ⟨rfl, (qTimes_ok _ _ (3 : Int) z27 z28 _ F_s24 F_s27 (lt_lim64 (by omega) (by omega)) A27 E28.out A28).mono fun e w' ⟨v, he, hR, hx⟩ => ⟨v, he, hx, hR⟩⟩
  intro v_ lo28 hi28 hr_
  obtain ⟨W_, hW_⟩ := hr_
  have hv_ : Fc.holds (.ri (z28)) lo28 hi28 v_ W_ := hW_.get
  clear hW_
  obtain ⟨s28, A_28, n28, c28, rfl, -⟩ := RI.opn hv_
  clear hv_
  clear W_
  try simp only [Act.put, List.setIfInBounds_toArray, List.set_cons_succ, List.set_cons_zero]
  refine wpT_eff (by rfl) (by rfl) (by rfl) ?_ ?_
  · intro W_ hK
    have hW := hK.1
    have F_s23 : RI W_ (iv s23 A_23 n23 c23) z23 := hK.2 2 ((iv s23 A_23 n23 c23), lo23, hi23) (by rfl) (by kernel_rfl)
    have F_s28 : RI W_ (iv s28 A_28 n28 c28) z28 := hK.2 7 ((iv s28 A_28 n28 c28), lo28, hi28) (by rfl) (by kernel_rfl)
    clear hK
    go_simp
    exact ⟨rfl, (rCompare_at _ _ z23 z28 (-1) _ F_s23 F_s28 A23 A28 H2.out).mono fun e w' ⟨he, hx⟩ => ⟨_, he, hx, rfl⟩⟩
  intro v_ lo29 hi29 hr_
  obtain ⟨W_, hW_⟩ := hr_
  obtain rfl : v_ = .int .i64 (-1) := hW_.get
  clear hW_ W_
  try simp only [Act.put, List.setIfInBounds_toArray, List.set_cons_succ, List.set_cons_zero]
  refine wpT_nil ?_
  intro w3 hK
  have hlt_ := hS.lt
  replace hS := hS.mv hK.ext
  replace hS := hS.addI (show RI w3 (iv s23 A_23 n23 c23) z23 from hK.at_ 2 (e := ((iv s23 A_23 n23 c23), lo23, hi23)) (by rfl))
  replace hS := hS.addI (show RI w3 (iv s24 A_24 n24 c24) (3 : Int) from hK.at_ 3 (e := ((iv s24 A_24 n24 c24), lo24, hi24)) (by rfl))
  replace hS := hS.addI (show RI w3 (iv s27 A_27 n27 c27) z27 from hK.at_ 6 (e := ((iv s27 A_27 n27 c27), lo27, hi27)) (by rfl))
  replace hS := hS.addI (show RI w3 (iv s28 A_28 n28 c28) z28 from hK.at_ 7 (e := ((iv s28 A_28 n28 c28), lo28, hi28)) (by rfl))
  clear hK hlt_ hE_ Y3 Y2
  go_wp2
  go_ret
  exact ⟨ret_int (rfl), hS.ext⟩

set_option maxRecDepth 100000 in
set_option maxHeartbeats 1600000 in
theorem qSign_npz (v0 : Value) (x0 : Int) (v1 : Value) (x1 : Int) (w : World) (hX0 : RI w v0 x0) (ax0 : x0.natAbs < lim) (hX1 : RI w v1 x1) (ax1 : x1.natAbs < lim) (H0 : Hid (x0 < 0)) (H1 : Hid (0 < x1))
    (z23 : Int) (E23 : Hid (z23 = x0 * x0)) (A23 : z23.natAbs < lim)
    (z27 : Int) (E27 : Hid (z27 = x1 * x1)) (A27 : z27.natAbs < lim)
    (z28 : Int) (E28 : Hid (z28 = (3 : Int) * z27)) (A28 : z28.natAbs < lim) (H2 : Hid (cmpZ z23 z28 = 0)) :
    Calls Try.prog 51 #[v0, v1] w fun e w' => e = .returned (.int .i64 (0)) ∧ Ext w w' := by
  have hS := St.start w
  obtain ⟨sx0, Ax0, nx0, cx0, rfl, hY0⟩ := hX0.opn
  replace hS := hS.addI hY0
  clear hX0 hY0
  obtain ⟨sx1, Ax1, nx1, cx1, rfl, hY1⟩ := hX1.opn
  replace hS := hS.addI hY1
  clear hX1 hY1
  have o2 : Own w w.heap.size := Own.of hS.ext (by simp)
  have o3 : Own w (w.heap.size + 1) := Own.of hS.ext (by simp)
  go_enter Try.func51, Try.ntmps51
  go_wp2_with fail
  replace hS := (St.al (St.al hS 24 #[.bool sx0, .slice Ax0 nx0 cx0] (g := w.heap.size) (by simp)) 24 #[.bool sx1, .slice Ax1 nx1 cx1] (g := (w.heap.size + 1)) (by simp))
  generalize ((w.alloc (.cells #[.bool sx0, .slice Ax0 nx0 cx0] 24)).alloc (.cells #[.bool sx1, .slice Ax1 nx1 cx1] 24)) = w1 at hS ⊢
  generalize w.heap.size + 1 = g3 at hS o3 ⊢
  generalize w.heap.size = g2 at hS o2 ⊢
  have Y3 := ExtOf.blk (hS.blk 0 rfl)
  have Y2 := ExtOf.blk (hS.blk 1 rfl)
  have hE_ := hS.ext
  refine wp_region_tame 4 (hasF [(1, .any), (3, .any)]) (Fcs [(1, .eq (.int .i64 (-1))), (3, .eq (.int .i64 (1)))]) (Fcs_stab _) (by kernel_rfl) (by kernel_rfl) ?_
  simp only [List.take_succ_cons, List.take_zero, List.drop_succ_cons, List.drop_zero]
  refine wpT_quiet 1 (by rfl) (by kernel_rfl) ?_
  simp only [List.take_succ_cons, List.take_zero, List.drop_succ_cons, List.drop_zero]
  repeat (go_big_quiet_step (fail))
  refine wpQuiet_nil ?_
  refine wpT_eff (by rfl) (by rfl) (by rfl) ?_ ?_
  · intro W_ hK
    have hW := hK.1
    clear hK
    go_simp
    exact ⟨rfl, (rSign_at _ x0 (-1) _ (RI.ext (hS.num 1 rfl) hW) ax0 (cmpZ_neg H0.out)).mono fun e w' ⟨he, hx⟩ => ⟨_, he, hx, rfl⟩⟩
  intro v_ lo9 hi9 hr_
  obtain ⟨W_, hW_⟩ := hr_
  obtain rfl : v_ = .int .i64 (-1) := hW_.get
  clear hW_ W_
  try simp only [Act.put, List.setIfInBounds_toArray, List.set_cons_succ, List.set_cons_zero]
  refine wpT_quiet 1 (by rfl) (by kernel_rfl) ?_
  simp only [List.take_succ_cons, List.take_zero, List.drop_succ_cons, List.drop_zero]
  repeat (go_big_quiet_step (fail))
  refine wpQuiet_nil ?_
  refine wpT_eff (by rfl) (by rfl) (by rfl) ?_ ?_
  · intro W_ hK
    have hW := hK.1
    clear hK
    go_simp
    exact ⟨rfl, (rSign_at _ x1 (1) _ (RI.ext (hS.num 0 rfl) hW) ax1 (cmpZ_pos H1.out)).mono fun e w' ⟨he, hx⟩ => ⟨_, he, hx, rfl⟩⟩
  intro v_ lo11 hi11 hr_
  obtain ⟨W_, hW_⟩ := hr_
  obtain rfl : v_ = .int .i64 (1) := hW_.get
  clear hW_ W_
  try simp only [Act.put, List.setIfInBounds_toArray, List.set_cons_succ, List.set_cons_zero]
  refine wpT_nil ?_
  intro w2 hK
  have hlt_ := hS.lt
  replace hS := hS.mv hK.ext
  clear hK hlt_ hE_ Y3 Y2
  go_wp2_with fail
  have Y3 := ExtOf.blk (hS.blk 0 rfl)
  have Y2 := ExtOf.blk (hS.blk 1 rfl)
  have hE_ := hS.ext
  refine wp_region_tame 9 (hasF [(2, .any), (3, .any), (6, .any), (7, .any), (8, .any)]) (Fcs [(2, .ri (z23)), (3, .ri ((3 : Int))), (6, .ri (z27)), (7, .ri (z28)), (8, .eq (.int .i64 (0)))]) (Fcs_stab _) (by kernel_rfl) (by kernel_rfl) ?_
  simp only [List.take_succ_cons, List.take_zero, List.drop_succ_cons, List.drop_zero]
  refine wpT_quiet 2 (by rfl) (by kernel_rfl) ?_
  simp only [List.take_succ_cons, List.take_zero, List.drop_succ_cons, List.drop_zero]
  repeat (go_big_quiet_step (fail))
  refine wpQuiet_nil ?_
  refine wpT_eff (by rfl) (by rfl) (by rfl) ?_ ?_
  · intro W_ hK
    have hW := hK.1
    clear hK
    go_simp
    exact ⟨rfl, (qTimes_ok _ _ x0 x0 z23 _ (RI.ext (hS.num 1 rfl) hW) (RI.ext (hS.num 1 rfl) hW) ax0 ax0 E23.out A23).mono fun e w' ⟨v, he, hR, hx⟩ => ⟨v, he, hx, hR⟩⟩
  intro v_ lo23 hi23 hr_
  obtain ⟨W_, hW_⟩ := hr_
  have hv_ : Fc.holds (.ri (z23)) lo23 hi23 v_ W_ := hW_.get
  clear hW_
  obtain ⟨s23, A_23, n23, c23, rfl, -⟩ := RI.opn hv_
  clear hv_
  clear W_
  try simp only [Act.put, List.setIfInBounds_toArray, List.set_cons_succ, List.set_cons_zero]
  refine wpT_eff (by rfl) (by rfl) (by rfl) ?_ ?_
  · intro W_ hK
    have hW := hK.1
    clear hK
    go_simp
    exact ⟨rfl, (qOf_ok (3) _ (by omega) (by omega)).mono fun e w' ⟨v, he, hR, hx⟩ => ⟨v, he, hx, hR⟩⟩
  intro v_ lo24 hi24 hr_
  obtain ⟨W_, hW_⟩ := hr_
  have hv_ : Fc.holds (.ri ((3 : Int))) lo24 hi24 v_ W_ := hW_.get
  clear hW_
  obtain ⟨s24, A_24, n24, c24, rfl, -⟩ := RI.opn hv_
  clear hv_
  clear W_
  try simp only [Act.put, List.setIfInBounds_toArray, List.set_cons_succ, List.set_cons_zero]
  refine wpT_quiet 2 (by rfl) (by kernel_rfl) ?_
  simp only [List.take_succ_cons, List.take_zero, List.drop_succ_cons, List.drop_zero]
  repeat (go_big_quiet_step (fail))
  refine wpQuiet_nil ?_
  refine wpT_eff (by rfl) (by rfl) (by rfl) ?_ ?_
  · intro W_ hK
    have hW := hK.1
    clear hK
    go_simp
    exact ⟨rfl, (qTimes_ok _ _ x1 x1 z27 _ (RI.ext (hS.num 0 rfl) hW) (RI.ext (hS.num 0 rfl) hW) ax1 ax1 E27.out A27).mono fun e w' ⟨v, he, hR, hx⟩ => ⟨v, he, hx, hR⟩⟩
  intro v_ lo27 hi27 hr_
  obtain ⟨W_, hW_⟩ := hr_
  have hv_ : Fc.holds (.ri (z27)) lo27 hi27 v_ W_ := hW_.get
  clear hW_
  obtain ⟨s27, A_27, n27, c27, rfl, -⟩ := RI.opn hv_
  clear hv_
  clear W_
  try simp only [Act.put, List.setIfInBounds_toArray, List.set_cons_succ, List.set_cons_zero]
  refine wpT_eff (by rfl) (by rfl) (by rfl) ?_ ?_
  · intro W_ hK
    have hW := hK.1
    have F_s24 : RI W_ (iv s24 A_24 n24 c24) (3 : Int) := hK.2 3 ((iv s24 A_24 n24 c24), lo24, hi24) (by rfl) (by kernel_rfl)
    have F_s27 : RI W_ (iv s27 A_27 n27 c27) z27 := hK.2 6 ((iv s27 A_27 n27 c27), lo27, hi27) (by rfl) (by kernel_rfl)
    clear hK
    go_simp
    exact ⟨rfl, (qTimes_ok _ _ (3 : Int) z27 z28 _ F_s24 F_s27 (lt_lim64 (by omega) (by omega)) A27 E28.out A28).mono fun e w' ⟨v, he, hR, hx⟩ => ⟨v, he, hx, hR⟩⟩
  intro v_ lo28 hi28 hr_
  obtain ⟨W_, hW_⟩ := hr_
  have hv_ : Fc.holds (.ri (z28)) lo28 hi28 v_ W_ := hW_.get
  clear hW_
  obtain ⟨s28, A_28, n28, c28, rfl, -⟩ := RI.opn hv_
  clear hv_
  clear W_
  try simp only [Act.put, List.setIfInBounds_toArray, List.set_cons_succ, List.set_cons_zero]
  refine wpT_eff (by rfl) (by rfl) (by rfl) ?_ ?_
  · intro W_ hK
    have hW := hK.1
    have F_s23 : RI W_ (iv s23 A_23 n23 c23) z23 := hK.2 2 ((iv s23 A_23 n23 c23), lo23, hi23) (by rfl) (by kernel_rfl)
    have F_s28 : RI W_ (iv s28 A_28 n28 c28) z28 := hK.2 7 ((iv s28 A_28 n28 c28), lo28, hi28) (by rfl) (by kernel_rfl)
    clear hK
    go_simp
    exact ⟨rfl, (rCompare_at _ _ z23 z28 (0) _ F_s23 F_s28 A23 A28 H2.out).mono fun e w' ⟨he, hx⟩ => ⟨_, he, hx, rfl⟩⟩
  intro v_ lo29 hi29 hr_
  obtain ⟨W_, hW_⟩ := hr_
  obtain rfl : v_ = .int .i64 (0) := hW_.get
  clear hW_ W_
  try simp only [Act.put, List.setIfInBounds_toArray, List.set_cons_succ, List.set_cons_zero]
  refine wpT_nil ?_
  intro w3 hK
  have hlt_ := hS.lt
  replace hS := hS.mv hK.ext
  replace hS := hS.addI (show RI w3 (iv s23 A_23 n23 c23) z23 from hK.at_ 2 (e := ((iv s23 A_23 n23 c23), lo23, hi23)) (by rfl))
  replace hS := hS.addI (show RI w3 (iv s24 A_24 n24 c24) (3 : Int) from hK.at_ 3 (e := ((iv s24 A_24 n24 c24), lo24, hi24)) (by rfl))
  replace hS := hS.addI (show RI w3 (iv s27 A_27 n27 c27) z27 from hK.at_ 6 (e := ((iv s27 A_27 n27 c27), lo27, hi27)) (by rfl))
  replace hS := hS.addI (show RI w3 (iv s28 A_28 n28 c28) z28 from hK.at_ 7 (e := ((iv s28 A_28 n28 c28), lo28, hi28)) (by rfl))
  clear hK hlt_ hE_ Y3 Y2
  go_wp2
  go_ret
  exact ⟨ret_int (rfl), hS.ext⟩

set_option maxRecDepth 100000 in
set_option maxHeartbeats 1600000 in
theorem qSign_npp (v0 : Value) (x0 : Int) (v1 : Value) (x1 : Int) (w : World) (hX0 : RI w v0 x0) (ax0 : x0.natAbs < lim) (hX1 : RI w v1 x1) (ax1 : x1.natAbs < lim) (H0 : Hid (x0 < 0)) (H1 : Hid (0 < x1))
    (z23 : Int) (E23 : Hid (z23 = x0 * x0)) (A23 : z23.natAbs < lim)
    (z27 : Int) (E27 : Hid (z27 = x1 * x1)) (A27 : z27.natAbs < lim)
    (z28 : Int) (E28 : Hid (z28 = (3 : Int) * z27)) (A28 : z28.natAbs < lim) (H2 : Hid (cmpZ z23 z28 = 1)) :
    Calls Try.prog 51 #[v0, v1] w fun e w' => e = .returned (.int .i64 (-1)) ∧ Ext w w' := by
  have hS := St.start w
  obtain ⟨sx0, Ax0, nx0, cx0, rfl, hY0⟩ := hX0.opn
  replace hS := hS.addI hY0
  clear hX0 hY0
  obtain ⟨sx1, Ax1, nx1, cx1, rfl, hY1⟩ := hX1.opn
  replace hS := hS.addI hY1
  clear hX1 hY1
  have o2 : Own w w.heap.size := Own.of hS.ext (by simp)
  have o3 : Own w (w.heap.size + 1) := Own.of hS.ext (by simp)
  go_enter Try.func51, Try.ntmps51
  go_wp2_with fail
  replace hS := (St.al (St.al hS 24 #[.bool sx0, .slice Ax0 nx0 cx0] (g := w.heap.size) (by simp)) 24 #[.bool sx1, .slice Ax1 nx1 cx1] (g := (w.heap.size + 1)) (by simp))
  generalize ((w.alloc (.cells #[.bool sx0, .slice Ax0 nx0 cx0] 24)).alloc (.cells #[.bool sx1, .slice Ax1 nx1 cx1] 24)) = w1 at hS ⊢
  generalize w.heap.size + 1 = g3 at hS o3 ⊢
  generalize w.heap.size = g2 at hS o2 ⊢
  have Y3 := ExtOf.blk (hS.blk 0 rfl)
  have Y2 := ExtOf.blk (hS.blk 1 rfl)
  have hE_ := hS.ext
  refine wp_region_tame 4 (hasF [(1, .any), (3, .any)]) (Fcs [(1, .eq (.int .i64 (-1))), (3, .eq (.int .i64 (1)))]) (Fcs_stab _) (by kernel_rfl) (by kernel_rfl) ?_
  simp only [List.take_succ_cons, List.take_zero, List.drop_succ_cons, List.drop_zero]
  refine wpT_quiet 1 (by rfl) (by kernel_rfl) ?_
  simp only [List.take_succ_cons, List.take_zero, List.drop_succ_cons, List.drop_zero]
  repeat (go_big_quiet_step (fail))
  refine wpQuiet_nil ?_
  refine wpT_eff (by rfl) (by rfl) (by rfl) ?_ ?_
  · intro W_ hK
    have hW := hK.1
    clear hK
    go_simp
    exact ⟨rfl, (rSign_at _ x0 (-1) _ (RI.ext (hS.num 1 rfl) hW) ax0 (cmpZ_neg H0.out)).mono fun e w' ⟨he, hx⟩ => ⟨_, he, hx, rfl⟩⟩
  intro v_ lo9 hi9 hr_
  obtain ⟨W_, hW_⟩ := hr_
  obtain rfl : v_ = .int .i64 (-1) := hW_.get
  clear hW_ W_
  try simp only [Act.put, List.setIfInBounds_toArray, List.set_cons_succ, List.set_cons_zero]
  refine wpT_quiet 1 (by rfl) (by kernel_rfl) ?_
  simp only [List.take_succ_cons, List.take_zero, List.drop_succ_cons, List.drop_zero]
  repeat (go_big_quiet_step (fail))
  refine wpQuiet_nil ?_
  refine wpT_eff (by rfl) (by rfl) (by rfl) ?_ ?_
  · intro W_ hK
    have hW := hK.1
    clear hK
    go_simp
    exact ⟨rfl, (rSign_at _ x1 (1) _ (RI.ext (hS.num 0 rfl) hW) ax1 (cmpZ_pos H1.out)).mono fun e w' ⟨he, hx⟩ => ⟨_, he, hx, rfl⟩⟩
  intro v_ lo11 hi11 hr_
  obtain ⟨W_, hW_⟩ := hr_
  obtain rfl : v_ = .int .i64 (1) := hW_.get
  clear hW_ W_
  try simp only [Act.put, List.setIfInBounds_toArray, List.set_cons_succ, List.set_cons_zero]
  refine wpT_nil ?_
  intro w2 hK
  have hlt_ := hS.lt
  replace hS := hS.mv hK.ext
  clear hK hlt_ hE_ Y3 Y2
  go_wp2_with fail
  have Y3 := ExtOf.blk (hS.blk 0 rfl)
  have Y2 := ExtOf.blk (hS.blk 1 rfl)
  have hE_ := hS.ext
  refine wp_region_tame 9 (hasF [(2, .any), (3, .any), (6, .any), (7, .any), (8, .any)]) (Fcs [(2, .ri (z23)), (3, .ri ((3 : Int))), (6, .ri (z27)), (7, .ri (z28)), (8, .eq (.int .i64 (1)))]) (Fcs_stab _) (by kernel_rfl) (by kernel_rfl) ?_
  simp only [List.take_succ_cons, List.take_zero, List.drop_succ_cons, List.drop_zero]
  refine wpT_quiet 2 (by rfl) (by kernel_rfl) ?_
  simp only [List.take_succ_cons, List.take_zero, List.drop_succ_cons, List.drop_zero]
  repeat (go_big_quiet_step (fail))
  refine wpQuiet_nil ?_
  refine wpT_eff (by rfl) (by rfl) (by rfl) ?_ ?_
  · intro W_ hK
    have hW := hK.1
    clear hK
    go_simp
    exact ⟨rfl, (qTimes_ok _ _ x0 x0 z23 _ (RI.ext (hS.num 1 rfl) hW) (RI.ext (hS.num 1 rfl) hW) ax0 ax0 E23.out A23).mono fun e w' ⟨v, he, hR, hx⟩ => ⟨v, he, hx, hR⟩⟩
  intro v_ lo23 hi23 hr_
  obtain ⟨W_, hW_⟩ := hr_
  have hv_ : Fc.holds (.ri (z23)) lo23 hi23 v_ W_ := hW_.get
  clear hW_
  obtain ⟨s23, A_23, n23, c23, rfl, -⟩ := RI.opn hv_
  clear hv_
  clear W_
  try simp only [Act.put, List.setIfInBounds_toArray, List.set_cons_succ, List.set_cons_zero]
  refine wpT_eff (by rfl) (by rfl) (by rfl) ?_ ?_
  · intro W_ hK
    have hW := hK.1
    clear hK
    go_simp
    exact ⟨rfl, (qOf_ok (3) _ (by omega) (by omega)).mono fun e w' ⟨v, he, hR, hx⟩ => ⟨v, he, hx, hR⟩⟩
  intro v_ lo24 hi24 hr_
  obtain ⟨W_, hW_⟩ := hr_
  have hv_ : Fc.holds (.ri ((3 : Int))) lo24 hi24 v_ W_ := hW_.get
  clear hW_
  obtain ⟨s24, A_24, n24, c24, rfl, -⟩ := RI.opn hv_
  clear hv_
  clear W_
  try simp only [Act.put, List.setIfInBounds_toArray, List.set_cons_succ, List.set_cons_zero]
  refine wpT_quiet 2 (by rfl) (by kernel_rfl) ?_
  simp only [List.take_succ_cons, List.take_zero, List.drop_succ_cons, List.drop_zero]
  repeat (go_big_quiet_step (fail))
  refine wpQuiet_nil ?_
  refine wpT_eff (by rfl) (by rfl) (by rfl) ?_ ?_
  · intro W_ hK
    have hW := hK.1
    clear hK
    go_simp
    exact ⟨rfl, (qTimes_ok _ _ x1 x1 z27 _ (RI.ext (hS.num 0 rfl) hW) (RI.ext (hS.num 0 rfl) hW) ax1 ax1 E27.out A27).mono fun e w' ⟨v, he, hR, hx⟩ => ⟨v, he, hx, hR⟩⟩
  intro v_ lo27 hi27 hr_
  obtain ⟨W_, hW_⟩ := hr_
  have hv_ : Fc.holds (.ri (z27)) lo27 hi27 v_ W_ := hW_.get
  clear hW_
  obtain ⟨s27, A_27, n27, c27, rfl, -⟩ := RI.opn hv_
  clear hv_
  clear W_
  try simp only [Act.put, List.setIfInBounds_toArray, List.set_cons_succ, List.set_cons_zero]
  refine wpT_eff (by rfl) (by rfl) (by rfl) ?_ ?_
  · intro W_ hK
    have hW := hK.1
    have F_s24 : RI W_ (iv s24 A_24 n24 c24) (3 : Int) := hK.2 3 ((iv s24 A_24 n24 c24), lo24, hi24) (by rfl) (by kernel_rfl)
    have F_s27 : RI W_ (iv s27 A_27 n27 c27) z27 := hK.2 6 ((iv s27 A_27 n27 c27), lo27, hi27) (by rfl) (by kernel_rfl)
    clear hK
    go_simp
    exact ⟨rfl, (qTimes_ok _ _ (3 : Int) z27 z28 _ F_s24 F_s27 (lt_lim64 (by omega) (by omega)) A27 E28.out A28).mono fun e w' ⟨v, he, hR, hx⟩ => ⟨v, he, hx, hR⟩⟩
  intro v_ lo28 hi28 hr_
  obtain ⟨W_, hW_⟩ := hr_
  have hv_ : Fc.holds (.ri (z28)) lo28 hi28 v_ W_ := hW_.get
  clear hW_
  obtain ⟨s28, A_28, n28, c28, rfl, -⟩ := RI.opn hv_
  clear hv_
  clear W_
  try simp only [Act.put, List.setIfInBounds_toArray, List.set_cons_succ, List.set_cons_zero]
  refine wpT_eff (by rfl) (by rfl) (by rfl) ?_ ?_
  · intro W_ hK
    have hW := hK.1
    have F_s23 : RI W_ (iv s23 A_23 n23 c23) z23 := hK.2 2 ((iv s23 A_23 n23 c23), lo23, hi23) (by rfl) (by kernel_rfl)
    have F_s28 : RI W_ (iv s28 A_28 n28 c28) z28 := hK.2 7 ((iv s28 A_28 n28 c28), lo28, hi28) (by rfl) (by kernel_rfl)
    clear hK
    go_simp
    exact ⟨rfl, (rCompare_at _ _ z23 z28 (1) _ F_s23 F_s28 A23 A28 H2.out).mono fun e w' ⟨he, hx⟩ => ⟨_, he, hx, rfl⟩⟩
  intro v_ lo29 hi29 hr_
  obtain ⟨W_, hW_⟩ := hr_
  obtain rfl : v_ = .int .i64 (1) := hW_.get
  clear hW_ W_
  try simp only [Act.put, List.setIfInBounds_toArray, List.set_cons_succ, List.set_cons_zero]
  refine wpT_nil ?_
  intro w3 hK
  have hlt_ := hS.lt
  replace hS := hS.mv hK.ext
  replace hS := hS.addI (show RI w3 (iv s23 A_23 n23 c23) z23 from hK.at_ 2 (e := ((iv s23 A_23 n23 c23), lo23, hi23)) (by rfl))
  replace hS := hS.addI (show RI w3 (iv s24 A_24 n24 c24) (3 : Int) from hK.at_ 3 (e := ((iv s24 A_24 n24 c24), lo24, hi24)) (by rfl))
  replace hS := hS.addI (show RI w3 (iv s27 A_27 n27 c27) z27 from hK.at_ 6 (e := ((iv s27 A_27 n27 c27), lo27, hi27)) (by rfl))
  replace hS := hS.addI (show RI w3 (iv s28 A_28 n28 c28) z28 from hK.at_ 7 (e := ((iv s28 A_28 n28 c28), lo28, hi28)) (by rfl))
  clear hK hlt_ hE_ Y3 Y2
  go_wp2
  go_ret
  exact ⟨ret_int (rfl), hS.ext⟩

set_option maxRecDepth 100000 in
set_option maxHeartbeats 1600000 in
theorem qSign_zn (v0 : Value) (x0 : Int) (v1 : Value) (x1 : Int) (w : World) (hX0 : RI w v0 x0) (ax0 : x0.natAbs < lim) (hX1 : RI w v1 x1) (ax1 : x1.natAbs < lim) (H0 : Hid (x0 = 0)) (H1 : Hid (x1 < 0))
      :
    Calls Try.prog 51 #[v0, v1] w fun e w' => e = .returned (.int .i64 (-1)) ∧ Ext w w' := by
  have hS := St.start w
  obtain ⟨sx0, Ax0, nx0, cx0, rfl, hY0⟩ := hX0.opn
  replace hS := hS.addI hY0
  clear hX0 hY0
  obtain ⟨sx1, Ax1, nx1, cx1, rfl, hY1⟩ := hX1.opn
  replace hS := hS.addI hY1
  clear hX1 hY1
  have o2 : Own w w.heap.size := Own.of hS.ext (by simp)
  have o3 : Own w (w.heap.size + 1) := Own.of hS.ext (by simp)
  go_enter Try.func51, Try.ntmps51
  go_wp2_with fail
  replace hS := (St.al (St.al hS 24 #[.bool sx0, .slice Ax0 nx0 cx0] (g := w.heap.size) (by simp)) 24 #[.bool sx1, .slice Ax1 nx1 cx1] (g := (w.heap.size + 1)) (by simp))
  generalize ((w.alloc (.cells #[.bool sx0, .slice Ax0 nx0 cx0] 24)).alloc (.cells #[.bool sx1, .slice Ax1 nx1 cx1] 24)) = w1 at hS ⊢
  generalize w.heap.size + 1 = g3 at hS o3 ⊢
  generalize w.heap.size = g2 at hS o2 ⊢
  have Y3 := ExtOf.blk (hS.blk 0 rfl)
  have Y2 := ExtOf.blk (hS.blk 1 rfl)
  have hE_ := hS.ext
  refine wp_region_tame 4 (hasF [(1, .any), (3, .any)]) (Fcs [(1, .eq (.int .i64 (0))), (3, .eq (.int .i64 (-1)))]) (Fcs_stab _) (by kernel_rfl) (by kernel_rfl) ?_
  simp only [List.take_succ_cons, List.take_zero, List.drop_succ_cons, List.drop_zero]
  refine wpT_quiet 1 (by rfl) (by kernel_rfl) ?_
  simp only [List.take_succ_cons, List.take_zero, List.drop_succ_cons, List.drop_zero]
  repeat (go_big_quiet_step (fail))
  refine wpQuiet_nil ?_
  refine wpT_eff (by rfl) (by rfl) (by rfl) ?_ ?_
  · intro W_ hK
    have hW := hK.1
    clear hK
    go_simp
    exact ⟨rfl, (rSign_at _ x0 (0) _ (RI.ext (hS.num 1 rfl) hW) ax0 (cmpZ_zero H0.out)).mono fun e w' ⟨he, hx⟩ => ⟨_, he, hx, rfl⟩⟩
  intro v_ lo9 hi9 hr_
  obtain ⟨W_, hW_⟩ := hr_
  obtain rfl : v_ = .int .i64 (0) := hW_.get
  clear hW_ W_
  try simp only [Act.put, List.setIfInBounds_toArray, List.set_cons_succ, List.set_cons_zero]
  refine wpT_quiet 1 (by rfl) (by kernel_rfl) ?_
  simp only [List.take_succ_cons, List.take_zero, List.drop_succ_cons, List.drop_zero]
  repeat (go_big_quiet_step (fail))
  refine wpQuiet_nil ?_
  refine wpT_eff (by rfl) (by rfl) (by rfl) ?_ ?_
  · intro W_ hK
    have hW := hK.1
    clear hK
    go_simp
    exact ⟨rfl, (rSign_at _ x1 (-1) _ (RI.ext (hS.num 0 rfl) hW) ax1 (cmpZ_neg H1.out)).mono fun e w' ⟨he, hx⟩ => ⟨_, he, hx, rfl⟩⟩
  intro v_ lo11 hi11 hr_
  obtain ⟨W_, hW_⟩ := hr_
  obtain rfl : v_ = .int .i64 (-1) := hW_.get
  clear hW_ W_
  try simp only [Act.put, List.setIfInBounds_toArray, List.set_cons_succ, List.set_cons_zero]
  refine wpT_nil ?_
  intro w2 hK
  have hlt_ := hS.lt
  replace hS := hS.mv hK.ext
  clear hK hlt_ hE_ Y3 Y2
  go_wp2
  go_ret
  exact ⟨ret_int (rfl), hS.ext⟩

set_option maxRecDepth 100000 in
set_option maxHeartbeats 1600000 in
theorem qSign_zz (v0 : Value) (x0 : Int) (v1 : Value) (x1 : Int) (w : World) (hX0 : RI w v0 x0) (ax0 : x0.natAbs < lim) (hX1 : RI w v1 x1) (ax1 : x1.natAbs < lim) (H0 : Hid (x0 = 0)) (H1 : Hid (x1 = 0))
      :
    Calls Try.prog 51 #[v0, v1] w fun e w' => e = .returned (.int .i64 (0)) ∧ Ext w w' := by
  have hS := St.start w
  obtain ⟨sx0, Ax0, nx0, cx0, rfl, hY0⟩ := hX0.opn
  replace hS := hS.addI hY0
  clear hX0 hY0
  obtain ⟨sx1, Ax1, nx1, cx1, rfl, hY1⟩ := hX1.opn
  replace hS := hS.addI hY1
  clear hX1 hY1
  have o2 : Own w w.heap.size := Own.of hS.ext (by simp)
  have o3 : Own w (w.heap.size + 1) := Own.of hS.ext (by simp)
  go_enter Try.func51, Try.ntmps51
  go_wp2_with fail
  replace hS := (St.al (St.al hS 24 #[.bool sx0, .slice Ax0 nx0 cx0] (g := w.heap.size) (by simp)) 24 #[.bool sx1, .slice Ax1 nx1 cx1] (g := (w.heap.size + 1)) (by simp))
  generalize ((w.alloc (.cells #[.bool sx0, .slice Ax0 nx0 cx0] 24)).alloc (.cells #[.bool sx1, .slice Ax1 nx1 cx1] 24)) = w1 at hS ⊢
  generalize w.heap.size + 1 = g3 at hS o3 ⊢
  generalize w.heap.size = g2 at hS o2 ⊢
  have Y3 := ExtOf.blk (hS.blk 0 rfl)
  have Y2 := ExtOf.blk (hS.blk 1 rfl)
  have hE_ := hS.ext
  refine wp_region_tame 4 (hasF [(1, .any), (3, .any)]) (Fcs [(1, .eq (.int .i64 (0))), (3, .eq (.int .i64 (0)))]) (Fcs_stab _) (by kernel_rfl) (by kernel_rfl) ?_
  simp only [List.take_succ_cons, List.take_zero, List.drop_succ_cons, List.drop_zero]
  refine wpT_quiet 1 (by rfl) (by kernel_rfl) ?_
  simp only [List.take_succ_cons, List.take_zero, List.drop_succ_cons, List.drop_zero]
  repeat (go_big_quiet_step (fail))
  refine wpQuiet_nil ?_
  refine wpT_eff (by rfl) (by rfl) (by rfl) ?_ ?_
  · intro W_ hK
    have hW := hK.1
    clear hK
    go_simp
    exact ⟨rfl, (rSign_at _ x0 (0) _ (RI.ext (hS.num 1 rfl) hW) ax0 (cmpZ_zero H0.out)).mono fun e w' ⟨he, hx⟩ => ⟨_, he, hx, rfl⟩⟩
  intro v_ lo9 hi9 hr_
  obtain ⟨W_, hW_⟩ := hr_
  obtain rfl : v_ = .int .i64 (0) := hW_.get
  clear hW_ W_
  try simp only [Act.put, List.setIfInBounds_toArray, List.set_cons_succ, List.set_cons_zero]
  refine wpT_quiet 1 (by rfl) (by kernel_rfl) ?_
  simp only [List.take_succ_cons, List.take_zero, List.drop_succ_cons, List.drop_zero]
  repeat (go_big_quiet_step (fail))
  refine wpQuiet_nil ?_
  refine wpT_eff (by rfl) (by rfl) (by rfl) ?_ ?_
  · intro W_ hK
    have hW := hK.1
    clear hK
    go_simp
    exact ⟨rfl, (rSign_at _ x1 (0) _ (RI.ext (hS.num 0 rfl) hW) ax1 (cmpZ_zero H1.out)).mono fun e w' ⟨he, hx⟩ => ⟨_, he, hx, rfl⟩⟩
  intro v_ lo11 hi11 hr_
  obtain ⟨W_, hW_⟩ := hr_
  obtain rfl : v_ = .int .i64 (0) := hW_.get
  clear hW_ W_
  try simp only [Act.put, List.setIfInBounds_toArray, List.set_cons_succ, List.set_cons_zero]
  refine wpT_nil ?_
  intro w2 hK
  have hlt_ := hS.lt
  replace hS := hS.mv hK.ext
  clear hK hlt_ hE_ Y3 Y2
  go_wp2
  go_ret
  exact ⟨ret_int (rfl), hS.ext⟩

set_option maxRecDepth 100000 in
set_option maxHeartbeats 1600000 in
theorem qSign_zp (v0 : Value) (x0 : Int) (v1 : Value) (x1 : Int) (w : World) (hX0 : RI w v0 x0) (ax0 : x0.natAbs < lim) (hX1 : RI w v1 x1) (ax1 : x1.natAbs < lim) (H0 : Hid (x0 = 0)) (H1 : Hid (0 < x1))
      :
    Calls Try.prog 51 #[v0, v1] w fun e w' => e = .returned (.int .i64 (1)) ∧ Ext w w' := by
  have hS := St.start w
  obtain ⟨sx0, Ax0, nx0, cx0, rfl, hY0⟩ := hX0.opn
  replace hS := hS.addI hY0
  clear hX0 hY0
  obtain ⟨sx1, Ax1, nx1, cx1, rfl, hY1⟩ := hX1.opn
  replace hS := hS.addI hY1
  clear hX1 hY1
  have o2 : Own w w.heap.size := Own.of hS.ext (by simp)
  have o3 : Own w (w.heap.size + 1) := Own.of hS.ext (by simp)
  go_enter Try.func51, Try.ntmps51
  go_wp2_with fail
  replace hS := (St.al (St.al hS 24 #[.bool sx0, .slice Ax0 nx0 cx0] (g := w.heap.size) (by simp)) 24 #[.bool sx1, .slice Ax1 nx1 cx1] (g := (w.heap.size + 1)) (by simp))
  generalize ((w.alloc (.cells #[.bool sx0, .slice Ax0 nx0 cx0] 24)).alloc (.cells #[.bool sx1, .slice Ax1 nx1 cx1] 24)) = w1 at hS ⊢
  generalize w.heap.size + 1 = g3 at hS o3 ⊢
  generalize w.heap.size = g2 at hS o2 ⊢
  have Y3 := ExtOf.blk (hS.blk 0 rfl)
  have Y2 := ExtOf.blk (hS.blk 1 rfl)
  have hE_ := hS.ext
  refine wp_region_tame 4 (hasF [(1, .any), (3, .any)]) (Fcs [(1, .eq (.int .i64 (0))), (3, .eq (.int .i64 (1)))]) (Fcs_stab _) (by kernel_rfl) (by kernel_rfl) ?_
  simp only [List.take_succ_cons, List.take_zero, List.drop_succ_cons, List.drop_zero]
  refine wpT_quiet 1 (by rfl) (by kernel_rfl) ?_
  simp only [List.take_succ_cons, List.take_zero, List.drop_succ_cons, List.drop_zero]
  repeat (go_big_quiet_step (fail))
  refine wpQuiet_nil ?_
  refine wpT_eff (by rfl) (by rfl) (by rfl) ?_ ?_
  · intro W_ hK
    have hW := hK.1
    clear hK
    go_simp
    exact ⟨rfl, (rSign_at _ x0 (0) _ (RI.ext (hS.num 1 rfl) hW) ax0 (cmpZ_zero H0.out)).mono fun e w' ⟨he, hx⟩ => ⟨_, he, hx, rfl⟩⟩
  intro v_ lo9 hi9 hr_
  obtain ⟨W_, hW_⟩ := hr_
  obtain rfl : v_ = .int .i64 (0) := hW_.get
  clear hW_ W_
  try simp only [Act.put, List.setIfInBounds_toArray, List.set_cons_succ, List.set_cons_zero]
  refine wpT_quiet 1 (by rfl) (by kernel_rfl) ?_
  simp only [List.take_succ_cons, List.take_zero, List.drop_succ_cons, List.drop_zero]
  repeat (go_big_quiet_step (fail))
  refine wpQuiet_nil ?_
  refine wpT_eff (by rfl) (by rfl) (by rfl) ?_ ?_
  · intro W_ hK
    have hW := hK.1
    clear hK
    go_simp
    exact ⟨rfl, (rSign_at _ x1 (1) _ (RI.ext (hS.num 0 rfl) hW) ax1 (cmpZ_pos H1.out)).mono fun e w' ⟨he, hx⟩ => ⟨_, he, hx, rfl⟩⟩
  intro v_ lo11 hi11 hr_
  obtain ⟨W_, hW_⟩ := hr_
  obtain rfl : v_ = .int .i64 (1) := hW_.get
  clear hW_ W_
  try simp only [Act.put, List.setIfInBounds_toArray, List.set_cons_succ, List.set_cons_zero]
  refine wpT_nil ?_
  intro w2 hK
  have hlt_ := hS.lt
  replace hS := hS.mv hK.ext
  clear hK hlt_ hE_ Y3 Y2
  go_wp2
  go_ret
  exact ⟨ret_int (rfl), hS.ext⟩

set_option maxRecDepth 100000 in
set_option maxHeartbeats 1600000 in
theorem qSign_pnn (v0 : Value) (x0 : Int) (v1 : Value) (x1 : Int) (w : World) (hX0 : RI w v0 x0) (ax0 : x0.natAbs < lim) (hX1 : RI w v1 x1) (ax1 : x1.natAbs < lim) (H0 : Hid (0 < x0)) (H1 : Hid (x1 < 0))
    (z23 : Int) (E23 : Hid (z23 = x0 * x0)) (A23 : z23.natAbs < lim)
    (z27 : Int) (E27 : Hid (z27 = x1 * x1)) (A27 : z27.natAbs < lim)
    (z28 : Int) (E28 : Hid (z28 = (3 : Int) * z27)) (A28 : z28.natAbs < lim) (H2 : Hid (cmpZ z23 z28 = -1)) :
    Calls Try.prog 51 #[v0, v1] w fun e w' => e = .returned (.int .i64 (-1)) ∧ Ext w w' := by
  have hS := St.start w
  obtain ⟨sx0, Ax0, nx0, cx0, rfl, hY0⟩ := hX0.opn
  replace hS := hS.addI hY0
  clear hX0 hY0
  obtain ⟨sx1, Ax1, nx1, cx1, rfl, hY1⟩ := hX1.opn
  replace hS := hS.addI hY1
  clear hX1 hY1
  have o2 : Own w w.heap.size := Own.of hS.ext (by simp)
  have o3 : Own w (w.heap.size + 1) := Own.of hS.ext (by simp)
  go_enter Try.func51, Try.ntmps51
  go_wp2_with fail
  replace hS := (St.al (St.al hS 24 #[.bool sx0, .slice Ax0 nx0 cx0] (g := w.heap.size) (by simp)) 24 #[.bool sx1, .slice Ax1 nx1 cx1] (g := (w.heap.size + 1)) (by simp))
  generalize ((w.alloc (.cells #[.bool sx0, .slice Ax0 nx0 cx0] 24)).alloc (.cells #[.bool sx1, .slice Ax1 nx1 cx1] 24)) = w1 at hS ⊢
  generalize w.heap.size + 1 = g3 at hS o3 ⊢
  generalize w.heap.size = g2 at hS o2 ⊢
  have Y3 := ExtOf.blk (hS.blk 0 rfl)
  have Y2 := ExtOf.blk (hS.blk 1 rfl)
  have hE_ := hS.ext
  refine wp_region_tame 4 (hasF [(1, .any), (3, .any)]) (Fcs [(1, .eq (.int .i64 (1))), (3, .eq (.int .i64 (-1)))]) (Fcs_stab _) (by kernel_rfl) (by kernel_rfl) ?_
  simp only [List.take_succ_cons, List.take_zero, List.drop_succ_cons, List.drop_zero]
  refine wpT_quiet 1 (by rfl) (by kernel_rfl) ?_
  simp only [List.take_succ_cons, List.take_zero, List.drop_succ_cons, List.drop_zero]
  repeat (go_big_quiet_step (fail))
  refine wpQuiet_nil ?_
  refine wpT_eff (by rfl) (by rfl) (by rfl) ?_ ?_
  · intro W_ hK
    have hW := hK.1
    clear hK
    go_simp
    exact ⟨rfl, (rSign_at _ x0 (1) _ (RI.ext (hS.num 1 rfl) hW) ax0 (cmpZ_pos H0.out)).mono fun e w' ⟨he, hx⟩ => ⟨_, he, hx, rfl⟩⟩
  intro v_ lo9 hi9 hr_
  obtain ⟨W_, hW_⟩ := hr_
  obtain rfl : v_ = .int .i64 (1) := hW_.get
  clear hW_ W_
  try simp only [Act.put, List.setIfInBounds_toArray, List.set_cons_succ, List.set_cons_zero]
  refine wpT_quiet 1 (by rfl) (by kernel_rfl) ?_
  simp only [List.take_succ_cons, List.take_zero, List.drop_succ_cons, List.drop_zero]
  repeat (go_big_quiet_step (fail))
  refine wpQuiet_nil ?_
  refine wpT_eff (by rfl) (by rfl) (by rfl) ?_ ?_
  · intro W_ hK
    have hW := hK.1
    clear hK
    go_simp
    exact ⟨rfl, (rSign_at _ x1 (-1) _ (RI.ext (hS.num 0 rfl) hW) ax1 (cmpZ_neg H1.out)).mono fun e w' ⟨he, hx⟩ => ⟨_, he, hx, rfl⟩⟩
  intro v_ lo11 hi11 hr_
  obtain ⟨W_, hW_⟩ := hr_
  obtain rfl : v_ = .int .i64 (-1) := hW_.get
  clear hW_ W_
  try simp only [Act.put, List.setIfInBounds_toArray, List.set_cons_succ, List.set_cons_zero]
  refine wpT_nil ?_
  intro w2 hK
  have hlt_ := hS.lt
  replace hS := hS.mv hK.ext
  clear hK hlt_ hE_ Y3 Y2
  go_wp2_with fail
  have Y3 := ExtOf.blk (hS.blk 0 rfl)
  have Y2 := ExtOf.blk (hS.blk 1 rfl)
  have hE_ := hS.ext
  refine wp_region_tame 9 (hasF [(2, .any), (3, .any), (6, .any), (7, .any), (8, .any)]) (Fcs [(2, .ri (z23)), (3, .ri ((3 : Int))), (6, .ri (z27)), (7, .ri (z28)), (8, .eq (.int .i64 (-1)))]) (Fcs_stab _) (by kernel_rfl) (by kernel_rfl) ?_
  simp only [List.take_succ_cons, List.take_zero, List.drop_succ_cons, List.drop_zero]
  refine wpT_quiet 2 (by rfl) (by kernel_rfl) ?_
  simp only [List.take_succ_cons, List.take_zero, List.drop_succ_cons, List.drop_zero]
  repeat (go_big_quiet_step (fail))
  refine wpQuiet_nil ?_
  refine wpT_eff (by rfl) (by rfl) (by rfl) ?_ ?_
  · intro W_ hK
    have hW := hK.1
    clear hK
    go_simp
    exact ⟨rfl, (qTimes_ok _ _ x0 x0 z23 _ (RI.ext (hS.num 1 rfl) hW) (RI.ext (hS.num 1 rfl) hW) ax0 ax0 E23.out A23).mono fun e w' ⟨v, he, hR, hx⟩ => ⟨v, he, hx, hR⟩⟩
  intro v_ lo23 hi23 hr_
  obtain ⟨W_, hW_⟩ := hr_
  have hv_ : Fc.holds (.ri (z23)) lo23 hi23 v_ W_ := hW_.get
  clear hW_
  obtain ⟨s23, A_23, n23, c23, rfl, -⟩ := RI.opn hv_
  clear hv_
  clear W_
  try simp only [Act.put, List.setIfInBounds_toArray, List.set_cons_succ, List.set_cons_zero]
  refine wpT_eff (by rfl) (by rfl) (by rfl) ?_ ?_
  · intro W_ hK
    have hW := hK.1
    clear hK
    go_simp
    exact ⟨rfl, (qOf_ok (3) _ (by omega) (by omega)).mono fun e w' ⟨v, he, hR, hx⟩ => ⟨v, he, hx, hR⟩⟩
  intro v_ lo24 hi24 hr_
  obtain ⟨W_, hW_⟩ := hr_
  have hv_ : Fc.holds (.ri ((3 : Int))) lo24 hi24 v_ W_ := hW_.get
  clear hW_
  obtain ⟨s24, A_24, n24, c24, rfl, -⟩ := RI.opn hv_
  clear hv_
  clear W_
  try simp only [Act.put, List.setIfInBounds_toArray, List.set_cons_succ, List.set_cons_zero]
  refine wpT_quiet 2 (by rfl) (by kernel_rfl) ?_
  simp only [List.take_succ_cons, List.take_zero, List.drop_succ_cons, List.drop_zero]
  repeat (go_big_quiet_step (fail))
  refine wpQuiet_nil ?_
  refine wpT_eff (by rfl) (by rfl) (by rfl) ?_ ?_
  · intro W_ hK
    have hW := hK.1
    clear hK
    go_simp
    exact ⟨rfl, (qTimes_ok _ _ x1 x1 z27 _ (RI.ext (hS.num 0 rfl) hW) (RI.ext (hS.num 0 rfl) hW) ax1 ax1 E27.out A27).mono fun e w' ⟨v, he, hR, hx⟩ => ⟨v, he, hx, hR⟩⟩
  intro v_ lo27 hi27 hr_
  obtain ⟨W_, hW_⟩ := hr_
  have hv_ : Fc.holds (.ri (z27)) lo27 hi27 v_ W_ := hW_.get
  clear hW_
  obtain ⟨s27, A_27, n27, c27, rfl, -⟩ := RI.opn hv_
  clear hv_
  clear W_
  try simp only [Act.put, List.setIfInBounds_toArray, List.set_cons_succ, List.set_cons_zero]
  refine wpT_eff (by rfl) (by rfl) (by rfl) ?_ ?_
  · intro W_ hK
    have hW := hK.1
    have F_s24 : RI W_ (iv s24 A_24 n24 c24) (3 : Int) := hK.2 3 ((iv s24 A_24 n24 c24), lo24, hi24) (by rfl) (by kernel_rfl)
    have F_s27 : RI W_ (iv s27 A_27 n27 c27) z27 := hK.2 6 ((iv s27 A_27 n27 c27), lo27, hi27) (by rfl) (by kernel_rfl)
    clear hK
    go_simp
    exact ⟨rfl, (qTimes_ok _ _ (3 : Int) z27 z28 _ F_s24 F_s27 (lt_lim64 (by omega) (by omega)) A27 E28.out A28).mono fun e w' ⟨v, he, hR, hx⟩ => ⟨v, he, hx, hR⟩⟩
  intro v_ lo28 hi28 hr_
  obtain ⟨W_, hW_⟩ := hr_
  have hv_ : Fc.holds (.ri (z28)) lo28 hi28 v_ W_ := hW_.get
  clear hW_
  obtain ⟨s28, A_28, n28, c28, rfl, -⟩ := RI.opn hv_
  clear hv_
  clear W_
  try simp only [Act.put, List.setIfInBounds_toArray, List.set_cons_succ, List.set_cons_zero]
  refine wpT_eff (by rfl) (by rfl) (by rfl) ?_ ?_
  · intro W_ hK
    have hW := hK.1
    have F_s23 : RI W_ (iv s23 A_23 n23 c23) z23 := hK.2 2 ((iv s23 A_23 n23 c23), lo23, hi23) (by rfl) (by kernel_rfl)
    have F_s28 : RI W_ (iv s28 A_28 n28 c28) z28 := hK.2 7 ((iv s28 A_28 n28 c28), lo28, hi28) (by rfl) (by kernel_rfl)
    clear hK
    go_simp
    exact ⟨rfl, (rCompare_at _ _ z23 z28 (-1) _ F_s23 F_s28 A23 A28 H2.out).mono fun e w' ⟨he, hx⟩ => ⟨_, he, hx, rfl⟩⟩
  intro v_ lo29 hi29 hr_
  obtain ⟨W_, hW_⟩ := hr_
  obtain rfl : v_ = .int .i64 (-1) := hW_.get
  clear hW_ W_
  try simp only [Act.put, List.setIfInBounds_toArray, List.set_cons_succ, List.set_cons_zero]
  refine wpT_nil ?_
  intro w3 hK
  have hlt_ := hS.lt
  replace hS := hS.mv hK.ext
  replace hS := hS.addI (show RI w3 (iv s23 A_23 n23 c23) z23 from hK.at_ 2 (e := ((iv s23 A_23 n23 c23), lo23, hi23)) (by rfl))
  replace hS := hS.addI (show RI w3 (iv s24 A_24 n24 c24) (3 : Int) from hK.at_ 3 (e := ((iv s24 A_24 n24 c24), lo24, hi24)) (by rfl))
  replace hS := hS.addI (show RI w3 (iv s27 A_27 n27 c27) z27 from hK.at_ 6 (e := ((iv s27 A_27 n27 c27), lo27, hi27)) (by rfl))
  replace hS := hS.addI (show RI w3 (iv s28 A_28 n28 c28) z28 from hK.at_ 7 (e := ((iv s28 A_28 n28 c28), lo28, hi28)) (by rfl))
  clear hK hlt_ hE_ Y3 Y2
  go_wp2
  go_ret
  exact ⟨ret_int (rfl), hS.ext⟩

set_option maxRecDepth 100000 in
set_option maxHeartbeats 1600000 in
theorem qSign_pnz (v0 : Value) (x0 : Int) (v1 : Value) (x1 : Int) (w : World) (hX0 : RI w v0 x0) (ax0 : x0.natAbs < lim) (hX1 : RI w v1 x1) (ax1 : x1.natAbs < lim) (H0 : Hid (0 < x0)) (H1 : Hid (x1 < 0))
    (z23 : Int) (E23 : Hid (z23 = x0 * x0)) (A23 : z23.natAbs < lim)
    (z27 : Int) (E27 : Hid (z27 = x1 * x1)) (A27 : z27.natAbs < lim)
    (z28 : Int) (E28 : Hid (z28 = (3 : Int) * z27)) (A28 : z28.natAbs < lim) (H2 : Hid (cmpZ z23 z28 = 0)) :
    Calls Try.prog 51 #[v0, v1] w fun e w' => e = .returned (.int .i64 (0)) ∧ Ext w w' := by
  have hS := St.start w
  obtain ⟨sx0, Ax0, nx0, cx0, rfl, hY0⟩ := hX0.opn
  replace hS := hS.addI hY0
  clear hX0 hY0
  obtain ⟨sx1, Ax1, nx1, cx1, rfl, hY1⟩ := hX1.opn
  replace hS := hS.addI hY1
  clear hX1 hY1
  have o2 : Own w w.heap.size := Own.of hS.ext (by simp)
  have o3 : Own w (w.heap.size + 1) := Own.of hS.ext (by simp)
  go_enter Try.func51, Try.ntmps51
  go_wp2_with fail
  replace hS := (St.al (St.al hS 24 #[.bool sx0, .slice Ax0 nx0 cx0] (g := w.heap.size) (by simp)) 24 #[.bool sx1, .slice Ax1 nx1 cx1] (g := (w.heap.size + 1)) (by simp))
  generalize ((w.alloc (.cells #[.bool sx0, .slice Ax0 nx0 cx0] 24)).alloc (.cells #[.bool sx1, .slice Ax1 nx1 cx1] 24)) = w1 at hS ⊢
  generalize w.heap.size + 1 = g3 at hS o3 ⊢
  generalize w.heap.size = g2 at hS o2 ⊢
  have Y3 := ExtOf.blk (hS.blk 0 rfl)
  have Y2 := ExtOf.blk (hS.blk 1 rfl)
  have hE_ := hS.ext
  refine wp_region_tame 4 (hasF [(1, .any), (3, .any)]) (Fcs [(1, .eq (.int .i64 (1))), (3, .eq (.int .i64 (-1)))]) (Fcs_stab _) (by kernel_rfl) (by kernel_rfl) ?_
  simp only [List.take_succ_cons, List.take_zero, List.drop_succ_cons, List.drop_zero]
  refine wpT_quiet 1 (by rfl) (by kernel_rfl) ?_
  simp only [List.take_succ_cons, List.take_zero, List.drop_succ_cons, List.drop_zero]
  repeat (go_big_quiet_step (fail))
  refine wpQuiet_nil ?_
  refine wpT_eff (by rfl) (by rfl) (by rfl) ?_ ?_
  · intro W_ hK
    have hW := hK.1
    clear hK
    go_simp
    exact ⟨rfl, (rSign_at _ x0 (1) _ (RI.ext (hS.num 1 rfl) hW) ax0 (cmpZ_pos H0.out)).mono fun e w' ⟨he, hx⟩ => ⟨_, he, hx, rfl⟩⟩
  intro v_ lo9 hi9 hr_
  obtain ⟨W_, hW_⟩ := hr_
  obtain rfl : v_ = .int .i64 (1) := hW_.get
  clear hW_ W_
  try simp only [Act.put, List.setIfInBounds_toArray, List.set_cons_succ, List.set_cons_zero]
  refine wpT_quiet 1 (by rfl) (by kernel_rfl) ?_
  simp only [List.take_succ_cons, List.take_zero, List.drop_succ_cons, List.drop_zero]
  repeat (go_big_quiet_step (fail))
  refine wpQuiet_nil ?_
  refine wpT_eff (by rfl) (by rfl) (by rfl) ?_ ?_
  · intro W_ hK
    have hW := hK.1
    clear hK
    go_simp
    exact ⟨rfl, (rSign_at _ x1 (-1) _ (RI.ext (hS.num 0 rfl) hW) ax1 (cmpZ_neg H1.out)).mono fun e w' ⟨he, hx⟩ => ⟨_, he, hx, rfl⟩⟩
  intro v_ lo11 hi11 hr_
  obtain ⟨W_, hW_⟩ := hr_
  obtain rfl : v_ = .int .i64 (-1) := hW_.get
  clear hW_ W_
  try simp only [Act.put, List.setIfInBounds_toArray, List.set_cons_succ, List.set_cons_zero]
  refine wpT_nil ?_
  intro w2 hK
  have hlt_ := hS.lt
  replace hS := hS.mv hK.ext
  clear hK hlt_ hE_ Y3 Y2
  go_wp2_with fail
  have Y3 := ExtOf.blk (hS.blk 0 rfl)
  have Y2 := ExtOf.blk (hS.blk 1 rfl)
  have hE_ := hS.ext
  refine wp_region_tame 9 (hasF [(2, .any), (3, .any), (6, .any), (7, .any), (8, .any)]) (Fcs [(2, .ri (z23)), (3, .ri ((3 : Int))), (6, .ri (z27)), (7, .ri (z28)), (8, .eq (.int .i64 (0)))]) (Fcs_stab _) (by kernel_rfl) (by kernel_rfl) ?_
  simp only [List.take_succ_cons, List.take_zero, List.drop_succ_cons, List.drop_zero]
  refine wpT_quiet 2 (by rfl) (by kernel_rfl) ?_
  simp only [List.take_succ_cons, List.take_zero, List.drop_succ_cons, List.drop_zero]
  repeat (go_big_quiet_step (fail))
  refine wpQuiet_nil ?_
  refine wpT_eff (by rfl) (by rfl) (by rfl) ?_ ?_
  · intro W_ hK
    have hW := hK.1
    clear hK
    go_simp
    exact ⟨rfl, (qTimes_ok _ _ x0 x0 z23 _ (RI.ext (hS.num 1 rfl) hW) (RI.ext (hS.num 1 rfl) hW) ax0 ax0 E23.out A23).mono fun e w' ⟨v, he, hR, hx⟩ => ⟨v, he, hx, hR⟩⟩
  intro v_ lo23 hi23 hr_
  obtain ⟨W_, hW_⟩ := hr_
  have hv_ : Fc.holds (.ri (z23)) lo23 hi23 v_ W_ := hW_.get
  clear hW_
  obtain ⟨s23, A_23, n23, c23, rfl, -⟩ := RI.opn hv_
  clear hv_
  clear W_
  try simp only [Act.put, List.setIfInBounds_toArray, List.set_cons_succ, List.set_cons_zero]
  refine wpT_eff (by rfl) (by rfl) (by rfl) ?_ ?_
  · intro W_ hK
    have hW := hK.1
    clear hK
    go_simp
    exact ⟨rfl, (qOf_ok (3) _ (by omega) (by omega)).mono fun e w' ⟨v, he, hR, hx⟩ => ⟨v, he, hx, hR⟩⟩
  intro v_ lo24 hi24 hr_
  obtain ⟨W_, hW_⟩ := hr_
  have hv_ : Fc.holds (.ri ((3 : Int))) lo24 hi24 v_ W_ := hW_.get
  clear hW_
  obtain ⟨s24, A_24, n24, c24, rfl, -⟩ := RI.opn hv_
  clear hv_
  clear W_
  try simp only [Act.put, List.setIfInBounds_toArray, List.set_cons_succ, List.set_cons_zero]
  refine wpT_quiet 2 (by rfl) (by kernel_rfl) ?_
  simp only [List.take_succ_cons, List.take_zero, List.drop_succ_cons, List.drop_zero]
  repeat (go_big_quiet_step (fail))
  refine wpQuiet_nil ?_
  refine wpT_eff (by rfl) (by rfl) (by rfl) ?_ ?_
  · intro W_ hK
    have hW := hK.1
    clear hK
    go_simp
    exact ⟨rfl, (qTimes_ok _ _ x1 x1 z27 _ (RI.ext (hS.num 0 rfl) hW) (RI.ext (hS.num 0 rfl) hW) ax1 ax1 E27.out A27).mono fun e w' ⟨v, he, hR, hx⟩ => ⟨v, he, hx, hR⟩⟩
  intro v_ lo27 hi27 hr_
  obtain ⟨W_, hW_⟩ := hr_
  have hv_ : Fc.holds (.ri (z27)) lo27 hi27 v_ W_ := hW_.get
  clear hW_
  obtain ⟨s27, A_27, n27, c27, rfl, -⟩ := RI.opn hv_
  clear hv_
  clear W_
  try simp only [Act.put, List.setIfInBounds_toArray, List.set_cons_succ, List.set_cons_zero]
  refine wpT_eff (by rfl) (by rfl) (by rfl) ?_ ?_
  · intro W_ hK
    have hW := hK.1
    have F_s24 : RI W_ (iv s24 A_24 n24 c24) (3 : Int) := hK.2 3 ((iv s24 A_24 n24 c24), lo24, hi24) (by rfl) (by kernel_rfl)
    have F_s27 : RI W_ (iv s27 A_27 n27 c27) z27 := hK.2 6 ((iv s27 A_27 n27 c27), lo27, hi27) (by rfl) (by kernel_rfl)
    clear hK
    go_simp
    exact ⟨rfl, (qTimes_ok _ _ (3 : Int) z27 z28 _ F_s24 F_s27 (lt_lim64 (by omega) (by omega)) A27 E28.out A28).mono fun e w' ⟨v, he, hR, hx⟩ => ⟨v, he, hx, hR⟩⟩
  intro v_ lo28 hi28 hr_
  obtain ⟨W_, hW_⟩ := hr_
  have hv_ : Fc.holds (.ri (z28)) lo28 hi28 v_ W_ := hW_.get
  clear hW_
  obtain ⟨s28, A_28, n28, c28, rfl, -⟩ := RI.opn hv_
  clear hv_
  clear W_
  try simp only [Act.put, List.setIfInBounds_toArray, List.set_cons_succ, List.set_cons_zero]
  refine wpT_eff (by rfl) (by rfl) (by rfl) ?_ ?_
  · intro W_ hK
    have hW := hK.1
    have F_s23 : RI W_ (iv s23 A_23 n23 c23) z23 := hK.2 2 ((iv s23 A_23 n23 c23), lo23, hi23) (by rfl) (by kernel_rfl)
    have F_s28 : RI W_ (iv s28 A_28 n28 c28) z28 := hK.2 7 ((iv s28 A_28 n28 c28), lo28, hi28) (by rfl) (by kernel_rfl)
    clear hK
    go_simp
    exact ⟨rfl, (rCompare_at _ _ z23 z28 (0) _ F_s23 F_s28 A23 A28 H2.out).mono fun e w' ⟨he, hx⟩ => ⟨_, he, hx, rfl⟩⟩
  intro v_ lo29 hi29 hr_
  obtain ⟨W_, hW_⟩ := hr_
  obtain rfl : v_ = .int .i64 (0) := hW_.get
  clear hW_ W_
  try simp only [Act.put, List.setIfInBounds_toArray, List.set_cons_succ, List.set_cons_zero]
  refine wpT_nil ?_
  intro w3 hK
  have hlt_ := hS.lt
  replace hS := hS.mv hK.ext
  replace hS := hS.addI (show RI w3 (iv s23 A_23 n23 c23) z23 from hK.at_ 2 (e := ((iv s23 A_23 n23 c23), lo23, hi23)) (by rfl))
  replace hS := hS.addI (show RI w3 (iv s24 A_24 n24 c24) (3 : Int) from hK.at_ 3 (e := ((iv s24 A_24 n24 c24), lo24, hi24)) (by rfl))
  replace hS := hS.addI (show RI w3 (iv s27 A_27 n27 c27) z27 from hK.at_ 6 (e := ((iv s27 A_27 n27 c27), lo27, hi27)) (by rfl))
  replace hS := hS.addI (show RI w3 (iv s28 A_28 n28 c28) z28 from hK.at_ 7 (e := ((iv s28 A_28 n28 c28), lo28, hi28)) (by rfl))
  clear hK hlt_ hE_ Y3 Y2
  go_wp2
  go_ret
  exact ⟨ret_int (rfl), hS.ext⟩

set_option maxRecDepth 100000 in
set_option maxHeartbeats 1600000 in
theorem qSign_pnp (v0 : Value) (x0 : Int) (v1 : Value) (x1 : Int) (w : World) (hX0 : RI w v0 x0) (ax0 : x0.natAbs < lim) (hX1 : RI w v1 x1) (ax1 : x1.natAbs < lim) (H0 : Hid (0 < x0)) (H1 : Hid (x1 < 0))
    (z23 : Int) (E23 : Hid (z23 = x0 * x0)) (A23 : z23.natAbs < lim)
    (z27 : Int) (E27 : Hid (z27 = x1 * x1)) (A27 : z27.natAbs < lim)
    (z28 : Int) (E28 : Hid (z28 = (3 : Int) * z27)) (A28 : z28.natAbs < lim) (H2 : Hid (cmpZ z23 z28 = 1)) :
    Calls Try.prog 51 #[v0, v1] w fun e w' => e = .returned (.int .i64 (1)) ∧ Ext w w' := by
  have hS := St.start w
  obtain ⟨sx0, Ax0, nx0, cx0, rfl, hY0⟩ := hX0.opn
  replace hS := hS.addI hY0
  clear hX0 hY0
  obtain ⟨sx1, Ax1, nx1, cx1, rfl, hY1⟩ := hX1.opn
  replace hS := hS.addI hY1
  clear hX1 hY1
  have o2 : Own w w.heap.size := Own.of hS.ext (by simp)
  have o3 : Own w (w.heap.size + 1) := Own.of hS.ext (by simp)
  go_enter Try.func51, Try.ntmps51
  go_wp2_with fail
  replace hS := (St.al (St.al hS 24 #[.bool sx0, .slice Ax0 nx0 cx0] (g := w.heap.size) (by simp)) 24 #[.bool sx1, .slice Ax1 nx1 cx1] (g := (w.heap.size + 1)) (by simp))
  generalize ((w.alloc (.cells #[.bool sx0, .slice Ax0 nx0 cx0] 24)).alloc (.cells #[.bool sx1, .slice Ax1 nx1 cx1] 24)) = w1 at hS ⊢
  generalize w.heap.size + 1 = g3 at hS o3 ⊢
  generalize w.heap.size = g2 at hS o2 ⊢
  have Y3 := ExtOf.blk (hS.blk 0 rfl)
  have Y2 := ExtOf.blk (hS.blk 1 rfl)
  have hE_ := hS.ext
  refine wp_region_tame 4 (hasF [(1, .any), (3, .any)]) (Fcs [(1, .eq (.int .i64 (1))), (3, .eq (.int .i64 (-1)))]) (Fcs_stab _) (by kernel_rfl) (by kernel_rfl) ?_
  simp only [List.take_succ_cons, List.take_zero, List.drop_succ_cons, List.drop_zero]
  refine wpT_quiet 1 (by rfl) (by kernel_rfl) ?_
  simp only [List.take_succ_cons, List.take_zero, List.drop_succ_cons, List.drop_zero]
  repeat (go_big_quiet_step (fail))
  refine wpQuiet_nil ?_
  refine wpT_eff (by rfl) (by rfl) (by rfl) ?_ ?_
  · intro W_ hK
    have hW := hK.1
    clear hK
    go_simp
    exact ⟨rfl, (rSign_at _ x0 (1) _ (RI.ext (hS.num 1 rfl) hW) ax0 (cmpZ_pos H0.out)).mono fun e w' ⟨he, hx⟩ => ⟨_, he, hx, rfl⟩⟩
  intro v_ lo9 hi9 hr_
  obtain ⟨W_, hW_⟩ := hr_
  obtain rfl : v_ = .int .i64 (1) := hW_.get
  clear hW_ W_
  try simp only [Act.put, List.setIfInBounds_toArray, List.set_cons_succ, List.set_cons_zero]
  refine wpT_quiet 1 (by rfl) (by kernel_rfl) ?_
  simp only [List.take_succ_cons, List.take_zero, List.drop_succ_cons, List.drop_zero]
  repeat (go_big_quiet_step (fail))
  refine wpQuiet_nil ?_
  refine wpT_eff (by rfl) (by rfl) (by rfl) ?_ ?_
  · intro W_ hK
    have hW := hK.1
    clear hK
    go_simp
    exact ⟨rfl, (rSign_at _ x1 (-1) _ (RI.ext (hS.num 0 rfl) hW) ax1 (cmpZ_neg H1.out)).mono fun e w' ⟨he, hx⟩ => ⟨_, he, hx, rfl⟩⟩
  intro v_ lo11 hi11 hr_
  obtain ⟨W_, hW_⟩ := hr_
  obtain rfl : v_ = .int .i64 (-1) := hW_.get
  clear hW_ W_
  try simp only [Act.put, List.setIfInBounds_toArray, List.set_cons_succ, List.set_cons_zero]
  refine wpT_nil ?_
  intro w2 hK
  have hlt_ := hS.lt
  replace hS := hS.mv hK.ext
  clear hK hlt_ hE_ Y3 Y2
  go_wp2_with fail
  have Y3 := ExtOf.blk (hS.blk 0 rfl)
  have Y2 := ExtOf.blk (hS.blk 1 rfl)
  have hE_ := hS.ext
  refine wp_region_tame 9 (hasF [(2, .any), (3, .any), (6, .any), (7, .any), (8, .any)]) (Fcs [(2, .ri (z23)), (3, .ri ((3 : Int))), (6, .ri (z27)), (7, .ri (z28)), (8, .eq (.int .i64 (1)))]) (Fcs_stab _) (by kernel_rfl) (by kernel_rfl) ?_
  simp only [List.take_succ_cons, List.take_zero, List.drop_succ_cons, List.drop_zero]
  refine wpT_quiet 2 (by rfl) (by kernel_rfl) ?_
  simp only [List.take_succ_cons, List.take_zero, List.drop_succ_cons, List.drop_zero]
  repeat (go_big_quiet_step (fail))
  refine wpQuiet_nil ?_
  refine wpT_eff (by rfl) (by rfl) (by rfl) ?_ ?_
  · intro W_ hK
    have hW := hK.1
    clear hK
    go_simp
    exact ⟨rfl, (qTimes_ok _ _ x0 x0 z23 _ (RI.ext (hS.num 1 rfl) hW) (RI.ext (hS.num 1 rfl) hW) ax0 ax0 E23.out A23).mono fun e w' ⟨v, he, hR, hx⟩ => ⟨v, he, hx, hR⟩⟩
  intro v_ lo23 hi23 hr_
  obtain ⟨W_, hW_⟩ := hr_
  have hv_ : Fc.holds (.ri (z23)) lo23 hi23 v_ W_ := hW_.get
  clear hW_
  obtain ⟨s23, A_23, n23, c23, rfl, -⟩ := RI.opn hv_
  clear hv_
  clear W_
  try simp only [Act.put, List.setIfInBounds_toArray, List.set_cons_succ, List.set_cons_zero]
  refine wpT_eff (by rfl) (by rfl) (by rfl) ?_ ?_
  · intro W_ hK
    have hW := hK.1
    clear hK
    go_simp
    exact ⟨rfl, (qOf_ok (3) _ (by omega) (by omega)).mono fun e w' ⟨v, he, hR, hx⟩ => ⟨v, he, hx, hR⟩⟩
  intro v_ lo24 hi24 hr_
  obtain ⟨W_, hW_⟩ := hr_
  have hv_ : Fc.holds (.ri ((3 : Int))) lo24 hi24 v_ W_ := hW_.get
  clear hW_
  obtain ⟨s24, A_24, n24, c24, rfl, -⟩ := RI.opn hv_
  clear hv_
  clear W_
  try simp only [Act.put, List.setIfInBounds_toArray, List.set_cons_succ, List.set_cons_zero]
  refine wpT_quiet 2 (by rfl) (by kernel_rfl) ?_
  simp only [List.take_succ_cons, List.take_zero, List.drop_succ_cons, List.drop_zero]
  repeat (go_big_quiet_step (fail))
  refine wpQuiet_nil ?_
  refine wpT_eff (by rfl) (by rfl) (by rfl) ?_ ?_
  · intro W_ hK
    have hW := hK.1
    clear hK
    go_simp
    exact ⟨rfl, (qTimes_ok _ _ x1 x1 z27 _ (RI.ext (hS.num 0 rfl) hW) (RI.ext (hS.num 0 rfl) hW) ax1 ax1 E27.out A27).mono fun e w' ⟨v, he, hR, hx⟩ => ⟨v, he, hx, hR⟩⟩
  intro v_ lo27 hi27 hr_
  obtain ⟨W_, hW_⟩ := hr_
  have hv_ : Fc.holds (.ri (z27)) lo27 hi27 v_ W_ := hW_.get
  clear hW_
  obtain ⟨s27, A_27, n27, c27, rfl, -⟩ := RI.opn hv_
  clear hv_
  clear W_
  try simp only [Act.put, List.setIfInBounds_toArray, List.set_cons_succ, List.set_cons_zero]
  refine wpT_eff (by rfl) (by rfl) (by rfl) ?_ ?_
  · intro W_ hK
    have hW := hK.1
    have F_s24 : RI W_ (iv s24 A_24 n24 c24) (3 : Int) := hK.2 3 ((iv s24 A_24 n24 c24), lo24, hi24) (by rfl) (by kernel_rfl)
    have F_s27 : RI W_ (iv s27 A_27 n27 c27) z27 := hK.2 6 ((iv s27 A_27 n27 c27), lo27, hi27) (by rfl) (by kernel_rfl)
    clear hK
    go_simp
    exact ⟨rfl, (qTimes_ok _ _ (3 : Int) z27 z28 _ F_s24 F_s27 (lt_lim64 (by omega) (by omega)) A27 E28.out A28).mono fun e w' ⟨v, he, hR, hx⟩ => ⟨v, he, hx, hR⟩⟩
  intro v_ lo28 hi28 hr_
  obtain ⟨W_, hW_⟩ := hr_
  have hv_ : Fc.holds (.ri (z28)) lo28 hi28 v_ W_ := hW_.get
  clear hW_
  obtain ⟨s28, A_28, n28, c28, rfl, -⟩ := RI.opn hv_
  clear hv_
  clear W_
  try simp only [Act.put, List.setIfInBounds_toArray, List.set_cons_succ, List.set_cons_zero]
  refine wpT_eff (by rfl) (by rfl) (by rfl) ?_ ?_
  · intro W_ hK
    have hW := hK.1
    have F_s23 : RI W_ (iv s23 A_23 n23 c23) z23 := hK.2 2 ((iv s23 A_23 n23 c23), lo23, hi23) (by rfl) (by kernel_rfl)
    have F_s28 : RI W_ (iv s28 A_28 n28 c28) z28 := hK.2 7 ((iv s28 A_28 n28 c28), lo28, hi28) (by rfl) (by kernel_rfl)
    clear hK
    go_simp
    exact ⟨rfl, (rCompare_at _ _ z23 z28 (1) _ F_s23 F_s28 A23 A28 H2.out).mono fun e w' ⟨he, hx⟩ => ⟨_, he, hx, rfl⟩⟩
  intro v_ lo29 hi29 hr_
  obtain ⟨W_, hW_⟩ := hr_
  obtain rfl : v_ = .int .i64 (1) := hW_.get
  clear hW_ W_
  try simp only [Act.put, List.setIfInBounds_toArray, List.set_cons_succ, List.set_cons_zero]
  refine wpT_nil ?_
  intro w3 hK
  have hlt_ := hS.lt
  replace hS := hS.mv hK.ext
  replace hS := hS.addI (show RI w3 (iv s23 A_23 n23 c23) z23 from hK.at_ 2 (e := ((iv s23 A_23 n23 c23), lo23, hi23)) (by rfl))
  replace hS := hS.addI (show RI w3 (iv s24 A_24 n24 c24) (3 : Int) from hK.at_ 3 (e := ((iv s24 A_24 n24 c24), lo24, hi24)) (by rfl))
  replace hS := hS.addI (show RI w3 (iv s27 A_27 n27 c27) z27 from hK.at_ 6 (e := ((iv s27 A_27 n27 c27), lo27, hi27)) (by rfl))
  replace hS := hS.addI (show RI w3 (iv s28 A_28 n28 c28) z28 from hK.at_ 7 (e := ((iv s28 A_28 n28 c28), lo28, hi28)) (by rfl))
  clear hK hlt_ hE_ Y3 Y2
  go_wp2
  go_ret
  exact ⟨ret_int (rfl), hS.ext⟩

set_option maxRecDepth 100000 in
set_option maxHeartbeats 1600000 in
theorem qSign_pz (v0 : Value) (x0 : Int) (v1 : Value) (x1 : Int) (w : World) (hX0 : RI w v0 x0) (ax0 : x0.natAbs < lim) (hX1 : RI w v1 x1) (ax1 : x1.natAbs < lim) (H0 : Hid (0 < x0)) (H1 : Hid (x1 = 0))
      :
    Calls Try.prog 51 #[v0, v1] w fun e w' => e = .returned (.int .i64 (1)) ∧ Ext w w' := by
  have hS := St.start w
  obtain ⟨sx0, Ax0, nx0, cx0, rfl, hY0⟩ := hX0.opn
  replace hS := hS.addI hY0
  clear hX0 hY0
  obtain ⟨sx1, Ax1, nx1, cx1, rfl, hY1⟩ := hX1.opn
  replace hS := hS.addI hY1
  clear hX1 hY1
  have o2 : Own w w.heap.size := Own.of hS.ext (by simp)
  have o3 : Own w (w.heap.size + 1) := Own.of hS.ext (by simp)
  go_enter Try.func51, Try.ntmps51
  go_wp2_with fail
  replace hS := (St.al (St.al hS 24 #[.bool sx0, .slice Ax0 nx0 cx0] (g := w.heap.size) (by simp)) 24 #[.bool sx1, .slice Ax1 nx1 cx1] (g := (w.heap.size + 1)) (by simp))
  generalize ((w.alloc (.cells #[.bool sx0, .slice Ax0 nx0 cx0] 24)).alloc (.cells #[.bool sx1, .slice Ax1 nx1 cx1] 24)) = w1 at hS ⊢
  generalize w.heap.size + 1 = g3 at hS o3 ⊢
  generalize w.heap.size = g2 at hS o2 ⊢
  have Y3 := ExtOf.blk (hS.blk 0 rfl)
  have Y2 := ExtOf.blk (hS.blk 1 rfl)
  have hE_ := hS.ext
  refine wp_region_tame 4 (hasF [(1, .any), (3, .any)]) (Fcs [(1, .eq (.int .i64 (1))), (3, .eq (.int .i64 (0)))]) (Fcs_stab _) (by kernel_rfl) (by kernel_rfl) ?_
  simp only [List.take_succ_cons, List.take_zero, List.drop_succ_cons, List.drop_zero]
  refine wpT_quiet 1 (by rfl) (by kernel_rfl) ?_
  simp only [List.take_succ_cons, List.take_zero, List.drop_succ_cons, List.drop_zero]
  repeat (go_big_quiet_step (fail))
  refine wpQuiet_nil ?_
  refine wpT_eff (by rfl) (by rfl) (by rfl) ?_ ?_
  · intro W_ hK
    have hW := hK.1
    clear hK
    go_simp
    exact ⟨rfl, (rSign_at _ x0 (1) _ (RI.ext (hS.num 1 rfl) hW) ax0 (cmpZ_pos H0.out)).mono fun e w' ⟨he, hx⟩ => ⟨_, he, hx, rfl⟩⟩
  intro v_ lo9 hi9 hr_
  obtain ⟨W_, hW_⟩ := hr_
  obtain rfl : v_ = .int .i64 (1) := hW_.get
  clear hW_ W_
  try simp only [Act.put, List.setIfInBounds_toArray, List.set_cons_succ, List.set_cons_zero]
  refine wpT_quiet 1 (by rfl) (by kernel_rfl) ?_
  simp only [List.take_succ_cons, List.take_zero, List.drop_succ_cons, List.drop_zero]
  repeat (go_big_quiet_step (fail))
  refine wpQuiet_nil ?_
  refine wpT_eff (by rfl) (by rfl) (by rfl) ?_ ?_
  · intro W_ hK
    have hW := hK.1
    clear hK
    go_simp
    exact ⟨rfl, (rSign_at _ x1 (0) _ (RI.ext (hS.num 0 rfl) hW) ax1 (cmpZ_zero H1.out)).mono fun e w' ⟨he, hx⟩ => ⟨_, he, hx, rfl⟩⟩
  intro v_ lo11 hi11 hr_
  obtain ⟨W_, hW_⟩ := hr_
  obtain rfl : v_ = .int .i64 (0) := hW_.get
  clear hW_ W_
  try simp only [Act.put, List.setIfInBounds_toArray, List.set_cons_succ, List.set_cons_zero]
  refine wpT_nil ?_
  intro w2 hK
  have hlt_ := hS.lt
  replace hS := hS.mv hK.ext
  clear hK hlt_ hE_ Y3 Y2
  go_wp2
  go_ret
  exact ⟨ret_int (rfl), hS.ext⟩

set_option maxRecDepth 100000 in
set_option maxHeartbeats 1600000 in
theorem qSign_pp (v0 : Value) (x0 : Int) (v1 : Value) (x1 : Int) (w : World) (hX0 : RI w v0 x0) (ax0 : x0.natAbs < lim) (hX1 : RI w v1 x1) (ax1 : x1.natAbs < lim) (H0 : Hid (0 < x0)) (H1 : Hid (0 < x1))
      :
    Calls Try.prog 51 #[v0, v1] w fun e w' => e = .returned (.int .i64 (1)) ∧ Ext w w' := by
  have hS := St.start w
  obtain ⟨sx0, Ax0, nx0, cx0, rfl, hY0⟩ := hX0.opn
  replace hS := hS.addI hY0
  clear hX0 hY0
  obtain ⟨sx1, Ax1, nx1, cx1, rfl, hY1⟩ := hX1.opn
  replace hS := hS.addI hY1
  clear hX1 hY1
  have o2 : Own w w.heap.size := Own.of hS.ext (by simp)
  have o3 : Own w (w.heap.size + 1) := Own.of hS.ext (by simp)
  go_enter Try.func51, Try.ntmps51
  go_wp2_with fail
  replace hS := (St.al (St.al hS 24 #[.bool sx0, .slice Ax0 nx0 cx0] (g := w.heap.size) (by simp)) 24 #[.bool sx1, .slice Ax1 nx1 cx1] (g := (w.heap.size + 1)) (by simp))
  generalize ((w.alloc (.cells #[.bool sx0, .slice Ax0 nx0 cx0] 24)).alloc (.cells #[.bool sx1, .slice Ax1 nx1 cx1] 24)) = w1 at hS ⊢
  generalize w.heap.size + 1 = g3 at hS o3 ⊢
  generalize w.heap.size = g2 at hS o2 ⊢
  have Y3 := ExtOf.blk (hS.blk 0 rfl)
  have Y2 := ExtOf.blk (hS.blk 1 rfl)
  have hE_ := hS.ext
  refine wp_region_tame 4 (hasF [(1, .any), (3, .any)]) (Fcs [(1, .eq (.int .i64 (1))), (3, .eq (.int .i64 (1)))]) (Fcs_stab _) (by kernel_rfl) (by kernel_rfl) ?_
  simp only [List.take_succ_cons, List.take_zero, List.drop_succ_cons, List.drop_zero]
  refine wpT_quiet 1 (by rfl) (by kernel_rfl) ?_
  simp only [List.take_succ_cons, List.take_zero, List.drop_succ_cons, List.drop_zero]
  repeat (go_big_quiet_step (fail))
  refine wpQuiet_nil ?_
  refine wpT_eff (by rfl) (by rfl) (by rfl) ?_ ?_
  · intro W_ hK
    have hW := hK.1
    clear hK
    go_simp
    exact ⟨rfl, (rSign_at _ x0 (1) _ (RI.ext (hS.num 1 rfl) hW) ax0 (cmpZ_pos H0.out)).mono fun e w' ⟨he, hx⟩ => ⟨_, he, hx, rfl⟩⟩
  intro v_ lo9 hi9 hr_
  obtain ⟨W_, hW_⟩ := hr_
  obtain rfl : v_ = .int .i64 (1) := hW_.get
  clear hW_ W_
  try simp only [Act.put, List.setIfInBounds_toArray, List.set_cons_succ, List.set_cons_zero]
  refine wpT_quiet 1 (by rfl) (by kernel_rfl) ?_
  simp only [List.take_succ_cons, List.take_zero, List.drop_succ_cons, List.drop_zero]
  repeat (go_big_quiet_step (fail))
  refine wpQuiet_nil ?_
  refine wpT_eff (by rfl) (by rfl) (by rfl) ?_ ?_
  · intro W_ hK
    have hW := hK.1
    clear hK
    go_simp
    exact ⟨rfl, (rSign_at _ x1 (1) _ (RI.ext (hS.num 0 rfl) hW) ax1 (cmpZ_pos H1.out)).mono fun e w' ⟨he, hx⟩ => ⟨_, he, hx, rfl⟩⟩
  intro v_ lo11 hi11 hr_
  obtain ⟨W_, hW_⟩ := hr_
  obtain rfl : v_ = .int .i64 (1) := hW_.get
  clear hW_ W_
  try simp only [Act.put, List.setIfInBounds_toArray, List.set_cons_succ, List.set_cons_zero]
  refine wpT_nil ?_
  intro w2 hK
  have hlt_ := hS.lt
  replace hS := hS.mv hK.ext
  clear hK hlt_ hE_ Y3 Y2
  go_wp2
  go_ret
  exact ⟨ret_int (rfl), hS.ext⟩

end Go.Proofs.Ytjeijmnhbckjdaa

/- The sign of a + b sqrt 3: the contract. -/
namespace Go.Proofs.Ytjeijmnhbckjdaa
open Go.RowKit
set_option linter.unusedVariables false

theorem sg_n {x : Int} (h : x < 0) : sg x = -1 := by simp [sg, h]
theorem sg_z {x : Int} (h : x = 0) : sg x = 0 := by subst h; rfl
theorem sg_p {x : Int} (h : 0 < x) : sg x = 1 := by unfold sg; rw [if_neg (by omega), if_pos h]
theorem sgn3_of {x y a b : Int} (ha : sg x = a) (hb : sg y = b) : sgn3 x y = if 0 ≤ a * b then max (-1) (min 1 (a + b)) else cm (x * x) (3 * (y * y)) * a := by unfold sgn3; rw [ha, hb]
theorem qSign_ok (v u : Value) (x y : Int) (n : Nat) (w : World) (hX : RI w v x) (hY : RI w u y) (ax : x.natAbs < 2 ^ n) (ay : y.natAbs < 2 ^ n) (hn : n + n + 2 ≤ 12800) :
    Calls Try.prog 51 #[v, u] w fun e w' => e = .returned (.int .i64 (sgn3 x y)) ∧ Ext w w' := by
  have lx := lim_of ax (by omega)
  have ly := lim_of ay (by omega)
  have b1 := lim_of (lt_mul ax ax) (by omega)
  have b2 := lim_of (lt_mul ay ay) (by omega)
  have b3 := lim_of (lt_mul (show (3 : Int).natAbs < 2 ^ 2 by decide) (lt_mul ay ay)) (by omega)
  have hc : cmpZ (x * x) (3 * (y * y)) = -1 ∨ cmpZ (x * x) (3 * (y * y)) = 0 ∨ cmpZ (x * x) (3 * (y * y)) = 1 := by
    unfold cmpZ
    split
    · exact .inl rfl
    · split
      · exact .inr (.inr rfl)
      · exact .inr (.inl rfl)
  have ec : cm (x * x) (3 * (y * y)) = cmpZ (x * x) (3 * (y * y)) := rfl
  rcases Int.lt_trichotomy x 0 with h | h | h <;> rcases Int.lt_trichotomy y 0 with k | k | k
  · rw [show sgn3 x y = -1 by rw [sgn3_of (sg_n h) (sg_n k), if_pos (by decide)]; decide]
    exact qSign_nn v x u y w hX lx hY ly (Lib.hid h) (Lib.hid k)
  · rw [show sgn3 x y = -1 by rw [sgn3_of (sg_n h) (sg_z k), if_pos (by decide)]; decide]
    exact qSign_nz v x u y w hX lx hY ly (Lib.hid h) (Lib.hid k)
  · have e : sgn3 x y = cmpZ (x * x) (3 * (y * y)) * -1 := by rw [sgn3_of (sg_n h) (sg_p k), if_neg (by decide), ec]
    rw [e]
    rcases hc with c | c | c
    · rw [c]; exact qSign_npn v x u y w hX lx hY ly (Lib.hid h) (Lib.hid k) _ (Lib.hid rfl) b1 _ (Lib.hid rfl) b2 _ (Lib.hid rfl) b3 (Lib.hid c)
    · rw [c]; exact qSign_npz v x u y w hX lx hY ly (Lib.hid h) (Lib.hid k) _ (Lib.hid rfl) b1 _ (Lib.hid rfl) b2 _ (Lib.hid rfl) b3 (Lib.hid c)
    · rw [c]; exact qSign_npp v x u y w hX lx hY ly (Lib.hid h) (Lib.hid k) _ (Lib.hid rfl) b1 _ (Lib.hid rfl) b2 _ (Lib.hid rfl) b3 (Lib.hid c)
  · rw [show sgn3 x y = -1 by rw [sgn3_of (sg_z h) (sg_n k), if_pos (by decide)]; decide]
    exact qSign_zn v x u y w hX lx hY ly (Lib.hid h) (Lib.hid k)
  · rw [show sgn3 x y = 0 by rw [sgn3_of (sg_z h) (sg_z k), if_pos (by decide)]; decide]
    exact qSign_zz v x u y w hX lx hY ly (Lib.hid h) (Lib.hid k)
  · rw [show sgn3 x y = 1 by rw [sgn3_of (sg_z h) (sg_p k), if_pos (by decide)]; decide]
    exact qSign_zp v x u y w hX lx hY ly (Lib.hid h) (Lib.hid k)
  · have e : sgn3 x y = cmpZ (x * x) (3 * (y * y)) * 1 := by rw [sgn3_of (sg_p h) (sg_n k), if_neg (by decide), ec]
    rw [e]
    rcases hc with c | c | c
    · rw [c]; exact qSign_pnn v x u y w hX lx hY ly (Lib.hid h) (Lib.hid k) _ (Lib.hid rfl) b1 _ (Lib.hid rfl) b2 _ (Lib.hid rfl) b3 (Lib.hid c)
    · rw [c]; exact qSign_pnz v x u y w hX lx hY ly (Lib.hid h) (Lib.hid k) _ (Lib.hid rfl) b1 _ (Lib.hid rfl) b2 _ (Lib.hid rfl) b3 (Lib.hid c)
    · rw [c]; exact qSign_pnp v x u y w hX lx hY ly (Lib.hid h) (Lib.hid k) _ (Lib.hid rfl) b1 _ (Lib.hid rfl) b2 _ (Lib.hid rfl) b3 (Lib.hid c)
  · rw [show sgn3 x y = 1 by rw [sgn3_of (sg_p h) (sg_z k), if_pos (by decide)]; decide]
    exact qSign_pz v x u y w hX lx hY ly (Lib.hid h) (Lib.hid k)
  · rw [show sgn3 x y = 1 by rw [sgn3_of (sg_p h) (sg_p k), if_pos (by decide)]; decide]
    exact qSign_pp v x u y w hX lx hY ly (Lib.hid h) (Lib.hid k)
end Go.Proofs.Ytjeijmnhbckjdaa
