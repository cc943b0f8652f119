/- Words and contracts that the laws share, several texts in one. -/
import Derived.Test.YtclkkoiaaddllaaGreatNA
import Derived.Test.YtclkkoiaaddllaaGreatMB
/- Contracts of the calculator: multiples, quotients. -/
namespace Go.Proofs.YtclkkoiaaddllaaGreat
open Go.RowKit
set_option linter.unusedVariables false

theorem one_yes (v : Value) (z : Int) (w : World) (hX : RI w v z) (h : z = 1) :
    Calls Tryz.prog 81 #[v] w fun e w' => e = .returned (.bool true) ∧ Ext w w' := by
  have := one_any v z w hX
  rwa [show decide (z = 1) = true by simpa using h] at this
theorem one_no (v : Value) (z : Int) (w : World) (hX : RI w v z) (h : z ≠ 1) :
    Calls Tryz.prog 81 #[v] w fun e w' => e = .returned (.bool false) ∧ Ext w w' := by
  have := one_any v z w hX
  rwa [show decide (z = 1) = false by simpa using h] at this
theorem Divide_in (v u : Value) (x y q r : Int) (w : World) (hX : RI w v x) (hY : RI w u y) (ax : x.natAbs < lim) (ay : y.natAbs < lim) (hy0 : y ≠ 0) (hq : q = x / y) (hr : r = x % y) :
    Calls Tryz.prog 93 #[v, u] w fun e w' => ∃ v, e = .returned v ∧ RetD q r 0 v w' ∧ Ext w w' := by
  subst hq hr
  exact Divide_ok v u x y w hX hY ax ay hy0

set_option maxRecDepth 100000 in
set_option maxHeartbeats 4000000 in
theorem escale_ok (gc : Nat) (v1 : Value) (x1 : Int) (m2 : Int) (w : World) (hc : Calm w gc) (hX1 : RI w v1 x1) (ax1 : x1.natAbs < lim) (l2 : -9223372036854775808 ≤ m2) (u2 : m2 ≤ 9223372036854775807)
    (z11 : Int) (E11 : Hid (z11 = x1 * (m2))) (A11 : z11.natAbs < lim)  :
    Calls Tryz.prog 89 #[.pointer (some ⟨gc, 0, none⟩), v1, .int .i64 m2] w fun e w' => ∃ v, e = .returned v ∧ RI w' v z11 ∧ Ext w w' := by
  have hS := St.start w
  obtain ⟨sx1, Ax1, nx1, cx1, rfl, hY1⟩ := hX1.opn
  replace hS := hS.addI hY1
  clear hX1 hY1
  replace hS := hS.addB hc trivial
  clear hc
  have o4 : Own w w.heap.size := Own.of hS.ext (by simp)
  have o6 : Own w (w.heap.size + 1) := Own.of hS.ext (by simp)
  go_enter Tryz.func89, Tryz.ntmps89
  go_wp2_with fail
  replace hS := (St.al (St.al hS 30 #[.bool sx1, .slice Ax1 nx1 cx1] (g := w.heap.size) (by simp)) 30 #[.bool false, .slice none 0 0] (g := (w.heap.size + 1)) (by simp))
  generalize ((w.alloc (.cells #[.bool sx1, .slice Ax1 nx1 cx1] 30)).alloc (.cells #[.bool false, .slice none 0 0] 30)) = w1 at hS ⊢
  generalize w.heap.size + 1 = g6 at hS o6 ⊢
  generalize w.heap.size = g4 at hS o4 ⊢
  have Y4 := ExtOf.blk (hS.blk 1 rfl)
  have hE_ := hS.ext
  refine wp_region_tame 5 (hasF [(3, .any), (4, .any)]) (Fcs [(3, .ri ((m2))), (4, .ri (z11))]) (Fcs_stab _) (by kernel_rfl) (by kernel_rfl) ?_
  simp only [List.take_succ_cons, List.take_zero, List.drop_succ_cons, List.drop_zero]
  refine wpT_quiet 3 (by rfl) (by kernel_rfl) ?_
  simp only [List.take_succ_cons, List.take_zero, List.drop_succ_cons, List.drop_zero]
  repeat (go_big_quiet_step (fail))
  refine wpQuiet_nil ?_
  refine wpT_eff (by rfl) (by rfl) (by rfl) ?_ ?_
  · intro W_ hK
    have hW := hK.1
    clear hK
    go_simp
    exact ⟨rfl, (Of_any (m2) _ l2 u2).mono fun e w' ⟨v, he, hR, hx⟩ => ⟨v, he, hx, hR⟩⟩
  intro v_ lo10 hi10 hr_
  obtain ⟨W_, hW_⟩ := hr_
  have hv_ : Fc.holds (.ri ((m2))) lo10 hi10 v_ W_ := hW_.get
  clear hW_
  obtain ⟨s10, A_10, n10, c10, rfl, -⟩ := RI.opn hv_
  clear hv_
  clear W_
  try simp only [Act.put, List.setIfInBounds_toArray, List.set_cons_succ, List.set_cons_zero]
  refine wpT_eff (by rfl) (by rfl) (by rfl) ?_ ?_
  · intro W_ hK
    have hW := hK.1
    have F_s10 : RI W_ (iv s10 A_10 n10 c10) (m2) := hK.2 3 ((iv s10 A_10 n10 c10), lo10, hi10) (by rfl) (by kernel_rfl)
    clear hK
    go_simp
    exact ⟨rfl, (emul_ok gc _ _ x1 (m2) z11 _ (Blk.ext (hS.blk 2 rfl) hW) (RI.ext (hS.num 0 rfl) hW) F_s10 ax1 (lt_lim64 l2 u2) E11.out A11).mono fun e w' ⟨v, he, hR, hx⟩ => ⟨v, he, hx, hR⟩⟩
  intro v_ lo11 hi11 hr_
  obtain ⟨W_, hW_⟩ := hr_
  have hv_ : Fc.holds (.ri (z11)) lo11 hi11 v_ W_ := hW_.get
  clear hW_
  obtain ⟨s11, A_11, n11, c11, rfl, -⟩ := RI.opn hv_
  clear hv_
  clear W_
  try simp only [Act.put, List.setIfInBounds_toArray, List.set_cons_succ, List.set_cons_zero]
  refine wpT_nil ?_
  intro w2 hK
  have hlt_ := hS.lt
  replace hS := hS.mv hK.ext
  replace hS := hS.addI (show RI w2 (iv s10 A_10 n10 c10) (m2) from hK.at_ 3 (e := ((iv s10 A_10 n10 c10), lo10, hi10)) (by rfl))
  replace hS := hS.addI (show RI w2 (iv s11 A_11 n11 c11) z11 from hK.at_ 4 (e := ((iv s11 A_11 n11 c11), lo11, hi11)) (by rfl))
  clear hK hlt_ hE_ Y4
  have k_1 := (hS.blk 0 rfl).cell
  have k_2 := (hS.blk 0 rfl).frozen
  go_wp2
  replace hS := (St.put (W' := ((w2.setCell ⟨g6, 0, none⟩ (.bool s11)).setCell ⟨g6, 1, none⟩ (.slice A_11 n11 c11))) hS 0 0 [.bool s11, .slice A_11 n11 c11] (cs' := #[.bool s11, .slice A_11 n11 c11]) (bs' := _) rfl o6 rfl rfl rfl rfl)
  exact bp_int1 rfl rfl rfl (hS.blk 0 rfl) ⟨_, rfl, (hS.num 0 rfl), hS.ext⟩

set_option maxRecDepth 100000 in
set_option maxHeartbeats 4000000 in
theorem ediv_one (gc : Nat) (v1 : Value) (x1 : Int) (v2 : Value) (x2 : Int) (w : World) (hc : Calm w gc) (hX1 : RI w v1 x1) (ax1 : x1.natAbs < lim) (hX2 : RI w v2 x2) (ax2 : x2.natAbs < lim) (H1 : Hid (x2 = 1))
      :
    Calls Tryz.prog 88 #[.pointer (some ⟨gc, 0, none⟩), v1, v2] w fun e w' => ∃ v, e = .returned v ∧ RI w' v x1 ∧ Ext w w' := by
  have hS := St.start w
  obtain ⟨sx1, Ax1, nx1, cx1, rfl, hY1⟩ := hX1.opn
  replace hS := hS.addI hY1
  clear hX1 hY1
  obtain ⟨sx2, Ax2, nx2, cx2, rfl, hY2⟩ := hX2.opn
  replace hS := hS.addI hY2
  clear hX2 hY2
  replace hS := hS.addB hc trivial
  clear hc
  have o4 : Own w w.heap.size := Own.of hS.ext (by simp)
  have o5 : Own w (w.heap.size + 1) := Own.of hS.ext (by simp)
  have o6 : Own w (w.heap.size + 2) := Own.of hS.ext (by simp)
  have hT1 := (St.al (St.al (St.al hS 30 #[.bool sx1, .slice Ax1 nx1 cx1] (g := w.heap.size) (by simp)) 30 #[.bool sx2, .slice Ax2 nx2 cx2] (g := (w.heap.size + 1)) (by simp)) 30 #[.bool false, .slice none 0 0] (g := (w.heap.size + 2)) (by simp))
  have k_1 := (hT1.blk 1 rfl).cell
  go_enter Tryz.func88, Tryz.ntmps88
  go_wp2_with fail
  clear k_1
  clear hT1
  replace hS := (St.al (St.al (St.al hS 30 #[.bool sx1, .slice Ax1 nx1 cx1] (g := w.heap.size) (by simp)) 30 #[.bool sx2, .slice Ax2 nx2 cx2] (g := (w.heap.size + 1)) (by simp)) 30 #[.bool false, .slice none 0 0] (g := (w.heap.size + 2)) (by simp))
  generalize (((w.alloc (.cells #[.bool sx1, .slice Ax1 nx1 cx1] 30)).alloc (.cells #[.bool sx2, .slice Ax2 nx2 cx2] 30)).alloc (.cells #[.bool false, .slice none 0 0] 30)) = w1 at hS ⊢
  generalize w.heap.size + 2 = g6 at hS o6 ⊢
  generalize w.heap.size + 1 = g5 at hS o5 ⊢
  generalize w.heap.size = g4 at hS o4 ⊢
  refine (one_yes _ x2 _ (hS.num 0 rfl) H1.out).mono ?_
  rintro e w2 ⟨rfl, hx_⟩
  replace hS := hS.mv hx_
  clear hx_
  have k_2 := (hS.blk 2 rfl).cell
  go_wp2_with fail
  clear k_2
  refine (eclone_any _ x1 _ (hS.num 1 rfl) ax1).mono ?_
  rintro e w3 ⟨v_, rfl, hv_, hx_⟩
  replace hS := hS.mv hx_
  clear hx_
  obtain ⟨s13, A_13, n13, c13, rfl, f_s13⟩ := RI.opn hv_
  clear hv_
  replace hS := hS.addI f_s13
  clear f_s13
  have k_3 := (hS.blk 0 rfl).cell
  have k_4 := (hS.blk 0 rfl).frozen
  go_wp2
  replace hS := (St.put (W' := ((w3.setCell ⟨g6, 0, none⟩ (.bool s13)).setCell ⟨g6, 1, none⟩ (.slice A_13 n13 c13))) hS 0 0 [.bool s13, .slice A_13 n13 c13] (cs' := #[.bool s13, .slice A_13 n13 c13]) (bs' := _) rfl o6 rfl rfl rfl rfl)
  exact bp_int1 rfl rfl rfl (hS.blk 0 rfl) ⟨_, rfl, (hS.num 0 rfl), hS.ext⟩

set_option maxRecDepth 100000 in
set_option maxHeartbeats 4000000 in
theorem ediv_ne (gc : Nat) (v1 : Value) (x1 : Int) (v2 : Value) (x2 : Int) (w : World) (hc : Calm w gc) (hX1 : RI w v1 x1) (ax1 : x1.natAbs < lim) (hX2 : RI w v2 x2) (ax2 : x2.natAbs < lim) (H1 : Hid (x2 ≠ 1))
    (z17q : Int) (E17q : Hid (z17q = x1 / x2)) (A17q : z17q.natAbs < lim)
    (z17r : Int) (E17r : Hid (z17r = x1 % x2))
    (N17 : Hid (x2 ≠ 0))  :
    Calls Tryz.prog 88 #[.pointer (some ⟨gc, 0, none⟩), v1, v2] w fun e w' => ∃ v, e = .returned v ∧ RI w' v z17q ∧ Ext w w' := by
  have hS := St.start w
  obtain ⟨sx1, Ax1, nx1, cx1, rfl, hY1⟩ := hX1.opn
  replace hS := hS.addI hY1
  clear hX1 hY1
  obtain ⟨sx2, Ax2, nx2, cx2, rfl, hY2⟩ := hX2.opn
  replace hS := hS.addI hY2
  clear hX2 hY2
  replace hS := hS.addB hc trivial
  clear hc
  have o4 : Own w w.heap.size := Own.of hS.ext (by simp)
  have o5 : Own w (w.heap.size + 1) := Own.of hS.ext (by simp)
  have o6 : Own w (w.heap.size + 2) := Own.of hS.ext (by simp)
  have hT1 := (St.al (St.al (St.al hS 30 #[.bool sx1, .slice Ax1 nx1 cx1] (g := w.heap.size) (by simp)) 30 #[.bool sx2, .slice Ax2 nx2 cx2] (g := (w.heap.size + 1)) (by simp)) 30 #[.bool false, .slice none 0 0] (g := (w.heap.size + 2)) (by simp))
  have k_1 := (hT1.blk 1 rfl).cell
  go_enter Tryz.func88, Tryz.ntmps88
  go_wp2_with fail
  clear k_1
  clear hT1
  replace hS := (St.al (St.al (St.al hS 30 #[.bool sx1, .slice Ax1 nx1 cx1] (g := w.heap.size) (by simp)) 30 #[.bool sx2, .slice Ax2 nx2 cx2] (g := (w.heap.size + 1)) (by simp)) 30 #[.bool false, .slice none 0 0] (g := (w.heap.size + 2)) (by simp))
  generalize (((w.alloc (.cells #[.bool sx1, .slice Ax1 nx1 cx1] 30)).alloc (.cells #[.bool sx2, .slice Ax2 nx2 cx2] 30)).alloc (.cells #[.bool false, .slice none 0 0] 30)) = w1 at hS ⊢
  generalize w.heap.size + 2 = g6 at hS o6 ⊢
  generalize w.heap.size + 1 = g5 at hS o5 ⊢
  generalize w.heap.size = g4 at hS o4 ⊢
  refine (one_no _ x2 _ (hS.num 0 rfl) H1.out).mono ?_
  rintro e w2 ⟨rfl, hx_⟩
  replace hS := hS.mv hx_
  clear hx_
  have k_2 := (hS.blk 2 rfl).cell
  have k_3 := (hS.blk 1 rfl).cell
  go_wp2_with fail
  clear k_2 k_3
  refine (Divide_in _ _ x1 x2 z17q z17r _ (hS.num 1 rfl) (hS.num 0 rfl) ax1 ax2 N17.out E17q.out E17r.out).mono ?_
  rintro e w3 ⟨v_, rfl, hv_, hx_⟩
  replace hS := hS.mv hx_
  clear hx_
  obtain ⟨_, _, rfl, hv1_, hv2_⟩ := hv_
  obtain ⟨s17a, A_17a, n17a, c17a, rfl, f_s17a⟩ := RI.opn hv1_
  obtain ⟨s17b, A_17b, n17b, c17b, rfl, f_s17b⟩ := RI.opn hv2_
  clear hv1_ hv2_
  replace hS := hS.addI f_s17a
  clear f_s17a
  replace hS := hS.addI f_s17b
  clear f_s17b
  have o7 : Own w w3.heap.size := Own.of hS.ext (by simp)
  have o8 : Own w (w3.heap.size + 1) := Own.of hS.ext (by simp)
  have hT2 := (St.al (St.al hS 30 #[.bool false, .slice none 0 0] (g := w3.heap.size) (by simp)) 30 #[.bool false, .slice none 0 0] (g := (w3.heap.size + 1)) (by simp))
  have k_4 := (hT2.blk 1 rfl).cell
  have k_5 := (hT2.blk 1 rfl).frozen
  have hT3 := (St.al (St.al hS 30 #[.bool s17a, .slice A_17a n17a c17a] (g := w3.heap.size) (by simp)) 30 #[.bool false, .slice none 0 0] (g := (w3.heap.size + 1)) (by simp))
  have k_6 := (hT3.blk 0 rfl).cell
  have k_7 := (hT3.blk 0 rfl).frozen
  have hT4 := (St.al (St.al hS 30 #[.bool s17a, .slice A_17a n17a c17a] (g := w3.heap.size) (by simp)) 30 #[.bool s17b, .slice A_17b n17b c17b] (g := (w3.heap.size + 1)) (by simp))
  have k_8 := (hT4.blk 1 rfl).cell
  go_wp2_with fail
  clear k_4 k_5 k_6 k_7 k_8
  clear hT2 hT3 hT4
  replace hS := (St.al (St.al hS 30 #[.bool s17a, .slice A_17a n17a c17a] (g := w3.heap.size) (by simp)) 30 #[.bool s17b, .slice A_17b n17b c17b] (g := (w3.heap.size + 1)) (by simp))
  generalize ((w3.alloc (.cells #[.bool s17a, .slice A_17a n17a c17a] 30)).alloc (.cells #[.bool s17b, .slice A_17b n17b c17b] 30)) = w4 at hS ⊢
  generalize w3.heap.size + 1 = g8 at hS o8 ⊢
  generalize w3.heap.size = g7 at hS o7 ⊢
  refine (keep_ok gc _ z17q _ (hS.blk 5 rfl) (hS.num 1 rfl)).mono ?_
  rintro e w5 ⟨v_, rfl, hv_, hx_⟩
  replace hS := hS.mv hx_
  clear hx_
  obtain ⟨s24, A_24, n24, c24, rfl, f_s24⟩ := RI.opn hv_
  clear hv_
  replace hS := hS.addI f_s24
  clear f_s24
  have k_9 := (hS.blk 2 rfl).cell
  have k_10 := (hS.blk 2 rfl).frozen
  go_wp2
  replace hS := (St.put (W' := ((w5.setCell ⟨g6, 0, none⟩ (.bool s24)).setCell ⟨g6, 1, none⟩ (.slice A_24 n24 c24))) hS 2 0 [.bool s24, .slice A_24 n24 c24] (cs' := #[.bool s24, .slice A_24 n24 c24]) (bs' := _) rfl o6 rfl rfl rfl rfl)
  exact bp_int1 rfl rfl rfl (hS.blk 2 rfl) ⟨_, rfl, (hS.num 0 rfl), hS.ext⟩

theorem div_abs {x y : Int} (ax : x.natAbs < lim) (hy : y ∣ x) : (x / y).natAbs < lim := by
  obtain ⟨k, rfl⟩ := hy
  by_cases h0 : y = 0
  · subst h0; simpa using lim_pos
  · rw [Int.mul_ediv_cancel_left _ h0]
    rw [Int.natAbs_mul] at ax
    exact Nat.lt_of_le_of_lt (Nat.le_mul_of_pos_left _ (by omega)) ax
theorem ediv_ok (gc : Nat) (a b : Value) (x y z : Int) (w : World) (hc : Calm w gc) (hX : RI w a x) (hY : RI w b y) (ax : x.natAbs < lim) (ay : y.natAbs < lim) (hy : y ≠ 0) (hd : y ∣ x) (hz : z = x / y) :
    Calls Tryz.prog 88 #[.pointer (some ⟨gc, 0, none⟩), a, b] w fun e w' => ∃ v, e = .returned v ∧ RI w' v z ∧ Ext w w' := by
  by_cases h1 : y = 1
  · have e : z = x := by rw [hz, h1]; omega
    rw [e]
    exact ediv_one gc a x b y w hc hX ax hY ay (Lib.hid h1)
  · subst hz
    exact ediv_ne gc a x b y w hc hX ax hY ay (Lib.hid h1) _ (Lib.hid rfl) (div_abs ax hd) _ (Lib.hid rfl) (Lib.hid hy)
end Go.Proofs.YtclkkoiaaddllaaGreat

/- Contracts of the calculator: lowest terms. -/
namespace Go.Proofs.YtclkkoiaaddllaaGreat
open Go.RowKit
set_option linter.unusedVariables false

theorem cmpZ_neg {x : Int} (h : x < 0) : cmpZ x 0 = -1 := by unfold cmpZ; rw [if_pos h]
theorem cmpZ_pos {x : Int} (h : 0 < x) : cmpZ x 0 = 1 := by unfold cmpZ; rw [if_neg (by omega), if_pos h]
theorem cmpZ_zero {x : Int} (h : x = 0) : cmpZ x 0 = 0 := by subst h; rfl

theorem Sign_at (v : Value) (x k : Int) (w : World) (hX : RI w v x) (ax : x.natAbs < lim) (h : cmpZ x 0 = k) :
    Calls Tryz.prog 80 #[v] w fun e w' => e = .returned (.int .i64 k) ∧ Ext w w' := by
  have := Sign_ok v x w hX ax
  rwa [h] at this
theorem rSign_at (v : Value) (x k : Int) (w : World) (hX : RI w v x) (ax : x.natAbs < lim) (h : cmpZ x 0 = k) :
    Calls Tryz.prog 51 #[v] w fun e w' => e = .returned (.int .i64 k) ∧ Ext w w' := by
  have := rSign_ok v x w hX ax
  rwa [h] at this
set_option maxRecDepth 100000 in
set_option maxHeartbeats 4000000 in
theorem ereduce_neg (gc : Nat) (v1 : Value) (x1 : Int) (v2 : Value) (x2 : Int) (v3 : Value) (x3 : Int) (w : World) (hc : Calm w gc) (hX1 : RI w v1 x1) (ax1 : x1.natAbs < lim) (hX2 : RI w v2 x2) (ax2 : x2.natAbs < lim) (hX3 : RI w v3 x3) (ax3 : x3.natAbs < lim) (H1 : Hid (x3 < 0))
    (z15 : Int) (E15 : Hid (z15 = (gcdL [x3, x1, x2] : Nat))) (A15 : z15.natAbs < lim)
    (z21 : Int) (E21 : Hid (z21 = -z15)) (A21 : z21.natAbs < lim)
    (z31 : Int) (E31 : Hid (z31 = x1 / z21)) (A31 : z31.natAbs < lim)
    (N31 : Hid (z21 ≠ 0))
    (ND31 : Hid (z21 ∣ x1))
    (z35 : Int) (E35 : Hid (z35 = x2 / z21)) (A35 : z35.natAbs < lim)
    (N35 : Hid (z21 ≠ 0))
    (ND35 : Hid (z21 ∣ x2))
    (z39 : Int) (E39 : Hid (z39 = x3 / z21)) (A39 : z39.natAbs < lim)
    (N39 : Hid (z21 ≠ 0))
    (ND39 : Hid (z21 ∣ x3))  :
    Calls Tryz.prog 63 #[.pointer (some ⟨gc, 0, none⟩), v1, v2, v3] w fun e w' => ∃ v, e = .returned v ∧ RG w' v z31 z35 z39 ∧ Ext w w' := by
  have hS := St.start w
  obtain ⟨sx1, Ax1, nx1, cx1, rfl, hY1⟩ := hX1.opn
  replace hS := hS.addI hY1
  clear hX1 hY1
  obtain ⟨sx2, Ax2, nx2, cx2, rfl, hY2⟩ := hX2.opn
  replace hS := hS.addI hY2
  clear hX2 hY2
  obtain ⟨sx3, Ax3, nx3, cx3, rfl, hY3⟩ := hX3.opn
  replace hS := hS.addI hY3
  clear hX3 hY3
  replace hS := hS.addB hc trivial
  clear hc
  have o5 : Own w w.heap.size := Own.of hS.ext (by simp)
  have o6 : Own w (w.heap.size + 1) := Own.of hS.ext (by simp)
  have o7 : Own w (w.heap.size + 2) := Own.of hS.ext (by simp)
  have o8 : Own w (w.heap.size + 3) := Own.of hS.ext (by simp)
  have hT1 := (St.al (St.al (St.al (St.al hS 30 #[.bool sx1, .slice Ax1 nx1 cx1] (g := w.heap.size) (by simp)) 30 #[.bool sx2, .slice Ax2 nx2 cx2] (g := (w.heap.size + 1)) (by simp)) 30 #[.bool sx3, .slice Ax3 nx3 cx3] (g := (w.heap.size + 2)) (by simp)) 32 #[.bool false, .slice none 0 0, .bool false, .slice none 0 0, .bool false, .slice none 0 0] (g := (w.heap.size + 3)) (by simp))
  have k_1 := (hT1.blk 1 rfl).cell
  have k_2 := (hT1.blk 3 rfl).cell
  have k_3 := (hT1.blk 2 rfl).cell
  have o14 : Own w (w.heap.size + 4) := Own.of hS.ext (by simp)
  go_enter Tryz.func63, Tryz.ntmps63
  go_wp2_with fail
  clear k_1 k_2 k_3
  clear hT1
  replace hS := (St.al (St.al (St.al (St.al (St.al hS 30 #[.bool sx1, .slice Ax1 nx1 cx1] (g := w.heap.size) (by simp)) 30 #[.bool sx2, .slice Ax2 nx2 cx2] (g := (w.heap.size + 1)) (by simp)) 30 #[.bool sx3, .slice Ax3 nx3 cx3] (g := (w.heap.size + 2)) (by simp)) 32 #[.bool false, .slice none 0 0, .bool false, .slice none 0 0, .bool false, .slice none 0 0] (g := (w.heap.size + 3)) (by simp)) 30 #[.bool sx3, .slice Ax3 nx3 cx3, .bool sx1, .slice Ax1 nx1 cx1, .bool sx2, .slice Ax2 nx2 cx2] (g := (w.heap.size + 4)) (by simp))
  generalize (((((w.alloc (.cells #[.bool sx1, .slice Ax1 nx1 cx1] 30)).alloc (.cells #[.bool sx2, .slice Ax2 nx2 cx2] 30)).alloc (.cells #[.bool sx3, .slice Ax3 nx3 cx3] 30)).alloc (.cells #[.bool false, .slice none 0 0, .bool false, .slice none 0 0, .bool false, .slice none 0 0] 32)).alloc (.cells #[.bool sx3, .slice Ax3 nx3 cx3, .bool sx1, .slice Ax1 nx1 cx1, .bool sx2, .slice Ax2 nx2 cx2] 30)) = w1 at hS ⊢
  generalize w.heap.size + 4 = g14 at hS o14 ⊢
  generalize w.heap.size + 3 = g8 at hS o8 ⊢
  generalize w.heap.size + 2 = g7 at hS o7 ⊢
  generalize w.heap.size + 1 = g6 at hS o6 ⊢
  generalize w.heap.size = g5 at hS o5 ⊢
  refine (egcd3_ok gc g14 x3 x1 x2 z15 _ (hS.blk 5 rfl) (hS.blk 0 rfl) (hS.num 0 rfl) (hS.num 2 rfl) (hS.num 1 rfl) ax3 ax1 ax2 E15).mono ?_
  rintro e w2 ⟨v_, rfl, hv_, hx_⟩
  replace hS := hS.mv hx_
  clear hx_
  obtain ⟨s15, A_15, n15, c15, rfl, f_s15⟩ := RI.opn hv_
  clear hv_
  replace hS := hS.addI f_s15
  clear f_s15
  have o9 : Own w w2.heap.size := Own.of hS.ext (by simp)
  have hT2 := (St.al hS 30 #[.bool false, .slice none 0 0] (g := w2.heap.size) (by simp))
  have k_4 := (hT2.blk 0 rfl).cell
  have k_5 := (hT2.blk 0 rfl).frozen
  have hT3 := (St.al hS 30 #[.bool s15, .slice A_15 n15 c15] (g := w2.heap.size) (by simp))
  have k_6 := (hT3.blk 3 rfl).cell
  go_wp2_with fail
  clear k_4 k_5 k_6
  clear hT2 hT3
  replace hS := (St.al hS 30 #[.bool s15, .slice A_15 n15 c15] (g := w2.heap.size) (by simp))
  generalize (w2.alloc (.cells #[.bool s15, .slice A_15 n15 c15] 30)) = w3 at hS ⊢
  generalize w2.heap.size = g9 at hS o9 ⊢
  refine (Sign_at _ x3 (-1) _ (hS.num 1 rfl) ax3 (cmpZ_neg H1.out)).mono ?_
  rintro e w4 ⟨rfl, hx_⟩
  replace hS := hS.mv hx_
  clear hx_
  have k_7 := (hS.blk 0 rfl).cell
  go_wp2_with fail
  clear k_7
  refine (eneg_ok gc _ z15 z21 _ (hS.blk 6 rfl) (hS.num 0 rfl) A15 E21.out).mono ?_
  rintro e w5 ⟨v_, rfl, hv_, hx_⟩
  replace hS := hS.mv hx_
  clear hx_
  obtain ⟨s21, A_21, n21, c21, rfl, f_s21⟩ := RI.opn hv_
  clear hv_
  replace hS := hS.addI f_s21
  clear f_s21
  have k_8 := (hS.blk 0 rfl).cell
  have k_9 := (hS.blk 0 rfl).frozen
  have hT4 := (St.put (W' := ((w5.setCell ⟨g9, 0, none⟩ (.bool s21)).setCell ⟨g9, 1, none⟩ (.slice A_21 n21 c21))) hS 0 0 [.bool s21, .slice A_21 n21 c21] (cs' := #[.bool s21, .slice A_21 n21 c21]) (bs' := _) rfl o9 rfl rfl rfl rfl)
  have k_10 := (hT4.blk 6 rfl).cell
  go_wp2_with fail
  clear k_8 k_9 k_10
  clear hT4
  replace hS := (St.put (W' := ((w5.setCell ⟨g9, 0, none⟩ (.bool s21)).setCell ⟨g9, 1, none⟩ (.slice A_21 n21 c21))) hS 0 0 [.bool s21, .slice A_21 n21 c21] (cs' := #[.bool s21, .slice A_21 n21 c21]) (bs' := _) rfl o9 rfl rfl rfl rfl)
  simp only [List.set_cons_zero] at hS
  generalize ((w5.setCell ⟨g9, 0, none⟩ (.bool s21)).setCell ⟨g9, 1, none⟩ (.slice A_21 n21 c21)) = w6 at hS ⊢
  have Y9 := ExtOf.blk (hS.blk 0 rfl)
  have Y7 := ExtOf.blk (hS.blk 3 rfl)
  have Y6 := ExtOf.blk (hS.blk 4 rfl)
  have Y5 := ExtOf.blk (hS.blk 5 rfl)
  have hE_ := hS.ext
  refine wp_region_tame 13 (hasF [(3, .any), (7, .any), (11, .any)]) (Fcs [(3, .ri (z31)), (7, .ri (z35)), (11, .ri (z39))]) (Fcs_stab _) (by kernel_rfl) (by kernel_rfl) ?_
  simp only [List.take_succ_cons, List.take_zero, List.drop_succ_cons, List.drop_zero]
  refine wpT_quiet 3 (by rfl) (by kernel_rfl) ?_
  simp only [List.take_succ_cons, List.take_zero, List.drop_succ_cons, List.drop_zero]
  repeat (go_big_quiet_step (fail))
  refine wpQuiet_nil ?_
  refine wpT_eff (by rfl) (by rfl) (by rfl) ?_ ?_
  · intro W_ hK
    have hW := hK.1
    clear hK
    go_simp
    exact ⟨rfl, (ediv_ok gc _ _ x1 z21 z31 _ (Blk.ext (hS.blk 6 rfl) hW) (RI.ext (hS.num 4 rfl) hW) (RI.ext (hS.num 0 rfl) hW) ax1 A21 N31.out ND31.out E31.out).mono fun e w' ⟨v, he, hR, hx⟩ => ⟨v, he, hx, hR⟩⟩
  intro v_ lo31 hi31 hr_
  obtain ⟨W_, hW_⟩ := hr_
  have hv_ : Fc.holds (.ri (z31)) lo31 hi31 v_ W_ := hW_.get
  clear hW_
  obtain ⟨s31, A_31, n31, c31, rfl, -⟩ := RI.opn hv_
  clear hv_
  clear W_
  try simp only [Act.put, List.setIfInBounds_toArray, List.set_cons_succ, List.set_cons_zero]
  refine wpT_quiet 3 (by rfl) (by kernel_rfl) ?_
  simp only [List.take_succ_cons, List.take_zero, List.drop_succ_cons, List.drop_zero]
  repeat (go_big_quiet_step (fail))
  refine wpQuiet_nil ?_
  refine wpT_eff (by rfl) (by rfl) (by rfl) ?_ ?_
  · intro W_ hK
    have hW := hK.1
    clear hK
    go_simp
    exact ⟨rfl, (ediv_ok gc _ _ x2 z21 z35 _ (Blk.ext (hS.blk 6 rfl) hW) (RI.ext (hS.num 3 rfl) hW) (RI.ext (hS.num 0 rfl) hW) ax2 A21 N35.out ND35.out E35.out).mono fun e w' ⟨v, he, hR, hx⟩ => ⟨v, he, hx, hR⟩⟩
  intro v_ lo35 hi35 hr_
  obtain ⟨W_, hW_⟩ := hr_
  have hv_ : Fc.holds (.ri (z35)) lo35 hi35 v_ W_ := hW_.get
  clear hW_
  obtain ⟨s35, A_35, n35, c35, rfl, -⟩ := RI.opn hv_
  clear hv_
  clear W_
  try simp only [Act.put, List.setIfInBounds_toArray, List.set_cons_succ, List.set_cons_zero]
  refine wpT_quiet 3 (by rfl) (by kernel_rfl) ?_
  simp only [List.take_succ_cons, List.take_zero, List.drop_succ_cons, List.drop_zero]
  repeat (go_big_quiet_step (fail))
  refine wpQuiet_nil ?_
  refine wpT_eff (by rfl) (by rfl) (by rfl) ?_ ?_
  · intro W_ hK
    have hW := hK.1
    clear hK
    go_simp
    exact ⟨rfl, (ediv_ok gc _ _ x3 z21 z39 _ (Blk.ext (hS.blk 6 rfl) hW) (RI.ext (hS.num 2 rfl) hW) (RI.ext (hS.num 0 rfl) hW) ax3 A21 N39.out ND39.out E39.out).mono fun e w' ⟨v, he, hR, hx⟩ => ⟨v, he, hx, hR⟩⟩
  intro v_ lo39 hi39 hr_
  obtain ⟨W_, hW_⟩ := hr_
  have hv_ : Fc.holds (.ri (z39)) lo39 hi39 v_ W_ := hW_.get
  clear hW_
  obtain ⟨s39, A_39, n39, c39, rfl, -⟩ := RI.opn hv_
  clear hv_
  clear W_
  try simp only [Act.put, List.setIfInBounds_toArray, List.set_cons_succ, List.set_cons_zero]
  refine wpT_quiet 1 (by rfl) (by kernel_rfl) ?_
  simp only [List.take_succ_cons, List.take_zero, List.drop_succ_cons, List.drop_zero]
  repeat (go_big_quiet_step (fail))
  refine wpQuiet_nil ?_
  refine wpT_nil ?_
  intro w7 hK
  have hlt_ := hS.lt
  replace hS := hS.mv hK.ext
  replace hS := hS.addI (show RI w7 (iv s31 A_31 n31 c31) z31 from hK.at_ 3 (e := ((iv s31 A_31 n31 c31), lo31, hi31)) (by rfl))
  replace hS := hS.addI (show RI w7 (iv s35 A_35 n35 c35) z35 from hK.at_ 7 (e := ((iv s35 A_35 n35 c35), lo35, hi35)) (by rfl))
  replace hS := hS.addI (show RI w7 (iv s39 A_39 n39 c39) z39 from hK.at_ 11 (e := ((iv s39 A_39 n39 c39), lo39, hi39)) (by rfl))
  clear hK hlt_ hE_ Y9 Y7 Y6 Y5
  have k_11 := (hS.blk 2 rfl).cell
  have k_12 := (hS.blk 2 rfl).frozen
  go_wp2
  replace hS := (St.put (W' := ((((((w7.setCell ⟨g8, 0, none⟩ (.bool s31)).setCell ⟨g8, 1, none⟩ (.slice A_31 n31 c31)).setCell ⟨g8, 2, none⟩ (.bool s35)).setCell ⟨g8, 3, none⟩ (.slice A_35 n35 c35)).setCell ⟨g8, 4, none⟩ (.bool s39)).setCell ⟨g8, 5, none⟩ (.slice A_39 n39 c39))) hS 2 0 [.bool s31, .slice A_31 n31 c31, .bool s35, .slice A_35 n35 c35, .bool s39, .slice A_39 n39 c39] (cs' := #[.bool s31, .slice A_31 n31 c31, .bool s35, .slice A_35 n35 c35, .bool s39, .slice A_39 n39 c39]) (bs' := _) rfl o8 rfl rfl rfl rfl)
  exact bp_gauss1 rfl rfl rfl (hS.blk 2 rfl) ⟨_, rfl, RG.mk (hS.num 2 rfl) (hS.num 1 rfl) (hS.num 0 rfl), hS.ext⟩

set_option maxRecDepth 100000 in
set_option maxHeartbeats 4000000 in
theorem ereduce_pos (gc : Nat) (v1 : Value) (x1 : Int) (v2 : Value) (x2 : Int) (v3 : Value) (x3 : Int) (w : World) (hc : Calm w gc) (hX1 : RI w v1 x1) (ax1 : x1.natAbs < lim) (hX2 : RI w v2 x2) (ax2 : x2.natAbs < lim) (hX3 : RI w v3 x3) (ax3 : x3.natAbs < lim) (H1 : Hid (0 < x3))
    (z15 : Int) (E15 : Hid (z15 = (gcdL [x3, x1, x2] : Nat))) (A15 : z15.natAbs < lim)
    (z31 : Int) (E31 : Hid (z31 = x1 / z15)) (A31 : z31.natAbs < lim)
    (N31 : Hid (z15 ≠ 0))
    (ND31 : Hid (z15 ∣ x1))
    (z35 : Int) (E35 : Hid (z35 = x2 / z15)) (A35 : z35.natAbs < lim)
    (N35 : Hid (z15 ≠ 0))
    (ND35 : Hid (z15 ∣ x2))
    (z39 : Int) (E39 : Hid (z39 = x3 / z15)) (A39 : z39.natAbs < lim)
    (N39 : Hid (z15 ≠ 0))
    (ND39 : Hid (z15 ∣ x3))  :
    Calls Tryz.prog 63 #[.pointer (some ⟨gc, 0, none⟩), v1, v2, v3] w fun e w' => ∃ v, e = .returned v ∧ RG w' v z31 z35 z39 ∧ Ext w w' := by
  have hS := St.start w
  obtain ⟨sx1, Ax1, nx1, cx1, rfl, hY1⟩ := hX1.opn
  replace hS := hS.addI hY1
  clear hX1 hY1
  obtain ⟨sx2, Ax2, nx2, cx2, rfl, hY2⟩ := hX2.opn
  replace hS := hS.addI hY2
  clear hX2 hY2
  obtain ⟨sx3, Ax3, nx3, cx3, rfl, hY3⟩ := hX3.opn
  replace hS := hS.addI hY3
  clear hX3 hY3
  replace hS := hS.addB hc trivial
  clear hc
  have o5 : Own w w.heap.size := Own.of hS.ext (by simp)
  have o6 : Own w (w.heap.size + 1) := Own.of hS.ext (by simp)
  have o7 : Own w (w.heap.size + 2) := Own.of hS.ext (by simp)
  have o8 : Own w (w.heap.size + 3) := Own.of hS.ext (by simp)
  have hT1 := (St.al (St.al (St.al (St.al hS 30 #[.bool sx1, .slice Ax1 nx1 cx1] (g := w.heap.size) (by simp)) 30 #[.bool sx2, .slice Ax2 nx2 cx2] (g := (w.heap.size + 1)) (by simp)) 30 #[.bool sx3, .slice Ax3 nx3 cx3] (g := (w.heap.size + 2)) (by simp)) 32 #[.bool false, .slice none 0 0, .bool false, .slice none 0 0, .bool false, .slice none 0 0] (g := (w.heap.size + 3)) (by simp))
  have k_1 := (hT1.blk 1 rfl).cell
  have k_2 := (hT1.blk 3 rfl).cell
  have k_3 := (hT1.blk 2 rfl).cell
  have o14 : Own w (w.heap.size + 4) := Own.of hS.ext (by simp)
  go_enter Tryz.func63, Tryz.ntmps63
  go_wp2_with fail
  clear k_1 k_2 k_3
  clear hT1
  replace hS := (St.al (St.al (St.al (St.al (St.al hS 30 #[.bool sx1, .slice Ax1 nx1 cx1] (g := w.heap.size) (by simp)) 30 #[.bool sx2, .slice Ax2 nx2 cx2] (g := (w.heap.size + 1)) (by simp)) 30 #[.bool sx3, .slice Ax3 nx3 cx3] (g := (w.heap.size + 2)) (by simp)) 32 #[.bool false, .slice none 0 0, .bool false, .slice none 0 0, .bool false, .slice none 0 0] (g := (w.heap.size + 3)) (by simp)) 30 #[.bool sx3, .slice Ax3 nx3 cx3, .bool sx1, .slice Ax1 nx1 cx1, .bool sx2, .slice Ax2 nx2 cx2] (g := (w.heap.size + 4)) (by simp))
  generalize (((((w.alloc (.cells #[.bool sx1, .slice Ax1 nx1 cx1] 30)).alloc (.cells #[.bool sx2, .slice Ax2 nx2 cx2] 30)).alloc (.cells #[.bool sx3, .slice Ax3 nx3 cx3] 30)).alloc (.cells #[.bool false, .slice none 0 0, .bool false, .slice none 0 0, .bool false, .slice none 0 0] 32)).alloc (.cells #[.bool sx3, .slice Ax3 nx3 cx3, .bool sx1, .slice Ax1 nx1 cx1, .bool sx2, .slice Ax2 nx2 cx2] 30)) = w1 at hS ⊢
  generalize w.heap.size + 4 = g14 at hS o14 ⊢
  generalize w.heap.size + 3 = g8 at hS o8 ⊢
  generalize w.heap.size + 2 = g7 at hS o7 ⊢
  generalize w.heap.size + 1 = g6 at hS o6 ⊢
  generalize w.heap.size = g5 at hS o5 ⊢
  refine (egcd3_ok gc g14 x3 x1 x2 z15 _ (hS.blk 5 rfl) (hS.blk 0 rfl) (hS.num 0 rfl) (hS.num 2 rfl) (hS.num 1 rfl) ax3 ax1 ax2 E15).mono ?_
  rintro e w2 ⟨v_, rfl, hv_, hx_⟩
  replace hS := hS.mv hx_
  clear hx_
  obtain ⟨s15, A_15, n15, c15, rfl, f_s15⟩ := RI.opn hv_
  clear hv_
  replace hS := hS.addI f_s15
  clear f_s15
  have o9 : Own w w2.heap.size := Own.of hS.ext (by simp)
  have hT2 := (St.al hS 30 #[.bool false, .slice none 0 0] (g := w2.heap.size) (by simp))
  have k_4 := (hT2.blk 0 rfl).cell
  have k_5 := (hT2.blk 0 rfl).frozen
  have hT3 := (St.al hS 30 #[.bool s15, .slice A_15 n15 c15] (g := w2.heap.size) (by simp))
  have k_6 := (hT3.blk 3 rfl).cell
  go_wp2_with fail
  clear k_4 k_5 k_6
  clear hT2 hT3
  replace hS := (St.al hS 30 #[.bool s15, .slice A_15 n15 c15] (g := w2.heap.size) (by simp))
  generalize (w2.alloc (.cells #[.bool s15, .slice A_15 n15 c15] 30)) = w3 at hS ⊢
  generalize w2.heap.size = g9 at hS o9 ⊢
  refine (Sign_at _ x3 (1) _ (hS.num 1 rfl) ax3 (cmpZ_pos H1.out)).mono ?_
  rintro e w4 ⟨rfl, hx_⟩
  replace hS := hS.mv hx_
  clear hx_
  have k_7 := (hS.blk 6 rfl).cell
  go_wp2_with fail
  clear k_7
  have Y9 := ExtOf.blk (hS.blk 0 rfl)
  have Y7 := ExtOf.blk (hS.blk 3 rfl)
  have Y6 := ExtOf.blk (hS.blk 4 rfl)
  have Y5 := ExtOf.blk (hS.blk 5 rfl)
  have hE_ := hS.ext
  refine wp_region_tame 13 (hasF [(3, .any), (7, .any), (11, .any)]) (Fcs [(3, .ri (z31)), (7, .ri (z35)), (11, .ri (z39))]) (Fcs_stab _) (by kernel_rfl) (by kernel_rfl) ?_
  simp only [List.take_succ_cons, List.take_zero, List.drop_succ_cons, List.drop_zero]
  refine wpT_quiet 3 (by rfl) (by kernel_rfl) ?_
  simp only [List.take_succ_cons, List.take_zero, List.drop_succ_cons, List.drop_zero]
  repeat (go_big_quiet_step (fail))
  refine wpQuiet_nil ?_
  refine wpT_eff (by rfl) (by rfl) (by rfl) ?_ ?_
  · intro W_ hK
    have hW := hK.1
    clear hK
    go_simp
    exact ⟨rfl, (ediv_ok gc _ _ x1 z15 z31 _ (Blk.ext (hS.blk 6 rfl) hW) (RI.ext (hS.num 3 rfl) hW) (RI.ext (hS.num 0 rfl) hW) ax1 A15 N31.out ND31.out E31.out).mono fun e w' ⟨v, he, hR, hx⟩ => ⟨v, he, hx, hR⟩⟩
  intro v_ lo31 hi31 hr_
  obtain ⟨W_, hW_⟩ := hr_
  have hv_ : Fc.holds (.ri (z31)) lo31 hi31 v_ W_ := hW_.get
  clear hW_
  obtain ⟨s31, A_31, n31, c31, rfl, -⟩ := RI.opn hv_
  clear hv_
  clear W_
  try simp only [Act.put, List.setIfInBounds_toArray, List.set_cons_succ, List.set_cons_zero]
  refine wpT_quiet 3 (by rfl) (by kernel_rfl) ?_
  simp only [List.take_succ_cons, List.take_zero, List.drop_succ_cons, List.drop_zero]
  repeat (go_big_quiet_step (fail))
  refine wpQuiet_nil ?_
  refine wpT_eff (by rfl) (by rfl) (by rfl) ?_ ?_
  · intro W_ hK
    have hW := hK.1
    clear hK
    go_simp
    exact ⟨rfl, (ediv_ok gc _ _ x2 z15 z35 _ (Blk.ext (hS.blk 6 rfl) hW) (RI.ext (hS.num 2 rfl) hW) (RI.ext (hS.num 0 rfl) hW) ax2 A15 N35.out ND35.out E35.out).mono fun e w' ⟨v, he, hR, hx⟩ => ⟨v, he, hx, hR⟩⟩
  intro v_ lo35 hi35 hr_
  obtain ⟨W_, hW_⟩ := hr_
  have hv_ : Fc.holds (.ri (z35)) lo35 hi35 v_ W_ := hW_.get
  clear hW_
  obtain ⟨s35, A_35, n35, c35, rfl, -⟩ := RI.opn hv_
  clear hv_
  clear W_
  try simp only [Act.put, List.setIfInBounds_toArray, List.set_cons_succ, List.set_cons_zero]
  refine wpT_quiet 3 (by rfl) (by kernel_rfl) ?_
  simp only [List.take_succ_cons, List.take_zero, List.drop_succ_cons, List.drop_zero]
  repeat (go_big_quiet_step (fail))
  refine wpQuiet_nil ?_
  refine wpT_eff (by rfl) (by rfl) (by rfl) ?_ ?_
  · intro W_ hK
    have hW := hK.1
    clear hK
    go_simp
    exact ⟨rfl, (ediv_ok gc _ _ x3 z15 z39 _ (Blk.ext (hS.blk 6 rfl) hW) (RI.ext (hS.num 1 rfl) hW) (RI.ext (hS.num 0 rfl) hW) ax3 A15 N39.out ND39.out E39.out).mono fun e w' ⟨v, he, hR, hx⟩ => ⟨v, he, hx, hR⟩⟩
  intro v_ lo39 hi39 hr_
  obtain ⟨W_, hW_⟩ := hr_
  have hv_ : Fc.holds (.ri (z39)) lo39 hi39 v_ W_ := hW_.get
  clear hW_
  obtain ⟨s39, A_39, n39, c39, rfl, -⟩ := RI.opn hv_
  clear hv_
  clear W_
  try simp only [Act.put, List.setIfInBounds_toArray, List.set_cons_succ, List.set_cons_zero]
  refine wpT_quiet 1 (by rfl) (by kernel_rfl) ?_
  simp only [List.take_succ_cons, List.take_zero, List.drop_succ_cons, List.drop_zero]
  repeat (go_big_quiet_step (fail))
  refine wpQuiet_nil ?_
  refine wpT_nil ?_
  intro w5 hK
  have hlt_ := hS.lt
  replace hS := hS.mv hK.ext
  replace hS := hS.addI (show RI w5 (iv s31 A_31 n31 c31) z31 from hK.at_ 3 (e := ((iv s31 A_31 n31 c31), lo31, hi31)) (by rfl))
  replace hS := hS.addI (show RI w5 (iv s35 A_35 n35 c35) z35 from hK.at_ 7 (e := ((iv s35 A_35 n35 c35), lo35, hi35)) (by rfl))
  replace hS := hS.addI (show RI w5 (iv s39 A_39 n39 c39) z39 from hK.at_ 11 (e := ((iv s39 A_39 n39 c39), lo39, hi39)) (by rfl))
  clear hK hlt_ hE_ Y9 Y7 Y6 Y5
  have k_8 := (hS.blk 2 rfl).cell
  have k_9 := (hS.blk 2 rfl).frozen
  go_wp2
  replace hS := (St.put (W' := ((((((w5.setCell ⟨g8, 0, none⟩ (.bool s31)).setCell ⟨g8, 1, none⟩ (.slice A_31 n31 c31)).setCell ⟨g8, 2, none⟩ (.bool s35)).setCell ⟨g8, 3, none⟩ (.slice A_35 n35 c35)).setCell ⟨g8, 4, none⟩ (.bool s39)).setCell ⟨g8, 5, none⟩ (.slice A_39 n39 c39))) hS 2 0 [.bool s31, .slice A_31 n31 c31, .bool s35, .slice A_35 n35 c35, .bool s39, .slice A_39 n39 c39] (cs' := #[.bool s31, .slice A_31 n31 c31, .bool s35, .slice A_35 n35 c35, .bool s39, .slice A_39 n39 c39]) (bs' := _) rfl o8 rfl rfl rfl rfl)
  exact bp_gauss1 rfl rfl rfl (hS.blk 2 rfl) ⟨_, rfl, RG.mk (hS.num 2 rfl) (hS.num 1 rfl) (hS.num 0 rfl), hS.ext⟩

theorem gcdL_g3 (a b d : Int) : gcdL [d, a, b] = g3 a b d := by
  unfold gcdL g3
  simp [Nat.gcd_comm]
theorem g3_lt {a b d : Int} (ha : a.natAbs < lim) (hb : b.natAbs < lim) (hd : d.natAbs < lim) : g3 a b d < lim := by
  rw [← gcdL_g3]
  refine gcdL_lt (fun z hz => ?_)
  simp at hz
  rcases hz with rfl | rfl | rfl <;> assumption
theorem ereduce_ok (gc : Nat) (v1 v2 v3 : Value) (x1 x2 x3 a b d : Int) (w : World) (hc : Calm w gc) (h1 : RI w v1 x1) (h2 : RI w v2 x2) (h3 : RI w v3 x3) (a1 : x1.natAbs < lim) (a2 : x2.natAbs < lim) (a3 : x3.natAbs < lim) (hd : x3 ≠ 0) (E : (a, b, d) = nf x1 x2 x3) :
    Calls Tryz.prog 63 #[.pointer (some ⟨gc, 0, none⟩), v1, v2, v3] w fun e w' => ∃ v, e = .returned v ∧ RG w' v a b d ∧ Ext w w' := by
  obtain ⟨d1, d2, d3⟩ := g3_dvd x1 x2 x3
  have hg0 := g3_pos (a := x1) (b := x2) hd
  have hgl := g3_lt a1 a2 a3
  have hG : (gcdL [x3, x1, x2] : Int) = g3 x1 x2 x3 := by rw [gcdL_g3]
  unfold nf gZ sgZ at E
  by_cases hn : x3 < 0
  · rw [if_pos hn] at E
    have e1 : (-1 : Int) * (g3 x1 x2 x3 : Int) = -(g3 x1 x2 x3 : Int) := by omega
    rw [e1] at E
    injection E with ea E
    injection E with eb ed
    have n1 : -(g3 x1 x2 x3 : Int) ≠ 0 := by omega
    have q1 : -(g3 x1 x2 x3 : Int) ∣ x1 := Int.neg_dvd.2 d1
    have q2 : -(g3 x1 x2 x3 : Int) ∣ x2 := Int.neg_dvd.2 d2
    have q3 : -(g3 x1 x2 x3 : Int) ∣ x3 := Int.neg_dvd.2 d3
    exact ereduce_neg gc v1 x1 v2 x2 v3 x3 w hc h1 a1 h2 a2 h3 a3 (Lib.hid hn) _ (Lib.hid hG.symm) (by simpa using hgl) _ (Lib.hid rfl) (by simpa using hgl) a (Lib.hid ea) (by rw [ea]; exact div_abs a1 q1) (Lib.hid n1) (Lib.hid q1) b (Lib.hid eb) (by rw [eb]; exact div_abs a2 q2) (Lib.hid n1) (Lib.hid q2) d (Lib.hid ed) (by rw [ed]; exact div_abs a3 q3) (Lib.hid n1) (Lib.hid q3)
  · rw [if_neg hn, Int.one_mul] at E
    injection E with ea E
    injection E with eb ed
    have n1 : (g3 x1 x2 x3 : Int) ≠ 0 := by omega
    exact ereduce_pos gc v1 x1 v2 x2 v3 x3 w hc h1 a1 h2 a2 h3 a3 (Lib.hid (by omega)) _ (Lib.hid hG.symm) (by simpa using hgl) a (Lib.hid ea) (by rw [ea]; exact div_abs a1 d1) (Lib.hid n1) (Lib.hid d1) b (Lib.hid eb) (by rw [eb]; exact div_abs a2 d2) (Lib.hid n1) (Lib.hid d2) d (Lib.hid ed) (by rw [ed]; exact div_abs a3 d3) (Lib.hid n1) (Lib.hid d3)
end Go.Proofs.YtclkkoiaaddllaaGreat

/- Contracts of the calculator: sums of multiples. -/
namespace Go.Proofs.YtclkkoiaaddllaaGreat
open Go.RowKit
set_option linter.unusedVariables false

set_option maxRecDepth 100000 in
set_option maxHeartbeats 4000000 in
theorem eblend_w (gc : Nat) (v1 : Value) (x1a x1b x1d : Int) (m2 : Int) (v3 : Value) (x3a x3b x3d : Int) (m4 : Int) (m5 : Int) (w : World) (hc : Calm w gc) (hX1 : RG w v1 x1a x1b x1d) (ax1a : x1a.natAbs < lim) (ax1b : x1b.natAbs < lim) (ax1d : x1d.natAbs < lim) (l2 : -9223372036854775808 ≤ m2) (u2 : m2 ≤ 9223372036854775807) (hX3 : RG w v3 x3a x3b x3d) (ax3a : x3a.natAbs < lim) (ax3b : x3b.natAbs < lim) (ax3d : x3d.natAbs < lim) (l4 : -9223372036854775808 ≤ m4) (u4 : m4 ≤ 9223372036854775807) (l5 : -9223372036854775808 ≤ m5) (u5 : m5 ≤ 9223372036854775807)
    (z25 : Int) (E25 : Hid (z25 = (gcdL [x1d, x3d] : Nat))) (A25 : z25.natAbs < lim)
    (z31 : Int) (E31 : Hid (z31 = x3d / z25)) (A31 : z31.natAbs < lim)
    (N31 : Hid (z25 ≠ 0))
    (ND31 : Hid (z25 ∣ x3d))
    (z33 : Int) (E33 : Hid (z33 = z31 * (m2))) (A33 : z33.natAbs < lim)
    (z39 : Int) (E39 : Hid (z39 = x1d / z25)) (A39 : z39.natAbs < lim)
    (N39 : Hid (z25 ≠ 0))
    (ND39 : Hid (z25 ∣ x1d))
    (z41 : Int) (E41 : Hid (z41 = z39 * (m4))) (A41 : z41.natAbs < lim)
    (z47 : Int) (E47 : Hid (z47 = x1a * z33)) (A47 : z47.natAbs < lim)
    (z52 : Int) (E52 : Hid (z52 = x3a * z41)) (A52 : z52.natAbs < lim)
    (z53 : Int) (E53 : Hid (z53 = z47 + z52)) (A53 : z53.natAbs < lim)
    (z59 : Int) (E59 : Hid (z59 = x1b * z33)) (A59 : z59.natAbs < lim)
    (z64 : Int) (E64 : Hid (z64 = x3b * z41)) (A64 : z64.natAbs < lim)
    (z65 : Int) (E65 : Hid (z65 = z59 + z64)) (A65 : z65.natAbs < lim)
    (z74 : Int) (E74 : Hid (z74 = x3d / z25)) (A74 : z74.natAbs < lim)
    (N74 : Hid (z25 ≠ 0))
    (ND74 : Hid (z25 ∣ x3d))
    (z75 : Int) (E75 : Hid (z75 = x1d * z74)) (A75 : z75.natAbs < lim)
    (z77 : Int) (E77 : Hid (z77 = z75 * (m5))) (A77 : z77.natAbs < lim)
    (N88 : Hid (z77 ≠ 0))
    (z88a z88b z88d : Int) (E88 : Hid ((z88a, z88b, z88d) = nf z53 z65 z77)) (A88a : z88a.natAbs < lim) (A88b : z88b.natAbs < lim) (A88d : z88d.natAbs < lim)  :
    Calls Tryz.prog 85 #[.pointer (some ⟨gc, 0, none⟩), v1, .int .i64 m2, v3, .int .i64 m4, .int .i64 m5] w fun e w' => ∃ v, e = .returned v ∧ RG w' v z88a z88b z88d ∧ Ext w w' := by
  have hS := St.start w
  obtain ⟨sx1a, Ax1a, nx1a, cx1a, sx1b, Ax1b, nx1b, cx1b, sx1d, Ax1d, nx1d, cx1d, rfl, hx1a, hx1b, hx1d⟩ := hX1
  replace hS := hS.addI hx1a
  clear hx1a
  replace hS := hS.addI hx1b
  clear hx1b
  replace hS := hS.addI hx1d
  clear hx1d
  obtain ⟨sx3a, Ax3a, nx3a, cx3a, sx3b, Ax3b, nx3b, cx3b, sx3d, Ax3d, nx3d, cx3d, rfl, hx3a, hx3b, hx3d⟩ := hX3
  replace hS := hS.addI hx3a
  clear hx3a
  replace hS := hS.addI hx3b
  clear hx3b
  replace hS := hS.addI hx3d
  clear hx3d
  replace hS := hS.addB hc trivial
  clear hc
  have o7 : Own w w.heap.size := Own.of hS.ext (by simp)
  have o9 : Own w (w.heap.size + 1) := Own.of hS.ext (by simp)
  have o12 : Own w (w.heap.size + 2) := Own.of hS.ext (by simp)
  have hT1 := (St.al (St.al (St.al hS 32 #[.bool sx1a, .slice Ax1a nx1a cx1a, .bool sx1b, .slice Ax1b nx1b cx1b, .bool sx1d, .slice Ax1d nx1d cx1d] (g := w.heap.size) (by simp)) 32 #[.bool sx3a, .slice Ax3a nx3a cx3a, .bool sx3b, .slice Ax3b nx3b cx3b, .bool sx3d, .slice Ax3d nx3d cx3d] (g := (w.heap.size + 1)) (by simp)) 32 #[.bool false, .slice none 0 0, .bool false, .slice none 0 0, .bool false, .slice none 0 0] (g := (w.heap.size + 2)) (by simp))
  have k_1 := (hT1.blk 2 rfl).cell
  have k_2 := (hT1.blk 1 rfl).cell
  have o24 : Own w (w.heap.size + 3) := Own.of hS.ext (by simp)
  go_enter Tryz.func85, Tryz.ntmps85
  go_wp2_with fail
  clear k_1 k_2
  clear hT1
  replace hS := (St.al (St.al (St.al (St.al hS 32 #[.bool sx1a, .slice Ax1a nx1a cx1a, .bool sx1b, .slice Ax1b nx1b cx1b, .bool sx1d, .slice Ax1d nx1d cx1d] (g := w.heap.size) (by simp)) 32 #[.bool sx3a, .slice Ax3a nx3a cx3a, .bool sx3b, .slice Ax3b nx3b cx3b, .bool sx3d, .slice Ax3d nx3d cx3d] (g := (w.heap.size + 1)) (by simp)) 32 #[.bool false, .slice none 0 0, .bool false, .slice none 0 0, .bool false, .slice none 0 0] (g := (w.heap.size + 2)) (by simp)) 30 #[.bool sx1d, .slice Ax1d nx1d cx1d, .bool sx3d, .slice Ax3d nx3d cx3d] (g := (w.heap.size + 3)) (by simp))
  generalize ((((w.alloc (.cells #[.bool sx1a, .slice Ax1a nx1a cx1a, .bool sx1b, .slice Ax1b nx1b cx1b, .bool sx1d, .slice Ax1d nx1d cx1d] 32)).alloc (.cells #[.bool sx3a, .slice Ax3a nx3a cx3a, .bool sx3b, .slice Ax3b nx3b cx3b, .bool sx3d, .slice Ax3d nx3d cx3d] 32)).alloc (.cells #[.bool false, .slice none 0 0, .bool false, .slice none 0 0, .bool false, .slice none 0 0] 32)).alloc (.cells #[.bool sx1d, .slice Ax1d nx1d cx1d, .bool sx3d, .slice Ax3d nx3d cx3d] 30)) = w1 at hS ⊢
  generalize w.heap.size + 3 = g24 at hS o24 ⊢
  generalize w.heap.size + 2 = g12 at hS o12 ⊢
  generalize w.heap.size + 1 = g9 at hS o9 ⊢
  generalize w.heap.size = g7 at hS o7 ⊢
  refine (egcd2_ok gc g24 x1d x3d z25 _ (hS.blk 4 rfl) (hS.blk 0 rfl) (hS.num 3 rfl) (hS.num 0 rfl) ax1d ax3d E25).mono ?_
  rintro e w2 ⟨v_, rfl, hv_, hx_⟩
  replace hS := hS.mv hx_
  clear hx_
  obtain ⟨s25, A_25, n25, c25, rfl, f_s25⟩ := RI.opn hv_
  clear hv_
  replace hS := hS.addI f_s25
  clear f_s25
  have o13 : Own w w2.heap.size := Own.of hS.ext (by simp)
  have hT2 := (St.al hS 30 #[.bool false, .slice none 0 0] (g := w2.heap.size) (by simp))
  have k_3 := (hT2.blk 0 rfl).cell
  have k_4 := (hT2.blk 0 rfl).frozen
  go_wp2_with fail
  clear k_3 k_4
  clear hT2
  replace hS := (St.al hS 30 #[.bool s25, .slice A_25 n25 c25] (g := w2.heap.size) (by simp))
  generalize (w2.alloc (.cells #[.bool s25, .slice A_25 n25 c25] 30)) = w3 at hS ⊢
  generalize w2.heap.size = g13 at hS o13 ⊢
  have Y13 := ExtOf.blk (hS.blk 0 rfl)
  have Y9 := ExtOf.blk (hS.blk 3 rfl)
  have Y7 := ExtOf.blk (hS.blk 4 rfl)
  have hE_ := hS.ext
  refine wp_region_tame 18 (hasF [(5, .any), (7, .any), (13, .any), (15, .any), (16, .any), (17, .any)]) (Fcs [(5, .ri (z31)), (7, .ri (z33)), (13, .ri (z39)), (15, .ri (z41)), (16, .box 30 #[.bool false, .slice none 0 0]), (17, .box 30 #[.bool false, .slice none 0 0])]) (Fcs_stab _) (by kernel_rfl) (by kernel_rfl) ?_
  simp only [List.take_succ_cons, List.take_zero, List.drop_succ_cons, List.drop_zero]
  refine wpT_quiet 5 (by rfl) (by kernel_rfl) ?_
  simp only [List.take_succ_cons, List.take_zero, List.drop_succ_cons, List.drop_zero]
  repeat (go_big_quiet_step (fail))
  refine wpQuiet_nil ?_
  refine wpT_eff (by rfl) (by rfl) (by rfl) ?_ ?_
  · intro W_ hK
    have hW := hK.1
    clear hK
    go_simp
    exact ⟨rfl, (ediv_ok gc _ _ x3d z25 z31 _ (Blk.ext (hS.blk 5 rfl) hW) (RI.ext (hS.num 1 rfl) hW) (RI.ext (hS.num 0 rfl) hW) ax3d A25 N31.out ND31.out E31.out).mono fun e w' ⟨v, he, hR, hx⟩ => ⟨v, he, hx, hR⟩⟩
  intro v_ lo31 hi31 hr_
  obtain ⟨W_, hW_⟩ := hr_
  have hv_ : Fc.holds (.ri (z31)) lo31 hi31 v_ W_ := hW_.get
  clear hW_
  obtain ⟨s31, A_31, n31, c31, rfl, -⟩ := RI.opn hv_
  clear hv_
  clear W_
  try simp only [Act.put, List.setIfInBounds_toArray, List.set_cons_succ, List.set_cons_zero]
  refine wpT_quiet 1 (by rfl) (by kernel_rfl) ?_
  simp only [List.take_succ_cons, List.take_zero, List.drop_succ_cons, List.drop_zero]
  repeat (go_big_quiet_step (fail))
  refine wpQuiet_nil ?_
  refine wpT_eff (by rfl) (by rfl) (by rfl) ?_ ?_
  · intro W_ hK
    have hW := hK.1
    have F_s31 : RI W_ (iv s31 A_31 n31 c31) z31 := hK.2 5 ((iv s31 A_31 n31 c31), lo31, hi31) (by rfl) (by kernel_rfl)
    clear hK
    go_simp
    exact ⟨rfl, (escale_ok gc _ z31 (m2) _ (Blk.ext (hS.blk 5 rfl) hW) F_s31 A31 l2 u2 z33 E33 A33).mono fun e w' ⟨v, he, hR, hx⟩ => ⟨v, he, hx, hR⟩⟩
  intro v_ lo33 hi33 hr_
  obtain ⟨W_, hW_⟩ := hr_
  have hv_ : Fc.holds (.ri (z33)) lo33 hi33 v_ W_ := hW_.get
  clear hW_
  obtain ⟨s33, A_33, n33, c33, rfl, -⟩ := RI.opn hv_
  clear hv_
  clear W_
  try simp only [Act.put, List.setIfInBounds_toArray, List.set_cons_succ, List.set_cons_zero]
  refine wpT_quiet 5 (by rfl) (by kernel_rfl) ?_
  simp only [List.take_succ_cons, List.take_zero, List.drop_succ_cons, List.drop_zero]
  repeat (go_big_quiet_step (fail))
  refine wpQuiet_nil ?_
  refine wpT_eff (by rfl) (by rfl) (by rfl) ?_ ?_
  · intro W_ hK
    have hW := hK.1
    clear hK
    go_simp
    exact ⟨rfl, (ediv_ok gc _ _ x1d z25 z39 _ (Blk.ext (hS.blk 5 rfl) hW) (RI.ext (hS.num 4 rfl) hW) (RI.ext (hS.num 0 rfl) hW) ax1d A25 N39.out ND39.out E39.out).mono fun e w' ⟨v, he, hR, hx⟩ => ⟨v, he, hx, hR⟩⟩
  intro v_ lo39 hi39 hr_
  obtain ⟨W_, hW_⟩ := hr_
  have hv_ : Fc.holds (.ri (z39)) lo39 hi39 v_ W_ := hW_.get
  clear hW_
  obtain ⟨s39, A_39, n39, c39, rfl, -⟩ := RI.opn hv_
  clear hv_
  clear W_
  try simp only [Act.put, List.setIfInBounds_toArray, List.set_cons_succ, List.set_cons_zero]
  refine wpT_quiet 1 (by rfl) (by kernel_rfl) ?_
  simp only [List.take_succ_cons, List.take_zero, List.drop_succ_cons, List.drop_zero]
  repeat (go_big_quiet_step (fail))
  refine wpQuiet_nil ?_
  refine wpT_eff (by rfl) (by rfl) (by rfl) ?_ ?_
  · intro W_ hK
    have hW := hK.1
    have F_s39 : RI W_ (iv s39 A_39 n39 c39) z39 := hK.2 13 ((iv s39 A_39 n39 c39), lo39, hi39) (by rfl) (by kernel_rfl)
    clear hK
    go_simp
    exact ⟨rfl, (escale_ok gc _ z39 (m4) _ (Blk.ext (hS.blk 5 rfl) hW) F_s39 A39 l4 u4 z41 E41 A41).mono fun e w' ⟨v, he, hR, hx⟩ => ⟨v, he, hx, hR⟩⟩
  intro v_ lo41 hi41 hr_
  obtain ⟨W_, hW_⟩ := hr_
  have hv_ : Fc.holds (.ri (z41)) lo41 hi41 v_ W_ := hW_.get
  clear hW_
  obtain ⟨s41, A_41, n41, c41, rfl, -⟩ := RI.opn hv_
  clear hv_
  clear W_
  try simp only [Act.put, List.setIfInBounds_toArray, List.set_cons_succ, List.set_cons_zero]
  refine wpT_eff (by rfl) (by rfl) (by rfl) ?_ ?_
  · intro W_ hK
    go_simp
    exact ⟨Ext.new _ _, rfl, by simp, Blk.new _ _ _⟩
  intro v_ g14 hi14 hr_
  obtain ⟨W_, hW_⟩ := hr_
  obtain ⟨rfl, hl14, -⟩ : Fc.holds (.box 30 #[.bool false, .slice none 0 0]) g14 hi14 v_ W_ := hW_.get
  clear hW_ W_
  try simp only [Act.put, List.setIfInBounds_toArray, List.set_cons_succ, List.set_cons_zero]
  refine wpT_eff (by rfl) (by rfl) (by rfl) ?_ ?_
  · intro W_ hK
    go_simp
    exact ⟨Ext.new _ _, rfl, by simp, Blk.new _ _ _⟩
  intro v_ g15 hi15 hr_
  obtain ⟨W_, hW_⟩ := hr_
  obtain ⟨rfl, hl15, -⟩ : Fc.holds (.box 30 #[.bool false, .slice none 0 0]) g15 hi15 v_ W_ := hW_.get
  clear hW_ W_
  try simp only [Act.put, List.setIfInBounds_toArray, List.set_cons_succ, List.set_cons_zero]
  refine wpT_nil ?_
  intro w4 hK
  have hlt_ := hS.lt
  replace hS := hS.mv hK.ext
  replace hS := hS.addI (show RI w4 (iv s31 A_31 n31 c31) z31 from hK.at_ 5 (e := ((iv s31 A_31 n31 c31), lo31, hi31)) (by rfl))
  replace hS := hS.addI (show RI w4 (iv s33 A_33 n33 c33) z33 from hK.at_ 7 (e := ((iv s33 A_33 n33 c33), lo33, hi33)) (by rfl))
  replace hS := hS.addI (show RI w4 (iv s39 A_39 n39 c39) z39 from hK.at_ 13 (e := ((iv s39 A_39 n39 c39), lo39, hi39)) (by rfl))
  replace hS := hS.addI (show RI w4 (iv s41 A_41 n41 c41) z41 from hK.at_ 15 (e := ((iv s41 A_41 n41 c41), lo41, hi41)) (by rfl))
  have lw14 : w3.heap.size ≤ g14 := hK.low 16 _ (by rfl)
  have o14 : Own w g14 := Own.of hE_ lw14
  replace hS := hS.addB (show Blk w4 g14 30 #[.bool false, .slice none 0 0] from (hK.at_ 16 (by rfl)).2.2) (apart_of fun p hp => Nat.ne_of_lt (Nat.lt_of_lt_of_le (hlt_ p hp) lw14))
  have lw15 : w3.heap.size ≤ g15 := hK.low 17 _ (by rfl)
  have o15 : Own w g15 := Own.of hE_ lw15
  replace hS := hS.addB (show Blk w4 g15 30 #[.bool false, .slice none 0 0] from (hK.at_ 17 (by rfl)).2.2) ⟨tame_ne hl14 hl15 (hK.disj 16 17 _ _ (by omega) (by rfl) (by rfl)), (apart_of fun p hp => Nat.ne_of_lt (Nat.lt_of_lt_of_le (hlt_ p hp) lw15))⟩
  clear hK hlt_ hE_ Y13 Y9 Y7
  clear lw14 hl14 hi14
  clear lw15 hl15 hi15
  have k_5 := (hS.blk 1 rfl).cell
  have k_6 := (hS.blk 1 rfl).frozen
  have hT3 := (St.put (W' := ((w4.setCell ⟨g14, 0, none⟩ (.bool s33)).setCell ⟨g14, 1, none⟩ (.slice A_33 n33 c33))) hS 1 0 [.bool s33, .slice A_33 n33 c33] (cs' := #[.bool s33, .slice A_33 n33 c33]) (bs' := _) rfl o14 rfl rfl rfl rfl)
  have k_7 := (hT3.blk 0 rfl).cell
  have k_8 := (hT3.blk 0 rfl).frozen
  go_wp2_with fail
  clear k_5 k_6 k_7 k_8
  clear hT3
  replace hS := (St.put (W' := ((((w4.setCell ⟨g14, 0, none⟩ (.bool s33)).setCell ⟨g14, 1, none⟩ (.slice A_33 n33 c33)).setCell ⟨g15, 0, none⟩ (.bool s41)).setCell ⟨g15, 1, none⟩ (.slice A_41 n41 c41))) (St.put (W' := ((w4.setCell ⟨g14, 0, none⟩ (.bool s33)).setCell ⟨g14, 1, none⟩ (.slice A_33 n33 c33))) hS 1 0 [.bool s33, .slice A_33 n33 c33] (cs' := #[.bool s33, .slice A_33 n33 c33]) (bs' := _) rfl o14 rfl rfl rfl rfl) 0 0 [.bool s41, .slice A_41 n41 c41] (cs' := #[.bool s41, .slice A_41 n41 c41]) (bs' := _) rfl o15 rfl rfl rfl rfl)
  simp only [List.set_cons_zero, List.set_cons_succ] at hS
  generalize ((((w4.setCell ⟨g14, 0, none⟩ (.bool s33)).setCell ⟨g14, 1, none⟩ (.slice A_33 n33 c33)).setCell ⟨g15, 0, none⟩ (.bool s41)).setCell ⟨g15, 1, none⟩ (.slice A_41 n41 c41)) = w5 at hS ⊢
  have Y15 := ExtOf.blk (hS.blk 0 rfl)
  have Y14 := ExtOf.blk (hS.blk 1 rfl)
  have Y9 := ExtOf.blk (hS.blk 5 rfl)
  have Y7 := ExtOf.blk (hS.blk 6 rfl)
  have hE_ := hS.ext
  refine wp_region_tame 13 (hasF [(5, .any), (10, .any), (11, .any), (12, .any)]) (Fcs [(5, .ri (z47)), (10, .ri (z52)), (11, .ri (z53)), (12, .box 30 #[.bool false, .slice none 0 0])]) (Fcs_stab _) (by kernel_rfl) (by kernel_rfl) ?_
  simp only [List.take_succ_cons, List.take_zero, List.drop_succ_cons, List.drop_zero]
  refine wpT_quiet 5 (by rfl) (by kernel_rfl) ?_
  simp only [List.take_succ_cons, List.take_zero, List.drop_succ_cons, List.drop_zero]
  repeat (go_big_quiet_step (fail))
  refine wpQuiet_nil ?_
  refine wpT_eff (by rfl) (by rfl) (by rfl) ?_ ?_
  · intro W_ hK
    have hW := hK.1
    clear hK
    go_simp
    exact ⟨rfl, (emul_ok gc _ _ x1a z33 z47 _ (Blk.ext (hS.blk 7 rfl) hW) (RI.ext (hS.num 10 rfl) hW) (RI.ext (hS.num 2 rfl) hW) ax1a A33 E47.out A47).mono fun e w' ⟨v, he, hR, hx⟩ => ⟨v, he, hx, hR⟩⟩
  intro v_ lo47 hi47 hr_
  obtain ⟨W_, hW_⟩ := hr_
  have hv_ : Fc.holds (.ri (z47)) lo47 hi47 v_ W_ := hW_.get
  clear hW_
  obtain ⟨s47, A_47, n47, c47, rfl, -⟩ := RI.opn hv_
  clear hv_
  clear W_
  try simp only [Act.put, List.setIfInBounds_toArray, List.set_cons_succ, List.set_cons_zero]
  refine wpT_quiet 4 (by rfl) (by kernel_rfl) ?_
  simp only [List.take_succ_cons, List.take_zero, List.drop_succ_cons, List.drop_zero]
  repeat (go_big_quiet_step (fail))
  refine wpQuiet_nil ?_
  refine wpT_eff (by rfl) (by rfl) (by rfl) ?_ ?_
  · intro W_ hK
    have hW := hK.1
    clear hK
    go_simp
    exact ⟨rfl, (emul_ok gc _ _ x3a z41 z52 _ (Blk.ext (hS.blk 7 rfl) hW) (RI.ext (hS.num 7 rfl) hW) (RI.ext (hS.num 0 rfl) hW) ax3a A41 E52.out A52).mono fun e w' ⟨v, he, hR, hx⟩ => ⟨v, he, hx, hR⟩⟩
  intro v_ lo52 hi52 hr_
  obtain ⟨W_, hW_⟩ := hr_
  have hv_ : Fc.holds (.ri (z52)) lo52 hi52 v_ W_ := hW_.get
  clear hW_
  obtain ⟨s52, A_52, n52, c52, rfl, -⟩ := RI.opn hv_
  clear hv_
  clear W_
  try simp only [Act.put, List.setIfInBounds_toArray, List.set_cons_succ, List.set_cons_zero]
  refine wpT_eff (by rfl) (by rfl) (by rfl) ?_ ?_
  · intro W_ hK
    have hW := hK.1
    have F_s47 : RI W_ (iv s47 A_47 n47 c47) z47 := hK.2 5 ((iv s47 A_47 n47 c47), lo47, hi47) (by rfl) (by kernel_rfl)
    have F_s52 : RI W_ (iv s52 A_52 n52 c52) z52 := hK.2 10 ((iv s52 A_52 n52 c52), lo52, hi52) (by rfl) (by kernel_rfl)
    clear hK
    go_simp
    exact ⟨rfl, (eadd_ok gc _ _ z47 z52 z53 _ (Blk.ext (hS.blk 7 rfl) hW) F_s47 F_s52 A47 A52 E53.out A53).mono fun e w' ⟨v, he, hR, hx⟩ => ⟨v, he, hx, hR⟩⟩
  intro v_ lo53 hi53 hr_
  obtain ⟨W_, hW_⟩ := hr_
  have hv_ : Fc.holds (.ri (z53)) lo53 hi53 v_ W_ := hW_.get
  clear hW_
  obtain ⟨s53, A_53, n53, c53, rfl, -⟩ := RI.opn hv_
  clear hv_
  clear W_
  try simp only [Act.put, List.setIfInBounds_toArray, List.set_cons_succ, List.set_cons_zero]
  refine wpT_eff (by rfl) (by rfl) (by rfl) ?_ ?_
  · intro W_ hK
    go_simp
    exact ⟨Ext.new _ _, rfl, by simp, Blk.new _ _ _⟩
  intro v_ g16 hi16 hr_
  obtain ⟨W_, hW_⟩ := hr_
  obtain ⟨rfl, hl16, -⟩ : Fc.holds (.box 30 #[.bool false, .slice none 0 0]) g16 hi16 v_ W_ := hW_.get
  clear hW_ W_
  try simp only [Act.put, List.setIfInBounds_toArray, List.set_cons_succ, List.set_cons_zero]
  refine wpT_nil ?_
  intro w6 hK
  have hlt_ := hS.lt
  replace hS := hS.mv hK.ext
  replace hS := hS.addI (show RI w6 (iv s47 A_47 n47 c47) z47 from hK.at_ 5 (e := ((iv s47 A_47 n47 c47), lo47, hi47)) (by rfl))
  replace hS := hS.addI (show RI w6 (iv s52 A_52 n52 c52) z52 from hK.at_ 10 (e := ((iv s52 A_52 n52 c52), lo52, hi52)) (by rfl))
  replace hS := hS.addI (show RI w6 (iv s53 A_53 n53 c53) z53 from hK.at_ 11 (e := ((iv s53 A_53 n53 c53), lo53, hi53)) (by rfl))
  have lw16 : w5.heap.size ≤ g16 := hK.low 12 _ (by rfl)
  have o16 : Own w g16 := Own.of hE_ lw16
  replace hS := hS.addB (show Blk w6 g16 30 #[.bool false, .slice none 0 0] from (hK.at_ 12 (by rfl)).2.2) (apart_of fun p hp => Nat.ne_of_lt (Nat.lt_of_lt_of_le (hlt_ p hp) lw16))
  clear hK hlt_ hE_ Y15 Y14 Y9 Y7
  clear lw16 hl16 hi16
  have k_9 := (hS.blk 0 rfl).cell
  have k_10 := (hS.blk 0 rfl).frozen
  go_wp2_with fail
  clear k_9 k_10
  replace hS := (St.put (W' := ((w6.setCell ⟨g16, 0, none⟩ (.bool s53)).setCell ⟨g16, 1, none⟩ (.slice A_53 n53 c53))) hS 0 0 [.bool s53, .slice A_53 n53 c53] (cs' := #[.bool s53, .slice A_53 n53 c53]) (bs' := _) rfl o16 rfl rfl rfl rfl)
  simp only [List.set_cons_zero] at hS
  generalize ((w6.setCell ⟨g16, 0, none⟩ (.bool s53)).setCell ⟨g16, 1, none⟩ (.slice A_53 n53 c53)) = w7 at hS ⊢
  have Y15 := ExtOf.blk (hS.blk 1 rfl)
  have Y14 := ExtOf.blk (hS.blk 2 rfl)
  have Y9 := ExtOf.blk (hS.blk 6 rfl)
  have Y7 := ExtOf.blk (hS.blk 7 rfl)
  have hE_ := hS.ext
  refine wp_region_tame 13 (hasF [(5, .any), (10, .any), (11, .any), (12, .any)]) (Fcs [(5, .ri (z59)), (10, .ri (z64)), (11, .ri (z65)), (12, .box 30 #[.bool false, .slice none 0 0])]) (Fcs_stab _) (by kernel_rfl) (by kernel_rfl) ?_
  simp only [List.take_succ_cons, List.take_zero, List.drop_succ_cons, List.drop_zero]
  refine wpT_quiet 5 (by rfl) (by kernel_rfl) ?_
  simp only [List.take_succ_cons, List.take_zero, List.drop_succ_cons, List.drop_zero]
  repeat (go_big_quiet_step (fail))
  refine wpQuiet_nil ?_
  refine wpT_eff (by rfl) (by rfl) (by rfl) ?_ ?_
  · intro W_ hK
    have hW := hK.1
    clear hK
    go_simp
    exact ⟨rfl, (emul_ok gc _ _ x1b z33 z59 _ (Blk.ext (hS.blk 8 rfl) hW) (RI.ext (hS.num 12 rfl) hW) (RI.ext (hS.num 5 rfl) hW) ax1b A33 E59.out A59).mono fun e w' ⟨v, he, hR, hx⟩ => ⟨v, he, hx, hR⟩⟩
  intro v_ lo59 hi59 hr_
  obtain ⟨W_, hW_⟩ := hr_
  have hv_ : Fc.holds (.ri (z59)) lo59 hi59 v_ W_ := hW_.get
  clear hW_
  obtain ⟨s59, A_59, n59, c59, rfl, -⟩ := RI.opn hv_
  clear hv_
  clear W_
  try simp only [Act.put, List.setIfInBounds_toArray, List.set_cons_succ, List.set_cons_zero]
  refine wpT_quiet 4 (by rfl) (by kernel_rfl) ?_
  simp only [List.take_succ_cons, List.take_zero, List.drop_succ_cons, List.drop_zero]
  repeat (go_big_quiet_step (fail))
  refine wpQuiet_nil ?_
  refine wpT_eff (by rfl) (by rfl) (by rfl) ?_ ?_
  · intro W_ hK
    have hW := hK.1
    clear hK
    go_simp
    exact ⟨rfl, (emul_ok gc _ _ x3b z41 z64 _ (Blk.ext (hS.blk 8 rfl) hW) (RI.ext (hS.num 9 rfl) hW) (RI.ext (hS.num 3 rfl) hW) ax3b A41 E64.out A64).mono fun e w' ⟨v, he, hR, hx⟩ => ⟨v, he, hx, hR⟩⟩
  intro v_ lo64 hi64 hr_
  obtain ⟨W_, hW_⟩ := hr_
  have hv_ : Fc.holds (.ri (z64)) lo64 hi64 v_ W_ := hW_.get
  clear hW_
  obtain ⟨s64, A_64, n64, c64, rfl, -⟩ := RI.opn hv_
  clear hv_
  clear W_
  try simp only [Act.put, List.setIfInBounds_toArray, List.set_cons_succ, List.set_cons_zero]
  refine wpT_eff (by rfl) (by rfl) (by rfl) ?_ ?_
  · intro W_ hK
    have hW := hK.1
    have F_s59 : RI W_ (iv s59 A_59 n59 c59) z59 := hK.2 5 ((iv s59 A_59 n59 c59), lo59, hi59) (by rfl) (by kernel_rfl)
    have F_s64 : RI W_ (iv s64 A_64 n64 c64) z64 := hK.2 10 ((iv s64 A_64 n64 c64), lo64, hi64) (by rfl) (by kernel_rfl)
    clear hK
    go_simp
    exact ⟨rfl, (eadd_ok gc _ _ z59 z64 z65 _ (Blk.ext (hS.blk 8 rfl) hW) F_s59 F_s64 A59 A64 E65.out A65).mono fun e w' ⟨v, he, hR, hx⟩ => ⟨v, he, hx, hR⟩⟩
  intro v_ lo65 hi65 hr_
  obtain ⟨W_, hW_⟩ := hr_
  have hv_ : Fc.holds (.ri (z65)) lo65 hi65 v_ W_ := hW_.get
  clear hW_
  obtain ⟨s65, A_65, n65, c65, rfl, -⟩ := RI.opn hv_
  clear hv_
  clear W_
  try simp only [Act.put, List.setIfInBounds_toArray, List.set_cons_succ, List.set_cons_zero]
  refine wpT_eff (by rfl) (by rfl) (by rfl) ?_ ?_
  · intro W_ hK
    go_simp
    exact ⟨Ext.new _ _, rfl, by simp, Blk.new _ _ _⟩
  intro v_ g17 hi17 hr_
  obtain ⟨W_, hW_⟩ := hr_
  obtain ⟨rfl, hl17, -⟩ : Fc.holds (.box 30 #[.bool false, .slice none 0 0]) g17 hi17 v_ W_ := hW_.get
  clear hW_ W_
  try simp only [Act.put, List.setIfInBounds_toArray, List.set_cons_succ, List.set_cons_zero]
  refine wpT_nil ?_
  intro w8 hK
  have hlt_ := hS.lt
  replace hS := hS.mv hK.ext
  replace hS := hS.addI (show RI w8 (iv s59 A_59 n59 c59) z59 from hK.at_ 5 (e := ((iv s59 A_59 n59 c59), lo59, hi59)) (by rfl))
  replace hS := hS.addI (show RI w8 (iv s64 A_64 n64 c64) z64 from hK.at_ 10 (e := ((iv s64 A_64 n64 c64), lo64, hi64)) (by rfl))
  replace hS := hS.addI (show RI w8 (iv s65 A_65 n65 c65) z65 from hK.at_ 11 (e := ((iv s65 A_65 n65 c65), lo65, hi65)) (by rfl))
  have lw17 : w7.heap.size ≤ g17 := hK.low 12 _ (by rfl)
  have o17 : Own w g17 := Own.of hE_ lw17
  replace hS := hS.addB (show Blk w8 g17 30 #[.bool false, .slice none 0 0] from (hK.at_ 12 (by rfl)).2.2) (apart_of fun p hp => Nat.ne_of_lt (Nat.lt_of_lt_of_le (hlt_ p hp) lw17))
  clear hK hlt_ hE_ Y15 Y14 Y9 Y7
  clear lw17 hl17 hi17
  have k_11 := (hS.blk 0 rfl).cell
  have k_12 := (hS.blk 0 rfl).frozen
  go_wp2_with fail
  clear k_11 k_12
  replace hS := (St.put (W' := ((w8.setCell ⟨g17, 0, none⟩ (.bool s65)).setCell ⟨g17, 1, none⟩ (.slice A_65 n65 c65))) hS 0 0 [.bool s65, .slice A_65 n65 c65] (cs' := #[.bool s65, .slice A_65 n65 c65]) (bs' := _) rfl o17 rfl rfl rfl rfl)
  simp only [List.set_cons_zero] at hS
  generalize ((w8.setCell ⟨g17, 0, none⟩ (.bool s65)).setCell ⟨g17, 1, none⟩ (.slice A_65 n65 c65)) = w9 at hS ⊢
  have Y13 := ExtOf.blk (hS.blk 4 rfl)
  have Y9 := ExtOf.blk (hS.blk 7 rfl)
  have Y7 := ExtOf.blk (hS.blk 8 rfl)
  have hE_ := hS.ext
  refine wp_region_tame 13 (hasF [(8, .any), (9, .any), (11, .any), (12, .any)]) (Fcs [(8, .ri (z74)), (9, .ri (z75)), (11, .ri (z77)), (12, .box 30 #[.bool false, .slice none 0 0])]) (Fcs_stab _) (by kernel_rfl) (by kernel_rfl) ?_
  simp only [List.take_succ_cons, List.take_zero, List.drop_succ_cons, List.drop_zero]
  refine wpT_quiet 8 (by rfl) (by kernel_rfl) ?_
  simp only [List.take_succ_cons, List.take_zero, List.drop_succ_cons, List.drop_zero]
  repeat (go_big_quiet_step (fail))
  refine wpQuiet_nil ?_
  refine wpT_eff (by rfl) (by rfl) (by rfl) ?_ ?_
  · intro W_ hK
    have hW := hK.1
    clear hK
    go_simp
    exact ⟨rfl, (ediv_ok gc _ _ x3d z25 z74 _ (Blk.ext (hS.blk 9 rfl) hW) (RI.ext (hS.num 11 rfl) hW) (RI.ext (hS.num 10 rfl) hW) ax3d A25 N74.out ND74.out E74.out).mono fun e w' ⟨v, he, hR, hx⟩ => ⟨v, he, hx, hR⟩⟩
  intro v_ lo74 hi74 hr_
  obtain ⟨W_, hW_⟩ := hr_
  have hv_ : Fc.holds (.ri (z74)) lo74 hi74 v_ W_ := hW_.get
  clear hW_
  obtain ⟨s74, A_74, n74, c74, rfl, -⟩ := RI.opn hv_
  clear hv_
  clear W_
  try simp only [Act.put, List.setIfInBounds_toArray, List.set_cons_succ, List.set_cons_zero]
  refine wpT_eff (by rfl) (by rfl) (by rfl) ?_ ?_
  · intro W_ hK
    have hW := hK.1
    have F_s74 : RI W_ (iv s74 A_74 n74 c74) z74 := hK.2 8 ((iv s74 A_74 n74 c74), lo74, hi74) (by rfl) (by kernel_rfl)
    clear hK
    go_simp
    exact ⟨rfl, (emul_ok gc _ _ x1d z74 z75 _ (Blk.ext (hS.blk 9 rfl) hW) (RI.ext (hS.num 14 rfl) hW) F_s74 ax1d A74 E75.out A75).mono fun e w' ⟨v, he, hR, hx⟩ => ⟨v, he, hx, hR⟩⟩
  intro v_ lo75 hi75 hr_
  obtain ⟨W_, hW_⟩ := hr_
  have hv_ : Fc.holds (.ri (z75)) lo75 hi75 v_ W_ := hW_.get
  clear hW_
  obtain ⟨s75, A_75, n75, c75, rfl, -⟩ := RI.opn hv_
  clear hv_
  clear W_
  try simp only [Act.put, List.setIfInBounds_toArray, List.set_cons_succ, List.set_cons_zero]
  refine wpT_quiet 1 (by rfl) (by kernel_rfl) ?_
  simp only [List.take_succ_cons, List.take_zero, List.drop_succ_cons, List.drop_zero]
  repeat (go_big_quiet_step (fail))
  refine wpQuiet_nil ?_
  refine wpT_eff (by rfl) (by rfl) (by rfl) ?_ ?_
  · intro W_ hK
    have hW := hK.1
    have F_s75 : RI W_ (iv s75 A_75 n75 c75) z75 := hK.2 9 ((iv s75 A_75 n75 c75), lo75, hi75) (by rfl) (by kernel_rfl)
    clear hK
    go_simp
    exact ⟨rfl, (escale_ok gc _ z75 (m5) _ (Blk.ext (hS.blk 9 rfl) hW) F_s75 A75 l5 u5 z77 E77 A77).mono fun e w' ⟨v, he, hR, hx⟩ => ⟨v, he, hx, hR⟩⟩
  intro v_ lo77 hi77 hr_
  obtain ⟨W_, hW_⟩ := hr_
  have hv_ : Fc.holds (.ri (z77)) lo77 hi77 v_ W_ := hW_.get
  clear hW_
  obtain ⟨s77, A_77, n77, c77, rfl, -⟩ := RI.opn hv_
  clear hv_
  clear W_
  try simp only [Act.put, List.setIfInBounds_toArray, List.set_cons_succ, List.set_cons_zero]
  refine wpT_eff (by rfl) (by rfl) (by rfl) ?_ ?_
  · intro W_ hK
    go_simp
    exact ⟨Ext.new _ _, rfl, by simp, Blk.new _ _ _⟩
  intro v_ g18 hi18 hr_
  obtain ⟨W_, hW_⟩ := hr_
  obtain ⟨rfl, hl18, -⟩ : Fc.holds (.box 30 #[.bool false, .slice none 0 0]) g18 hi18 v_ W_ := hW_.get
  clear hW_ W_
  try simp only [Act.put, List.setIfInBounds_toArray, List.set_cons_succ, List.set_cons_zero]
  refine wpT_nil ?_
  intro w10 hK
  have hlt_ := hS.lt
  replace hS := hS.mv hK.ext
  replace hS := hS.addI (show RI w10 (iv s74 A_74 n74 c74) z74 from hK.at_ 8 (e := ((iv s74 A_74 n74 c74), lo74, hi74)) (by rfl))
  replace hS := hS.addI (show RI w10 (iv s75 A_75 n75 c75) z75 from hK.at_ 9 (e := ((iv s75 A_75 n75 c75), lo75, hi75)) (by rfl))
  replace hS := hS.addI (show RI w10 (iv s77 A_77 n77 c77) z77 from hK.at_ 11 (e := ((iv s77 A_77 n77 c77), lo77, hi77)) (by rfl))
  have lw18 : w9.heap.size ≤ g18 := hK.low 12 _ (by rfl)
  have o18 : Own w g18 := Own.of hE_ lw18
  replace hS := hS.addB (show Blk w10 g18 30 #[.bool false, .slice none 0 0] from (hK.at_ 12 (by rfl)).2.2) (apart_of fun p hp => Nat.ne_of_lt (Nat.lt_of_lt_of_le (hlt_ p hp) lw18))
  clear hK hlt_ hE_ Y13 Y9 Y7
  clear lw18 hl18 hi18
  have k_13 := (hS.blk 0 rfl).cell
  have k_14 := (hS.blk 0 rfl).frozen
  have hT4 := (St.put (W' := ((w10.setCell ⟨g18, 0, none⟩ (.bool s77)).setCell ⟨g18, 1, none⟩ (.slice A_77 n77 c77))) hS 0 0 [.bool s77, .slice A_77 n77 c77] (cs' := #[.bool s77, .slice A_77 n77 c77]) (bs' := _) rfl o18 rfl rfl rfl rfl)
  have k_15 := (hT4.blk 10 rfl).cell
  have k_16 := (hT4.blk 2 rfl).cell
  have k_17 := (hT4.blk 1 rfl).cell
  have k_18 := (hT4.blk 0 rfl).cell
  go_wp2_with fail
  clear k_13 k_14 k_15 k_16 k_17 k_18
  clear hT4
  replace hS := (St.put (W' := ((w10.setCell ⟨g18, 0, none⟩ (.bool s77)).setCell ⟨g18, 1, none⟩ (.slice A_77 n77 c77))) hS 0 0 [.bool s77, .slice A_77 n77 c77] (cs' := #[.bool s77, .slice A_77 n77 c77]) (bs' := _) rfl o18 rfl rfl rfl rfl)
  simp only [List.set_cons_zero] at hS
  generalize ((w10.setCell ⟨g18, 0, none⟩ (.bool s77)).setCell ⟨g18, 1, none⟩ (.slice A_77 n77 c77)) = w11 at hS ⊢
  refine (ereduce_ok gc _ _ _ z53 z65 z77 z88a z88b z88d _ (hS.blk 10 rfl) (hS.num 6 rfl) (hS.num 3 rfl) (hS.num 0 rfl) A53 A65 A77 N88.out E88.out).mono ?_
  rintro e w12 ⟨v_, rfl, hv_, hx_⟩
  replace hS := hS.mv hx_
  clear hx_
  obtain ⟨s88a, A_88a, n88a, c88a, s88b, A_88b, n88b, c88b, s88d, A_88d, n88d, c88d, rfl, f_s88a, f_s88b, f_s88d⟩ := hv_
  replace hS := hS.addI f_s88a
  clear f_s88a
  replace hS := hS.addI f_s88b
  clear f_s88b
  replace hS := hS.addI f_s88d
  clear f_s88d
  have k_19 := (hS.blk 7 rfl).cell
  have k_20 := (hS.blk 7 rfl).frozen
  go_wp2
  replace hS := (St.put (W' := ((((((w12.setCell ⟨g12, 0, none⟩ (.bool s88a)).setCell ⟨g12, 1, none⟩ (.slice A_88a n88a c88a)).setCell ⟨g12, 2, none⟩ (.bool s88b)).setCell ⟨g12, 3, none⟩ (.slice A_88b n88b c88b)).setCell ⟨g12, 4, none⟩ (.bool s88d)).setCell ⟨g12, 5, none⟩ (.slice A_88d n88d c88d))) hS 7 0 [.bool s88a, .slice A_88a n88a c88a, .bool s88b, .slice A_88b n88b c88b, .bool s88d, .slice A_88d n88d c88d] (cs' := #[.bool s88a, .slice A_88a n88a c88a, .bool s88b, .slice A_88b n88b c88b, .bool s88d, .slice A_88d n88d c88d]) (bs' := _) rfl o12 rfl rfl rfl rfl)
  exact bp_gauss1 rfl rfl rfl (hS.blk 7 rfl) ⟨_, rfl, RG.mk (hS.num 2 rfl) (hS.num 1 rfl) (hS.num 0 rfl), hS.ext⟩

end Go.Proofs.YtclkkoiaaddllaaGreat

/- Contracts of the calculator: sums of multiples, in lowest terms. -/
namespace Go.Proofs.YtclkkoiaaddllaaGreat
open Go.RowKit
set_option linter.unusedVariables false

theorem lim_of {z : Int} {n : Nat} (h : z.natAbs < 2 ^ n) (hn : n ≤ 12800) : z.natAbs < lim := by
  refine Nat.lt_of_lt_of_le h ?_
  have e : lim = 2 ^ (32 * limK) := by unfold lim; rw [Nat.pow_mul]
  rw [e]
  exact Nat.pow_le_pow_right (by omega) (by unfold limK; omega)
theorem lt_gcd {z a : Int} {n : Nat} (ha : a ≠ 0) (h : z ∣ a) (hn : a.natAbs < 2 ^ n) : z.natAbs < 2 ^ n :=
  Nat.lt_of_le_of_lt (Nat.le_of_dvd (by omega) (Int.natAbs_dvd_natAbs.2 h)) hn
theorem lt_div {a z q : Int} {n : Nat} (hz : z ≠ 0) (h : a = z * q) (hn : a.natAbs < 2 ^ n) : q.natAbs < 2 ^ n := by
  rw [h, Int.natAbs_mul] at hn
  exact Nat.lt_of_le_of_lt (Nat.le_mul_of_pos_left _ (by omega)) hn
theorem div_of {a z q : Int} (hz : z ≠ 0) (h : a = z * q) : q = a / z := by rw [h, Int.mul_ediv_cancel_left _ hz]
theorem gcd2_facts {a b : Int} (hb : b ≠ 0) : ∃ z p q : Int, z = (gcdL [a, b] : Nat) ∧ z ≠ 0 ∧ a = z * p ∧ b = z * q := by
  have e : gcdL [a, b] = Nat.gcd a.natAbs b.natAbs := by simp [gcdL]
  have d1 : ((gcdL [a, b] : Nat) : Int) ∣ a := by rw [e]; exact Int.ofNat_dvd_left.2 (Nat.gcd_dvd_left _ _)
  have d2 : ((gcdL [a, b] : Nat) : Int) ∣ b := by rw [e]; exact Int.ofNat_dvd_left.2 (Nat.gcd_dvd_right _ _)
  have h0 : 0 < gcdL [a, b] := by rw [e]; exact Nat.gcd_pos_of_pos_right _ (by omega)
  obtain ⟨p, hp⟩ := d1
  obtain ⟨q, hq⟩ := d2
  exact ⟨_, p, q, rfl, by omega, hp, hq⟩
theorem gcd3_facts {a b c : Int} (ha : a ≠ 0) : ∃ z p q r : Int, z = (gcdL [a, b, c] : Nat) ∧ z ≠ 0 ∧ a = z * p ∧ b = z * q ∧ c = z * r := by
  have e : gcdL [a, b, c] = Nat.gcd (Nat.gcd a.natAbs b.natAbs) c.natAbs := by simp [gcdL]
  have d1 : ((gcdL [a, b, c] : Nat) : Int) ∣ a := by rw [e]; exact Int.ofNat_dvd_left.2 (Nat.dvd_trans (Nat.gcd_dvd_left _ _) (Nat.gcd_dvd_left _ _))
  have d2 : ((gcdL [a, b, c] : Nat) : Int) ∣ b := by rw [e]; exact Int.ofNat_dvd_left.2 (Nat.dvd_trans (Nat.gcd_dvd_left _ _) (Nat.gcd_dvd_right _ _))
  have d3 : ((gcdL [a, b, c] : Nat) : Int) ∣ c := by rw [e]; exact Int.ofNat_dvd_left.2 (Nat.gcd_dvd_right _ _)
  have h0 : 0 < gcdL [a, b, c] := by rw [e]; exact Nat.gcd_pos_of_pos_left _ (Nat.gcd_pos_of_pos_left _ (by omega))
  obtain ⟨p, hp⟩ := d1
  obtain ⟨q, hq⟩ := d2
  obtain ⟨r, hr⟩ := d3
  exact ⟨_, p, q, r, rfl, by omega, hp, hq, hr⟩
theorem nf_size' {A B D a b d : Int} {n : Nat} (hD : D ≠ 0) (E : (a, b, d) = nf A B D) (ha : A.natAbs < 2 ^ n) (hb : B.natAbs < 2 ^ n) (hd : D.natAbs < 2 ^ n) : Sz n a b d := by
  have h := nf_size (a := A) (b := B) hD
  rw [← E] at h
  exact ⟨Nat.lt_of_le_of_lt h.1 ha, Nat.lt_of_le_of_lt h.2.1 hb, Nat.lt_of_le_of_lt h.2.2 hd⟩
theorem Sz.lims {n : Nat} {a b d : Int} (h : Sz n a b d) (hn : n ≤ 12800) : a.natAbs < lim ∧ b.natAbs < lim ∧ d.natAbs < lim := ⟨lim_of h.a hn, lim_of h.b hn, lim_of h.d hn⟩
theorem lt64 {m : Int} (h1 : -9223372036854775808 ≤ m) (h2 : m ≤ 9223372036854775807) : m.natAbs < 2 ^ 64 := by
  have : (2 : Nat) ^ 64 = 18446744073709551616 := by decide
  omega
theorem eblend_ok (gc : Nat) (v1 v3 : Value) (a b d j a' b' d' k m u v t : Int) (n : Nat) (w : World) (hc : Calm w gc) (hX : RG w v1 a b d) (hY : RG w v3 a' b' d') (sx : Sz n a b d) (sy : Sz n a' b' d') (hn : n + n + 65 ≤ 12800)
    (hd : d ≠ 0) (hd' : d' ≠ 0) (hm : m ≠ 0) (j1 : -9223372036854775808 ≤ j) (j2 : j ≤ 9223372036854775807) (k1 : -9223372036854775808 ≤ k) (k2 : k ≤ 9223372036854775807) (m1 : -9223372036854775808 ≤ m) (m2 : m ≤ 9223372036854775807)
    (E : (u, v, t) = nf (j * a * d' + k * a' * d) (j * b * d' + k * b' * d) (d * d' * m)) :
    Calls Tryz.prog 85 #[.pointer (some ⟨gc, 0, none⟩), v1, .int .i64 j, v3, .int .i64 k, .int .i64 m] w fun e w' => ∃ x, e = .returned x ∧ RG w' x u v t ∧ Ext w w' := by
  obtain ⟨g, r, p, hg, hg0, er, ep⟩ := gcd2_facts (a := d) (b := d') hd'
  have bp : p.natAbs < 2 ^ n := lt_div hg0 ep sy.d
  have br : r.natAbs < 2 ^ n := lt_div hg0 er sx.d
  have bg : g.natAbs < 2 ^ n := lt_gcd hd ⟨r, er⟩ sx.d
  have bj := lt64 j1 j2
  have bk := lt64 k1 k2
  have bm := lt64 m1 m2
  have b33 := lt_mul bp bj
  have b41 := lt_mul br bk
  have b47 := lt_up (lt_mul sx.a b33) (n := n + n + 64) (by omega)
  have b52 := lt_up (lt_mul sy.a b41) (n := n + n + 64) (by omega)
  have b59 := lt_up (lt_mul sx.b b33) (n := n + n + 64) (by omega)
  have b64 := lt_up (lt_mul sy.b b41) (n := n + n + 64) (by omega)
  have b53 := lt_add b47 b52
  have b65 := lt_add b59 b64
  have b75 := lt_mul sx.d bp
  have b77 := lt_mul b75 bm
  have h77 : d * p * m ≠ 0 := Int.mul_ne_zero (Int.mul_ne_zero hd (by intro h; rw [h] at ep; simp at ep; exact hd' ep)) hm
  have E' : (u, v, t) = nf (a * (p * j) + a' * (r * k)) (b * (p * j) + b' * (r * k)) (d * p * m) := by
    rw [E]
    refine nf_unique (Int.mul_ne_zero (Int.mul_ne_zero hd hd') hm) h77 ?_ ?_
    · rw [ep]; generalize hD : d = D at *; subst er; grind
    · rw [ep]; generalize hD : d = D at *; subst er; grind
  have sz := nf_size' (n := n + n + 65) h77 E' b53 b65 (lt_up b77 (by omega))
  obtain ⟨x1, x2, x3⟩ := sx.lims (by omega)
  obtain ⟨y1, y2, y3⟩ := sy.lims (by omega)
  obtain ⟨s1, s2, s3⟩ := sz.lims hn
  exact eblend_w gc v1 a b d j v3 a' b' d' k m w hc hX x1 x2 x3 j1 j2 hY y1 y2 y3 k1 k2 m1 m2 g (Lib.hid hg) (lim_of bg (by omega))
    p (Lib.hid (div_of hg0 ep)) (lim_of bp (by omega)) (Lib.hid hg0) (Lib.hid ⟨p, ep⟩) _ (Lib.hid rfl) (lim_of b33 (by omega))
    r (Lib.hid (div_of hg0 er)) (lim_of br (by omega)) (Lib.hid hg0) (Lib.hid ⟨r, er⟩) _ (Lib.hid rfl) (lim_of b41 (by omega))
    _ (Lib.hid rfl) (lim_of b47 (by omega)) _ (Lib.hid rfl) (lim_of b52 (by omega)) _ (Lib.hid rfl) (lim_of b53 (by omega))
    _ (Lib.hid rfl) (lim_of b59 (by omega)) _ (Lib.hid rfl) (lim_of b64 (by omega)) _ (Lib.hid rfl) (lim_of b65 (by omega))
    p (Lib.hid (div_of hg0 ep)) (lim_of bp (by omega)) (Lib.hid hg0) (Lib.hid ⟨p, ep⟩) _ (Lib.hid rfl) (lim_of b75 (by omega)) _ (Lib.hid rfl) (lim_of b77 (by omega)) (Lib.hid h77) u v t (Lib.hid E') s1 s2 s3
end Go.Proofs.YtclkkoiaaddllaaGreat
