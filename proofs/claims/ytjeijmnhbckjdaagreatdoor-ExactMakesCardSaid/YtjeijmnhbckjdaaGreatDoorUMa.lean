/- Of returns the number in lowest terms: the walk. -/
import Derived.Test.YtjeijmnhbckjdaaGreatDoorUGf
import Derived.Test.YtjeijmnhbckjdaaGreatDoorUGd
namespace Go.Proofs.YtjeijmnhbckjdaaGreatDoor
open Go.RowKit
set_option linter.unusedVariables false

set_option maxRecDepth 100000 in
set_option maxHeartbeats 3200000 in
theorem makes_z (m0 : Int) (m1 : Int) (w : World) (l0 : -9223372036854775808 ≤ m0) (u0 : m0 ≤ 9223372036854775807) (l1 : -9223372036854775808 ≤ m1) (u1 : m1 ≤ 9223372036854775807) (hTab : Tab w)
      :
    Calls Tryz.prog 3 #[.int .i64 m0, .int .i64 m1, .int .i64 (0)] w fun e w' => e = .returned (.bool true) ∧ Ext w w' := by
  have hS := St.start w
  go_enter Tryz.func3, Tryz.ntmps3
  go_wp2_with fail
  refine (eOf_bad (m0) (m1) _ l0 u0 l1 u1).mono ?_
  rintro e w1 ⟨v_, rfl, hv_, hx_⟩
  replace hS := hS.mv hx_
  clear hx_
  obtain ⟨_, rfl, s13a, A_13a, n13a, c13a, s13b, A_13b, n13b, c13b, s13d, A_13d, n13d, c13d, rfl, f_s13a, f_s13b, f_s13d⟩ := hv_
  replace hS := hS.addI f_s13a
  clear f_s13a
  replace hS := hS.addI f_s13b
  clear f_s13b
  replace hS := hS.addI f_s13d
  clear f_s13d
  have o7 : Own w w1.heap.size := Own.of hS.ext (by simp)
  have hT1 := (St.al hS 26 #[.bool false, .slice none 0 0, .bool false, .slice none 0 0, .bool false, .slice none 0 0] (g := w1.heap.size) (by simp))
  have k_1 := (hT1.blk 0 rfl).cell
  have k_2 := (hT1.blk 0 rfl).frozen
  go_wp2_with fail
  clear k_1 k_2
  clear hT1
  replace hS := (St.al hS 26 #[.bool s13a, .slice A_13a n13a c13a, .bool s13b, .slice A_13b n13b c13b, .bool s13d, .slice A_13d n13d c13d] (g := w1.heap.size) (by simp))
  generalize (w1.alloc (.cells #[.bool s13a, .slice A_13a n13a c13a, .bool s13b, .slice A_13b n13b c13b, .bool s13d, .slice A_13d n13d c13d] 26)) = w2 at hS ⊢
  generalize w1.heap.size = g7 at hS o7 ⊢
  refine (lxknown_ok _ (tab_ext hTab hS.ext)).mono ?_
  rintro e w3 ⟨rfl, hx_⟩
  replace hS := hS.mv hx_
  clear hx_
  go_wp2
  go_ret
  exact ⟨ret_bool (rfl), hS.ext⟩

set_option maxRecDepth 100000 in
set_option maxHeartbeats 6400000 in
theorem makes_n (m0 : Int) (m1 : Int) (m2 : Int) (w : World) (l0 : -9223372036854775808 ≤ m0) (u0 : m0 ≤ 9223372036854775807) (l1 : -9223372036854775808 ≤ m1) (u1 : m1 ≤ 9223372036854775807) (l2 : -9223372036854775808 ≤ m2) (u2 : m2 ≤ 9223372036854775807) (hTab : Tab w) (H0 : Hid (m2 ≠ 0))
      :
    Calls Tryz.prog 3 #[.int .i64 m0, .int .i64 m1, .int .i64 m2] w fun e w' => e = .returned (.bool true) ∧ Ext w w' := by
  have hS := St.start w
  have t1 : (m2 == 0) = false := by have := H0.out; simp; omega
  go_enter Tryz.func3, Tryz.ntmps3
  go_wp2_with fail
  obtain ⟨z13a, z13b, z13d, I13⟩ := is_ex ((⟨((m0 : Int) : Rat) / ((m2 : Int) : Rat), ((m1 : Int) : Rat) / ((m2 : Int) : Rat)⟩ : GQ))
  have S13 : Sz (64) z13a z13b z13d := (Bd.frac l0 u0 l1 u1 l2 u2 H0.out).sz I13
  refine (toTG (eOf_q (m0) (m1) (m2) _ l0 u0 l1 u1 l2 u2 H0.out) I13).mono ?_
  rintro e w1 ⟨v_, rfl, hv_, hx_⟩
  replace hS := hS.mv hx_
  clear hx_
  obtain ⟨_, rfl, s13a, A_13a, n13a, c13a, s13b, A_13b, n13b, c13b, s13d, A_13d, n13d, c13d, rfl, f_s13a, f_s13b, f_s13d⟩ := hv_
  replace hS := hS.addI f_s13a
  clear f_s13a
  replace hS := hS.addI f_s13b
  clear f_s13b
  replace hS := hS.addI f_s13d
  clear f_s13d
  have o7 : Own w w1.heap.size := Own.of hS.ext (by simp)
  have hT1 := (St.al hS 26 #[.bool false, .slice none 0 0, .bool false, .slice none 0 0, .bool false, .slice none 0 0] (g := w1.heap.size) (by simp))
  have k_1 := (hT1.blk 0 rfl).cell
  have k_2 := (hT1.blk 0 rfl).frozen
  go_wp2_with fail
  clear k_1 k_2
  clear hT1
  replace hS := (St.al hS 26 #[.bool s13a, .slice A_13a n13a c13a, .bool s13b, .slice A_13b n13b c13b, .bool s13d, .slice A_13d n13d c13d] (g := w1.heap.size) (by simp))
  generalize (w1.alloc (.cells #[.bool s13a, .slice A_13a n13a c13a, .bool s13b, .slice A_13b n13b c13b, .bool s13d, .slice A_13d n13d c13d] 26)) = w2 at hS ⊢
  generalize w1.heap.size = g7 at hS o7 ⊢
  have Y7 := ExtOf.blk (hS.blk 0 rfl)
  have hE_ := hS.ext
  refine wp_region_tame 20 (hasF [(0, .any), (8, .any), (10, .any), (12, .any), (13, .any), (14, .any), (18, .any)]) (Fcs [(0, .eq (.bool true)), (8, .ri ((m0))), (10, .ri ((m1))), (12, .ri ((m2))), (13, .rg (z13a) (z13b) (z13d)), (14, .eq (.bool true)), (18, .eq (.bool true))]) (Fcs_stab _) (by kernel_rfl) (by kernel_rfl) ?_
  simp only [List.take_succ_cons, List.take_zero, List.drop_succ_cons, List.drop_zero]
  refine wpT_eff (by rfl) (by rfl) (by rfl) ?_ ?_
  · intro W_ hK
    have hW := hK.1
    clear hK
    go_simp
    exact ⟨rfl, (lxknown_ok _ (tab_ext hTab (hE_.trans hW))).mono fun e w' ⟨he, hx⟩ => ⟨_, he, hx, rfl⟩⟩
  intro v_ lo23 hi23 hr_
  obtain ⟨W_, hW_⟩ := hr_
  obtain rfl : v_ = .bool true := hW_.get
  clear hW_ W_
  try simp only [Act.put, List.setIfInBounds_toArray, List.set_cons_succ, List.set_cons_zero]
  refine wpT_quiet 7 (by rfl) (by kernel_rfl) ?_
  simp only [List.take_succ_cons, List.take_zero, List.drop_succ_cons, List.drop_zero]
  repeat (go_big_quiet_step (fail))
  refine wpQuiet_nil ?_
  refine wpT_eff (by rfl) (by rfl) (by rfl) ?_ ?_
  · intro W_ hK
    have hW := hK.1
    clear hK
    go_simp
    exact ⟨rfl, (qOf_ok (m0) _ l0 u0).mono fun e w' ⟨v, he, hR, hx⟩ => ⟨v, he, hx, hR⟩⟩
  intro v_ lo31 hi31 hr_
  obtain ⟨W_, hW_⟩ := hr_
  have hv_ : Fc.holds (.ri ((m0))) lo31 hi31 v_ W_ := hW_.get
  clear hW_
  obtain ⟨s31, A_31, n31, c31, rfl, -⟩ := RI.opn hv_
  clear hv_
  clear W_
  try simp only [Act.put, List.setIfInBounds_toArray, List.set_cons_succ, List.set_cons_zero]
  refine wpT_quiet 1 (by rfl) (by kernel_rfl) ?_
  simp only [List.take_succ_cons, List.take_zero, List.drop_succ_cons, List.drop_zero]
  repeat (go_big_quiet_step (fail))
  refine wpQuiet_nil ?_
  refine wpT_eff (by rfl) (by rfl) (by rfl) ?_ ?_
  · intro W_ hK
    have hW := hK.1
    clear hK
    go_simp
    exact ⟨rfl, (qOf_ok (m1) _ l1 u1).mono fun e w' ⟨v, he, hR, hx⟩ => ⟨v, he, hx, hR⟩⟩
  intro v_ lo33 hi33 hr_
  obtain ⟨W_, hW_⟩ := hr_
  have hv_ : Fc.holds (.ri ((m1))) lo33 hi33 v_ W_ := hW_.get
  clear hW_
  obtain ⟨s33, A_33, n33, c33, rfl, -⟩ := RI.opn hv_
  clear hv_
  clear W_
  try simp only [Act.put, List.setIfInBounds_toArray, List.set_cons_succ, List.set_cons_zero]
  refine wpT_quiet 1 (by rfl) (by kernel_rfl) ?_
  simp only [List.take_succ_cons, List.take_zero, List.drop_succ_cons, List.drop_zero]
  repeat (go_big_quiet_step (fail))
  refine wpQuiet_nil ?_
  refine wpT_eff (by rfl) (by rfl) (by rfl) ?_ ?_
  · intro W_ hK
    have hW := hK.1
    clear hK
    go_simp
    exact ⟨rfl, (qOf_ok (m2) _ l2 u2).mono fun e w' ⟨v, he, hR, hx⟩ => ⟨v, he, hx, hR⟩⟩
  intro v_ lo35 hi35 hr_
  obtain ⟨W_, hW_⟩ := hr_
  have hv_ : Fc.holds (.ri ((m2))) lo35 hi35 v_ W_ := hW_.get
  clear hW_
  obtain ⟨s35, A_35, n35, c35, rfl, -⟩ := RI.opn hv_
  clear hv_
  clear W_
  try simp only [Act.put, List.setIfInBounds_toArray, List.set_cons_succ, List.set_cons_zero]
  refine wpT_eff (by rfl) (by rfl) (by rfl) ?_ ?_
  · intro W_ hK
    have hW := hK.1
    have F_s31 : RI W_ (iv s31 A_31 n31 c31) (m0) := hK.2 8 ((iv s31 A_31 n31 c31), lo31, hi31) (by rfl) (anc_of (by kernel_rfl))
    have F_s33 : RI W_ (iv s33 A_33 n33 c33) (m1) := hK.2 10 ((iv s33 A_33 n33 c33), lo33, hi33) (by rfl) (anc_of (by kernel_rfl))
    have F_s35 : RI W_ (iv s35 A_35 n35 c35) (m2) := hK.2 12 ((iv s35 A_35 n35 c35), lo35, hi35) (by rfl) (anc_of (by kernel_rfl))
    clear hK
    go_simp
    exact ⟨rfl, (qMake_ok _ _ _ (m0) (m1) (m2) z13a z13b z13d _ F_s31 F_s33 F_s35 (lt_lim64 l0 u0) (lt_lim64 l1 u1) (lt_lim64 l2 u2) H0.out (I13.nf_eq H0.out rfl rfl).symm).mono fun e w' ⟨v, he, hR, hx⟩ => ⟨v, he, hx, hR⟩⟩
  intro v_ lo36 hi36 hr_
  obtain ⟨W_, hW_⟩ := hr_
  have hv_ : Fc.holds (.rg (z13a) (z13b) (z13d)) lo36 hi36 v_ W_ := hW_.get
  clear hW_
  obtain ⟨s36a, A_36a, n36a, c36a, s36b, A_36b, n36b, c36b, s36d, A_36d, n36d, c36d, rfl, -, -, -⟩ := hv_
  clear W_
  try simp only [Act.put, List.setIfInBounds_toArray, List.set_cons_succ, List.set_cons_zero]
  refine wpT_eff (by rfl) (by rfl) (by rfl) ?_ ?_
  · intro W_ hK
    have hW := hK.1
    have F_s36a : RI W_ (iv s36a A_36a n36a c36a) z13a := RG.at1 (hK.2 13 ((gv s36a A_36a n36a c36a s36b A_36b n36b c36b s36d A_36d n36d c36d), lo36, hi36) (by rfl) (anc_of (by kernel_rfl)))
    have F_s36b : RI W_ (iv s36b A_36b n36b c36b) z13b := RG.at2 (hK.2 13 ((gv s36a A_36a n36a c36a s36b A_36b n36b c36b s36d A_36d n36d c36d), lo36, hi36) (by rfl) (anc_of (by kernel_rfl)))
    have F_s36d : RI W_ (iv s36d A_36d n36d c36d) z13d := RG.at3 (hK.2 13 ((gv s36a A_36a n36a c36a s36b A_36b n36b c36b s36d A_36d n36d c36d), lo36, hi36) (by rfl) (anc_of (by kernel_rfl)))
    clear hK
    go_simp
    exact ⟨rfl, (qSame_q _ _ (⟨((m0 : Int) : Rat) / ((m2 : Int) : Rat), ((m1 : Int) : Rat) / ((m2 : Int) : Rat)⟩ : GQ) (⟨((m0 : Int) : Rat) / ((m2 : Int) : Rat), ((m1 : Int) : Rat) / ((m2 : Int) : Rat)⟩ : GQ) (64) (64) _ ⟨_, _, _, RG.mk (RI.ext (hS.num 2 rfl) hW) (RI.ext (hS.num 1 rfl) hW) (RI.ext (hS.num 0 rfl) hW), I13, S13⟩ ⟨_, _, _, RG.mk F_s36a F_s36b F_s36d, I13, S13⟩ rfl).mono fun e w' ⟨he, hx⟩ => ⟨_, he, hx, rfl⟩⟩
  intro v_ lo37 hi37 hr_
  obtain ⟨W_, hW_⟩ := hr_
  obtain rfl : v_ = .bool true := hW_.get
  clear hW_ W_
  try simp only [Act.put, List.setIfInBounds_toArray, List.set_cons_succ, List.set_cons_zero]
  refine wpT_quiet 3 (by rfl) (by kernel_rfl) ?_
  simp only [List.take_succ_cons, List.take_zero, List.drop_succ_cons, List.drop_zero]
  repeat (go_big_quiet_step (fail))
  refine wpQuiet_nil ?_
  refine wpT_eff (by rfl) (by rfl) (by rfl) ?_ ?_
  · intro W_ hK
    have hW := hK.1
    clear hK
    go_simp
    exact ⟨rfl, (eValid_gv _ (⟨((m0 : Int) : Rat) / ((m2 : Int) : Rat), ((m1 : Int) : Rat) / ((m2 : Int) : Rat)⟩ : GQ) (64) _ ⟨_, _, _, RG.mk (RI.ext (hS.num 2 rfl) hW) (RI.ext (hS.num 1 rfl) hW) (RI.ext (hS.num 0 rfl) hW), I13, S13⟩ (by omega)).mono fun e w' ⟨he, hx⟩ => ⟨_, he, hx, rfl⟩⟩
  intro v_ lo41 hi41 hr_
  obtain ⟨W_, hW_⟩ := hr_
  obtain rfl : v_ = .bool true := hW_.get
  clear hW_ W_
  try simp only [Act.put, List.setIfInBounds_toArray, List.set_cons_succ, List.set_cons_zero]
  refine wpT_quiet 1 (by rfl) (by kernel_rfl) ?_
  simp only [List.take_succ_cons, List.take_zero, List.drop_succ_cons, List.drop_zero]
  repeat (go_big_quiet_step (fail))
  refine wpQuiet_nil ?_
  refine wpT_nil ?_
  intro w3 hK
  have hlt_ := hS.lt
  replace hS := hS.mv hK.ext
  replace hS := hS.addI (show RI w3 (iv s31 A_31 n31 c31) (m0) from hK.at_ 8 (e := ((iv s31 A_31 n31 c31), lo31, hi31)) (by rfl))
  replace hS := hS.addI (show RI w3 (iv s33 A_33 n33 c33) (m1) from hK.at_ 10 (e := ((iv s33 A_33 n33 c33), lo33, hi33)) (by rfl))
  replace hS := hS.addI (show RI w3 (iv s35 A_35 n35 c35) (m2) from hK.at_ 12 (e := ((iv s35 A_35 n35 c35), lo35, hi35)) (by rfl))
  replace hS := hS.addI (show RI w3 (iv s36a A_36a n36a c36a) z13a from RG.at1 (hK.at_ 13 (e := ((gv s36a A_36a n36a c36a s36b A_36b n36b c36b s36d A_36d n36d c36d), lo36, hi36)) (by rfl)))
  replace hS := hS.addI (show RI w3 (iv s36b A_36b n36b c36b) z13b from RG.at2 (hK.at_ 13 (e := ((gv s36a A_36a n36a c36a s36b A_36b n36b c36b s36d A_36d n36d c36d), lo36, hi36)) (by rfl)))
  replace hS := hS.addI (show RI w3 (iv s36d A_36d n36d c36d) z13d from RG.at3 (hK.at_ 13 (e := ((gv s36a A_36a n36a c36a s36b A_36b n36b c36b s36d A_36d n36d c36d), lo36, hi36)) (by rfl)))
  clear hK hlt_ hE_ Y7
  go_wp2
  go_ret
  exact ⟨ret_bool (rfl), hS.ext⟩

theorem makes_any (a b d : Int) (w : World) (hTab : Tab w) (a1 : -9223372036854775808 ≤ a) (a2 : a ≤ 9223372036854775807) (b1 : -9223372036854775808 ≤ b) (b2 : b ≤ 9223372036854775807) (d1 : -9223372036854775808 ≤ d) (d2 : d ≤ 9223372036854775807) :
    Calls Tryz.prog 3 #[.int .i64 a, .int .i64 b, .int .i64 d] w fun e w' => e = .returned (.bool true) ∧ Ext w w' := by
  by_cases h : d = 0
  · subst h
    exact makes_z a b w a1 a2 b1 b2 hTab
  · exact makes_n a b d w a1 a2 b1 b2 d1 d2 hTab (Lib.hid h)

end Go.Proofs.YtjeijmnhbckjdaaGreatDoor
