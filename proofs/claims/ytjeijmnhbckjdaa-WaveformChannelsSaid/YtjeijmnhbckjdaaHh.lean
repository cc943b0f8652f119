/- The specification of rounding: one step. -/
import Derived.Test.YtjeijmnhbckjdaaAn
import Derived.Test.YtjeijmnhbckjdaaNJ
import Derived.Test.YtjeijmnhbckjdaaNH
import Derived.Deep.DeepCutAuto
import Derived.Deep.Cut
import Derived.Deep.RegionHeld3
namespace Go.Proofs.Ytjeijmnhbckjdaa
open Go.RowKit
set_option linter.unusedVariables false

section
variable {w W : World} {a b c d : Bk} {bs : List Bk} {fs : List Nm}
theorem St.s1 (h : St w W (a :: b :: c :: bs) fs) : St w W (a :: c :: b :: bs) fs :=
  ⟨h.ext, fun p hp => h.blks p (by simp at hp ⊢; rcases hp with e | e | e | e <;> simp [e]), ⟨⟨h.nd.1.2.1, h.nd.1.1, h.nd.1.2.2⟩, ⟨fun e => h.nd.2.1.1 e.symm, h.nd.2.2.1⟩, h.nd.2.1.2, h.nd.2.2.2⟩, h.nums⟩
theorem St.s2 (h : St w W (a :: b :: c :: d :: bs) fs) : St w W (a :: b :: d :: c :: bs) fs :=
  ⟨h.ext, fun p hp => h.blks p (by simp at hp ⊢; rcases hp with e | e | e | e | e <;> simp [e]), ⟨⟨h.nd.1.1, h.nd.1.2.2.1, h.nd.1.2.1, h.nd.1.2.2.2⟩, ⟨h.nd.2.1.2.1, h.nd.2.1.1, h.nd.2.1.2.2⟩, ⟨fun e => h.nd.2.2.1.1 e.symm, h.nd.2.2.2.1⟩, h.nd.2.2.1.2, h.nd.2.2.2.2⟩, h.nums⟩
theorem St.al4 (h : St w W bs fs) (t : TypeId) (c0 c1 c2 c3 : Array Value) : St w ((((W.alloc (.cells c0 t)).alloc (.cells c1 t)).alloc (.cells c2 t)).alloc (.cells c3 t)).drew ((W.heap.size + 3, t, c3) :: (W.heap.size + 2, t, c2) :: (W.heap.size + 1, t, c1) :: (W.heap.size, t, c0) :: bs) fs :=
  ((((h.al t c0 (g := W.heap.size) rfl).al t c1 (g := W.heap.size + 1) (by simp)).al t c2 (g := W.heap.size + 2) (by simp)).al t c3 (g := W.heap.size + 3) (by simp)).mv ((Ext.refl _).drew)
end
set_option maxRecDepth 100000 in
set_option maxHeartbeats 25600000 in
theorem qreaches_w (v0 : Value) (x0a x0b x0d x0x x0y x0z : Int) (m1 : Int) (m2 : Int) (w : World) (hX0 : RP w v0 x0a x0b x0d x0x x0y x0z) (ax0a : x0a.natAbs < lim) (ax0b : x0b.natAbs < lim) (ax0d : x0d.natAbs < lim) (ax0x : x0x.natAbs < lim) (ax0y : x0y.natAbs < lim) (ax0z : x0z.natAbs < lim) (l1 : -9223372036854775808 ≤ m1) (u1 : m1 ≤ 9223372036854775807) (l2 : -9223372036854775808 ≤ m2) (u2 : m2 ≤ 9223372036854775807)
    (z27 : Int) (E27 : Hid (z27 = (2 : Int) * (m2))) (A27 : z27.natAbs < lim)
    (z29 : Int) (E29 : Hid (z29 = z27 - (1 : Int))) (A29 : z29.natAbs < lim)
    (z33 : Int) (E33 : Hid (z33 = x0a * x0z)) (A33 : z33.natAbs < lim)
    (z34 : Int) (E34 : Hid (z34 = (2 : Int) * z33)) (A34 : z34.natAbs < lim)
    (z38 : Int) (E38 : Hid (z38 = z29 * (m1))) (A38 : z38.natAbs < lim)
    (z41 : Int) (E41 : Hid (z41 = x0d * x0z)) (A41 : z41.natAbs < lim)
    (z42 : Int) (E42 : Hid (z42 = z38 * z41)) (A42 : z42.natAbs < lim)
    (z43 : Int) (E43 : Hid (z43 = z34 - z42)) (A43 : z43.natAbs < lim)
    (z47 : Int) (E47 : Hid (z47 = x0x * x0d)) (A47 : z47.natAbs < lim)
    (z48 : Int) (E48 : Hid (z48 = (2 : Int) * z47)) (A48 : z48.natAbs < lim)
    (k49_ : Nat) (Bx49 : Hid (z43.natAbs < 2 ^ k49_)) (By49 : Hid (z48.natAbs < 2 ^ k49_)) (L49 : Hid (k49_ + k49_ + 2 ≤ 12800))  :
    Calls Try.prog 26 #[v0, .int .i64 m1, .int .i64 m2] w fun e w' => e = .returned (.bool (decide (0 ≤ sgn3 z43 z48))) ∧ Ext w w' := by
  have hS := St.start w
  obtain ⟨sx0a, Ax0a, nx0a, cx0a, sx0b, Ax0b, nx0b, cx0b, sx0d, Ax0d, nx0d, cx0d, sx0x, Ax0x, nx0x, cx0x, sx0y, Ax0y, nx0y, cx0y, sx0z, Ax0z, nx0z, cx0z, rfl, hx0a, hx0b, hx0d, hx0x, hx0y, hx0z⟩ := hX0
  replace hS := hS.addI hx0a
  clear hx0a
  replace hS := hS.addI hx0b
  clear hx0b
  replace hS := hS.addI hx0d
  clear hx0d
  replace hS := hS.addI hx0x
  clear hx0x
  replace hS := hS.addI hx0y
  clear hx0y
  replace hS := hS.addI hx0z
  clear hx0z
  have o3 : Own w w.heap.size := Own.of hS.ext (by simp)
  go_enter Try.func26, Try.ntmps26
  go_wp2_with fail
  replace hS := (St.al hS 28 #[.bool sx0a, .slice Ax0a nx0a cx0a, .bool sx0b, .slice Ax0b nx0b cx0b, .bool sx0d, .slice Ax0d nx0d cx0d, .bool sx0x, .slice Ax0x nx0x cx0x, .bool sx0y, .slice Ax0y nx0y cx0y, .bool sx0z, .slice Ax0z nx0z cx0z] (g := w.heap.size) (by simp))
  generalize (w.alloc (.cells #[.bool sx0a, .slice Ax0a nx0a cx0a, .bool sx0b, .slice Ax0b nx0b cx0b, .bool sx0d, .slice Ax0d nx0d cx0d, .bool sx0x, .slice Ax0x nx0x cx0x, .bool sx0y, .slice Ax0y nx0y cx0y, .bool sx0z, .slice Ax0z nx0z cx0z] 28)) = w1 at hS ⊢
  generalize w.heap.size = g3 at hS o3 ⊢
  have k_1 := (hS.blk 0 rfl).cell
  have k_lt := (hS.blk 0 rfl).lt
  go_upto_region 1 with fail
  go_cut [7, 8, 9, 10] (fun p7 p8 p9 p10 wx => ∃ g7 g8 g9 g10 : Nat, p7 = .pointer (some ⟨g7, 0, none⟩) ∧ p8 = .pointer (some ⟨g8, 0, none⟩) ∧ p9 = .pointer (some ⟨g9, 0, none⟩) ∧ p10 = .pointer (some ⟨g10, 0, none⟩) ∧ St w wx [(g10, 24, #[.bool sx0z, .slice Ax0z nx0z cx0z]), (g9, 24, #[.bool sx0x, .slice Ax0x nx0x cx0x]), (g8, 24, #[.bool sx0d, .slice Ax0d nx0d cx0d]), (g7, 24, #[.bool sx0a, .slice Ax0a nx0a cx0a]), (g3, 28, #[.bool sx0a, .slice Ax0a nx0a cx0a, .bool sx0b, .slice Ax0b nx0b cx0b, .bool sx0d, .slice Ax0d nx0d cx0d, .bool sx0x, .slice Ax0x nx0x cx0x, .bool sx0y, .slice Ax0y nx0y cx0y, .bool sx0z, .slice Ax0z nx0z cx0z])] [nz (iv sx0z Ax0z nx0z cx0z) (x0z), nz (iv sx0y Ax0y nx0y cx0y) (x0y), nz (iv sx0x Ax0x nx0x cx0x) (x0x), nz (iv sx0d Ax0d nx0d cx0d) (x0d), nz (iv sx0b Ax0b nx0b cx0b) (x0b), nz (iv sx0a Ax0a nx0a cx0a) (x0a)])
  case first =>
    have k_c0 := k_1 0
    have k_c1 := k_1 1
    have k_c4 := k_1 4
    have k_c5 := k_1 5
    have k_c6 := k_1 6
    have k_c7 := k_1 7
    have k_c10 := k_1 10
    have k_c11 := k_1 11
    simp only [List.getElem?_toArray, List.getElem?_cons_zero, List.getElem?_cons_succ] at k_c0 k_c1 k_c4 k_c5 k_c6 k_c7 k_c10 k_c11
    have k_n0 := World.new_ne w1 ⟨g3, 0, none⟩ k_c0
    have k_n1 := World.new_ne w1 ⟨g3, 1, none⟩ k_c1
    have k_n4 := World.new_ne w1 ⟨g3, 4, none⟩ k_c4
    have k_n5 := World.new_ne w1 ⟨g3, 5, none⟩ k_c5
    have k_n6 := World.new_ne w1 ⟨g3, 6, none⟩ k_c6
    have k_n7 := World.new_ne w1 ⟨g3, 7, none⟩ k_c7
    have k_n10 := World.new_ne w1 ⟨g3, 10, none⟩ k_c10
    have k_n11 := World.new_ne w1 ⟨g3, 11, none⟩ k_c11
    have k_m1 : w1.heap.size + 1 ≠ g3 := by omega
    have k_m2 : w1.heap.size + 2 ≠ g3 := by omega
    have k_m3 : w1.heap.size + 3 ≠ g3 := by omega
    go_region_held3 (fun w' => w'.cell? ⟨g3, 0, none⟩ = some (.bool sx0a) ∧ w'.cell? ⟨g3, 1, none⟩ = some (.slice Ax0a nx0a cx0a) ∧ w'.cell? ⟨g3, 4, none⟩ = some (.bool sx0d) ∧ w'.cell? ⟨g3, 5, none⟩ = some (.slice Ax0d nx0d cx0d) ∧ w'.cell? ⟨g3, 6, none⟩ = some (.bool sx0x) ∧ w'.cell? ⟨g3, 7, none⟩ = some (.slice Ax0x nx0x cx0x) ∧ w'.cell? ⟨g3, 10, none⟩ = some (.bool sx0z) ∧ w'.cell? ⟨g3, 11, none⟩ = some (.slice Ax0z nx0z cx0z)) (simp (maxDischargeDepth := 10) [*, World.cell?_alloc_some]) (fail)
    all_goals
      go_wp2_with fail
      go_meet
      case rel =>
        refine ⟨_, _, _, _, rfl, rfl, rfl, rfl, ?_⟩
        clear k_1 k_lt k_n0 k_n1 k_n4 k_n5 k_n6 k_n7 k_n10 k_n11 k_m1 k_m2 k_m3 k_c0 k_c1 k_c4 k_c5 k_c6 k_c7 k_c10 k_c11
        first
          | exact (St.al4 hS 24 _ _ _ _)
          | exact (St.swap (St.al4 hS 24 _ _ _ _))
          | exact (St.s1 (St.al4 hS 24 _ _ _ _))
          | exact (St.s2 (St.al4 hS 24 _ _ _ _))
          | exact (St.s1 (St.swap (St.al4 hS 24 _ _ _ _)))
          | exact (St.s2 (St.swap (St.al4 hS 24 _ _ _ _)))
          | exact (St.swap (St.s1 (St.al4 hS 24 _ _ _ _)))
          | exact (St.s2 (St.s1 (St.al4 hS 24 _ _ _ _)))
          | exact (St.s1 (St.s2 (St.al4 hS 24 _ _ _ _)))
          | exact (St.swap (St.s1 (St.swap (St.al4 hS 24 _ _ _ _))))
          | exact (St.s2 (St.s1 (St.swap (St.al4 hS 24 _ _ _ _))))
          | exact (St.s1 (St.s2 (St.swap (St.al4 hS 24 _ _ _ _))))
          | exact (St.s2 (St.swap (St.s1 (St.al4 hS 24 _ _ _ _))))
          | exact (St.s1 (St.s2 (St.s1 (St.al4 hS 24 _ _ _ _))))
          | exact (St.swap (St.s1 (St.s2 (St.al4 hS 24 _ _ _ _))))
          | exact (St.s2 (St.swap (St.s1 (St.swap (St.al4 hS 24 _ _ _ _)))))
          | exact (St.s1 (St.s2 (St.s1 (St.swap (St.al4 hS 24 _ _ _ _)))))
          | exact (St.swap (St.s1 (St.s2 (St.swap (St.al4 hS 24 _ _ _ _)))))
          | exact (St.s1 (St.s2 (St.swap (St.s1 (St.al4 hS 24 _ _ _ _)))))
          | exact (St.swap (St.s1 (St.s2 (St.s1 (St.al4 hS 24 _ _ _ _)))))
          | exact (St.s1 (St.s2 (St.swap (St.s1 (St.swap (St.al4 hS 24 _ _ _ _))))))
          | exact (St.swap (St.s1 (St.s2 (St.s1 (St.swap (St.al4 hS 24 _ _ _ _))))))
          | exact (St.swap (St.s1 (St.s2 (St.swap (St.s1 (St.al4 hS 24 _ _ _ _))))))
          | exact (St.swap (St.s1 (St.s2 (St.swap (St.s1 (St.swap (St.al4 hS 24 _ _ _ _)))))))
  case rest =>
    clear k_1 k_lt
    clear hS
    obtain ⟨g7, g8, g9, g10, rfl, rfl, rfl, rfl, hS⟩ := hcut
    go_wp2_with fail
    refine (qOf_ok (2) _ (by omega) (by omega)).mono ?_
    rintro e w2 ⟨v_, rfl, hv_, hx_⟩
    replace hS := hS.mv hx_
    clear hx_
    obtain ⟨s24, A_24, n24, c24, rfl, f_s24⟩ := RI.opn hv_
    clear hv_
    replace hS := hS.addI f_s24
    clear f_s24
    go_wp2_with fail
    refine (qOf_ok (m2) _ l2 u2).mono ?_
    rintro e w3 ⟨v_, rfl, hv_, hx_⟩
    replace hS := hS.mv hx_
    clear hx_
    obtain ⟨s26, A_26, n26, c26, rfl, f_s26⟩ := RI.opn hv_
    clear hv_
    replace hS := hS.addI f_s26
    clear f_s26
    go_wp2_with fail
    refine (qTimes_ok _ _ (2 : Int) (m2) z27 _ (hS.num 1 rfl) (hS.num 0 rfl) (lt_lim64 (by omega) (by omega)) (lt_lim64 l2 u2) E27.out A27).mono ?_
    rintro e w4 ⟨v_, rfl, hv_, hx_⟩
    replace hS := hS.mv hx_
    clear hx_
    obtain ⟨s27, A_27, n27, c27, rfl, f_s27⟩ := RI.opn hv_
    clear hv_
    replace hS := hS.addI f_s27
    clear f_s27
    go_wp2_with fail
    refine (qOf_ok (1) _ (by omega) (by omega)).mono ?_
    rintro e w5 ⟨v_, rfl, hv_, hx_⟩
    replace hS := hS.mv hx_
    clear hx_
    obtain ⟨s28, A_28, n28, c28, rfl, f_s28⟩ := RI.opn hv_
    clear hv_
    replace hS := hS.addI f_s28
    clear f_s28
    go_wp2_with fail
    refine (qMinus_ok _ _ z27 (1 : Int) z29 _ (hS.num 1 rfl) (hS.num 0 rfl) A27 (lt_lim64 (by omega) (by omega)) E29.out A29).mono ?_
    rintro e w6 ⟨v_, rfl, hv_, hx_⟩
    replace hS := hS.mv hx_
    clear hx_
    obtain ⟨s29, A_29, n29, c29, rfl, f_s29⟩ := RI.opn hv_
    clear hv_
    replace hS := hS.addI f_s29
    clear f_s29
    have o11 : Own w w6.heap.size := Own.of hS.ext (by simp)
    have hT1 := (St.al hS 24 #[.bool false, .slice none 0 0] (g := w6.heap.size) (by simp))
    have k_2 := (hT1.blk 0 rfl).cell
    have k_3 := (hT1.blk 0 rfl).frozen
    go_wp2_with fail
    clear k_2 k_3
    clear hT1
    replace hS := (St.al hS 24 #[.bool s29, .slice A_29 n29 c29] (g := w6.heap.size) (by simp))
    generalize (w6.alloc (.cells #[.bool s29, .slice A_29 n29 c29] 24)) = w7 at hS ⊢
    generalize w6.heap.size = g11 at hS o11 ⊢
    have Y11 := ExtOf.blk (hS.blk 0 rfl)
    have Y10 := ExtOf.blk (hS.blk 1 rfl)
    have Y9 := ExtOf.blk (hS.blk 2 rfl)
    have Y8 := ExtOf.blk (hS.blk 3 rfl)
    have Y7 := ExtOf.blk (hS.blk 4 rfl)
    have hE_ := hS.ext
    refine wp_region_tame 21 (hasF [(0, .any), (3, .any), (4, .any), (7, .any), (8, .any), (11, .any), (12, .any), (13, .any), (14, .any), (17, .any), (18, .any), (19, .any)]) (Fcs [(0, .ri ((2 : Int))), (3, .ri (z33)), (4, .ri (z34)), (7, .ri ((m1))), (8, .ri (z38)), (11, .ri (z41)), (12, .ri (z42)), (13, .ri (z43)), (14, .ri ((2 : Int))), (17, .ri (z47)), (18, .ri (z48)), (19, .eq (.int .i64 (sgn3 z43 z48)))]) (Fcs_stab _) (by kernel_rfl) (by kernel_rfl) ?_
    simp only [List.take_succ_cons, List.take_zero, List.drop_succ_cons, List.drop_zero]
    refine wpT_eff (by rfl) (by rfl) (by rfl) ?_ ?_
    · intro W_ hK
      have hW := hK.1
      clear hK
      go_simp
      exact ⟨rfl, (qOf_ok (2) _ (by omega) (by omega)).mono fun e w' ⟨v, he, hR, hx⟩ => ⟨v, he, hx, hR⟩⟩
    intro v_ lo30 hi30 hr_
    obtain ⟨W_, hW_⟩ := hr_
    have hv_ : Fc.holds (.ri ((2 : Int))) lo30 hi30 v_ W_ := hW_.get
    clear hW_
    obtain ⟨s30, A_30, n30, c30, rfl, -⟩ := RI.opn hv_
    clear hv_
    clear W_
    try simp only [Act.put, List.setIfInBounds_toArray, List.set_cons_succ, List.set_cons_zero]
    refine wpT_quiet 2 (by rfl) (by kernel_rfl) ?_
    simp only [List.take_succ_cons, List.take_zero, List.drop_succ_cons, List.drop_zero]
    repeat (go_big_quiet_step (fail))
    refine wpQuiet_nil ?_
    refine wpT_eff (by rfl) (by rfl) (by rfl) ?_ ?_
    · intro W_ hK
      have hW := hK.1
      clear hK
      go_simp
      exact ⟨rfl, (qTimes_ok _ _ x0a x0z z33 _ (RI.ext (hS.num 10 rfl) hW) (RI.ext (hS.num 5 rfl) hW) ax0a ax0z E33.out A33).mono fun e w' ⟨v, he, hR, hx⟩ => ⟨v, he, hx, hR⟩⟩
    intro v_ lo33 hi33 hr_
    obtain ⟨W_, hW_⟩ := hr_
    have hv_ : Fc.holds (.ri (z33)) lo33 hi33 v_ W_ := hW_.get
    clear hW_
    obtain ⟨s33, A_33, n33, c33, rfl, -⟩ := RI.opn hv_
    clear hv_
    clear W_
    try simp only [Act.put, List.setIfInBounds_toArray, List.set_cons_succ, List.set_cons_zero]
    refine wpT_eff (by rfl) (by rfl) (by rfl) ?_ ?_
    · intro W_ hK
      have hW := hK.1
      have F_s30 : RI W_ (iv s30 A_30 n30 c30) (2 : Int) := hK.2 0 ((iv s30 A_30 n30 c30), lo30, hi30) (by rfl) (anc_of (by kernel_rfl))
      have F_s33 : RI W_ (iv s33 A_33 n33 c33) z33 := hK.2 3 ((iv s33 A_33 n33 c33), lo33, hi33) (by rfl) (anc_of (by kernel_rfl))
      clear hK
      go_simp
      exact ⟨rfl, (qTimes_ok _ _ (2 : Int) z33 z34 _ F_s30 F_s33 (lt_lim64 (by omega) (by omega)) A33 E34.out A34).mono fun e w' ⟨v, he, hR, hx⟩ => ⟨v, he, hx, hR⟩⟩
    intro v_ lo34 hi34 hr_
    obtain ⟨W_, hW_⟩ := hr_
    have hv_ : Fc.holds (.ri (z34)) lo34 hi34 v_ W_ := hW_.get
    clear hW_
    obtain ⟨s34, A_34, n34, c34, rfl, -⟩ := RI.opn hv_
    clear hv_
    clear W_
    try simp only [Act.put, List.setIfInBounds_toArray, List.set_cons_succ, List.set_cons_zero]
    refine wpT_quiet 2 (by rfl) (by kernel_rfl) ?_
    simp only [List.take_succ_cons, List.take_zero, List.drop_succ_cons, List.drop_zero]
    repeat (go_big_quiet_step (fail))
    refine wpQuiet_nil ?_
    refine wpT_eff (by rfl) (by rfl) (by rfl) ?_ ?_
    · intro W_ hK
      have hW := hK.1
      clear hK
      go_simp
      exact ⟨rfl, (qOf_ok (m1) _ l1 u1).mono fun e w' ⟨v, he, hR, hx⟩ => ⟨v, he, hx, hR⟩⟩
    intro v_ lo37 hi37 hr_
    obtain ⟨W_, hW_⟩ := hr_
    have hv_ : Fc.holds (.ri ((m1))) lo37 hi37 v_ W_ := hW_.get
    clear hW_
    obtain ⟨s37, A_37, n37, c37, rfl, -⟩ := RI.opn hv_
    clear hv_
    clear W_
    try simp only [Act.put, List.setIfInBounds_toArray, List.set_cons_succ, List.set_cons_zero]
    refine wpT_eff (by rfl) (by rfl) (by rfl) ?_ ?_
    · intro W_ hK
      have hW := hK.1
      have F_s37 : RI W_ (iv s37 A_37 n37 c37) (m1) := hK.2 7 ((iv s37 A_37 n37 c37), lo37, hi37) (by rfl) (anc_of (by kernel_rfl))
      clear hK
      go_simp
      exact ⟨rfl, (qTimes_ok _ _ z29 (m1) z38 _ (RI.ext (hS.num 0 rfl) hW) F_s37 A29 (lt_lim64 l1 u1) E38.out A38).mono fun e w' ⟨v, he, hR, hx⟩ => ⟨v, he, hx, hR⟩⟩
    intro v_ lo38 hi38 hr_
    obtain ⟨W_, hW_⟩ := hr_
    have hv_ : Fc.holds (.ri (z38)) lo38 hi38 v_ W_ := hW_.get
    clear hW_
    obtain ⟨s38, A_38, n38, c38, rfl, -⟩ := RI.opn hv_
    clear hv_
    clear W_
    try simp only [Act.put, List.setIfInBounds_toArray, List.set_cons_succ, List.set_cons_zero]
    refine wpT_quiet 2 (by rfl) (by kernel_rfl) ?_
    simp only [List.take_succ_cons, List.take_zero, List.drop_succ_cons, List.drop_zero]
    repeat (go_big_quiet_step (fail))
    refine wpQuiet_nil ?_
    refine wpT_eff (by rfl) (by rfl) (by rfl) ?_ ?_
    · intro W_ hK
      have hW := hK.1
      clear hK
      go_simp
      exact ⟨rfl, (qTimes_ok _ _ x0d x0z z41 _ (RI.ext (hS.num 8 rfl) hW) (RI.ext (hS.num 5 rfl) hW) ax0d ax0z E41.out A41).mono fun e w' ⟨v, he, hR, hx⟩ => ⟨v, he, hx, hR⟩⟩
    intro v_ lo41 hi41 hr_
    obtain ⟨W_, hW_⟩ := hr_
    have hv_ : Fc.holds (.ri (z41)) lo41 hi41 v_ W_ := hW_.get
    clear hW_
    obtain ⟨s41, A_41, n41, c41, rfl, -⟩ := RI.opn hv_
    clear hv_
    clear W_
    try simp only [Act.put, List.setIfInBounds_toArray, List.set_cons_succ, List.set_cons_zero]
    refine wpT_eff (by rfl) (by rfl) (by rfl) ?_ ?_
    · intro W_ hK
      have hW := hK.1
      have F_s38 : RI W_ (iv s38 A_38 n38 c38) z38 := hK.2 8 ((iv s38 A_38 n38 c38), lo38, hi38) (by rfl) (anc_of (by kernel_rfl))
      have F_s41 : RI W_ (iv s41 A_41 n41 c41) z41 := hK.2 11 ((iv s41 A_41 n41 c41), lo41, hi41) (by rfl) (anc_of (by kernel_rfl))
      clear hK
      go_simp
      exact ⟨rfl, (qTimes_ok _ _ z38 z41 z42 _ F_s38 F_s41 A38 A41 E42.out A42).mono fun e w' ⟨v, he, hR, hx⟩ => ⟨v, he, hx, hR⟩⟩
    intro v_ lo42 hi42 hr_
    obtain ⟨W_, hW_⟩ := hr_
    have hv_ : Fc.holds (.ri (z42)) lo42 hi42 v_ W_ := hW_.get
    clear hW_
    obtain ⟨s42, A_42, n42, c42, rfl, -⟩ := RI.opn hv_
    clear hv_
    clear W_
    try simp only [Act.put, List.setIfInBounds_toArray, List.set_cons_succ, List.set_cons_zero]
    refine wpT_eff (by rfl) (by rfl) (by rfl) ?_ ?_
    · intro W_ hK
      have hW := hK.1
      have F_s34 : RI W_ (iv s34 A_34 n34 c34) z34 := hK.2 4 ((iv s34 A_34 n34 c34), lo34, hi34) (by rfl) (anc_of (by kernel_rfl))
      have F_s42 : RI W_ (iv s42 A_42 n42 c42) z42 := hK.2 12 ((iv s42 A_42 n42 c42), lo42, hi42) (by rfl) (anc_of (by kernel_rfl))
      clear hK
      go_simp
      exact ⟨rfl, (qMinus_ok _ _ z34 z42 z43 _ F_s34 F_s42 A34 A42 E43.out A43).mono fun e w' ⟨v, he, hR, hx⟩ => ⟨v, he, hx, hR⟩⟩
    intro v_ lo43 hi43 hr_
    obtain ⟨W_, hW_⟩ := hr_
    have hv_ : Fc.holds (.ri (z43)) lo43 hi43 v_ W_ := hW_.get
    clear hW_
    obtain ⟨s43, A_43, n43, c43, rfl, -⟩ := RI.opn hv_
    clear hv_
    clear W_
    try simp only [Act.put, List.setIfInBounds_toArray, List.set_cons_succ, List.set_cons_zero]
    refine wpT_eff (by rfl) (by rfl) (by rfl) ?_ ?_
    · intro W_ hK
      have hW := hK.1
      clear hK
      go_simp
      exact ⟨rfl, (qOf_ok (2) _ (by omega) (by omega)).mono fun e w' ⟨v, he, hR, hx⟩ => ⟨v, he, hx, hR⟩⟩
    intro v_ lo44 hi44 hr_
    obtain ⟨W_, hW_⟩ := hr_
    have hv_ : Fc.holds (.ri ((2 : Int))) lo44 hi44 v_ W_ := hW_.get
    clear hW_
    obtain ⟨s44, A_44, n44, c44, rfl, -⟩ := RI.opn hv_
    clear hv_
    clear W_
    try simp only [Act.put, List.setIfInBounds_toArray, List.set_cons_succ, List.set_cons_zero]
    refine wpT_quiet 2 (by rfl) (by kernel_rfl) ?_
    simp only [List.take_succ_cons, List.take_zero, List.drop_succ_cons, List.drop_zero]
    repeat (go_big_quiet_step (fail))
    refine wpQuiet_nil ?_
    refine wpT_eff (by rfl) (by rfl) (by rfl) ?_ ?_
    · intro W_ hK
      have hW := hK.1
      clear hK
      go_simp
      exact ⟨rfl, (qTimes_ok _ _ x0x x0d z47 _ (RI.ext (hS.num 7 rfl) hW) (RI.ext (hS.num 8 rfl) hW) ax0x ax0d E47.out A47).mono fun e w' ⟨v, he, hR, hx⟩ => ⟨v, he, hx, hR⟩⟩
    intro v_ lo47 hi47 hr_
    obtain ⟨W_, hW_⟩ := hr_
    have hv_ : Fc.holds (.ri (z47)) lo47 hi47 v_ W_ := hW_.get
    clear hW_
    obtain ⟨s47, A_47, n47, c47, rfl, -⟩ := RI.opn hv_
    clear hv_
    clear W_
    try simp only [Act.put, List.setIfInBounds_toArray, List.set_cons_succ, List.set_cons_zero]
    refine wpT_eff (by rfl) (by rfl) (by rfl) ?_ ?_
    · intro W_ hK
      have hW := hK.1
      have F_s44 : RI W_ (iv s44 A_44 n44 c44) (2 : Int) := hK.2 14 ((iv s44 A_44 n44 c44), lo44, hi44) (by rfl) (anc_of (by kernel_rfl))
      have F_s47 : RI W_ (iv s47 A_47 n47 c47) z47 := hK.2 17 ((iv s47 A_47 n47 c47), lo47, hi47) (by rfl) (anc_of (by kernel_rfl))
      clear hK
      go_simp
      exact ⟨rfl, (qTimes_ok _ _ (2 : Int) z47 z48 _ F_s44 F_s47 (lt_lim64 (by omega) (by omega)) A47 E48.out A48).mono fun e w' ⟨v, he, hR, hx⟩ => ⟨v, he, hx, hR⟩⟩
    intro v_ lo48 hi48 hr_
    obtain ⟨W_, hW_⟩ := hr_
    have hv_ : Fc.holds (.ri (z48)) lo48 hi48 v_ W_ := hW_.get
    clear hW_
    obtain ⟨s48, A_48, n48, c48, rfl, -⟩ := RI.opn hv_
    clear hv_
    clear W_
    try simp only [Act.put, List.setIfInBounds_toArray, List.set_cons_succ, List.set_cons_zero]
    refine wpT_eff (by rfl) (by rfl) (by rfl) ?_ ?_
    · intro W_ hK
      have hW := hK.1
      have F_s43 : RI W_ (iv s43 A_43 n43 c43) z43 := hK.2 13 ((iv s43 A_43 n43 c43), lo43, hi43) (by rfl) (anc_of (by kernel_rfl))
      have F_s48 : RI W_ (iv s48 A_48 n48 c48) z48 := hK.2 18 ((iv s48 A_48 n48 c48), lo48, hi48) (by rfl) (anc_of (by kernel_rfl))
      clear hK
      go_simp
      exact ⟨rfl, (qSign_ok _ _ z43 z48 k49_ _ F_s43 F_s48 Bx49.out By49.out L49.out).mono fun e w' ⟨he, hx⟩ => ⟨_, he, hx, rfl⟩⟩
    intro v_ lo49 hi49 hr_
    obtain ⟨W_, hW_⟩ := hr_
    obtain rfl : v_ = .int .i64 (sgn3 z43 z48) := hW_.get
    clear hW_ W_
    try simp only [Act.put, List.setIfInBounds_toArray, List.set_cons_succ, List.set_cons_zero]
    refine wpT_quiet 1 (by rfl) (by kernel_rfl) ?_
    simp only [List.take_succ_cons, List.take_zero, List.drop_succ_cons, List.drop_zero]
    repeat (go_big_quiet_step (fail))
    refine wpQuiet_nil ?_
    refine wpT_nil ?_
    intro w8 hK
    have hlt_ := hS.lt
    replace hS := hS.mv hK.ext
    replace hS := hS.addI (show RI w8 (iv s30 A_30 n30 c30) (2 : Int) from hK.at_ 0 (e := ((iv s30 A_30 n30 c30), lo30, hi30)) (by rfl))
    replace hS := hS.addI (show RI w8 (iv s33 A_33 n33 c33) z33 from hK.at_ 3 (e := ((iv s33 A_33 n33 c33), lo33, hi33)) (by rfl))
    replace hS := hS.addI (show RI w8 (iv s34 A_34 n34 c34) z34 from hK.at_ 4 (e := ((iv s34 A_34 n34 c34), lo34, hi34)) (by rfl))
    replace hS := hS.addI (show RI w8 (iv s37 A_37 n37 c37) (m1) from hK.at_ 7 (e := ((iv s37 A_37 n37 c37), lo37, hi37)) (by rfl))
    replace hS := hS.addI (show RI w8 (iv s38 A_38 n38 c38) z38 from hK.at_ 8 (e := ((iv s38 A_38 n38 c38), lo38, hi38)) (by rfl))
    replace hS := hS.addI (show RI w8 (iv s41 A_41 n41 c41) z41 from hK.at_ 11 (e := ((iv s41 A_41 n41 c41), lo41, hi41)) (by rfl))
    replace hS := hS.addI (show RI w8 (iv s42 A_42 n42 c42) z42 from hK.at_ 12 (e := ((iv s42 A_42 n42 c42), lo42, hi42)) (by rfl))
    replace hS := hS.addI (show RI w8 (iv s43 A_43 n43 c43) z43 from hK.at_ 13 (e := ((iv s43 A_43 n43 c43), lo43, hi43)) (by rfl))
    replace hS := hS.addI (show RI w8 (iv s44 A_44 n44 c44) (2 : Int) from hK.at_ 14 (e := ((iv s44 A_44 n44 c44), lo44, hi44)) (by rfl))
    replace hS := hS.addI (show RI w8 (iv s47 A_47 n47 c47) z47 from hK.at_ 17 (e := ((iv s47 A_47 n47 c47), lo47, hi47)) (by rfl))
    replace hS := hS.addI (show RI w8 (iv s48 A_48 n48 c48) z48 from hK.at_ 18 (e := ((iv s48 A_48 n48 c48), lo48, hi48)) (by rfl))
    clear hK hlt_ hE_ Y11 Y10 Y9 Y8 Y7
    go_wp2
    go_ret
    exact ⟨ret_bool (rfl), hS.ext⟩

end Go.Proofs.Ytjeijmnhbckjdaa
