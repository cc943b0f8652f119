/- Words and contracts that the laws share, several texts in one. -/
import Derived.Test.YtclkkoiaaddllaaGreatNG
/- The program over numbers: turning. -/
namespace Go.Proofs.YtclkkoiaaddllaaGreat
open Go.RowKit
set_option linter.unusedVariables false

theorem St.swap {w W : World} {a b : Bk} {bs : List Bk} {fs : List Nm} (h : St w W (a :: b :: bs) fs) : St w W (b :: a :: bs) fs :=
  ⟨h.ext, fun p hp => h.blks p (by simp at hp ⊢; rcases hp with e | e | e <;> simp [e]), ⟨⟨fun e => h.nd.1.1 e.symm, h.nd.2.1⟩, h.nd.1.2, h.nd.2.2⟩, h.nums⟩

set_option maxRecDepth 100000 in
set_option maxHeartbeats 12800000 in
theorem xTurn_0 (v0 : Value) (q0 : PQ) (n0 : Nat) (m1 : Int) (K r : Nat) (w : World) (hX0 : PV w v0 q0 n0) (l1 : -9223372036854775808 ≤ m1) (u1 : m1 ≤ 9223372036854775807) (HK : Hid (m1 % 12 = (K : Int))) (HR : Hid (K = 3 * r + 0)) (hr : r ≤ 3)
     (hn : 2 * (n0 + n0) + 65 ≤ 12800) :
    Calls Tryz.prog 54 #[v0, .int .i64 m1] w fun e w' => ∃ v, e = .returned v ∧ (∃ u, v = .tuple #[u, .int .i64 0] ∧ PV w' u (⟨q0.u * GQ.ip r, q0.v * GQ.ip r⟩) (n0)) ∧ Ext w w' := by
  have hS := St.start w
  obtain ⟨x0a, x0b, x0d, x0x, x0y, x0z, hX0, I0u, S0u, I0v, S0v⟩ := hX0
  obtain ⟨sx0a, Ax0a, nx0a, cx0a, sx0b, Ax0b, nx0b, cx0b, sx0d, Ax0d, nx0d, cx0d, sx0x, Ax0x, nx0x, cx0x, sx0y, Ax0y, nx0y, cx0y, sx0z, Ax0z, nx0z, cx0z, rfl, hx0a, hx0b, hx0d, hx0x, hx0y, hx0z⟩ := hX0
  replace hS := hS.addI hx0a
  clear hx0a
  replace hS := hS.addI hx0b
  clear hx0b
  replace hS := hS.addI hx0d
  clear hx0d
  replace hS := hS.addI hx0x
  clear hx0x
  replace hS := hS.addI hx0y
  clear hx0y
  replace hS := hS.addI hx0z
  clear hx0z
  have e12 := mod12w HK.out
  have e3 : (K : Int).tmod 3 = 0 := by rw [HR.out, Int.tmod_eq_emod_of_nonneg (by omega)]; omega
  have e4 : (K : Int).tdiv 3 = (r : Int) := by rw [HR.out, Int.tdiv_eq_ediv_of_nonneg (by omega)]; omega
  have o2 : Own w w.heap.size := Own.of hS.ext (by simp)
  have o4 : Own w (w.heap.size + 1) := Own.of hS.ext (by simp)
  have hT1 := (St.al (St.al hS 46 #[.bool sx0a, .slice Ax0a nx0a cx0a, .bool sx0b, .slice Ax0b nx0b cx0b, .bool sx0d, .slice Ax0d nx0d cx0d, .bool sx0x, .slice Ax0x nx0x cx0x, .bool sx0y, .slice Ax0y nx0y cx0y, .bool sx0z, .slice Ax0z nx0z cx0z] (g := w.heap.size) (by simp)) 46 #[.bool false, .slice none 0 0, .bool false, .slice none 0 0, .bool false, .slice none 0 0, .bool false, .slice none 0 0, .bool false, .slice none 0 0, .bool false, .slice none 0 0] (g := (w.heap.size + 1)) (by simp))
  have k_1 := (hT1.blk 1 rfl).cell
  have o13 : Own w (w.heap.size + 2) := Own.of hS.ext (by simp)
  go_enter Tryz.func54, Tryz.ntmps54
  go_wp2_with fail
  clear k_1
  clear hT1
  replace hS := (St.al (St.al (St.al hS 46 #[.bool sx0a, .slice Ax0a nx0a cx0a, .bool sx0b, .slice Ax0b nx0b cx0b, .bool sx0d, .slice Ax0d nx0d cx0d, .bool sx0x, .slice Ax0x nx0x cx0x, .bool sx0y, .slice Ax0y nx0y cx0y, .bool sx0z, .slice Ax0z nx0z cx0z] (g := w.heap.size) (by simp)) 46 #[.bool false, .slice none 0 0, .bool false, .slice none 0 0, .bool false, .slice none 0 0, .bool false, .slice none 0 0, .bool false, .slice none 0 0, .bool false, .slice none 0 0] (g := (w.heap.size + 1)) (by simp)) 32 #[.bool sx0a, .slice Ax0a nx0a cx0a, .bool sx0b, .slice Ax0b nx0b cx0b, .bool sx0d, .slice Ax0d nx0d cx0d, .bool sx0x, .slice Ax0x nx0x cx0x, .bool sx0y, .slice Ax0y nx0y cx0y, .bool sx0z, .slice Ax0z nx0z cx0z] (g := (w.heap.size + 2)) (by simp))
  generalize (((w.alloc (.cells #[.bool sx0a, .slice Ax0a nx0a cx0a, .bool sx0b, .slice Ax0b nx0b cx0b, .bool sx0d, .slice Ax0d nx0d cx0d, .bool sx0x, .slice Ax0x nx0x cx0x, .bool sx0y, .slice Ax0y nx0y cx0y, .bool sx0z, .slice Ax0z nx0z cx0z] 46)).alloc (.cells #[.bool false, .slice none 0 0, .bool false, .slice none 0 0, .bool false, .slice none 0 0, .bool false, .slice none 0 0, .bool false, .slice none 0 0, .bool false, .slice none 0 0] 46)).alloc (.cells #[.bool sx0a, .slice Ax0a nx0a cx0a, .bool sx0b, .slice Ax0b nx0b cx0b, .bool sx0d, .slice Ax0d nx0d cx0d, .bool sx0x, .slice Ax0x nx0x cx0x, .bool sx0y, .slice Ax0y nx0y cx0y, .bool sx0z, .slice Ax0z nx0z cx0z] 32)) = w1 at hS ⊢
  generalize w.heap.size + 2 = g13 at hS o13 ⊢
  generalize w.heap.size + 1 = g4 at hS o4 ⊢
  generalize w.heap.size = g2 at hS o2 ⊢
  refine (xvalid2_ok g13 q0.u q0.v n0 n0 _ (hS.blk 0 rfl) ⟨_, _, _, RG.mk (hS.num 5 rfl) (hS.num 4 rfl) (hS.num 3 rfl), I0u, S0u⟩ (by omega) ⟨_, _, _, RG.mk (hS.num 2 rfl) (hS.num 1 rfl) (hS.num 0 rfl), I0v, S0v⟩ (by omega)).mono ?_
  rintro e w2 ⟨rfl, hx_⟩
  replace hS := hS.mv hx_
  clear hx_
  have o6 : Own w w2.heap.size := Own.of hS.ext (by simp)
  go_wp2_with fail
  replace hS := (St.al hS 105 #[.int .i64 0] (g := w2.heap.size) (by simp))
  generalize (w2.alloc (.cells #[.int .i64 0] 105)) = w3 at hS ⊢
  generalize w2.heap.size = g6 at hS o6 ⊢
  have k_2 := (hS.blk 3 rfl).cell
  have k_lt2 := (hS.blk 3 rfl).lt
  go_region
  clear k_2 k_lt2
  have o7 : Own w w3.heap.size := Own.of hS.ext (by simp)
  have o8 : Own w (w3.heap.size + 1) := Own.of hS.ext (by simp)
  replace hS := ((hS.al 32 #[.bool sx0a, .slice Ax0a nx0a cx0a, .bool sx0b, .slice Ax0b nx0b cx0b, .bool sx0d, .slice Ax0d nx0d cx0d] (g := w3.heap.size) rfl).al 32 #[.bool sx0x, .slice Ax0x nx0x cx0x, .bool sx0y, .slice Ax0y nx0y cx0y, .bool sx0z, .slice Ax0z nx0z cx0z] (g := w3.heap.size + 1) (by simp)).mv ((Ext.refl _).drew)
  generalize ((w3.alloc (.cells #[.bool sx0a, .slice Ax0a nx0a cx0a, .bool sx0b, .slice Ax0b nx0b cx0b, .bool sx0d, .slice Ax0d nx0d cx0d] 32)).alloc (.cells #[.bool sx0x, .slice Ax0x nx0x cx0x, .bool sx0y, .slice Ax0y nx0y cx0y, .bool sx0z, .slice Ax0z nx0z cx0z] 32)).drew = w4 at hS ⊢
  generalize w3.heap.size + 1 = g8 at hS o8 ⊢
  generalize w3.heap.size = g7 at hS o7 ⊢
  rotate_left 1
  clear k_2 k_lt2
  have o8 : Own w w3.heap.size := Own.of hS.ext (by simp)
  have o7 : Own w (w3.heap.size + 1) := Own.of hS.ext (by simp)
  replace hS := ((hS.al 32 #[.bool sx0x, .slice Ax0x nx0x cx0x, .bool sx0y, .slice Ax0y nx0y cx0y, .bool sx0z, .slice Ax0z nx0z cx0z] (g := w3.heap.size) rfl).al 32 #[.bool sx0a, .slice Ax0a nx0a cx0a, .bool sx0b, .slice Ax0b nx0b cx0b, .bool sx0d, .slice Ax0d nx0d cx0d] (g := w3.heap.size + 1) (by simp)).mv ((Ext.refl _).drew)
  replace hS := St.swap hS
  generalize ((w3.alloc (.cells #[.bool sx0x, .slice Ax0x nx0x cx0x, .bool sx0y, .slice Ax0y nx0y cx0y, .bool sx0z, .slice Ax0z nx0z cx0z] 32)).alloc (.cells #[.bool sx0a, .slice Ax0a nx0a cx0a, .bool sx0b, .slice Ax0b nx0b cx0b, .bool sx0d, .slice Ax0d nx0d cx0d] 32)).drew = w4 at hS ⊢
  generalize w3.heap.size + 1 = g7 at hS o7 ⊢
  generalize w3.heap.size = g8 at hS o8 ⊢
  rotate_left 1
  all_goals
    have k_3 := (hS.blk 2 rfl).cell
    go_wp2_with fail
    clear k_3
    obtain ⟨z64a, z64b, z64d, I64⟩ := is_ex (q0.u * GQ.ip r)
    have S64 : Sz (n0) z64a z64b z64d := (Bd.rot ⟨_, _, _, I0u, S0u⟩ r).sz I64
    obtain ⟨z68a, z68b, z68d, I68⟩ := is_ex (q0.v * GQ.ip r)
    have S68 : Sz (n0) z68a z68b z68d := (Bd.rot ⟨_, _, _, I0v, S0v⟩ r).sz I68
    have Y8 := ExtOf.blk (hS.blk 0 rfl)
    have Y7 := ExtOf.blk (hS.blk 1 rfl)
    have hE_ := hS.ext
    refine wp_region_tame 11 (hasF [(3, .any), (7, .any), (8, .any)]) (Fcs [(3, .rg (z64a) (z64b) (z64d)), (7, .rg (z68a) (z68b) (z68d)), (8, .retp (z64a) (z64b) (z64d) (z68a) (z68b) (z68d) 0)]) (Fcs_stab _) (by kernel_rfl) (by kernel_rfl) ?_
    simp only [List.take_succ_cons, List.take_zero, List.drop_succ_cons, List.drop_zero]
    refine wpT_quiet 3 (by rfl) (by kernel_rfl) ?_
    simp only [List.take_succ_cons, List.take_zero, List.drop_succ_cons, List.drop_zero]
    repeat (go_big_quiet_step (fail))
    refine wpQuiet_nil ?_
    refine wpT_eff (by rfl) (by rfl) (by rfl) ?_ ?_
    · intro W_ hK
      have hW := hK.1
      clear hK
      go_simp
      exact ⟨rfl, (toRG (erotate_at g6 _ q0.u (n0) r ((r : Int)) _ rfl (Blk.ext (hS.blk 2 rfl) hW) ⟨_, _, _, RG.mk (RI.ext (hS.num 5 rfl) hW) (RI.ext (hS.num 4 rfl) hW) (RI.ext (hS.num 3 rfl) hW), I0u, S0u⟩ (by omega) (by omega)) I64).mono fun e w' ⟨v, he, hR, hx⟩ => ⟨v, he, hx, hR⟩⟩
    intro v_ lo64 hi64 hr_
    obtain ⟨W_, hW_⟩ := hr_
    have hv_ : Fc.holds (.rg (z64a) (z64b) (z64d)) lo64 hi64 v_ W_ := hW_.get
    clear hW_
    obtain ⟨s64a, A_64a, n64a, c64a, s64b, A_64b, n64b, c64b, s64d, A_64d, n64d, c64d, rfl, -, -, -⟩ := hv_
    clear W_
    try simp only [Act.put, List.setIfInBounds_toArray, List.set_cons_succ, List.set_cons_zero]
    refine wpT_quiet 3 (by rfl) (by kernel_rfl) ?_
    simp only [List.take_succ_cons, List.take_zero, List.drop_succ_cons, List.drop_zero]
    repeat (go_big_quiet_step (fail))
    refine wpQuiet_nil ?_
    refine wpT_eff (by rfl) (by rfl) (by rfl) ?_ ?_
    · intro W_ hK
      have hW := hK.1
      clear hK
      go_simp
      exact ⟨rfl, (toRG (erotate_at g6 _ q0.v (n0) r ((r : Int)) _ rfl (Blk.ext (hS.blk 2 rfl) hW) ⟨_, _, _, RG.mk (RI.ext (hS.num 2 rfl) hW) (RI.ext (hS.num 1 rfl) hW) (RI.ext (hS.num 0 rfl) hW), I0v, S0v⟩ (by omega) (by omega)) I68).mono fun e w' ⟨v, he, hR, hx⟩ => ⟨v, he, hx, hR⟩⟩
    intro v_ lo68 hi68 hr_
    obtain ⟨W_, hW_⟩ := hr_
    have hv_ : Fc.holds (.rg (z68a) (z68b) (z68d)) lo68 hi68 v_ W_ := hW_.get
    clear hW_
    obtain ⟨s68a, A_68a, n68a, c68a, s68b, A_68b, n68b, c68b, s68d, A_68d, n68d, c68d, rfl, -, -, -⟩ := hv_
    clear W_
    try simp only [Act.put, List.setIfInBounds_toArray, List.set_cons_succ, List.set_cons_zero]
    refine wpT_eff (by rfl) (by rfl) (by rfl) ?_ ?_
    · intro W_ hK
      have hW := hK.1
      have F_s64a : RI W_ (iv s64a A_64a n64a c64a) z64a := RG.at1 (hK.2 3 ((gv s64a A_64a n64a c64a s64b A_64b n64b c64b s64d A_64d n64d c64d), lo64, hi64) (by rfl) (by kernel_rfl))
      have F_s64b : RI W_ (iv s64b A_64b n64b c64b) z64b := RG.at2 (hK.2 3 ((gv s64a A_64a n64a c64a s64b A_64b n64b c64b s64d A_64d n64d c64d), lo64, hi64) (by rfl) (by kernel_rfl))
      have F_s64d : RI W_ (iv s64d A_64d n64d c64d) z64d := RG.at3 (hK.2 3 ((gv s64a A_64a n64a c64a s64b A_64b n64b c64b s64d A_64d n64d c64d), lo64, hi64) (by rfl) (by kernel_rfl))
      have F_s68a : RI W_ (iv s68a A_68a n68a c68a) z68a := RG.at1 (hK.2 7 ((gv s68a A_68a n68a c68a s68b A_68b n68b c68b s68d A_68d n68d c68d), lo68, hi68) (by rfl) (by kernel_rfl))
      have F_s68b : RI W_ (iv s68b A_68b n68b c68b) z68b := RG.at2 (hK.2 7 ((gv s68a A_68a n68a c68a s68b A_68b n68b c68b s68d A_68d n68d c68d), lo68, hi68) (by rfl) (by kernel_rfl))
      have F_s68d : RI W_ (iv s68d A_68d n68d c68d) z68d := RG.at3 (hK.2 7 ((gv s68a A_68a n68a c68a s68b A_68b n68b c68b s68d A_68d n68d c68d), lo68, hi68) (by rfl) (by kernel_rfl))
      clear hK
      go_simp
      exact ⟨rfl, (ephasor_w g6 _ z64a z64b z64d _ z68a z68b z68d _ (Blk.ext (hS.blk 2 rfl) hW) (RG.mk F_s64a F_s64b F_s64d) (RG.mk F_s68a F_s68b F_s68d)).mono fun e w' ⟨v, he, hR, hx⟩ => ⟨v, he, hx, hR⟩⟩
    intro v_ lo69 hi69 hr_
    obtain ⟨W_, hW_⟩ := hr_
    have hv_ : Fc.holds (.retp (z64a) (z64b) (z64d) (z68a) (z68b) (z68d) 0) lo69 hi69 v_ W_ := hW_.get
    clear hW_
    obtain ⟨_, rfl, s69a, A_69a, n69a, c69a, s69b, A_69b, n69b, c69b, s69d, A_69d, n69d, c69d, s69x, A_69x, n69x, c69x, s69y, A_69y, n69y, c69y, s69z, A_69z, n69z, c69z, rfl, -, -, -, -, -, -⟩ := hv_
    clear W_
    try simp only [Act.put, List.setIfInBounds_toArray, List.set_cons_succ, List.set_cons_zero]
    refine wpT_quiet 2 (by rfl) (by kernel_rfl) ?_
    simp only [List.take_succ_cons, List.take_zero, List.drop_succ_cons, List.drop_zero]
    repeat (go_big_quiet_step (fail))
    refine wpQuiet_nil ?_
    refine wpT_nil ?_
    intro w5 hK
    have hlt_ := hS.lt
    replace hS := hS.mv hK.ext
    replace hS := hS.addI (show RI w5 (iv s64a A_64a n64a c64a) z64a from RG.at1 (hK.at_ 3 (e := ((gv s64a A_64a n64a c64a s64b A_64b n64b c64b s64d A_64d n64d c64d), lo64, hi64)) (by rfl)))
    replace hS := hS.addI (show RI w5 (iv s64b A_64b n64b c64b) z64b from RG.at2 (hK.at_ 3 (e := ((gv s64a A_64a n64a c64a s64b A_64b n64b c64b s64d A_64d n64d c64d), lo64, hi64)) (by rfl)))
    replace hS := hS.addI (show RI w5 (iv s64d A_64d n64d c64d) z64d from RG.at3 (hK.at_ 3 (e := ((gv s64a A_64a n64a c64a s64b A_64b n64b c64b s64d A_64d n64d c64d), lo64, hi64)) (by rfl)))
    replace hS := hS.addI (show RI w5 (iv s68a A_68a n68a c68a) z68a from RG.at1 (hK.at_ 7 (e := ((gv s68a A_68a n68a c68a s68b A_68b n68b c68b s68d A_68d n68d c68d), lo68, hi68)) (by rfl)))
    replace hS := hS.addI (show RI w5 (iv s68b A_68b n68b c68b) z68b from RG.at2 (hK.at_ 7 (e := ((gv s68a A_68a n68a c68a s68b A_68b n68b c68b s68d A_68d n68d c68d), lo68, hi68)) (by rfl)))
    replace hS := hS.addI (show RI w5 (iv s68d A_68d n68d c68d) z68d from RG.at3 (hK.at_ 7 (e := ((gv s68a A_68a n68a c68a s68b A_68b n68b c68b s68d A_68d n68d c68d), lo68, hi68)) (by rfl)))
    replace hS := hS.addI (show RI w5 (iv s69a A_69a n69a c69a) z64a from RP.rt1 (hK.at_ 8 (e := ((.tuple #[(pv s69a A_69a n69a c69a s69b A_69b n69b c69b s69d A_69d n69d c69d s69x A_69x n69x c69x s69y A_69y n69y c69y s69z A_69z n69z c69z), .int .i64 0]), lo69, hi69)) (by rfl)))
    replace hS := hS.addI (show RI w5 (iv s69b A_69b n69b c69b) z64b from RP.rt2 (hK.at_ 8 (e := ((.tuple #[(pv s69a A_69a n69a c69a s69b A_69b n69b c69b s69d A_69d n69d c69d s69x A_69x n69x c69x s69y A_69y n69y c69y s69z A_69z n69z c69z), .int .i64 0]), lo69, hi69)) (by rfl)))
    replace hS := hS.addI (show RI w5 (iv s69d A_69d n69d c69d) z64d from RP.rt3 (hK.at_ 8 (e := ((.tuple #[(pv s69a A_69a n69a c69a s69b A_69b n69b c69b s69d A_69d n69d c69d s69x A_69x n69x c69x s69y A_69y n69y c69y s69z A_69z n69z c69z), .int .i64 0]), lo69, hi69)) (by rfl)))
    replace hS := hS.addI (show RI w5 (iv s69x A_69x n69x c69x) z68a from RP.rt4 (hK.at_ 8 (e := ((.tuple #[(pv s69a A_69a n69a c69a s69b A_69b n69b c69b s69d A_69d n69d c69d s69x A_69x n69x c69x s69y A_69y n69y c69y s69z A_69z n69z c69z), .int .i64 0]), lo69, hi69)) (by rfl)))
    replace hS := hS.addI (show RI w5 (iv s69y A_69y n69y c69y) z68b from RP.rt5 (hK.at_ 8 (e := ((.tuple #[(pv s69a A_69a n69a c69a s69b A_69b n69b c69b s69d A_69d n69d c69d s69x A_69x n69x c69x s69y A_69y n69y c69y s69z A_69z n69z c69z), .int .i64 0]), lo69, hi69)) (by rfl)))
    replace hS := hS.addI (show RI w5 (iv s69z A_69z n69z c69z) z68d from RP.rt6 (hK.at_ 8 (e := ((.tuple #[(pv s69a A_69a n69a c69a s69b A_69b n69b c69b s69d A_69d n69d c69d s69x A_69x n69x c69x s69y A_69y n69y c69y s69z A_69z n69z c69z), .int .i64 0]), lo69, hi69)) (by rfl)))
    clear hK hlt_ hE_ Y8 Y7
    have k_4 := (hS.blk 4 rfl).cell
    have k_5 := (hS.blk 4 rfl).frozen
    go_wp2
    replace hS := (St.put (W' := ((((((((((((w5.setCell ⟨g4, 0, none⟩ (.bool s69a)).setCell ⟨g4, 1, none⟩ (.slice A_69a n69a c69a)).setCell ⟨g4, 2, none⟩ (.bool s69b)).setCell ⟨g4, 3, none⟩ (.slice A_69b n69b c69b)).setCell ⟨g4, 4, none⟩ (.bool s69d)).setCell ⟨g4, 5, none⟩ (.slice A_69d n69d c69d)).setCell ⟨g4, 6, none⟩ (.bool s69x)).setCell ⟨g4, 7, none⟩ (.slice A_69x n69x c69x)).setCell ⟨g4, 8, none⟩ (.bool s69y)).setCell ⟨g4, 9, none⟩ (.slice A_69y n69y c69y)).setCell ⟨g4, 10, none⟩ (.bool s69z)).setCell ⟨g4, 11, none⟩ (.slice A_69z n69z c69z))) hS 4 0 [.bool s69a, .slice A_69a n69a c69a, .bool s69b, .slice A_69b n69b c69b, .bool s69d, .slice A_69d n69d c69d, .bool s69x, .slice A_69x n69x c69x, .bool s69y, .slice A_69y n69y c69y, .bool s69z, .slice A_69z n69z c69z] (cs' := #[.bool s69a, .slice A_69a n69a c69a, .bool s69b, .slice A_69b n69b c69b, .bool s69d, .slice A_69d n69d c69d, .bool s69x, .slice A_69x n69x c69x, .bool s69y, .slice A_69y n69y c69y, .bool s69z, .slice A_69z n69z c69z]) (bs' := _) rfl o4 rfl rfl (by kernel_rfl) rfl)
    exact bp_phasor2 rfl rfl rfl (hS.blk 4 rfl) ⟨_, rfl, ⟨_, rfl, ⟨_, _, _, _, _, _, RP.mk (hS.num 5 rfl) (hS.num 4 rfl) (hS.num 3 rfl) (hS.num 2 rfl) (hS.num 1 rfl) (hS.num 0 rfl), I64, S64, I68, S68⟩⟩, hS.ext⟩

set_option maxRecDepth 100000 in
set_option maxHeartbeats 12800000 in
theorem xTurn_1 (v0 : Value) (q0 : PQ) (n0 : Nat) (m1 : Int) (K r : Nat) (w : World) (hX0 : PV w v0 q0 n0) (l1 : -9223372036854775808 ≤ m1) (u1 : m1 ≤ 9223372036854775807) (HK : Hid (m1 % 12 = (K : Int))) (HR : Hid (K = 3 * r + 1)) (hr : r ≤ 3)
     (hn : 2 * (n0 + n0) + 65 ≤ 12800) :
    Calls Tryz.prog 54 #[v0, .int .i64 m1] w fun e w' => ∃ v, e = .returned v ∧ (∃ u, v = .tuple #[u, .int .i64 0] ∧ PV w' u (⟨GQ.blend 1 (q0.u * GQ.ip 1) 3 q0.v 2 * GQ.ip r, GQ.blend 1 q0.u 1 (q0.v * GQ.ip 1) 2 * GQ.ip r⟩) (n0 + n0 + 65)) ∧ Ext w w' := by
  have hS := St.start w
  obtain ⟨x0a, x0b, x0d, x0x, x0y, x0z, hX0, I0u, S0u, I0v, S0v⟩ := hX0
  obtain ⟨sx0a, Ax0a, nx0a, cx0a, sx0b, Ax0b, nx0b, cx0b, sx0d, Ax0d, nx0d, cx0d, sx0x, Ax0x, nx0x, cx0x, sx0y, Ax0y, nx0y, cx0y, sx0z, Ax0z, nx0z, cx0z, rfl, hx0a, hx0b, hx0d, hx0x, hx0y, hx0z⟩ := hX0
  replace hS := hS.addI hx0a
  clear hx0a
  replace hS := hS.addI hx0b
  clear hx0b
  replace hS := hS.addI hx0d
  clear hx0d
  replace hS := hS.addI hx0x
  clear hx0x
  replace hS := hS.addI hx0y
  clear hx0y
  replace hS := hS.addI hx0z
  clear hx0z
  have e12 := mod12w HK.out
  have e3 : (K : Int).tmod 3 = 1 := by rw [HR.out, Int.tmod_eq_emod_of_nonneg (by omega)]; omega
  have e4 : (K : Int).tdiv 3 = (r : Int) := by rw [HR.out, Int.tdiv_eq_ediv_of_nonneg (by omega)]; omega
  have o2 : Own w w.heap.size := Own.of hS.ext (by simp)
  have o4 : Own w (w.heap.size + 1) := Own.of hS.ext (by simp)
  have hT1 := (St.al (St.al hS 46 #[.bool sx0a, .slice Ax0a nx0a cx0a, .bool sx0b, .slice Ax0b nx0b cx0b, .bool sx0d, .slice Ax0d nx0d cx0d, .bool sx0x, .slice Ax0x nx0x cx0x, .bool sx0y, .slice Ax0y nx0y cx0y, .bool sx0z, .slice Ax0z nx0z cx0z] (g := w.heap.size) (by simp)) 46 #[.bool false, .slice none 0 0, .bool false, .slice none 0 0, .bool false, .slice none 0 0, .bool false, .slice none 0 0, .bool false, .slice none 0 0, .bool false, .slice none 0 0] (g := (w.heap.size + 1)) (by simp))
  have k_1 := (hT1.blk 1 rfl).cell
  have o13 : Own w (w.heap.size + 2) := Own.of hS.ext (by simp)
  go_enter Tryz.func54, Tryz.ntmps54
  go_wp2_with fail
  clear k_1
  clear hT1
  replace hS := (St.al (St.al (St.al hS 46 #[.bool sx0a, .slice Ax0a nx0a cx0a, .bool sx0b, .slice Ax0b nx0b cx0b, .bool sx0d, .slice Ax0d nx0d cx0d, .bool sx0x, .slice Ax0x nx0x cx0x, .bool sx0y, .slice Ax0y nx0y cx0y, .bool sx0z, .slice Ax0z nx0z cx0z] (g := w.heap.size) (by simp)) 46 #[.bool false, .slice none 0 0, .bool false, .slice none 0 0, .bool false, .slice none 0 0, .bool false, .slice none 0 0, .bool false, .slice none 0 0, .bool false, .slice none 0 0] (g := (w.heap.size + 1)) (by simp)) 32 #[.bool sx0a, .slice Ax0a nx0a cx0a, .bool sx0b, .slice Ax0b nx0b cx0b, .bool sx0d, .slice Ax0d nx0d cx0d, .bool sx0x, .slice Ax0x nx0x cx0x, .bool sx0y, .slice Ax0y nx0y cx0y, .bool sx0z, .slice Ax0z nx0z cx0z] (g := (w.heap.size + 2)) (by simp))
  generalize (((w.alloc (.cells #[.bool sx0a, .slice Ax0a nx0a cx0a, .bool sx0b, .slice Ax0b nx0b cx0b, .bool sx0d, .slice Ax0d nx0d cx0d, .bool sx0x, .slice Ax0x nx0x cx0x, .bool sx0y, .slice Ax0y nx0y cx0y, .bool sx0z, .slice Ax0z nx0z cx0z] 46)).alloc (.cells #[.bool false, .slice none 0 0, .bool false, .slice none 0 0, .bool false, .slice none 0 0, .bool false, .slice none 0 0, .bool false, .slice none 0 0, .bool false, .slice none 0 0] 46)).alloc (.cells #[.bool sx0a, .slice Ax0a nx0a cx0a, .bool sx0b, .slice Ax0b nx0b cx0b, .bool sx0d, .slice Ax0d nx0d cx0d, .bool sx0x, .slice Ax0x nx0x cx0x, .bool sx0y, .slice Ax0y nx0y cx0y, .bool sx0z, .slice Ax0z nx0z cx0z] 32)) = w1 at hS ⊢
  generalize w.heap.size + 2 = g13 at hS o13 ⊢
  generalize w.heap.size + 1 = g4 at hS o4 ⊢
  generalize w.heap.size = g2 at hS o2 ⊢
  refine (xvalid2_ok g13 q0.u q0.v n0 n0 _ (hS.blk 0 rfl) ⟨_, _, _, RG.mk (hS.num 5 rfl) (hS.num 4 rfl) (hS.num 3 rfl), I0u, S0u⟩ (by omega) ⟨_, _, _, RG.mk (hS.num 2 rfl) (hS.num 1 rfl) (hS.num 0 rfl), I0v, S0v⟩ (by omega)).mono ?_
  rintro e w2 ⟨rfl, hx_⟩
  replace hS := hS.mv hx_
  clear hx_
  have o6 : Own w w2.heap.size := Own.of hS.ext (by simp)
  go_wp2_with fail
  replace hS := (St.al hS 105 #[.int .i64 0] (g := w2.heap.size) (by simp))
  generalize (w2.alloc (.cells #[.int .i64 0] 105)) = w3 at hS ⊢
  generalize w2.heap.size = g6 at hS o6 ⊢
  have k_2 := (hS.blk 3 rfl).cell
  have k_lt2 := (hS.blk 3 rfl).lt
  go_region
  clear k_2 k_lt2
  have o7 : Own w w3.heap.size := Own.of hS.ext (by simp)
  have o8 : Own w (w3.heap.size + 1) := Own.of hS.ext (by simp)
  replace hS := ((hS.al 32 #[.bool sx0a, .slice Ax0a nx0a cx0a, .bool sx0b, .slice Ax0b nx0b cx0b, .bool sx0d, .slice Ax0d nx0d cx0d] (g := w3.heap.size) rfl).al 32 #[.bool sx0x, .slice Ax0x nx0x cx0x, .bool sx0y, .slice Ax0y nx0y cx0y, .bool sx0z, .slice Ax0z nx0z cx0z] (g := w3.heap.size + 1) (by simp)).mv ((Ext.refl _).drew)
  generalize ((w3.alloc (.cells #[.bool sx0a, .slice Ax0a nx0a cx0a, .bool sx0b, .slice Ax0b nx0b cx0b, .bool sx0d, .slice Ax0d nx0d cx0d] 32)).alloc (.cells #[.bool sx0x, .slice Ax0x nx0x cx0x, .bool sx0y, .slice Ax0y nx0y cx0y, .bool sx0z, .slice Ax0z nx0z cx0z] 32)).drew = w4 at hS ⊢
  generalize w3.heap.size + 1 = g8 at hS o8 ⊢
  generalize w3.heap.size = g7 at hS o7 ⊢
  rotate_left 1
  clear k_2 k_lt2
  have o8 : Own w w3.heap.size := Own.of hS.ext (by simp)
  have o7 : Own w (w3.heap.size + 1) := Own.of hS.ext (by simp)
  replace hS := ((hS.al 32 #[.bool sx0x, .slice Ax0x nx0x cx0x, .bool sx0y, .slice Ax0y nx0y cx0y, .bool sx0z, .slice Ax0z nx0z cx0z] (g := w3.heap.size) rfl).al 32 #[.bool sx0a, .slice Ax0a nx0a cx0a, .bool sx0b, .slice Ax0b nx0b cx0b, .bool sx0d, .slice Ax0d nx0d cx0d] (g := w3.heap.size + 1) (by simp)).mv ((Ext.refl _).drew)
  replace hS := St.swap hS
  generalize ((w3.alloc (.cells #[.bool sx0x, .slice Ax0x nx0x cx0x, .bool sx0y, .slice Ax0y nx0y cx0y, .bool sx0z, .slice Ax0z nx0z cx0z] 32)).alloc (.cells #[.bool sx0a, .slice Ax0a nx0a cx0a, .bool sx0b, .slice Ax0b nx0b cx0b, .bool sx0d, .slice Ax0d nx0d cx0d] 32)).drew = w4 at hS ⊢
  generalize w3.heap.size + 1 = g7 at hS o7 ⊢
  generalize w3.heap.size = g8 at hS o8 ⊢
  rotate_left 1
  all_goals
    go_wp2_with fail
    obtain ⟨z31a, z31b, z31d, I31⟩ := is_ex (q0.u * GQ.ip 1)
    have S31 : Sz (n0) z31a z31b z31d := (Bd.rot ⟨_, _, _, I0u, S0u⟩ 1).sz I31
    obtain ⟨z34a, z34b, z34d, I34⟩ := is_ex (GQ.blend (1) (q0.u * GQ.ip 1) (3) q0.v (2))
    have S34 : Sz (n0 + n0 + 65) z34a z34b z34d := (Bd.blend (m := 2) ⟨_, _, _, I31, S31⟩ ⟨_, _, _, I0v, S0v⟩ (by omega) (by omega) (by omega) (by omega) (by omega) (by omega) (by omega)).sz I34
    obtain ⟨z39a, z39b, z39d, I39⟩ := is_ex (q0.v * GQ.ip 1)
    have S39 : Sz (n0) z39a z39b z39d := (Bd.rot ⟨_, _, _, I0v, S0v⟩ 1).sz I39
    obtain ⟨z40a, z40b, z40d, I40⟩ := is_ex (GQ.blend (1) q0.u (1) (q0.v * GQ.ip 1) (2))
    have S40 : Sz (n0 + n0 + 65) z40a z40b z40d := (Bd.blend (m := 2) ⟨_, _, _, I0u, S0u⟩ ⟨_, _, _, I39, S39⟩ (by omega) (by omega) (by omega) (by omega) (by omega) (by omega) (by omega)).sz I40
    have Y2 := ExtOf.blk (hS.blk 5 rfl)
    have hE_ := hS.ext
    refine wp_region_tame 12 (hasF [(2, .any), (5, .any), (10, .any), (11, .any)]) (Fcs [(2, .rg (z31a) (z31b) (z31d)), (5, .rg (z34a) (z34b) (z34d)), (10, .rg (z39a) (z39b) (z39d)), (11, .rg (z40a) (z40b) (z40d))]) (Fcs_stab _) (by kernel_rfl) (by kernel_rfl) ?_
    simp only [List.take_succ_cons, List.take_zero, List.drop_succ_cons, List.drop_zero]
    refine wpT_quiet 2 (by rfl) (by kernel_rfl) ?_
    simp only [List.take_succ_cons, List.take_zero, List.drop_succ_cons, List.drop_zero]
    repeat (go_big_quiet_step (fail))
    refine wpQuiet_nil ?_
    refine wpT_eff (by rfl) (by rfl) (by rfl) ?_ ?_
    · intro W_ hK
      have hW := hK.1
      clear hK
      go_simp
      exact ⟨rfl, (toRG (erotate_at g6 _ q0.u (n0) 1 (1) _ rfl (Blk.ext (hS.blk 2 rfl) hW) ⟨_, _, _, RG.mk (RI.ext (hS.num 5 rfl) hW) (RI.ext (hS.num 4 rfl) hW) (RI.ext (hS.num 3 rfl) hW), I0u, S0u⟩ (by omega) (by omega)) I31).mono fun e w' ⟨v, he, hR, hx⟩ => ⟨v, he, hx, hR⟩⟩
    intro v_ lo31 hi31 hr_
    obtain ⟨W_, hW_⟩ := hr_
    have hv_ : Fc.holds (.rg (z31a) (z31b) (z31d)) lo31 hi31 v_ W_ := hW_.get
    clear hW_
    obtain ⟨s31a, A_31a, n31a, c31a, s31b, A_31b, n31b, c31b, s31d, A_31d, n31d, c31d, rfl, -, -, -⟩ := hv_
    clear W_
    try simp only [Act.put, List.setIfInBounds_toArray, List.set_cons_succ, List.set_cons_zero]
    refine wpT_quiet 2 (by rfl) (by kernel_rfl) ?_
    simp only [List.take_succ_cons, List.take_zero, List.drop_succ_cons, List.drop_zero]
    repeat (go_big_quiet_step (fail))
    refine wpQuiet_nil ?_
    refine wpT_eff (by rfl) (by rfl) (by rfl) ?_ ?_
    · intro W_ hK
      have hW := hK.1
      have F_s31a : RI W_ (iv s31a A_31a n31a c31a) z31a := RG.at1 (hK.2 2 ((gv s31a A_31a n31a c31a s31b A_31b n31b c31b s31d A_31d n31d c31d), lo31, hi31) (by rfl) (by kernel_rfl))
      have F_s31b : RI W_ (iv s31b A_31b n31b c31b) z31b := RG.at2 (hK.2 2 ((gv s31a A_31a n31a c31a s31b A_31b n31b c31b s31d A_31d n31d c31d), lo31, hi31) (by rfl) (by kernel_rfl))
      have F_s31d : RI W_ (iv s31d A_31d n31d c31d) z31d := RG.at3 (hK.2 2 ((gv s31a A_31a n31a c31a s31b A_31b n31b c31b s31d A_31d n31d c31d), lo31, hi31) (by rfl) (by kernel_rfl))
      clear hK
      go_simp
      exact ⟨rfl, (toRG (eblend_q g6 _ _ (q0.u * GQ.ip 1) q0.v (1) (3) (2) _ _ _ (Blk.ext (hS.blk 2 rfl) hW) ⟨_, _, _, RG.mk F_s31a F_s31b F_s31d, I31, S31⟩ ⟨_, _, _, RG.mk (RI.ext (hS.num 2 rfl) hW) (RI.ext (hS.num 1 rfl) hW) (RI.ext (hS.num 0 rfl) hW), I0v, S0v⟩ (by omega) (by omega) (by omega) (by omega) (by omega) (by omega) (by omega) (by omega)) I34).mono fun e w' ⟨v, he, hR, hx⟩ => ⟨v, he, hx, hR⟩⟩
    intro v_ lo34 hi34 hr_
    obtain ⟨W_, hW_⟩ := hr_
    have hv_ : Fc.holds (.rg (z34a) (z34b) (z34d)) lo34 hi34 v_ W_ := hW_.get
    clear hW_
    obtain ⟨s34a, A_34a, n34a, c34a, s34b, A_34b, n34b, c34b, s34d, A_34d, n34d, c34d, rfl, -, -, -⟩ := hv_
    clear W_
    try simp only [Act.put, List.setIfInBounds_toArray, List.set_cons_succ, List.set_cons_zero]
    refine wpT_quiet 4 (by rfl) (by kernel_rfl) ?_
    simp only [List.take_succ_cons, List.take_zero, List.drop_succ_cons, List.drop_zero]
    repeat (go_big_quiet_step (fail))
    refine wpQuiet_nil ?_
    refine wpT_eff (by rfl) (by rfl) (by rfl) ?_ ?_
    · intro W_ hK
      have hW := hK.1
      clear hK
      go_simp
      exact ⟨rfl, (toRG (erotate_at g6 _ q0.v (n0) 1 (1) _ rfl (Blk.ext (hS.blk 2 rfl) hW) ⟨_, _, _, RG.mk (RI.ext (hS.num 2 rfl) hW) (RI.ext (hS.num 1 rfl) hW) (RI.ext (hS.num 0 rfl) hW), I0v, S0v⟩ (by omega) (by omega)) I39).mono fun e w' ⟨v, he, hR, hx⟩ => ⟨v, he, hx, hR⟩⟩
    intro v_ lo39 hi39 hr_
    obtain ⟨W_, hW_⟩ := hr_
    have hv_ : Fc.holds (.rg (z39a) (z39b) (z39d)) lo39 hi39 v_ W_ := hW_.get
    clear hW_
    obtain ⟨s39a, A_39a, n39a, c39a, s39b, A_39b, n39b, c39b, s39d, A_39d, n39d, c39d, rfl, -, -, -⟩ := hv_
    clear W_
    try simp only [Act.put, List.setIfInBounds_toArray, List.set_cons_succ, List.set_cons_zero]
    refine wpT_eff (by rfl) (by rfl) (by rfl) ?_ ?_
    · intro W_ hK
      have hW := hK.1
      have F_s39a : RI W_ (iv s39a A_39a n39a c39a) z39a := RG.at1 (hK.2 10 ((gv s39a A_39a n39a c39a s39b A_39b n39b c39b s39d A_39d n39d c39d), lo39, hi39) (by rfl) (by kernel_rfl))
      have F_s39b : RI W_ (iv s39b A_39b n39b c39b) z39b := RG.at2 (hK.2 10 ((gv s39a A_39a n39a c39a s39b A_39b n39b c39b s39d A_39d n39d c39d), lo39, hi39) (by rfl) (by kernel_rfl))
      have F_s39d : RI W_ (iv s39d A_39d n39d c39d) z39d := RG.at3 (hK.2 10 ((gv s39a A_39a n39a c39a s39b A_39b n39b c39b s39d A_39d n39d c39d), lo39, hi39) (by rfl) (by kernel_rfl))
      clear hK
      go_simp
      exact ⟨rfl, (toRG (eblend_q g6 _ _ q0.u (q0.v * GQ.ip 1) (1) (1) (2) _ _ _ (Blk.ext (hS.blk 2 rfl) hW) ⟨_, _, _, RG.mk (RI.ext (hS.num 5 rfl) hW) (RI.ext (hS.num 4 rfl) hW) (RI.ext (hS.num 3 rfl) hW), I0u, S0u⟩ ⟨_, _, _, RG.mk F_s39a F_s39b F_s39d, I39, S39⟩ (by omega) (by omega) (by omega) (by omega) (by omega) (by omega) (by omega) (by omega)) I40).mono fun e w' ⟨v, he, hR, hx⟩ => ⟨v, he, hx, hR⟩⟩
    intro v_ lo40 hi40 hr_
    obtain ⟨W_, hW_⟩ := hr_
    have hv_ : Fc.holds (.rg (z40a) (z40b) (z40d)) lo40 hi40 v_ W_ := hW_.get
    clear hW_
    obtain ⟨s40a, A_40a, n40a, c40a, s40b, A_40b, n40b, c40b, s40d, A_40d, n40d, c40d, rfl, -, -, -⟩ := hv_
    clear W_
    try simp only [Act.put, List.setIfInBounds_toArray, List.set_cons_succ, List.set_cons_zero]
    refine wpT_nil ?_
    intro w5 hK
    have hlt_ := hS.lt
    replace hS := hS.mv hK.ext
    replace hS := hS.addI (show RI w5 (iv s31a A_31a n31a c31a) z31a from RG.at1 (hK.at_ 2 (e := ((gv s31a A_31a n31a c31a s31b A_31b n31b c31b s31d A_31d n31d c31d), lo31, hi31)) (by rfl)))
    replace hS := hS.addI (show RI w5 (iv s31b A_31b n31b c31b) z31b from RG.at2 (hK.at_ 2 (e := ((gv s31a A_31a n31a c31a s31b A_31b n31b c31b s31d A_31d n31d c31d), lo31, hi31)) (by rfl)))
    replace hS := hS.addI (show RI w5 (iv s31d A_31d n31d c31d) z31d from RG.at3 (hK.at_ 2 (e := ((gv s31a A_31a n31a c31a s31b A_31b n31b c31b s31d A_31d n31d c31d), lo31, hi31)) (by rfl)))
    replace hS := hS.addI (show RI w5 (iv s34a A_34a n34a c34a) z34a from RG.at1 (hK.at_ 5 (e := ((gv s34a A_34a n34a c34a s34b A_34b n34b c34b s34d A_34d n34d c34d), lo34, hi34)) (by rfl)))
    replace hS := hS.addI (show RI w5 (iv s34b A_34b n34b c34b) z34b from RG.at2 (hK.at_ 5 (e := ((gv s34a A_34a n34a c34a s34b A_34b n34b c34b s34d A_34d n34d c34d), lo34, hi34)) (by rfl)))
    replace hS := hS.addI (show RI w5 (iv s34d A_34d n34d c34d) z34d from RG.at3 (hK.at_ 5 (e := ((gv s34a A_34a n34a c34a s34b A_34b n34b c34b s34d A_34d n34d c34d), lo34, hi34)) (by rfl)))
    replace hS := hS.addI (show RI w5 (iv s39a A_39a n39a c39a) z39a from RG.at1 (hK.at_ 10 (e := ((gv s39a A_39a n39a c39a s39b A_39b n39b c39b s39d A_39d n39d c39d), lo39, hi39)) (by rfl)))
    replace hS := hS.addI (show RI w5 (iv s39b A_39b n39b c39b) z39b from RG.at2 (hK.at_ 10 (e := ((gv s39a A_39a n39a c39a s39b A_39b n39b c39b s39d A_39d n39d c39d), lo39, hi39)) (by rfl)))
    replace hS := hS.addI (show RI w5 (iv s39d A_39d n39d c39d) z39d from RG.at3 (hK.at_ 10 (e := ((gv s39a A_39a n39a c39a s39b A_39b n39b c39b s39d A_39d n39d c39d), lo39, hi39)) (by rfl)))
    replace hS := hS.addI (show RI w5 (iv s40a A_40a n40a c40a) z40a from RG.at1 (hK.at_ 11 (e := ((gv s40a A_40a n40a c40a s40b A_40b n40b c40b s40d A_40d n40d c40d), lo40, hi40)) (by rfl)))
    replace hS := hS.addI (show RI w5 (iv s40b A_40b n40b c40b) z40b from RG.at2 (hK.at_ 11 (e := ((gv s40a A_40a n40a c40a s40b A_40b n40b c40b s40d A_40d n40d c40d), lo40, hi40)) (by rfl)))
    replace hS := hS.addI (show RI w5 (iv s40d A_40d n40d c40d) z40d from RG.at3 (hK.at_ 11 (e := ((gv s40a A_40a n40a c40a s40b A_40b n40b c40b s40d A_40d n40d c40d), lo40, hi40)) (by rfl)))
    clear hK hlt_ hE_ Y2
    have k_3 := (hS.blk 1 rfl).cell
    have k_4 := (hS.blk 1 rfl).frozen
    have hT2 := (St.put (W' := ((((((w5.setCell ⟨g7, 0, none⟩ (.bool s34a)).setCell ⟨g7, 1, none⟩ (.slice A_34a n34a c34a)).setCell ⟨g7, 2, none⟩ (.bool s34b)).setCell ⟨g7, 3, none⟩ (.slice A_34b n34b c34b)).setCell ⟨g7, 4, none⟩ (.bool s34d)).setCell ⟨g7, 5, none⟩ (.slice A_34d n34d c34d))) hS 1 0 [.bool s34a, .slice A_34a n34a c34a, .bool s34b, .slice A_34b n34b c34b, .bool s34d, .slice A_34d n34d c34d] (cs' := #[.bool s34a, .slice A_34a n34a c34a, .bool s34b, .slice A_34b n34b c34b, .bool s34d, .slice A_34d n34d c34d]) (bs' := _) rfl o7 rfl rfl (by kernel_rfl) rfl)
    have k_5 := (hT2.blk 0 rfl).cell
    have k_6 := (hT2.blk 0 rfl).frozen
    have hT3 := (St.put (W' := ((((((((((((w5.setCell ⟨g7, 0, none⟩ (.bool s34a)).setCell ⟨g7, 1, none⟩ (.slice A_34a n34a c34a)).setCell ⟨g7, 2, none⟩ (.bool s34b)).setCell ⟨g7, 3, none⟩ (.slice A_34b n34b c34b)).setCell ⟨g7, 4, none⟩ (.bool s34d)).setCell ⟨g7, 5, none⟩ (.slice A_34d n34d c34d)).setCell ⟨g8, 0, none⟩ (.bool s40a)).setCell ⟨g8, 1, none⟩ (.slice A_40a n40a c40a)).setCell ⟨g8, 2, none⟩ (.bool s40b)).setCell ⟨g8, 3, none⟩ (.slice A_40b n40b c40b)).setCell ⟨g8, 4, none⟩ (.bool s40d)).setCell ⟨g8, 5, none⟩ (.slice A_40d n40d c40d))) (St.put (W' := ((((((w5.setCell ⟨g7, 0, none⟩ (.bool s34a)).setCell ⟨g7, 1, none⟩ (.slice A_34a n34a c34a)).setCell ⟨g7, 2, none⟩ (.bool s34b)).setCell ⟨g7, 3, none⟩ (.slice A_34b n34b c34b)).setCell ⟨g7, 4, none⟩ (.bool s34d)).setCell ⟨g7, 5, none⟩ (.slice A_34d n34d c34d))) hS 1 0 [.bool s34a, .slice A_34a n34a c34a, .bool s34b, .slice A_34b n34b c34b, .bool s34d, .slice A_34d n34d c34d] (cs' := #[.bool s34a, .slice A_34a n34a c34a, .bool s34b, .slice A_34b n34b c34b, .bool s34d, .slice A_34d n34d c34d]) (bs' := _) rfl o7 rfl rfl (by kernel_rfl) rfl) 0 0 [.bool s40a, .slice A_40a n40a c40a, .bool s40b, .slice A_40b n40b c40b, .bool s40d, .slice A_40d n40d c40d] (cs' := #[.bool s40a, .slice A_40a n40a c40a, .bool s40b, .slice A_40b n40b c40b, .bool s40d, .slice A_40d n40d c40d]) (bs' := _) rfl o8 rfl rfl (by kernel_rfl) rfl)
    have k_7 := (hT3.blk 2 rfl).cell
    go_wp2_with fail
    clear k_3 k_4 k_5 k_6 k_7
    clear hT2 hT3
    replace hS := (St.put (W' := ((((((((((((w5.setCell ⟨g7, 0, none⟩ (.bool s34a)).setCell ⟨g7, 1, none⟩ (.slice A_34a n34a c34a)).setCell ⟨g7, 2, none⟩ (.bool s34b)).setCell ⟨g7, 3, none⟩ (.slice A_34b n34b c34b)).setCell ⟨g7, 4, none⟩ (.bool s34d)).setCell ⟨g7, 5, none⟩ (.slice A_34d n34d c34d)).setCell ⟨g8, 0, none⟩ (.bool s40a)).setCell ⟨g8, 1, none⟩ (.slice A_40a n40a c40a)).setCell ⟨g8, 2, none⟩ (.bool s40b)).setCell ⟨g8, 3, none⟩ (.slice A_40b n40b c40b)).setCell ⟨g8, 4, none⟩ (.bool s40d)).setCell ⟨g8, 5, none⟩ (.slice A_40d n40d c40d))) (St.put (W' := ((((((w5.setCell ⟨g7, 0, none⟩ (.bool s34a)).setCell ⟨g7, 1, none⟩ (.slice A_34a n34a c34a)).setCell ⟨g7, 2, none⟩ (.bool s34b)).setCell ⟨g7, 3, none⟩ (.slice A_34b n34b c34b)).setCell ⟨g7, 4, none⟩ (.bool s34d)).setCell ⟨g7, 5, none⟩ (.slice A_34d n34d c34d))) hS 1 0 [.bool s34a, .slice A_34a n34a c34a, .bool s34b, .slice A_34b n34b c34b, .bool s34d, .slice A_34d n34d c34d] (cs' := #[.bool s34a, .slice A_34a n34a c34a, .bool s34b, .slice A_34b n34b c34b, .bool s34d, .slice A_34d n34d c34d]) (bs' := _) rfl o7 rfl rfl (by kernel_rfl) rfl) 0 0 [.bool s40a, .slice A_40a n40a c40a, .bool s40b, .slice A_40b n40b c40b, .bool s40d, .slice A_40d n40d c40d] (cs' := #[.bool s40a, .slice A_40a n40a c40a, .bool s40b, .slice A_40b n40b c40b, .bool s40d, .slice A_40d n40d c40d]) (bs' := _) rfl o8 rfl rfl (by kernel_rfl) rfl)
    simp only [List.set_cons_zero, List.set_cons_succ] at hS
    generalize ((((((((((((w5.setCell ⟨g7, 0, none⟩ (.bool s34a)).setCell ⟨g7, 1, none⟩ (.slice A_34a n34a c34a)).setCell ⟨g7, 2, none⟩ (.bool s34b)).setCell ⟨g7, 3, none⟩ (.slice A_34b n34b c34b)).setCell ⟨g7, 4, none⟩ (.bool s34d)).setCell ⟨g7, 5, none⟩ (.slice A_34d n34d c34d)).setCell ⟨g8, 0, none⟩ (.bool s40a)).setCell ⟨g8, 1, none⟩ (.slice A_40a n40a c40a)).setCell ⟨g8, 2, none⟩ (.bool s40b)).setCell ⟨g8, 3, none⟩ (.slice A_40b n40b c40b)).setCell ⟨g8, 4, none⟩ (.bool s40d)).setCell ⟨g8, 5, none⟩ (.slice A_40d n40d c40d)) = w6 at hS ⊢
    obtain ⟨z64a, z64b, z64d, I64⟩ := is_ex ((GQ.blend (1) (q0.u * GQ.ip 1) (3) q0.v (2)) * GQ.ip r)
    have S64 : Sz (n0 + n0 + 65) z64a z64b z64d := (Bd.rot ⟨_, _, _, I34, S34⟩ r).sz I64
    obtain ⟨z68a, z68b, z68d, I68⟩ := is_ex ((GQ.blend (1) q0.u (1) (q0.v * GQ.ip 1) (2)) * GQ.ip r)
    have S68 : Sz (n0 + n0 + 65) z68a z68b z68d := (Bd.rot ⟨_, _, _, I40, S40⟩ r).sz I68
    have Y8 := ExtOf.blk (hS.blk 0 rfl)
    have Y7 := ExtOf.blk (hS.blk 1 rfl)
    have hE_ := hS.ext
    refine wp_region_tame 11 (hasF [(3, .any), (7, .any), (8, .any)]) (Fcs [(3, .rg (z64a) (z64b) (z64d)), (7, .rg (z68a) (z68b) (z68d)), (8, .retp (z64a) (z64b) (z64d) (z68a) (z68b) (z68d) 0)]) (Fcs_stab _) (by kernel_rfl) (by kernel_rfl) ?_
    simp only [List.take_succ_cons, List.take_zero, List.drop_succ_cons, List.drop_zero]
    refine wpT_quiet 3 (by rfl) (by kernel_rfl) ?_
    simp only [List.take_succ_cons, List.take_zero, List.drop_succ_cons, List.drop_zero]
    repeat (go_big_quiet_step (fail))
    refine wpQuiet_nil ?_
    refine wpT_eff (by rfl) (by rfl) (by rfl) ?_ ?_
    · intro W_ hK
      have hW := hK.1
      clear hK
      go_simp
      exact ⟨rfl, (toRG (erotate_at g6 _ (GQ.blend (1) (q0.u * GQ.ip 1) (3) q0.v (2)) (n0 + n0 + 65) r ((r : Int)) _ rfl (Blk.ext (hS.blk 2 rfl) hW) ⟨_, _, _, RG.mk (RI.ext (hS.num 8 rfl) hW) (RI.ext (hS.num 7 rfl) hW) (RI.ext (hS.num 6 rfl) hW), I34, S34⟩ (by omega) (by omega)) I64).mono fun e w' ⟨v, he, hR, hx⟩ => ⟨v, he, hx, hR⟩⟩
    intro v_ lo64 hi64 hr_
    obtain ⟨W_, hW_⟩ := hr_
    have hv_ : Fc.holds (.rg (z64a) (z64b) (z64d)) lo64 hi64 v_ W_ := hW_.get
    clear hW_
    obtain ⟨s64a, A_64a, n64a, c64a, s64b, A_64b, n64b, c64b, s64d, A_64d, n64d, c64d, rfl, -, -, -⟩ := hv_
    clear W_
    try simp only [Act.put, List.setIfInBounds_toArray, List.set_cons_succ, List.set_cons_zero]
    refine wpT_quiet 3 (by rfl) (by kernel_rfl) ?_
    simp only [List.take_succ_cons, List.take_zero, List.drop_succ_cons, List.drop_zero]
    repeat (go_big_quiet_step (fail))
    refine wpQuiet_nil ?_
    refine wpT_eff (by rfl) (by rfl) (by rfl) ?_ ?_
    · intro W_ hK
      have hW := hK.1
      clear hK
      go_simp
      exact ⟨rfl, (toRG (erotate_at g6 _ (GQ.blend (1) q0.u (1) (q0.v * GQ.ip 1) (2)) (n0 + n0 + 65) r ((r : Int)) _ rfl (Blk.ext (hS.blk 2 rfl) hW) ⟨_, _, _, RG.mk (RI.ext (hS.num 2 rfl) hW) (RI.ext (hS.num 1 rfl) hW) (RI.ext (hS.num 0 rfl) hW), I40, S40⟩ (by omega) (by omega)) I68).mono fun e w' ⟨v, he, hR, hx⟩ => ⟨v, he, hx, hR⟩⟩
    intro v_ lo68 hi68 hr_
    obtain ⟨W_, hW_⟩ := hr_
    have hv_ : Fc.holds (.rg (z68a) (z68b) (z68d)) lo68 hi68 v_ W_ := hW_.get
    clear hW_
    obtain ⟨s68a, A_68a, n68a, c68a, s68b, A_68b, n68b, c68b, s68d, A_68d, n68d, c68d, rfl, -, -, -⟩ := hv_
    clear W_
    try simp only [Act.put, List.setIfInBounds_toArray, List.set_cons_succ, List.set_cons_zero]
    refine wpT_eff (by rfl) (by rfl) (by rfl) ?_ ?_
    · intro W_ hK
      have hW := hK.1
      have F_s64a : RI W_ (iv s64a A_64a n64a c64a) z64a := RG.at1 (hK.2 3 ((gv s64a A_64a n64a c64a s64b A_64b n64b c64b s64d A_64d n64d c64d), lo64, hi64) (by rfl) (by kernel_rfl))
      have F_s64b : RI W_ (iv s64b A_64b n64b c64b) z64b := RG.at2 (hK.2 3 ((gv s64a A_64a n64a c64a s64b A_64b n64b c64b s64d A_64d n64d c64d), lo64, hi64) (by rfl) (by kernel_rfl))
      have F_s64d : RI W_ (iv s64d A_64d n64d c64d) z64d := RG.at3 (hK.2 3 ((gv s64a A_64a n64a c64a s64b A_64b n64b c64b s64d A_64d n64d c64d), lo64, hi64) (by rfl) (by kernel_rfl))
      have F_s68a : RI W_ (iv s68a A_68a n68a c68a) z68a := RG.at1 (hK.2 7 ((gv s68a A_68a n68a c68a s68b A_68b n68b c68b s68d A_68d n68d c68d), lo68, hi68) (by rfl) (by kernel_rfl))
      have F_s68b : RI W_ (iv s68b A_68b n68b c68b) z68b := RG.at2 (hK.2 7 ((gv s68a A_68a n68a c68a s68b A_68b n68b c68b s68d A_68d n68d c68d), lo68, hi68) (by rfl) (by kernel_rfl))
      have F_s68d : RI W_ (iv s68d A_68d n68d c68d) z68d := RG.at3 (hK.2 7 ((gv s68a A_68a n68a c68a s68b A_68b n68b c68b s68d A_68d n68d c68d), lo68, hi68) (by rfl) (by kernel_rfl))
      clear hK
      go_simp
      exact ⟨rfl, (ephasor_w g6 _ z64a z64b z64d _ z68a z68b z68d _ (Blk.ext (hS.blk 2 rfl) hW) (RG.mk F_s64a F_s64b F_s64d) (RG.mk F_s68a F_s68b F_s68d)).mono fun e w' ⟨v, he, hR, hx⟩ => ⟨v, he, hx, hR⟩⟩
    intro v_ lo69 hi69 hr_
    obtain ⟨W_, hW_⟩ := hr_
    have hv_ : Fc.holds (.retp (z64a) (z64b) (z64d) (z68a) (z68b) (z68d) 0) lo69 hi69 v_ W_ := hW_.get
    clear hW_
    obtain ⟨_, rfl, s69a, A_69a, n69a, c69a, s69b, A_69b, n69b, c69b, s69d, A_69d, n69d, c69d, s69x, A_69x, n69x, c69x, s69y, A_69y, n69y, c69y, s69z, A_69z, n69z, c69z, rfl, -, -, -, -, -, -⟩ := hv_
    clear W_
    try simp only [Act.put, List.setIfInBounds_toArray, List.set_cons_succ, List.set_cons_zero]
    refine wpT_quiet 2 (by rfl) (by kernel_rfl) ?_
    simp only [List.take_succ_cons, List.take_zero, List.drop_succ_cons, List.drop_zero]
    repeat (go_big_quiet_step (fail))
    refine wpQuiet_nil ?_
    refine wpT_nil ?_
    intro w7 hK
    have hlt_ := hS.lt
    replace hS := hS.mv hK.ext
    replace hS := hS.addI (show RI w7 (iv s64a A_64a n64a c64a) z64a from RG.at1 (hK.at_ 3 (e := ((gv s64a A_64a n64a c64a s64b A_64b n64b c64b s64d A_64d n64d c64d), lo64, hi64)) (by rfl)))
    replace hS := hS.addI (show RI w7 (iv s64b A_64b n64b c64b) z64b from RG.at2 (hK.at_ 3 (e := ((gv s64a A_64a n64a c64a s64b A_64b n64b c64b s64d A_64d n64d c64d), lo64, hi64)) (by rfl)))
    replace hS := hS.addI (show RI w7 (iv s64d A_64d n64d c64d) z64d from RG.at3 (hK.at_ 3 (e := ((gv s64a A_64a n64a c64a s64b A_64b n64b c64b s64d A_64d n64d c64d), lo64, hi64)) (by rfl)))
    replace hS := hS.addI (show RI w7 (iv s68a A_68a n68a c68a) z68a from RG.at1 (hK.at_ 7 (e := ((gv s68a A_68a n68a c68a s68b A_68b n68b c68b s68d A_68d n68d c68d), lo68, hi68)) (by rfl)))
    replace hS := hS.addI (show RI w7 (iv s68b A_68b n68b c68b) z68b from RG.at2 (hK.at_ 7 (e := ((gv s68a A_68a n68a c68a s68b A_68b n68b c68b s68d A_68d n68d c68d), lo68, hi68)) (by rfl)))
    replace hS := hS.addI (show RI w7 (iv s68d A_68d n68d c68d) z68d from RG.at3 (hK.at_ 7 (e := ((gv s68a A_68a n68a c68a s68b A_68b n68b c68b s68d A_68d n68d c68d), lo68, hi68)) (by rfl)))
    replace hS := hS.addI (show RI w7 (iv s69a A_69a n69a c69a) z64a from RP.rt1 (hK.at_ 8 (e := ((.tuple #[(pv s69a A_69a n69a c69a s69b A_69b n69b c69b s69d A_69d n69d c69d s69x A_69x n69x c69x s69y A_69y n69y c69y s69z A_69z n69z c69z), .int .i64 0]), lo69, hi69)) (by rfl)))
    replace hS := hS.addI (show RI w7 (iv s69b A_69b n69b c69b) z64b from RP.rt2 (hK.at_ 8 (e := ((.tuple #[(pv s69a A_69a n69a c69a s69b A_69b n69b c69b s69d A_69d n69d c69d s69x A_69x n69x c69x s69y A_69y n69y c69y s69z A_69z n69z c69z), .int .i64 0]), lo69, hi69)) (by rfl)))
    replace hS := hS.addI (show RI w7 (iv s69d A_69d n69d c69d) z64d from RP.rt3 (hK.at_ 8 (e := ((.tuple #[(pv s69a A_69a n69a c69a s69b A_69b n69b c69b s69d A_69d n69d c69d s69x A_69x n69x c69x s69y A_69y n69y c69y s69z A_69z n69z c69z), .int .i64 0]), lo69, hi69)) (by rfl)))
    replace hS := hS.addI (show RI w7 (iv s69x A_69x n69x c69x) z68a from RP.rt4 (hK.at_ 8 (e := ((.tuple #[(pv s69a A_69a n69a c69a s69b A_69b n69b c69b s69d A_69d n69d c69d s69x A_69x n69x c69x s69y A_69y n69y c69y s69z A_69z n69z c69z), .int .i64 0]), lo69, hi69)) (by rfl)))
    replace hS := hS.addI (show RI w7 (iv s69y A_69y n69y c69y) z68b from RP.rt5 (hK.at_ 8 (e := ((.tuple #[(pv s69a A_69a n69a c69a s69b A_69b n69b c69b s69d A_69d n69d c69d s69x A_69x n69x c69x s69y A_69y n69y c69y s69z A_69z n69z c69z), .int .i64 0]), lo69, hi69)) (by rfl)))
    replace hS := hS.addI (show RI w7 (iv s69z A_69z n69z c69z) z68d from RP.rt6 (hK.at_ 8 (e := ((.tuple #[(pv s69a A_69a n69a c69a s69b A_69b n69b c69b s69d A_69d n69d c69d s69x A_69x n69x c69x s69y A_69y n69y c69y s69z A_69z n69z c69z), .int .i64 0]), lo69, hi69)) (by rfl)))
    clear hK hlt_ hE_ Y8 Y7
    have k_8 := (hS.blk 4 rfl).cell
    have k_9 := (hS.blk 4 rfl).frozen
    go_wp2
    replace hS := (St.put (W' := ((((((((((((w7.setCell ⟨g4, 0, none⟩ (.bool s69a)).setCell ⟨g4, 1, none⟩ (.slice A_69a n69a c69a)).setCell ⟨g4, 2, none⟩ (.bool s69b)).setCell ⟨g4, 3, none⟩ (.slice A_69b n69b c69b)).setCell ⟨g4, 4, none⟩ (.bool s69d)).setCell ⟨g4, 5, none⟩ (.slice A_69d n69d c69d)).setCell ⟨g4, 6, none⟩ (.bool s69x)).setCell ⟨g4, 7, none⟩ (.slice A_69x n69x c69x)).setCell ⟨g4, 8, none⟩ (.bool s69y)).setCell ⟨g4, 9, none⟩ (.slice A_69y n69y c69y)).setCell ⟨g4, 10, none⟩ (.bool s69z)).setCell ⟨g4, 11, none⟩ (.slice A_69z n69z c69z))) hS 4 0 [.bool s69a, .slice A_69a n69a c69a, .bool s69b, .slice A_69b n69b c69b, .bool s69d, .slice A_69d n69d c69d, .bool s69x, .slice A_69x n69x c69x, .bool s69y, .slice A_69y n69y c69y, .bool s69z, .slice A_69z n69z c69z] (cs' := #[.bool s69a, .slice A_69a n69a c69a, .bool s69b, .slice A_69b n69b c69b, .bool s69d, .slice A_69d n69d c69d, .bool s69x, .slice A_69x n69x c69x, .bool s69y, .slice A_69y n69y c69y, .bool s69z, .slice A_69z n69z c69z]) (bs' := _) rfl o4 rfl rfl (by kernel_rfl) rfl)
    exact bp_phasor2 rfl rfl rfl (hS.blk 4 rfl) ⟨_, rfl, ⟨_, rfl, ⟨_, _, _, _, _, _, RP.mk (hS.num 5 rfl) (hS.num 4 rfl) (hS.num 3 rfl) (hS.num 2 rfl) (hS.num 1 rfl) (hS.num 0 rfl), I64, S64, I68, S68⟩⟩, hS.ext⟩

set_option maxRecDepth 100000 in
set_option maxHeartbeats 12800000 in
theorem xTurn_2 (v0 : Value) (q0 : PQ) (n0 : Nat) (m1 : Int) (K r : Nat) (w : World) (hX0 : PV w v0 q0 n0) (l1 : -9223372036854775808 ≤ m1) (u1 : m1 ≤ 9223372036854775807) (HK : Hid (m1 % 12 = (K : Int))) (HR : Hid (K = 3 * r + 2)) (hr : r ≤ 3)
     (hn : 2 * (n0 + n0) + 65 ≤ 12800) :
    Calls Tryz.prog 54 #[v0, .int .i64 m1] w fun e w' => ∃ v, e = .returned v ∧ (∃ u, v = .tuple #[u, .int .i64 0] ∧ PV w' u (⟨GQ.blend 1 q0.u 3 (q0.v * GQ.ip 1) 2 * GQ.ip r, GQ.blend 1 (q0.u * GQ.ip 1) 1 q0.v 2 * GQ.ip r⟩) (n0 + n0 + 65)) ∧ Ext w w' := by
  have hS := St.start w
  obtain ⟨x0a, x0b, x0d, x0x, x0y, x0z, hX0, I0u, S0u, I0v, S0v⟩ := hX0
  obtain ⟨sx0a, Ax0a, nx0a, cx0a, sx0b, Ax0b, nx0b, cx0b, sx0d, Ax0d, nx0d, cx0d, sx0x, Ax0x, nx0x, cx0x, sx0y, Ax0y, nx0y, cx0y, sx0z, Ax0z, nx0z, cx0z, rfl, hx0a, hx0b, hx0d, hx0x, hx0y, hx0z⟩ := hX0
  replace hS := hS.addI hx0a
  clear hx0a
  replace hS := hS.addI hx0b
  clear hx0b
  replace hS := hS.addI hx0d
  clear hx0d
  replace hS := hS.addI hx0x
  clear hx0x
  replace hS := hS.addI hx0y
  clear hx0y
  replace hS := hS.addI hx0z
  clear hx0z
  have e12 := mod12w HK.out
  have e3 : (K : Int).tmod 3 = 2 := by rw [HR.out, Int.tmod_eq_emod_of_nonneg (by omega)]; omega
  have e4 : (K : Int).tdiv 3 = (r : Int) := by rw [HR.out, Int.tdiv_eq_ediv_of_nonneg (by omega)]; omega
  have o2 : Own w w.heap.size := Own.of hS.ext (by simp)
  have o4 : Own w (w.heap.size + 1) := Own.of hS.ext (by simp)
  have hT1 := (St.al (St.al hS 46 #[.bool sx0a, .slice Ax0a nx0a cx0a, .bool sx0b, .slice Ax0b nx0b cx0b, .bool sx0d, .slice Ax0d nx0d cx0d, .bool sx0x, .slice Ax0x nx0x cx0x, .bool sx0y, .slice Ax0y nx0y cx0y, .bool sx0z, .slice Ax0z nx0z cx0z] (g := w.heap.size) (by simp)) 46 #[.bool false, .slice none 0 0, .bool false, .slice none 0 0, .bool false, .slice none 0 0, .bool false, .slice none 0 0, .bool false, .slice none 0 0, .bool false, .slice none 0 0] (g := (w.heap.size + 1)) (by simp))
  have k_1 := (hT1.blk 1 rfl).cell
  have o13 : Own w (w.heap.size + 2) := Own.of hS.ext (by simp)
  go_enter Tryz.func54, Tryz.ntmps54
  go_wp2_with fail
  clear k_1
  clear hT1
  replace hS := (St.al (St.al (St.al hS 46 #[.bool sx0a, .slice Ax0a nx0a cx0a, .bool sx0b, .slice Ax0b nx0b cx0b, .bool sx0d, .slice Ax0d nx0d cx0d, .bool sx0x, .slice Ax0x nx0x cx0x, .bool sx0y, .slice Ax0y nx0y cx0y, .bool sx0z, .slice Ax0z nx0z cx0z] (g := w.heap.size) (by simp)) 46 #[.bool false, .slice none 0 0, .bool false, .slice none 0 0, .bool false, .slice none 0 0, .bool false, .slice none 0 0, .bool false, .slice none 0 0, .bool false, .slice none 0 0] (g := (w.heap.size + 1)) (by simp)) 32 #[.bool sx0a, .slice Ax0a nx0a cx0a, .bool sx0b, .slice Ax0b nx0b cx0b, .bool sx0d, .slice Ax0d nx0d cx0d, .bool sx0x, .slice Ax0x nx0x cx0x, .bool sx0y, .slice Ax0y nx0y cx0y, .bool sx0z, .slice Ax0z nx0z cx0z] (g := (w.heap.size + 2)) (by simp))
  generalize (((w.alloc (.cells #[.bool sx0a, .slice Ax0a nx0a cx0a, .bool sx0b, .slice Ax0b nx0b cx0b, .bool sx0d, .slice Ax0d nx0d cx0d, .bool sx0x, .slice Ax0x nx0x cx0x, .bool sx0y, .slice Ax0y nx0y cx0y, .bool sx0z, .slice Ax0z nx0z cx0z] 46)).alloc (.cells #[.bool false, .slice none 0 0, .bool false, .slice none 0 0, .bool false, .slice none 0 0, .bool false, .slice none 0 0, .bool false, .slice none 0 0, .bool false, .slice none 0 0] 46)).alloc (.cells #[.bool sx0a, .slice Ax0a nx0a cx0a, .bool sx0b, .slice Ax0b nx0b cx0b, .bool sx0d, .slice Ax0d nx0d cx0d, .bool sx0x, .slice Ax0x nx0x cx0x, .bool sx0y, .slice Ax0y nx0y cx0y, .bool sx0z, .slice Ax0z nx0z cx0z] 32)) = w1 at hS ⊢
  generalize w.heap.size + 2 = g13 at hS o13 ⊢
  generalize w.heap.size + 1 = g4 at hS o4 ⊢
  generalize w.heap.size = g2 at hS o2 ⊢
  refine (xvalid2_ok g13 q0.u q0.v n0 n0 _ (hS.blk 0 rfl) ⟨_, _, _, RG.mk (hS.num 5 rfl) (hS.num 4 rfl) (hS.num 3 rfl), I0u, S0u⟩ (by omega) ⟨_, _, _, RG.mk (hS.num 2 rfl) (hS.num 1 rfl) (hS.num 0 rfl), I0v, S0v⟩ (by omega)).mono ?_
  rintro e w2 ⟨rfl, hx_⟩
  replace hS := hS.mv hx_
  clear hx_
  have o6 : Own w w2.heap.size := Own.of hS.ext (by simp)
  go_wp2_with fail
  replace hS := (St.al hS 105 #[.int .i64 0] (g := w2.heap.size) (by simp))
  generalize (w2.alloc (.cells #[.int .i64 0] 105)) = w3 at hS ⊢
  generalize w2.heap.size = g6 at hS o6 ⊢
  have k_2 := (hS.blk 3 rfl).cell
  have k_lt2 := (hS.blk 3 rfl).lt
  go_region
  clear k_2 k_lt2
  have o7 : Own w w3.heap.size := Own.of hS.ext (by simp)
  have o8 : Own w (w3.heap.size + 1) := Own.of hS.ext (by simp)
  replace hS := ((hS.al 32 #[.bool sx0a, .slice Ax0a nx0a cx0a, .bool sx0b, .slice Ax0b nx0b cx0b, .bool sx0d, .slice Ax0d nx0d cx0d] (g := w3.heap.size) rfl).al 32 #[.bool sx0x, .slice Ax0x nx0x cx0x, .bool sx0y, .slice Ax0y nx0y cx0y, .bool sx0z, .slice Ax0z nx0z cx0z] (g := w3.heap.size + 1) (by simp)).mv ((Ext.refl _).drew)
  generalize ((w3.alloc (.cells #[.bool sx0a, .slice Ax0a nx0a cx0a, .bool sx0b, .slice Ax0b nx0b cx0b, .bool sx0d, .slice Ax0d nx0d cx0d] 32)).alloc (.cells #[.bool sx0x, .slice Ax0x nx0x cx0x, .bool sx0y, .slice Ax0y nx0y cx0y, .bool sx0z, .slice Ax0z nx0z cx0z] 32)).drew = w4 at hS ⊢
  generalize w3.heap.size + 1 = g8 at hS o8 ⊢
  generalize w3.heap.size = g7 at hS o7 ⊢
  rotate_left 1
  clear k_2 k_lt2
  have o8 : Own w w3.heap.size := Own.of hS.ext (by simp)
  have o7 : Own w (w3.heap.size + 1) := Own.of hS.ext (by simp)
  replace hS := ((hS.al 32 #[.bool sx0x, .slice Ax0x nx0x cx0x, .bool sx0y, .slice Ax0y nx0y cx0y, .bool sx0z, .slice Ax0z nx0z cx0z] (g := w3.heap.size) rfl).al 32 #[.bool sx0a, .slice Ax0a nx0a cx0a, .bool sx0b, .slice Ax0b nx0b cx0b, .bool sx0d, .slice Ax0d nx0d cx0d] (g := w3.heap.size + 1) (by simp)).mv ((Ext.refl _).drew)
  replace hS := St.swap hS
  generalize ((w3.alloc (.cells #[.bool sx0x, .slice Ax0x nx0x cx0x, .bool sx0y, .slice Ax0y nx0y cx0y, .bool sx0z, .slice Ax0z nx0z cx0z] 32)).alloc (.cells #[.bool sx0a, .slice Ax0a nx0a cx0a, .bool sx0b, .slice Ax0b nx0b cx0b, .bool sx0d, .slice Ax0d nx0d cx0d] 32)).drew = w4 at hS ⊢
  generalize w3.heap.size + 1 = g7 at hS o7 ⊢
  generalize w3.heap.size = g8 at hS o8 ⊢
  rotate_left 1
  all_goals
    go_wp2_with fail
    obtain ⟨z47a, z47b, z47d, I47⟩ := is_ex (q0.v * GQ.ip 1)
    have S47 : Sz (n0) z47a z47b z47d := (Bd.rot ⟨_, _, _, I0v, S0v⟩ 1).sz I47
    obtain ⟨z48a, z48b, z48d, I48⟩ := is_ex (GQ.blend (1) q0.u (3) (q0.v * GQ.ip 1) (2))
    have S48 : Sz (n0 + n0 + 65) z48a z48b z48d := (Bd.blend (m := 2) ⟨_, _, _, I0u, S0u⟩ ⟨_, _, _, I47, S47⟩ (by omega) (by omega) (by omega) (by omega) (by omega) (by omega) (by omega)).sz I48
    obtain ⟨z51a, z51b, z51d, I51⟩ := is_ex (q0.u * GQ.ip 1)
    have S51 : Sz (n0) z51a z51b z51d := (Bd.rot ⟨_, _, _, I0u, S0u⟩ 1).sz I51
    obtain ⟨z54a, z54b, z54d, I54⟩ := is_ex (GQ.blend (1) (q0.u * GQ.ip 1) (1) q0.v (2))
    have S54 : Sz (n0 + n0 + 65) z54a z54b z54d := (Bd.blend (m := 2) ⟨_, _, _, I51, S51⟩ ⟨_, _, _, I0v, S0v⟩ (by omega) (by omega) (by omega) (by omega) (by omega) (by omega) (by omega)).sz I54
    have Y2 := ExtOf.blk (hS.blk 5 rfl)
    have hE_ := hS.ext
    refine wp_region_tame 12 (hasF [(4, .any), (5, .any), (8, .any), (11, .any)]) (Fcs [(4, .rg (z47a) (z47b) (z47d)), (5, .rg (z48a) (z48b) (z48d)), (8, .rg (z51a) (z51b) (z51d)), (11, .rg (z54a) (z54b) (z54d))]) (Fcs_stab _) (by kernel_rfl) (by kernel_rfl) ?_
    simp only [List.take_succ_cons, List.take_zero, List.drop_succ_cons, List.drop_zero]
    refine wpT_quiet 4 (by rfl) (by kernel_rfl) ?_
    simp only [List.take_succ_cons, List.take_zero, List.drop_succ_cons, List.drop_zero]
    repeat (go_big_quiet_step (fail))
    refine wpQuiet_nil ?_
    refine wpT_eff (by rfl) (by rfl) (by rfl) ?_ ?_
    · intro W_ hK
      have hW := hK.1
      clear hK
      go_simp
      exact ⟨rfl, (toRG (erotate_at g6 _ q0.v (n0) 1 (1) _ rfl (Blk.ext (hS.blk 2 rfl) hW) ⟨_, _, _, RG.mk (RI.ext (hS.num 2 rfl) hW) (RI.ext (hS.num 1 rfl) hW) (RI.ext (hS.num 0 rfl) hW), I0v, S0v⟩ (by omega) (by omega)) I47).mono fun e w' ⟨v, he, hR, hx⟩ => ⟨v, he, hx, hR⟩⟩
    intro v_ lo47 hi47 hr_
    obtain ⟨W_, hW_⟩ := hr_
    have hv_ : Fc.holds (.rg (z47a) (z47b) (z47d)) lo47 hi47 v_ W_ := hW_.get
    clear hW_
    obtain ⟨s47a, A_47a, n47a, c47a, s47b, A_47b, n47b, c47b, s47d, A_47d, n47d, c47d, rfl, -, -, -⟩ := hv_
    clear W_
    try simp only [Act.put, List.setIfInBounds_toArray, List.set_cons_succ, List.set_cons_zero]
    refine wpT_eff (by rfl) (by rfl) (by rfl) ?_ ?_
    · intro W_ hK
      have hW := hK.1
      have F_s47a : RI W_ (iv s47a A_47a n47a c47a) z47a := RG.at1 (hK.2 4 ((gv s47a A_47a n47a c47a s47b A_47b n47b c47b s47d A_47d n47d c47d), lo47, hi47) (by rfl) (by kernel_rfl))
      have F_s47b : RI W_ (iv s47b A_47b n47b c47b) z47b := RG.at2 (hK.2 4 ((gv s47a A_47a n47a c47a s47b A_47b n47b c47b s47d A_47d n47d c47d), lo47, hi47) (by rfl) (by kernel_rfl))
      have F_s47d : RI W_ (iv s47d A_47d n47d c47d) z47d := RG.at3 (hK.2 4 ((gv s47a A_47a n47a c47a s47b A_47b n47b c47b s47d A_47d n47d c47d), lo47, hi47) (by rfl) (by kernel_rfl))
      clear hK
      go_simp
      exact ⟨rfl, (toRG (eblend_q g6 _ _ q0.u (q0.v * GQ.ip 1) (1) (3) (2) _ _ _ (Blk.ext (hS.blk 2 rfl) hW) ⟨_, _, _, RG.mk (RI.ext (hS.num 5 rfl) hW) (RI.ext (hS.num 4 rfl) hW) (RI.ext (hS.num 3 rfl) hW), I0u, S0u⟩ ⟨_, _, _, RG.mk F_s47a F_s47b F_s47d, I47, S47⟩ (by omega) (by omega) (by omega) (by omega) (by omega) (by omega) (by omega) (by omega)) I48).mono fun e w' ⟨v, he, hR, hx⟩ => ⟨v, he, hx, hR⟩⟩
    intro v_ lo48 hi48 hr_
    obtain ⟨W_, hW_⟩ := hr_
    have hv_ : Fc.holds (.rg (z48a) (z48b) (z48d)) lo48 hi48 v_ W_ := hW_.get
    clear hW_
    obtain ⟨s48a, A_48a, n48a, c48a, s48b, A_48b, n48b, c48b, s48d, A_48d, n48d, c48d, rfl, -, -, -⟩ := hv_
    clear W_
    try simp only [Act.put, List.setIfInBounds_toArray, List.set_cons_succ, List.set_cons_zero]
    refine wpT_quiet 2 (by rfl) (by kernel_rfl) ?_
    simp only [List.take_succ_cons, List.take_zero, List.drop_succ_cons, List.drop_zero]
    repeat (go_big_quiet_step (fail))
    refine wpQuiet_nil ?_
    refine wpT_eff (by rfl) (by rfl) (by rfl) ?_ ?_
    · intro W_ hK
      have hW := hK.1
      clear hK
      go_simp
      exact ⟨rfl, (toRG (erotate_at g6 _ q0.u (n0) 1 (1) _ rfl (Blk.ext (hS.blk 2 rfl) hW) ⟨_, _, _, RG.mk (RI.ext (hS.num 5 rfl) hW) (RI.ext (hS.num 4 rfl) hW) (RI.ext (hS.num 3 rfl) hW), I0u, S0u⟩ (by omega) (by omega)) I51).mono fun e w' ⟨v, he, hR, hx⟩ => ⟨v, he, hx, hR⟩⟩
    intro v_ lo51 hi51 hr_
    obtain ⟨W_, hW_⟩ := hr_
    have hv_ : Fc.holds (.rg (z51a) (z51b) (z51d)) lo51 hi51 v_ W_ := hW_.get
    clear hW_
    obtain ⟨s51a, A_51a, n51a, c51a, s51b, A_51b, n51b, c51b, s51d, A_51d, n51d, c51d, rfl, -, -, -⟩ := hv_
    clear W_
    try simp only [Act.put, List.setIfInBounds_toArray, List.set_cons_succ, List.set_cons_zero]
    refine wpT_quiet 2 (by rfl) (by kernel_rfl) ?_
    simp only [List.take_succ_cons, List.take_zero, List.drop_succ_cons, List.drop_zero]
    repeat (go_big_quiet_step (fail))
    refine wpQuiet_nil ?_
    refine wpT_eff (by rfl) (by rfl) (by rfl) ?_ ?_
    · intro W_ hK
      have hW := hK.1
      have F_s51a : RI W_ (iv s51a A_51a n51a c51a) z51a := RG.at1 (hK.2 8 ((gv s51a A_51a n51a c51a s51b A_51b n51b c51b s51d A_51d n51d c51d), lo51, hi51) (by rfl) (by kernel_rfl))
      have F_s51b : RI W_ (iv s51b A_51b n51b c51b) z51b := RG.at2 (hK.2 8 ((gv s51a A_51a n51a c51a s51b A_51b n51b c51b s51d A_51d n51d c51d), lo51, hi51) (by rfl) (by kernel_rfl))
      have F_s51d : RI W_ (iv s51d A_51d n51d c51d) z51d := RG.at3 (hK.2 8 ((gv s51a A_51a n51a c51a s51b A_51b n51b c51b s51d A_51d n51d c51d), lo51, hi51) (by rfl) (by kernel_rfl))
      clear hK
      go_simp
      exact ⟨rfl, (toRG (eblend_q g6 _ _ (q0.u * GQ.ip 1) q0.v (1) (1) (2) _ _ _ (Blk.ext (hS.blk 2 rfl) hW) ⟨_, _, _, RG.mk F_s51a F_s51b F_s51d, I51, S51⟩ ⟨_, _, _, RG.mk (RI.ext (hS.num 2 rfl) hW) (RI.ext (hS.num 1 rfl) hW) (RI.ext (hS.num 0 rfl) hW), I0v, S0v⟩ (by omega) (by omega) (by omega) (by omega) (by omega) (by omega) (by omega) (by omega)) I54).mono fun e w' ⟨v, he, hR, hx⟩ => ⟨v, he, hx, hR⟩⟩
    intro v_ lo54 hi54 hr_
    obtain ⟨W_, hW_⟩ := hr_
    have hv_ : Fc.holds (.rg (z54a) (z54b) (z54d)) lo54 hi54 v_ W_ := hW_.get
    clear hW_
    obtain ⟨s54a, A_54a, n54a, c54a, s54b, A_54b, n54b, c54b, s54d, A_54d, n54d, c54d, rfl, -, -, -⟩ := hv_
    clear W_
    try simp only [Act.put, List.setIfInBounds_toArray, List.set_cons_succ, List.set_cons_zero]
    refine wpT_nil ?_
    intro w5 hK
    have hlt_ := hS.lt
    replace hS := hS.mv hK.ext
    replace hS := hS.addI (show RI w5 (iv s47a A_47a n47a c47a) z47a from RG.at1 (hK.at_ 4 (e := ((gv s47a A_47a n47a c47a s47b A_47b n47b c47b s47d A_47d n47d c47d), lo47, hi47)) (by rfl)))
    replace hS := hS.addI (show RI w5 (iv s47b A_47b n47b c47b) z47b from RG.at2 (hK.at_ 4 (e := ((gv s47a A_47a n47a c47a s47b A_47b n47b c47b s47d A_47d n47d c47d), lo47, hi47)) (by rfl)))
    replace hS := hS.addI (show RI w5 (iv s47d A_47d n47d c47d) z47d from RG.at3 (hK.at_ 4 (e := ((gv s47a A_47a n47a c47a s47b A_47b n47b c47b s47d A_47d n47d c47d), lo47, hi47)) (by rfl)))
    replace hS := hS.addI (show RI w5 (iv s48a A_48a n48a c48a) z48a from RG.at1 (hK.at_ 5 (e := ((gv s48a A_48a n48a c48a s48b A_48b n48b c48b s48d A_48d n48d c48d), lo48, hi48)) (by rfl)))
    replace hS := hS.addI (show RI w5 (iv s48b A_48b n48b c48b) z48b from RG.at2 (hK.at_ 5 (e := ((gv s48a A_48a n48a c48a s48b A_48b n48b c48b s48d A_48d n48d c48d), lo48, hi48)) (by rfl)))
    replace hS := hS.addI (show RI w5 (iv s48d A_48d n48d c48d) z48d from RG.at3 (hK.at_ 5 (e := ((gv s48a A_48a n48a c48a s48b A_48b n48b c48b s48d A_48d n48d c48d), lo48, hi48)) (by rfl)))
    replace hS := hS.addI (show RI w5 (iv s51a A_51a n51a c51a) z51a from RG.at1 (hK.at_ 8 (e := ((gv s51a A_51a n51a c51a s51b A_51b n51b c51b s51d A_51d n51d c51d), lo51, hi51)) (by rfl)))
    replace hS := hS.addI (show RI w5 (iv s51b A_51b n51b c51b) z51b from RG.at2 (hK.at_ 8 (e := ((gv s51a A_51a n51a c51a s51b A_51b n51b c51b s51d A_51d n51d c51d), lo51, hi51)) (by rfl)))
    replace hS := hS.addI (show RI w5 (iv s51d A_51d n51d c51d) z51d from RG.at3 (hK.at_ 8 (e := ((gv s51a A_51a n51a c51a s51b A_51b n51b c51b s51d A_51d n51d c51d), lo51, hi51)) (by rfl)))
    replace hS := hS.addI (show RI w5 (iv s54a A_54a n54a c54a) z54a from RG.at1 (hK.at_ 11 (e := ((gv s54a A_54a n54a c54a s54b A_54b n54b c54b s54d A_54d n54d c54d), lo54, hi54)) (by rfl)))
    replace hS := hS.addI (show RI w5 (iv s54b A_54b n54b c54b) z54b from RG.at2 (hK.at_ 11 (e := ((gv s54a A_54a n54a c54a s54b A_54b n54b c54b s54d A_54d n54d c54d), lo54, hi54)) (by rfl)))
    replace hS := hS.addI (show RI w5 (iv s54d A_54d n54d c54d) z54d from RG.at3 (hK.at_ 11 (e := ((gv s54a A_54a n54a c54a s54b A_54b n54b c54b s54d A_54d n54d c54d), lo54, hi54)) (by rfl)))
    clear hK hlt_ hE_ Y2
    have k_3 := (hS.blk 1 rfl).cell
    have k_4 := (hS.blk 1 rfl).frozen
    have hT2 := (St.put (W' := ((((((w5.setCell ⟨g7, 0, none⟩ (.bool s48a)).setCell ⟨g7, 1, none⟩ (.slice A_48a n48a c48a)).setCell ⟨g7, 2, none⟩ (.bool s48b)).setCell ⟨g7, 3, none⟩ (.slice A_48b n48b c48b)).setCell ⟨g7, 4, none⟩ (.bool s48d)).setCell ⟨g7, 5, none⟩ (.slice A_48d n48d c48d))) hS 1 0 [.bool s48a, .slice A_48a n48a c48a, .bool s48b, .slice A_48b n48b c48b, .bool s48d, .slice A_48d n48d c48d] (cs' := #[.bool s48a, .slice A_48a n48a c48a, .bool s48b, .slice A_48b n48b c48b, .bool s48d, .slice A_48d n48d c48d]) (bs' := _) rfl o7 rfl rfl (by kernel_rfl) rfl)
    have k_5 := (hT2.blk 0 rfl).cell
    have k_6 := (hT2.blk 0 rfl).frozen
    have hT3 := (St.put (W' := ((((((((((((w5.setCell ⟨g7, 0, none⟩ (.bool s48a)).setCell ⟨g7, 1, none⟩ (.slice A_48a n48a c48a)).setCell ⟨g7, 2, none⟩ (.bool s48b)).setCell ⟨g7, 3, none⟩ (.slice A_48b n48b c48b)).setCell ⟨g7, 4, none⟩ (.bool s48d)).setCell ⟨g7, 5, none⟩ (.slice A_48d n48d c48d)).setCell ⟨g8, 0, none⟩ (.bool s54a)).setCell ⟨g8, 1, none⟩ (.slice A_54a n54a c54a)).setCell ⟨g8, 2, none⟩ (.bool s54b)).setCell ⟨g8, 3, none⟩ (.slice A_54b n54b c54b)).setCell ⟨g8, 4, none⟩ (.bool s54d)).setCell ⟨g8, 5, none⟩ (.slice A_54d n54d c54d))) (St.put (W' := ((((((w5.setCell ⟨g7, 0, none⟩ (.bool s48a)).setCell ⟨g7, 1, none⟩ (.slice A_48a n48a c48a)).setCell ⟨g7, 2, none⟩ (.bool s48b)).setCell ⟨g7, 3, none⟩ (.slice A_48b n48b c48b)).setCell ⟨g7, 4, none⟩ (.bool s48d)).setCell ⟨g7, 5, none⟩ (.slice A_48d n48d c48d))) hS 1 0 [.bool s48a, .slice A_48a n48a c48a, .bool s48b, .slice A_48b n48b c48b, .bool s48d, .slice A_48d n48d c48d] (cs' := #[.bool s48a, .slice A_48a n48a c48a, .bool s48b, .slice A_48b n48b c48b, .bool s48d, .slice A_48d n48d c48d]) (bs' := _) rfl o7 rfl rfl (by kernel_rfl) rfl) 0 0 [.bool s54a, .slice A_54a n54a c54a, .bool s54b, .slice A_54b n54b c54b, .bool s54d, .slice A_54d n54d c54d] (cs' := #[.bool s54a, .slice A_54a n54a c54a, .bool s54b, .slice A_54b n54b c54b, .bool s54d, .slice A_54d n54d c54d]) (bs' := _) rfl o8 rfl rfl (by kernel_rfl) rfl)
    have k_7 := (hT3.blk 2 rfl).cell
    go_wp2_with fail
    clear k_3 k_4 k_5 k_6 k_7
    clear hT2 hT3
    replace hS := (St.put (W' := ((((((((((((w5.setCell ⟨g7, 0, none⟩ (.bool s48a)).setCell ⟨g7, 1, none⟩ (.slice A_48a n48a c48a)).setCell ⟨g7, 2, none⟩ (.bool s48b)).setCell ⟨g7, 3, none⟩ (.slice A_48b n48b c48b)).setCell ⟨g7, 4, none⟩ (.bool s48d)).setCell ⟨g7, 5, none⟩ (.slice A_48d n48d c48d)).setCell ⟨g8, 0, none⟩ (.bool s54a)).setCell ⟨g8, 1, none⟩ (.slice A_54a n54a c54a)).setCell ⟨g8, 2, none⟩ (.bool s54b)).setCell ⟨g8, 3, none⟩ (.slice A_54b n54b c54b)).setCell ⟨g8, 4, none⟩ (.bool s54d)).setCell ⟨g8, 5, none⟩ (.slice A_54d n54d c54d))) (St.put (W' := ((((((w5.setCell ⟨g7, 0, none⟩ (.bool s48a)).setCell ⟨g7, 1, none⟩ (.slice A_48a n48a c48a)).setCell ⟨g7, 2, none⟩ (.bool s48b)).setCell ⟨g7, 3, none⟩ (.slice A_48b n48b c48b)).setCell ⟨g7, 4, none⟩ (.bool s48d)).setCell ⟨g7, 5, none⟩ (.slice A_48d n48d c48d))) hS 1 0 [.bool s48a, .slice A_48a n48a c48a, .bool s48b, .slice A_48b n48b c48b, .bool s48d, .slice A_48d n48d c48d] (cs' := #[.bool s48a, .slice A_48a n48a c48a, .bool s48b, .slice A_48b n48b c48b, .bool s48d, .slice A_48d n48d c48d]) (bs' := _) rfl o7 rfl rfl (by kernel_rfl) rfl) 0 0 [.bool s54a, .slice A_54a n54a c54a, .bool s54b, .slice A_54b n54b c54b, .bool s54d, .slice A_54d n54d c54d] (cs' := #[.bool s54a, .slice A_54a n54a c54a, .bool s54b, .slice A_54b n54b c54b, .bool s54d, .slice A_54d n54d c54d]) (bs' := _) rfl o8 rfl rfl (by kernel_rfl) rfl)
    simp only [List.set_cons_zero, List.set_cons_succ] at hS
    generalize ((((((((((((w5.setCell ⟨g7, 0, none⟩ (.bool s48a)).setCell ⟨g7, 1, none⟩ (.slice A_48a n48a c48a)).setCell ⟨g7, 2, none⟩ (.bool s48b)).setCell ⟨g7, 3, none⟩ (.slice A_48b n48b c48b)).setCell ⟨g7, 4, none⟩ (.bool s48d)).setCell ⟨g7, 5, none⟩ (.slice A_48d n48d c48d)).setCell ⟨g8, 0, none⟩ (.bool s54a)).setCell ⟨g8, 1, none⟩ (.slice A_54a n54a c54a)).setCell ⟨g8, 2, none⟩ (.bool s54b)).setCell ⟨g8, 3, none⟩ (.slice A_54b n54b c54b)).setCell ⟨g8, 4, none⟩ (.bool s54d)).setCell ⟨g8, 5, none⟩ (.slice A_54d n54d c54d)) = w6 at hS ⊢
    obtain ⟨z64a, z64b, z64d, I64⟩ := is_ex ((GQ.blend (1) q0.u (3) (q0.v * GQ.ip 1) (2)) * GQ.ip r)
    have S64 : Sz (n0 + n0 + 65) z64a z64b z64d := (Bd.rot ⟨_, _, _, I48, S48⟩ r).sz I64
    obtain ⟨z68a, z68b, z68d, I68⟩ := is_ex ((GQ.blend (1) (q0.u * GQ.ip 1) (1) q0.v (2)) * GQ.ip r)
    have S68 : Sz (n0 + n0 + 65) z68a z68b z68d := (Bd.rot ⟨_, _, _, I54, S54⟩ r).sz I68
    have Y8 := ExtOf.blk (hS.blk 0 rfl)
    have Y7 := ExtOf.blk (hS.blk 1 rfl)
    have hE_ := hS.ext
    refine wp_region_tame 11 (hasF [(3, .any), (7, .any), (8, .any)]) (Fcs [(3, .rg (z64a) (z64b) (z64d)), (7, .rg (z68a) (z68b) (z68d)), (8, .retp (z64a) (z64b) (z64d) (z68a) (z68b) (z68d) 0)]) (Fcs_stab _) (by kernel_rfl) (by kernel_rfl) ?_
    simp only [List.take_succ_cons, List.take_zero, List.drop_succ_cons, List.drop_zero]
    refine wpT_quiet 3 (by rfl) (by kernel_rfl) ?_
    simp only [List.take_succ_cons, List.take_zero, List.drop_succ_cons, List.drop_zero]
    repeat (go_big_quiet_step (fail))
    refine wpQuiet_nil ?_
    refine wpT_eff (by rfl) (by rfl) (by rfl) ?_ ?_
    · intro W_ hK
      have hW := hK.1
      clear hK
      go_simp
      exact ⟨rfl, (toRG (erotate_at g6 _ (GQ.blend (1) q0.u (3) (q0.v * GQ.ip 1) (2)) (n0 + n0 + 65) r ((r : Int)) _ rfl (Blk.ext (hS.blk 2 rfl) hW) ⟨_, _, _, RG.mk (RI.ext (hS.num 8 rfl) hW) (RI.ext (hS.num 7 rfl) hW) (RI.ext (hS.num 6 rfl) hW), I48, S48⟩ (by omega) (by omega)) I64).mono fun e w' ⟨v, he, hR, hx⟩ => ⟨v, he, hx, hR⟩⟩
    intro v_ lo64 hi64 hr_
    obtain ⟨W_, hW_⟩ := hr_
    have hv_ : Fc.holds (.rg (z64a) (z64b) (z64d)) lo64 hi64 v_ W_ := hW_.get
    clear hW_
    obtain ⟨s64a, A_64a, n64a, c64a, s64b, A_64b, n64b, c64b, s64d, A_64d, n64d, c64d, rfl, -, -, -⟩ := hv_
    clear W_
    try simp only [Act.put, List.setIfInBounds_toArray, List.set_cons_succ, List.set_cons_zero]
    refine wpT_quiet 3 (by rfl) (by kernel_rfl) ?_
    simp only [List.take_succ_cons, List.take_zero, List.drop_succ_cons, List.drop_zero]
    repeat (go_big_quiet_step (fail))
    refine wpQuiet_nil ?_
    refine wpT_eff (by rfl) (by rfl) (by rfl) ?_ ?_
    · intro W_ hK
      have hW := hK.1
      clear hK
      go_simp
      exact ⟨rfl, (toRG (erotate_at g6 _ (GQ.blend (1) (q0.u * GQ.ip 1) (1) q0.v (2)) (n0 + n0 + 65) r ((r : Int)) _ rfl (Blk.ext (hS.blk 2 rfl) hW) ⟨_, _, _, RG.mk (RI.ext (hS.num 2 rfl) hW) (RI.ext (hS.num 1 rfl) hW) (RI.ext (hS.num 0 rfl) hW), I54, S54⟩ (by omega) (by omega)) I68).mono fun e w' ⟨v, he, hR, hx⟩ => ⟨v, he, hx, hR⟩⟩
    intro v_ lo68 hi68 hr_
    obtain ⟨W_, hW_⟩ := hr_
    have hv_ : Fc.holds (.rg (z68a) (z68b) (z68d)) lo68 hi68 v_ W_ := hW_.get
    clear hW_
    obtain ⟨s68a, A_68a, n68a, c68a, s68b, A_68b, n68b, c68b, s68d, A_68d, n68d, c68d, rfl, -, -, -⟩ := hv_
    clear W_
    try simp only [Act.put, List.setIfInBounds_toArray, List.set_cons_succ, List.set_cons_zero]
    refine wpT_eff (by rfl) (by rfl) (by rfl) ?_ ?_
    · intro W_ hK
      have hW := hK.1
      have F_s64a : RI W_ (iv s64a A_64a n64a c64a) z64a := RG.at1 (hK.2 3 ((gv s64a A_64a n64a c64a s64b A_64b n64b c64b s64d A_64d n64d c64d), lo64, hi64) (by rfl) (by kernel_rfl))
      have F_s64b : RI W_ (iv s64b A_64b n64b c64b) z64b := RG.at2 (hK.2 3 ((gv s64a A_64a n64a c64a s64b A_64b n64b c64b s64d A_64d n64d c64d), lo64, hi64) (by rfl) (by kernel_rfl))
      have F_s64d : RI W_ (iv s64d A_64d n64d c64d) z64d := RG.at3 (hK.2 3 ((gv s64a A_64a n64a c64a s64b A_64b n64b c64b s64d A_64d n64d c64d), lo64, hi64) (by rfl) (by kernel_rfl))
      have F_s68a : RI W_ (iv s68a A_68a n68a c68a) z68a := RG.at1 (hK.2 7 ((gv s68a A_68a n68a c68a s68b A_68b n68b c68b s68d A_68d n68d c68d), lo68, hi68) (by rfl) (by kernel_rfl))
      have F_s68b : RI W_ (iv s68b A_68b n68b c68b) z68b := RG.at2 (hK.2 7 ((gv s68a A_68a n68a c68a s68b A_68b n68b c68b s68d A_68d n68d c68d), lo68, hi68) (by rfl) (by kernel_rfl))
      have F_s68d : RI W_ (iv s68d A_68d n68d c68d) z68d := RG.at3 (hK.2 7 ((gv s68a A_68a n68a c68a s68b A_68b n68b c68b s68d A_68d n68d c68d), lo68, hi68) (by rfl) (by kernel_rfl))
      clear hK
      go_simp
      exact ⟨rfl, (ephasor_w g6 _ z64a z64b z64d _ z68a z68b z68d _ (Blk.ext (hS.blk 2 rfl) hW) (RG.mk F_s64a F_s64b F_s64d) (RG.mk F_s68a F_s68b F_s68d)).mono fun e w' ⟨v, he, hR, hx⟩ => ⟨v, he, hx, hR⟩⟩
    intro v_ lo69 hi69 hr_
    obtain ⟨W_, hW_⟩ := hr_
    have hv_ : Fc.holds (.retp (z64a) (z64b) (z64d) (z68a) (z68b) (z68d) 0) lo69 hi69 v_ W_ := hW_.get
    clear hW_
    obtain ⟨_, rfl, s69a, A_69a, n69a, c69a, s69b, A_69b, n69b, c69b, s69d, A_69d, n69d, c69d, s69x, A_69x, n69x, c69x, s69y, A_69y, n69y, c69y, s69z, A_69z, n69z, c69z, rfl, -, -, -, -, -, -⟩ := hv_
    clear W_
    try simp only [Act.put, List.setIfInBounds_toArray, List.set_cons_succ, List.set_cons_zero]
    refine wpT_quiet 2 (by rfl) (by kernel_rfl) ?_
    simp only [List.take_succ_cons, List.take_zero, List.drop_succ_cons, List.drop_zero]
    repeat (go_big_quiet_step (fail))
    refine wpQuiet_nil ?_
    refine wpT_nil ?_
    intro w7 hK
    have hlt_ := hS.lt
    replace hS := hS.mv hK.ext
    replace hS := hS.addI (show RI w7 (iv s64a A_64a n64a c64a) z64a from RG.at1 (hK.at_ 3 (e := ((gv s64a A_64a n64a c64a s64b A_64b n64b c64b s64d A_64d n64d c64d), lo64, hi64)) (by rfl)))
    replace hS := hS.addI (show RI w7 (iv s64b A_64b n64b c64b) z64b from RG.at2 (hK.at_ 3 (e := ((gv s64a A_64a n64a c64a s64b A_64b n64b c64b s64d A_64d n64d c64d), lo64, hi64)) (by rfl)))
    replace hS := hS.addI (show RI w7 (iv s64d A_64d n64d c64d) z64d from RG.at3 (hK.at_ 3 (e := ((gv s64a A_64a n64a c64a s64b A_64b n64b c64b s64d A_64d n64d c64d), lo64, hi64)) (by rfl)))
    replace hS := hS.addI (show RI w7 (iv s68a A_68a n68a c68a) z68a from RG.at1 (hK.at_ 7 (e := ((gv s68a A_68a n68a c68a s68b A_68b n68b c68b s68d A_68d n68d c68d), lo68, hi68)) (by rfl)))
    replace hS := hS.addI (show RI w7 (iv s68b A_68b n68b c68b) z68b from RG.at2 (hK.at_ 7 (e := ((gv s68a A_68a n68a c68a s68b A_68b n68b c68b s68d A_68d n68d c68d), lo68, hi68)) (by rfl)))
    replace hS := hS.addI (show RI w7 (iv s68d A_68d n68d c68d) z68d from RG.at3 (hK.at_ 7 (e := ((gv s68a A_68a n68a c68a s68b A_68b n68b c68b s68d A_68d n68d c68d), lo68, hi68)) (by rfl)))
    replace hS := hS.addI (show RI w7 (iv s69a A_69a n69a c69a) z64a from RP.rt1 (hK.at_ 8 (e := ((.tuple #[(pv s69a A_69a n69a c69a s69b A_69b n69b c69b s69d A_69d n69d c69d s69x A_69x n69x c69x s69y A_69y n69y c69y s69z A_69z n69z c69z), .int .i64 0]), lo69, hi69)) (by rfl)))
    replace hS := hS.addI (show RI w7 (iv s69b A_69b n69b c69b) z64b from RP.rt2 (hK.at_ 8 (e := ((.tuple #[(pv s69a A_69a n69a c69a s69b A_69b n69b c69b s69d A_69d n69d c69d s69x A_69x n69x c69x s69y A_69y n69y c69y s69z A_69z n69z c69z), .int .i64 0]), lo69, hi69)) (by rfl)))
    replace hS := hS.addI (show RI w7 (iv s69d A_69d n69d c69d) z64d from RP.rt3 (hK.at_ 8 (e := ((.tuple #[(pv s69a A_69a n69a c69a s69b A_69b n69b c69b s69d A_69d n69d c69d s69x A_69x n69x c69x s69y A_69y n69y c69y s69z A_69z n69z c69z), .int .i64 0]), lo69, hi69)) (by rfl)))
    replace hS := hS.addI (show RI w7 (iv s69x A_69x n69x c69x) z68a from RP.rt4 (hK.at_ 8 (e := ((.tuple #[(pv s69a A_69a n69a c69a s69b A_69b n69b c69b s69d A_69d n69d c69d s69x A_69x n69x c69x s69y A_69y n69y c69y s69z A_69z n69z c69z), .int .i64 0]), lo69, hi69)) (by rfl)))
    replace hS := hS.addI (show RI w7 (iv s69y A_69y n69y c69y) z68b from RP.rt5 (hK.at_ 8 (e := ((.tuple #[(pv s69a A_69a n69a c69a s69b A_69b n69b c69b s69d A_69d n69d c69d s69x A_69x n69x c69x s69y A_69y n69y c69y s69z A_69z n69z c69z), .int .i64 0]), lo69, hi69)) (by rfl)))
    replace hS := hS.addI (show RI w7 (iv s69z A_69z n69z c69z) z68d from RP.rt6 (hK.at_ 8 (e := ((.tuple #[(pv s69a A_69a n69a c69a s69b A_69b n69b c69b s69d A_69d n69d c69d s69x A_69x n69x c69x s69y A_69y n69y c69y s69z A_69z n69z c69z), .int .i64 0]), lo69, hi69)) (by rfl)))
    clear hK hlt_ hE_ Y8 Y7
    have k_8 := (hS.blk 4 rfl).cell
    have k_9 := (hS.blk 4 rfl).frozen
    go_wp2
    replace hS := (St.put (W' := ((((((((((((w7.setCell ⟨g4, 0, none⟩ (.bool s69a)).setCell ⟨g4, 1, none⟩ (.slice A_69a n69a c69a)).setCell ⟨g4, 2, none⟩ (.bool s69b)).setCell ⟨g4, 3, none⟩ (.slice A_69b n69b c69b)).setCell ⟨g4, 4, none⟩ (.bool s69d)).setCell ⟨g4, 5, none⟩ (.slice A_69d n69d c69d)).setCell ⟨g4, 6, none⟩ (.bool s69x)).setCell ⟨g4, 7, none⟩ (.slice A_69x n69x c69x)).setCell ⟨g4, 8, none⟩ (.bool s69y)).setCell ⟨g4, 9, none⟩ (.slice A_69y n69y c69y)).setCell ⟨g4, 10, none⟩ (.bool s69z)).setCell ⟨g4, 11, none⟩ (.slice A_69z n69z c69z))) hS 4 0 [.bool s69a, .slice A_69a n69a c69a, .bool s69b, .slice A_69b n69b c69b, .bool s69d, .slice A_69d n69d c69d, .bool s69x, .slice A_69x n69x c69x, .bool s69y, .slice A_69y n69y c69y, .bool s69z, .slice A_69z n69z c69z] (cs' := #[.bool s69a, .slice A_69a n69a c69a, .bool s69b, .slice A_69b n69b c69b, .bool s69d, .slice A_69d n69d c69d, .bool s69x, .slice A_69x n69x c69x, .bool s69y, .slice A_69y n69y c69y, .bool s69z, .slice A_69z n69z c69z]) (bs' := _) rfl o4 rfl rfl (by kernel_rfl) rfl)
    exact bp_phasor2 rfl rfl rfl (hS.blk 4 rfl) ⟨_, rfl, ⟨_, rfl, ⟨_, _, _, _, _, _, RP.mk (hS.num 5 rfl) (hS.num 4 rfl) (hS.num 3 rfl) (hS.num 2 rfl) (hS.num 1 rfl) (hS.num 0 rfl), I64, S64, I68, S68⟩⟩, hS.ext⟩

end Go.Proofs.YtclkkoiaaddllaaGreat

/- The program over numbers: phasors, making numbers. -/
namespace Go.Proofs.YtclkkoiaaddllaaGreat
open Go.RowKit
set_option linter.unusedVariables false

theorem zp3r : ∀ r : Nat, PQ.zp (3 * r) = ⟨GQ.ip r, GQ.i 0 0⟩
  | 0 => rfl
  | r + 1 => by
    rw [Nat.mul_add, PQ.zp_add, zp3r r, PQ.zp3]
    ext <;> simp only [PQ.mul_u, PQ.mul_v, PQ.mk4, GQ.ip, GQ.mul_re, GQ.mul_im, GQ.add_re, GQ.add_im, GQ.i_re, GQ.i_im] <;> grind
theorem turn0 (p : PQ) (r : Nat) : (⟨p.u * GQ.ip r, p.v * GQ.ip r⟩ : PQ) = p * PQ.zp (3 * r + 0) := by
  rw [Nat.add_zero, zp3r]
  ext <;> simp only [PQ.mul_u, PQ.mul_v, GQ.mul_re, GQ.mul_im, GQ.add_re, GQ.add_im, GQ.i_re, GQ.i_im] <;> grind
theorem turn1 (p : PQ) (r : Nat) : (⟨GQ.blend 1 (p.u * GQ.ip 1) 3 p.v 2 * GQ.ip r, GQ.blend 1 p.u 1 (p.v * GQ.ip 1) 2 * GQ.ip r⟩ : PQ) = p * PQ.zp (3 * r + 1) := by
  rw [PQ.zp_add, zp3r, PQ.zp1]
  ext <;> simp only [GQ.blend, GQ.ip, PQ.mk4, PQ.mul_u, PQ.mul_v, GQ.mul_re, GQ.mul_im, GQ.add_re, GQ.add_im, GQ.i_re, GQ.i_im] <;> grind
theorem turn2 (p : PQ) (r : Nat) : (⟨GQ.blend 1 p.u 3 (p.v * GQ.ip 1) 2 * GQ.ip r, GQ.blend 1 (p.u * GQ.ip 1) 1 p.v 2 * GQ.ip r⟩ : PQ) = p * PQ.zp (3 * r + 2) := by
  rw [PQ.zp_add, zp3r, PQ.zp2]
  ext <;> simp only [GQ.blend, GQ.ip, PQ.mk4, PQ.mul_u, PQ.mul_v, GQ.mul_re, GQ.mul_im, GQ.add_re, GQ.add_im, GQ.i_re, GQ.i_im] <;> grind
theorem PV.mono {w : World} {v : Value} {p : PQ} {m n : Nat} (h : PV w v p m) (hmn : m ≤ n) : PV w v p n := by
  obtain ⟨a, b, d, x, y, z, h1, h2, h3, h4, h5⟩ := h
  exact ⟨a, b, d, x, y, z, h1, h2, h3.mono hmn, h4, h5.mono hmn⟩
theorem xTurn_ok (v0 : Value) (q0 : PQ) (n0 : Nat) (m1 : Int) (K : Nat) (w : World) (hX : PV w v0 q0 n0) (l1 : -9223372036854775808 ≤ m1) (u1 : m1 ≤ 9223372036854775807) (HK : m1 % 12 = (K : Int)) (hn : 2 * (n0 + n0) + 65 ≤ 12800) :
    Calls Tryz.prog 54 #[v0, .int .i64 m1] w fun e w' => ∃ v, e = .returned v ∧ (∃ u, v = .tuple #[u, .int .i64 0] ∧ PV w' u (q0 * PQ.zp K) (n0 + n0 + 65)) ∧ Ext w w' := by
  have hK : K < 12 := by omega
  obtain ⟨r, hr⟩ : ∃ r, r = K / 3 := ⟨_, rfl⟩
  have h3 : K % 3 = 0 ∨ K % 3 = 1 ∨ K % 3 = 2 := by omega
  rcases h3 with h | h | h
  · have e : K = 3 * r + 0 := by omega
    have := xTurn_0 v0 q0 n0 m1 K r w hX l1 u1 (Lib.hid HK) (Lib.hid e) (by omega) hn
    rw [turn0, ← e] at this
    exact this.mono fun e w' ⟨v, he, ⟨u, hu, hp⟩, hx⟩ => ⟨v, he, ⟨u, hu, hp.mono (by omega)⟩, hx⟩
  · have e : K = 3 * r + 1 := by omega
    have := xTurn_1 v0 q0 n0 m1 K r w hX l1 u1 (Lib.hid HK) (Lib.hid e) (by omega) hn
    rw [turn1, ← e] at this
    exact this
  · have e : K = 3 * r + 2 := by omega
    have := xTurn_2 v0 q0 n0 m1 K r w hX l1 u1 (Lib.hid HK) (Lib.hid e) (by omega) hn
    rw [turn2, ← e] at this
    exact this

set_option maxRecDepth 100000 in
set_option maxHeartbeats 3200000 in
theorem eOf_w (m0 : Int) (m1 : Int) (m2 : Int) (w : World) (l0 : -9223372036854775808 ≤ m0) (u0 : m0 ≤ 9223372036854775807) (l1 : -9223372036854775808 ≤ m1) (u1 : m1 ≤ 9223372036854775807) (l2 : -9223372036854775808 ≤ m2) (u2 : m2 ≤ 9223372036854775807) (H0 : (m2 == 0) = false)
    (N18 : Hid ((m2) ≠ 0))
    (z18a z18b z18d : Int) (E18 : Hid ((z18a, z18b, z18d) = nf (m0) (m1) (m2))) (A18a : z18a.natAbs < lim) (A18b : z18b.natAbs < lim) (A18d : z18d.natAbs < lim)  :
    Calls Tryz.prog 37 #[.int .i64 m0, .int .i64 m1, .int .i64 m2] w fun e w' => ∃ v, e = .returned v ∧ (∃ u, v = .tuple #[u, .int .i64 0] ∧ RG w' u z18a z18b z18d) ∧ Ext w w' := by
  have hS := St.start w
  have o6 : Own w w.heap.size := Own.of hS.ext (by simp)
  have o8 : Own w (w.heap.size + 1) := Own.of hS.ext (by simp)
  go_enter Tryz.func37, Tryz.ntmps37
  go_wp2_with fail
  replace hS := (St.al (St.al hS 32 #[.bool false, .slice none 0 0, .bool false, .slice none 0 0, .bool false, .slice none 0 0] (g := w.heap.size) (by simp)) 105 #[.int .i64 0] (g := (w.heap.size + 1)) (by simp))
  generalize ((w.alloc (.cells #[.bool false, .slice none 0 0, .bool false, .slice none 0 0, .bool false, .slice none 0 0] 32)).alloc (.cells #[.int .i64 0] 105)) = w1 at hS ⊢
  generalize w.heap.size + 1 = g8 at hS o8 ⊢
  generalize w.heap.size = g6 at hS o6 ⊢
  refine (Of_any (m0) _ l0 u0).mono ?_
  rintro e w2 ⟨v_, rfl, hv_, hx_⟩
  replace hS := hS.mv hx_
  clear hx_
  obtain ⟨s13, A_13, n13, c13, rfl, f_s13⟩ := RI.opn hv_
  clear hv_
  replace hS := hS.addI f_s13
  clear f_s13
  go_wp2_with fail
  refine (Of_any (m1) _ l1 u1).mono ?_
  rintro e w3 ⟨v_, rfl, hv_, hx_⟩
  replace hS := hS.mv hx_
  clear hx_
  obtain ⟨s15, A_15, n15, c15, rfl, f_s15⟩ := RI.opn hv_
  clear hv_
  replace hS := hS.addI f_s15
  clear f_s15
  go_wp2_with fail
  refine (Of_any (m2) _ l2 u2).mono ?_
  rintro e w4 ⟨v_, rfl, hv_, hx_⟩
  replace hS := hS.mv hx_
  clear hx_
  obtain ⟨s17, A_17, n17, c17, rfl, f_s17⟩ := RI.opn hv_
  clear hv_
  replace hS := hS.addI f_s17
  clear f_s17
  go_wp2_with fail
  refine (ereduce_ok g8 _ _ _ (m0) (m1) (m2) z18a z18b z18d _ (hS.blk 0 rfl) (hS.num 2 rfl) (hS.num 1 rfl) (hS.num 0 rfl) (lt_lim64 l0 u0) (lt_lim64 l1 u1) (lt_lim64 l2 u2) N18.out E18.out).mono ?_
  rintro e w5 ⟨v_, rfl, hv_, hx_⟩
  replace hS := hS.mv hx_
  clear hx_
  obtain ⟨s18a, A_18a, n18a, c18a, s18b, A_18b, n18b, c18b, s18d, A_18d, n18d, c18d, rfl, f_s18a, f_s18b, f_s18d⟩ := hv_
  replace hS := hS.addI f_s18a
  clear f_s18a
  replace hS := hS.addI f_s18b
  clear f_s18b
  replace hS := hS.addI f_s18d
  clear f_s18d
  go_wp2_with fail
  refine (enumber_w g8 _ z18a z18b z18d _ (hS.blk 0 rfl) (RG.mk (hS.num 2 rfl) (hS.num 1 rfl) (hS.num 0 rfl))).mono ?_
  rintro e w6 ⟨v_, rfl, hv_, hx_⟩
  replace hS := hS.mv hx_
  clear hx_
  obtain ⟨_, rfl, s19a, A_19a, n19a, c19a, s19b, A_19b, n19b, c19b, s19d, A_19d, n19d, c19d, rfl, f_s19a, f_s19b, f_s19d⟩ := hv_
  replace hS := hS.addI f_s19a
  clear f_s19a
  replace hS := hS.addI f_s19b
  clear f_s19b
  replace hS := hS.addI f_s19d
  clear f_s19d
  have k_1 := (hS.blk 1 rfl).cell
  have k_2 := (hS.blk 1 rfl).frozen
  go_wp2
  replace hS := (St.put (W' := ((((((w6.setCell ⟨g6, 0, none⟩ (.bool s19a)).setCell ⟨g6, 1, none⟩ (.slice A_19a n19a c19a)).setCell ⟨g6, 2, none⟩ (.bool s19b)).setCell ⟨g6, 3, none⟩ (.slice A_19b n19b c19b)).setCell ⟨g6, 4, none⟩ (.bool s19d)).setCell ⟨g6, 5, none⟩ (.slice A_19d n19d c19d))) hS 1 0 [.bool s19a, .slice A_19a n19a c19a, .bool s19b, .slice A_19b n19b c19b, .bool s19d, .slice A_19d n19d c19d] (cs' := #[.bool s19a, .slice A_19a n19a c19a, .bool s19b, .slice A_19b n19b c19b, .bool s19d, .slice A_19d n19d c19d]) (bs' := _) rfl o6 rfl rfl (by kernel_rfl) rfl)
  exact bp_gauss2 rfl rfl rfl (hS.blk 1 rfl) ⟨_, rfl, ⟨_, rfl, RG.mk (hS.num 2 rfl) (hS.num 1 rfl) (hS.num 0 rfl)⟩, hS.ext⟩

theorem add_blend (x y : GQ) : GQ.blend 1 x 1 y 1 = x + y := by
  ext <;> simp only [GQ.blend, GQ.add_re, GQ.add_im] <;> grind
theorem sub_blend (x y : GQ) : GQ.blend 1 x (-1) y 1 = x - y := by
  ext <;> simp only [GQ.blend, GQ.sub_re, GQ.sub_im] <;> grind
theorem eOf_q (re im den : Int) (w : World) (l0 : -9223372036854775808 ≤ re) (u0 : re ≤ 9223372036854775807) (l1 : -9223372036854775808 ≤ im) (u1 : im ≤ 9223372036854775807) (l2 : -9223372036854775808 ≤ den) (u2 : den ≤ 9223372036854775807) (hd : den ≠ 0) :
    Calls Tryz.prog 37 #[.int .i64 re, .int .i64 im, .int .i64 den] w fun e w' => ∃ v, e = .returned v ∧ (∃ u, v = .tuple #[u, .int .i64 0] ∧ GV w' u ⟨(re : Rat) / (den : Rat), (im : Rat) / (den : Rat)⟩ 64) ∧ Ext w w' := by
  obtain ⟨a, b, d, E⟩ := nf_ex re im den
  have I := is_nf (a := re) (b := im) (d := den) hd
  rw [← E] at I
  have sz := nf_size' (n := 64) hd E (lt64 l0 u0) (lt64 l1 u1) (lt64 l2 u2)
  obtain ⟨s1, s2, s3⟩ := sz.lims (by omega)
  exact (eOf_w re im den w l0 u0 l1 u1 l2 u2 (by simpa using hd) (Lib.hid hd) a b d (Lib.hid E) s1 s2 s3).mono fun e w' ⟨v, he, ⟨u, hu, hR⟩, hx⟩ => ⟨v, he, ⟨u, hu, a, b, d, hR, I, sz⟩, hx⟩
end Go.Proofs.YtclkkoiaaddllaaGreat
