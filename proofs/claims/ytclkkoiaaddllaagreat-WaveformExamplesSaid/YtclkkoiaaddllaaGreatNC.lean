/- Words and contracts that the laws share, several texts in one. -/
import Derived.Test.YtclkkoiaaddllaaGreatNB
/- Contracts of the calculator: products. -/
namespace Go.Proofs.YtclkkoiaaddllaaGreat
open Go.RowKit
set_option linter.unusedVariables false

set_option maxRecDepth 100000 in
set_option maxHeartbeats 8000000 in
theorem eproduct_w (gc : Nat) (v1 : Value) (x1a x1b x1d : Int) (v2 : Value) (x2a x2b x2d : Int) (w : World) (hc : Calm w gc) (hX1 : RG w v1 x1a x1b x1d) (ax1a : x1a.natAbs < lim) (ax1b : x1b.natAbs < lim) (ax1d : x1d.natAbs < lim) (hX2 : RG w v2 x2a x2b x2d) (ax2a : x2a.natAbs < lim) (ax2b : x2b.natAbs < lim) (ax2d : x2d.natAbs < lim)
    (z24 : Int) (E24 : Hid (z24 = (gcdL [x2d, x1a, x1b] : Nat))) (A24 : z24.natAbs < lim)
    (z33 : Int) (E33 : Hid (z33 = (gcdL [x1d, x2a, x2b] : Nat))) (A33 : z33.natAbs < lim)
    (z38 : Int) (E38 : Hid (z38 = x1a / z24)) (A38 : z38.natAbs < lim)
    (N38 : Hid (z24 ≠ 0))
    (ND38 : Hid (z24 ∣ x1a))
    (z43 : Int) (E43 : Hid (z43 = x1b / z24)) (A43 : z43.natAbs < lim)
    (N43 : Hid (z24 ≠ 0))
    (ND43 : Hid (z24 ∣ x1b))
    (z48 : Int) (E48 : Hid (z48 = x2a / z33)) (A48 : z48.natAbs < lim)
    (N48 : Hid (z33 ≠ 0))
    (ND48 : Hid (z33 ∣ x2a))
    (z53 : Int) (E53 : Hid (z53 = x2b / z33)) (A53 : z53.natAbs < lim)
    (N53 : Hid (z33 ≠ 0))
    (ND53 : Hid (z33 ∣ x2b))
    (z58 : Int) (E58 : Hid (z58 = z38 * z48)) (A58 : z58.natAbs < lim)
    (z62 : Int) (E62 : Hid (z62 = z43 * z53)) (A62 : z62.natAbs < lim)
    (z63 : Int) (E63 : Hid (z63 = z58 - z62)) (A63 : z63.natAbs < lim)
    (z68 : Int) (E68 : Hid (z68 = z38 * z53)) (A68 : z68.natAbs < lim)
    (z72 : Int) (E72 : Hid (z72 = z43 * z48)) (A72 : z72.natAbs < lim)
    (z73 : Int) (E73 : Hid (z73 = z68 + z72)) (A73 : z73.natAbs < lim)
    (z79 : Int) (E79 : Hid (z79 = x1d / z33)) (A79 : z79.natAbs < lim)
    (N79 : Hid (z33 ≠ 0))
    (ND79 : Hid (z33 ∣ x1d))
    (z84 : Int) (E84 : Hid (z84 = x2d / z24)) (A84 : z84.natAbs < lim)
    (N84 : Hid (z24 ≠ 0))
    (ND84 : Hid (z24 ∣ x2d))
    (z85 : Int) (E85 : Hid (z85 = z79 * z84)) (A85 : z85.natAbs < lim)
    (N96 : Hid (z85 ≠ 0))
    (z96a z96b z96d : Int) (E96 : Hid ((z96a, z96b, z96d) = nf z63 z73 z85)) (A96a : z96a.natAbs < lim) (A96b : z96b.natAbs < lim) (A96d : z96d.natAbs < lim)  :
    Calls Tryz.prog 107 #[.pointer (some ⟨gc, 0, none⟩), v1, v2] w fun e w' => ∃ v, e = .returned v ∧ RG w' v z96a z96b z96d ∧ Ext w w' := by
  have hS := St.start w
  obtain ⟨sx1a, Ax1a, nx1a, cx1a, sx1b, Ax1b, nx1b, cx1b, sx1d, Ax1d, nx1d, cx1d, rfl, hx1a, hx1b, hx1d⟩ := hX1
  replace hS := hS.addI hx1a
  clear hx1a
  replace hS := hS.addI hx1b
  clear hx1b
  replace hS := hS.addI hx1d
  clear hx1d
  obtain ⟨sx2a, Ax2a, nx2a, cx2a, sx2b, Ax2b, nx2b, cx2b, sx2d, Ax2d, nx2d, cx2d, rfl, hx2a, hx2b, hx2d⟩ := hX2
  replace hS := hS.addI hx2a
  clear hx2a
  replace hS := hS.addI hx2b
  clear hx2b
  replace hS := hS.addI hx2d
  clear hx2d
  replace hS := hS.addB hc trivial
  clear hc
  have o4 : Own w w.heap.size := Own.of hS.ext (by simp)
  have o5 : Own w (w.heap.size + 1) := Own.of hS.ext (by simp)
  have o6 : Own w (w.heap.size + 2) := Own.of hS.ext (by simp)
  go_enter Tryz.func107, Tryz.ntmps107
  go_wp2_with fail
  replace hS := (St.al (St.al (St.al hS 32 #[.bool sx1a, .slice Ax1a nx1a cx1a, .bool sx1b, .slice Ax1b nx1b cx1b, .bool sx1d, .slice Ax1d nx1d cx1d] (g := w.heap.size) (by simp)) 32 #[.bool sx2a, .slice Ax2a nx2a cx2a, .bool sx2b, .slice Ax2b nx2b cx2b, .bool sx2d, .slice Ax2d nx2d cx2d] (g := (w.heap.size + 1)) (by simp)) 32 #[.bool false, .slice none 0 0, .bool false, .slice none 0 0, .bool false, .slice none 0 0] (g := (w.heap.size + 2)) (by simp))
  generalize (((w.alloc (.cells #[.bool sx1a, .slice Ax1a nx1a cx1a, .bool sx1b, .slice Ax1b nx1b cx1b, .bool sx1d, .slice Ax1d nx1d cx1d] 32)).alloc (.cells #[.bool sx2a, .slice Ax2a nx2a cx2a, .bool sx2b, .slice Ax2b nx2b cx2b, .bool sx2d, .slice Ax2d nx2d cx2d] 32)).alloc (.cells #[.bool false, .slice none 0 0, .bool false, .slice none 0 0, .bool false, .slice none 0 0] 32)) = w1 at hS ⊢
  generalize w.heap.size + 2 = g6 at hS o6 ⊢
  generalize w.heap.size + 1 = g5 at hS o5 ⊢
  generalize w.heap.size = g4 at hS o4 ⊢
  have Y5 := ExtOf.blk (hS.blk 1 rfl)
  have Y4 := ExtOf.blk (hS.blk 2 rfl)
  have hE_ := hS.ext
  refine wp_region_tame 20 (hasF [(7, .any), (8, .any), (16, .any), (17, .any), (18, .any), (19, .any)]) (Fcs [(7, .sl 30 3 #[.bool sx2d, .slice Ax2d nx2d cx2d, .bool sx1a, .slice Ax1a nx1a cx1a, .bool sx1b, .slice Ax1b nx1b cx1b]), (8, .ri (z24)), (16, .sl 30 3 #[.bool sx1d, .slice Ax1d nx1d cx1d, .bool sx2a, .slice Ax2a nx2a cx2a, .bool sx2b, .slice Ax2b nx2b cx2b]), (17, .ri (z33)), (18, .box 30 #[.bool false, .slice none 0 0]), (19, .box 30 #[.bool false, .slice none 0 0])]) (Fcs_stab _) (by kernel_rfl) (by kernel_rfl) ?_
  simp only [List.take_succ_cons, List.take_zero, List.drop_succ_cons, List.drop_zero]
  refine wpT_quiet 7 (by rfl) (by kernel_rfl) ?_
  simp only [List.take_succ_cons, List.take_zero, List.drop_succ_cons, List.drop_zero]
  repeat (go_big_quiet_step (fail))
  refine wpQuiet_nil ?_
  refine wpT_eff (by rfl) (by rfl) (by rfl) ?_ ?_
  · intro W_ hK
    go_simp
    exact ⟨Ext.new _ _, rfl, by simp, Blk.new _ _ _⟩
  intro v_ g23 hi23 hr_
  obtain ⟨W_, hW_⟩ := hr_
  obtain ⟨rfl, hl23, -⟩ : Fc.holds (.sl 30 3 #[.bool sx2d, .slice Ax2d nx2d cx2d, .bool sx1a, .slice Ax1a nx1a cx1a, .bool sx1b, .slice Ax1b nx1b cx1b]) g23 hi23 v_ W_ := hW_.get
  clear hW_ W_
  try simp only [Act.put, List.setIfInBounds_toArray, List.set_cons_succ, List.set_cons_zero]
  refine wpT_eff (by rfl) (by rfl) (by rfl) ?_ ?_
  · intro W_ hK
    have hW := hK.1
    have F_b23 : Blk W_ g23 30 #[.bool sx2d, .slice Ax2d nx2d cx2d, .bool sx1a, .slice Ax1a nx1a cx1a, .bool sx1b, .slice Ax1b nx1b cx1b] := (hK.2 7 _ (by rfl) (by kernel_rfl)).2.2
    clear hK
    go_simp
    exact ⟨rfl, (egcd3_ok gc g23 x2d x1a x1b z24 _ (Blk.ext (hS.blk 3 rfl) hW) F_b23 (RI.ext (hS.num 0 rfl) hW) (RI.ext (hS.num 5 rfl) hW) (RI.ext (hS.num 4 rfl) hW) ax2d ax1a ax1b E24).mono fun e w' ⟨v, he, hR, hx⟩ => ⟨v, he, hx, hR⟩⟩
  intro v_ lo24 hi24 hr_
  obtain ⟨W_, hW_⟩ := hr_
  have hv_ : Fc.holds (.ri (z24)) lo24 hi24 v_ W_ := hW_.get
  clear hW_
  obtain ⟨s24, A_24, n24, c24, rfl, -⟩ := RI.opn hv_
  clear hv_
  clear W_
  try simp only [Act.put, List.setIfInBounds_toArray, List.set_cons_succ, List.set_cons_zero]
  refine wpT_quiet 7 (by rfl) (by kernel_rfl) ?_
  simp only [List.take_succ_cons, List.take_zero, List.drop_succ_cons, List.drop_zero]
  repeat (go_big_quiet_step (fail))
  refine wpQuiet_nil ?_
  refine wpT_eff (by rfl) (by rfl) (by rfl) ?_ ?_
  · intro W_ hK
    go_simp
    exact ⟨Ext.new _ _, rfl, by simp, Blk.new _ _ _⟩
  intro v_ g32 hi32 hr_
  obtain ⟨W_, hW_⟩ := hr_
  obtain ⟨rfl, hl32, -⟩ : Fc.holds (.sl 30 3 #[.bool sx1d, .slice Ax1d nx1d cx1d, .bool sx2a, .slice Ax2a nx2a cx2a, .bool sx2b, .slice Ax2b nx2b cx2b]) g32 hi32 v_ W_ := hW_.get
  clear hW_ W_
  try simp only [Act.put, List.setIfInBounds_toArray, List.set_cons_succ, List.set_cons_zero]
  refine wpT_eff (by rfl) (by rfl) (by rfl) ?_ ?_
  · intro W_ hK
    have hW := hK.1
    have F_b32 : Blk W_ g32 30 #[.bool sx1d, .slice Ax1d nx1d cx1d, .bool sx2a, .slice Ax2a nx2a cx2a, .bool sx2b, .slice Ax2b nx2b cx2b] := (hK.2 16 _ (by rfl) (by kernel_rfl)).2.2
    clear hK
    go_simp
    exact ⟨rfl, (egcd3_ok gc g32 x1d x2a x2b z33 _ (Blk.ext (hS.blk 3 rfl) hW) F_b32 (RI.ext (hS.num 3 rfl) hW) (RI.ext (hS.num 2 rfl) hW) (RI.ext (hS.num 1 rfl) hW) ax1d ax2a ax2b E33).mono fun e w' ⟨v, he, hR, hx⟩ => ⟨v, he, hx, hR⟩⟩
  intro v_ lo33 hi33 hr_
  obtain ⟨W_, hW_⟩ := hr_
  have hv_ : Fc.holds (.ri (z33)) lo33 hi33 v_ W_ := hW_.get
  clear hW_
  obtain ⟨s33, A_33, n33, c33, rfl, -⟩ := RI.opn hv_
  clear hv_
  clear W_
  try simp only [Act.put, List.setIfInBounds_toArray, List.set_cons_succ, List.set_cons_zero]
  refine wpT_eff (by rfl) (by rfl) (by rfl) ?_ ?_
  · intro W_ hK
    go_simp
    exact ⟨Ext.new _ _, rfl, by simp, Blk.new _ _ _⟩
  intro v_ g7 hi7 hr_
  obtain ⟨W_, hW_⟩ := hr_
  obtain ⟨rfl, hl7, -⟩ : Fc.holds (.box 30 #[.bool false, .slice none 0 0]) g7 hi7 v_ W_ := hW_.get
  clear hW_ W_
  try simp only [Act.put, List.setIfInBounds_toArray, List.set_cons_succ, List.set_cons_zero]
  refine wpT_eff (by rfl) (by rfl) (by rfl) ?_ ?_
  · intro W_ hK
    go_simp
    exact ⟨Ext.new _ _, rfl, by simp, Blk.new _ _ _⟩
  intro v_ g8 hi8 hr_
  obtain ⟨W_, hW_⟩ := hr_
  obtain ⟨rfl, hl8, -⟩ : Fc.holds (.box 30 #[.bool false, .slice none 0 0]) g8 hi8 v_ W_ := hW_.get
  clear hW_ W_
  try simp only [Act.put, List.setIfInBounds_toArray, List.set_cons_succ, List.set_cons_zero]
  refine wpT_nil ?_
  intro w2 hK
  have hlt_ := hS.lt
  replace hS := hS.mv hK.ext
  replace hS := hS.addI (show RI w2 (iv s24 A_24 n24 c24) z24 from hK.at_ 8 (e := ((iv s24 A_24 n24 c24), lo24, hi24)) (by rfl))
  replace hS := hS.addI (show RI w2 (iv s33 A_33 n33 c33) z33 from hK.at_ 17 (e := ((iv s33 A_33 n33 c33), lo33, hi33)) (by rfl))
  have lw23 : w1.heap.size ≤ g23 := hK.low 7 _ (by rfl)
  have o23 : Own w g23 := Own.of hE_ lw23
  replace hS := hS.addB (show Blk w2 g23 30 #[.bool sx2d, .slice Ax2d nx2d cx2d, .bool sx1a, .slice Ax1a nx1a cx1a, .bool sx1b, .slice Ax1b nx1b cx1b] from (hK.at_ 7 (by rfl)).2.2) (apart_of fun p hp => Nat.ne_of_lt (Nat.lt_of_lt_of_le (hlt_ p hp) lw23))
  have lw32 : w1.heap.size ≤ g32 := hK.low 16 _ (by rfl)
  have o32 : Own w g32 := Own.of hE_ lw32
  replace hS := hS.addB (show Blk w2 g32 30 #[.bool sx1d, .slice Ax1d nx1d cx1d, .bool sx2a, .slice Ax2a nx2a cx2a, .bool sx2b, .slice Ax2b nx2b cx2b] from (hK.at_ 16 (by rfl)).2.2) ⟨tame_ne hl23 hl32 (hK.disj 7 16 _ _ (by omega) (by rfl) (by rfl)), (apart_of fun p hp => Nat.ne_of_lt (Nat.lt_of_lt_of_le (hlt_ p hp) lw32))⟩
  have lw7 : w1.heap.size ≤ g7 := hK.low 18 _ (by rfl)
  have o7 : Own w g7 := Own.of hE_ lw7
  replace hS := hS.addB (show Blk w2 g7 30 #[.bool false, .slice none 0 0] from (hK.at_ 18 (by rfl)).2.2) ⟨tame_ne hl32 hl7 (hK.disj 16 18 _ _ (by omega) (by rfl) (by rfl)), ⟨tame_ne hl23 hl7 (hK.disj 7 18 _ _ (by omega) (by rfl) (by rfl)), (apart_of fun p hp => Nat.ne_of_lt (Nat.lt_of_lt_of_le (hlt_ p hp) lw7))⟩⟩
  have lw8 : w1.heap.size ≤ g8 := hK.low 19 _ (by rfl)
  have o8 : Own w g8 := Own.of hE_ lw8
  replace hS := hS.addB (show Blk w2 g8 30 #[.bool false, .slice none 0 0] from (hK.at_ 19 (by rfl)).2.2) ⟨tame_ne hl7 hl8 (hK.disj 18 19 _ _ (by omega) (by rfl) (by rfl)), ⟨tame_ne hl32 hl8 (hK.disj 16 19 _ _ (by omega) (by rfl) (by rfl)), ⟨tame_ne hl23 hl8 (hK.disj 7 19 _ _ (by omega) (by rfl) (by rfl)), (apart_of fun p hp => Nat.ne_of_lt (Nat.lt_of_lt_of_le (hlt_ p hp) lw8))⟩⟩⟩
  clear hK hlt_ hE_ Y5 Y4
  clear lw23 hl23 hi23
  clear lw32 hl32 hi32
  clear lw7 hl7 hi7
  clear lw8 hl8 hi8
  have k_1 := (hS.blk 1 rfl).cell
  have k_2 := (hS.blk 1 rfl).frozen
  have hT1 := (St.put (W' := ((w2.setCell ⟨g7, 0, none⟩ (.bool s24)).setCell ⟨g7, 1, none⟩ (.slice A_24 n24 c24))) hS 1 0 [.bool s24, .slice A_24 n24 c24] (cs' := #[.bool s24, .slice A_24 n24 c24]) (bs' := _) rfl o7 rfl rfl rfl rfl)
  have k_3 := (hT1.blk 0 rfl).cell
  have k_4 := (hT1.blk 0 rfl).frozen
  go_wp2_with fail
  clear k_1 k_2 k_3 k_4
  clear hT1
  replace hS := (St.put (W' := ((((w2.setCell ⟨g7, 0, none⟩ (.bool s24)).setCell ⟨g7, 1, none⟩ (.slice A_24 n24 c24)).setCell ⟨g8, 0, none⟩ (.bool s33)).setCell ⟨g8, 1, none⟩ (.slice A_33 n33 c33))) (St.put (W' := ((w2.setCell ⟨g7, 0, none⟩ (.bool s24)).setCell ⟨g7, 1, none⟩ (.slice A_24 n24 c24))) hS 1 0 [.bool s24, .slice A_24 n24 c24] (cs' := #[.bool s24, .slice A_24 n24 c24]) (bs' := _) rfl o7 rfl rfl rfl rfl) 0 0 [.bool s33, .slice A_33 n33 c33] (cs' := #[.bool s33, .slice A_33 n33 c33]) (bs' := _) rfl o8 rfl rfl rfl rfl)
  simp only [List.set_cons_zero, List.set_cons_succ] at hS
  generalize ((((w2.setCell ⟨g7, 0, none⟩ (.bool s24)).setCell ⟨g7, 1, none⟩ (.slice A_24 n24 c24)).setCell ⟨g8, 0, none⟩ (.bool s33)).setCell ⟨g8, 1, none⟩ (.slice A_33 n33 c33)) = w3 at hS ⊢
  have Y7 := ExtOf.blk (hS.blk 1 rfl)
  have Y4 := ExtOf.blk (hS.blk 6 rfl)
  have hE_ := hS.ext
  refine wp_region_tame 12 (hasF [(4, .any), (9, .any), (10, .any), (11, .any)]) (Fcs [(4, .ri (z38)), (9, .ri (z43)), (10, .box 30 #[.bool false, .slice none 0 0]), (11, .box 30 #[.bool false, .slice none 0 0])]) (Fcs_stab _) (by kernel_rfl) (by kernel_rfl) ?_
  simp only [List.take_succ_cons, List.take_zero, List.drop_succ_cons, List.drop_zero]
  refine wpT_quiet 4 (by rfl) (by kernel_rfl) ?_
  simp only [List.take_succ_cons, List.take_zero, List.drop_succ_cons, List.drop_zero]
  repeat (go_big_quiet_step (fail))
  refine wpQuiet_nil ?_
  refine wpT_eff (by rfl) (by rfl) (by rfl) ?_ ?_
  · intro W_ hK
    have hW := hK.1
    clear hK
    go_simp
    exact ⟨rfl, (ediv_ok gc _ _ x1a z24 z38 _ (Blk.ext (hS.blk 7 rfl) hW) (RI.ext (hS.num 7 rfl) hW) (RI.ext (hS.num 1 rfl) hW) ax1a A24 N38.out ND38.out E38.out).mono fun e w' ⟨v, he, hR, hx⟩ => ⟨v, he, hx, hR⟩⟩
  intro v_ lo38 hi38 hr_
  obtain ⟨W_, hW_⟩ := hr_
  have hv_ : Fc.holds (.ri (z38)) lo38 hi38 v_ W_ := hW_.get
  clear hW_
  obtain ⟨s38, A_38, n38, c38, rfl, -⟩ := RI.opn hv_
  clear hv_
  clear W_
  try simp only [Act.put, List.setIfInBounds_toArray, List.set_cons_succ, List.set_cons_zero]
  refine wpT_quiet 4 (by rfl) (by kernel_rfl) ?_
  simp only [List.take_succ_cons, List.take_zero, List.drop_succ_cons, List.drop_zero]
  repeat (go_big_quiet_step (fail))
  refine wpQuiet_nil ?_
  refine wpT_eff (by rfl) (by rfl) (by rfl) ?_ ?_
  · intro W_ hK
    have hW := hK.1
    clear hK
    go_simp
    exact ⟨rfl, (ediv_ok gc _ _ x1b z24 z43 _ (Blk.ext (hS.blk 7 rfl) hW) (RI.ext (hS.num 6 rfl) hW) (RI.ext (hS.num 1 rfl) hW) ax1b A24 N43.out ND43.out E43.out).mono fun e w' ⟨v, he, hR, hx⟩ => ⟨v, he, hx, hR⟩⟩
  intro v_ lo43 hi43 hr_
  obtain ⟨W_, hW_⟩ := hr_
  have hv_ : Fc.holds (.ri (z43)) lo43 hi43 v_ W_ := hW_.get
  clear hW_
  obtain ⟨s43, A_43, n43, c43, rfl, -⟩ := RI.opn hv_
  clear hv_
  clear W_
  try simp only [Act.put, List.setIfInBounds_toArray, List.set_cons_succ, List.set_cons_zero]
  refine wpT_eff (by rfl) (by rfl) (by rfl) ?_ ?_
  · intro W_ hK
    go_simp
    exact ⟨Ext.new _ _, rfl, by simp, Blk.new _ _ _⟩
  intro v_ g9 hi9 hr_
  obtain ⟨W_, hW_⟩ := hr_
  obtain ⟨rfl, hl9, -⟩ : Fc.holds (.box 30 #[.bool false, .slice none 0 0]) g9 hi9 v_ W_ := hW_.get
  clear hW_ W_
  try simp only [Act.put, List.setIfInBounds_toArray, List.set_cons_succ, List.set_cons_zero]
  refine wpT_eff (by rfl) (by rfl) (by rfl) ?_ ?_
  · intro W_ hK
    go_simp
    exact ⟨Ext.new _ _, rfl, by simp, Blk.new _ _ _⟩
  intro v_ g10 hi10 hr_
  obtain ⟨W_, hW_⟩ := hr_
  obtain ⟨rfl, hl10, -⟩ : Fc.holds (.box 30 #[.bool false, .slice none 0 0]) g10 hi10 v_ W_ := hW_.get
  clear hW_ W_
  try simp only [Act.put, List.setIfInBounds_toArray, List.set_cons_succ, List.set_cons_zero]
  refine wpT_nil ?_
  intro w4 hK
  have hlt_ := hS.lt
  replace hS := hS.mv hK.ext
  replace hS := hS.addI (show RI w4 (iv s38 A_38 n38 c38) z38 from hK.at_ 4 (e := ((iv s38 A_38 n38 c38), lo38, hi38)) (by rfl))
  replace hS := hS.addI (show RI w4 (iv s43 A_43 n43 c43) z43 from hK.at_ 9 (e := ((iv s43 A_43 n43 c43), lo43, hi43)) (by rfl))
  have lw9 : w3.heap.size ≤ g9 := hK.low 10 _ (by rfl)
  have o9 : Own w g9 := Own.of hE_ lw9
  replace hS := hS.addB (show Blk w4 g9 30 #[.bool false, .slice none 0 0] from (hK.at_ 10 (by rfl)).2.2) (apart_of fun p hp => Nat.ne_of_lt (Nat.lt_of_lt_of_le (hlt_ p hp) lw9))
  have lw10 : w3.heap.size ≤ g10 := hK.low 11 _ (by rfl)
  have o10 : Own w g10 := Own.of hE_ lw10
  replace hS := hS.addB (show Blk w4 g10 30 #[.bool false, .slice none 0 0] from (hK.at_ 11 (by rfl)).2.2) ⟨tame_ne hl9 hl10 (hK.disj 10 11 _ _ (by omega) (by rfl) (by rfl)), (apart_of fun p hp => Nat.ne_of_lt (Nat.lt_of_lt_of_le (hlt_ p hp) lw10))⟩
  clear hK hlt_ hE_ Y7 Y4
  clear lw9 hl9 hi9
  clear lw10 hl10 hi10
  have k_5 := (hS.blk 1 rfl).cell
  have k_6 := (hS.blk 1 rfl).frozen
  have hT2 := (St.put (W' := ((w4.setCell ⟨g9, 0, none⟩ (.bool s38)).setCell ⟨g9, 1, none⟩ (.slice A_38 n38 c38))) hS 1 0 [.bool s38, .slice A_38 n38 c38] (cs' := #[.bool s38, .slice A_38 n38 c38]) (bs' := _) rfl o9 rfl rfl rfl rfl)
  have k_7 := (hT2.blk 0 rfl).cell
  have k_8 := (hT2.blk 0 rfl).frozen
  go_wp2_with fail
  clear k_5 k_6 k_7 k_8
  clear hT2
  replace hS := (St.put (W' := ((((w4.setCell ⟨g9, 0, none⟩ (.bool s38)).setCell ⟨g9, 1, none⟩ (.slice A_38 n38 c38)).setCell ⟨g10, 0, none⟩ (.bool s43)).setCell ⟨g10, 1, none⟩ (.slice A_43 n43 c43))) (St.put (W' := ((w4.setCell ⟨g9, 0, none⟩ (.bool s38)).setCell ⟨g9, 1, none⟩ (.slice A_38 n38 c38))) hS 1 0 [.bool s38, .slice A_38 n38 c38] (cs' := #[.bool s38, .slice A_38 n38 c38]) (bs' := _) rfl o9 rfl rfl rfl rfl) 0 0 [.bool s43, .slice A_43 n43 c43] (cs' := #[.bool s43, .slice A_43 n43 c43]) (bs' := _) rfl o10 rfl rfl rfl rfl)
  simp only [List.set_cons_zero, List.set_cons_succ] at hS
  generalize ((((w4.setCell ⟨g9, 0, none⟩ (.bool s38)).setCell ⟨g9, 1, none⟩ (.slice A_38 n38 c38)).setCell ⟨g10, 0, none⟩ (.bool s43)).setCell ⟨g10, 1, none⟩ (.slice A_43 n43 c43)) = w5 at hS ⊢
  have Y8 := ExtOf.blk (hS.blk 2 rfl)
  have Y5 := ExtOf.blk (hS.blk 7 rfl)
  have hE_ := hS.ext
  refine wp_region_tame 12 (hasF [(4, .any), (9, .any), (10, .any), (11, .any)]) (Fcs [(4, .ri (z48)), (9, .ri (z53)), (10, .box 30 #[.bool false, .slice none 0 0]), (11, .box 30 #[.bool false, .slice none 0 0])]) (Fcs_stab _) (by kernel_rfl) (by kernel_rfl) ?_
  simp only [List.take_succ_cons, List.take_zero, List.drop_succ_cons, List.drop_zero]
  refine wpT_quiet 4 (by rfl) (by kernel_rfl) ?_
  simp only [List.take_succ_cons, List.take_zero, List.drop_succ_cons, List.drop_zero]
  repeat (go_big_quiet_step (fail))
  refine wpQuiet_nil ?_
  refine wpT_eff (by rfl) (by rfl) (by rfl) ?_ ?_
  · intro W_ hK
    have hW := hK.1
    clear hK
    go_simp
    exact ⟨rfl, (ediv_ok gc _ _ x2a z33 z48 _ (Blk.ext (hS.blk 9 rfl) hW) (RI.ext (hS.num 6 rfl) hW) (RI.ext (hS.num 2 rfl) hW) ax2a A33 N48.out ND48.out E48.out).mono fun e w' ⟨v, he, hR, hx⟩ => ⟨v, he, hx, hR⟩⟩
  intro v_ lo48 hi48 hr_
  obtain ⟨W_, hW_⟩ := hr_
  have hv_ : Fc.holds (.ri (z48)) lo48 hi48 v_ W_ := hW_.get
  clear hW_
  obtain ⟨s48, A_48, n48, c48, rfl, -⟩ := RI.opn hv_
  clear hv_
  clear W_
  try simp only [Act.put, List.setIfInBounds_toArray, List.set_cons_succ, List.set_cons_zero]
  refine wpT_quiet 4 (by rfl) (by kernel_rfl) ?_
  simp only [List.take_succ_cons, List.take_zero, List.drop_succ_cons, List.drop_zero]
  repeat (go_big_quiet_step (fail))
  refine wpQuiet_nil ?_
  refine wpT_eff (by rfl) (by rfl) (by rfl) ?_ ?_
  · intro W_ hK
    have hW := hK.1
    clear hK
    go_simp
    exact ⟨rfl, (ediv_ok gc _ _ x2b z33 z53 _ (Blk.ext (hS.blk 9 rfl) hW) (RI.ext (hS.num 5 rfl) hW) (RI.ext (hS.num 2 rfl) hW) ax2b A33 N53.out ND53.out E53.out).mono fun e w' ⟨v, he, hR, hx⟩ => ⟨v, he, hx, hR⟩⟩
  intro v_ lo53 hi53 hr_
  obtain ⟨W_, hW_⟩ := hr_
  have hv_ : Fc.holds (.ri (z53)) lo53 hi53 v_ W_ := hW_.get
  clear hW_
  obtain ⟨s53, A_53, n53, c53, rfl, -⟩ := RI.opn hv_
  clear hv_
  clear W_
  try simp only [Act.put, List.setIfInBounds_toArray, List.set_cons_succ, List.set_cons_zero]
  refine wpT_eff (by rfl) (by rfl) (by rfl) ?_ ?_
  · intro W_ hK
    go_simp
    exact ⟨Ext.new _ _, rfl, by simp, Blk.new _ _ _⟩
  intro v_ g11 hi11 hr_
  obtain ⟨W_, hW_⟩ := hr_
  obtain ⟨rfl, hl11, -⟩ : Fc.holds (.box 30 #[.bool false, .slice none 0 0]) g11 hi11 v_ W_ := hW_.get
  clear hW_ W_
  try simp only [Act.put, List.setIfInBounds_toArray, List.set_cons_succ, List.set_cons_zero]
  refine wpT_eff (by rfl) (by rfl) (by rfl) ?_ ?_
  · intro W_ hK
    go_simp
    exact ⟨Ext.new _ _, rfl, by simp, Blk.new _ _ _⟩
  intro v_ g12 hi12 hr_
  obtain ⟨W_, hW_⟩ := hr_
  obtain ⟨rfl, hl12, -⟩ : Fc.holds (.box 30 #[.bool false, .slice none 0 0]) g12 hi12 v_ W_ := hW_.get
  clear hW_ W_
  try simp only [Act.put, List.setIfInBounds_toArray, List.set_cons_succ, List.set_cons_zero]
  refine wpT_nil ?_
  intro w6 hK
  have hlt_ := hS.lt
  replace hS := hS.mv hK.ext
  replace hS := hS.addI (show RI w6 (iv s48 A_48 n48 c48) z48 from hK.at_ 4 (e := ((iv s48 A_48 n48 c48), lo48, hi48)) (by rfl))
  replace hS := hS.addI (show RI w6 (iv s53 A_53 n53 c53) z53 from hK.at_ 9 (e := ((iv s53 A_53 n53 c53), lo53, hi53)) (by rfl))
  have lw11 : w5.heap.size ≤ g11 := hK.low 10 _ (by rfl)
  have o11 : Own w g11 := Own.of hE_ lw11
  replace hS := hS.addB (show Blk w6 g11 30 #[.bool false, .slice none 0 0] from (hK.at_ 10 (by rfl)).2.2) (apart_of fun p hp => Nat.ne_of_lt (Nat.lt_of_lt_of_le (hlt_ p hp) lw11))
  have lw12 : w5.heap.size ≤ g12 := hK.low 11 _ (by rfl)
  have o12 : Own w g12 := Own.of hE_ lw12
  replace hS := hS.addB (show Blk w6 g12 30 #[.bool false, .slice none 0 0] from (hK.at_ 11 (by rfl)).2.2) ⟨tame_ne hl11 hl12 (hK.disj 10 11 _ _ (by omega) (by rfl) (by rfl)), (apart_of fun p hp => Nat.ne_of_lt (Nat.lt_of_lt_of_le (hlt_ p hp) lw12))⟩
  clear hK hlt_ hE_ Y8 Y5
  clear lw11 hl11 hi11
  clear lw12 hl12 hi12
  have k_9 := (hS.blk 1 rfl).cell
  have k_10 := (hS.blk 1 rfl).frozen
  have hT3 := (St.put (W' := ((w6.setCell ⟨g11, 0, none⟩ (.bool s48)).setCell ⟨g11, 1, none⟩ (.slice A_48 n48 c48))) hS 1 0 [.bool s48, .slice A_48 n48 c48] (cs' := #[.bool s48, .slice A_48 n48 c48]) (bs' := _) rfl o11 rfl rfl rfl rfl)
  have k_11 := (hT3.blk 0 rfl).cell
  have k_12 := (hT3.blk 0 rfl).frozen
  go_wp2_with fail
  clear k_9 k_10 k_11 k_12
  clear hT3
  replace hS := (St.put (W' := ((((w6.setCell ⟨g11, 0, none⟩ (.bool s48)).setCell ⟨g11, 1, none⟩ (.slice A_48 n48 c48)).setCell ⟨g12, 0, none⟩ (.bool s53)).setCell ⟨g12, 1, none⟩ (.slice A_53 n53 c53))) (St.put (W' := ((w6.setCell ⟨g11, 0, none⟩ (.bool s48)).setCell ⟨g11, 1, none⟩ (.slice A_48 n48 c48))) hS 1 0 [.bool s48, .slice A_48 n48 c48] (cs' := #[.bool s48, .slice A_48 n48 c48]) (bs' := _) rfl o11 rfl rfl rfl rfl) 0 0 [.bool s53, .slice A_53 n53 c53] (cs' := #[.bool s53, .slice A_53 n53 c53]) (bs' := _) rfl o12 rfl rfl rfl rfl)
  simp only [List.set_cons_zero, List.set_cons_succ] at hS
  generalize ((((w6.setCell ⟨g11, 0, none⟩ (.bool s48)).setCell ⟨g11, 1, none⟩ (.slice A_48 n48 c48)).setCell ⟨g12, 0, none⟩ (.bool s53)).setCell ⟨g12, 1, none⟩ (.slice A_53 n53 c53)) = w7 at hS ⊢
  have Y12 := ExtOf.blk (hS.blk 0 rfl)
  have Y11 := ExtOf.blk (hS.blk 1 rfl)
  have Y10 := ExtOf.blk (hS.blk 2 rfl)
  have Y9 := ExtOf.blk (hS.blk 3 rfl)
  have hE_ := hS.ext
  refine wp_region_tame 11 (hasF [(4, .any), (8, .any), (9, .any), (10, .any)]) (Fcs [(4, .ri (z58)), (8, .ri (z62)), (9, .ri (z63)), (10, .box 30 #[.bool false, .slice none 0 0])]) (Fcs_stab _) (by kernel_rfl) (by kernel_rfl) ?_
  simp only [List.take_succ_cons, List.take_zero, List.drop_succ_cons, List.drop_zero]
  refine wpT_quiet 4 (by rfl) (by kernel_rfl) ?_
  simp only [List.take_succ_cons, List.take_zero, List.drop_succ_cons, List.drop_zero]
  repeat (go_big_quiet_step (fail))
  refine wpQuiet_nil ?_
  refine wpT_eff (by rfl) (by rfl) (by rfl) ?_ ?_
  · intro W_ hK
    have hW := hK.1
    clear hK
    go_simp
    exact ⟨rfl, (emul_ok gc _ _ z38 z48 z58 _ (Blk.ext (hS.blk 11 rfl) hW) (RI.ext (hS.num 3 rfl) hW) (RI.ext (hS.num 1 rfl) hW) A38 A48 E58.out A58).mono fun e w' ⟨v, he, hR, hx⟩ => ⟨v, he, hx, hR⟩⟩
  intro v_ lo58 hi58 hr_
  obtain ⟨W_, hW_⟩ := hr_
  have hv_ : Fc.holds (.ri (z58)) lo58 hi58 v_ W_ := hW_.get
  clear hW_
  obtain ⟨s58, A_58, n58, c58, rfl, -⟩ := RI.opn hv_
  clear hv_
  clear W_
  try simp only [Act.put, List.setIfInBounds_toArray, List.set_cons_succ, List.set_cons_zero]
  refine wpT_quiet 3 (by rfl) (by kernel_rfl) ?_
  simp only [List.take_succ_cons, List.take_zero, List.drop_succ_cons, List.drop_zero]
  repeat (go_big_quiet_step (fail))
  refine wpQuiet_nil ?_
  refine wpT_eff (by rfl) (by rfl) (by rfl) ?_ ?_
  · intro W_ hK
    have hW := hK.1
    clear hK
    go_simp
    exact ⟨rfl, (emul_ok gc _ _ z43 z53 z62 _ (Blk.ext (hS.blk 11 rfl) hW) (RI.ext (hS.num 2 rfl) hW) (RI.ext (hS.num 0 rfl) hW) A43 A53 E62.out A62).mono fun e w' ⟨v, he, hR, hx⟩ => ⟨v, he, hx, hR⟩⟩
  intro v_ lo62 hi62 hr_
  obtain ⟨W_, hW_⟩ := hr_
  have hv_ : Fc.holds (.ri (z62)) lo62 hi62 v_ W_ := hW_.get
  clear hW_
  obtain ⟨s62, A_62, n62, c62, rfl, -⟩ := RI.opn hv_
  clear hv_
  clear W_
  try simp only [Act.put, List.setIfInBounds_toArray, List.set_cons_succ, List.set_cons_zero]
  refine wpT_eff (by rfl) (by rfl) (by rfl) ?_ ?_
  · intro W_ hK
    have hW := hK.1
    have F_s58 : RI W_ (iv s58 A_58 n58 c58) z58 := hK.2 4 ((iv s58 A_58 n58 c58), lo58, hi58) (by rfl) (by kernel_rfl)
    have F_s62 : RI W_ (iv s62 A_62 n62 c62) z62 := hK.2 8 ((iv s62 A_62 n62 c62), lo62, hi62) (by rfl) (by kernel_rfl)
    clear hK
    go_simp
    exact ⟨rfl, (esub_ok gc _ _ z58 z62 z63 _ (Blk.ext (hS.blk 11 rfl) hW) F_s58 F_s62 A58 A62 E63.out A63).mono fun e w' ⟨v, he, hR, hx⟩ => ⟨v, he, hx, hR⟩⟩
  intro v_ lo63 hi63 hr_
  obtain ⟨W_, hW_⟩ := hr_
  have hv_ : Fc.holds (.ri (z63)) lo63 hi63 v_ W_ := hW_.get
  clear hW_
  obtain ⟨s63, A_63, n63, c63, rfl, -⟩ := RI.opn hv_
  clear hv_
  clear W_
  try simp only [Act.put, List.setIfInBounds_toArray, List.set_cons_succ, List.set_cons_zero]
  refine wpT_eff (by rfl) (by rfl) (by rfl) ?_ ?_
  · intro W_ hK
    go_simp
    exact ⟨Ext.new _ _, rfl, by simp, Blk.new _ _ _⟩
  intro v_ g13 hi13 hr_
  obtain ⟨W_, hW_⟩ := hr_
  obtain ⟨rfl, hl13, -⟩ : Fc.holds (.box 30 #[.bool false, .slice none 0 0]) g13 hi13 v_ W_ := hW_.get
  clear hW_ W_
  try simp only [Act.put, List.setIfInBounds_toArray, List.set_cons_succ, List.set_cons_zero]
  refine wpT_nil ?_
  intro w8 hK
  have hlt_ := hS.lt
  replace hS := hS.mv hK.ext
  replace hS := hS.addI (show RI w8 (iv s58 A_58 n58 c58) z58 from hK.at_ 4 (e := ((iv s58 A_58 n58 c58), lo58, hi58)) (by rfl))
  replace hS := hS.addI (show RI w8 (iv s62 A_62 n62 c62) z62 from hK.at_ 8 (e := ((iv s62 A_62 n62 c62), lo62, hi62)) (by rfl))
  replace hS := hS.addI (show RI w8 (iv s63 A_63 n63 c63) z63 from hK.at_ 9 (e := ((iv s63 A_63 n63 c63), lo63, hi63)) (by rfl))
  have lw13 : w7.heap.size ≤ g13 := hK.low 10 _ (by rfl)
  have o13 : Own w g13 := Own.of hE_ lw13
  replace hS := hS.addB (show Blk w8 g13 30 #[.bool false, .slice none 0 0] from (hK.at_ 10 (by rfl)).2.2) (apart_of fun p hp => Nat.ne_of_lt (Nat.lt_of_lt_of_le (hlt_ p hp) lw13))
  clear hK hlt_ hE_ Y12 Y11 Y10 Y9
  clear lw13 hl13 hi13
  have k_13 := (hS.blk 0 rfl).cell
  have k_14 := (hS.blk 0 rfl).frozen
  go_wp2_with fail
  clear k_13 k_14
  replace hS := (St.put (W' := ((w8.setCell ⟨g13, 0, none⟩ (.bool s63)).setCell ⟨g13, 1, none⟩ (.slice A_63 n63 c63))) hS 0 0 [.bool s63, .slice A_63 n63 c63] (cs' := #[.bool s63, .slice A_63 n63 c63]) (bs' := _) rfl o13 rfl rfl rfl rfl)
  simp only [List.set_cons_zero] at hS
  generalize ((w8.setCell ⟨g13, 0, none⟩ (.bool s63)).setCell ⟨g13, 1, none⟩ (.slice A_63 n63 c63)) = w9 at hS ⊢
  have Y12 := ExtOf.blk (hS.blk 1 rfl)
  have Y11 := ExtOf.blk (hS.blk 2 rfl)
  have Y10 := ExtOf.blk (hS.blk 3 rfl)
  have Y9 := ExtOf.blk (hS.blk 4 rfl)
  have hE_ := hS.ext
  refine wp_region_tame 11 (hasF [(4, .any), (8, .any), (9, .any), (10, .any)]) (Fcs [(4, .ri (z68)), (8, .ri (z72)), (9, .ri (z73)), (10, .box 30 #[.bool false, .slice none 0 0])]) (Fcs_stab _) (by kernel_rfl) (by kernel_rfl) ?_
  simp only [List.take_succ_cons, List.take_zero, List.drop_succ_cons, List.drop_zero]
  refine wpT_quiet 4 (by rfl) (by kernel_rfl) ?_
  simp only [List.take_succ_cons, List.take_zero, List.drop_succ_cons, List.drop_zero]
  repeat (go_big_quiet_step (fail))
  refine wpQuiet_nil ?_
  refine wpT_eff (by rfl) (by rfl) (by rfl) ?_ ?_
  · intro W_ hK
    have hW := hK.1
    clear hK
    go_simp
    exact ⟨rfl, (emul_ok gc _ _ z38 z53 z68 _ (Blk.ext (hS.blk 12 rfl) hW) (RI.ext (hS.num 6 rfl) hW) (RI.ext (hS.num 3 rfl) hW) A38 A53 E68.out A68).mono fun e w' ⟨v, he, hR, hx⟩ => ⟨v, he, hx, hR⟩⟩
  intro v_ lo68 hi68 hr_
  obtain ⟨W_, hW_⟩ := hr_
  have hv_ : Fc.holds (.ri (z68)) lo68 hi68 v_ W_ := hW_.get
  clear hW_
  obtain ⟨s68, A_68, n68, c68, rfl, -⟩ := RI.opn hv_
  clear hv_
  clear W_
  try simp only [Act.put, List.setIfInBounds_toArray, List.set_cons_succ, List.set_cons_zero]
  refine wpT_quiet 3 (by rfl) (by kernel_rfl) ?_
  simp only [List.take_succ_cons, List.take_zero, List.drop_succ_cons, List.drop_zero]
  repeat (go_big_quiet_step (fail))
  refine wpQuiet_nil ?_
  refine wpT_eff (by rfl) (by rfl) (by rfl) ?_ ?_
  · intro W_ hK
    have hW := hK.1
    clear hK
    go_simp
    exact ⟨rfl, (emul_ok gc _ _ z43 z48 z72 _ (Blk.ext (hS.blk 12 rfl) hW) (RI.ext (hS.num 5 rfl) hW) (RI.ext (hS.num 4 rfl) hW) A43 A48 E72.out A72).mono fun e w' ⟨v, he, hR, hx⟩ => ⟨v, he, hx, hR⟩⟩
  intro v_ lo72 hi72 hr_
  obtain ⟨W_, hW_⟩ := hr_
  have hv_ : Fc.holds (.ri (z72)) lo72 hi72 v_ W_ := hW_.get
  clear hW_
  obtain ⟨s72, A_72, n72, c72, rfl, -⟩ := RI.opn hv_
  clear hv_
  clear W_
  try simp only [Act.put, List.setIfInBounds_toArray, List.set_cons_succ, List.set_cons_zero]
  refine wpT_eff (by rfl) (by rfl) (by rfl) ?_ ?_
  · intro W_ hK
    have hW := hK.1
    have F_s68 : RI W_ (iv s68 A_68 n68 c68) z68 := hK.2 4 ((iv s68 A_68 n68 c68), lo68, hi68) (by rfl) (by kernel_rfl)
    have F_s72 : RI W_ (iv s72 A_72 n72 c72) z72 := hK.2 8 ((iv s72 A_72 n72 c72), lo72, hi72) (by rfl) (by kernel_rfl)
    clear hK
    go_simp
    exact ⟨rfl, (eadd_ok gc _ _ z68 z72 z73 _ (Blk.ext (hS.blk 12 rfl) hW) F_s68 F_s72 A68 A72 E73.out A73).mono fun e w' ⟨v, he, hR, hx⟩ => ⟨v, he, hx, hR⟩⟩
  intro v_ lo73 hi73 hr_
  obtain ⟨W_, hW_⟩ := hr_
  have hv_ : Fc.holds (.ri (z73)) lo73 hi73 v_ W_ := hW_.get
  clear hW_
  obtain ⟨s73, A_73, n73, c73, rfl, -⟩ := RI.opn hv_
  clear hv_
  clear W_
  try simp only [Act.put, List.setIfInBounds_toArray, List.set_cons_succ, List.set_cons_zero]
  refine wpT_eff (by rfl) (by rfl) (by rfl) ?_ ?_
  · intro W_ hK
    go_simp
    exact ⟨Ext.new _ _, rfl, by simp, Blk.new _ _ _⟩
  intro v_ g14 hi14 hr_
  obtain ⟨W_, hW_⟩ := hr_
  obtain ⟨rfl, hl14, -⟩ : Fc.holds (.box 30 #[.bool false, .slice none 0 0]) g14 hi14 v_ W_ := hW_.get
  clear hW_ W_
  try simp only [Act.put, List.setIfInBounds_toArray, List.set_cons_succ, List.set_cons_zero]
  refine wpT_nil ?_
  intro w10 hK
  have hlt_ := hS.lt
  replace hS := hS.mv hK.ext
  replace hS := hS.addI (show RI w10 (iv s68 A_68 n68 c68) z68 from hK.at_ 4 (e := ((iv s68 A_68 n68 c68), lo68, hi68)) (by rfl))
  replace hS := hS.addI (show RI w10 (iv s72 A_72 n72 c72) z72 from hK.at_ 8 (e := ((iv s72 A_72 n72 c72), lo72, hi72)) (by rfl))
  replace hS := hS.addI (show RI w10 (iv s73 A_73 n73 c73) z73 from hK.at_ 9 (e := ((iv s73 A_73 n73 c73), lo73, hi73)) (by rfl))
  have lw14 : w9.heap.size ≤ g14 := hK.low 10 _ (by rfl)
  have o14 : Own w g14 := Own.of hE_ lw14
  replace hS := hS.addB (show Blk w10 g14 30 #[.bool false, .slice none 0 0] from (hK.at_ 10 (by rfl)).2.2) (apart_of fun p hp => Nat.ne_of_lt (Nat.lt_of_lt_of_le (hlt_ p hp) lw14))
  clear hK hlt_ hE_ Y12 Y11 Y10 Y9
  clear lw14 hl14 hi14
  have k_15 := (hS.blk 0 rfl).cell
  have k_16 := (hS.blk 0 rfl).frozen
  go_wp2_with fail
  clear k_15 k_16
  replace hS := (St.put (W' := ((w10.setCell ⟨g14, 0, none⟩ (.bool s73)).setCell ⟨g14, 1, none⟩ (.slice A_73 n73 c73))) hS 0 0 [.bool s73, .slice A_73 n73 c73] (cs' := #[.bool s73, .slice A_73 n73 c73]) (bs' := _) rfl o14 rfl rfl rfl rfl)
  simp only [List.set_cons_zero] at hS
  generalize ((w10.setCell ⟨g14, 0, none⟩ (.bool s73)).setCell ⟨g14, 1, none⟩ (.slice A_73 n73 c73)) = w11 at hS ⊢
  have Y8 := ExtOf.blk (hS.blk 6 rfl)
  have Y7 := ExtOf.blk (hS.blk 7 rfl)
  have Y5 := ExtOf.blk (hS.blk 11 rfl)
  have Y4 := ExtOf.blk (hS.blk 12 rfl)
  have hE_ := hS.ext
  refine wp_region_tame 13 (hasF [(5, .any), (10, .any), (11, .any), (12, .any)]) (Fcs [(5, .ri (z79)), (10, .ri (z84)), (11, .ri (z85)), (12, .box 30 #[.bool false, .slice none 0 0])]) (Fcs_stab _) (by kernel_rfl) (by kernel_rfl) ?_
  simp only [List.take_succ_cons, List.take_zero, List.drop_succ_cons, List.drop_zero]
  refine wpT_quiet 5 (by rfl) (by kernel_rfl) ?_
  simp only [List.take_succ_cons, List.take_zero, List.drop_succ_cons, List.drop_zero]
  repeat (go_big_quiet_step (fail))
  refine wpQuiet_nil ?_
  refine wpT_eff (by rfl) (by rfl) (by rfl) ?_ ?_
  · intro W_ hK
    have hW := hK.1
    clear hK
    go_simp
    exact ⟨rfl, (ediv_ok gc _ _ x1d z33 z79 _ (Blk.ext (hS.blk 13 rfl) hW) (RI.ext (hS.num 15 rfl) hW) (RI.ext (hS.num 10 rfl) hW) ax1d A33 N79.out ND79.out E79.out).mono fun e w' ⟨v, he, hR, hx⟩ => ⟨v, he, hx, hR⟩⟩
  intro v_ lo79 hi79 hr_
  obtain ⟨W_, hW_⟩ := hr_
  have hv_ : Fc.holds (.ri (z79)) lo79 hi79 v_ W_ := hW_.get
  clear hW_
  obtain ⟨s79, A_79, n79, c79, rfl, -⟩ := RI.opn hv_
  clear hv_
  clear W_
  try simp only [Act.put, List.setIfInBounds_toArray, List.set_cons_succ, List.set_cons_zero]
  refine wpT_quiet 4 (by rfl) (by kernel_rfl) ?_
  simp only [List.take_succ_cons, List.take_zero, List.drop_succ_cons, List.drop_zero]
  repeat (go_big_quiet_step (fail))
  refine wpQuiet_nil ?_
  refine wpT_eff (by rfl) (by rfl) (by rfl) ?_ ?_
  · intro W_ hK
    have hW := hK.1
    clear hK
    go_simp
    exact ⟨rfl, (ediv_ok gc _ _ x2d z24 z84 _ (Blk.ext (hS.blk 13 rfl) hW) (RI.ext (hS.num 12 rfl) hW) (RI.ext (hS.num 11 rfl) hW) ax2d A24 N84.out ND84.out E84.out).mono fun e w' ⟨v, he, hR, hx⟩ => ⟨v, he, hx, hR⟩⟩
  intro v_ lo84 hi84 hr_
  obtain ⟨W_, hW_⟩ := hr_
  have hv_ : Fc.holds (.ri (z84)) lo84 hi84 v_ W_ := hW_.get
  clear hW_
  obtain ⟨s84, A_84, n84, c84, rfl, -⟩ := RI.opn hv_
  clear hv_
  clear W_
  try simp only [Act.put, List.setIfInBounds_toArray, List.set_cons_succ, List.set_cons_zero]
  refine wpT_eff (by rfl) (by rfl) (by rfl) ?_ ?_
  · intro W_ hK
    have hW := hK.1
    have F_s79 : RI W_ (iv s79 A_79 n79 c79) z79 := hK.2 5 ((iv s79 A_79 n79 c79), lo79, hi79) (by rfl) (by kernel_rfl)
    have F_s84 : RI W_ (iv s84 A_84 n84 c84) z84 := hK.2 10 ((iv s84 A_84 n84 c84), lo84, hi84) (by rfl) (by kernel_rfl)
    clear hK
    go_simp
    exact ⟨rfl, (emul_ok gc _ _ z79 z84 z85 _ (Blk.ext (hS.blk 13 rfl) hW) F_s79 F_s84 A79 A84 E85.out A85).mono fun e w' ⟨v, he, hR, hx⟩ => ⟨v, he, hx, hR⟩⟩
  intro v_ lo85 hi85 hr_
  obtain ⟨W_, hW_⟩ := hr_
  have hv_ : Fc.holds (.ri (z85)) lo85 hi85 v_ W_ := hW_.get
  clear hW_
  obtain ⟨s85, A_85, n85, c85, rfl, -⟩ := RI.opn hv_
  clear hv_
  clear W_
  try simp only [Act.put, List.setIfInBounds_toArray, List.set_cons_succ, List.set_cons_zero]
  refine wpT_eff (by rfl) (by rfl) (by rfl) ?_ ?_
  · intro W_ hK
    go_simp
    exact ⟨Ext.new _ _, rfl, by simp, Blk.new _ _ _⟩
  intro v_ g15 hi15 hr_
  obtain ⟨W_, hW_⟩ := hr_
  obtain ⟨rfl, hl15, -⟩ : Fc.holds (.box 30 #[.bool false, .slice none 0 0]) g15 hi15 v_ W_ := hW_.get
  clear hW_ W_
  try simp only [Act.put, List.setIfInBounds_toArray, List.set_cons_succ, List.set_cons_zero]
  refine wpT_nil ?_
  intro w12 hK
  have hlt_ := hS.lt
  replace hS := hS.mv hK.ext
  replace hS := hS.addI (show RI w12 (iv s79 A_79 n79 c79) z79 from hK.at_ 5 (e := ((iv s79 A_79 n79 c79), lo79, hi79)) (by rfl))
  replace hS := hS.addI (show RI w12 (iv s84 A_84 n84 c84) z84 from hK.at_ 10 (e := ((iv s84 A_84 n84 c84), lo84, hi84)) (by rfl))
  replace hS := hS.addI (show RI w12 (iv s85 A_85 n85 c85) z85 from hK.at_ 11 (e := ((iv s85 A_85 n85 c85), lo85, hi85)) (by rfl))
  have lw15 : w11.heap.size ≤ g15 := hK.low 12 _ (by rfl)
  have o15 : Own w g15 := Own.of hE_ lw15
  replace hS := hS.addB (show Blk w12 g15 30 #[.bool false, .slice none 0 0] from (hK.at_ 12 (by rfl)).2.2) (apart_of fun p hp => Nat.ne_of_lt (Nat.lt_of_lt_of_le (hlt_ p hp) lw15))
  clear hK hlt_ hE_ Y8 Y7 Y5 Y4
  clear lw15 hl15 hi15
  have k_17 := (hS.blk 0 rfl).cell
  have k_18 := (hS.blk 0 rfl).frozen
  have hT4 := (St.put (W' := ((w12.setCell ⟨g15, 0, none⟩ (.bool s85)).setCell ⟨g15, 1, none⟩ (.slice A_85 n85 c85))) hS 0 0 [.bool s85, .slice A_85 n85 c85] (cs' := #[.bool s85, .slice A_85 n85 c85]) (bs' := _) rfl o15 rfl rfl rfl rfl)
  have k_19 := (hT4.blk 14 rfl).cell
  have k_20 := (hT4.blk 2 rfl).cell
  have k_21 := (hT4.blk 1 rfl).cell
  have k_22 := (hT4.blk 0 rfl).cell
  go_wp2_with fail
  clear k_17 k_18 k_19 k_20 k_21 k_22
  clear hT4
  replace hS := (St.put (W' := ((w12.setCell ⟨g15, 0, none⟩ (.bool s85)).setCell ⟨g15, 1, none⟩ (.slice A_85 n85 c85))) hS 0 0 [.bool s85, .slice A_85 n85 c85] (cs' := #[.bool s85, .slice A_85 n85 c85]) (bs' := _) rfl o15 rfl rfl rfl rfl)
  simp only [List.set_cons_zero] at hS
  generalize ((w12.setCell ⟨g15, 0, none⟩ (.bool s85)).setCell ⟨g15, 1, none⟩ (.slice A_85 n85 c85)) = w13 at hS ⊢
  refine (ereduce_ok gc _ _ _ z63 z73 z85 z96a z96b z96d _ (hS.blk 14 rfl) (hS.num 6 rfl) (hS.num 3 rfl) (hS.num 0 rfl) A63 A73 A85 N96.out E96.out).mono ?_
  rintro e w14 ⟨v_, rfl, hv_, hx_⟩
  replace hS := hS.mv hx_
  clear hx_
  obtain ⟨s96a, A_96a, n96a, c96a, s96b, A_96b, n96b, c96b, s96d, A_96d, n96d, c96d, rfl, f_s96a, f_s96b, f_s96d⟩ := hv_
  replace hS := hS.addI f_s96a
  clear f_s96a
  replace hS := hS.addI f_s96b
  clear f_s96b
  replace hS := hS.addI f_s96d
  clear f_s96d
  have k_23 := (hS.blk 11 rfl).cell
  have k_24 := (hS.blk 11 rfl).frozen
  go_wp2
  replace hS := (St.put (W' := ((((((w14.setCell ⟨g6, 0, none⟩ (.bool s96a)).setCell ⟨g6, 1, none⟩ (.slice A_96a n96a c96a)).setCell ⟨g6, 2, none⟩ (.bool s96b)).setCell ⟨g6, 3, none⟩ (.slice A_96b n96b c96b)).setCell ⟨g6, 4, none⟩ (.bool s96d)).setCell ⟨g6, 5, none⟩ (.slice A_96d n96d c96d))) hS 11 0 [.bool s96a, .slice A_96a n96a c96a, .bool s96b, .slice A_96b n96b c96b, .bool s96d, .slice A_96d n96d c96d] (cs' := #[.bool s96a, .slice A_96a n96a c96a, .bool s96b, .slice A_96b n96b c96b, .bool s96d, .slice A_96d n96d c96d]) (bs' := _) rfl o6 rfl rfl rfl rfl)
  exact bp_gauss1 rfl rfl rfl (hS.blk 11 rfl) ⟨_, rfl, RG.mk (hS.num 2 rfl) (hS.num 1 rfl) (hS.num 0 rfl), hS.ext⟩

theorem eproduct_ok (gc : Nat) (v1 v2 : Value) (a b d a' b' d' u v t : Int) (n : Nat) (w : World) (hc : Calm w gc) (hX : RG w v1 a b d) (hY : RG w v2 a' b' d') (sx : Sz n a b d) (sy : Sz n a' b' d') (hn : n + n + 1 ≤ 12800)
    (hd : d ≠ 0) (hd' : d' ≠ 0) (E : (u, v, t) = nf (a * a' - b * b') (a * b' + b * a') (d * d')) :
    Calls Tryz.prog 107 #[.pointer (some ⟨gc, 0, none⟩), v1, v2] w fun e w' => ∃ x, e = .returned x ∧ RG w' x u v t ∧ Ext w w' := by
  obtain ⟨g, d1', a1, b1, hg, hg0, ed', ea, eb⟩ := gcd3_facts (a := d') (b := a) (c := b) hd'
  obtain ⟨h, d1, a1', b1', hh, hh0, ed, ea', eb'⟩ := gcd3_facts (a := d) (b := a') (c := b') hd
  have ba1 := lt_div hg0 ea sx.a
  have bb1 := lt_div hg0 eb sx.b
  have bd1' := lt_div hg0 ed' sy.d
  have ba1' := lt_div hh0 ea' sy.a
  have bb1' := lt_div hh0 eb' sy.b
  have bd1 := lt_div hh0 ed sx.d
  have bg : g.natAbs < 2 ^ n := lt_gcd hd' ⟨_, ed'⟩ sy.d
  have bh : h.natAbs < 2 ^ n := lt_gcd hd ⟨_, ed⟩ sx.d
  have p1 := lt_mul ba1 ba1'
  have p2 := lt_mul bb1 bb1'
  have p3 := lt_mul ba1 bb1'
  have p4 := lt_mul bb1 ba1'
  have p5 := lt_mul bd1 bd1'
  have q1 := lt_sub p1 p2
  have q2 := lt_add p3 p4
  have hD : d1 * d1' ≠ 0 := Int.mul_ne_zero (by intro e; rw [e] at ed; simp at ed; exact hd ed) (by intro e; rw [e] at ed'; simp at ed'; exact hd' ed')
  have E' : (u, v, t) = nf (a1 * a1' - b1 * b1') (a1 * b1' + b1 * a1') (d1 * d1') := by
    rw [E]
    refine nf_unique (Int.mul_ne_zero hd hd') hD ?_ ?_
    · rw [ea, eb, ed, ea', eb', ed']; grind
    · rw [ea, eb, ed, ea', eb', ed']; grind
  have sz := nf_size' (n := n + n + 1) hD E' q1 q2 (lt_up p5 (by omega))
  obtain ⟨x1, x2, x3⟩ := sx.lims (by omega)
  obtain ⟨y1, y2, y3⟩ := sy.lims (by omega)
  obtain ⟨s1, s2, s3⟩ := sz.lims hn
  exact eproduct_w gc v1 a b d v2 a' b' d' w hc hX x1 x2 x3 hY y1 y2 y3 g (Lib.hid hg) (lim_of bg (by omega)) h (Lib.hid hh) (lim_of bh (by omega))
    a1 (Lib.hid (div_of hg0 ea)) (lim_of ba1 (by omega)) (Lib.hid hg0) (Lib.hid ⟨_, ea⟩) b1 (Lib.hid (div_of hg0 eb)) (lim_of bb1 (by omega)) (Lib.hid hg0) (Lib.hid ⟨_, eb⟩)
    a1' (Lib.hid (div_of hh0 ea')) (lim_of ba1' (by omega)) (Lib.hid hh0) (Lib.hid ⟨_, ea'⟩) b1' (Lib.hid (div_of hh0 eb')) (lim_of bb1' (by omega)) (Lib.hid hh0) (Lib.hid ⟨_, eb'⟩)
    _ (Lib.hid rfl) (lim_of p1 (by omega)) _ (Lib.hid rfl) (lim_of p2 (by omega)) _ (Lib.hid rfl) (lim_of q1 (by omega))
    _ (Lib.hid rfl) (lim_of p3 (by omega)) _ (Lib.hid rfl) (lim_of p4 (by omega)) _ (Lib.hid rfl) (lim_of q2 (by omega))
    d1 (Lib.hid (div_of hh0 ed)) (lim_of bd1 (by omega)) (Lib.hid hh0) (Lib.hid ⟨_, ed⟩) d1' (Lib.hid (div_of hg0 ed')) (lim_of bd1' (by omega)) (Lib.hid hg0) (Lib.hid ⟨_, ed'⟩)
    _ (Lib.hid rfl) (lim_of p5 (by omega)) (Lib.hid hD) u v t (Lib.hid E') s1 s2 s3
end Go.Proofs.YtclkkoiaaddllaaGreat

/- Contracts of the calculator: quotients, the walk. -/
namespace Go.Proofs.YtclkkoiaaddllaaGreat
open Go.RowKit
set_option linter.unusedVariables false

set_option maxRecDepth 100000 in
set_option maxHeartbeats 16000000 in
theorem equotient_w (gc : Nat) (v1 : Value) (x1a x1b x1d : Int) (v2 : Value) (x2a x2b x2d : Int) (w : World) (hc : Calm w gc) (hX1 : RG w v1 x1a x1b x1d) (ax1a : x1a.natAbs < lim) (ax1b : x1b.natAbs < lim) (ax1d : x1d.natAbs < lim) (hX2 : RG w v2 x2a x2b x2d) (ax2a : x2a.natAbs < lim) (ax2b : x2b.natAbs < lim) (ax2d : x2d.natAbs < lim)
    (z30 : Int) (E30 : Hid (z30 = (gcdL [x1a, x1b, x2a, x2b] : Nat))) (A30 : z30.natAbs < lim)
    (z37 : Int) (E37 : Hid (z37 = (gcdL [x1d, x2d] : Nat))) (A37 : z37.natAbs < lim)
    (z42 : Int) (E42 : Hid (z42 = x1a / z30)) (A42 : z42.natAbs < lim)
    (N42 : Hid (z30 ≠ 0))
    (ND42 : Hid (z30 ∣ x1a))
    (z47 : Int) (E47 : Hid (z47 = x1b / z30)) (A47 : z47.natAbs < lim)
    (N47 : Hid (z30 ≠ 0))
    (ND47 : Hid (z30 ∣ x1b))
    (z52 : Int) (E52 : Hid (z52 = x2a / z30)) (A52 : z52.natAbs < lim)
    (N52 : Hid (z30 ≠ 0))
    (ND52 : Hid (z30 ∣ x2a))
    (z57 : Int) (E57 : Hid (z57 = x2b / z30)) (A57 : z57.natAbs < lim)
    (N57 : Hid (z30 ≠ 0))
    (ND57 : Hid (z30 ∣ x2b))
    (z62 : Int) (E62 : Hid (z62 = (gcdL [z52, z57] : Nat))) (A62 : z62.natAbs < lim)
    (z66 : Int) (E66 : Hid (z66 = z52 / z62)) (A66 : z66.natAbs < lim)
    (N66 : Hid (z62 ≠ 0))
    (ND66 : Hid (z62 ∣ z52))
    (z70 : Int) (E70 : Hid (z70 = z57 / z62)) (A70 : z70.natAbs < lim)
    (N70 : Hid (z62 ≠ 0))
    (ND70 : Hid (z62 ∣ z57))
    (z75 : Int) (E75 : Hid (z75 = z42 * z66)) (A75 : z75.natAbs < lim)
    (z79 : Int) (E79 : Hid (z79 = z47 * z70)) (A79 : z79.natAbs < lim)
    (z80 : Int) (E80 : Hid (z80 = z75 + z79)) (A80 : z80.natAbs < lim)
    (z85 : Int) (E85 : Hid (z85 = z47 * z66)) (A85 : z85.natAbs < lim)
    (z89 : Int) (E89 : Hid (z89 = z42 * z70)) (A89 : z89.natAbs < lim)
    (z90 : Int) (E90 : Hid (z90 = z85 - z89)) (A90 : z90.natAbs < lim)
    (z95 : Int) (E95 : Hid (z95 = z66 * z66)) (A95 : z95.natAbs < lim)
    (z99 : Int) (E99 : Hid (z99 = z70 * z70)) (A99 : z99.natAbs < lim)
    (z100 : Int) (E100 : Hid (z100 = z95 + z99)) (A100 : z100.natAbs < lim)
    (N111 : Hid (z100 ≠ 0))
    (z111a z111b z111d : Int) (E111 : Hid ((z111a, z111b, z111d) = nf z80 z90 z100)) (A111a : z111a.natAbs < lim) (A111b : z111b.natAbs < lim) (A111d : z111d.natAbs < lim)
    (z116 : Int) (E116 : Hid (z116 = x2d / z37)) (A116 : z116.natAbs < lim)
    (N116 : Hid (z37 ≠ 0))
    (ND116 : Hid (z37 ∣ x2d))
    (z123 : Int) (E123 : Hid (z123 = x1d / z37)) (A123 : z123.natAbs < lim)
    (N123 : Hid (z37 ≠ 0))
    (ND123 : Hid (z37 ∣ x1d))
    (z124 : Int) (E124 : Hid (z124 = z62 * z123)) (A124 : z124.natAbs < lim)
    (N137 : Hid (z124 ≠ 0))
    (z137a z137b z137d : Int) (E137 : Hid ((z137a, z137b, z137d) = nf z116 0 z124)) (A137a : z137a.natAbs < lim) (A137b : z137b.natAbs < lim) (A137d : z137d.natAbs < lim)
    (n138 : Nat) (Sx138 : Hid (Sz n138 z111a z111b z111d)) (Sy138 : Hid (Sz n138 z137a z137b z137d)) (L138 : Hid (n138 + n138 + 1 ≤ 12800))
    (N138 : Hid (z111d ≠ 0))
    (ND138 : Hid (z137d ≠ 0))
    (z138a z138b z138d : Int) (E138 : Hid ((z138a, z138b, z138d) = nf (z111a * z137a - z111b * z137b) (z111a * z137b + z111b * z137a) (z111d * z137d))) (A138a : z138a.natAbs < lim) (A138b : z138b.natAbs < lim) (A138d : z138d.natAbs < lim)  :
    Calls Tryz.prog 140 #[.pointer (some ⟨gc, 0, none⟩), v1, v2] w fun e w' => ∃ v, e = .returned v ∧ RG w' v z138a z138b z138d ∧ Ext w w' := by
  have hS := St.start w
  obtain ⟨sx1a, Ax1a, nx1a, cx1a, sx1b, Ax1b, nx1b, cx1b, sx1d, Ax1d, nx1d, cx1d, rfl, hx1a, hx1b, hx1d⟩ := hX1
  replace hS := hS.addI hx1a
  clear hx1a
  replace hS := hS.addI hx1b
  clear hx1b
  replace hS := hS.addI hx1d
  clear hx1d
  obtain ⟨sx2a, Ax2a, nx2a, cx2a, sx2b, Ax2b, nx2b, cx2b, sx2d, Ax2d, nx2d, cx2d, rfl, hx2a, hx2b, hx2d⟩ := hX2
  replace hS := hS.addI hx2a
  clear hx2a
  replace hS := hS.addI hx2b
  clear hx2b
  replace hS := hS.addI hx2d
  clear hx2d
  replace hS := hS.addB hc trivial
  clear hc
  have o4 : Own w w.heap.size := Own.of hS.ext (by simp)
  have o5 : Own w (w.heap.size + 1) := Own.of hS.ext (by simp)
  have o6 : Own w (w.heap.size + 2) := Own.of hS.ext (by simp)
  go_enter Tryz.func140, Tryz.ntmps140
  go_wp2_with fail
  replace hS := (St.al (St.al (St.al hS 32 #[.bool sx1a, .slice Ax1a nx1a cx1a, .bool sx1b, .slice Ax1b nx1b cx1b, .bool sx1d, .slice Ax1d nx1d cx1d] (g := w.heap.size) (by simp)) 32 #[.bool sx2a, .slice Ax2a nx2a cx2a, .bool sx2b, .slice Ax2b nx2b cx2b, .bool sx2d, .slice Ax2d nx2d cx2d] (g := (w.heap.size + 1)) (by simp)) 32 #[.bool false, .slice none 0 0, .bool false, .slice none 0 0, .bool false, .slice none 0 0] (g := (w.heap.size + 2)) (by simp))
  generalize (((w.alloc (.cells #[.bool sx1a, .slice Ax1a nx1a cx1a, .bool sx1b, .slice Ax1b nx1b cx1b, .bool sx1d, .slice Ax1d nx1d cx1d] 32)).alloc (.cells #[.bool sx2a, .slice Ax2a nx2a cx2a, .bool sx2b, .slice Ax2b nx2b cx2b, .bool sx2d, .slice Ax2d nx2d cx2d] 32)).alloc (.cells #[.bool false, .slice none 0 0, .bool false, .slice none 0 0, .bool false, .slice none 0 0] 32)) = w1 at hS ⊢
  generalize w.heap.size + 2 = g6 at hS o6 ⊢
  generalize w.heap.size + 1 = g5 at hS o5 ⊢
  generalize w.heap.size = g4 at hS o4 ⊢
  have Y5 := ExtOf.blk (hS.blk 1 rfl)
  have Y4 := ExtOf.blk (hS.blk 2 rfl)
  have hE_ := hS.ext
  refine wp_region_tame 20 (hasF [(9, .any), (10, .any), (16, .any), (17, .any), (18, .any), (19, .any)]) (Fcs [(9, .sl 30 4 #[.bool sx1a, .slice Ax1a nx1a cx1a, .bool sx1b, .slice Ax1b nx1b cx1b, .bool sx2a, .slice Ax2a nx2a cx2a, .bool sx2b, .slice Ax2b nx2b cx2b]), (10, .ri (z30)), (16, .sl 30 2 #[.bool sx1d, .slice Ax1d nx1d cx1d, .bool sx2d, .slice Ax2d nx2d cx2d]), (17, .ri (z37)), (18, .box 30 #[.bool false, .slice none 0 0]), (19, .box 30 #[.bool false, .slice none 0 0])]) (Fcs_stab _) (by kernel_rfl) (by kernel_rfl) ?_
  simp only [List.take_succ_cons, List.take_zero, List.drop_succ_cons, List.drop_zero]
  refine wpT_quiet 9 (by rfl) (by kernel_rfl) ?_
  simp only [List.take_succ_cons, List.take_zero, List.drop_succ_cons, List.drop_zero]
  repeat (go_big_quiet_step (fail))
  refine wpQuiet_nil ?_
  refine wpT_eff (by rfl) (by rfl) (by rfl) ?_ ?_
  · intro W_ hK
    go_simp
    exact ⟨Ext.new _ _, rfl, by simp, Blk.new _ _ _⟩
  intro v_ g29 hi29 hr_
  obtain ⟨W_, hW_⟩ := hr_
  obtain ⟨rfl, hl29, -⟩ : Fc.holds (.sl 30 4 #[.bool sx1a, .slice Ax1a nx1a cx1a, .bool sx1b, .slice Ax1b nx1b cx1b, .bool sx2a, .slice Ax2a nx2a cx2a, .bool sx2b, .slice Ax2b nx2b cx2b]) g29 hi29 v_ W_ := hW_.get
  clear hW_ W_
  try simp only [Act.put, List.setIfInBounds_toArray, List.set_cons_succ, List.set_cons_zero]
  refine wpT_eff (by rfl) (by rfl) (by rfl) ?_ ?_
  · intro W_ hK
    have hW := hK.1
    have F_b29 : Blk W_ g29 30 #[.bool sx1a, .slice Ax1a nx1a cx1a, .bool sx1b, .slice Ax1b nx1b cx1b, .bool sx2a, .slice Ax2a nx2a cx2a, .bool sx2b, .slice Ax2b nx2b cx2b] := (hK.2 9 _ (by rfl) (by kernel_rfl)).2.2
    clear hK
    go_simp
    exact ⟨rfl, (egcd4_ok gc g29 x1a x1b x2a x2b z30 _ (Blk.ext (hS.blk 3 rfl) hW) F_b29 (RI.ext (hS.num 5 rfl) hW) (RI.ext (hS.num 4 rfl) hW) (RI.ext (hS.num 2 rfl) hW) (RI.ext (hS.num 1 rfl) hW) ax1a ax1b ax2a ax2b E30).mono fun e w' ⟨v, he, hR, hx⟩ => ⟨v, he, hx, hR⟩⟩
  intro v_ lo30 hi30 hr_
  obtain ⟨W_, hW_⟩ := hr_
  have hv_ : Fc.holds (.ri (z30)) lo30 hi30 v_ W_ := hW_.get
  clear hW_
  obtain ⟨s30, A_30, n30, c30, rfl, -⟩ := RI.opn hv_
  clear hv_
  clear W_
  try simp only [Act.put, List.setIfInBounds_toArray, List.set_cons_succ, List.set_cons_zero]
  refine wpT_quiet 5 (by rfl) (by kernel_rfl) ?_
  simp only [List.take_succ_cons, List.take_zero, List.drop_succ_cons, List.drop_zero]
  repeat (go_big_quiet_step (fail))
  refine wpQuiet_nil ?_
  refine wpT_eff (by rfl) (by rfl) (by rfl) ?_ ?_
  · intro W_ hK
    go_simp
    exact ⟨Ext.new _ _, rfl, by simp, Blk.new _ _ _⟩
  intro v_ g36 hi36 hr_
  obtain ⟨W_, hW_⟩ := hr_
  obtain ⟨rfl, hl36, -⟩ : Fc.holds (.sl 30 2 #[.bool sx1d, .slice Ax1d nx1d cx1d, .bool sx2d, .slice Ax2d nx2d cx2d]) g36 hi36 v_ W_ := hW_.get
  clear hW_ W_
  try simp only [Act.put, List.setIfInBounds_toArray, List.set_cons_succ, List.set_cons_zero]
  refine wpT_eff (by rfl) (by rfl) (by rfl) ?_ ?_
  · intro W_ hK
    have hW := hK.1
    have F_b36 : Blk W_ g36 30 #[.bool sx1d, .slice Ax1d nx1d cx1d, .bool sx2d, .slice Ax2d nx2d cx2d] := (hK.2 16 _ (by rfl) (by kernel_rfl)).2.2
    clear hK
    go_simp
    exact ⟨rfl, (egcd2_ok gc g36 x1d x2d z37 _ (Blk.ext (hS.blk 3 rfl) hW) F_b36 (RI.ext (hS.num 3 rfl) hW) (RI.ext (hS.num 0 rfl) hW) ax1d ax2d E37).mono fun e w' ⟨v, he, hR, hx⟩ => ⟨v, he, hx, hR⟩⟩
  intro v_ lo37 hi37 hr_
  obtain ⟨W_, hW_⟩ := hr_
  have hv_ : Fc.holds (.ri (z37)) lo37 hi37 v_ W_ := hW_.get
  clear hW_
  obtain ⟨s37, A_37, n37, c37, rfl, -⟩ := RI.opn hv_
  clear hv_
  clear W_
  try simp only [Act.put, List.setIfInBounds_toArray, List.set_cons_succ, List.set_cons_zero]
  refine wpT_eff (by rfl) (by rfl) (by rfl) ?_ ?_
  · intro W_ hK
    go_simp
    exact ⟨Ext.new _ _, rfl, by simp, Blk.new _ _ _⟩
  intro v_ g7 hi7 hr_
  obtain ⟨W_, hW_⟩ := hr_
  obtain ⟨rfl, hl7, -⟩ : Fc.holds (.box 30 #[.bool false, .slice none 0 0]) g7 hi7 v_ W_ := hW_.get
  clear hW_ W_
  try simp only [Act.put, List.setIfInBounds_toArray, List.set_cons_succ, List.set_cons_zero]
  refine wpT_eff (by rfl) (by rfl) (by rfl) ?_ ?_
  · intro W_ hK
    go_simp
    exact ⟨Ext.new _ _, rfl, by simp, Blk.new _ _ _⟩
  intro v_ g8 hi8 hr_
  obtain ⟨W_, hW_⟩ := hr_
  obtain ⟨rfl, hl8, -⟩ : Fc.holds (.box 30 #[.bool false, .slice none 0 0]) g8 hi8 v_ W_ := hW_.get
  clear hW_ W_
  try simp only [Act.put, List.setIfInBounds_toArray, List.set_cons_succ, List.set_cons_zero]
  refine wpT_nil ?_
  intro w2 hK
  have hlt_ := hS.lt
  replace hS := hS.mv hK.ext
  replace hS := hS.addI (show RI w2 (iv s30 A_30 n30 c30) z30 from hK.at_ 10 (e := ((iv s30 A_30 n30 c30), lo30, hi30)) (by rfl))
  replace hS := hS.addI (show RI w2 (iv s37 A_37 n37 c37) z37 from hK.at_ 17 (e := ((iv s37 A_37 n37 c37), lo37, hi37)) (by rfl))
  have lw29 : w1.heap.size ≤ g29 := hK.low 9 _ (by rfl)
  have o29 : Own w g29 := Own.of hE_ lw29
  replace hS := hS.addB (show Blk w2 g29 30 #[.bool sx1a, .slice Ax1a nx1a cx1a, .bool sx1b, .slice Ax1b nx1b cx1b, .bool sx2a, .slice Ax2a nx2a cx2a, .bool sx2b, .slice Ax2b nx2b cx2b] from (hK.at_ 9 (by rfl)).2.2) (apart_of fun p hp => Nat.ne_of_lt (Nat.lt_of_lt_of_le (hlt_ p hp) lw29))
  have lw36 : w1.heap.size ≤ g36 := hK.low 16 _ (by rfl)
  have o36 : Own w g36 := Own.of hE_ lw36
  replace hS := hS.addB (show Blk w2 g36 30 #[.bool sx1d, .slice Ax1d nx1d cx1d, .bool sx2d, .slice Ax2d nx2d cx2d] from (hK.at_ 16 (by rfl)).2.2) ⟨tame_ne hl29 hl36 (hK.disj 9 16 _ _ (by omega) (by rfl) (by rfl)), (apart_of fun p hp => Nat.ne_of_lt (Nat.lt_of_lt_of_le (hlt_ p hp) lw36))⟩
  have lw7 : w1.heap.size ≤ g7 := hK.low 18 _ (by rfl)
  have o7 : Own w g7 := Own.of hE_ lw7
  replace hS := hS.addB (show Blk w2 g7 30 #[.bool false, .slice none 0 0] from (hK.at_ 18 (by rfl)).2.2) ⟨tame_ne hl36 hl7 (hK.disj 16 18 _ _ (by omega) (by rfl) (by rfl)), ⟨tame_ne hl29 hl7 (hK.disj 9 18 _ _ (by omega) (by rfl) (by rfl)), (apart_of fun p hp => Nat.ne_of_lt (Nat.lt_of_lt_of_le (hlt_ p hp) lw7))⟩⟩
  have lw8 : w1.heap.size ≤ g8 := hK.low 19 _ (by rfl)
  have o8 : Own w g8 := Own.of hE_ lw8
  replace hS := hS.addB (show Blk w2 g8 30 #[.bool false, .slice none 0 0] from (hK.at_ 19 (by rfl)).2.2) ⟨tame_ne hl7 hl8 (hK.disj 18 19 _ _ (by omega) (by rfl) (by rfl)), ⟨tame_ne hl36 hl8 (hK.disj 16 19 _ _ (by omega) (by rfl) (by rfl)), ⟨tame_ne hl29 hl8 (hK.disj 9 19 _ _ (by omega) (by rfl) (by rfl)), (apart_of fun p hp => Nat.ne_of_lt (Nat.lt_of_lt_of_le (hlt_ p hp) lw8))⟩⟩⟩
  clear hK hlt_ hE_ Y5 Y4
  clear lw29 hl29 hi29
  clear lw36 hl36 hi36
  clear lw7 hl7 hi7
  clear lw8 hl8 hi8
  have k_1 := (hS.blk 1 rfl).cell
  have k_2 := (hS.blk 1 rfl).frozen
  have hT1 := (St.put (W' := ((w2.setCell ⟨g7, 0, none⟩ (.bool s30)).setCell ⟨g7, 1, none⟩ (.slice A_30 n30 c30))) hS 1 0 [.bool s30, .slice A_30 n30 c30] (cs' := #[.bool s30, .slice A_30 n30 c30]) (bs' := _) rfl o7 rfl rfl rfl rfl)
  have k_3 := (hT1.blk 0 rfl).cell
  have k_4 := (hT1.blk 0 rfl).frozen
  go_wp2_with fail
  clear k_1 k_2 k_3 k_4
  clear hT1
  replace hS := (St.put (W' := ((((w2.setCell ⟨g7, 0, none⟩ (.bool s30)).setCell ⟨g7, 1, none⟩ (.slice A_30 n30 c30)).setCell ⟨g8, 0, none⟩ (.bool s37)).setCell ⟨g8, 1, none⟩ (.slice A_37 n37 c37))) (St.put (W' := ((w2.setCell ⟨g7, 0, none⟩ (.bool s30)).setCell ⟨g7, 1, none⟩ (.slice A_30 n30 c30))) hS 1 0 [.bool s30, .slice A_30 n30 c30] (cs' := #[.bool s30, .slice A_30 n30 c30]) (bs' := _) rfl o7 rfl rfl rfl rfl) 0 0 [.bool s37, .slice A_37 n37 c37] (cs' := #[.bool s37, .slice A_37 n37 c37]) (bs' := _) rfl o8 rfl rfl rfl rfl)
  simp only [List.set_cons_zero, List.set_cons_succ] at hS
  generalize ((((w2.setCell ⟨g7, 0, none⟩ (.bool s30)).setCell ⟨g7, 1, none⟩ (.slice A_30 n30 c30)).setCell ⟨g8, 0, none⟩ (.bool s37)).setCell ⟨g8, 1, none⟩ (.slice A_37 n37 c37)) = w3 at hS ⊢
  have Y7 := ExtOf.blk (hS.blk 1 rfl)
  have Y4 := ExtOf.blk (hS.blk 6 rfl)
  have hE_ := hS.ext
  refine wp_region_tame 12 (hasF [(4, .any), (9, .any), (10, .any), (11, .any)]) (Fcs [(4, .ri (z42)), (9, .ri (z47)), (10, .box 30 #[.bool false, .slice none 0 0]), (11, .box 30 #[.bool false, .slice none 0 0])]) (Fcs_stab _) (by kernel_rfl) (by kernel_rfl) ?_
  simp only [List.take_succ_cons, List.take_zero, List.drop_succ_cons, List.drop_zero]
  refine wpT_quiet 4 (by rfl) (by kernel_rfl) ?_
  simp only [List.take_succ_cons, List.take_zero, List.drop_succ_cons, List.drop_zero]
  repeat (go_big_quiet_step (fail))
  refine wpQuiet_nil ?_
  refine wpT_eff (by rfl) (by rfl) (by rfl) ?_ ?_
  · intro W_ hK
    have hW := hK.1
    clear hK
    go_simp
    exact ⟨rfl, (ediv_ok gc _ _ x1a z30 z42 _ (Blk.ext (hS.blk 7 rfl) hW) (RI.ext (hS.num 7 rfl) hW) (RI.ext (hS.num 1 rfl) hW) ax1a A30 N42.out ND42.out E42.out).mono fun e w' ⟨v, he, hR, hx⟩ => ⟨v, he, hx, hR⟩⟩
  intro v_ lo42 hi42 hr_
  obtain ⟨W_, hW_⟩ := hr_
  have hv_ : Fc.holds (.ri (z42)) lo42 hi42 v_ W_ := hW_.get
  clear hW_
  obtain ⟨s42, A_42, n42, c42, rfl, -⟩ := RI.opn hv_
  clear hv_
  clear W_
  try simp only [Act.put, List.setIfInBounds_toArray, List.set_cons_succ, List.set_cons_zero]
  refine wpT_quiet 4 (by rfl) (by kernel_rfl) ?_
  simp only [List.take_succ_cons, List.take_zero, List.drop_succ_cons, List.drop_zero]
  repeat (go_big_quiet_step (fail))
  refine wpQuiet_nil ?_
  refine wpT_eff (by rfl) (by rfl) (by rfl) ?_ ?_
  · intro W_ hK
    have hW := hK.1
    clear hK
    go_simp
    exact ⟨rfl, (ediv_ok gc _ _ x1b z30 z47 _ (Blk.ext (hS.blk 7 rfl) hW) (RI.ext (hS.num 6 rfl) hW) (RI.ext (hS.num 1 rfl) hW) ax1b A30 N47.out ND47.out E47.out).mono fun e w' ⟨v, he, hR, hx⟩ => ⟨v, he, hx, hR⟩⟩
  intro v_ lo47 hi47 hr_
  obtain ⟨W_, hW_⟩ := hr_
  have hv_ : Fc.holds (.ri (z47)) lo47 hi47 v_ W_ := hW_.get
  clear hW_
  obtain ⟨s47, A_47, n47, c47, rfl, -⟩ := RI.opn hv_
  clear hv_
  clear W_
  try simp only [Act.put, List.setIfInBounds_toArray, List.set_cons_succ, List.set_cons_zero]
  refine wpT_eff (by rfl) (by rfl) (by rfl) ?_ ?_
  · intro W_ hK
    go_simp
    exact ⟨Ext.new _ _, rfl, by simp, Blk.new _ _ _⟩
  intro v_ g9 hi9 hr_
  obtain ⟨W_, hW_⟩ := hr_
  obtain ⟨rfl, hl9, -⟩ : Fc.holds (.box 30 #[.bool false, .slice none 0 0]) g9 hi9 v_ W_ := hW_.get
  clear hW_ W_
  try simp only [Act.put, List.setIfInBounds_toArray, List.set_cons_succ, List.set_cons_zero]
  refine wpT_eff (by rfl) (by rfl) (by rfl) ?_ ?_
  · intro W_ hK
    go_simp
    exact ⟨Ext.new _ _, rfl, by simp, Blk.new _ _ _⟩
  intro v_ g10 hi10 hr_
  obtain ⟨W_, hW_⟩ := hr_
  obtain ⟨rfl, hl10, -⟩ : Fc.holds (.box 30 #[.bool false, .slice none 0 0]) g10 hi10 v_ W_ := hW_.get
  clear hW_ W_
  try simp only [Act.put, List.setIfInBounds_toArray, List.set_cons_succ, List.set_cons_zero]
  refine wpT_nil ?_
  intro w4 hK
  have hlt_ := hS.lt
  replace hS := hS.mv hK.ext
  replace hS := hS.addI (show RI w4 (iv s42 A_42 n42 c42) z42 from hK.at_ 4 (e := ((iv s42 A_42 n42 c42), lo42, hi42)) (by rfl))
  replace hS := hS.addI (show RI w4 (iv s47 A_47 n47 c47) z47 from hK.at_ 9 (e := ((iv s47 A_47 n47 c47), lo47, hi47)) (by rfl))
  have lw9 : w3.heap.size ≤ g9 := hK.low 10 _ (by rfl)
  have o9 : Own w g9 := Own.of hE_ lw9
  replace hS := hS.addB (show Blk w4 g9 30 #[.bool false, .slice none 0 0] from (hK.at_ 10 (by rfl)).2.2) (apart_of fun p hp => Nat.ne_of_lt (Nat.lt_of_lt_of_le (hlt_ p hp) lw9))
  have lw10 : w3.heap.size ≤ g10 := hK.low 11 _ (by rfl)
  have o10 : Own w g10 := Own.of hE_ lw10
  replace hS := hS.addB (show Blk w4 g10 30 #[.bool false, .slice none 0 0] from (hK.at_ 11 (by rfl)).2.2) ⟨tame_ne hl9 hl10 (hK.disj 10 11 _ _ (by omega) (by rfl) (by rfl)), (apart_of fun p hp => Nat.ne_of_lt (Nat.lt_of_lt_of_le (hlt_ p hp) lw10))⟩
  clear hK hlt_ hE_ Y7 Y4
  clear lw9 hl9 hi9
  clear lw10 hl10 hi10
  have k_5 := (hS.blk 1 rfl).cell
  have k_6 := (hS.blk 1 rfl).frozen
  have hT2 := (St.put (W' := ((w4.setCell ⟨g9, 0, none⟩ (.bool s42)).setCell ⟨g9, 1, none⟩ (.slice A_42 n42 c42))) hS 1 0 [.bool s42, .slice A_42 n42 c42] (cs' := #[.bool s42, .slice A_42 n42 c42]) (bs' := _) rfl o9 rfl rfl rfl rfl)
  have k_7 := (hT2.blk 0 rfl).cell
  have k_8 := (hT2.blk 0 rfl).frozen
  go_wp2_with fail
  clear k_5 k_6 k_7 k_8
  clear hT2
  replace hS := (St.put (W' := ((((w4.setCell ⟨g9, 0, none⟩ (.bool s42)).setCell ⟨g9, 1, none⟩ (.slice A_42 n42 c42)).setCell ⟨g10, 0, none⟩ (.bool s47)).setCell ⟨g10, 1, none⟩ (.slice A_47 n47 c47))) (St.put (W' := ((w4.setCell ⟨g9, 0, none⟩ (.bool s42)).setCell ⟨g9, 1, none⟩ (.slice A_42 n42 c42))) hS 1 0 [.bool s42, .slice A_42 n42 c42] (cs' := #[.bool s42, .slice A_42 n42 c42]) (bs' := _) rfl o9 rfl rfl rfl rfl) 0 0 [.bool s47, .slice A_47 n47 c47] (cs' := #[.bool s47, .slice A_47 n47 c47]) (bs' := _) rfl o10 rfl rfl rfl rfl)
  simp only [List.set_cons_zero, List.set_cons_succ] at hS
  generalize ((((w4.setCell ⟨g9, 0, none⟩ (.bool s42)).setCell ⟨g9, 1, none⟩ (.slice A_42 n42 c42)).setCell ⟨g10, 0, none⟩ (.bool s47)).setCell ⟨g10, 1, none⟩ (.slice A_47 n47 c47)) = w5 at hS ⊢
  have Y7 := ExtOf.blk (hS.blk 3 rfl)
  have Y5 := ExtOf.blk (hS.blk 7 rfl)
  have hE_ := hS.ext
  refine wp_region_tame 12 (hasF [(4, .any), (9, .any), (10, .any), (11, .any)]) (Fcs [(4, .ri (z52)), (9, .ri (z57)), (10, .box 30 #[.bool false, .slice none 0 0]), (11, .box 30 #[.bool false, .slice none 0 0])]) (Fcs_stab _) (by kernel_rfl) (by kernel_rfl) ?_
  simp only [List.take_succ_cons, List.take_zero, List.drop_succ_cons, List.drop_zero]
  refine wpT_quiet 4 (by rfl) (by kernel_rfl) ?_
  simp only [List.take_succ_cons, List.take_zero, List.drop_succ_cons, List.drop_zero]
  repeat (go_big_quiet_step (fail))
  refine wpQuiet_nil ?_
  refine wpT_eff (by rfl) (by rfl) (by rfl) ?_ ?_
  · intro W_ hK
    have hW := hK.1
    clear hK
    go_simp
    exact ⟨rfl, (ediv_ok gc _ _ x2a z30 z52 _ (Blk.ext (hS.blk 9 rfl) hW) (RI.ext (hS.num 6 rfl) hW) (RI.ext (hS.num 3 rfl) hW) ax2a A30 N52.out ND52.out E52.out).mono fun e w' ⟨v, he, hR, hx⟩ => ⟨v, he, hx, hR⟩⟩
  intro v_ lo52 hi52 hr_
  obtain ⟨W_, hW_⟩ := hr_
  have hv_ : Fc.holds (.ri (z52)) lo52 hi52 v_ W_ := hW_.get
  clear hW_
  obtain ⟨s52, A_52, n52, c52, rfl, -⟩ := RI.opn hv_
  clear hv_
  clear W_
  try simp only [Act.put, List.setIfInBounds_toArray, List.set_cons_succ, List.set_cons_zero]
  refine wpT_quiet 4 (by rfl) (by kernel_rfl) ?_
  simp only [List.take_succ_cons, List.take_zero, List.drop_succ_cons, List.drop_zero]
  repeat (go_big_quiet_step (fail))
  refine wpQuiet_nil ?_
  refine wpT_eff (by rfl) (by rfl) (by rfl) ?_ ?_
  · intro W_ hK
    have hW := hK.1
    clear hK
    go_simp
    exact ⟨rfl, (ediv_ok gc _ _ x2b z30 z57 _ (Blk.ext (hS.blk 9 rfl) hW) (RI.ext (hS.num 5 rfl) hW) (RI.ext (hS.num 3 rfl) hW) ax2b A30 N57.out ND57.out E57.out).mono fun e w' ⟨v, he, hR, hx⟩ => ⟨v, he, hx, hR⟩⟩
  intro v_ lo57 hi57 hr_
  obtain ⟨W_, hW_⟩ := hr_
  have hv_ : Fc.holds (.ri (z57)) lo57 hi57 v_ W_ := hW_.get
  clear hW_
  obtain ⟨s57, A_57, n57, c57, rfl, -⟩ := RI.opn hv_
  clear hv_
  clear W_
  try simp only [Act.put, List.setIfInBounds_toArray, List.set_cons_succ, List.set_cons_zero]
  refine wpT_eff (by rfl) (by rfl) (by rfl) ?_ ?_
  · intro W_ hK
    go_simp
    exact ⟨Ext.new _ _, rfl, by simp, Blk.new _ _ _⟩
  intro v_ g11 hi11 hr_
  obtain ⟨W_, hW_⟩ := hr_
  obtain ⟨rfl, hl11, -⟩ : Fc.holds (.box 30 #[.bool false, .slice none 0 0]) g11 hi11 v_ W_ := hW_.get
  clear hW_ W_
  try simp only [Act.put, List.setIfInBounds_toArray, List.set_cons_succ, List.set_cons_zero]
  refine wpT_eff (by rfl) (by rfl) (by rfl) ?_ ?_
  · intro W_ hK
    go_simp
    exact ⟨Ext.new _ _, rfl, by simp, Blk.new _ _ _⟩
  intro v_ g12 hi12 hr_
  obtain ⟨W_, hW_⟩ := hr_
  obtain ⟨rfl, hl12, -⟩ : Fc.holds (.box 30 #[.bool false, .slice none 0 0]) g12 hi12 v_ W_ := hW_.get
  clear hW_ W_
  try simp only [Act.put, List.setIfInBounds_toArray, List.set_cons_succ, List.set_cons_zero]
  refine wpT_nil ?_
  intro w6 hK
  have hlt_ := hS.lt
  replace hS := hS.mv hK.ext
  replace hS := hS.addI (show RI w6 (iv s52 A_52 n52 c52) z52 from hK.at_ 4 (e := ((iv s52 A_52 n52 c52), lo52, hi52)) (by rfl))
  replace hS := hS.addI (show RI w6 (iv s57 A_57 n57 c57) z57 from hK.at_ 9 (e := ((iv s57 A_57 n57 c57), lo57, hi57)) (by rfl))
  have lw11 : w5.heap.size ≤ g11 := hK.low 10 _ (by rfl)
  have o11 : Own w g11 := Own.of hE_ lw11
  replace hS := hS.addB (show Blk w6 g11 30 #[.bool false, .slice none 0 0] from (hK.at_ 10 (by rfl)).2.2) (apart_of fun p hp => Nat.ne_of_lt (Nat.lt_of_lt_of_le (hlt_ p hp) lw11))
  have lw12 : w5.heap.size ≤ g12 := hK.low 11 _ (by rfl)
  have o12 : Own w g12 := Own.of hE_ lw12
  replace hS := hS.addB (show Blk w6 g12 30 #[.bool false, .slice none 0 0] from (hK.at_ 11 (by rfl)).2.2) ⟨tame_ne hl11 hl12 (hK.disj 10 11 _ _ (by omega) (by rfl) (by rfl)), (apart_of fun p hp => Nat.ne_of_lt (Nat.lt_of_lt_of_le (hlt_ p hp) lw12))⟩
  clear hK hlt_ hE_ Y7 Y5
  clear lw11 hl11 hi11
  clear lw12 hl12 hi12
  have k_9 := (hS.blk 1 rfl).cell
  have k_10 := (hS.blk 1 rfl).frozen
  have hT3 := (St.put (W' := ((w6.setCell ⟨g11, 0, none⟩ (.bool s52)).setCell ⟨g11, 1, none⟩ (.slice A_52 n52 c52))) hS 1 0 [.bool s52, .slice A_52 n52 c52] (cs' := #[.bool s52, .slice A_52 n52 c52]) (bs' := _) rfl o11 rfl rfl rfl rfl)
  have k_11 := (hT3.blk 0 rfl).cell
  have k_12 := (hT3.blk 0 rfl).frozen
  have hT4 := (St.put (W' := ((((w6.setCell ⟨g11, 0, none⟩ (.bool s52)).setCell ⟨g11, 1, none⟩ (.slice A_52 n52 c52)).setCell ⟨g12, 0, none⟩ (.bool s57)).setCell ⟨g12, 1, none⟩ (.slice A_57 n57 c57))) (St.put (W' := ((w6.setCell ⟨g11, 0, none⟩ (.bool s52)).setCell ⟨g11, 1, none⟩ (.slice A_52 n52 c52))) hS 1 0 [.bool s52, .slice A_52 n52 c52] (cs' := #[.bool s52, .slice A_52 n52 c52]) (bs' := _) rfl o11 rfl rfl rfl rfl) 0 0 [.bool s57, .slice A_57 n57 c57] (cs' := #[.bool s57, .slice A_57 n57 c57]) (bs' := _) rfl o12 rfl rfl rfl rfl)
  have k_13 := (hT4.blk 1 rfl).cell
  have k_14 := (hT4.blk 0 rfl).cell
  have o61 : Own w w6.heap.size := Own.of hS.ext (by simp)
  go_wp2_with fail
  clear k_9 k_10 k_11 k_12 k_13 k_14
  clear hT3 hT4
  replace hS := (St.al (St.put (W' := ((((w6.setCell ⟨g11, 0, none⟩ (.bool s52)).setCell ⟨g11, 1, none⟩ (.slice A_52 n52 c52)).setCell ⟨g12, 0, none⟩ (.bool s57)).setCell ⟨g12, 1, none⟩ (.slice A_57 n57 c57))) (St.put (W' := ((w6.setCell ⟨g11, 0, none⟩ (.bool s52)).setCell ⟨g11, 1, none⟩ (.slice A_52 n52 c52))) hS 1 0 [.bool s52, .slice A_52 n52 c52] (cs' := #[.bool s52, .slice A_52 n52 c52]) (bs' := _) rfl o11 rfl rfl rfl rfl) 0 0 [.bool s57, .slice A_57 n57 c57] (cs' := #[.bool s57, .slice A_57 n57 c57]) (bs' := _) rfl o12 rfl rfl rfl rfl) 30 #[.bool s52, .slice A_52 n52 c52, .bool s57, .slice A_57 n57 c57] (g := w6.heap.size) (by simp))
  simp only [List.set_cons_zero, List.set_cons_succ] at hS
  generalize (((((w6.setCell ⟨g11, 0, none⟩ (.bool s52)).setCell ⟨g11, 1, none⟩ (.slice A_52 n52 c52)).setCell ⟨g12, 0, none⟩ (.bool s57)).setCell ⟨g12, 1, none⟩ (.slice A_57 n57 c57)).alloc (.cells #[.bool s52, .slice A_52 n52 c52, .bool s57, .slice A_57 n57 c57] 30)) = w7 at hS ⊢
  generalize w6.heap.size = g61 at hS o61 ⊢
  refine (egcd2_ok gc g61 z52 z57 z62 _ (hS.blk 12 rfl) (hS.blk 0 rfl) (hS.num 1 rfl) (hS.num 0 rfl) A52 A57 E62).mono ?_
  rintro e w8 ⟨v_, rfl, hv_, hx_⟩
  replace hS := hS.mv hx_
  clear hx_
  obtain ⟨s62, A_62, n62, c62, rfl, f_s62⟩ := RI.opn hv_
  clear hv_
  replace hS := hS.addI f_s62
  clear f_s62
  have o13 : Own w w8.heap.size := Own.of hS.ext (by simp)
  have hT5 := (St.al hS 30 #[.bool false, .slice none 0 0] (g := w8.heap.size) (by simp))
  have k_15 := (hT5.blk 0 rfl).cell
  have k_16 := (hT5.blk 0 rfl).frozen
  go_wp2_with fail
  clear k_15 k_16
  clear hT5
  replace hS := (St.al hS 30 #[.bool s62, .slice A_62 n62 c62] (g := w8.heap.size) (by simp))
  generalize (w8.alloc (.cells #[.bool s62, .slice A_62 n62 c62] 30)) = w9 at hS ⊢
  generalize w8.heap.size = g13 at hS o13 ⊢
  have Y13 := ExtOf.blk (hS.blk 0 rfl)
  have Y12 := ExtOf.blk (hS.blk 2 rfl)
  have Y11 := ExtOf.blk (hS.blk 3 rfl)
  have hE_ := hS.ext
  refine wp_region_tame 8 (hasF [(3, .any), (7, .any)]) (Fcs [(3, .ri (z66)), (7, .ri (z70))]) (Fcs_stab _) (by kernel_rfl) (by kernel_rfl) ?_
  simp only [List.take_succ_cons, List.take_zero, List.drop_succ_cons, List.drop_zero]
  refine wpT_quiet 3 (by rfl) (by kernel_rfl) ?_
  simp only [List.take_succ_cons, List.take_zero, List.drop_succ_cons, List.drop_zero]
  repeat (go_big_quiet_step (fail))
  refine wpQuiet_nil ?_
  refine wpT_eff (by rfl) (by rfl) (by rfl) ?_ ?_
  · intro W_ hK
    have hW := hK.1
    clear hK
    go_simp
    exact ⟨rfl, (ediv_ok gc _ _ z52 z62 z66 _ (Blk.ext (hS.blk 13 rfl) hW) (RI.ext (hS.num 2 rfl) hW) (RI.ext (hS.num 0 rfl) hW) A52 A62 N66.out ND66.out E66.out).mono fun e w' ⟨v, he, hR, hx⟩ => ⟨v, he, hx, hR⟩⟩
  intro v_ lo66 hi66 hr_
  obtain ⟨W_, hW_⟩ := hr_
  have hv_ : Fc.holds (.ri (z66)) lo66 hi66 v_ W_ := hW_.get
  clear hW_
  obtain ⟨s66, A_66, n66, c66, rfl, -⟩ := RI.opn hv_
  clear hv_
  clear W_
  try simp only [Act.put, List.setIfInBounds_toArray, List.set_cons_succ, List.set_cons_zero]
  refine wpT_quiet 3 (by rfl) (by kernel_rfl) ?_
  simp only [List.take_succ_cons, List.take_zero, List.drop_succ_cons, List.drop_zero]
  repeat (go_big_quiet_step (fail))
  refine wpQuiet_nil ?_
  refine wpT_eff (by rfl) (by rfl) (by rfl) ?_ ?_
  · intro W_ hK
    have hW := hK.1
    clear hK
    go_simp
    exact ⟨rfl, (ediv_ok gc _ _ z57 z62 z70 _ (Blk.ext (hS.blk 13 rfl) hW) (RI.ext (hS.num 1 rfl) hW) (RI.ext (hS.num 0 rfl) hW) A57 A62 N70.out ND70.out E70.out).mono fun e w' ⟨v, he, hR, hx⟩ => ⟨v, he, hx, hR⟩⟩
  intro v_ lo70 hi70 hr_
  obtain ⟨W_, hW_⟩ := hr_
  have hv_ : Fc.holds (.ri (z70)) lo70 hi70 v_ W_ := hW_.get
  clear hW_
  obtain ⟨s70, A_70, n70, c70, rfl, -⟩ := RI.opn hv_
  clear hv_
  clear W_
  try simp only [Act.put, List.setIfInBounds_toArray, List.set_cons_succ, List.set_cons_zero]
  refine wpT_nil ?_
  intro w10 hK
  have hlt_ := hS.lt
  replace hS := hS.mv hK.ext
  replace hS := hS.addI (show RI w10 (iv s66 A_66 n66 c66) z66 from hK.at_ 3 (e := ((iv s66 A_66 n66 c66), lo66, hi66)) (by rfl))
  replace hS := hS.addI (show RI w10 (iv s70 A_70 n70 c70) z70 from hK.at_ 7 (e := ((iv s70 A_70 n70 c70), lo70, hi70)) (by rfl))
  clear hK hlt_ hE_ Y13 Y12 Y11
  have k_17 := (hS.blk 3 rfl).cell
  have k_18 := (hS.blk 3 rfl).frozen
  have hT6 := (St.put (W' := ((w10.setCell ⟨g11, 0, none⟩ (.bool s66)).setCell ⟨g11, 1, none⟩ (.slice A_66 n66 c66))) hS 3 0 [.bool s66, .slice A_66 n66 c66] (cs' := #[.bool s66, .slice A_66 n66 c66]) (bs' := _) rfl o11 rfl rfl rfl rfl)
  have k_19 := (hT6.blk 2 rfl).cell
  have k_20 := (hT6.blk 2 rfl).frozen
  go_wp2_with fail
  clear k_17 k_18 k_19 k_20
  clear hT6
  replace hS := (St.put (W' := ((((w10.setCell ⟨g11, 0, none⟩ (.bool s66)).setCell ⟨g11, 1, none⟩ (.slice A_66 n66 c66)).setCell ⟨g12, 0, none⟩ (.bool s70)).setCell ⟨g12, 1, none⟩ (.slice A_70 n70 c70))) (St.put (W' := ((w10.setCell ⟨g11, 0, none⟩ (.bool s66)).setCell ⟨g11, 1, none⟩ (.slice A_66 n66 c66))) hS 3 0 [.bool s66, .slice A_66 n66 c66] (cs' := #[.bool s66, .slice A_66 n66 c66]) (bs' := _) rfl o11 rfl rfl rfl rfl) 2 0 [.bool s70, .slice A_70 n70 c70] (cs' := #[.bool s70, .slice A_70 n70 c70]) (bs' := _) rfl o12 rfl rfl rfl rfl)
  simp only [List.set_cons_zero, List.set_cons_succ] at hS
  generalize ((((w10.setCell ⟨g11, 0, none⟩ (.bool s66)).setCell ⟨g11, 1, none⟩ (.slice A_66 n66 c66)).setCell ⟨g12, 0, none⟩ (.bool s70)).setCell ⟨g12, 1, none⟩ (.slice A_70 n70 c70)) = w11 at hS ⊢
  have Y12 := ExtOf.blk (hS.blk 2 rfl)
  have Y11 := ExtOf.blk (hS.blk 3 rfl)
  have Y10 := ExtOf.blk (hS.blk 4 rfl)
  have Y9 := ExtOf.blk (hS.blk 5 rfl)
  have hE_ := hS.ext
  refine wp_region_tame 11 (hasF [(4, .any), (8, .any), (9, .any), (10, .any)]) (Fcs [(4, .ri (z75)), (8, .ri (z79)), (9, .ri (z80)), (10, .box 30 #[.bool false, .slice none 0 0])]) (Fcs_stab _) (by kernel_rfl) (by kernel_rfl) ?_
  simp only [List.take_succ_cons, List.take_zero, List.drop_succ_cons, List.drop_zero]
  refine wpT_quiet 4 (by rfl) (by kernel_rfl) ?_
  simp only [List.take_succ_cons, List.take_zero, List.drop_succ_cons, List.drop_zero]
  repeat (go_big_quiet_step (fail))
  refine wpQuiet_nil ?_
  refine wpT_eff (by rfl) (by rfl) (by rfl) ?_ ?_
  · intro W_ hK
    have hW := hK.1
    clear hK
    go_simp
    exact ⟨rfl, (emul_ok gc _ _ z42 z66 z75 _ (Blk.ext (hS.blk 13 rfl) hW) (RI.ext (hS.num 6 rfl) hW) (RI.ext (hS.num 1 rfl) hW) A42 A66 E75.out A75).mono fun e w' ⟨v, he, hR, hx⟩ => ⟨v, he, hx, hR⟩⟩
  intro v_ lo75 hi75 hr_
  obtain ⟨W_, hW_⟩ := hr_
  have hv_ : Fc.holds (.ri (z75)) lo75 hi75 v_ W_ := hW_.get
  clear hW_
  obtain ⟨s75, A_75, n75, c75, rfl, -⟩ := RI.opn hv_
  clear hv_
  clear W_
  try simp only [Act.put, List.setIfInBounds_toArray, List.set_cons_succ, List.set_cons_zero]
  refine wpT_quiet 3 (by rfl) (by kernel_rfl) ?_
  simp only [List.take_succ_cons, List.take_zero, List.drop_succ_cons, List.drop_zero]
  repeat (go_big_quiet_step (fail))
  refine wpQuiet_nil ?_
  refine wpT_eff (by rfl) (by rfl) (by rfl) ?_ ?_
  · intro W_ hK
    have hW := hK.1
    clear hK
    go_simp
    exact ⟨rfl, (emul_ok gc _ _ z47 z70 z79 _ (Blk.ext (hS.blk 13 rfl) hW) (RI.ext (hS.num 5 rfl) hW) (RI.ext (hS.num 0 rfl) hW) A47 A70 E79.out A79).mono fun e w' ⟨v, he, hR, hx⟩ => ⟨v, he, hx, hR⟩⟩
  intro v_ lo79 hi79 hr_
  obtain ⟨W_, hW_⟩ := hr_
  have hv_ : Fc.holds (.ri (z79)) lo79 hi79 v_ W_ := hW_.get
  clear hW_
  obtain ⟨s79, A_79, n79, c79, rfl, -⟩ := RI.opn hv_
  clear hv_
  clear W_
  try simp only [Act.put, List.setIfInBounds_toArray, List.set_cons_succ, List.set_cons_zero]
  refine wpT_eff (by rfl) (by rfl) (by rfl) ?_ ?_
  · intro W_ hK
    have hW := hK.1
    have F_s75 : RI W_ (iv s75 A_75 n75 c75) z75 := hK.2 4 ((iv s75 A_75 n75 c75), lo75, hi75) (by rfl) (by kernel_rfl)
    have F_s79 : RI W_ (iv s79 A_79 n79 c79) z79 := hK.2 8 ((iv s79 A_79 n79 c79), lo79, hi79) (by rfl) (by kernel_rfl)
    clear hK
    go_simp
    exact ⟨rfl, (eadd_ok gc _ _ z75 z79 z80 _ (Blk.ext (hS.blk 13 rfl) hW) F_s75 F_s79 A75 A79 E80.out A80).mono fun e w' ⟨v, he, hR, hx⟩ => ⟨v, he, hx, hR⟩⟩
  intro v_ lo80 hi80 hr_
  obtain ⟨W_, hW_⟩ := hr_
  have hv_ : Fc.holds (.ri (z80)) lo80 hi80 v_ W_ := hW_.get
  clear hW_
  obtain ⟨s80, A_80, n80, c80, rfl, -⟩ := RI.opn hv_
  clear hv_
  clear W_
  try simp only [Act.put, List.setIfInBounds_toArray, List.set_cons_succ, List.set_cons_zero]
  refine wpT_eff (by rfl) (by rfl) (by rfl) ?_ ?_
  · intro W_ hK
    go_simp
    exact ⟨Ext.new _ _, rfl, by simp, Blk.new _ _ _⟩
  intro v_ g14 hi14 hr_
  obtain ⟨W_, hW_⟩ := hr_
  obtain ⟨rfl, hl14, -⟩ : Fc.holds (.box 30 #[.bool false, .slice none 0 0]) g14 hi14 v_ W_ := hW_.get
  clear hW_ W_
  try simp only [Act.put, List.setIfInBounds_toArray, List.set_cons_succ, List.set_cons_zero]
  refine wpT_nil ?_
  intro w12 hK
  have hlt_ := hS.lt
  replace hS := hS.mv hK.ext
  replace hS := hS.addI (show RI w12 (iv s75 A_75 n75 c75) z75 from hK.at_ 4 (e := ((iv s75 A_75 n75 c75), lo75, hi75)) (by rfl))
  replace hS := hS.addI (show RI w12 (iv s79 A_79 n79 c79) z79 from hK.at_ 8 (e := ((iv s79 A_79 n79 c79), lo79, hi79)) (by rfl))
  replace hS := hS.addI (show RI w12 (iv s80 A_80 n80 c80) z80 from hK.at_ 9 (e := ((iv s80 A_80 n80 c80), lo80, hi80)) (by rfl))
  have lw14 : w11.heap.size ≤ g14 := hK.low 10 _ (by rfl)
  have o14 : Own w g14 := Own.of hE_ lw14
  replace hS := hS.addB (show Blk w12 g14 30 #[.bool false, .slice none 0 0] from (hK.at_ 10 (by rfl)).2.2) (apart_of fun p hp => Nat.ne_of_lt (Nat.lt_of_lt_of_le (hlt_ p hp) lw14))
  clear hK hlt_ hE_ Y12 Y11 Y10 Y9
  clear lw14 hl14 hi14
  have k_21 := (hS.blk 0 rfl).cell
  have k_22 := (hS.blk 0 rfl).frozen
  go_wp2_with fail
  clear k_21 k_22
  replace hS := (St.put (W' := ((w12.setCell ⟨g14, 0, none⟩ (.bool s80)).setCell ⟨g14, 1, none⟩ (.slice A_80 n80 c80))) hS 0 0 [.bool s80, .slice A_80 n80 c80] (cs' := #[.bool s80, .slice A_80 n80 c80]) (bs' := _) rfl o14 rfl rfl rfl rfl)
  simp only [List.set_cons_zero] at hS
  generalize ((w12.setCell ⟨g14, 0, none⟩ (.bool s80)).setCell ⟨g14, 1, none⟩ (.slice A_80 n80 c80)) = w13 at hS ⊢
  have Y12 := ExtOf.blk (hS.blk 3 rfl)
  have Y11 := ExtOf.blk (hS.blk 4 rfl)
  have Y10 := ExtOf.blk (hS.blk 5 rfl)
  have Y9 := ExtOf.blk (hS.blk 6 rfl)
  have hE_ := hS.ext
  refine wp_region_tame 11 (hasF [(4, .any), (8, .any), (9, .any), (10, .any)]) (Fcs [(4, .ri (z85)), (8, .ri (z89)), (9, .ri (z90)), (10, .box 30 #[.bool false, .slice none 0 0])]) (Fcs_stab _) (by kernel_rfl) (by kernel_rfl) ?_
  simp only [List.take_succ_cons, List.take_zero, List.drop_succ_cons, List.drop_zero]
  refine wpT_quiet 4 (by rfl) (by kernel_rfl) ?_
  simp only [List.take_succ_cons, List.take_zero, List.drop_succ_cons, List.drop_zero]
  repeat (go_big_quiet_step (fail))
  refine wpQuiet_nil ?_
  refine wpT_eff (by rfl) (by rfl) (by rfl) ?_ ?_
  · intro W_ hK
    have hW := hK.1
    clear hK
    go_simp
    exact ⟨rfl, (emul_ok gc _ _ z47 z66 z85 _ (Blk.ext (hS.blk 14 rfl) hW) (RI.ext (hS.num 8 rfl) hW) (RI.ext (hS.num 4 rfl) hW) A47 A66 E85.out A85).mono fun e w' ⟨v, he, hR, hx⟩ => ⟨v, he, hx, hR⟩⟩
  intro v_ lo85 hi85 hr_
  obtain ⟨W_, hW_⟩ := hr_
  have hv_ : Fc.holds (.ri (z85)) lo85 hi85 v_ W_ := hW_.get
  clear hW_
  obtain ⟨s85, A_85, n85, c85, rfl, -⟩ := RI.opn hv_
  clear hv_
  clear W_
  try simp only [Act.put, List.setIfInBounds_toArray, List.set_cons_succ, List.set_cons_zero]
  refine wpT_quiet 3 (by rfl) (by kernel_rfl) ?_
  simp only [List.take_succ_cons, List.take_zero, List.drop_succ_cons, List.drop_zero]
  repeat (go_big_quiet_step (fail))
  refine wpQuiet_nil ?_
  refine wpT_eff (by rfl) (by rfl) (by rfl) ?_ ?_
  · intro W_ hK
    have hW := hK.1
    clear hK
    go_simp
    exact ⟨rfl, (emul_ok gc _ _ z42 z70 z89 _ (Blk.ext (hS.blk 14 rfl) hW) (RI.ext (hS.num 9 rfl) hW) (RI.ext (hS.num 3 rfl) hW) A42 A70 E89.out A89).mono fun e w' ⟨v, he, hR, hx⟩ => ⟨v, he, hx, hR⟩⟩
  intro v_ lo89 hi89 hr_
  obtain ⟨W_, hW_⟩ := hr_
  have hv_ : Fc.holds (.ri (z89)) lo89 hi89 v_ W_ := hW_.get
  clear hW_
  obtain ⟨s89, A_89, n89, c89, rfl, -⟩ := RI.opn hv_
  clear hv_
  clear W_
  try simp only [Act.put, List.setIfInBounds_toArray, List.set_cons_succ, List.set_cons_zero]
  refine wpT_eff (by rfl) (by rfl) (by rfl) ?_ ?_
  · intro W_ hK
    have hW := hK.1
    have F_s85 : RI W_ (iv s85 A_85 n85 c85) z85 := hK.2 4 ((iv s85 A_85 n85 c85), lo85, hi85) (by rfl) (by kernel_rfl)
    have F_s89 : RI W_ (iv s89 A_89 n89 c89) z89 := hK.2 8 ((iv s89 A_89 n89 c89), lo89, hi89) (by rfl) (by kernel_rfl)
    clear hK
    go_simp
    exact ⟨rfl, (esub_ok gc _ _ z85 z89 z90 _ (Blk.ext (hS.blk 14 rfl) hW) F_s85 F_s89 A85 A89 E90.out A90).mono fun e w' ⟨v, he, hR, hx⟩ => ⟨v, he, hx, hR⟩⟩
  intro v_ lo90 hi90 hr_
  obtain ⟨W_, hW_⟩ := hr_
  have hv_ : Fc.holds (.ri (z90)) lo90 hi90 v_ W_ := hW_.get
  clear hW_
  obtain ⟨s90, A_90, n90, c90, rfl, -⟩ := RI.opn hv_
  clear hv_
  clear W_
  try simp only [Act.put, List.setIfInBounds_toArray, List.set_cons_succ, List.set_cons_zero]
  refine wpT_eff (by rfl) (by rfl) (by rfl) ?_ ?_
  · intro W_ hK
    go_simp
    exact ⟨Ext.new _ _, rfl, by simp, Blk.new _ _ _⟩
  intro v_ g15 hi15 hr_
  obtain ⟨W_, hW_⟩ := hr_
  obtain ⟨rfl, hl15, -⟩ : Fc.holds (.box 30 #[.bool false, .slice none 0 0]) g15 hi15 v_ W_ := hW_.get
  clear hW_ W_
  try simp only [Act.put, List.setIfInBounds_toArray, List.set_cons_succ, List.set_cons_zero]
  refine wpT_nil ?_
  intro w14 hK
  have hlt_ := hS.lt
  replace hS := hS.mv hK.ext
  replace hS := hS.addI (show RI w14 (iv s85 A_85 n85 c85) z85 from hK.at_ 4 (e := ((iv s85 A_85 n85 c85), lo85, hi85)) (by rfl))
  replace hS := hS.addI (show RI w14 (iv s89 A_89 n89 c89) z89 from hK.at_ 8 (e := ((iv s89 A_89 n89 c89), lo89, hi89)) (by rfl))
  replace hS := hS.addI (show RI w14 (iv s90 A_90 n90 c90) z90 from hK.at_ 9 (e := ((iv s90 A_90 n90 c90), lo90, hi90)) (by rfl))
  have lw15 : w13.heap.size ≤ g15 := hK.low 10 _ (by rfl)
  have o15 : Own w g15 := Own.of hE_ lw15
  replace hS := hS.addB (show Blk w14 g15 30 #[.bool false, .slice none 0 0] from (hK.at_ 10 (by rfl)).2.2) (apart_of fun p hp => Nat.ne_of_lt (Nat.lt_of_lt_of_le (hlt_ p hp) lw15))
  clear hK hlt_ hE_ Y12 Y11 Y10 Y9
  clear lw15 hl15 hi15
  have k_23 := (hS.blk 0 rfl).cell
  have k_24 := (hS.blk 0 rfl).frozen
  go_wp2_with fail
  clear k_23 k_24
  replace hS := (St.put (W' := ((w14.setCell ⟨g15, 0, none⟩ (.bool s90)).setCell ⟨g15, 1, none⟩ (.slice A_90 n90 c90))) hS 0 0 [.bool s90, .slice A_90 n90 c90] (cs' := #[.bool s90, .slice A_90 n90 c90]) (bs' := _) rfl o15 rfl rfl rfl rfl)
  simp only [List.set_cons_zero] at hS
  generalize ((w14.setCell ⟨g15, 0, none⟩ (.bool s90)).setCell ⟨g15, 1, none⟩ (.slice A_90 n90 c90)) = w15 at hS ⊢
  have Y12 := ExtOf.blk (hS.blk 4 rfl)
  have Y11 := ExtOf.blk (hS.blk 5 rfl)
  have hE_ := hS.ext
  refine wp_region_tame 11 (hasF [(4, .any), (8, .any), (9, .any), (10, .any)]) (Fcs [(4, .ri (z95)), (8, .ri (z99)), (9, .ri (z100)), (10, .box 30 #[.bool false, .slice none 0 0])]) (Fcs_stab _) (by kernel_rfl) (by kernel_rfl) ?_
  simp only [List.take_succ_cons, List.take_zero, List.drop_succ_cons, List.drop_zero]
  refine wpT_quiet 4 (by rfl) (by kernel_rfl) ?_
  simp only [List.take_succ_cons, List.take_zero, List.drop_succ_cons, List.drop_zero]
  repeat (go_big_quiet_step (fail))
  refine wpQuiet_nil ?_
  refine wpT_eff (by rfl) (by rfl) (by rfl) ?_ ?_
  · intro W_ hK
    have hW := hK.1
    clear hK
    go_simp
    exact ⟨rfl, (emul_ok gc _ _ z66 z66 z95 _ (Blk.ext (hS.blk 15 rfl) hW) (RI.ext (hS.num 7 rfl) hW) (RI.ext (hS.num 7 rfl) hW) A66 A66 E95.out A95).mono fun e w' ⟨v, he, hR, hx⟩ => ⟨v, he, hx, hR⟩⟩
  intro v_ lo95 hi95 hr_
  obtain ⟨W_, hW_⟩ := hr_
  have hv_ : Fc.holds (.ri (z95)) lo95 hi95 v_ W_ := hW_.get
  clear hW_
  obtain ⟨s95, A_95, n95, c95, rfl, -⟩ := RI.opn hv_
  clear hv_
  clear W_
  try simp only [Act.put, List.setIfInBounds_toArray, List.set_cons_succ, List.set_cons_zero]
  refine wpT_quiet 3 (by rfl) (by kernel_rfl) ?_
  simp only [List.take_succ_cons, List.take_zero, List.drop_succ_cons, List.drop_zero]
  repeat (go_big_quiet_step (fail))
  refine wpQuiet_nil ?_
  refine wpT_eff (by rfl) (by rfl) (by rfl) ?_ ?_
  · intro W_ hK
    have hW := hK.1
    clear hK
    go_simp
    exact ⟨rfl, (emul_ok gc _ _ z70 z70 z99 _ (Blk.ext (hS.blk 15 rfl) hW) (RI.ext (hS.num 6 rfl) hW) (RI.ext (hS.num 6 rfl) hW) A70 A70 E99.out A99).mono fun e w' ⟨v, he, hR, hx⟩ => ⟨v, he, hx, hR⟩⟩
  intro v_ lo99 hi99 hr_
  obtain ⟨W_, hW_⟩ := hr_
  have hv_ : Fc.holds (.ri (z99)) lo99 hi99 v_ W_ := hW_.get
  clear hW_
  obtain ⟨s99, A_99, n99, c99, rfl, -⟩ := RI.opn hv_
  clear hv_
  clear W_
  try simp only [Act.put, List.setIfInBounds_toArray, List.set_cons_succ, List.set_cons_zero]
  refine wpT_eff (by rfl) (by rfl) (by rfl) ?_ ?_
  · intro W_ hK
    have hW := hK.1
    have F_s95 : RI W_ (iv s95 A_95 n95 c95) z95 := hK.2 4 ((iv s95 A_95 n95 c95), lo95, hi95) (by rfl) (by kernel_rfl)
    have F_s99 : RI W_ (iv s99 A_99 n99 c99) z99 := hK.2 8 ((iv s99 A_99 n99 c99), lo99, hi99) (by rfl) (by kernel_rfl)
    clear hK
    go_simp
    exact ⟨rfl, (eadd_ok gc _ _ z95 z99 z100 _ (Blk.ext (hS.blk 15 rfl) hW) F_s95 F_s99 A95 A99 E100.out A100).mono fun e w' ⟨v, he, hR, hx⟩ => ⟨v, he, hx, hR⟩⟩
  intro v_ lo100 hi100 hr_
  obtain ⟨W_, hW_⟩ := hr_
  have hv_ : Fc.holds (.ri (z100)) lo100 hi100 v_ W_ := hW_.get
  clear hW_
  obtain ⟨s100, A_100, n100, c100, rfl, -⟩ := RI.opn hv_
  clear hv_
  clear W_
  try simp only [Act.put, List.setIfInBounds_toArray, List.set_cons_succ, List.set_cons_zero]
  refine wpT_eff (by rfl) (by rfl) (by rfl) ?_ ?_
  · intro W_ hK
    go_simp
    exact ⟨Ext.new _ _, rfl, by simp, Blk.new _ _ _⟩
  intro v_ g16 hi16 hr_
  obtain ⟨W_, hW_⟩ := hr_
  obtain ⟨rfl, hl16, -⟩ : Fc.holds (.box 30 #[.bool false, .slice none 0 0]) g16 hi16 v_ W_ := hW_.get
  clear hW_ W_
  try simp only [Act.put, List.setIfInBounds_toArray, List.set_cons_succ, List.set_cons_zero]
  refine wpT_nil ?_
  intro w16 hK
  have hlt_ := hS.lt
  replace hS := hS.mv hK.ext
  replace hS := hS.addI (show RI w16 (iv s95 A_95 n95 c95) z95 from hK.at_ 4 (e := ((iv s95 A_95 n95 c95), lo95, hi95)) (by rfl))
  replace hS := hS.addI (show RI w16 (iv s99 A_99 n99 c99) z99 from hK.at_ 8 (e := ((iv s99 A_99 n99 c99), lo99, hi99)) (by rfl))
  replace hS := hS.addI (show RI w16 (iv s100 A_100 n100 c100) z100 from hK.at_ 9 (e := ((iv s100 A_100 n100 c100), lo100, hi100)) (by rfl))
  have lw16 : w15.heap.size ≤ g16 := hK.low 10 _ (by rfl)
  have o16 : Own w g16 := Own.of hE_ lw16
  replace hS := hS.addB (show Blk w16 g16 30 #[.bool false, .slice none 0 0] from (hK.at_ 10 (by rfl)).2.2) (apart_of fun p hp => Nat.ne_of_lt (Nat.lt_of_lt_of_le (hlt_ p hp) lw16))
  clear hK hlt_ hE_ Y12 Y11
  clear lw16 hl16 hi16
  have k_25 := (hS.blk 0 rfl).cell
  have k_26 := (hS.blk 0 rfl).frozen
  have hT7 := (St.put (W' := ((w16.setCell ⟨g16, 0, none⟩ (.bool s100)).setCell ⟨g16, 1, none⟩ (.slice A_100 n100 c100))) hS 0 0 [.bool s100, .slice A_100 n100 c100] (cs' := #[.bool s100, .slice A_100 n100 c100]) (bs' := _) rfl o16 rfl rfl rfl rfl)
  have k_27 := (hT7.blk 16 rfl).cell
  have k_28 := (hT7.blk 2 rfl).cell
  have k_29 := (hT7.blk 1 rfl).cell
  have k_30 := (hT7.blk 0 rfl).cell
  go_wp2_with fail
  clear k_25 k_26 k_27 k_28 k_29 k_30
  clear hT7
  replace hS := (St.put (W' := ((w16.setCell ⟨g16, 0, none⟩ (.bool s100)).setCell ⟨g16, 1, none⟩ (.slice A_100 n100 c100))) hS 0 0 [.bool s100, .slice A_100 n100 c100] (cs' := #[.bool s100, .slice A_100 n100 c100]) (bs' := _) rfl o16 rfl rfl rfl rfl)
  simp only [List.set_cons_zero] at hS
  generalize ((w16.setCell ⟨g16, 0, none⟩ (.bool s100)).setCell ⟨g16, 1, none⟩ (.slice A_100 n100 c100)) = w17 at hS ⊢
  refine (ereduce_ok gc _ _ _ z80 z90 z100 z111a z111b z111d _ (hS.blk 16 rfl) (hS.num 6 rfl) (hS.num 3 rfl) (hS.num 0 rfl) A80 A90 A100 N111.out E111.out).mono ?_
  rintro e w18 ⟨v_, rfl, hv_, hx_⟩
  replace hS := hS.mv hx_
  clear hx_
  obtain ⟨s111a, A_111a, n111a, c111a, s111b, A_111b, n111b, c111b, s111d, A_111d, n111d, c111d, rfl, f_s111a, f_s111b, f_s111d⟩ := hv_
  replace hS := hS.addI f_s111a
  clear f_s111a
  replace hS := hS.addI f_s111b
  clear f_s111b
  replace hS := hS.addI f_s111d
  clear f_s111d
  have o17 : Own w w18.heap.size := Own.of hS.ext (by simp)
  have hT8 := (St.al hS 32 #[.bool false, .slice none 0 0, .bool false, .slice none 0 0, .bool false, .slice none 0 0] (g := w18.heap.size) (by simp))
  have k_31 := (hT8.blk 0 rfl).cell
  have k_32 := (hT8.blk 0 rfl).frozen
  go_wp2_with fail
  clear k_31 k_32
  clear hT8
  replace hS := (St.al hS 32 #[.bool s111a, .slice A_111a n111a c111a, .bool s111b, .slice A_111b n111b c111b, .bool s111d, .slice A_111d n111d c111d] (g := w18.heap.size) (by simp))
  generalize (w18.alloc (.cells #[.bool s111a, .slice A_111a n111a c111a, .bool s111b, .slice A_111b n111b c111b, .bool s111d, .slice A_111d n111d c111d] 32)) = w19 at hS ⊢
  generalize w18.heap.size = g17 at hS o17 ⊢
  have Y13 := ExtOf.blk (hS.blk 4 rfl)
  have Y8 := ExtOf.blk (hS.blk 10 rfl)
  have Y5 := ExtOf.blk (hS.blk 15 rfl)
  have Y4 := ExtOf.blk (hS.blk 16 rfl)
  have hE_ := hS.ext
  refine wp_region_tame 15 (hasF [(4, .any), (11, .any), (12, .any), (13, .any), (14, .any)]) (Fcs [(4, .ri (z116)), (11, .ri (z123)), (12, .ri (z124)), (13, .box 30 #[.bool false, .slice none 0 0]), (14, .box 30 #[.bool false, .slice none 0 0])]) (Fcs_stab _) (by kernel_rfl) (by kernel_rfl) ?_
  simp only [List.take_succ_cons, List.take_zero, List.drop_succ_cons, List.drop_zero]
  refine wpT_quiet 4 (by rfl) (by kernel_rfl) ?_
  simp only [List.take_succ_cons, List.take_zero, List.drop_succ_cons, List.drop_zero]
  repeat (go_big_quiet_step (fail))
  refine wpQuiet_nil ?_
  refine wpT_eff (by rfl) (by rfl) (by rfl) ?_ ?_
  · intro W_ hK
    have hW := hK.1
    clear hK
    go_simp
    exact ⟨rfl, (ediv_ok gc _ _ x2d z37 z116 _ (Blk.ext (hS.blk 17 rfl) hW) (RI.ext (hS.num 21 rfl) hW) (RI.ext (hS.num 19 rfl) hW) ax2d A37 N116.out ND116.out E116.out).mono fun e w' ⟨v, he, hR, hx⟩ => ⟨v, he, hx, hR⟩⟩
  intro v_ lo116 hi116 hr_
  obtain ⟨W_, hW_⟩ := hr_
  have hv_ : Fc.holds (.ri (z116)) lo116 hi116 v_ W_ := hW_.get
  clear hW_
  obtain ⟨s116, A_116, n116, c116, rfl, -⟩ := RI.opn hv_
  clear hv_
  clear W_
  try simp only [Act.put, List.setIfInBounds_toArray, List.set_cons_succ, List.set_cons_zero]
  refine wpT_quiet 6 (by rfl) (by kernel_rfl) ?_
  simp only [List.take_succ_cons, List.take_zero, List.drop_succ_cons, List.drop_zero]
  repeat (go_big_quiet_step (fail))
  refine wpQuiet_nil ?_
  refine wpT_eff (by rfl) (by rfl) (by rfl) ?_ ?_
  · intro W_ hK
    have hW := hK.1
    clear hK
    go_simp
    exact ⟨rfl, (ediv_ok gc _ _ x1d z37 z123 _ (Blk.ext (hS.blk 17 rfl) hW) (RI.ext (hS.num 24 rfl) hW) (RI.ext (hS.num 19 rfl) hW) ax1d A37 N123.out ND123.out E123.out).mono fun e w' ⟨v, he, hR, hx⟩ => ⟨v, he, hx, hR⟩⟩
  intro v_ lo123 hi123 hr_
  obtain ⟨W_, hW_⟩ := hr_
  have hv_ : Fc.holds (.ri (z123)) lo123 hi123 v_ W_ := hW_.get
  clear hW_
  obtain ⟨s123, A_123, n123, c123, rfl, -⟩ := RI.opn hv_
  clear hv_
  clear W_
  try simp only [Act.put, List.setIfInBounds_toArray, List.set_cons_succ, List.set_cons_zero]
  refine wpT_eff (by rfl) (by rfl) (by rfl) ?_ ?_
  · intro W_ hK
    have hW := hK.1
    have F_s123 : RI W_ (iv s123 A_123 n123 c123) z123 := hK.2 11 ((iv s123 A_123 n123 c123), lo123, hi123) (by rfl) (by kernel_rfl)
    clear hK
    go_simp
    exact ⟨rfl, (emul_ok gc _ _ z62 z123 z124 _ (Blk.ext (hS.blk 17 rfl) hW) (RI.ext (hS.num 14 rfl) hW) F_s123 A62 A123 E124.out A124).mono fun e w' ⟨v, he, hR, hx⟩ => ⟨v, he, hx, hR⟩⟩
  intro v_ lo124 hi124 hr_
  obtain ⟨W_, hW_⟩ := hr_
  have hv_ : Fc.holds (.ri (z124)) lo124 hi124 v_ W_ := hW_.get
  clear hW_
  obtain ⟨s124, A_124, n124, c124, rfl, -⟩ := RI.opn hv_
  clear hv_
  clear W_
  try simp only [Act.put, List.setIfInBounds_toArray, List.set_cons_succ, List.set_cons_zero]
  refine wpT_eff (by rfl) (by rfl) (by rfl) ?_ ?_
  · intro W_ hK
    go_simp
    exact ⟨Ext.new _ _, rfl, by simp, Blk.new _ _ _⟩
  intro v_ g18 hi18 hr_
  obtain ⟨W_, hW_⟩ := hr_
  obtain ⟨rfl, hl18, -⟩ : Fc.holds (.box 30 #[.bool false, .slice none 0 0]) g18 hi18 v_ W_ := hW_.get
  clear hW_ W_
  try simp only [Act.put, List.setIfInBounds_toArray, List.set_cons_succ, List.set_cons_zero]
  refine wpT_eff (by rfl) (by rfl) (by rfl) ?_ ?_
  · intro W_ hK
    go_simp
    exact ⟨Ext.new _ _, rfl, by simp, Blk.new _ _ _⟩
  intro v_ g19 hi19 hr_
  obtain ⟨W_, hW_⟩ := hr_
  obtain ⟨rfl, hl19, -⟩ : Fc.holds (.box 30 #[.bool false, .slice none 0 0]) g19 hi19 v_ W_ := hW_.get
  clear hW_ W_
  try simp only [Act.put, List.setIfInBounds_toArray, List.set_cons_succ, List.set_cons_zero]
  refine wpT_nil ?_
  intro w20 hK
  have hlt_ := hS.lt
  replace hS := hS.mv hK.ext
  replace hS := hS.addI (show RI w20 (iv s116 A_116 n116 c116) z116 from hK.at_ 4 (e := ((iv s116 A_116 n116 c116), lo116, hi116)) (by rfl))
  replace hS := hS.addI (show RI w20 (iv s123 A_123 n123 c123) z123 from hK.at_ 11 (e := ((iv s123 A_123 n123 c123), lo123, hi123)) (by rfl))
  replace hS := hS.addI (show RI w20 (iv s124 A_124 n124 c124) z124 from hK.at_ 12 (e := ((iv s124 A_124 n124 c124), lo124, hi124)) (by rfl))
  have lw18 : w19.heap.size ≤ g18 := hK.low 13 _ (by rfl)
  have o18 : Own w g18 := Own.of hE_ lw18
  replace hS := hS.addB (show Blk w20 g18 30 #[.bool false, .slice none 0 0] from (hK.at_ 13 (by rfl)).2.2) (apart_of fun p hp => Nat.ne_of_lt (Nat.lt_of_lt_of_le (hlt_ p hp) lw18))
  have lw19 : w19.heap.size ≤ g19 := hK.low 14 _ (by rfl)
  have o19 : Own w g19 := Own.of hE_ lw19
  replace hS := hS.addB (show Blk w20 g19 30 #[.bool false, .slice none 0 0] from (hK.at_ 14 (by rfl)).2.2) ⟨tame_ne hl18 hl19 (hK.disj 13 14 _ _ (by omega) (by rfl) (by rfl)), (apart_of fun p hp => Nat.ne_of_lt (Nat.lt_of_lt_of_le (hlt_ p hp) lw19))⟩
  clear hK hlt_ hE_ Y13 Y8 Y5 Y4
  clear lw18 hl18 hi18
  clear lw19 hl19 hi19
  have k_33 := (hS.blk 1 rfl).cell
  have k_34 := (hS.blk 1 rfl).frozen
  have hT9 := (St.put (W' := ((w20.setCell ⟨g18, 0, none⟩ (.bool s116)).setCell ⟨g18, 1, none⟩ (.slice A_116 n116 c116))) hS 1 0 [.bool s116, .slice A_116 n116 c116] (cs' := #[.bool s116, .slice A_116 n116 c116]) (bs' := _) rfl o18 rfl rfl rfl rfl)
  have k_35 := (hT9.blk 0 rfl).cell
  have k_36 := (hT9.blk 0 rfl).frozen
  have hT10 := (St.put (W' := ((((w20.setCell ⟨g18, 0, none⟩ (.bool s116)).setCell ⟨g18, 1, none⟩ (.slice A_116 n116 c116)).setCell ⟨g19, 0, none⟩ (.bool s124)).setCell ⟨g19, 1, none⟩ (.slice A_124 n124 c124))) (St.put (W' := ((w20.setCell ⟨g18, 0, none⟩ (.bool s116)).setCell ⟨g18, 1, none⟩ (.slice A_116 n116 c116))) hS 1 0 [.bool s116, .slice A_116 n116 c116] (cs' := #[.bool s116, .slice A_116 n116 c116]) (bs' := _) rfl o18 rfl rfl rfl rfl) 0 0 [.bool s124, .slice A_124 n124 c124] (cs' := #[.bool s124, .slice A_124 n124 c124]) (bs' := _) rfl o19 rfl rfl rfl rfl)
  have k_37 := (hT10.blk 19 rfl).cell
  go_wp2_with fail
  clear k_33 k_34 k_35 k_36 k_37
  clear hT9 hT10
  replace hS := (St.put (W' := ((((w20.setCell ⟨g18, 0, none⟩ (.bool s116)).setCell ⟨g18, 1, none⟩ (.slice A_116 n116 c116)).setCell ⟨g19, 0, none⟩ (.bool s124)).setCell ⟨g19, 1, none⟩ (.slice A_124 n124 c124))) (St.put (W' := ((w20.setCell ⟨g18, 0, none⟩ (.bool s116)).setCell ⟨g18, 1, none⟩ (.slice A_116 n116 c116))) hS 1 0 [.bool s116, .slice A_116 n116 c116] (cs' := #[.bool s116, .slice A_116 n116 c116]) (bs' := _) rfl o18 rfl rfl rfl rfl) 0 0 [.bool s124, .slice A_124 n124 c124] (cs' := #[.bool s124, .slice A_124 n124 c124]) (bs' := _) rfl o19 rfl rfl rfl rfl)
  simp only [List.set_cons_zero, List.set_cons_succ] at hS
  generalize ((((w20.setCell ⟨g18, 0, none⟩ (.bool s116)).setCell ⟨g18, 1, none⟩ (.slice A_116 n116 c116)).setCell ⟨g19, 0, none⟩ (.bool s124)).setCell ⟨g19, 1, none⟩ (.slice A_124 n124 c124)) = w21 at hS ⊢
  have Y19 := ExtOf.blk (hS.blk 0 rfl)
  have Y18 := ExtOf.blk (hS.blk 1 rfl)
  have Y17 := ExtOf.blk (hS.blk 2 rfl)
  have hE_ := hS.ext
  refine wp_region_tame 8 (hasF [(6, .any), (7, .any)]) (Fcs [(6, .rg (z137a) (z137b) (z137d)), (7, .rg (z138a) (z138b) (z138d))]) (Fcs_stab _) (by kernel_rfl) (by kernel_rfl) ?_
  simp only [List.take_succ_cons, List.take_zero, List.drop_succ_cons, List.drop_zero]
  refine wpT_quiet 6 (by rfl) (by kernel_rfl) ?_
  simp only [List.take_succ_cons, List.take_zero, List.drop_succ_cons, List.drop_zero]
  repeat (go_big_quiet_step (fail))
  refine wpQuiet_nil ?_
  refine wpT_eff (by rfl) (by rfl) (by rfl) ?_ ?_
  · intro W_ hK
    have hW := hK.1
    clear hK
    go_simp
    exact ⟨rfl, (ereduce_ok gc _ _ _ z116 0 z124 z137a z137b z137d _ (Blk.ext (hS.blk 19 rfl) hW) (RI.ext (hS.num 2 rfl) hW) (RI.zero _) (RI.ext (hS.num 0 rfl) hW) A116 lim0 A124 N137.out E137.out).mono fun e w' ⟨v, he, hR, hx⟩ => ⟨v, he, hx, hR⟩⟩
  intro v_ lo137 hi137 hr_
  obtain ⟨W_, hW_⟩ := hr_
  have hv_ : Fc.holds (.rg (z137a) (z137b) (z137d)) lo137 hi137 v_ W_ := hW_.get
  clear hW_
  obtain ⟨s137a, A_137a, n137a, c137a, s137b, A_137b, n137b, c137b, s137d, A_137d, n137d, c137d, rfl, -, -, -⟩ := hv_
  clear W_
  try simp only [Act.put, List.setIfInBounds_toArray, List.set_cons_succ, List.set_cons_zero]
  refine wpT_eff (by rfl) (by rfl) (by rfl) ?_ ?_
  · intro W_ hK
    have hW := hK.1
    have F_s137a : RI W_ (iv s137a A_137a n137a c137a) z137a := RG.at1 (hK.2 6 ((gv s137a A_137a n137a c137a s137b A_137b n137b c137b s137d A_137d n137d c137d), lo137, hi137) (by rfl) (by kernel_rfl))
    have F_s137b : RI W_ (iv s137b A_137b n137b c137b) z137b := RG.at2 (hK.2 6 ((gv s137a A_137a n137a c137a s137b A_137b n137b c137b s137d A_137d n137d c137d), lo137, hi137) (by rfl) (by kernel_rfl))
    have F_s137d : RI W_ (iv s137d A_137d n137d c137d) z137d := RG.at3 (hK.2 6 ((gv s137a A_137a n137a c137a s137b A_137b n137b c137b s137d A_137d n137d c137d), lo137, hi137) (by rfl) (by kernel_rfl))
    clear hK
    go_simp
    exact ⟨rfl, (eproduct_ok gc _ _ z111a z111b z111d z137a z137b z137d z138a z138b z138d n138 _ (Blk.ext (hS.blk 19 rfl) hW) (RG.mk (RI.ext (hS.num 5 rfl) hW) (RI.ext (hS.num 4 rfl) hW) (RI.ext (hS.num 3 rfl) hW)) (RG.mk F_s137a F_s137b F_s137d) Sx138.out Sy138.out L138.out N138.out ND138.out E138.out).mono fun e w' ⟨v, he, hR, hx⟩ => ⟨v, he, hx, hR⟩⟩
  intro v_ lo138 hi138 hr_
  obtain ⟨W_, hW_⟩ := hr_
  have hv_ : Fc.holds (.rg (z138a) (z138b) (z138d)) lo138 hi138 v_ W_ := hW_.get
  clear hW_
  obtain ⟨s138a, A_138a, n138a, c138a, s138b, A_138b, n138b, c138b, s138d, A_138d, n138d, c138d, rfl, -, -, -⟩ := hv_
  clear W_
  try simp only [Act.put, List.setIfInBounds_toArray, List.set_cons_succ, List.set_cons_zero]
  refine wpT_nil ?_
  intro w22 hK
  have hlt_ := hS.lt
  replace hS := hS.mv hK.ext
  replace hS := hS.addI (show RI w22 (iv s137a A_137a n137a c137a) z137a from RG.at1 (hK.at_ 6 (e := ((gv s137a A_137a n137a c137a s137b A_137b n137b c137b s137d A_137d n137d c137d), lo137, hi137)) (by rfl)))
  replace hS := hS.addI (show RI w22 (iv s137b A_137b n137b c137b) z137b from RG.at2 (hK.at_ 6 (e := ((gv s137a A_137a n137a c137a s137b A_137b n137b c137b s137d A_137d n137d c137d), lo137, hi137)) (by rfl)))
  replace hS := hS.addI (show RI w22 (iv s137d A_137d n137d c137d) z137d from RG.at3 (hK.at_ 6 (e := ((gv s137a A_137a n137a c137a s137b A_137b n137b c137b s137d A_137d n137d c137d), lo137, hi137)) (by rfl)))
  replace hS := hS.addI (show RI w22 (iv s138a A_138a n138a c138a) z138a from RG.at1 (hK.at_ 7 (e := ((gv s138a A_138a n138a c138a s138b A_138b n138b c138b s138d A_138d n138d c138d), lo138, hi138)) (by rfl)))
  replace hS := hS.addI (show RI w22 (iv s138b A_138b n138b c138b) z138b from RG.at2 (hK.at_ 7 (e := ((gv s138a A_138a n138a c138a s138b A_138b n138b c138b s138d A_138d n138d c138d), lo138, hi138)) (by rfl)))
  replace hS := hS.addI (show RI w22 (iv s138d A_138d n138d c138d) z138d from RG.at3 (hK.at_ 7 (e := ((gv s138a A_138a n138a c138a s138b A_138b n138b c138b s138d A_138d n138d c138d), lo138, hi138)) (by rfl)))
  clear hK hlt_ hE_ Y19 Y18 Y17
  have k_38 := (hS.blk 16 rfl).cell
  have k_39 := (hS.blk 16 rfl).frozen
  go_wp2
  replace hS := (St.put (W' := ((((((w22.setCell ⟨g6, 0, none⟩ (.bool s138a)).setCell ⟨g6, 1, none⟩ (.slice A_138a n138a c138a)).setCell ⟨g6, 2, none⟩ (.bool s138b)).setCell ⟨g6, 3, none⟩ (.slice A_138b n138b c138b)).setCell ⟨g6, 4, none⟩ (.bool s138d)).setCell ⟨g6, 5, none⟩ (.slice A_138d n138d c138d))) hS 16 0 [.bool s138a, .slice A_138a n138a c138a, .bool s138b, .slice A_138b n138b c138b, .bool s138d, .slice A_138d n138d c138d] (cs' := #[.bool s138a, .slice A_138a n138a c138a, .bool s138b, .slice A_138b n138b c138b, .bool s138d, .slice A_138d n138d c138d]) (bs' := _) rfl o6 rfl rfl rfl rfl)
  exact bp_gauss1 rfl rfl rfl (hS.blk 16 rfl) ⟨_, rfl, RG.mk (hS.num 2 rfl) (hS.num 1 rfl) (hS.num 0 rfl), hS.ext⟩

end Go.Proofs.YtclkkoiaaddllaaGreat
