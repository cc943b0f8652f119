/- Valid numbers, in all functions: the walk. -/
import Derived.Test.YtjeijmnhbckjdaaGreatDoorQAnndkn
import Derived.Test.YtjeijmnhbckjdaaGreatDoorQMdojcc
namespace Go.Proofs.YtjeijmnhbckjdaaGreatDoor
open Go.RowKit
set_option linter.unusedVariables false

set_option maxRecDepth 100000 in
set_option maxHeartbeats 51200000 in
theorem comp_ttz (v0 : Value) (q0 : GQ) (n0 : Nat) (v1 : Value) (q1 : GQ) (n1 : Nat) (zb sb : Bool) (w : World) (hX0 : GV w v0 q0 n0) (hX1 : GV w v1 q1 n1) (hn0 : n0 ≤ 1280) (hn1 : n1 ≤ 1280) (hTab : Tab w) (HZ : Hid (zb = true ↔ q0 = GQ.i 0 0)) (HS : Hid (sb = true ↔ q0 = q1)) (HY : Hid (q1 = GQ.i 0 0))
      :
    Calls Tryz.prog 9 #[v0, v1] w fun e w' => e = .returned (.bool true) ∧ Ext w w' := by
  have hS := St.start w
  obtain ⟨ch, ci, cj, hX0, I0, S0⟩ := hX0
  obtain ⟨aY, aZ, aS, b0, b1, b2, aT, b3, b4, b5, aU, b6, rfl, ck, cl, cn⟩ := hX0
  replace hS := hS.addI ck
  clear ck
  replace hS := hS.addI cl
  clear cl
  replace hS := hS.addI cn
  clear cn
  obtain ⟨dc, dd, de, hX1, I1, S1⟩ := hX1
  obtain ⟨b7, b8, aV, b9, ba, bb, aW, bc, bd, be, aX, bf, rfl, co, cp, cq⟩ := hX1
  replace hS := hS.addI co
  clear co
  replace hS := hS.addI cp
  clear cp
  replace hS := hS.addI cq
  clear cq
  have HL : Hid ([aS, aT, aU, aV, aW, aX].all (fun n => decide (n ≤ 40)) = true) := Lib.hid (by simp only [List.all_cons, List.all_nil, Bool.and_true, Bool.and_eq_true, decide_eq_true_eq]; exact ⟨RI.low (k := 40) (hS.num 5 rfl) S0.a (by omega), RI.low (k := 40) (hS.num 4 rfl) S0.b (by omega), RI.low (k := 40) (hS.num 3 rfl) S0.d (by omega), RI.low (k := 40) (hS.num 2 rfl) S1.a (by omega), RI.low (k := 40) (hS.num 1 rfl) S1.b (by omega), RI.low (k := 40) (hS.num 0 rfl) S1.d (by omega)⟩)
  have o2 : Own w w.heap.size := Own.of hS.ext (by simp)
  have o3 : Own w (w.heap.size + 1) := Own.of hS.ext (by simp)
  have cF := (St.al (St.al hS 26 #[.bool aY, .slice aZ aS b0, .bool b1, .slice b2 aT b3, .bool b4, .slice b5 aU b6] (g := w.heap.size) (by simp)) 26 #[.bool b7, .slice b8 aV b9, .bool ba, .slice bb aW bc, .bool bd, .slice be aX bf] (g := (w.heap.size + 1)) (by simp))
  have k_1 := (cF.blk 1 rfl).cell
  have k_2 := (cF.blk 0 rfl).cell
  have o17 : Own w (w.heap.size + 2) := Own.of hS.ext (by simp)
  go_enter Tryz.func9, Tryz.ntmps9
  go_wp2_with fail
  clear k_1 k_2
  clear cF
  replace hS := (St.al (St.al (St.al hS 26 #[.bool aY, .slice aZ aS b0, .bool b1, .slice b2 aT b3, .bool b4, .slice b5 aU b6] (g := w.heap.size) (by simp)) 26 #[.bool b7, .slice b8 aV b9, .bool ba, .slice bb aW bc, .bool bd, .slice be aX bf] (g := (w.heap.size + 1)) (by simp)) 26 #[.bool aY, .slice aZ aS b0, .bool b1, .slice b2 aT b3, .bool b4, .slice b5 aU b6, .bool b7, .slice b8 aV b9, .bool ba, .slice bb aW bc, .bool bd, .slice be aX bf] (g := (w.heap.size + 2)) (by simp))
  generalize (((w.alloc (.cells #[.bool aY, .slice aZ aS b0, .bool b1, .slice b2 aT b3, .bool b4, .slice b5 aU b6] 26)).alloc (.cells #[.bool b7, .slice b8 aV b9, .bool ba, .slice bb aW bc, .bool bd, .slice be aX bf] 26)).alloc (.cells #[.bool aY, .slice aZ aS b0, .bool b1, .slice b2 aT b3, .bool b4, .slice b5 aU b6, .bool b7, .slice b8 aV b9, .bool ba, .slice bb aW bc, .bool bd, .slice be aX bf] 26)) = w1 at hS ⊢
  generalize w.heap.size + 2 = g17 at hS o17 ⊢
  generalize w.heap.size + 1 = g3 at hS o3 ⊢
  generalize w.heap.size = g2 at hS o2 ⊢
  refine (low2_raw g17 40 true _ (hS.blk 0 rfl) HL.out).mono ?_
  rintro e w2 ⟨rfl, hx_⟩
  replace hS := hS.mv hx_
  clear hx_
  go_wp2_with fail
  have Y3 := ExtOf.blk (hS.blk 1 rfl)
  have Y2 := ExtOf.blk (hS.blk 2 rfl)
  have hE_ := hS.ext
  refine wp_region_tame 4 (hasF [(1, .any), (3, .any)]) (Fcs [(1, .eq (.bool true)), (3, .eq (.bool true))]) (Fcs_stab _) (by kernel_rfl) (by kernel_rfl) ?_
  simp only [tk1, tk0, dp1, dp0]
  refine wpT_quiet 1 (by rfl) (by kernel_rfl) ?_
  simp only [tk1, tk0, dp1, dp0]
  repeat (go_big_quiet_step (fail))
  refine wpQuiet_nil ?_
  refine wpT_eff (by rfl) (by rfl) (by rfl) ?_ ?_
  · intro W_ hK
    have hW := hK.1
    clear hK
    go_simp
    exact ⟨rfl, (qValid_gv _ q0 (n0) _ ⟨_, _, _, RG.mk (RI.ext (hS.num 5 rfl) hW) (RI.ext (hS.num 4 rfl) hW) (RI.ext (hS.num 3 rfl) hW), I0, S0⟩ (by omega)).mono fun e w' ⟨he, hx⟩ => ⟨_, he, hx, rfl⟩⟩
  intro v_ lo22 hi22 hr_
  obtain ⟨W_, hW_⟩ := hr_
  obtain rfl : v_ = .bool true := hW_.get
  clear hW_ W_
  try simp only [Act.put, sa0, sa1, sa2]
  refine wpT_quiet 1 (by rfl) (by kernel_rfl) ?_
  simp only [tk1, tk0, dp1, dp0]
  repeat (go_big_quiet_step (fail))
  refine wpQuiet_nil ?_
  refine wpT_eff (by rfl) (by rfl) (by rfl) ?_ ?_
  · intro W_ hK
    have hW := hK.1
    clear hK
    go_simp
    exact ⟨rfl, (qValid_gv _ q1 (n1) _ ⟨_, _, _, RG.mk (RI.ext (hS.num 2 rfl) hW) (RI.ext (hS.num 1 rfl) hW) (RI.ext (hS.num 0 rfl) hW), I1, S1⟩ (by omega)).mono fun e w' ⟨he, hx⟩ => ⟨_, he, hx, rfl⟩⟩
  intro v_ lo24 hi24 hr_
  obtain ⟨W_, hW_⟩ := hr_
  obtain rfl : v_ = .bool true := hW_.get
  clear hW_ W_
  try simp only [Act.put, sa0, sa1, sa2]
  refine wpT_nil ?_
  intro w3 hK
  have hlt_ := hS.lt
  replace hS := hS.mv hK.ext
  clear hK hlt_ hE_ Y3 Y2
  go_wp2_with fail
  have Y3 := ExtOf.blk (hS.blk 1 rfl)
  have Y2 := ExtOf.blk (hS.blk 2 rfl)
  have hE_ := hS.ext
  refine wp_region_tame 41 (hasF [(1, .any), (6, .any), (12, .any), (14, .any), (19, .any), (23, .any), (30, .any), (38, .any)]) (Fcs [(1, .eq (.bool true)), (6, .eq (.bool true)), (12, .eq (.string ⟨(gtx ch ci cj).toArray⟩)), (14, .eq (.string ⟨(gtx ch ci cj).toArray⟩)), (19, .eq (.bool zb)), (23, .eq (.bool zb)), (30, .eq (.bool sb)), (38, .eq (.bool sb))]) (Fcs_stab _) (by kernel_rfl) (by kernel_rfl) ?_
  simp only [tk1, tk0, dp1, dp0]
  refine wpT_quiet 1 (by rfl) (by kernel_rfl) ?_
  simp only [tk1, tk0, dp1, dp0]
  repeat (go_big_quiet_step (fail))
  refine wpQuiet_nil ?_
  refine wpT_eff (by rfl) (by rfl) (by rfl) ?_ ?_
  · intro W_ hK
    have hW := hK.1
    clear hK
    go_simp
    exact ⟨rfl, (eValid_gv _ q0 (n0) _ ⟨_, _, _, RG.mk (RI.ext (hS.num 5 rfl) hW) (RI.ext (hS.num 4 rfl) hW) (RI.ext (hS.num 3 rfl) hW), I0, S0⟩ (by omega)).mono fun e w' ⟨he, hx⟩ => ⟨_, he, hx, rfl⟩⟩
  intro v_ lo26 hi26 hr_
  obtain ⟨W_, hW_⟩ := hr_
  obtain rfl : v_ = .bool true := hW_.get
  clear hW_ W_
  try simp only [Act.put, sa0, sa1, sa2]
  refine wpT_quiet 4 (by rfl) (by kernel_rfl) ?_
  simp only [tk1, tk0, dp1, dp0]
  repeat (go_big_quiet_step (fail))
  refine wpQuiet_nil ?_
  refine wpT_eff (by rfl) (by rfl) (by rfl) ?_ ?_
  · intro W_ hK
    have hW := hK.1
    clear hK
    go_simp
    exact ⟨rfl, (eValid_gv _ q1 (n1) _ ⟨_, _, _, RG.mk (RI.ext (hS.num 2 rfl) hW) (RI.ext (hS.num 1 rfl) hW) (RI.ext (hS.num 0 rfl) hW), I1, S1⟩ (by omega)).mono fun e w' ⟨he, hx⟩ => ⟨_, he, hx, rfl⟩⟩
  intro v_ lo31 hi31 hr_
  obtain ⟨W_, hW_⟩ := hr_
  obtain rfl : v_ = .bool true := hW_.get
  clear hW_ W_
  try simp only [Act.put, sa0, sa1, sa2]
  refine wpT_quiet 5 (by rfl) (by kernel_rfl) ?_
  simp only [tk1, tk0, dp1, dp0]
  repeat (go_big_quiet_step (fail))
  refine wpQuiet_nil ?_
  refine wpT_eff (by rfl) (by rfl) (by rfl) ?_ ?_
  · intro W_ hK
    have hW := hK.1
    clear hK
    go_simp
    exact ⟨rfl, (xText_ok _ q0 (n0) _ ⟨_, _, _, RG.mk (RI.ext (hS.num 5 rfl) hW) (RI.ext (hS.num 4 rfl) hW) (RI.ext (hS.num 3 rfl) hW), I0, S0⟩ (by omega) (tab_ext hTab (hE_.trans hW)) I0).mono fun e w' ⟨he, hx⟩ => ⟨_, he, hx, rfl⟩⟩
  intro v_ lo37 hi37 hr_
  obtain ⟨W_, hW_⟩ := hr_
  obtain rfl : v_ = .string ⟨(gtx ch ci cj).toArray⟩ := hW_.get
  clear hW_ W_
  try simp only [Act.put, sa0, sa1, sa2]
  refine wpT_quiet 1 (by rfl) (by kernel_rfl) ?_
  simp only [tk1, tk0, dp1, dp0]
  repeat (go_big_quiet_step (fail))
  refine wpQuiet_nil ?_
  refine wpT_eff (by rfl) (by rfl) (by rfl) ?_ ?_
  · intro W_ hK
    have hW := hK.1
    clear hK
    go_simp
    exact ⟨rfl, (qText_ok _ q0 (n0) _ ⟨_, _, _, RG.mk (RI.ext (hS.num 5 rfl) hW) (RI.ext (hS.num 4 rfl) hW) (RI.ext (hS.num 3 rfl) hW), I0, S0⟩ (by omega) I0).mono fun e w' ⟨he, hx⟩ => ⟨_, he, hx, rfl⟩⟩
  intro v_ lo39 hi39 hr_
  obtain ⟨W_, hW_⟩ := hr_
  obtain rfl : v_ = .string ⟨(gtx ch ci cj).toArray⟩ := hW_.get
  clear hW_ W_
  try simp only [Act.put, sa0, sa1, sa2]
  refine wpT_quiet 4 (by rfl) (by kernel_rfl) ?_
  simp only [tk1, tk0, dp1, dp0]
  repeat (go_big_quiet_step (fail))
  refine wpQuiet_nil ?_
  refine wpT_eff (by rfl) (by rfl) (by rfl) ?_ ?_
  · intro W_ hK
    have hW := hK.1
    clear hK
    go_simp
    exact ⟨rfl, (xZero_b _ q0 (n0) zb _ ⟨_, _, _, RG.mk (RI.ext (hS.num 5 rfl) hW) (RI.ext (hS.num 4 rfl) hW) (RI.ext (hS.num 3 rfl) hW), I0, S0⟩ (by omega) HZ.out).mono fun e w' ⟨he, hx⟩ => ⟨_, he, hx, rfl⟩⟩
  intro v_ lo44 hi44 hr_
  obtain ⟨W_, hW_⟩ := hr_
  obtain rfl : v_ = .bool zb := hW_.get
  clear hW_ W_
  try simp only [Act.put, sa0, sa1, sa2]
  refine wpT_quiet 3 (by rfl) (by kernel_rfl) ?_
  simp only [tk1, tk0, dp1, dp0]
  repeat (go_big_quiet_step (fail))
  refine wpQuiet_nil ?_
  refine wpT_eff (by rfl) (by rfl) (by rfl) ?_ ?_
  · intro W_ hK
    have hW := hK.1
    clear hK
    go_simp
    exact ⟨rfl, (qZero_b _ q0 (n0) zb _ ⟨_, _, _, RG.mk (RI.ext (hS.num 5 rfl) hW) (RI.ext (hS.num 4 rfl) hW) (RI.ext (hS.num 3 rfl) hW), I0, S0⟩ (by omega) HZ.out).mono fun e w' ⟨he, hx⟩ => ⟨_, he, hx, rfl⟩⟩
  intro v_ lo48 hi48 hr_
  obtain ⟨W_, hW_⟩ := hr_
  obtain rfl : v_ = .bool zb := hW_.get
  clear hW_ W_
  try simp only [Act.put, sa0, sa1, sa2]
  refine wpT_quiet 6 (by rfl) (by kernel_rfl) ?_
  simp only [tk1, tk0, dp1, dp0]
  repeat (go_big_quiet_step (fail))
  refine wpQuiet_nil ?_
  refine wpT_eff (by rfl) (by rfl) (by rfl) ?_ ?_
  · intro W_ hK
    have hW := hK.1
    clear hK
    go_simp
    exact ⟨rfl, (xSame_b _ _ q0 q1 (n0) (n1) sb _ ⟨_, _, _, RG.mk (RI.ext (hS.num 5 rfl) hW) (RI.ext (hS.num 4 rfl) hW) (RI.ext (hS.num 3 rfl) hW), I0, S0⟩ ⟨_, _, _, RG.mk (RI.ext (hS.num 2 rfl) hW) (RI.ext (hS.num 1 rfl) hW) (RI.ext (hS.num 0 rfl) hW), I1, S1⟩ (by omega) (by omega) HS.out).mono fun e w' ⟨he, hx⟩ => ⟨_, he, hx, rfl⟩⟩
  intro v_ lo55 hi55 hr_
  obtain ⟨W_, hW_⟩ := hr_
  obtain rfl : v_ = .bool sb := hW_.get
  clear hW_ W_
  try simp only [Act.put, sa0, sa1, sa2]
  refine wpT_quiet 7 (by rfl) (by kernel_rfl) ?_
  simp only [tk1, tk0, dp1, dp0]
  repeat (go_big_quiet_step (fail))
  refine wpQuiet_nil ?_
  refine wpT_eff (by rfl) (by rfl) (by rfl) ?_ ?_
  · intro W_ hK
    have hW := hK.1
    clear hK
    go_simp
    exact ⟨rfl, (qSame_b_ _ _ q0 q1 (n0) (n1) sb _ ⟨_, _, _, RG.mk (RI.ext (hS.num 5 rfl) hW) (RI.ext (hS.num 4 rfl) hW) (RI.ext (hS.num 3 rfl) hW), I0, S0⟩ ⟨_, _, _, RG.mk (RI.ext (hS.num 2 rfl) hW) (RI.ext (hS.num 1 rfl) hW) (RI.ext (hS.num 0 rfl) hW), I1, S1⟩ HS.out).mono fun e w' ⟨he, hx⟩ => ⟨_, he, hx, rfl⟩⟩
  intro v_ lo63 hi63 hr_
  obtain ⟨W_, hW_⟩ := hr_
  obtain rfl : v_ = .bool sb := hW_.get
  clear hW_ W_
  try simp only [Act.put, sa0, sa1, sa2]
  refine wpT_quiet 2 (by rfl) (by kernel_rfl) ?_
  simp only [tk1, tk0, dp1, dp0]
  repeat (go_big_quiet_step (fail))
  refine wpQuiet_nil ?_
  refine wpT_nil ?_
  intro w4 hK
  have hlt_ := hS.lt
  replace hS := hS.mv hK.ext
  clear hK hlt_ hE_ Y3 Y2
  have k_3 := (hS.blk 2 rfl).cell
  have k_4 := (hS.blk 1 rfl).cell
  go_wp2_with fail
  clear k_3 k_4
  obtain ⟨cG, cH, cI, cJ⟩ := is_ex (q0 + q1)
  have S70 : Sz (n0 + n1 + 65) cG cH cI := (Bd.mono (Bd.add ⟨_, _, _, I0, S0⟩ ⟨_, _, _, I1, S1⟩) (by omega)).sz cJ
  refine (toTG (xAdd_ok _ q0 (n0) _ q1 (n1) _ ⟨_, _, _, RG.mk (hS.num 5 rfl) (hS.num 4 rfl) (hS.num 3 rfl), I0, S0⟩ ⟨_, _, _, RG.mk (hS.num 2 rfl) (hS.num 1 rfl) (hS.num 0 rfl), I1, S1⟩ (by omega)) cJ).mono ?_
  rintro e w5 ⟨v_, rfl, hv_, hx_⟩
  replace hS := hS.mv hx_
  clear hx_
  obtain ⟨_, rfl, bP, bg, bQ, bR, bS, bh, bT, bU, bV, bi, bW, bX, rfl, bj, bk, bl⟩ := hv_
  replace hS := hS.addI bj
  clear bj
  replace hS := hS.addI bk
  clear bk
  replace hS := hS.addI bl
  clear bl
  have o7 : Own w w5.heap.size := Own.of hS.ext (by simp)
  have cK := (St.al hS 26 #[.bool false, .slice none 0 0, .bool false, .slice none 0 0, .bool false, .slice none 0 0] (g := w5.heap.size) (by simp))
  have k_5 := (cK.blk 0 rfl).cell
  have k_6 := (cK.blk 0 rfl).frozen
  have cL := (St.al hS 26 #[.bool bP, .slice bg bQ bR, .bool bS, .slice bh bT bU, .bool bV, .slice bi bW bX] (g := w5.heap.size) (by simp))
  have k_7 := (cL.blk 3 rfl).cell
  have k_8 := (cL.blk 2 rfl).cell
  go_wp2_with fail
  clear k_5 k_6 k_7 k_8
  clear cK cL
  replace hS := (St.al hS 26 #[.bool bP, .slice bg bQ bR, .bool bS, .slice bh bT bU, .bool bV, .slice bi bW bX] (g := w5.heap.size) (by simp))
  generalize (w5.alloc (.cells #[.bool bP, .slice bg bQ bR, .bool bS, .slice bh bT bU, .bool bV, .slice bi bW bX] 26)) = w6 at hS ⊢
  generalize w5.heap.size = g7 at hS o7 ⊢
  obtain ⟨cM, cN, cO, cP⟩ := is_ex (q0 - q1)
  have S76 : Sz (n0 + n1 + 65) cM cN cO := (Bd.mono (Bd.sub ⟨_, _, _, I0, S0⟩ ⟨_, _, _, I1, S1⟩) (by omega)).sz cP
  refine (toTG (xSub_ok _ q0 (n0) _ q1 (n1) _ ⟨_, _, _, RG.mk (hS.num 8 rfl) (hS.num 7 rfl) (hS.num 6 rfl), I0, S0⟩ ⟨_, _, _, RG.mk (hS.num 5 rfl) (hS.num 4 rfl) (hS.num 3 rfl), I1, S1⟩ (by omega)) cP).mono ?_
  rintro e w7 ⟨v_, rfl, hv_, hx_⟩
  replace hS := hS.mv hx_
  clear hx_
  obtain ⟨_, rfl, bY, bm, bZ, c0, c1, bn, c2, c3, c4, bo, c5, c6, rfl, bp, bq, br⟩ := hv_
  replace hS := hS.addI bp
  clear bp
  replace hS := hS.addI bq
  clear bq
  replace hS := hS.addI br
  clear br
  have o9 : Own w w7.heap.size := Own.of hS.ext (by simp)
  have cQ := (St.al hS 26 #[.bool false, .slice none 0 0, .bool false, .slice none 0 0, .bool false, .slice none 0 0] (g := w7.heap.size) (by simp))
  have k_9 := (cQ.blk 0 rfl).cell
  have cR := (cQ.blk 0 rfl).frozen
  have cS := (St.al hS 26 #[.bool bY, .slice bm bZ c0, .bool c1, .slice bn c2 c3, .bool c4, .slice bo c5 c6] (g := w7.heap.size) (by simp))
  have cT := (cS.blk 4 rfl).cell
  have cU := (cS.blk 3 rfl).cell
  go_wp2_with fail
  clear k_9 cR cT cU
  clear cQ cS
  replace hS := (St.al hS 26 #[.bool bY, .slice bm bZ c0, .bool c1, .slice bn c2 c3, .bool c4, .slice bo c5 c6] (g := w7.heap.size) (by simp))
  generalize (w7.alloc (.cells #[.bool bY, .slice bm bZ c0, .bool c1, .slice bn c2 c3, .bool c4, .slice bo c5 c6] 26)) = w8 at hS ⊢
  generalize w7.heap.size = g9 at hS o9 ⊢
  obtain ⟨cV, cW, cX, cY⟩ := is_ex (q0 * q1)
  have S82 : Sz (n0 + n1 + 1) cV cW cX := (Bd.mul ⟨_, _, _, I0, S0⟩ ⟨_, _, _, I1, S1⟩).sz cY
  refine (toTG (xMul_w _ q0 (n0) _ q1 (n1) _ ⟨_, _, _, RG.mk (hS.num 11 rfl) (hS.num 10 rfl) (hS.num 9 rfl), I0, S0⟩ ⟨_, _, _, RG.mk (hS.num 8 rfl) (hS.num 7 rfl) (hS.num 6 rfl), I1, S1⟩ (by omega)) cY).mono ?_
  rintro e w9 ⟨v_, rfl, hv_, hx_⟩
  replace hS := hS.mv hx_
  clear hx_
  obtain ⟨_, rfl, c7, bs, c8, c9, ca, bt, cb, cc, cd, bu, ce, cf, rfl, bv, bw, bx⟩ := hv_
  replace hS := hS.addI bv
  clear bv
  replace hS := hS.addI bw
  clear bw
  replace hS := hS.addI bx
  clear bx
  have o11 : Own w w9.heap.size := Own.of hS.ext (by simp)
  have cZ := (St.al hS 26 #[.bool false, .slice none 0 0, .bool false, .slice none 0 0, .bool false, .slice none 0 0] (g := w9.heap.size) (by simp))
  have d0 := (cZ.blk 0 rfl).cell
  have d1 := (cZ.blk 0 rfl).frozen
  have d2 := (St.al hS 26 #[.bool c7, .slice bs c8 c9, .bool ca, .slice bt cb cc, .bool cd, .slice bu ce cf] (g := w9.heap.size) (by simp))
  have d3 := (d2.blk 5 rfl).cell
  have d4 := (d2.blk 4 rfl).cell
  go_wp2_with fail
  clear d0 d1 d3 d4
  clear cZ d2
  replace hS := (St.al hS 26 #[.bool c7, .slice bs c8 c9, .bool ca, .slice bt cb cc, .bool cd, .slice bu ce cf] (g := w9.heap.size) (by simp))
  generalize (w9.alloc (.cells #[.bool c7, .slice bs c8 c9, .bool ca, .slice bt cb cc, .bool cd, .slice bu ce cf] 26)) = w10 at hS ⊢
  generalize w9.heap.size = g11 at hS o11 ⊢
  refine (xDiv_z _ q0 (n0) _ q1 (n1) _ ⟨_, _, _, RG.mk (hS.num 14 rfl) (hS.num 13 rfl) (hS.num 12 rfl), I0, S0⟩ ⟨_, _, _, RG.mk (hS.num 11 rfl) (hS.num 10 rfl) (hS.num 9 rfl), I1, S1⟩ (Lib.hid HY.out) (by omega)).mono ?_
  rintro e cr ⟨v_, rfl, hv_, hx_⟩
  replace hS := hS.mv hx_
  clear hx_
  obtain ⟨_, rfl, cs, bM, ct, cu, cv, bN, cw, cx, cy, bO, cz, cA, rfl, bz, bA, bB⟩ := hv_
  replace hS := hS.addI bz
  clear bz
  replace hS := hS.addI bA
  clear bA
  replace hS := hS.addI bB
  clear bB
  have o13 : Own w cr.heap.size := Own.of hS.ext (by simp)
  have d5 := (St.al hS 26 #[.bool false, .slice none 0 0, .bool false, .slice none 0 0, .bool false, .slice none 0 0] (g := cr.heap.size) (by simp))
  have d6 := (d5.blk 0 rfl).cell
  have d7 := (d5.blk 0 rfl).frozen
  go_wp2_with fail
  clear d6 d7
  clear d5
  replace hS := (St.al hS 26 #[.bool cs, .slice bM ct cu, .bool cv, .slice bN cw cx, .bool cy, .slice bO cz cA] (g := cr.heap.size) (by simp))
  generalize (cr.alloc (.cells #[.bool cs, .slice bM ct cu, .bool cv, .slice bN cw cx, .bool cy, .slice bO cz cA] 26)) = w12 at hS ⊢
  generalize cr.heap.size = g13 at hS o13 ⊢
  obtain ⟨aJ, aK, aL, cB⟩ := is_ex (q0 + q1)
  have cC := AddOk.of I0 S0 I1 S1 cB (by omega)
  have d8 := cC.size
  obtain ⟨aM, aN, aO, cg⟩ := is_ex (q0 - q1)
  have d9 : Sz (n0 + n1 + 66) aM aN aO := (Bd.mono (Bd.sub ⟨_, _, _, I0, S0⟩ ⟨_, _, _, I1, S1⟩) (by omega)).sz cg
  obtain ⟨aP, aQ, aR, cD⟩ := is_ex (q0 * q1)
  have cE := MulOk.of I0 S0 I1 S1 cD (by omega)
  have da := cE.size
  have Y11 := ExtOf.blk (hS.blk 1 rfl)
  have Y9 := ExtOf.blk (hS.blk 2 rfl)
  have Y7 := ExtOf.blk (hS.blk 3 rfl)
  have Y3 := ExtOf.blk (hS.blk 5 rfl)
  have Y2 := ExtOf.blk (hS.blk 6 rfl)
  have hE_ := hS.ext
  refine wp_region_tame 33 (hasF [(14, .any), (15, .any), (22, .any), (23, .any), (30, .any), (31, .any)]) (Fcs [(14, .rg (aJ) (aK) (aL)), (15, .eq (.bool true)), (22, .rg (aM) (aN) (aO)), (23, .eq (.bool true)), (30, .rg (aP) (aQ) (aR)), (31, .eq (.bool true))]) (Fcs_stab _) (by kernel_rfl) (by kernel_rfl) ?_
  simp only [tk1, tk0, dp1, dp0]
  refine wpT_quiet 14 (by rfl) (by kernel_rfl) ?_
  simp only [tk1, tk0, dp1, dp0]
  repeat (go_big_quiet_step (fail))
  refine wpQuiet_nil ?_
  refine wpT_eff (by rfl) (by rfl) (by rfl) ?_ ?_
  · intro W_ hK
    have hW := hK.1
    clear hK
    go_simp
    exact ⟨rfl, (qAdd_ok _ _ ch ci cj dc dd de aJ aK aL _ _ _ (RG.mk (RI.ext (hS.num 17 rfl) hW) (RI.ext (hS.num 16 rfl) hW) (RI.ext (hS.num 15 rfl) hW)) (RG.mk (RI.ext (hS.num 14 rfl) hW) (RI.ext (hS.num 13 rfl) hW) (RI.ext (hS.num 12 rfl) hW)) cC).mono fun e w' ⟨v, he, hR, hx⟩ => ⟨v, he, hx, hR⟩⟩
  intro v_ aD aE hr_
  obtain ⟨W_, hW_⟩ := hr_
  have hv_ : Fc.holds (.rg (aJ) (aK) (aL)) aD aE v_ W_ := hW_.get
  clear hW_
  obtain ⟨a9, a0, aa, ab, ac, a1, ad, ae, af, a2, ag, ah, rfl, -, -, -⟩ := hv_
  clear W_
  try simp only [Act.put, sa0, sa1, sa2]
  refine wpT_eff (by rfl) (by rfl) (by rfl) ?_ ?_
  · intro W_ hK
    have hW := hK.1
    have bC : RI W_ (iv a9 a0 aa ab) aJ := RG.at1 (hK.2 14 ((gv a9 a0 aa ab ac a1 ad ae af a2 ag ah), aD, aE) (by rfl) (anc_of (by kernel_rfl)))
    have bD : RI W_ (iv ac a1 ad ae) aK := RG.at2 (hK.2 14 ((gv a9 a0 aa ab ac a1 ad ae af a2 ag ah), aD, aE) (by rfl) (anc_of (by kernel_rfl)))
    have bE : RI W_ (iv af a2 ag ah) aL := RG.at3 (hK.2 14 ((gv a9 a0 aa ab ac a1 ad ae af a2 ag ah), aD, aE) (by rfl) (anc_of (by kernel_rfl)))
    clear hK
    go_simp
    exact ⟨rfl, (qSame_q _ _ (q0 + q1) (q0 + q1) (n0 + n1 + 65) (n0 + n1 + 1) _ ⟨_, _, _, RG.mk (RI.ext (hS.num 11 rfl) hW) (RI.ext (hS.num 10 rfl) hW) (RI.ext (hS.num 9 rfl) hW), cJ, S70⟩ ⟨_, _, _, RG.mk bC bD bE, cB, d8⟩ rfl).mono fun e w' ⟨he, hx⟩ => ⟨_, he, hx, rfl⟩⟩
  intro v_ df dg hr_
  obtain ⟨W_, hW_⟩ := hr_
  obtain rfl : v_ = .bool true := hW_.get
  clear hW_ W_
  try simp only [Act.put, sa0, sa1, sa2]
  refine wpT_quiet 6 (by rfl) (by kernel_rfl) ?_
  simp only [tk1, tk0, dp1, dp0]
  repeat (go_big_quiet_step (fail))
  refine wpQuiet_nil ?_
  refine wpT_eff (by rfl) (by rfl) (by rfl) ?_ ?_
  · intro W_ hK
    have hW := hK.1
    clear hK
    go_simp
    exact ⟨rfl, (toRG (qSub_ok _ _ q0 q1 (n0) (n1) _ ⟨_, _, _, RG.mk (RI.ext (hS.num 17 rfl) hW) (RI.ext (hS.num 16 rfl) hW) (RI.ext (hS.num 15 rfl) hW), I0, S0⟩ ⟨_, _, _, RG.mk (RI.ext (hS.num 14 rfl) hW) (RI.ext (hS.num 13 rfl) hW) (RI.ext (hS.num 12 rfl) hW), I1, S1⟩ (by omega)) cg).mono fun e w' ⟨v, he, hR, hx⟩ => ⟨v, he, hx, hR⟩⟩
  intro v_ aF aG hr_
  obtain ⟨W_, hW_⟩ := hr_
  have hv_ : Fc.holds (.rg (aM) (aN) (aO)) aF aG v_ W_ := hW_.get
  clear hW_
  obtain ⟨ai, a3, aj, ak, am, a4, an, ao, ap, a5, aq, ar, rfl, -, -, -⟩ := hv_
  clear W_
  try simp only [Act.put, sa0, sa1, sa2]
  refine wpT_eff (by rfl) (by rfl) (by rfl) ?_ ?_
  · intro W_ hK
    have hW := hK.1
    have bF : RI W_ (iv ai a3 aj ak) aM := RG.at1 (hK.2 22 ((gv ai a3 aj ak am a4 an ao ap a5 aq ar), aF, aG) (by rfl) (anc_of (by kernel_rfl)))
    have bG : RI W_ (iv am a4 an ao) aN := RG.at2 (hK.2 22 ((gv ai a3 aj ak am a4 an ao ap a5 aq ar), aF, aG) (by rfl) (anc_of (by kernel_rfl)))
    have bH : RI W_ (iv ap a5 aq ar) aO := RG.at3 (hK.2 22 ((gv ai a3 aj ak am a4 an ao ap a5 aq ar), aF, aG) (by rfl) (anc_of (by kernel_rfl)))
    clear hK
    go_simp
    exact ⟨rfl, (qSame_q _ _ (q0 - q1) (q0 - q1) (n0 + n1 + 65) (n0 + n1 + 66) _ ⟨_, _, _, RG.mk (RI.ext (hS.num 8 rfl) hW) (RI.ext (hS.num 7 rfl) hW) (RI.ext (hS.num 6 rfl) hW), cP, S76⟩ ⟨_, _, _, RG.mk bF bG bH, cg, d9⟩ rfl).mono fun e w' ⟨he, hx⟩ => ⟨_, he, hx, rfl⟩⟩
  intro v_ dh di hr_
  obtain ⟨W_, hW_⟩ := hr_
  obtain rfl : v_ = .bool true := hW_.get
  clear hW_ W_
  try simp only [Act.put, sa0, sa1, sa2]
  refine wpT_quiet 6 (by rfl) (by kernel_rfl) ?_
  simp only [tk1, tk0, dp1, dp0]
  repeat (go_big_quiet_step (fail))
  refine wpQuiet_nil ?_
  refine wpT_eff (by rfl) (by rfl) (by rfl) ?_ ?_
  · intro W_ hK
    have hW := hK.1
    clear hK
    go_simp
    exact ⟨rfl, (qMul_ok _ _ ch ci cj dc dd de aP aQ aR _ _ _ (RG.mk (RI.ext (hS.num 17 rfl) hW) (RI.ext (hS.num 16 rfl) hW) (RI.ext (hS.num 15 rfl) hW)) (RG.mk (RI.ext (hS.num 14 rfl) hW) (RI.ext (hS.num 13 rfl) hW) (RI.ext (hS.num 12 rfl) hW)) cE).mono fun e w' ⟨v, he, hR, hx⟩ => ⟨v, he, hx, hR⟩⟩
  intro v_ aH aI hr_
  obtain ⟨W_, hW_⟩ := hr_
  have hv_ : Fc.holds (.rg (aP) (aQ) (aR)) aH aI v_ W_ := hW_.get
  clear hW_
  obtain ⟨au, a6, av, aw, ax, a7, ay, az, aA, a8, aB, aC, rfl, -, -, -⟩ := hv_
  clear W_
  try simp only [Act.put, sa0, sa1, sa2]
  refine wpT_eff (by rfl) (by rfl) (by rfl) ?_ ?_
  · intro W_ hK
    have hW := hK.1
    have bI : RI W_ (iv au a6 av aw) aP := RG.at1 (hK.2 30 ((gv au a6 av aw ax a7 ay az aA a8 aB aC), aH, aI) (by rfl) (anc_of (by kernel_rfl)))
    have bJ : RI W_ (iv ax a7 ay az) aQ := RG.at2 (hK.2 30 ((gv au a6 av aw ax a7 ay az aA a8 aB aC), aH, aI) (by rfl) (anc_of (by kernel_rfl)))
    have bK : RI W_ (iv aA a8 aB aC) aR := RG.at3 (hK.2 30 ((gv au a6 av aw ax a7 ay az aA a8 aB aC), aH, aI) (by rfl) (anc_of (by kernel_rfl)))
    clear hK
    go_simp
    exact ⟨rfl, (qSame_q _ _ (q0 * q1) (q0 * q1) (n0 + n1 + 1) (n0 + n1 + 1) _ ⟨_, _, _, RG.mk (RI.ext (hS.num 5 rfl) hW) (RI.ext (hS.num 4 rfl) hW) (RI.ext (hS.num 3 rfl) hW), cY, S82⟩ ⟨_, _, _, RG.mk bI bJ bK, cD, da⟩ rfl).mono fun e w' ⟨he, hx⟩ => ⟨_, he, hx, rfl⟩⟩
  intro v_ dj dk hr_
  obtain ⟨W_, hW_⟩ := hr_
  obtain rfl : v_ = .bool true := hW_.get
  clear hW_ W_
  try simp only [Act.put, sa0, sa1, sa2]
  refine wpT_quiet 1 (by rfl) (by kernel_rfl) ?_
  simp only [tk1, tk0, dp1, dp0]
  repeat (go_big_quiet_step (fail))
  refine wpQuiet_nil ?_
  refine wpT_nil ?_
  intro bL hK
  have hlt_ := hS.lt
  replace hS := hS.mv hK.ext
  replace hS := hS.addI (show RI bL (iv a9 a0 aa ab) aJ from RG.at1 (hK.at_ 14 (e := ((gv a9 a0 aa ab ac a1 ad ae af a2 ag ah), aD, aE)) (by rfl)))
  replace hS := hS.addI (show RI bL (iv ac a1 ad ae) aK from RG.at2 (hK.at_ 14 (e := ((gv a9 a0 aa ab ac a1 ad ae af a2 ag ah), aD, aE)) (by rfl)))
  replace hS := hS.addI (show RI bL (iv af a2 ag ah) aL from RG.at3 (hK.at_ 14 (e := ((gv a9 a0 aa ab ac a1 ad ae af a2 ag ah), aD, aE)) (by rfl)))
  replace hS := hS.addI (show RI bL (iv ai a3 aj ak) aM from RG.at1 (hK.at_ 22 (e := ((gv ai a3 aj ak am a4 an ao ap a5 aq ar), aF, aG)) (by rfl)))
  replace hS := hS.addI (show RI bL (iv am a4 an ao) aN from RG.at2 (hK.at_ 22 (e := ((gv ai a3 aj ak am a4 an ao ap a5 aq ar), aF, aG)) (by rfl)))
  replace hS := hS.addI (show RI bL (iv ap a5 aq ar) aO from RG.at3 (hK.at_ 22 (e := ((gv ai a3 aj ak am a4 an ao ap a5 aq ar), aF, aG)) (by rfl)))
  replace hS := hS.addI (show RI bL (iv au a6 av aw) aP from RG.at1 (hK.at_ 30 (e := ((gv au a6 av aw ax a7 ay az aA a8 aB aC), aH, aI)) (by rfl)))
  replace hS := hS.addI (show RI bL (iv ax a7 ay az) aQ from RG.at2 (hK.at_ 30 (e := ((gv au a6 av aw ax a7 ay az aA a8 aB aC), aH, aI)) (by rfl)))
  replace hS := hS.addI (show RI bL (iv aA a8 aB aC) aR from RG.at3 (hK.at_ 30 (e := ((gv au a6 av aw ax a7 ay az aA a8 aB aC), aH, aI)) (by rfl)))
  clear hK hlt_ hE_ Y11 Y9 Y7 Y3 Y2
  have db := (hS.blk 5 rfl).cell
  go_wp2_with fail
  clear db
  refine (qZero_yes _ q1 (n1) _ ⟨_, _, _, RG.mk (hS.num 23 rfl) (hS.num 22 rfl) (hS.num 21 rfl), I1, S1⟩ (by omega) HY.out).mono ?_
  rintro e w14 ⟨rfl, hx_⟩
  replace hS := hS.mv hx_
  clear hx_
  go_wp2_with fail
  refine (lxknown_ok _ (tab_ext hTab hS.ext)).mono ?_
  rintro e w15 ⟨rfl, hx_⟩
  replace hS := hS.mv hx_
  clear hx_
  go_wp2
  go_ret
  exact ⟨ret_bool (rfl), hS.ext⟩

set_option maxRecDepth 100000 in
set_option maxHeartbeats 51200000 in
theorem comp_ttn (v0 : Value) (q0 : GQ) (n0 : Nat) (v1 : Value) (q1 : GQ) (n1 : Nat) (zb sb : Bool) (w : World) (hX0 : GV w v0 q0 n0) (hX1 : GV w v1 q1 n1) (hn0 : n0 ≤ 1280) (hn1 : n1 ≤ 1280) (hTab : Tab w) (HZ : Hid (zb = true ↔ q0 = GQ.i 0 0)) (HS : Hid (sb = true ↔ q0 = q1)) (HY : Hid (q1 ≠ GQ.i 0 0))
      :
    Calls Tryz.prog 9 #[v0, v1] w fun e w' => e = .returned (.bool true) ∧ Ext w w' := by
  have hS := St.start w
  obtain ⟨cD, cE, cF, hX0, I0, S0⟩ := hX0
  obtain ⟨bf, bg, b9, bh, bi, bj, ba, bk, bl, bm, bb, bn, rfl, cG, cH, cI⟩ := hX0
  replace hS := hS.addI cG
  clear cG
  replace hS := hS.addI cH
  clear cH
  replace hS := hS.addI cI
  clear cI
  obtain ⟨dE, dF, dG, hX1, I1, S1⟩ := hX1
  obtain ⟨bo, bp, bc, bq, br, bs, bd, bt, bu, bv, be, bw, rfl, cJ, cK, cL⟩ := hX1
  replace hS := hS.addI cJ
  clear cJ
  replace hS := hS.addI cK
  clear cK
  replace hS := hS.addI cL
  clear cL
  have HL : Hid ([b9, ba, bb, bc, bd, be].all (fun n => decide (n ≤ 40)) = true) := Lib.hid (by simp only [List.all_cons, List.all_nil, Bool.and_true, Bool.and_eq_true, decide_eq_true_eq]; exact ⟨RI.low (k := 40) (hS.num 5 rfl) S0.a (by omega), RI.low (k := 40) (hS.num 4 rfl) S0.b (by omega), RI.low (k := 40) (hS.num 3 rfl) S0.d (by omega), RI.low (k := 40) (hS.num 2 rfl) S1.a (by omega), RI.low (k := 40) (hS.num 1 rfl) S1.b (by omega), RI.low (k := 40) (hS.num 0 rfl) S1.d (by omega)⟩)
  have o2 : Own w w.heap.size := Own.of hS.ext (by simp)
  have o3 : Own w (w.heap.size + 1) := Own.of hS.ext (by simp)
  have d0 := (St.al (St.al hS 26 #[.bool bf, .slice bg b9 bh, .bool bi, .slice bj ba bk, .bool bl, .slice bm bb bn] (g := w.heap.size) (by simp)) 26 #[.bool bo, .slice bp bc bq, .bool br, .slice bs bd bt, .bool bu, .slice bv be bw] (g := (w.heap.size + 1)) (by simp))
  have k_1 := (d0.blk 1 rfl).cell
  have k_2 := (d0.blk 0 rfl).cell
  have o17 : Own w (w.heap.size + 2) := Own.of hS.ext (by simp)
  go_enter Tryz.func9, Tryz.ntmps9
  go_wp2_with fail
  clear k_1 k_2
  clear d0
  replace hS := (St.al (St.al (St.al hS 26 #[.bool bf, .slice bg b9 bh, .bool bi, .slice bj ba bk, .bool bl, .slice bm bb bn] (g := w.heap.size) (by simp)) 26 #[.bool bo, .slice bp bc bq, .bool br, .slice bs bd bt, .bool bu, .slice bv be bw] (g := (w.heap.size + 1)) (by simp)) 26 #[.bool bf, .slice bg b9 bh, .bool bi, .slice bj ba bk, .bool bl, .slice bm bb bn, .bool bo, .slice bp bc bq, .bool br, .slice bs bd bt, .bool bu, .slice bv be bw] (g := (w.heap.size + 2)) (by simp))
  generalize (((w.alloc (.cells #[.bool bf, .slice bg b9 bh, .bool bi, .slice bj ba bk, .bool bl, .slice bm bb bn] 26)).alloc (.cells #[.bool bo, .slice bp bc bq, .bool br, .slice bs bd bt, .bool bu, .slice bv be bw] 26)).alloc (.cells #[.bool bf, .slice bg b9 bh, .bool bi, .slice bj ba bk, .bool bl, .slice bm bb bn, .bool bo, .slice bp bc bq, .bool br, .slice bs bd bt, .bool bu, .slice bv be bw] 26)) = w1 at hS ⊢
  generalize w.heap.size + 2 = g17 at hS o17 ⊢
  generalize w.heap.size + 1 = g3 at hS o3 ⊢
  generalize w.heap.size = g2 at hS o2 ⊢
  refine (low2_raw g17 40 true _ (hS.blk 0 rfl) HL.out).mono ?_
  rintro e w2 ⟨rfl, hx_⟩
  replace hS := hS.mv hx_
  clear hx_
  go_wp2_with fail
  have Y3 := ExtOf.blk (hS.blk 1 rfl)
  have Y2 := ExtOf.blk (hS.blk 2 rfl)
  have hE_ := hS.ext
  refine wp_region_tame 4 (hasF [(1, .any), (3, .any)]) (Fcs [(1, .eq (.bool true)), (3, .eq (.bool true))]) (Fcs_stab _) (by kernel_rfl) (by kernel_rfl) ?_
  simp only [tk1, tk0, dp1, dp0]
  refine wpT_quiet 1 (by rfl) (by kernel_rfl) ?_
  simp only [tk1, tk0, dp1, dp0]
  repeat (go_big_quiet_step (fail))
  refine wpQuiet_nil ?_
  refine wpT_eff (by rfl) (by rfl) (by rfl) ?_ ?_
  · intro W_ hK
    have hW := hK.1
    clear hK
    go_simp
    exact ⟨rfl, (qValid_gv _ q0 (n0) _ ⟨_, _, _, RG.mk (RI.ext (hS.num 5 rfl) hW) (RI.ext (hS.num 4 rfl) hW) (RI.ext (hS.num 3 rfl) hW), I0, S0⟩ (by omega)).mono fun e w' ⟨he, hx⟩ => ⟨_, he, hx, rfl⟩⟩
  intro v_ lo22 hi22 hr_
  obtain ⟨W_, hW_⟩ := hr_
  obtain rfl : v_ = .bool true := hW_.get
  clear hW_ W_
  try simp only [Act.put, sa0, sa1, sa2]
  refine wpT_quiet 1 (by rfl) (by kernel_rfl) ?_
  simp only [tk1, tk0, dp1, dp0]
  repeat (go_big_quiet_step (fail))
  refine wpQuiet_nil ?_
  refine wpT_eff (by rfl) (by rfl) (by rfl) ?_ ?_
  · intro W_ hK
    have hW := hK.1
    clear hK
    go_simp
    exact ⟨rfl, (qValid_gv _ q1 (n1) _ ⟨_, _, _, RG.mk (RI.ext (hS.num 2 rfl) hW) (RI.ext (hS.num 1 rfl) hW) (RI.ext (hS.num 0 rfl) hW), I1, S1⟩ (by omega)).mono fun e w' ⟨he, hx⟩ => ⟨_, he, hx, rfl⟩⟩
  intro v_ lo24 hi24 hr_
  obtain ⟨W_, hW_⟩ := hr_
  obtain rfl : v_ = .bool true := hW_.get
  clear hW_ W_
  try simp only [Act.put, sa0, sa1, sa2]
  refine wpT_nil ?_
  intro w3 hK
  have hlt_ := hS.lt
  replace hS := hS.mv hK.ext
  clear hK hlt_ hE_ Y3 Y2
  go_wp2_with fail
  have Y3 := ExtOf.blk (hS.blk 1 rfl)
  have Y2 := ExtOf.blk (hS.blk 2 rfl)
  have hE_ := hS.ext
  refine wp_region_tame 41 (hasF [(1, .any), (6, .any), (12, .any), (14, .any), (19, .any), (23, .any), (30, .any), (38, .any)]) (Fcs [(1, .eq (.bool true)), (6, .eq (.bool true)), (12, .eq (.string ⟨(gtx cD cE cF).toArray⟩)), (14, .eq (.string ⟨(gtx cD cE cF).toArray⟩)), (19, .eq (.bool zb)), (23, .eq (.bool zb)), (30, .eq (.bool sb)), (38, .eq (.bool sb))]) (Fcs_stab _) (by kernel_rfl) (by kernel_rfl) ?_
  simp only [tk1, tk0, dp1, dp0]
  refine wpT_quiet 1 (by rfl) (by kernel_rfl) ?_
  simp only [tk1, tk0, dp1, dp0]
  repeat (go_big_quiet_step (fail))
  refine wpQuiet_nil ?_
  refine wpT_eff (by rfl) (by rfl) (by rfl) ?_ ?_
  · intro W_ hK
    have hW := hK.1
    clear hK
    go_simp
    exact ⟨rfl, (eValid_gv _ q0 (n0) _ ⟨_, _, _, RG.mk (RI.ext (hS.num 5 rfl) hW) (RI.ext (hS.num 4 rfl) hW) (RI.ext (hS.num 3 rfl) hW), I0, S0⟩ (by omega)).mono fun e w' ⟨he, hx⟩ => ⟨_, he, hx, rfl⟩⟩
  intro v_ lo26 hi26 hr_
  obtain ⟨W_, hW_⟩ := hr_
  obtain rfl : v_ = .bool true := hW_.get
  clear hW_ W_
  try simp only [Act.put, sa0, sa1, sa2]
  refine wpT_quiet 4 (by rfl) (by kernel_rfl) ?_
  simp only [tk1, tk0, dp1, dp0]
  repeat (go_big_quiet_step (fail))
  refine wpQuiet_nil ?_
  refine wpT_eff (by rfl) (by rfl) (by rfl) ?_ ?_
  · intro W_ hK
    have hW := hK.1
    clear hK
    go_simp
    exact ⟨rfl, (eValid_gv _ q1 (n1) _ ⟨_, _, _, RG.mk (RI.ext (hS.num 2 rfl) hW) (RI.ext (hS.num 1 rfl) hW) (RI.ext (hS.num 0 rfl) hW), I1, S1⟩ (by omega)).mono fun e w' ⟨he, hx⟩ => ⟨_, he, hx, rfl⟩⟩
  intro v_ lo31 hi31 hr_
  obtain ⟨W_, hW_⟩ := hr_
  obtain rfl : v_ = .bool true := hW_.get
  clear hW_ W_
  try simp only [Act.put, sa0, sa1, sa2]
  refine wpT_quiet 5 (by rfl) (by kernel_rfl) ?_
  simp only [tk1, tk0, dp1, dp0]
  repeat (go_big_quiet_step (fail))
  refine wpQuiet_nil ?_
  refine wpT_eff (by rfl) (by rfl) (by rfl) ?_ ?_
  · intro W_ hK
    have hW := hK.1
    clear hK
    go_simp
    exact ⟨rfl, (xText_ok _ q0 (n0) _ ⟨_, _, _, RG.mk (RI.ext (hS.num 5 rfl) hW) (RI.ext (hS.num 4 rfl) hW) (RI.ext (hS.num 3 rfl) hW), I0, S0⟩ (by omega) (tab_ext hTab (hE_.trans hW)) I0).mono fun e w' ⟨he, hx⟩ => ⟨_, he, hx, rfl⟩⟩
  intro v_ lo37 hi37 hr_
  obtain ⟨W_, hW_⟩ := hr_
  obtain rfl : v_ = .string ⟨(gtx cD cE cF).toArray⟩ := hW_.get
  clear hW_ W_
  try simp only [Act.put, sa0, sa1, sa2]
  refine wpT_quiet 1 (by rfl) (by kernel_rfl) ?_
  simp only [tk1, tk0, dp1, dp0]
  repeat (go_big_quiet_step (fail))
  refine wpQuiet_nil ?_
  refine wpT_eff (by rfl) (by rfl) (by rfl) ?_ ?_
  · intro W_ hK
    have hW := hK.1
    clear hK
    go_simp
    exact ⟨rfl, (qText_ok _ q0 (n0) _ ⟨_, _, _, RG.mk (RI.ext (hS.num 5 rfl) hW) (RI.ext (hS.num 4 rfl) hW) (RI.ext (hS.num 3 rfl) hW), I0, S0⟩ (by omega) I0).mono fun e w' ⟨he, hx⟩ => ⟨_, he, hx, rfl⟩⟩
  intro v_ lo39 hi39 hr_
  obtain ⟨W_, hW_⟩ := hr_
  obtain rfl : v_ = .string ⟨(gtx cD cE cF).toArray⟩ := hW_.get
  clear hW_ W_
  try simp only [Act.put, sa0, sa1, sa2]
  refine wpT_quiet 4 (by rfl) (by kernel_rfl) ?_
  simp only [tk1, tk0, dp1, dp0]
  repeat (go_big_quiet_step (fail))
  refine wpQuiet_nil ?_
  refine wpT_eff (by rfl) (by rfl) (by rfl) ?_ ?_
  · intro W_ hK
    have hW := hK.1
    clear hK
    go_simp
    exact ⟨rfl, (xZero_b _ q0 (n0) zb _ ⟨_, _, _, RG.mk (RI.ext (hS.num 5 rfl) hW) (RI.ext (hS.num 4 rfl) hW) (RI.ext (hS.num 3 rfl) hW), I0, S0⟩ (by omega) HZ.out).mono fun e w' ⟨he, hx⟩ => ⟨_, he, hx, rfl⟩⟩
  intro v_ lo44 hi44 hr_
  obtain ⟨W_, hW_⟩ := hr_
  obtain rfl : v_ = .bool zb := hW_.get
  clear hW_ W_
  try simp only [Act.put, sa0, sa1, sa2]
  refine wpT_quiet 3 (by rfl) (by kernel_rfl) ?_
  simp only [tk1, tk0, dp1, dp0]
  repeat (go_big_quiet_step (fail))
  refine wpQuiet_nil ?_
  refine wpT_eff (by rfl) (by rfl) (by rfl) ?_ ?_
  · intro W_ hK
    have hW := hK.1
    clear hK
    go_simp
    exact ⟨rfl, (qZero_b _ q0 (n0) zb _ ⟨_, _, _, RG.mk (RI.ext (hS.num 5 rfl) hW) (RI.ext (hS.num 4 rfl) hW) (RI.ext (hS.num 3 rfl) hW), I0, S0⟩ (by omega) HZ.out).mono fun e w' ⟨he, hx⟩ => ⟨_, he, hx, rfl⟩⟩
  intro v_ lo48 hi48 hr_
  obtain ⟨W_, hW_⟩ := hr_
  obtain rfl : v_ = .bool zb := hW_.get
  clear hW_ W_
  try simp only [Act.put, sa0, sa1, sa2]
  refine wpT_quiet 6 (by rfl) (by kernel_rfl) ?_
  simp only [tk1, tk0, dp1, dp0]
  repeat (go_big_quiet_step (fail))
  refine wpQuiet_nil ?_
  refine wpT_eff (by rfl) (by rfl) (by rfl) ?_ ?_
  · intro W_ hK
    have hW := hK.1
    clear hK
    go_simp
    exact ⟨rfl, (xSame_b _ _ q0 q1 (n0) (n1) sb _ ⟨_, _, _, RG.mk (RI.ext (hS.num 5 rfl) hW) (RI.ext (hS.num 4 rfl) hW) (RI.ext (hS.num 3 rfl) hW), I0, S0⟩ ⟨_, _, _, RG.mk (RI.ext (hS.num 2 rfl) hW) (RI.ext (hS.num 1 rfl) hW) (RI.ext (hS.num 0 rfl) hW), I1, S1⟩ (by omega) (by omega) HS.out).mono fun e w' ⟨he, hx⟩ => ⟨_, he, hx, rfl⟩⟩
  intro v_ lo55 hi55 hr_
  obtain ⟨W_, hW_⟩ := hr_
  obtain rfl : v_ = .bool sb := hW_.get
  clear hW_ W_
  try simp only [Act.put, sa0, sa1, sa2]
  refine wpT_quiet 7 (by rfl) (by kernel_rfl) ?_
  simp only [tk1, tk0, dp1, dp0]
  repeat (go_big_quiet_step (fail))
  refine wpQuiet_nil ?_
  refine wpT_eff (by rfl) (by rfl) (by rfl) ?_ ?_
  · intro W_ hK
    have hW := hK.1
    clear hK
    go_simp
    exact ⟨rfl, (qSame_b_ _ _ q0 q1 (n0) (n1) sb _ ⟨_, _, _, RG.mk (RI.ext (hS.num 5 rfl) hW) (RI.ext (hS.num 4 rfl) hW) (RI.ext (hS.num 3 rfl) hW), I0, S0⟩ ⟨_, _, _, RG.mk (RI.ext (hS.num 2 rfl) hW) (RI.ext (hS.num 1 rfl) hW) (RI.ext (hS.num 0 rfl) hW), I1, S1⟩ HS.out).mono fun e w' ⟨he, hx⟩ => ⟨_, he, hx, rfl⟩⟩
  intro v_ lo63 hi63 hr_
  obtain ⟨W_, hW_⟩ := hr_
  obtain rfl : v_ = .bool sb := hW_.get
  clear hW_ W_
  try simp only [Act.put, sa0, sa1, sa2]
  refine wpT_quiet 2 (by rfl) (by kernel_rfl) ?_
  simp only [tk1, tk0, dp1, dp0]
  repeat (go_big_quiet_step (fail))
  refine wpQuiet_nil ?_
  refine wpT_nil ?_
  intro w4 hK
  have hlt_ := hS.lt
  replace hS := hS.mv hK.ext
  clear hK hlt_ hE_ Y3 Y2
  have k_3 := (hS.blk 2 rfl).cell
  have k_4 := (hS.blk 1 rfl).cell
  go_wp2_with fail
  clear k_3 k_4
  obtain ⟨d1, d2, d3, d4⟩ := is_ex (q0 + q1)
  have S70 : Sz (n0 + n1 + 65) d1 d2 d3 := (Bd.mono (Bd.add ⟨_, _, _, I0, S0⟩ ⟨_, _, _, I1, S1⟩) (by omega)).sz d4
  refine (toTG (xAdd_ok _ q0 (n0) _ q1 (n1) _ ⟨_, _, _, RG.mk (hS.num 5 rfl) (hS.num 4 rfl) (hS.num 3 rfl), I0, S0⟩ ⟨_, _, _, RG.mk (hS.num 2 rfl) (hS.num 1 rfl) (hS.num 0 rfl), I1, S1⟩ (by omega)) d4).mono ?_
  rintro e w5 ⟨v_, rfl, hv_, hx_⟩
  replace hS := hS.mv hx_
  clear hx_
  obtain ⟨_, rfl, c9, bx, ca, cb, cc, bz, cd, ce, cf, bA, cg, ch, rfl, bB, bC, bD⟩ := hv_
  replace hS := hS.addI bB
  clear bB
  replace hS := hS.addI bC
  clear bC
  replace hS := hS.addI bD
  clear bD
  have o7 : Own w w5.heap.size := Own.of hS.ext (by simp)
  have d5 := (St.al hS 26 #[.bool false, .slice none 0 0, .bool false, .slice none 0 0, .bool false, .slice none 0 0] (g := w5.heap.size) (by simp))
  have k_5 := (d5.blk 0 rfl).cell
  have k_6 := (d5.blk 0 rfl).frozen
  have d6 := (St.al hS 26 #[.bool c9, .slice bx ca cb, .bool cc, .slice bz cd ce, .bool cf, .slice bA cg ch] (g := w5.heap.size) (by simp))
  have k_7 := (d6.blk 3 rfl).cell
  have k_8 := (d6.blk 2 rfl).cell
  go_wp2_with fail
  clear k_5 k_6 k_7 k_8
  clear d5 d6
  replace hS := (St.al hS 26 #[.bool c9, .slice bx ca cb, .bool cc, .slice bz cd ce, .bool cf, .slice bA cg ch] (g := w5.heap.size) (by simp))
  generalize (w5.alloc (.cells #[.bool c9, .slice bx ca cb, .bool cc, .slice bz cd ce, .bool cf, .slice bA cg ch] 26)) = w6 at hS ⊢
  generalize w5.heap.size = g7 at hS o7 ⊢
  obtain ⟨d7, d8, d9, da⟩ := is_ex (q0 - q1)
  have S76 : Sz (n0 + n1 + 65) d7 d8 d9 := (Bd.mono (Bd.sub ⟨_, _, _, I0, S0⟩ ⟨_, _, _, I1, S1⟩) (by omega)).sz da
  refine (toTG (xSub_ok _ q0 (n0) _ q1 (n1) _ ⟨_, _, _, RG.mk (hS.num 8 rfl) (hS.num 7 rfl) (hS.num 6 rfl), I0, S0⟩ ⟨_, _, _, RG.mk (hS.num 5 rfl) (hS.num 4 rfl) (hS.num 3 rfl), I1, S1⟩ (by omega)) da).mono ?_
  rintro e w7 ⟨v_, rfl, hv_, hx_⟩
  replace hS := hS.mv hx_
  clear hx_
  obtain ⟨_, rfl, ci, bE, cj, ck, cl, bF, cn, co, cp, bG, cq, cr, rfl, bH, bI, bJ⟩ := hv_
  replace hS := hS.addI bH
  clear bH
  replace hS := hS.addI bI
  clear bI
  replace hS := hS.addI bJ
  clear bJ
  have o9 : Own w w7.heap.size := Own.of hS.ext (by simp)
  have db := (St.al hS 26 #[.bool false, .slice none 0 0, .bool false, .slice none 0 0, .bool false, .slice none 0 0] (g := w7.heap.size) (by simp))
  have k_9 := (db.blk 0 rfl).cell
  have dc := (db.blk 0 rfl).frozen
  have dd := (St.al hS 26 #[.bool ci, .slice bE cj ck, .bool cl, .slice bF cn co, .bool cp, .slice bG cq cr] (g := w7.heap.size) (by simp))
  have de := (dd.blk 4 rfl).cell
  have df := (dd.blk 3 rfl).cell
  go_wp2_with fail
  clear k_9 dc de df
  clear db dd
  replace hS := (St.al hS 26 #[.bool ci, .slice bE cj ck, .bool cl, .slice bF cn co, .bool cp, .slice bG cq cr] (g := w7.heap.size) (by simp))
  generalize (w7.alloc (.cells #[.bool ci, .slice bE cj ck, .bool cl, .slice bF cn co, .bool cp, .slice bG cq cr] 26)) = w8 at hS ⊢
  generalize w7.heap.size = g9 at hS o9 ⊢
  obtain ⟨dg, dh, di, dj⟩ := is_ex (q0 * q1)
  have S82 : Sz (n0 + n1 + 1) dg dh di := (Bd.mul ⟨_, _, _, I0, S0⟩ ⟨_, _, _, I1, S1⟩).sz dj
  refine (toTG (xMul_w _ q0 (n0) _ q1 (n1) _ ⟨_, _, _, RG.mk (hS.num 11 rfl) (hS.num 10 rfl) (hS.num 9 rfl), I0, S0⟩ ⟨_, _, _, RG.mk (hS.num 8 rfl) (hS.num 7 rfl) (hS.num 6 rfl), I1, S1⟩ (by omega)) dj).mono ?_
  rintro e w9 ⟨v_, rfl, hv_, hx_⟩
  replace hS := hS.mv hx_
  clear hx_
  obtain ⟨_, rfl, cs, bK, ct, cu, cv, bL, cw, cx, cy, bM, cz, cA, rfl, bN, bO, bP⟩ := hv_
  replace hS := hS.addI bN
  clear bN
  replace hS := hS.addI bO
  clear bO
  replace hS := hS.addI bP
  clear bP
  have o11 : Own w w9.heap.size := Own.of hS.ext (by simp)
  have dk := (St.al hS 26 #[.bool false, .slice none 0 0, .bool false, .slice none 0 0, .bool false, .slice none 0 0] (g := w9.heap.size) (by simp))
  have dl := (dk.blk 0 rfl).cell
  have dm := (dk.blk 0 rfl).frozen
  have dn := (St.al hS 26 #[.bool cs, .slice bK ct cu, .bool cv, .slice bL cw cx, .bool cy, .slice bM cz cA] (g := w9.heap.size) (by simp))
  have dp := (dn.blk 5 rfl).cell
  have dq := (dn.blk 4 rfl).cell
  go_wp2_with fail
  clear dl dm dp dq
  clear dk dn
  replace hS := (St.al hS 26 #[.bool cs, .slice bK ct cu, .bool cv, .slice bL cw cx, .bool cy, .slice bM cz cA] (g := w9.heap.size) (by simp))
  generalize (w9.alloc (.cells #[.bool cs, .slice bK ct cu, .bool cv, .slice bL cw cx, .bool cy, .slice bM cz cA] 26)) = w10 at hS ⊢
  generalize w9.heap.size = g11 at hS o11 ⊢
  obtain ⟨dr, ds, dt, du⟩ := is_ex (q0 / q1)
  have S88 : Sz (n0 + (n1 + n1 + 1)) dr ds dt := (Bd.div ⟨_, _, _, I0, S0⟩ ⟨_, _, _, I1, S1⟩ HY.out).sz du
  refine (toTG (xDiv_w _ q0 (n0) _ q1 (n1) _ ⟨_, _, _, RG.mk (hS.num 14 rfl) (hS.num 13 rfl) (hS.num 12 rfl), I0, S0⟩ ⟨_, _, _, RG.mk (hS.num 11 rfl) (hS.num 10 rfl) (hS.num 9 rfl), I1, S1⟩ (Lib.hid HY.out) (by omega)) du).mono ?_
  rintro e cM ⟨v_, rfl, hv_, hx_⟩
  replace hS := hS.mv hx_
  clear hx_
  obtain ⟨_, rfl, cN, c6, cO, cP, cQ, c7, cR, cS, cT, c8, cU, cV, rfl, bQ, bR, bS⟩ := hv_
  replace hS := hS.addI bQ
  clear bQ
  replace hS := hS.addI bR
  clear bR
  replace hS := hS.addI bS
  clear bS
  have o13 : Own w cM.heap.size := Own.of hS.ext (by simp)
  have dv := (St.al hS 26 #[.bool false, .slice none 0 0, .bool false, .slice none 0 0, .bool false, .slice none 0 0] (g := cM.heap.size) (by simp))
  have dw := (dv.blk 0 rfl).cell
  have dx := (dv.blk 0 rfl).frozen
  go_wp2_with fail
  clear dw dx
  clear dv
  replace hS := (St.al hS 26 #[.bool cN, .slice c6 cO cP, .bool cQ, .slice c7 cR cS, .bool cT, .slice c8 cU cV] (g := cM.heap.size) (by simp))
  generalize (cM.alloc (.cells #[.bool cN, .slice c6 cO cP, .bool cQ, .slice c7 cR cS, .bool cT, .slice c8 cU cV] 26)) = w12 at hS ⊢
  generalize cM.heap.size = g13 at hS o13 ⊢
  obtain ⟨aX, aY, aZ, cW⟩ := is_ex (q0 + q1)
  have cX := AddOk.of I0 S0 I1 S1 cW (by omega)
  have dy := cX.size
  obtain ⟨b0, b1, b2, cB⟩ := is_ex (q0 - q1)
  have dz : Sz (n0 + n1 + 66) b0 b1 b2 := (Bd.mono (Bd.sub ⟨_, _, _, I0, S0⟩ ⟨_, _, _, I1, S1⟩) (by omega)).sz cB
  obtain ⟨b3, b4, b5, cY⟩ := is_ex (q0 * q1)
  have cZ := MulOk.of I0 S0 I1 S1 cY (by omega)
  have dA := cZ.size
  have Y11 := ExtOf.blk (hS.blk 1 rfl)
  have Y9 := ExtOf.blk (hS.blk 2 rfl)
  have Y7 := ExtOf.blk (hS.blk 3 rfl)
  have Y3 := ExtOf.blk (hS.blk 5 rfl)
  have Y2 := ExtOf.blk (hS.blk 6 rfl)
  have hE_ := hS.ext
  refine wp_region_tame 33 (hasF [(14, .any), (15, .any), (22, .any), (23, .any), (30, .any), (31, .any)]) (Fcs [(14, .rg (aX) (aY) (aZ)), (15, .eq (.bool true)), (22, .rg (b0) (b1) (b2)), (23, .eq (.bool true)), (30, .rg (b3) (b4) (b5)), (31, .eq (.bool true))]) (Fcs_stab _) (by kernel_rfl) (by kernel_rfl) ?_
  simp only [tk1, tk0, dp1, dp0]
  refine wpT_quiet 14 (by rfl) (by kernel_rfl) ?_
  simp only [tk1, tk0, dp1, dp0]
  repeat (go_big_quiet_step (fail))
  refine wpQuiet_nil ?_
  refine wpT_eff (by rfl) (by rfl) (by rfl) ?_ ?_
  · intro W_ hK
    have hW := hK.1
    clear hK
    go_simp
    exact ⟨rfl, (qAdd_ok _ _ cD cE cF dE dF dG aX aY aZ _ _ _ (RG.mk (RI.ext (hS.num 17 rfl) hW) (RI.ext (hS.num 16 rfl) hW) (RI.ext (hS.num 15 rfl) hW)) (RG.mk (RI.ext (hS.num 14 rfl) hW) (RI.ext (hS.num 13 rfl) hW) (RI.ext (hS.num 12 rfl) hW)) cX).mono fun e w' ⟨v, he, hR, hx⟩ => ⟨v, he, hx, hR⟩⟩
  intro v_ aP aQ hr_
  obtain ⟨W_, hW_⟩ := hr_
  have hv_ : Fc.holds (.rg (aX) (aY) (aZ)) aP aQ v_ W_ := hW_.get
  clear hW_
  obtain ⟨ac, a0, ad, ae, af, a1, ag, ah, ai, a2, aj, ak, rfl, -, -, -⟩ := hv_
  clear W_
  try simp only [Act.put, sa0, sa1, sa2]
  refine wpT_eff (by rfl) (by rfl) (by rfl) ?_ ?_
  · intro W_ hK
    have hW := hK.1
    have bT : RI W_ (iv ac a0 ad ae) aX := RG.at1 (hK.2 14 ((gv ac a0 ad ae af a1 ag ah ai a2 aj ak), aP, aQ) (by rfl) (anc_of (by kernel_rfl)))
    have bU : RI W_ (iv af a1 ag ah) aY := RG.at2 (hK.2 14 ((gv ac a0 ad ae af a1 ag ah ai a2 aj ak), aP, aQ) (by rfl) (anc_of (by kernel_rfl)))
    have bV : RI W_ (iv ai a2 aj ak) aZ := RG.at3 (hK.2 14 ((gv ac a0 ad ae af a1 ag ah ai a2 aj ak), aP, aQ) (by rfl) (anc_of (by kernel_rfl)))
    clear hK
    go_simp
    exact ⟨rfl, (qSame_q _ _ (q0 + q1) (q0 + q1) (n0 + n1 + 65) (n0 + n1 + 1) _ ⟨_, _, _, RG.mk (RI.ext (hS.num 11 rfl) hW) (RI.ext (hS.num 10 rfl) hW) (RI.ext (hS.num 9 rfl) hW), d4, S70⟩ ⟨_, _, _, RG.mk bT bU bV, cW, dy⟩ rfl).mono fun e w' ⟨he, hx⟩ => ⟨_, he, hx, rfl⟩⟩
  intro v_ dH dI hr_
  obtain ⟨W_, hW_⟩ := hr_
  obtain rfl : v_ = .bool true := hW_.get
  clear hW_ W_
  try simp only [Act.put, sa0, sa1, sa2]
  refine wpT_quiet 6 (by rfl) (by kernel_rfl) ?_
  simp only [tk1, tk0, dp1, dp0]
  repeat (go_big_quiet_step (fail))
  refine wpQuiet_nil ?_
  refine wpT_eff (by rfl) (by rfl) (by rfl) ?_ ?_
  · intro W_ hK
    have hW := hK.1
    clear hK
    go_simp
    exact ⟨rfl, (toRG (qSub_ok _ _ q0 q1 (n0) (n1) _ ⟨_, _, _, RG.mk (RI.ext (hS.num 17 rfl) hW) (RI.ext (hS.num 16 rfl) hW) (RI.ext (hS.num 15 rfl) hW), I0, S0⟩ ⟨_, _, _, RG.mk (RI.ext (hS.num 14 rfl) hW) (RI.ext (hS.num 13 rfl) hW) (RI.ext (hS.num 12 rfl) hW), I1, S1⟩ (by omega)) cB).mono fun e w' ⟨v, he, hR, hx⟩ => ⟨v, he, hx, hR⟩⟩
  intro v_ aR aS hr_
  obtain ⟨W_, hW_⟩ := hr_
  have hv_ : Fc.holds (.rg (b0) (b1) (b2)) aR aS v_ W_ := hW_.get
  clear hW_
  obtain ⟨am, a3, an, ao, ap, a4, aq, ar, au, a5, av, aw, rfl, -, -, -⟩ := hv_
  clear W_
  try simp only [Act.put, sa0, sa1, sa2]
  refine wpT_eff (by rfl) (by rfl) (by rfl) ?_ ?_
  · intro W_ hK
    have hW := hK.1
    have bW : RI W_ (iv am a3 an ao) b0 := RG.at1 (hK.2 22 ((gv am a3 an ao ap a4 aq ar au a5 av aw), aR, aS) (by rfl) (anc_of (by kernel_rfl)))
    have bX : RI W_ (iv ap a4 aq ar) b1 := RG.at2 (hK.2 22 ((gv am a3 an ao ap a4 aq ar au a5 av aw), aR, aS) (by rfl) (anc_of (by kernel_rfl)))
    have bY : RI W_ (iv au a5 av aw) b2 := RG.at3 (hK.2 22 ((gv am a3 an ao ap a4 aq ar au a5 av aw), aR, aS) (by rfl) (anc_of (by kernel_rfl)))
    clear hK
    go_simp
    exact ⟨rfl, (qSame_q _ _ (q0 - q1) (q0 - q1) (n0 + n1 + 65) (n0 + n1 + 66) _ ⟨_, _, _, RG.mk (RI.ext (hS.num 8 rfl) hW) (RI.ext (hS.num 7 rfl) hW) (RI.ext (hS.num 6 rfl) hW), da, S76⟩ ⟨_, _, _, RG.mk bW bX bY, cB, dz⟩ rfl).mono fun e w' ⟨he, hx⟩ => ⟨_, he, hx, rfl⟩⟩
  intro v_ dJ dK hr_
  obtain ⟨W_, hW_⟩ := hr_
  obtain rfl : v_ = .bool true := hW_.get
  clear hW_ W_
  try simp only [Act.put, sa0, sa1, sa2]
  refine wpT_quiet 6 (by rfl) (by kernel_rfl) ?_
  simp only [tk1, tk0, dp1, dp0]
  repeat (go_big_quiet_step (fail))
  refine wpQuiet_nil ?_
  refine wpT_eff (by rfl) (by rfl) (by rfl) ?_ ?_
  · intro W_ hK
    have hW := hK.1
    clear hK
    go_simp
    exact ⟨rfl, (qMul_ok _ _ cD cE cF dE dF dG b3 b4 b5 _ _ _ (RG.mk (RI.ext (hS.num 17 rfl) hW) (RI.ext (hS.num 16 rfl) hW) (RI.ext (hS.num 15 rfl) hW)) (RG.mk (RI.ext (hS.num 14 rfl) hW) (RI.ext (hS.num 13 rfl) hW) (RI.ext (hS.num 12 rfl) hW)) cZ).mono fun e w' ⟨v, he, hR, hx⟩ => ⟨v, he, hx, hR⟩⟩
  intro v_ aT aU hr_
  obtain ⟨W_, hW_⟩ := hr_
  have hv_ : Fc.holds (.rg (b3) (b4) (b5)) aT aU v_ W_ := hW_.get
  clear hW_
  obtain ⟨ax, a6, ay, az, aA, a7, aB, aC, aD, a8, aE, aF, rfl, -, -, -⟩ := hv_
  clear W_
  try simp only [Act.put, sa0, sa1, sa2]
  refine wpT_eff (by rfl) (by rfl) (by rfl) ?_ ?_
  · intro W_ hK
    have hW := hK.1
    have bZ : RI W_ (iv ax a6 ay az) b3 := RG.at1 (hK.2 30 ((gv ax a6 ay az aA a7 aB aC aD a8 aE aF), aT, aU) (by rfl) (anc_of (by kernel_rfl)))
    have c0 : RI W_ (iv aA a7 aB aC) b4 := RG.at2 (hK.2 30 ((gv ax a6 ay az aA a7 aB aC aD a8 aE aF), aT, aU) (by rfl) (anc_of (by kernel_rfl)))
    have c1 : RI W_ (iv aD a8 aE aF) b5 := RG.at3 (hK.2 30 ((gv ax a6 ay az aA a7 aB aC aD a8 aE aF), aT, aU) (by rfl) (anc_of (by kernel_rfl)))
    clear hK
    go_simp
    exact ⟨rfl, (qSame_q _ _ (q0 * q1) (q0 * q1) (n0 + n1 + 1) (n0 + n1 + 1) _ ⟨_, _, _, RG.mk (RI.ext (hS.num 5 rfl) hW) (RI.ext (hS.num 4 rfl) hW) (RI.ext (hS.num 3 rfl) hW), dj, S82⟩ ⟨_, _, _, RG.mk bZ c0 c1, cY, dA⟩ rfl).mono fun e w' ⟨he, hx⟩ => ⟨_, he, hx, rfl⟩⟩
  intro v_ dL dM hr_
  obtain ⟨W_, hW_⟩ := hr_
  obtain rfl : v_ = .bool true := hW_.get
  clear hW_ W_
  try simp only [Act.put, sa0, sa1, sa2]
  refine wpT_quiet 1 (by rfl) (by kernel_rfl) ?_
  simp only [tk1, tk0, dp1, dp0]
  repeat (go_big_quiet_step (fail))
  refine wpQuiet_nil ?_
  refine wpT_nil ?_
  intro c2 hK
  have hlt_ := hS.lt
  replace hS := hS.mv hK.ext
  replace hS := hS.addI (show RI c2 (iv ac a0 ad ae) aX from RG.at1 (hK.at_ 14 (e := ((gv ac a0 ad ae af a1 ag ah ai a2 aj ak), aP, aQ)) (by rfl)))
  replace hS := hS.addI (show RI c2 (iv af a1 ag ah) aY from RG.at2 (hK.at_ 14 (e := ((gv ac a0 ad ae af a1 ag ah ai a2 aj ak), aP, aQ)) (by rfl)))
  replace hS := hS.addI (show RI c2 (iv ai a2 aj ak) aZ from RG.at3 (hK.at_ 14 (e := ((gv ac a0 ad ae af a1 ag ah ai a2 aj ak), aP, aQ)) (by rfl)))
  replace hS := hS.addI (show RI c2 (iv am a3 an ao) b0 from RG.at1 (hK.at_ 22 (e := ((gv am a3 an ao ap a4 aq ar au a5 av aw), aR, aS)) (by rfl)))
  replace hS := hS.addI (show RI c2 (iv ap a4 aq ar) b1 from RG.at2 (hK.at_ 22 (e := ((gv am a3 an ao ap a4 aq ar au a5 av aw), aR, aS)) (by rfl)))
  replace hS := hS.addI (show RI c2 (iv au a5 av aw) b2 from RG.at3 (hK.at_ 22 (e := ((gv am a3 an ao ap a4 aq ar au a5 av aw), aR, aS)) (by rfl)))
  replace hS := hS.addI (show RI c2 (iv ax a6 ay az) b3 from RG.at1 (hK.at_ 30 (e := ((gv ax a6 ay az aA a7 aB aC aD a8 aE aF), aT, aU)) (by rfl)))
  replace hS := hS.addI (show RI c2 (iv aA a7 aB aC) b4 from RG.at2 (hK.at_ 30 (e := ((gv ax a6 ay az aA a7 aB aC aD a8 aE aF), aT, aU)) (by rfl)))
  replace hS := hS.addI (show RI c2 (iv aD a8 aE aF) b5 from RG.at3 (hK.at_ 30 (e := ((gv ax a6 ay az aA a7 aB aC aD a8 aE aF), aT, aU)) (by rfl)))
  clear hK hlt_ hE_ Y11 Y9 Y7 Y3 Y2
  have dB := (hS.blk 5 rfl).cell
  go_wp2_with fail
  clear dB
  refine (qZero_no _ q1 (n1) _ ⟨_, _, _, RG.mk (hS.num 23 rfl) (hS.num 22 rfl) (hS.num 21 rfl), I1, S1⟩ (by omega) HY.out).mono ?_
  rintro e w14 ⟨rfl, hx_⟩
  replace hS := hS.mv hx_
  clear hx_
  go_wp2_with fail
  obtain ⟨b6, b7, b8, cC⟩ := is_ex (q0 / q1)
  have dC : Sz (n0 + (n1 + n1 + 1) + 1) b6 b7 b8 := (Bd.mono (Bd.div ⟨_, _, _, I0, S0⟩ ⟨_, _, _, I1, S1⟩ HY.out) (by omega)).sz cC
  have Y13 := ExtOf.blk (hS.blk 0 rfl)
  have Y3 := ExtOf.blk (hS.blk 5 rfl)
  have Y2 := ExtOf.blk (hS.blk 6 rfl)
  have hE_ := hS.ext
  refine wp_region_tame 12 (hasF [(0, .any), (9, .any), (10, .any)]) (Fcs [(0, .eq (.bool true)), (9, .rg (b6) (b7) (b8)), (10, .eq (.bool true))]) (Fcs_stab _) (by kernel_rfl) (by kernel_rfl) ?_
  simp only [tk1, tk0, dp1, dp0]
  refine wpT_eff (by rfl) (by rfl) (by rfl) ?_ ?_
  · intro W_ hK
    have hW := hK.1
    clear hK
    go_simp
    exact ⟨rfl, (lxknown_ok _ (tab_ext hTab (hE_.trans hW))).mono fun e w' ⟨he, hx⟩ => ⟨_, he, hx, rfl⟩⟩
  intro v_ dN dO hr_
  obtain ⟨W_, hW_⟩ := hr_
  obtain rfl : v_ = .bool true := hW_.get
  clear hW_ W_
  try simp only [Act.put, sa0, sa1, sa2]
  refine wpT_quiet 8 (by rfl) (by kernel_rfl) ?_
  simp only [tk1, tk0, dp1, dp0]
  repeat (go_big_quiet_step (fail))
  refine wpQuiet_nil ?_
  refine wpT_eff (by rfl) (by rfl) (by rfl) ?_ ?_
  · intro W_ hK
    have hW := hK.1
    clear hK
    go_simp
    exact ⟨rfl, (toRG (qDiv_ok _ _ q0 q1 (n0) (n1) _ ⟨_, _, _, RG.mk (RI.ext (hS.num 26 rfl) hW) (RI.ext (hS.num 25 rfl) hW) (RI.ext (hS.num 24 rfl) hW), I0, S0⟩ ⟨_, _, _, RG.mk (RI.ext (hS.num 23 rfl) hW) (RI.ext (hS.num 22 rfl) hW) (RI.ext (hS.num 21 rfl) hW), I1, S1⟩ (by omega) HY.out) cC).mono fun e w' ⟨v, he, hR, hx⟩ => ⟨v, he, hx, hR⟩⟩
  intro v_ aV aW hr_
  obtain ⟨W_, hW_⟩ := hr_
  have hv_ : Fc.holds (.rg (b6) (b7) (b8)) aV aW v_ W_ := hW_.get
  clear hW_
  obtain ⟨aG, a9, aH, aI, aJ, aa, aK, aL, aM, ab, aN, aO, rfl, -, -, -⟩ := hv_
  clear W_
  try simp only [Act.put, sa0, sa1, sa2]
  refine wpT_eff (by rfl) (by rfl) (by rfl) ?_ ?_
  · intro W_ hK
    have hW := hK.1
    have c3 : RI W_ (iv aG a9 aH aI) b6 := RG.at1 (hK.2 9 ((gv aG a9 aH aI aJ aa aK aL aM ab aN aO), aV, aW) (by rfl) (by kernel_rfl))
    have c4 : RI W_ (iv aJ aa aK aL) b7 := RG.at2 (hK.2 9 ((gv aG a9 aH aI aJ aa aK aL aM ab aN aO), aV, aW) (by rfl) (by kernel_rfl))
    have c5 : RI W_ (iv aM ab aN aO) b8 := RG.at3 (hK.2 9 ((gv aG a9 aH aI aJ aa aK aL aM ab aN aO), aV, aW) (by rfl) (by kernel_rfl))
    clear hK
    go_simp
    exact ⟨rfl, (qSame_q _ _ (q0 / q1) (q0 / q1) (n0 + (n1 + n1 + 1)) (n0 + (n1 + n1 + 1) + 1) _ ⟨_, _, _, RG.mk (RI.ext (hS.num 11 rfl) hW) (RI.ext (hS.num 10 rfl) hW) (RI.ext (hS.num 9 rfl) hW), du, S88⟩ ⟨_, _, _, RG.mk c3 c4 c5, cC, dC⟩ rfl).mono fun e w' ⟨he, hx⟩ => ⟨_, he, hx, rfl⟩⟩
  intro v_ dP dQ hr_
  obtain ⟨W_, hW_⟩ := hr_
  obtain rfl : v_ = .bool true := hW_.get
  clear hW_ W_
  try simp only [Act.put, sa0, sa1, sa2]
  refine wpT_quiet 1 (by rfl) (by kernel_rfl) ?_
  simp only [tk1, tk0, dp1, dp0]
  repeat (go_big_quiet_step (fail))
  refine wpQuiet_nil ?_
  refine wpT_nil ?_
  intro dD hK
  have hlt_ := hS.lt
  replace hS := hS.mv hK.ext
  replace hS := hS.addI (show RI dD (iv aG a9 aH aI) b6 from RG.at1 (hK.at_ 9 (e := ((gv aG a9 aH aI aJ aa aK aL aM ab aN aO), aV, aW)) (by rfl)))
  replace hS := hS.addI (show RI dD (iv aJ aa aK aL) b7 from RG.at2 (hK.at_ 9 (e := ((gv aG a9 aH aI aJ aa aK aL aM ab aN aO), aV, aW)) (by rfl)))
  replace hS := hS.addI (show RI dD (iv aM ab aN aO) b8 from RG.at3 (hK.at_ 9 (e := ((gv aG a9 aH aI aJ aa aK aL aM ab aN aO), aV, aW)) (by rfl)))
  clear hK hlt_ hE_ Y13 Y3 Y2
  go_wp2
  go_ret
  exact ⟨ret_bool (rfl), hS.ext⟩

theorem bool_of (p : Prop) : ∃ b : Bool, b = true ↔ p := by
  by_cases h : p
  · exact ⟨true, by simp [h]⟩
  · exact ⟨false, by simp [h]⟩
theorem comp_any {s0a : Bool} {A0a : Option Addr} {n0a c0a : Nat} {l0a : List Nat} {s0b : Bool} {A0b : Option Addr} {n0b c0b : Nat} {l0b : List Nat} {s0d : Bool} {A0d : Option Addr} {n0d c0d : Nat} {l0d : List Nat} {s1a : Bool} {A1a : Option Addr} {n1a c1a : Nat} {l1a : List Nat} {s1b : Bool} {A1b : Option Addr} {n1b c1b : Nat} {l1b : List Nat} {s1d : Bool} {A1d : Option Addr} {n1d c1d : Nat} {l1d : List Nat} (w : World) (r0 : RawG w s0a A0a n0a c0a l0a s0b A0b n0b c0b l0b s0d A0d n0d c0d l0d) (r1 : RawG w s1a A1a n1a c1a l1a s1b A1b n1b c1b l1b s1d A1d n1d c1d l1d) (hTab : Tab w) :
    Calls Tryz.prog 9 #[gv s0a A0a n0a c0a s0b A0b n0b c0b s0d A0d n0d c0d, gv s1a A1a n1a c1a s1b A1b n1b c1b s1d A1d n1d c1d] w fun e w' => e = .returned (.bool true) ∧ Ext w w' := by
  cases hl : [n0a, n0b, n0d, n1a, n1b, n1d].all (fun n => decide (n ≤ 40))
  · exact comp_large _ _ _ _ _ _ _ _ _ _ _ _ _ _ _ _ _ _ _ _ _ _ _ _ w hTab (Lib.hid hl)
  have hl' : n0a ≤ 40 ∧ n0b ≤ 40 ∧ n0d ≤ 40 ∧ n1a ≤ 40 ∧ n1b ≤ 40 ∧ n1d ≤ 40 := by simpa using hl
  obtain ⟨k0a, k0b, k0d, k1a, k1b, k1d⟩ := hl'
  rcases r0.cases k0a k0b k0d (by omega) with ⟨q0, h0⟩ | hb
  · obtain ⟨zb, hz⟩ := bool_of (q0 = GQ.i 0 0)
    rcases r1.cases k1a k1b k1d (by omega) with ⟨q1, h1⟩ | hb
    · obtain ⟨sb, hs⟩ := bool_of (q0 = q1)
      by_cases hy : q1 = GQ.i 0 0
      · exact comp_ttz _ q0 (32 * 40) _ q1 (32 * 40) zb sb w h0 h1 (by omega) (by omega) hTab (Lib.hid hz) (Lib.hid hs) (Lib.hid hy)
      · exact comp_ttn _ q0 (32 * 40) _ q1 (32 * 40) zb sb w h0 h1 (by omega) (by omega) hTab (Lib.hid hz) (Lib.hid hs) (Lib.hid hy)
    · exact comp_tf _ q0 (32 * 40) _ _ _ _ _ _ _ _ _ _ _ _ zb w h0 hb (by omega) k1a k1b k1d hTab (Lib.hid hz)
  · rcases r1.cases k1a k1b k1d (by omega) with ⟨q1, h1⟩ | hb'
    · exact comp_ft _ _ _ _ _ _ _ _ _ _ _ _ _ _ _ _ _ _ _ _ _ _ _ _ w hb (h1.vb (by omega)) hTab (Lib.hid hl)
    · exact comp_ff _ _ _ _ _ _ _ _ _ _ _ _ _ _ _ _ _ _ _ _ _ _ _ _ w hb hb' hTab (Lib.hid hl)
end Go.Proofs.YtjeijmnhbckjdaaGreatDoor
