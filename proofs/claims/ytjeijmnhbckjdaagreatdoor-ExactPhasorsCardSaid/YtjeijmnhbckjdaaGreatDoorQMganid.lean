/- Phasors: the walk. -/
import Derived.Test.YtjeijmnhbckjdaaGreatDoorQAnndkn
import Derived.Test.YtjeijmnhbckjdaaGreatDoorQMfiale
namespace Go.Proofs.YtjeijmnhbckjdaaGreatDoor
open Go.RowKit
set_option linter.unusedVariables false

set_option maxRecDepth 100000 in
set_option maxHeartbeats 51200000 in
theorem phasors_vbb (v0 : Value) (q0 : PQ) (n0 : Nat) (bd : Bool) (be : Option Addr) (aY bf : Nat) (bg : Bool) (bh : Option Addr) (aZ bi : Nat) (bj : Bool) (bk : Option Addr) (b0 bl : Nat) (bm : Bool) (bn : Option Addr) (b1 bo : Nat) (bp : Bool) (bq : Option Addr) (b2 br : Nat) (bs : Bool) (bt : Option Addr) (b3 bu : Nat) (b1u : Bool) (b1v : Bool) (b4 : Bool) (b5 : Option Addr) (ap b6 : Nat) (b7 : Bool) (b8 : Option Addr) (aq b9 : Nat) (ba : Bool) (bb : Option Addr) (ar bc : Nat) (w : World) (hX0 : PV w v0 q0 n0) (hV1u : VB w (gv bd be aY bf bg bh aZ bi bj bk b0 bl) b1u) (hV1v : VB w (gv bm bn b1 bo bp bq b2 br bs bt b3 bu) b1v) (hV2 : VB w (gv b4 b5 ap b6 b7 b8 aq b9 ba bb ar bc) false) (hn0 : n0 ≤ 1280) (hm0 : 1 ≤ n0) (cG : aY ≤ 40) (cH : aZ ≤ 40) (cI : b0 ≤ 40) (cJ : b1 ≤ 40) (cK : b2 ≤ 40) (cL : b3 ≤ 40) (cM : ap ≤ 40) (cN : aq ≤ 40) (cO : ar ≤ 40) (Hq : Hid ((b1u && b1v) = false)) (hTab : Tab w)
      :
    Calls Tryz.prog 7 #[v0, pv bd be aY bf bg bh aZ bi bj bk b0 bl bm bn b1 bo bp bq b2 br bs bt b3 bu, gv b4 b5 ap b6 b7 b8 aq b9 ba bb ar bc] w fun e w' => e = .returned (.bool true) ∧ Ext w w' := by
  have hS := St.start w
  obtain ⟨x0a, x0b, x0d, x0x, x0y, x0z, hX0, cD, bC, cE, bD⟩ := hX0
  obtain ⟨a6, a7, a0, a8, a9, aa, a1, ab, ac, ad, a2, ae, af, ag, a3, ah, ai, aj, a4, ak, am, an, a5, ao, rfl, ce, cf, cg, ch, ci, cj⟩ := hX0
  replace hS := hS.addI ce
  clear ce
  replace hS := hS.addI cf
  clear cf
  replace hS := hS.addI cg
  clear cg
  replace hS := hS.addI ch
  clear ch
  replace hS := hS.addI ci
  clear ci
  replace hS := hS.addI cj
  clear cj
  have HL : Hid ([a0, a1, a2, a3, a4, a5, aY, aZ, b0, b1, b2, b3, ap, aq, ar].all (fun n => decide (n ≤ 40)) = true) := Lib.hid (by simp only [List.all_cons, List.all_nil, Bool.and_true, Bool.and_eq_true, decide_eq_true_eq]; exact ⟨RI.low (k := 40) (hS.num 5 rfl) bC.a (by omega), RI.low (k := 40) (hS.num 4 rfl) bC.b (by omega), RI.low (k := 40) (hS.num 3 rfl) bC.d (by omega), RI.low (k := 40) (hS.num 2 rfl) bD.a (by omega), RI.low (k := 40) (hS.num 1 rfl) bD.b (by omega), RI.low (k := 40) (hS.num 0 rfl) bD.d (by omega), cG, cH, cI, cJ, cK, cL, cM, cN, cO⟩)
  have o3 : Own w w.heap.size := Own.of hS.ext (by simp)
  have o4 : Own w (w.heap.size + 1) := Own.of hS.ext (by simp)
  have o5 : Own w (w.heap.size + 2) := Own.of hS.ext (by simp)
  have cF := (St.al (St.al (St.al hS 37 #[.bool a6, .slice a7 a0 a8, .bool a9, .slice aa a1 ab, .bool ac, .slice ad a2 ae, .bool af, .slice ag a3 ah, .bool ai, .slice aj a4 ak, .bool am, .slice an a5 ao] (g := w.heap.size) (by simp)) 37 #[.bool bd, .slice be aY bf, .bool bg, .slice bh aZ bi, .bool bj, .slice bk b0 bl, .bool bm, .slice bn b1 bo, .bool bp, .slice bq b2 br, .bool bs, .slice bt b3 bu] (g := (w.heap.size + 1)) (by simp)) 26 #[.bool b4, .slice b5 ap b6, .bool b7, .slice b8 aq b9, .bool ba, .slice bb ar bc] (g := (w.heap.size + 2)) (by simp))
  have k_1 := (cF.blk 2 rfl).cell
  have k_2 := (cF.blk 1 rfl).cell
  have k_3 := (cF.blk 0 rfl).cell
  have o25 : Own w (w.heap.size + 3) := Own.of hS.ext (by simp)
  go_enter Tryz.func7, Tryz.ntmps7
  go_wp2_with fail
  clear k_1 k_2 k_3
  clear cF
  replace hS := (St.al (St.al (St.al (St.al hS 37 #[.bool a6, .slice a7 a0 a8, .bool a9, .slice aa a1 ab, .bool ac, .slice ad a2 ae, .bool af, .slice ag a3 ah, .bool ai, .slice aj a4 ak, .bool am, .slice an a5 ao] (g := w.heap.size) (by simp)) 37 #[.bool bd, .slice be aY bf, .bool bg, .slice bh aZ bi, .bool bj, .slice bk b0 bl, .bool bm, .slice bn b1 bo, .bool bp, .slice bq b2 br, .bool bs, .slice bt b3 bu] (g := (w.heap.size + 1)) (by simp)) 26 #[.bool b4, .slice b5 ap b6, .bool b7, .slice b8 aq b9, .bool ba, .slice bb ar bc] (g := (w.heap.size + 2)) (by simp)) 26 #[.bool a6, .slice a7 a0 a8, .bool a9, .slice aa a1 ab, .bool ac, .slice ad a2 ae, .bool af, .slice ag a3 ah, .bool ai, .slice aj a4 ak, .bool am, .slice an a5 ao, .bool bd, .slice be aY bf, .bool bg, .slice bh aZ bi, .bool bj, .slice bk b0 bl, .bool bm, .slice bn b1 bo, .bool bp, .slice bq b2 br, .bool bs, .slice bt b3 bu, .bool b4, .slice b5 ap b6, .bool b7, .slice b8 aq b9, .bool ba, .slice bb ar bc] (g := (w.heap.size + 3)) (by simp))
  generalize ((((w.alloc (.cells #[.bool a6, .slice a7 a0 a8, .bool a9, .slice aa a1 ab, .bool ac, .slice ad a2 ae, .bool af, .slice ag a3 ah, .bool ai, .slice aj a4 ak, .bool am, .slice an a5 ao] 37)).alloc (.cells #[.bool bd, .slice be aY bf, .bool bg, .slice bh aZ bi, .bool bj, .slice bk b0 bl, .bool bm, .slice bn b1 bo, .bool bp, .slice bq b2 br, .bool bs, .slice bt b3 bu] 37)).alloc (.cells #[.bool b4, .slice b5 ap b6, .bool b7, .slice b8 aq b9, .bool ba, .slice bb ar bc] 26)).alloc (.cells #[.bool a6, .slice a7 a0 a8, .bool a9, .slice aa a1 ab, .bool ac, .slice ad a2 ae, .bool af, .slice ag a3 ah, .bool ai, .slice aj a4 ak, .bool am, .slice an a5 ao, .bool bd, .slice be aY bf, .bool bg, .slice bh aZ bi, .bool bj, .slice bk b0 bl, .bool bm, .slice bn b1 bo, .bool bp, .slice bq b2 br, .bool bs, .slice bt b3 bu, .bool b4, .slice b5 ap b6, .bool b7, .slice b8 aq b9, .bool ba, .slice bb ar bc] 26)) = w1 at hS ⊢
  generalize w.heap.size + 3 = g25 at hS o25 ⊢
  generalize w.heap.size + 2 = g5 at hS o5 ⊢
  generalize w.heap.size + 1 = g4 at hS o4 ⊢
  generalize w.heap.size = g3 at hS o3 ⊢
  refine (low5_raw g25 40 true _ (hS.blk 0 rfl) HL.out).mono ?_
  rintro e w2 ⟨rfl, hx_⟩
  replace hS := hS.mv hx_
  clear hx_
  have k_4 := (hS.blk 3 rfl).cell
  have k_5 := (hS.blk 2 rfl).cell
  go_wp2_with fail
  clear k_4 k_5
  refine (xSum_bad a6 a7 a0 a8 a9 aa a1 ab ac ad a2 ae af ag a3 ah ai aj a4 ak am an a5 ao true true bd be aY bf bg bh aZ bi bj bk b0 bl bm bn b1 bo bp bq b2 br bs bt b3 bu b1u b1v _ (GV.vb (q := q0.u) (n := n0) ⟨_, _, _, RG.mk (hS.num 5 rfl) (hS.num 4 rfl) (hS.num 3 rfl), cD, bC⟩ (by omega)) (GV.vb (q := q0.v) (n := n0) ⟨_, _, _, RG.mk (hS.num 2 rfl) (hS.num 1 rfl) (hS.num 0 rfl), cE, bD⟩ (by omega)) (hV1u.ext hS.ext) (hV1v.ext hS.ext) (Lib.hid (all4_q Hq.out))).mono ?_
  rintro e w3 ⟨v_, rfl, hv_, hx_⟩
  replace hS := hS.mv hx_
  clear hx_
  obtain ⟨_, rfl, bE, au, bF, bG, bH, av, bI, bJ, bK, aw, bL, bM, bN, ax, bO, bP, bQ, ay, bR, bS, bT, az, bU, bV, rfl, aA, aB, aC, aD, aE, aF⟩ := hv_
  replace hS := hS.addI aA
  clear aA
  replace hS := hS.addI aB
  clear aB
  replace hS := hS.addI aC
  clear aC
  replace hS := hS.addI aD
  clear aD
  replace hS := hS.addI aE
  clear aE
  replace hS := hS.addI aF
  clear aF
  have o7 : Own w w3.heap.size := Own.of hS.ext (by simp)
  have cP := (St.al hS 37 #[.bool false, .slice none 0 0, .bool false, .slice none 0 0, .bool false, .slice none 0 0, .bool false, .slice none 0 0, .bool false, .slice none 0 0, .bool false, .slice none 0 0] (g := w3.heap.size) (by simp))
  have k_6 := (cP.blk 0 rfl).cell
  have k_7 := (cP.blk 0 rfl).frozen
  have cQ := (St.al hS 37 #[.bool bE, .slice au bF bG, .bool bH, .slice av bI bJ, .bool bK, .slice aw bL bM, .bool bN, .slice ax bO bP, .bool bQ, .slice ay bR bS, .bool bT, .slice az bU bV] (g := w3.heap.size) (by simp))
  have k_8 := (cQ.blk 4 rfl).cell
  have k_9 := (cQ.blk 2 rfl).cell
  go_wp2_with fail
  clear k_6 k_7 k_8 k_9
  clear cP cQ
  replace hS := (St.al hS 37 #[.bool bE, .slice au bF bG, .bool bH, .slice av bI bJ, .bool bK, .slice aw bL bM, .bool bN, .slice ax bO bP, .bool bQ, .slice ay bR bS, .bool bT, .slice az bU bV] (g := w3.heap.size) (by simp))
  generalize (w3.alloc (.cells #[.bool bE, .slice au bF bG, .bool bH, .slice av bI bJ, .bool bK, .slice aw bL bM, .bool bN, .slice ax bO bP, .bool bQ, .slice ay bR bS, .bool bT, .slice az bU bV] 37)) = w4 at hS ⊢
  generalize w3.heap.size = g7 at hS o7 ⊢
  refine (xTimes_bad a6 a7 a0 a8 a9 aa a1 ab ac ad a2 ae af ag a3 ah ai aj a4 ak am an a5 ao true true b4 b5 ap b6 b7 b8 aq b9 ba bb ar bc false _ (GV.vb (q := q0.u) (n := n0) ⟨_, _, _, RG.mk (hS.num 11 rfl) (hS.num 10 rfl) (hS.num 9 rfl), cD, bC⟩ (by omega)) (GV.vb (q := q0.v) (n := n0) ⟨_, _, _, RG.mk (hS.num 8 rfl) (hS.num 7 rfl) (hS.num 6 rfl), cE, bD⟩ (by omega)) (hV2.ext hS.ext) (Lib.hid rfl)).mono ?_
  rintro e w5 ⟨v_, rfl, hv_, hx_⟩
  replace hS := hS.mv hx_
  clear hx_
  obtain ⟨_, rfl, bW, aG, bX, bY, bZ, aH, c0, c1, c2, aI, c3, c4, c5, aJ, c6, c7, c8, aK, c9, ca, cb, aL, cc, cd, rfl, aM, aN, aO, aP, aQ, aR⟩ := hv_
  replace hS := hS.addI aM
  clear aM
  replace hS := hS.addI aN
  clear aN
  replace hS := hS.addI aO
  clear aO
  replace hS := hS.addI aP
  clear aP
  replace hS := hS.addI aQ
  clear aQ
  replace hS := hS.addI aR
  clear aR
  have o9 : Own w w5.heap.size := Own.of hS.ext (by simp)
  have cR := (St.al hS 37 #[.bool false, .slice none 0 0, .bool false, .slice none 0 0, .bool false, .slice none 0 0, .bool false, .slice none 0 0, .bool false, .slice none 0 0, .bool false, .slice none 0 0] (g := w5.heap.size) (by simp))
  have cS := (cR.blk 0 rfl).cell
  have cT := (cR.blk 0 rfl).frozen
  have d6 := (St.al hS 37 #[.bool bW, .slice aG bX bY, .bool bZ, .slice aH c0 c1, .bool c2, .slice aI c3 c4, .bool c5, .slice aJ c6 c7, .bool c8, .slice aK c9 ca, .bool cb, .slice aL cc cd] (g := w5.heap.size) (by simp))
  have cU := (d6.blk 3 rfl).cell
  go_wp2_with fail
  clear cS cT cU
  clear cR d6
  replace hS := (St.al hS 37 #[.bool bW, .slice aG bX bY, .bool bZ, .slice aH c0 c1, .bool c2, .slice aI c3 c4, .bool c5, .slice aJ c6 c7, .bool c8, .slice aK c9 ca, .bool cb, .slice aL cc cd] (g := w5.heap.size) (by simp))
  generalize (w5.alloc (.cells #[.bool bW, .slice aG bX bY, .bool bZ, .slice aH c0 c1, .bool c2, .slice aI c3 c4, .bool c5, .slice aJ c6 c7, .bool c8, .slice aK c9 ca, .bool cb, .slice aL cc cd] 37)) = w6 at hS ⊢
  generalize w5.heap.size = g9 at hS o9 ⊢
  refine (xPlain_bad b4 b5 ap b6 b7 b8 aq b9 ba bb ar bc _ (hV2.ext hS.ext)).mono ?_
  rintro e w7 ⟨v_, rfl, hv_, hx_⟩
  replace hS := hS.mv hx_
  clear hx_
  obtain ⟨_, rfl, ck, bv, cl, cn, co, bw, cp, cq, cr, bx, cs, ct, cu, bz, cv, cw, cx, bA, cy, cz, cA, bB, cB, cC, rfl, aS, aT, aU, aV, aW, aX⟩ := hv_
  replace hS := hS.addI aS
  clear aS
  replace hS := hS.addI aT
  clear aT
  replace hS := hS.addI aU
  clear aU
  replace hS := hS.addI aV
  clear aV
  replace hS := hS.addI aW
  clear aW
  replace hS := hS.addI aX
  clear aX
  have o11 : Own w w7.heap.size := Own.of hS.ext (by simp)
  have cV := (St.al hS 37 #[.bool false, .slice none 0 0, .bool false, .slice none 0 0, .bool false, .slice none 0 0, .bool false, .slice none 0 0, .bool false, .slice none 0 0, .bool false, .slice none 0 0] (g := w7.heap.size) (by simp))
  have cW := (cV.blk 0 rfl).cell
  have cX := (cV.blk 0 rfl).frozen
  go_wp2_with fail
  clear cW cX
  clear cV
  replace hS := (St.al hS 37 #[.bool ck, .slice bv cl cn, .bool co, .slice bw cp cq, .bool cr, .slice bx cs ct, .bool cu, .slice bz cv cw, .bool cx, .slice bA cy cz, .bool cA, .slice bB cB cC] (g := w7.heap.size) (by simp))
  generalize (w7.alloc (.cells #[.bool ck, .slice bv cl cn, .bool co, .slice bw cp cq, .bool cr, .slice bx cs ct, .bool cu, .slice bz cv cw, .bool cx, .slice bA cy cz, .bool cA, .slice bB cB cC] 37)) = w8 at hS ⊢
  generalize w7.heap.size = g11 at hS o11 ⊢
  cases b1u
  go_wp2_with fail
  have Y5 := ExtOf.blk (hS.blk 4 rfl)
  have Y4 := ExtOf.blk (hS.blk 5 rfl)
  have Y3 := ExtOf.blk (hS.blk 6 rfl)
  have hE_ := hS.ext
  refine wp_region_tame 20 (hasF [(2, .any), (6, .any), (10, .any), (17, .any)]) (Fcs [(2, .eq (.bool true)), (6, .eq (.bool true)), (10, .eq (.bool false)), (17, .eq (.bool false))]) (Fcs_stab _) (by kernel_rfl) (by kernel_rfl) ?_
  simp only [tk1, tk0, dp1, dp0]
  refine wpT_quiet 2 (by rfl) (by kernel_rfl) ?_
  simp only [tk1, tk0, dp1, dp0]
  repeat (go_big_quiet_step (fail))
  refine wpQuiet_nil ?_
  refine wpT_eff (by rfl) (by rfl) (by rfl) ?_ ?_
  · intro W_ hK
    have hW := hK.1
    clear hK
    go_simp
    exact ⟨rfl, (qValid_gv _ q0.u (n0) _ ⟨_, _, _, RG.mk (RI.ext (hS.num 23 rfl) hW) (RI.ext (hS.num 22 rfl) hW) (RI.ext (hS.num 21 rfl) hW), cD, bC⟩ (by omega)).mono fun e w' ⟨he, hx⟩ => ⟨_, he, hx, rfl⟩⟩
  intro v_ cY cZ hr_
  obtain ⟨W_, hW_⟩ := hr_
  obtain rfl : v_ = .bool true := hW_.get
  clear hW_ W_
  try simp only [Act.put, sa0, sa1, sa2]
  refine wpT_quiet 3 (by rfl) (by kernel_rfl) ?_
  simp only [tk1, tk0, dp1, dp0]
  repeat (go_big_quiet_step (fail))
  refine wpQuiet_nil ?_
  refine wpT_eff (by rfl) (by rfl) (by rfl) ?_ ?_
  · intro W_ hK
    have hW := hK.1
    clear hK
    go_simp
    exact ⟨rfl, (qValid_gv _ q0.v (n0) _ ⟨_, _, _, RG.mk (RI.ext (hS.num 20 rfl) hW) (RI.ext (hS.num 19 rfl) hW) (RI.ext (hS.num 18 rfl) hW), cE, bD⟩ (by omega)).mono fun e w' ⟨he, hx⟩ => ⟨_, he, hx, rfl⟩⟩
  intro v_ d0 d1 hr_
  obtain ⟨W_, hW_⟩ := hr_
  obtain rfl : v_ = .bool true := hW_.get
  clear hW_ W_
  try simp only [Act.put, sa0, sa1, sa2]
  refine wpT_quiet 3 (by rfl) (by kernel_rfl) ?_
  simp only [tk1, tk0, dp1, dp0]
  repeat (go_big_quiet_step (fail))
  refine wpQuiet_nil ?_
  refine wpT_eff (by rfl) (by rfl) (by rfl) ?_ ?_
  · intro W_ hK
    have hW := hK.1
    clear hK
    go_simp
    exact ⟨rfl, (VB.q (hV1u.ext (hE_.trans hW))).mono fun e w' ⟨he, hx⟩ => ⟨_, he, hx, rfl⟩⟩
  intro v_ d2 d3 hr_
  obtain ⟨W_, hW_⟩ := hr_
  obtain rfl : v_ = .bool false := hW_.get
  clear hW_ W_
  try simp only [Act.put, sa0, sa1, sa2]
  refine wpT_quiet 3 (by rfl) (by kernel_rfl) ?_
  simp only [tk1, tk0, dp1, dp0]
  repeat (go_big_quiet_step (fail))
  refine wpQuiet_nil ?_
  refine wpT_skip (by rfl) (by rfl) ?_
  try simp only [Act.put, sa0, sa1, sa2]
  refine wpT_quiet 2 (by rfl) (by kernel_rfl) ?_
  simp only [tk1, tk0, dp1, dp0]
  repeat (go_big_quiet_step (fail))
  refine wpQuiet_nil ?_
  refine wpT_eff (by rfl) (by rfl) (by rfl) ?_ ?_
  · intro W_ hK
    have hW := hK.1
    clear hK
    go_simp
    exact ⟨rfl, (VB.q (hV2.ext (hE_.trans hW))).mono fun e w' ⟨he, hx⟩ => ⟨_, he, hx, rfl⟩⟩
  intro v_ d4 d5 hr_
  obtain ⟨W_, hW_⟩ := hr_
  obtain rfl : v_ = .bool false := hW_.get
  clear hW_ W_
  try simp only [Act.put, sa0, sa1, sa2]
  refine wpT_quiet 2 (by rfl) (by kernel_rfl) ?_
  simp only [tk1, tk0, dp1, dp0]
  repeat (go_big_quiet_step (fail))
  refine wpQuiet_nil ?_
  refine wpT_nil ?_
  intro w9 hK
  have hlt_ := hS.lt
  replace hS := hS.mv hK.ext
  clear hK hlt_ hE_ Y5 Y4 Y3
  rotate_left 1
  obtain rfl : b1v = false := by simpa using Hq.out
  go_wp2_with fail
  have Y5 := ExtOf.blk (hS.blk 4 rfl)
  have Y4 := ExtOf.blk (hS.blk 5 rfl)
  have Y3 := ExtOf.blk (hS.blk 6 rfl)
  have hE_ := hS.ext
  refine wp_region_tame 20 (hasF [(2, .any), (6, .any), (10, .any), (14, .any), (17, .any)]) (Fcs [(2, .eq (.bool true)), (6, .eq (.bool true)), (10, .eq (.bool true)), (14, .eq (.bool false)), (17, .eq (.bool false))]) (Fcs_stab _) (by kernel_rfl) (by kernel_rfl) ?_
  simp only [tk1, tk0, dp1, dp0]
  refine wpT_quiet 2 (by rfl) (by kernel_rfl) ?_
  simp only [tk1, tk0, dp1, dp0]
  repeat (go_big_quiet_step (fail))
  refine wpQuiet_nil ?_
  refine wpT_eff (by rfl) (by rfl) (by rfl) ?_ ?_
  · intro W_ hK
    have hW := hK.1
    clear hK
    go_simp
    exact ⟨rfl, (qValid_gv _ q0.u (n0) _ ⟨_, _, _, RG.mk (RI.ext (hS.num 23 rfl) hW) (RI.ext (hS.num 22 rfl) hW) (RI.ext (hS.num 21 rfl) hW), cD, bC⟩ (by omega)).mono fun e w' ⟨he, hx⟩ => ⟨_, he, hx, rfl⟩⟩
  intro v_ cY cZ hr_
  obtain ⟨W_, hW_⟩ := hr_
  obtain rfl : v_ = .bool true := hW_.get
  clear hW_ W_
  try simp only [Act.put, sa0, sa1, sa2]
  refine wpT_quiet 3 (by rfl) (by kernel_rfl) ?_
  simp only [tk1, tk0, dp1, dp0]
  repeat (go_big_quiet_step (fail))
  refine wpQuiet_nil ?_
  refine wpT_eff (by rfl) (by rfl) (by rfl) ?_ ?_
  · intro W_ hK
    have hW := hK.1
    clear hK
    go_simp
    exact ⟨rfl, (qValid_gv _ q0.v (n0) _ ⟨_, _, _, RG.mk (RI.ext (hS.num 20 rfl) hW) (RI.ext (hS.num 19 rfl) hW) (RI.ext (hS.num 18 rfl) hW), cE, bD⟩ (by omega)).mono fun e w' ⟨he, hx⟩ => ⟨_, he, hx, rfl⟩⟩
  intro v_ d0 d1 hr_
  obtain ⟨W_, hW_⟩ := hr_
  obtain rfl : v_ = .bool true := hW_.get
  clear hW_ W_
  try simp only [Act.put, sa0, sa1, sa2]
  refine wpT_quiet 3 (by rfl) (by kernel_rfl) ?_
  simp only [tk1, tk0, dp1, dp0]
  repeat (go_big_quiet_step (fail))
  refine wpQuiet_nil ?_
  refine wpT_eff (by rfl) (by rfl) (by rfl) ?_ ?_
  · intro W_ hK
    have hW := hK.1
    clear hK
    go_simp
    exact ⟨rfl, (VB.q (hV1u.ext (hE_.trans hW))).mono fun e w' ⟨he, hx⟩ => ⟨_, he, hx, rfl⟩⟩
  intro v_ d2 d3 hr_
  obtain ⟨W_, hW_⟩ := hr_
  obtain rfl : v_ = .bool true := hW_.get
  clear hW_ W_
  try simp only [Act.put, sa0, sa1, sa2]
  refine wpT_quiet 3 (by rfl) (by kernel_rfl) ?_
  simp only [tk1, tk0, dp1, dp0]
  repeat (go_big_quiet_step (fail))
  refine wpQuiet_nil ?_
  refine wpT_eff (by rfl) (by rfl) (by rfl) ?_ ?_
  · intro W_ hK
    have hW := hK.1
    clear hK
    go_simp
    exact ⟨rfl, (VB.q (hV1v.ext (hE_.trans hW))).mono fun e w' ⟨he, hx⟩ => ⟨_, he, hx, rfl⟩⟩
  intro v_ lo60 hi60 hr_
  obtain ⟨W_, hW_⟩ := hr_
  obtain rfl : v_ = .bool false := hW_.get
  clear hW_ W_
  try simp only [Act.put, sa0, sa1, sa2]
  refine wpT_quiet 2 (by rfl) (by kernel_rfl) ?_
  simp only [tk1, tk0, dp1, dp0]
  repeat (go_big_quiet_step (fail))
  refine wpQuiet_nil ?_
  refine wpT_eff (by rfl) (by rfl) (by rfl) ?_ ?_
  · intro W_ hK
    have hW := hK.1
    clear hK
    go_simp
    exact ⟨rfl, (VB.q (hV2.ext (hE_.trans hW))).mono fun e w' ⟨he, hx⟩ => ⟨_, he, hx, rfl⟩⟩
  intro v_ d4 d5 hr_
  obtain ⟨W_, hW_⟩ := hr_
  obtain rfl : v_ = .bool false := hW_.get
  clear hW_ W_
  try simp only [Act.put, sa0, sa1, sa2]
  refine wpT_quiet 2 (by rfl) (by kernel_rfl) ?_
  simp only [tk1, tk0, dp1, dp0]
  repeat (go_big_quiet_step (fail))
  refine wpQuiet_nil ?_
  refine wpT_nil ?_
  intro w9 hK
  have hlt_ := hS.lt
  replace hS := hS.mv hK.ext
  clear hK hlt_ hE_ Y5 Y4 Y3
  rotate_left 1
  all_goals
    go_wp2_with fail
    have hE_ := hS.ext
    refine wp_region_tame 33 (hasF [(0, .any)]) (Fcs [(0, .eq (.bool true))]) (Fcs_stab _) (by kernel_rfl) (by kernel_rfl) ?_
    simp only [tk1, tk0, dp1, dp0]
    refine wpT_eff (by rfl) (by rfl) (by rfl) ?_ ?_
    · intro W_ hK
      have hW := hK.1
      clear hK
      go_simp
      exact ⟨rfl, (lxknown_ok _ (tab_ext hTab (hE_.trans hW))).mono fun e w' ⟨he, hx⟩ => ⟨_, he, hx, rfl⟩⟩
    intro v_ d7 d8 hr_
    obtain ⟨W_, hW_⟩ := hr_
    obtain rfl : v_ = .bool true := hW_.get
    clear hW_ W_
    try simp only [Act.put, sa0, sa1, sa2]
    refine wpT_quiet 7 (by rfl) (by kernel_rfl) ?_
    simp only [tk1, tk0, dp1, dp0]
    repeat (go_big_quiet_step (fail))
    refine wpQuiet_nil ?_
    refine wpT_skip (by rfl) (by rfl) ?_
    try simp only [Act.put, sa0, sa1, sa2]
    refine wpT_skip (by rfl) (by rfl) ?_
    try simp only [Act.put, sa0, sa1, sa2]
    refine wpT_quiet 9 (by rfl) (by kernel_rfl) ?_
    simp only [tk1, tk0, dp1, dp0]
    repeat (go_big_quiet_step (fail))
    refine wpQuiet_nil ?_
    refine wpT_skip (by rfl) (by rfl) ?_
    try simp only [Act.put, sa0, sa1, sa2]
    refine wpT_skip (by rfl) (by rfl) ?_
    try simp only [Act.put, sa0, sa1, sa2]
    refine wpT_quiet 8 (by rfl) (by kernel_rfl) ?_
    simp only [tk1, tk0, dp1, dp0]
    repeat (go_big_quiet_step (fail))
    refine wpQuiet_nil ?_
    refine wpT_skip (by rfl) (by rfl) ?_
    try simp only [Act.put, sa0, sa1, sa2]
    refine wpT_skip (by rfl) (by rfl) ?_
    try simp only [Act.put, sa0, sa1, sa2]
    refine wpT_quiet 2 (by rfl) (by kernel_rfl) ?_
    simp only [tk1, tk0, dp1, dp0]
    repeat (go_big_quiet_step (fail))
    refine wpQuiet_nil ?_
    refine wpT_nil ?_
    intro w10 hK
    have hlt_ := hS.lt
    replace hS := hS.mv hK.ext
    clear hK hlt_ hE_
    go_wp2
    go_ret
    exact ⟨ret_bool (rfl), hS.ext⟩

set_option maxRecDepth 100000 in
set_option maxHeartbeats 51200000 in
theorem phasors_vbv (v0 : Value) (q0 : PQ) (n0 : Nat) (cs : Bool) (ct : Option Addr) (c7 cu : Nat) (cv : Bool) (cw : Option Addr) (c8 cx : Nat) (cy : Bool) (cz : Option Addr) (c9 cA : Nat) (cB : Bool) (cC : Option Addr) (ca cD : Nat) (cE : Bool) (cF : Option Addr) (cb cG : Nat) (cH : Bool) (cI : Option Addr) (cc cJ : Nat) (b1u : Bool) (b1v : Bool) (v2 : Value) (q2 : GQ) (n2 : Nat) (w : World) (hX0 : PV w v0 q0 n0) (hV1u : VB w (gv cs ct c7 cu cv cw c8 cx cy cz c9 cA) b1u) (hV1v : VB w (gv cB cC ca cD cE cF cb cG cH cI cc cJ) b1v) (hX2 : GV w v2 q2 n2) (hn0 : n0 ≤ 1280) (hm0 : 1 ≤ n0) (e2 : c7 ≤ 40) (e3 : c8 ≤ 40) (e4 : c9 ≤ 40) (e5 : ca ≤ 40) (e6 : cb ≤ 40) (e7 : cc ≤ 40) (hn2 : n2 ≤ 1280) (hm2 : 1 ≤ n2) (Hq : Hid ((b1u && b1v) = false)) (hTab : Tab w)
      :
    Calls Tryz.prog 7 #[v0, pv cs ct c7 cu cv cw c8 cx cy cz c9 cA cB cC ca cD cE cF cb cG cH cI cc cJ, v2] w fun e w' => e = .returned (.bool true) ∧ Ext w w' := by
  have hS := St.start w
  obtain ⟨x0a, x0b, x0d, x0x, x0y, x0z, hX0, cQ, cd, cR, ce⟩ := hX0
  obtain ⟨b5, b6, aZ, b7, b8, b9, b0, ba, bb, bc, b1, bd, be, bf, b2, bg, bh, bi, b3, bj, bk, bl, b4, bm, rfl, dv, dw, dx, dy, dz, dA⟩ := hX0
  replace hS := hS.addI dv
  clear dv
  replace hS := hS.addI dw
  clear dw
  replace hS := hS.addI dx
  clear dx
  replace hS := hS.addI dy
  clear dy
  replace hS := hS.addI dz
  clear dz
  replace hS := hS.addI dA
  clear dA
  obtain ⟨dY, dZ, e0, hX2, I2, S2⟩ := hX2
  obtain ⟨br, bs, bn, bt, bu, bv, bo, bw, bx, bz, bp, bA, rfl, dB, dC, dD⟩ := hX2
  replace hS := hS.addI dB
  clear dB
  replace hS := hS.addI dC
  clear dC
  replace hS := hS.addI dD
  clear dD
  have HL : Hid ([aZ, b0, b1, b2, b3, b4, c7, c8, c9, ca, cb, cc, bn, bo, bp].all (fun n => decide (n ≤ 40)) = true) := Lib.hid (by simp only [List.all_cons, List.all_nil, Bool.and_true, Bool.and_eq_true, decide_eq_true_eq]; exact ⟨RI.low (k := 40) (hS.num 8 rfl) cd.a (by omega), RI.low (k := 40) (hS.num 7 rfl) cd.b (by omega), RI.low (k := 40) (hS.num 6 rfl) cd.d (by omega), RI.low (k := 40) (hS.num 5 rfl) ce.a (by omega), RI.low (k := 40) (hS.num 4 rfl) ce.b (by omega), RI.low (k := 40) (hS.num 3 rfl) ce.d (by omega), e2, e3, e4, e5, e6, e7, RI.low (k := 40) (hS.num 2 rfl) S2.a (by omega), RI.low (k := 40) (hS.num 1 rfl) S2.b (by omega), RI.low (k := 40) (hS.num 0 rfl) S2.d (by omega)⟩)
  have o3 : Own w w.heap.size := Own.of hS.ext (by simp)
  have o4 : Own w (w.heap.size + 1) := Own.of hS.ext (by simp)
  have o5 : Own w (w.heap.size + 2) := Own.of hS.ext (by simp)
  have e1 := (St.al (St.al (St.al hS 37 #[.bool b5, .slice b6 aZ b7, .bool b8, .slice b9 b0 ba, .bool bb, .slice bc b1 bd, .bool be, .slice bf b2 bg, .bool bh, .slice bi b3 bj, .bool bk, .slice bl b4 bm] (g := w.heap.size) (by simp)) 37 #[.bool cs, .slice ct c7 cu, .bool cv, .slice cw c8 cx, .bool cy, .slice cz c9 cA, .bool cB, .slice cC ca cD, .bool cE, .slice cF cb cG, .bool cH, .slice cI cc cJ] (g := (w.heap.size + 1)) (by simp)) 26 #[.bool br, .slice bs bn bt, .bool bu, .slice bv bo bw, .bool bx, .slice bz bp bA] (g := (w.heap.size + 2)) (by simp))
  have k_1 := (e1.blk 2 rfl).cell
  have k_2 := (e1.blk 1 rfl).cell
  have k_3 := (e1.blk 0 rfl).cell
  have o25 : Own w (w.heap.size + 3) := Own.of hS.ext (by simp)
  go_enter Tryz.func7, Tryz.ntmps7
  go_wp2_with fail
  clear k_1 k_2 k_3
  clear e1
  replace hS := (St.al (St.al (St.al (St.al hS 37 #[.bool b5, .slice b6 aZ b7, .bool b8, .slice b9 b0 ba, .bool bb, .slice bc b1 bd, .bool be, .slice bf b2 bg, .bool bh, .slice bi b3 bj, .bool bk, .slice bl b4 bm] (g := w.heap.size) (by simp)) 37 #[.bool cs, .slice ct c7 cu, .bool cv, .slice cw c8 cx, .bool cy, .slice cz c9 cA, .bool cB, .slice cC ca cD, .bool cE, .slice cF cb cG, .bool cH, .slice cI cc cJ] (g := (w.heap.size + 1)) (by simp)) 26 #[.bool br, .slice bs bn bt, .bool bu, .slice bv bo bw, .bool bx, .slice bz bp bA] (g := (w.heap.size + 2)) (by simp)) 26 #[.bool b5, .slice b6 aZ b7, .bool b8, .slice b9 b0 ba, .bool bb, .slice bc b1 bd, .bool be, .slice bf b2 bg, .bool bh, .slice bi b3 bj, .bool bk, .slice bl b4 bm, .bool cs, .slice ct c7 cu, .bool cv, .slice cw c8 cx, .bool cy, .slice cz c9 cA, .bool cB, .slice cC ca cD, .bool cE, .slice cF cb cG, .bool cH, .slice cI cc cJ, .bool br, .slice bs bn bt, .bool bu, .slice bv bo bw, .bool bx, .slice bz bp bA] (g := (w.heap.size + 3)) (by simp))
  generalize ((((w.alloc (.cells #[.bool b5, .slice b6 aZ b7, .bool b8, .slice b9 b0 ba, .bool bb, .slice bc b1 bd, .bool be, .slice bf b2 bg, .bool bh, .slice bi b3 bj, .bool bk, .slice bl b4 bm] 37)).alloc (.cells #[.bool cs, .slice ct c7 cu, .bool cv, .slice cw c8 cx, .bool cy, .slice cz c9 cA, .bool cB, .slice cC ca cD, .bool cE, .slice cF cb cG, .bool cH, .slice cI cc cJ] 37)).alloc (.cells #[.bool br, .slice bs bn bt, .bool bu, .slice bv bo bw, .bool bx, .slice bz bp bA] 26)).alloc (.cells #[.bool b5, .slice b6 aZ b7, .bool b8, .slice b9 b0 ba, .bool bb, .slice bc b1 bd, .bool be, .slice bf b2 bg, .bool bh, .slice bi b3 bj, .bool bk, .slice bl b4 bm, .bool cs, .slice ct c7 cu, .bool cv, .slice cw c8 cx, .bool cy, .slice cz c9 cA, .bool cB, .slice cC ca cD, .bool cE, .slice cF cb cG, .bool cH, .slice cI cc cJ, .bool br, .slice bs bn bt, .bool bu, .slice bv bo bw, .bool bx, .slice bz bp bA] 26)) = w1 at hS ⊢
  generalize w.heap.size + 3 = g25 at hS o25 ⊢
  generalize w.heap.size + 2 = g5 at hS o5 ⊢
  generalize w.heap.size + 1 = g4 at hS o4 ⊢
  generalize w.heap.size = g3 at hS o3 ⊢
  refine (low5_raw g25 40 true _ (hS.blk 0 rfl) HL.out).mono ?_
  rintro e w2 ⟨rfl, hx_⟩
  replace hS := hS.mv hx_
  clear hx_
  have k_4 := (hS.blk 3 rfl).cell
  have k_5 := (hS.blk 2 rfl).cell
  go_wp2_with fail
  clear k_4 k_5
  refine (xSum_bad b5 b6 aZ b7 b8 b9 b0 ba bb bc b1 bd be bf b2 bg bh bi b3 bj bk bl b4 bm true true cs ct c7 cu cv cw c8 cx cy cz c9 cA cB cC ca cD cE cF cb cG cH cI cc cJ b1u b1v _ (GV.vb (q := q0.u) (n := n0) ⟨_, _, _, RG.mk (hS.num 8 rfl) (hS.num 7 rfl) (hS.num 6 rfl), cQ, cd⟩ (by omega)) (GV.vb (q := q0.v) (n := n0) ⟨_, _, _, RG.mk (hS.num 5 rfl) (hS.num 4 rfl) (hS.num 3 rfl), cR, ce⟩ (by omega)) (hV1u.ext hS.ext) (hV1v.ext hS.ext) (Lib.hid (all4_q Hq.out))).mono ?_
  rintro e w3 ⟨v_, rfl, hv_, hx_⟩
  replace hS := hS.mv hx_
  clear hx_
  obtain ⟨_, rfl, cS, bB, cT, cU, cV, bC, cW, cX, cY, bD, cZ, d0, d1, bE, d2, d3, d4, bF, d5, d6, d7, bG, d8, d9, rfl, bH, bI, bJ, bK, bL, bM⟩ := hv_
  replace hS := hS.addI bH
  clear bH
  replace hS := hS.addI bI
  clear bI
  replace hS := hS.addI bJ
  clear bJ
  replace hS := hS.addI bK
  clear bK
  replace hS := hS.addI bL
  clear bL
  replace hS := hS.addI bM
  clear bM
  have o7 : Own w w3.heap.size := Own.of hS.ext (by simp)
  have e8 := (St.al hS 37 #[.bool false, .slice none 0 0, .bool false, .slice none 0 0, .bool false, .slice none 0 0, .bool false, .slice none 0 0, .bool false, .slice none 0 0, .bool false, .slice none 0 0] (g := w3.heap.size) (by simp))
  have k_6 := (e8.blk 0 rfl).cell
  have k_7 := (e8.blk 0 rfl).frozen
  have e9 := (St.al hS 37 #[.bool cS, .slice bB cT cU, .bool cV, .slice bC cW cX, .bool cY, .slice bD cZ d0, .bool d1, .slice bE d2 d3, .bool d4, .slice bF d5 d6, .bool d7, .slice bG d8 d9] (g := w3.heap.size) (by simp))
  have k_8 := (e9.blk 4 rfl).cell
  have k_9 := (e9.blk 2 rfl).cell
  go_wp2_with fail
  clear k_6 k_7 k_8 k_9
  clear e8 e9
  replace hS := (St.al hS 37 #[.bool cS, .slice bB cT cU, .bool cV, .slice bC cW cX, .bool cY, .slice bD cZ d0, .bool d1, .slice bE d2 d3, .bool d4, .slice bF d5 d6, .bool d7, .slice bG d8 d9] (g := w3.heap.size) (by simp))
  generalize (w3.alloc (.cells #[.bool cS, .slice bB cT cU, .bool cV, .slice bC cW cX, .bool cY, .slice bD cZ d0, .bool d1, .slice bE d2 d3, .bool d4, .slice bF d5 d6, .bool d7, .slice bG d8 d9] 37)) = w4 at hS ⊢
  generalize w3.heap.size = g7 at hS o7 ⊢
  obtain ⟨ea, eb, ec, da⟩ := is_ex ((⟨q0.u * q2, q0.v * q2⟩ : PQ)).u
  obtain ⟨ed, ee, ef, db⟩ := is_ex ((⟨q0.u * q2, q0.v * q2⟩ : PQ)).v
  have eg : Sz (n0 + n2 + 1) ea eb ec := (Bd.mul (m := n0) ⟨_, _, _, cQ, cd⟩ ⟨_, _, _, I2, S2⟩).sz da
  have eh : Sz (n0 + n2 + 1) ed ee ef := (Bd.mul (m := n0) ⟨_, _, _, cR, ce⟩ ⟨_, _, _, I2, S2⟩).sz db
  refine (toTP (xTimes_w _ q0 (n0) _ q2 (n2) _ ⟨_, _, _, _, _, _, RP.mk (hS.num 14 rfl) (hS.num 13 rfl) (hS.num 12 rfl) (hS.num 11 rfl) (hS.num 10 rfl) (hS.num 9 rfl), cQ, cd, cR, ce⟩ ⟨_, _, _, RG.mk (hS.num 8 rfl) (hS.num 7 rfl) (hS.num 6 rfl), I2, S2⟩ (by omega)) da db).mono ?_
  rintro e w5 ⟨v_, rfl, hv_, hx_⟩
  replace hS := hS.mv hx_
  clear hx_
  obtain ⟨_, rfl, dc, bN, dd, de, df, bO, dg, dh, di, bP, dj, dk, dl, bQ, dm, dn, dp, bR, dq, dr, ds, bS, dt, du, rfl, bT, bU, bV, bW, bX, bY⟩ := hv_
  replace hS := hS.addI bT
  clear bT
  replace hS := hS.addI bU
  clear bU
  replace hS := hS.addI bV
  clear bV
  replace hS := hS.addI bW
  clear bW
  replace hS := hS.addI bX
  clear bX
  replace hS := hS.addI bY
  clear bY
  have o9 : Own w w5.heap.size := Own.of hS.ext (by simp)
  have ei := (St.al hS 37 #[.bool false, .slice none 0 0, .bool false, .slice none 0 0, .bool false, .slice none 0 0, .bool false, .slice none 0 0, .bool false, .slice none 0 0, .bool false, .slice none 0 0] (g := w5.heap.size) (by simp))
  have ej := (ei.blk 0 rfl).cell
  have ek := (ei.blk 0 rfl).frozen
  have ey := (St.al hS 37 #[.bool dc, .slice bN dd de, .bool df, .slice bO dg dh, .bool di, .slice bP dj dk, .bool dl, .slice bQ dm dn, .bool dp, .slice bR dq dr, .bool ds, .slice bS dt du] (g := w5.heap.size) (by simp))
  have el := (ey.blk 3 rfl).cell
  go_wp2_with fail
  clear ej ek el
  clear ei ey
  replace hS := (St.al hS 37 #[.bool dc, .slice bN dd de, .bool df, .slice bO dg dh, .bool di, .slice bP dj dk, .bool dl, .slice bQ dm dn, .bool dp, .slice bR dq dr, .bool ds, .slice bS dt du] (g := w5.heap.size) (by simp))
  generalize (w5.alloc (.cells #[.bool dc, .slice bN dd de, .bool df, .slice bO dg dh, .bool di, .slice bP dj dk, .bool dl, .slice bQ dm dn, .bool dp, .slice bR dq dr, .bool ds, .slice bS dt du] 37)) = w6 at hS ⊢
  generalize w5.heap.size = g9 at hS o9 ⊢
  refine (toTP (xPlain_w _ q2 (n2) _ ⟨_, _, _, RG.mk (hS.num 14 rfl) (hS.num 13 rfl) (hS.num 12 rfl), I2, S2⟩ (by omega) (by omega)) I2 (is_i 0 0)).mono ?_
  rintro e w7 ⟨v_, rfl, hv_, hx_⟩
  replace hS := hS.mv hx_
  clear hx_
  obtain ⟨_, rfl, dE, cK, dF, dG, dH, cL, dI, dJ, dK, cM, dL, dM, dN, cN, dO, dP, dQ, cO, dR, dS, dT, cP, dU, dV, rfl, bZ, c0, c1, c2, c3, c4⟩ := hv_
  replace hS := hS.addI bZ
  clear bZ
  replace hS := hS.addI c0
  clear c0
  replace hS := hS.addI c1
  clear c1
  replace hS := hS.addI c2
  clear c2
  replace hS := hS.addI c3
  clear c3
  replace hS := hS.addI c4
  clear c4
  have o11 : Own w w7.heap.size := Own.of hS.ext (by simp)
  have em := (St.al hS 37 #[.bool false, .slice none 0 0, .bool false, .slice none 0 0, .bool false, .slice none 0 0, .bool false, .slice none 0 0, .bool false, .slice none 0 0, .bool false, .slice none 0 0] (g := w7.heap.size) (by simp))
  have en := (em.blk 0 rfl).cell
  have eo := (em.blk 0 rfl).frozen
  go_wp2_with fail
  clear en eo
  clear em
  replace hS := (St.al hS 37 #[.bool dE, .slice cK dF dG, .bool dH, .slice cL dI dJ, .bool dK, .slice cM dL dM, .bool dN, .slice cN dO dP, .bool dQ, .slice cO dR dS, .bool dT, .slice cP dU dV] (g := w7.heap.size) (by simp))
  generalize (w7.alloc (.cells #[.bool dE, .slice cK dF dG, .bool dH, .slice cL dI dJ, .bool dK, .slice cM dL dM, .bool dN, .slice cN dO dP, .bool dQ, .slice cO dR dS, .bool dT, .slice cP dU dV] 37)) = w8 at hS ⊢
  generalize w7.heap.size = g11 at hS o11 ⊢
  cases b1u
  go_wp2_with fail
  have Y5 := ExtOf.blk (hS.blk 4 rfl)
  have Y4 := ExtOf.blk (hS.blk 5 rfl)
  have Y3 := ExtOf.blk (hS.blk 6 rfl)
  have hE_ := hS.ext
  refine wp_region_tame 20 (hasF [(2, .any), (6, .any), (10, .any), (17, .any)]) (Fcs [(2, .eq (.bool true)), (6, .eq (.bool true)), (10, .eq (.bool false)), (17, .eq (.bool true))]) (Fcs_stab _) (by kernel_rfl) (by kernel_rfl) ?_
  simp only [tk1, tk0, dp1, dp0]
  refine wpT_quiet 2 (by rfl) (by kernel_rfl) ?_
  simp only [tk1, tk0, dp1, dp0]
  repeat (go_big_quiet_step (fail))
  refine wpQuiet_nil ?_
  refine wpT_eff (by rfl) (by rfl) (by rfl) ?_ ?_
  · intro W_ hK
    have hW := hK.1
    clear hK
    go_simp
    exact ⟨rfl, (qValid_gv _ q0.u (n0) _ ⟨_, _, _, RG.mk (RI.ext (hS.num 26 rfl) hW) (RI.ext (hS.num 25 rfl) hW) (RI.ext (hS.num 24 rfl) hW), cQ, cd⟩ (by omega)).mono fun e w' ⟨he, hx⟩ => ⟨_, he, hx, rfl⟩⟩
  intro v_ ep er hr_
  obtain ⟨W_, hW_⟩ := hr_
  obtain rfl : v_ = .bool true := hW_.get
  clear hW_ W_
  try simp only [Act.put, sa0, sa1, sa2]
  refine wpT_quiet 3 (by rfl) (by kernel_rfl) ?_
  simp only [tk1, tk0, dp1, dp0]
  repeat (go_big_quiet_step (fail))
  refine wpQuiet_nil ?_
  refine wpT_eff (by rfl) (by rfl) (by rfl) ?_ ?_
  · intro W_ hK
    have hW := hK.1
    clear hK
    go_simp
    exact ⟨rfl, (qValid_gv _ q0.v (n0) _ ⟨_, _, _, RG.mk (RI.ext (hS.num 23 rfl) hW) (RI.ext (hS.num 22 rfl) hW) (RI.ext (hS.num 21 rfl) hW), cR, ce⟩ (by omega)).mono fun e w' ⟨he, hx⟩ => ⟨_, he, hx, rfl⟩⟩
  intro v_ es et hr_
  obtain ⟨W_, hW_⟩ := hr_
  obtain rfl : v_ = .bool true := hW_.get
  clear hW_ W_
  try simp only [Act.put, sa0, sa1, sa2]
  refine wpT_quiet 3 (by rfl) (by kernel_rfl) ?_
  simp only [tk1, tk0, dp1, dp0]
  repeat (go_big_quiet_step (fail))
  refine wpQuiet_nil ?_
  refine wpT_eff (by rfl) (by rfl) (by rfl) ?_ ?_
  · intro W_ hK
    have hW := hK.1
    clear hK
    go_simp
    exact ⟨rfl, (VB.q (hV1u.ext (hE_.trans hW))).mono fun e w' ⟨he, hx⟩ => ⟨_, he, hx, rfl⟩⟩
  intro v_ eu ev hr_
  obtain ⟨W_, hW_⟩ := hr_
  obtain rfl : v_ = .bool false := hW_.get
  clear hW_ W_
  try simp only [Act.put, sa0, sa1, sa2]
  refine wpT_quiet 3 (by rfl) (by kernel_rfl) ?_
  simp only [tk1, tk0, dp1, dp0]
  repeat (go_big_quiet_step (fail))
  refine wpQuiet_nil ?_
  refine wpT_skip (by rfl) (by rfl) ?_
  try simp only [Act.put, sa0, sa1, sa2]
  refine wpT_quiet 2 (by rfl) (by kernel_rfl) ?_
  simp only [tk1, tk0, dp1, dp0]
  repeat (go_big_quiet_step (fail))
  refine wpQuiet_nil ?_
  refine wpT_eff (by rfl) (by rfl) (by rfl) ?_ ?_
  · intro W_ hK
    have hW := hK.1
    clear hK
    go_simp
    exact ⟨rfl, (qValid_gv _ q2 (n2) _ ⟨_, _, _, RG.mk (RI.ext (hS.num 20 rfl) hW) (RI.ext (hS.num 19 rfl) hW) (RI.ext (hS.num 18 rfl) hW), I2, S2⟩ (by omega)).mono fun e w' ⟨he, hx⟩ => ⟨_, he, hx, rfl⟩⟩
  intro v_ ew ex hr_
  obtain ⟨W_, hW_⟩ := hr_
  obtain rfl : v_ = .bool true := hW_.get
  clear hW_ W_
  try simp only [Act.put, sa0, sa1, sa2]
  refine wpT_quiet 2 (by rfl) (by kernel_rfl) ?_
  simp only [tk1, tk0, dp1, dp0]
  repeat (go_big_quiet_step (fail))
  refine wpQuiet_nil ?_
  refine wpT_nil ?_
  intro w9 hK
  have hlt_ := hS.lt
  replace hS := hS.mv hK.ext
  clear hK hlt_ hE_ Y5 Y4 Y3
  rotate_left 1
  obtain rfl : b1v = false := by simpa using Hq.out
  go_wp2_with fail
  have Y5 := ExtOf.blk (hS.blk 4 rfl)
  have Y4 := ExtOf.blk (hS.blk 5 rfl)
  have Y3 := ExtOf.blk (hS.blk 6 rfl)
  have hE_ := hS.ext
  refine wp_region_tame 20 (hasF [(2, .any), (6, .any), (10, .any), (14, .any), (17, .any)]) (Fcs [(2, .eq (.bool true)), (6, .eq (.bool true)), (10, .eq (.bool true)), (14, .eq (.bool false)), (17, .eq (.bool true))]) (Fcs_stab _) (by kernel_rfl) (by kernel_rfl) ?_
  simp only [tk1, tk0, dp1, dp0]
  refine wpT_quiet 2 (by rfl) (by kernel_rfl) ?_
  simp only [tk1, tk0, dp1, dp0]
  repeat (go_big_quiet_step (fail))
  refine wpQuiet_nil ?_
  refine wpT_eff (by rfl) (by rfl) (by rfl) ?_ ?_
  · intro W_ hK
    have hW := hK.1
    clear hK
    go_simp
    exact ⟨rfl, (qValid_gv _ q0.u (n0) _ ⟨_, _, _, RG.mk (RI.ext (hS.num 26 rfl) hW) (RI.ext (hS.num 25 rfl) hW) (RI.ext (hS.num 24 rfl) hW), cQ, cd⟩ (by omega)).mono fun e w' ⟨he, hx⟩ => ⟨_, he, hx, rfl⟩⟩
  intro v_ ep er hr_
  obtain ⟨W_, hW_⟩ := hr_
  obtain rfl : v_ = .bool true := hW_.get
  clear hW_ W_
  try simp only [Act.put, sa0, sa1, sa2]
  refine wpT_quiet 3 (by rfl) (by kernel_rfl) ?_
  simp only [tk1, tk0, dp1, dp0]
  repeat (go_big_quiet_step (fail))
  refine wpQuiet_nil ?_
  refine wpT_eff (by rfl) (by rfl) (by rfl) ?_ ?_
  · intro W_ hK
    have hW := hK.1
    clear hK
    go_simp
    exact ⟨rfl, (qValid_gv _ q0.v (n0) _ ⟨_, _, _, RG.mk (RI.ext (hS.num 23 rfl) hW) (RI.ext (hS.num 22 rfl) hW) (RI.ext (hS.num 21 rfl) hW), cR, ce⟩ (by omega)).mono fun e w' ⟨he, hx⟩ => ⟨_, he, hx, rfl⟩⟩
  intro v_ es et hr_
  obtain ⟨W_, hW_⟩ := hr_
  obtain rfl : v_ = .bool true := hW_.get
  clear hW_ W_
  try simp only [Act.put, sa0, sa1, sa2]
  refine wpT_quiet 3 (by rfl) (by kernel_rfl) ?_
  simp only [tk1, tk0, dp1, dp0]
  repeat (go_big_quiet_step (fail))
  refine wpQuiet_nil ?_
  refine wpT_eff (by rfl) (by rfl) (by rfl) ?_ ?_
  · intro W_ hK
    have hW := hK.1
    clear hK
    go_simp
    exact ⟨rfl, (VB.q (hV1u.ext (hE_.trans hW))).mono fun e w' ⟨he, hx⟩ => ⟨_, he, hx, rfl⟩⟩
  intro v_ eu ev hr_
  obtain ⟨W_, hW_⟩ := hr_
  obtain rfl : v_ = .bool true := hW_.get
  clear hW_ W_
  try simp only [Act.put, sa0, sa1, sa2]
  refine wpT_quiet 3 (by rfl) (by kernel_rfl) ?_
  simp only [tk1, tk0, dp1, dp0]
  repeat (go_big_quiet_step (fail))
  refine wpQuiet_nil ?_
  refine wpT_eff (by rfl) (by rfl) (by rfl) ?_ ?_
  · intro W_ hK
    have hW := hK.1
    clear hK
    go_simp
    exact ⟨rfl, (VB.q (hV1v.ext (hE_.trans hW))).mono fun e w' ⟨he, hx⟩ => ⟨_, he, hx, rfl⟩⟩
  intro v_ lo60 hi60 hr_
  obtain ⟨W_, hW_⟩ := hr_
  obtain rfl : v_ = .bool false := hW_.get
  clear hW_ W_
  try simp only [Act.put, sa0, sa1, sa2]
  refine wpT_quiet 2 (by rfl) (by kernel_rfl) ?_
  simp only [tk1, tk0, dp1, dp0]
  repeat (go_big_quiet_step (fail))
  refine wpQuiet_nil ?_
  refine wpT_eff (by rfl) (by rfl) (by rfl) ?_ ?_
  · intro W_ hK
    have hW := hK.1
    clear hK
    go_simp
    exact ⟨rfl, (qValid_gv _ q2 (n2) _ ⟨_, _, _, RG.mk (RI.ext (hS.num 20 rfl) hW) (RI.ext (hS.num 19 rfl) hW) (RI.ext (hS.num 18 rfl) hW), I2, S2⟩ (by omega)).mono fun e w' ⟨he, hx⟩ => ⟨_, he, hx, rfl⟩⟩
  intro v_ ew ex hr_
  obtain ⟨W_, hW_⟩ := hr_
  obtain rfl : v_ = .bool true := hW_.get
  clear hW_ W_
  try simp only [Act.put, sa0, sa1, sa2]
  refine wpT_quiet 2 (by rfl) (by kernel_rfl) ?_
  simp only [tk1, tk0, dp1, dp0]
  repeat (go_big_quiet_step (fail))
  refine wpQuiet_nil ?_
  refine wpT_nil ?_
  intro w9 hK
  have hlt_ := hS.lt
  replace hS := hS.mv hK.ext
  clear hK hlt_ hE_ Y5 Y4 Y3
  rotate_left 1
  all_goals
    go_wp2_with fail
    obtain ⟨aT, aU, aV, c5⟩ := is_ex ((⟨q0.u * q2, q0.v * q2⟩ : PQ)).u
    obtain ⟨aW, aX, aY, c6⟩ := is_ex ((⟨q0.u * q2, q0.v * q2⟩ : PQ)).v
    have dW : Sz (n0 + n2 + 1) aT aU aV := (Bd.mul (m := n0) ⟨_, _, _, cQ, cd⟩ ⟨_, _, _, I2, S2⟩).sz c5
    have dX : Sz (n0 + n2 + 1) aW aX aY := (Bd.mul (m := n0) ⟨_, _, _, cR, ce⟩ ⟨_, _, _, I2, S2⟩).sz c6
    have Y11 := ExtOf.blk (hS.blk 0 rfl)
    have Y9 := ExtOf.blk (hS.blk 1 rfl)
    have Y5 := ExtOf.blk (hS.blk 4 rfl)
    have Y3 := ExtOf.blk (hS.blk 6 rfl)
    have hE_ := hS.ext
    refine wp_region_tame 33 (hasF [(0, .any), (19, .any), (20, .any), (29, .any), (30, .any)]) (Fcs [(0, .eq (.bool true)), (19, .rp (aT) (aU) (aV) (aW) (aX) (aY)), (20, .eq (.bool true)), (29, .rp (dY) (dZ) (e0) ((0 : Int)) ((0 : Int)) ((1 : Int))), (30, .eq (.bool true))]) (Fcs_stab _) (by kernel_rfl) (by kernel_rfl) ?_
    simp only [tk1, tk0, dp1, dp0]
    refine wpT_eff (by rfl) (by rfl) (by rfl) ?_ ?_
    · intro W_ hK
      have hW := hK.1
      clear hK
      go_simp
      exact ⟨rfl, (lxknown_ok _ (tab_ext hTab (hE_.trans hW))).mono fun e w' ⟨he, hx⟩ => ⟨_, he, hx, rfl⟩⟩
    intro v_ ez eA hr_
    obtain ⟨W_, hW_⟩ := hr_
    obtain rfl : v_ = .bool true := hW_.get
    clear hW_ W_
    try simp only [Act.put, sa0, sa1, sa2]
    refine wpT_quiet 7 (by rfl) (by kernel_rfl) ?_
    simp only [tk1, tk0, dp1, dp0]
    repeat (go_big_quiet_step (fail))
    refine wpQuiet_nil ?_
    refine wpT_skip (by rfl) (by rfl) ?_
    try simp only [Act.put, sa0, sa1, sa2]
    refine wpT_skip (by rfl) (by rfl) ?_
    try simp only [Act.put, sa0, sa1, sa2]
    refine wpT_quiet 9 (by rfl) (by kernel_rfl) ?_
    simp only [tk1, tk0, dp1, dp0]
    repeat (go_big_quiet_step (fail))
    refine wpQuiet_nil ?_
    refine wpT_eff (by rfl) (by rfl) (by rfl) ?_ ?_
    · intro W_ hK
      have hW := hK.1
      clear hK
      go_simp
      exact ⟨rfl, (toRP (qScaled_ok _ q0 (n0) _ q2 (n2) _ ⟨_, _, _, _, _, _, RP.mk (RI.ext (hS.num 26 rfl) hW) (RI.ext (hS.num 25 rfl) hW) (RI.ext (hS.num 24 rfl) hW) (RI.ext (hS.num 23 rfl) hW) (RI.ext (hS.num 22 rfl) hW) (RI.ext (hS.num 21 rfl) hW), cQ, cd, cR, ce⟩ ⟨_, _, _, RG.mk (RI.ext (hS.num 20 rfl) hW) (RI.ext (hS.num 19 rfl) hW) (RI.ext (hS.num 18 rfl) hW), I2, S2⟩ (by omega)) c5 c6).mono fun e w' ⟨v, he, hR, hx⟩ => ⟨v, he, hx, hR⟩⟩
    intro v_ aP aQ hr_
    obtain ⟨W_, hW_⟩ := hr_
    have hv_ : Fc.holds (.rp (aT) (aU) (aV) (aW) (aX) (aY)) aP aQ v_ W_ := hW_.get
    clear hW_
    obtain ⟨ac, a0, ad, ae, af, a1, ag, ah, ai, a2, aj, ak, am, a3, an, ao, ap, a4, aq, ar, au, a5, av, aw, rfl, -, -, -, -, -, -⟩ := hv_
    clear W_
    try simp only [Act.put, sa0, sa1, sa2]
    refine wpT_eff (by rfl) (by rfl) (by rfl) ?_ ?_
    · intro W_ hK
      have hW := hK.1
      have cf : RI W_ (iv ac a0 ad ae) aT := RP.at1 (hK.2 19 ((pv ac a0 ad ae af a1 ag ah ai a2 aj ak am a3 an ao ap a4 aq ar au a5 av aw), aP, aQ) (by rfl) (anc_of (by kernel_rfl)))
      have cg : RI W_ (iv af a1 ag ah) aU := RP.at2 (hK.2 19 ((pv ac a0 ad ae af a1 ag ah ai a2 aj ak am a3 an ao ap a4 aq ar au a5 av aw), aP, aQ) (by rfl) (anc_of (by kernel_rfl)))
      have ch : RI W_ (iv ai a2 aj ak) aV := RP.at3 (hK.2 19 ((pv ac a0 ad ae af a1 ag ah ai a2 aj ak am a3 an ao ap a4 aq ar au a5 av aw), aP, aQ) (by rfl) (anc_of (by kernel_rfl)))
      have ci : RI W_ (iv am a3 an ao) aW := RP.at4 (hK.2 19 ((pv ac a0 ad ae af a1 ag ah ai a2 aj ak am a3 an ao ap a4 aq ar au a5 av aw), aP, aQ) (by rfl) (anc_of (by kernel_rfl)))
      have cj : RI W_ (iv ap a4 aq ar) aX := RP.at5 (hK.2 19 ((pv ac a0 ad ae af a1 ag ah ai a2 aj ak am a3 an ao ap a4 aq ar au a5 av aw), aP, aQ) (by rfl) (anc_of (by kernel_rfl)))
      have ck : RI W_ (iv au a5 av aw) aY := RP.at6 (hK.2 19 ((pv ac a0 ad ae af a1 ag ah ai a2 aj ak am a3 an ao ap a4 aq ar au a5 av aw), aP, aQ) (by rfl) (anc_of (by kernel_rfl)))
      clear hK
      go_simp
      exact ⟨rfl, (qSamePhasor_q _ _ (⟨q0.u * q2, q0.v * q2⟩ : PQ) (⟨q0.u * q2, q0.v * q2⟩ : PQ) (n0 + n2 + 1) (n0 + n2 + 1) _ ⟨_, _, _, _, _, _, RP.mk (RI.ext (hS.num 11 rfl) hW) (RI.ext (hS.num 10 rfl) hW) (RI.ext (hS.num 9 rfl) hW) (RI.ext (hS.num 8 rfl) hW) (RI.ext (hS.num 7 rfl) hW) (RI.ext (hS.num 6 rfl) hW), da, eg, db, eh⟩ ⟨_, _, _, _, _, _, RP.mk cf cg ch ci cj ck, c5, dW, c6, dX⟩ rfl).mono fun e w' ⟨he, hx⟩ => ⟨_, he, hx, rfl⟩⟩
    intro v_ eB eC hr_
    obtain ⟨W_, hW_⟩ := hr_
    obtain rfl : v_ = .bool true := hW_.get
    clear hW_ W_
    try simp only [Act.put, sa0, sa1, sa2]
    refine wpT_quiet 8 (by rfl) (by kernel_rfl) ?_
    simp only [tk1, tk0, dp1, dp0]
    repeat (go_big_quiet_step (fail))
    refine wpQuiet_nil ?_
    refine wpT_eff (by rfl) (by rfl) (by rfl) ?_ ?_
    · intro W_ hK
      have hW := hK.1
      clear hK
      go_simp
      exact ⟨rfl, (toRP (qPlain_ok _ q2 (n2) _ ⟨_, _, _, RG.mk (RI.ext (hS.num 20 rfl) hW) (RI.ext (hS.num 19 rfl) hW) (RI.ext (hS.num 18 rfl) hW), I2, S2⟩ (by omega)) I2 (is_i 0 0)).mono fun e w' ⟨v, he, hR, hx⟩ => ⟨v, he, hx, hR⟩⟩
    intro v_ aR aS hr_
    obtain ⟨W_, hW_⟩ := hr_
    have hv_ : Fc.holds (.rp (dY) (dZ) (e0) ((0 : Int)) ((0 : Int)) ((1 : Int))) aR aS v_ W_ := hW_.get
    clear hW_
    obtain ⟨ax, a6, ay, az, aA, a7, aB, aC, aD, a8, aE, aF, aG, a9, aH, aI, aJ, aa, aK, aL, aM, ab, aN, aO, rfl, -, -, -, -, -, -⟩ := hv_
    clear W_
    try simp only [Act.put, sa0, sa1, sa2]
    refine wpT_eff (by rfl) (by rfl) (by rfl) ?_ ?_
    · intro W_ hK
      have hW := hK.1
      have cl : RI W_ (iv ax a6 ay az) dY := RP.at1 (hK.2 29 ((pv ax a6 ay az aA a7 aB aC aD a8 aE aF aG a9 aH aI aJ aa aK aL aM ab aN aO), aR, aS) (by rfl) (anc_of (by kernel_rfl)))
      have cn : RI W_ (iv aA a7 aB aC) dZ := RP.at2 (hK.2 29 ((pv ax a6 ay az aA a7 aB aC aD a8 aE aF aG a9 aH aI aJ aa aK aL aM ab aN aO), aR, aS) (by rfl) (anc_of (by kernel_rfl)))
      have co : RI W_ (iv aD a8 aE aF) e0 := RP.at3 (hK.2 29 ((pv ax a6 ay az aA a7 aB aC aD a8 aE aF aG a9 aH aI aJ aa aK aL aM ab aN aO), aR, aS) (by rfl) (anc_of (by kernel_rfl)))
      have cp : RI W_ (iv aG a9 aH aI) (0 : Int) := RP.at4 (hK.2 29 ((pv ax a6 ay az aA a7 aB aC aD a8 aE aF aG a9 aH aI aJ aa aK aL aM ab aN aO), aR, aS) (by rfl) (anc_of (by kernel_rfl)))
      have cq : RI W_ (iv aJ aa aK aL) (0 : Int) := RP.at5 (hK.2 29 ((pv ax a6 ay az aA a7 aB aC aD a8 aE aF aG a9 aH aI aJ aa aK aL aM ab aN aO), aR, aS) (by rfl) (anc_of (by kernel_rfl)))
      have cr : RI W_ (iv aM ab aN aO) (1 : Int) := RP.at6 (hK.2 29 ((pv ax a6 ay az aA a7 aB aC aD a8 aE aF aG a9 aH aI aJ aa aK aL aM ab aN aO), aR, aS) (by rfl) (anc_of (by kernel_rfl)))
      clear hK
      go_simp
      exact ⟨rfl, (qSamePhasor_q _ _ (⟨q2, (GQ.i 0 0)⟩ : PQ) (⟨q2, (GQ.i 0 0)⟩ : PQ) (n2) (n2) _ ⟨_, _, _, _, _, _, RP.mk (RI.ext (hS.num 5 rfl) hW) (RI.ext (hS.num 4 rfl) hW) (RI.ext (hS.num 3 rfl) hW) (RI.ext (hS.num 2 rfl) hW) (RI.ext (hS.num 1 rfl) hW) (RI.ext (hS.num 0 rfl) hW), I2, S2, (is_i 0 0), (sz_0 (n := n2) (by omega))⟩ ⟨_, _, _, _, _, _, RP.mk cl cn co cp cq cr, I2, S2, (is_i 0 0), (sz_0 (n := n2) (by omega))⟩ rfl).mono fun e w' ⟨he, hx⟩ => ⟨_, he, hx, rfl⟩⟩
    intro v_ eD eE hr_
    obtain ⟨W_, hW_⟩ := hr_
    obtain rfl : v_ = .bool true := hW_.get
    clear hW_ W_
    try simp only [Act.put, sa0, sa1, sa2]
    refine wpT_quiet 2 (by rfl) (by kernel_rfl) ?_
    simp only [tk1, tk0, dp1, dp0]
    repeat (go_big_quiet_step (fail))
    refine wpQuiet_nil ?_
    refine wpT_nil ?_
    intro bq hK
    have hlt_ := hS.lt
    replace hS := hS.mv hK.ext
    replace hS := hS.addI (show RI bq (iv ac a0 ad ae) aT from RP.at1 (hK.at_ 19 (e := ((pv ac a0 ad ae af a1 ag ah ai a2 aj ak am a3 an ao ap a4 aq ar au a5 av aw), aP, aQ)) (by rfl)))
    replace hS := hS.addI (show RI bq (iv af a1 ag ah) aU from RP.at2 (hK.at_ 19 (e := ((pv ac a0 ad ae af a1 ag ah ai a2 aj ak am a3 an ao ap a4 aq ar au a5 av aw), aP, aQ)) (by rfl)))
    replace hS := hS.addI (show RI bq (iv ai a2 aj ak) aV from RP.at3 (hK.at_ 19 (e := ((pv ac a0 ad ae af a1 ag ah ai a2 aj ak am a3 an ao ap a4 aq ar au a5 av aw), aP, aQ)) (by rfl)))
    replace hS := hS.addI (show RI bq (iv am a3 an ao) aW from RP.at4 (hK.at_ 19 (e := ((pv ac a0 ad ae af a1 ag ah ai a2 aj ak am a3 an ao ap a4 aq ar au a5 av aw), aP, aQ)) (by rfl)))
    replace hS := hS.addI (show RI bq (iv ap a4 aq ar) aX from RP.at5 (hK.at_ 19 (e := ((pv ac a0 ad ae af a1 ag ah ai a2 aj ak am a3 an ao ap a4 aq ar au a5 av aw), aP, aQ)) (by rfl)))
    replace hS := hS.addI (show RI bq (iv au a5 av aw) aY from RP.at6 (hK.at_ 19 (e := ((pv ac a0 ad ae af a1 ag ah ai a2 aj ak am a3 an ao ap a4 aq ar au a5 av aw), aP, aQ)) (by rfl)))
    replace hS := hS.addI (show RI bq (iv ax a6 ay az) dY from RP.at1 (hK.at_ 29 (e := ((pv ax a6 ay az aA a7 aB aC aD a8 aE aF aG a9 aH aI aJ aa aK aL aM ab aN aO), aR, aS)) (by rfl)))
    replace hS := hS.addI (show RI bq (iv aA a7 aB aC) dZ from RP.at2 (hK.at_ 29 (e := ((pv ax a6 ay az aA a7 aB aC aD a8 aE aF aG a9 aH aI aJ aa aK aL aM ab aN aO), aR, aS)) (by rfl)))
    replace hS := hS.addI (show RI bq (iv aD a8 aE aF) e0 from RP.at3 (hK.at_ 29 (e := ((pv ax a6 ay az aA a7 aB aC aD a8 aE aF aG a9 aH aI aJ aa aK aL aM ab aN aO), aR, aS)) (by rfl)))
    replace hS := hS.addI (show RI bq (iv aG a9 aH aI) (0 : Int) from RP.at4 (hK.at_ 29 (e := ((pv ax a6 ay az aA a7 aB aC aD a8 aE aF aG a9 aH aI aJ aa aK aL aM ab aN aO), aR, aS)) (by rfl)))
    replace hS := hS.addI (show RI bq (iv aJ aa aK aL) (0 : Int) from RP.at5 (hK.at_ 29 (e := ((pv ax a6 ay az aA a7 aB aC aD a8 aE aF aG a9 aH aI aJ aa aK aL aM ab aN aO), aR, aS)) (by rfl)))
    replace hS := hS.addI (show RI bq (iv aM ab aN aO) (1 : Int) from RP.at6 (hK.at_ 29 (e := ((pv ax a6 ay az aA a7 aB aC aD a8 aE aF aG a9 aH aI aJ aa aK aL aM ab aN aO), aR, aS)) (by rfl)))
    clear hK hlt_ hE_ Y11 Y9 Y5 Y3
    go_wp2
    go_ret
    exact ⟨ret_bool (rfl), hS.ext⟩

set_option maxRecDepth 100000 in
set_option maxHeartbeats 51200000 in
theorem phasors_vvb (v0 : Value) (q0 : PQ) (n0 : Nat) (v1 : Value) (q1 : PQ) (n1 : Nat) (bV : Bool) (bW : Option Addr) (b3 bX : Nat) (bY : Bool) (bZ : Option Addr) (b4 c0 : Nat) (c1 : Bool) (c2 : Option Addr) (b5 c3 : Nat) (w : World) (hX0 : PV w v0 q0 n0) (hX1 : PV w v1 q1 n1) (hV2 : VB w (gv bV bW b3 bX bY bZ b4 c0 c1 c2 b5 c3) false) (hn0 : n0 ≤ 1280) (hm0 : 1 ≤ n0) (hn1 : n1 ≤ 1280) (hm1 : 1 ≤ n1) (dA : b3 ≤ 40) (dB : b4 ≤ 40) (dC : b5 ≤ 40) (hTab : Tab w)
      :
    Calls Tryz.prog 7 #[v0, v1, gv bV bW b3 bX bY bZ b4 c0 c1 c2 b5 c3] w fun e w' => e = .returned (.bool true) ∧ Ext w w' := by
  have hS := St.start w
  obtain ⟨x0a, x0b, x0d, x0x, x0y, x0z, hX0, cX, c4, cY, c5⟩ := hX0
  obtain ⟨aF, aG, az, aH, aI, aJ, aA, aK, aL, aM, aB, aN, aO, aP, aC, aQ, aR, aS, aD, aT, aU, aV, aE, aW, rfl, d0, d1, d2, d3, d4, d5⟩ := hX0
  replace hS := hS.addI d0
  clear d0
  replace hS := hS.addI d1
  clear d1
  replace hS := hS.addI d2
  clear d2
  replace hS := hS.addI d3
  clear d3
  replace hS := hS.addI d4
  clear d4
  replace hS := hS.addI d5
  clear d5
  obtain ⟨x1a, x1b, x1d, x1x, x1y, x1z, hX1, d6, cc, d7, cd⟩ := hX1
  obtain ⟨b6, b7, aX, b8, b9, ba, aY, bb, bc, bd, aZ, be, bf, bg, b0, bh, bi, bj, b1, bk, bl, bm, b2, bn, rfl, d8, d9, da, db, dc, dd⟩ := hX1
  replace hS := hS.addI d8
  clear d8
  replace hS := hS.addI d9
  clear d9
  replace hS := hS.addI da
  clear da
  replace hS := hS.addI db
  clear db
  replace hS := hS.addI dc
  clear dc
  replace hS := hS.addI dd
  clear dd
  have HL : Hid ([az, aA, aB, aC, aD, aE, aX, aY, aZ, b0, b1, b2, b3, b4, b5].all (fun n => decide (n ≤ 40)) = true) := Lib.hid (by simp only [List.all_cons, List.all_nil, Bool.and_true, Bool.and_eq_true, decide_eq_true_eq]; exact ⟨RI.low (k := 40) (hS.num 11 rfl) c4.a (by omega), RI.low (k := 40) (hS.num 10 rfl) c4.b (by omega), RI.low (k := 40) (hS.num 9 rfl) c4.d (by omega), RI.low (k := 40) (hS.num 8 rfl) c5.a (by omega), RI.low (k := 40) (hS.num 7 rfl) c5.b (by omega), RI.low (k := 40) (hS.num 6 rfl) c5.d (by omega), RI.low (k := 40) (hS.num 5 rfl) cc.a (by omega), RI.low (k := 40) (hS.num 4 rfl) cc.b (by omega), RI.low (k := 40) (hS.num 3 rfl) cc.d (by omega), RI.low (k := 40) (hS.num 2 rfl) cd.a (by omega), RI.low (k := 40) (hS.num 1 rfl) cd.b (by omega), RI.low (k := 40) (hS.num 0 rfl) cd.d (by omega), dA, dB, dC⟩)
  have o3 : Own w w.heap.size := Own.of hS.ext (by simp)
  have o4 : Own w (w.heap.size + 1) := Own.of hS.ext (by simp)
  have o5 : Own w (w.heap.size + 2) := Own.of hS.ext (by simp)
  have dz := (St.al (St.al (St.al hS 37 #[.bool aF, .slice aG az aH, .bool aI, .slice aJ aA aK, .bool aL, .slice aM aB aN, .bool aO, .slice aP aC aQ, .bool aR, .slice aS aD aT, .bool aU, .slice aV aE aW] (g := w.heap.size) (by simp)) 37 #[.bool b6, .slice b7 aX b8, .bool b9, .slice ba aY bb, .bool bc, .slice bd aZ be, .bool bf, .slice bg b0 bh, .bool bi, .slice bj b1 bk, .bool bl, .slice bm b2 bn] (g := (w.heap.size + 1)) (by simp)) 26 #[.bool bV, .slice bW b3 bX, .bool bY, .slice bZ b4 c0, .bool c1, .slice c2 b5 c3] (g := (w.heap.size + 2)) (by simp))
  have k_1 := (dz.blk 2 rfl).cell
  have k_2 := (dz.blk 1 rfl).cell
  have k_3 := (dz.blk 0 rfl).cell
  have o25 : Own w (w.heap.size + 3) := Own.of hS.ext (by simp)
  go_enter Tryz.func7, Tryz.ntmps7
  go_wp2_with fail
  clear k_1 k_2 k_3
  clear dz
  replace hS := (St.al (St.al (St.al (St.al hS 37 #[.bool aF, .slice aG az aH, .bool aI, .slice aJ aA aK, .bool aL, .slice aM aB aN, .bool aO, .slice aP aC aQ, .bool aR, .slice aS aD aT, .bool aU, .slice aV aE aW] (g := w.heap.size) (by simp)) 37 #[.bool b6, .slice b7 aX b8, .bool b9, .slice ba aY bb, .bool bc, .slice bd aZ be, .bool bf, .slice bg b0 bh, .bool bi, .slice bj b1 bk, .bool bl, .slice bm b2 bn] (g := (w.heap.size + 1)) (by simp)) 26 #[.bool bV, .slice bW b3 bX, .bool bY, .slice bZ b4 c0, .bool c1, .slice c2 b5 c3] (g := (w.heap.size + 2)) (by simp)) 26 #[.bool aF, .slice aG az aH, .bool aI, .slice aJ aA aK, .bool aL, .slice aM aB aN, .bool aO, .slice aP aC aQ, .bool aR, .slice aS aD aT, .bool aU, .slice aV aE aW, .bool b6, .slice b7 aX b8, .bool b9, .slice ba aY bb, .bool bc, .slice bd aZ be, .bool bf, .slice bg b0 bh, .bool bi, .slice bj b1 bk, .bool bl, .slice bm b2 bn, .bool bV, .slice bW b3 bX, .bool bY, .slice bZ b4 c0, .bool c1, .slice c2 b5 c3] (g := (w.heap.size + 3)) (by simp))
  generalize ((((w.alloc (.cells #[.bool aF, .slice aG az aH, .bool aI, .slice aJ aA aK, .bool aL, .slice aM aB aN, .bool aO, .slice aP aC aQ, .bool aR, .slice aS aD aT, .bool aU, .slice aV aE aW] 37)).alloc (.cells #[.bool b6, .slice b7 aX b8, .bool b9, .slice ba aY bb, .bool bc, .slice bd aZ be, .bool bf, .slice bg b0 bh, .bool bi, .slice bj b1 bk, .bool bl, .slice bm b2 bn] 37)).alloc (.cells #[.bool bV, .slice bW b3 bX, .bool bY, .slice bZ b4 c0, .bool c1, .slice c2 b5 c3] 26)).alloc (.cells #[.bool aF, .slice aG az aH, .bool aI, .slice aJ aA aK, .bool aL, .slice aM aB aN, .bool aO, .slice aP aC aQ, .bool aR, .slice aS aD aT, .bool aU, .slice aV aE aW, .bool b6, .slice b7 aX b8, .bool b9, .slice ba aY bb, .bool bc, .slice bd aZ be, .bool bf, .slice bg b0 bh, .bool bi, .slice bj b1 bk, .bool bl, .slice bm b2 bn, .bool bV, .slice bW b3 bX, .bool bY, .slice bZ b4 c0, .bool c1, .slice c2 b5 c3] 26)) = w1 at hS ⊢
  generalize w.heap.size + 3 = g25 at hS o25 ⊢
  generalize w.heap.size + 2 = g5 at hS o5 ⊢
  generalize w.heap.size + 1 = g4 at hS o4 ⊢
  generalize w.heap.size = g3 at hS o3 ⊢
  refine (low5_raw g25 40 true _ (hS.blk 0 rfl) HL.out).mono ?_
  rintro e w2 ⟨rfl, hx_⟩
  replace hS := hS.mv hx_
  clear hx_
  have k_4 := (hS.blk 3 rfl).cell
  have k_5 := (hS.blk 2 rfl).cell
  go_wp2_with fail
  clear k_4 k_5
  obtain ⟨dD, dE, dF, ck⟩ := is_ex ((q0 + q1)).u
  obtain ⟨dG, dH, dI, cl⟩ := is_ex ((q0 + q1)).v
  have dJ : Sz (n0 + n1 + 65) dD dE dF := (Bd.mono (Bd.add (x := q0.u) (y := q1.u) (m := n0) (n := n1) ⟨_, _, _, cX, c4⟩ ⟨_, _, _, d6, cc⟩) (by omega)).sz ck
  have dK : Sz (n0 + n1 + 65) dG dH dI := (Bd.mono (Bd.add (x := q0.v) (y := q1.v) (m := n0) (n := n1) ⟨_, _, _, cY, c5⟩ ⟨_, _, _, d7, cd⟩) (by omega)).sz cl
  refine (toTP (xSum_ok _ q0 (n0) _ q1 (n1) _ ⟨_, _, _, _, _, _, RP.mk (hS.num 11 rfl) (hS.num 10 rfl) (hS.num 9 rfl) (hS.num 8 rfl) (hS.num 7 rfl) (hS.num 6 rfl), cX, c4, cY, c5⟩ ⟨_, _, _, _, _, _, RP.mk (hS.num 5 rfl) (hS.num 4 rfl) (hS.num 3 rfl) (hS.num 2 rfl) (hS.num 1 rfl) (hS.num 0 rfl), d6, cc, d7, cd⟩ (by omega)) ck cl).mono ?_
  rintro e w3 ⟨v_, rfl, hv_, hx_⟩
  replace hS := hS.mv hx_
  clear hx_
  obtain ⟨_, rfl, cn, bo, co, cp, cq, bp, cr, cs, ct, bq, cu, cv, cw, br, cx, cy, cz, bs, cA, cB, cC, bt, cD, cE, rfl, bu, bv, bw, bx, bz, bA⟩ := hv_
  replace hS := hS.addI bu
  clear bu
  replace hS := hS.addI bv
  clear bv
  replace hS := hS.addI bw
  clear bw
  replace hS := hS.addI bx
  clear bx
  replace hS := hS.addI bz
  clear bz
  replace hS := hS.addI bA
  clear bA
  have o7 : Own w w3.heap.size := Own.of hS.ext (by simp)
  have dL := (St.al hS 37 #[.bool false, .slice none 0 0, .bool false, .slice none 0 0, .bool false, .slice none 0 0, .bool false, .slice none 0 0, .bool false, .slice none 0 0, .bool false, .slice none 0 0] (g := w3.heap.size) (by simp))
  have k_6 := (dL.blk 0 rfl).cell
  have k_7 := (dL.blk 0 rfl).frozen
  have dM := (St.al hS 37 #[.bool cn, .slice bo co cp, .bool cq, .slice bp cr cs, .bool ct, .slice bq cu cv, .bool cw, .slice br cx cy, .bool cz, .slice bs cA cB, .bool cC, .slice bt cD cE] (g := w3.heap.size) (by simp))
  have k_8 := (dM.blk 4 rfl).cell
  have k_9 := (dM.blk 2 rfl).cell
  go_wp2_with fail
  clear k_6 k_7 k_8 k_9
  clear dL dM
  replace hS := (St.al hS 37 #[.bool cn, .slice bo co cp, .bool cq, .slice bp cr cs, .bool ct, .slice bq cu cv, .bool cw, .slice br cx cy, .bool cz, .slice bs cA cB, .bool cC, .slice bt cD cE] (g := w3.heap.size) (by simp))
  generalize (w3.alloc (.cells #[.bool cn, .slice bo co cp, .bool cq, .slice bp cr cs, .bool ct, .slice bq cu cv, .bool cw, .slice br cx cy, .bool cz, .slice bs cA cB, .bool cC, .slice bt cD cE] 37)) = w4 at hS ⊢
  generalize w3.heap.size = g7 at hS o7 ⊢
  refine (xTimes_bad aF aG az aH aI aJ aA aK aL aM aB aN aO aP aC aQ aR aS aD aT aU aV aE aW true true bV bW b3 bX bY bZ b4 c0 c1 c2 b5 c3 false _ (GV.vb (q := q0.u) (n := n0) ⟨_, _, _, RG.mk (hS.num 17 rfl) (hS.num 16 rfl) (hS.num 15 rfl), cX, c4⟩ (by omega)) (GV.vb (q := q0.v) (n := n0) ⟨_, _, _, RG.mk (hS.num 14 rfl) (hS.num 13 rfl) (hS.num 12 rfl), cY, c5⟩ (by omega)) (hV2.ext hS.ext) (Lib.hid rfl)).mono ?_
  rintro e w5 ⟨v_, rfl, hv_, hx_⟩
  replace hS := hS.mv hx_
  clear hx_
  obtain ⟨_, rfl, cF, bB, cG, cH, cI, bC, cJ, cK, cL, bD, cM, cN, cO, bE, cP, cQ, cR, bF, cS, cT, cU, bG, cV, cW, rfl, bH, bI, bJ, bK, bL, bM⟩ := hv_
  replace hS := hS.addI bH
  clear bH
  replace hS := hS.addI bI
  clear bI
  replace hS := hS.addI bJ
  clear bJ
  replace hS := hS.addI bK
  clear bK
  replace hS := hS.addI bL
  clear bL
  replace hS := hS.addI bM
  clear bM
  have o9 : Own w w5.heap.size := Own.of hS.ext (by simp)
  have dN := (St.al hS 37 #[.bool false, .slice none 0 0, .bool false, .slice none 0 0, .bool false, .slice none 0 0, .bool false, .slice none 0 0, .bool false, .slice none 0 0, .bool false, .slice none 0 0] (g := w5.heap.size) (by simp))
  have dO := (dN.blk 0 rfl).cell
  have dP := (dN.blk 0 rfl).frozen
  have dU := (St.al hS 37 #[.bool cF, .slice bB cG cH, .bool cI, .slice bC cJ cK, .bool cL, .slice bD cM cN, .bool cO, .slice bE cP cQ, .bool cR, .slice bF cS cT, .bool cU, .slice bG cV cW] (g := w5.heap.size) (by simp))
  have dQ := (dU.blk 3 rfl).cell
  go_wp2_with fail
  clear dO dP dQ
  clear dN dU
  replace hS := (St.al hS 37 #[.bool cF, .slice bB cG cH, .bool cI, .slice bC cJ cK, .bool cL, .slice bD cM cN, .bool cO, .slice bE cP cQ, .bool cR, .slice bF cS cT, .bool cU, .slice bG cV cW] (g := w5.heap.size) (by simp))
  generalize (w5.alloc (.cells #[.bool cF, .slice bB cG cH, .bool cI, .slice bC cJ cK, .bool cL, .slice bD cM cN, .bool cO, .slice bE cP cQ, .bool cR, .slice bF cS cT, .bool cU, .slice bG cV cW] 37)) = w6 at hS ⊢
  generalize w5.heap.size = g9 at hS o9 ⊢
  refine (xPlain_bad bV bW b3 bX bY bZ b4 c0 c1 c2 b5 c3 _ (hV2.ext hS.ext)).mono ?_
  rintro e w7 ⟨v_, rfl, hv_, hx_⟩
  replace hS := hS.mv hx_
  clear hx_
  obtain ⟨_, rfl, de, ce, df, dg, dh, cf, di, dj, dk, cg, dl, dm, dn, ch, dp, dq, dr, ci, ds, dt, du, cj, dv, dw, rfl, bN, bO, bP, bQ, bR, bS⟩ := hv_
  replace hS := hS.addI bN
  clear bN
  replace hS := hS.addI bO
  clear bO
  replace hS := hS.addI bP
  clear bP
  replace hS := hS.addI bQ
  clear bQ
  replace hS := hS.addI bR
  clear bR
  replace hS := hS.addI bS
  clear bS
  have o11 : Own w w7.heap.size := Own.of hS.ext (by simp)
  have dR := (St.al hS 37 #[.bool false, .slice none 0 0, .bool false, .slice none 0 0, .bool false, .slice none 0 0, .bool false, .slice none 0 0, .bool false, .slice none 0 0, .bool false, .slice none 0 0] (g := w7.heap.size) (by simp))
  have dS := (dR.blk 0 rfl).cell
  have dT := (dR.blk 0 rfl).frozen
  go_wp2_with fail
  clear dS dT
  clear dR
  replace hS := (St.al hS 37 #[.bool de, .slice ce df dg, .bool dh, .slice cf di dj, .bool dk, .slice cg dl dm, .bool dn, .slice ch dp dq, .bool dr, .slice ci ds dt, .bool du, .slice cj dv dw] (g := w7.heap.size) (by simp))
  generalize (w7.alloc (.cells #[.bool de, .slice ce df dg, .bool dh, .slice cf di dj, .bool dk, .slice cg dl dm, .bool dn, .slice ch dp dq, .bool dr, .slice ci ds dt, .bool du, .slice cj dv dw] 37)) = w8 at hS ⊢
  generalize w7.heap.size = g11 at hS o11 ⊢
  go_wp2_with fail
  have Y5 := ExtOf.blk (hS.blk 4 rfl)
  have Y4 := ExtOf.blk (hS.blk 5 rfl)
  have Y3 := ExtOf.blk (hS.blk 6 rfl)
  have hE_ := hS.ext
  refine wp_region_tame 20 (hasF [(2, .any), (6, .any), (10, .any), (14, .any), (17, .any)]) (Fcs [(2, .eq (.bool true)), (6, .eq (.bool true)), (10, .eq (.bool true)), (14, .eq (.bool true)), (17, .eq (.bool false))]) (Fcs_stab _) (by kernel_rfl) (by kernel_rfl) ?_
  simp only [tk1, tk0, dp1, dp0]
  refine wpT_quiet 2 (by rfl) (by kernel_rfl) ?_
  simp only [tk1, tk0, dp1, dp0]
  repeat (go_big_quiet_step (fail))
  refine wpQuiet_nil ?_
  refine wpT_eff (by rfl) (by rfl) (by rfl) ?_ ?_
  · intro W_ hK
    have hW := hK.1
    clear hK
    go_simp
    exact ⟨rfl, (qValid_gv _ q0.u (n0) _ ⟨_, _, _, RG.mk (RI.ext (hS.num 29 rfl) hW) (RI.ext (hS.num 28 rfl) hW) (RI.ext (hS.num 27 rfl) hW), cX, c4⟩ (by omega)).mono fun e w' ⟨he, hx⟩ => ⟨_, he, hx, rfl⟩⟩
  intro v_ lo48 hi48 hr_
  obtain ⟨W_, hW_⟩ := hr_
  obtain rfl : v_ = .bool true := hW_.get
  clear hW_ W_
  try simp only [Act.put, sa0, sa1, sa2]
  refine wpT_quiet 3 (by rfl) (by kernel_rfl) ?_
  simp only [tk1, tk0, dp1, dp0]
  repeat (go_big_quiet_step (fail))
  refine wpQuiet_nil ?_
  refine wpT_eff (by rfl) (by rfl) (by rfl) ?_ ?_
  · intro W_ hK
    have hW := hK.1
    clear hK
    go_simp
    exact ⟨rfl, (qValid_gv _ q0.v (n0) _ ⟨_, _, _, RG.mk (RI.ext (hS.num 26 rfl) hW) (RI.ext (hS.num 25 rfl) hW) (RI.ext (hS.num 24 rfl) hW), cY, c5⟩ (by omega)).mono fun e w' ⟨he, hx⟩ => ⟨_, he, hx, rfl⟩⟩
  intro v_ lo52 hi52 hr_
  obtain ⟨W_, hW_⟩ := hr_
  obtain rfl : v_ = .bool true := hW_.get
  clear hW_ W_
  try simp only [Act.put, sa0, sa1, sa2]
  refine wpT_quiet 3 (by rfl) (by kernel_rfl) ?_
  simp only [tk1, tk0, dp1, dp0]
  repeat (go_big_quiet_step (fail))
  refine wpQuiet_nil ?_
  refine wpT_eff (by rfl) (by rfl) (by rfl) ?_ ?_
  · intro W_ hK
    have hW := hK.1
    clear hK
    go_simp
    exact ⟨rfl, (qValid_gv _ q1.u (n1) _ ⟨_, _, _, RG.mk (RI.ext (hS.num 23 rfl) hW) (RI.ext (hS.num 22 rfl) hW) (RI.ext (hS.num 21 rfl) hW), d6, cc⟩ (by omega)).mono fun e w' ⟨he, hx⟩ => ⟨_, he, hx, rfl⟩⟩
  intro v_ lo56 hi56 hr_
  obtain ⟨W_, hW_⟩ := hr_
  obtain rfl : v_ = .bool true := hW_.get
  clear hW_ W_
  try simp only [Act.put, sa0, sa1, sa2]
  refine wpT_quiet 3 (by rfl) (by kernel_rfl) ?_
  simp only [tk1, tk0, dp1, dp0]
  repeat (go_big_quiet_step (fail))
  refine wpQuiet_nil ?_
  refine wpT_eff (by rfl) (by rfl) (by rfl) ?_ ?_
  · intro W_ hK
    have hW := hK.1
    clear hK
    go_simp
    exact ⟨rfl, (qValid_gv _ q1.v (n1) _ ⟨_, _, _, RG.mk (RI.ext (hS.num 20 rfl) hW) (RI.ext (hS.num 19 rfl) hW) (RI.ext (hS.num 18 rfl) hW), d7, cd⟩ (by omega)).mono fun e w' ⟨he, hx⟩ => ⟨_, he, hx, rfl⟩⟩
  intro v_ lo60 hi60 hr_
  obtain ⟨W_, hW_⟩ := hr_
  obtain rfl : v_ = .bool true := hW_.get
  clear hW_ W_
  try simp only [Act.put, sa0, sa1, sa2]
  refine wpT_quiet 2 (by rfl) (by kernel_rfl) ?_
  simp only [tk1, tk0, dp1, dp0]
  repeat (go_big_quiet_step (fail))
  refine wpQuiet_nil ?_
  refine wpT_eff (by rfl) (by rfl) (by rfl) ?_ ?_
  · intro W_ hK
    have hW := hK.1
    clear hK
    go_simp
    exact ⟨rfl, (VB.q (hV2.ext (hE_.trans hW))).mono fun e w' ⟨he, hx⟩ => ⟨_, he, hx, rfl⟩⟩
  intro v_ lo63 hi63 hr_
  obtain ⟨W_, hW_⟩ := hr_
  obtain rfl : v_ = .bool false := hW_.get
  clear hW_ W_
  try simp only [Act.put, sa0, sa1, sa2]
  refine wpT_quiet 2 (by rfl) (by kernel_rfl) ?_
  simp only [tk1, tk0, dp1, dp0]
  repeat (go_big_quiet_step (fail))
  refine wpQuiet_nil ?_
  refine wpT_nil ?_
  intro w9 hK
  have hlt_ := hS.lt
  replace hS := hS.mv hK.ext
  clear hK hlt_ hE_ Y5 Y4 Y3
  go_wp2_with fail
  obtain ⟨ar, au, av, bT⟩ := is_ex ((q0 + q1)).u
  obtain ⟨aw, ax, ay, bU⟩ := is_ex ((q0 + q1)).v
  have dx : Sz (n0 + n1 + 1) ar au av := (Bd.mono (Bd.add (x := q0.u) (y := q1.u) (m := n0) (n := n1) ⟨_, _, _, cX, c4⟩ ⟨_, _, _, d6, cc⟩) (by omega)).sz bT
  have dy : Sz (n0 + n1 + 1) aw ax ay := (Bd.mono (Bd.add (x := q0.v) (y := q1.v) (m := n0) (n := n1) ⟨_, _, _, cY, c5⟩ ⟨_, _, _, d7, cd⟩) (by omega)).sz bU
  have Y7 := ExtOf.blk (hS.blk 2 rfl)
  have Y4 := ExtOf.blk (hS.blk 5 rfl)
  have Y3 := ExtOf.blk (hS.blk 6 rfl)
  have hE_ := hS.ext
  refine wp_region_tame 33 (hasF [(0, .any), (8, .any), (9, .any)]) (Fcs [(0, .eq (.bool true)), (8, .rp (ar) (au) (av) (aw) (ax) (ay)), (9, .eq (.bool true))]) (Fcs_stab _) (by kernel_rfl) (by kernel_rfl) ?_
  simp only [tk1, tk0, dp1, dp0]
  refine wpT_eff (by rfl) (by rfl) (by rfl) ?_ ?_
  · intro W_ hK
    have hW := hK.1
    clear hK
    go_simp
    exact ⟨rfl, (lxknown_ok _ (tab_ext hTab (hE_.trans hW))).mono fun e w' ⟨he, hx⟩ => ⟨_, he, hx, rfl⟩⟩
  intro v_ dV dW hr_
  obtain ⟨W_, hW_⟩ := hr_
  obtain rfl : v_ = .bool true := hW_.get
  clear hW_ W_
  try simp only [Act.put, sa0, sa1, sa2]
  refine wpT_quiet 7 (by rfl) (by kernel_rfl) ?_
  simp only [tk1, tk0, dp1, dp0]
  repeat (go_big_quiet_step (fail))
  refine wpQuiet_nil ?_
  refine wpT_eff (by rfl) (by rfl) (by rfl) ?_ ?_
  · intro W_ hK
    have hW := hK.1
    clear hK
    go_simp
    exact ⟨rfl, (toRP (qSum_w _ q0 (n0) _ q1 (n1) _ ⟨_, _, _, _, _, _, RP.mk (RI.ext (hS.num 29 rfl) hW) (RI.ext (hS.num 28 rfl) hW) (RI.ext (hS.num 27 rfl) hW) (RI.ext (hS.num 26 rfl) hW) (RI.ext (hS.num 25 rfl) hW) (RI.ext (hS.num 24 rfl) hW), cX, c4, cY, c5⟩ ⟨_, _, _, _, _, _, RP.mk (RI.ext (hS.num 23 rfl) hW) (RI.ext (hS.num 22 rfl) hW) (RI.ext (hS.num 21 rfl) hW) (RI.ext (hS.num 20 rfl) hW) (RI.ext (hS.num 19 rfl) hW) (RI.ext (hS.num 18 rfl) hW), d6, cc, d7, cd⟩ (by omega)) bT bU).mono fun e w' ⟨v, he, hR, hx⟩ => ⟨v, he, hx, hR⟩⟩
  intro v_ ap aq hr_
  obtain ⟨W_, hW_⟩ := hr_
  have hv_ : Fc.holds (.rp (ar) (au) (av) (aw) (ax) (ay)) ap aq v_ W_ := hW_.get
  clear hW_
  obtain ⟨a6, a0, a7, a8, a9, a1, aa, ab, ac, a2, ad, ae, af, a3, ag, ah, ai, a4, aj, ak, am, a5, an, ao, rfl, -, -, -, -, -, -⟩ := hv_
  clear W_
  try simp only [Act.put, sa0, sa1, sa2]
  refine wpT_eff (by rfl) (by rfl) (by rfl) ?_ ?_
  · intro W_ hK
    have hW := hK.1
    have c6 : RI W_ (iv a6 a0 a7 a8) ar := RP.at1 (hK.2 8 ((pv a6 a0 a7 a8 a9 a1 aa ab ac a2 ad ae af a3 ag ah ai a4 aj ak am a5 an ao), ap, aq) (by rfl) (anc_of (by kernel_rfl)))
    have c7 : RI W_ (iv a9 a1 aa ab) au := RP.at2 (hK.2 8 ((pv a6 a0 a7 a8 a9 a1 aa ab ac a2 ad ae af a3 ag ah ai a4 aj ak am a5 an ao), ap, aq) (by rfl) (anc_of (by kernel_rfl)))
    have c8 : RI W_ (iv ac a2 ad ae) av := RP.at3 (hK.2 8 ((pv a6 a0 a7 a8 a9 a1 aa ab ac a2 ad ae af a3 ag ah ai a4 aj ak am a5 an ao), ap, aq) (by rfl) (anc_of (by kernel_rfl)))
    have c9 : RI W_ (iv af a3 ag ah) aw := RP.at4 (hK.2 8 ((pv a6 a0 a7 a8 a9 a1 aa ab ac a2 ad ae af a3 ag ah ai a4 aj ak am a5 an ao), ap, aq) (by rfl) (anc_of (by kernel_rfl)))
    have ca : RI W_ (iv ai a4 aj ak) ax := RP.at5 (hK.2 8 ((pv a6 a0 a7 a8 a9 a1 aa ab ac a2 ad ae af a3 ag ah ai a4 aj ak am a5 an ao), ap, aq) (by rfl) (anc_of (by kernel_rfl)))
    have cb : RI W_ (iv am a5 an ao) ay := RP.at6 (hK.2 8 ((pv a6 a0 a7 a8 a9 a1 aa ab ac a2 ad ae af a3 ag ah ai a4 aj ak am a5 an ao), ap, aq) (by rfl) (anc_of (by kernel_rfl)))
    clear hK
    go_simp
    exact ⟨rfl, (qSamePhasor_q _ _ (q0 + q1) (q0 + q1) (n0 + n1 + 65) (n0 + n1 + 1) _ ⟨_, _, _, _, _, _, RP.mk (RI.ext (hS.num 17 rfl) hW) (RI.ext (hS.num 16 rfl) hW) (RI.ext (hS.num 15 rfl) hW) (RI.ext (hS.num 14 rfl) hW) (RI.ext (hS.num 13 rfl) hW) (RI.ext (hS.num 12 rfl) hW), ck, dJ, cl, dK⟩ ⟨_, _, _, _, _, _, RP.mk c6 c7 c8 c9 ca cb, bT, dx, bU, dy⟩ rfl).mono fun e w' ⟨he, hx⟩ => ⟨_, he, hx, rfl⟩⟩
  intro v_ dX dY hr_
  obtain ⟨W_, hW_⟩ := hr_
  obtain rfl : v_ = .bool true := hW_.get
  clear hW_ W_
  try simp only [Act.put, sa0, sa1, sa2]
  refine wpT_quiet 9 (by rfl) (by kernel_rfl) ?_
  simp only [tk1, tk0, dp1, dp0]
  repeat (go_big_quiet_step (fail))
  refine wpQuiet_nil ?_
  refine wpT_skip (by rfl) (by rfl) ?_
  try simp only [Act.put, sa0, sa1, sa2]
  refine wpT_skip (by rfl) (by rfl) ?_
  try simp only [Act.put, sa0, sa1, sa2]
  refine wpT_quiet 8 (by rfl) (by kernel_rfl) ?_
  simp only [tk1, tk0, dp1, dp0]
  repeat (go_big_quiet_step (fail))
  refine wpQuiet_nil ?_
  refine wpT_skip (by rfl) (by rfl) ?_
  try simp only [Act.put, sa0, sa1, sa2]
  refine wpT_skip (by rfl) (by rfl) ?_
  try simp only [Act.put, sa0, sa1, sa2]
  refine wpT_quiet 2 (by rfl) (by kernel_rfl) ?_
  simp only [tk1, tk0, dp1, dp0]
  repeat (go_big_quiet_step (fail))
  refine wpQuiet_nil ?_
  refine wpT_nil ?_
  intro cZ hK
  have hlt_ := hS.lt
  replace hS := hS.mv hK.ext
  replace hS := hS.addI (show RI cZ (iv a6 a0 a7 a8) ar from RP.at1 (hK.at_ 8 (e := ((pv a6 a0 a7 a8 a9 a1 aa ab ac a2 ad ae af a3 ag ah ai a4 aj ak am a5 an ao), ap, aq)) (by rfl)))
  replace hS := hS.addI (show RI cZ (iv a9 a1 aa ab) au from RP.at2 (hK.at_ 8 (e := ((pv a6 a0 a7 a8 a9 a1 aa ab ac a2 ad ae af a3 ag ah ai a4 aj ak am a5 an ao), ap, aq)) (by rfl)))
  replace hS := hS.addI (show RI cZ (iv ac a2 ad ae) av from RP.at3 (hK.at_ 8 (e := ((pv a6 a0 a7 a8 a9 a1 aa ab ac a2 ad ae af a3 ag ah ai a4 aj ak am a5 an ao), ap, aq)) (by rfl)))
  replace hS := hS.addI (show RI cZ (iv af a3 ag ah) aw from RP.at4 (hK.at_ 8 (e := ((pv a6 a0 a7 a8 a9 a1 aa ab ac a2 ad ae af a3 ag ah ai a4 aj ak am a5 an ao), ap, aq)) (by rfl)))
  replace hS := hS.addI (show RI cZ (iv ai a4 aj ak) ax from RP.at5 (hK.at_ 8 (e := ((pv a6 a0 a7 a8 a9 a1 aa ab ac a2 ad ae af a3 ag ah ai a4 aj ak am a5 an ao), ap, aq)) (by rfl)))
  replace hS := hS.addI (show RI cZ (iv am a5 an ao) ay from RP.at6 (hK.at_ 8 (e := ((pv a6 a0 a7 a8 a9 a1 aa ab ac a2 ad ae af a3 ag ah ai a4 aj ak am a5 an ao), ap, aq)) (by rfl)))
  clear hK hlt_ hE_ Y7 Y4 Y3
  go_wp2
  go_ret
  exact ⟨ret_bool (rfl), hS.ext⟩

set_option maxRecDepth 100000 in
set_option maxHeartbeats 51200000 in
theorem phasors_vvv (v0 : Value) (q0 : PQ) (n0 : Nat) (v1 : Value) (q1 : PQ) (n1 : Nat) (v2 : Value) (q2 : GQ) (n2 : Nat) (w : World) (hX0 : PV w v0 q0 n0) (hX1 : PV w v1 q1 n1) (hX2 : GV w v2 q2 n2) (hn0 : n0 ≤ 1280) (hm0 : 1 ≤ n0) (hn1 : n1 ≤ 1280) (hm1 : 1 ≤ n1) (hn2 : n2 ≤ 1280) (hm2 : 1 ≤ n2) (hTab : Tab w)
      :
    Calls Tryz.prog 7 #[v0, v1, v2] w fun e w' => e = .returned (.bool true) ∧ Ext w w' := by
  have hS := St.start w
  obtain ⟨x0a, x0b, x0d, x0x, x0y, x0z, hX0, d6, bM, d7, bN⟩ := hX0
  obtain ⟨bO, bP, bw, bQ, bR, bS, bx, bT, bU, bV, bz, bW, bX, bY, bA, bZ, c0, c1, bB, c2, c3, c4, bC, c5, rfl, ed, ee, ef, eg, eh, ei⟩ := hX0
  replace hS := hS.addI ed
  clear ed
  replace hS := hS.addI ee
  clear ee
  replace hS := hS.addI ef
  clear ef
  replace hS := hS.addI eg
  clear eg
  replace hS := hS.addI eh
  clear eh
  replace hS := hS.addI ei
  clear ei
  obtain ⟨x1a, x1b, x1d, x1x, x1y, x1z, hX1, ej, dr, ek, ds⟩ := hX1
  obtain ⟨c6, c7, bD, c8, c9, ca, bE, cb, cc, cd, bF, ce, cf, cg, bG, ch, ci, cj, bH, ck, cl, cn, bI, co, rfl, el, em, en, eo, ep, er⟩ := hX1
  replace hS := hS.addI el
  clear el
  replace hS := hS.addI em
  clear em
  replace hS := hS.addI en
  clear en
  replace hS := hS.addI eo
  clear eo
  replace hS := hS.addI ep
  clear ep
  replace hS := hS.addI er
  clear er
  obtain ⟨eR, eS, eT, hX2, I2, S2⟩ := hX2
  obtain ⟨cp, cq, bJ, cr, cs, ct, bK, cu, cv, cw, bL, cx, rfl, es, et, eu⟩ := hX2
  replace hS := hS.addI es
  clear es
  replace hS := hS.addI et
  clear et
  replace hS := hS.addI eu
  clear eu
  have HL : Hid ([bw, bx, bz, bA, bB, bC, bD, bE, bF, bG, bH, bI, bJ, bK, bL].all (fun n => decide (n ≤ 40)) = true) := Lib.hid (by simp only [List.all_cons, List.all_nil, Bool.and_true, Bool.and_eq_true, decide_eq_true_eq]; exact ⟨RI.low (k := 40) (hS.num 14 rfl) bM.a (by omega), RI.low (k := 40) (hS.num 13 rfl) bM.b (by omega), RI.low (k := 40) (hS.num 12 rfl) bM.d (by omega), RI.low (k := 40) (hS.num 11 rfl) bN.a (by omega), RI.low (k := 40) (hS.num 10 rfl) bN.b (by omega), RI.low (k := 40) (hS.num 9 rfl) bN.d (by omega), RI.low (k := 40) (hS.num 8 rfl) dr.a (by omega), RI.low (k := 40) (hS.num 7 rfl) dr.b (by omega), RI.low (k := 40) (hS.num 6 rfl) dr.d (by omega), RI.low (k := 40) (hS.num 5 rfl) ds.a (by omega), RI.low (k := 40) (hS.num 4 rfl) ds.b (by omega), RI.low (k := 40) (hS.num 3 rfl) ds.d (by omega), RI.low (k := 40) (hS.num 2 rfl) S2.a (by omega), RI.low (k := 40) (hS.num 1 rfl) S2.b (by omega), RI.low (k := 40) (hS.num 0 rfl) S2.d (by omega)⟩)
  have o3 : Own w w.heap.size := Own.of hS.ext (by simp)
  have o4 : Own w (w.heap.size + 1) := Own.of hS.ext (by simp)
  have o5 : Own w (w.heap.size + 2) := Own.of hS.ext (by simp)
  have eU := (St.al (St.al (St.al hS 37 #[.bool bO, .slice bP bw bQ, .bool bR, .slice bS bx bT, .bool bU, .slice bV bz bW, .bool bX, .slice bY bA bZ, .bool c0, .slice c1 bB c2, .bool c3, .slice c4 bC c5] (g := w.heap.size) (by simp)) 37 #[.bool c6, .slice c7 bD c8, .bool c9, .slice ca bE cb, .bool cc, .slice cd bF ce, .bool cf, .slice cg bG ch, .bool ci, .slice cj bH ck, .bool cl, .slice cn bI co] (g := (w.heap.size + 1)) (by simp)) 26 #[.bool cp, .slice cq bJ cr, .bool cs, .slice ct bK cu, .bool cv, .slice cw bL cx] (g := (w.heap.size + 2)) (by simp))
  have k_1 := (eU.blk 2 rfl).cell
  have k_2 := (eU.blk 1 rfl).cell
  have k_3 := (eU.blk 0 rfl).cell
  have o25 : Own w (w.heap.size + 3) := Own.of hS.ext (by simp)
  go_enter Tryz.func7, Tryz.ntmps7
  go_wp2_with fail
  clear k_1 k_2 k_3
  clear eU
  replace hS := (St.al (St.al (St.al (St.al hS 37 #[.bool bO, .slice bP bw bQ, .bool bR, .slice bS bx bT, .bool bU, .slice bV bz bW, .bool bX, .slice bY bA bZ, .bool c0, .slice c1 bB c2, .bool c3, .slice c4 bC c5] (g := w.heap.size) (by simp)) 37 #[.bool c6, .slice c7 bD c8, .bool c9, .slice ca bE cb, .bool cc, .slice cd bF ce, .bool cf, .slice cg bG ch, .bool ci, .slice cj bH ck, .bool cl, .slice cn bI co] (g := (w.heap.size + 1)) (by simp)) 26 #[.bool cp, .slice cq bJ cr, .bool cs, .slice ct bK cu, .bool cv, .slice cw bL cx] (g := (w.heap.size + 2)) (by simp)) 26 #[.bool bO, .slice bP bw bQ, .bool bR, .slice bS bx bT, .bool bU, .slice bV bz bW, .bool bX, .slice bY bA bZ, .bool c0, .slice c1 bB c2, .bool c3, .slice c4 bC c5, .bool c6, .slice c7 bD c8, .bool c9, .slice ca bE cb, .bool cc, .slice cd bF ce, .bool cf, .slice cg bG ch, .bool ci, .slice cj bH ck, .bool cl, .slice cn bI co, .bool cp, .slice cq bJ cr, .bool cs, .slice ct bK cu, .bool cv, .slice cw bL cx] (g := (w.heap.size + 3)) (by simp))
  generalize ((((w.alloc (.cells #[.bool bO, .slice bP bw bQ, .bool bR, .slice bS bx bT, .bool bU, .slice bV bz bW, .bool bX, .slice bY bA bZ, .bool c0, .slice c1 bB c2, .bool c3, .slice c4 bC c5] 37)).alloc (.cells #[.bool c6, .slice c7 bD c8, .bool c9, .slice ca bE cb, .bool cc, .slice cd bF ce, .bool cf, .slice cg bG ch, .bool ci, .slice cj bH ck, .bool cl, .slice cn bI co] 37)).alloc (.cells #[.bool cp, .slice cq bJ cr, .bool cs, .slice ct bK cu, .bool cv, .slice cw bL cx] 26)).alloc (.cells #[.bool bO, .slice bP bw bQ, .bool bR, .slice bS bx bT, .bool bU, .slice bV bz bW, .bool bX, .slice bY bA bZ, .bool c0, .slice c1 bB c2, .bool c3, .slice c4 bC c5, .bool c6, .slice c7 bD c8, .bool c9, .slice ca bE cb, .bool cc, .slice cd bF ce, .bool cf, .slice cg bG ch, .bool ci, .slice cj bH ck, .bool cl, .slice cn bI co, .bool cp, .slice cq bJ cr, .bool cs, .slice ct bK cu, .bool cv, .slice cw bL cx] 26)) = w1 at hS ⊢
  generalize w.heap.size + 3 = g25 at hS o25 ⊢
  generalize w.heap.size + 2 = g5 at hS o5 ⊢
  generalize w.heap.size + 1 = g4 at hS o4 ⊢
  generalize w.heap.size = g3 at hS o3 ⊢
  refine (low5_raw g25 40 true _ (hS.blk 0 rfl) HL.out).mono ?_
  rintro e w2 ⟨rfl, hx_⟩
  replace hS := hS.mv hx_
  clear hx_
  have k_4 := (hS.blk 3 rfl).cell
  have k_5 := (hS.blk 2 rfl).cell
  go_wp2_with fail
  clear k_4 k_5
  obtain ⟨eV, eW, eX, dz⟩ := is_ex ((q0 + q1)).u
  obtain ⟨eY, eZ, f0, dA⟩ := is_ex ((q0 + q1)).v
  have f1 : Sz (n0 + n1 + 65) eV eW eX := (Bd.mono (Bd.add (x := q0.u) (y := q1.u) (m := n0) (n := n1) ⟨_, _, _, d6, bM⟩ ⟨_, _, _, ej, dr⟩) (by omega)).sz dz
  have f2 : Sz (n0 + n1 + 65) eY eZ f0 := (Bd.mono (Bd.add (x := q0.v) (y := q1.v) (m := n0) (n := n1) ⟨_, _, _, d7, bN⟩ ⟨_, _, _, ek, ds⟩) (by omega)).sz dA
  refine (toTP (xSum_ok _ q0 (n0) _ q1 (n1) _ ⟨_, _, _, _, _, _, RP.mk (hS.num 14 rfl) (hS.num 13 rfl) (hS.num 12 rfl) (hS.num 11 rfl) (hS.num 10 rfl) (hS.num 9 rfl), d6, bM, d7, bN⟩ ⟨_, _, _, _, _, _, RP.mk (hS.num 8 rfl) (hS.num 7 rfl) (hS.num 6 rfl) (hS.num 5 rfl) (hS.num 4 rfl) (hS.num 3 rfl), ej, dr, ek, ds⟩ (by omega)) dz dA).mono ?_
  rintro e w3 ⟨v_, rfl, hv_, hx_⟩
  replace hS := hS.mv hx_
  clear hx_
  obtain ⟨_, rfl, dB, cy, dC, dD, dE, cz, dF, dG, dH, cA, dI, dJ, dK, cB, dL, dM, dN, cC, dO, dP, dQ, cD, dR, dS, rfl, cE, cF, cG, cH, cI, cJ⟩ := hv_
  replace hS := hS.addI cE
  clear cE
  replace hS := hS.addI cF
  clear cF
  replace hS := hS.addI cG
  clear cG
  replace hS := hS.addI cH
  clear cH
  replace hS := hS.addI cI
  clear cI
  replace hS := hS.addI cJ
  clear cJ
  have o7 : Own w w3.heap.size := Own.of hS.ext (by simp)
  have f3 := (St.al hS 37 #[.bool false, .slice none 0 0, .bool false, .slice none 0 0, .bool false, .slice none 0 0, .bool false, .slice none 0 0, .bool false, .slice none 0 0, .bool false, .slice none 0 0] (g := w3.heap.size) (by simp))
  have k_6 := (f3.blk 0 rfl).cell
  have k_7 := (f3.blk 0 rfl).frozen
  have f4 := (St.al hS 37 #[.bool dB, .slice cy dC dD, .bool dE, .slice cz dF dG, .bool dH, .slice cA dI dJ, .bool dK, .slice cB dL dM, .bool dN, .slice cC dO dP, .bool dQ, .slice cD dR dS] (g := w3.heap.size) (by simp))
  have k_8 := (f4.blk 4 rfl).cell
  have k_9 := (f4.blk 2 rfl).cell
  go_wp2_with fail
  clear k_6 k_7 k_8 k_9
  clear f3 f4
  replace hS := (St.al hS 37 #[.bool dB, .slice cy dC dD, .bool dE, .slice cz dF dG, .bool dH, .slice cA dI dJ, .bool dK, .slice cB dL dM, .bool dN, .slice cC dO dP, .bool dQ, .slice cD dR dS] (g := w3.heap.size) (by simp))
  generalize (w3.alloc (.cells #[.bool dB, .slice cy dC dD, .bool dE, .slice cz dF dG, .bool dH, .slice cA dI dJ, .bool dK, .slice cB dL dM, .bool dN, .slice cC dO dP, .bool dQ, .slice cD dR dS] 37)) = w4 at hS ⊢
  generalize w3.heap.size = g7 at hS o7 ⊢
  obtain ⟨f5, f6, f7, dT⟩ := is_ex ((⟨q0.u * q2, q0.v * q2⟩ : PQ)).u
  obtain ⟨f8, f9, fa, dU⟩ := is_ex ((⟨q0.u * q2, q0.v * q2⟩ : PQ)).v
  have fb : Sz (n0 + n2 + 1) f5 f6 f7 := (Bd.mul (m := n0) ⟨_, _, _, d6, bM⟩ ⟨_, _, _, I2, S2⟩).sz dT
  have fc : Sz (n0 + n2 + 1) f8 f9 fa := (Bd.mul (m := n0) ⟨_, _, _, d7, bN⟩ ⟨_, _, _, I2, S2⟩).sz dU
  refine (toTP (xTimes_w _ q0 (n0) _ q2 (n2) _ ⟨_, _, _, _, _, _, RP.mk (hS.num 20 rfl) (hS.num 19 rfl) (hS.num 18 rfl) (hS.num 17 rfl) (hS.num 16 rfl) (hS.num 15 rfl), d6, bM, d7, bN⟩ ⟨_, _, _, RG.mk (hS.num 8 rfl) (hS.num 7 rfl) (hS.num 6 rfl), I2, S2⟩ (by omega)) dT dU).mono ?_
  rintro e w5 ⟨v_, rfl, hv_, hx_⟩
  replace hS := hS.mv hx_
  clear hx_
  obtain ⟨_, rfl, dV, cK, dW, dX, dY, cL, dZ, e0, e1, cM, e2, e3, e4, cN, e5, e6, e7, cO, e8, e9, ea, cP, eb, ec, rfl, cQ, cR, cS, cT, cU, cV⟩ := hv_
  replace hS := hS.addI cQ
  clear cQ
  replace hS := hS.addI cR
  clear cR
  replace hS := hS.addI cS
  clear cS
  replace hS := hS.addI cT
  clear cT
  replace hS := hS.addI cU
  clear cU
  replace hS := hS.addI cV
  clear cV
  have o9 : Own w w5.heap.size := Own.of hS.ext (by simp)
  have fd := (St.al hS 37 #[.bool false, .slice none 0 0, .bool false, .slice none 0 0, .bool false, .slice none 0 0, .bool false, .slice none 0 0, .bool false, .slice none 0 0, .bool false, .slice none 0 0] (g := w5.heap.size) (by simp))
  have fe := (fd.blk 0 rfl).cell
  have ff := (fd.blk 0 rfl).frozen
  have fk := (St.al hS 37 #[.bool dV, .slice cK dW dX, .bool dY, .slice cL dZ e0, .bool e1, .slice cM e2 e3, .bool e4, .slice cN e5 e6, .bool e7, .slice cO e8 e9, .bool ea, .slice cP eb ec] (g := w5.heap.size) (by simp))
  have fg := (fk.blk 3 rfl).cell
  go_wp2_with fail
  clear fe ff fg
  clear fd fk
  replace hS := (St.al hS 37 #[.bool dV, .slice cK dW dX, .bool dY, .slice cL dZ e0, .bool e1, .slice cM e2 e3, .bool e4, .slice cN e5 e6, .bool e7, .slice cO e8 e9, .bool ea, .slice cP eb ec] (g := w5.heap.size) (by simp))
  generalize (w5.alloc (.cells #[.bool dV, .slice cK dW dX, .bool dY, .slice cL dZ e0, .bool e1, .slice cM e2 e3, .bool e4, .slice cN e5 e6, .bool e7, .slice cO e8 e9, .bool ea, .slice cP eb ec] 37)) = w6 at hS ⊢
  generalize w5.heap.size = g9 at hS o9 ⊢
  refine (toTP (xPlain_w _ q2 (n2) _ ⟨_, _, _, RG.mk (hS.num 14 rfl) (hS.num 13 rfl) (hS.num 12 rfl), I2, S2⟩ (by omega) (by omega)) I2 (is_i 0 0)).mono ?_
  rintro e w7 ⟨v_, rfl, hv_, hx_⟩
  replace hS := hS.mv hx_
  clear hx_
  obtain ⟨_, rfl, ev, dt, ew, ex, ey, du, ez, eA, eB, dv, eC, eD, eE, dw, eF, eG, eH, dx, eI, eJ, eK, dy, eL, eM, rfl, cW, cX, cY, cZ, d0, d1⟩ := hv_
  replace hS := hS.addI cW
  clear cW
  replace hS := hS.addI cX
  clear cX
  replace hS := hS.addI cY
  clear cY
  replace hS := hS.addI cZ
  clear cZ
  replace hS := hS.addI d0
  clear d0
  replace hS := hS.addI d1
  clear d1
  have o11 : Own w w7.heap.size := Own.of hS.ext (by simp)
  have fh := (St.al hS 37 #[.bool false, .slice none 0 0, .bool false, .slice none 0 0, .bool false, .slice none 0 0, .bool false, .slice none 0 0, .bool false, .slice none 0 0, .bool false, .slice none 0 0] (g := w7.heap.size) (by simp))
  have fi := (fh.blk 0 rfl).cell
  have fj := (fh.blk 0 rfl).frozen
  go_wp2_with fail
  clear fi fj
  clear fh
  replace hS := (St.al hS 37 #[.bool ev, .slice dt ew ex, .bool ey, .slice du ez eA, .bool eB, .slice dv eC eD, .bool eE, .slice dw eF eG, .bool eH, .slice dx eI eJ, .bool eK, .slice dy eL eM] (g := w7.heap.size) (by simp))
  generalize (w7.alloc (.cells #[.bool ev, .slice dt ew ex, .bool ey, .slice du ez eA, .bool eB, .slice dv eC eD, .bool eE, .slice dw eF eG, .bool eH, .slice dx eI eJ, .bool eK, .slice dy eL eM] 37)) = w8 at hS ⊢
  generalize w7.heap.size = g11 at hS o11 ⊢
  go_wp2_with fail
  have Y5 := ExtOf.blk (hS.blk 4 rfl)
  have Y4 := ExtOf.blk (hS.blk 5 rfl)
  have Y3 := ExtOf.blk (hS.blk 6 rfl)
  have hE_ := hS.ext
  refine wp_region_tame 20 (hasF [(2, .any), (6, .any), (10, .any), (14, .any), (17, .any)]) (Fcs [(2, .eq (.bool true)), (6, .eq (.bool true)), (10, .eq (.bool true)), (14, .eq (.bool true)), (17, .eq (.bool true))]) (Fcs_stab _) (by kernel_rfl) (by kernel_rfl) ?_
  simp only [tk1, tk0, dp1, dp0]
  refine wpT_quiet 2 (by rfl) (by kernel_rfl) ?_
  simp only [tk1, tk0, dp1, dp0]
  repeat (go_big_quiet_step (fail))
  refine wpQuiet_nil ?_
  refine wpT_eff (by rfl) (by rfl) (by rfl) ?_ ?_
  · intro W_ hK
    have hW := hK.1
    clear hK
    go_simp
    exact ⟨rfl, (qValid_gv _ q0.u (n0) _ ⟨_, _, _, RG.mk (RI.ext (hS.num 32 rfl) hW) (RI.ext (hS.num 31 rfl) hW) (RI.ext (hS.num 30 rfl) hW), d6, bM⟩ (by omega)).mono fun e w' ⟨he, hx⟩ => ⟨_, he, hx, rfl⟩⟩
  intro v_ lo48 hi48 hr_
  obtain ⟨W_, hW_⟩ := hr_
  obtain rfl : v_ = .bool true := hW_.get
  clear hW_ W_
  try simp only [Act.put, sa0, sa1, sa2]
  refine wpT_quiet 3 (by rfl) (by kernel_rfl) ?_
  simp only [tk1, tk0, dp1, dp0]
  repeat (go_big_quiet_step (fail))
  refine wpQuiet_nil ?_
  refine wpT_eff (by rfl) (by rfl) (by rfl) ?_ ?_
  · intro W_ hK
    have hW := hK.1
    clear hK
    go_simp
    exact ⟨rfl, (qValid_gv _ q0.v (n0) _ ⟨_, _, _, RG.mk (RI.ext (hS.num 29 rfl) hW) (RI.ext (hS.num 28 rfl) hW) (RI.ext (hS.num 27 rfl) hW), d7, bN⟩ (by omega)).mono fun e w' ⟨he, hx⟩ => ⟨_, he, hx, rfl⟩⟩
  intro v_ lo52 hi52 hr_
  obtain ⟨W_, hW_⟩ := hr_
  obtain rfl : v_ = .bool true := hW_.get
  clear hW_ W_
  try simp only [Act.put, sa0, sa1, sa2]
  refine wpT_quiet 3 (by rfl) (by kernel_rfl) ?_
  simp only [tk1, tk0, dp1, dp0]
  repeat (go_big_quiet_step (fail))
  refine wpQuiet_nil ?_
  refine wpT_eff (by rfl) (by rfl) (by rfl) ?_ ?_
  · intro W_ hK
    have hW := hK.1
    clear hK
    go_simp
    exact ⟨rfl, (qValid_gv _ q1.u (n1) _ ⟨_, _, _, RG.mk (RI.ext (hS.num 26 rfl) hW) (RI.ext (hS.num 25 rfl) hW) (RI.ext (hS.num 24 rfl) hW), ej, dr⟩ (by omega)).mono fun e w' ⟨he, hx⟩ => ⟨_, he, hx, rfl⟩⟩
  intro v_ lo56 hi56 hr_
  obtain ⟨W_, hW_⟩ := hr_
  obtain rfl : v_ = .bool true := hW_.get
  clear hW_ W_
  try simp only [Act.put, sa0, sa1, sa2]
  refine wpT_quiet 3 (by rfl) (by kernel_rfl) ?_
  simp only [tk1, tk0, dp1, dp0]
  repeat (go_big_quiet_step (fail))
  refine wpQuiet_nil ?_
  refine wpT_eff (by rfl) (by rfl) (by rfl) ?_ ?_
  · intro W_ hK
    have hW := hK.1
    clear hK
    go_simp
    exact ⟨rfl, (qValid_gv _ q1.v (n1) _ ⟨_, _, _, RG.mk (RI.ext (hS.num 23 rfl) hW) (RI.ext (hS.num 22 rfl) hW) (RI.ext (hS.num 21 rfl) hW), ek, ds⟩ (by omega)).mono fun e w' ⟨he, hx⟩ => ⟨_, he, hx, rfl⟩⟩
  intro v_ lo60 hi60 hr_
  obtain ⟨W_, hW_⟩ := hr_
  obtain rfl : v_ = .bool true := hW_.get
  clear hW_ W_
  try simp only [Act.put, sa0, sa1, sa2]
  refine wpT_quiet 2 (by rfl) (by kernel_rfl) ?_
  simp only [tk1, tk0, dp1, dp0]
  repeat (go_big_quiet_step (fail))
  refine wpQuiet_nil ?_
  refine wpT_eff (by rfl) (by rfl) (by rfl) ?_ ?_
  · intro W_ hK
    have hW := hK.1
    clear hK
    go_simp
    exact ⟨rfl, (qValid_gv _ q2 (n2) _ ⟨_, _, _, RG.mk (RI.ext (hS.num 20 rfl) hW) (RI.ext (hS.num 19 rfl) hW) (RI.ext (hS.num 18 rfl) hW), I2, S2⟩ (by omega)).mono fun e w' ⟨he, hx⟩ => ⟨_, he, hx, rfl⟩⟩
  intro v_ lo63 hi63 hr_
  obtain ⟨W_, hW_⟩ := hr_
  obtain rfl : v_ = .bool true := hW_.get
  clear hW_ W_
  try simp only [Act.put, sa0, sa1, sa2]
  refine wpT_quiet 2 (by rfl) (by kernel_rfl) ?_
  simp only [tk1, tk0, dp1, dp0]
  repeat (go_big_quiet_step (fail))
  refine wpQuiet_nil ?_
  refine wpT_nil ?_
  intro w9 hK
  have hlt_ := hS.lt
  replace hS := hS.mv hK.ext
  clear hK hlt_ hE_ Y5 Y4 Y3
  go_wp2_with fail
  obtain ⟨bk, bl, bm, d2⟩ := is_ex ((q0 + q1)).u
  obtain ⟨bn, bo, bp, d3⟩ := is_ex ((q0 + q1)).v
  have eN : Sz (n0 + n1 + 1) bk bl bm := (Bd.mono (Bd.add (x := q0.u) (y := q1.u) (m := n0) (n := n1) ⟨_, _, _, d6, bM⟩ ⟨_, _, _, ej, dr⟩) (by omega)).sz d2
  have eO : Sz (n0 + n1 + 1) bn bo bp := (Bd.mono (Bd.add (x := q0.v) (y := q1.v) (m := n0) (n := n1) ⟨_, _, _, d7, bN⟩ ⟨_, _, _, ek, ds⟩) (by omega)).sz d3
  obtain ⟨bq, br, bs, d4⟩ := is_ex ((⟨q0.u * q2, q0.v * q2⟩ : PQ)).u
  obtain ⟨bt, bu, bv, d5⟩ := is_ex ((⟨q0.u * q2, q0.v * q2⟩ : PQ)).v
  have eP : Sz (n0 + n2 + 1) bq br bs := (Bd.mul (m := n0) ⟨_, _, _, d6, bM⟩ ⟨_, _, _, I2, S2⟩).sz d4
  have eQ : Sz (n0 + n2 + 1) bt bu bv := (Bd.mul (m := n0) ⟨_, _, _, d7, bN⟩ ⟨_, _, _, I2, S2⟩).sz d5
  have Y11 := ExtOf.blk (hS.blk 0 rfl)
  have Y9 := ExtOf.blk (hS.blk 1 rfl)
  have Y7 := ExtOf.blk (hS.blk 2 rfl)
  have Y5 := ExtOf.blk (hS.blk 4 rfl)
  have Y4 := ExtOf.blk (hS.blk 5 rfl)
  have Y3 := ExtOf.blk (hS.blk 6 rfl)
  have hE_ := hS.ext
  refine wp_region_tame 33 (hasF [(0, .any), (8, .any), (9, .any), (19, .any), (20, .any), (29, .any), (30, .any)]) (Fcs [(0, .eq (.bool true)), (8, .rp (bk) (bl) (bm) (bn) (bo) (bp)), (9, .eq (.bool true)), (19, .rp (bq) (br) (bs) (bt) (bu) (bv)), (20, .eq (.bool true)), (29, .rp (eR) (eS) (eT) ((0 : Int)) ((0 : Int)) ((1 : Int))), (30, .eq (.bool true))]) (Fcs_stab _) (by kernel_rfl) (by kernel_rfl) ?_
  simp only [tk1, tk0, dp1, dp0]
  refine wpT_eff (by rfl) (by rfl) (by rfl) ?_ ?_
  · intro W_ hK
    have hW := hK.1
    clear hK
    go_simp
    exact ⟨rfl, (lxknown_ok _ (tab_ext hTab (hE_.trans hW))).mono fun e w' ⟨he, hx⟩ => ⟨_, he, hx, rfl⟩⟩
  intro v_ fl fm hr_
  obtain ⟨W_, hW_⟩ := hr_
  obtain rfl : v_ = .bool true := hW_.get
  clear hW_ W_
  try simp only [Act.put, sa0, sa1, sa2]
  refine wpT_quiet 7 (by rfl) (by kernel_rfl) ?_
  simp only [tk1, tk0, dp1, dp0]
  repeat (go_big_quiet_step (fail))
  refine wpQuiet_nil ?_
  refine wpT_eff (by rfl) (by rfl) (by rfl) ?_ ?_
  · intro W_ hK
    have hW := hK.1
    clear hK
    go_simp
    exact ⟨rfl, (toRP (qSum_w _ q0 (n0) _ q1 (n1) _ ⟨_, _, _, _, _, _, RP.mk (RI.ext (hS.num 32 rfl) hW) (RI.ext (hS.num 31 rfl) hW) (RI.ext (hS.num 30 rfl) hW) (RI.ext (hS.num 29 rfl) hW) (RI.ext (hS.num 28 rfl) hW) (RI.ext (hS.num 27 rfl) hW), d6, bM, d7, bN⟩ ⟨_, _, _, _, _, _, RP.mk (RI.ext (hS.num 26 rfl) hW) (RI.ext (hS.num 25 rfl) hW) (RI.ext (hS.num 24 rfl) hW) (RI.ext (hS.num 23 rfl) hW) (RI.ext (hS.num 22 rfl) hW) (RI.ext (hS.num 21 rfl) hW), ej, dr, ek, ds⟩ (by omega)) d2 d3).mono fun e w' ⟨v, he, hR, hx⟩ => ⟨v, he, hx, hR⟩⟩
  intro v_ bd be hr_
  obtain ⟨W_, hW_⟩ := hr_
  have hv_ : Fc.holds (.rp (bk) (bl) (bm) (bn) (bo) (bp)) bd be v_ W_ := hW_.get
  clear hW_
  obtain ⟨ai, a0, aj, ak, am, a1, an, ao, ap, a2, aq, ar, au, a3, av, aw, ax, a4, ay, az, aA, a5, aB, aC, rfl, -, -, -, -, -, -⟩ := hv_
  clear W_
  try simp only [Act.put, sa0, sa1, sa2]
  refine wpT_eff (by rfl) (by rfl) (by rfl) ?_ ?_
  · intro W_ hK
    have hW := hK.1
    have d8 : RI W_ (iv ai a0 aj ak) bk := RP.at1 (hK.2 8 ((pv ai a0 aj ak am a1 an ao ap a2 aq ar au a3 av aw ax a4 ay az aA a5 aB aC), bd, be) (by rfl) (anc_of (by kernel_rfl)))
    have d9 : RI W_ (iv am a1 an ao) bl := RP.at2 (hK.2 8 ((pv ai a0 aj ak am a1 an ao ap a2 aq ar au a3 av aw ax a4 ay az aA a5 aB aC), bd, be) (by rfl) (anc_of (by kernel_rfl)))
    have da : RI W_ (iv ap a2 aq ar) bm := RP.at3 (hK.2 8 ((pv ai a0 aj ak am a1 an ao ap a2 aq ar au a3 av aw ax a4 ay az aA a5 aB aC), bd, be) (by rfl) (anc_of (by kernel_rfl)))
    have db : RI W_ (iv au a3 av aw) bn := RP.at4 (hK.2 8 ((pv ai a0 aj ak am a1 an ao ap a2 aq ar au a3 av aw ax a4 ay az aA a5 aB aC), bd, be) (by rfl) (anc_of (by kernel_rfl)))
    have dc : RI W_ (iv ax a4 ay az) bo := RP.at5 (hK.2 8 ((pv ai a0 aj ak am a1 an ao ap a2 aq ar au a3 av aw ax a4 ay az aA a5 aB aC), bd, be) (by rfl) (anc_of (by kernel_rfl)))
    have dd : RI W_ (iv aA a5 aB aC) bp := RP.at6 (hK.2 8 ((pv ai a0 aj ak am a1 an ao ap a2 aq ar au a3 av aw ax a4 ay az aA a5 aB aC), bd, be) (by rfl) (anc_of (by kernel_rfl)))
    clear hK
    go_simp
    exact ⟨rfl, (qSamePhasor_q _ _ (q0 + q1) (q0 + q1) (n0 + n1 + 65) (n0 + n1 + 1) _ ⟨_, _, _, _, _, _, RP.mk (RI.ext (hS.num 17 rfl) hW) (RI.ext (hS.num 16 rfl) hW) (RI.ext (hS.num 15 rfl) hW) (RI.ext (hS.num 14 rfl) hW) (RI.ext (hS.num 13 rfl) hW) (RI.ext (hS.num 12 rfl) hW), dz, f1, dA, f2⟩ ⟨_, _, _, _, _, _, RP.mk d8 d9 da db dc dd, d2, eN, d3, eO⟩ rfl).mono fun e w' ⟨he, hx⟩ => ⟨_, he, hx, rfl⟩⟩
  intro v_ fn fo hr_
  obtain ⟨W_, hW_⟩ := hr_
  obtain rfl : v_ = .bool true := hW_.get
  clear hW_ W_
  try simp only [Act.put, sa0, sa1, sa2]
  refine wpT_quiet 9 (by rfl) (by kernel_rfl) ?_
  simp only [tk1, tk0, dp1, dp0]
  repeat (go_big_quiet_step (fail))
  refine wpQuiet_nil ?_
  refine wpT_eff (by rfl) (by rfl) (by rfl) ?_ ?_
  · intro W_ hK
    have hW := hK.1
    clear hK
    go_simp
    exact ⟨rfl, (toRP (qScaled_ok _ q0 (n0) _ q2 (n2) _ ⟨_, _, _, _, _, _, RP.mk (RI.ext (hS.num 32 rfl) hW) (RI.ext (hS.num 31 rfl) hW) (RI.ext (hS.num 30 rfl) hW) (RI.ext (hS.num 29 rfl) hW) (RI.ext (hS.num 28 rfl) hW) (RI.ext (hS.num 27 rfl) hW), d6, bM, d7, bN⟩ ⟨_, _, _, RG.mk (RI.ext (hS.num 20 rfl) hW) (RI.ext (hS.num 19 rfl) hW) (RI.ext (hS.num 18 rfl) hW), I2, S2⟩ (by omega)) d4 d5).mono fun e w' ⟨v, he, hR, hx⟩ => ⟨v, he, hx, hR⟩⟩
  intro v_ bf bg hr_
  obtain ⟨W_, hW_⟩ := hr_
  have hv_ : Fc.holds (.rp (bq) (br) (bs) (bt) (bu) (bv)) bf bg v_ W_ := hW_.get
  clear hW_
  obtain ⟨aD, a6, aE, aF, aG, a7, aH, aI, aJ, a8, aK, aL, aM, a9, aN, aO, aP, aa, aQ, aR, aS, ab, aT, aU, rfl, -, -, -, -, -, -⟩ := hv_
  clear W_
  try simp only [Act.put, sa0, sa1, sa2]
  refine wpT_eff (by rfl) (by rfl) (by rfl) ?_ ?_
  · intro W_ hK
    have hW := hK.1
    have de : RI W_ (iv aD a6 aE aF) bq := RP.at1 (hK.2 19 ((pv aD a6 aE aF aG a7 aH aI aJ a8 aK aL aM a9 aN aO aP aa aQ aR aS ab aT aU), bf, bg) (by rfl) (anc_of (by kernel_rfl)))
    have df : RI W_ (iv aG a7 aH aI) br := RP.at2 (hK.2 19 ((pv aD a6 aE aF aG a7 aH aI aJ a8 aK aL aM a9 aN aO aP aa aQ aR aS ab aT aU), bf, bg) (by rfl) (anc_of (by kernel_rfl)))
    have dg : RI W_ (iv aJ a8 aK aL) bs := RP.at3 (hK.2 19 ((pv aD a6 aE aF aG a7 aH aI aJ a8 aK aL aM a9 aN aO aP aa aQ aR aS ab aT aU), bf, bg) (by rfl) (anc_of (by kernel_rfl)))
    have dh : RI W_ (iv aM a9 aN aO) bt := RP.at4 (hK.2 19 ((pv aD a6 aE aF aG a7 aH aI aJ a8 aK aL aM a9 aN aO aP aa aQ aR aS ab aT aU), bf, bg) (by rfl) (anc_of (by kernel_rfl)))
    have di : RI W_ (iv aP aa aQ aR) bu := RP.at5 (hK.2 19 ((pv aD a6 aE aF aG a7 aH aI aJ a8 aK aL aM a9 aN aO aP aa aQ aR aS ab aT aU), bf, bg) (by rfl) (anc_of (by kernel_rfl)))
    have dj : RI W_ (iv aS ab aT aU) bv := RP.at6 (hK.2 19 ((pv aD a6 aE aF aG a7 aH aI aJ a8 aK aL aM a9 aN aO aP aa aQ aR aS ab aT aU), bf, bg) (by rfl) (anc_of (by kernel_rfl)))
    clear hK
    go_simp
    exact ⟨rfl, (qSamePhasor_q _ _ (⟨q0.u * q2, q0.v * q2⟩ : PQ) (⟨q0.u * q2, q0.v * q2⟩ : PQ) (n0 + n2 + 1) (n0 + n2 + 1) _ ⟨_, _, _, _, _, _, RP.mk (RI.ext (hS.num 11 rfl) hW) (RI.ext (hS.num 10 rfl) hW) (RI.ext (hS.num 9 rfl) hW) (RI.ext (hS.num 8 rfl) hW) (RI.ext (hS.num 7 rfl) hW) (RI.ext (hS.num 6 rfl) hW), dT, fb, dU, fc⟩ ⟨_, _, _, _, _, _, RP.mk de df dg dh di dj, d4, eP, d5, eQ⟩ rfl).mono fun e w' ⟨he, hx⟩ => ⟨_, he, hx, rfl⟩⟩
  intro v_ fp fq hr_
  obtain ⟨W_, hW_⟩ := hr_
  obtain rfl : v_ = .bool true := hW_.get
  clear hW_ W_
  try simp only [Act.put, sa0, sa1, sa2]
  refine wpT_quiet 8 (by rfl) (by kernel_rfl) ?_
  simp only [tk1, tk0, dp1, dp0]
  repeat (go_big_quiet_step (fail))
  refine wpQuiet_nil ?_
  refine wpT_eff (by rfl) (by rfl) (by rfl) ?_ ?_
  · intro W_ hK
    have hW := hK.1
    clear hK
    go_simp
    exact ⟨rfl, (toRP (qPlain_ok _ q2 (n2) _ ⟨_, _, _, RG.mk (RI.ext (hS.num 20 rfl) hW) (RI.ext (hS.num 19 rfl) hW) (RI.ext (hS.num 18 rfl) hW), I2, S2⟩ (by omega)) I2 (is_i 0 0)).mono fun e w' ⟨v, he, hR, hx⟩ => ⟨v, he, hx, hR⟩⟩
  intro v_ bh bi hr_
  obtain ⟨W_, hW_⟩ := hr_
  have hv_ : Fc.holds (.rp (eR) (eS) (eT) ((0 : Int)) ((0 : Int)) ((1 : Int))) bh bi v_ W_ := hW_.get
  clear hW_
  obtain ⟨aV, ac, aW, aX, aY, ad, aZ, b0, b1, ae, b2, b3, b4, af, b5, b6, b7, ag, b8, b9, ba, ah, bb, bc, rfl, -, -, -, -, -, -⟩ := hv_
  clear W_
  try simp only [Act.put, sa0, sa1, sa2]
  refine wpT_eff (by rfl) (by rfl) (by rfl) ?_ ?_
  · intro W_ hK
    have hW := hK.1
    have dk : RI W_ (iv aV ac aW aX) eR := RP.at1 (hK.2 29 ((pv aV ac aW aX aY ad aZ b0 b1 ae b2 b3 b4 af b5 b6 b7 ag b8 b9 ba ah bb bc), bh, bi) (by rfl) (anc_of (by kernel_rfl)))
    have dl : RI W_ (iv aY ad aZ b0) eS := RP.at2 (hK.2 29 ((pv aV ac aW aX aY ad aZ b0 b1 ae b2 b3 b4 af b5 b6 b7 ag b8 b9 ba ah bb bc), bh, bi) (by rfl) (anc_of (by kernel_rfl)))
    have dm : RI W_ (iv b1 ae b2 b3) eT := RP.at3 (hK.2 29 ((pv aV ac aW aX aY ad aZ b0 b1 ae b2 b3 b4 af b5 b6 b7 ag b8 b9 ba ah bb bc), bh, bi) (by rfl) (anc_of (by kernel_rfl)))
    have dn : RI W_ (iv b4 af b5 b6) (0 : Int) := RP.at4 (hK.2 29 ((pv aV ac aW aX aY ad aZ b0 b1 ae b2 b3 b4 af b5 b6 b7 ag b8 b9 ba ah bb bc), bh, bi) (by rfl) (anc_of (by kernel_rfl)))
    have dp : RI W_ (iv b7 ag b8 b9) (0 : Int) := RP.at5 (hK.2 29 ((pv aV ac aW aX aY ad aZ b0 b1 ae b2 b3 b4 af b5 b6 b7 ag b8 b9 ba ah bb bc), bh, bi) (by rfl) (anc_of (by kernel_rfl)))
    have dq : RI W_ (iv ba ah bb bc) (1 : Int) := RP.at6 (hK.2 29 ((pv aV ac aW aX aY ad aZ b0 b1 ae b2 b3 b4 af b5 b6 b7 ag b8 b9 ba ah bb bc), bh, bi) (by rfl) (anc_of (by kernel_rfl)))
    clear hK
    go_simp
    exact ⟨rfl, (qSamePhasor_q _ _ (⟨q2, (GQ.i 0 0)⟩ : PQ) (⟨q2, (GQ.i 0 0)⟩ : PQ) (n2) (n2) _ ⟨_, _, _, _, _, _, RP.mk (RI.ext (hS.num 5 rfl) hW) (RI.ext (hS.num 4 rfl) hW) (RI.ext (hS.num 3 rfl) hW) (RI.ext (hS.num 2 rfl) hW) (RI.ext (hS.num 1 rfl) hW) (RI.ext (hS.num 0 rfl) hW), I2, S2, (is_i 0 0), (sz_0 (n := n2) (by omega))⟩ ⟨_, _, _, _, _, _, RP.mk dk dl dm dn dp dq, I2, S2, (is_i 0 0), (sz_0 (n := n2) (by omega))⟩ rfl).mono fun e w' ⟨he, hx⟩ => ⟨_, he, hx, rfl⟩⟩
  intro v_ fr fs hr_
  obtain ⟨W_, hW_⟩ := hr_
  obtain rfl : v_ = .bool true := hW_.get
  clear hW_ W_
  try simp only [Act.put, sa0, sa1, sa2]
  refine wpT_quiet 2 (by rfl) (by kernel_rfl) ?_
  simp only [tk1, tk0, dp1, dp0]
  repeat (go_big_quiet_step (fail))
  refine wpQuiet_nil ?_
  refine wpT_nil ?_
  intro bj hK
  have hlt_ := hS.lt
  replace hS := hS.mv hK.ext
  replace hS := hS.addI (show RI bj (iv ai a0 aj ak) bk from RP.at1 (hK.at_ 8 (e := ((pv ai a0 aj ak am a1 an ao ap a2 aq ar au a3 av aw ax a4 ay az aA a5 aB aC), bd, be)) (by rfl)))
  replace hS := hS.addI (show RI bj (iv am a1 an ao) bl from RP.at2 (hK.at_ 8 (e := ((pv ai a0 aj ak am a1 an ao ap a2 aq ar au a3 av aw ax a4 ay az aA a5 aB aC), bd, be)) (by rfl)))
  replace hS := hS.addI (show RI bj (iv ap a2 aq ar) bm from RP.at3 (hK.at_ 8 (e := ((pv ai a0 aj ak am a1 an ao ap a2 aq ar au a3 av aw ax a4 ay az aA a5 aB aC), bd, be)) (by rfl)))
  replace hS := hS.addI (show RI bj (iv au a3 av aw) bn from RP.at4 (hK.at_ 8 (e := ((pv ai a0 aj ak am a1 an ao ap a2 aq ar au a3 av aw ax a4 ay az aA a5 aB aC), bd, be)) (by rfl)))
  replace hS := hS.addI (show RI bj (iv ax a4 ay az) bo from RP.at5 (hK.at_ 8 (e := ((pv ai a0 aj ak am a1 an ao ap a2 aq ar au a3 av aw ax a4 ay az aA a5 aB aC), bd, be)) (by rfl)))
  replace hS := hS.addI (show RI bj (iv aA a5 aB aC) bp from RP.at6 (hK.at_ 8 (e := ((pv ai a0 aj ak am a1 an ao ap a2 aq ar au a3 av aw ax a4 ay az aA a5 aB aC), bd, be)) (by rfl)))
  replace hS := hS.addI (show RI bj (iv aD a6 aE aF) bq from RP.at1 (hK.at_ 19 (e := ((pv aD a6 aE aF aG a7 aH aI aJ a8 aK aL aM a9 aN aO aP aa aQ aR aS ab aT aU), bf, bg)) (by rfl)))
  replace hS := hS.addI (show RI bj (iv aG a7 aH aI) br from RP.at2 (hK.at_ 19 (e := ((pv aD a6 aE aF aG a7 aH aI aJ a8 aK aL aM a9 aN aO aP aa aQ aR aS ab aT aU), bf, bg)) (by rfl)))
  replace hS := hS.addI (show RI bj (iv aJ a8 aK aL) bs from RP.at3 (hK.at_ 19 (e := ((pv aD a6 aE aF aG a7 aH aI aJ a8 aK aL aM a9 aN aO aP aa aQ aR aS ab aT aU), bf, bg)) (by rfl)))
  replace hS := hS.addI (show RI bj (iv aM a9 aN aO) bt from RP.at4 (hK.at_ 19 (e := ((pv aD a6 aE aF aG a7 aH aI aJ a8 aK aL aM a9 aN aO aP aa aQ aR aS ab aT aU), bf, bg)) (by rfl)))
  replace hS := hS.addI (show RI bj (iv aP aa aQ aR) bu from RP.at5 (hK.at_ 19 (e := ((pv aD a6 aE aF aG a7 aH aI aJ a8 aK aL aM a9 aN aO aP aa aQ aR aS ab aT aU), bf, bg)) (by rfl)))
  replace hS := hS.addI (show RI bj (iv aS ab aT aU) bv from RP.at6 (hK.at_ 19 (e := ((pv aD a6 aE aF aG a7 aH aI aJ a8 aK aL aM a9 aN aO aP aa aQ aR aS ab aT aU), bf, bg)) (by rfl)))
  replace hS := hS.addI (show RI bj (iv aV ac aW aX) eR from RP.at1 (hK.at_ 29 (e := ((pv aV ac aW aX aY ad aZ b0 b1 ae b2 b3 b4 af b5 b6 b7 ag b8 b9 ba ah bb bc), bh, bi)) (by rfl)))
  replace hS := hS.addI (show RI bj (iv aY ad aZ b0) eS from RP.at2 (hK.at_ 29 (e := ((pv aV ac aW aX aY ad aZ b0 b1 ae b2 b3 b4 af b5 b6 b7 ag b8 b9 ba ah bb bc), bh, bi)) (by rfl)))
  replace hS := hS.addI (show RI bj (iv b1 ae b2 b3) eT from RP.at3 (hK.at_ 29 (e := ((pv aV ac aW aX aY ad aZ b0 b1 ae b2 b3 b4 af b5 b6 b7 ag b8 b9 ba ah bb bc), bh, bi)) (by rfl)))
  replace hS := hS.addI (show RI bj (iv b4 af b5 b6) (0 : Int) from RP.at4 (hK.at_ 29 (e := ((pv aV ac aW aX aY ad aZ b0 b1 ae b2 b3 b4 af b5 b6 b7 ag b8 b9 ba ah bb bc), bh, bi)) (by rfl)))
  replace hS := hS.addI (show RI bj (iv b7 ag b8 b9) (0 : Int) from RP.at5 (hK.at_ 29 (e := ((pv aV ac aW aX aY ad aZ b0 b1 ae b2 b3 b4 af b5 b6 b7 ag b8 b9 ba ah bb bc), bh, bi)) (by rfl)))
  replace hS := hS.addI (show RI bj (iv ba ah bb bc) (1 : Int) from RP.at6 (hK.at_ 29 (e := ((pv aV ac aW aX aY ad aZ b0 b1 ae b2 b3 b4 af b5 b6 b7 ag b8 b9 ba ah bb bc), bh, bi)) (by rfl)))
  clear hK hlt_ hE_ Y11 Y9 Y7 Y5 Y4 Y3
  go_wp2
  go_ret
  exact ⟨ret_bool (rfl), hS.ext⟩

theorem phasors_any {s0a : Bool} {A0a : Option Addr} {n0a c0a : Nat} {l0a : List Nat} {s0b : Bool} {A0b : Option Addr} {n0b c0b : Nat} {l0b : List Nat} {s0d : Bool} {A0d : Option Addr} {n0d c0d : Nat} {l0d : List Nat} {s1a : Bool} {A1a : Option Addr} {n1a c1a : Nat} {l1a : List Nat} {s1b : Bool} {A1b : Option Addr} {n1b c1b : Nat} {l1b : List Nat} {s1d : Bool} {A1d : Option Addr} {n1d c1d : Nat} {l1d : List Nat} {s2a : Bool} {A2a : Option Addr} {n2a c2a : Nat} {l2a : List Nat} {s2b : Bool} {A2b : Option Addr} {n2b c2b : Nat} {l2b : List Nat} {s2d : Bool} {A2d : Option Addr} {n2d c2d : Nat} {l2d : List Nat} {s3a : Bool} {A3a : Option Addr} {n3a c3a : Nat} {l3a : List Nat} {s3b : Bool} {A3b : Option Addr} {n3b c3b : Nat} {l3b : List Nat} {s3d : Bool} {A3d : Option Addr} {n3d c3d : Nat} {l3d : List Nat} {s4a : Bool} {A4a : Option Addr} {n4a c4a : Nat} {l4a : List Nat} {s4b : Bool} {A4b : Option Addr} {n4b c4b : Nat} {l4b : List Nat} {s4d : Bool} {A4d : Option Addr} {n4d c4d : Nat} {l4d : List Nat} (w : World) (r0 : RawG w s0a A0a n0a c0a l0a s0b A0b n0b c0b l0b s0d A0d n0d c0d l0d) (r1 : RawG w s1a A1a n1a c1a l1a s1b A1b n1b c1b l1b s1d A1d n1d c1d l1d) (r2 : RawG w s2a A2a n2a c2a l2a s2b A2b n2b c2b l2b s2d A2d n2d c2d l2d) (r3 : RawG w s3a A3a n3a c3a l3a s3b A3b n3b c3b l3b s3d A3d n3d c3d l3d) (r4 : RawG w s4a A4a n4a c4a l4a s4b A4b n4b c4b l4b s4d A4d n4d c4d l4d) (hTab : Tab w) :
    Calls Tryz.prog 7 #[pv s0a A0a n0a c0a s0b A0b n0b c0b s0d A0d n0d c0d s1a A1a n1a c1a s1b A1b n1b c1b s1d A1d n1d c1d, pv s2a A2a n2a c2a s2b A2b n2b c2b s2d A2d n2d c2d s3a A3a n3a c3a s3b A3b n3b c3b s3d A3d n3d c3d, gv s4a A4a n4a c4a s4b A4b n4b c4b s4d A4d n4d c4d] w fun e w' => e = .returned (.bool true) ∧ Ext w w' := by
  cases hl : [n0a, n0b, n0d, n1a, n1b, n1d, n2a, n2b, n2d, n3a, n3b, n3d, n4a, n4b, n4d].all (fun n => decide (n ≤ 40))
  · exact phasors_large _ _ _ _ _ _ _ _ _ _ _ _ _ _ _ _ _ _ _ _ _ _ _ _ _ _ _ _ _ _ _ _ _ _ _ _ _ _ _ _ _ _ _ _ _ _ _ _ _ _ _ _ _ _ _ _ _ _ _ _ w hTab (Lib.hid hl)
  have hl' : n0a ≤ 40 ∧ n0b ≤ 40 ∧ n0d ≤ 40 ∧ n1a ≤ 40 ∧ n1b ≤ 40 ∧ n1d ≤ 40 ∧ n2a ≤ 40 ∧ n2b ≤ 40 ∧ n2d ≤ 40 ∧ n3a ≤ 40 ∧ n3b ≤ 40 ∧ n3d ≤ 40 ∧ n4a ≤ 40 ∧ n4b ≤ 40 ∧ n4d ≤ 40 := by simpa using hl
  obtain ⟨k0a, k0b, k0d, k1a, k1b, k1d, k2a, k2b, k2d, k3a, k3b, k3d, k4a, k4b, k4d⟩ := hl'
  have hp : (∃ p, PV w (pv s0a A0a n0a c0a s0b A0b n0b c0b s0d A0d n0d c0d s1a A1a n1a c1a s1b A1b n1b c1b s1d A1d n1d c1d) p (32 * 40)) ∨ ∃ bu bv, VB w (gv s0a A0a n0a c0a s0b A0b n0b c0b s0d A0d n0d c0d) bu ∧ VB w (gv s1a A1a n1a c1a s1b A1b n1b c1b s1d A1d n1d c1d) bv ∧ (bu && bv) = false := by
    obtain ⟨bu, hu⟩ := r0.vb k0a k0b k0d (by omega)
    obtain ⟨bv, hv⟩ := r1.vb k1a k1b k1d (by omega)
    rcases r0.cases k0a k0b k0d (by omega) with ⟨qu, h0⟩ | hb
    · rcases r1.cases k1a k1b k1d (by omega) with ⟨qv, h1⟩ | hb
      · exact .inl ⟨_, PV.of h0 h1⟩
      · exact .inr ⟨true, false, h0.vb (by omega), hb, rfl⟩
    · exact .inr ⟨false, bv, hb, hv, rfl⟩
  have hq : (∃ p, PV w (pv s2a A2a n2a c2a s2b A2b n2b c2b s2d A2d n2d c2d s3a A3a n3a c3a s3b A3b n3b c3b s3d A3d n3d c3d) p (32 * 40)) ∨ ∃ bu bv, VB w (gv s2a A2a n2a c2a s2b A2b n2b c2b s2d A2d n2d c2d) bu ∧ VB w (gv s3a A3a n3a c3a s3b A3b n3b c3b s3d A3d n3d c3d) bv ∧ (bu && bv) = false := by
    obtain ⟨bu, hu⟩ := r2.vb k2a k2b k2d (by omega)
    obtain ⟨bv, hv⟩ := r3.vb k3a k3b k3d (by omega)
    rcases r2.cases k2a k2b k2d (by omega) with ⟨qu, h0⟩ | hb
    · rcases r3.cases k3a k3b k3d (by omega) with ⟨qv, h1⟩ | hb
      · exact .inl ⟨_, PV.of h0 h1⟩
      · exact .inr ⟨true, false, h0.vb (by omega), hb, rfl⟩
    · exact .inr ⟨false, bv, hb, hv, rfl⟩
  rcases hp with ⟨p0, hp0⟩ | ⟨bu, bv, h0u, h0v, h0b⟩ <;> rcases hq with ⟨p1, hp1⟩ | ⟨cu, cv, h1u, h1v, h1b⟩ <;> rcases r4.cases k4a k4b k4d (by omega) with ⟨q4, h4⟩ | hb
  · exact phasors_vvv _ p0 (32 * 40) _ p1 (32 * 40) _ q4 (32 * 40) w hp0 hp1 h4 (by omega) (by omega) (by omega) (by omega) (by omega) (by omega) hTab
  · exact phasors_vvb _ p0 (32 * 40) _ p1 (32 * 40) _ _ _ _ _ _ _ _ _ _ _ _ w hp0 hp1 hb (by omega) (by omega) (by omega) (by omega) k4a k4b k4d hTab
  · exact phasors_vbv _ p0 (32 * 40) _ _ _ _ _ _ _ _ _ _ _ _ _ _ _ _ _ _ _ _ _ _ _ _ cu cv _ q4 (32 * 40) w hp0 h1u h1v h4 (by omega) (by omega) k2a k2b k2d k3a k3b k3d (by omega) (by omega) (Lib.hid h1b) hTab
  · exact phasors_vbb _ p0 (32 * 40) _ _ _ _ _ _ _ _ _ _ _ _ _ _ _ _ _ _ _ _ _ _ _ _ cu cv _ _ _ _ _ _ _ _ _ _ _ _ w hp0 h1u h1v hb (by omega) (by omega) k2a k2b k2d k3a k3b k3d k4a k4b k4d (Lib.hid h1b) hTab
  · exact phasors_bvv _ _ _ _ _ _ _ _ _ _ _ _ _ _ _ _ _ _ _ _ _ _ _ _ bu bv _ p1 (32 * 40) _ q4 (32 * 40) w h0u h0v hp1 h4 k0a k0b k0d k1a k1b k1d (by omega) (by omega) (by omega) (by omega) (Lib.hid h0b) hTab
  · exact phasors_bvb _ _ _ _ _ _ _ _ _ _ _ _ _ _ _ _ _ _ _ _ _ _ _ _ bu bv _ p1 (32 * 40) _ _ _ _ _ _ _ _ _ _ _ _ w h0u h0v hp1 hb k0a k0b k0d k1a k1b k1d (by omega) (by omega) k4a k4b k4d (Lib.hid h0b) hTab
  · exact phasors_bbv _ _ _ _ _ _ _ _ _ _ _ _ _ _ _ _ _ _ _ _ _ _ _ _ bu bv _ _ _ _ _ _ _ _ _ _ _ _ _ _ _ _ _ _ _ _ _ _ _ _ cu cv _ q4 (32 * 40) w h0u h0v h1u h1v h4 k0a k0b k0d k1a k1b k1d k2a k2b k2d k3a k3b k3d (by omega) (by omega) (Lib.hid h0b) (Lib.hid h1b) hTab
  · exact phasors_bbb _ _ _ _ _ _ _ _ _ _ _ _ _ _ _ _ _ _ _ _ _ _ _ _ bu bv _ _ _ _ _ _ _ _ _ _ _ _ _ _ _ _ _ _ _ _ _ _ _ _ cu cv _ _ _ _ _ _ _ _ _ _ _ _ w h0u h0v h1u h1v hb k0a k0b k0d k1a k1b k1d k2a k2b k2d k3a k3b k3d k4a k4b k4d (Lib.hid h0b) (Lib.hid h1b) hTab
end Go.Proofs.YtjeijmnhbckjdaaGreatDoor
