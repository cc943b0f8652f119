/- Fixed cases: the walk. -/
import Derived.Test.YtjeijmnhbckjdaaGreatDoorQAnndkn
import Derived.Test.YtjeijmnhbckjdaaGreatDoorQGdgkeg
import Derived.Test.YtjeijmnhbckjdaaGreatDoorQGfkbem
namespace Go.Proofs.YtjeijmnhbckjdaaGreatDoor
open Go.RowKit
set_option linter.unusedVariables false

theorem vb_zero (w : World) : VB w (gv false none 0 0 false none 0 0 false none 0 0) false := fun w' _ =>
  ⟨eValid_Z _ 0 0 0 w' (RG.mk (RI.zero _) (RI.zero _) (RI.zero _)) lim0 lim0 lim0 (Lib.hid rfl), qValid_Z _ 0 0 0 w' (RG.mk (RI.zero _) (RI.zero _) (RI.zero _)) lim0 lim0 lim0 (Lib.hid rfl)⟩
theorem is_m102 : Is (⟨-1/2, 0⟩ : GQ) (-1) 0 2 := ⟨⟨by decide, by decide⟩, by show (-1/2 : Rat) = ((-1 : Int) : Rat) / ((2 : Int) : Rat); first | (simp only [Rat.intCast_neg, Rat.intCast_ofNat]; done) | grind, by show (0 : Rat) = ((0 : Int) : Rat) / ((2 : Int) : Rat); grind⟩
theorem sz_m102 : Sz 64 (-1) 0 2 := ⟨by decide, by decide, by decide⟩
theorem rd_half : Rd (⟨(⟨1/2, 0⟩ : GQ), GQ.i 0 0⟩ : PQ) 1 1 := Rd.of (p := ⟨⟨1/2, 0⟩, GQ.i 0 0⟩) is_102 (is_i 0 0) (Rd.at_ (by decide) (by decide) (by decide))
theorem rd_mhalf : Rd (⟨(⟨-1/2, 0⟩ : GQ), GQ.i 0 0⟩ : PQ) 1 0 := Rd.of (p := ⟨⟨-1/2, 0⟩, GQ.i 0 0⟩) is_m102 (is_i 0 0) (Rd.at_ (by decide) (by decide) (by decide))
theorem xText_e {v : Value} {q : GQ} {n : Nat} {w : World} {a b d : Int} (l : Array UInt8) (hX : GV w v q n) (hn : n ≤ 12800) (hTab : Tab w) (I : Is q a b d) (hl : (gtx a b d).toArray = l) :
    Calls Tryz.prog 37 #[v] w fun e w' => e = .returned (.string ⟨l⟩) ∧ Ext w w' := by
  have := xText_ok v q n w hX hn hTab I
  rwa [hl] at this
theorem gtx_e1 : (gtx 0 0 1).toArray = #[48, 43, 48, 105] := by kernel_rfl
theorem gtx_e2 : (gtx 3 (-1) 1).toArray = #[51, 45, 49, 105] := by kernel_rfl

set_option maxRecDepth 100000 in
set_option maxHeartbeats 51200000 in
theorem examples_ok  (w : World) (hTab : Tab w)
      :
    Calls Tryz.prog 8 #[] w fun e w' => e = .returned (.bool true) ∧ Ext w w' := by
  have hS := St.start w
  go_enter Tryz.func8, Tryz.ntmps8
  go_wp2_with fail
  refine (eOf_bad (1) (1) _ (by omega) (by omega) (by omega) (by omega)).mono ?_
  rintro e w1 ⟨v_, rfl, hv_, hx_⟩
  replace hS := hS.mv hx_
  clear hx_
  obtain ⟨_, rfl, bM, b1, bN, bO, bP, b2, bQ, bR, bS, b3, bT, bU, rfl, a6, a7, a8⟩ := hv_
  replace hS := hS.addI a6
  clear a6
  replace hS := hS.addI a7
  clear a7
  replace hS := hS.addI a8
  clear a8
  have o1 : Own w w1.heap.size := Own.of hS.ext (by simp)
  have d2 := (St.al hS 26 #[.bool false, .slice none 0 0, .bool false, .slice none 0 0, .bool false, .slice none 0 0] (g := w1.heap.size) (by simp))
  have k_1 := (d2.blk 0 rfl).cell
  have k_2 := (d2.blk 0 rfl).frozen
  go_wp2_with fail
  clear k_1 k_2
  clear d2
  replace hS := (St.al hS 26 #[.bool bM, .slice b1 bN bO, .bool bP, .slice b2 bQ bR, .bool bS, .slice b3 bT bU] (g := w1.heap.size) (by simp))
  generalize (w1.alloc (.cells #[.bool bM, .slice b1 bN bO, .bool bP, .slice b2 bQ bR, .bool bS, .slice b3 bT bU] 26)) = w2 at hS ⊢
  generalize w1.heap.size = g1 at hS o1 ⊢
  refine (qInt_ok (1) (0) _ (by omega) (by omega) (by omega) (by omega)).mono ?_
  rintro e w3 ⟨v_, rfl, hv_, hx_⟩
  replace hS := hS.mv hx_
  clear hx_
  obtain ⟨s22a, dU, n22a, c22a, s22b, dV, n22b, c22b, s22d, dW, n22d, c22d, rfl, a9, aa, ab⟩ := hv_
  replace hS := hS.addI a9
  clear a9
  replace hS := hS.addI aa
  clear aa
  replace hS := hS.addI ab
  clear ab
  go_wp2_with fail
  refine (qInt_ok (0) (0) _ (by omega) (by omega) (by omega) (by omega)).mono ?_
  rintro e w4 ⟨v_, rfl, hv_, hx_⟩
  replace hS := hS.mv hx_
  clear hx_
  obtain ⟨s23a, dX, n23a, c23a, s23b, dY, n23b, c23b, s23d, dZ, n23d, c23d, rfl, ac, ad, ae⟩ := hv_
  replace hS := hS.addI ac
  clear ac
  replace hS := hS.addI ad
  clear ad
  replace hS := hS.addI ae
  clear ae
  go_wp2_with fail
  refine (xDiv_z _ (GQ.i (1) (0)) (64) _ (GQ.i (0) (0)) (64) _ ⟨_, _, _, RG.mk (hS.num 5 rfl) (hS.num 4 rfl) (hS.num 3 rfl), (is_i (1) (0)), (sz_i (by omega) (by omega) (by omega) (by omega))⟩ ⟨_, _, _, RG.mk (hS.num 2 rfl) (hS.num 1 rfl) (hS.num 0 rfl), (is_i (0) (0)), (sz_i (by omega) (by omega) (by omega) (by omega))⟩ (Lib.hid rfl) (by omega)).mono ?_
  rintro e w5 ⟨v_, rfl, hv_, hx_⟩
  replace hS := hS.mv hx_
  clear hx_
  obtain ⟨_, rfl, bV, b4, bW, bX, bY, b5, bZ, c0, c1, b6, c2, c3, rfl, af, ag, ah⟩ := hv_
  replace hS := hS.addI af
  clear af
  replace hS := hS.addI ag
  clear ag
  replace hS := hS.addI ah
  clear ah
  have o3 : Own w w5.heap.size := Own.of hS.ext (by simp)
  have d3 := (St.al hS 26 #[.bool false, .slice none 0 0, .bool false, .slice none 0 0, .bool false, .slice none 0 0] (g := w5.heap.size) (by simp))
  have k_3 := (d3.blk 0 rfl).cell
  have k_4 := (d3.blk 0 rfl).frozen
  go_wp2_with fail
  clear k_3 k_4
  clear d3
  replace hS := (St.al hS 26 #[.bool bV, .slice b4 bW bX, .bool bY, .slice b5 bZ c0, .bool c1, .slice b6 c2 c3] (g := w5.heap.size) (by simp))
  generalize (w5.alloc (.cells #[.bool bV, .slice b4 bW bX, .bool bY, .slice b5 bZ c0, .bool c1, .slice b6 c2 c3] 26)) = w6 at hS ⊢
  generalize w5.heap.size = g3 at hS o3 ⊢
  refine (qInt_ok (1) (0) _ (by omega) (by omega) (by omega) (by omega)).mono ?_
  rintro e w7 ⟨v_, rfl, hv_, hx_⟩
  replace hS := hS.mv hx_
  clear hx_
  obtain ⟨d4, c4, d5, d6, d7, c5, d8, d9, da, c6, db, dc, rfl, ai, aj, ak⟩ := hv_
  replace hS := hS.addI ai
  clear ai
  replace hS := hS.addI aj
  clear aj
  replace hS := hS.addI ak
  clear ak
  go_wp2_with fail
  refine (xAdd_bad false none 0 0 false none 0 0 false none 0 0 false d4 c4 d5 d6 d7 c5 d8 d9 da c6 db dc true _ ((vb_zero w).ext hS.ext) (GV.vb (q := (GQ.i (1) (0))) (n := 64) ⟨_, _, _, RG.mk (hS.num 2 rfl) (hS.num 1 rfl) (hS.num 0 rfl), (is_i (1) (0)), (sz_i (by omega) (by omega) (by omega) (by omega))⟩ (by omega)) (Lib.hid rfl)).mono ?_
  rintro e w8 ⟨v_, rfl, hv_, hx_⟩
  replace hS := hS.mv hx_
  clear hx_
  obtain ⟨_, rfl, c7, b7, c8, c9, ca, b8, cb, cc, cd, b9, ce, cf, rfl, am, an, ao⟩ := hv_
  replace hS := hS.addI am
  clear am
  replace hS := hS.addI an
  clear an
  replace hS := hS.addI ao
  clear ao
  have o5 : Own w w8.heap.size := Own.of hS.ext (by simp)
  have dd := (St.al hS 26 #[.bool false, .slice none 0 0, .bool false, .slice none 0 0, .bool false, .slice none 0 0] (g := w8.heap.size) (by simp))
  have k_5 := (dd.blk 0 rfl).cell
  have k_6 := (dd.blk 0 rfl).frozen
  go_wp2_with fail
  clear k_5 k_6
  clear dd
  replace hS := (St.al hS 26 #[.bool c7, .slice b7 c8 c9, .bool ca, .slice b8 cb cc, .bool cd, .slice b9 ce cf] (g := w8.heap.size) (by simp))
  generalize (w8.alloc (.cells #[.bool c7, .slice b7 c8 c9, .bool ca, .slice b8 cb cc, .bool cd, .slice b9 ce cf] 26)) = w9 at hS ⊢
  generalize w8.heap.size = g5 at hS o5 ⊢
  refine (qInt_ok (1) (0) _ (by omega) (by omega) (by omega) (by omega)).mono ?_
  rintro e w10 ⟨v_, rfl, hv_, hx_⟩
  replace hS := hS.mv hx_
  clear hx_
  obtain ⟨de, cg, df, dg, dh, ch, di, dj, dk, ci, dl, dm, rfl, ap, aq, ar⟩ := hv_
  replace hS := hS.addI ap
  clear ap
  replace hS := hS.addI aq
  clear aq
  replace hS := hS.addI ar
  clear ar
  go_wp2_with fail
  refine (qInt_ok (0) (0) _ (by omega) (by omega) (by omega) (by omega)).mono ?_
  rintro e w11 ⟨v_, rfl, hv_, hx_⟩
  replace hS := hS.mv hx_
  clear hx_
  obtain ⟨dn, cj, dp, dq, dr, ck, ds, dt, du, cl, dv, dw, rfl, au, av, aw⟩ := hv_
  replace hS := hS.addI au
  clear au
  replace hS := hS.addI av
  clear av
  replace hS := hS.addI aw
  clear aw
  go_wp2_with fail
  refine (xRound_badl de cg df dg dh ch di dj dk ci dl dm dn cj dp dq dr ck ds dt du cl dv dw true true (0) _ (GV.vb (q := (GQ.i (1) (0))) (n := 64) ⟨_, _, _, RG.mk (hS.num 5 rfl) (hS.num 4 rfl) (hS.num 3 rfl), (is_i (1) (0)), (sz_i (by omega) (by omega) (by omega) (by omega))⟩ (by omega)) (GV.vb (q := (GQ.i (0) (0))) (n := 64) ⟨_, _, _, RG.mk (hS.num 2 rfl) (hS.num 1 rfl) (hS.num 0 rfl), (is_i (0) (0)), (sz_i (by omega) (by omega) (by omega) (by omega))⟩ (by omega)) (by omega) (by omega) (Lib.hid rfl) (Lib.hid (by decide))).mono ?_
  rintro e w12 ⟨rfl, hx_⟩
  replace hS := hS.mv hx_
  clear hx_
  go_wp2_with fail
  refine (qInt_ok (1) (0) _ (by omega) (by omega) (by omega) (by omega)).mono ?_
  rintro e w13 ⟨v_, rfl, hv_, hx_⟩
  replace hS := hS.mv hx_
  clear hx_
  obtain ⟨dx, cn, dy, dz, dA, co, dB, dC, dD, cp, dE, dF, rfl, ax, ay, az⟩ := hv_
  replace hS := hS.addI ax
  clear ax
  replace hS := hS.addI ay
  clear ay
  replace hS := hS.addI az
  clear az
  go_wp2_with fail
  refine (xTurn_bad dx cn dy dz dA co dB dC dD cp dE dF false none 0 0 false none 0 0 false none 0 0 true false (1) _ (GV.vb (q := (GQ.i (1) (0))) (n := 64) ⟨_, _, _, RG.mk (hS.num 2 rfl) (hS.num 1 rfl) (hS.num 0 rfl), (is_i (1) (0)), (sz_i (by omega) (by omega) (by omega) (by omega))⟩ (by omega)) ((vb_zero w).ext hS.ext) (by omega) (by omega) (Lib.hid rfl)).mono ?_
  rintro e cq ⟨v_, rfl, hv_, hx_⟩
  replace hS := hS.mv hx_
  clear hx_
  obtain ⟨_, rfl, cr, ba, cs, ct, cu, bb, cv, cw, cx, bc, cy, cz, cA, bd, cB, cC, cD, be, cE, cF, cG, bf, cH, cI, rfl, aA, aB, aC, aD, aE, aF⟩ := hv_
  replace hS := hS.addI aA
  clear aA
  replace hS := hS.addI aB
  clear aB
  replace hS := hS.addI aC
  clear aC
  replace hS := hS.addI aD
  clear aD
  replace hS := hS.addI aE
  clear aE
  replace hS := hS.addI aF
  clear aF
  have o9 : Own w cq.heap.size := Own.of hS.ext (by simp)
  have dG := (St.al hS 37 #[.bool false, .slice none 0 0, .bool false, .slice none 0 0, .bool false, .slice none 0 0, .bool false, .slice none 0 0, .bool false, .slice none 0 0, .bool false, .slice none 0 0] (g := cq.heap.size) (by simp))
  have k_7 := (dG.blk 0 rfl).cell
  have k_8 := (dG.blk 0 rfl).frozen
  go_wp2_with fail
  clear k_7 k_8
  clear dG
  replace hS := (St.al hS 37 #[.bool cr, .slice ba cs ct, .bool cu, .slice bb cv cw, .bool cx, .slice bc cy cz, .bool cA, .slice bd cB cC, .bool cD, .slice be cE cF, .bool cG, .slice bf cH cI] (g := cq.heap.size) (by simp))
  generalize (cq.alloc (.cells #[.bool cr, .slice ba cs ct, .bool cu, .slice bb cv cw, .bool cx, .slice bc cy cz, .bool cA, .slice bd cB cC, .bool cD, .slice be cE cF, .bool cG, .slice bf cH cI] 37)) = w15 at hS ⊢
  generalize cq.heap.size = g9 at hS o9 ⊢
  refine (qOf_ok (1) _ (by omega) (by omega)).mono ?_
  rintro e w16 ⟨v_, rfl, hv_, hx_⟩
  replace hS := hS.mv hx_
  clear hx_
  obtain ⟨s46, A_46, n46, c46, rfl, bg⟩ := RI.opn hv_
  clear hv_
  replace hS := hS.addI bg
  clear bg
  go_wp2_with fail
  refine (qOf_ok (0) _ (by omega) (by omega)).mono ?_
  rintro e w17 ⟨v_, rfl, hv_, hx_⟩
  replace hS := hS.mv hx_
  clear hx_
  obtain ⟨s47, A_47, n47, c47, rfl, bh⟩ := RI.opn hv_
  clear hv_
  replace hS := hS.addI bh
  clear bh
  go_wp2_with fail
  refine (qOf_ok (2) _ (by omega) (by omega)).mono ?_
  rintro e w18 ⟨v_, rfl, hv_, hx_⟩
  replace hS := hS.mv hx_
  clear hx_
  obtain ⟨s48, A_48, n48, c48, rfl, bi⟩ := RI.opn hv_
  clear hv_
  replace hS := hS.addI bi
  clear bi
  go_wp2_with fail
  refine (qMake_ok _ _ _ (1 : Int) (0 : Int) (2 : Int) (1 : Int) (0 : Int) (2 : Int) _ (hS.num 2 rfl) (hS.num 1 rfl) (hS.num 0 rfl) (lt_lim64 (by omega) (by omega)) (lt_lim64 (by omega) (by omega)) (lt_lim64 (by omega) (by omega)) (by decide) (show ((1 : Int), (0 : Int), (2 : Int)) = nf 1 0 2 by decide)).mono ?_
  rintro e w19 ⟨v_, rfl, hv_, hx_⟩
  replace hS := hS.mv hx_
  clear hx_
  obtain ⟨cJ, bj, cK, cL, cM, bk, cN, cO, cP, bl, cQ, cR, rfl, aG, aH, aI⟩ := hv_
  replace hS := hS.addI aG
  clear aG
  replace hS := hS.addI aH
  clear aH
  replace hS := hS.addI aI
  clear aI
  go_wp2_with fail
  refine (qInt_ok (0) (0) _ (by omega) (by omega) (by omega) (by omega)).mono ?_
  rintro e cS ⟨v_, rfl, hv_, hx_⟩
  replace hS := hS.mv hx_
  clear hx_
  obtain ⟨cT, bm, cU, cV, cW, bn, cX, cY, cZ, bo, d0, d1, rfl, aJ, aK, aL⟩ := hv_
  replace hS := hS.addI aJ
  clear aJ
  replace hS := hS.addI aK
  clear aK
  replace hS := hS.addI aL
  clear aL
  have o11 : Own w cS.heap.size := Own.of hS.ext (by simp)
  have dH := (St.al hS 37 #[.bool false, .slice none 0 0, .bool false, .slice none 0 0, .bool false, .slice none 0 0, .bool false, .slice none 0 0, .bool false, .slice none 0 0, .bool false, .slice none 0 0] (g := cS.heap.size) (by simp))
  have k_9 := (dH.blk 0 rfl).cell
  have dI := (dH.blk 0 rfl).frozen
  go_wp2_with fail
  clear k_9 dI
  clear dH
  replace hS := (St.al hS 37 #[.bool cJ, .slice bj cK cL, .bool cM, .slice bk cN cO, .bool cP, .slice bl cQ cR, .bool cT, .slice bm cU cV, .bool cW, .slice bn cX cY, .bool cZ, .slice bo d0 d1] (g := cS.heap.size) (by simp))
  generalize (cS.alloc (.cells #[.bool cJ, .slice bj cK cL, .bool cM, .slice bk cN cO, .bool cP, .slice bl cQ cR, .bool cT, .slice bm cU cV, .bool cW, .slice bn cX cY, .bool cZ, .slice bo d0 d1] 37)) = w21 at hS ⊢
  generalize cS.heap.size = g11 at hS o11 ⊢
  refine (qOf_ok (-1) _ (by omega) (by omega)).mono ?_
  rintro e w22 ⟨v_, rfl, hv_, hx_⟩
  replace hS := hS.mv hx_
  clear hx_
  obtain ⟨s52, A_52, n52, c52, rfl, bp⟩ := RI.opn hv_
  clear hv_
  replace hS := hS.addI bp
  clear bp
  go_wp2_with fail
  refine (qOf_ok (0) _ (by omega) (by omega)).mono ?_
  rintro e w23 ⟨v_, rfl, hv_, hx_⟩
  replace hS := hS.mv hx_
  clear hx_
  obtain ⟨s53, A_53, n53, c53, rfl, bq⟩ := RI.opn hv_
  clear hv_
  replace hS := hS.addI bq
  clear bq
  go_wp2_with fail
  refine (qOf_ok (2) _ (by omega) (by omega)).mono ?_
  rintro e w24 ⟨v_, rfl, hv_, hx_⟩
  replace hS := hS.mv hx_
  clear hx_
  obtain ⟨s54, A_54, n54, c54, rfl, br⟩ := RI.opn hv_
  clear hv_
  replace hS := hS.addI br
  clear br
  go_wp2_with fail
  refine (qMake_ok _ _ _ (-1 : Int) (0 : Int) (2 : Int) (-1 : Int) (0 : Int) (2 : Int) _ (hS.num 2 rfl) (hS.num 1 rfl) (hS.num 0 rfl) (lt_lim64 (by omega) (by omega)) (lt_lim64 (by omega) (by omega)) (lt_lim64 (by omega) (by omega)) (by decide) (show ((-1 : Int), (0 : Int), (2 : Int)) = nf (-1) 0 2 by decide)).mono ?_
  rintro e w25 ⟨v_, rfl, hv_, hx_⟩
  replace hS := hS.mv hx_
  clear hx_
  obtain ⟨bs, aM, bt, bu, bv, aN, bw, bx, bz, aO, bA, bB, rfl, aP, aQ, aR⟩ := hv_
  replace hS := hS.addI aP
  clear aP
  replace hS := hS.addI aQ
  clear aQ
  replace hS := hS.addI aR
  clear aR
  go_wp2_with fail
  refine (qInt_ok (0) (0) _ (by omega) (by omega) (by omega) (by omega)).mono ?_
  rintro e bL ⟨v_, rfl, hv_, hx_⟩
  replace hS := hS.mv hx_
  clear hx_
  obtain ⟨bC, aS, bD, bE, bF, aT, bG, bH, bI, aU, bJ, bK, rfl, aV, aW, aX⟩ := hv_
  replace hS := hS.addI aV
  clear aV
  replace hS := hS.addI aW
  clear aW
  replace hS := hS.addI aX
  clear aX
  have o12 : Own w bL.heap.size := Own.of hS.ext (by simp)
  have dJ := (St.al hS 37 #[.bool false, .slice none 0 0, .bool false, .slice none 0 0, .bool false, .slice none 0 0, .bool false, .slice none 0 0, .bool false, .slice none 0 0, .bool false, .slice none 0 0] (g := bL.heap.size) (by simp))
  have dK := (dJ.blk 0 rfl).cell
  have dL := (dJ.blk 0 rfl).frozen
  have e0 := (St.al hS 37 #[.bool bs, .slice aM bt bu, .bool bv, .slice aN bw bx, .bool bz, .slice aO bA bB, .bool bC, .slice aS bD bE, .bool bF, .slice aT bG bH, .bool bI, .slice aU bJ bK] (g := bL.heap.size) (by simp))
  have dM := (e0.blk 1 rfl).cell
  go_wp2_with fail
  clear dK dL dM
  clear dJ e0
  replace hS := (St.al hS 37 #[.bool bs, .slice aM bt bu, .bool bv, .slice aN bw bx, .bool bz, .slice aO bA bB, .bool bC, .slice aS bD bE, .bool bF, .slice aT bG bH, .bool bI, .slice aU bJ bK] (g := bL.heap.size) (by simp))
  generalize (bL.alloc (.cells #[.bool bs, .slice aM bt bu, .bool bv, .slice aN bw bx, .bool bz, .slice aO bA bB, .bool bC, .slice aS bD bE, .bool bF, .slice aT bG bH, .bool bI, .slice aU bJ bK] 37)) = w27 at hS ⊢
  generalize bL.heap.size = g12 at hS o12 ⊢
  refine (xRound_at _ (⟨(⟨1/2, 0⟩ : GQ), GQ.i (0) (0)⟩ : PQ) (64) (1) 1 1 _ ⟨_, _, _, _, _, _, RP.mk (hS.num 14 rfl) (hS.num 13 rfl) (hS.num 12 rfl) (hS.num 11 rfl) (hS.num 10 rfl) (hS.num 9 rfl), is_102, sz_102, (is_i (0) (0)), (sz_i (by omega) (by omega) (by omega) (by omega))⟩ (by omega) (by omega) (by omega) rd_half (by decide)).mono ?_
  rintro e w28 ⟨rfl, hx_⟩
  replace hS := hS.mv hx_
  clear hx_
  have dN := (hS.blk 0 rfl).cell
  go_wp2_with fail
  clear dN
  refine (xRound_at _ (⟨(⟨-1/2, 0⟩ : GQ), GQ.i (0) (0)⟩ : PQ) (64) (1) 0 0 _ ⟨_, _, _, _, _, _, RP.mk (hS.num 5 rfl) (hS.num 4 rfl) (hS.num 3 rfl) (hS.num 2 rfl) (hS.num 1 rfl) (hS.num 0 rfl), is_m102, sz_m102, (is_i (0) (0)), (sz_i (by omega) (by omega) (by omega) (by omega))⟩ (by omega) (by omega) (by omega) rd_mhalf (by decide)).mono ?_
  rintro e w29 ⟨rfl, hx_⟩
  replace hS := hS.mv hx_
  clear hx_
  go_wp2_with fail
  refine (lxknown_ok _ (tab_ext hTab hS.ext)).mono ?_
  rintro e w30 ⟨rfl, hx_⟩
  replace hS := hS.mv hx_
  clear hx_
  go_wp2_with fail
  refine (qInt_ok (0) (0) _ (by omega) (by omega) (by omega) (by omega)).mono ?_
  rintro e w31 ⟨v_, rfl, hv_, hx_⟩
  replace hS := hS.mv hx_
  clear hx_
  obtain ⟨s98a, e1, n98a, c98a, s98b, e2, n98b, c98b, s98d, e3, n98d, c98d, rfl, aY, aZ, b0⟩ := hv_
  replace hS := hS.addI aY
  clear aY
  replace hS := hS.addI aZ
  clear aZ
  replace hS := hS.addI b0
  clear b0
  go_wp2_with fail
  refine (xText_e (q := (GQ.i (0) (0))) (n := 64) #[48, 43, 48, 105] ⟨_, _, _, RG.mk (hS.num 2 rfl) (hS.num 1 rfl) (hS.num 0 rfl), (is_i (0) (0)), (sz_i (by omega) (by omega) (by omega) (by omega))⟩ (by omega) (tab_ext hTab hS.ext) (is_i (0) (0)) gtx_e1).mono ?_
  rintro e w32 ⟨rfl, hx_⟩
  replace hS := hS.mv hx_
  clear hx_
  go_wp2_with fail
  refine (qInt_ok (3) (-1) _ (by omega) (by omega) (by omega) (by omega)).mono ?_
  rintro e w33 ⟨v_, rfl, hv_, hx_⟩
  replace hS := hS.mv hx_
  clear hx_
  obtain ⟨e4, dO, e5, e6, e7, dP, e8, e9, ea, dQ, eb, ec, rfl, a0, a1, a2⟩ := hv_
  replace hS := hS.addI a0
  clear a0
  replace hS := hS.addI a1
  clear a1
  replace hS := hS.addI a2
  clear a2
  go_wp2_with fail
  refine (xText_e (q := (GQ.i (3) (-1))) (n := 64) #[51, 45, 49, 105] ⟨_, _, _, RG.mk (hS.num 2 rfl) (hS.num 1 rfl) (hS.num 0 rfl), (is_i (3) (-1)), (sz_i (by omega) (by omega) (by omega) (by omega))⟩ (by omega) (tab_ext hTab hS.ext) (is_i (3) (-1)) gtx_e2).mono ?_
  rintro e w34 ⟨rfl, hx_⟩
  replace hS := hS.mv hx_
  clear hx_
  go_wp2_with fail
  refine (xText_bad false none 0 0 false none 0 0 false none 0 0 _ ((vb_zero w).ext hS.ext)).mono ?_
  rintro e w35 ⟨rfl, hx_⟩
  replace hS := hS.mv hx_
  clear hx_
  go_wp2_with fail
  refine (VB.e ((vb_zero w).ext hS.ext)).mono ?_
  rintro e w36 ⟨rfl, hx_⟩
  replace hS := hS.mv hx_
  clear hx_
  go_wp2_with fail
  refine (qInt_ok (0) (0) _ (by omega) (by omega) (by omega) (by omega)).mono ?_
  rintro e w37 ⟨v_, rfl, hv_, hx_⟩
  replace hS := hS.mv hx_
  clear hx_
  obtain ⟨ed, dR, ee, ef, eg, dS, eh, ei, ej, dT, ek, el, rfl, a3, a4, a5⟩ := hv_
  replace hS := hS.addI a3
  clear a3
  replace hS := hS.addI a4
  clear a4
  replace hS := hS.addI a5
  clear a5
  go_wp2_with fail
  refine (xZero_yes _ (GQ.i (0) (0)) (64) _ ⟨_, _, _, RG.mk (hS.num 2 rfl) (hS.num 1 rfl) (hS.num 0 rfl), (is_i (0) (0)), (sz_i (by omega) (by omega) (by omega) (by omega))⟩ (by omega) rfl).mono ?_
  rintro e w38 ⟨rfl, hx_⟩
  replace hS := hS.mv hx_
  clear hx_
  go_wp2_with fail
  refine (xZero_bad false none 0 0 false none 0 0 false none 0 0 _ ((vb_zero w).ext hS.ext)).mono ?_
  rintro e w39 ⟨rfl, hx_⟩
  replace hS := hS.mv hx_
  clear hx_
  go_wp2
  go_ret
  exact ⟨ret_bool (rfl), hS.ext⟩

end Go.Proofs.YtjeijmnhbckjdaaGreatDoor
