/- The examples of the chapter. -/
import Derived.Test.YtjeijmnhbckjdaaGreatDoorQAncjbo
import Derived.Test.YtjeijmnhbckjdaaGreatDoorQGbfggc
import Derived.Test.YtjeijmnhbckjdaaGreatDoorQGhmhlf
namespace Go.Proofs.YtjeijmnhbckjdaaGreatDoor
open Go.RowKit
set_option linter.unusedVariables false

theorem is_k1 : Is (⟨((2 : Int) : Rat) / ((-6 : Int) : Rat), ((-4 : Int) : Rat) / ((-6 : Int) : Rat)⟩ : GQ) (-1) 2 3 := by
  refine ⟨⟨by decide, by decide⟩, ?_, ?_⟩
  · show ((2 : Int) : Rat) / ((-6 : Int) : Rat) = ((-1 : Int) : Rat) / ((3 : Int) : Rat)
    simp only [Rat.intCast_neg, Rat.intCast_ofNat]; grind
  · show ((-4 : Int) : Rat) / ((-6 : Int) : Rat) = ((2 : Int) : Rat) / ((3 : Int) : Rat)
    simp only [Rat.intCast_neg, Rat.intCast_ofNat]; grind
theorem sz_k1 : Sz 64 (-1) 2 3 := ⟨by decide, by decide, by decide⟩
theorem one_zp1 : (⟨GQ.i 1 0, GQ.i 0 0⟩ : PQ) * PQ.zp 1 = PQ.mk4 0 (1/2) (1/2) 0 := by
  rw [show (⟨GQ.i 1 0, GQ.i 0 0⟩ : PQ) = PQ.one from rfl, PQ.mul_comm', PQ.mul_one', PQ.zp1]
theorem is_012 : Is (⟨0, 1/2⟩ : GQ) 0 1 2 := ⟨⟨by decide, by decide⟩, by show (0 : Rat) = ((0 : Int) : Rat) / ((2 : Int) : Rat); grind, by show (1/2 : Rat) = ((1 : Int) : Rat) / ((2 : Int) : Rat); grind⟩
theorem is_102 : Is (⟨1/2, 0⟩ : GQ) 1 0 2 := ⟨⟨by decide, by decide⟩, by show (1/2 : Rat) = ((1 : Int) : Rat) / ((2 : Int) : Rat); grind, by show (0 : Rat) = ((0 : Int) : Rat) / ((2 : Int) : Rat); grind⟩
theorem sz_012 : Sz 64 0 1 2 := ⟨by decide, by decide, by decide⟩
theorem sz_102 : Sz 64 1 0 2 := ⟨by decide, by decide, by decide⟩
theorem rd_k : Rd ((⟨GQ.i 1 0, GQ.i 0 0⟩ : PQ) * PQ.zp 1) 1 1 := by
  rw [one_zp1]
  exact Rd.of (p := PQ.mk4 0 (1/2) (1/2) 0) is_012 is_102 (Rd.at_ (by decide) (by decide) (by decide))
theorem gtx_k : gtx (-1) 2 3 = [45, 49, 43, 50, 105, 47, 51] := by kernel_rfl
theorem xText_k (v : Value) (q : GQ) (n : Nat) (w : World) (hX : GV w v q n) (hn : n ≤ 12800) (hTab : Tab w) (I : Is q (-1) 2 3) :
    Calls Tryz.prog 37 #[v] w fun e w' => e = .returned (.string ⟨#[45, 49, 43, 50, 105, 47, 51]⟩) ∧ Ext w w' := by
  have := xText_ok v q n w hX hn hTab I
  rwa [gtx_k] at this

set_option maxRecDepth 100000 in
set_option maxHeartbeats 6400000 in
theorem lxknown_ok  (w : World) (hTab : Tab w)
      :
    Calls Tryz.prog 12 #[] w fun e w' => e = .returned (.bool true) ∧ Ext w w' := by
  have hS := St.start w
  go_enter Tryz.func12, Tryz.ntmps12
  go_wp2_with fail
  refine (toTG (eOf_q (2) (-4) (-6) _ (by omega) (by omega) (by omega) (by omega) (by omega) (by omega) (by omega)) is_k1).mono ?_
  rintro e w1 ⟨v_, rfl, hv_, hx_⟩
  replace hS := hS.mv hx_
  clear hx_
  obtain ⟨_, rfl, c3, b7, c4, c5, c6, b8, c7, c8, c9, b9, ca, cb, rfl, av, aw, ax⟩ := hv_
  replace hS := hS.addI av
  clear av
  replace hS := hS.addI aw
  clear aw
  replace hS := hS.addI ax
  clear ax
  have o1 : Own w w1.heap.size := Own.of hS.ext (by simp)
  have cD := (St.al hS 26 #[.bool false, .slice none 0 0, .bool false, .slice none 0 0, .bool false, .slice none 0 0] (g := w1.heap.size) (by simp))
  have k_1 := (cD.blk 0 rfl).cell
  have k_2 := (cD.blk 0 rfl).frozen
  go_wp2_with fail
  clear k_1 k_2
  clear cD
  replace hS := (St.al hS 26 #[.bool c3, .slice b7 c4 c5, .bool c6, .slice b8 c7 c8, .bool c9, .slice b9 ca cb] (g := w1.heap.size) (by simp))
  generalize (w1.alloc (.cells #[.bool c3, .slice b7 c4 c5, .bool c6, .slice b8 c7 c8, .bool c9, .slice b9 ca cb] 26)) = w2 at hS ⊢
  generalize w1.heap.size = g1 at hS o1 ⊢
  refine (qInt_ok (1) (0) _ (by omega) (by omega) (by omega) (by omega)).mono ?_
  rintro e w3 ⟨v_, rfl, hv_, hx_⟩
  replace hS := hS.mv hx_
  clear hx_
  obtain ⟨s14a, cM, n14a, c14a, s14b, cN, n14b, c14b, s14d, cO, n14d, c14d, rfl, ay, az, aA⟩ := hv_
  replace hS := hS.addI ay
  clear ay
  replace hS := hS.addI az
  clear az
  replace hS := hS.addI aA
  clear aA
  go_wp2_with fail
  refine (toTP (xPlain_w _ (GQ.i (1) (0)) (64) _ ⟨_, _, _, RG.mk (hS.num 2 rfl) (hS.num 1 rfl) (hS.num 0 rfl), (is_i (1) (0)), (sz_i (by omega) (by omega) (by omega) (by omega))⟩ (by omega) (by omega)) (is_i (1) (0)) (is_i 0 0)).mono ?_
  rintro e w4 ⟨v_, rfl, hv_, hx_⟩
  replace hS := hS.mv hx_
  clear hx_
  obtain ⟨_, rfl, ba, aB, bb, bc, bd, aC, be, bf, bg, aD, bh, bi, bj, aE, bk, bl, bm, aF, bn, bo, bp, aG, bq, br, rfl, aH, aI, aJ, aK, aL, aM⟩ := hv_
  replace hS := hS.addI aH
  clear aH
  replace hS := hS.addI aI
  clear aI
  replace hS := hS.addI aJ
  clear aJ
  replace hS := hS.addI aK
  clear aK
  replace hS := hS.addI aL
  clear aL
  replace hS := hS.addI aM
  clear aM
  have o3 : Own w w4.heap.size := Own.of hS.ext (by simp)
  have cE := (St.al hS 37 #[.bool false, .slice none 0 0, .bool false, .slice none 0 0, .bool false, .slice none 0 0, .bool false, .slice none 0 0, .bool false, .slice none 0 0, .bool false, .slice none 0 0] (g := w4.heap.size) (by simp))
  have k_3 := (cE.blk 0 rfl).cell
  have k_4 := (cE.blk 0 rfl).frozen
  have cP := (St.al hS 37 #[.bool ba, .slice aB bb bc, .bool bd, .slice aC be bf, .bool bg, .slice aD bh bi, .bool bj, .slice aE bk bl, .bool bm, .slice aF bn bo, .bool bp, .slice aG bq br] (g := w4.heap.size) (by simp))
  have k_5 := (cP.blk 0 rfl).cell
  go_wp2_with fail
  clear k_3 k_4 k_5
  clear cE cP
  replace hS := (St.al hS 37 #[.bool ba, .slice aB bb bc, .bool bd, .slice aC be bf, .bool bg, .slice aD bh bi, .bool bj, .slice aE bk bl, .bool bm, .slice aF bn bo, .bool bp, .slice aG bq br] (g := w4.heap.size) (by simp))
  generalize (w4.alloc (.cells #[.bool ba, .slice aB bb bc, .bool bd, .slice aC be bf, .bool bg, .slice aD bh bi, .bool bj, .slice aE bk bl, .bool bm, .slice aF bn bo, .bool bp, .slice aG bq br] 37)) = w5 at hS ⊢
  generalize w4.heap.size = g3 at hS o3 ⊢
  obtain ⟨cF, cG, cH, aZ⟩ := is_ex (((⟨GQ.i (1) (0), (GQ.i 0 0)⟩ : PQ) * PQ.zp 1)).u
  obtain ⟨cI, cJ, cK, b0⟩ := is_ex (((⟨GQ.i (1) (0), (GQ.i 0 0)⟩ : PQ) * PQ.zp 1)).v
  have cc : Sz (2 * (64 + 2) + 69) cF cG cH := (Bd.produ (p := (⟨GQ.i (1) (0), (GQ.i 0 0)⟩ : PQ)) (q := PQ.zp 1) (m := 64) (n := 2) ⟨_, _, _, (is_i (1) (0)), (sz_i (by omega) (by omega) (by omega) (by omega))⟩ ⟨_, _, _, (is_i 0 0), (sz_0 (n := 64) (by omega))⟩ (Bd.zp (by omega)).1 (Bd.zp (by omega)).2).sz aZ
  have cd : Sz (2 * (64 + 2) + 69) cI cJ cK := (Bd.prodv (p := (⟨GQ.i (1) (0), (GQ.i 0 0)⟩ : PQ)) (q := PQ.zp 1) (m := 64) (n := 2) ⟨_, _, _, (is_i (1) (0)), (sz_i (by omega) (by omega) (by omega) (by omega))⟩ ⟨_, _, _, (is_i 0 0), (sz_0 (n := 64) (by omega))⟩ (Bd.zp (by omega)).1 (Bd.zp (by omega)).2).sz b0
  refine (toTP (xTurn_one _ (⟨GQ.i (1) (0), (GQ.i 0 0)⟩ : PQ) (64) _ ⟨_, _, _, _, _, _, RP.mk (hS.num 5 rfl) (hS.num 4 rfl) (hS.num 3 rfl) (hS.num 2 rfl) (hS.num 1 rfl) (hS.num 0 rfl), (is_i (1) (0)), (sz_i (by omega) (by omega) (by omega) (by omega)), (is_i 0 0), (sz_0 (n := 64) (by omega))⟩ (by omega)) aZ b0).mono ?_
  rintro e w6 ⟨v_, rfl, hv_, hx_⟩
  replace hS := hS.mv hx_
  clear hx_
  obtain ⟨_, rfl, bs, aN, bt, bu, bv, aO, bw, bx, bz, aP, bA, bB, bC, aQ, bD, bE, bF, aR, bG, bH, bI, aS, bJ, bK, rfl, aT, aU, aV, aW, aX, aY⟩ := hv_
  replace hS := hS.addI aT
  clear aT
  replace hS := hS.addI aU
  clear aU
  replace hS := hS.addI aV
  clear aV
  replace hS := hS.addI aW
  clear aW
  replace hS := hS.addI aX
  clear aX
  replace hS := hS.addI aY
  clear aY
  have o5 : Own w w6.heap.size := Own.of hS.ext (by simp)
  have cL := (St.al hS 37 #[.bool false, .slice none 0 0, .bool false, .slice none 0 0, .bool false, .slice none 0 0, .bool false, .slice none 0 0, .bool false, .slice none 0 0, .bool false, .slice none 0 0] (g := w6.heap.size) (by simp))
  have k_6 := (cL.blk 0 rfl).cell
  have k_7 := (cL.blk 0 rfl).frozen
  have cQ := (St.al hS 37 #[.bool bs, .slice aN bt bu, .bool bv, .slice aO bw bx, .bool bz, .slice aP bA bB, .bool bC, .slice aQ bD bE, .bool bF, .slice aR bG bH, .bool bI, .slice aS bJ bK] (g := w6.heap.size) (by simp))
  have k_8 := (cQ.blk 0 rfl).cell
  go_wp2_with fail
  clear k_6 k_7 k_8
  clear cL cQ
  replace hS := (St.al hS 37 #[.bool bs, .slice aN bt bu, .bool bv, .slice aO bw bx, .bool bz, .slice aP bA bB, .bool bC, .slice aQ bD bE, .bool bF, .slice aR bG bH, .bool bI, .slice aS bJ bK] (g := w6.heap.size) (by simp))
  generalize (w6.alloc (.cells #[.bool bs, .slice aN bt bu, .bool bv, .slice aO bw bx, .bool bz, .slice aP bA bB, .bool bC, .slice aQ bD bE, .bool bF, .slice aR bG bH, .bool bI, .slice aS bJ bK] 37)) = w7 at hS ⊢
  generalize w6.heap.size = g5 at hS o5 ⊢
  refine (xRound_at _ ((⟨GQ.i (1) (0), (GQ.i 0 0)⟩ : PQ) * PQ.zp 1) (2 * (64 + 2) + 69) (1) 1 1 _ ⟨_, _, _, _, _, _, RP.mk (hS.num 5 rfl) (hS.num 4 rfl) (hS.num 3 rfl) (hS.num 2 rfl) (hS.num 1 rfl) (hS.num 0 rfl), aZ, cc, b0, cd⟩ (by omega) (by omega) (by omega) rd_k (by decide)).mono ?_
  rintro e w8 ⟨rfl, hx_⟩
  replace hS := hS.mv hx_
  clear hx_
  go_wp2_with fail
  have Y5 := ExtOf.blk (hS.blk 0 rfl)
  have Y1 := ExtOf.blk (hS.blk 2 rfl)
  have hE_ := hS.ext
  refine wp_region_tame 41 (hasF [(4, .any), (18, .any), (19, .any), (20, .any), (21, .any), (22, .any), (27, .any), (28, .any), (29, .any), (30, .any), (31, .any)]) (Fcs [(4, .eq (.string ⟨#[45, 49, 43, 50, 105, 47, 51]⟩)), (18, .ri ((0 : Int))), (19, .ri ((1 : Int))), (20, .ri ((2 : Int))), (21, .rg ((0 : Int)) ((1 : Int)) ((2 : Int))), (22, .eq (.bool true)), (27, .ri ((1 : Int))), (28, .ri ((0 : Int))), (29, .ri ((2 : Int))), (30, .rg ((1 : Int)) ((0 : Int)) ((2 : Int))), (31, .eq (.bool true))]) (Fcs_stab _) (by kernel_rfl) (by kernel_rfl) ?_
  simp only [tk1, tk0, dp1, dp0]
  refine wpT_quiet 4 (by rfl) (by kernel_rfl) ?_
  simp only [tk1, tk0, dp1, dp0]
  repeat (go_big_quiet_step (fail))
  refine wpQuiet_nil ?_
  refine wpT_eff (by rfl) (by rfl) (by rfl) ?_ ?_
  · intro W_ hK
    have hW := hK.1
    clear hK
    go_simp
    exact ⟨rfl, (xText_k _ (⟨((2 : Int) : Rat) / ((-6 : Int) : Rat), ((-4 : Int) : Rat) / ((-6 : Int) : Rat)⟩ : GQ) (64) _ ⟨_, _, _, RG.mk (RI.ext (hS.num 17 rfl) hW) (RI.ext (hS.num 16 rfl) hW) (RI.ext (hS.num 15 rfl) hW), is_k1, sz_k1⟩ (by omega) (tab_ext hTab (hE_.trans hW)) is_k1).mono fun e w' ⟨he, hx⟩ => ⟨_, he, hx, rfl⟩⟩
  intro v_ lo32 hi32 hr_
  obtain ⟨W_, hW_⟩ := hr_
  obtain rfl : v_ = .string ⟨#[45, 49, 43, 50, 105, 47, 51]⟩ := hW_.get
  clear hW_ W_
  try simp only [Act.put, sa0, sa1, sa2]
  refine wpT_quiet 13 (by rfl) (by kernel_rfl) ?_
  simp only [tk1, tk0, dp1, dp0]
  repeat (go_big_quiet_step (fail))
  refine wpQuiet_nil ?_
  refine wpT_eff (by rfl) (by rfl) (by rfl) ?_ ?_
  · intro W_ hK
    have hW := hK.1
    clear hK
    go_simp
    exact ⟨rfl, (qOf_ok (0) _ (by omega) (by omega)).mono fun e w' ⟨v, he, hR, hx⟩ => ⟨v, he, hx, hR⟩⟩
  intro v_ bL bM hr_
  obtain ⟨W_, hW_⟩ := hr_
  have hv_ : Fc.holds (.ri ((0 : Int))) bL bM v_ W_ := hW_.get
  clear hW_
  obtain ⟨ck, b1, cl, cn, rfl, -⟩ := RI.opn hv_
  clear hv_
  clear W_
  try simp only [Act.put, sa0, sa1, sa2]
  refine wpT_eff (by rfl) (by rfl) (by rfl) ?_ ?_
  · intro W_ hK
    have hW := hK.1
    clear hK
    go_simp
    exact ⟨rfl, (qOf_ok (1) _ (by omega) (by omega)).mono fun e w' ⟨v, he, hR, hx⟩ => ⟨v, he, hx, hR⟩⟩
  intro v_ bN bO hr_
  obtain ⟨W_, hW_⟩ := hr_
  have hv_ : Fc.holds (.ri ((1 : Int))) bN bO v_ W_ := hW_.get
  clear hW_
  obtain ⟨co, b2, cp, cq, rfl, -⟩ := RI.opn hv_
  clear hv_
  clear W_
  try simp only [Act.put, sa0, sa1, sa2]
  refine wpT_eff (by rfl) (by rfl) (by rfl) ?_ ?_
  · intro W_ hK
    have hW := hK.1
    clear hK
    go_simp
    exact ⟨rfl, (qOf_ok (2) _ (by omega) (by omega)).mono fun e w' ⟨v, he, hR, hx⟩ => ⟨v, he, hx, hR⟩⟩
  intro v_ bP bQ hr_
  obtain ⟨W_, hW_⟩ := hr_
  have hv_ : Fc.holds (.ri ((2 : Int))) bP bQ v_ W_ := hW_.get
  clear hW_
  obtain ⟨cr, b3, cs, ct, rfl, -⟩ := RI.opn hv_
  clear hv_
  clear W_
  try simp only [Act.put, sa0, sa1, sa2]
  refine wpT_eff (by rfl) (by rfl) (by rfl) ?_ ?_
  · intro W_ hK
    have hW := hK.1
    have ce : RI W_ (iv ck b1 cl cn) (0 : Int) := hK.2 18 ((iv ck b1 cl cn), bL, bM) (by rfl) (anc_of (by kernel_rfl))
    have cf : RI W_ (iv co b2 cp cq) (1 : Int) := hK.2 19 ((iv co b2 cp cq), bN, bO) (by rfl) (anc_of (by kernel_rfl))
    have cg : RI W_ (iv cr b3 cs ct) (2 : Int) := hK.2 20 ((iv cr b3 cs ct), bP, bQ) (by rfl) (anc_of (by kernel_rfl))
    clear hK
    go_simp
    exact ⟨rfl, (qMake_ok _ _ _ (0 : Int) (1 : Int) (2 : Int) (0 : Int) (1 : Int) (2 : Int) _ ce cf cg (lt_lim64 (by omega) (by omega)) (lt_lim64 (by omega) (by omega)) (lt_lim64 (by omega) (by omega)) (by decide) (show ((0 : Int), (1 : Int), (2 : Int)) = nf 0 1 2 by decide)).mono fun e w' ⟨v, he, hR, hx⟩ => ⟨v, he, hx, hR⟩⟩
  intro v_ ap aq hr_
  obtain ⟨W_, hW_⟩ := hr_
  have hv_ : Fc.holds (.rg ((0 : Int)) ((1 : Int)) ((2 : Int))) ap aq v_ W_ := hW_.get
  clear hW_
  obtain ⟨a6, a0, a7, a8, a9, a1, aa, ab, ac, a2, ad, ae, rfl, -, -, -⟩ := hv_
  clear W_
  try simp only [Act.put, sa0, sa1, sa2]
  refine wpT_eff (by rfl) (by rfl) (by rfl) ?_ ?_
  · intro W_ hK
    have hW := hK.1
    have bR : RI W_ (iv a6 a0 a7 a8) (0 : Int) := RG.at1 (hK.2 21 ((gv a6 a0 a7 a8 a9 a1 aa ab ac a2 ad ae), ap, aq) (by rfl) (anc_of (by kernel_rfl)))
    have bS : RI W_ (iv a9 a1 aa ab) (1 : Int) := RG.at2 (hK.2 21 ((gv a6 a0 a7 a8 a9 a1 aa ab ac a2 ad ae), ap, aq) (by rfl) (anc_of (by kernel_rfl)))
    have bT : RI W_ (iv ac a2 ad ae) (2 : Int) := RG.at3 (hK.2 21 ((gv a6 a0 a7 a8 a9 a1 aa ab ac a2 ad ae), ap, aq) (by rfl) (anc_of (by kernel_rfl)))
    clear hK
    go_simp
    exact ⟨rfl, (qSame_q _ _ (((⟨GQ.i (1) (0), (GQ.i 0 0)⟩ : PQ) * PQ.zp 1).u) (⟨0, 1/2⟩ : GQ) (2 * (64 + 2) + 69) (64) _ ⟨_, _, _, RG.mk (RI.ext (hS.num 5 rfl) hW) (RI.ext (hS.num 4 rfl) hW) (RI.ext (hS.num 3 rfl) hW), aZ, cc⟩ ⟨_, _, _, RG.mk bR bS bT, is_012, sz_012⟩ (congrArg PQ.u one_zp1)).mono fun e w' ⟨he, hx⟩ => ⟨_, he, hx, rfl⟩⟩
  intro v_ lo50 hi50 hr_
  obtain ⟨W_, hW_⟩ := hr_
  obtain rfl : v_ = .bool true := hW_.get
  clear hW_ W_
  try simp only [Act.put, sa0, sa1, sa2]
  refine wpT_quiet 4 (by rfl) (by kernel_rfl) ?_
  simp only [tk1, tk0, dp1, dp0]
  repeat (go_big_quiet_step (fail))
  refine wpQuiet_nil ?_
  refine wpT_eff (by rfl) (by rfl) (by rfl) ?_ ?_
  · intro W_ hK
    have hW := hK.1
    clear hK
    go_simp
    exact ⟨rfl, (qOf_ok (1) _ (by omega) (by omega)).mono fun e w' ⟨v, he, hR, hx⟩ => ⟨v, he, hx, hR⟩⟩
  intro v_ bU bV hr_
  obtain ⟨W_, hW_⟩ := hr_
  have hv_ : Fc.holds (.ri ((1 : Int))) bU bV v_ W_ := hW_.get
  clear hW_
  obtain ⟨cu, b4, cv, cw, rfl, -⟩ := RI.opn hv_
  clear hv_
  clear W_
  try simp only [Act.put, sa0, sa1, sa2]
  refine wpT_eff (by rfl) (by rfl) (by rfl) ?_ ?_
  · intro W_ hK
    have hW := hK.1
    clear hK
    go_simp
    exact ⟨rfl, (qOf_ok (0) _ (by omega) (by omega)).mono fun e w' ⟨v, he, hR, hx⟩ => ⟨v, he, hx, hR⟩⟩
  intro v_ bW bX hr_
  obtain ⟨W_, hW_⟩ := hr_
  have hv_ : Fc.holds (.ri ((0 : Int))) bW bX v_ W_ := hW_.get
  clear hW_
  obtain ⟨cx, b5, cy, cz, rfl, -⟩ := RI.opn hv_
  clear hv_
  clear W_
  try simp only [Act.put, sa0, sa1, sa2]
  refine wpT_eff (by rfl) (by rfl) (by rfl) ?_ ?_
  · intro W_ hK
    have hW := hK.1
    clear hK
    go_simp
    exact ⟨rfl, (qOf_ok (2) _ (by omega) (by omega)).mono fun e w' ⟨v, he, hR, hx⟩ => ⟨v, he, hx, hR⟩⟩
  intro v_ bY bZ hr_
  obtain ⟨W_, hW_⟩ := hr_
  have hv_ : Fc.holds (.ri ((2 : Int))) bY bZ v_ W_ := hW_.get
  clear hW_
  obtain ⟨cA, b6, cB, cC, rfl, -⟩ := RI.opn hv_
  clear hv_
  clear W_
  try simp only [Act.put, sa0, sa1, sa2]
  refine wpT_eff (by rfl) (by rfl) (by rfl) ?_ ?_
  · intro W_ hK
    have hW := hK.1
    have ch : RI W_ (iv cu b4 cv cw) (1 : Int) := hK.2 27 ((iv cu b4 cv cw), bU, bV) (by rfl) (anc_of (by kernel_rfl))
    have ci : RI W_ (iv cx b5 cy cz) (0 : Int) := hK.2 28 ((iv cx b5 cy cz), bW, bX) (by rfl) (anc_of (by kernel_rfl))
    have cj : RI W_ (iv cA b6 cB cC) (2 : Int) := hK.2 29 ((iv cA b6 cB cC), bY, bZ) (by rfl) (anc_of (by kernel_rfl))
    clear hK
    go_simp
    exact ⟨rfl, (qMake_ok _ _ _ (1 : Int) (0 : Int) (2 : Int) (1 : Int) (0 : Int) (2 : Int) _ ch ci cj (lt_lim64 (by omega) (by omega)) (lt_lim64 (by omega) (by omega)) (lt_lim64 (by omega) (by omega)) (by decide) (show ((1 : Int), (0 : Int), (2 : Int)) = nf 1 0 2 by decide)).mono fun e w' ⟨v, he, hR, hx⟩ => ⟨v, he, hx, hR⟩⟩
  intro v_ ar au hr_
  obtain ⟨W_, hW_⟩ := hr_
  have hv_ : Fc.holds (.rg ((1 : Int)) ((0 : Int)) ((2 : Int))) ar au v_ W_ := hW_.get
  clear hW_
  obtain ⟨af, a3, ag, ah, ai, a4, aj, ak, am, a5, an, ao, rfl, -, -, -⟩ := hv_
  clear W_
  try simp only [Act.put, sa0, sa1, sa2]
  refine wpT_eff (by rfl) (by rfl) (by rfl) ?_ ?_
  · intro W_ hK
    have hW := hK.1
    have c0 : RI W_ (iv af a3 ag ah) (1 : Int) := RG.at1 (hK.2 30 ((gv af a3 ag ah ai a4 aj ak am a5 an ao), ar, au) (by rfl) (anc_of (by kernel_rfl)))
    have c1 : RI W_ (iv ai a4 aj ak) (0 : Int) := RG.at2 (hK.2 30 ((gv af a3 ag ah ai a4 aj ak am a5 an ao), ar, au) (by rfl) (anc_of (by kernel_rfl)))
    have c2 : RI W_ (iv am a5 an ao) (2 : Int) := RG.at3 (hK.2 30 ((gv af a3 ag ah ai a4 aj ak am a5 an ao), ar, au) (by rfl) (anc_of (by kernel_rfl)))
    clear hK
    go_simp
    exact ⟨rfl, (qSame_q _ _ (((⟨GQ.i (1) (0), (GQ.i 0 0)⟩ : PQ) * PQ.zp 1).v) (⟨1/2, 0⟩ : GQ) (2 * (64 + 2) + 69) (64) _ ⟨_, _, _, RG.mk (RI.ext (hS.num 2 rfl) hW) (RI.ext (hS.num 1 rfl) hW) (RI.ext (hS.num 0 rfl) hW), b0, cd⟩ ⟨_, _, _, RG.mk c0 c1 c2, is_102, sz_102⟩ (congrArg PQ.v one_zp1)).mono fun e w' ⟨he, hx⟩ => ⟨_, he, hx, rfl⟩⟩
  intro v_ lo59 hi59 hr_
  obtain ⟨W_, hW_⟩ := hr_
  obtain rfl : v_ = .bool true := hW_.get
  clear hW_ W_
  try simp only [Act.put, sa0, sa1, sa2]
  refine wpT_quiet 9 (by rfl) (by kernel_rfl) ?_
  simp only [tk1, tk0, dp1, dp0]
  repeat (go_big_quiet_step (fail))
  refine wpQuiet_nil ?_
  refine wpT_nil ?_
  intro w9 hK
  have hlt_ := hS.lt
  replace hS := hS.mv hK.ext
  replace hS := hS.addI (show RI w9 (iv ck b1 cl cn) (0 : Int) from hK.at_ 18 (e := ((iv ck b1 cl cn), bL, bM)) (by rfl))
  replace hS := hS.addI (show RI w9 (iv co b2 cp cq) (1 : Int) from hK.at_ 19 (e := ((iv co b2 cp cq), bN, bO)) (by rfl))
  replace hS := hS.addI (show RI w9 (iv cr b3 cs ct) (2 : Int) from hK.at_ 20 (e := ((iv cr b3 cs ct), bP, bQ)) (by rfl))
  replace hS := hS.addI (show RI w9 (iv a6 a0 a7 a8) (0 : Int) from RG.at1 (hK.at_ 21 (e := ((gv a6 a0 a7 a8 a9 a1 aa ab ac a2 ad ae), ap, aq)) (by rfl)))
  replace hS := hS.addI (show RI w9 (iv a9 a1 aa ab) (1 : Int) from RG.at2 (hK.at_ 21 (e := ((gv a6 a0 a7 a8 a9 a1 aa ab ac a2 ad ae), ap, aq)) (by rfl)))
  replace hS := hS.addI (show RI w9 (iv ac a2 ad ae) (2 : Int) from RG.at3 (hK.at_ 21 (e := ((gv a6 a0 a7 a8 a9 a1 aa ab ac a2 ad ae), ap, aq)) (by rfl)))
  replace hS := hS.addI (show RI w9 (iv cu b4 cv cw) (1 : Int) from hK.at_ 27 (e := ((iv cu b4 cv cw), bU, bV)) (by rfl))
  replace hS := hS.addI (show RI w9 (iv cx b5 cy cz) (0 : Int) from hK.at_ 28 (e := ((iv cx b5 cy cz), bW, bX)) (by rfl))
  replace hS := hS.addI (show RI w9 (iv cA b6 cB cC) (2 : Int) from hK.at_ 29 (e := ((iv cA b6 cB cC), bY, bZ)) (by rfl))
  replace hS := hS.addI (show RI w9 (iv af a3 ag ah) (1 : Int) from RG.at1 (hK.at_ 30 (e := ((gv af a3 ag ah ai a4 aj ak am a5 an ao), ar, au)) (by rfl)))
  replace hS := hS.addI (show RI w9 (iv ai a4 aj ak) (0 : Int) from RG.at2 (hK.at_ 30 (e := ((gv af a3 ag ah ai a4 aj ak am a5 an ao), ar, au)) (by rfl)))
  replace hS := hS.addI (show RI w9 (iv am a5 an ao) (2 : Int) from RG.at3 (hK.at_ 30 (e := ((gv af a3 ag ah ai a4 aj ak am a5 an ao), ar, au)) (by rfl)))
  clear hK hlt_ hE_ Y5 Y1
  go_wp2
  go_ret
  exact ⟨ret_bool (rfl), hS.ext⟩

end Go.Proofs.YtjeijmnhbckjdaaGreatDoor
