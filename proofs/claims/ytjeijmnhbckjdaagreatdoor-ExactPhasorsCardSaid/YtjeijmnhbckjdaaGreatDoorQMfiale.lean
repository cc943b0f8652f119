/- Phasors, some of them not valid: the walk. -/
import Derived.Test.YtjeijmnhbckjdaaGreatDoorQAnndkn
import Derived.Test.YtjeijmnhbckjdaaGreatDoorQGdlokb
import Derived.Test.YtjeijmnhbckjdaaGreatDoorQGfnabd
import Derived.Test.YtjeijmnhbckjdaaGreatDoorQRowGajil
namespace Go.Proofs.YtjeijmnhbckjdaaGreatDoor
open Go.RowKit
set_option linter.unusedVariables false

theorem all4_p {a b c d : Bool} (h : (a && b) = false) : [a, b, c, d].all id = false := by cases a <;> cases b <;> simp_all
theorem all4_q {a b c d : Bool} (h : (c && d) = false) : [a, b, c, d].all id = false := by cases a <;> cases b <;> cases c <;> cases d <;> simp_all
theorem all3_p {a b c : Bool} (h : (a && b) = false) : [a, b, c].all id = false := by cases a <;> cases b <;> simp_all
set_option maxRecDepth 100000 in
set_option maxHeartbeats 1600000 in
theorem phasors_large (af : Bool) (ag : Option Addr) (a0 ah : Nat) (ai : Bool) (aj : Option Addr) (a1 ak : Nat) (am : Bool) (an : Option Addr) (a2 ao : Nat) (ap : Bool) (aq : Option Addr) (a3 ar : Nat) (au : Bool) (av : Option Addr) (a4 aw : Nat) (ax : Bool) (ay : Option Addr) (a5 az : Nat) (aA : Bool) (aB : Option Addr) (a6 aC : Nat) (aD : Bool) (aE : Option Addr) (a7 aF : Nat) (aG : Bool) (aH : Option Addr) (a8 aI : Nat) (aJ : Bool) (aK : Option Addr) (a9 aL : Nat) (aM : Bool) (aN : Option Addr) (aa aO : Nat) (aP : Bool) (aQ : Option Addr) (ab aR : Nat) (aS : Bool) (aT : Option Addr) (ac aU : Nat) (aV : Bool) (aW : Option Addr) (ad aX : Nat) (aY : Bool) (aZ : Option Addr) (ae b0 : Nat) (w : World) (hTab : Tab w) (HL : Hid ([a0, a1, a2, a3, a4, a5, a6, a7, a8, a9, aa, ab, ac, ad, ae].all (fun n => decide (n ≤ 40)) = false))
      :
    Calls Tryz.prog 7 #[pv af ag a0 ah ai aj a1 ak am an a2 ao ap aq a3 ar au av a4 aw ax ay a5 az, pv aA aB a6 aC aD aE a7 aF aG aH a8 aI aJ aK a9 aL aM aN aa aO aP aQ ab aR, gv aS aT ac aU aV aW ad aX aY aZ ae b0] w fun e w' => e = .returned (.bool true) ∧ Ext w w' := by
  have hS := St.start w
  have o3 : Own w w.heap.size := Own.of hS.ext (by simp)
  have o4 : Own w (w.heap.size + 1) := Own.of hS.ext (by simp)
  have o5 : Own w (w.heap.size + 2) := Own.of hS.ext (by simp)
  have b1 := (St.al (St.al (St.al hS 37 #[.bool af, .slice ag a0 ah, .bool ai, .slice aj a1 ak, .bool am, .slice an a2 ao, .bool ap, .slice aq a3 ar, .bool au, .slice av a4 aw, .bool ax, .slice ay a5 az] (g := w.heap.size) (by simp)) 37 #[.bool aA, .slice aB a6 aC, .bool aD, .slice aE a7 aF, .bool aG, .slice aH a8 aI, .bool aJ, .slice aK a9 aL, .bool aM, .slice aN aa aO, .bool aP, .slice aQ ab aR] (g := (w.heap.size + 1)) (by simp)) 26 #[.bool aS, .slice aT ac aU, .bool aV, .slice aW ad aX, .bool aY, .slice aZ ae b0] (g := (w.heap.size + 2)) (by simp))
  have k_1 := (b1.blk 2 rfl).cell
  have k_2 := (b1.blk 1 rfl).cell
  have k_3 := (b1.blk 0 rfl).cell
  have o25 : Own w (w.heap.size + 3) := Own.of hS.ext (by simp)
  go_enter Tryz.func7, Tryz.ntmps7
  go_wp2_with fail
  clear k_1 k_2 k_3
  clear b1
  replace hS := (St.al (St.al (St.al (St.al hS 37 #[.bool af, .slice ag a0 ah, .bool ai, .slice aj a1 ak, .bool am, .slice an a2 ao, .bool ap, .slice aq a3 ar, .bool au, .slice av a4 aw, .bool ax, .slice ay a5 az] (g := w.heap.size) (by simp)) 37 #[.bool aA, .slice aB a6 aC, .bool aD, .slice aE a7 aF, .bool aG, .slice aH a8 aI, .bool aJ, .slice aK a9 aL, .bool aM, .slice aN aa aO, .bool aP, .slice aQ ab aR] (g := (w.heap.size + 1)) (by simp)) 26 #[.bool aS, .slice aT ac aU, .bool aV, .slice aW ad aX, .bool aY, .slice aZ ae b0] (g := (w.heap.size + 2)) (by simp)) 26 #[.bool af, .slice ag a0 ah, .bool ai, .slice aj a1 ak, .bool am, .slice an a2 ao, .bool ap, .slice aq a3 ar, .bool au, .slice av a4 aw, .bool ax, .slice ay a5 az, .bool aA, .slice aB a6 aC, .bool aD, .slice aE a7 aF, .bool aG, .slice aH a8 aI, .bool aJ, .slice aK a9 aL, .bool aM, .slice aN aa aO, .bool aP, .slice aQ ab aR, .bool aS, .slice aT ac aU, .bool aV, .slice aW ad aX, .bool aY, .slice aZ ae b0] (g := (w.heap.size + 3)) (by simp))
  generalize ((((w.alloc (.cells #[.bool af, .slice ag a0 ah, .bool ai, .slice aj a1 ak, .bool am, .slice an a2 ao, .bool ap, .slice aq a3 ar, .bool au, .slice av a4 aw, .bool ax, .slice ay a5 az] 37)).alloc (.cells #[.bool aA, .slice aB a6 aC, .bool aD, .slice aE a7 aF, .bool aG, .slice aH a8 aI, .bool aJ, .slice aK a9 aL, .bool aM, .slice aN aa aO, .bool aP, .slice aQ ab aR] 37)).alloc (.cells #[.bool aS, .slice aT ac aU, .bool aV, .slice aW ad aX, .bool aY, .slice aZ ae b0] 26)).alloc (.cells #[.bool af, .slice ag a0 ah, .bool ai, .slice aj a1 ak, .bool am, .slice an a2 ao, .bool ap, .slice aq a3 ar, .bool au, .slice av a4 aw, .bool ax, .slice ay a5 az, .bool aA, .slice aB a6 aC, .bool aD, .slice aE a7 aF, .bool aG, .slice aH a8 aI, .bool aJ, .slice aK a9 aL, .bool aM, .slice aN aa aO, .bool aP, .slice aQ ab aR, .bool aS, .slice aT ac aU, .bool aV, .slice aW ad aX, .bool aY, .slice aZ ae b0] 26)) = w1 at hS ⊢
  generalize w.heap.size + 3 = g25 at hS o25 ⊢
  generalize w.heap.size + 2 = g5 at hS o5 ⊢
  generalize w.heap.size + 1 = g4 at hS o4 ⊢
  generalize w.heap.size = g3 at hS o3 ⊢
  refine (low5_raw g25 40 false _ (hS.blk 0 rfl) HL.out).mono ?_
  rintro e w2 ⟨rfl, hx_⟩
  replace hS := hS.mv hx_
  clear hx_
  go_wp2_with fail
  refine (lxknown_ok _ (tab_ext hTab hS.ext)).mono ?_
  rintro e w3 ⟨rfl, hx_⟩
  replace hS := hS.mv hx_
  clear hx_
  go_wp2
  go_ret
  exact ⟨ret_bool (rfl), hS.ext⟩

set_option maxRecDepth 100000 in
set_option maxHeartbeats 51200000 in
theorem phasors_bbb (aM : Bool) (aN : Option Addr) (a0 aO : Nat) (aP : Bool) (aQ : Option Addr) (a1 aR : Nat) (aS : Bool) (aT : Option Addr) (a2 aU : Nat) (aV : Bool) (aW : Option Addr) (a3 aX : Nat) (aY : Bool) (aZ : Option Addr) (a4 b0 : Nat) (b1 : Bool) (b2 : Option Addr) (a5 b3 : Nat) (b0u : Bool) (b0v : Bool) (bd : Bool) (be : Option Addr) (aG bf : Nat) (bg : Bool) (bh : Option Addr) (aH bi : Nat) (bj : Bool) (bk : Option Addr) (aI bl : Nat) (bm : Bool) (bn : Option Addr) (aJ bo : Nat) (bp : Bool) (bq : Option Addr) (aK br : Nat) (bs : Bool) (bt : Option Addr) (aL bu : Nat) (b1u : Bool) (b1v : Bool) (b4 : Bool) (b5 : Option Addr) (a6 b6 : Nat) (b7 : Bool) (b8 : Option Addr) (a7 b9 : Nat) (ba : Bool) (bb : Option Addr) (a8 bc : Nat) (w : World) (hV0u : VB w (gv aM aN a0 aO aP aQ a1 aR aS aT a2 aU) b0u) (hV0v : VB w (gv aV aW a3 aX aY aZ a4 b0 b1 b2 a5 b3) b0v) (hV1u : VB w (gv bd be aG bf bg bh aH bi bj bk aI bl) b1u) (hV1v : VB w (gv bm bn aJ bo bp bq aK br bs bt aL bu) b1v) (hV2 : VB w (gv b4 b5 a6 b6 b7 b8 a7 b9 ba bb a8 bc) false) (cC : a0 ≤ 40) (cD : a1 ≤ 40) (cE : a2 ≤ 40) (cF : a3 ≤ 40) (cG : a4 ≤ 40) (cH : a5 ≤ 40) (cI : aG ≤ 40) (cJ : aH ≤ 40) (cK : aI ≤ 40) (cL : aJ ≤ 40) (cM : aK ≤ 40) (cN : aL ≤ 40) (cO : a6 ≤ 40) (cP : a7 ≤ 40) (cQ : a8 ≤ 40) (Hp : Hid ((b0u && b0v) = false)) (Hq : Hid ((b1u && b1v) = false)) (hTab : Tab w)
      :
    Calls Tryz.prog 7 #[pv aM aN a0 aO aP aQ a1 aR aS aT a2 aU aV aW a3 aX aY aZ a4 b0 b1 b2 a5 b3, pv bd be aG bf bg bh aH bi bj bk aI bl bm bn aJ bo bp bq aK br bs bt aL bu, gv b4 b5 a6 b6 b7 b8 a7 b9 ba bb a8 bc] w fun e w' => e = .returned (.bool true) ∧ Ext w w' := by
  have hS := St.start w
  have HL : Hid ([a0, a1, a2, a3, a4, a5, aG, aH, aI, aJ, aK, aL, a6, a7, a8].all (fun n => decide (n ≤ 40)) = true) := Lib.hid (by simp only [List.all_cons, List.all_nil, Bool.and_true, Bool.and_eq_true, decide_eq_true_eq]; exact ⟨cC, cD, cE, cF, cG, cH, cI, cJ, cK, cL, cM, cN, cO, cP, cQ⟩)
  have o3 : Own w w.heap.size := Own.of hS.ext (by simp)
  have o4 : Own w (w.heap.size + 1) := Own.of hS.ext (by simp)
  have o5 : Own w (w.heap.size + 2) := Own.of hS.ext (by simp)
  have cB := (St.al (St.al (St.al hS 37 #[.bool aM, .slice aN a0 aO, .bool aP, .slice aQ a1 aR, .bool aS, .slice aT a2 aU, .bool aV, .slice aW a3 aX, .bool aY, .slice aZ a4 b0, .bool b1, .slice b2 a5 b3] (g := w.heap.size) (by simp)) 37 #[.bool bd, .slice be aG bf, .bool bg, .slice bh aH bi, .bool bj, .slice bk aI bl, .bool bm, .slice bn aJ bo, .bool bp, .slice bq aK br, .bool bs, .slice bt aL bu] (g := (w.heap.size + 1)) (by simp)) 26 #[.bool b4, .slice b5 a6 b6, .bool b7, .slice b8 a7 b9, .bool ba, .slice bb a8 bc] (g := (w.heap.size + 2)) (by simp))
  have k_1 := (cB.blk 2 rfl).cell
  have k_2 := (cB.blk 1 rfl).cell
  have k_3 := (cB.blk 0 rfl).cell
  have o25 : Own w (w.heap.size + 3) := Own.of hS.ext (by simp)
  go_enter Tryz.func7, Tryz.ntmps7
  go_wp2_with fail
  clear k_1 k_2 k_3
  clear cB
  replace hS := (St.al (St.al (St.al (St.al hS 37 #[.bool aM, .slice aN a0 aO, .bool aP, .slice aQ a1 aR, .bool aS, .slice aT a2 aU, .bool aV, .slice aW a3 aX, .bool aY, .slice aZ a4 b0, .bool b1, .slice b2 a5 b3] (g := w.heap.size) (by simp)) 37 #[.bool bd, .slice be aG bf, .bool bg, .slice bh aH bi, .bool bj, .slice bk aI bl, .bool bm, .slice bn aJ bo, .bool bp, .slice bq aK br, .bool bs, .slice bt aL bu] (g := (w.heap.size + 1)) (by simp)) 26 #[.bool b4, .slice b5 a6 b6, .bool b7, .slice b8 a7 b9, .bool ba, .slice bb a8 bc] (g := (w.heap.size + 2)) (by simp)) 26 #[.bool aM, .slice aN a0 aO, .bool aP, .slice aQ a1 aR, .bool aS, .slice aT a2 aU, .bool aV, .slice aW a3 aX, .bool aY, .slice aZ a4 b0, .bool b1, .slice b2 a5 b3, .bool bd, .slice be aG bf, .bool bg, .slice bh aH bi, .bool bj, .slice bk aI bl, .bool bm, .slice bn aJ bo, .bool bp, .slice bq aK br, .bool bs, .slice bt aL bu, .bool b4, .slice b5 a6 b6, .bool b7, .slice b8 a7 b9, .bool ba, .slice bb a8 bc] (g := (w.heap.size + 3)) (by simp))
  generalize ((((w.alloc (.cells #[.bool aM, .slice aN a0 aO, .bool aP, .slice aQ a1 aR, .bool aS, .slice aT a2 aU, .bool aV, .slice aW a3 aX, .bool aY, .slice aZ a4 b0, .bool b1, .slice b2 a5 b3] 37)).alloc (.cells #[.bool bd, .slice be aG bf, .bool bg, .slice bh aH bi, .bool bj, .slice bk aI bl, .bool bm, .slice bn aJ bo, .bool bp, .slice bq aK br, .bool bs, .slice bt aL bu] 37)).alloc (.cells #[.bool b4, .slice b5 a6 b6, .bool b7, .slice b8 a7 b9, .bool ba, .slice bb a8 bc] 26)).alloc (.cells #[.bool aM, .slice aN a0 aO, .bool aP, .slice aQ a1 aR, .bool aS, .slice aT a2 aU, .bool aV, .slice aW a3 aX, .bool aY, .slice aZ a4 b0, .bool b1, .slice b2 a5 b3, .bool bd, .slice be aG bf, .bool bg, .slice bh aH bi, .bool bj, .slice bk aI bl, .bool bm, .slice bn aJ bo, .bool bp, .slice bq aK br, .bool bs, .slice bt aL bu, .bool b4, .slice b5 a6 b6, .bool b7, .slice b8 a7 b9, .bool ba, .slice bb a8 bc] 26)) = w1 at hS ⊢
  generalize w.heap.size + 3 = g25 at hS o25 ⊢
  generalize w.heap.size + 2 = g5 at hS o5 ⊢
  generalize w.heap.size + 1 = g4 at hS o4 ⊢
  generalize w.heap.size = g3 at hS o3 ⊢
  refine (low5_raw g25 40 true _ (hS.blk 0 rfl) HL.out).mono ?_
  rintro e w2 ⟨rfl, hx_⟩
  replace hS := hS.mv hx_
  clear hx_
  have k_4 := (hS.blk 3 rfl).cell
  have k_5 := (hS.blk 2 rfl).cell
  go_wp2_with fail
  clear k_4 k_5
  refine (xSum_bad aM aN a0 aO aP aQ a1 aR aS aT a2 aU aV aW a3 aX aY aZ a4 b0 b1 b2 a5 b3 b0u b0v bd be aG bf bg bh aH bi bj bk aI bl bm bn aJ bo bp bq aK br bs bt aL bu b1u b1v _ (hV0u.ext hS.ext) (hV0v.ext hS.ext) (hV1u.ext hS.ext) (hV1v.ext hS.ext) (Lib.hid (all4_p Hp.out))).mono ?_
  rintro e w3 ⟨v_, rfl, hv_, hx_⟩
  replace hS := hS.mv hx_
  clear hx_
  obtain ⟨_, rfl, bC, a9, bD, bE, bF, aa, bG, bH, bI, ab, bJ, bK, bL, ac, bM, bN, bO, ad, bP, bQ, bR, ae, bS, bT, rfl, af, ag, ah, ai, aj, ak⟩ := hv_
  replace hS := hS.addI af
  clear af
  replace hS := hS.addI ag
  clear ag
  replace hS := hS.addI ah
  clear ah
  replace hS := hS.addI ai
  clear ai
  replace hS := hS.addI aj
  clear aj
  replace hS := hS.addI ak
  clear ak
  have o7 : Own w w3.heap.size := Own.of hS.ext (by simp)
  have cR := (St.al hS 37 #[.bool false, .slice none 0 0, .bool false, .slice none 0 0, .bool false, .slice none 0 0, .bool false, .slice none 0 0, .bool false, .slice none 0 0, .bool false, .slice none 0 0] (g := w3.heap.size) (by simp))
  have k_6 := (cR.blk 0 rfl).cell
  have k_7 := (cR.blk 0 rfl).frozen
  have cS := (St.al hS 37 #[.bool bC, .slice a9 bD bE, .bool bF, .slice aa bG bH, .bool bI, .slice ab bJ bK, .bool bL, .slice ac bM bN, .bool bO, .slice ad bP bQ, .bool bR, .slice ae bS bT] (g := w3.heap.size) (by simp))
  have k_8 := (cS.blk 4 rfl).cell
  have k_9 := (cS.blk 2 rfl).cell
  go_wp2_with fail
  clear k_6 k_7 k_8 k_9
  clear cR cS
  replace hS := (St.al hS 37 #[.bool bC, .slice a9 bD bE, .bool bF, .slice aa bG bH, .bool bI, .slice ab bJ bK, .bool bL, .slice ac bM bN, .bool bO, .slice ad bP bQ, .bool bR, .slice ae bS bT] (g := w3.heap.size) (by simp))
  generalize (w3.alloc (.cells #[.bool bC, .slice a9 bD bE, .bool bF, .slice aa bG bH, .bool bI, .slice ab bJ bK, .bool bL, .slice ac bM bN, .bool bO, .slice ad bP bQ, .bool bR, .slice ae bS bT] 37)) = w4 at hS ⊢
  generalize w3.heap.size = g7 at hS o7 ⊢
  refine (xTimes_bad aM aN a0 aO aP aQ a1 aR aS aT a2 aU aV aW a3 aX aY aZ a4 b0 b1 b2 a5 b3 b0u b0v b4 b5 a6 b6 b7 b8 a7 b9 ba bb a8 bc false _ (hV0u.ext hS.ext) (hV0v.ext hS.ext) (hV2.ext hS.ext) (Lib.hid (all3_p Hp.out))).mono ?_
  rintro e w5 ⟨v_, rfl, hv_, hx_⟩
  replace hS := hS.mv hx_
  clear hx_
  obtain ⟨_, rfl, bU, am, bV, bW, bX, an, bY, bZ, c0, ao, c1, c2, c3, ap, c4, c5, c6, aq, c7, c8, c9, ar, ca, cb, rfl, au, av, aw, ax, ay, az⟩ := hv_
  replace hS := hS.addI au
  clear au
  replace hS := hS.addI av
  clear av
  replace hS := hS.addI aw
  clear aw
  replace hS := hS.addI ax
  clear ax
  replace hS := hS.addI ay
  clear ay
  replace hS := hS.addI az
  clear az
  have o9 : Own w w5.heap.size := Own.of hS.ext (by simp)
  have cT := (St.al hS 37 #[.bool false, .slice none 0 0, .bool false, .slice none 0 0, .bool false, .slice none 0 0, .bool false, .slice none 0 0, .bool false, .slice none 0 0, .bool false, .slice none 0 0] (g := w5.heap.size) (by simp))
  have cU := (cT.blk 0 rfl).cell
  have cV := (cT.blk 0 rfl).frozen
  have d4 := (St.al hS 37 #[.bool bU, .slice am bV bW, .bool bX, .slice an bY bZ, .bool c0, .slice ao c1 c2, .bool c3, .slice ap c4 c5, .bool c6, .slice aq c7 c8, .bool c9, .slice ar ca cb] (g := w5.heap.size) (by simp))
  have cW := (d4.blk 3 rfl).cell
  go_wp2_with fail
  clear cU cV cW
  clear cT d4
  replace hS := (St.al hS 37 #[.bool bU, .slice am bV bW, .bool bX, .slice an bY bZ, .bool c0, .slice ao c1 c2, .bool c3, .slice ap c4 c5, .bool c6, .slice aq c7 c8, .bool c9, .slice ar ca cb] (g := w5.heap.size) (by simp))
  generalize (w5.alloc (.cells #[.bool bU, .slice am bV bW, .bool bX, .slice an bY bZ, .bool c0, .slice ao c1 c2, .bool c3, .slice ap c4 c5, .bool c6, .slice aq c7 c8, .bool c9, .slice ar ca cb] 37)) = w6 at hS ⊢
  generalize w5.heap.size = g9 at hS o9 ⊢
  refine (xPlain_bad b4 b5 a6 b6 b7 b8 a7 b9 ba bb a8 bc _ (hV2.ext hS.ext)).mono ?_
  rintro e w7 ⟨v_, rfl, hv_, hx_⟩
  replace hS := hS.mv hx_
  clear hx_
  obtain ⟨_, rfl, ci, bv, cj, ck, cl, bw, cn, co, cp, bx, cq, cr, cs, bz, ct, cu, cv, bA, cw, cx, cy, bB, cz, cA, rfl, aA, aB, aC, aD, aE, aF⟩ := hv_
  replace hS := hS.addI aA
  clear aA
  replace hS := hS.addI aB
  clear aB
  replace hS := hS.addI aC
  clear aC
  replace hS := hS.addI aD
  clear aD
  replace hS := hS.addI aE
  clear aE
  replace hS := hS.addI aF
  clear aF
  have o11 : Own w w7.heap.size := Own.of hS.ext (by simp)
  have cX := (St.al hS 37 #[.bool false, .slice none 0 0, .bool false, .slice none 0 0, .bool false, .slice none 0 0, .bool false, .slice none 0 0, .bool false, .slice none 0 0, .bool false, .slice none 0 0] (g := w7.heap.size) (by simp))
  have cY := (cX.blk 0 rfl).cell
  have cZ := (cX.blk 0 rfl).frozen
  go_wp2_with fail
  clear cY cZ
  clear cX
  replace hS := (St.al hS 37 #[.bool ci, .slice bv cj ck, .bool cl, .slice bw cn co, .bool cp, .slice bx cq cr, .bool cs, .slice bz ct cu, .bool cv, .slice bA cw cx, .bool cy, .slice bB cz cA] (g := w7.heap.size) (by simp))
  generalize (w7.alloc (.cells #[.bool ci, .slice bv cj ck, .bool cl, .slice bw cn co, .bool cp, .slice bx cq cr, .bool cs, .slice bz ct cu, .bool cv, .slice bA cw cx, .bool cy, .slice bB cz cA] 37)) = w8 at hS ⊢
  generalize w7.heap.size = g11 at hS o11 ⊢
  cases b0u
  all_goals cases b1u
  go_wp2_with fail
  have Y5 := ExtOf.blk (hS.blk 4 rfl)
  have Y4 := ExtOf.blk (hS.blk 5 rfl)
  have Y3 := ExtOf.blk (hS.blk 6 rfl)
  have hE_ := hS.ext
  refine wp_region_tame 20 (hasF [(2, .any), (10, .any), (17, .any)]) (Fcs [(2, .eq (.bool false)), (10, .eq (.bool false)), (17, .eq (.bool false))]) (Fcs_stab _) (by kernel_rfl) (by kernel_rfl) ?_
  simp only [tk1, tk0, dp1, dp0]
  refine wpT_quiet 2 (by rfl) (by kernel_rfl) ?_
  simp only [tk1, tk0, dp1, dp0]
  repeat (go_big_quiet_step (fail))
  refine wpQuiet_nil ?_
  refine wpT_eff (by rfl) (by rfl) (by rfl) ?_ ?_
  · intro W_ hK
    have hW := hK.1
    clear hK
    go_simp
    exact ⟨rfl, (VB.q (hV0u.ext (hE_.trans hW))).mono fun e w' ⟨he, hx⟩ => ⟨_, he, hx, rfl⟩⟩
  intro v_ cc cd hr_
  obtain ⟨W_, hW_⟩ := hr_
  obtain rfl : v_ = .bool false := hW_.get
  clear hW_ W_
  try simp only [Act.put, sa0, sa1, sa2]
  refine wpT_quiet 3 (by rfl) (by kernel_rfl) ?_
  simp only [tk1, tk0, dp1, dp0]
  repeat (go_big_quiet_step (fail))
  refine wpQuiet_nil ?_
  refine wpT_skip (by rfl) (by rfl) ?_
  try simp only [Act.put, sa0, sa1, sa2]
  refine wpT_quiet 3 (by rfl) (by kernel_rfl) ?_
  simp only [tk1, tk0, dp1, dp0]
  repeat (go_big_quiet_step (fail))
  refine wpQuiet_nil ?_
  refine wpT_eff (by rfl) (by rfl) (by rfl) ?_ ?_
  · intro W_ hK
    have hW := hK.1
    clear hK
    go_simp
    exact ⟨rfl, (VB.q (hV1u.ext (hE_.trans hW))).mono fun e w' ⟨he, hx⟩ => ⟨_, he, hx, rfl⟩⟩
  intro v_ ce cf hr_
  obtain ⟨W_, hW_⟩ := hr_
  obtain rfl : v_ = .bool false := hW_.get
  clear hW_ W_
  try simp only [Act.put, sa0, sa1, sa2]
  refine wpT_quiet 3 (by rfl) (by kernel_rfl) ?_
  simp only [tk1, tk0, dp1, dp0]
  repeat (go_big_quiet_step (fail))
  refine wpQuiet_nil ?_
  refine wpT_skip (by rfl) (by rfl) ?_
  try simp only [Act.put, sa0, sa1, sa2]
  refine wpT_quiet 2 (by rfl) (by kernel_rfl) ?_
  simp only [tk1, tk0, dp1, dp0]
  repeat (go_big_quiet_step (fail))
  refine wpQuiet_nil ?_
  refine wpT_eff (by rfl) (by rfl) (by rfl) ?_ ?_
  · intro W_ hK
    have hW := hK.1
    clear hK
    go_simp
    exact ⟨rfl, (VB.q (hV2.ext (hE_.trans hW))).mono fun e w' ⟨he, hx⟩ => ⟨_, he, hx, rfl⟩⟩
  intro v_ cg ch hr_
  obtain ⟨W_, hW_⟩ := hr_
  obtain rfl : v_ = .bool false := hW_.get
  clear hW_ W_
  try simp only [Act.put, sa0, sa1, sa2]
  refine wpT_quiet 2 (by rfl) (by kernel_rfl) ?_
  simp only [tk1, tk0, dp1, dp0]
  repeat (go_big_quiet_step (fail))
  refine wpQuiet_nil ?_
  refine wpT_nil ?_
  intro w9 hK
  have hlt_ := hS.lt
  replace hS := hS.mv hK.ext
  clear hK hlt_ hE_ Y5 Y4 Y3
  rotate_left 1
  obtain rfl : b1v = false := by simpa using Hq.out
  go_wp2_with fail
  have Y5 := ExtOf.blk (hS.blk 4 rfl)
  have Y4 := ExtOf.blk (hS.blk 5 rfl)
  have Y3 := ExtOf.blk (hS.blk 6 rfl)
  have hE_ := hS.ext
  refine wp_region_tame 20 (hasF [(2, .any), (10, .any), (14, .any), (17, .any)]) (Fcs [(2, .eq (.bool false)), (10, .eq (.bool true)), (14, .eq (.bool false)), (17, .eq (.bool false))]) (Fcs_stab _) (by kernel_rfl) (by kernel_rfl) ?_
  simp only [tk1, tk0, dp1, dp0]
  refine wpT_quiet 2 (by rfl) (by kernel_rfl) ?_
  simp only [tk1, tk0, dp1, dp0]
  repeat (go_big_quiet_step (fail))
  refine wpQuiet_nil ?_
  refine wpT_eff (by rfl) (by rfl) (by rfl) ?_ ?_
  · intro W_ hK
    have hW := hK.1
    clear hK
    go_simp
    exact ⟨rfl, (VB.q (hV0u.ext (hE_.trans hW))).mono fun e w' ⟨he, hx⟩ => ⟨_, he, hx, rfl⟩⟩
  intro v_ cc cd hr_
  obtain ⟨W_, hW_⟩ := hr_
  obtain rfl : v_ = .bool false := hW_.get
  clear hW_ W_
  try simp only [Act.put, sa0, sa1, sa2]
  refine wpT_quiet 3 (by rfl) (by kernel_rfl) ?_
  simp only [tk1, tk0, dp1, dp0]
  repeat (go_big_quiet_step (fail))
  refine wpQuiet_nil ?_
  refine wpT_skip (by rfl) (by rfl) ?_
  try simp only [Act.put, sa0, sa1, sa2]
  refine wpT_quiet 3 (by rfl) (by kernel_rfl) ?_
  simp only [tk1, tk0, dp1, dp0]
  repeat (go_big_quiet_step (fail))
  refine wpQuiet_nil ?_
  refine wpT_eff (by rfl) (by rfl) (by rfl) ?_ ?_
  · intro W_ hK
    have hW := hK.1
    clear hK
    go_simp
    exact ⟨rfl, (VB.q (hV1u.ext (hE_.trans hW))).mono fun e w' ⟨he, hx⟩ => ⟨_, he, hx, rfl⟩⟩
  intro v_ ce cf hr_
  obtain ⟨W_, hW_⟩ := hr_
  obtain rfl : v_ = .bool true := hW_.get
  clear hW_ W_
  try simp only [Act.put, sa0, sa1, sa2]
  refine wpT_quiet 3 (by rfl) (by kernel_rfl) ?_
  simp only [tk1, tk0, dp1, dp0]
  repeat (go_big_quiet_step (fail))
  refine wpQuiet_nil ?_
  refine wpT_eff (by rfl) (by rfl) (by rfl) ?_ ?_
  · intro W_ hK
    have hW := hK.1
    clear hK
    go_simp
    exact ⟨rfl, (VB.q (hV1v.ext (hE_.trans hW))).mono fun e w' ⟨he, hx⟩ => ⟨_, he, hx, rfl⟩⟩
  intro v_ d0 d1 hr_
  obtain ⟨W_, hW_⟩ := hr_
  obtain rfl : v_ = .bool false := hW_.get
  clear hW_ W_
  try simp only [Act.put, sa0, sa1, sa2]
  refine wpT_quiet 2 (by rfl) (by kernel_rfl) ?_
  simp only [tk1, tk0, dp1, dp0]
  repeat (go_big_quiet_step (fail))
  refine wpQuiet_nil ?_
  refine wpT_eff (by rfl) (by rfl) (by rfl) ?_ ?_
  · intro W_ hK
    have hW := hK.1
    clear hK
    go_simp
    exact ⟨rfl, (VB.q (hV2.ext (hE_.trans hW))).mono fun e w' ⟨he, hx⟩ => ⟨_, he, hx, rfl⟩⟩
  intro v_ cg ch hr_
  obtain ⟨W_, hW_⟩ := hr_
  obtain rfl : v_ = .bool false := hW_.get
  clear hW_ W_
  try simp only [Act.put, sa0, sa1, sa2]
  refine wpT_quiet 2 (by rfl) (by kernel_rfl) ?_
  simp only [tk1, tk0, dp1, dp0]
  repeat (go_big_quiet_step (fail))
  refine wpQuiet_nil ?_
  refine wpT_nil ?_
  intro w9 hK
  have hlt_ := hS.lt
  replace hS := hS.mv hK.ext
  clear hK hlt_ hE_ Y5 Y4 Y3
  rotate_left 1
  obtain rfl : b0v = false := by simpa using Hp.out
  go_wp2_with fail
  have Y5 := ExtOf.blk (hS.blk 4 rfl)
  have Y4 := ExtOf.blk (hS.blk 5 rfl)
  have Y3 := ExtOf.blk (hS.blk 6 rfl)
  have hE_ := hS.ext
  refine wp_region_tame 20 (hasF [(2, .any), (6, .any), (10, .any), (17, .any)]) (Fcs [(2, .eq (.bool true)), (6, .eq (.bool false)), (10, .eq (.bool false)), (17, .eq (.bool false))]) (Fcs_stab _) (by kernel_rfl) (by kernel_rfl) ?_
  simp only [tk1, tk0, dp1, dp0]
  refine wpT_quiet 2 (by rfl) (by kernel_rfl) ?_
  simp only [tk1, tk0, dp1, dp0]
  repeat (go_big_quiet_step (fail))
  refine wpQuiet_nil ?_
  refine wpT_eff (by rfl) (by rfl) (by rfl) ?_ ?_
  · intro W_ hK
    have hW := hK.1
    clear hK
    go_simp
    exact ⟨rfl, (VB.q (hV0u.ext (hE_.trans hW))).mono fun e w' ⟨he, hx⟩ => ⟨_, he, hx, rfl⟩⟩
  intro v_ cc cd hr_
  obtain ⟨W_, hW_⟩ := hr_
  obtain rfl : v_ = .bool true := hW_.get
  clear hW_ W_
  try simp only [Act.put, sa0, sa1, sa2]
  refine wpT_quiet 3 (by rfl) (by kernel_rfl) ?_
  simp only [tk1, tk0, dp1, dp0]
  repeat (go_big_quiet_step (fail))
  refine wpQuiet_nil ?_
  refine wpT_eff (by rfl) (by rfl) (by rfl) ?_ ?_
  · intro W_ hK
    have hW := hK.1
    clear hK
    go_simp
    exact ⟨rfl, (VB.q (hV0v.ext (hE_.trans hW))).mono fun e w' ⟨he, hx⟩ => ⟨_, he, hx, rfl⟩⟩
  intro v_ d2 d3 hr_
  obtain ⟨W_, hW_⟩ := hr_
  obtain rfl : v_ = .bool false := hW_.get
  clear hW_ W_
  try simp only [Act.put, sa0, sa1, sa2]
  refine wpT_quiet 3 (by rfl) (by kernel_rfl) ?_
  simp only [tk1, tk0, dp1, dp0]
  repeat (go_big_quiet_step (fail))
  refine wpQuiet_nil ?_
  refine wpT_eff (by rfl) (by rfl) (by rfl) ?_ ?_
  · intro W_ hK
    have hW := hK.1
    clear hK
    go_simp
    exact ⟨rfl, (VB.q (hV1u.ext (hE_.trans hW))).mono fun e w' ⟨he, hx⟩ => ⟨_, he, hx, rfl⟩⟩
  intro v_ ce cf hr_
  obtain ⟨W_, hW_⟩ := hr_
  obtain rfl : v_ = .bool false := hW_.get
  clear hW_ W_
  try simp only [Act.put, sa0, sa1, sa2]
  refine wpT_quiet 3 (by rfl) (by kernel_rfl) ?_
  simp only [tk1, tk0, dp1, dp0]
  repeat (go_big_quiet_step (fail))
  refine wpQuiet_nil ?_
  refine wpT_skip (by rfl) (by rfl) ?_
  try simp only [Act.put, sa0, sa1, sa2]
  refine wpT_quiet 2 (by rfl) (by kernel_rfl) ?_
  simp only [tk1, tk0, dp1, dp0]
  repeat (go_big_quiet_step (fail))
  refine wpQuiet_nil ?_
  refine wpT_eff (by rfl) (by rfl) (by rfl) ?_ ?_
  · intro W_ hK
    have hW := hK.1
    clear hK
    go_simp
    exact ⟨rfl, (VB.q (hV2.ext (hE_.trans hW))).mono fun e w' ⟨he, hx⟩ => ⟨_, he, hx, rfl⟩⟩
  intro v_ cg ch hr_
  obtain ⟨W_, hW_⟩ := hr_
  obtain rfl : v_ = .bool false := hW_.get
  clear hW_ W_
  try simp only [Act.put, sa0, sa1, sa2]
  refine wpT_quiet 2 (by rfl) (by kernel_rfl) ?_
  simp only [tk1, tk0, dp1, dp0]
  repeat (go_big_quiet_step (fail))
  refine wpQuiet_nil ?_
  refine wpT_nil ?_
  intro w9 hK
  have hlt_ := hS.lt
  replace hS := hS.mv hK.ext
  clear hK hlt_ hE_ Y5 Y4 Y3
  rotate_left 1
  obtain rfl : b0v = false := by simpa using Hp.out
  obtain rfl : b1v = false := by simpa using Hq.out
  go_wp2_with fail
  have Y5 := ExtOf.blk (hS.blk 4 rfl)
  have Y4 := ExtOf.blk (hS.blk 5 rfl)
  have Y3 := ExtOf.blk (hS.blk 6 rfl)
  have hE_ := hS.ext
  refine wp_region_tame 20 (hasF [(2, .any), (6, .any), (10, .any), (14, .any), (17, .any)]) (Fcs [(2, .eq (.bool true)), (6, .eq (.bool false)), (10, .eq (.bool true)), (14, .eq (.bool false)), (17, .eq (.bool false))]) (Fcs_stab _) (by kernel_rfl) (by kernel_rfl) ?_
  simp only [tk1, tk0, dp1, dp0]
  refine wpT_quiet 2 (by rfl) (by kernel_rfl) ?_
  simp only [tk1, tk0, dp1, dp0]
  repeat (go_big_quiet_step (fail))
  refine wpQuiet_nil ?_
  refine wpT_eff (by rfl) (by rfl) (by rfl) ?_ ?_
  · intro W_ hK
    have hW := hK.1
    clear hK
    go_simp
    exact ⟨rfl, (VB.q (hV0u.ext (hE_.trans hW))).mono fun e w' ⟨he, hx⟩ => ⟨_, he, hx, rfl⟩⟩
  intro v_ cc cd hr_
  obtain ⟨W_, hW_⟩ := hr_
  obtain rfl : v_ = .bool true := hW_.get
  clear hW_ W_
  try simp only [Act.put, sa0, sa1, sa2]
  refine wpT_quiet 3 (by rfl) (by kernel_rfl) ?_
  simp only [tk1, tk0, dp1, dp0]
  repeat (go_big_quiet_step (fail))
  refine wpQuiet_nil ?_
  refine wpT_eff (by rfl) (by rfl) (by rfl) ?_ ?_
  · intro W_ hK
    have hW := hK.1
    clear hK
    go_simp
    exact ⟨rfl, (VB.q (hV0v.ext (hE_.trans hW))).mono fun e w' ⟨he, hx⟩ => ⟨_, he, hx, rfl⟩⟩
  intro v_ d2 d3 hr_
  obtain ⟨W_, hW_⟩ := hr_
  obtain rfl : v_ = .bool false := hW_.get
  clear hW_ W_
  try simp only [Act.put, sa0, sa1, sa2]
  refine wpT_quiet 3 (by rfl) (by kernel_rfl) ?_
  simp only [tk1, tk0, dp1, dp0]
  repeat (go_big_quiet_step (fail))
  refine wpQuiet_nil ?_
  refine wpT_eff (by rfl) (by rfl) (by rfl) ?_ ?_
  · intro W_ hK
    have hW := hK.1
    clear hK
    go_simp
    exact ⟨rfl, (VB.q (hV1u.ext (hE_.trans hW))).mono fun e w' ⟨he, hx⟩ => ⟨_, he, hx, rfl⟩⟩
  intro v_ ce cf hr_
  obtain ⟨W_, hW_⟩ := hr_
  obtain rfl : v_ = .bool true := hW_.get
  clear hW_ W_
  try simp only [Act.put, sa0, sa1, sa2]
  refine wpT_quiet 3 (by rfl) (by kernel_rfl) ?_
  simp only [tk1, tk0, dp1, dp0]
  repeat (go_big_quiet_step (fail))
  refine wpQuiet_nil ?_
  refine wpT_eff (by rfl) (by rfl) (by rfl) ?_ ?_
  · intro W_ hK
    have hW := hK.1
    clear hK
    go_simp
    exact ⟨rfl, (VB.q (hV1v.ext (hE_.trans hW))).mono fun e w' ⟨he, hx⟩ => ⟨_, he, hx, rfl⟩⟩
  intro v_ d0 d1 hr_
  obtain ⟨W_, hW_⟩ := hr_
  obtain rfl : v_ = .bool false := hW_.get
  clear hW_ W_
  try simp only [Act.put, sa0, sa1, sa2]
  refine wpT_quiet 2 (by rfl) (by kernel_rfl) ?_
  simp only [tk1, tk0, dp1, dp0]
  repeat (go_big_quiet_step (fail))
  refine wpQuiet_nil ?_
  refine wpT_eff (by rfl) (by rfl) (by rfl) ?_ ?_
  · intro W_ hK
    have hW := hK.1
    clear hK
    go_simp
    exact ⟨rfl, (VB.q (hV2.ext (hE_.trans hW))).mono fun e w' ⟨he, hx⟩ => ⟨_, he, hx, rfl⟩⟩
  intro v_ cg ch hr_
  obtain ⟨W_, hW_⟩ := hr_
  obtain rfl : v_ = .bool false := hW_.get
  clear hW_ W_
  try simp only [Act.put, sa0, sa1, sa2]
  refine wpT_quiet 2 (by rfl) (by kernel_rfl) ?_
  simp only [tk1, tk0, dp1, dp0]
  repeat (go_big_quiet_step (fail))
  refine wpQuiet_nil ?_
  refine wpT_nil ?_
  intro w9 hK
  have hlt_ := hS.lt
  replace hS := hS.mv hK.ext
  clear hK hlt_ hE_ Y5 Y4 Y3
  rotate_left 1
  all_goals
    go_wp2_with fail
    have hE_ := hS.ext
    refine wp_region_tame 33 (hasF [(0, .any)]) (Fcs [(0, .eq (.bool true))]) (Fcs_stab _) (by kernel_rfl) (by kernel_rfl) ?_
    simp only [tk1, tk0, dp1, dp0]
    refine wpT_eff (by rfl) (by rfl) (by rfl) ?_ ?_
    · intro W_ hK
      have hW := hK.1
      clear hK
      go_simp
      exact ⟨rfl, (lxknown_ok _ (tab_ext hTab (hE_.trans hW))).mono fun e w' ⟨he, hx⟩ => ⟨_, he, hx, rfl⟩⟩
    intro v_ d5 d6 hr_
    obtain ⟨W_, hW_⟩ := hr_
    obtain rfl : v_ = .bool true := hW_.get
    clear hW_ W_
    try simp only [Act.put, sa0, sa1, sa2]
    refine wpT_quiet 7 (by rfl) (by kernel_rfl) ?_
    simp only [tk1, tk0, dp1, dp0]
    repeat (go_big_quiet_step (fail))
    refine wpQuiet_nil ?_
    refine wpT_skip (by rfl) (by rfl) ?_
    try simp only [Act.put, sa0, sa1, sa2]
    refine wpT_skip (by rfl) (by rfl) ?_
    try simp only [Act.put, sa0, sa1, sa2]
    refine wpT_quiet 9 (by rfl) (by kernel_rfl) ?_
    simp only [tk1, tk0, dp1, dp0]
    repeat (go_big_quiet_step (fail))
    refine wpQuiet_nil ?_
    refine wpT_skip (by rfl) (by rfl) ?_
    try simp only [Act.put, sa0, sa1, sa2]
    refine wpT_skip (by rfl) (by rfl) ?_
    try simp only [Act.put, sa0, sa1, sa2]
    refine wpT_quiet 8 (by rfl) (by kernel_rfl) ?_
    simp only [tk1, tk0, dp1, dp0]
    repeat (go_big_quiet_step (fail))
    refine wpQuiet_nil ?_
    refine wpT_skip (by rfl) (by rfl) ?_
    try simp only [Act.put, sa0, sa1, sa2]
    refine wpT_skip (by rfl) (by rfl) ?_
    try simp only [Act.put, sa0, sa1, sa2]
    refine wpT_quiet 2 (by rfl) (by kernel_rfl) ?_
    simp only [tk1, tk0, dp1, dp0]
    repeat (go_big_quiet_step (fail))
    refine wpQuiet_nil ?_
    refine wpT_nil ?_
    intro w10 hK
    have hlt_ := hS.lt
    replace hS := hS.mv hK.ext
    clear hK hlt_ hE_
    go_wp2
    go_ret
    exact ⟨ret_bool (rfl), hS.ext⟩

set_option maxRecDepth 100000 in
set_option maxHeartbeats 51200000 in
theorem phasors_bbv (bl : Bool) (bm : Option Addr) (aF bn : Nat) (bo : Bool) (bp : Option Addr) (aG bq : Nat) (br : Bool) (bs : Option Addr) (aH bt : Nat) (bu : Bool) (bv : Option Addr) (aI bw : Nat) (bx : Bool) (bz : Option Addr) (aJ bA : Nat) (bB : Bool) (bC : Option Addr) (aK bD : Nat) (b0u : Bool) (b0v : Bool) (bK : Bool) (bL : Option Addr) (bf bM : Nat) (bN : Bool) (bO : Option Addr) (bg bP : Nat) (bQ : Bool) (bR : Option Addr) (bh bS : Nat) (bT : Bool) (bU : Option Addr) (bi bV : Nat) (bW : Bool) (bX : Option Addr) (bj bY : Nat) (bZ : Bool) (c0 : Option Addr) (bk c1 : Nat) (b1u : Bool) (b1v : Bool) (v2 : Value) (q2 : GQ) (n2 : Nat) (w : World) (hV0u : VB w (gv bl bm aF bn bo bp aG bq br bs aH bt) b0u) (hV0v : VB w (gv bu bv aI bw bx bz aJ bA bB bC aK bD) b0v) (hV1u : VB w (gv bK bL bf bM bN bO bg bP bQ bR bh bS) b1u) (hV1v : VB w (gv bT bU bi bV bW bX bj bY bZ c0 bk c1) b1v) (hX2 : GV w v2 q2 n2) (df : aF ≤ 40) (dg : aG ≤ 40) (dh : aH ≤ 40) (di : aI ≤ 40) (dj : aJ ≤ 40) (dk : aK ≤ 40) (dl : bf ≤ 40) (dm : bg ≤ 40) (dn : bh ≤ 40) (dp : bi ≤ 40) (dq : bj ≤ 40) (dr : bk ≤ 40) (hn2 : n2 ≤ 1280) (hm2 : 1 ≤ n2) (Hp : Hid ((b0u && b0v) = false)) (Hq : Hid ((b1u && b1v) = false)) (hTab : Tab w)
      :
    Calls Tryz.prog 7 #[pv bl bm aF bn bo bp aG bq br bs aH bt bu bv aI bw bx bz aJ bA bB bC aK bD, pv bK bL bf bM bN bO bg bP bQ bR bh bS bT bU bi bV bW bX bj bY bZ c0 bk c1, v2] w fun e w' => e = .returned (.bool true) ∧ Ext w w' := by
  have hS := St.start w
  obtain ⟨db, dc, dd, hX2, I2, S2⟩ := hX2
  obtain ⟨aw, ax, ar, ay, az, aA, au, aB, aC, aD, av, aE, rfl, cQ, cR, cS⟩ := hX2
  replace hS := hS.addI cQ
  clear cQ
  replace hS := hS.addI cR
  clear cR
  replace hS := hS.addI cS
  clear cS
  have HL : Hid ([aF, aG, aH, aI, aJ, aK, bf, bg, bh, bi, bj, bk, ar, au, av].all (fun n => decide (n ≤ 40)) = true) := Lib.hid (by simp only [List.all_cons, List.all_nil, Bool.and_true, Bool.and_eq_true, decide_eq_true_eq]; exact ⟨df, dg, dh, di, dj, dk, dl, dm, dn, dp, dq, dr, RI.low (k := 40) (hS.num 2 rfl) S2.a (by omega), RI.low (k := 40) (hS.num 1 rfl) S2.b (by omega), RI.low (k := 40) (hS.num 0 rfl) S2.d (by omega)⟩)
  have o3 : Own w w.heap.size := Own.of hS.ext (by simp)
  have o4 : Own w (w.heap.size + 1) := Own.of hS.ext (by simp)
  have o5 : Own w (w.heap.size + 2) := Own.of hS.ext (by simp)
  have de := (St.al (St.al (St.al hS 37 #[.bool bl, .slice bm aF bn, .bool bo, .slice bp aG bq, .bool br, .slice bs aH bt, .bool bu, .slice bv aI bw, .bool bx, .slice bz aJ bA, .bool bB, .slice bC aK bD] (g := w.heap.size) (by simp)) 37 #[.bool bK, .slice bL bf bM, .bool bN, .slice bO bg bP, .bool bQ, .slice bR bh bS, .bool bT, .slice bU bi bV, .bool bW, .slice bX bj bY, .bool bZ, .slice c0 bk c1] (g := (w.heap.size + 1)) (by simp)) 26 #[.bool aw, .slice ax ar ay, .bool az, .slice aA au aB, .bool aC, .slice aD av aE] (g := (w.heap.size + 2)) (by simp))
  have k_1 := (de.blk 2 rfl).cell
  have k_2 := (de.blk 1 rfl).cell
  have k_3 := (de.blk 0 rfl).cell
  have o25 : Own w (w.heap.size + 3) := Own.of hS.ext (by simp)
  go_enter Tryz.func7, Tryz.ntmps7
  go_wp2_with fail
  clear k_1 k_2 k_3
  clear de
  replace hS := (St.al (St.al (St.al (St.al hS 37 #[.bool bl, .slice bm aF bn, .bool bo, .slice bp aG bq, .bool br, .slice bs aH bt, .bool bu, .slice bv aI bw, .bool bx, .slice bz aJ bA, .bool bB, .slice bC aK bD] (g := w.heap.size) (by simp)) 37 #[.bool bK, .slice bL bf bM, .bool bN, .slice bO bg bP, .bool bQ, .slice bR bh bS, .bool bT, .slice bU bi bV, .bool bW, .slice bX bj bY, .bool bZ, .slice c0 bk c1] (g := (w.heap.size + 1)) (by simp)) 26 #[.bool aw, .slice ax ar ay, .bool az, .slice aA au aB, .bool aC, .slice aD av aE] (g := (w.heap.size + 2)) (by simp)) 26 #[.bool bl, .slice bm aF bn, .bool bo, .slice bp aG bq, .bool br, .slice bs aH bt, .bool bu, .slice bv aI bw, .bool bx, .slice bz aJ bA, .bool bB, .slice bC aK bD, .bool bK, .slice bL bf bM, .bool bN, .slice bO bg bP, .bool bQ, .slice bR bh bS, .bool bT, .slice bU bi bV, .bool bW, .slice bX bj bY, .bool bZ, .slice c0 bk c1, .bool aw, .slice ax ar ay, .bool az, .slice aA au aB, .bool aC, .slice aD av aE] (g := (w.heap.size + 3)) (by simp))
  generalize ((((w.alloc (.cells #[.bool bl, .slice bm aF bn, .bool bo, .slice bp aG bq, .bool br, .slice bs aH bt, .bool bu, .slice bv aI bw, .bool bx, .slice bz aJ bA, .bool bB, .slice bC aK bD] 37)).alloc (.cells #[.bool bK, .slice bL bf bM, .bool bN, .slice bO bg bP, .bool bQ, .slice bR bh bS, .bool bT, .slice bU bi bV, .bool bW, .slice bX bj bY, .bool bZ, .slice c0 bk c1] 37)).alloc (.cells #[.bool aw, .slice ax ar ay, .bool az, .slice aA au aB, .bool aC, .slice aD av aE] 26)).alloc (.cells #[.bool bl, .slice bm aF bn, .bool bo, .slice bp aG bq, .bool br, .slice bs aH bt, .bool bu, .slice bv aI bw, .bool bx, .slice bz aJ bA, .bool bB, .slice bC aK bD, .bool bK, .slice bL bf bM, .bool bN, .slice bO bg bP, .bool bQ, .slice bR bh bS, .bool bT, .slice bU bi bV, .bool bW, .slice bX bj bY, .bool bZ, .slice c0 bk c1, .bool aw, .slice ax ar ay, .bool az, .slice aA au aB, .bool aC, .slice aD av aE] 26)) = w1 at hS ⊢
  generalize w.heap.size + 3 = g25 at hS o25 ⊢
  generalize w.heap.size + 2 = g5 at hS o5 ⊢
  generalize w.heap.size + 1 = g4 at hS o4 ⊢
  generalize w.heap.size = g3 at hS o3 ⊢
  refine (low5_raw g25 40 true _ (hS.blk 0 rfl) HL.out).mono ?_
  rintro e w2 ⟨rfl, hx_⟩
  replace hS := hS.mv hx_
  clear hx_
  have k_4 := (hS.blk 3 rfl).cell
  have k_5 := (hS.blk 2 rfl).cell
  go_wp2_with fail
  clear k_4 k_5
  refine (xSum_bad bl bm aF bn bo bp aG bq br bs aH bt bu bv aI bw bx bz aJ bA bB bC aK bD b0u b0v bK bL bf bM bN bO bg bP bQ bR bh bS bT bU bi bV bW bX bj bY bZ c0 bk c1 b1u b1v _ (hV0u.ext hS.ext) (hV0v.ext hS.ext) (hV1u.ext hS.ext) (hV1v.ext hS.ext) (Lib.hid (all4_p Hp.out))).mono ?_
  rintro e w3 ⟨v_, rfl, hv_, hx_⟩
  replace hS := hS.mv hx_
  clear hx_
  obtain ⟨_, rfl, c8, aL, c9, ca, cb, aM, cc, cd, ce, aN, cf, cg, ch, aO, ci, cj, ck, aP, cl, cn, co, aQ, cp, cq, rfl, aR, aS, aT, aU, aV, aW⟩ := hv_
  replace hS := hS.addI aR
  clear aR
  replace hS := hS.addI aS
  clear aS
  replace hS := hS.addI aT
  clear aT
  replace hS := hS.addI aU
  clear aU
  replace hS := hS.addI aV
  clear aV
  replace hS := hS.addI aW
  clear aW
  have o7 : Own w w3.heap.size := Own.of hS.ext (by simp)
  have ds := (St.al hS 37 #[.bool false, .slice none 0 0, .bool false, .slice none 0 0, .bool false, .slice none 0 0, .bool false, .slice none 0 0, .bool false, .slice none 0 0, .bool false, .slice none 0 0] (g := w3.heap.size) (by simp))
  have k_6 := (ds.blk 0 rfl).cell
  have k_7 := (ds.blk 0 rfl).frozen
  have dt := (St.al hS 37 #[.bool c8, .slice aL c9 ca, .bool cb, .slice aM cc cd, .bool ce, .slice aN cf cg, .bool ch, .slice aO ci cj, .bool ck, .slice aP cl cn, .bool co, .slice aQ cp cq] (g := w3.heap.size) (by simp))
  have k_8 := (dt.blk 4 rfl).cell
  have k_9 := (dt.blk 2 rfl).cell
  go_wp2_with fail
  clear k_6 k_7 k_8 k_9
  clear ds dt
  replace hS := (St.al hS 37 #[.bool c8, .slice aL c9 ca, .bool cb, .slice aM cc cd, .bool ce, .slice aN cf cg, .bool ch, .slice aO ci cj, .bool ck, .slice aP cl cn, .bool co, .slice aQ cp cq] (g := w3.heap.size) (by simp))
  generalize (w3.alloc (.cells #[.bool c8, .slice aL c9 ca, .bool cb, .slice aM cc cd, .bool ce, .slice aN cf cg, .bool ch, .slice aO ci cj, .bool ck, .slice aP cl cn, .bool co, .slice aQ cp cq] 37)) = w4 at hS ⊢
  generalize w3.heap.size = g7 at hS o7 ⊢
  refine (xTimes_bad bl bm aF bn bo bp aG bq br bs aH bt bu bv aI bw bx bz aJ bA bB bC aK bD b0u b0v aw ax ar ay az aA au aB aC aD av aE true _ (hV0u.ext hS.ext) (hV0v.ext hS.ext) (GV.vb (q := q2) (n := n2) ⟨_, _, _, RG.mk (hS.num 8 rfl) (hS.num 7 rfl) (hS.num 6 rfl), I2, S2⟩ (by omega)) (Lib.hid (all3_p Hp.out))).mono ?_
  rintro e w5 ⟨v_, rfl, hv_, hx_⟩
  replace hS := hS.mv hx_
  clear hx_
  obtain ⟨_, rfl, cr, aX, cs, ct, cu, aY, cv, cw, cx, aZ, cy, cz, cA, b0, cB, cC, cD, b1, cE, cF, cG, b2, cH, cI, rfl, b3, b4, b5, b6, b7, b8⟩ := hv_
  replace hS := hS.addI b3
  clear b3
  replace hS := hS.addI b4
  clear b4
  replace hS := hS.addI b5
  clear b5
  replace hS := hS.addI b6
  clear b6
  replace hS := hS.addI b7
  clear b7
  replace hS := hS.addI b8
  clear b8
  have o9 : Own w w5.heap.size := Own.of hS.ext (by simp)
  have du := (St.al hS 37 #[.bool false, .slice none 0 0, .bool false, .slice none 0 0, .bool false, .slice none 0 0, .bool false, .slice none 0 0, .bool false, .slice none 0 0, .bool false, .slice none 0 0] (g := w5.heap.size) (by simp))
  have dv := (du.blk 0 rfl).cell
  have dw := (du.blk 0 rfl).frozen
  have dF := (St.al hS 37 #[.bool cr, .slice aX cs ct, .bool cu, .slice aY cv cw, .bool cx, .slice aZ cy cz, .bool cA, .slice b0 cB cC, .bool cD, .slice b1 cE cF, .bool cG, .slice b2 cH cI] (g := w5.heap.size) (by simp))
  have dx := (dF.blk 3 rfl).cell
  go_wp2_with fail
  clear dv dw dx
  clear du dF
  replace hS := (St.al hS 37 #[.bool cr, .slice aX cs ct, .bool cu, .slice aY cv cw, .bool cx, .slice aZ cy cz, .bool cA, .slice b0 cB cC, .bool cD, .slice b1 cE cF, .bool cG, .slice b2 cH cI] (g := w5.heap.size) (by simp))
  generalize (w5.alloc (.cells #[.bool cr, .slice aX cs ct, .bool cu, .slice aY cv cw, .bool cx, .slice aZ cy cz, .bool cA, .slice b0 cB cC, .bool cD, .slice b1 cE cF, .bool cG, .slice b2 cH cI] 37)) = w6 at hS ⊢
  generalize w5.heap.size = g9 at hS o9 ⊢
  refine (toTP (xPlain_w _ q2 (n2) _ ⟨_, _, _, RG.mk (hS.num 14 rfl) (hS.num 13 rfl) (hS.num 12 rfl), I2, S2⟩ (by omega) (by omega)) I2 (is_i 0 0)).mono ?_
  rintro e w7 ⟨v_, rfl, hv_, hx_⟩
  replace hS := hS.mv hx_
  clear hx_
  obtain ⟨_, rfl, cT, c2, cU, cV, cW, c3, cX, cY, cZ, c4, d0, d1, d2, c5, d3, d4, d5, c6, d6, d7, d8, c7, d9, da, rfl, b9, ba, bb, bc, bd, be⟩ := hv_
  replace hS := hS.addI b9
  clear b9
  replace hS := hS.addI ba
  clear ba
  replace hS := hS.addI bb
  clear bb
  replace hS := hS.addI bc
  clear bc
  replace hS := hS.addI bd
  clear bd
  replace hS := hS.addI be
  clear be
  have o11 : Own w w7.heap.size := Own.of hS.ext (by simp)
  have dy := (St.al hS 37 #[.bool false, .slice none 0 0, .bool false, .slice none 0 0, .bool false, .slice none 0 0, .bool false, .slice none 0 0, .bool false, .slice none 0 0, .bool false, .slice none 0 0] (g := w7.heap.size) (by simp))
  have dz := (dy.blk 0 rfl).cell
  have dA := (dy.blk 0 rfl).frozen
  go_wp2_with fail
  clear dz dA
  clear dy
  replace hS := (St.al hS 37 #[.bool cT, .slice c2 cU cV, .bool cW, .slice c3 cX cY, .bool cZ, .slice c4 d0 d1, .bool d2, .slice c5 d3 d4, .bool d5, .slice c6 d6 d7, .bool d8, .slice c7 d9 da] (g := w7.heap.size) (by simp))
  generalize (w7.alloc (.cells #[.bool cT, .slice c2 cU cV, .bool cW, .slice c3 cX cY, .bool cZ, .slice c4 d0 d1, .bool d2, .slice c5 d3 d4, .bool d5, .slice c6 d6 d7, .bool d8, .slice c7 d9 da] 37)) = w8 at hS ⊢
  generalize w7.heap.size = g11 at hS o11 ⊢
  cases b0u
  all_goals cases b1u
  go_wp2_with fail
  have Y5 := ExtOf.blk (hS.blk 4 rfl)
  have Y4 := ExtOf.blk (hS.blk 5 rfl)
  have Y3 := ExtOf.blk (hS.blk 6 rfl)
  have hE_ := hS.ext
  refine wp_region_tame 20 (hasF [(2, .any), (10, .any), (17, .any)]) (Fcs [(2, .eq (.bool false)), (10, .eq (.bool false)), (17, .eq (.bool true))]) (Fcs_stab _) (by kernel_rfl) (by kernel_rfl) ?_
  simp only [tk1, tk0, dp1, dp0]
  refine wpT_quiet 2 (by rfl) (by kernel_rfl) ?_
  simp only [tk1, tk0, dp1, dp0]
  repeat (go_big_quiet_step (fail))
  refine wpQuiet_nil ?_
  refine wpT_eff (by rfl) (by rfl) (by rfl) ?_ ?_
  · intro W_ hK
    have hW := hK.1
    clear hK
    go_simp
    exact ⟨rfl, (VB.q (hV0u.ext (hE_.trans hW))).mono fun e w' ⟨he, hx⟩ => ⟨_, he, hx, rfl⟩⟩
  intro v_ cJ cK hr_
  obtain ⟨W_, hW_⟩ := hr_
  obtain rfl : v_ = .bool false := hW_.get
  clear hW_ W_
  try simp only [Act.put, sa0, sa1, sa2]
  refine wpT_quiet 3 (by rfl) (by kernel_rfl) ?_
  simp only [tk1, tk0, dp1, dp0]
  repeat (go_big_quiet_step (fail))
  refine wpQuiet_nil ?_
  refine wpT_skip (by rfl) (by rfl) ?_
  try simp only [Act.put, sa0, sa1, sa2]
  refine wpT_quiet 3 (by rfl) (by kernel_rfl) ?_
  simp only [tk1, tk0, dp1, dp0]
  repeat (go_big_quiet_step (fail))
  refine wpQuiet_nil ?_
  refine wpT_eff (by rfl) (by rfl) (by rfl) ?_ ?_
  · intro W_ hK
    have hW := hK.1
    clear hK
    go_simp
    exact ⟨rfl, (VB.q (hV1u.ext (hE_.trans hW))).mono fun e w' ⟨he, hx⟩ => ⟨_, he, hx, rfl⟩⟩
  intro v_ cL cM hr_
  obtain ⟨W_, hW_⟩ := hr_
  obtain rfl : v_ = .bool false := hW_.get
  clear hW_ W_
  try simp only [Act.put, sa0, sa1, sa2]
  refine wpT_quiet 3 (by rfl) (by kernel_rfl) ?_
  simp only [tk1, tk0, dp1, dp0]
  repeat (go_big_quiet_step (fail))
  refine wpQuiet_nil ?_
  refine wpT_skip (by rfl) (by rfl) ?_
  try simp only [Act.put, sa0, sa1, sa2]
  refine wpT_quiet 2 (by rfl) (by kernel_rfl) ?_
  simp only [tk1, tk0, dp1, dp0]
  repeat (go_big_quiet_step (fail))
  refine wpQuiet_nil ?_
  refine wpT_eff (by rfl) (by rfl) (by rfl) ?_ ?_
  · intro W_ hK
    have hW := hK.1
    clear hK
    go_simp
    exact ⟨rfl, (qValid_gv _ q2 (n2) _ ⟨_, _, _, RG.mk (RI.ext (hS.num 20 rfl) hW) (RI.ext (hS.num 19 rfl) hW) (RI.ext (hS.num 18 rfl) hW), I2, S2⟩ (by omega)).mono fun e w' ⟨he, hx⟩ => ⟨_, he, hx, rfl⟩⟩
  intro v_ cN cO hr_
  obtain ⟨W_, hW_⟩ := hr_
  obtain rfl : v_ = .bool true := hW_.get
  clear hW_ W_
  try simp only [Act.put, sa0, sa1, sa2]
  refine wpT_quiet 2 (by rfl) (by kernel_rfl) ?_
  simp only [tk1, tk0, dp1, dp0]
  repeat (go_big_quiet_step (fail))
  refine wpQuiet_nil ?_
  refine wpT_nil ?_
  intro w9 hK
  have hlt_ := hS.lt
  replace hS := hS.mv hK.ext
  clear hK hlt_ hE_ Y5 Y4 Y3
  rotate_left 1
  obtain rfl : b1v = false := by simpa using Hq.out
  go_wp2_with fail
  have Y5 := ExtOf.blk (hS.blk 4 rfl)
  have Y4 := ExtOf.blk (hS.blk 5 rfl)
  have Y3 := ExtOf.blk (hS.blk 6 rfl)
  have hE_ := hS.ext
  refine wp_region_tame 20 (hasF [(2, .any), (10, .any), (14, .any), (17, .any)]) (Fcs [(2, .eq (.bool false)), (10, .eq (.bool true)), (14, .eq (.bool false)), (17, .eq (.bool true))]) (Fcs_stab _) (by kernel_rfl) (by kernel_rfl) ?_
  simp only [tk1, tk0, dp1, dp0]
  refine wpT_quiet 2 (by rfl) (by kernel_rfl) ?_
  simp only [tk1, tk0, dp1, dp0]
  repeat (go_big_quiet_step (fail))
  refine wpQuiet_nil ?_
  refine wpT_eff (by rfl) (by rfl) (by rfl) ?_ ?_
  · intro W_ hK
    have hW := hK.1
    clear hK
    go_simp
    exact ⟨rfl, (VB.q (hV0u.ext (hE_.trans hW))).mono fun e w' ⟨he, hx⟩ => ⟨_, he, hx, rfl⟩⟩
  intro v_ cJ cK hr_
  obtain ⟨W_, hW_⟩ := hr_
  obtain rfl : v_ = .bool false := hW_.get
  clear hW_ W_
  try simp only [Act.put, sa0, sa1, sa2]
  refine wpT_quiet 3 (by rfl) (by kernel_rfl) ?_
  simp only [tk1, tk0, dp1, dp0]
  repeat (go_big_quiet_step (fail))
  refine wpQuiet_nil ?_
  refine wpT_skip (by rfl) (by rfl) ?_
  try simp only [Act.put, sa0, sa1, sa2]
  refine wpT_quiet 3 (by rfl) (by kernel_rfl) ?_
  simp only [tk1, tk0, dp1, dp0]
  repeat (go_big_quiet_step (fail))
  refine wpQuiet_nil ?_
  refine wpT_eff (by rfl) (by rfl) (by rfl) ?_ ?_
  · intro W_ hK
    have hW := hK.1
    clear hK
    go_simp
    exact ⟨rfl, (VB.q (hV1u.ext (hE_.trans hW))).mono fun e w' ⟨he, hx⟩ => ⟨_, he, hx, rfl⟩⟩
  intro v_ cL cM hr_
  obtain ⟨W_, hW_⟩ := hr_
  obtain rfl : v_ = .bool true := hW_.get
  clear hW_ W_
  try simp only [Act.put, sa0, sa1, sa2]
  refine wpT_quiet 3 (by rfl) (by kernel_rfl) ?_
  simp only [tk1, tk0, dp1, dp0]
  repeat (go_big_quiet_step (fail))
  refine wpQuiet_nil ?_
  refine wpT_eff (by rfl) (by rfl) (by rfl) ?_ ?_
  · intro W_ hK
    have hW := hK.1
    clear hK
    go_simp
    exact ⟨rfl, (VB.q (hV1v.ext (hE_.trans hW))).mono fun e w' ⟨he, hx⟩ => ⟨_, he, hx, rfl⟩⟩
  intro v_ dB dC hr_
  obtain ⟨W_, hW_⟩ := hr_
  obtain rfl : v_ = .bool false := hW_.get
  clear hW_ W_
  try simp only [Act.put, sa0, sa1, sa2]
  refine wpT_quiet 2 (by rfl) (by kernel_rfl) ?_
  simp only [tk1, tk0, dp1, dp0]
  repeat (go_big_quiet_step (fail))
  refine wpQuiet_nil ?_
  refine wpT_eff (by rfl) (by rfl) (by rfl) ?_ ?_
  · intro W_ hK
    have hW := hK.1
    clear hK
    go_simp
    exact ⟨rfl, (qValid_gv _ q2 (n2) _ ⟨_, _, _, RG.mk (RI.ext (hS.num 20 rfl) hW) (RI.ext (hS.num 19 rfl) hW) (RI.ext (hS.num 18 rfl) hW), I2, S2⟩ (by omega)).mono fun e w' ⟨he, hx⟩ => ⟨_, he, hx, rfl⟩⟩
  intro v_ cN cO hr_
  obtain ⟨W_, hW_⟩ := hr_
  obtain rfl : v_ = .bool true := hW_.get
  clear hW_ W_
  try simp only [Act.put, sa0, sa1, sa2]
  refine wpT_quiet 2 (by rfl) (by kernel_rfl) ?_
  simp only [tk1, tk0, dp1, dp0]
  repeat (go_big_quiet_step (fail))
  refine wpQuiet_nil ?_
  refine wpT_nil ?_
  intro w9 hK
  have hlt_ := hS.lt
  replace hS := hS.mv hK.ext
  clear hK hlt_ hE_ Y5 Y4 Y3
  rotate_left 1
  obtain rfl : b0v = false := by simpa using Hp.out
  go_wp2_with fail
  have Y5 := ExtOf.blk (hS.blk 4 rfl)
  have Y4 := ExtOf.blk (hS.blk 5 rfl)
  have Y3 := ExtOf.blk (hS.blk 6 rfl)
  have hE_ := hS.ext
  refine wp_region_tame 20 (hasF [(2, .any), (6, .any), (10, .any), (17, .any)]) (Fcs [(2, .eq (.bool true)), (6, .eq (.bool false)), (10, .eq (.bool false)), (17, .eq (.bool true))]) (Fcs_stab _) (by kernel_rfl) (by kernel_rfl) ?_
  simp only [tk1, tk0, dp1, dp0]
  refine wpT_quiet 2 (by rfl) (by kernel_rfl) ?_
  simp only [tk1, tk0, dp1, dp0]
  repeat (go_big_quiet_step (fail))
  refine wpQuiet_nil ?_
  refine wpT_eff (by rfl) (by rfl) (by rfl) ?_ ?_
  · intro W_ hK
    have hW := hK.1
    clear hK
    go_simp
    exact ⟨rfl, (VB.q (hV0u.ext (hE_.trans hW))).mono fun e w' ⟨he, hx⟩ => ⟨_, he, hx, rfl⟩⟩
  intro v_ cJ cK hr_
  obtain ⟨W_, hW_⟩ := hr_
  obtain rfl : v_ = .bool true := hW_.get
  clear hW_ W_
  try simp only [Act.put, sa0, sa1, sa2]
  refine wpT_quiet 3 (by rfl) (by kernel_rfl) ?_
  simp only [tk1, tk0, dp1, dp0]
  repeat (go_big_quiet_step (fail))
  refine wpQuiet_nil ?_
  refine wpT_eff (by rfl) (by rfl) (by rfl) ?_ ?_
  · intro W_ hK
    have hW := hK.1
    clear hK
    go_simp
    exact ⟨rfl, (VB.q (hV0v.ext (hE_.trans hW))).mono fun e w' ⟨he, hx⟩ => ⟨_, he, hx, rfl⟩⟩
  intro v_ dD dE hr_
  obtain ⟨W_, hW_⟩ := hr_
  obtain rfl : v_ = .bool false := hW_.get
  clear hW_ W_
  try simp only [Act.put, sa0, sa1, sa2]
  refine wpT_quiet 3 (by rfl) (by kernel_rfl) ?_
  simp only [tk1, tk0, dp1, dp0]
  repeat (go_big_quiet_step (fail))
  refine wpQuiet_nil ?_
  refine wpT_eff (by rfl) (by rfl) (by rfl) ?_ ?_
  · intro W_ hK
    have hW := hK.1
    clear hK
    go_simp
    exact ⟨rfl, (VB.q (hV1u.ext (hE_.trans hW))).mono fun e w' ⟨he, hx⟩ => ⟨_, he, hx, rfl⟩⟩
  intro v_ cL cM hr_
  obtain ⟨W_, hW_⟩ := hr_
  obtain rfl : v_ = .bool false := hW_.get
  clear hW_ W_
  try simp only [Act.put, sa0, sa1, sa2]
  refine wpT_quiet 3 (by rfl) (by kernel_rfl) ?_
  simp only [tk1, tk0, dp1, dp0]
  repeat (go_big_quiet_step (fail))
  refine wpQuiet_nil ?_
  refine wpT_skip (by rfl) (by rfl) ?_
  try simp only [Act.put, sa0, sa1, sa2]
  refine wpT_quiet 2 (by rfl) (by kernel_rfl) ?_
  simp only [tk1, tk0, dp1, dp0]
  repeat (go_big_quiet_step (fail))
  refine wpQuiet_nil ?_
  refine wpT_eff (by rfl) (by rfl) (by rfl) ?_ ?_
  · intro W_ hK
    have hW := hK.1
    clear hK
    go_simp
    exact ⟨rfl, (qValid_gv _ q2 (n2) _ ⟨_, _, _, RG.mk (RI.ext (hS.num 20 rfl) hW) (RI.ext (hS.num 19 rfl) hW) (RI.ext (hS.num 18 rfl) hW), I2, S2⟩ (by omega)).mono fun e w' ⟨he, hx⟩ => ⟨_, he, hx, rfl⟩⟩
  intro v_ cN cO hr_
  obtain ⟨W_, hW_⟩ := hr_
  obtain rfl : v_ = .bool true := hW_.get
  clear hW_ W_
  try simp only [Act.put, sa0, sa1, sa2]
  refine wpT_quiet 2 (by rfl) (by kernel_rfl) ?_
  simp only [tk1, tk0, dp1, dp0]
  repeat (go_big_quiet_step (fail))
  refine wpQuiet_nil ?_
  refine wpT_nil ?_
  intro w9 hK
  have hlt_ := hS.lt
  replace hS := hS.mv hK.ext
  clear hK hlt_ hE_ Y5 Y4 Y3
  rotate_left 1
  obtain rfl : b0v = false := by simpa using Hp.out
  obtain rfl : b1v = false := by simpa using Hq.out
  go_wp2_with fail
  have Y5 := ExtOf.blk (hS.blk 4 rfl)
  have Y4 := ExtOf.blk (hS.blk 5 rfl)
  have Y3 := ExtOf.blk (hS.blk 6 rfl)
  have hE_ := hS.ext
  refine wp_region_tame 20 (hasF [(2, .any), (6, .any), (10, .any), (14, .any), (17, .any)]) (Fcs [(2, .eq (.bool true)), (6, .eq (.bool false)), (10, .eq (.bool true)), (14, .eq (.bool false)), (17, .eq (.bool true))]) (Fcs_stab _) (by kernel_rfl) (by kernel_rfl) ?_
  simp only [tk1, tk0, dp1, dp0]
  refine wpT_quiet 2 (by rfl) (by kernel_rfl) ?_
  simp only [tk1, tk0, dp1, dp0]
  repeat (go_big_quiet_step (fail))
  refine wpQuiet_nil ?_
  refine wpT_eff (by rfl) (by rfl) (by rfl) ?_ ?_
  · intro W_ hK
    have hW := hK.1
    clear hK
    go_simp
    exact ⟨rfl, (VB.q (hV0u.ext (hE_.trans hW))).mono fun e w' ⟨he, hx⟩ => ⟨_, he, hx, rfl⟩⟩
  intro v_ cJ cK hr_
  obtain ⟨W_, hW_⟩ := hr_
  obtain rfl : v_ = .bool true := hW_.get
  clear hW_ W_
  try simp only [Act.put, sa0, sa1, sa2]
  refine wpT_quiet 3 (by rfl) (by kernel_rfl) ?_
  simp only [tk1, tk0, dp1, dp0]
  repeat (go_big_quiet_step (fail))
  refine wpQuiet_nil ?_
  refine wpT_eff (by rfl) (by rfl) (by rfl) ?_ ?_
  · intro W_ hK
    have hW := hK.1
    clear hK
    go_simp
    exact ⟨rfl, (VB.q (hV0v.ext (hE_.trans hW))).mono fun e w' ⟨he, hx⟩ => ⟨_, he, hx, rfl⟩⟩
  intro v_ dD dE hr_
  obtain ⟨W_, hW_⟩ := hr_
  obtain rfl : v_ = .bool false := hW_.get
  clear hW_ W_
  try simp only [Act.put, sa0, sa1, sa2]
  refine wpT_quiet 3 (by rfl) (by kernel_rfl) ?_
  simp only [tk1, tk0, dp1, dp0]
  repeat (go_big_quiet_step (fail))
  refine wpQuiet_nil ?_
  refine wpT_eff (by rfl) (by rfl) (by rfl) ?_ ?_
  · intro W_ hK
    have hW := hK.1
    clear hK
    go_simp
    exact ⟨rfl, (VB.q (hV1u.ext (hE_.trans hW))).mono fun e w' ⟨he, hx⟩ => ⟨_, he, hx, rfl⟩⟩
  intro v_ cL cM hr_
  obtain ⟨W_, hW_⟩ := hr_
  obtain rfl : v_ = .bool true := hW_.get
  clear hW_ W_
  try simp only [Act.put, sa0, sa1, sa2]
  refine wpT_quiet 3 (by rfl) (by kernel_rfl) ?_
  simp only [tk1, tk0, dp1, dp0]
  repeat (go_big_quiet_step (fail))
  refine wpQuiet_nil ?_
  refine wpT_eff (by rfl) (by rfl) (by rfl) ?_ ?_
  · intro W_ hK
    have hW := hK.1
    clear hK
    go_simp
    exact ⟨rfl, (VB.q (hV1v.ext (hE_.trans hW))).mono fun e w' ⟨he, hx⟩ => ⟨_, he, hx, rfl⟩⟩
  intro v_ dB dC hr_
  obtain ⟨W_, hW_⟩ := hr_
  obtain rfl : v_ = .bool false := hW_.get
  clear hW_ W_
  try simp only [Act.put, sa0, sa1, sa2]
  refine wpT_quiet 2 (by rfl) (by kernel_rfl) ?_
  simp only [tk1, tk0, dp1, dp0]
  repeat (go_big_quiet_step (fail))
  refine wpQuiet_nil ?_
  refine wpT_eff (by rfl) (by rfl) (by rfl) ?_ ?_
  · intro W_ hK
    have hW := hK.1
    clear hK
    go_simp
    exact ⟨rfl, (qValid_gv _ q2 (n2) _ ⟨_, _, _, RG.mk (RI.ext (hS.num 20 rfl) hW) (RI.ext (hS.num 19 rfl) hW) (RI.ext (hS.num 18 rfl) hW), I2, S2⟩ (by omega)).mono fun e w' ⟨he, hx⟩ => ⟨_, he, hx, rfl⟩⟩
  intro v_ cN cO hr_
  obtain ⟨W_, hW_⟩ := hr_
  obtain rfl : v_ = .bool true := hW_.get
  clear hW_ W_
  try simp only [Act.put, sa0, sa1, sa2]
  refine wpT_quiet 2 (by rfl) (by kernel_rfl) ?_
  simp only [tk1, tk0, dp1, dp0]
  repeat (go_big_quiet_step (fail))
  refine wpQuiet_nil ?_
  refine wpT_nil ?_
  intro w9 hK
  have hlt_ := hS.lt
  replace hS := hS.mv hK.ext
  clear hK hlt_ hE_ Y5 Y4 Y3
  rotate_left 1
  all_goals
    go_wp2_with fail
    have Y11 := ExtOf.blk (hS.blk 0 rfl)
    have Y5 := ExtOf.blk (hS.blk 4 rfl)
    have hE_ := hS.ext
    refine wp_region_tame 33 (hasF [(0, .any), (29, .any), (30, .any)]) (Fcs [(0, .eq (.bool true)), (29, .rp (db) (dc) (dd) ((0 : Int)) ((0 : Int)) ((1 : Int))), (30, .eq (.bool true))]) (Fcs_stab _) (by kernel_rfl) (by kernel_rfl) ?_
    simp only [tk1, tk0, dp1, dp0]
    refine wpT_eff (by rfl) (by rfl) (by rfl) ?_ ?_
    · intro W_ hK
      have hW := hK.1
      clear hK
      go_simp
      exact ⟨rfl, (lxknown_ok _ (tab_ext hTab (hE_.trans hW))).mono fun e w' ⟨he, hx⟩ => ⟨_, he, hx, rfl⟩⟩
    intro v_ dG dH hr_
    obtain ⟨W_, hW_⟩ := hr_
    obtain rfl : v_ = .bool true := hW_.get
    clear hW_ W_
    try simp only [Act.put, sa0, sa1, sa2]
    refine wpT_quiet 7 (by rfl) (by kernel_rfl) ?_
    simp only [tk1, tk0, dp1, dp0]
    repeat (go_big_quiet_step (fail))
    refine wpQuiet_nil ?_
    refine wpT_skip (by rfl) (by rfl) ?_
    try simp only [Act.put, sa0, sa1, sa2]
    refine wpT_skip (by rfl) (by rfl) ?_
    try simp only [Act.put, sa0, sa1, sa2]
    refine wpT_quiet 9 (by rfl) (by kernel_rfl) ?_
    simp only [tk1, tk0, dp1, dp0]
    repeat (go_big_quiet_step (fail))
    refine wpQuiet_nil ?_
    refine wpT_skip (by rfl) (by rfl) ?_
    try simp only [Act.put, sa0, sa1, sa2]
    refine wpT_skip (by rfl) (by rfl) ?_
    try simp only [Act.put, sa0, sa1, sa2]
    refine wpT_quiet 8 (by rfl) (by kernel_rfl) ?_
    simp only [tk1, tk0, dp1, dp0]
    repeat (go_big_quiet_step (fail))
    refine wpQuiet_nil ?_
    refine wpT_eff (by rfl) (by rfl) (by rfl) ?_ ?_
    · intro W_ hK
      have hW := hK.1
      clear hK
      go_simp
      exact ⟨rfl, (toRP (qPlain_ok _ q2 (n2) _ ⟨_, _, _, RG.mk (RI.ext (hS.num 20 rfl) hW) (RI.ext (hS.num 19 rfl) hW) (RI.ext (hS.num 18 rfl) hW), I2, S2⟩ (by omega)) I2 (is_i 0 0)).mono fun e w' ⟨v, he, hR, hx⟩ => ⟨v, he, hx, hR⟩⟩
    intro v_ ap aq hr_
    obtain ⟨W_, hW_⟩ := hr_
    have hv_ : Fc.holds (.rp (db) (dc) (dd) ((0 : Int)) ((0 : Int)) ((1 : Int))) ap aq v_ W_ := hW_.get
    clear hW_
    obtain ⟨a6, a0, a7, a8, a9, a1, aa, ab, ac, a2, ad, ae, af, a3, ag, ah, ai, a4, aj, ak, am, a5, an, ao, rfl, -, -, -, -, -, -⟩ := hv_
    clear W_
    try simp only [Act.put, sa0, sa1, sa2]
    refine wpT_eff (by rfl) (by rfl) (by rfl) ?_ ?_
    · intro W_ hK
      have hW := hK.1
      have bE : RI W_ (iv a6 a0 a7 a8) db := RP.at1 (hK.2 29 ((pv a6 a0 a7 a8 a9 a1 aa ab ac a2 ad ae af a3 ag ah ai a4 aj ak am a5 an ao), ap, aq) (by rfl) (anc_of (by kernel_rfl)))
      have bF : RI W_ (iv a9 a1 aa ab) dc := RP.at2 (hK.2 29 ((pv a6 a0 a7 a8 a9 a1 aa ab ac a2 ad ae af a3 ag ah ai a4 aj ak am a5 an ao), ap, aq) (by rfl) (anc_of (by kernel_rfl)))
      have bG : RI W_ (iv ac a2 ad ae) dd := RP.at3 (hK.2 29 ((pv a6 a0 a7 a8 a9 a1 aa ab ac a2 ad ae af a3 ag ah ai a4 aj ak am a5 an ao), ap, aq) (by rfl) (anc_of (by kernel_rfl)))
      have bH : RI W_ (iv af a3 ag ah) (0 : Int) := RP.at4 (hK.2 29 ((pv a6 a0 a7 a8 a9 a1 aa ab ac a2 ad ae af a3 ag ah ai a4 aj ak am a5 an ao), ap, aq) (by rfl) (anc_of (by kernel_rfl)))
      have bI : RI W_ (iv ai a4 aj ak) (0 : Int) := RP.at5 (hK.2 29 ((pv a6 a0 a7 a8 a9 a1 aa ab ac a2 ad ae af a3 ag ah ai a4 aj ak am a5 an ao), ap, aq) (by rfl) (anc_of (by kernel_rfl)))
      have bJ : RI W_ (iv am a5 an ao) (1 : Int) := RP.at6 (hK.2 29 ((pv a6 a0 a7 a8 a9 a1 aa ab ac a2 ad ae af a3 ag ah ai a4 aj ak am a5 an ao), ap, aq) (by rfl) (anc_of (by kernel_rfl)))
      clear hK
      go_simp
      exact ⟨rfl, (qSamePhasor_q _ _ (⟨q2, (GQ.i 0 0)⟩ : PQ) (⟨q2, (GQ.i 0 0)⟩ : PQ) (n2) (n2) _ ⟨_, _, _, _, _, _, RP.mk (RI.ext (hS.num 5 rfl) hW) (RI.ext (hS.num 4 rfl) hW) (RI.ext (hS.num 3 rfl) hW) (RI.ext (hS.num 2 rfl) hW) (RI.ext (hS.num 1 rfl) hW) (RI.ext (hS.num 0 rfl) hW), I2, S2, (is_i 0 0), (sz_0 (n := n2) (by omega))⟩ ⟨_, _, _, _, _, _, RP.mk bE bF bG bH bI bJ, I2, S2, (is_i 0 0), (sz_0 (n := n2) (by omega))⟩ rfl).mono fun e w' ⟨he, hx⟩ => ⟨_, he, hx, rfl⟩⟩
    intro v_ dI dJ hr_
    obtain ⟨W_, hW_⟩ := hr_
    obtain rfl : v_ = .bool true := hW_.get
    clear hW_ W_
    try simp only [Act.put, sa0, sa1, sa2]
    refine wpT_quiet 2 (by rfl) (by kernel_rfl) ?_
    simp only [tk1, tk0, dp1, dp0]
    repeat (go_big_quiet_step (fail))
    refine wpQuiet_nil ?_
    refine wpT_nil ?_
    intro cP hK
    have hlt_ := hS.lt
    replace hS := hS.mv hK.ext
    replace hS := hS.addI (show RI cP (iv a6 a0 a7 a8) db from RP.at1 (hK.at_ 29 (e := ((pv a6 a0 a7 a8 a9 a1 aa ab ac a2 ad ae af a3 ag ah ai a4 aj ak am a5 an ao), ap, aq)) (by rfl)))
    replace hS := hS.addI (show RI cP (iv a9 a1 aa ab) dc from RP.at2 (hK.at_ 29 (e := ((pv a6 a0 a7 a8 a9 a1 aa ab ac a2 ad ae af a3 ag ah ai a4 aj ak am a5 an ao), ap, aq)) (by rfl)))
    replace hS := hS.addI (show RI cP (iv ac a2 ad ae) dd from RP.at3 (hK.at_ 29 (e := ((pv a6 a0 a7 a8 a9 a1 aa ab ac a2 ad ae af a3 ag ah ai a4 aj ak am a5 an ao), ap, aq)) (by rfl)))
    replace hS := hS.addI (show RI cP (iv af a3 ag ah) (0 : Int) from RP.at4 (hK.at_ 29 (e := ((pv a6 a0 a7 a8 a9 a1 aa ab ac a2 ad ae af a3 ag ah ai a4 aj ak am a5 an ao), ap, aq)) (by rfl)))
    replace hS := hS.addI (show RI cP (iv ai a4 aj ak) (0 : Int) from RP.at5 (hK.at_ 29 (e := ((pv a6 a0 a7 a8 a9 a1 aa ab ac a2 ad ae af a3 ag ah ai a4 aj ak am a5 an ao), ap, aq)) (by rfl)))
    replace hS := hS.addI (show RI cP (iv am a5 an ao) (1 : Int) from RP.at6 (hK.at_ 29 (e := ((pv a6 a0 a7 a8 a9 a1 aa ab ac a2 ad ae af a3 ag ah ai a4 aj ak am a5 an ao), ap, aq)) (by rfl)))
    clear hK hlt_ hE_ Y11 Y5
    go_wp2
    go_ret
    exact ⟨ret_bool (rfl), hS.ext⟩

set_option maxRecDepth 100000 in
set_option maxHeartbeats 51200000 in
theorem phasors_bvb (b4 : Bool) (b5 : Option Addr) (ap b6 : Nat) (b7 : Bool) (b8 : Option Addr) (aq b9 : Nat) (ba : Bool) (bb : Option Addr) (ar bc : Nat) (bd : Bool) (be : Option Addr) (au bf : Nat) (bg : Bool) (bh : Option Addr) (av bi : Nat) (bj : Bool) (bk : Option Addr) (aw bl : Nat) (b0u : Bool) (b0v : Bool) (v1 : Value) (q1 : PQ) (n1 : Nat) (bm : Bool) (bn : Option Addr) (ax bo : Nat) (bp : Bool) (bq : Option Addr) (ay br : Nat) (bs : Bool) (bt : Option Addr) (az bu : Nat) (w : World) (hV0u : VB w (gv b4 b5 ap b6 b7 b8 aq b9 ba bb ar bc) b0u) (hV0v : VB w (gv bd be au bf bg bh av bi bj bk aw bl) b0v) (hX1 : PV w v1 q1 n1) (hV2 : VB w (gv bm bn ax bo bp bq ay br bs bt az bu) false) (cE : ap ≤ 40) (cF : aq ≤ 40) (cG : ar ≤ 40) (cH : au ≤ 40) (cI : av ≤ 40) (cJ : aw ≤ 40) (hn1 : n1 ≤ 1280) (hm1 : 1 ≤ n1) (cK : ax ≤ 40) (cL : ay ≤ 40) (cM : az ≤ 40) (Hp : Hid ((b0u && b0v) = false)) (hTab : Tab w)
      :
    Calls Tryz.prog 7 #[pv b4 b5 ap b6 b7 b8 aq b9 ba bb ar bc bd be au bf bg bh av bi bj bk aw bl, v1, gv bm bn ax bo bp bq ay br bs bt az bu] w fun e w' => e = .returned (.bool true) ∧ Ext w w' := by
  have hS := St.start w
  obtain ⟨x1a, x1b, x1d, x1x, x1y, x1z, hX1, cN, cc, cO, cd⟩ := hX1
  obtain ⟨a6, a7, a0, a8, a9, aa, a1, ab, ac, ad, a2, ae, af, ag, a3, ah, ai, aj, a4, ak, am, an, a5, ao, rfl, ce, cf, cg, ch, ci, cj⟩ := hX1
  replace hS := hS.addI ce
  clear ce
  replace hS := hS.addI cf
  clear cf
  replace hS := hS.addI cg
  clear cg
  replace hS := hS.addI ch
  clear ch
  replace hS := hS.addI ci
  clear ci
  replace hS := hS.addI cj
  clear cj
  have HL : Hid ([ap, aq, ar, au, av, aw, a0, a1, a2, a3, a4, a5, ax, ay, az].all (fun n => decide (n ≤ 40)) = true) := Lib.hid (by simp only [List.all_cons, List.all_nil, Bool.and_true, Bool.and_eq_true, decide_eq_true_eq]; exact ⟨cE, cF, cG, cH, cI, cJ, RI.low (k := 40) (hS.num 5 rfl) cc.a (by omega), RI.low (k := 40) (hS.num 4 rfl) cc.b (by omega), RI.low (k := 40) (hS.num 3 rfl) cc.d (by omega), RI.low (k := 40) (hS.num 2 rfl) cd.a (by omega), RI.low (k := 40) (hS.num 1 rfl) cd.b (by omega), RI.low (k := 40) (hS.num 0 rfl) cd.d (by omega), cK, cL, cM⟩)
  have o3 : Own w w.heap.size := Own.of hS.ext (by simp)
  have o4 : Own w (w.heap.size + 1) := Own.of hS.ext (by simp)
  have o5 : Own w (w.heap.size + 2) := Own.of hS.ext (by simp)
  have cD := (St.al (St.al (St.al hS 37 #[.bool b4, .slice b5 ap b6, .bool b7, .slice b8 aq b9, .bool ba, .slice bb ar bc, .bool bd, .slice be au bf, .bool bg, .slice bh av bi, .bool bj, .slice bk aw bl] (g := w.heap.size) (by simp)) 37 #[.bool a6, .slice a7 a0 a8, .bool a9, .slice aa a1 ab, .bool ac, .slice ad a2 ae, .bool af, .slice ag a3 ah, .bool ai, .slice aj a4 ak, .bool am, .slice an a5 ao] (g := (w.heap.size + 1)) (by simp)) 26 #[.bool bm, .slice bn ax bo, .bool bp, .slice bq ay br, .bool bs, .slice bt az bu] (g := (w.heap.size + 2)) (by simp))
  have k_1 := (cD.blk 2 rfl).cell
  have k_2 := (cD.blk 1 rfl).cell
  have k_3 := (cD.blk 0 rfl).cell
  have o25 : Own w (w.heap.size + 3) := Own.of hS.ext (by simp)
  go_enter Tryz.func7, Tryz.ntmps7
  go_wp2_with fail
  clear k_1 k_2 k_3
  clear cD
  replace hS := (St.al (St.al (St.al (St.al hS 37 #[.bool b4, .slice b5 ap b6, .bool b7, .slice b8 aq b9, .bool ba, .slice bb ar bc, .bool bd, .slice be au bf, .bool bg, .slice bh av bi, .bool bj, .slice bk aw bl] (g := w.heap.size) (by simp)) 37 #[.bool a6, .slice a7 a0 a8, .bool a9, .slice aa a1 ab, .bool ac, .slice ad a2 ae, .bool af, .slice ag a3 ah, .bool ai, .slice aj a4 ak, .bool am, .slice an a5 ao] (g := (w.heap.size + 1)) (by simp)) 26 #[.bool bm, .slice bn ax bo, .bool bp, .slice bq ay br, .bool bs, .slice bt az bu] (g := (w.heap.size + 2)) (by simp)) 26 #[.bool b4, .slice b5 ap b6, .bool b7, .slice b8 aq b9, .bool ba, .slice bb ar bc, .bool bd, .slice be au bf, .bool bg, .slice bh av bi, .bool bj, .slice bk aw bl, .bool a6, .slice a7 a0 a8, .bool a9, .slice aa a1 ab, .bool ac, .slice ad a2 ae, .bool af, .slice ag a3 ah, .bool ai, .slice aj a4 ak, .bool am, .slice an a5 ao, .bool bm, .slice bn ax bo, .bool bp, .slice bq ay br, .bool bs, .slice bt az bu] (g := (w.heap.size + 3)) (by simp))
  generalize ((((w.alloc (.cells #[.bool b4, .slice b5 ap b6, .bool b7, .slice b8 aq b9, .bool ba, .slice bb ar bc, .bool bd, .slice be au bf, .bool bg, .slice bh av bi, .bool bj, .slice bk aw bl] 37)).alloc (.cells #[.bool a6, .slice a7 a0 a8, .bool a9, .slice aa a1 ab, .bool ac, .slice ad a2 ae, .bool af, .slice ag a3 ah, .bool ai, .slice aj a4 ak, .bool am, .slice an a5 ao] 37)).alloc (.cells #[.bool bm, .slice bn ax bo, .bool bp, .slice bq ay br, .bool bs, .slice bt az bu] 26)).alloc (.cells #[.bool b4, .slice b5 ap b6, .bool b7, .slice b8 aq b9, .bool ba, .slice bb ar bc, .bool bd, .slice be au bf, .bool bg, .slice bh av bi, .bool bj, .slice bk aw bl, .bool a6, .slice a7 a0 a8, .bool a9, .slice aa a1 ab, .bool ac, .slice ad a2 ae, .bool af, .slice ag a3 ah, .bool ai, .slice aj a4 ak, .bool am, .slice an a5 ao, .bool bm, .slice bn ax bo, .bool bp, .slice bq ay br, .bool bs, .slice bt az bu] 26)) = w1 at hS ⊢
  generalize w.heap.size + 3 = g25 at hS o25 ⊢
  generalize w.heap.size + 2 = g5 at hS o5 ⊢
  generalize w.heap.size + 1 = g4 at hS o4 ⊢
  generalize w.heap.size = g3 at hS o3 ⊢
  refine (low5_raw g25 40 true _ (hS.blk 0 rfl) HL.out).mono ?_
  rintro e w2 ⟨rfl, hx_⟩
  replace hS := hS.mv hx_
  clear hx_
  have k_4 := (hS.blk 3 rfl).cell
  have k_5 := (hS.blk 2 rfl).cell
  go_wp2_with fail
  clear k_4 k_5
  refine (xSum_bad b4 b5 ap b6 b7 b8 aq b9 ba bb ar bc bd be au bf bg bh av bi bj bk aw bl b0u b0v a6 a7 a0 a8 a9 aa a1 ab ac ad a2 ae af ag a3 ah ai aj a4 ak am an a5 ao true true _ (hV0u.ext hS.ext) (hV0v.ext hS.ext) (GV.vb (q := q1.u) (n := n1) ⟨_, _, _, RG.mk (hS.num 5 rfl) (hS.num 4 rfl) (hS.num 3 rfl), cN, cc⟩ (by omega)) (GV.vb (q := q1.v) (n := n1) ⟨_, _, _, RG.mk (hS.num 2 rfl) (hS.num 1 rfl) (hS.num 0 rfl), cO, cd⟩ (by omega)) (Lib.hid (all4_p Hp.out))).mono ?_
  rintro e w3 ⟨v_, rfl, hv_, hx_⟩
  replace hS := hS.mv hx_
  clear hx_
  obtain ⟨_, rfl, bC, aA, bD, bE, bF, aB, bG, bH, bI, aC, bJ, bK, bL, aD, bM, bN, bO, aE, bP, bQ, bR, aF, bS, bT, rfl, aG, aH, aI, aJ, aK, aL⟩ := hv_
  replace hS := hS.addI aG
  clear aG
  replace hS := hS.addI aH
  clear aH
  replace hS := hS.addI aI
  clear aI
  replace hS := hS.addI aJ
  clear aJ
  replace hS := hS.addI aK
  clear aK
  replace hS := hS.addI aL
  clear aL
  have o7 : Own w w3.heap.size := Own.of hS.ext (by simp)
  have cP := (St.al hS 37 #[.bool false, .slice none 0 0, .bool false, .slice none 0 0, .bool false, .slice none 0 0, .bool false, .slice none 0 0, .bool false, .slice none 0 0, .bool false, .slice none 0 0] (g := w3.heap.size) (by simp))
  have k_6 := (cP.blk 0 rfl).cell
  have k_7 := (cP.blk 0 rfl).frozen
  have cQ := (St.al hS 37 #[.bool bC, .slice aA bD bE, .bool bF, .slice aB bG bH, .bool bI, .slice aC bJ bK, .bool bL, .slice aD bM bN, .bool bO, .slice aE bP bQ, .bool bR, .slice aF bS bT] (g := w3.heap.size) (by simp))
  have k_8 := (cQ.blk 4 rfl).cell
  have k_9 := (cQ.blk 2 rfl).cell
  go_wp2_with fail
  clear k_6 k_7 k_8 k_9
  clear cP cQ
  replace hS := (St.al hS 37 #[.bool bC, .slice aA bD bE, .bool bF, .slice aB bG bH, .bool bI, .slice aC bJ bK, .bool bL, .slice aD bM bN, .bool bO, .slice aE bP bQ, .bool bR, .slice aF bS bT] (g := w3.heap.size) (by simp))
  generalize (w3.alloc (.cells #[.bool bC, .slice aA bD bE, .bool bF, .slice aB bG bH, .bool bI, .slice aC bJ bK, .bool bL, .slice aD bM bN, .bool bO, .slice aE bP bQ, .bool bR, .slice aF bS bT] 37)) = w4 at hS ⊢
  generalize w3.heap.size = g7 at hS o7 ⊢
  refine (xTimes_bad b4 b5 ap b6 b7 b8 aq b9 ba bb ar bc bd be au bf bg bh av bi bj bk aw bl b0u b0v bm bn ax bo bp bq ay br bs bt az bu false _ (hV0u.ext hS.ext) (hV0v.ext hS.ext) (hV2.ext hS.ext) (Lib.hid (all3_p Hp.out))).mono ?_
  rintro e w5 ⟨v_, rfl, hv_, hx_⟩
  replace hS := hS.mv hx_
  clear hx_
  obtain ⟨_, rfl, bU, aM, bV, bW, bX, aN, bY, bZ, c0, aO, c1, c2, c3, aP, c4, c5, c6, aQ, c7, c8, c9, aR, ca, cb, rfl, aS, aT, aU, aV, aW, aX⟩ := hv_
  replace hS := hS.addI aS
  clear aS
  replace hS := hS.addI aT
  clear aT
  replace hS := hS.addI aU
  clear aU
  replace hS := hS.addI aV
  clear aV
  replace hS := hS.addI aW
  clear aW
  replace hS := hS.addI aX
  clear aX
  have o9 : Own w w5.heap.size := Own.of hS.ext (by simp)
  have cR := (St.al hS 37 #[.bool false, .slice none 0 0, .bool false, .slice none 0 0, .bool false, .slice none 0 0, .bool false, .slice none 0 0, .bool false, .slice none 0 0, .bool false, .slice none 0 0] (g := w5.heap.size) (by simp))
  have cS := (cR.blk 0 rfl).cell
  have cT := (cR.blk 0 rfl).frozen
  have d6 := (St.al hS 37 #[.bool bU, .slice aM bV bW, .bool bX, .slice aN bY bZ, .bool c0, .slice aO c1 c2, .bool c3, .slice aP c4 c5, .bool c6, .slice aQ c7 c8, .bool c9, .slice aR ca cb] (g := w5.heap.size) (by simp))
  have cU := (d6.blk 3 rfl).cell
  go_wp2_with fail
  clear cS cT cU
  clear cR d6
  replace hS := (St.al hS 37 #[.bool bU, .slice aM bV bW, .bool bX, .slice aN bY bZ, .bool c0, .slice aO c1 c2, .bool c3, .slice aP c4 c5, .bool c6, .slice aQ c7 c8, .bool c9, .slice aR ca cb] (g := w5.heap.size) (by simp))
  generalize (w5.alloc (.cells #[.bool bU, .slice aM bV bW, .bool bX, .slice aN bY bZ, .bool c0, .slice aO c1 c2, .bool c3, .slice aP c4 c5, .bool c6, .slice aQ c7 c8, .bool c9, .slice aR ca cb] 37)) = w6 at hS ⊢
  generalize w5.heap.size = g9 at hS o9 ⊢
  refine (xPlain_bad bm bn ax bo bp bq ay br bs bt az bu _ (hV2.ext hS.ext)).mono ?_
  rintro e w7 ⟨v_, rfl, hv_, hx_⟩
  replace hS := hS.mv hx_
  clear hx_
  obtain ⟨_, rfl, ck, bv, cl, cn, co, bw, cp, cq, cr, bx, cs, ct, cu, bz, cv, cw, cx, bA, cy, cz, cA, bB, cB, cC, rfl, aY, aZ, b0, b1, b2, b3⟩ := hv_
  replace hS := hS.addI aY
  clear aY
  replace hS := hS.addI aZ
  clear aZ
  replace hS := hS.addI b0
  clear b0
  replace hS := hS.addI b1
  clear b1
  replace hS := hS.addI b2
  clear b2
  replace hS := hS.addI b3
  clear b3
  have o11 : Own w w7.heap.size := Own.of hS.ext (by simp)
  have cV := (St.al hS 37 #[.bool false, .slice none 0 0, .bool false, .slice none 0 0, .bool false, .slice none 0 0, .bool false, .slice none 0 0, .bool false, .slice none 0 0, .bool false, .slice none 0 0] (g := w7.heap.size) (by simp))
  have cW := (cV.blk 0 rfl).cell
  have cX := (cV.blk 0 rfl).frozen
  go_wp2_with fail
  clear cW cX
  clear cV
  replace hS := (St.al hS 37 #[.bool ck, .slice bv cl cn, .bool co, .slice bw cp cq, .bool cr, .slice bx cs ct, .bool cu, .slice bz cv cw, .bool cx, .slice bA cy cz, .bool cA, .slice bB cB cC] (g := w7.heap.size) (by simp))
  generalize (w7.alloc (.cells #[.bool ck, .slice bv cl cn, .bool co, .slice bw cp cq, .bool cr, .slice bx cs ct, .bool cu, .slice bz cv cw, .bool cx, .slice bA cy cz, .bool cA, .slice bB cB cC] 37)) = w8 at hS ⊢
  generalize w7.heap.size = g11 at hS o11 ⊢
  cases b0u
  go_wp2_with fail
  have Y5 := ExtOf.blk (hS.blk 4 rfl)
  have Y4 := ExtOf.blk (hS.blk 5 rfl)
  have Y3 := ExtOf.blk (hS.blk 6 rfl)
  have hE_ := hS.ext
  refine wp_region_tame 20 (hasF [(2, .any), (10, .any), (14, .any), (17, .any)]) (Fcs [(2, .eq (.bool false)), (10, .eq (.bool true)), (14, .eq (.bool true)), (17, .eq (.bool false))]) (Fcs_stab _) (by kernel_rfl) (by kernel_rfl) ?_
  simp only [tk1, tk0, dp1, dp0]
  refine wpT_quiet 2 (by rfl) (by kernel_rfl) ?_
  simp only [tk1, tk0, dp1, dp0]
  repeat (go_big_quiet_step (fail))
  refine wpQuiet_nil ?_
  refine wpT_eff (by rfl) (by rfl) (by rfl) ?_ ?_
  · intro W_ hK
    have hW := hK.1
    clear hK
    go_simp
    exact ⟨rfl, (VB.q (hV0u.ext (hE_.trans hW))).mono fun e w' ⟨he, hx⟩ => ⟨_, he, hx, rfl⟩⟩
  intro v_ cY cZ hr_
  obtain ⟨W_, hW_⟩ := hr_
  obtain rfl : v_ = .bool false := hW_.get
  clear hW_ W_
  try simp only [Act.put, sa0, sa1, sa2]
  refine wpT_quiet 3 (by rfl) (by kernel_rfl) ?_
  simp only [tk1, tk0, dp1, dp0]
  repeat (go_big_quiet_step (fail))
  refine wpQuiet_nil ?_
  refine wpT_skip (by rfl) (by rfl) ?_
  try simp only [Act.put, sa0, sa1, sa2]
  refine wpT_quiet 3 (by rfl) (by kernel_rfl) ?_
  simp only [tk1, tk0, dp1, dp0]
  repeat (go_big_quiet_step (fail))
  refine wpQuiet_nil ?_
  refine wpT_eff (by rfl) (by rfl) (by rfl) ?_ ?_
  · intro W_ hK
    have hW := hK.1
    clear hK
    go_simp
    exact ⟨rfl, (qValid_gv _ q1.u (n1) _ ⟨_, _, _, RG.mk (RI.ext (hS.num 23 rfl) hW) (RI.ext (hS.num 22 rfl) hW) (RI.ext (hS.num 21 rfl) hW), cN, cc⟩ (by omega)).mono fun e w' ⟨he, hx⟩ => ⟨_, he, hx, rfl⟩⟩
  intro v_ d0 d1 hr_
  obtain ⟨W_, hW_⟩ := hr_
  obtain rfl : v_ = .bool true := hW_.get
  clear hW_ W_
  try simp only [Act.put, sa0, sa1, sa2]
  refine wpT_quiet 3 (by rfl) (by kernel_rfl) ?_
  simp only [tk1, tk0, dp1, dp0]
  repeat (go_big_quiet_step (fail))
  refine wpQuiet_nil ?_
  refine wpT_eff (by rfl) (by rfl) (by rfl) ?_ ?_
  · intro W_ hK
    have hW := hK.1
    clear hK
    go_simp
    exact ⟨rfl, (qValid_gv _ q1.v (n1) _ ⟨_, _, _, RG.mk (RI.ext (hS.num 20 rfl) hW) (RI.ext (hS.num 19 rfl) hW) (RI.ext (hS.num 18 rfl) hW), cO, cd⟩ (by omega)).mono fun e w' ⟨he, hx⟩ => ⟨_, he, hx, rfl⟩⟩
  intro v_ d2 d3 hr_
  obtain ⟨W_, hW_⟩ := hr_
  obtain rfl : v_ = .bool true := hW_.get
  clear hW_ W_
  try simp only [Act.put, sa0, sa1, sa2]
  refine wpT_quiet 2 (by rfl) (by kernel_rfl) ?_
  simp only [tk1, tk0, dp1, dp0]
  repeat (go_big_quiet_step (fail))
  refine wpQuiet_nil ?_
  refine wpT_eff (by rfl) (by rfl) (by rfl) ?_ ?_
  · intro W_ hK
    have hW := hK.1
    clear hK
    go_simp
    exact ⟨rfl, (VB.q (hV2.ext (hE_.trans hW))).mono fun e w' ⟨he, hx⟩ => ⟨_, he, hx, rfl⟩⟩
  intro v_ d4 d5 hr_
  obtain ⟨W_, hW_⟩ := hr_
  obtain rfl : v_ = .bool false := hW_.get
  clear hW_ W_
  try simp only [Act.put, sa0, sa1, sa2]
  refine wpT_quiet 2 (by rfl) (by kernel_rfl) ?_
  simp only [tk1, tk0, dp1, dp0]
  repeat (go_big_quiet_step (fail))
  refine wpQuiet_nil ?_
  refine wpT_nil ?_
  intro w9 hK
  have hlt_ := hS.lt
  replace hS := hS.mv hK.ext
  clear hK hlt_ hE_ Y5 Y4 Y3
  rotate_left 1
  obtain rfl : b0v = false := by simpa using Hp.out
  go_wp2_with fail
  have Y5 := ExtOf.blk (hS.blk 4 rfl)
  have Y4 := ExtOf.blk (hS.blk 5 rfl)
  have Y3 := ExtOf.blk (hS.blk 6 rfl)
  have hE_ := hS.ext
  refine wp_region_tame 20 (hasF [(2, .any), (6, .any), (10, .any), (14, .any), (17, .any)]) (Fcs [(2, .eq (.bool true)), (6, .eq (.bool false)), (10, .eq (.bool true)), (14, .eq (.bool true)), (17, .eq (.bool false))]) (Fcs_stab _) (by kernel_rfl) (by kernel_rfl) ?_
  simp only [tk1, tk0, dp1, dp0]
  refine wpT_quiet 2 (by rfl) (by kernel_rfl) ?_
  simp only [tk1, tk0, dp1, dp0]
  repeat (go_big_quiet_step (fail))
  refine wpQuiet_nil ?_
  refine wpT_eff (by rfl) (by rfl) (by rfl) ?_ ?_
  · intro W_ hK
    have hW := hK.1
    clear hK
    go_simp
    exact ⟨rfl, (VB.q (hV0u.ext (hE_.trans hW))).mono fun e w' ⟨he, hx⟩ => ⟨_, he, hx, rfl⟩⟩
  intro v_ cY cZ hr_
  obtain ⟨W_, hW_⟩ := hr_
  obtain rfl : v_ = .bool true := hW_.get
  clear hW_ W_
  try simp only [Act.put, sa0, sa1, sa2]
  refine wpT_quiet 3 (by rfl) (by kernel_rfl) ?_
  simp only [tk1, tk0, dp1, dp0]
  repeat (go_big_quiet_step (fail))
  refine wpQuiet_nil ?_
  refine wpT_eff (by rfl) (by rfl) (by rfl) ?_ ?_
  · intro W_ hK
    have hW := hK.1
    clear hK
    go_simp
    exact ⟨rfl, (VB.q (hV0v.ext (hE_.trans hW))).mono fun e w' ⟨he, hx⟩ => ⟨_, he, hx, rfl⟩⟩
  intro v_ lo52 hi52 hr_
  obtain ⟨W_, hW_⟩ := hr_
  obtain rfl : v_ = .bool false := hW_.get
  clear hW_ W_
  try simp only [Act.put, sa0, sa1, sa2]
  refine wpT_quiet 3 (by rfl) (by kernel_rfl) ?_
  simp only [tk1, tk0, dp1, dp0]
  repeat (go_big_quiet_step (fail))
  refine wpQuiet_nil ?_
  refine wpT_eff (by rfl) (by rfl) (by rfl) ?_ ?_
  · intro W_ hK
    have hW := hK.1
    clear hK
    go_simp
    exact ⟨rfl, (qValid_gv _ q1.u (n1) _ ⟨_, _, _, RG.mk (RI.ext (hS.num 23 rfl) hW) (RI.ext (hS.num 22 rfl) hW) (RI.ext (hS.num 21 rfl) hW), cN, cc⟩ (by omega)).mono fun e w' ⟨he, hx⟩ => ⟨_, he, hx, rfl⟩⟩
  intro v_ d0 d1 hr_
  obtain ⟨W_, hW_⟩ := hr_
  obtain rfl : v_ = .bool true := hW_.get
  clear hW_ W_
  try simp only [Act.put, sa0, sa1, sa2]
  refine wpT_quiet 3 (by rfl) (by kernel_rfl) ?_
  simp only [tk1, tk0, dp1, dp0]
  repeat (go_big_quiet_step (fail))
  refine wpQuiet_nil ?_
  refine wpT_eff (by rfl) (by rfl) (by rfl) ?_ ?_
  · intro W_ hK
    have hW := hK.1
    clear hK
    go_simp
    exact ⟨rfl, (qValid_gv _ q1.v (n1) _ ⟨_, _, _, RG.mk (RI.ext (hS.num 20 rfl) hW) (RI.ext (hS.num 19 rfl) hW) (RI.ext (hS.num 18 rfl) hW), cO, cd⟩ (by omega)).mono fun e w' ⟨he, hx⟩ => ⟨_, he, hx, rfl⟩⟩
  intro v_ d2 d3 hr_
  obtain ⟨W_, hW_⟩ := hr_
  obtain rfl : v_ = .bool true := hW_.get
  clear hW_ W_
  try simp only [Act.put, sa0, sa1, sa2]
  refine wpT_quiet 2 (by rfl) (by kernel_rfl) ?_
  simp only [tk1, tk0, dp1, dp0]
  repeat (go_big_quiet_step (fail))
  refine wpQuiet_nil ?_
  refine wpT_eff (by rfl) (by rfl) (by rfl) ?_ ?_
  · intro W_ hK
    have hW := hK.1
    clear hK
    go_simp
    exact ⟨rfl, (VB.q (hV2.ext (hE_.trans hW))).mono fun e w' ⟨he, hx⟩ => ⟨_, he, hx, rfl⟩⟩
  intro v_ d4 d5 hr_
  obtain ⟨W_, hW_⟩ := hr_
  obtain rfl : v_ = .bool false := hW_.get
  clear hW_ W_
  try simp only [Act.put, sa0, sa1, sa2]
  refine wpT_quiet 2 (by rfl) (by kernel_rfl) ?_
  simp only [tk1, tk0, dp1, dp0]
  repeat (go_big_quiet_step (fail))
  refine wpQuiet_nil ?_
  refine wpT_nil ?_
  intro w9 hK
  have hlt_ := hS.lt
  replace hS := hS.mv hK.ext
  clear hK hlt_ hE_ Y5 Y4 Y3
  rotate_left 1
  all_goals
    go_wp2_with fail
    have hE_ := hS.ext
    refine wp_region_tame 33 (hasF [(0, .any)]) (Fcs [(0, .eq (.bool true))]) (Fcs_stab _) (by kernel_rfl) (by kernel_rfl) ?_
    simp only [tk1, tk0, dp1, dp0]
    refine wpT_eff (by rfl) (by rfl) (by rfl) ?_ ?_
    · intro W_ hK
      have hW := hK.1
      clear hK
      go_simp
      exact ⟨rfl, (lxknown_ok _ (tab_ext hTab (hE_.trans hW))).mono fun e w' ⟨he, hx⟩ => ⟨_, he, hx, rfl⟩⟩
    intro v_ d7 d8 hr_
    obtain ⟨W_, hW_⟩ := hr_
    obtain rfl : v_ = .bool true := hW_.get
    clear hW_ W_
    try simp only [Act.put, sa0, sa1, sa2]
    refine wpT_quiet 7 (by rfl) (by kernel_rfl) ?_
    simp only [tk1, tk0, dp1, dp0]
    repeat (go_big_quiet_step (fail))
    refine wpQuiet_nil ?_
    refine wpT_skip (by rfl) (by rfl) ?_
    try simp only [Act.put, sa0, sa1, sa2]
    refine wpT_skip (by rfl) (by rfl) ?_
    try simp only [Act.put, sa0, sa1, sa2]
    refine wpT_quiet 9 (by rfl) (by kernel_rfl) ?_
    simp only [tk1, tk0, dp1, dp0]
    repeat (go_big_quiet_step (fail))
    refine wpQuiet_nil ?_
    refine wpT_skip (by rfl) (by rfl) ?_
    try simp only [Act.put, sa0, sa1, sa2]
    refine wpT_skip (by rfl) (by rfl) ?_
    try simp only [Act.put, sa0, sa1, sa2]
    refine wpT_quiet 8 (by rfl) (by kernel_rfl) ?_
    simp only [tk1, tk0, dp1, dp0]
    repeat (go_big_quiet_step (fail))
    refine wpQuiet_nil ?_
    refine wpT_skip (by rfl) (by rfl) ?_
    try simp only [Act.put, sa0, sa1, sa2]
    refine wpT_skip (by rfl) (by rfl) ?_
    try simp only [Act.put, sa0, sa1, sa2]
    refine wpT_quiet 2 (by rfl) (by kernel_rfl) ?_
    simp only [tk1, tk0, dp1, dp0]
    repeat (go_big_quiet_step (fail))
    refine wpQuiet_nil ?_
    refine wpT_nil ?_
    intro w10 hK
    have hlt_ := hS.lt
    replace hS := hS.mv hK.ext
    clear hK hlt_ hE_
    go_wp2
    go_ret
    exact ⟨ret_bool (rfl), hS.ext⟩

set_option maxRecDepth 100000 in
set_option maxHeartbeats 51200000 in
theorem phasors_bvv (bE : Bool) (bF : Option Addr) (b3 bG : Nat) (bH : Bool) (bI : Option Addr) (b4 bJ : Nat) (bK : Bool) (bL : Option Addr) (b5 bM : Nat) (bN : Bool) (bO : Option Addr) (b6 bP : Nat) (bQ : Bool) (bR : Option Addr) (b7 bS : Nat) (bT : Bool) (bU : Option Addr) (b8 bV : Nat) (b0u : Bool) (b0v : Bool) (v1 : Value) (q1 : PQ) (n1 : Nat) (v2 : Value) (q2 : GQ) (n2 : Nat) (w : World) (hV0u : VB w (gv bE bF b3 bG bH bI b4 bJ bK bL b5 bM) b0u) (hV0v : VB w (gv bN bO b6 bP bQ bR b7 bS bT bU b8 bV) b0v) (hX1 : PV w v1 q1 n1) (hX2 : GV w v2 q2 n2) (dh : b3 ≤ 40) (di : b4 ≤ 40) (dj : b5 ≤ 40) (dk : b6 ≤ 40) (dl : b7 ≤ 40) (dm : b8 ≤ 40) (hn1 : n1 ≤ 1280) (hm1 : 1 ≤ n1) (hn2 : n2 ≤ 1280) (hm2 : 1 ≤ n2) (Hp : Hid ((b0u && b0v) = false)) (hTab : Tab w)
      :
    Calls Tryz.prog 7 #[pv bE bF b3 bG bH bI b4 bJ bK bL b5 bM bN bO b6 bP bQ bR b7 bS bT bU b8 bV, v1, v2] w fun e w' => e = .returned (.bool true) ∧ Ext w w' := by
  have hS := St.start w
  obtain ⟨x1a, x1b, x1d, x1x, x1y, x1z, hX1, dn, cJ, dp, cK⟩ := hX1
  obtain ⟨aC, aD, ar, aE, aF, aG, au, aH, aI, aJ, av, aK, aL, aM, aw, aN, aO, aP, ax, aQ, aR, aS, ay, aT, rfl, cM, cN, cO, cP, cQ, cR⟩ := hX1
  replace hS := hS.addI cM
  clear cM
  replace hS := hS.addI cN
  clear cN
  replace hS := hS.addI cO
  clear cO
  replace hS := hS.addI cP
  clear cP
  replace hS := hS.addI cQ
  clear cQ
  replace hS := hS.addI cR
  clear cR
  obtain ⟨dd, de, df, hX2, I2, S2⟩ := hX2
  obtain ⟨aU, aV, az, aW, aX, aY, aA, aZ, b0, b1, aB, b2, rfl, cS, cT, cU⟩ := hX2
  replace hS := hS.addI cS
  clear cS
  replace hS := hS.addI cT
  clear cT
  replace hS := hS.addI cU
  clear cU
  have HL : Hid ([b3, b4, b5, b6, b7, b8, ar, au, av, aw, ax, ay, az, aA, aB].all (fun n => decide (n ≤ 40)) = true) := Lib.hid (by simp only [List.all_cons, List.all_nil, Bool.and_true, Bool.and_eq_true, decide_eq_true_eq]; exact ⟨dh, di, dj, dk, dl, dm, RI.low (k := 40) (hS.num 8 rfl) cJ.a (by omega), RI.low (k := 40) (hS.num 7 rfl) cJ.b (by omega), RI.low (k := 40) (hS.num 6 rfl) cJ.d (by omega), RI.low (k := 40) (hS.num 5 rfl) cK.a (by omega), RI.low (k := 40) (hS.num 4 rfl) cK.b (by omega), RI.low (k := 40) (hS.num 3 rfl) cK.d (by omega), RI.low (k := 40) (hS.num 2 rfl) S2.a (by omega), RI.low (k := 40) (hS.num 1 rfl) S2.b (by omega), RI.low (k := 40) (hS.num 0 rfl) S2.d (by omega)⟩)
  have o3 : Own w w.heap.size := Own.of hS.ext (by simp)
  have o4 : Own w (w.heap.size + 1) := Own.of hS.ext (by simp)
  have o5 : Own w (w.heap.size + 2) := Own.of hS.ext (by simp)
  have dg := (St.al (St.al (St.al hS 37 #[.bool bE, .slice bF b3 bG, .bool bH, .slice bI b4 bJ, .bool bK, .slice bL b5 bM, .bool bN, .slice bO b6 bP, .bool bQ, .slice bR b7 bS, .bool bT, .slice bU b8 bV] (g := w.heap.size) (by simp)) 37 #[.bool aC, .slice aD ar aE, .bool aF, .slice aG au aH, .bool aI, .slice aJ av aK, .bool aL, .slice aM aw aN, .bool aO, .slice aP ax aQ, .bool aR, .slice aS ay aT] (g := (w.heap.size + 1)) (by simp)) 26 #[.bool aU, .slice aV az aW, .bool aX, .slice aY aA aZ, .bool b0, .slice b1 aB b2] (g := (w.heap.size + 2)) (by simp))
  have k_1 := (dg.blk 2 rfl).cell
  have k_2 := (dg.blk 1 rfl).cell
  have k_3 := (dg.blk 0 rfl).cell
  have o25 : Own w (w.heap.size + 3) := Own.of hS.ext (by simp)
  go_enter Tryz.func7, Tryz.ntmps7
  go_wp2_with fail
  clear k_1 k_2 k_3
  clear dg
  replace hS := (St.al (St.al (St.al (St.al hS 37 #[.bool bE, .slice bF b3 bG, .bool bH, .slice bI b4 bJ, .bool bK, .slice bL b5 bM, .bool bN, .slice bO b6 bP, .bool bQ, .slice bR b7 bS, .bool bT, .slice bU b8 bV] (g := w.heap.size) (by simp)) 37 #[.bool aC, .slice aD ar aE, .bool aF, .slice aG au aH, .bool aI, .slice aJ av aK, .bool aL, .slice aM aw aN, .bool aO, .slice aP ax aQ, .bool aR, .slice aS ay aT] (g := (w.heap.size + 1)) (by simp)) 26 #[.bool aU, .slice aV az aW, .bool aX, .slice aY aA aZ, .bool b0, .slice b1 aB b2] (g := (w.heap.size + 2)) (by simp)) 26 #[.bool bE, .slice bF b3 bG, .bool bH, .slice bI b4 bJ, .bool bK, .slice bL b5 bM, .bool bN, .slice bO b6 bP, .bool bQ, .slice bR b7 bS, .bool bT, .slice bU b8 bV, .bool aC, .slice aD ar aE, .bool aF, .slice aG au aH, .bool aI, .slice aJ av aK, .bool aL, .slice aM aw aN, .bool aO, .slice aP ax aQ, .bool aR, .slice aS ay aT, .bool aU, .slice aV az aW, .bool aX, .slice aY aA aZ, .bool b0, .slice b1 aB b2] (g := (w.heap.size + 3)) (by simp))
  generalize ((((w.alloc (.cells #[.bool bE, .slice bF b3 bG, .bool bH, .slice bI b4 bJ, .bool bK, .slice bL b5 bM, .bool bN, .slice bO b6 bP, .bool bQ, .slice bR b7 bS, .bool bT, .slice bU b8 bV] 37)).alloc (.cells #[.bool aC, .slice aD ar aE, .bool aF, .slice aG au aH, .bool aI, .slice aJ av aK, .bool aL, .slice aM aw aN, .bool aO, .slice aP ax aQ, .bool aR, .slice aS ay aT] 37)).alloc (.cells #[.bool aU, .slice aV az aW, .bool aX, .slice aY aA aZ, .bool b0, .slice b1 aB b2] 26)).alloc (.cells #[.bool bE, .slice bF b3 bG, .bool bH, .slice bI b4 bJ, .bool bK, .slice bL b5 bM, .bool bN, .slice bO b6 bP, .bool bQ, .slice bR b7 bS, .bool bT, .slice bU b8 bV, .bool aC, .slice aD ar aE, .bool aF, .slice aG au aH, .bool aI, .slice aJ av aK, .bool aL, .slice aM aw aN, .bool aO, .slice aP ax aQ, .bool aR, .slice aS ay aT, .bool aU, .slice aV az aW, .bool aX, .slice aY aA aZ, .bool b0, .slice b1 aB b2] 26)) = w1 at hS ⊢
  generalize w.heap.size + 3 = g25 at hS o25 ⊢
  generalize w.heap.size + 2 = g5 at hS o5 ⊢
  generalize w.heap.size + 1 = g4 at hS o4 ⊢
  generalize w.heap.size = g3 at hS o3 ⊢
  refine (low5_raw g25 40 true _ (hS.blk 0 rfl) HL.out).mono ?_
  rintro e w2 ⟨rfl, hx_⟩
  replace hS := hS.mv hx_
  clear hx_
  have k_4 := (hS.blk 3 rfl).cell
  have k_5 := (hS.blk 2 rfl).cell
  go_wp2_with fail
  clear k_4 k_5
  refine (xSum_bad bE bF b3 bG bH bI b4 bJ bK bL b5 bM bN bO b6 bP bQ bR b7 bS bT bU b8 bV b0u b0v aC aD ar aE aF aG au aH aI aJ av aK aL aM aw aN aO aP ax aQ aR aS ay aT true true _ (hV0u.ext hS.ext) (hV0v.ext hS.ext) (GV.vb (q := q1.u) (n := n1) ⟨_, _, _, RG.mk (hS.num 8 rfl) (hS.num 7 rfl) (hS.num 6 rfl), dn, cJ⟩ (by omega)) (GV.vb (q := q1.v) (n := n1) ⟨_, _, _, RG.mk (hS.num 5 rfl) (hS.num 4 rfl) (hS.num 3 rfl), dp, cK⟩ (by omega)) (Lib.hid (all4_p Hp.out))).mono ?_
  rintro e w3 ⟨v_, rfl, hv_, hx_⟩
  replace hS := hS.mv hx_
  clear hx_
  obtain ⟨_, rfl, c8, b9, c9, ca, cb, ba, cc, cd, ce, bb, cf, cg, ch, bc, ci, cj, ck, bd, cl, cn, co, be, cp, cq, rfl, bf, bg, bh, bi, bj, bk⟩ := hv_
  replace hS := hS.addI bf
  clear bf
  replace hS := hS.addI bg
  clear bg
  replace hS := hS.addI bh
  clear bh
  replace hS := hS.addI bi
  clear bi
  replace hS := hS.addI bj
  clear bj
  replace hS := hS.addI bk
  clear bk
  have o7 : Own w w3.heap.size := Own.of hS.ext (by simp)
  have dq := (St.al hS 37 #[.bool false, .slice none 0 0, .bool false, .slice none 0 0, .bool false, .slice none 0 0, .bool false, .slice none 0 0, .bool false, .slice none 0 0, .bool false, .slice none 0 0] (g := w3.heap.size) (by simp))
  have k_6 := (dq.blk 0 rfl).cell
  have k_7 := (dq.blk 0 rfl).frozen
  have dr := (St.al hS 37 #[.bool c8, .slice b9 c9 ca, .bool cb, .slice ba cc cd, .bool ce, .slice bb cf cg, .bool ch, .slice bc ci cj, .bool ck, .slice bd cl cn, .bool co, .slice be cp cq] (g := w3.heap.size) (by simp))
  have k_8 := (dr.blk 4 rfl).cell
  have k_9 := (dr.blk 2 rfl).cell
  go_wp2_with fail
  clear k_6 k_7 k_8 k_9
  clear dq dr
  replace hS := (St.al hS 37 #[.bool c8, .slice b9 c9 ca, .bool cb, .slice ba cc cd, .bool ce, .slice bb cf cg, .bool ch, .slice bc ci cj, .bool ck, .slice bd cl cn, .bool co, .slice be cp cq] (g := w3.heap.size) (by simp))
  generalize (w3.alloc (.cells #[.bool c8, .slice b9 c9 ca, .bool cb, .slice ba cc cd, .bool ce, .slice bb cf cg, .bool ch, .slice bc ci cj, .bool ck, .slice bd cl cn, .bool co, .slice be cp cq] 37)) = w4 at hS ⊢
  generalize w3.heap.size = g7 at hS o7 ⊢
  refine (xTimes_bad bE bF b3 bG bH bI b4 bJ bK bL b5 bM bN bO b6 bP bQ bR b7 bS bT bU b8 bV b0u b0v aU aV az aW aX aY aA aZ b0 b1 aB b2 true _ (hV0u.ext hS.ext) (hV0v.ext hS.ext) (GV.vb (q := q2) (n := n2) ⟨_, _, _, RG.mk (hS.num 8 rfl) (hS.num 7 rfl) (hS.num 6 rfl), I2, S2⟩ (by omega)) (Lib.hid (all3_p Hp.out))).mono ?_
  rintro e w5 ⟨v_, rfl, hv_, hx_⟩
  replace hS := hS.mv hx_
  clear hx_
  obtain ⟨_, rfl, cr, bl, cs, ct, cu, bm, cv, cw, cx, bn, cy, cz, cA, bo, cB, cC, cD, bp, cE, cF, cG, bq, cH, cI, rfl, br, bs, bt, bu, bv, bw⟩ := hv_
  replace hS := hS.addI br
  clear br
  replace hS := hS.addI bs
  clear bs
  replace hS := hS.addI bt
  clear bt
  replace hS := hS.addI bu
  clear bu
  replace hS := hS.addI bv
  clear bv
  replace hS := hS.addI bw
  clear bw
  have o9 : Own w w5.heap.size := Own.of hS.ext (by simp)
  have ds := (St.al hS 37 #[.bool false, .slice none 0 0, .bool false, .slice none 0 0, .bool false, .slice none 0 0, .bool false, .slice none 0 0, .bool false, .slice none 0 0, .bool false, .slice none 0 0] (g := w5.heap.size) (by simp))
  have dt := (ds.blk 0 rfl).cell
  have du := (ds.blk 0 rfl).frozen
  have dH := (St.al hS 37 #[.bool cr, .slice bl cs ct, .bool cu, .slice bm cv cw, .bool cx, .slice bn cy cz, .bool cA, .slice bo cB cC, .bool cD, .slice bp cE cF, .bool cG, .slice bq cH cI] (g := w5.heap.size) (by simp))
  have dv := (dH.blk 3 rfl).cell
  go_wp2_with fail
  clear dt du dv
  clear ds dH
  replace hS := (St.al hS 37 #[.bool cr, .slice bl cs ct, .bool cu, .slice bm cv cw, .bool cx, .slice bn cy cz, .bool cA, .slice bo cB cC, .bool cD, .slice bp cE cF, .bool cG, .slice bq cH cI] (g := w5.heap.size) (by simp))
  generalize (w5.alloc (.cells #[.bool cr, .slice bl cs ct, .bool cu, .slice bm cv cw, .bool cx, .slice bn cy cz, .bool cA, .slice bo cB cC, .bool cD, .slice bp cE cF, .bool cG, .slice bq cH cI] 37)) = w6 at hS ⊢
  generalize w5.heap.size = g9 at hS o9 ⊢
  refine (toTP (xPlain_w _ q2 (n2) _ ⟨_, _, _, RG.mk (hS.num 14 rfl) (hS.num 13 rfl) (hS.num 12 rfl), I2, S2⟩ (by omega) (by omega)) I2 (is_i 0 0)).mono ?_
  rintro e w7 ⟨v_, rfl, hv_, hx_⟩
  replace hS := hS.mv hx_
  clear hx_
  obtain ⟨_, rfl, cV, c2, cW, cX, cY, c3, cZ, d0, d1, c4, d2, d3, d4, c5, d5, d6, d7, c6, d8, d9, da, c7, db, dc, rfl, bx, bz, bA, bB, bC, bD⟩ := hv_
  replace hS := hS.addI bx
  clear bx
  replace hS := hS.addI bz
  clear bz
  replace hS := hS.addI bA
  clear bA
  replace hS := hS.addI bB
  clear bB
  replace hS := hS.addI bC
  clear bC
  replace hS := hS.addI bD
  clear bD
  have o11 : Own w w7.heap.size := Own.of hS.ext (by simp)
  have dw := (St.al hS 37 #[.bool false, .slice none 0 0, .bool false, .slice none 0 0, .bool false, .slice none 0 0, .bool false, .slice none 0 0, .bool false, .slice none 0 0, .bool false, .slice none 0 0] (g := w7.heap.size) (by simp))
  have dx := (dw.blk 0 rfl).cell
  have dy := (dw.blk 0 rfl).frozen
  go_wp2_with fail
  clear dx dy
  clear dw
  replace hS := (St.al hS 37 #[.bool cV, .slice c2 cW cX, .bool cY, .slice c3 cZ d0, .bool d1, .slice c4 d2 d3, .bool d4, .slice c5 d5 d6, .bool d7, .slice c6 d8 d9, .bool da, .slice c7 db dc] (g := w7.heap.size) (by simp))
  generalize (w7.alloc (.cells #[.bool cV, .slice c2 cW cX, .bool cY, .slice c3 cZ d0, .bool d1, .slice c4 d2 d3, .bool d4, .slice c5 d5 d6, .bool d7, .slice c6 d8 d9, .bool da, .slice c7 db dc] 37)) = w8 at hS ⊢
  generalize w7.heap.size = g11 at hS o11 ⊢
  cases b0u
  go_wp2_with fail
  have Y5 := ExtOf.blk (hS.blk 4 rfl)
  have Y4 := ExtOf.blk (hS.blk 5 rfl)
  have Y3 := ExtOf.blk (hS.blk 6 rfl)
  have hE_ := hS.ext
  refine wp_region_tame 20 (hasF [(2, .any), (10, .any), (14, .any), (17, .any)]) (Fcs [(2, .eq (.bool false)), (10, .eq (.bool true)), (14, .eq (.bool true)), (17, .eq (.bool true))]) (Fcs_stab _) (by kernel_rfl) (by kernel_rfl) ?_
  simp only [tk1, tk0, dp1, dp0]
  refine wpT_quiet 2 (by rfl) (by kernel_rfl) ?_
  simp only [tk1, tk0, dp1, dp0]
  repeat (go_big_quiet_step (fail))
  refine wpQuiet_nil ?_
  refine wpT_eff (by rfl) (by rfl) (by rfl) ?_ ?_
  · intro W_ hK
    have hW := hK.1
    clear hK
    go_simp
    exact ⟨rfl, (VB.q (hV0u.ext (hE_.trans hW))).mono fun e w' ⟨he, hx⟩ => ⟨_, he, hx, rfl⟩⟩
  intro v_ dz dA hr_
  obtain ⟨W_, hW_⟩ := hr_
  obtain rfl : v_ = .bool false := hW_.get
  clear hW_ W_
  try simp only [Act.put, sa0, sa1, sa2]
  refine wpT_quiet 3 (by rfl) (by kernel_rfl) ?_
  simp only [tk1, tk0, dp1, dp0]
  repeat (go_big_quiet_step (fail))
  refine wpQuiet_nil ?_
  refine wpT_skip (by rfl) (by rfl) ?_
  try simp only [Act.put, sa0, sa1, sa2]
  refine wpT_quiet 3 (by rfl) (by kernel_rfl) ?_
  simp only [tk1, tk0, dp1, dp0]
  repeat (go_big_quiet_step (fail))
  refine wpQuiet_nil ?_
  refine wpT_eff (by rfl) (by rfl) (by rfl) ?_ ?_
  · intro W_ hK
    have hW := hK.1
    clear hK
    go_simp
    exact ⟨rfl, (qValid_gv _ q1.u (n1) _ ⟨_, _, _, RG.mk (RI.ext (hS.num 26 rfl) hW) (RI.ext (hS.num 25 rfl) hW) (RI.ext (hS.num 24 rfl) hW), dn, cJ⟩ (by omega)).mono fun e w' ⟨he, hx⟩ => ⟨_, he, hx, rfl⟩⟩
  intro v_ dB dC hr_
  obtain ⟨W_, hW_⟩ := hr_
  obtain rfl : v_ = .bool true := hW_.get
  clear hW_ W_
  try simp only [Act.put, sa0, sa1, sa2]
  refine wpT_quiet 3 (by rfl) (by kernel_rfl) ?_
  simp only [tk1, tk0, dp1, dp0]
  repeat (go_big_quiet_step (fail))
  refine wpQuiet_nil ?_
  refine wpT_eff (by rfl) (by rfl) (by rfl) ?_ ?_
  · intro W_ hK
    have hW := hK.1
    clear hK
    go_simp
    exact ⟨rfl, (qValid_gv _ q1.v (n1) _ ⟨_, _, _, RG.mk (RI.ext (hS.num 23 rfl) hW) (RI.ext (hS.num 22 rfl) hW) (RI.ext (hS.num 21 rfl) hW), dp, cK⟩ (by omega)).mono fun e w' ⟨he, hx⟩ => ⟨_, he, hx, rfl⟩⟩
  intro v_ dD dE hr_
  obtain ⟨W_, hW_⟩ := hr_
  obtain rfl : v_ = .bool true := hW_.get
  clear hW_ W_
  try simp only [Act.put, sa0, sa1, sa2]
  refine wpT_quiet 2 (by rfl) (by kernel_rfl) ?_
  simp only [tk1, tk0, dp1, dp0]
  repeat (go_big_quiet_step (fail))
  refine wpQuiet_nil ?_
  refine wpT_eff (by rfl) (by rfl) (by rfl) ?_ ?_
  · intro W_ hK
    have hW := hK.1
    clear hK
    go_simp
    exact ⟨rfl, (qValid_gv _ q2 (n2) _ ⟨_, _, _, RG.mk (RI.ext (hS.num 20 rfl) hW) (RI.ext (hS.num 19 rfl) hW) (RI.ext (hS.num 18 rfl) hW), I2, S2⟩ (by omega)).mono fun e w' ⟨he, hx⟩ => ⟨_, he, hx, rfl⟩⟩
  intro v_ dF dG hr_
  obtain ⟨W_, hW_⟩ := hr_
  obtain rfl : v_ = .bool true := hW_.get
  clear hW_ W_
  try simp only [Act.put, sa0, sa1, sa2]
  refine wpT_quiet 2 (by rfl) (by kernel_rfl) ?_
  simp only [tk1, tk0, dp1, dp0]
  repeat (go_big_quiet_step (fail))
  refine wpQuiet_nil ?_
  refine wpT_nil ?_
  intro w9 hK
  have hlt_ := hS.lt
  replace hS := hS.mv hK.ext
  clear hK hlt_ hE_ Y5 Y4 Y3
  rotate_left 1
  obtain rfl : b0v = false := by simpa using Hp.out
  go_wp2_with fail
  have Y5 := ExtOf.blk (hS.blk 4 rfl)
  have Y4 := ExtOf.blk (hS.blk 5 rfl)
  have Y3 := ExtOf.blk (hS.blk 6 rfl)
  have hE_ := hS.ext
  refine wp_region_tame 20 (hasF [(2, .any), (6, .any), (10, .any), (14, .any), (17, .any)]) (Fcs [(2, .eq (.bool true)), (6, .eq (.bool false)), (10, .eq (.bool true)), (14, .eq (.bool true)), (17, .eq (.bool true))]) (Fcs_stab _) (by kernel_rfl) (by kernel_rfl) ?_
  simp only [tk1, tk0, dp1, dp0]
  refine wpT_quiet 2 (by rfl) (by kernel_rfl) ?_
  simp only [tk1, tk0, dp1, dp0]
  repeat (go_big_quiet_step (fail))
  refine wpQuiet_nil ?_
  refine wpT_eff (by rfl) (by rfl) (by rfl) ?_ ?_
  · intro W_ hK
    have hW := hK.1
    clear hK
    go_simp
    exact ⟨rfl, (VB.q (hV0u.ext (hE_.trans hW))).mono fun e w' ⟨he, hx⟩ => ⟨_, he, hx, rfl⟩⟩
  intro v_ dz dA hr_
  obtain ⟨W_, hW_⟩ := hr_
  obtain rfl : v_ = .bool true := hW_.get
  clear hW_ W_
  try simp only [Act.put, sa0, sa1, sa2]
  refine wpT_quiet 3 (by rfl) (by kernel_rfl) ?_
  simp only [tk1, tk0, dp1, dp0]
  repeat (go_big_quiet_step (fail))
  refine wpQuiet_nil ?_
  refine wpT_eff (by rfl) (by rfl) (by rfl) ?_ ?_
  · intro W_ hK
    have hW := hK.1
    clear hK
    go_simp
    exact ⟨rfl, (VB.q (hV0v.ext (hE_.trans hW))).mono fun e w' ⟨he, hx⟩ => ⟨_, he, hx, rfl⟩⟩
  intro v_ lo52 hi52 hr_
  obtain ⟨W_, hW_⟩ := hr_
  obtain rfl : v_ = .bool false := hW_.get
  clear hW_ W_
  try simp only [Act.put, sa0, sa1, sa2]
  refine wpT_quiet 3 (by rfl) (by kernel_rfl) ?_
  simp only [tk1, tk0, dp1, dp0]
  repeat (go_big_quiet_step (fail))
  refine wpQuiet_nil ?_
  refine wpT_eff (by rfl) (by rfl) (by rfl) ?_ ?_
  · intro W_ hK
    have hW := hK.1
    clear hK
    go_simp
    exact ⟨rfl, (qValid_gv _ q1.u (n1) _ ⟨_, _, _, RG.mk (RI.ext (hS.num 26 rfl) hW) (RI.ext (hS.num 25 rfl) hW) (RI.ext (hS.num 24 rfl) hW), dn, cJ⟩ (by omega)).mono fun e w' ⟨he, hx⟩ => ⟨_, he, hx, rfl⟩⟩
  intro v_ dB dC hr_
  obtain ⟨W_, hW_⟩ := hr_
  obtain rfl : v_ = .bool true := hW_.get
  clear hW_ W_
  try simp only [Act.put, sa0, sa1, sa2]
  refine wpT_quiet 3 (by rfl) (by kernel_rfl) ?_
  simp only [tk1, tk0, dp1, dp0]
  repeat (go_big_quiet_step (fail))
  refine wpQuiet_nil ?_
  refine wpT_eff (by rfl) (by rfl) (by rfl) ?_ ?_
  · intro W_ hK
    have hW := hK.1
    clear hK
    go_simp
    exact ⟨rfl, (qValid_gv _ q1.v (n1) _ ⟨_, _, _, RG.mk (RI.ext (hS.num 23 rfl) hW) (RI.ext (hS.num 22 rfl) hW) (RI.ext (hS.num 21 rfl) hW), dp, cK⟩ (by omega)).mono fun e w' ⟨he, hx⟩ => ⟨_, he, hx, rfl⟩⟩
  intro v_ dD dE hr_
  obtain ⟨W_, hW_⟩ := hr_
  obtain rfl : v_ = .bool true := hW_.get
  clear hW_ W_
  try simp only [Act.put, sa0, sa1, sa2]
  refine wpT_quiet 2 (by rfl) (by kernel_rfl) ?_
  simp only [tk1, tk0, dp1, dp0]
  repeat (go_big_quiet_step (fail))
  refine wpQuiet_nil ?_
  refine wpT_eff (by rfl) (by rfl) (by rfl) ?_ ?_
  · intro W_ hK
    have hW := hK.1
    clear hK
    go_simp
    exact ⟨rfl, (qValid_gv _ q2 (n2) _ ⟨_, _, _, RG.mk (RI.ext (hS.num 20 rfl) hW) (RI.ext (hS.num 19 rfl) hW) (RI.ext (hS.num 18 rfl) hW), I2, S2⟩ (by omega)).mono fun e w' ⟨he, hx⟩ => ⟨_, he, hx, rfl⟩⟩
  intro v_ dF dG hr_
  obtain ⟨W_, hW_⟩ := hr_
  obtain rfl : v_ = .bool true := hW_.get
  clear hW_ W_
  try simp only [Act.put, sa0, sa1, sa2]
  refine wpT_quiet 2 (by rfl) (by kernel_rfl) ?_
  simp only [tk1, tk0, dp1, dp0]
  repeat (go_big_quiet_step (fail))
  refine wpQuiet_nil ?_
  refine wpT_nil ?_
  intro w9 hK
  have hlt_ := hS.lt
  replace hS := hS.mv hK.ext
  clear hK hlt_ hE_ Y5 Y4 Y3
  rotate_left 1
  all_goals
    go_wp2_with fail
    have Y11 := ExtOf.blk (hS.blk 0 rfl)
    have Y5 := ExtOf.blk (hS.blk 4 rfl)
    have hE_ := hS.ext
    refine wp_region_tame 33 (hasF [(0, .any), (29, .any), (30, .any)]) (Fcs [(0, .eq (.bool true)), (29, .rp (dd) (de) (df) ((0 : Int)) ((0 : Int)) ((1 : Int))), (30, .eq (.bool true))]) (Fcs_stab _) (by kernel_rfl) (by kernel_rfl) ?_
    simp only [tk1, tk0, dp1, dp0]
    refine wpT_eff (by rfl) (by rfl) (by rfl) ?_ ?_
    · intro W_ hK
      have hW := hK.1
      clear hK
      go_simp
      exact ⟨rfl, (lxknown_ok _ (tab_ext hTab (hE_.trans hW))).mono fun e w' ⟨he, hx⟩ => ⟨_, he, hx, rfl⟩⟩
    intro v_ dI dJ hr_
    obtain ⟨W_, hW_⟩ := hr_
    obtain rfl : v_ = .bool true := hW_.get
    clear hW_ W_
    try simp only [Act.put, sa0, sa1, sa2]
    refine wpT_quiet 7 (by rfl) (by kernel_rfl) ?_
    simp only [tk1, tk0, dp1, dp0]
    repeat (go_big_quiet_step (fail))
    refine wpQuiet_nil ?_
    refine wpT_skip (by rfl) (by rfl) ?_
    try simp only [Act.put, sa0, sa1, sa2]
    refine wpT_skip (by rfl) (by rfl) ?_
    try simp only [Act.put, sa0, sa1, sa2]
    refine wpT_quiet 9 (by rfl) (by kernel_rfl) ?_
    simp only [tk1, tk0, dp1, dp0]
    repeat (go_big_quiet_step (fail))
    refine wpQuiet_nil ?_
    refine wpT_skip (by rfl) (by rfl) ?_
    try simp only [Act.put, sa0, sa1, sa2]
    refine wpT_skip (by rfl) (by rfl) ?_
    try simp only [Act.put, sa0, sa1, sa2]
    refine wpT_quiet 8 (by rfl) (by kernel_rfl) ?_
    simp only [tk1, tk0, dp1, dp0]
    repeat (go_big_quiet_step (fail))
    refine wpQuiet_nil ?_
    refine wpT_eff (by rfl) (by rfl) (by rfl) ?_ ?_
    · intro W_ hK
      have hW := hK.1
      clear hK
      go_simp
      exact ⟨rfl, (toRP (qPlain_ok _ q2 (n2) _ ⟨_, _, _, RG.mk (RI.ext (hS.num 20 rfl) hW) (RI.ext (hS.num 19 rfl) hW) (RI.ext (hS.num 18 rfl) hW), I2, S2⟩ (by omega)) I2 (is_i 0 0)).mono fun e w' ⟨v, he, hR, hx⟩ => ⟨v, he, hx, hR⟩⟩
    intro v_ ap aq hr_
    obtain ⟨W_, hW_⟩ := hr_
    have hv_ : Fc.holds (.rp (dd) (de) (df) ((0 : Int)) ((0 : Int)) ((1 : Int))) ap aq v_ W_ := hW_.get
    clear hW_
    obtain ⟨a6, a0, a7, a8, a9, a1, aa, ab, ac, a2, ad, ae, af, a3, ag, ah, ai, a4, aj, ak, am, a5, an, ao, rfl, -, -, -, -, -, -⟩ := hv_
    clear W_
    try simp only [Act.put, sa0, sa1, sa2]
    refine wpT_eff (by rfl) (by rfl) (by rfl) ?_ ?_
    · intro W_ hK
      have hW := hK.1
      have bW : RI W_ (iv a6 a0 a7 a8) dd := RP.at1 (hK.2 29 ((pv a6 a0 a7 a8 a9 a1 aa ab ac a2 ad ae af a3 ag ah ai a4 aj ak am a5 an ao), ap, aq) (by rfl) (anc_of (by kernel_rfl)))
      have bX : RI W_ (iv a9 a1 aa ab) de := RP.at2 (hK.2 29 ((pv a6 a0 a7 a8 a9 a1 aa ab ac a2 ad ae af a3 ag ah ai a4 aj ak am a5 an ao), ap, aq) (by rfl) (anc_of (by kernel_rfl)))
      have bY : RI W_ (iv ac a2 ad ae) df := RP.at3 (hK.2 29 ((pv a6 a0 a7 a8 a9 a1 aa ab ac a2 ad ae af a3 ag ah ai a4 aj ak am a5 an ao), ap, aq) (by rfl) (anc_of (by kernel_rfl)))
      have bZ : RI W_ (iv af a3 ag ah) (0 : Int) := RP.at4 (hK.2 29 ((pv a6 a0 a7 a8 a9 a1 aa ab ac a2 ad ae af a3 ag ah ai a4 aj ak am a5 an ao), ap, aq) (by rfl) (anc_of (by kernel_rfl)))
      have c0 : RI W_ (iv ai a4 aj ak) (0 : Int) := RP.at5 (hK.2 29 ((pv a6 a0 a7 a8 a9 a1 aa ab ac a2 ad ae af a3 ag ah ai a4 aj ak am a5 an ao), ap, aq) (by rfl) (anc_of (by kernel_rfl)))
      have c1 : RI W_ (iv am a5 an ao) (1 : Int) := RP.at6 (hK.2 29 ((pv a6 a0 a7 a8 a9 a1 aa ab ac a2 ad ae af a3 ag ah ai a4 aj ak am a5 an ao), ap, aq) (by rfl) (anc_of (by kernel_rfl)))
      clear hK
      go_simp
      exact ⟨rfl, (qSamePhasor_q _ _ (⟨q2, (GQ.i 0 0)⟩ : PQ) (⟨q2, (GQ.i 0 0)⟩ : PQ) (n2) (n2) _ ⟨_, _, _, _, _, _, RP.mk (RI.ext (hS.num 5 rfl) hW) (RI.ext (hS.num 4 rfl) hW) (RI.ext (hS.num 3 rfl) hW) (RI.ext (hS.num 2 rfl) hW) (RI.ext (hS.num 1 rfl) hW) (RI.ext (hS.num 0 rfl) hW), I2, S2, (is_i 0 0), (sz_0 (n := n2) (by omega))⟩ ⟨_, _, _, _, _, _, RP.mk bW bX bY bZ c0 c1, I2, S2, (is_i 0 0), (sz_0 (n := n2) (by omega))⟩ rfl).mono fun e w' ⟨he, hx⟩ => ⟨_, he, hx, rfl⟩⟩
    intro v_ dK dL hr_
    obtain ⟨W_, hW_⟩ := hr_
    obtain rfl : v_ = .bool true := hW_.get
    clear hW_ W_
    try simp only [Act.put, sa0, sa1, sa2]
    refine wpT_quiet 2 (by rfl) (by kernel_rfl) ?_
    simp only [tk1, tk0, dp1, dp0]
    repeat (go_big_quiet_step (fail))
    refine wpQuiet_nil ?_
    refine wpT_nil ?_
    intro cL hK
    have hlt_ := hS.lt
    replace hS := hS.mv hK.ext
    replace hS := hS.addI (show RI cL (iv a6 a0 a7 a8) dd from RP.at1 (hK.at_ 29 (e := ((pv a6 a0 a7 a8 a9 a1 aa ab ac a2 ad ae af a3 ag ah ai a4 aj ak am a5 an ao), ap, aq)) (by rfl)))
    replace hS := hS.addI (show RI cL (iv a9 a1 aa ab) de from RP.at2 (hK.at_ 29 (e := ((pv a6 a0 a7 a8 a9 a1 aa ab ac a2 ad ae af a3 ag ah ai a4 aj ak am a5 an ao), ap, aq)) (by rfl)))
    replace hS := hS.addI (show RI cL (iv ac a2 ad ae) df from RP.at3 (hK.at_ 29 (e := ((pv a6 a0 a7 a8 a9 a1 aa ab ac a2 ad ae af a3 ag ah ai a4 aj ak am a5 an ao), ap, aq)) (by rfl)))
    replace hS := hS.addI (show RI cL (iv af a3 ag ah) (0 : Int) from RP.at4 (hK.at_ 29 (e := ((pv a6 a0 a7 a8 a9 a1 aa ab ac a2 ad ae af a3 ag ah ai a4 aj ak am a5 an ao), ap, aq)) (by rfl)))
    replace hS := hS.addI (show RI cL (iv ai a4 aj ak) (0 : Int) from RP.at5 (hK.at_ 29 (e := ((pv a6 a0 a7 a8 a9 a1 aa ab ac a2 ad ae af a3 ag ah ai a4 aj ak am a5 an ao), ap, aq)) (by rfl)))
    replace hS := hS.addI (show RI cL (iv am a5 an ao) (1 : Int) from RP.at6 (hK.at_ 29 (e := ((pv a6 a0 a7 a8 a9 a1 aa ab ac a2 ad ae af a3 ag ah ai a4 aj ak am a5 an ao), ap, aq)) (by rfl)))
    clear hK hlt_ hE_ Y11 Y5
    go_wp2
    go_ret
    exact ⟨ret_bool (rfl), hS.ext⟩

end Go.Proofs.YtjeijmnhbckjdaaGreatDoor
