/- Divide and Gcd obey Euclid's laws: the walk (printed by wip/tools/gen_euclid.py). -/
import Derived.Test.YtfdpbcjcinchgaaDoorLd
import Derived.Test.YtfdpbcjcinchgaaDoorOrd2
namespace Go.Proofs.YtfdpbcjcinchgaaDoor
open Go.RowKit
set_option linter.unusedVariables false

set_option maxRecDepth 100000 in
set_option maxHeartbeats 3200000 in
theorem euclid_small (v u : Value) (x y : Int) (w : World) (hX : RI w v x) (hY : RI w u y) (fx : Fits 40 x) (fy : Fits 40 y) (lx : (digs x.natAbs).length ≤ 40) (ly : (digs y.natAbs).length ≤ 40) (hy0 : y ≠ 0) :
    Calls Tryd.prog 12 #[v, u] w fun e w' => e = .returned (.bool true) ∧ Ext w w' := by
  obtain ⟨A, n, c, rfl, hx⟩ := hX
  obtain ⟨B, m, d, rfl, hy⟩ := hY
  have hn : n ≤ 40 := by have := hx.len; omega
  have hm : m ≤ 40 := by have := hy.len; omega
  have hm0 : 0 < m := (digs_some hy.len).2 (by omega)
  have t1 : ((m : Int) == 0) = false := by simp; omega
  have t2 : (m == 0) = false := by simp; omega
  have hX : RI w (iv (decide (x < 0)) A n c) x := ⟨A, n, c, rfl, hx⟩
  have hY : RI w (iv (decide (y < 0)) B m d) y := ⟨B, m, d, rfl, hy⟩
  clear hx hy
  generalize decide (x < 0) = s at *
  generalize decide (y < 0) = t at *
  have AX := Lib.hid (fx.lim (by decide)); have AY := Lib.hid (fy.lim (by decide))
  have h1 := mod_nonneg (x := x) hy0
  have h2 := mod_lt_abs (x := x) hy0
  have fr : Fits 40 (x % y) := fy.le (by omega)
  have hdm : x / y * y + x % y = x := by rw [Int.mul_comm]; exact Int.mul_ediv_add_emod x y
  have fq : Fits 41 (x / y * y) := by rw [show x / y * y = x - x % y by omega]; exact fx.sub fr
  have fq1 : Fits 41 (x / y) := fq.le (by
    rw [Int.natAbs_mul]
    exact Nat.le_mul_of_pos_right _ (by omega))
  have hstep := gcd_step (x := x) (y := y)
  obtain ⟨zq, hzq⟩ : ∃ z, z = x / y := ⟨_, rfl⟩
  obtain ⟨zr, hzr⟩ : ∃ z, z = x % y := ⟨_, rfl⟩
  obtain ⟨zp, hzp⟩ : ∃ z, z = zq * y := ⟨_, rfl⟩
  obtain ⟨zy, hzy⟩ : ∃ z, z = (y.natAbs : Int) := ⟨_, rfl⟩
  obtain ⟨G, hG_⟩ : ∃ z, z = ((Nat.gcd x.natAbs y.natAbs : Nat) : Int) := ⟨_, rfl⟩
  rw [← hzr] at h1 h2 fr hdm hstep
  rw [← hzq] at fq fq1 hdm
  rw [← hzp] at fq hdm
  have HPZ : Hid (zp = (resS (zq * y)).1) := Lib.hid (by rw [← hzp]; exact res_fits fq (by decide))
  have HSZ : Hid (x = (resS (zp + zr)).1) := Lib.hid (by rw [hdm]; exact res_fits fx (by decide))
  have HQL := Lib.hid (fq1.lim (by decide)); have HPL := Lib.hid (fq.lim (by decide)); have HRL := Lib.hid (fr.lim (by decide))
  have HZYL : Hid (zy.natAbs < lim) := Lib.hid (by rw [hzy]; exact fy.abs.lim (by decide))
  obtain ⟨c1, hc1⟩ : ∃ z, cmpZ zr 0 = z := ⟨_, rfl⟩
  have hc1' : ¬ c1 < 0 := by rw [← hc1]; unfold cmpZ; split <;> (try split) <;> omega
  have hc1'' : decide (c1 < 0) = false := by simpa using hc1'
  have HC1 := Lib.hid hc1
  have HC2 : Hid (cmpZ zr zy = -1) := Lib.hid (by rw [hzy]; unfold cmpZ; rw [if_pos h2])
  have HG2 : Hid (((Nat.gcd y.natAbs zr.natAbs : Nat) : Int) = G) := Lib.hid (by rw [hG_, hstep])
  have hGpos : 0 < G := by
    rw [hG_]
    exact Int.ofNat_lt.2 (Nat.gcd_pos_of_pos_right _ (by omega))
  have hGle : G ≤ (y.natAbs : Int) := by rw [hG_]; exact Int.ofNat_le.2 (Nat.gcd_le_right _ (by omega))
  have HGL : Hid (G.natAbs < lim) := Lib.hid ((fy.le (by omega)).lim (by decide))
  have HGN : Hid (G ≠ 0) := Lib.hid (by omega)
  have HM1 : Hid (x % G = 0) := Lib.hid (by rw [hG_]; exact gcd_mod_l)
  have HM2 : Hid (y % G = 0) := Lib.hid (by rw [hG_]; exact gcd_mod_r)
  have HC3 : Hid (cmpZ G 0 = 1) := Lib.hid (by unfold cmpZ; rw [if_neg (by omega), if_pos hGpos])
  have HC0 : Hid (cmpZ 0 0 = 0) := Lib.hid rfl
  have HL0 : Hid ((0 : Int).natAbs < lim) := Lib.hid (Fits.zero (k := 1) |>.lim (by decide))
  have HZQ := Lib.hid hzq; have HZR := Lib.hid hzr; have HZY := Lib.hid hzy; have HGG := Lib.hid hG_; have HY0 := Lib.hid hy0
  clear hzq hzr hzp hzy hG_ h1 h2 fr hdm fq fq1 hstep hc1 hc1' hGpos hGle fx fy lx ly hy0
  have hE : Ext w ((w.alloc (.cells #[.bool s, .slice A n c] 24)).alloc (.cells #[.bool t, .slice B m d] 24)) := (Ext.new w _).alloc _
  have b2 : Blk ((w.alloc (.cells #[.bool s, .slice A n c] 24)).alloc (.cells #[.bool t, .slice B m d] 24)) (w.heap.size) 24 #[.bool s, .slice A n c] := (Blk.new' _ _ (by simp)).alloc _
  have b3 : Blk ((w.alloc (.cells #[.bool s, .slice A n c] 24)).alloc (.cells #[.bool t, .slice B m d] 24)) (w.heap.size + 1) 24 #[.bool t, .slice B m d] := Blk.new' _ _ (by simp)
  go_enter Tryd.func12, Tryd.ntmps12
  go_wp2_with fail
  generalize ((w.alloc (.cells #[.bool s, .slice A n c] 24)).alloc (.cells #[.bool t, .slice B m d] 24)) = w0 at *
  generalize hg : w.heap.size = g at *
  have HG := Lib.hid hg; clear hg
  replace hX := hX.ext hE
  replace hY := hY.ext hE
  refine (known_any _).mono ?_
  rintro e w1 ⟨rfl, hx_⟩
  replace b2 := b2.ext hx_
  replace b3 := b3.ext hx_
  replace hX := hX.ext hx_
  replace hY := hY.ext hx_
  replace hE := hE.trans hx_
  clear hx_
  have k2 := b2.cell
  have k3 := b3.cell
  go_wp2_with fail
  have hbs := Blk.new w1 24 #[.bool s, .slice A n c, .bool t, .slice B m d]
  have hx0 := Ext.new w1 (.cells #[.bool s, .slice A n c, .bool t, .slice B m d] 24)
  replace b2 := b2.ext hx0
  replace b3 := b3.ext hx0
  replace hX := hX.ext hx0
  replace hY := hY.ext hx0
  replace hE := hE.trans hx0
  clear hx0
  refine (Large_any w1.heap.size 2 [(A, n, c), (B, m, d)] _ (by simp) (large2 hbs)).mono ?_
  rintro e w2 ⟨rfl, hx_⟩
  rw [large2_no (by omega) (by omega)]
  replace b2 := b2.ext hx_
  replace b3 := b3.ext hx_
  replace hX := hX.ext hx_
  replace hY := hY.ext hx_
  replace hE := hE.trans hx_
  clear hx_ hbs
  clear k2 k3
  have k2 := b2.cell
  have k3 := b3.cell
  go_wp2_with fail
  refine (rValid_ri _ x _ hX AX.out).mono ?_
  rintro e w3 ⟨rfl, hx_⟩
  replace b2 := b2.ext hx_
  replace b3 := b3.ext hx_
  replace hX := hX.ext hx_
  replace hY := hY.ext hx_
  replace hE := hE.trans hx_
  clear hx_
  clear k2 k3
  have k2 := b2.cell
  have k3 := b3.cell
  go_wp2_with fail
  refine (rValid_ri _ y _ hY AY.out).mono ?_
  rintro e w4 ⟨rfl, hx_⟩
  replace b2 := b2.ext hx_
  replace b3 := b3.ext hx_
  replace hX := hX.ext hx_
  replace hY := hY.ext hx_
  replace hE := hE.trans hx_
  clear hx_
  clear k2 k3
  have k2 := b2.cell
  have k3 := b3.cell
  go_wp2_with fail
  refine (Divide_ok _ _ x y _ hX hY AX.out AY.out HY0.out).mono ?_
  rintro e w5 ⟨v_, rfl, ⟨q_, r_, rfl, hQ, hR⟩, hx_⟩
  replace b2 := b2.ext hx_
  replace b3 := b3.ext hx_
  replace hX := hX.ext hx_
  replace hY := hY.ext hx_
  replace hE := hE.trans hx_
  clear hx_
  clear k2 k3
  rw [← HZQ.out] at hQ
  rw [← HZR.out] at hR
  obtain ⟨sq, Aq, nq, cq, rfl, hQ⟩ := hQ.open_
  obtain ⟨sr, Ar, nr, cr, rfl, hR⟩ := hR.open_
  have hx_ : Ext w5 ((w5.alloc (.cells #[.bool sq, .slice Aq nq cq] 24)).alloc (.cells #[.bool sr, .slice Ar nr cr] 24)) := (Ext.new _ _).alloc _
  have b5 : Blk ((w5.alloc (.cells #[.bool sq, .slice Aq nq cq] 24)).alloc (.cells #[.bool sr, .slice Ar nr cr] 24)) w5.heap.size 24 #[.bool sq, .slice Aq nq cq] := (Blk.new' _ _ (by simp)).alloc _
  have b6 : Blk ((w5.alloc (.cells #[.bool sq, .slice Aq nq cq] 24)).alloc (.cells #[.bool sr, .slice Ar nr cr] 24)) (w5.heap.size + 1) 24 #[.bool sr, .slice Ar nr cr] := Blk.new' _ _ (by simp)
  replace b2 := b2.ext hx_
  replace b3 := b3.ext hx_
  replace hX := hX.ext hx_
  replace hY := hY.ext hx_
  replace hQ := hQ.ext hx_
  replace hR := hR.ext hx_
  replace hE := hE.trans hx_
  clear hx_
  go_wp2_with fail
  generalize ((w5.alloc (.cells #[.bool sq, .slice Aq nq cq] 24)).alloc (.cells #[.bool sr, .slice Ar nr cr] 24)) = w6 at *
  generalize w5.heap.size = g5 at *
  have Y2 := ExtOf.blk b2
  have Y3 := ExtOf.blk b3
  have Y5 := ExtOf.blk b5
  have Y6 := ExtOf.blk b6
  have hB_ : Ext w6 w6.drew := (Ext.refl _).drew
  replace hX := hX.ext hB_
  replace hY := hY.ext hB_
  replace hQ := hQ.ext hB_
  replace hR := hR.ext hB_
  refine wp_region_ordN [(true, 0), (true, 1), (true, 2), (true, 3), (true, 4), (true, 6), (true, 8), (false, 5), (false, 7), (false, 9), (true, 10), (true, 11), (true, 12), (true, 13), (false, 14), (true, 15), (true, 16), (true, 17), (true, 18), (true, 19), (false, 20), (false, 21), (true, 22), (true, 23)] (by kernel_rfl) (by kernel_rfl) ?_
  refine wpOrd_quiet [0, 1, 2, 3, 4, 6, 8] [(false, 5), (false, 7), (false, 9), (true, 10), (true, 11), (true, 12), (true, 13), (false, 14), (true, 15), (true, 16), (true, 17), (true, 18), (true, 19), (false, 20), (false, 21), (true, 22), (true, 23)] _ (by kernel_rfl) ?_
  simp only [nthOps, nthOp, List.cons_append, List.nil_append]
  repeat (go_big_quiet_step (fail))
  refine wpQuiet_nil ?_
  refine wpOrd_act 5 [(false, 7), (false, 9), (true, 10), (true, 11), (true, 12), (true, 13), (false, 14), (true, 15), (true, 16), (true, 17), (true, 18), (true, 19), (false, 20), (false, 21), (true, 22), (true, 23)] (by kernel_rfl) ?_
  intro K hK
  simp only [nthOp]
  go_wp2_with fail
  refine (lproduct_ok _ _ zq y zp _ hQ hY HQL.out AY.out HPZ.out).mono ?_
  rintro e w7 ⟨v1, rfl, hP, hx_⟩
  replace hB_ := hB_.trans hx_
  replace hX := hX.ext hx_
  replace hY := hY.ext hx_
  replace hQ := hQ.ext hx_
  replace hR := hR.ext hx_
  go_wp2
  refine hK _ _ ⟨⟨w7, hB_⟩, rfl⟩ ?_
  clear hK K hx_
  refine wpOrd_act 7 [(false, 9), (true, 10), (true, 11), (true, 12), (true, 13), (false, 14), (true, 15), (true, 16), (true, 17), (true, 18), (true, 19), (false, 20), (false, 21), (true, 22), (true, 23)] (by kernel_rfl) ?_
  intro K hK
  simp only [nthOp]
  go_wp2_with fail
  refine (lsum_ok _ _ zp zr x _ hP hR HPL.out HRL.out HSZ.out).mono ?_
  rintro e w8 ⟨v2, rfl, hS, hx_⟩
  replace hB_ := hB_.trans hx_
  replace hX := hX.ext hx_
  replace hY := hY.ext hx_
  replace hQ := hQ.ext hx_
  replace hR := hR.ext hx_
  replace hP := hP.ext hx_
  go_wp2
  refine hK _ _ ⟨⟨w8, hB_⟩, rfl⟩ ?_
  clear hK K hx_
  refine wpOrd_act 9 [(true, 10), (true, 11), (true, 12), (true, 13), (false, 14), (true, 15), (true, 16), (true, 17), (true, 18), (true, 19), (false, 20), (false, 21), (true, 22), (true, 23)] (by kernel_rfl) ?_
  intro K hK
  simp only [nthOp]
  go_wp2_with fail
  refine (rSame_any _ _ x x _ hS hX).mono ?_
  rintro e w9 ⟨rfl, hx_⟩
  replace hB_ := hB_.trans hx_
  replace hX := hX.ext hx_
  replace hY := hY.ext hx_
  replace hQ := hQ.ext hx_
  replace hR := hR.ext hx_
  replace hP := hP.ext hx_
  replace hS := hS.ext hx_
  rw [show decide (x = x) = true by simp]
  go_wp2
  refine hK _ _ ⟨⟨w9, hB_⟩, rfl⟩ ?_
  clear hK K hx_
  refine wpOrd_quiet [10, 11, 12, 13] [(false, 14), (true, 15), (true, 16), (true, 17), (true, 18), (true, 19), (false, 20), (false, 21), (true, 22), (true, 23)] _ (by kernel_rfl) ?_
  simp only [nthOps, nthOp, List.cons_append, List.nil_append]
  repeat (go_big_quiet_step (fail))
  refine wpQuiet_nil ?_
  refine wpOrd_act 14 [(true, 15), (true, 16), (true, 17), (true, 18), (true, 19), (false, 20), (false, 21), (true, 22), (true, 23)] (by kernel_rfl) ?_
  intro K hK
  simp only [nthOp]
  go_wp2_with fail
  refine (Sign_ok _ zr _ hR HRL.out).mono ?_
  rintro e w10 ⟨rfl, hx_⟩
  replace hB_ := hB_.trans hx_
  replace hX := hX.ext hx_
  replace hY := hY.ext hx_
  replace hQ := hQ.ext hx_
  replace hR := hR.ext hx_
  replace hP := hP.ext hx_
  replace hS := hS.ext hx_
  rw [HC1.out]
  go_wp2
  refine hK _ _ ⟨⟨w10, hB_⟩, rfl⟩ ?_
  clear hK K hx_
  refine wpOrd_quiet [15, 16, 17, 18, 19] [(false, 20), (false, 21), (true, 22), (true, 23)] _ (by kernel_rfl) ?_
  simp only [nthOps, nthOp, List.cons_append, List.nil_append]
  repeat (go_big_quiet_step (fail))
  refine wpQuiet_nil ?_
  refine wpOrd_act 20 [(false, 21), (true, 22), (true, 23)] (by kernel_rfl) ?_
  intro K hK
  simp only [nthOp]
  go_wp2_with fail
  refine (rSize_any _ y zy _ hY AY.out HZY.out).mono ?_
  rintro e w11 ⟨v3, rfl, hZ, hx_⟩
  replace hB_ := hB_.trans hx_
  replace hX := hX.ext hx_
  replace hY := hY.ext hx_
  replace hQ := hQ.ext hx_
  replace hR := hR.ext hx_
  replace hP := hP.ext hx_
  replace hS := hS.ext hx_
  go_wp2
  refine hK _ _ ⟨⟨w11, hB_⟩, rfl⟩ ?_
  clear hK K hx_
  refine wpOrd_act 21 [(true, 22), (true, 23)] (by kernel_rfl) ?_
  intro K hK
  simp only [nthOp]
  go_wp2_with fail
  refine (Compare_ok _ _ zr zy _ hR hZ HRL.out HZYL.out).mono ?_
  rintro e w12 ⟨rfl, hx_⟩
  replace hB_ := hB_.trans hx_
  replace hX := hX.ext hx_
  replace hY := hY.ext hx_
  replace hQ := hQ.ext hx_
  replace hR := hR.ext hx_
  replace hP := hP.ext hx_
  replace hS := hS.ext hx_
  replace hZ := hZ.ext hx_
  rw [HC2.out]
  go_wp2
  refine hK _ _ ⟨⟨w12, hB_⟩, rfl⟩ ?_
  clear hK K hx_
  refine wpOrd_quiet [22, 23] [] _ (by kernel_rfl) ?_
  simp only [nthOps, nthOp, List.cons_append, List.nil_append]
  repeat (go_big_quiet_step (fail))
  refine wpQuiet_nil ?_
  clear Y2 Y3 Y5 Y6
  replace b2 := b2.ext hB_
  replace b3 := b3.ext hB_
  replace b5 := b5.ext hB_
  replace b6 := b6.ext hB_
  replace hE := hE.trans hB_
  clear hB_
  simp only [wpOrd]
  have k2 := b2.cell
  have k3 := b3.cell
  have k5 := b5.cell
  have k6 := b6.cell
  go_wp2_with fail
  refine (Gcd_ok _ _ x y _ hX hY AX.out AY.out).mono ?_
  rintro e w13 ⟨v_, rfl, ⟨u_, rfl, hG⟩, hx_⟩
  replace b2 := b2.ext hx_
  replace b3 := b3.ext hx_
  replace b5 := b5.ext hx_
  replace b6 := b6.ext hx_
  replace hX := hX.ext hx_
  replace hY := hY.ext hx_
  replace hR := hR.ext hx_
  replace hE := hE.trans hx_
  clear hx_
  clear k2 k3 k5 k6
  rw [← HGG.out] at hG
  obtain ⟨sg, Ag, ng, cg, rfl, hG⟩ := hG.open_
  have hx_ : Ext w13 (w13.alloc (.cells #[.bool sg, .slice Ag ng cg] 24)) := Ext.new _ _
  have b8 : Blk (w13.alloc (.cells #[.bool sg, .slice Ag ng cg] 24)) w13.heap.size 24 #[.bool sg, .slice Ag ng cg] := Blk.new' _ _ (by simp)
  replace b2 := b2.ext hx_
  replace b3 := b3.ext hx_
  replace b5 := b5.ext hx_
  replace b6 := b6.ext hx_
  replace hX := hX.ext hx_
  replace hY := hY.ext hx_
  replace hR := hR.ext hx_
  replace hG := hG.ext hx_
  replace hE := hE.trans hx_
  clear hx_
  have k2 := b2.cell
  have k3 := b3.cell
  have k5 := b5.cell
  have k6 := b6.cell
  have k8 := b8.cell
  go_wp2_with fail
  generalize (w13.alloc (.cells #[.bool sg, .slice Ag ng cg] 24)) = w14 at *
  generalize w13.heap.size = g8 at *
  refine (Gcd_ok _ _ y zr _ hY hR AY.out HRL.out).mono ?_
  rintro e w15 ⟨v_, rfl, ⟨u_, rfl, hH⟩, hx_⟩
  replace b2 := b2.ext hx_
  replace b3 := b3.ext hx_
  replace b5 := b5.ext hx_
  replace b6 := b6.ext hx_
  replace b8 := b8.ext hx_
  replace hX := hX.ext hx_
  replace hY := hY.ext hx_
  replace hR := hR.ext hx_
  replace hG := hG.ext hx_
  replace hE := hE.trans hx_
  clear hx_
  clear k2 k3 k5 k6 k8
  rw [HG2.out] at hH
  obtain ⟨sh, Ah, nh, ch, rfl, hH⟩ := hH.open_
  have hx_ : Ext w15 (w15.alloc (.cells #[.bool sh, .slice Ah nh ch] 24)) := Ext.new _ _
  have b10 : Blk (w15.alloc (.cells #[.bool sh, .slice Ah nh ch] 24)) w15.heap.size 24 #[.bool sh, .slice Ah nh ch] := Blk.new' _ _ (by simp)
  replace b2 := b2.ext hx_
  replace b3 := b3.ext hx_
  replace b5 := b5.ext hx_
  replace b6 := b6.ext hx_
  replace b8 := b8.ext hx_
  replace hX := hX.ext hx_
  replace hY := hY.ext hx_
  replace hR := hR.ext hx_
  replace hG := hG.ext hx_
  replace hH := hH.ext hx_
  replace hE := hE.trans hx_
  clear hx_
  have k2 := b2.cell
  have k3 := b3.cell
  have k5 := b5.cell
  have k6 := b6.cell
  have k8 := b8.cell
  have k10 := b10.cell
  go_wp2_with fail
  generalize (w15.alloc (.cells #[.bool sh, .slice Ah nh ch] 24)) = w16 at *
  generalize w15.heap.size = g10 at *
  refine (Divide_ok _ _ x G _ hX hG AX.out HGL.out HGN.out).mono ?_
  rintro e w17 ⟨v_, rfl, ⟨q_, r_, rfl, hQ1, hR1⟩, hx_⟩
  replace b2 := b2.ext hx_
  replace b3 := b3.ext hx_
  replace b5 := b5.ext hx_
  replace b6 := b6.ext hx_
  replace b8 := b8.ext hx_
  replace b10 := b10.ext hx_
  replace hX := hX.ext hx_
  replace hY := hY.ext hx_
  replace hR := hR.ext hx_
  replace hG := hG.ext hx_
  replace hH := hH.ext hx_
  replace hE := hE.trans hx_
  clear hx_
  clear k2 k3 k5 k6 k8 k10
  rw [HM1.out] at hR1
  generalize x / G = z_ at hQ1
  obtain ⟨sq1, Aq1, nq1, cq1, rfl, hQ1⟩ := hQ1.open_
  obtain ⟨sr1, Ar1, nr1, cr1, rfl, hR1⟩ := hR1.open_
  clear hQ1
  have hx_ : Ext w17 ((w17.alloc (.cells #[.bool sq1, .slice Aq1 nq1 cq1] 24)).alloc (.cells #[.bool sr1, .slice Ar1 nr1 cr1] 24)) := (Ext.new _ _).alloc _
  have b12 : Blk ((w17.alloc (.cells #[.bool sq1, .slice Aq1 nq1 cq1] 24)).alloc (.cells #[.bool sr1, .slice Ar1 nr1 cr1] 24)) w17.heap.size 24 #[.bool sq1, .slice Aq1 nq1 cq1] := (Blk.new' _ _ (by simp)).alloc _
  have b13 : Blk ((w17.alloc (.cells #[.bool sq1, .slice Aq1 nq1 cq1] 24)).alloc (.cells #[.bool sr1, .slice Ar1 nr1 cr1] 24)) (w17.heap.size + 1) 24 #[.bool sr1, .slice Ar1 nr1 cr1] := Blk.new' _ _ (by simp)
  replace b2 := b2.ext hx_
  replace b3 := b3.ext hx_
  replace b5 := b5.ext hx_
  replace b6 := b6.ext hx_
  replace b8 := b8.ext hx_
  replace b10 := b10.ext hx_
  replace hX := hX.ext hx_
  replace hY := hY.ext hx_
  replace hR := hR.ext hx_
  replace hG := hG.ext hx_
  replace hH := hH.ext hx_
  replace hR1 := hR1.ext hx_
  replace hE := hE.trans hx_
  clear hx_
  have k2 := b2.cell
  have k3 := b3.cell
  have k5 := b5.cell
  have k6 := b6.cell
  have k8 := b8.cell
  have k10 := b10.cell
  have k12 := b12.cell
  have k13 := b13.cell
  go_wp2_with fail
  generalize ((w17.alloc (.cells #[.bool sq1, .slice Aq1 nq1 cq1] 24)).alloc (.cells #[.bool sr1, .slice Ar1 nr1 cr1] 24)) = w18 at *
  generalize w17.heap.size = g12 at *
  refine (Divide_ok _ _ y G _ hY hG AY.out HGL.out HGN.out).mono ?_
  rintro e w19 ⟨v_, rfl, ⟨q_, r_, rfl, hQ2, hR2⟩, hx_⟩
  replace b2 := b2.ext hx_
  replace b3 := b3.ext hx_
  replace b5 := b5.ext hx_
  replace b6 := b6.ext hx_
  replace b8 := b8.ext hx_
  replace b10 := b10.ext hx_
  replace b12 := b12.ext hx_
  replace b13 := b13.ext hx_
  replace hX := hX.ext hx_
  replace hY := hY.ext hx_
  replace hR := hR.ext hx_
  replace hG := hG.ext hx_
  replace hH := hH.ext hx_
  replace hR1 := hR1.ext hx_
  replace hE := hE.trans hx_
  clear hx_
  clear k2 k3 k5 k6 k8 k10 k12 k13
  rw [HM2.out] at hR2
  generalize y / G = z_ at hQ2
  obtain ⟨sq2, Aq2, nq2, cq2, rfl, hQ2⟩ := hQ2.open_
  obtain ⟨sr2, Ar2, nr2, cr2, rfl, hR2⟩ := hR2.open_
  clear hQ2
  have hx_ : Ext w19 ((w19.alloc (.cells #[.bool sq2, .slice Aq2 nq2 cq2] 24)).alloc (.cells #[.bool sr2, .slice Ar2 nr2 cr2] 24)) := (Ext.new _ _).alloc _
  have b15 : Blk ((w19.alloc (.cells #[.bool sq2, .slice Aq2 nq2 cq2] 24)).alloc (.cells #[.bool sr2, .slice Ar2 nr2 cr2] 24)) w19.heap.size 24 #[.bool sq2, .slice Aq2 nq2 cq2] := (Blk.new' _ _ (by simp)).alloc _
  have b16 : Blk ((w19.alloc (.cells #[.bool sq2, .slice Aq2 nq2 cq2] 24)).alloc (.cells #[.bool sr2, .slice Ar2 nr2 cr2] 24)) (w19.heap.size + 1) 24 #[.bool sr2, .slice Ar2 nr2 cr2] := Blk.new' _ _ (by simp)
  replace b2 := b2.ext hx_
  replace b3 := b3.ext hx_
  replace b5 := b5.ext hx_
  replace b6 := b6.ext hx_
  replace b8 := b8.ext hx_
  replace b10 := b10.ext hx_
  replace b12 := b12.ext hx_
  replace b13 := b13.ext hx_
  replace hX := hX.ext hx_
  replace hY := hY.ext hx_
  replace hR := hR.ext hx_
  replace hG := hG.ext hx_
  replace hH := hH.ext hx_
  replace hR1 := hR1.ext hx_
  replace hR2 := hR2.ext hx_
  replace hE := hE.trans hx_
  clear hx_
  have k2 := b2.cell
  have k3 := b3.cell
  have k5 := b5.cell
  have k6 := b6.cell
  have k8 := b8.cell
  have k10 := b10.cell
  have k12 := b12.cell
  have k13 := b13.cell
  have k15 := b15.cell
  have k16 := b16.cell
  go_wp2_with fail
  generalize ((w19.alloc (.cells #[.bool sq2, .slice Aq2 nq2 cq2] 24)).alloc (.cells #[.bool sr2, .slice Ar2 nr2 cr2] 24)) = w20 at *
  generalize w19.heap.size = g15 at *
  refine (rSame_any _ _ G G _ hG hH).mono ?_
  rintro e w21 ⟨rfl, hx_⟩
  replace b2 := b2.ext hx_
  replace b3 := b3.ext hx_
  replace b5 := b5.ext hx_
  replace b6 := b6.ext hx_
  replace b8 := b8.ext hx_
  replace b10 := b10.ext hx_
  replace b12 := b12.ext hx_
  replace b13 := b13.ext hx_
  replace b15 := b15.ext hx_
  replace b16 := b16.ext hx_
  replace hX := hX.ext hx_
  replace hY := hY.ext hx_
  replace hR := hR.ext hx_
  replace hG := hG.ext hx_
  replace hH := hH.ext hx_
  replace hR1 := hR1.ext hx_
  replace hR2 := hR2.ext hx_
  replace hE := hE.trans hx_
  clear hx_
  clear k2 k3 k5 k6 k8 k10 k12 k13 k15 k16
  rw [show decide (G = G) = true by simp]
  have k2 := b2.cell
  have k3 := b3.cell
  have k5 := b5.cell
  have k6 := b6.cell
  have k8 := b8.cell
  have k10 := b10.cell
  have k12 := b12.cell
  have k13 := b13.cell
  have k15 := b15.cell
  have k16 := b16.cell
  go_wp2_with fail
  refine (Sign_ok _ 0 _ hR1 HL0.out).mono ?_
  rintro e w22 ⟨rfl, hx_⟩
  replace b2 := b2.ext hx_
  replace b3 := b3.ext hx_
  replace b5 := b5.ext hx_
  replace b6 := b6.ext hx_
  replace b8 := b8.ext hx_
  replace b10 := b10.ext hx_
  replace b12 := b12.ext hx_
  replace b13 := b13.ext hx_
  replace b15 := b15.ext hx_
  replace b16 := b16.ext hx_
  replace hX := hX.ext hx_
  replace hY := hY.ext hx_
  replace hR := hR.ext hx_
  replace hG := hG.ext hx_
  replace hH := hH.ext hx_
  replace hR1 := hR1.ext hx_
  replace hR2 := hR2.ext hx_
  replace hE := hE.trans hx_
  clear hx_
  clear k2 k3 k5 k6 k8 k10 k12 k13 k15 k16
  rw [HC0.out]
  have k2 := b2.cell
  have k3 := b3.cell
  have k5 := b5.cell
  have k6 := b6.cell
  have k8 := b8.cell
  have k10 := b10.cell
  have k12 := b12.cell
  have k13 := b13.cell
  have k15 := b15.cell
  have k16 := b16.cell
  go_wp2_with fail
  refine (Sign_ok _ 0 _ hR2 HL0.out).mono ?_
  rintro e w23 ⟨rfl, hx_⟩
  replace b2 := b2.ext hx_
  replace b3 := b3.ext hx_
  replace b5 := b5.ext hx_
  replace b6 := b6.ext hx_
  replace b8 := b8.ext hx_
  replace b10 := b10.ext hx_
  replace b12 := b12.ext hx_
  replace b13 := b13.ext hx_
  replace b15 := b15.ext hx_
  replace b16 := b16.ext hx_
  replace hX := hX.ext hx_
  replace hY := hY.ext hx_
  replace hR := hR.ext hx_
  replace hG := hG.ext hx_
  replace hH := hH.ext hx_
  replace hR1 := hR1.ext hx_
  replace hR2 := hR2.ext hx_
  replace hE := hE.trans hx_
  clear hx_
  clear k2 k3 k5 k6 k8 k10 k12 k13 k15 k16
  rw [HC0.out]
  have k2 := b2.cell
  have k3 := b3.cell
  have k5 := b5.cell
  have k6 := b6.cell
  have k8 := b8.cell
  have k10 := b10.cell
  have k12 := b12.cell
  have k13 := b13.cell
  have k15 := b15.cell
  have k16 := b16.cell
  go_wp2_with fail
  refine (Sign_ok _ G _ hG HGL.out).mono ?_
  rintro e w24 ⟨rfl, hx_⟩
  replace b2 := b2.ext hx_
  replace b3 := b3.ext hx_
  replace b5 := b5.ext hx_
  replace b6 := b6.ext hx_
  replace b8 := b8.ext hx_
  replace b10 := b10.ext hx_
  replace b12 := b12.ext hx_
  replace b13 := b13.ext hx_
  replace b15 := b15.ext hx_
  replace b16 := b16.ext hx_
  replace hX := hX.ext hx_
  replace hY := hY.ext hx_
  replace hR := hR.ext hx_
  replace hG := hG.ext hx_
  replace hH := hH.ext hx_
  replace hR1 := hR1.ext hx_
  replace hR2 := hR2.ext hx_
  replace hE := hE.trans hx_
  clear hx_
  clear k2 k3 k5 k6 k8 k10 k12 k13 k15 k16
  rw [HC3.out]
  go_wp2
  go_ret
  exact ⟨rfl, hE⟩
end Go.Proofs.YtfdpbcjcinchgaaDoor
