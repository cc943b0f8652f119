/- Exact's quotient and Div, with the sizes of what they meet told one by one. -/
import Derived.Test.YtclkkoiaaddllaaGreatQVffiln
import Derived.Test.YtclkkoiaaddllaaGreatQYocmaf
namespace Go.Proofs.YtclkkoiaaddllaaGreat
open Go.RowKit
set_option linter.unusedVariables false

theorem low_eqnf {A B D a b d : Int} (hD : D ≠ 0) (E : (a, b, d) = nf A B D) : Low a b d := by
  have h := is_nf (a := A) (b := B) hD
  rw [← E] at h
  exact h.low
set_option maxRecDepth 100000 in
set_option maxHeartbeats 16000000 in
theorem equotient_wf (gc : Nat) (v1 : Value) (cN cO cP : Int) (v2 : Value) (cQ cR cS : Int) (w : World) (hc : Calm w gc) (hX1 : RG w v1 cN cO cP) (dF : cN.natAbs < lim) (dG : cO.natAbs < lim) (dH : cP.natAbs < lim) (hX2 : RG w v2 cQ cR cS) (dI : cQ.natAbs < lim) (dJ : cR.natAbs < lim) (dK : cS.natAbs < lim)
    (aL : Int) (E30 : Hid (aL = (gcdL [cN, cO, cQ, cR] : Nat))) (eK : aL.natAbs < lim)
    (b3 : Int) (E37 : Hid (b3 = (gcdL [cP, cS] : Nat))) (gk : b3.natAbs < lim)
    (bU : Int) (E42 : Hid (bU = cN / aL)) (gl : bU.natAbs < lim)
    (N42 : Hid (aL ≠ 0))
    (f7 : Hid (aL ∣ cN))
    (bV : Int) (E47 : Hid (bV = cO / aL)) (gm : bV.natAbs < lim)
    (N47 : Hid (aL ≠ 0))
    (f8 : Hid (aL ∣ cO))
    (bI : Int) (E52 : Hid (bI = cQ / aL)) (gn : bI.natAbs < lim)
    (N52 : Hid (aL ≠ 0))
    (f9 : Hid (aL ∣ cQ))
    (bJ : Int) (E57 : Hid (bJ = cR / aL)) (go : bJ.natAbs < lim)
    (N57 : Hid (aL ≠ 0))
    (fa : Hid (aL ∣ cR))
    (bd : Int) (E62 : Hid (bd = (gcdL [bI, bJ] : Nat))) (fb : bd.natAbs < lim)
    (b4 : Int) (E66 : Hid (b4 = bI / bd)) (eL : b4.natAbs < lim)
    (N66 : Hid (bd ≠ 0))
    (fc : Hid (bd ∣ bI))
    (b5 : Int) (E70 : Hid (b5 = bJ / bd)) (eM : b5.natAbs < lim)
    (N70 : Hid (bd ≠ 0))
    (fd : Hid (bd ∣ bJ))
    (c7 : Int) (E75 : Hid (c7 = bU * b4)) (gp : c7.natAbs < lim)
    (c8 : Int) (E79 : Hid (c8 = bV * b5)) (gq : c8.natAbs < lim)
    (cs : Int) (E80 : Hid (cs = c7 + c8)) (gr : cs.natAbs < lim)
    (c9 : Int) (E85 : Hid (c9 = bV * b4)) (gs : c9.natAbs < lim)
    (ca : Int) (E89 : Hid (ca = bU * b5)) (gu : ca.natAbs < lim)
    (ct : Int) (E90 : Hid (ct = c9 - ca)) (gw : ct.natAbs < lim)
    (cb : Int) (E95 : Hid (cb = b4 * b4)) (gx : cb.natAbs < lim)
    (cc : Int) (E99 : Hid (cc = b5 * b5)) (gy : cc.natAbs < lim)
    (aP : Int) (fe : Hid (aP = cb + cc)) (dL : aP.natAbs < lim)
    (ff : Hid (aP ≠ 0))
    (aw ax ay : Int) (fg : Hid ((aw, ax, ay) = nf cs ct aP)) (gz : aw.natAbs < lim) (gA : ax.natAbs < lim) (gB : ay.natAbs < lim)
    (aY : Int) (fh : Hid (aY = cS / b3)) (fi : aY.natAbs < lim)
    (fj : Hid (b3 ≠ 0))
    (dM : Hid (b3 ∣ cS))
    (aQ : Int) (fk : Hid (aQ = cP / b3)) (fl : aQ.natAbs < lim)
    (fm : Hid (b3 ≠ 0))
    (dN : Hid (b3 ∣ cP))
    (aR : Int) (fn : Hid (aR = bd * aQ)) (dO : aR.natAbs < lim)
    (fo : Hid (aR ≠ 0))
    (a1 af a2 : Int) (fp : Hid ((a1, af, a2) = nf aY 0 aR)) (gC : a1.natAbs < lim) (gD : af.natAbs < lim) (gE : a2.natAbs < lim)
    (ag ah ai : Int) (Lf138 : Hid (Low aw ax ay)) (Ls138 : Hid (Low a1 0 a2)) (Z137 : Hid (af = 0)) (bK : Nat) (HK138 : bK ≤ 12800) (dP : Hid (Sz bK aw ax ay)) (dQ : Hid (Sz bK a1 0 a2)) (Sz138 : Hid (Sz bK ag ah ai))
    (fq : Hid ((ag, ah, ai) = nf (aw * a1) (ax * a1) (ay * a2))) (gF : ag.natAbs < lim) (gG : ah.natAbs < lim) (gH : ai.natAbs < lim)  :
    Calls Tryz.prog 140 #[.pointer (some ⟨gc, 0, none⟩), v1, v2] w fun e w' => ∃ v, e = .returned v ∧ RG w' v ag ah ai ∧ Ext w w' := by
  have hS := St.start w
  obtain ⟨be, bf, bg, bh, bi, bj, bk, bl, bm, bn, bo, bp, rfl, dR, dS, dT⟩ := hX1
  replace hS := hS.addI dR
  clear dR
  replace hS := hS.addI dS
  clear dS
  replace hS := hS.addI dT
  clear dT
  obtain ⟨bq, br, bs, bt, bu, bv, bw, bx, bz, bA, bB, bC, rfl, dU, dV, dW⟩ := hX2
  replace hS := hS.addI dU
  clear dU
  replace hS := hS.addI dV
  clear dV
  replace hS := hS.addI dW
  clear dW
  replace hS := hS.addB hc trivial
  clear hc
  have o4 : Own w w.heap.size := Own.of hS.ext (by simp)
  have o5 : Own w (w.heap.size + 1) := Own.of hS.ext (by simp)
  have o6 : Own w (w.heap.size + 2) := Own.of hS.ext (by simp)
  go_enter Tryz.func140, Tryz.ntmps140
  go_wp2_with fail
  replace hS := (St.al (St.al (St.al hS 32 #[.bool be, .slice bf bg bh, .bool bi, .slice bj bk bl, .bool bm, .slice bn bo bp] (g := w.heap.size) (by simp)) 32 #[.bool bq, .slice br bs bt, .bool bu, .slice bv bw bx, .bool bz, .slice bA bB bC] (g := (w.heap.size + 1)) (by simp)) 32 #[.bool false, .slice none 0 0, .bool false, .slice none 0 0, .bool false, .slice none 0 0] (g := (w.heap.size + 2)) (by simp))
  generalize (((w.alloc (.cells #[.bool be, .slice bf bg bh, .bool bi, .slice bj bk bl, .bool bm, .slice bn bo bp] 32)).alloc (.cells #[.bool bq, .slice br bs bt, .bool bu, .slice bv bw bx, .bool bz, .slice bA bB bC] 32)).alloc (.cells #[.bool false, .slice none 0 0, .bool false, .slice none 0 0, .bool false, .slice none 0 0] 32)) = w1 at hS ⊢
  generalize w.heap.size + 2 = g6 at hS o6 ⊢
  generalize w.heap.size + 1 = g5 at hS o5 ⊢
  generalize w.heap.size = g4 at hS o4 ⊢
  have Y5 := ExtOf.blk (hS.blk 1 rfl)
  have Y4 := ExtOf.blk (hS.blk 2 rfl)
  have hE_ := hS.ext
  refine wp_region_tame 20 (hasF [(9, .any), (10, .any), (16, .any), (17, .any), (18, .any), (19, .any)]) (Fcs [(9, .sl 30 4 #[.bool be, .slice bf bg bh, .bool bi, .slice bj bk bl, .bool bq, .slice br bs bt, .bool bu, .slice bv bw bx]), (10, .ri (aL)), (16, .sl 30 2 #[.bool bm, .slice bn bo bp, .bool bz, .slice bA bB bC]), (17, .ri (b3)), (18, .box 30 #[.bool false, .slice none 0 0]), (19, .box 30 #[.bool false, .slice none 0 0])]) (Fcs_stab _) (by kernel_rfl) (by kernel_rfl) ?_
  simp only [tk1, tk0, dp1, dp0]
  refine wpT_quiet 9 (by rfl) (by kernel_rfl) ?_
  simp only [tk1, tk0, dp1, dp0]
  repeat (go_big_quiet_step (fail))
  refine wpQuiet_nil ?_
  refine wpT_eff (by rfl) (by rfl) (by rfl) ?_ ?_
  · intro W_ hK
    go_simp
    exact ⟨Ext.new _ _, rfl, by simp, Blk.new _ _ _⟩
  intro v_ dk dX hr_
  obtain ⟨W_, hW_⟩ := hr_
  obtain ⟨rfl, cd, -⟩ : Fc.holds (.sl 30 4 #[.bool be, .slice bf bg bh, .bool bi, .slice bj bk bl, .bool bq, .slice br bs bt, .bool bu, .slice bv bw bx]) dk dX v_ W_ := hW_.get
  clear hW_ W_
  try simp only [Act.put, sa0, sa1, sa2]
  refine wpT_eff (by rfl) (by rfl) (by rfl) ?_ ?_
  · intro W_ hK
    have hW := hK.1
    have dY : Blk W_ dk 30 #[.bool be, .slice bf bg bh, .bool bi, .slice bj bk bl, .bool bq, .slice br bs bt, .bool bu, .slice bv bw bx] := (hK.2 9 _ (by rfl) (by kernel_rfl)).2.2
    clear hK
    go_simp
    exact ⟨rfl, (egcd4_ok gc dk cN cO cQ cR aL _ (Blk.ext (hS.blk 3 rfl) hW) dY (RI.ext (hS.num 5 rfl) hW) (RI.ext (hS.num 4 rfl) hW) (RI.ext (hS.num 2 rfl) hW) (RI.ext (hS.num 1 rfl) hW) dF dG dI dJ E30).mono fun e w' ⟨v, he, hR, hx⟩ => ⟨v, he, hx, hR⟩⟩
  intro v_ dZ e0 hr_
  obtain ⟨W_, hW_⟩ := hr_
  have hv_ : Fc.holds (.ri (aL)) dZ e0 v_ W_ := hW_.get
  clear hW_
  obtain ⟨bW, aM, bX, bY, rfl, -⟩ := RI.opn hv_
  clear hv_
  clear W_
  try simp only [Act.put, sa0, sa1, sa2]
  refine wpT_quiet 5 (by rfl) (by kernel_rfl) ?_
  simp only [tk1, tk0, dp1, dp0]
  repeat (go_big_quiet_step (fail))
  refine wpQuiet_nil ?_
  refine wpT_eff (by rfl) (by rfl) (by rfl) ?_ ?_
  · intro W_ hK
    go_simp
    exact ⟨Ext.new _ _, rfl, by simp, Blk.new _ _ _⟩
  intro v_ dl e1 hr_
  obtain ⟨W_, hW_⟩ := hr_
  obtain ⟨rfl, ce, -⟩ : Fc.holds (.sl 30 2 #[.bool bm, .slice bn bo bp, .bool bz, .slice bA bB bC]) dl e1 v_ W_ := hW_.get
  clear hW_ W_
  try simp only [Act.put, sa0, sa1, sa2]
  refine wpT_eff (by rfl) (by rfl) (by rfl) ?_ ?_
  · intro W_ hK
    have hW := hK.1
    have e2 : Blk W_ dl 30 #[.bool bm, .slice bn bo bp, .bool bz, .slice bA bB bC] := (hK.2 16 _ (by rfl) (by kernel_rfl)).2.2
    clear hK
    go_simp
    exact ⟨rfl, (egcd2_ok gc dl cP cS b3 _ (Blk.ext (hS.blk 3 rfl) hW) e2 (RI.ext (hS.num 3 rfl) hW) (RI.ext (hS.num 0 rfl) hW) dH dK E37).mono fun e w' ⟨v, he, hR, hx⟩ => ⟨v, he, hx, hR⟩⟩
  intro v_ e3 e4 hr_
  obtain ⟨W_, hW_⟩ := hr_
  have hv_ : Fc.holds (.ri (b3)) e3 e4 v_ W_ := hW_.get
  clear hW_
  obtain ⟨dm, bD, dn, dp, rfl, -⟩ := RI.opn hv_
  clear hv_
  clear W_
  try simp only [Act.put, sa0, sa1, sa2]
  refine wpT_eff (by rfl) (by rfl) (by rfl) ?_ ?_
  · intro W_ hK
    go_simp
    exact ⟨Ext.new _ _, rfl, by simp, Blk.new _ _ _⟩
  intro v_ g7 gI hr_
  obtain ⟨W_, hW_⟩ := hr_
  obtain ⟨rfl, eN, -⟩ : Fc.holds (.box 30 #[.bool false, .slice none 0 0]) g7 gI v_ W_ := hW_.get
  clear hW_ W_
  try simp only [Act.put, sa0, sa1, sa2]
  refine wpT_eff (by rfl) (by rfl) (by rfl) ?_ ?_
  · intro W_ hK
    go_simp
    exact ⟨Ext.new _ _, rfl, by simp, Blk.new _ _ _⟩
  intro v_ g8 gJ hr_
  obtain ⟨W_, hW_⟩ := hr_
  obtain ⟨rfl, eO, -⟩ : Fc.holds (.box 30 #[.bool false, .slice none 0 0]) g8 gJ v_ W_ := hW_.get
  clear hW_ W_
  try simp only [Act.put, sa0, sa1, sa2]
  refine wpT_nil ?_
  intro w2 hK
  have hlt_ := hS.lt
  replace hS := hS.mv hK.ext
  replace hS := hS.addI (show RI w2 (iv bW aM bX bY) aL from hK.at_ 10 (e := ((iv bW aM bX bY), dZ, e0)) (by rfl))
  replace hS := hS.addI (show RI w2 (iv dm bD dn dp) b3 from hK.at_ 17 (e := ((iv dm bD dn dp), e3, e4)) (by rfl))
  have cT : w1.heap.size ≤ dk := hK.low 9 _ (by rfl)
  have o29 : Own w dk := Own.of hE_ cT
  replace hS := hS.addB (show Blk w2 dk 30 #[.bool be, .slice bf bg bh, .bool bi, .slice bj bk bl, .bool bq, .slice br bs bt, .bool bu, .slice bv bw bx] from (hK.at_ 9 (by rfl)).2.2) (apart_of fun p hp => Nat.ne_of_lt (Nat.lt_of_lt_of_le (hlt_ p hp) cT))
  have cU : w1.heap.size ≤ dl := hK.low 16 _ (by rfl)
  have o36 : Own w dl := Own.of hE_ cU
  replace hS := hS.addB (show Blk w2 dl 30 #[.bool bm, .slice bn bo bp, .bool bz, .slice bA bB bC] from (hK.at_ 16 (by rfl)).2.2) ⟨tame_ne cd ce (hK.disj 9 16 _ _ (by omega) (by rfl) (by rfl)), (apart_of fun p hp => Nat.ne_of_lt (Nat.lt_of_lt_of_le (hlt_ p hp) cU))⟩
  have fr : w1.heap.size ≤ g7 := hK.low 18 _ (by rfl)
  have o7 : Own w g7 := Own.of hE_ fr
  replace hS := hS.addB (show Blk w2 g7 30 #[.bool false, .slice none 0 0] from (hK.at_ 18 (by rfl)).2.2) ⟨tame_ne ce eN (hK.disj 16 18 _ _ (by omega) (by rfl) (by rfl)), ⟨tame_ne cd eN (hK.disj 9 18 _ _ (by omega) (by rfl) (by rfl)), (apart_of fun p hp => Nat.ne_of_lt (Nat.lt_of_lt_of_le (hlt_ p hp) fr))⟩⟩
  have fs : w1.heap.size ≤ g8 := hK.low 19 _ (by rfl)
  have o8 : Own w g8 := Own.of hE_ fs
  replace hS := hS.addB (show Blk w2 g8 30 #[.bool false, .slice none 0 0] from (hK.at_ 19 (by rfl)).2.2) ⟨tame_ne eN eO (hK.disj 18 19 _ _ (by omega) (by rfl) (by rfl)), ⟨tame_ne ce eO (hK.disj 16 19 _ _ (by omega) (by rfl) (by rfl)), ⟨tame_ne cd eO (hK.disj 9 19 _ _ (by omega) (by rfl) (by rfl)), (apart_of fun p hp => Nat.ne_of_lt (Nat.lt_of_lt_of_le (hlt_ p hp) fs))⟩⟩⟩
  clear hK hlt_ hE_ Y5 Y4
  clear cT cd dX
  clear cU ce e1
  clear fr eN gI
  clear fs eO gJ
  have k_1 := (hS.blk 1 rfl).cell
  have k_2 := (hS.blk 1 rfl).frozen
  have ft := (St.put (W' := ((w2.setCell ⟨g7, 0, none⟩ (.bool bW)).setCell ⟨g7, 1, none⟩ (.slice aM bX bY))) hS 1 0 [.bool bW, .slice aM bX bY] (cs' := #[.bool bW, .slice aM bX bY]) (bs' := _) rfl o7 rfl rfl rfl rfl)
  have k_3 := (ft.blk 0 rfl).cell
  have k_4 := (ft.blk 0 rfl).frozen
  go_wp2_with fail
  clear k_1 k_2 k_3 k_4
  clear ft
  replace hS := (St.put (W' := ((((w2.setCell ⟨g7, 0, none⟩ (.bool bW)).setCell ⟨g7, 1, none⟩ (.slice aM bX bY)).setCell ⟨g8, 0, none⟩ (.bool dm)).setCell ⟨g8, 1, none⟩ (.slice bD dn dp))) (St.put (W' := ((w2.setCell ⟨g7, 0, none⟩ (.bool bW)).setCell ⟨g7, 1, none⟩ (.slice aM bX bY))) hS 1 0 [.bool bW, .slice aM bX bY] (cs' := #[.bool bW, .slice aM bX bY]) (bs' := _) rfl o7 rfl rfl rfl rfl) 0 0 [.bool dm, .slice bD dn dp] (cs' := #[.bool dm, .slice bD dn dp]) (bs' := _) rfl o8 rfl rfl rfl rfl)
  simp only [List.set_cons_zero, List.set_cons_succ] at hS
  generalize ((((w2.setCell ⟨g7, 0, none⟩ (.bool bW)).setCell ⟨g7, 1, none⟩ (.slice aM bX bY)).setCell ⟨g8, 0, none⟩ (.bool dm)).setCell ⟨g8, 1, none⟩ (.slice bD dn dp)) = w3 at hS ⊢
  have Y7 := ExtOf.blk (hS.blk 1 rfl)
  have Y4 := ExtOf.blk (hS.blk 6 rfl)
  have hE_ := hS.ext
  refine wp_region_tame 12 (hasF [(4, .any), (9, .any), (10, .any), (11, .any)]) (Fcs [(4, .ri (bU)), (9, .ri (bV)), (10, .box 30 #[.bool false, .slice none 0 0]), (11, .box 30 #[.bool false, .slice none 0 0])]) (Fcs_stab _) (by kernel_rfl) (by kernel_rfl) ?_
  simp only [tk1, tk0, dp1, dp0]
  refine wpT_quiet 4 (by rfl) (by kernel_rfl) ?_
  simp only [tk1, tk0, dp1, dp0]
  repeat (go_big_quiet_step (fail))
  refine wpQuiet_nil ?_
  refine wpT_eff (by rfl) (by rfl) (by rfl) ?_ ?_
  · intro W_ hK
    have hW := hK.1
    clear hK
    go_simp
    exact ⟨rfl, (ediv_ok gc _ _ cN aL bU _ (Blk.ext (hS.blk 7 rfl) hW) (RI.ext (hS.num 7 rfl) hW) (RI.ext (hS.num 1 rfl) hW) dF eK N42.out f7.out E42.out).mono fun e w' ⟨v, he, hR, hx⟩ => ⟨v, he, hx, hR⟩⟩
  intro v_ e5 e6 hr_
  obtain ⟨W_, hW_⟩ := hr_
  have hv_ : Fc.holds (.ri (bU)) e5 e6 v_ W_ := hW_.get
  clear hW_
  obtain ⟨bZ, aN, c0, c1, rfl, -⟩ := RI.opn hv_
  clear hv_
  clear W_
  try simp only [Act.put, sa0, sa1, sa2]
  refine wpT_quiet 4 (by rfl) (by kernel_rfl) ?_
  simp only [tk1, tk0, dp1, dp0]
  repeat (go_big_quiet_step (fail))
  refine wpQuiet_nil ?_
  refine wpT_eff (by rfl) (by rfl) (by rfl) ?_ ?_
  · intro W_ hK
    have hW := hK.1
    clear hK
    go_simp
    exact ⟨rfl, (ediv_ok gc _ _ cO aL bV _ (Blk.ext (hS.blk 7 rfl) hW) (RI.ext (hS.num 6 rfl) hW) (RI.ext (hS.num 1 rfl) hW) dG eK N47.out f8.out E47.out).mono fun e w' ⟨v, he, hR, hx⟩ => ⟨v, he, hx, hR⟩⟩
  intro v_ e7 e8 hr_
  obtain ⟨W_, hW_⟩ := hr_
  have hv_ : Fc.holds (.ri (bV)) e7 e8 v_ W_ := hW_.get
  clear hW_
  obtain ⟨dq, bE, dr, ds, rfl, -⟩ := RI.opn hv_
  clear hv_
  clear W_
  try simp only [Act.put, sa0, sa1, sa2]
  refine wpT_eff (by rfl) (by rfl) (by rfl) ?_ ?_
  · intro W_ hK
    go_simp
    exact ⟨Ext.new _ _, rfl, by simp, Blk.new _ _ _⟩
  intro v_ g9 gK hr_
  obtain ⟨W_, hW_⟩ := hr_
  obtain ⟨rfl, gL, -⟩ : Fc.holds (.box 30 #[.bool false, .slice none 0 0]) g9 gK v_ W_ := hW_.get
  clear hW_ W_
  try simp only [Act.put, sa0, sa1, sa2]
  refine wpT_eff (by rfl) (by rfl) (by rfl) ?_ ?_
  · intro W_ hK
    go_simp
    exact ⟨Ext.new _ _, rfl, by simp, Blk.new _ _ _⟩
  intro v_ cu e9 hr_
  obtain ⟨W_, hW_⟩ := hr_
  obtain ⟨rfl, ea, -⟩ : Fc.holds (.box 30 #[.bool false, .slice none 0 0]) cu e9 v_ W_ := hW_.get
  clear hW_ W_
  try simp only [Act.put, sa0, sa1, sa2]
  refine wpT_nil ?_
  intro w4 hK
  have hlt_ := hS.lt
  replace hS := hS.mv hK.ext
  replace hS := hS.addI (show RI w4 (iv bZ aN c0 c1) bU from hK.at_ 4 (e := ((iv bZ aN c0 c1), e5, e6)) (by rfl))
  replace hS := hS.addI (show RI w4 (iv dq bE dr ds) bV from hK.at_ 9 (e := ((iv dq bE dr ds), e7, e8)) (by rfl))
  have fu : w3.heap.size ≤ g9 := hK.low 10 _ (by rfl)
  have o9 : Own w g9 := Own.of hE_ fu
  replace hS := hS.addB (show Blk w4 g9 30 #[.bool false, .slice none 0 0] from (hK.at_ 10 (by rfl)).2.2) (apart_of fun p hp => Nat.ne_of_lt (Nat.lt_of_lt_of_le (hlt_ p hp) fu))
  have cV : w3.heap.size ≤ cu := hK.low 11 _ (by rfl)
  have o10 : Own w cu := Own.of hE_ cV
  replace hS := hS.addB (show Blk w4 cu 30 #[.bool false, .slice none 0 0] from (hK.at_ 11 (by rfl)).2.2) ⟨tame_ne gL ea (hK.disj 10 11 _ _ (by omega) (by rfl) (by rfl)), (apart_of fun p hp => Nat.ne_of_lt (Nat.lt_of_lt_of_le (hlt_ p hp) cV))⟩
  clear hK hlt_ hE_ Y7 Y4
  clear fu gL gK
  clear cV ea e9
  have k_5 := (hS.blk 1 rfl).cell
  have k_6 := (hS.blk 1 rfl).frozen
  have fv := (St.put (W' := ((w4.setCell ⟨g9, 0, none⟩ (.bool bZ)).setCell ⟨g9, 1, none⟩ (.slice aN c0 c1))) hS 1 0 [.bool bZ, .slice aN c0 c1] (cs' := #[.bool bZ, .slice aN c0 c1]) (bs' := _) rfl o9 rfl rfl rfl rfl)
  have k_7 := (fv.blk 0 rfl).cell
  have k_8 := (fv.blk 0 rfl).frozen
  go_wp2_with fail
  clear k_5 k_6 k_7 k_8
  clear fv
  replace hS := (St.put (W' := ((((w4.setCell ⟨g9, 0, none⟩ (.bool bZ)).setCell ⟨g9, 1, none⟩ (.slice aN c0 c1)).setCell ⟨cu, 0, none⟩ (.bool dq)).setCell ⟨cu, 1, none⟩ (.slice bE dr ds))) (St.put (W' := ((w4.setCell ⟨g9, 0, none⟩ (.bool bZ)).setCell ⟨g9, 1, none⟩ (.slice aN c0 c1))) hS 1 0 [.bool bZ, .slice aN c0 c1] (cs' := #[.bool bZ, .slice aN c0 c1]) (bs' := _) rfl o9 rfl rfl rfl rfl) 0 0 [.bool dq, .slice bE dr ds] (cs' := #[.bool dq, .slice bE dr ds]) (bs' := _) rfl o10 rfl rfl rfl rfl)
  simp only [List.set_cons_zero, List.set_cons_succ] at hS
  generalize ((((w4.setCell ⟨g9, 0, none⟩ (.bool bZ)).setCell ⟨g9, 1, none⟩ (.slice aN c0 c1)).setCell ⟨cu, 0, none⟩ (.bool dq)).setCell ⟨cu, 1, none⟩ (.slice bE dr ds)) = w5 at hS ⊢
  have Y7 := ExtOf.blk (hS.blk 3 rfl)
  have Y5 := ExtOf.blk (hS.blk 7 rfl)
  have hE_ := hS.ext
  refine wp_region_tame 12 (hasF [(4, .any), (9, .any), (10, .any), (11, .any)]) (Fcs [(4, .ri (bI)), (9, .ri (bJ)), (10, .box 30 #[.bool false, .slice none 0 0]), (11, .box 30 #[.bool false, .slice none 0 0])]) (Fcs_stab _) (by kernel_rfl) (by kernel_rfl) ?_
  simp only [tk1, tk0, dp1, dp0]
  refine wpT_quiet 4 (by rfl) (by kernel_rfl) ?_
  simp only [tk1, tk0, dp1, dp0]
  repeat (go_big_quiet_step (fail))
  refine wpQuiet_nil ?_
  refine wpT_eff (by rfl) (by rfl) (by rfl) ?_ ?_
  · intro W_ hK
    have hW := hK.1
    clear hK
    go_simp
    exact ⟨rfl, (ediv_ok gc _ _ cQ aL bI _ (Blk.ext (hS.blk 9 rfl) hW) (RI.ext (hS.num 6 rfl) hW) (RI.ext (hS.num 3 rfl) hW) dI eK N52.out f9.out E52.out).mono fun e w' ⟨v, he, hR, hx⟩ => ⟨v, he, hx, hR⟩⟩
  intro v_ eb ec hr_
  obtain ⟨W_, hW_⟩ := hr_
  have hv_ : Fc.holds (.ri (bI)) eb ec v_ W_ := hW_.get
  clear hW_
  obtain ⟨aZ, a6, b0, b1, rfl, -⟩ := RI.opn hv_
  clear hv_
  clear W_
  try simp only [Act.put, sa0, sa1, sa2]
  refine wpT_quiet 4 (by rfl) (by kernel_rfl) ?_
  simp only [tk1, tk0, dp1, dp0]
  repeat (go_big_quiet_step (fail))
  refine wpQuiet_nil ?_
  refine wpT_eff (by rfl) (by rfl) (by rfl) ?_ ?_
  · intro W_ hK
    have hW := hK.1
    clear hK
    go_simp
    exact ⟨rfl, (ediv_ok gc _ _ cR aL bJ _ (Blk.ext (hS.blk 9 rfl) hW) (RI.ext (hS.num 5 rfl) hW) (RI.ext (hS.num 3 rfl) hW) dJ eK N57.out fa.out E57.out).mono fun e w' ⟨v, he, hR, hx⟩ => ⟨v, he, hx, hR⟩⟩
  intro v_ ed ee hr_
  obtain ⟨W_, hW_⟩ := hr_
  have hv_ : Fc.holds (.ri (bJ)) ed ee v_ W_ := hW_.get
  clear hW_
  obtain ⟨bL, az, bM, bN, rfl, -⟩ := RI.opn hv_
  clear hv_
  clear W_
  try simp only [Act.put, sa0, sa1, sa2]
  refine wpT_eff (by rfl) (by rfl) (by rfl) ?_ ?_
  · intro W_ hK
    go_simp
    exact ⟨Ext.new _ _, rfl, by simp, Blk.new _ _ _⟩
  intro v_ av ef hr_
  obtain ⟨W_, hW_⟩ := hr_
  obtain ⟨rfl, eg, -⟩ : Fc.holds (.box 30 #[.bool false, .slice none 0 0]) av ef v_ W_ := hW_.get
  clear hW_ W_
  try simp only [Act.put, sa0, sa1, sa2]
  refine wpT_eff (by rfl) (by rfl) (by rfl) ?_ ?_
  · intro W_ hK
    go_simp
    exact ⟨Ext.new _ _, rfl, by simp, Blk.new _ _ _⟩
  intro v_ b6 eh hr_
  obtain ⟨W_, hW_⟩ := hr_
  obtain ⟨rfl, ei, -⟩ : Fc.holds (.box 30 #[.bool false, .slice none 0 0]) b6 eh v_ W_ := hW_.get
  clear hW_ W_
  try simp only [Act.put, sa0, sa1, sa2]
  refine wpT_nil ?_
  intro w6 hK
  have hlt_ := hS.lt
  replace hS := hS.mv hK.ext
  replace hS := hS.addI (show RI w6 (iv aZ a6 b0 b1) bI from hK.at_ 4 (e := ((iv aZ a6 b0 b1), eb, ec)) (by rfl))
  replace hS := hS.addI (show RI w6 (iv bL az bM bN) bJ from hK.at_ 9 (e := ((iv bL az bM bN), ed, ee)) (by rfl))
  have cW : w5.heap.size ≤ av := hK.low 10 _ (by rfl)
  have ej : Own w av := Own.of hE_ cW
  replace hS := hS.addB (show Blk w6 av 30 #[.bool false, .slice none 0 0] from (hK.at_ 10 (by rfl)).2.2) (apart_of fun p hp => Nat.ne_of_lt (Nat.lt_of_lt_of_le (hlt_ p hp) cW))
  have cX : w5.heap.size ≤ b6 := hK.low 11 _ (by rfl)
  have fw : Own w b6 := Own.of hE_ cX
  replace hS := hS.addB (show Blk w6 b6 30 #[.bool false, .slice none 0 0] from (hK.at_ 11 (by rfl)).2.2) ⟨tame_ne eg ei (hK.disj 10 11 _ _ (by omega) (by rfl) (by rfl)), (apart_of fun p hp => Nat.ne_of_lt (Nat.lt_of_lt_of_le (hlt_ p hp) cX))⟩
  clear hK hlt_ hE_ Y7 Y5
  clear cW eg ef
  clear cX ei eh
  have k_9 := (hS.blk 1 rfl).cell
  have fx := (hS.blk 1 rfl).frozen
  have fy := (St.put (W' := ((w6.setCell ⟨av, 0, none⟩ (.bool aZ)).setCell ⟨av, 1, none⟩ (.slice a6 b0 b1))) hS 1 0 [.bool aZ, .slice a6 b0 b1] (cs' := #[.bool aZ, .slice a6 b0 b1]) (bs' := _) rfl ej rfl rfl rfl rfl)
  have fz := (fy.blk 0 rfl).cell
  have fA := (fy.blk 0 rfl).frozen
  have fB := (St.put (W' := ((((w6.setCell ⟨av, 0, none⟩ (.bool aZ)).setCell ⟨av, 1, none⟩ (.slice a6 b0 b1)).setCell ⟨b6, 0, none⟩ (.bool bL)).setCell ⟨b6, 1, none⟩ (.slice az bM bN))) (St.put (W' := ((w6.setCell ⟨av, 0, none⟩ (.bool aZ)).setCell ⟨av, 1, none⟩ (.slice a6 b0 b1))) hS 1 0 [.bool aZ, .slice a6 b0 b1] (cs' := #[.bool aZ, .slice a6 b0 b1]) (bs' := _) rfl ej rfl rfl rfl rfl) 0 0 [.bool bL, .slice az bM bN] (cs' := #[.bool bL, .slice az bM bN]) (bs' := _) rfl fw rfl rfl rfl rfl)
  have fC := (fB.blk 1 rfl).cell
  have fD := (fB.blk 0 rfl).cell
  have o61 : Own w w6.heap.size := Own.of hS.ext (by simp)
  go_wp2_with fail
  clear k_9 fx fz fA fC fD
  clear fy fB
  replace hS := (St.al (St.put (W' := ((((w6.setCell ⟨av, 0, none⟩ (.bool aZ)).setCell ⟨av, 1, none⟩ (.slice a6 b0 b1)).setCell ⟨b6, 0, none⟩ (.bool bL)).setCell ⟨b6, 1, none⟩ (.slice az bM bN))) (St.put (W' := ((w6.setCell ⟨av, 0, none⟩ (.bool aZ)).setCell ⟨av, 1, none⟩ (.slice a6 b0 b1))) hS 1 0 [.bool aZ, .slice a6 b0 b1] (cs' := #[.bool aZ, .slice a6 b0 b1]) (bs' := _) rfl ej rfl rfl rfl rfl) 0 0 [.bool bL, .slice az bM bN] (cs' := #[.bool bL, .slice az bM bN]) (bs' := _) rfl fw rfl rfl rfl rfl) 30 #[.bool aZ, .slice a6 b0 b1, .bool bL, .slice az bM bN] (g := w6.heap.size) (by simp))
  simp only [List.set_cons_zero, List.set_cons_succ] at hS
  generalize (((((w6.setCell ⟨av, 0, none⟩ (.bool aZ)).setCell ⟨av, 1, none⟩ (.slice a6 b0 b1)).setCell ⟨b6, 0, none⟩ (.bool bL)).setCell ⟨b6, 1, none⟩ (.slice az bM bN)).alloc (.cells #[.bool aZ, .slice a6 b0 b1, .bool bL, .slice az bM bN] 30)) = w7 at hS ⊢
  generalize w6.heap.size = g61 at hS o61 ⊢
  refine (egcd2_ok gc g61 bI bJ bd _ (hS.blk 12 rfl) (hS.blk 0 rfl) (hS.num 1 rfl) (hS.num 0 rfl) gn go E62).mono ?_
  rintro e w8 ⟨v_, rfl, hv_, hx_⟩
  replace hS := hS.mv hx_
  clear hx_
  obtain ⟨gM, ek, gN, gO, rfl, cv⟩ := RI.opn hv_
  clear hv_
  replace hS := hS.addI cv
  clear cv
  have o13 : Own w w8.heap.size := Own.of hS.ext (by simp)
  have fE := (St.al hS 30 #[.bool false, .slice none 0 0] (g := w8.heap.size) (by simp))
  have fF := (fE.blk 0 rfl).cell
  have fG := (fE.blk 0 rfl).frozen
  go_wp2_with fail
  clear fF fG
  clear fE
  replace hS := (St.al hS 30 #[.bool gM, .slice ek gN gO] (g := w8.heap.size) (by simp))
  generalize (w8.alloc (.cells #[.bool gM, .slice ek gN gO] 30)) = w9 at hS ⊢
  generalize w8.heap.size = g13 at hS o13 ⊢
  have fH := ExtOf.blk (hS.blk 0 rfl)
  have cY := ExtOf.blk (hS.blk 2 rfl)
  have cZ := ExtOf.blk (hS.blk 3 rfl)
  have hE_ := hS.ext
  refine wp_region_tame 8 (hasF [(3, .any), (7, .any)]) (Fcs [(3, .ri (b4)), (7, .ri (b5))]) (Fcs_stab _) (by kernel_rfl) (by kernel_rfl) ?_
  simp only [tk1, tk0, dp1, dp0]
  refine wpT_quiet 3 (by rfl) (by kernel_rfl) ?_
  simp only [tk1, tk0, dp1, dp0]
  repeat (go_big_quiet_step (fail))
  refine wpQuiet_nil ?_
  refine wpT_eff (by rfl) (by rfl) (by rfl) ?_ ?_
  · intro W_ hK
    have hW := hK.1
    clear hK
    go_simp
    exact ⟨rfl, (ediv_ok gc _ _ bI bd b4 _ (Blk.ext (hS.blk 13 rfl) hW) (RI.ext (hS.num 2 rfl) hW) (RI.ext (hS.num 0 rfl) hW) gn fb N66.out fc.out E66.out).mono fun e w' ⟨v, he, hR, hx⟩ => ⟨v, he, hx, hR⟩⟩
  intro v_ el em hr_
  obtain ⟨W_, hW_⟩ := hr_
  have hv_ : Fc.holds (.ri (b4)) el em v_ W_ := hW_.get
  clear hW_
  obtain ⟨c2, aO, c3, c4, rfl, -⟩ := RI.opn hv_
  clear hv_
  clear W_
  try simp only [Act.put, sa0, sa1, sa2]
  refine wpT_quiet 3 (by rfl) (by kernel_rfl) ?_
  simp only [tk1, tk0, dp1, dp0]
  repeat (go_big_quiet_step (fail))
  refine wpQuiet_nil ?_
  refine wpT_eff (by rfl) (by rfl) (by rfl) ?_ ?_
  · intro W_ hK
    have hW := hK.1
    clear hK
    go_simp
    exact ⟨rfl, (ediv_ok gc _ _ bJ bd b5 _ (Blk.ext (hS.blk 13 rfl) hW) (RI.ext (hS.num 1 rfl) hW) (RI.ext (hS.num 0 rfl) hW) go fb N70.out fd.out E70.out).mono fun e w' ⟨v, he, hR, hx⟩ => ⟨v, he, hx, hR⟩⟩
  intro v_ en eo hr_
  obtain ⟨W_, hW_⟩ := hr_
  have hv_ : Fc.holds (.ri (b5)) en eo v_ W_ := hW_.get
  clear hW_
  obtain ⟨dt, bF, du, dv, rfl, -⟩ := RI.opn hv_
  clear hv_
  clear W_
  try simp only [Act.put, sa0, sa1, sa2]
  refine wpT_nil ?_
  intro dw hK
  have hlt_ := hS.lt
  replace hS := hS.mv hK.ext
  replace hS := hS.addI (show RI dw (iv c2 aO c3 c4) b4 from hK.at_ 3 (e := ((iv c2 aO c3 c4), el, em)) (by rfl))
  replace hS := hS.addI (show RI dw (iv dt bF du dv) b5 from hK.at_ 7 (e := ((iv dt bF du dv), en, eo)) (by rfl))
  clear hK hlt_ hE_ fH cY cZ
  have fI := (hS.blk 3 rfl).cell
  have fJ := (hS.blk 3 rfl).frozen
  have fK := (St.put (W' := ((dw.setCell ⟨av, 0, none⟩ (.bool c2)).setCell ⟨av, 1, none⟩ (.slice aO c3 c4))) hS 3 0 [.bool c2, .slice aO c3 c4] (cs' := #[.bool c2, .slice aO c3 c4]) (bs' := _) rfl ej rfl rfl rfl rfl)
  have fL := (fK.blk 2 rfl).cell
  have fM := (fK.blk 2 rfl).frozen
  go_wp2_with fail
  clear fI fJ fL fM
  clear fK
  replace hS := (St.put (W' := ((((dw.setCell ⟨av, 0, none⟩ (.bool c2)).setCell ⟨av, 1, none⟩ (.slice aO c3 c4)).setCell ⟨b6, 0, none⟩ (.bool dt)).setCell ⟨b6, 1, none⟩ (.slice bF du dv))) (St.put (W' := ((dw.setCell ⟨av, 0, none⟩ (.bool c2)).setCell ⟨av, 1, none⟩ (.slice aO c3 c4))) hS 3 0 [.bool c2, .slice aO c3 c4] (cs' := #[.bool c2, .slice aO c3 c4]) (bs' := _) rfl ej rfl rfl rfl rfl) 2 0 [.bool dt, .slice bF du dv] (cs' := #[.bool dt, .slice bF du dv]) (bs' := _) rfl fw rfl rfl rfl rfl)
  simp only [List.set_cons_zero, List.set_cons_succ] at hS
  generalize ((((dw.setCell ⟨av, 0, none⟩ (.bool c2)).setCell ⟨av, 1, none⟩ (.slice aO c3 c4)).setCell ⟨b6, 0, none⟩ (.bool dt)).setCell ⟨b6, 1, none⟩ (.slice bF du dv)) = w11 at hS ⊢
  have cY := ExtOf.blk (hS.blk 2 rfl)
  have cZ := ExtOf.blk (hS.blk 3 rfl)
  have fN := ExtOf.blk (hS.blk 4 rfl)
  have Y9 := ExtOf.blk (hS.blk 5 rfl)
  have hE_ := hS.ext
  refine wp_region_tame 11 (hasF [(4, .any), (8, .any), (9, .any), (10, .any)]) (Fcs [(4, .ri (c7)), (8, .ri (c8)), (9, .ri (cs)), (10, .box 30 #[.bool false, .slice none 0 0])]) (Fcs_stab _) (by kernel_rfl) (by kernel_rfl) ?_
  simp only [tk1, tk0, dp1, dp0]
  refine wpT_quiet 4 (by rfl) (by kernel_rfl) ?_
  simp only [tk1, tk0, dp1, dp0]
  repeat (go_big_quiet_step (fail))
  refine wpQuiet_nil ?_
  refine wpT_eff (by rfl) (by rfl) (by rfl) ?_ ?_
  · intro W_ hK
    have hW := hK.1
    clear hK
    go_simp
    exact ⟨rfl, (emul_ok gc _ _ bU b4 c7 _ (Blk.ext (hS.blk 13 rfl) hW) (RI.ext (hS.num 6 rfl) hW) (RI.ext (hS.num 1 rfl) hW) gl eL E75.out gp).mono fun e w' ⟨v, he, hR, hx⟩ => ⟨v, he, hx, hR⟩⟩
  intro v_ d0 d1 hr_
  obtain ⟨W_, hW_⟩ := hr_
  have hv_ : Fc.holds (.ri (c7)) d0 d1 v_ W_ := hW_.get
  clear hW_
  obtain ⟨eP, cf, eQ, eR, rfl, -⟩ := RI.opn hv_
  clear hv_
  clear W_
  try simp only [Act.put, sa0, sa1, sa2]
  refine wpT_quiet 3 (by rfl) (by kernel_rfl) ?_
  simp only [tk1, tk0, dp1, dp0]
  repeat (go_big_quiet_step (fail))
  refine wpQuiet_nil ?_
  refine wpT_eff (by rfl) (by rfl) (by rfl) ?_ ?_
  · intro W_ hK
    have hW := hK.1
    clear hK
    go_simp
    exact ⟨rfl, (emul_ok gc _ _ bV b5 c8 _ (Blk.ext (hS.blk 13 rfl) hW) (RI.ext (hS.num 5 rfl) hW) (RI.ext (hS.num 0 rfl) hW) gm eM E79.out gq).mono fun e w' ⟨v, he, hR, hx⟩ => ⟨v, he, hx, hR⟩⟩
  intro v_ d2 d3 hr_
  obtain ⟨W_, hW_⟩ := hr_
  have hv_ : Fc.holds (.ri (c8)) d2 d3 v_ W_ := hW_.get
  clear hW_
  obtain ⟨eS, cg, eT, eU, rfl, -⟩ := RI.opn hv_
  clear hv_
  clear W_
  try simp only [Act.put, sa0, sa1, sa2]
  refine wpT_eff (by rfl) (by rfl) (by rfl) ?_ ?_
  · intro W_ hK
    have hW := hK.1
    have ep : RI W_ (iv eP cf eQ eR) c7 := hK.2 4 ((iv eP cf eQ eR), d0, d1) (by rfl) (by kernel_rfl)
    have er : RI W_ (iv eS cg eT eU) c8 := hK.2 8 ((iv eS cg eT eU), d2, d3) (by rfl) (by kernel_rfl)
    clear hK
    go_simp
    exact ⟨rfl, (eadd_ok gc _ _ c7 c8 cs _ (Blk.ext (hS.blk 13 rfl) hW) ep er gp gq E80.out gr).mono fun e w' ⟨v, he, hR, hx⟩ => ⟨v, he, hx, hR⟩⟩
  intro v_ es et hr_
  obtain ⟨W_, hW_⟩ := hr_
  have hv_ : Fc.holds (.ri (cs)) es et v_ W_ := hW_.get
  clear hW_
  obtain ⟨dx, bG, dy, dz, rfl, -⟩ := RI.opn hv_
  clear hv_
  clear W_
  try simp only [Act.put, sa0, sa1, sa2]
  refine wpT_eff (by rfl) (by rfl) (by rfl) ?_ ?_
  · intro W_ hK
    go_simp
    exact ⟨Ext.new _ _, rfl, by simp, Blk.new _ _ _⟩
  intro v_ cw eu hr_
  obtain ⟨W_, hW_⟩ := hr_
  obtain ⟨rfl, fO, -⟩ : Fc.holds (.box 30 #[.bool false, .slice none 0 0]) cw eu v_ W_ := hW_.get
  clear hW_ W_
  try simp only [Act.put, sa0, sa1, sa2]
  refine wpT_nil ?_
  intro dA hK
  have hlt_ := hS.lt
  replace hS := hS.mv hK.ext
  replace hS := hS.addI (show RI dA (iv eP cf eQ eR) c7 from hK.at_ 4 (e := ((iv eP cf eQ eR), d0, d1)) (by rfl))
  replace hS := hS.addI (show RI dA (iv eS cg eT eU) c8 from hK.at_ 8 (e := ((iv eS cg eT eU), d2, d3)) (by rfl))
  replace hS := hS.addI (show RI dA (iv dx bG dy dz) cs from hK.at_ 9 (e := ((iv dx bG dy dz), es, et)) (by rfl))
  have d4 : w11.heap.size ≤ cw := hK.low 10 _ (by rfl)
  have o14 : Own w cw := Own.of hE_ d4
  replace hS := hS.addB (show Blk dA cw 30 #[.bool false, .slice none 0 0] from (hK.at_ 10 (by rfl)).2.2) (apart_of fun p hp => Nat.ne_of_lt (Nat.lt_of_lt_of_le (hlt_ p hp) d4))
  clear hK hlt_ hE_ cY cZ fN Y9
  clear d4 fO eu
  have fP := (hS.blk 0 rfl).cell
  have fQ := (hS.blk 0 rfl).frozen
  go_wp2_with fail
  clear fP fQ
  replace hS := (St.put (W' := ((dA.setCell ⟨cw, 0, none⟩ (.bool dx)).setCell ⟨cw, 1, none⟩ (.slice bG dy dz))) hS 0 0 [.bool dx, .slice bG dy dz] (cs' := #[.bool dx, .slice bG dy dz]) (bs' := _) rfl o14 rfl rfl rfl rfl)
  simp only [List.set_cons_zero] at hS
  generalize ((dA.setCell ⟨cw, 0, none⟩ (.bool dx)).setCell ⟨cw, 1, none⟩ (.slice bG dy dz)) = w13 at hS ⊢
  have cY := ExtOf.blk (hS.blk 3 rfl)
  have cZ := ExtOf.blk (hS.blk 4 rfl)
  have fN := ExtOf.blk (hS.blk 5 rfl)
  have Y9 := ExtOf.blk (hS.blk 6 rfl)
  have hE_ := hS.ext
  refine wp_region_tame 11 (hasF [(4, .any), (8, .any), (9, .any), (10, .any)]) (Fcs [(4, .ri (c9)), (8, .ri (ca)), (9, .ri (ct)), (10, .box 30 #[.bool false, .slice none 0 0])]) (Fcs_stab _) (by kernel_rfl) (by kernel_rfl) ?_
  simp only [tk1, tk0, dp1, dp0]
  refine wpT_quiet 4 (by rfl) (by kernel_rfl) ?_
  simp only [tk1, tk0, dp1, dp0]
  repeat (go_big_quiet_step (fail))
  refine wpQuiet_nil ?_
  refine wpT_eff (by rfl) (by rfl) (by rfl) ?_ ?_
  · intro W_ hK
    have hW := hK.1
    clear hK
    go_simp
    exact ⟨rfl, (emul_ok gc _ _ bV b4 c9 _ (Blk.ext (hS.blk 14 rfl) hW) (RI.ext (hS.num 8 rfl) hW) (RI.ext (hS.num 4 rfl) hW) gm eL E85.out gs).mono fun e w' ⟨v, he, hR, hx⟩ => ⟨v, he, hx, hR⟩⟩
  intro v_ d5 d6 hr_
  obtain ⟨W_, hW_⟩ := hr_
  have hv_ : Fc.holds (.ri (c9)) d5 d6 v_ W_ := hW_.get
  clear hW_
  obtain ⟨eV, ch, eW, eX, rfl, -⟩ := RI.opn hv_
  clear hv_
  clear W_
  try simp only [Act.put, sa0, sa1, sa2]
  refine wpT_quiet 3 (by rfl) (by kernel_rfl) ?_
  simp only [tk1, tk0, dp1, dp0]
  repeat (go_big_quiet_step (fail))
  refine wpQuiet_nil ?_
  refine wpT_eff (by rfl) (by rfl) (by rfl) ?_ ?_
  · intro W_ hK
    have hW := hK.1
    clear hK
    go_simp
    exact ⟨rfl, (emul_ok gc _ _ bU b5 ca _ (Blk.ext (hS.blk 14 rfl) hW) (RI.ext (hS.num 9 rfl) hW) (RI.ext (hS.num 3 rfl) hW) gl eM E89.out gu).mono fun e w' ⟨v, he, hR, hx⟩ => ⟨v, he, hx, hR⟩⟩
  intro v_ d7 d8 hr_
  obtain ⟨W_, hW_⟩ := hr_
  have hv_ : Fc.holds (.ri (ca)) d7 d8 v_ W_ := hW_.get
  clear hW_
  obtain ⟨eY, ci, eZ, f0, rfl, -⟩ := RI.opn hv_
  clear hv_
  clear W_
  try simp only [Act.put, sa0, sa1, sa2]
  refine wpT_eff (by rfl) (by rfl) (by rfl) ?_ ?_
  · intro W_ hK
    have hW := hK.1
    have ev : RI W_ (iv eV ch eW eX) c9 := hK.2 4 ((iv eV ch eW eX), d5, d6) (by rfl) (by kernel_rfl)
    have ew : RI W_ (iv eY ci eZ f0) ca := hK.2 8 ((iv eY ci eZ f0), d7, d8) (by rfl) (by kernel_rfl)
    clear hK
    go_simp
    exact ⟨rfl, (esub_ok gc _ _ c9 ca ct _ (Blk.ext (hS.blk 14 rfl) hW) ev ew gs gu E90.out gw).mono fun e w' ⟨v, he, hR, hx⟩ => ⟨v, he, hx, hR⟩⟩
  intro v_ ex ey hr_
  obtain ⟨W_, hW_⟩ := hr_
  have hv_ : Fc.holds (.ri (ct)) ex ey v_ W_ := hW_.get
  clear hW_
  obtain ⟨dB, bH, dC, dD, rfl, -⟩ := RI.opn hv_
  clear hv_
  clear W_
  try simp only [Act.put, sa0, sa1, sa2]
  refine wpT_eff (by rfl) (by rfl) (by rfl) ?_ ?_
  · intro W_ hK
    go_simp
    exact ⟨Ext.new _ _, rfl, by simp, Blk.new _ _ _⟩
  intro v_ cx ez hr_
  obtain ⟨W_, hW_⟩ := hr_
  obtain ⟨rfl, fR, -⟩ : Fc.holds (.box 30 #[.bool false, .slice none 0 0]) cx ez v_ W_ := hW_.get
  clear hW_ W_
  try simp only [Act.put, sa0, sa1, sa2]
  refine wpT_nil ?_
  intro dE hK
  have hlt_ := hS.lt
  replace hS := hS.mv hK.ext
  replace hS := hS.addI (show RI dE (iv eV ch eW eX) c9 from hK.at_ 4 (e := ((iv eV ch eW eX), d5, d6)) (by rfl))
  replace hS := hS.addI (show RI dE (iv eY ci eZ f0) ca from hK.at_ 8 (e := ((iv eY ci eZ f0), d7, d8)) (by rfl))
  replace hS := hS.addI (show RI dE (iv dB bH dC dD) ct from hK.at_ 9 (e := ((iv dB bH dC dD), ex, ey)) (by rfl))
  have d9 : w13.heap.size ≤ cx := hK.low 10 _ (by rfl)
  have o15 : Own w cx := Own.of hE_ d9
  replace hS := hS.addB (show Blk dE cx 30 #[.bool false, .slice none 0 0] from (hK.at_ 10 (by rfl)).2.2) (apart_of fun p hp => Nat.ne_of_lt (Nat.lt_of_lt_of_le (hlt_ p hp) d9))
  clear hK hlt_ hE_ cY cZ fN Y9
  clear d9 fR ez
  have fS := (hS.blk 0 rfl).cell
  have fT := (hS.blk 0 rfl).frozen
  go_wp2_with fail
  clear fS fT
  replace hS := (St.put (W' := ((dE.setCell ⟨cx, 0, none⟩ (.bool dB)).setCell ⟨cx, 1, none⟩ (.slice bH dC dD))) hS 0 0 [.bool dB, .slice bH dC dD] (cs' := #[.bool dB, .slice bH dC dD]) (bs' := _) rfl o15 rfl rfl rfl rfl)
  simp only [List.set_cons_zero] at hS
  generalize ((dE.setCell ⟨cx, 0, none⟩ (.bool dB)).setCell ⟨cx, 1, none⟩ (.slice bH dC dD)) = w15 at hS ⊢
  have cY := ExtOf.blk (hS.blk 4 rfl)
  have cZ := ExtOf.blk (hS.blk 5 rfl)
  have hE_ := hS.ext
  refine wp_region_tame 11 (hasF [(4, .any), (8, .any), (9, .any), (10, .any)]) (Fcs [(4, .ri (cb)), (8, .ri (cc)), (9, .ri (aP)), (10, .box 30 #[.bool false, .slice none 0 0])]) (Fcs_stab _) (by kernel_rfl) (by kernel_rfl) ?_
  simp only [tk1, tk0, dp1, dp0]
  refine wpT_quiet 4 (by rfl) (by kernel_rfl) ?_
  simp only [tk1, tk0, dp1, dp0]
  repeat (go_big_quiet_step (fail))
  refine wpQuiet_nil ?_
  refine wpT_eff (by rfl) (by rfl) (by rfl) ?_ ?_
  · intro W_ hK
    have hW := hK.1
    clear hK
    go_simp
    exact ⟨rfl, (emul_ok gc _ _ b4 b4 cb _ (Blk.ext (hS.blk 15 rfl) hW) (RI.ext (hS.num 7 rfl) hW) (RI.ext (hS.num 7 rfl) hW) eL eL E95.out gx).mono fun e w' ⟨v, he, hR, hx⟩ => ⟨v, he, hx, hR⟩⟩
  intro v_ da db hr_
  obtain ⟨W_, hW_⟩ := hr_
  have hv_ : Fc.holds (.ri (cb)) da db v_ W_ := hW_.get
  clear hW_
  obtain ⟨f1, cj, f2, f3, rfl, -⟩ := RI.opn hv_
  clear hv_
  clear W_
  try simp only [Act.put, sa0, sa1, sa2]
  refine wpT_quiet 3 (by rfl) (by kernel_rfl) ?_
  simp only [tk1, tk0, dp1, dp0]
  repeat (go_big_quiet_step (fail))
  refine wpQuiet_nil ?_
  refine wpT_eff (by rfl) (by rfl) (by rfl) ?_ ?_
  · intro W_ hK
    have hW := hK.1
    clear hK
    go_simp
    exact ⟨rfl, (emul_ok gc _ _ b5 b5 cc _ (Blk.ext (hS.blk 15 rfl) hW) (RI.ext (hS.num 6 rfl) hW) (RI.ext (hS.num 6 rfl) hW) eM eM E99.out gy).mono fun e w' ⟨v, he, hR, hx⟩ => ⟨v, he, hx, hR⟩⟩
  intro v_ dc dd hr_
  obtain ⟨W_, hW_⟩ := hr_
  have hv_ : Fc.holds (.ri (cc)) dc dd v_ W_ := hW_.get
  clear hW_
  obtain ⟨f4, ck, f5, f6, rfl, -⟩ := RI.opn hv_
  clear hv_
  clear W_
  try simp only [Act.put, sa0, sa1, sa2]
  refine wpT_eff (by rfl) (by rfl) (by rfl) ?_ ?_
  · intro W_ hK
    have hW := hK.1
    have eA : RI W_ (iv f1 cj f2 f3) cb := hK.2 4 ((iv f1 cj f2 f3), da, db) (by rfl) (by kernel_rfl)
    have eB : RI W_ (iv f4 ck f5 f6) cc := hK.2 8 ((iv f4 ck f5 f6), dc, dd) (by rfl) (by kernel_rfl)
    clear hK
    go_simp
    exact ⟨rfl, (eadd_ok gc _ _ cb cc aP _ (Blk.ext (hS.blk 15 rfl) hW) eA eB gx gy fe.out dL).mono fun e w' ⟨v, he, hR, hx⟩ => ⟨v, he, hx, hR⟩⟩
  intro v_ cy cz hr_
  obtain ⟨W_, hW_⟩ := hr_
  have hv_ : Fc.holds (.ri (aP)) cy cz v_ W_ := hW_.get
  clear hW_
  obtain ⟨aS, aa, aT, aU, rfl, -⟩ := RI.opn hv_
  clear hv_
  clear W_
  try simp only [Act.put, sa0, sa1, sa2]
  refine wpT_eff (by rfl) (by rfl) (by rfl) ?_ ?_
  · intro W_ hK
    go_simp
    exact ⟨Ext.new _ _, rfl, by simp, Blk.new _ _ _⟩
  intro v_ c5 eC hr_
  obtain ⟨W_, hW_⟩ := hr_
  obtain ⟨rfl, fU, -⟩ : Fc.holds (.box 30 #[.bool false, .slice none 0 0]) c5 eC v_ W_ := hW_.get
  clear hW_ W_
  try simp only [Act.put, sa0, sa1, sa2]
  refine wpT_nil ?_
  intro de hK
  have hlt_ := hS.lt
  replace hS := hS.mv hK.ext
  replace hS := hS.addI (show RI de (iv f1 cj f2 f3) cb from hK.at_ 4 (e := ((iv f1 cj f2 f3), da, db)) (by rfl))
  replace hS := hS.addI (show RI de (iv f4 ck f5 f6) cc from hK.at_ 8 (e := ((iv f4 ck f5 f6), dc, dd)) (by rfl))
  replace hS := hS.addI (show RI de (iv aS aa aT aU) aP from hK.at_ 9 (e := ((iv aS aa aT aU), cy, cz)) (by rfl))
  have df : w15.heap.size ≤ c5 := hK.low 10 _ (by rfl)
  have gP : Own w c5 := Own.of hE_ df
  replace hS := hS.addB (show Blk de c5 30 #[.bool false, .slice none 0 0] from (hK.at_ 10 (by rfl)).2.2) (apart_of fun p hp => Nat.ne_of_lt (Nat.lt_of_lt_of_le (hlt_ p hp) df))
  clear hK hlt_ hE_ cY cZ
  clear df fU eC
  have fV := (hS.blk 0 rfl).cell
  have fW := (hS.blk 0 rfl).frozen
  have eD := (St.put (W' := ((de.setCell ⟨c5, 0, none⟩ (.bool aS)).setCell ⟨c5, 1, none⟩ (.slice aa aT aU))) hS 0 0 [.bool aS, .slice aa aT aU] (cs' := #[.bool aS, .slice aa aT aU]) (bs' := _) rfl gP rfl rfl rfl rfl)
  have fX := (eD.blk 16 rfl).cell
  have fY := (eD.blk 2 rfl).cell
  have fZ := (eD.blk 1 rfl).cell
  have g0 := (eD.blk 0 rfl).cell
  go_wp2_with fail
  clear fV fW fX fY fZ g0
  clear eD
  replace hS := (St.put (W' := ((de.setCell ⟨c5, 0, none⟩ (.bool aS)).setCell ⟨c5, 1, none⟩ (.slice aa aT aU))) hS 0 0 [.bool aS, .slice aa aT aU] (cs' := #[.bool aS, .slice aa aT aU]) (bs' := _) rfl gP rfl rfl rfl rfl)
  simp only [List.set_cons_zero] at hS
  generalize ((de.setCell ⟨c5, 0, none⟩ (.bool aS)).setCell ⟨c5, 1, none⟩ (.slice aa aT aU)) = w17 at hS ⊢
  refine (ereduce_ok gc _ _ _ cs ct aP aw ax ay _ (hS.blk 16 rfl) (hS.num 6 rfl) (hS.num 3 rfl) (hS.num 0 rfl) gr gw dL ff.out fg.out).mono ?_
  rintro e eE ⟨v_, rfl, hv_, hx_⟩
  replace hS := hS.mv hx_
  clear hx_
  obtain ⟨cA, bO, cB, cC, cD, bP, cE, cF, cG, bQ, cH, cI, rfl, b7, b8, b9⟩ := hv_
  replace hS := hS.addI b7
  clear b7
  replace hS := hS.addI b8
  clear b8
  replace hS := hS.addI b9
  clear b9
  have o17 : Own w eE.heap.size := Own.of hS.ext (by simp)
  have g1 := (St.al hS 32 #[.bool false, .slice none 0 0, .bool false, .slice none 0 0, .bool false, .slice none 0 0] (g := eE.heap.size) (by simp))
  have g2 := (g1.blk 0 rfl).cell
  have ga := (g1.blk 0 rfl).frozen
  go_wp2_with fail
  clear g2 ga
  clear g1
  replace hS := (St.al hS 32 #[.bool cA, .slice bO cB cC, .bool cD, .slice bP cE cF, .bool cG, .slice bQ cH cI] (g := eE.heap.size) (by simp))
  generalize (eE.alloc (.cells #[.bool cA, .slice bO cB cC, .bool cD, .slice bP cE cF, .bool cG, .slice bQ cH cI] 32)) = gQ at hS ⊢
  generalize eE.heap.size = g17 at hS o17 ⊢
  have fH := ExtOf.blk (hS.blk 4 rfl)
  have Y8 := ExtOf.blk (hS.blk 10 rfl)
  have Y5 := ExtOf.blk (hS.blk 15 rfl)
  have Y4 := ExtOf.blk (hS.blk 16 rfl)
  have hE_ := hS.ext
  refine wp_region_tame 15 (hasF [(4, .any), (11, .any), (12, .any), (13, .any), (14, .any)]) (Fcs [(4, .ri (aY)), (11, .ri (aQ)), (12, .ri (aR)), (13, .box 30 #[.bool false, .slice none 0 0]), (14, .box 30 #[.bool false, .slice none 0 0])]) (Fcs_stab _) (by kernel_rfl) (by kernel_rfl) ?_
  simp only [tk1, tk0, dp1, dp0]
  refine wpT_quiet 4 (by rfl) (by kernel_rfl) ?_
  simp only [tk1, tk0, dp1, dp0]
  repeat (go_big_quiet_step (fail))
  refine wpQuiet_nil ?_
  refine wpT_eff (by rfl) (by rfl) (by rfl) ?_ ?_
  · intro W_ hK
    have hW := hK.1
    clear hK
    go_simp
    exact ⟨rfl, (ediv_ok gc _ _ cS b3 aY _ (Blk.ext (hS.blk 17 rfl) hW) (RI.ext (hS.num 21 rfl) hW) (RI.ext (hS.num 19 rfl) hW) dK gk fj.out dM.out fh.out).mono fun e w' ⟨v, he, hR, hx⟩ => ⟨v, he, hx, hR⟩⟩
  intro v_ cJ cK hr_
  obtain ⟨W_, hW_⟩ := hr_
  have hv_ : Fc.holds (.ri (aY)) cJ cK v_ W_ := hW_.get
  clear hW_
  obtain ⟨ab, a0, ac, ad, rfl, -⟩ := RI.opn hv_
  clear hv_
  clear W_
  try simp only [Act.put, sa0, sa1, sa2]
  refine wpT_quiet 6 (by rfl) (by kernel_rfl) ?_
  simp only [tk1, tk0, dp1, dp0]
  repeat (go_big_quiet_step (fail))
  refine wpQuiet_nil ?_
  refine wpT_eff (by rfl) (by rfl) (by rfl) ?_ ?_
  · intro W_ hK
    have hW := hK.1
    clear hK
    go_simp
    exact ⟨rfl, (ediv_ok gc _ _ cP b3 aQ _ (Blk.ext (hS.blk 17 rfl) hW) (RI.ext (hS.num 24 rfl) hW) (RI.ext (hS.num 19 rfl) hW) dH gk fm.out dN.out fk.out).mono fun e w' ⟨v, he, hR, hx⟩ => ⟨v, he, hx, hR⟩⟩
  intro v_ bR bS hr_
  obtain ⟨W_, hW_⟩ := hr_
  have hv_ : Fc.holds (.ri (aQ)) bR bS v_ W_ := hW_.get
  clear hW_
  obtain ⟨cl, ba, cn, co, rfl, -⟩ := RI.opn hv_
  clear hv_
  clear W_
  try simp only [Act.put, sa0, sa1, sa2]
  refine wpT_eff (by rfl) (by rfl) (by rfl) ?_ ?_
  · intro W_ hK
    have hW := hK.1
    have dg : RI W_ (iv cl ba cn co) aQ := hK.2 11 ((iv cl ba cn co), bR, bS) (by rfl) (by kernel_rfl)
    clear hK
    go_simp
    exact ⟨rfl, (emul_ok gc _ _ bd aQ aR _ (Blk.ext (hS.blk 17 rfl) hW) (RI.ext (hS.num 14 rfl) hW) dg fb fl fn.out dO).mono fun e w' ⟨v, he, hR, hx⟩ => ⟨v, he, hx, hR⟩⟩
  intro v_ cL cM hr_
  obtain ⟨W_, hW_⟩ := hr_
  have hv_ : Fc.holds (.ri (aR)) cL cM v_ W_ := hW_.get
  clear hW_
  obtain ⟨aV, ae, aW, aX, rfl, -⟩ := RI.opn hv_
  clear hv_
  clear W_
  try simp only [Act.put, sa0, sa1, sa2]
  refine wpT_eff (by rfl) (by rfl) (by rfl) ?_ ?_
  · intro W_ hK
    go_simp
    exact ⟨Ext.new _ _, rfl, by simp, Blk.new _ _ _⟩
  intro v_ b2 eF hr_
  obtain ⟨W_, hW_⟩ := hr_
  obtain ⟨rfl, eG, -⟩ : Fc.holds (.box 30 #[.bool false, .slice none 0 0]) b2 eF v_ W_ := hW_.get
  clear hW_ W_
  try simp only [Act.put, sa0, sa1, sa2]
  refine wpT_eff (by rfl) (by rfl) (by rfl) ?_ ?_
  · intro W_ hK
    go_simp
    exact ⟨Ext.new _ _, rfl, by simp, Blk.new _ _ _⟩
  intro v_ c6 eH hr_
  obtain ⟨W_, hW_⟩ := hr_
  obtain ⟨rfl, eI, -⟩ : Fc.holds (.box 30 #[.bool false, .slice none 0 0]) c6 eH v_ W_ := hW_.get
  clear hW_ W_
  try simp only [Act.put, sa0, sa1, sa2]
  refine wpT_nil ?_
  intro bT hK
  have hlt_ := hS.lt
  replace hS := hS.mv hK.ext
  replace hS := hS.addI (show RI bT (iv ab a0 ac ad) aY from hK.at_ 4 (e := ((iv ab a0 ac ad), cJ, cK)) (by rfl))
  replace hS := hS.addI (show RI bT (iv cl ba cn co) aQ from hK.at_ 11 (e := ((iv cl ba cn co), bR, bS)) (by rfl))
  replace hS := hS.addI (show RI bT (iv aV ae aW aX) aR from hK.at_ 12 (e := ((iv aV ae aW aX), cL, cM)) (by rfl))
  have dh : gQ.heap.size ≤ b2 := hK.low 13 _ (by rfl)
  have gb : Own w b2 := Own.of hE_ dh
  replace hS := hS.addB (show Blk bT b2 30 #[.bool false, .slice none 0 0] from (hK.at_ 13 (by rfl)).2.2) (apart_of fun p hp => Nat.ne_of_lt (Nat.lt_of_lt_of_le (hlt_ p hp) dh))
  have di : gQ.heap.size ≤ c6 := hK.low 14 _ (by rfl)
  have gR : Own w c6 := Own.of hE_ di
  replace hS := hS.addB (show Blk bT c6 30 #[.bool false, .slice none 0 0] from (hK.at_ 14 (by rfl)).2.2) ⟨tame_ne eG eI (hK.disj 13 14 _ _ (by omega) (by rfl) (by rfl)), (apart_of fun p hp => Nat.ne_of_lt (Nat.lt_of_lt_of_le (hlt_ p hp) di))⟩
  clear hK hlt_ hE_ fH Y8 Y5 Y4
  clear dh eG eF
  clear di eI eH
  have gd := (hS.blk 1 rfl).cell
  have gf := (hS.blk 1 rfl).frozen
  have gg := (St.put (W' := ((bT.setCell ⟨b2, 0, none⟩ (.bool ab)).setCell ⟨b2, 1, none⟩ (.slice a0 ac ad))) hS 1 0 [.bool ab, .slice a0 ac ad] (cs' := #[.bool ab, .slice a0 ac ad]) (bs' := _) rfl gb rfl rfl rfl rfl)
  have gh := (gg.blk 0 rfl).cell
  have gi := (gg.blk 0 rfl).frozen
  have eJ := (St.put (W' := ((((bT.setCell ⟨b2, 0, none⟩ (.bool ab)).setCell ⟨b2, 1, none⟩ (.slice a0 ac ad)).setCell ⟨c6, 0, none⟩ (.bool aV)).setCell ⟨c6, 1, none⟩ (.slice ae aW aX))) (St.put (W' := ((bT.setCell ⟨b2, 0, none⟩ (.bool ab)).setCell ⟨b2, 1, none⟩ (.slice a0 ac ad))) hS 1 0 [.bool ab, .slice a0 ac ad] (cs' := #[.bool ab, .slice a0 ac ad]) (bs' := _) rfl gb rfl rfl rfl rfl) 0 0 [.bool aV, .slice ae aW aX] (cs' := #[.bool aV, .slice ae aW aX]) (bs' := _) rfl gR rfl rfl rfl rfl)
  have gj := (eJ.blk 19 rfl).cell
  go_wp2_with fail
  clear gd gf gh gi gj
  clear gg eJ
  replace hS := (St.put (W' := ((((bT.setCell ⟨b2, 0, none⟩ (.bool ab)).setCell ⟨b2, 1, none⟩ (.slice a0 ac ad)).setCell ⟨c6, 0, none⟩ (.bool aV)).setCell ⟨c6, 1, none⟩ (.slice ae aW aX))) (St.put (W' := ((bT.setCell ⟨b2, 0, none⟩ (.bool ab)).setCell ⟨b2, 1, none⟩ (.slice a0 ac ad))) hS 1 0 [.bool ab, .slice a0 ac ad] (cs' := #[.bool ab, .slice a0 ac ad]) (bs' := _) rfl gb rfl rfl rfl rfl) 0 0 [.bool aV, .slice ae aW aX] (cs' := #[.bool aV, .slice ae aW aX]) (bs' := _) rfl gR rfl rfl rfl rfl)
  simp only [List.set_cons_zero, List.set_cons_succ] at hS
  generalize ((((bT.setCell ⟨b2, 0, none⟩ (.bool ab)).setCell ⟨b2, 1, none⟩ (.slice a0 ac ad)).setCell ⟨c6, 0, none⟩ (.bool aV)).setCell ⟨c6, 1, none⟩ (.slice ae aW aX)) = w21 at hS ⊢
  have Y19 := ExtOf.blk (hS.blk 0 rfl)
  have Y18 := ExtOf.blk (hS.blk 1 rfl)
  have Y17 := ExtOf.blk (hS.blk 2 rfl)
  have hE_ := hS.ext
  refine wp_region_tame 8 (hasF [(6, .any), (7, .any)]) (Fcs [(6, .rg (a1) (af) (a2)), (7, .rg (ag) (ah) (ai))]) (Fcs_stab _) (by kernel_rfl) (by kernel_rfl) ?_
  simp only [tk1, tk0, dp1, dp0]
  refine wpT_quiet 6 (by rfl) (by kernel_rfl) ?_
  simp only [tk1, tk0, dp1, dp0]
  repeat (go_big_quiet_step (fail))
  refine wpQuiet_nil ?_
  refine wpT_eff (by rfl) (by rfl) (by rfl) ?_ ?_
  · intro W_ hK
    have hW := hK.1
    clear hK
    go_simp
    exact ⟨rfl, (ereduce_ok gc _ _ _ aY 0 aR a1 af a2 _ (Blk.ext (hS.blk 19 rfl) hW) (RI.ext (hS.num 2 rfl) hW) (RI.zero _) (RI.ext (hS.num 0 rfl) hW) fi lim0 dO fo.out fp.out).mono fun e w' ⟨v, he, hR, hx⟩ => ⟨v, he, hx, hR⟩⟩
  intro v_ aA aB hr_
  obtain ⟨W_, hW_⟩ := hr_
  have hv_ : Fc.holds (.rg (a1) (af) (a2)) aA aB v_ W_ := hW_.get
  clear hW_
  obtain ⟨aj, a3, ak, am, an, a4, ao, ap, aq, a5, ar, au, rfl, -, -, -⟩ := hv_
  clear W_
  try simp only [Act.put, sa0, sa1, sa2]
  refine wpT_eff (by rfl) (by rfl) (by rfl) ?_ ?_
  · intro W_ hK
    have hW := hK.1
    have cp : RI W_ (iv aj a3 ak am) a1 := RG.at1 (hK.2 6 ((gv aj a3 ak am an a4 ao ap aq a5 ar au), aA, aB) (by rfl) (by kernel_rfl))
    have cq : RI W_ (iv an a4 ao ap) af := RG.at2 (hK.2 6 ((gv aj a3 ak am an a4 ao ap aq a5 ar au), aA, aB) (by rfl) (by kernel_rfl))
    have cr : RI W_ (iv aq a5 ar au) a2 := RG.at3 (hK.2 6 ((gv aj a3 ak am an a4 ao ap aq a5 ar au), aA, aB) (by rfl) (by kernel_rfl))
    clear hK
    go_simp
    exact ⟨rfl, (eproduct_f gc _ _ aw ax ay a1 a2 ag ah ai bK HK138 _ (Blk.ext (hS.blk 19 rfl) hW) (RG.mk (RI.ext (hS.num 5 rfl) hW) (RI.ext (hS.num 4 rfl) hW) (RI.ext (hS.num 3 rfl) hW)) (Z137.out ▸ RG.mk cp cq cr) Lf138.out Ls138.out dP.out dQ.out fq.out Sz138.out).mono fun e w' ⟨v, he, hR, hx⟩ => ⟨v, he, hx, hR⟩⟩
  intro v_ bb bc hr_
  obtain ⟨W_, hW_⟩ := hr_
  have hv_ : Fc.holds (.rg (ag) (ah) (ai)) bb bc v_ W_ := hW_.get
  clear hW_
  obtain ⟨aC, a7, aD, aE, aF, a8, aG, aH, aI, a9, aJ, aK, rfl, -, -, -⟩ := hv_
  clear W_
  try simp only [Act.put, sa0, sa1, sa2]
  refine wpT_nil ?_
  intro dj hK
  have hlt_ := hS.lt
  replace hS := hS.mv hK.ext
  replace hS := hS.addI (show RI dj (iv aj a3 ak am) a1 from RG.at1 (hK.at_ 6 (e := ((gv aj a3 ak am an a4 ao ap aq a5 ar au), aA, aB)) (by rfl)))
  replace hS := hS.addI (show RI dj (iv an a4 ao ap) af from RG.at2 (hK.at_ 6 (e := ((gv aj a3 ak am an a4 ao ap aq a5 ar au), aA, aB)) (by rfl)))
  replace hS := hS.addI (show RI dj (iv aq a5 ar au) a2 from RG.at3 (hK.at_ 6 (e := ((gv aj a3 ak am an a4 ao ap aq a5 ar au), aA, aB)) (by rfl)))
  replace hS := hS.addI (show RI dj (iv aC a7 aD aE) ag from RG.at1 (hK.at_ 7 (e := ((gv aC a7 aD aE aF a8 aG aH aI a9 aJ aK), bb, bc)) (by rfl)))
  replace hS := hS.addI (show RI dj (iv aF a8 aG aH) ah from RG.at2 (hK.at_ 7 (e := ((gv aC a7 aD aE aF a8 aG aH aI a9 aJ aK), bb, bc)) (by rfl)))
  replace hS := hS.addI (show RI dj (iv aI a9 aJ aK) ai from RG.at3 (hK.at_ 7 (e := ((gv aC a7 aD aE aF a8 aG aH aI a9 aJ aK), bb, bc)) (by rfl)))
  clear hK hlt_ hE_ Y19 Y18 Y17
  have k_38 := (hS.blk 16 rfl).cell
  have k_39 := (hS.blk 16 rfl).frozen
  go_wp2
  replace hS := (St.put (W' := ((((((dj.setCell ⟨g6, 0, none⟩ (.bool aC)).setCell ⟨g6, 1, none⟩ (.slice a7 aD aE)).setCell ⟨g6, 2, none⟩ (.bool aF)).setCell ⟨g6, 3, none⟩ (.slice a8 aG aH)).setCell ⟨g6, 4, none⟩ (.bool aI)).setCell ⟨g6, 5, none⟩ (.slice a9 aJ aK))) hS 16 0 [.bool aC, .slice a7 aD aE, .bool aF, .slice a8 aG aH, .bool aI, .slice a9 aJ aK] (cs' := #[.bool aC, .slice a7 aD aE, .bool aF, .slice a8 aG aH, .bool aI, .slice a9 aJ aK]) (bs' := _) rfl o6 rfl rfl rfl rfl)
  exact bp_gauss1 rfl rfl rfl (hS.blk 16 rfl) ⟨_, rfl, RG.mk (hS.num 2 rfl) (hS.num 1 rfl) (hS.num 0 rfl), hS.ext⟩

theorem equotient_b (gc : Nat) (v1 v2 : Value) (a b d a' b' d' u v t : Int) (m n : Nat) (w : World) (hc : Calm w gc) (hX : RG w v1 a b d) (hY : RG w v2 a' b' d') (sx : Sz m a b d) (sy : Sz n a' b' d') (hn : m + n + 1 ≤ 12800) (hn2 : n + n + 1 ≤ 12800) (K : Nat) (hK : K ≤ 12800) (hK1 : m + n + 1 ≤ K) (hK2 : n + n + 1 ≤ K) (sz : Sz K u v t)
    (hd : d ≠ 0) (hd' : d' ≠ 0) (hy : a' ≠ 0 ∨ b' ≠ 0) (E : (u, v, t) = nf ((a * a' + b * b') * d') ((b * a' - a * b') * d') (d * (a' * a' + b' * b'))) :
    Calls Tryz.prog 140 #[.pointer (some ⟨gc, 0, none⟩), v1, v2] w fun e w' => ∃ x, e = .returned x ∧ RG w' x u v t ∧ Ext w w' := by
  obtain ⟨g, a1, b1, p, q, hg, hg0, ea, eb, ea', eb'⟩ := gcd4_facts (a := a) (b := b) hy
  have hpq : p ≠ 0 ∨ q ≠ 0 := by
    rcases hy with h | h
    · left; intro e; rw [e] at ea'; simp at ea'; exact h ea'
    · right; intro e; rw [e] at eb'; simp at eb'; exact h eb'
  obtain ⟨h, c1, o, hh, hh0, ec, eo⟩ := gcd2_facts (a := d) (b := d') hd'
  obtain ⟨i, p1, q1, hi, hi0, ep, eq⟩ := gcd2_facts' hpq
  have hpq1 : p1 ≠ 0 ∨ q1 ≠ 0 := by
    rcases hpq with h | h
    · left; intro e; rw [e] at ep; simp at ep; exact h ep
    · right; intro e; rw [e] at eq; simp at eq; exact h eq
  have bg : g.natAbs < 2 ^ n := by
    rcases hy with h | h
    · exact lt_fac h ea' sy.a
    · exact lt_fac h eb' sy.b
  have ba1 := lt_div hg0 ea sx.a
  have bb1 := lt_div hg0 eb sx.b
  have bp := lt_div hg0 ea' sy.a
  have bq := lt_div hg0 eb' sy.b
  have bi : i.natAbs < 2 ^ n := by
    rcases hpq with h | h
    · exact lt_fac h ep bp
    · exact lt_fac h eq bq
  have bp1 := lt_div hi0 ep bp
  have bq1 := lt_div hi0 eq bq
  have bh := lt_fac hd ec sx.d
  have bc1 := lt_div hh0 ec sx.d
  have bo := lt_div hh0 eo sy.d
  have m1 := lt_mul ba1 bp1
  have m2 := lt_mul bb1 bq1
  have m3 := lt_mul bb1 bp1
  have m4 := lt_mul ba1 bq1
  have m5 := lt_mul bp1 bp1
  have m6 := lt_mul bq1 bq1
  have m7 := lt_add m1 m2
  have m8 := lt_sub m3 m4
  have m9 := lt_add m5 m6
  have m10 := lt_mul bi bc1
  have hN := norm_ne hpq1
  have hc10 : i * c1 ≠ 0 := Int.mul_ne_zero hi0 (by intro e; rw [e] at ec; simp at ec; exact hd ec)
  obtain ⟨fa, fb, fd, Ef⟩ := nf_ex (a1 * p1 + b1 * q1) (b1 * p1 - a1 * q1) (p1 * p1 + q1 * q1)
  obtain ⟨sa, sb, sd, Es⟩ := nf_ex o 0 (i * c1)
  obtain ⟨G, hG0, e1, e2, e3, hfd⟩ := nf_get hN Ef
  obtain ⟨H, hH0, e4, e6, e5, hsd⟩ := nf_get hc10 Es
  have hsb : sb = 0 := by
    have := e6.symm
    rcases Int.mul_eq_zero.1 this with h | h
    · exact absurd h hH0
    · exact h
  subst hsb
  have sf := nf_size' (n := K) hN Ef (lt_up m7 (by omega)) (lt_up m8 (by omega)) (lt_up m9 (by omega))
  have ss := nf_size' (n := K) hc10 Es (lt_up bo (by omega)) (show (0 : Int).natAbs < 2 ^ K from Nat.pow_pos (by omega)) (lt_up m10 (by omega))
  have hDD : d * (a' * a' + b' * b') ≠ 0 := Int.mul_ne_zero hd (norm_ne hy)
  have hFS : fd * sd ≠ 0 := Int.mul_ne_zero (by omega) (by omega)
  obtain ⟨c1', c2'⟩ := quot_cross ea eb ea' eb' ep eq eo ec e1 e2 e3 e4 e5
  have E' : (u, v, t) = nf (fa * sa) (fb * sa) (fd * sd) := by
    rw [E]
    refine nf_unique hDD hFS ?_ ?_
    · rw [c1']
    · rw [c2']
  obtain ⟨x1, x2, x3⟩ := sx.lims (by omega)
  obtain ⟨y1, y2, y3⟩ := sy.lims (by omega)
  obtain ⟨f1, f2, f3⟩ := sf.lims (by omega)
  obtain ⟨t1, t2, t3⟩ := ss.lims (by omega)
  obtain ⟨s1, s2, s3⟩ := sz.lims (by omega)
  exact equotient_wf gc v1 a b d v2 a' b' d' w hc hX x1 x2 x3 hY y1 y2 y3 g (Lib.hid hg) (lim_of bg (by omega)) h (Lib.hid hh) (lim_of bh (by omega))
    a1 (Lib.hid (div_of hg0 ea)) (lim_of ba1 (by omega)) (Lib.hid hg0) (Lib.hid ⟨_, ea⟩) b1 (Lib.hid (div_of hg0 eb)) (lim_of bb1 (by omega)) (Lib.hid hg0) (Lib.hid ⟨_, eb⟩)
    p (Lib.hid (div_of hg0 ea')) (lim_of bp (by omega)) (Lib.hid hg0) (Lib.hid ⟨_, ea'⟩) q (Lib.hid (div_of hg0 eb')) (lim_of bq (by omega)) (Lib.hid hg0) (Lib.hid ⟨_, eb'⟩)
    i (Lib.hid hi) (lim_of bi (by omega)) p1 (Lib.hid (div_of hi0 ep)) (lim_of bp1 (by omega)) (Lib.hid hi0) (Lib.hid ⟨_, ep⟩) q1 (Lib.hid (div_of hi0 eq)) (lim_of bq1 (by omega)) (Lib.hid hi0) (Lib.hid ⟨_, eq⟩)
    _ (Lib.hid rfl) (lim_of m1 (by omega)) _ (Lib.hid rfl) (lim_of m2 (by omega)) _ (Lib.hid rfl) (lim_of m7 (by omega))
    _ (Lib.hid rfl) (lim_of m3 (by omega)) _ (Lib.hid rfl) (lim_of m4 (by omega)) _ (Lib.hid rfl) (lim_of m8 (by omega))
    _ (Lib.hid rfl) (lim_of m5 (by omega)) _ (Lib.hid rfl) (lim_of m6 (by omega)) _ (Lib.hid rfl) (lim_of m9 (by omega)) (Lib.hid hN)
    fa fb fd (Lib.hid Ef) f1 f2 f3 o (Lib.hid (div_of hh0 eo)) (lim_of bo (by omega)) (Lib.hid hh0) (Lib.hid ⟨_, eo⟩)
    c1 (Lib.hid (div_of hh0 ec)) (lim_of bc1 (by omega)) (Lib.hid hh0) (Lib.hid ⟨_, ec⟩) _ (Lib.hid rfl) (lim_of m10 (by omega)) (Lib.hid hc10)
    sa 0 sd (Lib.hid Es) t1 t2 t3 u v t (Lib.hid (low_eqnf hN Ef)) (Lib.hid (low_eqnf hc10 Es)) (Lib.hid rfl) K hK (Lib.hid sf) (Lib.hid ss) (Lib.hid sz) (Lib.hid E') s1 s2 s3
theorem equotient_r (gc : Nat) (v1 v3 : Value) (x y : GQ) (n1 n2 nr : Nat) (w : World) (hc : Calm w gc) (hX : GV w v1 x n1) (hY : GV w v3 y n2) (hn : n1 + n2 + 1 ≤ 12800) (hn2 : n2 + n2 + 1 ≤ 12800) (hb : Bd (x / y) nr) (hr : nr ≤ 12800) (hy : y ≠ GQ.i 0 0) :
    Calls Tryz.prog 140 #[.pointer (some ⟨gc, 0, none⟩), v1, v3] w fun e w' => ∃ v, e = .returned v ∧ GV w' v (x / y) nr ∧ Ext w w' := by
  obtain ⟨a, b, d, h1, i1, s1⟩ := hX
  obtain ⟨a', b', d', h2, i2, s2⟩ := hY
  obtain ⟨u, v, t, h⟩ := is_ex (x / y)
  have h0 := i2.ne0 hy
  have E := i1.div_nf i2 h0 h
  have sz := hb.sz h
  exact (equotient_b gc v1 v3 a b d a' b' d' u v t n1 n2 w hc h1 h2 s1 s2 hn hn2 (max nr (max (n1 + n2 + 1) (n2 + n2 + 1))) (by omega) (by omega) (by omega) (sz.mono (by omega)) i1.dne i2.dne h0 E).mono fun e w' ⟨z, he, hR, hx⟩ => ⟨z, he, ⟨u, v, t, hR, h, sz⟩, hx⟩
set_option maxRecDepth 100000 in
set_option maxHeartbeats 3200000 in
theorem xDiv_r (v0 : Value) (q0 : GQ) (n0 : Nat) (v1 : Value) (q1 : GQ) (n1 : Nat) (w : World) (hX0 : GV w v0 q0 n0) (hX1 : GV w v1 q1 n1) (H0 : Hid (q1 ≠ GQ.i 0 0))
     (nr : Nat) (hn : n0 + n1 + 1 ≤ 12800) (hn2 : n1 + n1 + 1 ≤ 12800) (hb : Bd (q0 / q1) nr) (hr : nr ≤ 12800) :
    Calls Tryz.prog 117 #[v0, v1] w fun e w' => ∃ v, e = .returned v ∧ (∃ u, v = .tuple #[u, .int .i64 0] ∧ GV w' u (q0 / q1) nr) ∧ Ext w w' := by
  have hS := St.start w
  obtain ⟨x0a, x0b, x0d, hX0, I0, S0⟩ := hX0
  obtain ⟨a0, a1, a2, a3, a4, a5, a6, a7, a8, a9, aa, ab, rfl, aJ, aK, aL⟩ := hX0
  replace hS := hS.addI aJ
  clear aJ
  replace hS := hS.addI aK
  clear aK
  replace hS := hS.addI aL
  clear aL
  obtain ⟨x1a, x1b, x1d, hX1, I1, S1⟩ := hX1
  obtain ⟨ac, ad, ae, af, ag, ah, ai, aj, ak, am, an, ao, rfl, aM, aN, aO⟩ := hX1
  replace hS := hS.addI aM
  clear aM
  replace hS := hS.addI aN
  clear aN
  replace hS := hS.addI aO
  clear aO
  have o2 : Own w w.heap.size := Own.of hS.ext (by simp)
  have o3 : Own w (w.heap.size + 1) := Own.of hS.ext (by simp)
  have o4 : Own w (w.heap.size + 2) := Own.of hS.ext (by simp)
  have aS := (St.al (St.al (St.al hS 32 #[.bool a0, .slice a1 a2 a3, .bool a4, .slice a5 a6 a7, .bool a8, .slice a9 aa ab] (g := w.heap.size) (by simp)) 32 #[.bool ac, .slice ad ae af, .bool ag, .slice ah ai aj, .bool ak, .slice am an ao] (g := (w.heap.size + 1)) (by simp)) 32 #[.bool false, .slice none 0 0, .bool false, .slice none 0 0, .bool false, .slice none 0 0] (g := (w.heap.size + 2)) (by simp))
  have k_1 := (aS.blk 2 rfl).cell
  have k_2 := (aS.blk 1 rfl).cell
  have o9 : Own w (w.heap.size + 3) := Own.of hS.ext (by simp)
  go_enter Tryz.func117, Tryz.ntmps117
  go_wp2_with fail
  clear k_1 k_2
  clear aS
  replace hS := (St.al (St.al (St.al (St.al hS 32 #[.bool a0, .slice a1 a2 a3, .bool a4, .slice a5 a6 a7, .bool a8, .slice a9 aa ab] (g := w.heap.size) (by simp)) 32 #[.bool ac, .slice ad ae af, .bool ag, .slice ah ai aj, .bool ak, .slice am an ao] (g := (w.heap.size + 1)) (by simp)) 32 #[.bool false, .slice none 0 0, .bool false, .slice none 0 0, .bool false, .slice none 0 0] (g := (w.heap.size + 2)) (by simp)) 32 #[.bool a0, .slice a1 a2 a3, .bool a4, .slice a5 a6 a7, .bool a8, .slice a9 aa ab, .bool ac, .slice ad ae af, .bool ag, .slice ah ai aj, .bool ak, .slice am an ao] (g := (w.heap.size + 3)) (by simp))
  generalize ((((w.alloc (.cells #[.bool a0, .slice a1 a2 a3, .bool a4, .slice a5 a6 a7, .bool a8, .slice a9 aa ab] 32)).alloc (.cells #[.bool ac, .slice ad ae af, .bool ag, .slice ah ai aj, .bool ak, .slice am an ao] 32)).alloc (.cells #[.bool false, .slice none 0 0, .bool false, .slice none 0 0, .bool false, .slice none 0 0] 32)).alloc (.cells #[.bool a0, .slice a1 a2 a3, .bool a4, .slice a5 a6 a7, .bool a8, .slice a9 aa ab, .bool ac, .slice ad ae af, .bool ag, .slice ah ai aj, .bool ak, .slice am an ao] 32)) = w1 at hS ⊢
  generalize w.heap.size + 3 = g9 at hS o9 ⊢
  generalize w.heap.size + 2 = g4 at hS o4 ⊢
  generalize w.heap.size + 1 = g3 at hS o3 ⊢
  generalize w.heap.size = g2 at hS o2 ⊢
  refine (xvalid2_ok g9 q0 q1 n0 n1 _ (hS.blk 0 rfl) ⟨_, _, _, RG.mk (hS.num 5 rfl) (hS.num 4 rfl) (hS.num 3 rfl), I0, S0⟩ (by omega) ⟨_, _, _, RG.mk (hS.num 2 rfl) (hS.num 1 rfl) (hS.num 0 rfl), I1, S1⟩ (by omega)).mono ?_
  rintro e w2 ⟨rfl, hx_⟩
  replace hS := hS.mv hx_
  clear hx_
  have k_3 := (hS.blk 2 rfl).cell
  go_wp2_with fail
  clear k_3
  refine (xzero_no _ q1 (n1) _ ⟨_, _, _, RG.mk (hS.num 2 rfl) (hS.num 1 rfl) (hS.num 0 rfl), I1, S1⟩ H0.out).mono ?_
  rintro e w3 ⟨rfl, hx_⟩
  replace hS := hS.mv hx_
  clear hx_
  have o6 : Own w w3.heap.size := Own.of hS.ext (by simp)
  have aT := (St.al hS 105 #[.int .i64 0] (g := w3.heap.size) (by simp))
  have k_4 := (aT.blk 4 rfl).cell
  have k_5 := (aT.blk 3 rfl).cell
  go_wp2_with fail
  clear k_4 k_5
  clear aT
  replace hS := (St.al hS 105 #[.int .i64 0] (g := w3.heap.size) (by simp))
  generalize (w3.alloc (.cells #[.int .i64 0] 105)) = w4 at hS ⊢
  generalize w3.heap.size = g6 at hS o6 ⊢
  obtain ⟨aP, aQ, aR, aU⟩ := is_ex (q0 / q1)
  have S18 : Sz nr aP aQ aR := hb.sz aU
  refine (toRG (equotient_r g6 _ _ q0 q1 _ _ nr _ (hS.blk 0 rfl) ⟨_, _, _, RG.mk (hS.num 5 rfl) (hS.num 4 rfl) (hS.num 3 rfl), I0, S0⟩ ⟨_, _, _, RG.mk (hS.num 2 rfl) (hS.num 1 rfl) (hS.num 0 rfl), I1, S1⟩ (by omega) (by omega) hb hr H0.out) aU).mono ?_
  rintro e w5 ⟨v_, rfl, hv_, hx_⟩
  replace hS := hS.mv hx_
  clear hx_
  obtain ⟨s18a, aV, n18a, c18a, s18b, aW, n18b, c18b, s18d, aX, n18d, c18d, rfl, ap, aq, ar⟩ := hv_
  replace hS := hS.addI ap
  clear ap
  replace hS := hS.addI aq
  clear aq
  replace hS := hS.addI ar
  clear ar
  go_wp2_with fail
  refine (enumber_w g6 _ aP aQ aR _ (hS.blk 0 rfl) (RG.mk (hS.num 2 rfl) (hS.num 1 rfl) (hS.num 0 rfl))).mono ?_
  rintro e w6 ⟨v_, rfl, hv_, hx_⟩
  replace hS := hS.mv hx_
  clear hx_
  obtain ⟨_, rfl, aA, au, aB, aC, aD, av, aE, aF, aG, aw, aH, aI, rfl, ax, ay, az⟩ := hv_
  replace hS := hS.addI ax
  clear ax
  replace hS := hS.addI ay
  clear ay
  replace hS := hS.addI az
  clear az
  have k_6 := (hS.blk 2 rfl).cell
  have k_7 := (hS.blk 2 rfl).frozen
  go_wp2
  replace hS := (St.put (W' := ((((((w6.setCell ⟨g4, 0, none⟩ (.bool aA)).setCell ⟨g4, 1, none⟩ (.slice au aB aC)).setCell ⟨g4, 2, none⟩ (.bool aD)).setCell ⟨g4, 3, none⟩ (.slice av aE aF)).setCell ⟨g4, 4, none⟩ (.bool aG)).setCell ⟨g4, 5, none⟩ (.slice aw aH aI))) hS 2 0 [.bool aA, .slice au aB aC, .bool aD, .slice av aE aF, .bool aG, .slice aw aH aI] (cs' := #[.bool aA, .slice au aB aC, .bool aD, .slice av aE aF, .bool aG, .slice aw aH aI]) (bs' := _) rfl o4 rfl rfl (by kernel_rfl) rfl)
  exact bp_gauss2 rfl rfl rfl (hS.blk 2 rfl) ⟨_, rfl, ⟨_, rfl, ⟨_, _, _, RG.mk (hS.num 2 rfl) (hS.num 1 rfl) (hS.num 0 rfl), aU, S18⟩⟩, hS.ext⟩

set_option maxRecDepth 100000 in
set_option maxHeartbeats 1600000 in
theorem fdiv_r (g : Nat) (v0 v1 : Value) (q0 q1 : GQ) (n0 n1 : Nat) (w : World) (hc : CalmF w g) (hX : GV w v0 q0 n0) (hY : GV w v1 q1 n1) (h0 : q1 ≠ GQ.i 0 0) (nr : Nat) (hn : n0 + n1 + 1 ≤ 12800) (hn2 : n1 + n1 + 1 ≤ 12800) (hb : Bd (q0 / q1) nr) (hr : nr ≤ 12800) :
    Calls Tryz.prog 78 #[.pointer (some ⟨g, 0, none⟩), v0, v1] w fun e w' => ∃ v, e = .returned v ∧ GV w' v (q0 / q1) nr ∧ Ext w w' := by
  obtain ⟨sx1, Ax1, nx1, cx1, sx2, Ax2, nx2, cx2, sx3, Ax3, nx3, cx3, rfl⟩ := hX.opn
  obtain ⟨sy1, Ay1, ny1, cy1, sy2, Ay2, ny2, cy2, sy3, Ay3, ny3, cy3, rfl⟩ := hY.opn
  have HX := Lib.hid hX; have HY := Lib.hid hY; clear hX hY
  have hE : Ext w (((w.alloc (.cells #[.bool sx1, .slice Ax1 nx1 cx1, .bool sx2, .slice Ax2 nx2 cx2, .bool sx3, .slice Ax3 nx3 cx3] 32)).alloc (.cells #[.bool sy1, .slice Ay1 ny1 cy1, .bool sy2, .slice Ay2 ny2 cy2, .bool sy3, .slice Ay3 ny3 cy3] 32)).alloc (.cells #[.bool false, .slice none 0 0, .bool false, .slice none 0 0, .bool false, .slice none 0 0] 32)) := ((Ext.new _ _).alloc _).alloc _
  have hB4 : Blk (((w.alloc (.cells #[.bool sx1, .slice Ax1 nx1 cx1, .bool sx2, .slice Ax2 nx2 cx2, .bool sx3, .slice Ax3 nx3 cx3] 32)).alloc (.cells #[.bool sy1, .slice Ay1 ny1 cy1, .bool sy2, .slice Ay2 ny2 cy2, .bool sy3, .slice Ay3 ny3 cy3] 32)).alloc (.cells #[.bool false, .slice none 0 0, .bool false, .slice none 0 0, .bool false, .slice none 0 0] 32)) w.heap.size 32 #[.bool sx1, .slice Ax1 nx1 cx1, .bool sx2, .slice Ax2 nx2 cx2, .bool sx3, .slice Ax3 nx3 cx3] := ((Blk.new _ _ _).alloc _).alloc _
  have hB5 : Blk (((w.alloc (.cells #[.bool sx1, .slice Ax1 nx1 cx1, .bool sx2, .slice Ax2 nx2 cx2, .bool sx3, .slice Ax3 nx3 cx3] 32)).alloc (.cells #[.bool sy1, .slice Ay1 ny1 cy1, .bool sy2, .slice Ay2 ny2 cy2, .bool sy3, .slice Ay3 ny3 cy3] 32)).alloc (.cells #[.bool false, .slice none 0 0, .bool false, .slice none 0 0, .bool false, .slice none 0 0] 32)) (w.heap.size + 1) 32 #[.bool sy1, .slice Ay1 ny1 cy1, .bool sy2, .slice Ay2 ny2 cy2, .bool sy3, .slice Ay3 ny3 cy3] := (Blk.new' _ _ (by simp)).alloc _
  have hB6 : Blk (((w.alloc (.cells #[.bool sx1, .slice Ax1 nx1 cx1, .bool sx2, .slice Ax2 nx2 cx2, .bool sx3, .slice Ax3 nx3 cx3] 32)).alloc (.cells #[.bool sy1, .slice Ay1 ny1 cy1, .bool sy2, .slice Ay2 ny2 cy2, .bool sy3, .slice Ay3 ny3 cy3] 32)).alloc (.cells #[.bool false, .slice none 0 0, .bool false, .slice none 0 0, .bool false, .slice none 0 0] 32)) (w.heap.size + 2) 32 #[.bool false, .slice none 0 0, .bool false, .slice none 0 0, .bool false, .slice none 0 0] := Blk.new' _ _ (by simp)
  have hc1 := hc.ext hE
  have k0 := Blk.cell hc1
  go_enter Tryz.func78, Tryz.ntmps78
  go_wp2_with fail
  refine (xDiv_r _ q0 n0 _ q1 n1 _ (HX.out.ext hE) (HY.out.ext hE) (Lib.hid h0) nr hn hn2 hb hr).mono ?_
  rintro e w2 ⟨v, rfl, ⟨u, rfl, hu⟩, hx⟩
  clear k0
  replace hE := hE.trans hx; replace hB6 := hB6.ext hx; replace hc1 := hc1.ext hx
  clear hx hB4 hB5
  go_wp2_with fail
  refine (fkeep_ok g u _ _ _ hc1 hu).mono ?_
  rintro e w3 ⟨v, rfl, hv, hx⟩
  replace hE := hE.trans hx; replace hB6 := hB6.ext hx
  clear hx hu hc1
  obtain ⟨sr1, Ar1, nr1, cr1, sr2, Ar2, nr2, cr2, sr3, Ar3, nr3, cr3, rfl⟩ := hv.opn
  have k6 := hB6.cell; have f6 := hB6.frozen
  obtain ⟨p1, p2, p3⟩ := put_gauss hE (by omega) hB6 hv
  have P1 := Lib.hid p1; have P2 := Lib.hid p2; have P3 := Lib.hid p3
  clear p1 p2 p3 hE hB6 hv
  go_wp2_with fail
  exact bp_gauss1 rfl rfl rfl P2.out ⟨_, rfl, P3.out, P1.out⟩
end Go.Proofs.YtclkkoiaaddllaaGreat
