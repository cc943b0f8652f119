/- Words and contracts that the laws share, several texts in one. -/
import Derived.Test.YtjeijmnhbckjdaaGreatDoorQNBaijn
/- Contracts of the calculator: products. -/
namespace Go.Proofs.YtjeijmnhbckjdaaGreatDoor
open Go.RowKit
set_option linter.unusedVariables false

set_option maxRecDepth 100000 in
set_option maxHeartbeats 8000000 in
theorem eproduct_w (gc : Nat) (v1 : Value) (bo bp bq : Int) (v2 : Value) (br bs bt : Int) (w : World) (hc : Calm w gc) (hX1 : RG w v1 bo bp bq) (ch : bo.natAbs < lim) (ci : bp.natAbs < lim) (cj : bq.natAbs < lim) (hX2 : RG w v2 br bs bt) (ck : br.natAbs < lim) (cl : bs.natAbs < lim) (cn : bt.natAbs < lim)
    (a4 : Int) (E24 : Hid (a4 = (gcdL [bt, bo, bp] : Nat))) (dr : a4.natAbs < lim)
    (a5 : Int) (E33 : Hid (a5 = (gcdL [bq, br, bs] : Nat))) (ds : a5.natAbs < lim)
    (aJ : Int) (E38 : Hid (aJ = bo / a4)) (dY : aJ.natAbs < lim)
    (N38 : Hid (a4 ≠ 0))
    (dt : Hid (a4 ∣ bo))
    (aK : Int) (E43 : Hid (aK = bp / a4)) (dZ : aK.natAbs < lim)
    (N43 : Hid (a4 ≠ 0))
    (du : Hid (a4 ∣ bp))
    (aL : Int) (E48 : Hid (aL = br / a5)) (e0 : aL.natAbs < lim)
    (N48 : Hid (a5 ≠ 0))
    (dv : Hid (a5 ∣ br))
    (aM : Int) (E53 : Hid (aM = bs / a5)) (e1 : aM.natAbs < lim)
    (N53 : Hid (a5 ≠ 0))
    (dw : Hid (a5 ∣ bs))
    (aX : Int) (E58 : Hid (aX = aJ * aL)) (e2 : aX.natAbs < lim)
    (aY : Int) (E62 : Hid (aY = aK * aM)) (e3 : aY.natAbs < lim)
    (bi : Int) (E63 : Hid (bi = aX - aY)) (e4 : bi.natAbs < lim)
    (aZ : Int) (E68 : Hid (aZ = aJ * aM)) (e5 : aZ.natAbs < lim)
    (b0 : Int) (E72 : Hid (b0 = aK * aL)) (e6 : b0.natAbs < lim)
    (bj : Int) (E73 : Hid (bj = aZ + b0)) (e7 : bj.natAbs < lim)
    (b1 : Int) (E79 : Hid (b1 = bq / a5)) (A79 : b1.natAbs < lim)
    (N79 : Hid (a5 ≠ 0))
    (dx : Hid (a5 ∣ bq))
    (b2 : Int) (E84 : Hid (b2 = bt / a4)) (A84 : b2.natAbs < lim)
    (N84 : Hid (a4 ≠ 0))
    (dy : Hid (a4 ∣ bt))
    (b3 : Int) (E85 : Hid (b3 = b1 * b2)) (e8 : b3.natAbs < lim)
    (N96 : Hid (b3 ≠ 0))
    (b4 b5 b6 : Int) (E96 : Hid ((b4, b5, b6) = nf bi bj b3)) (A96a : b4.natAbs < lim) (A96b : b5.natAbs < lim) (A96d : b6.natAbs < lim)  :
    Calls Tryz.prog 79 #[.pointer (some ⟨gc, 0, none⟩), v1, v2] w fun e w' => ∃ v, e = .returned v ∧ RG w' v b4 b5 b6 ∧ Ext w w' := by
  have hS := St.start w
  obtain ⟨a6, a7, a8, a9, aa, ab, ac, ad, ae, af, ag, ah, rfl, co, cp, cq⟩ := hX1
  replace hS := hS.addI co
  clear co
  replace hS := hS.addI cp
  clear cp
  replace hS := hS.addI cq
  clear cq
  obtain ⟨ai, aj, ak, am, an, ao, ap, aq, ar, au, av, aw, rfl, cr, cs, ct⟩ := hX2
  replace hS := hS.addI cr
  clear cr
  replace hS := hS.addI cs
  clear cs
  replace hS := hS.addI ct
  clear ct
  replace hS := hS.addB hc trivial
  clear hc
  have o4 : Own w w.heap.size := Own.of hS.ext (by simp)
  have o5 : Own w (w.heap.size + 1) := Own.of hS.ext (by simp)
  have o6 : Own w (w.heap.size + 2) := Own.of hS.ext (by simp)
  go_enter Tryz.func79, Tryz.ntmps79
  go_wp2_with fail
  replace hS := (St.al (St.al (St.al hS 26 #[.bool a6, .slice a7 a8 a9, .bool aa, .slice ab ac ad, .bool ae, .slice af ag ah] (g := w.heap.size) (by simp)) 26 #[.bool ai, .slice aj ak am, .bool an, .slice ao ap aq, .bool ar, .slice au av aw] (g := (w.heap.size + 1)) (by simp)) 26 #[.bool false, .slice none 0 0, .bool false, .slice none 0 0, .bool false, .slice none 0 0] (g := (w.heap.size + 2)) (by simp))
  generalize (((w.alloc (.cells #[.bool a6, .slice a7 a8 a9, .bool aa, .slice ab ac ad, .bool ae, .slice af ag ah] 26)).alloc (.cells #[.bool ai, .slice aj ak am, .bool an, .slice ao ap aq, .bool ar, .slice au av aw] 26)).alloc (.cells #[.bool false, .slice none 0 0, .bool false, .slice none 0 0, .bool false, .slice none 0 0] 26)) = w1 at hS ⊢
  generalize w.heap.size + 2 = g6 at hS o6 ⊢
  generalize w.heap.size + 1 = g5 at hS o5 ⊢
  generalize w.heap.size = g4 at hS o4 ⊢
  have Y5 := ExtOf.blk (hS.blk 1 rfl)
  have Y4 := ExtOf.blk (hS.blk 2 rfl)
  have hE_ := hS.ext
  refine wp_region_tame 20 (hasF [(7, .any), (8, .any), (16, .any), (17, .any), (18, .any), (19, .any)]) (Fcs [(7, .sl 24 3 #[.bool ar, .slice au av aw, .bool a6, .slice a7 a8 a9, .bool aa, .slice ab ac ad]), (8, .ri (a4)), (16, .sl 24 3 #[.bool ae, .slice af ag ah, .bool ai, .slice aj ak am, .bool an, .slice ao ap aq]), (17, .ri (a5)), (18, .box 24 #[.bool false, .slice none 0 0]), (19, .box 24 #[.bool false, .slice none 0 0])]) (Fcs_stab _) (by kernel_rfl) (by kernel_rfl) ?_
  simp only [tk1, tk0, dp1, dp0]
  refine wpT_quiet 7 (by rfl) (by kernel_rfl) ?_
  simp only [tk1, tk0, dp1, dp0]
  repeat (go_big_quiet_step (fail))
  refine wpQuiet_nil ?_
  refine wpT_eff (by rfl) (by rfl) (by rfl) ?_ ?_
  · intro W_ hK
    go_simp
    exact ⟨Ext.new _ _, rfl, by simp, Blk.new _ _ _⟩
  intro v_ bZ cu hr_
  obtain ⟨W_, hW_⟩ := hr_
  obtain ⟨rfl, b7, -⟩ : Fc.holds (.sl 24 3 #[.bool ar, .slice au av aw, .bool a6, .slice a7 a8 a9, .bool aa, .slice ab ac ad]) bZ cu v_ W_ := hW_.get
  clear hW_ W_
  try simp only [Act.put, sa0, sa1, sa2]
  refine wpT_eff (by rfl) (by rfl) (by rfl) ?_ ?_
  · intro W_ hK
    have hW := hK.1
    have cv : Blk W_ bZ 24 #[.bool ar, .slice au av aw, .bool a6, .slice a7 a8 a9, .bool aa, .slice ab ac ad] := (hK.2 7 _ (by rfl) (by kernel_rfl)).2.2
    clear hK
    go_simp
    exact ⟨rfl, (egcd3_ok gc bZ bt bo bp a4 _ (Blk.ext (hS.blk 3 rfl) hW) cv (RI.ext (hS.num 0 rfl) hW) (RI.ext (hS.num 5 rfl) hW) (RI.ext (hS.num 4 rfl) hW) cn ch ci E24).mono fun e w' ⟨v, he, hR, hx⟩ => ⟨v, he, hx, hR⟩⟩
  intro v_ cw cx hr_
  obtain ⟨W_, hW_⟩ := hr_
  have hv_ : Fc.holds (.ri (a4)) cw cx v_ W_ := hW_.get
  clear hW_
  obtain ⟨aN, a0, aO, aP, rfl, -⟩ := RI.opn hv_
  clear hv_
  clear W_
  try simp only [Act.put, sa0, sa1, sa2]
  refine wpT_quiet 7 (by rfl) (by kernel_rfl) ?_
  simp only [tk1, tk0, dp1, dp0]
  repeat (go_big_quiet_step (fail))
  refine wpQuiet_nil ?_
  refine wpT_eff (by rfl) (by rfl) (by rfl) ?_ ?_
  · intro W_ hK
    go_simp
    exact ⟨Ext.new _ _, rfl, by simp, Blk.new _ _ _⟩
  intro v_ c0 cy hr_
  obtain ⟨W_, hW_⟩ := hr_
  obtain ⟨rfl, b8, -⟩ : Fc.holds (.sl 24 3 #[.bool ae, .slice af ag ah, .bool ai, .slice aj ak am, .bool an, .slice ao ap aq]) c0 cy v_ W_ := hW_.get
  clear hW_ W_
  try simp only [Act.put, sa0, sa1, sa2]
  refine wpT_eff (by rfl) (by rfl) (by rfl) ?_ ?_
  · intro W_ hK
    have hW := hK.1
    have cz : Blk W_ c0 24 #[.bool ae, .slice af ag ah, .bool ai, .slice aj ak am, .bool an, .slice ao ap aq] := (hK.2 16 _ (by rfl) (by kernel_rfl)).2.2
    clear hK
    go_simp
    exact ⟨rfl, (egcd3_ok gc c0 bq br bs a5 _ (Blk.ext (hS.blk 3 rfl) hW) cz (RI.ext (hS.num 3 rfl) hW) (RI.ext (hS.num 2 rfl) hW) (RI.ext (hS.num 1 rfl) hW) cj ck cl E33).mono fun e w' ⟨v, he, hR, hx⟩ => ⟨v, he, hx, hR⟩⟩
  intro v_ cA cB hr_
  obtain ⟨W_, hW_⟩ := hr_
  have hv_ : Fc.holds (.ri (a5)) cA cB v_ W_ := hW_.get
  clear hW_
  obtain ⟨c1, ax, c2, c3, rfl, -⟩ := RI.opn hv_
  clear hv_
  clear W_
  try simp only [Act.put, sa0, sa1, sa2]
  refine wpT_eff (by rfl) (by rfl) (by rfl) ?_ ?_
  · intro W_ hK
    go_simp
    exact ⟨Ext.new _ _, rfl, by simp, Blk.new _ _ _⟩
  intro v_ g7 e9 hr_
  obtain ⟨W_, hW_⟩ := hr_
  obtain ⟨rfl, d6, -⟩ : Fc.holds (.box 24 #[.bool false, .slice none 0 0]) g7 e9 v_ W_ := hW_.get
  clear hW_ W_
  try simp only [Act.put, sa0, sa1, sa2]
  refine wpT_eff (by rfl) (by rfl) (by rfl) ?_ ?_
  · intro W_ hK
    go_simp
    exact ⟨Ext.new _ _, rfl, by simp, Blk.new _ _ _⟩
  intro v_ g8 ea hr_
  obtain ⟨W_, hW_⟩ := hr_
  obtain ⟨rfl, d7, -⟩ : Fc.holds (.box 24 #[.bool false, .slice none 0 0]) g8 ea v_ W_ := hW_.get
  clear hW_ W_
  try simp only [Act.put, sa0, sa1, sa2]
  refine wpT_nil ?_
  intro w2 hK
  have hlt_ := hS.lt
  replace hS := hS.mv hK.ext
  replace hS := hS.addI (show RI w2 (iv aN a0 aO aP) a4 from hK.at_ 8 (e := ((iv aN a0 aO aP), cw, cx)) (by rfl))
  replace hS := hS.addI (show RI w2 (iv c1 ax c2 c3) a5 from hK.at_ 17 (e := ((iv c1 ax c2 c3), cA, cB)) (by rfl))
  have bu : w1.heap.size ≤ bZ := hK.low 7 _ (by rfl)
  have o23 : Own w bZ := Own.of hE_ bu
  replace hS := hS.addB (show Blk w2 bZ 24 #[.bool ar, .slice au av aw, .bool a6, .slice a7 a8 a9, .bool aa, .slice ab ac ad] from (hK.at_ 7 (by rfl)).2.2) (apart_of fun p hp => Nat.ne_of_lt (Nat.lt_of_lt_of_le (hlt_ p hp) bu))
  have bv : w1.heap.size ≤ c0 := hK.low 16 _ (by rfl)
  have o32 : Own w c0 := Own.of hE_ bv
  replace hS := hS.addB (show Blk w2 c0 24 #[.bool ae, .slice af ag ah, .bool ai, .slice aj ak am, .bool an, .slice ao ap aq] from (hK.at_ 16 (by rfl)).2.2) ⟨tame_ne b7 b8 (hK.disj 7 16 _ _ (by omega) (by rfl) (by rfl)), (apart_of fun p hp => Nat.ne_of_lt (Nat.lt_of_lt_of_le (hlt_ p hp) bv))⟩
  have dz : w1.heap.size ≤ g7 := hK.low 18 _ (by rfl)
  have o7 : Own w g7 := Own.of hE_ dz
  replace hS := hS.addB (show Blk w2 g7 24 #[.bool false, .slice none 0 0] from (hK.at_ 18 (by rfl)).2.2) ⟨tame_ne b8 d6 (hK.disj 16 18 _ _ (by omega) (by rfl) (by rfl)), ⟨tame_ne b7 d6 (hK.disj 7 18 _ _ (by omega) (by rfl) (by rfl)), (apart_of fun p hp => Nat.ne_of_lt (Nat.lt_of_lt_of_le (hlt_ p hp) dz))⟩⟩
  have dA : w1.heap.size ≤ g8 := hK.low 19 _ (by rfl)
  have o8 : Own w g8 := Own.of hE_ dA
  replace hS := hS.addB (show Blk w2 g8 24 #[.bool false, .slice none 0 0] from (hK.at_ 19 (by rfl)).2.2) ⟨tame_ne d6 d7 (hK.disj 18 19 _ _ (by omega) (by rfl) (by rfl)), ⟨tame_ne b8 d7 (hK.disj 16 19 _ _ (by omega) (by rfl) (by rfl)), ⟨tame_ne b7 d7 (hK.disj 7 19 _ _ (by omega) (by rfl) (by rfl)), (apart_of fun p hp => Nat.ne_of_lt (Nat.lt_of_lt_of_le (hlt_ p hp) dA))⟩⟩⟩
  clear hK hlt_ hE_ Y5 Y4
  clear bu b7 cu
  clear bv b8 cy
  clear dz d6 e9
  clear dA d7 ea
  have k_1 := (hS.blk 1 rfl).cell
  have k_2 := (hS.blk 1 rfl).frozen
  have dB := (St.put (W' := ((w2.setCell ⟨g7, 0, none⟩ (.bool aN)).setCell ⟨g7, 1, none⟩ (.slice a0 aO aP))) hS 1 0 [.bool aN, .slice a0 aO aP] (cs' := #[.bool aN, .slice a0 aO aP]) (bs' := _) rfl o7 rfl rfl rfl rfl)
  have k_3 := (dB.blk 0 rfl).cell
  have k_4 := (dB.blk 0 rfl).frozen
  go_wp2_with fail
  clear k_1 k_2 k_3 k_4
  clear dB
  replace hS := (St.put (W' := ((((w2.setCell ⟨g7, 0, none⟩ (.bool aN)).setCell ⟨g7, 1, none⟩ (.slice a0 aO aP)).setCell ⟨g8, 0, none⟩ (.bool c1)).setCell ⟨g8, 1, none⟩ (.slice ax c2 c3))) (St.put (W' := ((w2.setCell ⟨g7, 0, none⟩ (.bool aN)).setCell ⟨g7, 1, none⟩ (.slice a0 aO aP))) hS 1 0 [.bool aN, .slice a0 aO aP] (cs' := #[.bool aN, .slice a0 aO aP]) (bs' := _) rfl o7 rfl rfl rfl rfl) 0 0 [.bool c1, .slice ax c2 c3] (cs' := #[.bool c1, .slice ax c2 c3]) (bs' := _) rfl o8 rfl rfl rfl rfl)
  simp only [List.set_cons_zero, List.set_cons_succ] at hS
  generalize ((((w2.setCell ⟨g7, 0, none⟩ (.bool aN)).setCell ⟨g7, 1, none⟩ (.slice a0 aO aP)).setCell ⟨g8, 0, none⟩ (.bool c1)).setCell ⟨g8, 1, none⟩ (.slice ax c2 c3)) = w3 at hS ⊢
  have Y7 := ExtOf.blk (hS.blk 1 rfl)
  have Y4 := ExtOf.blk (hS.blk 6 rfl)
  have hE_ := hS.ext
  refine wp_region_tame 12 (hasF [(4, .any), (9, .any), (10, .any), (11, .any)]) (Fcs [(4, .ri (aJ)), (9, .ri (aK)), (10, .box 24 #[.bool false, .slice none 0 0]), (11, .box 24 #[.bool false, .slice none 0 0])]) (Fcs_stab _) (by kernel_rfl) (by kernel_rfl) ?_
  simp only [tk1, tk0, dp1, dp0]
  refine wpT_quiet 4 (by rfl) (by kernel_rfl) ?_
  simp only [tk1, tk0, dp1, dp0]
  repeat (go_big_quiet_step (fail))
  refine wpQuiet_nil ?_
  refine wpT_eff (by rfl) (by rfl) (by rfl) ?_ ?_
  · intro W_ hK
    have hW := hK.1
    clear hK
    go_simp
    exact ⟨rfl, (ediv_ok gc _ _ bo a4 aJ _ (Blk.ext (hS.blk 7 rfl) hW) (RI.ext (hS.num 7 rfl) hW) (RI.ext (hS.num 1 rfl) hW) ch dr N38.out dt.out E38.out).mono fun e w' ⟨v, he, hR, hx⟩ => ⟨v, he, hx, hR⟩⟩
  intro v_ cC cD hr_
  obtain ⟨W_, hW_⟩ := hr_
  have hv_ : Fc.holds (.ri (aJ)) cC cD v_ W_ := hW_.get
  clear hW_
  obtain ⟨aQ, a1, aR, aS, rfl, -⟩ := RI.opn hv_
  clear hv_
  clear W_
  try simp only [Act.put, sa0, sa1, sa2]
  refine wpT_quiet 4 (by rfl) (by kernel_rfl) ?_
  simp only [tk1, tk0, dp1, dp0]
  repeat (go_big_quiet_step (fail))
  refine wpQuiet_nil ?_
  refine wpT_eff (by rfl) (by rfl) (by rfl) ?_ ?_
  · intro W_ hK
    have hW := hK.1
    clear hK
    go_simp
    exact ⟨rfl, (ediv_ok gc _ _ bp a4 aK _ (Blk.ext (hS.blk 7 rfl) hW) (RI.ext (hS.num 6 rfl) hW) (RI.ext (hS.num 1 rfl) hW) ci dr N43.out du.out E43.out).mono fun e w' ⟨v, he, hR, hx⟩ => ⟨v, he, hx, hR⟩⟩
  intro v_ cE cF hr_
  obtain ⟨W_, hW_⟩ := hr_
  have hv_ : Fc.holds (.ri (aK)) cE cF v_ W_ := hW_.get
  clear hW_
  obtain ⟨c4, ay, c5, c6, rfl, -⟩ := RI.opn hv_
  clear hv_
  clear W_
  try simp only [Act.put, sa0, sa1, sa2]
  refine wpT_eff (by rfl) (by rfl) (by rfl) ?_ ?_
  · intro W_ hK
    go_simp
    exact ⟨Ext.new _ _, rfl, by simp, Blk.new _ _ _⟩
  intro v_ g9 eb hr_
  obtain ⟨W_, hW_⟩ := hr_
  obtain ⟨rfl, ec, -⟩ : Fc.holds (.box 24 #[.bool false, .slice none 0 0]) g9 eb v_ W_ := hW_.get
  clear hW_ W_
  try simp only [Act.put, sa0, sa1, sa2]
  refine wpT_eff (by rfl) (by rfl) (by rfl) ?_ ?_
  · intro W_ hK
    go_simp
    exact ⟨Ext.new _ _, rfl, by simp, Blk.new _ _ _⟩
  intro v_ bk cG hr_
  obtain ⟨W_, hW_⟩ := hr_
  obtain ⟨rfl, cH, -⟩ : Fc.holds (.box 24 #[.bool false, .slice none 0 0]) bk cG v_ W_ := hW_.get
  clear hW_ W_
  try simp only [Act.put, sa0, sa1, sa2]
  refine wpT_nil ?_
  intro w4 hK
  have hlt_ := hS.lt
  replace hS := hS.mv hK.ext
  replace hS := hS.addI (show RI w4 (iv aQ a1 aR aS) aJ from hK.at_ 4 (e := ((iv aQ a1 aR aS), cC, cD)) (by rfl))
  replace hS := hS.addI (show RI w4 (iv c4 ay c5 c6) aK from hK.at_ 9 (e := ((iv c4 ay c5 c6), cE, cF)) (by rfl))
  have dC : w3.heap.size ≤ g9 := hK.low 10 _ (by rfl)
  have o9 : Own w g9 := Own.of hE_ dC
  replace hS := hS.addB (show Blk w4 g9 24 #[.bool false, .slice none 0 0] from (hK.at_ 10 (by rfl)).2.2) (apart_of fun p hp => Nat.ne_of_lt (Nat.lt_of_lt_of_le (hlt_ p hp) dC))
  have bw : w3.heap.size ≤ bk := hK.low 11 _ (by rfl)
  have o10 : Own w bk := Own.of hE_ bw
  replace hS := hS.addB (show Blk w4 bk 24 #[.bool false, .slice none 0 0] from (hK.at_ 11 (by rfl)).2.2) ⟨tame_ne ec cH (hK.disj 10 11 _ _ (by omega) (by rfl) (by rfl)), (apart_of fun p hp => Nat.ne_of_lt (Nat.lt_of_lt_of_le (hlt_ p hp) bw))⟩
  clear hK hlt_ hE_ Y7 Y4
  clear dC ec eb
  clear bw cH cG
  have k_5 := (hS.blk 1 rfl).cell
  have k_6 := (hS.blk 1 rfl).frozen
  have dD := (St.put (W' := ((w4.setCell ⟨g9, 0, none⟩ (.bool aQ)).setCell ⟨g9, 1, none⟩ (.slice a1 aR aS))) hS 1 0 [.bool aQ, .slice a1 aR aS] (cs' := #[.bool aQ, .slice a1 aR aS]) (bs' := _) rfl o9 rfl rfl rfl rfl)
  have k_7 := (dD.blk 0 rfl).cell
  have k_8 := (dD.blk 0 rfl).frozen
  go_wp2_with fail
  clear k_5 k_6 k_7 k_8
  clear dD
  replace hS := (St.put (W' := ((((w4.setCell ⟨g9, 0, none⟩ (.bool aQ)).setCell ⟨g9, 1, none⟩ (.slice a1 aR aS)).setCell ⟨bk, 0, none⟩ (.bool c4)).setCell ⟨bk, 1, none⟩ (.slice ay c5 c6))) (St.put (W' := ((w4.setCell ⟨g9, 0, none⟩ (.bool aQ)).setCell ⟨g9, 1, none⟩ (.slice a1 aR aS))) hS 1 0 [.bool aQ, .slice a1 aR aS] (cs' := #[.bool aQ, .slice a1 aR aS]) (bs' := _) rfl o9 rfl rfl rfl rfl) 0 0 [.bool c4, .slice ay c5 c6] (cs' := #[.bool c4, .slice ay c5 c6]) (bs' := _) rfl o10 rfl rfl rfl rfl)
  simp only [List.set_cons_zero, List.set_cons_succ] at hS
  generalize ((((w4.setCell ⟨g9, 0, none⟩ (.bool aQ)).setCell ⟨g9, 1, none⟩ (.slice a1 aR aS)).setCell ⟨bk, 0, none⟩ (.bool c4)).setCell ⟨bk, 1, none⟩ (.slice ay c5 c6)) = w5 at hS ⊢
  have Y8 := ExtOf.blk (hS.blk 2 rfl)
  have Y5 := ExtOf.blk (hS.blk 7 rfl)
  have hE_ := hS.ext
  refine wp_region_tame 12 (hasF [(4, .any), (9, .any), (10, .any), (11, .any)]) (Fcs [(4, .ri (aL)), (9, .ri (aM)), (10, .box 24 #[.bool false, .slice none 0 0]), (11, .box 24 #[.bool false, .slice none 0 0])]) (Fcs_stab _) (by kernel_rfl) (by kernel_rfl) ?_
  simp only [tk1, tk0, dp1, dp0]
  refine wpT_quiet 4 (by rfl) (by kernel_rfl) ?_
  simp only [tk1, tk0, dp1, dp0]
  repeat (go_big_quiet_step (fail))
  refine wpQuiet_nil ?_
  refine wpT_eff (by rfl) (by rfl) (by rfl) ?_ ?_
  · intro W_ hK
    have hW := hK.1
    clear hK
    go_simp
    exact ⟨rfl, (ediv_ok gc _ _ br a5 aL _ (Blk.ext (hS.blk 9 rfl) hW) (RI.ext (hS.num 6 rfl) hW) (RI.ext (hS.num 2 rfl) hW) ck ds N48.out dv.out E48.out).mono fun e w' ⟨v, he, hR, hx⟩ => ⟨v, he, hx, hR⟩⟩
  intro v_ cI cJ hr_
  obtain ⟨W_, hW_⟩ := hr_
  have hv_ : Fc.holds (.ri (aL)) cI cJ v_ W_ := hW_.get
  clear hW_
  obtain ⟨aT, a2, aU, aV, rfl, -⟩ := RI.opn hv_
  clear hv_
  clear W_
  try simp only [Act.put, sa0, sa1, sa2]
  refine wpT_quiet 4 (by rfl) (by kernel_rfl) ?_
  simp only [tk1, tk0, dp1, dp0]
  repeat (go_big_quiet_step (fail))
  refine wpQuiet_nil ?_
  refine wpT_eff (by rfl) (by rfl) (by rfl) ?_ ?_
  · intro W_ hK
    have hW := hK.1
    clear hK
    go_simp
    exact ⟨rfl, (ediv_ok gc _ _ bs a5 aM _ (Blk.ext (hS.blk 9 rfl) hW) (RI.ext (hS.num 5 rfl) hW) (RI.ext (hS.num 2 rfl) hW) cl ds N53.out dw.out E53.out).mono fun e w' ⟨v, he, hR, hx⟩ => ⟨v, he, hx, hR⟩⟩
  intro v_ cK cL hr_
  obtain ⟨W_, hW_⟩ := hr_
  have hv_ : Fc.holds (.ri (aM)) cK cL v_ W_ := hW_.get
  clear hW_
  obtain ⟨c7, az, c8, c9, rfl, -⟩ := RI.opn hv_
  clear hv_
  clear W_
  try simp only [Act.put, sa0, sa1, sa2]
  refine wpT_eff (by rfl) (by rfl) (by rfl) ?_ ?_
  · intro W_ hK
    go_simp
    exact ⟨Ext.new _ _, rfl, by simp, Blk.new _ _ _⟩
  intro v_ aC cM hr_
  obtain ⟨W_, hW_⟩ := hr_
  obtain ⟨rfl, cN, -⟩ : Fc.holds (.box 24 #[.bool false, .slice none 0 0]) aC cM v_ W_ := hW_.get
  clear hW_ W_
  try simp only [Act.put, sa0, sa1, sa2]
  refine wpT_eff (by rfl) (by rfl) (by rfl) ?_ ?_
  · intro W_ hK
    go_simp
    exact ⟨Ext.new _ _, rfl, by simp, Blk.new _ _ _⟩
  intro v_ bl cO hr_
  obtain ⟨W_, hW_⟩ := hr_
  obtain ⟨rfl, cP, -⟩ : Fc.holds (.box 24 #[.bool false, .slice none 0 0]) bl cO v_ W_ := hW_.get
  clear hW_ W_
  try simp only [Act.put, sa0, sa1, sa2]
  refine wpT_nil ?_
  intro w6 hK
  have hlt_ := hS.lt
  replace hS := hS.mv hK.ext
  replace hS := hS.addI (show RI w6 (iv aT a2 aU aV) aL from hK.at_ 4 (e := ((iv aT a2 aU aV), cI, cJ)) (by rfl))
  replace hS := hS.addI (show RI w6 (iv c7 az c8 c9) aM from hK.at_ 9 (e := ((iv c7 az c8 c9), cK, cL)) (by rfl))
  have bx : w5.heap.size ≤ aC := hK.low 10 _ (by rfl)
  have ed : Own w aC := Own.of hE_ bx
  replace hS := hS.addB (show Blk w6 aC 24 #[.bool false, .slice none 0 0] from (hK.at_ 10 (by rfl)).2.2) (apart_of fun p hp => Nat.ne_of_lt (Nat.lt_of_lt_of_le (hlt_ p hp) bx))
  have bz : w5.heap.size ≤ bl := hK.low 11 _ (by rfl)
  have o12 : Own w bl := Own.of hE_ bz
  replace hS := hS.addB (show Blk w6 bl 24 #[.bool false, .slice none 0 0] from (hK.at_ 11 (by rfl)).2.2) ⟨tame_ne cN cP (hK.disj 10 11 _ _ (by omega) (by rfl) (by rfl)), (apart_of fun p hp => Nat.ne_of_lt (Nat.lt_of_lt_of_le (hlt_ p hp) bz))⟩
  clear hK hlt_ hE_ Y8 Y5
  clear bx cN cM
  clear bz cP cO
  have k_9 := (hS.blk 1 rfl).cell
  have dE := (hS.blk 1 rfl).frozen
  have dF := (St.put (W' := ((w6.setCell ⟨aC, 0, none⟩ (.bool aT)).setCell ⟨aC, 1, none⟩ (.slice a2 aU aV))) hS 1 0 [.bool aT, .slice a2 aU aV] (cs' := #[.bool aT, .slice a2 aU aV]) (bs' := _) rfl ed rfl rfl rfl rfl)
  have dG := (dF.blk 0 rfl).cell
  have dH := (dF.blk 0 rfl).frozen
  go_wp2_with fail
  clear k_9 dE dG dH
  clear dF
  replace hS := (St.put (W' := ((((w6.setCell ⟨aC, 0, none⟩ (.bool aT)).setCell ⟨aC, 1, none⟩ (.slice a2 aU aV)).setCell ⟨bl, 0, none⟩ (.bool c7)).setCell ⟨bl, 1, none⟩ (.slice az c8 c9))) (St.put (W' := ((w6.setCell ⟨aC, 0, none⟩ (.bool aT)).setCell ⟨aC, 1, none⟩ (.slice a2 aU aV))) hS 1 0 [.bool aT, .slice a2 aU aV] (cs' := #[.bool aT, .slice a2 aU aV]) (bs' := _) rfl ed rfl rfl rfl rfl) 0 0 [.bool c7, .slice az c8 c9] (cs' := #[.bool c7, .slice az c8 c9]) (bs' := _) rfl o12 rfl rfl rfl rfl)
  simp only [List.set_cons_zero, List.set_cons_succ] at hS
  generalize ((((w6.setCell ⟨aC, 0, none⟩ (.bool aT)).setCell ⟨aC, 1, none⟩ (.slice a2 aU aV)).setCell ⟨bl, 0, none⟩ (.bool c7)).setCell ⟨bl, 1, none⟩ (.slice az c8 c9)) = w7 at hS ⊢
  have dI := ExtOf.blk (hS.blk 0 rfl)
  have dJ := ExtOf.blk (hS.blk 1 rfl)
  have dK := ExtOf.blk (hS.blk 2 rfl)
  have Y9 := ExtOf.blk (hS.blk 3 rfl)
  have hE_ := hS.ext
  refine wp_region_tame 11 (hasF [(4, .any), (8, .any), (9, .any), (10, .any)]) (Fcs [(4, .ri (aX)), (8, .ri (aY)), (9, .ri (bi)), (10, .box 24 #[.bool false, .slice none 0 0])]) (Fcs_stab _) (by kernel_rfl) (by kernel_rfl) ?_
  simp only [tk1, tk0, dp1, dp0]
  refine wpT_quiet 4 (by rfl) (by kernel_rfl) ?_
  simp only [tk1, tk0, dp1, dp0]
  repeat (go_big_quiet_step (fail))
  refine wpQuiet_nil ?_
  refine wpT_eff (by rfl) (by rfl) (by rfl) ?_ ?_
  · intro W_ hK
    have hW := hK.1
    clear hK
    go_simp
    exact ⟨rfl, (emul_ok gc _ _ aJ aL aX _ (Blk.ext (hS.blk 11 rfl) hW) (RI.ext (hS.num 3 rfl) hW) (RI.ext (hS.num 1 rfl) hW) dY e0 E58.out e2).mono fun e w' ⟨v, he, hR, hx⟩ => ⟨v, he, hx, hR⟩⟩
  intro v_ bA bB hr_
  obtain ⟨W_, hW_⟩ := hr_
  have hv_ : Fc.holds (.ri (aX)) bA bB v_ W_ := hW_.get
  clear hW_
  obtain ⟨d8, b9, d9, da, rfl, -⟩ := RI.opn hv_
  clear hv_
  clear W_
  try simp only [Act.put, sa0, sa1, sa2]
  refine wpT_quiet 3 (by rfl) (by kernel_rfl) ?_
  simp only [tk1, tk0, dp1, dp0]
  repeat (go_big_quiet_step (fail))
  refine wpQuiet_nil ?_
  refine wpT_eff (by rfl) (by rfl) (by rfl) ?_ ?_
  · intro W_ hK
    have hW := hK.1
    clear hK
    go_simp
    exact ⟨rfl, (emul_ok gc _ _ aK aM aY _ (Blk.ext (hS.blk 11 rfl) hW) (RI.ext (hS.num 2 rfl) hW) (RI.ext (hS.num 0 rfl) hW) dZ e1 E62.out e3).mono fun e w' ⟨v, he, hR, hx⟩ => ⟨v, he, hx, hR⟩⟩
  intro v_ bC bD hr_
  obtain ⟨W_, hW_⟩ := hr_
  have hv_ : Fc.holds (.ri (aY)) bC bD v_ W_ := hW_.get
  clear hW_
  obtain ⟨db, ba, dc, dd, rfl, -⟩ := RI.opn hv_
  clear hv_
  clear W_
  try simp only [Act.put, sa0, sa1, sa2]
  refine wpT_eff (by rfl) (by rfl) (by rfl) ?_ ?_
  · intro W_ hK
    have hW := hK.1
    have cQ : RI W_ (iv d8 b9 d9 da) aX := hK.2 4 ((iv d8 b9 d9 da), bA, bB) (by rfl) (by kernel_rfl)
    have cR : RI W_ (iv db ba dc dd) aY := hK.2 8 ((iv db ba dc dd), bC, bD) (by rfl) (by kernel_rfl)
    clear hK
    go_simp
    exact ⟨rfl, (esub_ok gc _ _ aX aY bi _ (Blk.ext (hS.blk 11 rfl) hW) cQ cR e2 e3 E63.out e4).mono fun e w' ⟨v, he, hR, hx⟩ => ⟨v, he, hx, hR⟩⟩
  intro v_ cS cT hr_
  obtain ⟨W_, hW_⟩ := hr_
  have hv_ : Fc.holds (.ri (bi)) cS cT v_ W_ := hW_.get
  clear hW_
  obtain ⟨ca, aA, cb, cc, rfl, -⟩ := RI.opn hv_
  clear hv_
  clear W_
  try simp only [Act.put, sa0, sa1, sa2]
  refine wpT_eff (by rfl) (by rfl) (by rfl) ?_ ?_
  · intro W_ hK
    go_simp
    exact ⟨Ext.new _ _, rfl, by simp, Blk.new _ _ _⟩
  intro v_ bm cU hr_
  obtain ⟨W_, hW_⟩ := hr_
  obtain ⟨rfl, dL, -⟩ : Fc.holds (.box 24 #[.bool false, .slice none 0 0]) bm cU v_ W_ := hW_.get
  clear hW_ W_
  try simp only [Act.put, sa0, sa1, sa2]
  refine wpT_nil ?_
  intro w8 hK
  have hlt_ := hS.lt
  replace hS := hS.mv hK.ext
  replace hS := hS.addI (show RI w8 (iv d8 b9 d9 da) aX from hK.at_ 4 (e := ((iv d8 b9 d9 da), bA, bB)) (by rfl))
  replace hS := hS.addI (show RI w8 (iv db ba dc dd) aY from hK.at_ 8 (e := ((iv db ba dc dd), bC, bD)) (by rfl))
  replace hS := hS.addI (show RI w8 (iv ca aA cb cc) bi from hK.at_ 9 (e := ((iv ca aA cb cc), cS, cT)) (by rfl))
  have bE : w7.heap.size ≤ bm := hK.low 10 _ (by rfl)
  have o13 : Own w bm := Own.of hE_ bE
  replace hS := hS.addB (show Blk w8 bm 24 #[.bool false, .slice none 0 0] from (hK.at_ 10 (by rfl)).2.2) (apart_of fun p hp => Nat.ne_of_lt (Nat.lt_of_lt_of_le (hlt_ p hp) bE))
  clear hK hlt_ hE_ dI dJ dK Y9
  clear bE dL cU
  have dM := (hS.blk 0 rfl).cell
  have dN := (hS.blk 0 rfl).frozen
  go_wp2_with fail
  clear dM dN
  replace hS := (St.put (W' := ((w8.setCell ⟨bm, 0, none⟩ (.bool ca)).setCell ⟨bm, 1, none⟩ (.slice aA cb cc))) hS 0 0 [.bool ca, .slice aA cb cc] (cs' := #[.bool ca, .slice aA cb cc]) (bs' := _) rfl o13 rfl rfl rfl rfl)
  simp only [List.set_cons_zero] at hS
  generalize ((w8.setCell ⟨bm, 0, none⟩ (.bool ca)).setCell ⟨bm, 1, none⟩ (.slice aA cb cc)) = w9 at hS ⊢
  have dI := ExtOf.blk (hS.blk 1 rfl)
  have dJ := ExtOf.blk (hS.blk 2 rfl)
  have dK := ExtOf.blk (hS.blk 3 rfl)
  have Y9 := ExtOf.blk (hS.blk 4 rfl)
  have hE_ := hS.ext
  refine wp_region_tame 11 (hasF [(4, .any), (8, .any), (9, .any), (10, .any)]) (Fcs [(4, .ri (aZ)), (8, .ri (b0)), (9, .ri (bj)), (10, .box 24 #[.bool false, .slice none 0 0])]) (Fcs_stab _) (by kernel_rfl) (by kernel_rfl) ?_
  simp only [tk1, tk0, dp1, dp0]
  refine wpT_quiet 4 (by rfl) (by kernel_rfl) ?_
  simp only [tk1, tk0, dp1, dp0]
  repeat (go_big_quiet_step (fail))
  refine wpQuiet_nil ?_
  refine wpT_eff (by rfl) (by rfl) (by rfl) ?_ ?_
  · intro W_ hK
    have hW := hK.1
    clear hK
    go_simp
    exact ⟨rfl, (emul_ok gc _ _ aJ aM aZ _ (Blk.ext (hS.blk 12 rfl) hW) (RI.ext (hS.num 6 rfl) hW) (RI.ext (hS.num 3 rfl) hW) dY e1 E68.out e5).mono fun e w' ⟨v, he, hR, hx⟩ => ⟨v, he, hx, hR⟩⟩
  intro v_ bF bG hr_
  obtain ⟨W_, hW_⟩ := hr_
  have hv_ : Fc.holds (.ri (aZ)) bF bG v_ W_ := hW_.get
  clear hW_
  obtain ⟨de, bb, df, dg, rfl, -⟩ := RI.opn hv_
  clear hv_
  clear W_
  try simp only [Act.put, sa0, sa1, sa2]
  refine wpT_quiet 3 (by rfl) (by kernel_rfl) ?_
  simp only [tk1, tk0, dp1, dp0]
  repeat (go_big_quiet_step (fail))
  refine wpQuiet_nil ?_
  refine wpT_eff (by rfl) (by rfl) (by rfl) ?_ ?_
  · intro W_ hK
    have hW := hK.1
    clear hK
    go_simp
    exact ⟨rfl, (emul_ok gc _ _ aK aL b0 _ (Blk.ext (hS.blk 12 rfl) hW) (RI.ext (hS.num 5 rfl) hW) (RI.ext (hS.num 4 rfl) hW) dZ e0 E72.out e6).mono fun e w' ⟨v, he, hR, hx⟩ => ⟨v, he, hx, hR⟩⟩
  intro v_ bH bI hr_
  obtain ⟨W_, hW_⟩ := hr_
  have hv_ : Fc.holds (.ri (b0)) bH bI v_ W_ := hW_.get
  clear hW_
  obtain ⟨dh, bc, di, dj, rfl, -⟩ := RI.opn hv_
  clear hv_
  clear W_
  try simp only [Act.put, sa0, sa1, sa2]
  refine wpT_eff (by rfl) (by rfl) (by rfl) ?_ ?_
  · intro W_ hK
    have hW := hK.1
    have cV : RI W_ (iv de bb df dg) aZ := hK.2 4 ((iv de bb df dg), bF, bG) (by rfl) (by kernel_rfl)
    have cW : RI W_ (iv dh bc di dj) b0 := hK.2 8 ((iv dh bc di dj), bH, bI) (by rfl) (by kernel_rfl)
    clear hK
    go_simp
    exact ⟨rfl, (eadd_ok gc _ _ aZ b0 bj _ (Blk.ext (hS.blk 12 rfl) hW) cV cW e5 e6 E73.out e7).mono fun e w' ⟨v, he, hR, hx⟩ => ⟨v, he, hx, hR⟩⟩
  intro v_ cX cY hr_
  obtain ⟨W_, hW_⟩ := hr_
  have hv_ : Fc.holds (.ri (bj)) cX cY v_ W_ := hW_.get
  clear hW_
  obtain ⟨cd, aB, ce, cf, rfl, -⟩ := RI.opn hv_
  clear hv_
  clear W_
  try simp only [Act.put, sa0, sa1, sa2]
  refine wpT_eff (by rfl) (by rfl) (by rfl) ?_ ?_
  · intro W_ hK
    go_simp
    exact ⟨Ext.new _ _, rfl, by simp, Blk.new _ _ _⟩
  intro v_ bn cZ hr_
  obtain ⟨W_, hW_⟩ := hr_
  obtain ⟨rfl, dO, -⟩ : Fc.holds (.box 24 #[.bool false, .slice none 0 0]) bn cZ v_ W_ := hW_.get
  clear hW_ W_
  try simp only [Act.put, sa0, sa1, sa2]
  refine wpT_nil ?_
  intro cg hK
  have hlt_ := hS.lt
  replace hS := hS.mv hK.ext
  replace hS := hS.addI (show RI cg (iv de bb df dg) aZ from hK.at_ 4 (e := ((iv de bb df dg), bF, bG)) (by rfl))
  replace hS := hS.addI (show RI cg (iv dh bc di dj) b0 from hK.at_ 8 (e := ((iv dh bc di dj), bH, bI)) (by rfl))
  replace hS := hS.addI (show RI cg (iv cd aB ce cf) bj from hK.at_ 9 (e := ((iv cd aB ce cf), cX, cY)) (by rfl))
  have bJ : w9.heap.size ≤ bn := hK.low 10 _ (by rfl)
  have o14 : Own w bn := Own.of hE_ bJ
  replace hS := hS.addB (show Blk cg bn 24 #[.bool false, .slice none 0 0] from (hK.at_ 10 (by rfl)).2.2) (apart_of fun p hp => Nat.ne_of_lt (Nat.lt_of_lt_of_le (hlt_ p hp) bJ))
  clear hK hlt_ hE_ dI dJ dK Y9
  clear bJ dO cZ
  have dP := (hS.blk 0 rfl).cell
  have dQ := (hS.blk 0 rfl).frozen
  go_wp2_with fail
  clear dP dQ
  replace hS := (St.put (W' := ((cg.setCell ⟨bn, 0, none⟩ (.bool cd)).setCell ⟨bn, 1, none⟩ (.slice aB ce cf))) hS 0 0 [.bool cd, .slice aB ce cf] (cs' := #[.bool cd, .slice aB ce cf]) (bs' := _) rfl o14 rfl rfl rfl rfl)
  simp only [List.set_cons_zero] at hS
  generalize ((cg.setCell ⟨bn, 0, none⟩ (.bool cd)).setCell ⟨bn, 1, none⟩ (.slice aB ce cf)) = w11 at hS ⊢
  have Y8 := ExtOf.blk (hS.blk 6 rfl)
  have Y7 := ExtOf.blk (hS.blk 7 rfl)
  have Y5 := ExtOf.blk (hS.blk 11 rfl)
  have Y4 := ExtOf.blk (hS.blk 12 rfl)
  have hE_ := hS.ext
  refine wp_region_tame 13 (hasF [(5, .any), (10, .any), (11, .any), (12, .any)]) (Fcs [(5, .ri (b1)), (10, .ri (b2)), (11, .ri (b3)), (12, .box 24 #[.bool false, .slice none 0 0])]) (Fcs_stab _) (by kernel_rfl) (by kernel_rfl) ?_
  simp only [tk1, tk0, dp1, dp0]
  refine wpT_quiet 5 (by rfl) (by kernel_rfl) ?_
  simp only [tk1, tk0, dp1, dp0]
  repeat (go_big_quiet_step (fail))
  refine wpQuiet_nil ?_
  refine wpT_eff (by rfl) (by rfl) (by rfl) ?_ ?_
  · intro W_ hK
    have hW := hK.1
    clear hK
    go_simp
    exact ⟨rfl, (ediv_ok gc _ _ bq a5 b1 _ (Blk.ext (hS.blk 13 rfl) hW) (RI.ext (hS.num 15 rfl) hW) (RI.ext (hS.num 10 rfl) hW) cj ds N79.out dx.out E79.out).mono fun e w' ⟨v, he, hR, hx⟩ => ⟨v, he, hx, hR⟩⟩
  intro v_ bK bL hr_
  obtain ⟨W_, hW_⟩ := hr_
  have hv_ : Fc.holds (.ri (b1)) bK bL v_ W_ := hW_.get
  clear hW_
  obtain ⟨dk, bd, dl, dm, rfl, -⟩ := RI.opn hv_
  clear hv_
  clear W_
  try simp only [Act.put, sa0, sa1, sa2]
  refine wpT_quiet 4 (by rfl) (by kernel_rfl) ?_
  simp only [tk1, tk0, dp1, dp0]
  repeat (go_big_quiet_step (fail))
  refine wpQuiet_nil ?_
  refine wpT_eff (by rfl) (by rfl) (by rfl) ?_ ?_
  · intro W_ hK
    have hW := hK.1
    clear hK
    go_simp
    exact ⟨rfl, (ediv_ok gc _ _ bt a4 b2 _ (Blk.ext (hS.blk 13 rfl) hW) (RI.ext (hS.num 12 rfl) hW) (RI.ext (hS.num 11 rfl) hW) cn dr N84.out dy.out E84.out).mono fun e w' ⟨v, he, hR, hx⟩ => ⟨v, he, hx, hR⟩⟩
  intro v_ bM bN hr_
  obtain ⟨W_, hW_⟩ := hr_
  have hv_ : Fc.holds (.ri (b2)) bM bN v_ W_ := hW_.get
  clear hW_
  obtain ⟨dn, be, dp, dq, rfl, -⟩ := RI.opn hv_
  clear hv_
  clear W_
  try simp only [Act.put, sa0, sa1, sa2]
  refine wpT_eff (by rfl) (by rfl) (by rfl) ?_ ?_
  · intro W_ hK
    have hW := hK.1
    have d0 : RI W_ (iv dk bd dl dm) b1 := hK.2 5 ((iv dk bd dl dm), bK, bL) (by rfl) (by kernel_rfl)
    have d1 : RI W_ (iv dn be dp dq) b2 := hK.2 10 ((iv dn be dp dq), bM, bN) (by rfl) (by kernel_rfl)
    clear hK
    go_simp
    exact ⟨rfl, (emul_ok gc _ _ b1 b2 b3 _ (Blk.ext (hS.blk 13 rfl) hW) d0 d1 A79 A84 E85.out e8).mono fun e w' ⟨v, he, hR, hx⟩ => ⟨v, he, hx, hR⟩⟩
  intro v_ d2 d3 hr_
  obtain ⟨W_, hW_⟩ := hr_
  have hv_ : Fc.holds (.ri (b3)) d2 d3 v_ W_ := hW_.get
  clear hW_
  obtain ⟨bf, a3, bg, bh, rfl, -⟩ := RI.opn hv_
  clear hv_
  clear W_
  try simp only [Act.put, sa0, sa1, sa2]
  refine wpT_eff (by rfl) (by rfl) (by rfl) ?_ ?_
  · intro W_ hK
    go_simp
    exact ⟨Ext.new _ _, rfl, by simp, Blk.new _ _ _⟩
  intro v_ aW d4 hr_
  obtain ⟨W_, hW_⟩ := hr_
  obtain ⟨rfl, dR, -⟩ : Fc.holds (.box 24 #[.bool false, .slice none 0 0]) aW d4 v_ W_ := hW_.get
  clear hW_ W_
  try simp only [Act.put, sa0, sa1, sa2]
  refine wpT_nil ?_
  intro bO hK
  have hlt_ := hS.lt
  replace hS := hS.mv hK.ext
  replace hS := hS.addI (show RI bO (iv dk bd dl dm) b1 from hK.at_ 5 (e := ((iv dk bd dl dm), bK, bL)) (by rfl))
  replace hS := hS.addI (show RI bO (iv dn be dp dq) b2 from hK.at_ 10 (e := ((iv dn be dp dq), bM, bN)) (by rfl))
  replace hS := hS.addI (show RI bO (iv bf a3 bg bh) b3 from hK.at_ 11 (e := ((iv bf a3 bg bh), d2, d3)) (by rfl))
  have bP : w11.heap.size ≤ aW := hK.low 12 _ (by rfl)
  have ee : Own w aW := Own.of hE_ bP
  replace hS := hS.addB (show Blk bO aW 24 #[.bool false, .slice none 0 0] from (hK.at_ 12 (by rfl)).2.2) (apart_of fun p hp => Nat.ne_of_lt (Nat.lt_of_lt_of_le (hlt_ p hp) bP))
  clear hK hlt_ hE_ Y8 Y7 Y5 Y4
  clear bP dR d4
  have dS := (hS.blk 0 rfl).cell
  have dT := (hS.blk 0 rfl).frozen
  have d5 := (St.put (W' := ((bO.setCell ⟨aW, 0, none⟩ (.bool bf)).setCell ⟨aW, 1, none⟩ (.slice a3 bg bh))) hS 0 0 [.bool bf, .slice a3 bg bh] (cs' := #[.bool bf, .slice a3 bg bh]) (bs' := _) rfl ee rfl rfl rfl rfl)
  have dU := (d5.blk 14 rfl).cell
  have dV := (d5.blk 2 rfl).cell
  have dW := (d5.blk 1 rfl).cell
  have dX := (d5.blk 0 rfl).cell
  go_wp2_with fail
  clear dS dT dU dV dW dX
  clear d5
  replace hS := (St.put (W' := ((bO.setCell ⟨aW, 0, none⟩ (.bool bf)).setCell ⟨aW, 1, none⟩ (.slice a3 bg bh))) hS 0 0 [.bool bf, .slice a3 bg bh] (cs' := #[.bool bf, .slice a3 bg bh]) (bs' := _) rfl ee rfl rfl rfl rfl)
  simp only [List.set_cons_zero] at hS
  generalize ((bO.setCell ⟨aW, 0, none⟩ (.bool bf)).setCell ⟨aW, 1, none⟩ (.slice a3 bg bh)) = w13 at hS ⊢
  refine (ereduce_ok gc _ _ _ bi bj b3 b4 b5 b6 _ (hS.blk 14 rfl) (hS.num 6 rfl) (hS.num 3 rfl) (hS.num 0 rfl) e4 e7 e8 N96.out E96.out).mono ?_
  rintro e w14 ⟨v_, rfl, hv_, hx_⟩
  replace hS := hS.mv hx_
  clear hx_
  obtain ⟨bQ, aD, bR, bS, bT, aE, bU, bV, bW, aF, bX, bY, rfl, aG, aH, aI⟩ := hv_
  replace hS := hS.addI aG
  clear aG
  replace hS := hS.addI aH
  clear aH
  replace hS := hS.addI aI
  clear aI
  have k_23 := (hS.blk 11 rfl).cell
  have k_24 := (hS.blk 11 rfl).frozen
  go_wp2
  replace hS := (St.put (W' := ((((((w14.setCell ⟨g6, 0, none⟩ (.bool bQ)).setCell ⟨g6, 1, none⟩ (.slice aD bR bS)).setCell ⟨g6, 2, none⟩ (.bool bT)).setCell ⟨g6, 3, none⟩ (.slice aE bU bV)).setCell ⟨g6, 4, none⟩ (.bool bW)).setCell ⟨g6, 5, none⟩ (.slice aF bX bY))) hS 11 0 [.bool bQ, .slice aD bR bS, .bool bT, .slice aE bU bV, .bool bW, .slice aF bX bY] (cs' := #[.bool bQ, .slice aD bR bS, .bool bT, .slice aE bU bV, .bool bW, .slice aF bX bY]) (bs' := _) rfl o6 rfl rfl rfl rfl)
  exact bp_gauss1 rfl rfl rfl (hS.blk 11 rfl) ⟨_, rfl, RG.mk (hS.num 2 rfl) (hS.num 1 rfl) (hS.num 0 rfl), hS.ext⟩

theorem eproduct_ok (gc : Nat) (v1 v2 : Value) (a b d a' b' d' u v t : Int) (n : Nat) (w : World) (hc : Calm w gc) (hX : RG w v1 a b d) (hY : RG w v2 a' b' d') (sx : Sz n a b d) (sy : Sz n a' b' d') (hn : n + n + 1 ≤ 12800)
    (hd : d ≠ 0) (hd' : d' ≠ 0) (E : (u, v, t) = nf (a * a' - b * b') (a * b' + b * a') (d * d')) :
    Calls Tryz.prog 79 #[.pointer (some ⟨gc, 0, none⟩), v1, v2] w fun e w' => ∃ x, e = .returned x ∧ RG w' x u v t ∧ Ext w w' := by
  obtain ⟨g, d1', a1, b1, hg, hg0, ed', ea, eb⟩ := gcd3_facts (a := d') (b := a) (c := b) hd'
  obtain ⟨h, d1, a1', b1', hh, hh0, ed, ea', eb'⟩ := gcd3_facts (a := d) (b := a') (c := b') hd
  have ba1 := lt_div hg0 ea sx.a
  have bb1 := lt_div hg0 eb sx.b
  have bd1' := lt_div hg0 ed' sy.d
  have ba1' := lt_div hh0 ea' sy.a
  have bb1' := lt_div hh0 eb' sy.b
  have bd1 := lt_div hh0 ed sx.d
  have bg : g.natAbs < 2 ^ n := lt_gcd hd' ⟨_, ed'⟩ sy.d
  have bh : h.natAbs < 2 ^ n := lt_gcd hd ⟨_, ed⟩ sx.d
  have p1 := lt_mul ba1 ba1'
  have p2 := lt_mul bb1 bb1'
  have p3 := lt_mul ba1 bb1'
  have p4 := lt_mul bb1 ba1'
  have p5 := lt_mul bd1 bd1'
  have q1 := lt_sub p1 p2
  have q2 := lt_add p3 p4
  have hD : d1 * d1' ≠ 0 := Int.mul_ne_zero (by intro e; rw [e] at ed; simp at ed; exact hd ed) (by intro e; rw [e] at ed'; simp at ed'; exact hd' ed')
  have E' : (u, v, t) = nf (a1 * a1' - b1 * b1') (a1 * b1' + b1 * a1') (d1 * d1') := by
    rw [E]
    refine nf_unique (Int.mul_ne_zero hd hd') hD ?_ ?_
    · rw [ea, eb, ed, ea', eb', ed']; grind
    · rw [ea, eb, ed, ea', eb', ed']; grind
  have sz := nf_size' (n := n + n + 1) hD E' q1 q2 (lt_up p5 (by omega))
  obtain ⟨x1, x2, x3⟩ := sx.lims (by omega)
  obtain ⟨y1, y2, y3⟩ := sy.lims (by omega)
  obtain ⟨s1, s2, s3⟩ := sz.lims hn
  exact eproduct_w gc v1 a b d v2 a' b' d' w hc hX x1 x2 x3 hY y1 y2 y3 g (Lib.hid hg) (lim_of bg (by omega)) h (Lib.hid hh) (lim_of bh (by omega))
    a1 (Lib.hid (div_of hg0 ea)) (lim_of ba1 (by omega)) (Lib.hid hg0) (Lib.hid ⟨_, ea⟩) b1 (Lib.hid (div_of hg0 eb)) (lim_of bb1 (by omega)) (Lib.hid hg0) (Lib.hid ⟨_, eb⟩)
    a1' (Lib.hid (div_of hh0 ea')) (lim_of ba1' (by omega)) (Lib.hid hh0) (Lib.hid ⟨_, ea'⟩) b1' (Lib.hid (div_of hh0 eb')) (lim_of bb1' (by omega)) (Lib.hid hh0) (Lib.hid ⟨_, eb'⟩)
    _ (Lib.hid rfl) (lim_of p1 (by omega)) _ (Lib.hid rfl) (lim_of p2 (by omega)) _ (Lib.hid rfl) (lim_of q1 (by omega))
    _ (Lib.hid rfl) (lim_of p3 (by omega)) _ (Lib.hid rfl) (lim_of p4 (by omega)) _ (Lib.hid rfl) (lim_of q2 (by omega))
    d1 (Lib.hid (div_of hh0 ed)) (lim_of bd1 (by omega)) (Lib.hid hh0) (Lib.hid ⟨_, ed⟩) d1' (Lib.hid (div_of hg0 ed')) (lim_of bd1' (by omega)) (Lib.hid hg0) (Lib.hid ⟨_, ed'⟩)
    _ (Lib.hid rfl) (lim_of p5 (by omega)) (Lib.hid hD) u v t (Lib.hid E') s1 s2 s3
end Go.Proofs.YtjeijmnhbckjdaaGreatDoor

/- Contracts of the calculator: quotients, the walk. -/
namespace Go.Proofs.YtjeijmnhbckjdaaGreatDoor
open Go.RowKit
set_option linter.unusedVariables false

end Go.Proofs.YtjeijmnhbckjdaaGreatDoor
