/- Words and contracts that the laws share, several texts in one. -/
import Derived.Test.YtclkkoiaaddllaaGreatQNBkdgd
/- Contracts of the calculator: products. -/
namespace Go.Proofs.YtclkkoiaaddllaaGreat
open Go.RowKit
set_option linter.unusedVariables false

set_option maxRecDepth 100000 in
set_option maxHeartbeats 8000000 in
theorem eproduct_w (gc : Nat) (v1 : Value) (bo bp bq : Int) (v2 : Value) (br bs bt : Int) (w : World) (hc : Calm w gc) (hX1 : RG w v1 bo bp bq) (ch : bo.natAbs < lim) (ci : bp.natAbs < lim) (cj : bq.natAbs < lim) (hX2 : RG w v2 br bs bt) (ck : br.natAbs < lim) (cl : bs.natAbs < lim) (cn : bt.natAbs < lim)
    (a4 : Int) (E24 : Hid (a4 = (gcdL [bt, bo, bp] : Nat))) (dr : a4.natAbs < lim)
    (a5 : Int) (E33 : Hid (a5 = (gcdL [bq, br, bs] : Nat))) (ds : a5.natAbs < lim)
    (aJ : Int) (E38 : Hid (aJ = bo / a4)) (dY : aJ.natAbs < lim)
    (N38 : Hid (a4 ≠ 0))
    (dt : Hid (a4 ∣ bo))
    (aK : Int) (E43 : Hid (aK = bp / a4)) (dZ : aK.natAbs < lim)
    (N43 : Hid (a4 ≠ 0))
    (du : Hid (a4 ∣ bp))
    (aL : Int) (E48 : Hid (aL = br / a5)) (e0 : aL.natAbs < lim)
    (N48 : Hid (a5 ≠ 0))
    (dv : Hid (a5 ∣ br))
    (aM : Int) (E53 : Hid (aM = bs / a5)) (e1 : aM.natAbs < lim)
    (N53 : Hid (a5 ≠ 0))
    (dw : Hid (a5 ∣ bs))
    (aX : Int) (E58 : Hid (aX = aJ * aL)) (e2 : aX.natAbs < lim)
    (aY : Int) (E62 : Hid (aY = aK * aM)) (e3 : aY.natAbs < lim)
    (bi : Int) (E63 : Hid (bi = aX - aY)) (e4 : bi.natAbs < lim)
    (aZ : Int) (E68 : Hid (aZ = aJ * aM)) (e5 : aZ.natAbs < lim)
    (b0 : Int) (E72 : Hid (b0 = aK * aL)) (e6 : b0.natAbs < lim)
    (bj : Int) (E73 : Hid (bj = aZ + b0)) (e7 : bj.natAbs < lim)
    (b1 : Int) (E79 : Hid (b1 = bq / a5)) (A79 : b1.natAbs < lim)
    (N79 : Hid (a5 ≠ 0))
    (dx : Hid (a5 ∣ bq))
    (b2 : Int) (E84 : Hid (b2 = bt / a4)) (A84 : b2.natAbs < lim)
    (N84 : Hid (a4 ≠ 0))
    (dy : Hid (a4 ∣ bt))
    (b3 : Int) (E85 : Hid (b3 = b1 * b2)) (e8 : b3.natAbs < lim)
    (N96 : Hid (b3 ≠ 0))
    (b4 b5 b6 : Int) (E96 : Hid ((b4, b5, b6) = nf bi bj b3)) (A96a : b4.natAbs < lim) (A96b : b5.natAbs < lim) (A96d : b6.natAbs < lim)  :
    Calls Tryz.prog 107 #[.pointer (some ⟨gc, 0, none⟩), v1, v2] w fun e w' => ∃ v, e = .returned v ∧ RG w' v b4 b5 b6 ∧ Ext w w' := by
  have hS := St.start w
  obtain ⟨a6, a7, a8, a9, aa, ab, ac, ad, ae, af, ag, ah, rfl, co, cp, cq⟩ := hX1
  replace hS := hS.addI co
  clear co
  replace hS := hS.addI cp
  clear cp
  replace hS := hS.addI cq
  clear cq
  obtain ⟨ai, aj, ak, am, an, ao, ap, aq, ar, au, av, aw, rfl, cr, cs, ct⟩ := hX2
  replace hS := hS.addI cr
  clear cr
  replace hS := hS.addI cs
  clear cs
  replace hS := hS.addI ct
  clear ct
  replace hS := hS.addB hc trivial
  clear hc
  have o4 : Own w w.heap.size := Own.of hS.ext (by simp)
  have o5 : Own w (w.heap.size + 1) := Own.of hS.ext (by simp)
  have o6 : Own w (w.heap.size + 2) := Own.of hS.ext (by simp)
  go_enter Tryz.func107, Tryz.ntmps107
  go_wp2_with fail
  replace hS := (St.al (St.al (St.al hS 32 #[.bool a6, .slice a7 a8 a9, .bool aa, .slice ab ac ad, .bool ae, .slice af ag ah] (g := w.heap.size) (by simp)) 32 #[.bool ai, .slice aj ak am, .bool an, .slice ao ap aq, .bool ar, .slice au av aw] (g := (w.heap.size + 1)) (by simp)) 32 #[.bool false, .slice none 0 0, .bool false, .slice none 0 0, .bool false, .slice none 0 0] (g := (w.heap.size + 2)) (by simp))
  generalize (((w.alloc (.cells #[.bool a6, .slice a7 a8 a9, .bool aa, .slice ab ac ad, .bool ae, .slice af ag ah] 32)).alloc (.cells #[.bool ai, .slice aj ak am, .bool an, .slice ao ap aq, .bool ar, .slice au av aw] 32)).alloc (.cells #[.bool false, .slice none 0 0, .bool false, .slice none 0 0, .bool false, .slice none 0 0] 32)) = w1 at hS ⊢
  generalize w.heap.size + 2 = g6 at hS o6 ⊢
  generalize w.heap.size + 1 = g5 at hS o5 ⊢
  generalize w.heap.size = g4 at hS o4 ⊢
  have Y5 := ExtOf.blk (hS.blk 1 rfl)
  have Y4 := ExtOf.blk (hS.blk 2 rfl)
  have hE_ := hS.ext
  refine wp_region_tame 20 (hasF [(7, .any), (8, .any), (16, .any), (17, .any), (18, .any), (19, .any)]) (Fcs [(7, .sl 30 3 #[.bool ar, .slice au av aw, .bool a6, .slice a7 a8 a9, .bool aa, .slice ab ac ad]), (8, .ri (a4)), (16, .sl 30 3 #[.bool ae, .slice af ag ah, .bool ai, .slice aj ak am, .bool an, .slice ao ap aq]), (17, .ri (a5)), (18, .box 30 #[.bool false, .slice none 0 0]), (19, .box 30 #[.bool false, .slice none 0 0])]) (Fcs_stab _) (by kernel_rfl) (by kernel_rfl) ?_
  simp only [tk1, tk0, dp1, dp0]
  refine wpT_quiet 7 (by rfl) (by kernel_rfl) ?_
  simp only [tk1, tk0, dp1, dp0]
  repeat (go_big_quiet_step (fail))
  refine wpQuiet_nil ?_
  refine wpT_eff (by rfl) (by rfl) (by rfl) ?_ ?_
  · intro W_ hK
    go_simp
    exact ⟨Ext.new _ _, rfl, by simp, Blk.new _ _ _⟩
  intro v_ bZ cu hr_
  obtain ⟨W_, hW_⟩ := hr_
  obtain ⟨rfl, b7, -⟩ : Fc.holds (.sl 30 3 #[.bool ar, .slice au av aw, .bool a6, .slice a7 a8 a9, .bool aa, .slice ab ac ad]) bZ cu v_ W_ := hW_.get
  clear hW_ W_
  try simp only [Act.put, sa0, sa1, sa2]
  refine wpT_eff (by rfl) (by rfl) (by rfl) ?_ ?_
  · intro W_ hK
    have hW := hK.1
    have cv : Blk W_ bZ 30 #[.bool ar, .slice au av aw, .bool a6, .slice a7 a8 a9, .bool aa, .slice ab ac ad] := (hK.2 7 _ (by rfl) (by kernel_rfl)).2.2
    clear hK
    go_simp
    exact ⟨rfl, (egcd3_ok gc bZ bt bo bp a4 _ (Blk.ext (hS.blk 3 rfl) hW) cv (RI.ext (hS.num 0 rfl) hW) (RI.ext (hS.num 5 rfl) hW) (RI.ext (hS.num 4 rfl) hW) cn ch ci E24).mono fun e w' ⟨v, he, hR, hx⟩ => ⟨v, he, hx, hR⟩⟩
  intro v_ cw cx hr_
  obtain ⟨W_, hW_⟩ := hr_
  have hv_ : Fc.holds (.ri (a4)) cw cx v_ W_ := hW_.get
  clear hW_
  obtain ⟨aN, a0, aO, aP, rfl, -⟩ := RI.opn hv_
  clear hv_
  clear W_
  try simp only [Act.put, sa0, sa1, sa2]
  refine wpT_quiet 7 (by rfl) (by kernel_rfl) ?_
  simp only [tk1, tk0, dp1, dp0]
  repeat (go_big_quiet_step (fail))
  refine wpQuiet_nil ?_
  refine wpT_eff (by rfl) (by rfl) (by rfl) ?_ ?_
  · intro W_ hK
    go_simp
    exact ⟨Ext.new _ _, rfl, by simp, Blk.new _ _ _⟩
  intro v_ c0 cy hr_
  obtain ⟨W_, hW_⟩ := hr_
  obtain ⟨rfl, b8, -⟩ : Fc.holds (.sl 30 3 #[.bool ae, .slice af ag ah, .bool ai, .slice aj ak am, .bool an, .slice ao ap aq]) c0 cy v_ W_ := hW_.get
  clear hW_ W_
  try simp only [Act.put, sa0, sa1, sa2]
  refine wpT_eff (by rfl) (by rfl) (by rfl) ?_ ?_
  · intro W_ hK
    have hW := hK.1
    have cz : Blk W_ c0 30 #[.bool ae, .slice af ag ah, .bool ai, .slice aj ak am, .bool an, .slice ao ap aq] := (hK.2 16 _ (by rfl) (by kernel_rfl)).2.2
    clear hK
    go_simp
    exact ⟨rfl, (egcd3_ok gc c0 bq br bs a5 _ (Blk.ext (hS.blk 3 rfl) hW) cz (RI.ext (hS.num 3 rfl) hW) (RI.ext (hS.num 2 rfl) hW) (RI.ext (hS.num 1 rfl) hW) cj ck cl E33).mono fun e w' ⟨v, he, hR, hx⟩ => ⟨v, he, hx, hR⟩⟩
  intro v_ cA cB hr_
  obtain ⟨W_, hW_⟩ := hr_
  have hv_ : Fc.holds (.ri (a5)) cA cB v_ W_ := hW_.get
  clear hW_
  obtain ⟨c1, ax, c2, c3, rfl, -⟩ := RI.opn hv_
  clear hv_
  clear W_
  try simp only [Act.put, sa0, sa1, sa2]
  refine wpT_eff (by rfl) (by rfl) (by rfl) ?_ ?_
  · intro W_ hK
    go_simp
    exact ⟨Ext.new _ _, rfl, by simp, Blk.new _ _ _⟩
  intro v_ g7 e9 hr_
  obtain ⟨W_, hW_⟩ := hr_
  obtain ⟨rfl, d6, -⟩ : Fc.holds (.box 30 #[.bool false, .slice none 0 0]) g7 e9 v_ W_ := hW_.get
  clear hW_ W_
  try simp only [Act.put, sa0, sa1, sa2]
  refine wpT_eff (by rfl) (by rfl) (by rfl) ?_ ?_
  · intro W_ hK
    go_simp
    exact ⟨Ext.new _ _, rfl, by simp, Blk.new _ _ _⟩
  intro v_ g8 ea hr_
  obtain ⟨W_, hW_⟩ := hr_
  obtain ⟨rfl, d7, -⟩ : Fc.holds (.box 30 #[.bool false, .slice none 0 0]) g8 ea v_ W_ := hW_.get
  clear hW_ W_
  try simp only [Act.put, sa0, sa1, sa2]
  refine wpT_nil ?_
  intro w2 hK
  have hlt_ := hS.lt
  replace hS := hS.mv hK.ext
  replace hS := hS.addI (show RI w2 (iv aN a0 aO aP) a4 from hK.at_ 8 (e := ((iv aN a0 aO aP), cw, cx)) (by rfl))
  replace hS := hS.addI (show RI w2 (iv c1 ax c2 c3) a5 from hK.at_ 17 (e := ((iv c1 ax c2 c3), cA, cB)) (by rfl))
  have bu : w1.heap.size ≤ bZ := hK.low 7 _ (by rfl)
  have o23 : Own w bZ := Own.of hE_ bu
  replace hS := hS.addB (show Blk w2 bZ 30 #[.bool ar, .slice au av aw, .bool a6, .slice a7 a8 a9, .bool aa, .slice ab ac ad] from (hK.at_ 7 (by rfl)).2.2) (apart_of fun p hp => Nat.ne_of_lt (Nat.lt_of_lt_of_le (hlt_ p hp) bu))
  have bv : w1.heap.size ≤ c0 := hK.low 16 _ (by rfl)
  have o32 : Own w c0 := Own.of hE_ bv
  replace hS := hS.addB (show Blk w2 c0 30 #[.bool ae, .slice af ag ah, .bool ai, .slice aj ak am, .bool an, .slice ao ap aq] from (hK.at_ 16 (by rfl)).2.2) ⟨tame_ne b7 b8 (hK.disj 7 16 _ _ (by omega) (by rfl) (by rfl)), (apart_of fun p hp => Nat.ne_of_lt (Nat.lt_of_lt_of_le (hlt_ p hp) bv))⟩
  have dz : w1.heap.size ≤ g7 := hK.low 18 _ (by rfl)
  have o7 : Own w g7 := Own.of hE_ dz
  replace hS := hS.addB (show Blk w2 g7 30 #[.bool false, .slice none 0 0] from (hK.at_ 18 (by rfl)).2.2) ⟨tame_ne b8 d6 (hK.disj 16 18 _ _ (by omega) (by rfl) (by rfl)), ⟨tame_ne b7 d6 (hK.disj 7 18 _ _ (by omega) (by rfl) (by rfl)), (apart_of fun p hp => Nat.ne_of_lt (Nat.lt_of_lt_of_le (hlt_ p hp) dz))⟩⟩
  have dA : w1.heap.size ≤ g8 := hK.low 19 _ (by rfl)
  have o8 : Own w g8 := Own.of hE_ dA
  replace hS := hS.addB (show Blk w2 g8 30 #[.bool false, .slice none 0 0] from (hK.at_ 19 (by rfl)).2.2) ⟨tame_ne d6 d7 (hK.disj 18 19 _ _ (by omega) (by rfl) (by rfl)), ⟨tame_ne b8 d7 (hK.disj 16 19 _ _ (by omega) (by rfl) (by rfl)), ⟨tame_ne b7 d7 (hK.disj 7 19 _ _ (by omega) (by rfl) (by rfl)), (apart_of fun p hp => Nat.ne_of_lt (Nat.lt_of_lt_of_le (hlt_ p hp) dA))⟩⟩⟩
  clear hK hlt_ hE_ Y5 Y4
  clear bu b7 cu
  clear bv b8 cy
  clear dz d6 e9
  clear dA d7 ea
  have k_1 := (hS.blk 1 rfl).cell
  have k_2 := (hS.blk 1 rfl).frozen
  have dB := (St.put (W' := ((w2.setCell ⟨g7, 0, none⟩ (.bool aN)).setCell ⟨g7, 1, none⟩ (.slice a0 aO aP))) hS 1 0 [.bool aN, .slice a0 aO aP] (cs' := #[.bool aN, .slice a0 aO aP]) (bs' := _) rfl o7 rfl rfl rfl rfl)
  have k_3 := (dB.blk 0 rfl).cell
  have k_4 := (dB.blk 0 rfl).frozen
  go_wp2_with fail
  clear k_1 k_2 k_3 k_4
  clear dB
  replace hS := (St.put (W' := ((((w2.setCell ⟨g7, 0, none⟩ (.bool aN)).setCell ⟨g7, 1, none⟩ (.slice a0 aO aP)).setCell ⟨g8, 0, none⟩ (.bool c1)).setCell ⟨g8, 1, none⟩ (.slice ax c2 c3))) (St.put (W' := ((w2.setCell ⟨g7, 0, none⟩ (.bool aN)).setCell ⟨g7, 1, none⟩ (.slice a0 aO aP))) hS 1 0 [.bool aN, .slice a0 aO aP] (cs' := #[.bool aN, .slice a0 aO aP]) (bs' := _) rfl o7 rfl rfl rfl rfl) 0 0 [.bool c1, .slice ax c2 c3] (cs' := #[.bool c1, .slice ax c2 c3]) (bs' := _) rfl o8 rfl rfl rfl rfl)
  simp only [List.set_cons_zero, List.set_cons_succ] at hS
  generalize ((((w2.setCell ⟨g7, 0, none⟩ (.bool aN)).setCell ⟨g7, 1, none⟩ (.slice a0 aO aP)).setCell ⟨g8, 0, none⟩ (.bool c1)).setCell ⟨g8, 1, none⟩ (.slice ax c2 c3)) = w3 at hS ⊢
  have Y7 := ExtOf.blk (hS.blk 1 rfl)
  have Y4 := ExtOf.blk (hS.blk 6 rfl)
  have hE_ := hS.ext
  refine wp_region_tame 12 (hasF [(4, .any), (9, .any), (10, .any), (11, .any)]) (Fcs [(4, .ri (aJ)), (9, .ri (aK)), (10, .box 30 #[.bool false, .slice none 0 0]), (11, .box 30 #[.bool false, .slice none 0 0])]) (Fcs_stab _) (by kernel_rfl) (by kernel_rfl) ?_
  simp only [tk1, tk0, dp1, dp0]
  refine wpT_quiet 4 (by rfl) (by kernel_rfl) ?_
  simp only [tk1, tk0, dp1, dp0]
  repeat (go_big_quiet_step (fail))
  refine wpQuiet_nil ?_
  refine wpT_eff (by rfl) (by rfl) (by rfl) ?_ ?_
  · intro W_ hK
    have hW := hK.1
    clear hK
    go_simp
    exact ⟨rfl, (ediv_ok gc _ _ bo a4 aJ _ (Blk.ext (hS.blk 7 rfl) hW) (RI.ext (hS.num 7 rfl) hW) (RI.ext (hS.num 1 rfl) hW) ch dr N38.out dt.out E38.out).mono fun e w' ⟨v, he, hR, hx⟩ => ⟨v, he, hx, hR⟩⟩
  intro v_ cC cD hr_
  obtain ⟨W_, hW_⟩ := hr_
  have hv_ : Fc.holds (.ri (aJ)) cC cD v_ W_ := hW_.get
  clear hW_
  obtain ⟨aQ, a1, aR, aS, rfl, -⟩ := RI.opn hv_
  clear hv_
  clear W_
  try simp only [Act.put, sa0, sa1, sa2]
  refine wpT_quiet 4 (by rfl) (by kernel_rfl) ?_
  simp only [tk1, tk0, dp1, dp0]
  repeat (go_big_quiet_step (fail))
  refine wpQuiet_nil ?_
  refine wpT_eff (by rfl) (by rfl) (by rfl) ?_ ?_
  · intro W_ hK
    have hW := hK.1
    clear hK
    go_simp
    exact ⟨rfl, (ediv_ok gc _ _ bp a4 aK _ (Blk.ext (hS.blk 7 rfl) hW) (RI.ext (hS.num 6 rfl) hW) (RI.ext (hS.num 1 rfl) hW) ci dr N43.out du.out E43.out).mono fun e w' ⟨v, he, hR, hx⟩ => ⟨v, he, hx, hR⟩⟩
  intro v_ cE cF hr_
  obtain ⟨W_, hW_⟩ := hr_
  have hv_ : Fc.holds (.ri (aK)) cE cF v_ W_ := hW_.get
  clear hW_
  obtain ⟨c4, ay, c5, c6, rfl, -⟩ := RI.opn hv_
  clear hv_
  clear W_
  try simp only [Act.put, sa0, sa1, sa2]
  refine wpT_eff (by rfl) (by rfl) (by rfl) ?_ ?_
  · intro W_ hK
    go_simp
    exact ⟨Ext.new _ _, rfl, by simp, Blk.new _ _ _⟩
  intro v_ g9 eb hr_
  obtain ⟨W_, hW_⟩ := hr_
  obtain ⟨rfl, ec, -⟩ : Fc.holds (.box 30 #[.bool false, .slice none 0 0]) g9 eb v_ W_ := hW_.get
  clear hW_ W_
  try simp only [Act.put, sa0, sa1, sa2]
  refine wpT_eff (by rfl) (by rfl) (by rfl) ?_ ?_
  · intro W_ hK
    go_simp
    exact ⟨Ext.new _ _, rfl, by simp, Blk.new _ _ _⟩
  intro v_ bk cG hr_
  obtain ⟨W_, hW_⟩ := hr_
  obtain ⟨rfl, cH, -⟩ : Fc.holds (.box 30 #[.bool false, .slice none 0 0]) bk cG v_ W_ := hW_.get
  clear hW_ W_
  try simp only [Act.put, sa0, sa1, sa2]
  refine wpT_nil ?_
  intro w4 hK
  have hlt_ := hS.lt
  replace hS := hS.mv hK.ext
  replace hS := hS.addI (show RI w4 (iv aQ a1 aR aS) aJ from hK.at_ 4 (e := ((iv aQ a1 aR aS), cC, cD)) (by rfl))
  replace hS := hS.addI (show RI w4 (iv c4 ay c5 c6) aK from hK.at_ 9 (e := ((iv c4 ay c5 c6), cE, cF)) (by rfl))
  have dC : w3.heap.size ≤ g9 := hK.low 10 _ (by rfl)
  have o9 : Own w g9 := Own.of hE_ dC
  replace hS := hS.addB (show Blk w4 g9 30 #[.bool false, .slice none 0 0] from (hK.at_ 10 (by rfl)).2.2) (apart_of fun p hp => Nat.ne_of_lt (Nat.lt_of_lt_of_le (hlt_ p hp) dC))
  have bw : w3.heap.size ≤ bk := hK.low 11 _ (by rfl)
  have o10 : Own w bk := Own.of hE_ bw
  replace hS := hS.addB (show Blk w4 bk 30 #[.bool false, .slice none 0 0] from (hK.at_ 11 (by rfl)).2.2) ⟨tame_ne ec cH (hK.disj 10 11 _ _ (by omega) (by rfl) (by rfl)), (apart_of fun p hp => Nat.ne_of_lt (Nat.lt_of_lt_of_le (hlt_ p hp) bw))⟩
  clear hK hlt_ hE_ Y7 Y4
  clear dC ec eb
  clear bw cH cG
  have k_5 := (hS.blk 1 rfl).cell
  have k_6 := (hS.blk 1 rfl).frozen
  have dD := (St.put (W' := ((w4.setCell ⟨g9, 0, none⟩ (.bool aQ)).setCell ⟨g9, 1, none⟩ (.slice a1 aR aS))) hS 1 0 [.bool aQ, .slice a1 aR aS] (cs' := #[.bool aQ, .slice a1 aR aS]) (bs' := _) rfl o9 rfl rfl rfl rfl)
  have k_7 := (dD.blk 0 rfl).cell
  have k_8 := (dD.blk 0 rfl).frozen
  go_wp2_with fail
  clear k_5 k_6 k_7 k_8
  clear dD
  replace hS := (St.put (W' := ((((w4.setCell ⟨g9, 0, none⟩ (.bool aQ)).setCell ⟨g9, 1, none⟩ (.slice a1 aR aS)).setCell ⟨bk, 0, none⟩ (.bool c4)).setCell ⟨bk, 1, none⟩ (.slice ay c5 c6))) (St.put (W' := ((w4.setCell ⟨g9, 0, none⟩ (.bool aQ)).setCell ⟨g9, 1, none⟩ (.slice a1 aR aS))) hS 1 0 [.bool aQ, .slice a1 aR aS] (cs' := #[.bool aQ, .slice a1 aR aS]) (bs' := _) rfl o9 rfl rfl rfl rfl) 0 0 [.bool c4, .slice ay c5 c6] (cs' := #[.bool c4, .slice ay c5 c6]) (bs' := _) rfl o10 rfl rfl rfl rfl)
  simp only [List.set_cons_zero, List.set_cons_succ] at hS
  generalize ((((w4.setCell ⟨g9, 0, none⟩ (.bool aQ)).setCell ⟨g9, 1, none⟩ (.slice a1 aR aS)).setCell ⟨bk, 0, none⟩ (.bool c4)).setCell ⟨bk, 1, none⟩ (.slice ay c5 c6)) = w5 at hS ⊢
  have Y8 := ExtOf.blk (hS.blk 2 rfl)
  have Y5 := ExtOf.blk (hS.blk 7 rfl)
  have hE_ := hS.ext
  refine wp_region_tame 12 (hasF [(4, .any), (9, .any), (10, .any), (11, .any)]) (Fcs [(4, .ri (aL)), (9, .ri (aM)), (10, .box 30 #[.bool false, .slice none 0 0]), (11, .box 30 #[.bool false, .slice none 0 0])]) (Fcs_stab _) (by kernel_rfl) (by kernel_rfl) ?_
  simp only [tk1, tk0, dp1, dp0]
  refine wpT_quiet 4 (by rfl) (by kernel_rfl) ?_
  simp only [tk1, tk0, dp1, dp0]
  repeat (go_big_quiet_step (fail))
  refine wpQuiet_nil ?_
  refine wpT_eff (by rfl) (by rfl) (by rfl) ?_ ?_
  · intro W_ hK
    have hW := hK.1
    clear hK
    go_simp
    exact ⟨rfl, (ediv_ok gc _ _ br a5 aL _ (Blk.ext (hS.blk 9 rfl) hW) (RI.ext (hS.num 6 rfl) hW) (RI.ext (hS.num 2 rfl) hW) ck ds N48.out dv.out E48.out).mono fun e w' ⟨v, he, hR, hx⟩ => ⟨v, he, hx, hR⟩⟩
  intro v_ cI cJ hr_
  obtain ⟨W_, hW_⟩ := hr_
  have hv_ : Fc.holds (.ri (aL)) cI cJ v_ W_ := hW_.get
  clear hW_
  obtain ⟨aT, a2, aU, aV, rfl, -⟩ := RI.opn hv_
  clear hv_
  clear W_
  try simp only [Act.put, sa0, sa1, sa2]
  refine wpT_quiet 4 (by rfl) (by kernel_rfl) ?_
  simp only [tk1, tk0, dp1, dp0]
  repeat (go_big_quiet_step (fail))
  refine wpQuiet_nil ?_
  refine wpT_eff (by rfl) (by rfl) (by rfl) ?_ ?_
  · intro W_ hK
    have hW := hK.1
    clear hK
    go_simp
    exact ⟨rfl, (ediv_ok gc _ _ bs a5 aM _ (Blk.ext (hS.blk 9 rfl) hW) (RI.ext (hS.num 5 rfl) hW) (RI.ext (hS.num 2 rfl) hW) cl ds N53.out dw.out E53.out).mono fun e w' ⟨v, he, hR, hx⟩ => ⟨v, he, hx, hR⟩⟩
  intro v_ cK cL hr_
  obtain ⟨W_, hW_⟩ := hr_
  have hv_ : Fc.holds (.ri (aM)) cK cL v_ W_ := hW_.get
  clear hW_
  obtain ⟨c7, az, c8, c9, rfl, -⟩ := RI.opn hv_
  clear hv_
  clear W_
  try simp only [Act.put, sa0, sa1, sa2]
  refine wpT_eff (by rfl) (by rfl) (by rfl) ?_ ?_
  · intro W_ hK
    go_simp
    exact ⟨Ext.new _ _, rfl, by simp, Blk.new _ _ _⟩
  intro v_ aC cM hr_
  obtain ⟨W_, hW_⟩ := hr_
  obtain ⟨rfl, cN, -⟩ : Fc.holds (.box 30 #[.bool false, .slice none 0 0]) aC cM v_ W_ := hW_.get
  clear hW_ W_
  try simp only [Act.put, sa0, sa1, sa2]
  refine wpT_eff (by rfl) (by rfl) (by rfl) ?_ ?_
  · intro W_ hK
    go_simp
    exact ⟨Ext.new _ _, rfl, by simp, Blk.new _ _ _⟩
  intro v_ bl cO hr_
  obtain ⟨W_, hW_⟩ := hr_
  obtain ⟨rfl, cP, -⟩ : Fc.holds (.box 30 #[.bool false, .slice none 0 0]) bl cO v_ W_ := hW_.get
  clear hW_ W_
  try simp only [Act.put, sa0, sa1, sa2]
  refine wpT_nil ?_
  intro w6 hK
  have hlt_ := hS.lt
  replace hS := hS.mv hK.ext
  replace hS := hS.addI (show RI w6 (iv aT a2 aU aV) aL from hK.at_ 4 (e := ((iv aT a2 aU aV), cI, cJ)) (by rfl))
  replace hS := hS.addI (show RI w6 (iv c7 az c8 c9) aM from hK.at_ 9 (e := ((iv c7 az c8 c9), cK, cL)) (by rfl))
  have bx : w5.heap.size ≤ aC := hK.low 10 _ (by rfl)
  have ed : Own w aC := Own.of hE_ bx
  replace hS := hS.addB (show Blk w6 aC 30 #[.bool false, .slice none 0 0] from (hK.at_ 10 (by rfl)).2.2) (apart_of fun p hp => Nat.ne_of_lt (Nat.lt_of_lt_of_le (hlt_ p hp) bx))
  have bz : w5.heap.size ≤ bl := hK.low 11 _ (by rfl)
  have o12 : Own w bl := Own.of hE_ bz
  replace hS := hS.addB (show Blk w6 bl 30 #[.bool false, .slice none 0 0] from (hK.at_ 11 (by rfl)).2.2) ⟨tame_ne cN cP (hK.disj 10 11 _ _ (by omega) (by rfl) (by rfl)), (apart_of fun p hp => Nat.ne_of_lt (Nat.lt_of_lt_of_le (hlt_ p hp) bz))⟩
  clear hK hlt_ hE_ Y8 Y5
  clear bx cN cM
  clear bz cP cO
  have k_9 := (hS.blk 1 rfl).cell
  have dE := (hS.blk 1 rfl).frozen
  have dF := (St.put (W' := ((w6.setCell ⟨aC, 0, none⟩ (.bool aT)).setCell ⟨aC, 1, none⟩ (.slice a2 aU aV))) hS 1 0 [.bool aT, .slice a2 aU aV] (cs' := #[.bool aT, .slice a2 aU aV]) (bs' := _) rfl ed rfl rfl rfl rfl)
  have dG := (dF.blk 0 rfl).cell
  have dH := (dF.blk 0 rfl).frozen
  go_wp2_with fail
  clear k_9 dE dG dH
  clear dF
  replace hS := (St.put (W' := ((((w6.setCell ⟨aC, 0, none⟩ (.bool aT)).setCell ⟨aC, 1, none⟩ (.slice a2 aU aV)).setCell ⟨bl, 0, none⟩ (.bool c7)).setCell ⟨bl, 1, none⟩ (.slice az c8 c9))) (St.put (W' := ((w6.setCell ⟨aC, 0, none⟩ (.bool aT)).setCell ⟨aC, 1, none⟩ (.slice a2 aU aV))) hS 1 0 [.bool aT, .slice a2 aU aV] (cs' := #[.bool aT, .slice a2 aU aV]) (bs' := _) rfl ed rfl rfl rfl rfl) 0 0 [.bool c7, .slice az c8 c9] (cs' := #[.bool c7, .slice az c8 c9]) (bs' := _) rfl o12 rfl rfl rfl rfl)
  simp only [List.set_cons_zero, List.set_cons_succ] at hS
  generalize ((((w6.setCell ⟨aC, 0, none⟩ (.bool aT)).setCell ⟨aC, 1, none⟩ (.slice a2 aU aV)).setCell ⟨bl, 0, none⟩ (.bool c7)).setCell ⟨bl, 1, none⟩ (.slice az c8 c9)) = w7 at hS ⊢
  have dI := ExtOf.blk (hS.blk 0 rfl)
  have dJ := ExtOf.blk (hS.blk 1 rfl)
  have dK := ExtOf.blk (hS.blk 2 rfl)
  have Y9 := ExtOf.blk (hS.blk 3 rfl)
  have hE_ := hS.ext
  refine wp_region_tame 11 (hasF [(4, .any), (8, .any), (9, .any), (10, .any)]) (Fcs [(4, .ri (aX)), (8, .ri (aY)), (9, .ri (bi)), (10, .box 30 #[.bool false, .slice none 0 0])]) (Fcs_stab _) (by kernel_rfl) (by kernel_rfl) ?_
  simp only [tk1, tk0, dp1, dp0]
  refine wpT_quiet 4 (by rfl) (by kernel_rfl) ?_
  simp only [tk1, tk0, dp1, dp0]
  repeat (go_big_quiet_step (fail))
  refine wpQuiet_nil ?_
  refine wpT_eff (by rfl) (by rfl) (by rfl) ?_ ?_
  · intro W_ hK
    have hW := hK.1
    clear hK
    go_simp
    exact ⟨rfl, (emul_ok gc _ _ aJ aL aX _ (Blk.ext (hS.blk 11 rfl) hW) (RI.ext (hS.num 3 rfl) hW) (RI.ext (hS.num 1 rfl) hW) dY e0 E58.out e2).mono fun e w' ⟨v, he, hR, hx⟩ => ⟨v, he, hx, hR⟩⟩
  intro v_ bA bB hr_
  obtain ⟨W_, hW_⟩ := hr_
  have hv_ : Fc.holds (.ri (aX)) bA bB v_ W_ := hW_.get
  clear hW_
  obtain ⟨d8, b9, d9, da, rfl, -⟩ := RI.opn hv_
  clear hv_
  clear W_
  try simp only [Act.put, sa0, sa1, sa2]
  refine wpT_quiet 3 (by rfl) (by kernel_rfl) ?_
  simp only [tk1, tk0, dp1, dp0]
  repeat (go_big_quiet_step (fail))
  refine wpQuiet_nil ?_
  refine wpT_eff (by rfl) (by rfl) (by rfl) ?_ ?_
  · intro W_ hK
    have hW := hK.1
    clear hK
    go_simp
    exact ⟨rfl, (emul_ok gc _ _ aK aM aY _ (Blk.ext (hS.blk 11 rfl) hW) (RI.ext (hS.num 2 rfl) hW) (RI.ext (hS.num 0 rfl) hW) dZ e1 E62.out e3).mono fun e w' ⟨v, he, hR, hx⟩ => ⟨v, he, hx, hR⟩⟩
  intro v_ bC bD hr_
  obtain ⟨W_, hW_⟩ := hr_
  have hv_ : Fc.holds (.ri (aY)) bC bD v_ W_ := hW_.get
  clear hW_
  obtain ⟨db, ba, dc, dd, rfl, -⟩ := RI.opn hv_
  clear hv_
  clear W_
  try simp only [Act.put, sa0, sa1, sa2]
  refine wpT_eff (by rfl) (by rfl) (by rfl) ?_ ?_
  · intro W_ hK
    have hW := hK.1
    have cQ : RI W_ (iv d8 b9 d9 da) aX := hK.2 4 ((iv d8 b9 d9 da), bA, bB) (by rfl) (by kernel_rfl)
    have cR : RI W_ (iv db ba dc dd) aY := hK.2 8 ((iv db ba dc dd), bC, bD) (by rfl) (by kernel_rfl)
    clear hK
    go_simp
    exact ⟨rfl, (esub_ok gc _ _ aX aY bi _ (Blk.ext (hS.blk 11 rfl) hW) cQ cR e2 e3 E63.out e4).mono fun e w' ⟨v, he, hR, hx⟩ => ⟨v, he, hx, hR⟩⟩
  intro v_ cS cT hr_
  obtain ⟨W_, hW_⟩ := hr_
  have hv_ : Fc.holds (.ri (bi)) cS cT v_ W_ := hW_.get
  clear hW_
  obtain ⟨ca, aA, cb, cc, rfl, -⟩ := RI.opn hv_
  clear hv_
  clear W_
  try simp only [Act.put, sa0, sa1, sa2]
  refine wpT_eff (by rfl) (by rfl) (by rfl) ?_ ?_
  · intro W_ hK
    go_simp
    exact ⟨Ext.new _ _, rfl, by simp, Blk.new _ _ _⟩
  intro v_ bm cU hr_
  obtain ⟨W_, hW_⟩ := hr_
  obtain ⟨rfl, dL, -⟩ : Fc.holds (.box 30 #[.bool false, .slice none 0 0]) bm cU v_ W_ := hW_.get
  clear hW_ W_
  try simp only [Act.put, sa0, sa1, sa2]
  refine wpT_nil ?_
  intro w8 hK
  have hlt_ := hS.lt
  replace hS := hS.mv hK.ext
  replace hS := hS.addI (show RI w8 (iv d8 b9 d9 da) aX from hK.at_ 4 (e := ((iv d8 b9 d9 da), bA, bB)) (by rfl))
  replace hS := hS.addI (show RI w8 (iv db ba dc dd) aY from hK.at_ 8 (e := ((iv db ba dc dd), bC, bD)) (by rfl))
  replace hS := hS.addI (show RI w8 (iv ca aA cb cc) bi from hK.at_ 9 (e := ((iv ca aA cb cc), cS, cT)) (by rfl))
  have bE : w7.heap.size ≤ bm := hK.low 10 _ (by rfl)
  have o13 : Own w bm := Own.of hE_ bE
  replace hS := hS.addB (show Blk w8 bm 30 #[.bool false, .slice none 0 0] from (hK.at_ 10 (by rfl)).2.2) (apart_of fun p hp => Nat.ne_of_lt (Nat.lt_of_lt_of_le (hlt_ p hp) bE))
  clear hK hlt_ hE_ dI dJ dK Y9
  clear bE dL cU
  have dM := (hS.blk 0 rfl).cell
  have dN := (hS.blk 0 rfl).frozen
  go_wp2_with fail
  clear dM dN
  replace hS := (St.put (W' := ((w8.setCell ⟨bm, 0, none⟩ (.bool ca)).setCell ⟨bm, 1, none⟩ (.slice aA cb cc))) hS 0 0 [.bool ca, .slice aA cb cc] (cs' := #[.bool ca, .slice aA cb cc]) (bs' := _) rfl o13 rfl rfl rfl rfl)
  simp only [List.set_cons_zero] at hS
  generalize ((w8.setCell ⟨bm, 0, none⟩ (.bool ca)).setCell ⟨bm, 1, none⟩ (.slice aA cb cc)) = w9 at hS ⊢
  have dI := ExtOf.blk (hS.blk 1 rfl)
  have dJ := ExtOf.blk (hS.blk 2 rfl)
  have dK := ExtOf.blk (hS.blk 3 rfl)
  have Y9 := ExtOf.blk (hS.blk 4 rfl)
  have hE_ := hS.ext
  refine wp_region_tame 11 (hasF [(4, .any), (8, .any), (9, .any), (10, .any)]) (Fcs [(4, .ri (aZ)), (8, .ri (b0)), (9, .ri (bj)), (10, .box 30 #[.bool false, .slice none 0 0])]) (Fcs_stab _) (by kernel_rfl) (by kernel_rfl) ?_
  simp only [tk1, tk0, dp1, dp0]
  refine wpT_quiet 4 (by rfl) (by kernel_rfl) ?_
  simp only [tk1, tk0, dp1, dp0]
  repeat (go_big_quiet_step (fail))
  refine wpQuiet_nil ?_
  refine wpT_eff (by rfl) (by rfl) (by rfl) ?_ ?_
  · intro W_ hK
    have hW := hK.1
    clear hK
    go_simp
    exact ⟨rfl, (emul_ok gc _ _ aJ aM aZ _ (Blk.ext (hS.blk 12 rfl) hW) (RI.ext (hS.num 6 rfl) hW) (RI.ext (hS.num 3 rfl) hW) dY e1 E68.out e5).mono fun e w' ⟨v, he, hR, hx⟩ => ⟨v, he, hx, hR⟩⟩
  intro v_ bF bG hr_
  obtain ⟨W_, hW_⟩ := hr_
  have hv_ : Fc.holds (.ri (aZ)) bF bG v_ W_ := hW_.get
  clear hW_
  obtain ⟨de, bb, df, dg, rfl, -⟩ := RI.opn hv_
  clear hv_
  clear W_
  try simp only [Act.put, sa0, sa1, sa2]
  refine wpT_quiet 3 (by rfl) (by kernel_rfl) ?_
  simp only [tk1, tk0, dp1, dp0]
  repeat (go_big_quiet_step (fail))
  refine wpQuiet_nil ?_
  refine wpT_eff (by rfl) (by rfl) (by rfl) ?_ ?_
  · intro W_ hK
    have hW := hK.1
    clear hK
    go_simp
    exact ⟨rfl, (emul_ok gc _ _ aK aL b0 _ (Blk.ext (hS.blk 12 rfl) hW) (RI.ext (hS.num 5 rfl) hW) (RI.ext (hS.num 4 rfl) hW) dZ e0 E72.out e6).mono fun e w' ⟨v, he, hR, hx⟩ => ⟨v, he, hx, hR⟩⟩
  intro v_ bH bI hr_
  obtain ⟨W_, hW_⟩ := hr_
  have hv_ : Fc.holds (.ri (b0)) bH bI v_ W_ := hW_.get
  clear hW_
  obtain ⟨dh, bc, di, dj, rfl, -⟩ := RI.opn hv_
  clear hv_
  clear W_
  try simp only [Act.put, sa0, sa1, sa2]
  refine wpT_eff (by rfl) (by rfl) (by rfl) ?_ ?_
  · intro W_ hK
    have hW := hK.1
    have cV : RI W_ (iv de bb df dg) aZ := hK.2 4 ((iv de bb df dg), bF, bG) (by rfl) (by kernel_rfl)
    have cW : RI W_ (iv dh bc di dj) b0 := hK.2 8 ((iv dh bc di dj), bH, bI) (by rfl) (by kernel_rfl)
    clear hK
    go_simp
    exact ⟨rfl, (eadd_ok gc _ _ aZ b0 bj _ (Blk.ext (hS.blk 12 rfl) hW) cV cW e5 e6 E73.out e7).mono fun e w' ⟨v, he, hR, hx⟩ => ⟨v, he, hx, hR⟩⟩
  intro v_ cX cY hr_
  obtain ⟨W_, hW_⟩ := hr_
  have hv_ : Fc.holds (.ri (bj)) cX cY v_ W_ := hW_.get
  clear hW_
  obtain ⟨cd, aB, ce, cf, rfl, -⟩ := RI.opn hv_
  clear hv_
  clear W_
  try simp only [Act.put, sa0, sa1, sa2]
  refine wpT_eff (by rfl) (by rfl) (by rfl) ?_ ?_
  · intro W_ hK
    go_simp
    exact ⟨Ext.new _ _, rfl, by simp, Blk.new _ _ _⟩
  intro v_ bn cZ hr_
  obtain ⟨W_, hW_⟩ := hr_
  obtain ⟨rfl, dO, -⟩ : Fc.holds (.box 30 #[.bool false, .slice none 0 0]) bn cZ v_ W_ := hW_.get
  clear hW_ W_
  try simp only [Act.put, sa0, sa1, sa2]
  refine wpT_nil ?_
  intro cg hK
  have hlt_ := hS.lt
  replace hS := hS.mv hK.ext
  replace hS := hS.addI (show RI cg (iv de bb df dg) aZ from hK.at_ 4 (e := ((iv de bb df dg), bF, bG)) (by rfl))
  replace hS := hS.addI (show RI cg (iv dh bc di dj) b0 from hK.at_ 8 (e := ((iv dh bc di dj), bH, bI)) (by rfl))
  replace hS := hS.addI (show RI cg (iv cd aB ce cf) bj from hK.at_ 9 (e := ((iv cd aB ce cf), cX, cY)) (by rfl))
  have bJ : w9.heap.size ≤ bn := hK.low 10 _ (by rfl)
  have o14 : Own w bn := Own.of hE_ bJ
  replace hS := hS.addB (show Blk cg bn 30 #[.bool false, .slice none 0 0] from (hK.at_ 10 (by rfl)).2.2) (apart_of fun p hp => Nat.ne_of_lt (Nat.lt_of_lt_of_le (hlt_ p hp) bJ))
  clear hK hlt_ hE_ dI dJ dK Y9
  clear bJ dO cZ
  have dP := (hS.blk 0 rfl).cell
  have dQ := (hS.blk 0 rfl).frozen
  go_wp2_with fail
  clear dP dQ
  replace hS := (St.put (W' := ((cg.setCell ⟨bn, 0, none⟩ (.bool cd)).setCell ⟨bn, 1, none⟩ (.slice aB ce cf))) hS 0 0 [.bool cd, .slice aB ce cf] (cs' := #[.bool cd, .slice aB ce cf]) (bs' := _) rfl o14 rfl rfl rfl rfl)
  simp only [List.set_cons_zero] at hS
  generalize ((cg.setCell ⟨bn, 0, none⟩ (.bool cd)).setCell ⟨bn, 1, none⟩ (.slice aB ce cf)) = w11 at hS ⊢
  have Y8 := ExtOf.blk (hS.blk 6 rfl)
  have Y7 := ExtOf.blk (hS.blk 7 rfl)
  have Y5 := ExtOf.blk (hS.blk 11 rfl)
  have Y4 := ExtOf.blk (hS.blk 12 rfl)
  have hE_ := hS.ext
  refine wp_region_tame 13 (hasF [(5, .any), (10, .any), (11, .any), (12, .any)]) (Fcs [(5, .ri (b1)), (10, .ri (b2)), (11, .ri (b3)), (12, .box 30 #[.bool false, .slice none 0 0])]) (Fcs_stab _) (by kernel_rfl) (by kernel_rfl) ?_
  simp only [tk1, tk0, dp1, dp0]
  refine wpT_quiet 5 (by rfl) (by kernel_rfl) ?_
  simp only [tk1, tk0, dp1, dp0]
  repeat (go_big_quiet_step (fail))
  refine wpQuiet_nil ?_
  refine wpT_eff (by rfl) (by rfl) (by rfl) ?_ ?_
  · intro W_ hK
    have hW := hK.1
    clear hK
    go_simp
    exact ⟨rfl, (ediv_ok gc _ _ bq a5 b1 _ (Blk.ext (hS.blk 13 rfl) hW) (RI.ext (hS.num 15 rfl) hW) (RI.ext (hS.num 10 rfl) hW) cj ds N79.out dx.out E79.out).mono fun e w' ⟨v, he, hR, hx⟩ => ⟨v, he, hx, hR⟩⟩
  intro v_ bK bL hr_
  obtain ⟨W_, hW_⟩ := hr_
  have hv_ : Fc.holds (.ri (b1)) bK bL v_ W_ := hW_.get
  clear hW_
  obtain ⟨dk, bd, dl, dm, rfl, -⟩ := RI.opn hv_
  clear hv_
  clear W_
  try simp only [Act.put, sa0, sa1, sa2]
  refine wpT_quiet 4 (by rfl) (by kernel_rfl) ?_
  simp only [tk1, tk0, dp1, dp0]
  repeat (go_big_quiet_step (fail))
  refine wpQuiet_nil ?_
  refine wpT_eff (by rfl) (by rfl) (by rfl) ?_ ?_
  · intro W_ hK
    have hW := hK.1
    clear hK
    go_simp
    exact ⟨rfl, (ediv_ok gc _ _ bt a4 b2 _ (Blk.ext (hS.blk 13 rfl) hW) (RI.ext (hS.num 12 rfl) hW) (RI.ext (hS.num 11 rfl) hW) cn dr N84.out dy.out E84.out).mono fun e w' ⟨v, he, hR, hx⟩ => ⟨v, he, hx, hR⟩⟩
  intro v_ bM bN hr_
  obtain ⟨W_, hW_⟩ := hr_
  have hv_ : Fc.holds (.ri (b2)) bM bN v_ W_ := hW_.get
  clear hW_
  obtain ⟨dn, be, dp, dq, rfl, -⟩ := RI.opn hv_
  clear hv_
  clear W_
  try simp only [Act.put, sa0, sa1, sa2]
  refine wpT_eff (by rfl) (by rfl) (by rfl) ?_ ?_
  · intro W_ hK
    have hW := hK.1
    have d0 : RI W_ (iv dk bd dl dm) b1 := hK.2 5 ((iv dk bd dl dm), bK, bL) (by rfl) (by kernel_rfl)
    have d1 : RI W_ (iv dn be dp dq) b2 := hK.2 10 ((iv dn be dp dq), bM, bN) (by rfl) (by kernel_rfl)
    clear hK
    go_simp
    exact ⟨rfl, (emul_ok gc _ _ b1 b2 b3 _ (Blk.ext (hS.blk 13 rfl) hW) d0 d1 A79 A84 E85.out e8).mono fun e w' ⟨v, he, hR, hx⟩ => ⟨v, he, hx, hR⟩⟩
  intro v_ d2 d3 hr_
  obtain ⟨W_, hW_⟩ := hr_
  have hv_ : Fc.holds (.ri (b3)) d2 d3 v_ W_ := hW_.get
  clear hW_
  obtain ⟨bf, a3, bg, bh, rfl, -⟩ := RI.opn hv_
  clear hv_
  clear W_
  try simp only [Act.put, sa0, sa1, sa2]
  refine wpT_eff (by rfl) (by rfl) (by rfl) ?_ ?_
  · intro W_ hK
    go_simp
    exact ⟨Ext.new _ _, rfl, by simp, Blk.new _ _ _⟩
  intro v_ aW d4 hr_
  obtain ⟨W_, hW_⟩ := hr_
  obtain ⟨rfl, dR, -⟩ : Fc.holds (.box 30 #[.bool false, .slice none 0 0]) aW d4 v_ W_ := hW_.get
  clear hW_ W_
  try simp only [Act.put, sa0, sa1, sa2]
  refine wpT_nil ?_
  intro bO hK
  have hlt_ := hS.lt
  replace hS := hS.mv hK.ext
  replace hS := hS.addI (show RI bO (iv dk bd dl dm) b1 from hK.at_ 5 (e := ((iv dk bd dl dm), bK, bL)) (by rfl))
  replace hS := hS.addI (show RI bO (iv dn be dp dq) b2 from hK.at_ 10 (e := ((iv dn be dp dq), bM, bN)) (by rfl))
  replace hS := hS.addI (show RI bO (iv bf a3 bg bh) b3 from hK.at_ 11 (e := ((iv bf a3 bg bh), d2, d3)) (by rfl))
  have bP : w11.heap.size ≤ aW := hK.low 12 _ (by rfl)
  have ee : Own w aW := Own.of hE_ bP
  replace hS := hS.addB (show Blk bO aW 30 #[.bool false, .slice none 0 0] from (hK.at_ 12 (by rfl)).2.2) (apart_of fun p hp => Nat.ne_of_lt (Nat.lt_of_lt_of_le (hlt_ p hp) bP))
  clear hK hlt_ hE_ Y8 Y7 Y5 Y4
  clear bP dR d4
  have dS := (hS.blk 0 rfl).cell
  have dT := (hS.blk 0 rfl).frozen
  have d5 := (St.put (W' := ((bO.setCell ⟨aW, 0, none⟩ (.bool bf)).setCell ⟨aW, 1, none⟩ (.slice a3 bg bh))) hS 0 0 [.bool bf, .slice a3 bg bh] (cs' := #[.bool bf, .slice a3 bg bh]) (bs' := _) rfl ee rfl rfl rfl rfl)
  have dU := (d5.blk 14 rfl).cell
  have dV := (d5.blk 2 rfl).cell
  have dW := (d5.blk 1 rfl).cell
  have dX := (d5.blk 0 rfl).cell
  go_wp2_with fail
  clear dS dT dU dV dW dX
  clear d5
  replace hS := (St.put (W' := ((bO.setCell ⟨aW, 0, none⟩ (.bool bf)).setCell ⟨aW, 1, none⟩ (.slice a3 bg bh))) hS 0 0 [.bool bf, .slice a3 bg bh] (cs' := #[.bool bf, .slice a3 bg bh]) (bs' := _) rfl ee rfl rfl rfl rfl)
  simp only [List.set_cons_zero] at hS
  generalize ((bO.setCell ⟨aW, 0, none⟩ (.bool bf)).setCell ⟨aW, 1, none⟩ (.slice a3 bg bh)) = w13 at hS ⊢
  refine (ereduce_ok gc _ _ _ bi bj b3 b4 b5 b6 _ (hS.blk 14 rfl) (hS.num 6 rfl) (hS.num 3 rfl) (hS.num 0 rfl) e4 e7 e8 N96.out E96.out).mono ?_
  rintro e w14 ⟨v_, rfl, hv_, hx_⟩
  replace hS := hS.mv hx_
  clear hx_
  obtain ⟨bQ, aD, bR, bS, bT, aE, bU, bV, bW, aF, bX, bY, rfl, aG, aH, aI⟩ := hv_
  replace hS := hS.addI aG
  clear aG
  replace hS := hS.addI aH
  clear aH
  replace hS := hS.addI aI
  clear aI
  have k_23 := (hS.blk 11 rfl).cell
  have k_24 := (hS.blk 11 rfl).frozen
  go_wp2
  replace hS := (St.put (W' := ((((((w14.setCell ⟨g6, 0, none⟩ (.bool bQ)).setCell ⟨g6, 1, none⟩ (.slice aD bR bS)).setCell ⟨g6, 2, none⟩ (.bool bT)).setCell ⟨g6, 3, none⟩ (.slice aE bU bV)).setCell ⟨g6, 4, none⟩ (.bool bW)).setCell ⟨g6, 5, none⟩ (.slice aF bX bY))) hS 11 0 [.bool bQ, .slice aD bR bS, .bool bT, .slice aE bU bV, .bool bW, .slice aF bX bY] (cs' := #[.bool bQ, .slice aD bR bS, .bool bT, .slice aE bU bV, .bool bW, .slice aF bX bY]) (bs' := _) rfl o6 rfl rfl rfl rfl)
  exact bp_gauss1 rfl rfl rfl (hS.blk 11 rfl) ⟨_, rfl, RG.mk (hS.num 2 rfl) (hS.num 1 rfl) (hS.num 0 rfl), hS.ext⟩

theorem eproduct_ok (gc : Nat) (v1 v2 : Value) (a b d a' b' d' u v t : Int) (n : Nat) (w : World) (hc : Calm w gc) (hX : RG w v1 a b d) (hY : RG w v2 a' b' d') (sx : Sz n a b d) (sy : Sz n a' b' d') (hn : n + n + 1 ≤ 12800)
    (hd : d ≠ 0) (hd' : d' ≠ 0) (E : (u, v, t) = nf (a * a' - b * b') (a * b' + b * a') (d * d')) :
    Calls Tryz.prog 107 #[.pointer (some ⟨gc, 0, none⟩), v1, v2] w fun e w' => ∃ x, e = .returned x ∧ RG w' x u v t ∧ Ext w w' := by
  obtain ⟨g, d1', a1, b1, hg, hg0, ed', ea, eb⟩ := gcd3_facts (a := d') (b := a) (c := b) hd'
  obtain ⟨h, d1, a1', b1', hh, hh0, ed, ea', eb'⟩ := gcd3_facts (a := d) (b := a') (c := b') hd
  have ba1 := lt_div hg0 ea sx.a
  have bb1 := lt_div hg0 eb sx.b
  have bd1' := lt_div hg0 ed' sy.d
  have ba1' := lt_div hh0 ea' sy.a
  have bb1' := lt_div hh0 eb' sy.b
  have bd1 := lt_div hh0 ed sx.d
  have bg : g.natAbs < 2 ^ n := lt_gcd hd' ⟨_, ed'⟩ sy.d
  have bh : h.natAbs < 2 ^ n := lt_gcd hd ⟨_, ed⟩ sx.d
  have p1 := lt_mul ba1 ba1'
  have p2 := lt_mul bb1 bb1'
  have p3 := lt_mul ba1 bb1'
  have p4 := lt_mul bb1 ba1'
  have p5 := lt_mul bd1 bd1'
  have q1 := lt_sub p1 p2
  have q2 := lt_add p3 p4
  have hD : d1 * d1' ≠ 0 := Int.mul_ne_zero (by intro e; rw [e] at ed; simp at ed; exact hd ed) (by intro e; rw [e] at ed'; simp at ed'; exact hd' ed')
  have E' : (u, v, t) = nf (a1 * a1' - b1 * b1') (a1 * b1' + b1 * a1') (d1 * d1') := by
    rw [E]
    refine nf_unique (Int.mul_ne_zero hd hd') hD ?_ ?_
    · rw [ea, eb, ed, ea', eb', ed']; grind
    · rw [ea, eb, ed, ea', eb', ed']; grind
  have sz := nf_size' (n := n + n + 1) hD E' q1 q2 (lt_up p5 (by omega))
  obtain ⟨x1, x2, x3⟩ := sx.lims (by omega)
  obtain ⟨y1, y2, y3⟩ := sy.lims (by omega)
  obtain ⟨s1, s2, s3⟩ := sz.lims hn
  exact eproduct_w gc v1 a b d v2 a' b' d' w hc hX x1 x2 x3 hY y1 y2 y3 g (Lib.hid hg) (lim_of bg (by omega)) h (Lib.hid hh) (lim_of bh (by omega))
    a1 (Lib.hid (div_of hg0 ea)) (lim_of ba1 (by omega)) (Lib.hid hg0) (Lib.hid ⟨_, ea⟩) b1 (Lib.hid (div_of hg0 eb)) (lim_of bb1 (by omega)) (Lib.hid hg0) (Lib.hid ⟨_, eb⟩)
    a1' (Lib.hid (div_of hh0 ea')) (lim_of ba1' (by omega)) (Lib.hid hh0) (Lib.hid ⟨_, ea'⟩) b1' (Lib.hid (div_of hh0 eb')) (lim_of bb1' (by omega)) (Lib.hid hh0) (Lib.hid ⟨_, eb'⟩)
    _ (Lib.hid rfl) (lim_of p1 (by omega)) _ (Lib.hid rfl) (lim_of p2 (by omega)) _ (Lib.hid rfl) (lim_of q1 (by omega))
    _ (Lib.hid rfl) (lim_of p3 (by omega)) _ (Lib.hid rfl) (lim_of p4 (by omega)) _ (Lib.hid rfl) (lim_of q2 (by omega))
    d1 (Lib.hid (div_of hh0 ed)) (lim_of bd1 (by omega)) (Lib.hid hh0) (Lib.hid ⟨_, ed⟩) d1' (Lib.hid (div_of hg0 ed')) (lim_of bd1' (by omega)) (Lib.hid hg0) (Lib.hid ⟨_, ed'⟩)
    _ (Lib.hid rfl) (lim_of p5 (by omega)) (Lib.hid hD) u v t (Lib.hid E') s1 s2 s3
end Go.Proofs.YtclkkoiaaddllaaGreat

/- Contracts of the calculator: quotients, the walk. -/
namespace Go.Proofs.YtclkkoiaaddllaaGreat
open Go.RowKit
set_option linter.unusedVariables false

set_option maxRecDepth 100000 in
set_option maxHeartbeats 16000000 in
theorem equotient_w (gc : Nat) (v1 : Value) (cN cO cP : Int) (v2 : Value) (cQ cR cS : Int) (w : World) (hc : Calm w gc) (hX1 : RG w v1 cN cO cP) (dF : cN.natAbs < lim) (dG : cO.natAbs < lim) (dH : cP.natAbs < lim) (hX2 : RG w v2 cQ cR cS) (dI : cQ.natAbs < lim) (dJ : cR.natAbs < lim) (dK : cS.natAbs < lim)
    (aL : Int) (E30 : Hid (aL = (gcdL [cN, cO, cQ, cR] : Nat))) (eL : aL.natAbs < lim)
    (b3 : Int) (E37 : Hid (b3 = (gcdL [cP, cS] : Nat))) (gn : b3.natAbs < lim)
    (bU : Int) (E42 : Hid (bU = cN / aL)) (go : bU.natAbs < lim)
    (N42 : Hid (aL ≠ 0))
    (f8 : Hid (aL ∣ cN))
    (bV : Int) (E47 : Hid (bV = cO / aL)) (gp : bV.natAbs < lim)
    (N47 : Hid (aL ≠ 0))
    (f9 : Hid (aL ∣ cO))
    (bI : Int) (E52 : Hid (bI = cQ / aL)) (gq : bI.natAbs < lim)
    (N52 : Hid (aL ≠ 0))
    (fa : Hid (aL ∣ cQ))
    (bJ : Int) (E57 : Hid (bJ = cR / aL)) (gr : bJ.natAbs < lim)
    (N57 : Hid (aL ≠ 0))
    (fb : Hid (aL ∣ cR))
    (bd : Int) (E62 : Hid (bd = (gcdL [bI, bJ] : Nat))) (fc : bd.natAbs < lim)
    (b4 : Int) (E66 : Hid (b4 = bI / bd)) (eM : b4.natAbs < lim)
    (N66 : Hid (bd ≠ 0))
    (fd : Hid (bd ∣ bI))
    (b5 : Int) (E70 : Hid (b5 = bJ / bd)) (eN : b5.natAbs < lim)
    (N70 : Hid (bd ≠ 0))
    (fe : Hid (bd ∣ bJ))
    (c7 : Int) (E75 : Hid (c7 = bU * b4)) (gs : c7.natAbs < lim)
    (c8 : Int) (E79 : Hid (c8 = bV * b5)) (gu : c8.natAbs < lim)
    (cs : Int) (E80 : Hid (cs = c7 + c8)) (gw : cs.natAbs < lim)
    (c9 : Int) (E85 : Hid (c9 = bV * b4)) (gx : c9.natAbs < lim)
    (ca : Int) (E89 : Hid (ca = bU * b5)) (gy : ca.natAbs < lim)
    (ct : Int) (E90 : Hid (ct = c9 - ca)) (gz : ct.natAbs < lim)
    (cb : Int) (E95 : Hid (cb = b4 * b4)) (gA : cb.natAbs < lim)
    (cc : Int) (E99 : Hid (cc = b5 * b5)) (gB : cc.natAbs < lim)
    (aP : Int) (ff : Hid (aP = cb + cc)) (dL : aP.natAbs < lim)
    (fg : Hid (aP ≠ 0))
    (ar au av : Int) (fh : Hid ((ar, au, av) = nf cs ct aP)) (gC : ar.natAbs < lim) (gD : au.natAbs < lim) (gE : av.natAbs < lim)
    (aY : Int) (fi : Hid (aY = cS / b3)) (fj : aY.natAbs < lim)
    (fk : Hid (b3 ≠ 0))
    (dM : Hid (b3 ∣ cS))
    (aQ : Int) (fl : Hid (aQ = cP / b3)) (fm : aQ.natAbs < lim)
    (fn : Hid (b3 ≠ 0))
    (dN : Hid (b3 ∣ cP))
    (aR : Int) (fo : Hid (aR = bd * aQ)) (dO : aR.natAbs < lim)
    (fp : Hid (aR ≠ 0))
    (a1 a2 a3 : Int) (fq : Hid ((a1, a2, a3) = nf aY 0 aR)) (gF : a1.natAbs < lim) (gG : a2.natAbs < lim) (gH : a3.natAbs < lim)
    (bK : Nat) (dP : Hid (Sz bK ar au av)) (dQ : Hid (Sz bK a1 a2 a3)) (fr : Hid (bK + bK + 1 ≤ 12800))
    (fs : Hid (av ≠ 0))
    (dR : Hid (a3 ≠ 0))
    (aw ax ay : Int) (ft : Hid ((aw, ax, ay) = nf (ar * a1 - au * a2) (ar * a2 + au * a1) (av * a3))) (gI : aw.natAbs < lim) (gJ : ax.natAbs < lim) (gK : ay.natAbs < lim)  :
    Calls Tryz.prog 140 #[.pointer (some ⟨gc, 0, none⟩), v1, v2] w fun e w' => ∃ v, e = .returned v ∧ RG w' v aw ax ay ∧ Ext w w' := by
  have hS := St.start w
  obtain ⟨be, bf, bg, bh, bi, bj, bk, bl, bm, bn, bo, bp, rfl, dS, dT, dU⟩ := hX1
  replace hS := hS.addI dS
  clear dS
  replace hS := hS.addI dT
  clear dT
  replace hS := hS.addI dU
  clear dU
  obtain ⟨bq, br, bs, bt, bu, bv, bw, bx, bz, bA, bB, bC, rfl, dV, dW, dX⟩ := hX2
  replace hS := hS.addI dV
  clear dV
  replace hS := hS.addI dW
  clear dW
  replace hS := hS.addI dX
  clear dX
  replace hS := hS.addB hc trivial
  clear hc
  have o4 : Own w w.heap.size := Own.of hS.ext (by simp)
  have o5 : Own w (w.heap.size + 1) := Own.of hS.ext (by simp)
  have o6 : Own w (w.heap.size + 2) := Own.of hS.ext (by simp)
  go_enter Tryz.func140, Tryz.ntmps140
  go_wp2_with fail
  replace hS := (St.al (St.al (St.al hS 32 #[.bool be, .slice bf bg bh, .bool bi, .slice bj bk bl, .bool bm, .slice bn bo bp] (g := w.heap.size) (by simp)) 32 #[.bool bq, .slice br bs bt, .bool bu, .slice bv bw bx, .bool bz, .slice bA bB bC] (g := (w.heap.size + 1)) (by simp)) 32 #[.bool false, .slice none 0 0, .bool false, .slice none 0 0, .bool false, .slice none 0 0] (g := (w.heap.size + 2)) (by simp))
  generalize (((w.alloc (.cells #[.bool be, .slice bf bg bh, .bool bi, .slice bj bk bl, .bool bm, .slice bn bo bp] 32)).alloc (.cells #[.bool bq, .slice br bs bt, .bool bu, .slice bv bw bx, .bool bz, .slice bA bB bC] 32)).alloc (.cells #[.bool false, .slice none 0 0, .bool false, .slice none 0 0, .bool false, .slice none 0 0] 32)) = w1 at hS ⊢
  generalize w.heap.size + 2 = g6 at hS o6 ⊢
  generalize w.heap.size + 1 = g5 at hS o5 ⊢
  generalize w.heap.size = g4 at hS o4 ⊢
  have Y5 := ExtOf.blk (hS.blk 1 rfl)
  have Y4 := ExtOf.blk (hS.blk 2 rfl)
  have hE_ := hS.ext
  refine wp_region_tame 20 (hasF [(9, .any), (10, .any), (16, .any), (17, .any), (18, .any), (19, .any)]) (Fcs [(9, .sl 30 4 #[.bool be, .slice bf bg bh, .bool bi, .slice bj bk bl, .bool bq, .slice br bs bt, .bool bu, .slice bv bw bx]), (10, .ri (aL)), (16, .sl 30 2 #[.bool bm, .slice bn bo bp, .bool bz, .slice bA bB bC]), (17, .ri (b3)), (18, .box 30 #[.bool false, .slice none 0 0]), (19, .box 30 #[.bool false, .slice none 0 0])]) (Fcs_stab _) (by kernel_rfl) (by kernel_rfl) ?_
  simp only [tk1, tk0, dp1, dp0]
  refine wpT_quiet 9 (by rfl) (by kernel_rfl) ?_
  simp only [tk1, tk0, dp1, dp0]
  repeat (go_big_quiet_step (fail))
  refine wpQuiet_nil ?_
  refine wpT_eff (by rfl) (by rfl) (by rfl) ?_ ?_
  · intro W_ hK
    go_simp
    exact ⟨Ext.new _ _, rfl, by simp, Blk.new _ _ _⟩
  intro v_ dk dY hr_
  obtain ⟨W_, hW_⟩ := hr_
  obtain ⟨rfl, cd, -⟩ : Fc.holds (.sl 30 4 #[.bool be, .slice bf bg bh, .bool bi, .slice bj bk bl, .bool bq, .slice br bs bt, .bool bu, .slice bv bw bx]) dk dY v_ W_ := hW_.get
  clear hW_ W_
  try simp only [Act.put, sa0, sa1, sa2]
  refine wpT_eff (by rfl) (by rfl) (by rfl) ?_ ?_
  · intro W_ hK
    have hW := hK.1
    have dZ : Blk W_ dk 30 #[.bool be, .slice bf bg bh, .bool bi, .slice bj bk bl, .bool bq, .slice br bs bt, .bool bu, .slice bv bw bx] := (hK.2 9 _ (by rfl) (by kernel_rfl)).2.2
    clear hK
    go_simp
    exact ⟨rfl, (egcd4_ok gc dk cN cO cQ cR aL _ (Blk.ext (hS.blk 3 rfl) hW) dZ (RI.ext (hS.num 5 rfl) hW) (RI.ext (hS.num 4 rfl) hW) (RI.ext (hS.num 2 rfl) hW) (RI.ext (hS.num 1 rfl) hW) dF dG dI dJ E30).mono fun e w' ⟨v, he, hR, hx⟩ => ⟨v, he, hx, hR⟩⟩
  intro v_ e0 e1 hr_
  obtain ⟨W_, hW_⟩ := hr_
  have hv_ : Fc.holds (.ri (aL)) e0 e1 v_ W_ := hW_.get
  clear hW_
  obtain ⟨bW, aM, bX, bY, rfl, -⟩ := RI.opn hv_
  clear hv_
  clear W_
  try simp only [Act.put, sa0, sa1, sa2]
  refine wpT_quiet 5 (by rfl) (by kernel_rfl) ?_
  simp only [tk1, tk0, dp1, dp0]
  repeat (go_big_quiet_step (fail))
  refine wpQuiet_nil ?_
  refine wpT_eff (by rfl) (by rfl) (by rfl) ?_ ?_
  · intro W_ hK
    go_simp
    exact ⟨Ext.new _ _, rfl, by simp, Blk.new _ _ _⟩
  intro v_ dl e2 hr_
  obtain ⟨W_, hW_⟩ := hr_
  obtain ⟨rfl, ce, -⟩ : Fc.holds (.sl 30 2 #[.bool bm, .slice bn bo bp, .bool bz, .slice bA bB bC]) dl e2 v_ W_ := hW_.get
  clear hW_ W_
  try simp only [Act.put, sa0, sa1, sa2]
  refine wpT_eff (by rfl) (by rfl) (by rfl) ?_ ?_
  · intro W_ hK
    have hW := hK.1
    have e3 : Blk W_ dl 30 #[.bool bm, .slice bn bo bp, .bool bz, .slice bA bB bC] := (hK.2 16 _ (by rfl) (by kernel_rfl)).2.2
    clear hK
    go_simp
    exact ⟨rfl, (egcd2_ok gc dl cP cS b3 _ (Blk.ext (hS.blk 3 rfl) hW) e3 (RI.ext (hS.num 3 rfl) hW) (RI.ext (hS.num 0 rfl) hW) dH dK E37).mono fun e w' ⟨v, he, hR, hx⟩ => ⟨v, he, hx, hR⟩⟩
  intro v_ e4 e5 hr_
  obtain ⟨W_, hW_⟩ := hr_
  have hv_ : Fc.holds (.ri (b3)) e4 e5 v_ W_ := hW_.get
  clear hW_
  obtain ⟨dm, bD, dn, dp, rfl, -⟩ := RI.opn hv_
  clear hv_
  clear W_
  try simp only [Act.put, sa0, sa1, sa2]
  refine wpT_eff (by rfl) (by rfl) (by rfl) ?_ ?_
  · intro W_ hK
    go_simp
    exact ⟨Ext.new _ _, rfl, by simp, Blk.new _ _ _⟩
  intro v_ g7 gL hr_
  obtain ⟨W_, hW_⟩ := hr_
  obtain ⟨rfl, eO, -⟩ : Fc.holds (.box 30 #[.bool false, .slice none 0 0]) g7 gL v_ W_ := hW_.get
  clear hW_ W_
  try simp only [Act.put, sa0, sa1, sa2]
  refine wpT_eff (by rfl) (by rfl) (by rfl) ?_ ?_
  · intro W_ hK
    go_simp
    exact ⟨Ext.new _ _, rfl, by simp, Blk.new _ _ _⟩
  intro v_ g8 gM hr_
  obtain ⟨W_, hW_⟩ := hr_
  obtain ⟨rfl, eP, -⟩ : Fc.holds (.box 30 #[.bool false, .slice none 0 0]) g8 gM v_ W_ := hW_.get
  clear hW_ W_
  try simp only [Act.put, sa0, sa1, sa2]
  refine wpT_nil ?_
  intro w2 hK
  have hlt_ := hS.lt
  replace hS := hS.mv hK.ext
  replace hS := hS.addI (show RI w2 (iv bW aM bX bY) aL from hK.at_ 10 (e := ((iv bW aM bX bY), e0, e1)) (by rfl))
  replace hS := hS.addI (show RI w2 (iv dm bD dn dp) b3 from hK.at_ 17 (e := ((iv dm bD dn dp), e4, e5)) (by rfl))
  have cT : w1.heap.size ≤ dk := hK.low 9 _ (by rfl)
  have o29 : Own w dk := Own.of hE_ cT
  replace hS := hS.addB (show Blk w2 dk 30 #[.bool be, .slice bf bg bh, .bool bi, .slice bj bk bl, .bool bq, .slice br bs bt, .bool bu, .slice bv bw bx] from (hK.at_ 9 (by rfl)).2.2) (apart_of fun p hp => Nat.ne_of_lt (Nat.lt_of_lt_of_le (hlt_ p hp) cT))
  have cU : w1.heap.size ≤ dl := hK.low 16 _ (by rfl)
  have o36 : Own w dl := Own.of hE_ cU
  replace hS := hS.addB (show Blk w2 dl 30 #[.bool bm, .slice bn bo bp, .bool bz, .slice bA bB bC] from (hK.at_ 16 (by rfl)).2.2) ⟨tame_ne cd ce (hK.disj 9 16 _ _ (by omega) (by rfl) (by rfl)), (apart_of fun p hp => Nat.ne_of_lt (Nat.lt_of_lt_of_le (hlt_ p hp) cU))⟩
  have fu : w1.heap.size ≤ g7 := hK.low 18 _ (by rfl)
  have o7 : Own w g7 := Own.of hE_ fu
  replace hS := hS.addB (show Blk w2 g7 30 #[.bool false, .slice none 0 0] from (hK.at_ 18 (by rfl)).2.2) ⟨tame_ne ce eO (hK.disj 16 18 _ _ (by omega) (by rfl) (by rfl)), ⟨tame_ne cd eO (hK.disj 9 18 _ _ (by omega) (by rfl) (by rfl)), (apart_of fun p hp => Nat.ne_of_lt (Nat.lt_of_lt_of_le (hlt_ p hp) fu))⟩⟩
  have fv : w1.heap.size ≤ g8 := hK.low 19 _ (by rfl)
  have o8 : Own w g8 := Own.of hE_ fv
  replace hS := hS.addB (show Blk w2 g8 30 #[.bool false, .slice none 0 0] from (hK.at_ 19 (by rfl)).2.2) ⟨tame_ne eO eP (hK.disj 18 19 _ _ (by omega) (by rfl) (by rfl)), ⟨tame_ne ce eP (hK.disj 16 19 _ _ (by omega) (by rfl) (by rfl)), ⟨tame_ne cd eP (hK.disj 9 19 _ _ (by omega) (by rfl) (by rfl)), (apart_of fun p hp => Nat.ne_of_lt (Nat.lt_of_lt_of_le (hlt_ p hp) fv))⟩⟩⟩
  clear hK hlt_ hE_ Y5 Y4
  clear cT cd dY
  clear cU ce e2
  clear fu eO gL
  clear fv eP gM
  have k_1 := (hS.blk 1 rfl).cell
  have k_2 := (hS.blk 1 rfl).frozen
  have fw := (St.put (W' := ((w2.setCell ⟨g7, 0, none⟩ (.bool bW)).setCell ⟨g7, 1, none⟩ (.slice aM bX bY))) hS 1 0 [.bool bW, .slice aM bX bY] (cs' := #[.bool bW, .slice aM bX bY]) (bs' := _) rfl o7 rfl rfl rfl rfl)
  have k_3 := (fw.blk 0 rfl).cell
  have k_4 := (fw.blk 0 rfl).frozen
  go_wp2_with fail
  clear k_1 k_2 k_3 k_4
  clear fw
  replace hS := (St.put (W' := ((((w2.setCell ⟨g7, 0, none⟩ (.bool bW)).setCell ⟨g7, 1, none⟩ (.slice aM bX bY)).setCell ⟨g8, 0, none⟩ (.bool dm)).setCell ⟨g8, 1, none⟩ (.slice bD dn dp))) (St.put (W' := ((w2.setCell ⟨g7, 0, none⟩ (.bool bW)).setCell ⟨g7, 1, none⟩ (.slice aM bX bY))) hS 1 0 [.bool bW, .slice aM bX bY] (cs' := #[.bool bW, .slice aM bX bY]) (bs' := _) rfl o7 rfl rfl rfl rfl) 0 0 [.bool dm, .slice bD dn dp] (cs' := #[.bool dm, .slice bD dn dp]) (bs' := _) rfl o8 rfl rfl rfl rfl)
  simp only [List.set_cons_zero, List.set_cons_succ] at hS
  generalize ((((w2.setCell ⟨g7, 0, none⟩ (.bool bW)).setCell ⟨g7, 1, none⟩ (.slice aM bX bY)).setCell ⟨g8, 0, none⟩ (.bool dm)).setCell ⟨g8, 1, none⟩ (.slice bD dn dp)) = w3 at hS ⊢
  have Y7 := ExtOf.blk (hS.blk 1 rfl)
  have Y4 := ExtOf.blk (hS.blk 6 rfl)
  have hE_ := hS.ext
  refine wp_region_tame 12 (hasF [(4, .any), (9, .any), (10, .any), (11, .any)]) (Fcs [(4, .ri (bU)), (9, .ri (bV)), (10, .box 30 #[.bool false, .slice none 0 0]), (11, .box 30 #[.bool false, .slice none 0 0])]) (Fcs_stab _) (by kernel_rfl) (by kernel_rfl) ?_
  simp only [tk1, tk0, dp1, dp0]
  refine wpT_quiet 4 (by rfl) (by kernel_rfl) ?_
  simp only [tk1, tk0, dp1, dp0]
  repeat (go_big_quiet_step (fail))
  refine wpQuiet_nil ?_
  refine wpT_eff (by rfl) (by rfl) (by rfl) ?_ ?_
  · intro W_ hK
    have hW := hK.1
    clear hK
    go_simp
    exact ⟨rfl, (ediv_ok gc _ _ cN aL bU _ (Blk.ext (hS.blk 7 rfl) hW) (RI.ext (hS.num 7 rfl) hW) (RI.ext (hS.num 1 rfl) hW) dF eL N42.out f8.out E42.out).mono fun e w' ⟨v, he, hR, hx⟩ => ⟨v, he, hx, hR⟩⟩
  intro v_ e6 e7 hr_
  obtain ⟨W_, hW_⟩ := hr_
  have hv_ : Fc.holds (.ri (bU)) e6 e7 v_ W_ := hW_.get
  clear hW_
  obtain ⟨bZ, aN, c0, c1, rfl, -⟩ := RI.opn hv_
  clear hv_
  clear W_
  try simp only [Act.put, sa0, sa1, sa2]
  refine wpT_quiet 4 (by rfl) (by kernel_rfl) ?_
  simp only [tk1, tk0, dp1, dp0]
  repeat (go_big_quiet_step (fail))
  refine wpQuiet_nil ?_
  refine wpT_eff (by rfl) (by rfl) (by rfl) ?_ ?_
  · intro W_ hK
    have hW := hK.1
    clear hK
    go_simp
    exact ⟨rfl, (ediv_ok gc _ _ cO aL bV _ (Blk.ext (hS.blk 7 rfl) hW) (RI.ext (hS.num 6 rfl) hW) (RI.ext (hS.num 1 rfl) hW) dG eL N47.out f9.out E47.out).mono fun e w' ⟨v, he, hR, hx⟩ => ⟨v, he, hx, hR⟩⟩
  intro v_ e8 e9 hr_
  obtain ⟨W_, hW_⟩ := hr_
  have hv_ : Fc.holds (.ri (bV)) e8 e9 v_ W_ := hW_.get
  clear hW_
  obtain ⟨dq, bE, dr, ds, rfl, -⟩ := RI.opn hv_
  clear hv_
  clear W_
  try simp only [Act.put, sa0, sa1, sa2]
  refine wpT_eff (by rfl) (by rfl) (by rfl) ?_ ?_
  · intro W_ hK
    go_simp
    exact ⟨Ext.new _ _, rfl, by simp, Blk.new _ _ _⟩
  intro v_ g9 gN hr_
  obtain ⟨W_, hW_⟩ := hr_
  obtain ⟨rfl, gO, -⟩ : Fc.holds (.box 30 #[.bool false, .slice none 0 0]) g9 gN v_ W_ := hW_.get
  clear hW_ W_
  try simp only [Act.put, sa0, sa1, sa2]
  refine wpT_eff (by rfl) (by rfl) (by rfl) ?_ ?_
  · intro W_ hK
    go_simp
    exact ⟨Ext.new _ _, rfl, by simp, Blk.new _ _ _⟩
  intro v_ cu ea hr_
  obtain ⟨W_, hW_⟩ := hr_
  obtain ⟨rfl, eb, -⟩ : Fc.holds (.box 30 #[.bool false, .slice none 0 0]) cu ea v_ W_ := hW_.get
  clear hW_ W_
  try simp only [Act.put, sa0, sa1, sa2]
  refine wpT_nil ?_
  intro w4 hK
  have hlt_ := hS.lt
  replace hS := hS.mv hK.ext
  replace hS := hS.addI (show RI w4 (iv bZ aN c0 c1) bU from hK.at_ 4 (e := ((iv bZ aN c0 c1), e6, e7)) (by rfl))
  replace hS := hS.addI (show RI w4 (iv dq bE dr ds) bV from hK.at_ 9 (e := ((iv dq bE dr ds), e8, e9)) (by rfl))
  have fx : w3.heap.size ≤ g9 := hK.low 10 _ (by rfl)
  have o9 : Own w g9 := Own.of hE_ fx
  replace hS := hS.addB (show Blk w4 g9 30 #[.bool false, .slice none 0 0] from (hK.at_ 10 (by rfl)).2.2) (apart_of fun p hp => Nat.ne_of_lt (Nat.lt_of_lt_of_le (hlt_ p hp) fx))
  have cV : w3.heap.size ≤ cu := hK.low 11 _ (by rfl)
  have o10 : Own w cu := Own.of hE_ cV
  replace hS := hS.addB (show Blk w4 cu 30 #[.bool false, .slice none 0 0] from (hK.at_ 11 (by rfl)).2.2) ⟨tame_ne gO eb (hK.disj 10 11 _ _ (by omega) (by rfl) (by rfl)), (apart_of fun p hp => Nat.ne_of_lt (Nat.lt_of_lt_of_le (hlt_ p hp) cV))⟩
  clear hK hlt_ hE_ Y7 Y4
  clear fx gO gN
  clear cV eb ea
  have k_5 := (hS.blk 1 rfl).cell
  have k_6 := (hS.blk 1 rfl).frozen
  have fy := (St.put (W' := ((w4.setCell ⟨g9, 0, none⟩ (.bool bZ)).setCell ⟨g9, 1, none⟩ (.slice aN c0 c1))) hS 1 0 [.bool bZ, .slice aN c0 c1] (cs' := #[.bool bZ, .slice aN c0 c1]) (bs' := _) rfl o9 rfl rfl rfl rfl)
  have k_7 := (fy.blk 0 rfl).cell
  have k_8 := (fy.blk 0 rfl).frozen
  go_wp2_with fail
  clear k_5 k_6 k_7 k_8
  clear fy
  replace hS := (St.put (W' := ((((w4.setCell ⟨g9, 0, none⟩ (.bool bZ)).setCell ⟨g9, 1, none⟩ (.slice aN c0 c1)).setCell ⟨cu, 0, none⟩ (.bool dq)).setCell ⟨cu, 1, none⟩ (.slice bE dr ds))) (St.put (W' := ((w4.setCell ⟨g9, 0, none⟩ (.bool bZ)).setCell ⟨g9, 1, none⟩ (.slice aN c0 c1))) hS 1 0 [.bool bZ, .slice aN c0 c1] (cs' := #[.bool bZ, .slice aN c0 c1]) (bs' := _) rfl o9 rfl rfl rfl rfl) 0 0 [.bool dq, .slice bE dr ds] (cs' := #[.bool dq, .slice bE dr ds]) (bs' := _) rfl o10 rfl rfl rfl rfl)
  simp only [List.set_cons_zero, List.set_cons_succ] at hS
  generalize ((((w4.setCell ⟨g9, 0, none⟩ (.bool bZ)).setCell ⟨g9, 1, none⟩ (.slice aN c0 c1)).setCell ⟨cu, 0, none⟩ (.bool dq)).setCell ⟨cu, 1, none⟩ (.slice bE dr ds)) = w5 at hS ⊢
  have Y7 := ExtOf.blk (hS.blk 3 rfl)
  have Y5 := ExtOf.blk (hS.blk 7 rfl)
  have hE_ := hS.ext
  refine wp_region_tame 12 (hasF [(4, .any), (9, .any), (10, .any), (11, .any)]) (Fcs [(4, .ri (bI)), (9, .ri (bJ)), (10, .box 30 #[.bool false, .slice none 0 0]), (11, .box 30 #[.bool false, .slice none 0 0])]) (Fcs_stab _) (by kernel_rfl) (by kernel_rfl) ?_
  simp only [tk1, tk0, dp1, dp0]
  refine wpT_quiet 4 (by rfl) (by kernel_rfl) ?_
  simp only [tk1, tk0, dp1, dp0]
  repeat (go_big_quiet_step (fail))
  refine wpQuiet_nil ?_
  refine wpT_eff (by rfl) (by rfl) (by rfl) ?_ ?_
  · intro W_ hK
    have hW := hK.1
    clear hK
    go_simp
    exact ⟨rfl, (ediv_ok gc _ _ cQ aL bI _ (Blk.ext (hS.blk 9 rfl) hW) (RI.ext (hS.num 6 rfl) hW) (RI.ext (hS.num 3 rfl) hW) dI eL N52.out fa.out E52.out).mono fun e w' ⟨v, he, hR, hx⟩ => ⟨v, he, hx, hR⟩⟩
  intro v_ ec ed hr_
  obtain ⟨W_, hW_⟩ := hr_
  have hv_ : Fc.holds (.ri (bI)) ec ed v_ W_ := hW_.get
  clear hW_
  obtain ⟨aZ, a7, b0, b1, rfl, -⟩ := RI.opn hv_
  clear hv_
  clear W_
  try simp only [Act.put, sa0, sa1, sa2]
  refine wpT_quiet 4 (by rfl) (by kernel_rfl) ?_
  simp only [tk1, tk0, dp1, dp0]
  repeat (go_big_quiet_step (fail))
  refine wpQuiet_nil ?_
  refine wpT_eff (by rfl) (by rfl) (by rfl) ?_ ?_
  · intro W_ hK
    have hW := hK.1
    clear hK
    go_simp
    exact ⟨rfl, (ediv_ok gc _ _ cR aL bJ _ (Blk.ext (hS.blk 9 rfl) hW) (RI.ext (hS.num 5 rfl) hW) (RI.ext (hS.num 3 rfl) hW) dJ eL N57.out fb.out E57.out).mono fun e w' ⟨v, he, hR, hx⟩ => ⟨v, he, hx, hR⟩⟩
  intro v_ ee ef hr_
  obtain ⟨W_, hW_⟩ := hr_
  have hv_ : Fc.holds (.ri (bJ)) ee ef v_ W_ := hW_.get
  clear hW_
  obtain ⟨bL, az, bM, bN, rfl, -⟩ := RI.opn hv_
  clear hv_
  clear W_
  try simp only [Act.put, sa0, sa1, sa2]
  refine wpT_eff (by rfl) (by rfl) (by rfl) ?_ ?_
  · intro W_ hK
    go_simp
    exact ⟨Ext.new _ _, rfl, by simp, Blk.new _ _ _⟩
  intro v_ aq eg hr_
  obtain ⟨W_, hW_⟩ := hr_
  obtain ⟨rfl, eh, -⟩ : Fc.holds (.box 30 #[.bool false, .slice none 0 0]) aq eg v_ W_ := hW_.get
  clear hW_ W_
  try simp only [Act.put, sa0, sa1, sa2]
  refine wpT_eff (by rfl) (by rfl) (by rfl) ?_ ?_
  · intro W_ hK
    go_simp
    exact ⟨Ext.new _ _, rfl, by simp, Blk.new _ _ _⟩
  intro v_ b6 ei hr_
  obtain ⟨W_, hW_⟩ := hr_
  obtain ⟨rfl, ej, -⟩ : Fc.holds (.box 30 #[.bool false, .slice none 0 0]) b6 ei v_ W_ := hW_.get
  clear hW_ W_
  try simp only [Act.put, sa0, sa1, sa2]
  refine wpT_nil ?_
  intro w6 hK
  have hlt_ := hS.lt
  replace hS := hS.mv hK.ext
  replace hS := hS.addI (show RI w6 (iv aZ a7 b0 b1) bI from hK.at_ 4 (e := ((iv aZ a7 b0 b1), ec, ed)) (by rfl))
  replace hS := hS.addI (show RI w6 (iv bL az bM bN) bJ from hK.at_ 9 (e := ((iv bL az bM bN), ee, ef)) (by rfl))
  have cW : w5.heap.size ≤ aq := hK.low 10 _ (by rfl)
  have ek : Own w aq := Own.of hE_ cW
  replace hS := hS.addB (show Blk w6 aq 30 #[.bool false, .slice none 0 0] from (hK.at_ 10 (by rfl)).2.2) (apart_of fun p hp => Nat.ne_of_lt (Nat.lt_of_lt_of_le (hlt_ p hp) cW))
  have cX : w5.heap.size ≤ b6 := hK.low 11 _ (by rfl)
  have fz : Own w b6 := Own.of hE_ cX
  replace hS := hS.addB (show Blk w6 b6 30 #[.bool false, .slice none 0 0] from (hK.at_ 11 (by rfl)).2.2) ⟨tame_ne eh ej (hK.disj 10 11 _ _ (by omega) (by rfl) (by rfl)), (apart_of fun p hp => Nat.ne_of_lt (Nat.lt_of_lt_of_le (hlt_ p hp) cX))⟩
  clear hK hlt_ hE_ Y7 Y5
  clear cW eh eg
  clear cX ej ei
  have k_9 := (hS.blk 1 rfl).cell
  have fA := (hS.blk 1 rfl).frozen
  have fB := (St.put (W' := ((w6.setCell ⟨aq, 0, none⟩ (.bool aZ)).setCell ⟨aq, 1, none⟩ (.slice a7 b0 b1))) hS 1 0 [.bool aZ, .slice a7 b0 b1] (cs' := #[.bool aZ, .slice a7 b0 b1]) (bs' := _) rfl ek rfl rfl rfl rfl)
  have fC := (fB.blk 0 rfl).cell
  have fD := (fB.blk 0 rfl).frozen
  have fE := (St.put (W' := ((((w6.setCell ⟨aq, 0, none⟩ (.bool aZ)).setCell ⟨aq, 1, none⟩ (.slice a7 b0 b1)).setCell ⟨b6, 0, none⟩ (.bool bL)).setCell ⟨b6, 1, none⟩ (.slice az bM bN))) (St.put (W' := ((w6.setCell ⟨aq, 0, none⟩ (.bool aZ)).setCell ⟨aq, 1, none⟩ (.slice a7 b0 b1))) hS 1 0 [.bool aZ, .slice a7 b0 b1] (cs' := #[.bool aZ, .slice a7 b0 b1]) (bs' := _) rfl ek rfl rfl rfl rfl) 0 0 [.bool bL, .slice az bM bN] (cs' := #[.bool bL, .slice az bM bN]) (bs' := _) rfl fz rfl rfl rfl rfl)
  have fF := (fE.blk 1 rfl).cell
  have fG := (fE.blk 0 rfl).cell
  have o61 : Own w w6.heap.size := Own.of hS.ext (by simp)
  go_wp2_with fail
  clear k_9 fA fC fD fF fG
  clear fB fE
  replace hS := (St.al (St.put (W' := ((((w6.setCell ⟨aq, 0, none⟩ (.bool aZ)).setCell ⟨aq, 1, none⟩ (.slice a7 b0 b1)).setCell ⟨b6, 0, none⟩ (.bool bL)).setCell ⟨b6, 1, none⟩ (.slice az bM bN))) (St.put (W' := ((w6.setCell ⟨aq, 0, none⟩ (.bool aZ)).setCell ⟨aq, 1, none⟩ (.slice a7 b0 b1))) hS 1 0 [.bool aZ, .slice a7 b0 b1] (cs' := #[.bool aZ, .slice a7 b0 b1]) (bs' := _) rfl ek rfl rfl rfl rfl) 0 0 [.bool bL, .slice az bM bN] (cs' := #[.bool bL, .slice az bM bN]) (bs' := _) rfl fz rfl rfl rfl rfl) 30 #[.bool aZ, .slice a7 b0 b1, .bool bL, .slice az bM bN] (g := w6.heap.size) (by simp))
  simp only [List.set_cons_zero, List.set_cons_succ] at hS
  generalize (((((w6.setCell ⟨aq, 0, none⟩ (.bool aZ)).setCell ⟨aq, 1, none⟩ (.slice a7 b0 b1)).setCell ⟨b6, 0, none⟩ (.bool bL)).setCell ⟨b6, 1, none⟩ (.slice az bM bN)).alloc (.cells #[.bool aZ, .slice a7 b0 b1, .bool bL, .slice az bM bN] 30)) = w7 at hS ⊢
  generalize w6.heap.size = g61 at hS o61 ⊢
  refine (egcd2_ok gc g61 bI bJ bd _ (hS.blk 12 rfl) (hS.blk 0 rfl) (hS.num 1 rfl) (hS.num 0 rfl) gq gr E62).mono ?_
  rintro e w8 ⟨v_, rfl, hv_, hx_⟩
  replace hS := hS.mv hx_
  clear hx_
  obtain ⟨gP, el, gQ, gR, rfl, cv⟩ := RI.opn hv_
  clear hv_
  replace hS := hS.addI cv
  clear cv
  have o13 : Own w w8.heap.size := Own.of hS.ext (by simp)
  have fH := (St.al hS 30 #[.bool false, .slice none 0 0] (g := w8.heap.size) (by simp))
  have fI := (fH.blk 0 rfl).cell
  have fJ := (fH.blk 0 rfl).frozen
  go_wp2_with fail
  clear fI fJ
  clear fH
  replace hS := (St.al hS 30 #[.bool gP, .slice el gQ gR] (g := w8.heap.size) (by simp))
  generalize (w8.alloc (.cells #[.bool gP, .slice el gQ gR] 30)) = w9 at hS ⊢
  generalize w8.heap.size = g13 at hS o13 ⊢
  have fK := ExtOf.blk (hS.blk 0 rfl)
  have cY := ExtOf.blk (hS.blk 2 rfl)
  have cZ := ExtOf.blk (hS.blk 3 rfl)
  have hE_ := hS.ext
  refine wp_region_tame 8 (hasF [(3, .any), (7, .any)]) (Fcs [(3, .ri (b4)), (7, .ri (b5))]) (Fcs_stab _) (by kernel_rfl) (by kernel_rfl) ?_
  simp only [tk1, tk0, dp1, dp0]
  refine wpT_quiet 3 (by rfl) (by kernel_rfl) ?_
  simp only [tk1, tk0, dp1, dp0]
  repeat (go_big_quiet_step (fail))
  refine wpQuiet_nil ?_
  refine wpT_eff (by rfl) (by rfl) (by rfl) ?_ ?_
  · intro W_ hK
    have hW := hK.1
    clear hK
    go_simp
    exact ⟨rfl, (ediv_ok gc _ _ bI bd b4 _ (Blk.ext (hS.blk 13 rfl) hW) (RI.ext (hS.num 2 rfl) hW) (RI.ext (hS.num 0 rfl) hW) gq fc N66.out fd.out E66.out).mono fun e w' ⟨v, he, hR, hx⟩ => ⟨v, he, hx, hR⟩⟩
  intro v_ em en hr_
  obtain ⟨W_, hW_⟩ := hr_
  have hv_ : Fc.holds (.ri (b4)) em en v_ W_ := hW_.get
  clear hW_
  obtain ⟨c2, aO, c3, c4, rfl, -⟩ := RI.opn hv_
  clear hv_
  clear W_
  try simp only [Act.put, sa0, sa1, sa2]
  refine wpT_quiet 3 (by rfl) (by kernel_rfl) ?_
  simp only [tk1, tk0, dp1, dp0]
  repeat (go_big_quiet_step (fail))
  refine wpQuiet_nil ?_
  refine wpT_eff (by rfl) (by rfl) (by rfl) ?_ ?_
  · intro W_ hK
    have hW := hK.1
    clear hK
    go_simp
    exact ⟨rfl, (ediv_ok gc _ _ bJ bd b5 _ (Blk.ext (hS.blk 13 rfl) hW) (RI.ext (hS.num 1 rfl) hW) (RI.ext (hS.num 0 rfl) hW) gr fc N70.out fe.out E70.out).mono fun e w' ⟨v, he, hR, hx⟩ => ⟨v, he, hx, hR⟩⟩
  intro v_ eo ep hr_
  obtain ⟨W_, hW_⟩ := hr_
  have hv_ : Fc.holds (.ri (b5)) eo ep v_ W_ := hW_.get
  clear hW_
  obtain ⟨dt, bF, du, dv, rfl, -⟩ := RI.opn hv_
  clear hv_
  clear W_
  try simp only [Act.put, sa0, sa1, sa2]
  refine wpT_nil ?_
  intro dw hK
  have hlt_ := hS.lt
  replace hS := hS.mv hK.ext
  replace hS := hS.addI (show RI dw (iv c2 aO c3 c4) b4 from hK.at_ 3 (e := ((iv c2 aO c3 c4), em, en)) (by rfl))
  replace hS := hS.addI (show RI dw (iv dt bF du dv) b5 from hK.at_ 7 (e := ((iv dt bF du dv), eo, ep)) (by rfl))
  clear hK hlt_ hE_ fK cY cZ
  have fL := (hS.blk 3 rfl).cell
  have fM := (hS.blk 3 rfl).frozen
  have fN := (St.put (W' := ((dw.setCell ⟨aq, 0, none⟩ (.bool c2)).setCell ⟨aq, 1, none⟩ (.slice aO c3 c4))) hS 3 0 [.bool c2, .slice aO c3 c4] (cs' := #[.bool c2, .slice aO c3 c4]) (bs' := _) rfl ek rfl rfl rfl rfl)
  have fO := (fN.blk 2 rfl).cell
  have fP := (fN.blk 2 rfl).frozen
  go_wp2_with fail
  clear fL fM fO fP
  clear fN
  replace hS := (St.put (W' := ((((dw.setCell ⟨aq, 0, none⟩ (.bool c2)).setCell ⟨aq, 1, none⟩ (.slice aO c3 c4)).setCell ⟨b6, 0, none⟩ (.bool dt)).setCell ⟨b6, 1, none⟩ (.slice bF du dv))) (St.put (W' := ((dw.setCell ⟨aq, 0, none⟩ (.bool c2)).setCell ⟨aq, 1, none⟩ (.slice aO c3 c4))) hS 3 0 [.bool c2, .slice aO c3 c4] (cs' := #[.bool c2, .slice aO c3 c4]) (bs' := _) rfl ek rfl rfl rfl rfl) 2 0 [.bool dt, .slice bF du dv] (cs' := #[.bool dt, .slice bF du dv]) (bs' := _) rfl fz rfl rfl rfl rfl)
  simp only [List.set_cons_zero, List.set_cons_succ] at hS
  generalize ((((dw.setCell ⟨aq, 0, none⟩ (.bool c2)).setCell ⟨aq, 1, none⟩ (.slice aO c3 c4)).setCell ⟨b6, 0, none⟩ (.bool dt)).setCell ⟨b6, 1, none⟩ (.slice bF du dv)) = w11 at hS ⊢
  have cY := ExtOf.blk (hS.blk 2 rfl)
  have cZ := ExtOf.blk (hS.blk 3 rfl)
  have fQ := ExtOf.blk (hS.blk 4 rfl)
  have Y9 := ExtOf.blk (hS.blk 5 rfl)
  have hE_ := hS.ext
  refine wp_region_tame 11 (hasF [(4, .any), (8, .any), (9, .any), (10, .any)]) (Fcs [(4, .ri (c7)), (8, .ri (c8)), (9, .ri (cs)), (10, .box 30 #[.bool false, .slice none 0 0])]) (Fcs_stab _) (by kernel_rfl) (by kernel_rfl) ?_
  simp only [tk1, tk0, dp1, dp0]
  refine wpT_quiet 4 (by rfl) (by kernel_rfl) ?_
  simp only [tk1, tk0, dp1, dp0]
  repeat (go_big_quiet_step (fail))
  refine wpQuiet_nil ?_
  refine wpT_eff (by rfl) (by rfl) (by rfl) ?_ ?_
  · intro W_ hK
    have hW := hK.1
    clear hK
    go_simp
    exact ⟨rfl, (emul_ok gc _ _ bU b4 c7 _ (Blk.ext (hS.blk 13 rfl) hW) (RI.ext (hS.num 6 rfl) hW) (RI.ext (hS.num 1 rfl) hW) go eM E75.out gs).mono fun e w' ⟨v, he, hR, hx⟩ => ⟨v, he, hx, hR⟩⟩
  intro v_ d0 d1 hr_
  obtain ⟨W_, hW_⟩ := hr_
  have hv_ : Fc.holds (.ri (c7)) d0 d1 v_ W_ := hW_.get
  clear hW_
  obtain ⟨eQ, cf, eR, eS, rfl, -⟩ := RI.opn hv_
  clear hv_
  clear W_
  try simp only [Act.put, sa0, sa1, sa2]
  refine wpT_quiet 3 (by rfl) (by kernel_rfl) ?_
  simp only [tk1, tk0, dp1, dp0]
  repeat (go_big_quiet_step (fail))
  refine wpQuiet_nil ?_
  refine wpT_eff (by rfl) (by rfl) (by rfl) ?_ ?_
  · intro W_ hK
    have hW := hK.1
    clear hK
    go_simp
    exact ⟨rfl, (emul_ok gc _ _ bV b5 c8 _ (Blk.ext (hS.blk 13 rfl) hW) (RI.ext (hS.num 5 rfl) hW) (RI.ext (hS.num 0 rfl) hW) gp eN E79.out gu).mono fun e w' ⟨v, he, hR, hx⟩ => ⟨v, he, hx, hR⟩⟩
  intro v_ d2 d3 hr_
  obtain ⟨W_, hW_⟩ := hr_
  have hv_ : Fc.holds (.ri (c8)) d2 d3 v_ W_ := hW_.get
  clear hW_
  obtain ⟨eT, cg, eU, eV, rfl, -⟩ := RI.opn hv_
  clear hv_
  clear W_
  try simp only [Act.put, sa0, sa1, sa2]
  refine wpT_eff (by rfl) (by rfl) (by rfl) ?_ ?_
  · intro W_ hK
    have hW := hK.1
    have er : RI W_ (iv eQ cf eR eS) c7 := hK.2 4 ((iv eQ cf eR eS), d0, d1) (by rfl) (by kernel_rfl)
    have es : RI W_ (iv eT cg eU eV) c8 := hK.2 8 ((iv eT cg eU eV), d2, d3) (by rfl) (by kernel_rfl)
    clear hK
    go_simp
    exact ⟨rfl, (eadd_ok gc _ _ c7 c8 cs _ (Blk.ext (hS.blk 13 rfl) hW) er es gs gu E80.out gw).mono fun e w' ⟨v, he, hR, hx⟩ => ⟨v, he, hx, hR⟩⟩
  intro v_ et eu hr_
  obtain ⟨W_, hW_⟩ := hr_
  have hv_ : Fc.holds (.ri (cs)) et eu v_ W_ := hW_.get
  clear hW_
  obtain ⟨dx, bG, dy, dz, rfl, -⟩ := RI.opn hv_
  clear hv_
  clear W_
  try simp only [Act.put, sa0, sa1, sa2]
  refine wpT_eff (by rfl) (by rfl) (by rfl) ?_ ?_
  · intro W_ hK
    go_simp
    exact ⟨Ext.new _ _, rfl, by simp, Blk.new _ _ _⟩
  intro v_ cw ev hr_
  obtain ⟨W_, hW_⟩ := hr_
  obtain ⟨rfl, fR, -⟩ : Fc.holds (.box 30 #[.bool false, .slice none 0 0]) cw ev v_ W_ := hW_.get
  clear hW_ W_
  try simp only [Act.put, sa0, sa1, sa2]
  refine wpT_nil ?_
  intro dA hK
  have hlt_ := hS.lt
  replace hS := hS.mv hK.ext
  replace hS := hS.addI (show RI dA (iv eQ cf eR eS) c7 from hK.at_ 4 (e := ((iv eQ cf eR eS), d0, d1)) (by rfl))
  replace hS := hS.addI (show RI dA (iv eT cg eU eV) c8 from hK.at_ 8 (e := ((iv eT cg eU eV), d2, d3)) (by rfl))
  replace hS := hS.addI (show RI dA (iv dx bG dy dz) cs from hK.at_ 9 (e := ((iv dx bG dy dz), et, eu)) (by rfl))
  have d4 : w11.heap.size ≤ cw := hK.low 10 _ (by rfl)
  have o14 : Own w cw := Own.of hE_ d4
  replace hS := hS.addB (show Blk dA cw 30 #[.bool false, .slice none 0 0] from (hK.at_ 10 (by rfl)).2.2) (apart_of fun p hp => Nat.ne_of_lt (Nat.lt_of_lt_of_le (hlt_ p hp) d4))
  clear hK hlt_ hE_ cY cZ fQ Y9
  clear d4 fR ev
  have fS := (hS.blk 0 rfl).cell
  have fT := (hS.blk 0 rfl).frozen
  go_wp2_with fail
  clear fS fT
  replace hS := (St.put (W' := ((dA.setCell ⟨cw, 0, none⟩ (.bool dx)).setCell ⟨cw, 1, none⟩ (.slice bG dy dz))) hS 0 0 [.bool dx, .slice bG dy dz] (cs' := #[.bool dx, .slice bG dy dz]) (bs' := _) rfl o14 rfl rfl rfl rfl)
  simp only [List.set_cons_zero] at hS
  generalize ((dA.setCell ⟨cw, 0, none⟩ (.bool dx)).setCell ⟨cw, 1, none⟩ (.slice bG dy dz)) = w13 at hS ⊢
  have cY := ExtOf.blk (hS.blk 3 rfl)
  have cZ := ExtOf.blk (hS.blk 4 rfl)
  have fQ := ExtOf.blk (hS.blk 5 rfl)
  have Y9 := ExtOf.blk (hS.blk 6 rfl)
  have hE_ := hS.ext
  refine wp_region_tame 11 (hasF [(4, .any), (8, .any), (9, .any), (10, .any)]) (Fcs [(4, .ri (c9)), (8, .ri (ca)), (9, .ri (ct)), (10, .box 30 #[.bool false, .slice none 0 0])]) (Fcs_stab _) (by kernel_rfl) (by kernel_rfl) ?_
  simp only [tk1, tk0, dp1, dp0]
  refine wpT_quiet 4 (by rfl) (by kernel_rfl) ?_
  simp only [tk1, tk0, dp1, dp0]
  repeat (go_big_quiet_step (fail))
  refine wpQuiet_nil ?_
  refine wpT_eff (by rfl) (by rfl) (by rfl) ?_ ?_
  · intro W_ hK
    have hW := hK.1
    clear hK
    go_simp
    exact ⟨rfl, (emul_ok gc _ _ bV b4 c9 _ (Blk.ext (hS.blk 14 rfl) hW) (RI.ext (hS.num 8 rfl) hW) (RI.ext (hS.num 4 rfl) hW) gp eM E85.out gx).mono fun e w' ⟨v, he, hR, hx⟩ => ⟨v, he, hx, hR⟩⟩
  intro v_ d5 d6 hr_
  obtain ⟨W_, hW_⟩ := hr_
  have hv_ : Fc.holds (.ri (c9)) d5 d6 v_ W_ := hW_.get
  clear hW_
  obtain ⟨eW, ch, eX, eY, rfl, -⟩ := RI.opn hv_
  clear hv_
  clear W_
  try simp only [Act.put, sa0, sa1, sa2]
  refine wpT_quiet 3 (by rfl) (by kernel_rfl) ?_
  simp only [tk1, tk0, dp1, dp0]
  repeat (go_big_quiet_step (fail))
  refine wpQuiet_nil ?_
  refine wpT_eff (by rfl) (by rfl) (by rfl) ?_ ?_
  · intro W_ hK
    have hW := hK.1
    clear hK
    go_simp
    exact ⟨rfl, (emul_ok gc _ _ bU b5 ca _ (Blk.ext (hS.blk 14 rfl) hW) (RI.ext (hS.num 9 rfl) hW) (RI.ext (hS.num 3 rfl) hW) go eN E89.out gy).mono fun e w' ⟨v, he, hR, hx⟩ => ⟨v, he, hx, hR⟩⟩
  intro v_ d7 d8 hr_
  obtain ⟨W_, hW_⟩ := hr_
  have hv_ : Fc.holds (.ri (ca)) d7 d8 v_ W_ := hW_.get
  clear hW_
  obtain ⟨eZ, ci, f0, f1, rfl, -⟩ := RI.opn hv_
  clear hv_
  clear W_
  try simp only [Act.put, sa0, sa1, sa2]
  refine wpT_eff (by rfl) (by rfl) (by rfl) ?_ ?_
  · intro W_ hK
    have hW := hK.1
    have ew : RI W_ (iv eW ch eX eY) c9 := hK.2 4 ((iv eW ch eX eY), d5, d6) (by rfl) (by kernel_rfl)
    have ex : RI W_ (iv eZ ci f0 f1) ca := hK.2 8 ((iv eZ ci f0 f1), d7, d8) (by rfl) (by kernel_rfl)
    clear hK
    go_simp
    exact ⟨rfl, (esub_ok gc _ _ c9 ca ct _ (Blk.ext (hS.blk 14 rfl) hW) ew ex gx gy E90.out gz).mono fun e w' ⟨v, he, hR, hx⟩ => ⟨v, he, hx, hR⟩⟩
  intro v_ ey ez hr_
  obtain ⟨W_, hW_⟩ := hr_
  have hv_ : Fc.holds (.ri (ct)) ey ez v_ W_ := hW_.get
  clear hW_
  obtain ⟨dB, bH, dC, dD, rfl, -⟩ := RI.opn hv_
  clear hv_
  clear W_
  try simp only [Act.put, sa0, sa1, sa2]
  refine wpT_eff (by rfl) (by rfl) (by rfl) ?_ ?_
  · intro W_ hK
    go_simp
    exact ⟨Ext.new _ _, rfl, by simp, Blk.new _ _ _⟩
  intro v_ cx eA hr_
  obtain ⟨W_, hW_⟩ := hr_
  obtain ⟨rfl, fU, -⟩ : Fc.holds (.box 30 #[.bool false, .slice none 0 0]) cx eA v_ W_ := hW_.get
  clear hW_ W_
  try simp only [Act.put, sa0, sa1, sa2]
  refine wpT_nil ?_
  intro dE hK
  have hlt_ := hS.lt
  replace hS := hS.mv hK.ext
  replace hS := hS.addI (show RI dE (iv eW ch eX eY) c9 from hK.at_ 4 (e := ((iv eW ch eX eY), d5, d6)) (by rfl))
  replace hS := hS.addI (show RI dE (iv eZ ci f0 f1) ca from hK.at_ 8 (e := ((iv eZ ci f0 f1), d7, d8)) (by rfl))
  replace hS := hS.addI (show RI dE (iv dB bH dC dD) ct from hK.at_ 9 (e := ((iv dB bH dC dD), ey, ez)) (by rfl))
  have d9 : w13.heap.size ≤ cx := hK.low 10 _ (by rfl)
  have o15 : Own w cx := Own.of hE_ d9
  replace hS := hS.addB (show Blk dE cx 30 #[.bool false, .slice none 0 0] from (hK.at_ 10 (by rfl)).2.2) (apart_of fun p hp => Nat.ne_of_lt (Nat.lt_of_lt_of_le (hlt_ p hp) d9))
  clear hK hlt_ hE_ cY cZ fQ Y9
  clear d9 fU eA
  have fV := (hS.blk 0 rfl).cell
  have fW := (hS.blk 0 rfl).frozen
  go_wp2_with fail
  clear fV fW
  replace hS := (St.put (W' := ((dE.setCell ⟨cx, 0, none⟩ (.bool dB)).setCell ⟨cx, 1, none⟩ (.slice bH dC dD))) hS 0 0 [.bool dB, .slice bH dC dD] (cs' := #[.bool dB, .slice bH dC dD]) (bs' := _) rfl o15 rfl rfl rfl rfl)
  simp only [List.set_cons_zero] at hS
  generalize ((dE.setCell ⟨cx, 0, none⟩ (.bool dB)).setCell ⟨cx, 1, none⟩ (.slice bH dC dD)) = w15 at hS ⊢
  have cY := ExtOf.blk (hS.blk 4 rfl)
  have cZ := ExtOf.blk (hS.blk 5 rfl)
  have hE_ := hS.ext
  refine wp_region_tame 11 (hasF [(4, .any), (8, .any), (9, .any), (10, .any)]) (Fcs [(4, .ri (cb)), (8, .ri (cc)), (9, .ri (aP)), (10, .box 30 #[.bool false, .slice none 0 0])]) (Fcs_stab _) (by kernel_rfl) (by kernel_rfl) ?_
  simp only [tk1, tk0, dp1, dp0]
  refine wpT_quiet 4 (by rfl) (by kernel_rfl) ?_
  simp only [tk1, tk0, dp1, dp0]
  repeat (go_big_quiet_step (fail))
  refine wpQuiet_nil ?_
  refine wpT_eff (by rfl) (by rfl) (by rfl) ?_ ?_
  · intro W_ hK
    have hW := hK.1
    clear hK
    go_simp
    exact ⟨rfl, (emul_ok gc _ _ b4 b4 cb _ (Blk.ext (hS.blk 15 rfl) hW) (RI.ext (hS.num 7 rfl) hW) (RI.ext (hS.num 7 rfl) hW) eM eM E95.out gA).mono fun e w' ⟨v, he, hR, hx⟩ => ⟨v, he, hx, hR⟩⟩
  intro v_ da db hr_
  obtain ⟨W_, hW_⟩ := hr_
  have hv_ : Fc.holds (.ri (cb)) da db v_ W_ := hW_.get
  clear hW_
  obtain ⟨f2, cj, f3, f4, rfl, -⟩ := RI.opn hv_
  clear hv_
  clear W_
  try simp only [Act.put, sa0, sa1, sa2]
  refine wpT_quiet 3 (by rfl) (by kernel_rfl) ?_
  simp only [tk1, tk0, dp1, dp0]
  repeat (go_big_quiet_step (fail))
  refine wpQuiet_nil ?_
  refine wpT_eff (by rfl) (by rfl) (by rfl) ?_ ?_
  · intro W_ hK
    have hW := hK.1
    clear hK
    go_simp
    exact ⟨rfl, (emul_ok gc _ _ b5 b5 cc _ (Blk.ext (hS.blk 15 rfl) hW) (RI.ext (hS.num 6 rfl) hW) (RI.ext (hS.num 6 rfl) hW) eN eN E99.out gB).mono fun e w' ⟨v, he, hR, hx⟩ => ⟨v, he, hx, hR⟩⟩
  intro v_ dc dd hr_
  obtain ⟨W_, hW_⟩ := hr_
  have hv_ : Fc.holds (.ri (cc)) dc dd v_ W_ := hW_.get
  clear hW_
  obtain ⟨f5, ck, f6, f7, rfl, -⟩ := RI.opn hv_
  clear hv_
  clear W_
  try simp only [Act.put, sa0, sa1, sa2]
  refine wpT_eff (by rfl) (by rfl) (by rfl) ?_ ?_
  · intro W_ hK
    have hW := hK.1
    have eB : RI W_ (iv f2 cj f3 f4) cb := hK.2 4 ((iv f2 cj f3 f4), da, db) (by rfl) (by kernel_rfl)
    have eC : RI W_ (iv f5 ck f6 f7) cc := hK.2 8 ((iv f5 ck f6 f7), dc, dd) (by rfl) (by kernel_rfl)
    clear hK
    go_simp
    exact ⟨rfl, (eadd_ok gc _ _ cb cc aP _ (Blk.ext (hS.blk 15 rfl) hW) eB eC gA gB ff.out dL).mono fun e w' ⟨v, he, hR, hx⟩ => ⟨v, he, hx, hR⟩⟩
  intro v_ cy cz hr_
  obtain ⟨W_, hW_⟩ := hr_
  have hv_ : Fc.holds (.ri (aP)) cy cz v_ W_ := hW_.get
  clear hW_
  obtain ⟨aS, ab, aT, aU, rfl, -⟩ := RI.opn hv_
  clear hv_
  clear W_
  try simp only [Act.put, sa0, sa1, sa2]
  refine wpT_eff (by rfl) (by rfl) (by rfl) ?_ ?_
  · intro W_ hK
    go_simp
    exact ⟨Ext.new _ _, rfl, by simp, Blk.new _ _ _⟩
  intro v_ c5 eD hr_
  obtain ⟨W_, hW_⟩ := hr_
  obtain ⟨rfl, fX, -⟩ : Fc.holds (.box 30 #[.bool false, .slice none 0 0]) c5 eD v_ W_ := hW_.get
  clear hW_ W_
  try simp only [Act.put, sa0, sa1, sa2]
  refine wpT_nil ?_
  intro de hK
  have hlt_ := hS.lt
  replace hS := hS.mv hK.ext
  replace hS := hS.addI (show RI de (iv f2 cj f3 f4) cb from hK.at_ 4 (e := ((iv f2 cj f3 f4), da, db)) (by rfl))
  replace hS := hS.addI (show RI de (iv f5 ck f6 f7) cc from hK.at_ 8 (e := ((iv f5 ck f6 f7), dc, dd)) (by rfl))
  replace hS := hS.addI (show RI de (iv aS ab aT aU) aP from hK.at_ 9 (e := ((iv aS ab aT aU), cy, cz)) (by rfl))
  have df : w15.heap.size ≤ c5 := hK.low 10 _ (by rfl)
  have gS : Own w c5 := Own.of hE_ df
  replace hS := hS.addB (show Blk de c5 30 #[.bool false, .slice none 0 0] from (hK.at_ 10 (by rfl)).2.2) (apart_of fun p hp => Nat.ne_of_lt (Nat.lt_of_lt_of_le (hlt_ p hp) df))
  clear hK hlt_ hE_ cY cZ
  clear df fX eD
  have fY := (hS.blk 0 rfl).cell
  have fZ := (hS.blk 0 rfl).frozen
  have eE := (St.put (W' := ((de.setCell ⟨c5, 0, none⟩ (.bool aS)).setCell ⟨c5, 1, none⟩ (.slice ab aT aU))) hS 0 0 [.bool aS, .slice ab aT aU] (cs' := #[.bool aS, .slice ab aT aU]) (bs' := _) rfl gS rfl rfl rfl rfl)
  have g0 := (eE.blk 16 rfl).cell
  have g1 := (eE.blk 2 rfl).cell
  have g2 := (eE.blk 1 rfl).cell
  have ga := (eE.blk 0 rfl).cell
  go_wp2_with fail
  clear fY fZ g0 g1 g2 ga
  clear eE
  replace hS := (St.put (W' := ((de.setCell ⟨c5, 0, none⟩ (.bool aS)).setCell ⟨c5, 1, none⟩ (.slice ab aT aU))) hS 0 0 [.bool aS, .slice ab aT aU] (cs' := #[.bool aS, .slice ab aT aU]) (bs' := _) rfl gS rfl rfl rfl rfl)
  simp only [List.set_cons_zero] at hS
  generalize ((de.setCell ⟨c5, 0, none⟩ (.bool aS)).setCell ⟨c5, 1, none⟩ (.slice ab aT aU)) = w17 at hS ⊢
  refine (ereduce_ok gc _ _ _ cs ct aP ar au av _ (hS.blk 16 rfl) (hS.num 6 rfl) (hS.num 3 rfl) (hS.num 0 rfl) gw gz dL fg.out fh.out).mono ?_
  rintro e eF ⟨v_, rfl, hv_, hx_⟩
  replace hS := hS.mv hx_
  clear hx_
  obtain ⟨cA, bO, cB, cC, cD, bP, cE, cF, cG, bQ, cH, cI, rfl, b7, b8, b9⟩ := hv_
  replace hS := hS.addI b7
  clear b7
  replace hS := hS.addI b8
  clear b8
  replace hS := hS.addI b9
  clear b9
  have o17 : Own w eF.heap.size := Own.of hS.ext (by simp)
  have gb := (St.al hS 32 #[.bool false, .slice none 0 0, .bool false, .slice none 0 0, .bool false, .slice none 0 0] (g := eF.heap.size) (by simp))
  have gd := (gb.blk 0 rfl).cell
  have gf := (gb.blk 0 rfl).frozen
  go_wp2_with fail
  clear gd gf
  clear gb
  replace hS := (St.al hS 32 #[.bool cA, .slice bO cB cC, .bool cD, .slice bP cE cF, .bool cG, .slice bQ cH cI] (g := eF.heap.size) (by simp))
  generalize (eF.alloc (.cells #[.bool cA, .slice bO cB cC, .bool cD, .slice bP cE cF, .bool cG, .slice bQ cH cI] 32)) = gT at hS ⊢
  generalize eF.heap.size = g17 at hS o17 ⊢
  have fK := ExtOf.blk (hS.blk 4 rfl)
  have Y8 := ExtOf.blk (hS.blk 10 rfl)
  have Y5 := ExtOf.blk (hS.blk 15 rfl)
  have Y4 := ExtOf.blk (hS.blk 16 rfl)
  have hE_ := hS.ext
  refine wp_region_tame 15 (hasF [(4, .any), (11, .any), (12, .any), (13, .any), (14, .any)]) (Fcs [(4, .ri (aY)), (11, .ri (aQ)), (12, .ri (aR)), (13, .box 30 #[.bool false, .slice none 0 0]), (14, .box 30 #[.bool false, .slice none 0 0])]) (Fcs_stab _) (by kernel_rfl) (by kernel_rfl) ?_
  simp only [tk1, tk0, dp1, dp0]
  refine wpT_quiet 4 (by rfl) (by kernel_rfl) ?_
  simp only [tk1, tk0, dp1, dp0]
  repeat (go_big_quiet_step (fail))
  refine wpQuiet_nil ?_
  refine wpT_eff (by rfl) (by rfl) (by rfl) ?_ ?_
  · intro W_ hK
    have hW := hK.1
    clear hK
    go_simp
    exact ⟨rfl, (ediv_ok gc _ _ cS b3 aY _ (Blk.ext (hS.blk 17 rfl) hW) (RI.ext (hS.num 21 rfl) hW) (RI.ext (hS.num 19 rfl) hW) dK gn fk.out dM.out fi.out).mono fun e w' ⟨v, he, hR, hx⟩ => ⟨v, he, hx, hR⟩⟩
  intro v_ cJ cK hr_
  obtain ⟨W_, hW_⟩ := hr_
  have hv_ : Fc.holds (.ri (aY)) cJ cK v_ W_ := hW_.get
  clear hW_
  obtain ⟨ac, a0, ad, ae, rfl, -⟩ := RI.opn hv_
  clear hv_
  clear W_
  try simp only [Act.put, sa0, sa1, sa2]
  refine wpT_quiet 6 (by rfl) (by kernel_rfl) ?_
  simp only [tk1, tk0, dp1, dp0]
  repeat (go_big_quiet_step (fail))
  refine wpQuiet_nil ?_
  refine wpT_eff (by rfl) (by rfl) (by rfl) ?_ ?_
  · intro W_ hK
    have hW := hK.1
    clear hK
    go_simp
    exact ⟨rfl, (ediv_ok gc _ _ cP b3 aQ _ (Blk.ext (hS.blk 17 rfl) hW) (RI.ext (hS.num 24 rfl) hW) (RI.ext (hS.num 19 rfl) hW) dH gn fn.out dN.out fl.out).mono fun e w' ⟨v, he, hR, hx⟩ => ⟨v, he, hx, hR⟩⟩
  intro v_ bR bS hr_
  obtain ⟨W_, hW_⟩ := hr_
  have hv_ : Fc.holds (.ri (aQ)) bR bS v_ W_ := hW_.get
  clear hW_
  obtain ⟨cl, ba, cn, co, rfl, -⟩ := RI.opn hv_
  clear hv_
  clear W_
  try simp only [Act.put, sa0, sa1, sa2]
  refine wpT_eff (by rfl) (by rfl) (by rfl) ?_ ?_
  · intro W_ hK
    have hW := hK.1
    have dg : RI W_ (iv cl ba cn co) aQ := hK.2 11 ((iv cl ba cn co), bR, bS) (by rfl) (by kernel_rfl)
    clear hK
    go_simp
    exact ⟨rfl, (emul_ok gc _ _ bd aQ aR _ (Blk.ext (hS.blk 17 rfl) hW) (RI.ext (hS.num 14 rfl) hW) dg fc fm fo.out dO).mono fun e w' ⟨v, he, hR, hx⟩ => ⟨v, he, hx, hR⟩⟩
  intro v_ cL cM hr_
  obtain ⟨W_, hW_⟩ := hr_
  have hv_ : Fc.holds (.ri (aR)) cL cM v_ W_ := hW_.get
  clear hW_
  obtain ⟨aV, af, aW, aX, rfl, -⟩ := RI.opn hv_
  clear hv_
  clear W_
  try simp only [Act.put, sa0, sa1, sa2]
  refine wpT_eff (by rfl) (by rfl) (by rfl) ?_ ?_
  · intro W_ hK
    go_simp
    exact ⟨Ext.new _ _, rfl, by simp, Blk.new _ _ _⟩
  intro v_ b2 eG hr_
  obtain ⟨W_, hW_⟩ := hr_
  obtain ⟨rfl, eH, -⟩ : Fc.holds (.box 30 #[.bool false, .slice none 0 0]) b2 eG v_ W_ := hW_.get
  clear hW_ W_
  try simp only [Act.put, sa0, sa1, sa2]
  refine wpT_eff (by rfl) (by rfl) (by rfl) ?_ ?_
  · intro W_ hK
    go_simp
    exact ⟨Ext.new _ _, rfl, by simp, Blk.new _ _ _⟩
  intro v_ c6 eI hr_
  obtain ⟨W_, hW_⟩ := hr_
  obtain ⟨rfl, eJ, -⟩ : Fc.holds (.box 30 #[.bool false, .slice none 0 0]) c6 eI v_ W_ := hW_.get
  clear hW_ W_
  try simp only [Act.put, sa0, sa1, sa2]
  refine wpT_nil ?_
  intro bT hK
  have hlt_ := hS.lt
  replace hS := hS.mv hK.ext
  replace hS := hS.addI (show RI bT (iv ac a0 ad ae) aY from hK.at_ 4 (e := ((iv ac a0 ad ae), cJ, cK)) (by rfl))
  replace hS := hS.addI (show RI bT (iv cl ba cn co) aQ from hK.at_ 11 (e := ((iv cl ba cn co), bR, bS)) (by rfl))
  replace hS := hS.addI (show RI bT (iv aV af aW aX) aR from hK.at_ 12 (e := ((iv aV af aW aX), cL, cM)) (by rfl))
  have dh : gT.heap.size ≤ b2 := hK.low 13 _ (by rfl)
  have gg : Own w b2 := Own.of hE_ dh
  replace hS := hS.addB (show Blk bT b2 30 #[.bool false, .slice none 0 0] from (hK.at_ 13 (by rfl)).2.2) (apart_of fun p hp => Nat.ne_of_lt (Nat.lt_of_lt_of_le (hlt_ p hp) dh))
  have di : gT.heap.size ≤ c6 := hK.low 14 _ (by rfl)
  have gU : Own w c6 := Own.of hE_ di
  replace hS := hS.addB (show Blk bT c6 30 #[.bool false, .slice none 0 0] from (hK.at_ 14 (by rfl)).2.2) ⟨tame_ne eH eJ (hK.disj 13 14 _ _ (by omega) (by rfl) (by rfl)), (apart_of fun p hp => Nat.ne_of_lt (Nat.lt_of_lt_of_le (hlt_ p hp) di))⟩
  clear hK hlt_ hE_ fK Y8 Y5 Y4
  clear dh eH eG
  clear di eJ eI
  have gh := (hS.blk 1 rfl).cell
  have gi := (hS.blk 1 rfl).frozen
  have gj := (St.put (W' := ((bT.setCell ⟨b2, 0, none⟩ (.bool ac)).setCell ⟨b2, 1, none⟩ (.slice a0 ad ae))) hS 1 0 [.bool ac, .slice a0 ad ae] (cs' := #[.bool ac, .slice a0 ad ae]) (bs' := _) rfl gg rfl rfl rfl rfl)
  have gk := (gj.blk 0 rfl).cell
  have gl := (gj.blk 0 rfl).frozen
  have eK := (St.put (W' := ((((bT.setCell ⟨b2, 0, none⟩ (.bool ac)).setCell ⟨b2, 1, none⟩ (.slice a0 ad ae)).setCell ⟨c6, 0, none⟩ (.bool aV)).setCell ⟨c6, 1, none⟩ (.slice af aW aX))) (St.put (W' := ((bT.setCell ⟨b2, 0, none⟩ (.bool ac)).setCell ⟨b2, 1, none⟩ (.slice a0 ad ae))) hS 1 0 [.bool ac, .slice a0 ad ae] (cs' := #[.bool ac, .slice a0 ad ae]) (bs' := _) rfl gg rfl rfl rfl rfl) 0 0 [.bool aV, .slice af aW aX] (cs' := #[.bool aV, .slice af aW aX]) (bs' := _) rfl gU rfl rfl rfl rfl)
  have gm := (eK.blk 19 rfl).cell
  go_wp2_with fail
  clear gh gi gk gl gm
  clear gj eK
  replace hS := (St.put (W' := ((((bT.setCell ⟨b2, 0, none⟩ (.bool ac)).setCell ⟨b2, 1, none⟩ (.slice a0 ad ae)).setCell ⟨c6, 0, none⟩ (.bool aV)).setCell ⟨c6, 1, none⟩ (.slice af aW aX))) (St.put (W' := ((bT.setCell ⟨b2, 0, none⟩ (.bool ac)).setCell ⟨b2, 1, none⟩ (.slice a0 ad ae))) hS 1 0 [.bool ac, .slice a0 ad ae] (cs' := #[.bool ac, .slice a0 ad ae]) (bs' := _) rfl gg rfl rfl rfl rfl) 0 0 [.bool aV, .slice af aW aX] (cs' := #[.bool aV, .slice af aW aX]) (bs' := _) rfl gU rfl rfl rfl rfl)
  simp only [List.set_cons_zero, List.set_cons_succ] at hS
  generalize ((((bT.setCell ⟨b2, 0, none⟩ (.bool ac)).setCell ⟨b2, 1, none⟩ (.slice a0 ad ae)).setCell ⟨c6, 0, none⟩ (.bool aV)).setCell ⟨c6, 1, none⟩ (.slice af aW aX)) = w21 at hS ⊢
  have Y19 := ExtOf.blk (hS.blk 0 rfl)
  have Y18 := ExtOf.blk (hS.blk 1 rfl)
  have Y17 := ExtOf.blk (hS.blk 2 rfl)
  have hE_ := hS.ext
  refine wp_region_tame 8 (hasF [(6, .any), (7, .any)]) (Fcs [(6, .rg (a1) (a2) (a3)), (7, .rg (aw) (ax) (ay))]) (Fcs_stab _) (by kernel_rfl) (by kernel_rfl) ?_
  simp only [tk1, tk0, dp1, dp0]
  refine wpT_quiet 6 (by rfl) (by kernel_rfl) ?_
  simp only [tk1, tk0, dp1, dp0]
  repeat (go_big_quiet_step (fail))
  refine wpQuiet_nil ?_
  refine wpT_eff (by rfl) (by rfl) (by rfl) ?_ ?_
  · intro W_ hK
    have hW := hK.1
    clear hK
    go_simp
    exact ⟨rfl, (ereduce_ok gc _ _ _ aY 0 aR a1 a2 a3 _ (Blk.ext (hS.blk 19 rfl) hW) (RI.ext (hS.num 2 rfl) hW) (RI.zero _) (RI.ext (hS.num 0 rfl) hW) fj lim0 dO fp.out fq.out).mono fun e w' ⟨v, he, hR, hx⟩ => ⟨v, he, hx, hR⟩⟩
  intro v_ aA aB hr_
  obtain ⟨W_, hW_⟩ := hr_
  have hv_ : Fc.holds (.rg (a1) (a2) (a3)) aA aB v_ W_ := hW_.get
  clear hW_
  obtain ⟨ag, a4, ah, ai, aj, a5, ak, am, an, a6, ao, ap, rfl, -, -, -⟩ := hv_
  clear W_
  try simp only [Act.put, sa0, sa1, sa2]
  refine wpT_eff (by rfl) (by rfl) (by rfl) ?_ ?_
  · intro W_ hK
    have hW := hK.1
    have cp : RI W_ (iv ag a4 ah ai) a1 := RG.at1 (hK.2 6 ((gv ag a4 ah ai aj a5 ak am an a6 ao ap), aA, aB) (by rfl) (by kernel_rfl))
    have cq : RI W_ (iv aj a5 ak am) a2 := RG.at2 (hK.2 6 ((gv ag a4 ah ai aj a5 ak am an a6 ao ap), aA, aB) (by rfl) (by kernel_rfl))
    have cr : RI W_ (iv an a6 ao ap) a3 := RG.at3 (hK.2 6 ((gv ag a4 ah ai aj a5 ak am an a6 ao ap), aA, aB) (by rfl) (by kernel_rfl))
    clear hK
    go_simp
    exact ⟨rfl, (eproduct_ok gc _ _ ar au av a1 a2 a3 aw ax ay bK _ (Blk.ext (hS.blk 19 rfl) hW) (RG.mk (RI.ext (hS.num 5 rfl) hW) (RI.ext (hS.num 4 rfl) hW) (RI.ext (hS.num 3 rfl) hW)) (RG.mk cp cq cr) dP.out dQ.out fr.out fs.out dR.out ft.out).mono fun e w' ⟨v, he, hR, hx⟩ => ⟨v, he, hx, hR⟩⟩
  intro v_ bb bc hr_
  obtain ⟨W_, hW_⟩ := hr_
  have hv_ : Fc.holds (.rg (aw) (ax) (ay)) bb bc v_ W_ := hW_.get
  clear hW_
  obtain ⟨aC, a8, aD, aE, aF, a9, aG, aH, aI, aa, aJ, aK, rfl, -, -, -⟩ := hv_
  clear W_
  try simp only [Act.put, sa0, sa1, sa2]
  refine wpT_nil ?_
  intro dj hK
  have hlt_ := hS.lt
  replace hS := hS.mv hK.ext
  replace hS := hS.addI (show RI dj (iv ag a4 ah ai) a1 from RG.at1 (hK.at_ 6 (e := ((gv ag a4 ah ai aj a5 ak am an a6 ao ap), aA, aB)) (by rfl)))
  replace hS := hS.addI (show RI dj (iv aj a5 ak am) a2 from RG.at2 (hK.at_ 6 (e := ((gv ag a4 ah ai aj a5 ak am an a6 ao ap), aA, aB)) (by rfl)))
  replace hS := hS.addI (show RI dj (iv an a6 ao ap) a3 from RG.at3 (hK.at_ 6 (e := ((gv ag a4 ah ai aj a5 ak am an a6 ao ap), aA, aB)) (by rfl)))
  replace hS := hS.addI (show RI dj (iv aC a8 aD aE) aw from RG.at1 (hK.at_ 7 (e := ((gv aC a8 aD aE aF a9 aG aH aI aa aJ aK), bb, bc)) (by rfl)))
  replace hS := hS.addI (show RI dj (iv aF a9 aG aH) ax from RG.at2 (hK.at_ 7 (e := ((gv aC a8 aD aE aF a9 aG aH aI aa aJ aK), bb, bc)) (by rfl)))
  replace hS := hS.addI (show RI dj (iv aI aa aJ aK) ay from RG.at3 (hK.at_ 7 (e := ((gv aC a8 aD aE aF a9 aG aH aI aa aJ aK), bb, bc)) (by rfl)))
  clear hK hlt_ hE_ Y19 Y18 Y17
  have k_38 := (hS.blk 16 rfl).cell
  have k_39 := (hS.blk 16 rfl).frozen
  go_wp2
  replace hS := (St.put (W' := ((((((dj.setCell ⟨g6, 0, none⟩ (.bool aC)).setCell ⟨g6, 1, none⟩ (.slice a8 aD aE)).setCell ⟨g6, 2, none⟩ (.bool aF)).setCell ⟨g6, 3, none⟩ (.slice a9 aG aH)).setCell ⟨g6, 4, none⟩ (.bool aI)).setCell ⟨g6, 5, none⟩ (.slice aa aJ aK))) hS 16 0 [.bool aC, .slice a8 aD aE, .bool aF, .slice a9 aG aH, .bool aI, .slice aa aJ aK] (cs' := #[.bool aC, .slice a8 aD aE, .bool aF, .slice a9 aG aH, .bool aI, .slice aa aJ aK]) (bs' := _) rfl o6 rfl rfl rfl rfl)
  exact bp_gauss1 rfl rfl rfl (hS.blk 16 rfl) ⟨_, rfl, RG.mk (hS.num 2 rfl) (hS.num 1 rfl) (hS.num 0 rfl), hS.ext⟩

end Go.Proofs.YtclkkoiaaddllaaGreat
