/- Words and contracts that the laws share, several texts in one. -/
import Derived.Test.YtjeijmnhbckjdaaGreatDoorQNGodjj
/- The program over numbers: turning. -/
namespace Go.Proofs.YtjeijmnhbckjdaaGreatDoor
open Go.RowKit
set_option linter.unusedVariables false

theorem St.swap {w W : World} {a b : Bk} {bs : List Bk} {fs : List Nm} (h : St w W (a :: b :: bs) fs) : St w W (b :: a :: bs) fs :=
  ⟨h.ext, fun p hp => h.blks p (by simp at hp ⊢; rcases hp with e | e | e <;> simp [e]), ⟨⟨fun e => h.nd.1.1 e.symm, h.nd.2.1⟩, h.nd.1.2, h.nd.2.2⟩, h.nums⟩

set_option maxRecDepth 100000 in
set_option maxHeartbeats 12800000 in
theorem xTurn_1 (v0 : Value) (q0 : PQ) (n0 : Nat) (m1 : Int) (K r : Nat) (w : World) (hX0 : PV w v0 q0 n0) (l1 : -9223372036854775808 ≤ m1) (u1 : m1 ≤ 9223372036854775807) (HK : Hid (m1 % 12 = (K : Int))) (HR : Hid (K = 3 * r + 1)) (hr : r ≤ 3)
     (hn : 2 * (n0 + n0) + 65 ≤ 12800) :
    Calls Tryz.prog 19 #[v0, .int .i64 m1] w fun e w' => ∃ v, e = .returned v ∧ (∃ u, v = .tuple #[u, .int .i64 0] ∧ PV w' u (⟨GQ.blend 1 (q0.u * GQ.ip 1) 3 q0.v 2 * GQ.ip r, GQ.blend 1 q0.u 1 (q0.v * GQ.ip 1) 2 * GQ.ip r⟩) (n0 + n0 + 65)) ∧ Ext w w' := by
  have hS := St.start w
  obtain ⟨x0a, x0b, x0d, x0x, x0y, x0z, hX0, cK, cL, cM, cN⟩ := hX0
  obtain ⟨b1, b2, b3, b4, b5, b6, b7, b8, b9, ba, bb, bc, bd, be, bf, bg, bh, bi, bj, bk, bl, bm, bn, bo, rfl, cO, cP, cQ, cR, cS, cT⟩ := hX0
  replace hS := hS.addI cO
  clear cO
  replace hS := hS.addI cP
  clear cP
  replace hS := hS.addI cQ
  clear cQ
  replace hS := hS.addI cR
  clear cR
  replace hS := hS.addI cS
  clear cS
  replace hS := hS.addI cT
  clear cT
  have e12 := mod12w HK.out
  have e3 : (K : Int).tmod 3 = 1 := by rw [HR.out, Int.tmod_eq_emod_of_nonneg (by omega)]; omega
  have e4 : (K : Int).tdiv 3 = (r : Int) := by rw [HR.out, Int.tdiv_eq_ediv_of_nonneg (by omega)]; omega
  have o2 : Own w w.heap.size := Own.of hS.ext (by simp)
  have o4 : Own w (w.heap.size + 1) := Own.of hS.ext (by simp)
  have d1 := (St.al (St.al hS 37 #[.bool b1, .slice b2 b3 b4, .bool b5, .slice b6 b7 b8, .bool b9, .slice ba bb bc, .bool bd, .slice be bf bg, .bool bh, .slice bi bj bk, .bool bl, .slice bm bn bo] (g := w.heap.size) (by simp)) 37 #[.bool false, .slice none 0 0, .bool false, .slice none 0 0, .bool false, .slice none 0 0, .bool false, .slice none 0 0, .bool false, .slice none 0 0, .bool false, .slice none 0 0] (g := (w.heap.size + 1)) (by simp))
  have k_1 := (d1.blk 1 rfl).cell
  have o13 : Own w (w.heap.size + 2) := Own.of hS.ext (by simp)
  go_enter Tryz.func19, Tryz.ntmps19
  go_wp2_with fail
  clear k_1
  clear d1
  replace hS := (St.al (St.al (St.al hS 37 #[.bool b1, .slice b2 b3 b4, .bool b5, .slice b6 b7 b8, .bool b9, .slice ba bb bc, .bool bd, .slice be bf bg, .bool bh, .slice bi bj bk, .bool bl, .slice bm bn bo] (g := w.heap.size) (by simp)) 37 #[.bool false, .slice none 0 0, .bool false, .slice none 0 0, .bool false, .slice none 0 0, .bool false, .slice none 0 0, .bool false, .slice none 0 0, .bool false, .slice none 0 0] (g := (w.heap.size + 1)) (by simp)) 26 #[.bool b1, .slice b2 b3 b4, .bool b5, .slice b6 b7 b8, .bool b9, .slice ba bb bc, .bool bd, .slice be bf bg, .bool bh, .slice bi bj bk, .bool bl, .slice bm bn bo] (g := (w.heap.size + 2)) (by simp))
  generalize (((w.alloc (.cells #[.bool b1, .slice b2 b3 b4, .bool b5, .slice b6 b7 b8, .bool b9, .slice ba bb bc, .bool bd, .slice be bf bg, .bool bh, .slice bi bj bk, .bool bl, .slice bm bn bo] 37)).alloc (.cells #[.bool false, .slice none 0 0, .bool false, .slice none 0 0, .bool false, .slice none 0 0, .bool false, .slice none 0 0, .bool false, .slice none 0 0, .bool false, .slice none 0 0] 37)).alloc (.cells #[.bool b1, .slice b2 b3 b4, .bool b5, .slice b6 b7 b8, .bool b9, .slice ba bb bc, .bool bd, .slice be bf bg, .bool bh, .slice bi bj bk, .bool bl, .slice bm bn bo] 26)) = w1 at hS ⊢
  generalize w.heap.size + 2 = g13 at hS o13 ⊢
  generalize w.heap.size + 1 = g4 at hS o4 ⊢
  generalize w.heap.size = g2 at hS o2 ⊢
  refine (xvalid2_ok g13 q0.u q0.v n0 n0 _ (hS.blk 0 rfl) ⟨_, _, _, RG.mk (hS.num 5 rfl) (hS.num 4 rfl) (hS.num 3 rfl), cK, cL⟩ (by omega) ⟨_, _, _, RG.mk (hS.num 2 rfl) (hS.num 1 rfl) (hS.num 0 rfl), cM, cN⟩ (by omega)).mono ?_
  rintro e w2 ⟨rfl, hx_⟩
  replace hS := hS.mv hx_
  clear hx_
  have o6 : Own w w2.heap.size := Own.of hS.ext (by simp)
  go_wp2_with fail
  replace hS := (St.al hS 66 #[.int .i64 0] (g := w2.heap.size) (by simp))
  generalize (w2.alloc (.cells #[.int .i64 0] 66)) = w3 at hS ⊢
  generalize w2.heap.size = g6 at hS o6 ⊢
  have d2 := (hS.blk 3 rfl).cell
  have cx := (hS.blk 3 rfl).lt
  go_region
  clear d2 cx
  have o7 : Own w w3.heap.size := Own.of hS.ext (by simp)
  have o8 : Own w (w3.heap.size + 1) := Own.of hS.ext (by simp)
  replace hS := ((hS.al 26 #[.bool b1, .slice b2 b3 b4, .bool b5, .slice b6 b7 b8, .bool b9, .slice ba bb bc] (g := w3.heap.size) rfl).al 26 #[.bool bd, .slice be bf bg, .bool bh, .slice bi bj bk, .bool bl, .slice bm bn bo] (g := w3.heap.size + 1) (by simp)).mv ((Ext.refl _).drew)
  generalize ((w3.alloc (.cells #[.bool b1, .slice b2 b3 b4, .bool b5, .slice b6 b7 b8, .bool b9, .slice ba bb bc] 26)).alloc (.cells #[.bool bd, .slice be bf bg, .bool bh, .slice bi bj bk, .bool bl, .slice bm bn bo] 26)).drew = w4 at hS ⊢
  generalize w3.heap.size + 1 = g8 at hS o8 ⊢
  generalize w3.heap.size = g7 at hS o7 ⊢
  rotate_left 1
  clear d2 cx
  have o8 : Own w w3.heap.size := Own.of hS.ext (by simp)
  have o7 : Own w (w3.heap.size + 1) := Own.of hS.ext (by simp)
  replace hS := ((hS.al 26 #[.bool bd, .slice be bf bg, .bool bh, .slice bi bj bk, .bool bl, .slice bm bn bo] (g := w3.heap.size) rfl).al 26 #[.bool b1, .slice b2 b3 b4, .bool b5, .slice b6 b7 b8, .bool b9, .slice ba bb bc] (g := w3.heap.size + 1) (by simp)).mv ((Ext.refl _).drew)
  replace hS := St.swap hS
  generalize ((w3.alloc (.cells #[.bool bd, .slice be bf bg, .bool bh, .slice bi bj bk, .bool bl, .slice bm bn bo] 26)).alloc (.cells #[.bool b1, .slice b2 b3 b4, .bool b5, .slice b6 b7 b8, .bool b9, .slice ba bb bc] 26)).drew = w4 at hS ⊢
  generalize w3.heap.size + 1 = g7 at hS o7 ⊢
  generalize w3.heap.size = g8 at hS o8 ⊢
  rotate_left 1
  all_goals
    go_wp2_with fail
    obtain ⟨cg, ch, ci, cU⟩ := is_ex (q0.u * GQ.ip 1)
    have d3 : Sz (n0) cg ch ci := (Bd.rot ⟨_, _, _, cK, cL⟩ 1).sz cU
    obtain ⟨cn, co, cp, cV⟩ := is_ex (GQ.blend (1) (q0.u * GQ.ip 1) (3) q0.v (2))
    have d4 : Sz (n0 + n0 + 65) cn co cp := (Bd.blend (m := 2) ⟨_, _, _, cU, d3⟩ ⟨_, _, _, cM, cN⟩ (by omega) (by omega) (by omega) (by omega) (by omega) (by omega) (by omega)).sz cV
    obtain ⟨cj, ck, cl, cW⟩ := is_ex (q0.v * GQ.ip 1)
    have d5 : Sz (n0) cj ck cl := (Bd.rot ⟨_, _, _, cM, cN⟩ 1).sz cW
    obtain ⟨cq, cr, cs, cX⟩ := is_ex (GQ.blend (1) q0.u (1) (q0.v * GQ.ip 1) (2))
    have d6 : Sz (n0 + n0 + 65) cq cr cs := (Bd.blend (m := 2) ⟨_, _, _, cK, cL⟩ ⟨_, _, _, cW, d5⟩ (by omega) (by omega) (by omega) (by omega) (by omega) (by omega) (by omega)).sz cX
    have Y2 := ExtOf.blk (hS.blk 5 rfl)
    have hE_ := hS.ext
    refine wp_region_tame 12 (hasF [(2, .any), (5, .any), (10, .any), (11, .any)]) (Fcs [(2, .rg (cg) (ch) (ci)), (5, .rg (cn) (co) (cp)), (10, .rg (cj) (ck) (cl)), (11, .rg (cq) (cr) (cs))]) (Fcs_stab _) (by kernel_rfl) (by kernel_rfl) ?_
    simp only [tk1, tk0, dp1, dp0]
    refine wpT_quiet 2 (by rfl) (by kernel_rfl) ?_
    simp only [tk1, tk0, dp1, dp0]
    repeat (go_big_quiet_step (fail))
    refine wpQuiet_nil ?_
    refine wpT_eff (by rfl) (by rfl) (by rfl) ?_ ?_
    · intro W_ hK
      have hW := hK.1
      clear hK
      go_simp
      exact ⟨rfl, (toRG (erotate_at g6 _ q0.u (n0) 1 (1) _ rfl (Blk.ext (hS.blk 2 rfl) hW) ⟨_, _, _, RG.mk (RI.ext (hS.num 5 rfl) hW) (RI.ext (hS.num 4 rfl) hW) (RI.ext (hS.num 3 rfl) hW), cK, cL⟩ (by omega) (by omega)) cU).mono fun e w' ⟨v, he, hR, hx⟩ => ⟨v, he, hx, hR⟩⟩
    intro v_ c6 c7 hr_
    obtain ⟨W_, hW_⟩ := hr_
    have hv_ : Fc.holds (.rg (cg) (ch) (ci)) c6 c7 v_ W_ := hW_.get
    clear hW_
    obtain ⟨bv, am, bw, bx, bz, an, bA, bB, bC, ao, bD, bE, rfl, -, -, -⟩ := hv_
    clear W_
    try simp only [Act.put, sa0, sa1, sa2]
    refine wpT_quiet 2 (by rfl) (by kernel_rfl) ?_
    simp only [tk1, tk0, dp1, dp0]
    repeat (go_big_quiet_step (fail))
    refine wpQuiet_nil ?_
    refine wpT_eff (by rfl) (by rfl) (by rfl) ?_ ?_
    · intro W_ hK
      have hW := hK.1
      have cy : RI W_ (iv bv am bw bx) cg := RG.at1 (hK.2 2 ((gv bv am bw bx bz an bA bB bC ao bD bE), c6, c7) (by rfl) (by kernel_rfl))
      have cz : RI W_ (iv bz an bA bB) ch := RG.at2 (hK.2 2 ((gv bv am bw bx bz an bA bB bC ao bD bE), c6, c7) (by rfl) (by kernel_rfl))
      have cA : RI W_ (iv bC ao bD bE) ci := RG.at3 (hK.2 2 ((gv bv am bw bx bz an bA bB bC ao bD bE), c6, c7) (by rfl) (by kernel_rfl))
      clear hK
      go_simp
      exact ⟨rfl, (toRG (eblend_q g6 _ _ (q0.u * GQ.ip 1) q0.v (1) (3) (2) _ _ _ (Blk.ext (hS.blk 2 rfl) hW) ⟨_, _, _, RG.mk cy cz cA, cU, d3⟩ ⟨_, _, _, RG.mk (RI.ext (hS.num 2 rfl) hW) (RI.ext (hS.num 1 rfl) hW) (RI.ext (hS.num 0 rfl) hW), cM, cN⟩ (by omega) (by omega) (by omega) (by omega) (by omega) (by omega) (by omega) (by omega)) cV).mono fun e w' ⟨v, he, hR, hx⟩ => ⟨v, he, hx, hR⟩⟩
    intro v_ ct cu hr_
    obtain ⟨W_, hW_⟩ := hr_
    have hv_ : Fc.holds (.rg (cn) (co) (cp)) ct cu v_ W_ := hW_.get
    clear hW_
    obtain ⟨a6, a0, a7, a8, a9, a1, aa, ab, ac, a2, ad, ae, rfl, -, -, -⟩ := hv_
    clear W_
    try simp only [Act.put, sa0, sa1, sa2]
    refine wpT_quiet 4 (by rfl) (by kernel_rfl) ?_
    simp only [tk1, tk0, dp1, dp0]
    repeat (go_big_quiet_step (fail))
    refine wpQuiet_nil ?_
    refine wpT_eff (by rfl) (by rfl) (by rfl) ?_ ?_
    · intro W_ hK
      have hW := hK.1
      clear hK
      go_simp
      exact ⟨rfl, (toRG (erotate_at g6 _ q0.v (n0) 1 (1) _ rfl (Blk.ext (hS.blk 2 rfl) hW) ⟨_, _, _, RG.mk (RI.ext (hS.num 2 rfl) hW) (RI.ext (hS.num 1 rfl) hW) (RI.ext (hS.num 0 rfl) hW), cM, cN⟩ (by omega) (by omega)) cW).mono fun e w' ⟨v, he, hR, hx⟩ => ⟨v, he, hx, hR⟩⟩
    intro v_ c8 c9 hr_
    obtain ⟨W_, hW_⟩ := hr_
    have hv_ : Fc.holds (.rg (cj) (ck) (cl)) c8 c9 v_ W_ := hW_.get
    clear hW_
    obtain ⟨bF, ap, bG, bH, bI, aq, bJ, bK, bL, ar, bM, bN, rfl, -, -, -⟩ := hv_
    clear W_
    try simp only [Act.put, sa0, sa1, sa2]
    refine wpT_eff (by rfl) (by rfl) (by rfl) ?_ ?_
    · intro W_ hK
      have hW := hK.1
      have cB : RI W_ (iv bF ap bG bH) cj := RG.at1 (hK.2 10 ((gv bF ap bG bH bI aq bJ bK bL ar bM bN), c8, c9) (by rfl) (by kernel_rfl))
      have cC : RI W_ (iv bI aq bJ bK) ck := RG.at2 (hK.2 10 ((gv bF ap bG bH bI aq bJ bK bL ar bM bN), c8, c9) (by rfl) (by kernel_rfl))
      have cD : RI W_ (iv bL ar bM bN) cl := RG.at3 (hK.2 10 ((gv bF ap bG bH bI aq bJ bK bL ar bM bN), c8, c9) (by rfl) (by kernel_rfl))
      clear hK
      go_simp
      exact ⟨rfl, (toRG (eblend_q g6 _ _ q0.u (q0.v * GQ.ip 1) (1) (1) (2) _ _ _ (Blk.ext (hS.blk 2 rfl) hW) ⟨_, _, _, RG.mk (RI.ext (hS.num 5 rfl) hW) (RI.ext (hS.num 4 rfl) hW) (RI.ext (hS.num 3 rfl) hW), cK, cL⟩ ⟨_, _, _, RG.mk cB cC cD, cW, d5⟩ (by omega) (by omega) (by omega) (by omega) (by omega) (by omega) (by omega) (by omega)) cX).mono fun e w' ⟨v, he, hR, hx⟩ => ⟨v, he, hx, hR⟩⟩
    intro v_ cv cw hr_
    obtain ⟨W_, hW_⟩ := hr_
    have hv_ : Fc.holds (.rg (cq) (cr) (cs)) cv cw v_ W_ := hW_.get
    clear hW_
    obtain ⟨aA, a3, aB, aC, aD, a4, aE, aF, aG, a5, aH, aI, rfl, -, -, -⟩ := hv_
    clear W_
    try simp only [Act.put, sa0, sa1, sa2]
    refine wpT_nil ?_
    intro w5 hK
    have hlt_ := hS.lt
    replace hS := hS.mv hK.ext
    replace hS := hS.addI (show RI w5 (iv bv am bw bx) cg from RG.at1 (hK.at_ 2 (e := ((gv bv am bw bx bz an bA bB bC ao bD bE), c6, c7)) (by rfl)))
    replace hS := hS.addI (show RI w5 (iv bz an bA bB) ch from RG.at2 (hK.at_ 2 (e := ((gv bv am bw bx bz an bA bB bC ao bD bE), c6, c7)) (by rfl)))
    replace hS := hS.addI (show RI w5 (iv bC ao bD bE) ci from RG.at3 (hK.at_ 2 (e := ((gv bv am bw bx bz an bA bB bC ao bD bE), c6, c7)) (by rfl)))
    replace hS := hS.addI (show RI w5 (iv a6 a0 a7 a8) cn from RG.at1 (hK.at_ 5 (e := ((gv a6 a0 a7 a8 a9 a1 aa ab ac a2 ad ae), ct, cu)) (by rfl)))
    replace hS := hS.addI (show RI w5 (iv a9 a1 aa ab) co from RG.at2 (hK.at_ 5 (e := ((gv a6 a0 a7 a8 a9 a1 aa ab ac a2 ad ae), ct, cu)) (by rfl)))
    replace hS := hS.addI (show RI w5 (iv ac a2 ad ae) cp from RG.at3 (hK.at_ 5 (e := ((gv a6 a0 a7 a8 a9 a1 aa ab ac a2 ad ae), ct, cu)) (by rfl)))
    replace hS := hS.addI (show RI w5 (iv bF ap bG bH) cj from RG.at1 (hK.at_ 10 (e := ((gv bF ap bG bH bI aq bJ bK bL ar bM bN), c8, c9)) (by rfl)))
    replace hS := hS.addI (show RI w5 (iv bI aq bJ bK) ck from RG.at2 (hK.at_ 10 (e := ((gv bF ap bG bH bI aq bJ bK bL ar bM bN), c8, c9)) (by rfl)))
    replace hS := hS.addI (show RI w5 (iv bL ar bM bN) cl from RG.at3 (hK.at_ 10 (e := ((gv bF ap bG bH bI aq bJ bK bL ar bM bN), c8, c9)) (by rfl)))
    replace hS := hS.addI (show RI w5 (iv aA a3 aB aC) cq from RG.at1 (hK.at_ 11 (e := ((gv aA a3 aB aC aD a4 aE aF aG a5 aH aI), cv, cw)) (by rfl)))
    replace hS := hS.addI (show RI w5 (iv aD a4 aE aF) cr from RG.at2 (hK.at_ 11 (e := ((gv aA a3 aB aC aD a4 aE aF aG a5 aH aI), cv, cw)) (by rfl)))
    replace hS := hS.addI (show RI w5 (iv aG a5 aH aI) cs from RG.at3 (hK.at_ 11 (e := ((gv aA a3 aB aC aD a4 aE aF aG a5 aH aI), cv, cw)) (by rfl)))
    clear hK hlt_ hE_ Y2
    have k_3 := (hS.blk 1 rfl).cell
    have k_4 := (hS.blk 1 rfl).frozen
    have cY := (St.put (W' := ((((((w5.setCell ⟨g7, 0, none⟩ (.bool a6)).setCell ⟨g7, 1, none⟩ (.slice a0 a7 a8)).setCell ⟨g7, 2, none⟩ (.bool a9)).setCell ⟨g7, 3, none⟩ (.slice a1 aa ab)).setCell ⟨g7, 4, none⟩ (.bool ac)).setCell ⟨g7, 5, none⟩ (.slice a2 ad ae))) hS 1 0 [.bool a6, .slice a0 a7 a8, .bool a9, .slice a1 aa ab, .bool ac, .slice a2 ad ae] (cs' := #[.bool a6, .slice a0 a7 a8, .bool a9, .slice a1 aa ab, .bool ac, .slice a2 ad ae]) (bs' := _) rfl o7 rfl rfl (by kernel_rfl) rfl)
    have k_5 := (cY.blk 0 rfl).cell
    have k_6 := (cY.blk 0 rfl).frozen
    have d7 := (St.put (W' := ((((((((((((w5.setCell ⟨g7, 0, none⟩ (.bool a6)).setCell ⟨g7, 1, none⟩ (.slice a0 a7 a8)).setCell ⟨g7, 2, none⟩ (.bool a9)).setCell ⟨g7, 3, none⟩ (.slice a1 aa ab)).setCell ⟨g7, 4, none⟩ (.bool ac)).setCell ⟨g7, 5, none⟩ (.slice a2 ad ae)).setCell ⟨g8, 0, none⟩ (.bool aA)).setCell ⟨g8, 1, none⟩ (.slice a3 aB aC)).setCell ⟨g8, 2, none⟩ (.bool aD)).setCell ⟨g8, 3, none⟩ (.slice a4 aE aF)).setCell ⟨g8, 4, none⟩ (.bool aG)).setCell ⟨g8, 5, none⟩ (.slice a5 aH aI))) (St.put (W' := ((((((w5.setCell ⟨g7, 0, none⟩ (.bool a6)).setCell ⟨g7, 1, none⟩ (.slice a0 a7 a8)).setCell ⟨g7, 2, none⟩ (.bool a9)).setCell ⟨g7, 3, none⟩ (.slice a1 aa ab)).setCell ⟨g7, 4, none⟩ (.bool ac)).setCell ⟨g7, 5, none⟩ (.slice a2 ad ae))) hS 1 0 [.bool a6, .slice a0 a7 a8, .bool a9, .slice a1 aa ab, .bool ac, .slice a2 ad ae] (cs' := #[.bool a6, .slice a0 a7 a8, .bool a9, .slice a1 aa ab, .bool ac, .slice a2 ad ae]) (bs' := _) rfl o7 rfl rfl (by kernel_rfl) rfl) 0 0 [.bool aA, .slice a3 aB aC, .bool aD, .slice a4 aE aF, .bool aG, .slice a5 aH aI] (cs' := #[.bool aA, .slice a3 aB aC, .bool aD, .slice a4 aE aF, .bool aG, .slice a5 aH aI]) (bs' := _) rfl o8 rfl rfl (by kernel_rfl) rfl)
    have k_7 := (d7.blk 2 rfl).cell
    go_wp2_with fail
    clear k_3 k_4 k_5 k_6 k_7
    clear cY d7
    replace hS := (St.put (W' := ((((((((((((w5.setCell ⟨g7, 0, none⟩ (.bool a6)).setCell ⟨g7, 1, none⟩ (.slice a0 a7 a8)).setCell ⟨g7, 2, none⟩ (.bool a9)).setCell ⟨g7, 3, none⟩ (.slice a1 aa ab)).setCell ⟨g7, 4, none⟩ (.bool ac)).setCell ⟨g7, 5, none⟩ (.slice a2 ad ae)).setCell ⟨g8, 0, none⟩ (.bool aA)).setCell ⟨g8, 1, none⟩ (.slice a3 aB aC)).setCell ⟨g8, 2, none⟩ (.bool aD)).setCell ⟨g8, 3, none⟩ (.slice a4 aE aF)).setCell ⟨g8, 4, none⟩ (.bool aG)).setCell ⟨g8, 5, none⟩ (.slice a5 aH aI))) (St.put (W' := ((((((w5.setCell ⟨g7, 0, none⟩ (.bool a6)).setCell ⟨g7, 1, none⟩ (.slice a0 a7 a8)).setCell ⟨g7, 2, none⟩ (.bool a9)).setCell ⟨g7, 3, none⟩ (.slice a1 aa ab)).setCell ⟨g7, 4, none⟩ (.bool ac)).setCell ⟨g7, 5, none⟩ (.slice a2 ad ae))) hS 1 0 [.bool a6, .slice a0 a7 a8, .bool a9, .slice a1 aa ab, .bool ac, .slice a2 ad ae] (cs' := #[.bool a6, .slice a0 a7 a8, .bool a9, .slice a1 aa ab, .bool ac, .slice a2 ad ae]) (bs' := _) rfl o7 rfl rfl (by kernel_rfl) rfl) 0 0 [.bool aA, .slice a3 aB aC, .bool aD, .slice a4 aE aF, .bool aG, .slice a5 aH aI] (cs' := #[.bool aA, .slice a3 aB aC, .bool aD, .slice a4 aE aF, .bool aG, .slice a5 aH aI]) (bs' := _) rfl o8 rfl rfl (by kernel_rfl) rfl)
    simp only [List.set_cons_zero, List.set_cons_succ] at hS
    generalize ((((((((((((w5.setCell ⟨g7, 0, none⟩ (.bool a6)).setCell ⟨g7, 1, none⟩ (.slice a0 a7 a8)).setCell ⟨g7, 2, none⟩ (.bool a9)).setCell ⟨g7, 3, none⟩ (.slice a1 aa ab)).setCell ⟨g7, 4, none⟩ (.bool ac)).setCell ⟨g7, 5, none⟩ (.slice a2 ad ae)).setCell ⟨g8, 0, none⟩ (.bool aA)).setCell ⟨g8, 1, none⟩ (.slice a3 aB aC)).setCell ⟨g8, 2, none⟩ (.bool aD)).setCell ⟨g8, 3, none⟩ (.slice a4 aE aF)).setCell ⟨g8, 4, none⟩ (.bool aG)).setCell ⟨g8, 5, none⟩ (.slice a5 aH aI)) = w6 at hS ⊢
    obtain ⟨bp, bq, br, cZ⟩ := is_ex ((GQ.blend (1) (q0.u * GQ.ip 1) (3) q0.v (2)) * GQ.ip r)
    have S64 : Sz (n0 + n0 + 65) bp bq br := (Bd.rot ⟨_, _, _, cV, d4⟩ r).sz cZ
    obtain ⟨bs, bt, bu, d0⟩ := is_ex ((GQ.blend (1) q0.u (1) (q0.v * GQ.ip 1) (2)) * GQ.ip r)
    have S68 : Sz (n0 + n0 + 65) bs bt bu := (Bd.rot ⟨_, _, _, cX, d6⟩ r).sz d0
    have Y8 := ExtOf.blk (hS.blk 0 rfl)
    have Y7 := ExtOf.blk (hS.blk 1 rfl)
    have hE_ := hS.ext
    refine wp_region_tame 11 (hasF [(3, .any), (7, .any), (8, .any)]) (Fcs [(3, .rg (bp) (bq) (br)), (7, .rg (bs) (bt) (bu)), (8, .retp (bp) (bq) (br) (bs) (bt) (bu) 0)]) (Fcs_stab _) (by kernel_rfl) (by kernel_rfl) ?_
    simp only [tk1, tk0, dp1, dp0]
    refine wpT_quiet 3 (by rfl) (by kernel_rfl) ?_
    simp only [tk1, tk0, dp1, dp0]
    repeat (go_big_quiet_step (fail))
    refine wpQuiet_nil ?_
    refine wpT_eff (by rfl) (by rfl) (by rfl) ?_ ?_
    · intro W_ hK
      have hW := hK.1
      clear hK
      go_simp
      exact ⟨rfl, (toRG (erotate_at g6 _ (GQ.blend (1) (q0.u * GQ.ip 1) (3) q0.v (2)) (n0 + n0 + 65) r ((r : Int)) _ rfl (Blk.ext (hS.blk 2 rfl) hW) ⟨_, _, _, RG.mk (RI.ext (hS.num 8 rfl) hW) (RI.ext (hS.num 7 rfl) hW) (RI.ext (hS.num 6 rfl) hW), cV, d4⟩ (by omega) (by omega)) cZ).mono fun e w' ⟨v, he, hR, hx⟩ => ⟨v, he, hx, hR⟩⟩
    intro v_ ca cb hr_
    obtain ⟨W_, hW_⟩ := hr_
    have hv_ : Fc.holds (.rg (bp) (bq) (br)) ca cb v_ W_ := hW_.get
    clear hW_
    obtain ⟨bO, au, bP, bQ, bR, av, bS, bT, bU, aw, bV, bW, rfl, -, -, -⟩ := hv_
    clear W_
    try simp only [Act.put, sa0, sa1, sa2]
    refine wpT_quiet 3 (by rfl) (by kernel_rfl) ?_
    simp only [tk1, tk0, dp1, dp0]
    repeat (go_big_quiet_step (fail))
    refine wpQuiet_nil ?_
    refine wpT_eff (by rfl) (by rfl) (by rfl) ?_ ?_
    · intro W_ hK
      have hW := hK.1
      clear hK
      go_simp
      exact ⟨rfl, (toRG (erotate_at g6 _ (GQ.blend (1) q0.u (1) (q0.v * GQ.ip 1) (2)) (n0 + n0 + 65) r ((r : Int)) _ rfl (Blk.ext (hS.blk 2 rfl) hW) ⟨_, _, _, RG.mk (RI.ext (hS.num 2 rfl) hW) (RI.ext (hS.num 1 rfl) hW) (RI.ext (hS.num 0 rfl) hW), cX, d6⟩ (by omega) (by omega)) d0).mono fun e w' ⟨v, he, hR, hx⟩ => ⟨v, he, hx, hR⟩⟩
    intro v_ cc cd hr_
    obtain ⟨W_, hW_⟩ := hr_
    have hv_ : Fc.holds (.rg (bs) (bt) (bu)) cc cd v_ W_ := hW_.get
    clear hW_
    obtain ⟨bX, ax, bY, bZ, c0, ay, c1, c2, c3, az, c4, c5, rfl, -, -, -⟩ := hv_
    clear W_
    try simp only [Act.put, sa0, sa1, sa2]
    refine wpT_eff (by rfl) (by rfl) (by rfl) ?_ ?_
    · intro W_ hK
      have hW := hK.1
      have cE : RI W_ (iv bO au bP bQ) bp := RG.at1 (hK.2 3 ((gv bO au bP bQ bR av bS bT bU aw bV bW), ca, cb) (by rfl) (by kernel_rfl))
      have cF : RI W_ (iv bR av bS bT) bq := RG.at2 (hK.2 3 ((gv bO au bP bQ bR av bS bT bU aw bV bW), ca, cb) (by rfl) (by kernel_rfl))
      have cG : RI W_ (iv bU aw bV bW) br := RG.at3 (hK.2 3 ((gv bO au bP bQ bR av bS bT bU aw bV bW), ca, cb) (by rfl) (by kernel_rfl))
      have cH : RI W_ (iv bX ax bY bZ) bs := RG.at1 (hK.2 7 ((gv bX ax bY bZ c0 ay c1 c2 c3 az c4 c5), cc, cd) (by rfl) (by kernel_rfl))
      have cI : RI W_ (iv c0 ay c1 c2) bt := RG.at2 (hK.2 7 ((gv bX ax bY bZ c0 ay c1 c2 c3 az c4 c5), cc, cd) (by rfl) (by kernel_rfl))
      have cJ : RI W_ (iv c3 az c4 c5) bu := RG.at3 (hK.2 7 ((gv bX ax bY bZ c0 ay c1 c2 c3 az c4 c5), cc, cd) (by rfl) (by kernel_rfl))
      clear hK
      go_simp
      exact ⟨rfl, (ephasor_w g6 _ bp bq br _ bs bt bu _ (Blk.ext (hS.blk 2 rfl) hW) (RG.mk cE cF cG) (RG.mk cH cI cJ)).mono fun e w' ⟨v, he, hR, hx⟩ => ⟨v, he, hx, hR⟩⟩
    intro v_ ce cf hr_
    obtain ⟨W_, hW_⟩ := hr_
    have hv_ : Fc.holds (.retp (bp) (bq) (br) (bs) (bt) (bu) 0) ce cf v_ W_ := hW_.get
    clear hW_
    obtain ⟨_, rfl, aJ, af, aK, aL, aM, ag, aN, aO, aP, ah, aQ, aR, aS, ai, aT, aU, aV, aj, aW, aX, aY, ak, aZ, b0, rfl, -, -, -, -, -, -⟩ := hv_
    clear W_
    try simp only [Act.put, sa0, sa1, sa2]
    refine wpT_quiet 2 (by rfl) (by kernel_rfl) ?_
    simp only [tk1, tk0, dp1, dp0]
    repeat (go_big_quiet_step (fail))
    refine wpQuiet_nil ?_
    refine wpT_nil ?_
    intro w7 hK
    have hlt_ := hS.lt
    replace hS := hS.mv hK.ext
    replace hS := hS.addI (show RI w7 (iv bO au bP bQ) bp from RG.at1 (hK.at_ 3 (e := ((gv bO au bP bQ bR av bS bT bU aw bV bW), ca, cb)) (by rfl)))
    replace hS := hS.addI (show RI w7 (iv bR av bS bT) bq from RG.at2 (hK.at_ 3 (e := ((gv bO au bP bQ bR av bS bT bU aw bV bW), ca, cb)) (by rfl)))
    replace hS := hS.addI (show RI w7 (iv bU aw bV bW) br from RG.at3 (hK.at_ 3 (e := ((gv bO au bP bQ bR av bS bT bU aw bV bW), ca, cb)) (by rfl)))
    replace hS := hS.addI (show RI w7 (iv bX ax bY bZ) bs from RG.at1 (hK.at_ 7 (e := ((gv bX ax bY bZ c0 ay c1 c2 c3 az c4 c5), cc, cd)) (by rfl)))
    replace hS := hS.addI (show RI w7 (iv c0 ay c1 c2) bt from RG.at2 (hK.at_ 7 (e := ((gv bX ax bY bZ c0 ay c1 c2 c3 az c4 c5), cc, cd)) (by rfl)))
    replace hS := hS.addI (show RI w7 (iv c3 az c4 c5) bu from RG.at3 (hK.at_ 7 (e := ((gv bX ax bY bZ c0 ay c1 c2 c3 az c4 c5), cc, cd)) (by rfl)))
    replace hS := hS.addI (show RI w7 (iv aJ af aK aL) bp from RP.rt1 (hK.at_ 8 (e := ((.tuple #[(pv aJ af aK aL aM ag aN aO aP ah aQ aR aS ai aT aU aV aj aW aX aY ak aZ b0), .int .i64 0]), ce, cf)) (by rfl)))
    replace hS := hS.addI (show RI w7 (iv aM ag aN aO) bq from RP.rt2 (hK.at_ 8 (e := ((.tuple #[(pv aJ af aK aL aM ag aN aO aP ah aQ aR aS ai aT aU aV aj aW aX aY ak aZ b0), .int .i64 0]), ce, cf)) (by rfl)))
    replace hS := hS.addI (show RI w7 (iv aP ah aQ aR) br from RP.rt3 (hK.at_ 8 (e := ((.tuple #[(pv aJ af aK aL aM ag aN aO aP ah aQ aR aS ai aT aU aV aj aW aX aY ak aZ b0), .int .i64 0]), ce, cf)) (by rfl)))
    replace hS := hS.addI (show RI w7 (iv aS ai aT aU) bs from RP.rt4 (hK.at_ 8 (e := ((.tuple #[(pv aJ af aK aL aM ag aN aO aP ah aQ aR aS ai aT aU aV aj aW aX aY ak aZ b0), .int .i64 0]), ce, cf)) (by rfl)))
    replace hS := hS.addI (show RI w7 (iv aV aj aW aX) bt from RP.rt5 (hK.at_ 8 (e := ((.tuple #[(pv aJ af aK aL aM ag aN aO aP ah aQ aR aS ai aT aU aV aj aW aX aY ak aZ b0), .int .i64 0]), ce, cf)) (by rfl)))
    replace hS := hS.addI (show RI w7 (iv aY ak aZ b0) bu from RP.rt6 (hK.at_ 8 (e := ((.tuple #[(pv aJ af aK aL aM ag aN aO aP ah aQ aR aS ai aT aU aV aj aW aX aY ak aZ b0), .int .i64 0]), ce, cf)) (by rfl)))
    clear hK hlt_ hE_ Y8 Y7
    have k_8 := (hS.blk 4 rfl).cell
    have k_9 := (hS.blk 4 rfl).frozen
    go_wp2
    replace hS := (St.put (W' := ((((((((((((w7.setCell ⟨g4, 0, none⟩ (.bool aJ)).setCell ⟨g4, 1, none⟩ (.slice af aK aL)).setCell ⟨g4, 2, none⟩ (.bool aM)).setCell ⟨g4, 3, none⟩ (.slice ag aN aO)).setCell ⟨g4, 4, none⟩ (.bool aP)).setCell ⟨g4, 5, none⟩ (.slice ah aQ aR)).setCell ⟨g4, 6, none⟩ (.bool aS)).setCell ⟨g4, 7, none⟩ (.slice ai aT aU)).setCell ⟨g4, 8, none⟩ (.bool aV)).setCell ⟨g4, 9, none⟩ (.slice aj aW aX)).setCell ⟨g4, 10, none⟩ (.bool aY)).setCell ⟨g4, 11, none⟩ (.slice ak aZ b0))) hS 4 0 [.bool aJ, .slice af aK aL, .bool aM, .slice ag aN aO, .bool aP, .slice ah aQ aR, .bool aS, .slice ai aT aU, .bool aV, .slice aj aW aX, .bool aY, .slice ak aZ b0] (cs' := #[.bool aJ, .slice af aK aL, .bool aM, .slice ag aN aO, .bool aP, .slice ah aQ aR, .bool aS, .slice ai aT aU, .bool aV, .slice aj aW aX, .bool aY, .slice ak aZ b0]) (bs' := _) rfl o4 rfl rfl (by kernel_rfl) rfl)
    exact bp_phasor2 rfl rfl rfl (hS.blk 4 rfl) ⟨_, rfl, ⟨_, rfl, ⟨_, _, _, _, _, _, RP.mk (hS.num 5 rfl) (hS.num 4 rfl) (hS.num 3 rfl) (hS.num 2 rfl) (hS.num 1 rfl) (hS.num 0 rfl), cZ, S64, d0, S68⟩⟩, hS.ext⟩

end Go.Proofs.YtjeijmnhbckjdaaGreatDoor

/- The program over numbers: phasors, making numbers. -/
namespace Go.Proofs.YtjeijmnhbckjdaaGreatDoor
open Go.RowKit
set_option linter.unusedVariables false

theorem zp3r : ∀ r : Nat, PQ.zp (3 * r) = ⟨GQ.ip r, GQ.i 0 0⟩
  | 0 => rfl
  | r + 1 => by
    rw [Nat.mul_add, PQ.zp_add, zp3r r, PQ.zp3]
    ext <;> simp only [PQ.mul_u, PQ.mul_v, PQ.mk4, GQ.ip, GQ.mul_re, GQ.mul_im, GQ.add_re, GQ.add_im, GQ.i_re, GQ.i_im] <;> grind
theorem turn1 (p : PQ) (r : Nat) : (⟨GQ.blend 1 (p.u * GQ.ip 1) 3 p.v 2 * GQ.ip r, GQ.blend 1 p.u 1 (p.v * GQ.ip 1) 2 * GQ.ip r⟩ : PQ) = p * PQ.zp (3 * r + 1) := by
  rw [PQ.zp_add, zp3r, PQ.zp1]
  ext <;> simp only [GQ.blend, GQ.ip, PQ.mk4, PQ.mul_u, PQ.mul_v, GQ.mul_re, GQ.mul_im, GQ.add_re, GQ.add_im, GQ.i_re, GQ.i_im] <;> grind
theorem PV.mono {w : World} {v : Value} {p : PQ} {m n : Nat} (h : PV w v p m) (hmn : m ≤ n) : PV w v p n := by
  obtain ⟨a, b, d, x, y, z, h1, h2, h3, h4, h5⟩ := h
  exact ⟨a, b, d, x, y, z, h1, h2, h3.mono hmn, h4, h5.mono hmn⟩
set_option maxRecDepth 100000 in
set_option maxHeartbeats 3200000 in
theorem eOf_w (m0 : Int) (m1 : Int) (m2 : Int) (w : World) (l0 : -9223372036854775808 ≤ m0) (u0 : m0 ≤ 9223372036854775807) (l1 : -9223372036854775808 ≤ m1) (u1 : m1 ≤ 9223372036854775807) (l2 : -9223372036854775808 ≤ m2) (u2 : m2 ≤ 9223372036854775807) (H0 : (m2 == 0) = false)
    (N18 : Hid ((m2) ≠ 0))
    (a0 a1 a2 : Int) (E18 : Hid ((a0, a1, a2) = nf (m0) (m1) (m2))) (A18a : a0.natAbs < lim) (A18b : a1.natAbs < lim) (A18d : a2.natAbs < lim)  :
    Calls Tryz.prog 11 #[.int .i64 m0, .int .i64 m1, .int .i64 m2] w fun e w' => ∃ v, e = .returned v ∧ (∃ u, v = .tuple #[u, .int .i64 0] ∧ RG w' u a0 a1 a2) ∧ Ext w w' := by
  have hS := St.start w
  have o6 : Own w w.heap.size := Own.of hS.ext (by simp)
  have o8 : Own w (w.heap.size + 1) := Own.of hS.ext (by simp)
  go_enter Tryz.func11, Tryz.ntmps11
  go_wp2_with fail
  replace hS := (St.al (St.al hS 26 #[.bool false, .slice none 0 0, .bool false, .slice none 0 0, .bool false, .slice none 0 0] (g := w.heap.size) (by simp)) 66 #[.int .i64 0] (g := (w.heap.size + 1)) (by simp))
  generalize ((w.alloc (.cells #[.bool false, .slice none 0 0, .bool false, .slice none 0 0, .bool false, .slice none 0 0] 26)).alloc (.cells #[.int .i64 0] 66)) = w1 at hS ⊢
  generalize w.heap.size + 1 = g8 at hS o8 ⊢
  generalize w.heap.size = g6 at hS o6 ⊢
  refine (Of_any (m0) _ l0 u0).mono ?_
  rintro e w2 ⟨v_, rfl, hv_, hx_⟩
  replace hS := hS.mv hx_
  clear hx_
  obtain ⟨s13, A_13, n13, c13, rfl, ac⟩ := RI.opn hv_
  clear hv_
  replace hS := hS.addI ac
  clear ac
  go_wp2_with fail
  refine (Of_any (m1) _ l1 u1).mono ?_
  rintro e w3 ⟨v_, rfl, hv_, hx_⟩
  replace hS := hS.mv hx_
  clear hx_
  obtain ⟨s15, A_15, n15, c15, rfl, ad⟩ := RI.opn hv_
  clear hv_
  replace hS := hS.addI ad
  clear ad
  go_wp2_with fail
  refine (Of_any (m2) _ l2 u2).mono ?_
  rintro e w4 ⟨v_, rfl, hv_, hx_⟩
  replace hS := hS.mv hx_
  clear hx_
  obtain ⟨s17, A_17, n17, c17, rfl, ae⟩ := RI.opn hv_
  clear hv_
  replace hS := hS.addI ae
  clear ae
  go_wp2_with fail
  refine (ereduce_ok g8 _ _ _ (m0) (m1) (m2) a0 a1 a2 _ (hS.blk 0 rfl) (hS.num 2 rfl) (hS.num 1 rfl) (hS.num 0 rfl) (lt_lim64 l0 u0) (lt_lim64 l1 u1) (lt_lim64 l2 u2) N18.out E18.out).mono ?_
  rintro e w5 ⟨v_, rfl, hv_, hx_⟩
  replace hS := hS.mv hx_
  clear hx_
  obtain ⟨s18a, ap, n18a, c18a, s18b, aq, n18b, c18b, s18d, ar, n18d, c18d, rfl, a3, a4, a5⟩ := hv_
  replace hS := hS.addI a3
  clear a3
  replace hS := hS.addI a4
  clear a4
  replace hS := hS.addI a5
  clear a5
  go_wp2_with fail
  refine (enumber_w g8 _ a0 a1 a2 _ (hS.blk 0 rfl) (RG.mk (hS.num 2 rfl) (hS.num 1 rfl) (hS.num 0 rfl))).mono ?_
  rintro e w6 ⟨v_, rfl, hv_, hx_⟩
  replace hS := hS.mv hx_
  clear hx_
  obtain ⟨_, rfl, af, a6, ag, ah, ai, a7, aj, ak, am, a8, an, ao, rfl, a9, aa, ab⟩ := hv_
  replace hS := hS.addI a9
  clear a9
  replace hS := hS.addI aa
  clear aa
  replace hS := hS.addI ab
  clear ab
  have k_1 := (hS.blk 1 rfl).cell
  have k_2 := (hS.blk 1 rfl).frozen
  go_wp2
  replace hS := (St.put (W' := ((((((w6.setCell ⟨g6, 0, none⟩ (.bool af)).setCell ⟨g6, 1, none⟩ (.slice a6 ag ah)).setCell ⟨g6, 2, none⟩ (.bool ai)).setCell ⟨g6, 3, none⟩ (.slice a7 aj ak)).setCell ⟨g6, 4, none⟩ (.bool am)).setCell ⟨g6, 5, none⟩ (.slice a8 an ao))) hS 1 0 [.bool af, .slice a6 ag ah, .bool ai, .slice a7 aj ak, .bool am, .slice a8 an ao] (cs' := #[.bool af, .slice a6 ag ah, .bool ai, .slice a7 aj ak, .bool am, .slice a8 an ao]) (bs' := _) rfl o6 rfl rfl (by kernel_rfl) rfl)
  exact bp_gauss2 rfl rfl rfl (hS.blk 1 rfl) ⟨_, rfl, ⟨_, rfl, RG.mk (hS.num 2 rfl) (hS.num 1 rfl) (hS.num 0 rfl)⟩, hS.ext⟩

theorem add_blend (x y : GQ) : GQ.blend 1 x 1 y 1 = x + y := by
  ext <;> simp only [GQ.blend, GQ.add_re, GQ.add_im] <;> grind
theorem eOf_q (re im den : Int) (w : World) (l0 : -9223372036854775808 ≤ re) (u0 : re ≤ 9223372036854775807) (l1 : -9223372036854775808 ≤ im) (u1 : im ≤ 9223372036854775807) (l2 : -9223372036854775808 ≤ den) (u2 : den ≤ 9223372036854775807) (hd : den ≠ 0) :
    Calls Tryz.prog 11 #[.int .i64 re, .int .i64 im, .int .i64 den] w fun e w' => ∃ v, e = .returned v ∧ (∃ u, v = .tuple #[u, .int .i64 0] ∧ GV w' u ⟨(re : Rat) / (den : Rat), (im : Rat) / (den : Rat)⟩ 64) ∧ Ext w w' := by
  obtain ⟨a, b, d, E⟩ := nf_ex re im den
  have I := is_nf (a := re) (b := im) (d := den) hd
  rw [← E] at I
  have sz := nf_size' (n := 64) hd E (lt64 l0 u0) (lt64 l1 u1) (lt64 l2 u2)
  obtain ⟨s1, s2, s3⟩ := sz.lims (by omega)
  exact (eOf_w re im den w l0 u0 l1 u1 l2 u2 (by simpa using hd) (Lib.hid hd) a b d (Lib.hid E) s1 s2 s3).mono fun e w' ⟨v, he, ⟨u, hu, hR⟩, hx⟩ => ⟨v, he, ⟨u, hu, a, b, d, hR, I, sz⟩, hx⟩
end Go.Proofs.YtjeijmnhbckjdaaGreatDoor
