/- The specification of rounding: one step. -/
import Derived.Test.YtjeijmnhbckjdaaGreatDoorQAncjbo
import Derived.Test.YtjeijmnhbckjdaaGreatDoorQNJbgcf
import Derived.Test.YtjeijmnhbckjdaaGreatDoorQNHkkhl
import Derived.Deep.DeepCutAuto
import Derived.Deep.Cut
import Derived.Deep.RegionHeld3
namespace Go.Proofs.YtjeijmnhbckjdaaGreatDoor
open Go.RowKit
set_option linter.unusedVariables false

section
variable {w W : World} {a b c d : Bk} {bs : List Bk} {fs : List Nm}
theorem St.s1 (h : St w W (a :: b :: c :: bs) fs) : St w W (a :: c :: b :: bs) fs :=
  ⟨h.ext, fun p hp => h.blks p (by simp at hp ⊢; rcases hp with e | e | e | e <;> simp [e]), ⟨⟨h.nd.1.2.1, h.nd.1.1, h.nd.1.2.2⟩, ⟨fun e => h.nd.2.1.1 e.symm, h.nd.2.2.1⟩, h.nd.2.1.2, h.nd.2.2.2⟩, h.nums⟩
theorem St.s2 (h : St w W (a :: b :: c :: d :: bs) fs) : St w W (a :: b :: d :: c :: bs) fs :=
  ⟨h.ext, fun p hp => h.blks p (by simp at hp ⊢; rcases hp with e | e | e | e | e <;> simp [e]), ⟨⟨h.nd.1.1, h.nd.1.2.2.1, h.nd.1.2.1, h.nd.1.2.2.2⟩, ⟨h.nd.2.1.2.1, h.nd.2.1.1, h.nd.2.1.2.2⟩, ⟨fun e => h.nd.2.2.1.1 e.symm, h.nd.2.2.2.1⟩, h.nd.2.2.1.2, h.nd.2.2.2.2⟩, h.nums⟩
theorem St.al4 (h : St w W bs fs) (t : TypeId) (c0 c1 c2 c3 : Array Value) : St w ((((W.alloc (.cells c0 t)).alloc (.cells c1 t)).alloc (.cells c2 t)).alloc (.cells c3 t)).drew ((W.heap.size + 3, t, c3) :: (W.heap.size + 2, t, c2) :: (W.heap.size + 1, t, c1) :: (W.heap.size, t, c0) :: bs) fs :=
  ((((h.al t c0 (g := W.heap.size) rfl).al t c1 (g := W.heap.size + 1) (by simp)).al t c2 (g := W.heap.size + 2) (by simp)).al t c3 (g := W.heap.size + 3) (by simp)).mv ((Ext.refl _).drew)
end
set_option maxRecDepth 100000 in
set_option maxHeartbeats 25600000 in
theorem qreaches_w (v0 : Value) (bm cl aS bn cn aT : Int) (m1 : Int) (m2 : Int) (w : World) (hX0 : RP w v0 bm cl aS bn cn aT) (co : bm.natAbs < lim) (ax0b : cl.natAbs < lim) (bo : aS.natAbs < lim) (cp : bn.natAbs < lim) (ax0y : cn.natAbs < lim) (bp : aT.natAbs < lim) (l1 : -9223372036854775808 ≤ m1) (u1 : m1 ≤ 9223372036854775807) (l2 : -9223372036854775808 ≤ m2) (u2 : m2 ≤ 9223372036854775807)
    (bq : Int) (E27 : Hid (bq = (2 : Int) * (m2))) (cB : bq.natAbs < lim)
    (br : Int) (E29 : Hid (br = bq - (1 : Int))) (cC : br.natAbs < lim)
    (am : Int) (E33 : Hid (am = bm * aT)) (cD : am.natAbs < lim)
    (an : Int) (E34 : Hid (an = (2 : Int) * am)) (cE : an.natAbs < lim)
    (ao : Int) (E38 : Hid (ao = br * (m1))) (cF : ao.natAbs < lim)
    (ap : Int) (E41 : Hid (ap = aS * aT)) (cG : ap.natAbs < lim)
    (aq : Int) (E42 : Hid (aq = ao * ap)) (cH : aq.natAbs < lim)
    (ag : Int) (E43 : Hid (ag = an - aq)) (A43 : ag.natAbs < lim)
    (ar : Int) (E47 : Hid (ar = bn * aS)) (cI : ar.natAbs < lim)
    (ah : Int) (E48 : Hid (ah = (2 : Int) * ar)) (A48 : ah.natAbs < lim)
    (k49_ : Nat) (Bx49 : Hid (ag.natAbs < 2 ^ k49_)) (By49 : Hid (ah.natAbs < 2 ^ k49_)) (L49 : Hid (k49_ + k49_ + 2 ≤ 12800))  :
    Calls Tryz.prog 75 #[v0, .int .i64 m1, .int .i64 m2] w fun e w' => e = .returned (.bool (decide (0 ≤ sgn3 ag ah))) ∧ Ext w w' := by
  have hS := St.start w
  obtain ⟨a0, a1, a2, a3, au, av, aw, ax, a4, a5, a6, a7, a8, a9, aa, ab, ay, az, aA, aB, ac, ad, ae, af, rfl, bs, bt, bu, bv, bw, bx⟩ := hX0
  replace hS := hS.addI bs
  clear bs
  replace hS := hS.addI bt
  clear bt
  replace hS := hS.addI bu
  clear bu
  replace hS := hS.addI bv
  clear bv
  replace hS := hS.addI bw
  clear bw
  replace hS := hS.addI bx
  clear bx
  have o3 : Own w w.heap.size := Own.of hS.ext (by simp)
  go_enter Tryz.func75, Tryz.ntmps75
  go_wp2_with fail
  replace hS := (St.al hS 37 #[.bool a0, .slice a1 a2 a3, .bool au, .slice av aw ax, .bool a4, .slice a5 a6 a7, .bool a8, .slice a9 aa ab, .bool ay, .slice az aA aB, .bool ac, .slice ad ae af] (g := w.heap.size) (by simp))
  generalize (w.alloc (.cells #[.bool a0, .slice a1 a2 a3, .bool au, .slice av aw ax, .bool a4, .slice a5 a6 a7, .bool a8, .slice a9 aa ab, .bool ay, .slice az aA aB, .bool ac, .slice ad ae af] 37)) = w1 at hS ⊢
  generalize w.heap.size = g3 at hS o3 ⊢
  have ak := (hS.blk 0 rfl).cell
  have bz := (hS.blk 0 rfl).lt
  go_upto_region 1 with fail
  go_cut [7, 8, 9, 10] (fun p7 p8 p9 p10 wx => ∃ g7 g8 g9 cq : Nat, p7 = .pointer (some ⟨g7, 0, none⟩) ∧ p8 = .pointer (some ⟨g8, 0, none⟩) ∧ p9 = .pointer (some ⟨g9, 0, none⟩) ∧ p10 = .pointer (some ⟨cq, 0, none⟩) ∧ St w wx [(cq, 24, #[.bool ac, .slice ad ae af]), (g9, 24, #[.bool a8, .slice a9 aa ab]), (g8, 24, #[.bool a4, .slice a5 a6 a7]), (g7, 24, #[.bool a0, .slice a1 a2 a3]), (g3, 37, #[.bool a0, .slice a1 a2 a3, .bool au, .slice av aw ax, .bool a4, .slice a5 a6 a7, .bool a8, .slice a9 aa ab, .bool ay, .slice az aA aB, .bool ac, .slice ad ae af])] [nz (iv ac ad ae af) (aT), nz (iv ay az aA aB) (cn), nz (iv a8 a9 aa ab) (bn), nz (iv a4 a5 a6 a7) (aS), nz (iv au av aw ax) (cl), nz (iv a0 a1 a2 a3) (bm)])
  case first =>
    have aU := ak 0
    have aV := ak 1
    have aW := ak 4
    have aX := ak 5
    have aY := ak 6
    have aZ := ak 7
    have ai := ak 10
    have aj := ak 11
    simp only [List.getElem?_toArray, List.getElem?_cons_zero, List.getElem?_cons_succ] at aU aV aW aX aY aZ ai aj
    have cr := World.new_ne w1 ⟨g3, 0, none⟩ aU
    have cs := World.new_ne w1 ⟨g3, 1, none⟩ aV
    have ct := World.new_ne w1 ⟨g3, 4, none⟩ aW
    have cu := World.new_ne w1 ⟨g3, 5, none⟩ aX
    have cv := World.new_ne w1 ⟨g3, 6, none⟩ aY
    have cw := World.new_ne w1 ⟨g3, 7, none⟩ aZ
    have bA := World.new_ne w1 ⟨g3, 10, none⟩ ai
    have bB := World.new_ne w1 ⟨g3, 11, none⟩ aj
    have cx : w1.heap.size + 1 ≠ g3 := by omega
    have cy : w1.heap.size + 2 ≠ g3 := by omega
    have cz : w1.heap.size + 3 ≠ g3 := by omega
    go_region_held3 (fun w' => w'.cell? ⟨g3, 0, none⟩ = some (.bool a0) ∧ w'.cell? ⟨g3, 1, none⟩ = some (.slice a1 a2 a3) ∧ w'.cell? ⟨g3, 4, none⟩ = some (.bool a4) ∧ w'.cell? ⟨g3, 5, none⟩ = some (.slice a5 a6 a7) ∧ w'.cell? ⟨g3, 6, none⟩ = some (.bool a8) ∧ w'.cell? ⟨g3, 7, none⟩ = some (.slice a9 aa ab) ∧ w'.cell? ⟨g3, 10, none⟩ = some (.bool ac) ∧ w'.cell? ⟨g3, 11, none⟩ = some (.slice ad ae af)) (simp (maxDischargeDepth := 10) [*, World.cell?_alloc_some]) (fail)
    all_goals
      go_wp2_with fail
      go_meet
      case rel =>
        refine ⟨_, _, _, _, rfl, rfl, rfl, rfl, ?_⟩
        clear ak bz cr cs ct cu cv cw bA bB cx cy cz aU aV aW aX aY aZ ai aj
        first
          | exact (St.al4 hS 24 _ _ _ _)
          | exact (St.swap (St.al4 hS 24 _ _ _ _))
          | exact (St.s1 (St.al4 hS 24 _ _ _ _))
          | exact (St.s2 (St.al4 hS 24 _ _ _ _))
          | exact (St.s1 (St.swap (St.al4 hS 24 _ _ _ _)))
          | exact (St.s2 (St.swap (St.al4 hS 24 _ _ _ _)))
          | exact (St.swap (St.s1 (St.al4 hS 24 _ _ _ _)))
          | exact (St.s2 (St.s1 (St.al4 hS 24 _ _ _ _)))
          | exact (St.s1 (St.s2 (St.al4 hS 24 _ _ _ _)))
          | exact (St.swap (St.s1 (St.swap (St.al4 hS 24 _ _ _ _))))
          | exact (St.s2 (St.s1 (St.swap (St.al4 hS 24 _ _ _ _))))
          | exact (St.s1 (St.s2 (St.swap (St.al4 hS 24 _ _ _ _))))
          | exact (St.s2 (St.swap (St.s1 (St.al4 hS 24 _ _ _ _))))
          | exact (St.s1 (St.s2 (St.s1 (St.al4 hS 24 _ _ _ _))))
          | exact (St.swap (St.s1 (St.s2 (St.al4 hS 24 _ _ _ _))))
          | exact (St.s2 (St.swap (St.s1 (St.swap (St.al4 hS 24 _ _ _ _)))))
          | exact (St.s1 (St.s2 (St.s1 (St.swap (St.al4 hS 24 _ _ _ _)))))
          | exact (St.swap (St.s1 (St.s2 (St.swap (St.al4 hS 24 _ _ _ _)))))
          | exact (St.s1 (St.s2 (St.swap (St.s1 (St.al4 hS 24 _ _ _ _)))))
          | exact (St.swap (St.s1 (St.s2 (St.s1 (St.al4 hS 24 _ _ _ _)))))
          | exact (St.s1 (St.s2 (St.swap (St.s1 (St.swap (St.al4 hS 24 _ _ _ _))))))
          | exact (St.swap (St.s1 (St.s2 (St.s1 (St.swap (St.al4 hS 24 _ _ _ _))))))
          | exact (St.swap (St.s1 (St.s2 (St.swap (St.s1 (St.al4 hS 24 _ _ _ _))))))
          | exact (St.swap (St.s1 (St.s2 (St.swap (St.s1 (St.swap (St.al4 hS 24 _ _ _ _)))))))
  case rest =>
    clear ak bz
    clear hS
    obtain ⟨g7, g8, g9, cq, rfl, rfl, rfl, rfl, hS⟩ := hcut
    go_wp2_with fail
    refine (qOf_ok (2) _ (by omega) (by omega)).mono ?_
    rintro e w2 ⟨v_, rfl, hv_, hx_⟩
    replace hS := hS.mv hx_
    clear hx_
    obtain ⟨s24, A_24, n24, c24, rfl, aN⟩ := RI.opn hv_
    clear hv_
    replace hS := hS.addI aN
    clear aN
    go_wp2_with fail
    refine (qOf_ok (m2) _ l2 u2).mono ?_
    rintro e w3 ⟨v_, rfl, hv_, hx_⟩
    replace hS := hS.mv hx_
    clear hx_
    obtain ⟨s26, A_26, n26, c26, rfl, aO⟩ := RI.opn hv_
    clear hv_
    replace hS := hS.addI aO
    clear aO
    go_wp2_with fail
    refine (qTimes_ok _ _ (2 : Int) (m2) bq _ (hS.num 1 rfl) (hS.num 0 rfl) (lt_lim64 (by omega) (by omega)) (lt_lim64 l2 u2) E27.out cB).mono ?_
    rintro e w4 ⟨v_, rfl, hv_, hx_⟩
    replace hS := hS.mv hx_
    clear hx_
    obtain ⟨s27, A_27, n27, c27, rfl, aP⟩ := RI.opn hv_
    clear hv_
    replace hS := hS.addI aP
    clear aP
    go_wp2_with fail
    refine (qOf_ok (1) _ (by omega) (by omega)).mono ?_
    rintro e w5 ⟨v_, rfl, hv_, hx_⟩
    replace hS := hS.mv hx_
    clear hx_
    obtain ⟨s28, A_28, n28, c28, rfl, aQ⟩ := RI.opn hv_
    clear hv_
    replace hS := hS.addI aQ
    clear aQ
    go_wp2_with fail
    refine (qMinus_ok _ _ bq (1 : Int) br _ (hS.num 1 rfl) (hS.num 0 rfl) cB (lt_lim64 (by omega) (by omega)) E29.out cC).mono ?_
    rintro e w6 ⟨v_, rfl, hv_, hx_⟩
    replace hS := hS.mv hx_
    clear hx_
    obtain ⟨cJ, bC, cK, cL, rfl, aR⟩ := RI.opn hv_
    clear hv_
    replace hS := hS.addI aR
    clear aR
    have o11 : Own w w6.heap.size := Own.of hS.ext (by simp)
    have cA := (St.al hS 24 #[.bool false, .slice none 0 0] (g := w6.heap.size) (by simp))
    have k_2 := (cA.blk 0 rfl).cell
    have k_3 := (cA.blk 0 rfl).frozen
    go_wp2_with fail
    clear k_2 k_3
    clear cA
    replace hS := (St.al hS 24 #[.bool cJ, .slice bC cK cL] (g := w6.heap.size) (by simp))
    generalize (w6.alloc (.cells #[.bool cJ, .slice bC cK cL] 24)) = w7 at hS ⊢
    generalize w6.heap.size = g11 at hS o11 ⊢
    have Y11 := ExtOf.blk (hS.blk 0 rfl)
    have Y10 := ExtOf.blk (hS.blk 1 rfl)
    have Y9 := ExtOf.blk (hS.blk 2 rfl)
    have Y8 := ExtOf.blk (hS.blk 3 rfl)
    have Y7 := ExtOf.blk (hS.blk 4 rfl)
    have hE_ := hS.ext
    refine wp_region_tame 21 (hasF [(0, .any), (3, .any), (4, .any), (7, .any), (8, .any), (11, .any), (12, .any), (13, .any), (14, .any), (17, .any), (18, .any), (19, .any)]) (Fcs [(0, .ri ((2 : Int))), (3, .ri (am)), (4, .ri (an)), (7, .ri ((m1))), (8, .ri (ao)), (11, .ri (ap)), (12, .ri (aq)), (13, .ri (ag)), (14, .ri ((2 : Int))), (17, .ri (ar)), (18, .ri (ah)), (19, .eq (.int .i64 (sgn3 ag ah)))]) (Fcs_stab _) (by kernel_rfl) (by kernel_rfl) ?_
    simp only [tk1, tk0, dp1, dp0]
    refine wpT_eff (by rfl) (by rfl) (by rfl) ?_ ?_
    · intro W_ hK
      have hW := hK.1
      clear hK
      go_simp
      exact ⟨rfl, (qOf_ok (2) _ (by omega) (by omega)).mono fun e w' ⟨v, he, hR, hx⟩ => ⟨v, he, hx, hR⟩⟩
    intro v_ b0 b1 hr_
    obtain ⟨W_, hW_⟩ := hr_
    have hv_ : Fc.holds (.ri ((2 : Int))) b0 b1 v_ W_ := hW_.get
    clear hW_
    obtain ⟨bO, aC, bP, bQ, rfl, -⟩ := RI.opn hv_
    clear hv_
    clear W_
    try simp only [Act.put, sa0, sa1, sa2]
    refine wpT_quiet 2 (by rfl) (by kernel_rfl) ?_
    simp only [tk1, tk0, dp1, dp0]
    repeat (go_big_quiet_step (fail))
    refine wpQuiet_nil ?_
    refine wpT_eff (by rfl) (by rfl) (by rfl) ?_ ?_
    · intro W_ hK
      have hW := hK.1
      clear hK
      go_simp
      exact ⟨rfl, (qTimes_ok _ _ bm aT am _ (RI.ext (hS.num 10 rfl) hW) (RI.ext (hS.num 5 rfl) hW) co bp E33.out cD).mono fun e w' ⟨v, he, hR, hx⟩ => ⟨v, he, hx, hR⟩⟩
    intro v_ b2 b3 hr_
    obtain ⟨W_, hW_⟩ := hr_
    have hv_ : Fc.holds (.ri (am)) b2 b3 v_ W_ := hW_.get
    clear hW_
    obtain ⟨bR, aD, bS, bT, rfl, -⟩ := RI.opn hv_
    clear hv_
    clear W_
    try simp only [Act.put, sa0, sa1, sa2]
    refine wpT_eff (by rfl) (by rfl) (by rfl) ?_ ?_
    · intro W_ hK
      have hW := hK.1
      have bD : RI W_ (iv bO aC bP bQ) (2 : Int) := hK.2 0 ((iv bO aC bP bQ), b0, b1) (by rfl) (anc_of (by kernel_rfl))
      have bE : RI W_ (iv bR aD bS bT) am := hK.2 3 ((iv bR aD bS bT), b2, b3) (by rfl) (anc_of (by kernel_rfl))
      clear hK
      go_simp
      exact ⟨rfl, (qTimes_ok _ _ (2 : Int) am an _ bD bE (lt_lim64 (by omega) (by omega)) cD E34.out cE).mono fun e w' ⟨v, he, hR, hx⟩ => ⟨v, he, hx, hR⟩⟩
    intro v_ b4 b5 hr_
    obtain ⟨W_, hW_⟩ := hr_
    have hv_ : Fc.holds (.ri (an)) b4 b5 v_ W_ := hW_.get
    clear hW_
    obtain ⟨bU, aE, bV, bW, rfl, -⟩ := RI.opn hv_
    clear hv_
    clear W_
    try simp only [Act.put, sa0, sa1, sa2]
    refine wpT_quiet 2 (by rfl) (by kernel_rfl) ?_
    simp only [tk1, tk0, dp1, dp0]
    repeat (go_big_quiet_step (fail))
    refine wpQuiet_nil ?_
    refine wpT_eff (by rfl) (by rfl) (by rfl) ?_ ?_
    · intro W_ hK
      have hW := hK.1
      clear hK
      go_simp
      exact ⟨rfl, (qOf_ok (m1) _ l1 u1).mono fun e w' ⟨v, he, hR, hx⟩ => ⟨v, he, hx, hR⟩⟩
    intro v_ b6 b7 hr_
    obtain ⟨W_, hW_⟩ := hr_
    have hv_ : Fc.holds (.ri ((m1))) b6 b7 v_ W_ := hW_.get
    clear hW_
    obtain ⟨bX, aF, bY, bZ, rfl, -⟩ := RI.opn hv_
    clear hv_
    clear W_
    try simp only [Act.put, sa0, sa1, sa2]
    refine wpT_eff (by rfl) (by rfl) (by rfl) ?_ ?_
    · intro W_ hK
      have hW := hK.1
      have bF : RI W_ (iv bX aF bY bZ) (m1) := hK.2 7 ((iv bX aF bY bZ), b6, b7) (by rfl) (anc_of (by kernel_rfl))
      clear hK
      go_simp
      exact ⟨rfl, (qTimes_ok _ _ br (m1) ao _ (RI.ext (hS.num 0 rfl) hW) bF cC (lt_lim64 l1 u1) E38.out cF).mono fun e w' ⟨v, he, hR, hx⟩ => ⟨v, he, hx, hR⟩⟩
    intro v_ b8 b9 hr_
    obtain ⟨W_, hW_⟩ := hr_
    have hv_ : Fc.holds (.ri (ao)) b8 b9 v_ W_ := hW_.get
    clear hW_
    obtain ⟨c0, aG, c1, c2, rfl, -⟩ := RI.opn hv_
    clear hv_
    clear W_
    try simp only [Act.put, sa0, sa1, sa2]
    refine wpT_quiet 2 (by rfl) (by kernel_rfl) ?_
    simp only [tk1, tk0, dp1, dp0]
    repeat (go_big_quiet_step (fail))
    refine wpQuiet_nil ?_
    refine wpT_eff (by rfl) (by rfl) (by rfl) ?_ ?_
    · intro W_ hK
      have hW := hK.1
      clear hK
      go_simp
      exact ⟨rfl, (qTimes_ok _ _ aS aT ap _ (RI.ext (hS.num 8 rfl) hW) (RI.ext (hS.num 5 rfl) hW) bo bp E41.out cG).mono fun e w' ⟨v, he, hR, hx⟩ => ⟨v, he, hx, hR⟩⟩
    intro v_ ba bb hr_
    obtain ⟨W_, hW_⟩ := hr_
    have hv_ : Fc.holds (.ri (ap)) ba bb v_ W_ := hW_.get
    clear hW_
    obtain ⟨c3, aH, c4, c5, rfl, -⟩ := RI.opn hv_
    clear hv_
    clear W_
    try simp only [Act.put, sa0, sa1, sa2]
    refine wpT_eff (by rfl) (by rfl) (by rfl) ?_ ?_
    · intro W_ hK
      have hW := hK.1
      have bG : RI W_ (iv c0 aG c1 c2) ao := hK.2 8 ((iv c0 aG c1 c2), b8, b9) (by rfl) (anc_of (by kernel_rfl))
      have bH : RI W_ (iv c3 aH c4 c5) ap := hK.2 11 ((iv c3 aH c4 c5), ba, bb) (by rfl) (anc_of (by kernel_rfl))
      clear hK
      go_simp
      exact ⟨rfl, (qTimes_ok _ _ ao ap aq _ bG bH cF cG E42.out cH).mono fun e w' ⟨v, he, hR, hx⟩ => ⟨v, he, hx, hR⟩⟩
    intro v_ bc bd hr_
    obtain ⟨W_, hW_⟩ := hr_
    have hv_ : Fc.holds (.ri (aq)) bc bd v_ W_ := hW_.get
    clear hW_
    obtain ⟨c6, aI, c7, c8, rfl, -⟩ := RI.opn hv_
    clear hv_
    clear W_
    try simp only [Act.put, sa0, sa1, sa2]
    refine wpT_eff (by rfl) (by rfl) (by rfl) ?_ ?_
    · intro W_ hK
      have hW := hK.1
      have bI : RI W_ (iv bU aE bV bW) an := hK.2 4 ((iv bU aE bV bW), b4, b5) (by rfl) (anc_of (by kernel_rfl))
      have bJ : RI W_ (iv c6 aI c7 c8) aq := hK.2 12 ((iv c6 aI c7 c8), bc, bd) (by rfl) (anc_of (by kernel_rfl))
      clear hK
      go_simp
      exact ⟨rfl, (qMinus_ok _ _ an aq ag _ bI bJ cE cH E43.out A43).mono fun e w' ⟨v, he, hR, hx⟩ => ⟨v, he, hx, hR⟩⟩
    intro v_ be bf hr_
    obtain ⟨W_, hW_⟩ := hr_
    have hv_ : Fc.holds (.ri (ag)) be bf v_ W_ := hW_.get
    clear hW_
    obtain ⟨c9, aJ, ca, cb, rfl, -⟩ := RI.opn hv_
    clear hv_
    clear W_
    try simp only [Act.put, sa0, sa1, sa2]
    refine wpT_eff (by rfl) (by rfl) (by rfl) ?_ ?_
    · intro W_ hK
      have hW := hK.1
      clear hK
      go_simp
      exact ⟨rfl, (qOf_ok (2) _ (by omega) (by omega)).mono fun e w' ⟨v, he, hR, hx⟩ => ⟨v, he, hx, hR⟩⟩
    intro v_ bg bh hr_
    obtain ⟨W_, hW_⟩ := hr_
    have hv_ : Fc.holds (.ri ((2 : Int))) bg bh v_ W_ := hW_.get
    clear hW_
    obtain ⟨cc, aK, cd, ce, rfl, -⟩ := RI.opn hv_
    clear hv_
    clear W_
    try simp only [Act.put, sa0, sa1, sa2]
    refine wpT_quiet 2 (by rfl) (by kernel_rfl) ?_
    simp only [tk1, tk0, dp1, dp0]
    repeat (go_big_quiet_step (fail))
    refine wpQuiet_nil ?_
    refine wpT_eff (by rfl) (by rfl) (by rfl) ?_ ?_
    · intro W_ hK
      have hW := hK.1
      clear hK
      go_simp
      exact ⟨rfl, (qTimes_ok _ _ bn aS ar _ (RI.ext (hS.num 7 rfl) hW) (RI.ext (hS.num 8 rfl) hW) cp bo E47.out cI).mono fun e w' ⟨v, he, hR, hx⟩ => ⟨v, he, hx, hR⟩⟩
    intro v_ bi bj hr_
    obtain ⟨W_, hW_⟩ := hr_
    have hv_ : Fc.holds (.ri (ar)) bi bj v_ W_ := hW_.get
    clear hW_
    obtain ⟨cf, aL, cg, ch, rfl, -⟩ := RI.opn hv_
    clear hv_
    clear W_
    try simp only [Act.put, sa0, sa1, sa2]
    refine wpT_eff (by rfl) (by rfl) (by rfl) ?_ ?_
    · intro W_ hK
      have hW := hK.1
      have bK : RI W_ (iv cc aK cd ce) (2 : Int) := hK.2 14 ((iv cc aK cd ce), bg, bh) (by rfl) (anc_of (by kernel_rfl))
      have bL : RI W_ (iv cf aL cg ch) ar := hK.2 17 ((iv cf aL cg ch), bi, bj) (by rfl) (anc_of (by kernel_rfl))
      clear hK
      go_simp
      exact ⟨rfl, (qTimes_ok _ _ (2 : Int) ar ah _ bK bL (lt_lim64 (by omega) (by omega)) cI E48.out A48).mono fun e w' ⟨v, he, hR, hx⟩ => ⟨v, he, hx, hR⟩⟩
    intro v_ bk bl hr_
    obtain ⟨W_, hW_⟩ := hr_
    have hv_ : Fc.holds (.ri (ah)) bk bl v_ W_ := hW_.get
    clear hW_
    obtain ⟨ci, aM, cj, ck, rfl, -⟩ := RI.opn hv_
    clear hv_
    clear W_
    try simp only [Act.put, sa0, sa1, sa2]
    refine wpT_eff (by rfl) (by rfl) (by rfl) ?_ ?_
    · intro W_ hK
      have hW := hK.1
      have bM : RI W_ (iv c9 aJ ca cb) ag := hK.2 13 ((iv c9 aJ ca cb), be, bf) (by rfl) (anc_of (by kernel_rfl))
      have bN : RI W_ (iv ci aM cj ck) ah := hK.2 18 ((iv ci aM cj ck), bk, bl) (by rfl) (anc_of (by kernel_rfl))
      clear hK
      go_simp
      exact ⟨rfl, (qSign_ok _ _ ag ah k49_ _ bM bN Bx49.out By49.out L49.out).mono fun e w' ⟨he, hx⟩ => ⟨_, he, hx, rfl⟩⟩
    intro v_ lo49 hi49 hr_
    obtain ⟨W_, hW_⟩ := hr_
    obtain rfl : v_ = .int .i64 (sgn3 ag ah) := hW_.get
    clear hW_ W_
    try simp only [Act.put, sa0, sa1, sa2]
    refine wpT_quiet 1 (by rfl) (by kernel_rfl) ?_
    simp only [tk1, tk0, dp1, dp0]
    repeat (go_big_quiet_step (fail))
    refine wpQuiet_nil ?_
    refine wpT_nil ?_
    intro w8 hK
    have hlt_ := hS.lt
    replace hS := hS.mv hK.ext
    replace hS := hS.addI (show RI w8 (iv bO aC bP bQ) (2 : Int) from hK.at_ 0 (e := ((iv bO aC bP bQ), b0, b1)) (by rfl))
    replace hS := hS.addI (show RI w8 (iv bR aD bS bT) am from hK.at_ 3 (e := ((iv bR aD bS bT), b2, b3)) (by rfl))
    replace hS := hS.addI (show RI w8 (iv bU aE bV bW) an from hK.at_ 4 (e := ((iv bU aE bV bW), b4, b5)) (by rfl))
    replace hS := hS.addI (show RI w8 (iv bX aF bY bZ) (m1) from hK.at_ 7 (e := ((iv bX aF bY bZ), b6, b7)) (by rfl))
    replace hS := hS.addI (show RI w8 (iv c0 aG c1 c2) ao from hK.at_ 8 (e := ((iv c0 aG c1 c2), b8, b9)) (by rfl))
    replace hS := hS.addI (show RI w8 (iv c3 aH c4 c5) ap from hK.at_ 11 (e := ((iv c3 aH c4 c5), ba, bb)) (by rfl))
    replace hS := hS.addI (show RI w8 (iv c6 aI c7 c8) aq from hK.at_ 12 (e := ((iv c6 aI c7 c8), bc, bd)) (by rfl))
    replace hS := hS.addI (show RI w8 (iv c9 aJ ca cb) ag from hK.at_ 13 (e := ((iv c9 aJ ca cb), be, bf)) (by rfl))
    replace hS := hS.addI (show RI w8 (iv cc aK cd ce) (2 : Int) from hK.at_ 14 (e := ((iv cc aK cd ce), bg, bh)) (by rfl))
    replace hS := hS.addI (show RI w8 (iv cf aL cg ch) ar from hK.at_ 17 (e := ((iv cf aL cg ch), bi, bj)) (by rfl))
    replace hS := hS.addI (show RI w8 (iv ci aM cj ck) ah from hK.at_ 18 (e := ((iv ci aM cj ck), bk, bl)) (by rfl))
    clear hK hlt_ hE_ Y11 Y10 Y9 Y8 Y7
    go_wp2
    go_ret
    exact ⟨ret_bool (rfl), hS.ext⟩

end Go.Proofs.YtjeijmnhbckjdaaGreatDoor
