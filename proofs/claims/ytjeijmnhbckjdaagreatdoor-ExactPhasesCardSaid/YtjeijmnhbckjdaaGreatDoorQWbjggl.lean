/- Phases: the specification. -/
import Derived.Test.YtjeijmnhbckjdaaGreatDoorQWajehc
import Derived.LoopN
namespace Go.Proofs.YtjeijmnhbckjdaaGreatDoor
open Go.RowKit
set_option linter.unusedVariables false

set_option maxRecDepth 100000 in
set_option maxHeartbeats 51200000 in
theorem qPhases_w (v0 : Value) (q0 : GQ) (n0 : Nat) (v1 : Value) (q1 : GQ) (n1 : Nat) (v2 : Value) (q2 : GQ) (n2 : Nat) (w : World) (hX0 : GV w v0 q0 n0) (hX1 : GV w v1 q1 n1) (hX2 : GV w v2 q2 n2)
     (hn : 4 * (n0 + n1 + n2) + 1000 ≤ 12800) (m0 : 1 ≤ n0) (m1 : 1 ≤ n1) (m2 : 1 ≤ n2) :
    Calls Tryz.prog 29 #[v0, v1, v2] w fun e w' => ∃ v, e = .returned v ∧ AV w' v (PQ.plain q0 + (PQ.plain q1 * PQ.zp 0 + PQ.plain q2 * PQ.zp 0)) (PQ.plain q0 + (PQ.plain q1 * PQ.zp 8 + PQ.plain q2 * PQ.zp 4)) (PQ.plain q0 + (PQ.plain q1 * PQ.zp 4 + PQ.plain q2 * PQ.zp 8)) (2 * (n0 + n1 + n2) + 200) ∧ Ext w w' := by
  have hS := St.start w
  obtain ⟨a0, a1, a2, hX0, I0, S0⟩ := hX0
  obtain ⟨a9, aa, ab, ac, ad, ae, af, ag, ah, ai, aj, ak, rfl, am, an, ao⟩ := hX0
  replace hS := hS.addI am
  clear am
  replace hS := hS.addI an
  clear an
  replace hS := hS.addI ao
  clear ao
  obtain ⟨a3, a4, a5, hX1, I1, S1⟩ := hX1
  obtain ⟨ap, aq, ar, au, av, aw, ax, ay, az, aA, aB, aC, rfl, aD, aE, aF⟩ := hX1
  replace hS := hS.addI aD
  clear aD
  replace hS := hS.addI aE
  clear aE
  replace hS := hS.addI aF
  clear aF
  obtain ⟨a6, a7, a8, hX2, I2, S2⟩ := hX2
  obtain ⟨aG, aH, aI, aJ, aK, aL, aM, aN, aO, aP, aQ, aR, rfl, aS, aT, aU⟩ := hX2
  replace hS := hS.addI aS
  clear aS
  replace hS := hS.addI aT
  clear aT
  replace hS := hS.addI aU
  clear aU
  have o3 : Own w w.heap.size := Own.of hS.ext (by simp)
  have o4 : Own w (w.heap.size + 1) := Own.of hS.ext (by simp)
  have o5 : Own w (w.heap.size + 2) := Own.of hS.ext (by simp)
  have o6 : Own w (w.heap.size + 3) := Own.of hS.ext (by simp)
  have o7 : Own w (w.heap.size + 4) := Own.of hS.ext (by simp)
  go_enter Tryz.func29, Tryz.ntmps29
  go_wp2_with fail
  replace hS := (St.al (St.al (St.al (St.al (St.al hS 26 #[.bool a9, .slice aa ab ac, .bool ad, .slice ae af ag, .bool ah, .slice ai aj ak] (g := w.heap.size) (by simp)) 26 #[.bool ap, .slice aq ar au, .bool av, .slice aw ax ay, .bool az, .slice aA aB aC] (g := (w.heap.size + 1)) (by simp)) 26 #[.bool aG, .slice aH aI aJ, .bool aK, .slice aL aM aN, .bool aO, .slice aP aQ aR] (g := (w.heap.size + 2)) (by simp)) 52 #[.bool false, .slice none 0 0, .bool false, .slice none 0 0, .bool false, .slice none 0 0, .bool false, .slice none 0 0, .bool false, .slice none 0 0, .bool false, .slice none 0 0, .bool false, .slice none 0 0, .bool false, .slice none 0 0, .bool false, .slice none 0 0, .bool false, .slice none 0 0, .bool false, .slice none 0 0, .bool false, .slice none 0 0, .bool false, .slice none 0 0, .bool false, .slice none 0 0, .bool false, .slice none 0 0, .bool false, .slice none 0 0, .bool false, .slice none 0 0, .bool false, .slice none 0 0] (g := (w.heap.size + 3)) (by simp)) 52 #[.bool false, .slice none 0 0, .bool false, .slice none 0 0, .bool false, .slice none 0 0, .bool false, .slice none 0 0, .bool false, .slice none 0 0, .bool false, .slice none 0 0, .bool false, .slice none 0 0, .bool false, .slice none 0 0, .bool false, .slice none 0 0, .bool false, .slice none 0 0, .bool false, .slice none 0 0, .bool false, .slice none 0 0, .bool false, .slice none 0 0, .bool false, .slice none 0 0, .bool false, .slice none 0 0, .bool false, .slice none 0 0, .bool false, .slice none 0 0, .bool false, .slice none 0 0] (g := (w.heap.size + 4)) (by simp))
  generalize (((((w.alloc (.cells #[.bool a9, .slice aa ab ac, .bool ad, .slice ae af ag, .bool ah, .slice ai aj ak] 26)).alloc (.cells #[.bool ap, .slice aq ar au, .bool av, .slice aw ax ay, .bool az, .slice aA aB aC] 26)).alloc (.cells #[.bool aG, .slice aH aI aJ, .bool aK, .slice aL aM aN, .bool aO, .slice aP aQ aR] 26)).alloc (.cells #[.bool false, .slice none 0 0, .bool false, .slice none 0 0, .bool false, .slice none 0 0, .bool false, .slice none 0 0, .bool false, .slice none 0 0, .bool false, .slice none 0 0, .bool false, .slice none 0 0, .bool false, .slice none 0 0, .bool false, .slice none 0 0, .bool false, .slice none 0 0, .bool false, .slice none 0 0, .bool false, .slice none 0 0, .bool false, .slice none 0 0, .bool false, .slice none 0 0, .bool false, .slice none 0 0, .bool false, .slice none 0 0, .bool false, .slice none 0 0, .bool false, .slice none 0 0] 52)).alloc (.cells #[.bool false, .slice none 0 0, .bool false, .slice none 0 0, .bool false, .slice none 0 0, .bool false, .slice none 0 0, .bool false, .slice none 0 0, .bool false, .slice none 0 0, .bool false, .slice none 0 0, .bool false, .slice none 0 0, .bool false, .slice none 0 0, .bool false, .slice none 0 0, .bool false, .slice none 0 0, .bool false, .slice none 0 0, .bool false, .slice none 0 0, .bool false, .slice none 0 0, .bool false, .slice none 0 0, .bool false, .slice none 0 0, .bool false, .slice none 0 0, .bool false, .slice none 0 0] 52)) = w1 at hS ⊢
  generalize w.heap.size + 4 = g7 at hS o7 ⊢
  generalize w.heap.size + 3 = g6 at hS o6 ⊢
  generalize w.heap.size + 2 = g5 at hS o5 ⊢
  generalize w.heap.size + 1 = g4 at hS o4 ⊢
  generalize w.heap.size = g3 at hS o3 ⊢
  refine wp_loop_rounds 4 ?_
  rw [rounds_succ]
  go_wp2_with fail
  obtain ⟨z19ar0, z19br0, z19dr0, I19ur0⟩ := is_ex (((⟨q1, (GQ.i 0 0)⟩ : PQ) * PQ.zp 0)).u
  obtain ⟨z19xr0, z19yr0, z19zr0, I19vr0⟩ := is_ex (((⟨q1, (GQ.i 0 0)⟩ : PQ) * PQ.zp 0)).v
  have S19ur0 : Sz (2 * (n1 + 2) + 69) z19ar0 z19br0 z19dr0 := (Bd.produ (p := (⟨q1, (GQ.i 0 0)⟩ : PQ)) (q := PQ.zp 0) (m := n1) (n := 2) ⟨_, _, _, I1, S1⟩ ⟨_, _, _, (is_i 0 0), (sz_0 (n := n1) (by omega))⟩ (Bd.zp (by omega)).1 (Bd.zp (by omega)).2).sz I19ur0
  have S19vr0 : Sz (2 * (n1 + 2) + 69) z19xr0 z19yr0 z19zr0 := (Bd.prodv (p := (⟨q1, (GQ.i 0 0)⟩ : PQ)) (q := PQ.zp 0) (m := n1) (n := 2) ⟨_, _, _, I1, S1⟩ ⟨_, _, _, (is_i 0 0), (sz_0 (n := n1) (by omega))⟩ (Bd.zp (by omega)).1 (Bd.zp (by omega)).2).sz I19vr0
  obtain ⟨z24ar0, z24br0, z24dr0, I24ur0⟩ := is_ex (((⟨q2, (GQ.i 0 0)⟩ : PQ) * PQ.zp 0)).u
  obtain ⟨z24xr0, z24yr0, z24zr0, I24vr0⟩ := is_ex (((⟨q2, (GQ.i 0 0)⟩ : PQ) * PQ.zp 0)).v
  have S24ur0 : Sz (2 * (n2 + 2) + 69) z24ar0 z24br0 z24dr0 := (Bd.produ (p := (⟨q2, (GQ.i 0 0)⟩ : PQ)) (q := PQ.zp 0) (m := n2) (n := 2) ⟨_, _, _, I2, S2⟩ ⟨_, _, _, (is_i 0 0), (sz_0 (n := n2) (by omega))⟩ (Bd.zp (by omega)).1 (Bd.zp (by omega)).2).sz I24ur0
  have S24vr0 : Sz (2 * (n2 + 2) + 69) z24xr0 z24yr0 z24zr0 := (Bd.prodv (p := (⟨q2, (GQ.i 0 0)⟩ : PQ)) (q := PQ.zp 0) (m := n2) (n := 2) ⟨_, _, _, I2, S2⟩ ⟨_, _, _, (is_i 0 0), (sz_0 (n := n2) (by omega))⟩ (Bd.zp (by omega)).1 (Bd.zp (by omega)).2).sz I24vr0
  obtain ⟨z25ar0, z25br0, z25dr0, I25ur0⟩ := is_ex ((((⟨q1, (GQ.i 0 0)⟩ : PQ) * PQ.zp 0) + ((⟨q2, (GQ.i 0 0)⟩ : PQ) * PQ.zp 0))).u
  obtain ⟨z25xr0, z25yr0, z25zr0, I25vr0⟩ := is_ex ((((⟨q1, (GQ.i 0 0)⟩ : PQ) * PQ.zp 0) + ((⟨q2, (GQ.i 0 0)⟩ : PQ) * PQ.zp 0))).v
  have S25ur0 : Sz ((2 * (n1 + 2) + 69) + (2 * (n2 + 2) + 69) + 1) z25ar0 z25br0 z25dr0 := (Bd.mono (Bd.add (x := ((⟨q1, (GQ.i 0 0)⟩ : PQ) * PQ.zp 0).u) (y := ((⟨q2, (GQ.i 0 0)⟩ : PQ) * PQ.zp 0).u) (m := 2 * (n1 + 2) + 69) (n := 2 * (n2 + 2) + 69) ⟨_, _, _, I19ur0, S19ur0⟩ ⟨_, _, _, I24ur0, S24ur0⟩) (by omega)).sz I25ur0
  have S25vr0 : Sz ((2 * (n1 + 2) + 69) + (2 * (n2 + 2) + 69) + 1) z25xr0 z25yr0 z25zr0 := (Bd.mono (Bd.add (x := ((⟨q1, (GQ.i 0 0)⟩ : PQ) * PQ.zp 0).v) (y := ((⟨q2, (GQ.i 0 0)⟩ : PQ) * PQ.zp 0).v) (m := 2 * (n1 + 2) + 69) (n := 2 * (n2 + 2) + 69) ⟨_, _, _, I19vr0, S19vr0⟩ ⟨_, _, _, I24vr0, S24vr0⟩) (by omega)).sz I25vr0
  obtain ⟨z26ar0, z26br0, z26dr0, I26ur0⟩ := is_ex (((⟨q0, (GQ.i 0 0)⟩ : PQ) + (((⟨q1, (GQ.i 0 0)⟩ : PQ) * PQ.zp 0) + ((⟨q2, (GQ.i 0 0)⟩ : PQ) * PQ.zp 0)))).u
  obtain ⟨z26xr0, z26yr0, z26zr0, I26vr0⟩ := is_ex (((⟨q0, (GQ.i 0 0)⟩ : PQ) + (((⟨q1, (GQ.i 0 0)⟩ : PQ) * PQ.zp 0) + ((⟨q2, (GQ.i 0 0)⟩ : PQ) * PQ.zp 0)))).v
  have S26ur0 : Sz (n0 + ((2 * (n1 + 2) + 69) + (2 * (n2 + 2) + 69) + 1) + 1) z26ar0 z26br0 z26dr0 := (Bd.mono (Bd.add (x := (⟨q0, (GQ.i 0 0)⟩ : PQ).u) (y := (((⟨q1, (GQ.i 0 0)⟩ : PQ) * PQ.zp 0) + ((⟨q2, (GQ.i 0 0)⟩ : PQ) * PQ.zp 0)).u) (m := n0) (n := (2 * (n1 + 2) + 69) + (2 * (n2 + 2) + 69) + 1) ⟨_, _, _, I0, S0⟩ ⟨_, _, _, I25ur0, S25ur0⟩) (by omega)).sz I26ur0
  have S26vr0 : Sz (n0 + ((2 * (n1 + 2) + 69) + (2 * (n2 + 2) + 69) + 1) + 1) z26xr0 z26yr0 z26zr0 := (Bd.mono (Bd.add (x := (⟨q0, (GQ.i 0 0)⟩ : PQ).v) (y := (((⟨q1, (GQ.i 0 0)⟩ : PQ) * PQ.zp 0) + ((⟨q2, (GQ.i 0 0)⟩ : PQ) * PQ.zp 0)).v) (m := n0) (n := (2 * (n1 + 2) + 69) + (2 * (n2 + 2) + 69) + 1) ⟨_, _, _, (is_i 0 0), (sz_0 (n := n0) (by omega))⟩ ⟨_, _, _, I25vr0, S25vr0⟩) (by omega)).sz I26vr0
  have Y5 := ExtOf.blk (hS.blk 2 rfl)
  have Y4 := ExtOf.blk (hS.blk 3 rfl)
  have Y3 := ExtOf.blk (hS.blk 4 rfl)
  have hE_ := hS.ext
  refine wp_region_tame 16 (hasF [(2, .any), (4, .any), (7, .any), (9, .any), (12, .any), (13, .any), (14, .any)]) (Fcs [(2, .rp (a0) (a1) (a2) ((0 : Int)) ((0 : Int)) ((1 : Int))), (4, .rp (a3) (a4) (a5) ((0 : Int)) ((0 : Int)) ((1 : Int))), (7, .rp (z19ar0) (z19br0) (z19dr0) (z19xr0) (z19yr0) (z19zr0)), (9, .rp (a6) (a7) (a8) ((0 : Int)) ((0 : Int)) ((1 : Int))), (12, .rp (z24ar0) (z24br0) (z24dr0) (z24xr0) (z24yr0) (z24zr0)), (13, .rp (z25ar0) (z25br0) (z25dr0) (z25xr0) (z25yr0) (z25zr0)), (14, .rp (z26ar0) (z26br0) (z26dr0) (z26xr0) (z26yr0) (z26zr0))]) (Fcs_stab _) (by kernel_rfl) (by kernel_rfl) ?_
  simp only [tk1, tk0, dp1, dp0]
  refine wpT_quiet 2 (by rfl) (by kernel_rfl) ?_
  simp only [tk1, tk0, dp1, dp0]
  repeat (go_big_quiet_step (fail))
  refine wpQuiet_nil ?_
  refine wpT_eff (by rfl) (by rfl) (by rfl) ?_ ?_
  · intro W_ hK
    have hW := hK.1
    clear hK
    go_simp
    exact ⟨rfl, (toRP (qPlain_ok _ q0 (n0) _ ⟨_, _, _, RG.mk (RI.ext (hS.num 8 rfl) hW) (RI.ext (hS.num 7 rfl) hW) (RI.ext (hS.num 6 rfl) hW), I0, S0⟩ (by omega)) I0 (is_i 0 0)).mono fun e w' ⟨v, he, hR, hx⟩ => ⟨v, he, hx, hR⟩⟩
  intro v_ lo14r0 hi14r0 hr_
  obtain ⟨W_, hW_⟩ := hr_
  have hv_ : Fc.holds (.rp (a0) (a1) (a2) ((0 : Int)) ((0 : Int)) ((1 : Int))) lo14r0 hi14r0 v_ W_ := hW_.get
  clear hW_
  obtain ⟨s14ar0, A_14ar0, n14ar0, c14ar0, s14br0, A_14br0, n14br0, c14br0, s14dr0, A_14dr0, n14dr0, c14dr0, s14xr0, A_14xr0, n14xr0, c14xr0, s14yr0, A_14yr0, n14yr0, c14yr0, s14zr0, A_14zr0, n14zr0, c14zr0, rfl, -, -, -, -, -, -⟩ := hv_
  clear W_
  try simp only [Act.put, sa0, sa1, sa2]
  refine wpT_quiet 1 (by rfl) (by kernel_rfl) ?_
  simp only [tk1, tk0, dp1, dp0]
  repeat (go_big_quiet_step (fail))
  refine wpQuiet_nil ?_
  refine wpT_eff (by rfl) (by rfl) (by rfl) ?_ ?_
  · intro W_ hK
    have hW := hK.1
    clear hK
    go_simp
    exact ⟨rfl, (toRP (qPlain_ok _ q1 (n1) _ ⟨_, _, _, RG.mk (RI.ext (hS.num 5 rfl) hW) (RI.ext (hS.num 4 rfl) hW) (RI.ext (hS.num 3 rfl) hW), I1, S1⟩ (by omega)) I1 (is_i 0 0)).mono fun e w' ⟨v, he, hR, hx⟩ => ⟨v, he, hx, hR⟩⟩
  intro v_ lo16r0 hi16r0 hr_
  obtain ⟨W_, hW_⟩ := hr_
  have hv_ : Fc.holds (.rp (a3) (a4) (a5) ((0 : Int)) ((0 : Int)) ((1 : Int))) lo16r0 hi16r0 v_ W_ := hW_.get
  clear hW_
  obtain ⟨s16ar0, A_16ar0, n16ar0, c16ar0, s16br0, A_16br0, n16br0, c16br0, s16dr0, A_16dr0, n16dr0, c16dr0, s16xr0, A_16xr0, n16xr0, c16xr0, s16yr0, A_16yr0, n16yr0, c16yr0, s16zr0, A_16zr0, n16zr0, c16zr0, rfl, -, -, -, -, -, -⟩ := hv_
  clear W_
  try simp only [Act.put, sa0, sa1, sa2]
  refine wpT_quiet 2 (by rfl) (by kernel_rfl) ?_
  simp only [tk1, tk0, dp1, dp0]
  repeat (go_big_quiet_step (fail))
  refine wpQuiet_nil ?_
  refine wpT_eff (by rfl) (by rfl) (by rfl) ?_ ?_
  · intro W_ hK
    have hW := hK.1
    have F_s16ar0 : RI W_ (iv s16ar0 A_16ar0 n16ar0 c16ar0) a3 := RP.at1 (hK.2 4 ((pv s16ar0 A_16ar0 n16ar0 c16ar0 s16br0 A_16br0 n16br0 c16br0 s16dr0 A_16dr0 n16dr0 c16dr0 s16xr0 A_16xr0 n16xr0 c16xr0 s16yr0 A_16yr0 n16yr0 c16yr0 s16zr0 A_16zr0 n16zr0 c16zr0), lo16r0, hi16r0) (by rfl) (anc_of (by kernel_rfl)))
    have F_s16br0 : RI W_ (iv s16br0 A_16br0 n16br0 c16br0) a4 := RP.at2 (hK.2 4 ((pv s16ar0 A_16ar0 n16ar0 c16ar0 s16br0 A_16br0 n16br0 c16br0 s16dr0 A_16dr0 n16dr0 c16dr0 s16xr0 A_16xr0 n16xr0 c16xr0 s16yr0 A_16yr0 n16yr0 c16yr0 s16zr0 A_16zr0 n16zr0 c16zr0), lo16r0, hi16r0) (by rfl) (anc_of (by kernel_rfl)))
    have F_s16dr0 : RI W_ (iv s16dr0 A_16dr0 n16dr0 c16dr0) a5 := RP.at3 (hK.2 4 ((pv s16ar0 A_16ar0 n16ar0 c16ar0 s16br0 A_16br0 n16br0 c16br0 s16dr0 A_16dr0 n16dr0 c16dr0 s16xr0 A_16xr0 n16xr0 c16xr0 s16yr0 A_16yr0 n16yr0 c16yr0 s16zr0 A_16zr0 n16zr0 c16zr0), lo16r0, hi16r0) (by rfl) (anc_of (by kernel_rfl)))
    have F_s16xr0 : RI W_ (iv s16xr0 A_16xr0 n16xr0 c16xr0) (0 : Int) := RP.at4 (hK.2 4 ((pv s16ar0 A_16ar0 n16ar0 c16ar0 s16br0 A_16br0 n16br0 c16br0 s16dr0 A_16dr0 n16dr0 c16dr0 s16xr0 A_16xr0 n16xr0 c16xr0 s16yr0 A_16yr0 n16yr0 c16yr0 s16zr0 A_16zr0 n16zr0 c16zr0), lo16r0, hi16r0) (by rfl) (anc_of (by kernel_rfl)))
    have F_s16yr0 : RI W_ (iv s16yr0 A_16yr0 n16yr0 c16yr0) (0 : Int) := RP.at5 (hK.2 4 ((pv s16ar0 A_16ar0 n16ar0 c16ar0 s16br0 A_16br0 n16br0 c16br0 s16dr0 A_16dr0 n16dr0 c16dr0 s16xr0 A_16xr0 n16xr0 c16xr0 s16yr0 A_16yr0 n16yr0 c16yr0 s16zr0 A_16zr0 n16zr0 c16zr0), lo16r0, hi16r0) (by rfl) (anc_of (by kernel_rfl)))
    have F_s16zr0 : RI W_ (iv s16zr0 A_16zr0 n16zr0 c16zr0) (1 : Int) := RP.at6 (hK.2 4 ((pv s16ar0 A_16ar0 n16ar0 c16ar0 s16br0 A_16br0 n16br0 c16br0 s16dr0 A_16dr0 n16dr0 c16dr0 s16xr0 A_16xr0 n16xr0 c16xr0 s16yr0 A_16yr0 n16yr0 c16yr0 s16zr0 A_16zr0 n16zr0 c16zr0), lo16r0, hi16r0) (by rfl) (anc_of (by kernel_rfl)))
    clear hK
    go_simp
    exact ⟨rfl, (toRP (qTurn_w _ (⟨q1, (GQ.i 0 0)⟩ : PQ) (n1) (0) 0 _ ⟨_, _, _, _, _, _, RP.mk F_s16ar0 F_s16br0 F_s16dr0 F_s16xr0 F_s16yr0 F_s16zr0, I1, S1, (is_i 0 0), (sz_0 (n := n1) (by omega))⟩ (by omega) (by omega) (Lib.hid (show (0 : Int) % 12 = ((0 : Nat) : Int) by decide)) (by omega) (by omega)) I19ur0 I19vr0).mono fun e w' ⟨v, he, hR, hx⟩ => ⟨v, he, hx, hR⟩⟩
  intro v_ lo19r0 hi19r0 hr_
  obtain ⟨W_, hW_⟩ := hr_
  have hv_ : Fc.holds (.rp (z19ar0) (z19br0) (z19dr0) (z19xr0) (z19yr0) (z19zr0)) lo19r0 hi19r0 v_ W_ := hW_.get
  clear hW_
  obtain ⟨s19ar0, A_19ar0, n19ar0, c19ar0, s19br0, A_19br0, n19br0, c19br0, s19dr0, A_19dr0, n19dr0, c19dr0, s19xr0, A_19xr0, n19xr0, c19xr0, s19yr0, A_19yr0, n19yr0, c19yr0, s19zr0, A_19zr0, n19zr0, c19zr0, rfl, -, -, -, -, -, -⟩ := hv_
  clear W_
  try simp only [Act.put, sa0, sa1, sa2]
  refine wpT_quiet 1 (by rfl) (by kernel_rfl) ?_
  simp only [tk1, tk0, dp1, dp0]
  repeat (go_big_quiet_step (fail))
  refine wpQuiet_nil ?_
  refine wpT_eff (by rfl) (by rfl) (by rfl) ?_ ?_
  · intro W_ hK
    have hW := hK.1
    clear hK
    go_simp
    exact ⟨rfl, (toRP (qPlain_ok _ q2 (n2) _ ⟨_, _, _, RG.mk (RI.ext (hS.num 2 rfl) hW) (RI.ext (hS.num 1 rfl) hW) (RI.ext (hS.num 0 rfl) hW), I2, S2⟩ (by omega)) I2 (is_i 0 0)).mono fun e w' ⟨v, he, hR, hx⟩ => ⟨v, he, hx, hR⟩⟩
  intro v_ lo21r0 hi21r0 hr_
  obtain ⟨W_, hW_⟩ := hr_
  have hv_ : Fc.holds (.rp (a6) (a7) (a8) ((0 : Int)) ((0 : Int)) ((1 : Int))) lo21r0 hi21r0 v_ W_ := hW_.get
  clear hW_
  obtain ⟨s21ar0, A_21ar0, n21ar0, c21ar0, s21br0, A_21br0, n21br0, c21br0, s21dr0, A_21dr0, n21dr0, c21dr0, s21xr0, A_21xr0, n21xr0, c21xr0, s21yr0, A_21yr0, n21yr0, c21yr0, s21zr0, A_21zr0, n21zr0, c21zr0, rfl, -, -, -, -, -, -⟩ := hv_
  clear W_
  try simp only [Act.put, sa0, sa1, sa2]
  refine wpT_quiet 2 (by rfl) (by kernel_rfl) ?_
  simp only [tk1, tk0, dp1, dp0]
  repeat (go_big_quiet_step (fail))
  refine wpQuiet_nil ?_
  refine wpT_eff (by rfl) (by rfl) (by rfl) ?_ ?_
  · intro W_ hK
    have hW := hK.1
    have F_s21ar0 : RI W_ (iv s21ar0 A_21ar0 n21ar0 c21ar0) a6 := RP.at1 (hK.2 9 ((pv s21ar0 A_21ar0 n21ar0 c21ar0 s21br0 A_21br0 n21br0 c21br0 s21dr0 A_21dr0 n21dr0 c21dr0 s21xr0 A_21xr0 n21xr0 c21xr0 s21yr0 A_21yr0 n21yr0 c21yr0 s21zr0 A_21zr0 n21zr0 c21zr0), lo21r0, hi21r0) (by rfl) (anc_of (by kernel_rfl)))
    have F_s21br0 : RI W_ (iv s21br0 A_21br0 n21br0 c21br0) a7 := RP.at2 (hK.2 9 ((pv s21ar0 A_21ar0 n21ar0 c21ar0 s21br0 A_21br0 n21br0 c21br0 s21dr0 A_21dr0 n21dr0 c21dr0 s21xr0 A_21xr0 n21xr0 c21xr0 s21yr0 A_21yr0 n21yr0 c21yr0 s21zr0 A_21zr0 n21zr0 c21zr0), lo21r0, hi21r0) (by rfl) (anc_of (by kernel_rfl)))
    have F_s21dr0 : RI W_ (iv s21dr0 A_21dr0 n21dr0 c21dr0) a8 := RP.at3 (hK.2 9 ((pv s21ar0 A_21ar0 n21ar0 c21ar0 s21br0 A_21br0 n21br0 c21br0 s21dr0 A_21dr0 n21dr0 c21dr0 s21xr0 A_21xr0 n21xr0 c21xr0 s21yr0 A_21yr0 n21yr0 c21yr0 s21zr0 A_21zr0 n21zr0 c21zr0), lo21r0, hi21r0) (by rfl) (anc_of (by kernel_rfl)))
    have F_s21xr0 : RI W_ (iv s21xr0 A_21xr0 n21xr0 c21xr0) (0 : Int) := RP.at4 (hK.2 9 ((pv s21ar0 A_21ar0 n21ar0 c21ar0 s21br0 A_21br0 n21br0 c21br0 s21dr0 A_21dr0 n21dr0 c21dr0 s21xr0 A_21xr0 n21xr0 c21xr0 s21yr0 A_21yr0 n21yr0 c21yr0 s21zr0 A_21zr0 n21zr0 c21zr0), lo21r0, hi21r0) (by rfl) (anc_of (by kernel_rfl)))
    have F_s21yr0 : RI W_ (iv s21yr0 A_21yr0 n21yr0 c21yr0) (0 : Int) := RP.at5 (hK.2 9 ((pv s21ar0 A_21ar0 n21ar0 c21ar0 s21br0 A_21br0 n21br0 c21br0 s21dr0 A_21dr0 n21dr0 c21dr0 s21xr0 A_21xr0 n21xr0 c21xr0 s21yr0 A_21yr0 n21yr0 c21yr0 s21zr0 A_21zr0 n21zr0 c21zr0), lo21r0, hi21r0) (by rfl) (anc_of (by kernel_rfl)))
    have F_s21zr0 : RI W_ (iv s21zr0 A_21zr0 n21zr0 c21zr0) (1 : Int) := RP.at6 (hK.2 9 ((pv s21ar0 A_21ar0 n21ar0 c21ar0 s21br0 A_21br0 n21br0 c21br0 s21dr0 A_21dr0 n21dr0 c21dr0 s21xr0 A_21xr0 n21xr0 c21xr0 s21yr0 A_21yr0 n21yr0 c21yr0 s21zr0 A_21zr0 n21zr0 c21zr0), lo21r0, hi21r0) (by rfl) (anc_of (by kernel_rfl)))
    clear hK
    go_simp
    exact ⟨rfl, (toRP (qTurn_w _ (⟨q2, (GQ.i 0 0)⟩ : PQ) (n2) (0) 0 _ ⟨_, _, _, _, _, _, RP.mk F_s21ar0 F_s21br0 F_s21dr0 F_s21xr0 F_s21yr0 F_s21zr0, I2, S2, (is_i 0 0), (sz_0 (n := n2) (by omega))⟩ (by omega) (by omega) (Lib.hid (show (0 : Int) % 12 = ((0 : Nat) : Int) by decide)) (by omega) (by omega)) I24ur0 I24vr0).mono fun e w' ⟨v, he, hR, hx⟩ => ⟨v, he, hx, hR⟩⟩
  intro v_ lo24r0 hi24r0 hr_
  obtain ⟨W_, hW_⟩ := hr_
  have hv_ : Fc.holds (.rp (z24ar0) (z24br0) (z24dr0) (z24xr0) (z24yr0) (z24zr0)) lo24r0 hi24r0 v_ W_ := hW_.get
  clear hW_
  obtain ⟨s24ar0, A_24ar0, n24ar0, c24ar0, s24br0, A_24br0, n24br0, c24br0, s24dr0, A_24dr0, n24dr0, c24dr0, s24xr0, A_24xr0, n24xr0, c24xr0, s24yr0, A_24yr0, n24yr0, c24yr0, s24zr0, A_24zr0, n24zr0, c24zr0, rfl, -, -, -, -, -, -⟩ := hv_
  clear W_
  try simp only [Act.put, sa0, sa1, sa2]
  refine wpT_eff (by rfl) (by rfl) (by rfl) ?_ ?_
  · intro W_ hK
    have hW := hK.1
    have F_s19ar0 : RI W_ (iv s19ar0 A_19ar0 n19ar0 c19ar0) z19ar0 := RP.at1 (hK.2 7 ((pv s19ar0 A_19ar0 n19ar0 c19ar0 s19br0 A_19br0 n19br0 c19br0 s19dr0 A_19dr0 n19dr0 c19dr0 s19xr0 A_19xr0 n19xr0 c19xr0 s19yr0 A_19yr0 n19yr0 c19yr0 s19zr0 A_19zr0 n19zr0 c19zr0), lo19r0, hi19r0) (by rfl) (anc_of (by kernel_rfl)))
    have F_s19br0 : RI W_ (iv s19br0 A_19br0 n19br0 c19br0) z19br0 := RP.at2 (hK.2 7 ((pv s19ar0 A_19ar0 n19ar0 c19ar0 s19br0 A_19br0 n19br0 c19br0 s19dr0 A_19dr0 n19dr0 c19dr0 s19xr0 A_19xr0 n19xr0 c19xr0 s19yr0 A_19yr0 n19yr0 c19yr0 s19zr0 A_19zr0 n19zr0 c19zr0), lo19r0, hi19r0) (by rfl) (anc_of (by kernel_rfl)))
    have F_s19dr0 : RI W_ (iv s19dr0 A_19dr0 n19dr0 c19dr0) z19dr0 := RP.at3 (hK.2 7 ((pv s19ar0 A_19ar0 n19ar0 c19ar0 s19br0 A_19br0 n19br0 c19br0 s19dr0 A_19dr0 n19dr0 c19dr0 s19xr0 A_19xr0 n19xr0 c19xr0 s19yr0 A_19yr0 n19yr0 c19yr0 s19zr0 A_19zr0 n19zr0 c19zr0), lo19r0, hi19r0) (by rfl) (anc_of (by kernel_rfl)))
    have F_s19xr0 : RI W_ (iv s19xr0 A_19xr0 n19xr0 c19xr0) z19xr0 := RP.at4 (hK.2 7 ((pv s19ar0 A_19ar0 n19ar0 c19ar0 s19br0 A_19br0 n19br0 c19br0 s19dr0 A_19dr0 n19dr0 c19dr0 s19xr0 A_19xr0 n19xr0 c19xr0 s19yr0 A_19yr0 n19yr0 c19yr0 s19zr0 A_19zr0 n19zr0 c19zr0), lo19r0, hi19r0) (by rfl) (anc_of (by kernel_rfl)))
    have F_s19yr0 : RI W_ (iv s19yr0 A_19yr0 n19yr0 c19yr0) z19yr0 := RP.at5 (hK.2 7 ((pv s19ar0 A_19ar0 n19ar0 c19ar0 s19br0 A_19br0 n19br0 c19br0 s19dr0 A_19dr0 n19dr0 c19dr0 s19xr0 A_19xr0 n19xr0 c19xr0 s19yr0 A_19yr0 n19yr0 c19yr0 s19zr0 A_19zr0 n19zr0 c19zr0), lo19r0, hi19r0) (by rfl) (anc_of (by kernel_rfl)))
    have F_s19zr0 : RI W_ (iv s19zr0 A_19zr0 n19zr0 c19zr0) z19zr0 := RP.at6 (hK.2 7 ((pv s19ar0 A_19ar0 n19ar0 c19ar0 s19br0 A_19br0 n19br0 c19br0 s19dr0 A_19dr0 n19dr0 c19dr0 s19xr0 A_19xr0 n19xr0 c19xr0 s19yr0 A_19yr0 n19yr0 c19yr0 s19zr0 A_19zr0 n19zr0 c19zr0), lo19r0, hi19r0) (by rfl) (anc_of (by kernel_rfl)))
    have F_s24ar0 : RI W_ (iv s24ar0 A_24ar0 n24ar0 c24ar0) z24ar0 := RP.at1 (hK.2 12 ((pv s24ar0 A_24ar0 n24ar0 c24ar0 s24br0 A_24br0 n24br0 c24br0 s24dr0 A_24dr0 n24dr0 c24dr0 s24xr0 A_24xr0 n24xr0 c24xr0 s24yr0 A_24yr0 n24yr0 c24yr0 s24zr0 A_24zr0 n24zr0 c24zr0), lo24r0, hi24r0) (by rfl) (anc_of (by kernel_rfl)))
    have F_s24br0 : RI W_ (iv s24br0 A_24br0 n24br0 c24br0) z24br0 := RP.at2 (hK.2 12 ((pv s24ar0 A_24ar0 n24ar0 c24ar0 s24br0 A_24br0 n24br0 c24br0 s24dr0 A_24dr0 n24dr0 c24dr0 s24xr0 A_24xr0 n24xr0 c24xr0 s24yr0 A_24yr0 n24yr0 c24yr0 s24zr0 A_24zr0 n24zr0 c24zr0), lo24r0, hi24r0) (by rfl) (anc_of (by kernel_rfl)))
    have F_s24dr0 : RI W_ (iv s24dr0 A_24dr0 n24dr0 c24dr0) z24dr0 := RP.at3 (hK.2 12 ((pv s24ar0 A_24ar0 n24ar0 c24ar0 s24br0 A_24br0 n24br0 c24br0 s24dr0 A_24dr0 n24dr0 c24dr0 s24xr0 A_24xr0 n24xr0 c24xr0 s24yr0 A_24yr0 n24yr0 c24yr0 s24zr0 A_24zr0 n24zr0 c24zr0), lo24r0, hi24r0) (by rfl) (anc_of (by kernel_rfl)))
    have F_s24xr0 : RI W_ (iv s24xr0 A_24xr0 n24xr0 c24xr0) z24xr0 := RP.at4 (hK.2 12 ((pv s24ar0 A_24ar0 n24ar0 c24ar0 s24br0 A_24br0 n24br0 c24br0 s24dr0 A_24dr0 n24dr0 c24dr0 s24xr0 A_24xr0 n24xr0 c24xr0 s24yr0 A_24yr0 n24yr0 c24yr0 s24zr0 A_24zr0 n24zr0 c24zr0), lo24r0, hi24r0) (by rfl) (anc_of (by kernel_rfl)))
    have F_s24yr0 : RI W_ (iv s24yr0 A_24yr0 n24yr0 c24yr0) z24yr0 := RP.at5 (hK.2 12 ((pv s24ar0 A_24ar0 n24ar0 c24ar0 s24br0 A_24br0 n24br0 c24br0 s24dr0 A_24dr0 n24dr0 c24dr0 s24xr0 A_24xr0 n24xr0 c24xr0 s24yr0 A_24yr0 n24yr0 c24yr0 s24zr0 A_24zr0 n24zr0 c24zr0), lo24r0, hi24r0) (by rfl) (anc_of (by kernel_rfl)))
    have F_s24zr0 : RI W_ (iv s24zr0 A_24zr0 n24zr0 c24zr0) z24zr0 := RP.at6 (hK.2 12 ((pv s24ar0 A_24ar0 n24ar0 c24ar0 s24br0 A_24br0 n24br0 c24br0 s24dr0 A_24dr0 n24dr0 c24dr0 s24xr0 A_24xr0 n24xr0 c24xr0 s24yr0 A_24yr0 n24yr0 c24yr0 s24zr0 A_24zr0 n24zr0 c24zr0), lo24r0, hi24r0) (by rfl) (anc_of (by kernel_rfl)))
    clear hK
    go_simp
    exact ⟨rfl, (toRP (qSum_w _ ((⟨q1, (GQ.i 0 0)⟩ : PQ) * PQ.zp 0) (2 * (n1 + 2) + 69) _ ((⟨q2, (GQ.i 0 0)⟩ : PQ) * PQ.zp 0) (2 * (n2 + 2) + 69) _ ⟨_, _, _, _, _, _, RP.mk F_s19ar0 F_s19br0 F_s19dr0 F_s19xr0 F_s19yr0 F_s19zr0, I19ur0, S19ur0, I19vr0, S19vr0⟩ ⟨_, _, _, _, _, _, RP.mk F_s24ar0 F_s24br0 F_s24dr0 F_s24xr0 F_s24yr0 F_s24zr0, I24ur0, S24ur0, I24vr0, S24vr0⟩ (by omega)) I25ur0 I25vr0).mono fun e w' ⟨v, he, hR, hx⟩ => ⟨v, he, hx, hR⟩⟩
  intro v_ lo25r0 hi25r0 hr_
  obtain ⟨W_, hW_⟩ := hr_
  have hv_ : Fc.holds (.rp (z25ar0) (z25br0) (z25dr0) (z25xr0) (z25yr0) (z25zr0)) lo25r0 hi25r0 v_ W_ := hW_.get
  clear hW_
  obtain ⟨s25ar0, A_25ar0, n25ar0, c25ar0, s25br0, A_25br0, n25br0, c25br0, s25dr0, A_25dr0, n25dr0, c25dr0, s25xr0, A_25xr0, n25xr0, c25xr0, s25yr0, A_25yr0, n25yr0, c25yr0, s25zr0, A_25zr0, n25zr0, c25zr0, rfl, -, -, -, -, -, -⟩ := hv_
  clear W_
  try simp only [Act.put, sa0, sa1, sa2]
  refine wpT_eff (by rfl) (by rfl) (by rfl) ?_ ?_
  · intro W_ hK
    have hW := hK.1
    have F_s14ar0 : RI W_ (iv s14ar0 A_14ar0 n14ar0 c14ar0) a0 := RP.at1 (hK.2 2 ((pv s14ar0 A_14ar0 n14ar0 c14ar0 s14br0 A_14br0 n14br0 c14br0 s14dr0 A_14dr0 n14dr0 c14dr0 s14xr0 A_14xr0 n14xr0 c14xr0 s14yr0 A_14yr0 n14yr0 c14yr0 s14zr0 A_14zr0 n14zr0 c14zr0), lo14r0, hi14r0) (by rfl) (anc_of (by kernel_rfl)))
    have F_s14br0 : RI W_ (iv s14br0 A_14br0 n14br0 c14br0) a1 := RP.at2 (hK.2 2 ((pv s14ar0 A_14ar0 n14ar0 c14ar0 s14br0 A_14br0 n14br0 c14br0 s14dr0 A_14dr0 n14dr0 c14dr0 s14xr0 A_14xr0 n14xr0 c14xr0 s14yr0 A_14yr0 n14yr0 c14yr0 s14zr0 A_14zr0 n14zr0 c14zr0), lo14r0, hi14r0) (by rfl) (anc_of (by kernel_rfl)))
    have F_s14dr0 : RI W_ (iv s14dr0 A_14dr0 n14dr0 c14dr0) a2 := RP.at3 (hK.2 2 ((pv s14ar0 A_14ar0 n14ar0 c14ar0 s14br0 A_14br0 n14br0 c14br0 s14dr0 A_14dr0 n14dr0 c14dr0 s14xr0 A_14xr0 n14xr0 c14xr0 s14yr0 A_14yr0 n14yr0 c14yr0 s14zr0 A_14zr0 n14zr0 c14zr0), lo14r0, hi14r0) (by rfl) (anc_of (by kernel_rfl)))
    have F_s14xr0 : RI W_ (iv s14xr0 A_14xr0 n14xr0 c14xr0) (0 : Int) := RP.at4 (hK.2 2 ((pv s14ar0 A_14ar0 n14ar0 c14ar0 s14br0 A_14br0 n14br0 c14br0 s14dr0 A_14dr0 n14dr0 c14dr0 s14xr0 A_14xr0 n14xr0 c14xr0 s14yr0 A_14yr0 n14yr0 c14yr0 s14zr0 A_14zr0 n14zr0 c14zr0), lo14r0, hi14r0) (by rfl) (anc_of (by kernel_rfl)))
    have F_s14yr0 : RI W_ (iv s14yr0 A_14yr0 n14yr0 c14yr0) (0 : Int) := RP.at5 (hK.2 2 ((pv s14ar0 A_14ar0 n14ar0 c14ar0 s14br0 A_14br0 n14br0 c14br0 s14dr0 A_14dr0 n14dr0 c14dr0 s14xr0 A_14xr0 n14xr0 c14xr0 s14yr0 A_14yr0 n14yr0 c14yr0 s14zr0 A_14zr0 n14zr0 c14zr0), lo14r0, hi14r0) (by rfl) (anc_of (by kernel_rfl)))
    have F_s14zr0 : RI W_ (iv s14zr0 A_14zr0 n14zr0 c14zr0) (1 : Int) := RP.at6 (hK.2 2 ((pv s14ar0 A_14ar0 n14ar0 c14ar0 s14br0 A_14br0 n14br0 c14br0 s14dr0 A_14dr0 n14dr0 c14dr0 s14xr0 A_14xr0 n14xr0 c14xr0 s14yr0 A_14yr0 n14yr0 c14yr0 s14zr0 A_14zr0 n14zr0 c14zr0), lo14r0, hi14r0) (by rfl) (anc_of (by kernel_rfl)))
    have F_s25ar0 : RI W_ (iv s25ar0 A_25ar0 n25ar0 c25ar0) z25ar0 := RP.at1 (hK.2 13 ((pv s25ar0 A_25ar0 n25ar0 c25ar0 s25br0 A_25br0 n25br0 c25br0 s25dr0 A_25dr0 n25dr0 c25dr0 s25xr0 A_25xr0 n25xr0 c25xr0 s25yr0 A_25yr0 n25yr0 c25yr0 s25zr0 A_25zr0 n25zr0 c25zr0), lo25r0, hi25r0) (by rfl) (anc_of (by kernel_rfl)))
    have F_s25br0 : RI W_ (iv s25br0 A_25br0 n25br0 c25br0) z25br0 := RP.at2 (hK.2 13 ((pv s25ar0 A_25ar0 n25ar0 c25ar0 s25br0 A_25br0 n25br0 c25br0 s25dr0 A_25dr0 n25dr0 c25dr0 s25xr0 A_25xr0 n25xr0 c25xr0 s25yr0 A_25yr0 n25yr0 c25yr0 s25zr0 A_25zr0 n25zr0 c25zr0), lo25r0, hi25r0) (by rfl) (anc_of (by kernel_rfl)))
    have F_s25dr0 : RI W_ (iv s25dr0 A_25dr0 n25dr0 c25dr0) z25dr0 := RP.at3 (hK.2 13 ((pv s25ar0 A_25ar0 n25ar0 c25ar0 s25br0 A_25br0 n25br0 c25br0 s25dr0 A_25dr0 n25dr0 c25dr0 s25xr0 A_25xr0 n25xr0 c25xr0 s25yr0 A_25yr0 n25yr0 c25yr0 s25zr0 A_25zr0 n25zr0 c25zr0), lo25r0, hi25r0) (by rfl) (anc_of (by kernel_rfl)))
    have F_s25xr0 : RI W_ (iv s25xr0 A_25xr0 n25xr0 c25xr0) z25xr0 := RP.at4 (hK.2 13 ((pv s25ar0 A_25ar0 n25ar0 c25ar0 s25br0 A_25br0 n25br0 c25br0 s25dr0 A_25dr0 n25dr0 c25dr0 s25xr0 A_25xr0 n25xr0 c25xr0 s25yr0 A_25yr0 n25yr0 c25yr0 s25zr0 A_25zr0 n25zr0 c25zr0), lo25r0, hi25r0) (by rfl) (anc_of (by kernel_rfl)))
    have F_s25yr0 : RI W_ (iv s25yr0 A_25yr0 n25yr0 c25yr0) z25yr0 := RP.at5 (hK.2 13 ((pv s25ar0 A_25ar0 n25ar0 c25ar0 s25br0 A_25br0 n25br0 c25br0 s25dr0 A_25dr0 n25dr0 c25dr0 s25xr0 A_25xr0 n25xr0 c25xr0 s25yr0 A_25yr0 n25yr0 c25yr0 s25zr0 A_25zr0 n25zr0 c25zr0), lo25r0, hi25r0) (by rfl) (anc_of (by kernel_rfl)))
    have F_s25zr0 : RI W_ (iv s25zr0 A_25zr0 n25zr0 c25zr0) z25zr0 := RP.at6 (hK.2 13 ((pv s25ar0 A_25ar0 n25ar0 c25ar0 s25br0 A_25br0 n25br0 c25br0 s25dr0 A_25dr0 n25dr0 c25dr0 s25xr0 A_25xr0 n25xr0 c25xr0 s25yr0 A_25yr0 n25yr0 c25yr0 s25zr0 A_25zr0 n25zr0 c25zr0), lo25r0, hi25r0) (by rfl) (anc_of (by kernel_rfl)))
    clear hK
    go_simp
    exact ⟨rfl, (toRP (qSum_w _ (⟨q0, (GQ.i 0 0)⟩ : PQ) (n0) _ (((⟨q1, (GQ.i 0 0)⟩ : PQ) * PQ.zp 0) + ((⟨q2, (GQ.i 0 0)⟩ : PQ) * PQ.zp 0)) ((2 * (n1 + 2) + 69) + (2 * (n2 + 2) + 69) + 1) _ ⟨_, _, _, _, _, _, RP.mk F_s14ar0 F_s14br0 F_s14dr0 F_s14xr0 F_s14yr0 F_s14zr0, I0, S0, (is_i 0 0), (sz_0 (n := n0) (by omega))⟩ ⟨_, _, _, _, _, _, RP.mk F_s25ar0 F_s25br0 F_s25dr0 F_s25xr0 F_s25yr0 F_s25zr0, I25ur0, S25ur0, I25vr0, S25vr0⟩ (by omega)) I26ur0 I26vr0).mono fun e w' ⟨v, he, hR, hx⟩ => ⟨v, he, hx, hR⟩⟩
  intro v_ lo26r0 hi26r0 hr_
  obtain ⟨W_, hW_⟩ := hr_
  have hv_ : Fc.holds (.rp (z26ar0) (z26br0) (z26dr0) (z26xr0) (z26yr0) (z26zr0)) lo26r0 hi26r0 v_ W_ := hW_.get
  clear hW_
  obtain ⟨s26ar0, A_26ar0, n26ar0, c26ar0, s26br0, A_26br0, n26br0, c26br0, s26dr0, A_26dr0, n26dr0, c26dr0, s26xr0, A_26xr0, n26xr0, c26xr0, s26yr0, A_26yr0, n26yr0, c26yr0, s26zr0, A_26zr0, n26zr0, c26zr0, rfl, -, -, -, -, -, -⟩ := hv_
  clear W_
  try simp only [Act.put, sa0, sa1, sa2]
  refine wpT_quiet 1 (by rfl) (by kernel_rfl) ?_
  simp only [tk1, tk0, dp1, dp0]
  repeat (go_big_quiet_step (fail))
  refine wpQuiet_nil ?_
  refine wpT_nil ?_
  intro w2 hK
  have hlt_ := hS.lt
  replace hS := hS.mv hK.ext
  replace hS := hS.addI (show RI w2 (iv s14ar0 A_14ar0 n14ar0 c14ar0) a0 from RP.at1 (hK.at_ 2 (e := ((pv s14ar0 A_14ar0 n14ar0 c14ar0 s14br0 A_14br0 n14br0 c14br0 s14dr0 A_14dr0 n14dr0 c14dr0 s14xr0 A_14xr0 n14xr0 c14xr0 s14yr0 A_14yr0 n14yr0 c14yr0 s14zr0 A_14zr0 n14zr0 c14zr0), lo14r0, hi14r0)) (by rfl)))
  replace hS := hS.addI (show RI w2 (iv s14br0 A_14br0 n14br0 c14br0) a1 from RP.at2 (hK.at_ 2 (e := ((pv s14ar0 A_14ar0 n14ar0 c14ar0 s14br0 A_14br0 n14br0 c14br0 s14dr0 A_14dr0 n14dr0 c14dr0 s14xr0 A_14xr0 n14xr0 c14xr0 s14yr0 A_14yr0 n14yr0 c14yr0 s14zr0 A_14zr0 n14zr0 c14zr0), lo14r0, hi14r0)) (by rfl)))
  replace hS := hS.addI (show RI w2 (iv s14dr0 A_14dr0 n14dr0 c14dr0) a2 from RP.at3 (hK.at_ 2 (e := ((pv s14ar0 A_14ar0 n14ar0 c14ar0 s14br0 A_14br0 n14br0 c14br0 s14dr0 A_14dr0 n14dr0 c14dr0 s14xr0 A_14xr0 n14xr0 c14xr0 s14yr0 A_14yr0 n14yr0 c14yr0 s14zr0 A_14zr0 n14zr0 c14zr0), lo14r0, hi14r0)) (by rfl)))
  replace hS := hS.addI (show RI w2 (iv s14xr0 A_14xr0 n14xr0 c14xr0) (0 : Int) from RP.at4 (hK.at_ 2 (e := ((pv s14ar0 A_14ar0 n14ar0 c14ar0 s14br0 A_14br0 n14br0 c14br0 s14dr0 A_14dr0 n14dr0 c14dr0 s14xr0 A_14xr0 n14xr0 c14xr0 s14yr0 A_14yr0 n14yr0 c14yr0 s14zr0 A_14zr0 n14zr0 c14zr0), lo14r0, hi14r0)) (by rfl)))
  replace hS := hS.addI (show RI w2 (iv s14yr0 A_14yr0 n14yr0 c14yr0) (0 : Int) from RP.at5 (hK.at_ 2 (e := ((pv s14ar0 A_14ar0 n14ar0 c14ar0 s14br0 A_14br0 n14br0 c14br0 s14dr0 A_14dr0 n14dr0 c14dr0 s14xr0 A_14xr0 n14xr0 c14xr0 s14yr0 A_14yr0 n14yr0 c14yr0 s14zr0 A_14zr0 n14zr0 c14zr0), lo14r0, hi14r0)) (by rfl)))
  replace hS := hS.addI (show RI w2 (iv s14zr0 A_14zr0 n14zr0 c14zr0) (1 : Int) from RP.at6 (hK.at_ 2 (e := ((pv s14ar0 A_14ar0 n14ar0 c14ar0 s14br0 A_14br0 n14br0 c14br0 s14dr0 A_14dr0 n14dr0 c14dr0 s14xr0 A_14xr0 n14xr0 c14xr0 s14yr0 A_14yr0 n14yr0 c14yr0 s14zr0 A_14zr0 n14zr0 c14zr0), lo14r0, hi14r0)) (by rfl)))
  replace hS := hS.addI (show RI w2 (iv s16ar0 A_16ar0 n16ar0 c16ar0) a3 from RP.at1 (hK.at_ 4 (e := ((pv s16ar0 A_16ar0 n16ar0 c16ar0 s16br0 A_16br0 n16br0 c16br0 s16dr0 A_16dr0 n16dr0 c16dr0 s16xr0 A_16xr0 n16xr0 c16xr0 s16yr0 A_16yr0 n16yr0 c16yr0 s16zr0 A_16zr0 n16zr0 c16zr0), lo16r0, hi16r0)) (by rfl)))
  replace hS := hS.addI (show RI w2 (iv s16br0 A_16br0 n16br0 c16br0) a4 from RP.at2 (hK.at_ 4 (e := ((pv s16ar0 A_16ar0 n16ar0 c16ar0 s16br0 A_16br0 n16br0 c16br0 s16dr0 A_16dr0 n16dr0 c16dr0 s16xr0 A_16xr0 n16xr0 c16xr0 s16yr0 A_16yr0 n16yr0 c16yr0 s16zr0 A_16zr0 n16zr0 c16zr0), lo16r0, hi16r0)) (by rfl)))
  replace hS := hS.addI (show RI w2 (iv s16dr0 A_16dr0 n16dr0 c16dr0) a5 from RP.at3 (hK.at_ 4 (e := ((pv s16ar0 A_16ar0 n16ar0 c16ar0 s16br0 A_16br0 n16br0 c16br0 s16dr0 A_16dr0 n16dr0 c16dr0 s16xr0 A_16xr0 n16xr0 c16xr0 s16yr0 A_16yr0 n16yr0 c16yr0 s16zr0 A_16zr0 n16zr0 c16zr0), lo16r0, hi16r0)) (by rfl)))
  replace hS := hS.addI (show RI w2 (iv s16xr0 A_16xr0 n16xr0 c16xr0) (0 : Int) from RP.at4 (hK.at_ 4 (e := ((pv s16ar0 A_16ar0 n16ar0 c16ar0 s16br0 A_16br0 n16br0 c16br0 s16dr0 A_16dr0 n16dr0 c16dr0 s16xr0 A_16xr0 n16xr0 c16xr0 s16yr0 A_16yr0 n16yr0 c16yr0 s16zr0 A_16zr0 n16zr0 c16zr0), lo16r0, hi16r0)) (by rfl)))
  replace hS := hS.addI (show RI w2 (iv s16yr0 A_16yr0 n16yr0 c16yr0) (0 : Int) from RP.at5 (hK.at_ 4 (e := ((pv s16ar0 A_16ar0 n16ar0 c16ar0 s16br0 A_16br0 n16br0 c16br0 s16dr0 A_16dr0 n16dr0 c16dr0 s16xr0 A_16xr0 n16xr0 c16xr0 s16yr0 A_16yr0 n16yr0 c16yr0 s16zr0 A_16zr0 n16zr0 c16zr0), lo16r0, hi16r0)) (by rfl)))
  replace hS := hS.addI (show RI w2 (iv s16zr0 A_16zr0 n16zr0 c16zr0) (1 : Int) from RP.at6 (hK.at_ 4 (e := ((pv s16ar0 A_16ar0 n16ar0 c16ar0 s16br0 A_16br0 n16br0 c16br0 s16dr0 A_16dr0 n16dr0 c16dr0 s16xr0 A_16xr0 n16xr0 c16xr0 s16yr0 A_16yr0 n16yr0 c16yr0 s16zr0 A_16zr0 n16zr0 c16zr0), lo16r0, hi16r0)) (by rfl)))
  replace hS := hS.addI (show RI w2 (iv s19ar0 A_19ar0 n19ar0 c19ar0) z19ar0 from RP.at1 (hK.at_ 7 (e := ((pv s19ar0 A_19ar0 n19ar0 c19ar0 s19br0 A_19br0 n19br0 c19br0 s19dr0 A_19dr0 n19dr0 c19dr0 s19xr0 A_19xr0 n19xr0 c19xr0 s19yr0 A_19yr0 n19yr0 c19yr0 s19zr0 A_19zr0 n19zr0 c19zr0), lo19r0, hi19r0)) (by rfl)))
  replace hS := hS.addI (show RI w2 (iv s19br0 A_19br0 n19br0 c19br0) z19br0 from RP.at2 (hK.at_ 7 (e := ((pv s19ar0 A_19ar0 n19ar0 c19ar0 s19br0 A_19br0 n19br0 c19br0 s19dr0 A_19dr0 n19dr0 c19dr0 s19xr0 A_19xr0 n19xr0 c19xr0 s19yr0 A_19yr0 n19yr0 c19yr0 s19zr0 A_19zr0 n19zr0 c19zr0), lo19r0, hi19r0)) (by rfl)))
  replace hS := hS.addI (show RI w2 (iv s19dr0 A_19dr0 n19dr0 c19dr0) z19dr0 from RP.at3 (hK.at_ 7 (e := ((pv s19ar0 A_19ar0 n19ar0 c19ar0 s19br0 A_19br0 n19br0 c19br0 s19dr0 A_19dr0 n19dr0 c19dr0 s19xr0 A_19xr0 n19xr0 c19xr0 s19yr0 A_19yr0 n19yr0 c19yr0 s19zr0 A_19zr0 n19zr0 c19zr0), lo19r0, hi19r0)) (by rfl)))
  replace hS := hS.addI (show RI w2 (iv s19xr0 A_19xr0 n19xr0 c19xr0) z19xr0 from RP.at4 (hK.at_ 7 (e := ((pv s19ar0 A_19ar0 n19ar0 c19ar0 s19br0 A_19br0 n19br0 c19br0 s19dr0 A_19dr0 n19dr0 c19dr0 s19xr0 A_19xr0 n19xr0 c19xr0 s19yr0 A_19yr0 n19yr0 c19yr0 s19zr0 A_19zr0 n19zr0 c19zr0), lo19r0, hi19r0)) (by rfl)))
  replace hS := hS.addI (show RI w2 (iv s19yr0 A_19yr0 n19yr0 c19yr0) z19yr0 from RP.at5 (hK.at_ 7 (e := ((pv s19ar0 A_19ar0 n19ar0 c19ar0 s19br0 A_19br0 n19br0 c19br0 s19dr0 A_19dr0 n19dr0 c19dr0 s19xr0 A_19xr0 n19xr0 c19xr0 s19yr0 A_19yr0 n19yr0 c19yr0 s19zr0 A_19zr0 n19zr0 c19zr0), lo19r0, hi19r0)) (by rfl)))
  replace hS := hS.addI (show RI w2 (iv s19zr0 A_19zr0 n19zr0 c19zr0) z19zr0 from RP.at6 (hK.at_ 7 (e := ((pv s19ar0 A_19ar0 n19ar0 c19ar0 s19br0 A_19br0 n19br0 c19br0 s19dr0 A_19dr0 n19dr0 c19dr0 s19xr0 A_19xr0 n19xr0 c19xr0 s19yr0 A_19yr0 n19yr0 c19yr0 s19zr0 A_19zr0 n19zr0 c19zr0), lo19r0, hi19r0)) (by rfl)))
  replace hS := hS.addI (show RI w2 (iv s21ar0 A_21ar0 n21ar0 c21ar0) a6 from RP.at1 (hK.at_ 9 (e := ((pv s21ar0 A_21ar0 n21ar0 c21ar0 s21br0 A_21br0 n21br0 c21br0 s21dr0 A_21dr0 n21dr0 c21dr0 s21xr0 A_21xr0 n21xr0 c21xr0 s21yr0 A_21yr0 n21yr0 c21yr0 s21zr0 A_21zr0 n21zr0 c21zr0), lo21r0, hi21r0)) (by rfl)))
  replace hS := hS.addI (show RI w2 (iv s21br0 A_21br0 n21br0 c21br0) a7 from RP.at2 (hK.at_ 9 (e := ((pv s21ar0 A_21ar0 n21ar0 c21ar0 s21br0 A_21br0 n21br0 c21br0 s21dr0 A_21dr0 n21dr0 c21dr0 s21xr0 A_21xr0 n21xr0 c21xr0 s21yr0 A_21yr0 n21yr0 c21yr0 s21zr0 A_21zr0 n21zr0 c21zr0), lo21r0, hi21r0)) (by rfl)))
  replace hS := hS.addI (show RI w2 (iv s21dr0 A_21dr0 n21dr0 c21dr0) a8 from RP.at3 (hK.at_ 9 (e := ((pv s21ar0 A_21ar0 n21ar0 c21ar0 s21br0 A_21br0 n21br0 c21br0 s21dr0 A_21dr0 n21dr0 c21dr0 s21xr0 A_21xr0 n21xr0 c21xr0 s21yr0 A_21yr0 n21yr0 c21yr0 s21zr0 A_21zr0 n21zr0 c21zr0), lo21r0, hi21r0)) (by rfl)))
  replace hS := hS.addI (show RI w2 (iv s21xr0 A_21xr0 n21xr0 c21xr0) (0 : Int) from RP.at4 (hK.at_ 9 (e := ((pv s21ar0 A_21ar0 n21ar0 c21ar0 s21br0 A_21br0 n21br0 c21br0 s21dr0 A_21dr0 n21dr0 c21dr0 s21xr0 A_21xr0 n21xr0 c21xr0 s21yr0 A_21yr0 n21yr0 c21yr0 s21zr0 A_21zr0 n21zr0 c21zr0), lo21r0, hi21r0)) (by rfl)))
  replace hS := hS.addI (show RI w2 (iv s21yr0 A_21yr0 n21yr0 c21yr0) (0 : Int) from RP.at5 (hK.at_ 9 (e := ((pv s21ar0 A_21ar0 n21ar0 c21ar0 s21br0 A_21br0 n21br0 c21br0 s21dr0 A_21dr0 n21dr0 c21dr0 s21xr0 A_21xr0 n21xr0 c21xr0 s21yr0 A_21yr0 n21yr0 c21yr0 s21zr0 A_21zr0 n21zr0 c21zr0), lo21r0, hi21r0)) (by rfl)))
  replace hS := hS.addI (show RI w2 (iv s21zr0 A_21zr0 n21zr0 c21zr0) (1 : Int) from RP.at6 (hK.at_ 9 (e := ((pv s21ar0 A_21ar0 n21ar0 c21ar0 s21br0 A_21br0 n21br0 c21br0 s21dr0 A_21dr0 n21dr0 c21dr0 s21xr0 A_21xr0 n21xr0 c21xr0 s21yr0 A_21yr0 n21yr0 c21yr0 s21zr0 A_21zr0 n21zr0 c21zr0), lo21r0, hi21r0)) (by rfl)))
  replace hS := hS.addI (show RI w2 (iv s24ar0 A_24ar0 n24ar0 c24ar0) z24ar0 from RP.at1 (hK.at_ 12 (e := ((pv s24ar0 A_24ar0 n24ar0 c24ar0 s24br0 A_24br0 n24br0 c24br0 s24dr0 A_24dr0 n24dr0 c24dr0 s24xr0 A_24xr0 n24xr0 c24xr0 s24yr0 A_24yr0 n24yr0 c24yr0 s24zr0 A_24zr0 n24zr0 c24zr0), lo24r0, hi24r0)) (by rfl)))
  replace hS := hS.addI (show RI w2 (iv s24br0 A_24br0 n24br0 c24br0) z24br0 from RP.at2 (hK.at_ 12 (e := ((pv s24ar0 A_24ar0 n24ar0 c24ar0 s24br0 A_24br0 n24br0 c24br0 s24dr0 A_24dr0 n24dr0 c24dr0 s24xr0 A_24xr0 n24xr0 c24xr0 s24yr0 A_24yr0 n24yr0 c24yr0 s24zr0 A_24zr0 n24zr0 c24zr0), lo24r0, hi24r0)) (by rfl)))
  replace hS := hS.addI (show RI w2 (iv s24dr0 A_24dr0 n24dr0 c24dr0) z24dr0 from RP.at3 (hK.at_ 12 (e := ((pv s24ar0 A_24ar0 n24ar0 c24ar0 s24br0 A_24br0 n24br0 c24br0 s24dr0 A_24dr0 n24dr0 c24dr0 s24xr0 A_24xr0 n24xr0 c24xr0 s24yr0 A_24yr0 n24yr0 c24yr0 s24zr0 A_24zr0 n24zr0 c24zr0), lo24r0, hi24r0)) (by rfl)))
  replace hS := hS.addI (show RI w2 (iv s24xr0 A_24xr0 n24xr0 c24xr0) z24xr0 from RP.at4 (hK.at_ 12 (e := ((pv s24ar0 A_24ar0 n24ar0 c24ar0 s24br0 A_24br0 n24br0 c24br0 s24dr0 A_24dr0 n24dr0 c24dr0 s24xr0 A_24xr0 n24xr0 c24xr0 s24yr0 A_24yr0 n24yr0 c24yr0 s24zr0 A_24zr0 n24zr0 c24zr0), lo24r0, hi24r0)) (by rfl)))
  replace hS := hS.addI (show RI w2 (iv s24yr0 A_24yr0 n24yr0 c24yr0) z24yr0 from RP.at5 (hK.at_ 12 (e := ((pv s24ar0 A_24ar0 n24ar0 c24ar0 s24br0 A_24br0 n24br0 c24br0 s24dr0 A_24dr0 n24dr0 c24dr0 s24xr0 A_24xr0 n24xr0 c24xr0 s24yr0 A_24yr0 n24yr0 c24yr0 s24zr0 A_24zr0 n24zr0 c24zr0), lo24r0, hi24r0)) (by rfl)))
  replace hS := hS.addI (show RI w2 (iv s24zr0 A_24zr0 n24zr0 c24zr0) z24zr0 from RP.at6 (hK.at_ 12 (e := ((pv s24ar0 A_24ar0 n24ar0 c24ar0 s24br0 A_24br0 n24br0 c24br0 s24dr0 A_24dr0 n24dr0 c24dr0 s24xr0 A_24xr0 n24xr0 c24xr0 s24yr0 A_24yr0 n24yr0 c24yr0 s24zr0 A_24zr0 n24zr0 c24zr0), lo24r0, hi24r0)) (by rfl)))
  replace hS := hS.addI (show RI w2 (iv s25ar0 A_25ar0 n25ar0 c25ar0) z25ar0 from RP.at1 (hK.at_ 13 (e := ((pv s25ar0 A_25ar0 n25ar0 c25ar0 s25br0 A_25br0 n25br0 c25br0 s25dr0 A_25dr0 n25dr0 c25dr0 s25xr0 A_25xr0 n25xr0 c25xr0 s25yr0 A_25yr0 n25yr0 c25yr0 s25zr0 A_25zr0 n25zr0 c25zr0), lo25r0, hi25r0)) (by rfl)))
  replace hS := hS.addI (show RI w2 (iv s25br0 A_25br0 n25br0 c25br0) z25br0 from RP.at2 (hK.at_ 13 (e := ((pv s25ar0 A_25ar0 n25ar0 c25ar0 s25br0 A_25br0 n25br0 c25br0 s25dr0 A_25dr0 n25dr0 c25dr0 s25xr0 A_25xr0 n25xr0 c25xr0 s25yr0 A_25yr0 n25yr0 c25yr0 s25zr0 A_25zr0 n25zr0 c25zr0), lo25r0, hi25r0)) (by rfl)))
  replace hS := hS.addI (show RI w2 (iv s25dr0 A_25dr0 n25dr0 c25dr0) z25dr0 from RP.at3 (hK.at_ 13 (e := ((pv s25ar0 A_25ar0 n25ar0 c25ar0 s25br0 A_25br0 n25br0 c25br0 s25dr0 A_25dr0 n25dr0 c25dr0 s25xr0 A_25xr0 n25xr0 c25xr0 s25yr0 A_25yr0 n25yr0 c25yr0 s25zr0 A_25zr0 n25zr0 c25zr0), lo25r0, hi25r0)) (by rfl)))
  replace hS := hS.addI (show RI w2 (iv s25xr0 A_25xr0 n25xr0 c25xr0) z25xr0 from RP.at4 (hK.at_ 13 (e := ((pv s25ar0 A_25ar0 n25ar0 c25ar0 s25br0 A_25br0 n25br0 c25br0 s25dr0 A_25dr0 n25dr0 c25dr0 s25xr0 A_25xr0 n25xr0 c25xr0 s25yr0 A_25yr0 n25yr0 c25yr0 s25zr0 A_25zr0 n25zr0 c25zr0), lo25r0, hi25r0)) (by rfl)))
  replace hS := hS.addI (show RI w2 (iv s25yr0 A_25yr0 n25yr0 c25yr0) z25yr0 from RP.at5 (hK.at_ 13 (e := ((pv s25ar0 A_25ar0 n25ar0 c25ar0 s25br0 A_25br0 n25br0 c25br0 s25dr0 A_25dr0 n25dr0 c25dr0 s25xr0 A_25xr0 n25xr0 c25xr0 s25yr0 A_25yr0 n25yr0 c25yr0 s25zr0 A_25zr0 n25zr0 c25zr0), lo25r0, hi25r0)) (by rfl)))
  replace hS := hS.addI (show RI w2 (iv s25zr0 A_25zr0 n25zr0 c25zr0) z25zr0 from RP.at6 (hK.at_ 13 (e := ((pv s25ar0 A_25ar0 n25ar0 c25ar0 s25br0 A_25br0 n25br0 c25br0 s25dr0 A_25dr0 n25dr0 c25dr0 s25xr0 A_25xr0 n25xr0 c25xr0 s25yr0 A_25yr0 n25yr0 c25yr0 s25zr0 A_25zr0 n25zr0 c25zr0), lo25r0, hi25r0)) (by rfl)))
  replace hS := hS.addI (show RI w2 (iv s26ar0 A_26ar0 n26ar0 c26ar0) z26ar0 from RP.at1 (hK.at_ 14 (e := ((pv s26ar0 A_26ar0 n26ar0 c26ar0 s26br0 A_26br0 n26br0 c26br0 s26dr0 A_26dr0 n26dr0 c26dr0 s26xr0 A_26xr0 n26xr0 c26xr0 s26yr0 A_26yr0 n26yr0 c26yr0 s26zr0 A_26zr0 n26zr0 c26zr0), lo26r0, hi26r0)) (by rfl)))
  replace hS := hS.addI (show RI w2 (iv s26br0 A_26br0 n26br0 c26br0) z26br0 from RP.at2 (hK.at_ 14 (e := ((pv s26ar0 A_26ar0 n26ar0 c26ar0 s26br0 A_26br0 n26br0 c26br0 s26dr0 A_26dr0 n26dr0 c26dr0 s26xr0 A_26xr0 n26xr0 c26xr0 s26yr0 A_26yr0 n26yr0 c26yr0 s26zr0 A_26zr0 n26zr0 c26zr0), lo26r0, hi26r0)) (by rfl)))
  replace hS := hS.addI (show RI w2 (iv s26dr0 A_26dr0 n26dr0 c26dr0) z26dr0 from RP.at3 (hK.at_ 14 (e := ((pv s26ar0 A_26ar0 n26ar0 c26ar0 s26br0 A_26br0 n26br0 c26br0 s26dr0 A_26dr0 n26dr0 c26dr0 s26xr0 A_26xr0 n26xr0 c26xr0 s26yr0 A_26yr0 n26yr0 c26yr0 s26zr0 A_26zr0 n26zr0 c26zr0), lo26r0, hi26r0)) (by rfl)))
  replace hS := hS.addI (show RI w2 (iv s26xr0 A_26xr0 n26xr0 c26xr0) z26xr0 from RP.at4 (hK.at_ 14 (e := ((pv s26ar0 A_26ar0 n26ar0 c26ar0 s26br0 A_26br0 n26br0 c26br0 s26dr0 A_26dr0 n26dr0 c26dr0 s26xr0 A_26xr0 n26xr0 c26xr0 s26yr0 A_26yr0 n26yr0 c26yr0 s26zr0 A_26zr0 n26zr0 c26zr0), lo26r0, hi26r0)) (by rfl)))
  replace hS := hS.addI (show RI w2 (iv s26yr0 A_26yr0 n26yr0 c26yr0) z26yr0 from RP.at5 (hK.at_ 14 (e := ((pv s26ar0 A_26ar0 n26ar0 c26ar0 s26br0 A_26br0 n26br0 c26br0 s26dr0 A_26dr0 n26dr0 c26dr0 s26xr0 A_26xr0 n26xr0 c26xr0 s26yr0 A_26yr0 n26yr0 c26yr0 s26zr0 A_26zr0 n26zr0 c26zr0), lo26r0, hi26r0)) (by rfl)))
  replace hS := hS.addI (show RI w2 (iv s26zr0 A_26zr0 n26zr0 c26zr0) z26zr0 from RP.at6 (hK.at_ 14 (e := ((pv s26ar0 A_26ar0 n26ar0 c26ar0 s26br0 A_26br0 n26br0 c26br0 s26dr0 A_26dr0 n26dr0 c26dr0 s26xr0 A_26xr0 n26xr0 c26xr0 s26yr0 A_26yr0 n26yr0 c26yr0 s26zr0 A_26zr0 n26zr0 c26zr0), lo26r0, hi26r0)) (by rfl)))
  clear hK hlt_ hE_ Y5 Y4 Y3
  have k_1 := (hS.blk 0 rfl).cell
  have k_2 := (hS.blk 0 rfl).frozen
  go_wp2_with fail
  clear k_1 k_2
  replace hS := (St.put (W' := ((((((((((((w2.setCell ⟨g7, 0, none⟩ (.bool s26ar0)).setCell ⟨g7, 1, none⟩ (.slice A_26ar0 n26ar0 c26ar0)).setCell ⟨g7, 2, none⟩ (.bool s26br0)).setCell ⟨g7, 3, none⟩ (.slice A_26br0 n26br0 c26br0)).setCell ⟨g7, 4, none⟩ (.bool s26dr0)).setCell ⟨g7, 5, none⟩ (.slice A_26dr0 n26dr0 c26dr0)).setCell ⟨g7, 6, none⟩ (.bool s26xr0)).setCell ⟨g7, 7, none⟩ (.slice A_26xr0 n26xr0 c26xr0)).setCell ⟨g7, 8, none⟩ (.bool s26yr0)).setCell ⟨g7, 9, none⟩ (.slice A_26yr0 n26yr0 c26yr0)).setCell ⟨g7, 10, none⟩ (.bool s26zr0)).setCell ⟨g7, 11, none⟩ (.slice A_26zr0 n26zr0 c26zr0))) hS 0 0 [.bool s26ar0, .slice A_26ar0 n26ar0 c26ar0, .bool s26br0, .slice A_26br0 n26br0 c26br0, .bool s26dr0, .slice A_26dr0 n26dr0 c26dr0, .bool s26xr0, .slice A_26xr0 n26xr0 c26xr0, .bool s26yr0, .slice A_26yr0 n26yr0 c26yr0, .bool s26zr0, .slice A_26zr0 n26zr0 c26zr0] (cs' := #[.bool s26ar0, .slice A_26ar0 n26ar0 c26ar0, .bool s26br0, .slice A_26br0 n26br0 c26br0, .bool s26dr0, .slice A_26dr0 n26dr0 c26dr0, .bool s26xr0, .slice A_26xr0 n26xr0 c26xr0, .bool s26yr0, .slice A_26yr0 n26yr0 c26yr0, .bool s26zr0, .slice A_26zr0 n26zr0 c26zr0, .bool false, .slice none 0 0, .bool false, .slice none 0 0, .bool false, .slice none 0 0, .bool false, .slice none 0 0, .bool false, .slice none 0 0, .bool false, .slice none 0 0, .bool false, .slice none 0 0, .bool false, .slice none 0 0, .bool false, .slice none 0 0, .bool false, .slice none 0 0, .bool false, .slice none 0 0, .bool false, .slice none 0 0]) (bs' := _) rfl o7 rfl rfl (by kernel_rfl) rfl)
  simp only [List.set_cons_zero] at hS
  generalize ((((((((((((w2.setCell ⟨g7, 0, none⟩ (.bool s26ar0)).setCell ⟨g7, 1, none⟩ (.slice A_26ar0 n26ar0 c26ar0)).setCell ⟨g7, 2, none⟩ (.bool s26br0)).setCell ⟨g7, 3, none⟩ (.slice A_26br0 n26br0 c26br0)).setCell ⟨g7, 4, none⟩ (.bool s26dr0)).setCell ⟨g7, 5, none⟩ (.slice A_26dr0 n26dr0 c26dr0)).setCell ⟨g7, 6, none⟩ (.bool s26xr0)).setCell ⟨g7, 7, none⟩ (.slice A_26xr0 n26xr0 c26xr0)).setCell ⟨g7, 8, none⟩ (.bool s26yr0)).setCell ⟨g7, 9, none⟩ (.slice A_26yr0 n26yr0 c26yr0)).setCell ⟨g7, 10, none⟩ (.bool s26zr0)).setCell ⟨g7, 11, none⟩ (.slice A_26zr0 n26zr0 c26zr0)) = w3 at hS ⊢
  rw [rounds_succ]
  go_wp2_with fail
  obtain ⟨z19ar1, z19br1, z19dr1, I19ur1⟩ := is_ex (((⟨q1, (GQ.i 0 0)⟩ : PQ) * PQ.zp 8)).u
  obtain ⟨z19xr1, z19yr1, z19zr1, I19vr1⟩ := is_ex (((⟨q1, (GQ.i 0 0)⟩ : PQ) * PQ.zp 8)).v
  have S19ur1 : Sz (2 * (n1 + 2) + 69) z19ar1 z19br1 z19dr1 := (Bd.produ (p := (⟨q1, (GQ.i 0 0)⟩ : PQ)) (q := PQ.zp 8) (m := n1) (n := 2) ⟨_, _, _, I1, S1⟩ ⟨_, _, _, (is_i 0 0), (sz_0 (n := n1) (by omega))⟩ (Bd.zp (by omega)).1 (Bd.zp (by omega)).2).sz I19ur1
  have S19vr1 : Sz (2 * (n1 + 2) + 69) z19xr1 z19yr1 z19zr1 := (Bd.prodv (p := (⟨q1, (GQ.i 0 0)⟩ : PQ)) (q := PQ.zp 8) (m := n1) (n := 2) ⟨_, _, _, I1, S1⟩ ⟨_, _, _, (is_i 0 0), (sz_0 (n := n1) (by omega))⟩ (Bd.zp (by omega)).1 (Bd.zp (by omega)).2).sz I19vr1
  obtain ⟨z24ar1, z24br1, z24dr1, I24ur1⟩ := is_ex (((⟨q2, (GQ.i 0 0)⟩ : PQ) * PQ.zp 4)).u
  obtain ⟨z24xr1, z24yr1, z24zr1, I24vr1⟩ := is_ex (((⟨q2, (GQ.i 0 0)⟩ : PQ) * PQ.zp 4)).v
  have S24ur1 : Sz (2 * (n2 + 2) + 69) z24ar1 z24br1 z24dr1 := (Bd.produ (p := (⟨q2, (GQ.i 0 0)⟩ : PQ)) (q := PQ.zp 4) (m := n2) (n := 2) ⟨_, _, _, I2, S2⟩ ⟨_, _, _, (is_i 0 0), (sz_0 (n := n2) (by omega))⟩ (Bd.zp (by omega)).1 (Bd.zp (by omega)).2).sz I24ur1
  have S24vr1 : Sz (2 * (n2 + 2) + 69) z24xr1 z24yr1 z24zr1 := (Bd.prodv (p := (⟨q2, (GQ.i 0 0)⟩ : PQ)) (q := PQ.zp 4) (m := n2) (n := 2) ⟨_, _, _, I2, S2⟩ ⟨_, _, _, (is_i 0 0), (sz_0 (n := n2) (by omega))⟩ (Bd.zp (by omega)).1 (Bd.zp (by omega)).2).sz I24vr1
  obtain ⟨z25ar1, z25br1, z25dr1, I25ur1⟩ := is_ex ((((⟨q1, (GQ.i 0 0)⟩ : PQ) * PQ.zp 8) + ((⟨q2, (GQ.i 0 0)⟩ : PQ) * PQ.zp 4))).u
  obtain ⟨z25xr1, z25yr1, z25zr1, I25vr1⟩ := is_ex ((((⟨q1, (GQ.i 0 0)⟩ : PQ) * PQ.zp 8) + ((⟨q2, (GQ.i 0 0)⟩ : PQ) * PQ.zp 4))).v
  have S25ur1 : Sz ((2 * (n1 + 2) + 69) + (2 * (n2 + 2) + 69) + 1) z25ar1 z25br1 z25dr1 := (Bd.mono (Bd.add (x := ((⟨q1, (GQ.i 0 0)⟩ : PQ) * PQ.zp 8).u) (y := ((⟨q2, (GQ.i 0 0)⟩ : PQ) * PQ.zp 4).u) (m := 2 * (n1 + 2) + 69) (n := 2 * (n2 + 2) + 69) ⟨_, _, _, I19ur1, S19ur1⟩ ⟨_, _, _, I24ur1, S24ur1⟩) (by omega)).sz I25ur1
  have S25vr1 : Sz ((2 * (n1 + 2) + 69) + (2 * (n2 + 2) + 69) + 1) z25xr1 z25yr1 z25zr1 := (Bd.mono (Bd.add (x := ((⟨q1, (GQ.i 0 0)⟩ : PQ) * PQ.zp 8).v) (y := ((⟨q2, (GQ.i 0 0)⟩ : PQ) * PQ.zp 4).v) (m := 2 * (n1 + 2) + 69) (n := 2 * (n2 + 2) + 69) ⟨_, _, _, I19vr1, S19vr1⟩ ⟨_, _, _, I24vr1, S24vr1⟩) (by omega)).sz I25vr1
  obtain ⟨z26ar1, z26br1, z26dr1, I26ur1⟩ := is_ex (((⟨q0, (GQ.i 0 0)⟩ : PQ) + (((⟨q1, (GQ.i 0 0)⟩ : PQ) * PQ.zp 8) + ((⟨q2, (GQ.i 0 0)⟩ : PQ) * PQ.zp 4)))).u
  obtain ⟨z26xr1, z26yr1, z26zr1, I26vr1⟩ := is_ex (((⟨q0, (GQ.i 0 0)⟩ : PQ) + (((⟨q1, (GQ.i 0 0)⟩ : PQ) * PQ.zp 8) + ((⟨q2, (GQ.i 0 0)⟩ : PQ) * PQ.zp 4)))).v
  have S26ur1 : Sz (n0 + ((2 * (n1 + 2) + 69) + (2 * (n2 + 2) + 69) + 1) + 1) z26ar1 z26br1 z26dr1 := (Bd.mono (Bd.add (x := (⟨q0, (GQ.i 0 0)⟩ : PQ).u) (y := (((⟨q1, (GQ.i 0 0)⟩ : PQ) * PQ.zp 8) + ((⟨q2, (GQ.i 0 0)⟩ : PQ) * PQ.zp 4)).u) (m := n0) (n := (2 * (n1 + 2) + 69) + (2 * (n2 + 2) + 69) + 1) ⟨_, _, _, I0, S0⟩ ⟨_, _, _, I25ur1, S25ur1⟩) (by omega)).sz I26ur1
  have S26vr1 : Sz (n0 + ((2 * (n1 + 2) + 69) + (2 * (n2 + 2) + 69) + 1) + 1) z26xr1 z26yr1 z26zr1 := (Bd.mono (Bd.add (x := (⟨q0, (GQ.i 0 0)⟩ : PQ).v) (y := (((⟨q1, (GQ.i 0 0)⟩ : PQ) * PQ.zp 8) + ((⟨q2, (GQ.i 0 0)⟩ : PQ) * PQ.zp 4)).v) (m := n0) (n := (2 * (n1 + 2) + 69) + (2 * (n2 + 2) + 69) + 1) ⟨_, _, _, (is_i 0 0), (sz_0 (n := n0) (by omega))⟩ ⟨_, _, _, I25vr1, S25vr1⟩) (by omega)).sz I26vr1
  have Y5 := ExtOf.blk (hS.blk 2 rfl)
  have Y4 := ExtOf.blk (hS.blk 3 rfl)
  have Y3 := ExtOf.blk (hS.blk 4 rfl)
  have hE_ := hS.ext
  refine wp_region_tame 16 (hasF [(2, .any), (4, .any), (7, .any), (9, .any), (12, .any), (13, .any), (14, .any)]) (Fcs [(2, .rp (a0) (a1) (a2) ((0 : Int)) ((0 : Int)) ((1 : Int))), (4, .rp (a3) (a4) (a5) ((0 : Int)) ((0 : Int)) ((1 : Int))), (7, .rp (z19ar1) (z19br1) (z19dr1) (z19xr1) (z19yr1) (z19zr1)), (9, .rp (a6) (a7) (a8) ((0 : Int)) ((0 : Int)) ((1 : Int))), (12, .rp (z24ar1) (z24br1) (z24dr1) (z24xr1) (z24yr1) (z24zr1)), (13, .rp (z25ar1) (z25br1) (z25dr1) (z25xr1) (z25yr1) (z25zr1)), (14, .rp (z26ar1) (z26br1) (z26dr1) (z26xr1) (z26yr1) (z26zr1))]) (Fcs_stab _) (by kernel_rfl) (by kernel_rfl) ?_
  simp only [tk1, tk0, dp1, dp0]
  refine wpT_quiet 2 (by rfl) (by kernel_rfl) ?_
  simp only [tk1, tk0, dp1, dp0]
  repeat (go_big_quiet_step (fail))
  refine wpQuiet_nil ?_
  refine wpT_eff (by rfl) (by rfl) (by rfl) ?_ ?_
  · intro W_ hK
    have hW := hK.1
    clear hK
    go_simp
    exact ⟨rfl, (toRP (qPlain_ok _ q0 (n0) _ ⟨_, _, _, RG.mk (RI.ext (hS.num 50 rfl) hW) (RI.ext (hS.num 49 rfl) hW) (RI.ext (hS.num 48 rfl) hW), I0, S0⟩ (by omega)) I0 (is_i 0 0)).mono fun e w' ⟨v, he, hR, hx⟩ => ⟨v, he, hx, hR⟩⟩
  intro v_ lo14r1 hi14r1 hr_
  obtain ⟨W_, hW_⟩ := hr_
  have hv_ : Fc.holds (.rp (a0) (a1) (a2) ((0 : Int)) ((0 : Int)) ((1 : Int))) lo14r1 hi14r1 v_ W_ := hW_.get
  clear hW_
  obtain ⟨s14ar1, A_14ar1, n14ar1, c14ar1, s14br1, A_14br1, n14br1, c14br1, s14dr1, A_14dr1, n14dr1, c14dr1, s14xr1, A_14xr1, n14xr1, c14xr1, s14yr1, A_14yr1, n14yr1, c14yr1, s14zr1, A_14zr1, n14zr1, c14zr1, rfl, -, -, -, -, -, -⟩ := hv_
  clear W_
  try simp only [Act.put, sa0, sa1, sa2]
  refine wpT_quiet 1 (by rfl) (by kernel_rfl) ?_
  simp only [tk1, tk0, dp1, dp0]
  repeat (go_big_quiet_step (fail))
  refine wpQuiet_nil ?_
  refine wpT_eff (by rfl) (by rfl) (by rfl) ?_ ?_
  · intro W_ hK
    have hW := hK.1
    clear hK
    go_simp
    exact ⟨rfl, (toRP (qPlain_ok _ q1 (n1) _ ⟨_, _, _, RG.mk (RI.ext (hS.num 47 rfl) hW) (RI.ext (hS.num 46 rfl) hW) (RI.ext (hS.num 45 rfl) hW), I1, S1⟩ (by omega)) I1 (is_i 0 0)).mono fun e w' ⟨v, he, hR, hx⟩ => ⟨v, he, hx, hR⟩⟩
  intro v_ lo16r1 hi16r1 hr_
  obtain ⟨W_, hW_⟩ := hr_
  have hv_ : Fc.holds (.rp (a3) (a4) (a5) ((0 : Int)) ((0 : Int)) ((1 : Int))) lo16r1 hi16r1 v_ W_ := hW_.get
  clear hW_
  obtain ⟨s16ar1, A_16ar1, n16ar1, c16ar1, s16br1, A_16br1, n16br1, c16br1, s16dr1, A_16dr1, n16dr1, c16dr1, s16xr1, A_16xr1, n16xr1, c16xr1, s16yr1, A_16yr1, n16yr1, c16yr1, s16zr1, A_16zr1, n16zr1, c16zr1, rfl, -, -, -, -, -, -⟩ := hv_
  clear W_
  try simp only [Act.put, sa0, sa1, sa2]
  refine wpT_quiet 2 (by rfl) (by kernel_rfl) ?_
  simp only [tk1, tk0, dp1, dp0]
  repeat (go_big_quiet_step (fail))
  refine wpQuiet_nil ?_
  refine wpT_eff (by rfl) (by rfl) (by rfl) ?_ ?_
  · intro W_ hK
    have hW := hK.1
    have F_s16ar1 : RI W_ (iv s16ar1 A_16ar1 n16ar1 c16ar1) a3 := RP.at1 (hK.2 4 ((pv s16ar1 A_16ar1 n16ar1 c16ar1 s16br1 A_16br1 n16br1 c16br1 s16dr1 A_16dr1 n16dr1 c16dr1 s16xr1 A_16xr1 n16xr1 c16xr1 s16yr1 A_16yr1 n16yr1 c16yr1 s16zr1 A_16zr1 n16zr1 c16zr1), lo16r1, hi16r1) (by rfl) (anc_of (by kernel_rfl)))
    have F_s16br1 : RI W_ (iv s16br1 A_16br1 n16br1 c16br1) a4 := RP.at2 (hK.2 4 ((pv s16ar1 A_16ar1 n16ar1 c16ar1 s16br1 A_16br1 n16br1 c16br1 s16dr1 A_16dr1 n16dr1 c16dr1 s16xr1 A_16xr1 n16xr1 c16xr1 s16yr1 A_16yr1 n16yr1 c16yr1 s16zr1 A_16zr1 n16zr1 c16zr1), lo16r1, hi16r1) (by rfl) (anc_of (by kernel_rfl)))
    have F_s16dr1 : RI W_ (iv s16dr1 A_16dr1 n16dr1 c16dr1) a5 := RP.at3 (hK.2 4 ((pv s16ar1 A_16ar1 n16ar1 c16ar1 s16br1 A_16br1 n16br1 c16br1 s16dr1 A_16dr1 n16dr1 c16dr1 s16xr1 A_16xr1 n16xr1 c16xr1 s16yr1 A_16yr1 n16yr1 c16yr1 s16zr1 A_16zr1 n16zr1 c16zr1), lo16r1, hi16r1) (by rfl) (anc_of (by kernel_rfl)))
    have F_s16xr1 : RI W_ (iv s16xr1 A_16xr1 n16xr1 c16xr1) (0 : Int) := RP.at4 (hK.2 4 ((pv s16ar1 A_16ar1 n16ar1 c16ar1 s16br1 A_16br1 n16br1 c16br1 s16dr1 A_16dr1 n16dr1 c16dr1 s16xr1 A_16xr1 n16xr1 c16xr1 s16yr1 A_16yr1 n16yr1 c16yr1 s16zr1 A_16zr1 n16zr1 c16zr1), lo16r1, hi16r1) (by rfl) (anc_of (by kernel_rfl)))
    have F_s16yr1 : RI W_ (iv s16yr1 A_16yr1 n16yr1 c16yr1) (0 : Int) := RP.at5 (hK.2 4 ((pv s16ar1 A_16ar1 n16ar1 c16ar1 s16br1 A_16br1 n16br1 c16br1 s16dr1 A_16dr1 n16dr1 c16dr1 s16xr1 A_16xr1 n16xr1 c16xr1 s16yr1 A_16yr1 n16yr1 c16yr1 s16zr1 A_16zr1 n16zr1 c16zr1), lo16r1, hi16r1) (by rfl) (anc_of (by kernel_rfl)))
    have F_s16zr1 : RI W_ (iv s16zr1 A_16zr1 n16zr1 c16zr1) (1 : Int) := RP.at6 (hK.2 4 ((pv s16ar1 A_16ar1 n16ar1 c16ar1 s16br1 A_16br1 n16br1 c16br1 s16dr1 A_16dr1 n16dr1 c16dr1 s16xr1 A_16xr1 n16xr1 c16xr1 s16yr1 A_16yr1 n16yr1 c16yr1 s16zr1 A_16zr1 n16zr1 c16zr1), lo16r1, hi16r1) (by rfl) (anc_of (by kernel_rfl)))
    clear hK
    go_simp
    exact ⟨rfl, (toRP (qTurn_w _ (⟨q1, (GQ.i 0 0)⟩ : PQ) (n1) (-4) 8 _ ⟨_, _, _, _, _, _, RP.mk F_s16ar1 F_s16br1 F_s16dr1 F_s16xr1 F_s16yr1 F_s16zr1, I1, S1, (is_i 0 0), (sz_0 (n := n1) (by omega))⟩ (by omega) (by omega) (Lib.hid (show (-4 : Int) % 12 = ((8 : Nat) : Int) by decide)) (by omega) (by omega)) I19ur1 I19vr1).mono fun e w' ⟨v, he, hR, hx⟩ => ⟨v, he, hx, hR⟩⟩
  intro v_ lo19r1 hi19r1 hr_
  obtain ⟨W_, hW_⟩ := hr_
  have hv_ : Fc.holds (.rp (z19ar1) (z19br1) (z19dr1) (z19xr1) (z19yr1) (z19zr1)) lo19r1 hi19r1 v_ W_ := hW_.get
  clear hW_
  obtain ⟨s19ar1, A_19ar1, n19ar1, c19ar1, s19br1, A_19br1, n19br1, c19br1, s19dr1, A_19dr1, n19dr1, c19dr1, s19xr1, A_19xr1, n19xr1, c19xr1, s19yr1, A_19yr1, n19yr1, c19yr1, s19zr1, A_19zr1, n19zr1, c19zr1, rfl, -, -, -, -, -, -⟩ := hv_
  clear W_
  try simp only [Act.put, sa0, sa1, sa2]
  refine wpT_quiet 1 (by rfl) (by kernel_rfl) ?_
  simp only [tk1, tk0, dp1, dp0]
  repeat (go_big_quiet_step (fail))
  refine wpQuiet_nil ?_
  refine wpT_eff (by rfl) (by rfl) (by rfl) ?_ ?_
  · intro W_ hK
    have hW := hK.1
    clear hK
    go_simp
    exact ⟨rfl, (toRP (qPlain_ok _ q2 (n2) _ ⟨_, _, _, RG.mk (RI.ext (hS.num 44 rfl) hW) (RI.ext (hS.num 43 rfl) hW) (RI.ext (hS.num 42 rfl) hW), I2, S2⟩ (by omega)) I2 (is_i 0 0)).mono fun e w' ⟨v, he, hR, hx⟩ => ⟨v, he, hx, hR⟩⟩
  intro v_ lo21r1 hi21r1 hr_
  obtain ⟨W_, hW_⟩ := hr_
  have hv_ : Fc.holds (.rp (a6) (a7) (a8) ((0 : Int)) ((0 : Int)) ((1 : Int))) lo21r1 hi21r1 v_ W_ := hW_.get
  clear hW_
  obtain ⟨s21ar1, A_21ar1, n21ar1, c21ar1, s21br1, A_21br1, n21br1, c21br1, s21dr1, A_21dr1, n21dr1, c21dr1, s21xr1, A_21xr1, n21xr1, c21xr1, s21yr1, A_21yr1, n21yr1, c21yr1, s21zr1, A_21zr1, n21zr1, c21zr1, rfl, -, -, -, -, -, -⟩ := hv_
  clear W_
  try simp only [Act.put, sa0, sa1, sa2]
  refine wpT_quiet 2 (by rfl) (by kernel_rfl) ?_
  simp only [tk1, tk0, dp1, dp0]
  repeat (go_big_quiet_step (fail))
  refine wpQuiet_nil ?_
  refine wpT_eff (by rfl) (by rfl) (by rfl) ?_ ?_
  · intro W_ hK
    have hW := hK.1
    have F_s21ar1 : RI W_ (iv s21ar1 A_21ar1 n21ar1 c21ar1) a6 := RP.at1 (hK.2 9 ((pv s21ar1 A_21ar1 n21ar1 c21ar1 s21br1 A_21br1 n21br1 c21br1 s21dr1 A_21dr1 n21dr1 c21dr1 s21xr1 A_21xr1 n21xr1 c21xr1 s21yr1 A_21yr1 n21yr1 c21yr1 s21zr1 A_21zr1 n21zr1 c21zr1), lo21r1, hi21r1) (by rfl) (anc_of (by kernel_rfl)))
    have F_s21br1 : RI W_ (iv s21br1 A_21br1 n21br1 c21br1) a7 := RP.at2 (hK.2 9 ((pv s21ar1 A_21ar1 n21ar1 c21ar1 s21br1 A_21br1 n21br1 c21br1 s21dr1 A_21dr1 n21dr1 c21dr1 s21xr1 A_21xr1 n21xr1 c21xr1 s21yr1 A_21yr1 n21yr1 c21yr1 s21zr1 A_21zr1 n21zr1 c21zr1), lo21r1, hi21r1) (by rfl) (anc_of (by kernel_rfl)))
    have F_s21dr1 : RI W_ (iv s21dr1 A_21dr1 n21dr1 c21dr1) a8 := RP.at3 (hK.2 9 ((pv s21ar1 A_21ar1 n21ar1 c21ar1 s21br1 A_21br1 n21br1 c21br1 s21dr1 A_21dr1 n21dr1 c21dr1 s21xr1 A_21xr1 n21xr1 c21xr1 s21yr1 A_21yr1 n21yr1 c21yr1 s21zr1 A_21zr1 n21zr1 c21zr1), lo21r1, hi21r1) (by rfl) (anc_of (by kernel_rfl)))
    have F_s21xr1 : RI W_ (iv s21xr1 A_21xr1 n21xr1 c21xr1) (0 : Int) := RP.at4 (hK.2 9 ((pv s21ar1 A_21ar1 n21ar1 c21ar1 s21br1 A_21br1 n21br1 c21br1 s21dr1 A_21dr1 n21dr1 c21dr1 s21xr1 A_21xr1 n21xr1 c21xr1 s21yr1 A_21yr1 n21yr1 c21yr1 s21zr1 A_21zr1 n21zr1 c21zr1), lo21r1, hi21r1) (by rfl) (anc_of (by kernel_rfl)))
    have F_s21yr1 : RI W_ (iv s21yr1 A_21yr1 n21yr1 c21yr1) (0 : Int) := RP.at5 (hK.2 9 ((pv s21ar1 A_21ar1 n21ar1 c21ar1 s21br1 A_21br1 n21br1 c21br1 s21dr1 A_21dr1 n21dr1 c21dr1 s21xr1 A_21xr1 n21xr1 c21xr1 s21yr1 A_21yr1 n21yr1 c21yr1 s21zr1 A_21zr1 n21zr1 c21zr1), lo21r1, hi21r1) (by rfl) (anc_of (by kernel_rfl)))
    have F_s21zr1 : RI W_ (iv s21zr1 A_21zr1 n21zr1 c21zr1) (1 : Int) := RP.at6 (hK.2 9 ((pv s21ar1 A_21ar1 n21ar1 c21ar1 s21br1 A_21br1 n21br1 c21br1 s21dr1 A_21dr1 n21dr1 c21dr1 s21xr1 A_21xr1 n21xr1 c21xr1 s21yr1 A_21yr1 n21yr1 c21yr1 s21zr1 A_21zr1 n21zr1 c21zr1), lo21r1, hi21r1) (by rfl) (anc_of (by kernel_rfl)))
    clear hK
    go_simp
    exact ⟨rfl, (toRP (qTurn_w _ (⟨q2, (GQ.i 0 0)⟩ : PQ) (n2) (4) 4 _ ⟨_, _, _, _, _, _, RP.mk F_s21ar1 F_s21br1 F_s21dr1 F_s21xr1 F_s21yr1 F_s21zr1, I2, S2, (is_i 0 0), (sz_0 (n := n2) (by omega))⟩ (by omega) (by omega) (Lib.hid (show (4 : Int) % 12 = ((4 : Nat) : Int) by decide)) (by omega) (by omega)) I24ur1 I24vr1).mono fun e w' ⟨v, he, hR, hx⟩ => ⟨v, he, hx, hR⟩⟩
  intro v_ lo24r1 hi24r1 hr_
  obtain ⟨W_, hW_⟩ := hr_
  have hv_ : Fc.holds (.rp (z24ar1) (z24br1) (z24dr1) (z24xr1) (z24yr1) (z24zr1)) lo24r1 hi24r1 v_ W_ := hW_.get
  clear hW_
  obtain ⟨s24ar1, A_24ar1, n24ar1, c24ar1, s24br1, A_24br1, n24br1, c24br1, s24dr1, A_24dr1, n24dr1, c24dr1, s24xr1, A_24xr1, n24xr1, c24xr1, s24yr1, A_24yr1, n24yr1, c24yr1, s24zr1, A_24zr1, n24zr1, c24zr1, rfl, -, -, -, -, -, -⟩ := hv_
  clear W_
  try simp only [Act.put, sa0, sa1, sa2]
  refine wpT_eff (by rfl) (by rfl) (by rfl) ?_ ?_
  · intro W_ hK
    have hW := hK.1
    have F_s19ar1 : RI W_ (iv s19ar1 A_19ar1 n19ar1 c19ar1) z19ar1 := RP.at1 (hK.2 7 ((pv s19ar1 A_19ar1 n19ar1 c19ar1 s19br1 A_19br1 n19br1 c19br1 s19dr1 A_19dr1 n19dr1 c19dr1 s19xr1 A_19xr1 n19xr1 c19xr1 s19yr1 A_19yr1 n19yr1 c19yr1 s19zr1 A_19zr1 n19zr1 c19zr1), lo19r1, hi19r1) (by rfl) (anc_of (by kernel_rfl)))
    have F_s19br1 : RI W_ (iv s19br1 A_19br1 n19br1 c19br1) z19br1 := RP.at2 (hK.2 7 ((pv s19ar1 A_19ar1 n19ar1 c19ar1 s19br1 A_19br1 n19br1 c19br1 s19dr1 A_19dr1 n19dr1 c19dr1 s19xr1 A_19xr1 n19xr1 c19xr1 s19yr1 A_19yr1 n19yr1 c19yr1 s19zr1 A_19zr1 n19zr1 c19zr1), lo19r1, hi19r1) (by rfl) (anc_of (by kernel_rfl)))
    have F_s19dr1 : RI W_ (iv s19dr1 A_19dr1 n19dr1 c19dr1) z19dr1 := RP.at3 (hK.2 7 ((pv s19ar1 A_19ar1 n19ar1 c19ar1 s19br1 A_19br1 n19br1 c19br1 s19dr1 A_19dr1 n19dr1 c19dr1 s19xr1 A_19xr1 n19xr1 c19xr1 s19yr1 A_19yr1 n19yr1 c19yr1 s19zr1 A_19zr1 n19zr1 c19zr1), lo19r1, hi19r1) (by rfl) (anc_of (by kernel_rfl)))
    have F_s19xr1 : RI W_ (iv s19xr1 A_19xr1 n19xr1 c19xr1) z19xr1 := RP.at4 (hK.2 7 ((pv s19ar1 A_19ar1 n19ar1 c19ar1 s19br1 A_19br1 n19br1 c19br1 s19dr1 A_19dr1 n19dr1 c19dr1 s19xr1 A_19xr1 n19xr1 c19xr1 s19yr1 A_19yr1 n19yr1 c19yr1 s19zr1 A_19zr1 n19zr1 c19zr1), lo19r1, hi19r1) (by rfl) (anc_of (by kernel_rfl)))
    have F_s19yr1 : RI W_ (iv s19yr1 A_19yr1 n19yr1 c19yr1) z19yr1 := RP.at5 (hK.2 7 ((pv s19ar1 A_19ar1 n19ar1 c19ar1 s19br1 A_19br1 n19br1 c19br1 s19dr1 A_19dr1 n19dr1 c19dr1 s19xr1 A_19xr1 n19xr1 c19xr1 s19yr1 A_19yr1 n19yr1 c19yr1 s19zr1 A_19zr1 n19zr1 c19zr1), lo19r1, hi19r1) (by rfl) (anc_of (by kernel_rfl)))
    have F_s19zr1 : RI W_ (iv s19zr1 A_19zr1 n19zr1 c19zr1) z19zr1 := RP.at6 (hK.2 7 ((pv s19ar1 A_19ar1 n19ar1 c19ar1 s19br1 A_19br1 n19br1 c19br1 s19dr1 A_19dr1 n19dr1 c19dr1 s19xr1 A_19xr1 n19xr1 c19xr1 s19yr1 A_19yr1 n19yr1 c19yr1 s19zr1 A_19zr1 n19zr1 c19zr1), lo19r1, hi19r1) (by rfl) (anc_of (by kernel_rfl)))
    have F_s24ar1 : RI W_ (iv s24ar1 A_24ar1 n24ar1 c24ar1) z24ar1 := RP.at1 (hK.2 12 ((pv s24ar1 A_24ar1 n24ar1 c24ar1 s24br1 A_24br1 n24br1 c24br1 s24dr1 A_24dr1 n24dr1 c24dr1 s24xr1 A_24xr1 n24xr1 c24xr1 s24yr1 A_24yr1 n24yr1 c24yr1 s24zr1 A_24zr1 n24zr1 c24zr1), lo24r1, hi24r1) (by rfl) (anc_of (by kernel_rfl)))
    have F_s24br1 : RI W_ (iv s24br1 A_24br1 n24br1 c24br1) z24br1 := RP.at2 (hK.2 12 ((pv s24ar1 A_24ar1 n24ar1 c24ar1 s24br1 A_24br1 n24br1 c24br1 s24dr1 A_24dr1 n24dr1 c24dr1 s24xr1 A_24xr1 n24xr1 c24xr1 s24yr1 A_24yr1 n24yr1 c24yr1 s24zr1 A_24zr1 n24zr1 c24zr1), lo24r1, hi24r1) (by rfl) (anc_of (by kernel_rfl)))
    have F_s24dr1 : RI W_ (iv s24dr1 A_24dr1 n24dr1 c24dr1) z24dr1 := RP.at3 (hK.2 12 ((pv s24ar1 A_24ar1 n24ar1 c24ar1 s24br1 A_24br1 n24br1 c24br1 s24dr1 A_24dr1 n24dr1 c24dr1 s24xr1 A_24xr1 n24xr1 c24xr1 s24yr1 A_24yr1 n24yr1 c24yr1 s24zr1 A_24zr1 n24zr1 c24zr1), lo24r1, hi24r1) (by rfl) (anc_of (by kernel_rfl)))
    have F_s24xr1 : RI W_ (iv s24xr1 A_24xr1 n24xr1 c24xr1) z24xr1 := RP.at4 (hK.2 12 ((pv s24ar1 A_24ar1 n24ar1 c24ar1 s24br1 A_24br1 n24br1 c24br1 s24dr1 A_24dr1 n24dr1 c24dr1 s24xr1 A_24xr1 n24xr1 c24xr1 s24yr1 A_24yr1 n24yr1 c24yr1 s24zr1 A_24zr1 n24zr1 c24zr1), lo24r1, hi24r1) (by rfl) (anc_of (by kernel_rfl)))
    have F_s24yr1 : RI W_ (iv s24yr1 A_24yr1 n24yr1 c24yr1) z24yr1 := RP.at5 (hK.2 12 ((pv s24ar1 A_24ar1 n24ar1 c24ar1 s24br1 A_24br1 n24br1 c24br1 s24dr1 A_24dr1 n24dr1 c24dr1 s24xr1 A_24xr1 n24xr1 c24xr1 s24yr1 A_24yr1 n24yr1 c24yr1 s24zr1 A_24zr1 n24zr1 c24zr1), lo24r1, hi24r1) (by rfl) (anc_of (by kernel_rfl)))
    have F_s24zr1 : RI W_ (iv s24zr1 A_24zr1 n24zr1 c24zr1) z24zr1 := RP.at6 (hK.2 12 ((pv s24ar1 A_24ar1 n24ar1 c24ar1 s24br1 A_24br1 n24br1 c24br1 s24dr1 A_24dr1 n24dr1 c24dr1 s24xr1 A_24xr1 n24xr1 c24xr1 s24yr1 A_24yr1 n24yr1 c24yr1 s24zr1 A_24zr1 n24zr1 c24zr1), lo24r1, hi24r1) (by rfl) (anc_of (by kernel_rfl)))
    clear hK
    go_simp
    exact ⟨rfl, (toRP (qSum_w _ ((⟨q1, (GQ.i 0 0)⟩ : PQ) * PQ.zp 8) (2 * (n1 + 2) + 69) _ ((⟨q2, (GQ.i 0 0)⟩ : PQ) * PQ.zp 4) (2 * (n2 + 2) + 69) _ ⟨_, _, _, _, _, _, RP.mk F_s19ar1 F_s19br1 F_s19dr1 F_s19xr1 F_s19yr1 F_s19zr1, I19ur1, S19ur1, I19vr1, S19vr1⟩ ⟨_, _, _, _, _, _, RP.mk F_s24ar1 F_s24br1 F_s24dr1 F_s24xr1 F_s24yr1 F_s24zr1, I24ur1, S24ur1, I24vr1, S24vr1⟩ (by omega)) I25ur1 I25vr1).mono fun e w' ⟨v, he, hR, hx⟩ => ⟨v, he, hx, hR⟩⟩
  intro v_ lo25r1 hi25r1 hr_
  obtain ⟨W_, hW_⟩ := hr_
  have hv_ : Fc.holds (.rp (z25ar1) (z25br1) (z25dr1) (z25xr1) (z25yr1) (z25zr1)) lo25r1 hi25r1 v_ W_ := hW_.get
  clear hW_
  obtain ⟨s25ar1, A_25ar1, n25ar1, c25ar1, s25br1, A_25br1, n25br1, c25br1, s25dr1, A_25dr1, n25dr1, c25dr1, s25xr1, A_25xr1, n25xr1, c25xr1, s25yr1, A_25yr1, n25yr1, c25yr1, s25zr1, A_25zr1, n25zr1, c25zr1, rfl, -, -, -, -, -, -⟩ := hv_
  clear W_
  try simp only [Act.put, sa0, sa1, sa2]
  refine wpT_eff (by rfl) (by rfl) (by rfl) ?_ ?_
  · intro W_ hK
    have hW := hK.1
    have F_s14ar1 : RI W_ (iv s14ar1 A_14ar1 n14ar1 c14ar1) a0 := RP.at1 (hK.2 2 ((pv s14ar1 A_14ar1 n14ar1 c14ar1 s14br1 A_14br1 n14br1 c14br1 s14dr1 A_14dr1 n14dr1 c14dr1 s14xr1 A_14xr1 n14xr1 c14xr1 s14yr1 A_14yr1 n14yr1 c14yr1 s14zr1 A_14zr1 n14zr1 c14zr1), lo14r1, hi14r1) (by rfl) (anc_of (by kernel_rfl)))
    have F_s14br1 : RI W_ (iv s14br1 A_14br1 n14br1 c14br1) a1 := RP.at2 (hK.2 2 ((pv s14ar1 A_14ar1 n14ar1 c14ar1 s14br1 A_14br1 n14br1 c14br1 s14dr1 A_14dr1 n14dr1 c14dr1 s14xr1 A_14xr1 n14xr1 c14xr1 s14yr1 A_14yr1 n14yr1 c14yr1 s14zr1 A_14zr1 n14zr1 c14zr1), lo14r1, hi14r1) (by rfl) (anc_of (by kernel_rfl)))
    have F_s14dr1 : RI W_ (iv s14dr1 A_14dr1 n14dr1 c14dr1) a2 := RP.at3 (hK.2 2 ((pv s14ar1 A_14ar1 n14ar1 c14ar1 s14br1 A_14br1 n14br1 c14br1 s14dr1 A_14dr1 n14dr1 c14dr1 s14xr1 A_14xr1 n14xr1 c14xr1 s14yr1 A_14yr1 n14yr1 c14yr1 s14zr1 A_14zr1 n14zr1 c14zr1), lo14r1, hi14r1) (by rfl) (anc_of (by kernel_rfl)))
    have F_s14xr1 : RI W_ (iv s14xr1 A_14xr1 n14xr1 c14xr1) (0 : Int) := RP.at4 (hK.2 2 ((pv s14ar1 A_14ar1 n14ar1 c14ar1 s14br1 A_14br1 n14br1 c14br1 s14dr1 A_14dr1 n14dr1 c14dr1 s14xr1 A_14xr1 n14xr1 c14xr1 s14yr1 A_14yr1 n14yr1 c14yr1 s14zr1 A_14zr1 n14zr1 c14zr1), lo14r1, hi14r1) (by rfl) (anc_of (by kernel_rfl)))
    have F_s14yr1 : RI W_ (iv s14yr1 A_14yr1 n14yr1 c14yr1) (0 : Int) := RP.at5 (hK.2 2 ((pv s14ar1 A_14ar1 n14ar1 c14ar1 s14br1 A_14br1 n14br1 c14br1 s14dr1 A_14dr1 n14dr1 c14dr1 s14xr1 A_14xr1 n14xr1 c14xr1 s14yr1 A_14yr1 n14yr1 c14yr1 s14zr1 A_14zr1 n14zr1 c14zr1), lo14r1, hi14r1) (by rfl) (anc_of (by kernel_rfl)))
    have F_s14zr1 : RI W_ (iv s14zr1 A_14zr1 n14zr1 c14zr1) (1 : Int) := RP.at6 (hK.2 2 ((pv s14ar1 A_14ar1 n14ar1 c14ar1 s14br1 A_14br1 n14br1 c14br1 s14dr1 A_14dr1 n14dr1 c14dr1 s14xr1 A_14xr1 n14xr1 c14xr1 s14yr1 A_14yr1 n14yr1 c14yr1 s14zr1 A_14zr1 n14zr1 c14zr1), lo14r1, hi14r1) (by rfl) (anc_of (by kernel_rfl)))
    have F_s25ar1 : RI W_ (iv s25ar1 A_25ar1 n25ar1 c25ar1) z25ar1 := RP.at1 (hK.2 13 ((pv s25ar1 A_25ar1 n25ar1 c25ar1 s25br1 A_25br1 n25br1 c25br1 s25dr1 A_25dr1 n25dr1 c25dr1 s25xr1 A_25xr1 n25xr1 c25xr1 s25yr1 A_25yr1 n25yr1 c25yr1 s25zr1 A_25zr1 n25zr1 c25zr1), lo25r1, hi25r1) (by rfl) (anc_of (by kernel_rfl)))
    have F_s25br1 : RI W_ (iv s25br1 A_25br1 n25br1 c25br1) z25br1 := RP.at2 (hK.2 13 ((pv s25ar1 A_25ar1 n25ar1 c25ar1 s25br1 A_25br1 n25br1 c25br1 s25dr1 A_25dr1 n25dr1 c25dr1 s25xr1 A_25xr1 n25xr1 c25xr1 s25yr1 A_25yr1 n25yr1 c25yr1 s25zr1 A_25zr1 n25zr1 c25zr1), lo25r1, hi25r1) (by rfl) (anc_of (by kernel_rfl)))
    have F_s25dr1 : RI W_ (iv s25dr1 A_25dr1 n25dr1 c25dr1) z25dr1 := RP.at3 (hK.2 13 ((pv s25ar1 A_25ar1 n25ar1 c25ar1 s25br1 A_25br1 n25br1 c25br1 s25dr1 A_25dr1 n25dr1 c25dr1 s25xr1 A_25xr1 n25xr1 c25xr1 s25yr1 A_25yr1 n25yr1 c25yr1 s25zr1 A_25zr1 n25zr1 c25zr1), lo25r1, hi25r1) (by rfl) (anc_of (by kernel_rfl)))
    have F_s25xr1 : RI W_ (iv s25xr1 A_25xr1 n25xr1 c25xr1) z25xr1 := RP.at4 (hK.2 13 ((pv s25ar1 A_25ar1 n25ar1 c25ar1 s25br1 A_25br1 n25br1 c25br1 s25dr1 A_25dr1 n25dr1 c25dr1 s25xr1 A_25xr1 n25xr1 c25xr1 s25yr1 A_25yr1 n25yr1 c25yr1 s25zr1 A_25zr1 n25zr1 c25zr1), lo25r1, hi25r1) (by rfl) (anc_of (by kernel_rfl)))
    have F_s25yr1 : RI W_ (iv s25yr1 A_25yr1 n25yr1 c25yr1) z25yr1 := RP.at5 (hK.2 13 ((pv s25ar1 A_25ar1 n25ar1 c25ar1 s25br1 A_25br1 n25br1 c25br1 s25dr1 A_25dr1 n25dr1 c25dr1 s25xr1 A_25xr1 n25xr1 c25xr1 s25yr1 A_25yr1 n25yr1 c25yr1 s25zr1 A_25zr1 n25zr1 c25zr1), lo25r1, hi25r1) (by rfl) (anc_of (by kernel_rfl)))
    have F_s25zr1 : RI W_ (iv s25zr1 A_25zr1 n25zr1 c25zr1) z25zr1 := RP.at6 (hK.2 13 ((pv s25ar1 A_25ar1 n25ar1 c25ar1 s25br1 A_25br1 n25br1 c25br1 s25dr1 A_25dr1 n25dr1 c25dr1 s25xr1 A_25xr1 n25xr1 c25xr1 s25yr1 A_25yr1 n25yr1 c25yr1 s25zr1 A_25zr1 n25zr1 c25zr1), lo25r1, hi25r1) (by rfl) (anc_of (by kernel_rfl)))
    clear hK
    go_simp
    exact ⟨rfl, (toRP (qSum_w _ (⟨q0, (GQ.i 0 0)⟩ : PQ) (n0) _ (((⟨q1, (GQ.i 0 0)⟩ : PQ) * PQ.zp 8) + ((⟨q2, (GQ.i 0 0)⟩ : PQ) * PQ.zp 4)) ((2 * (n1 + 2) + 69) + (2 * (n2 + 2) + 69) + 1) _ ⟨_, _, _, _, _, _, RP.mk F_s14ar1 F_s14br1 F_s14dr1 F_s14xr1 F_s14yr1 F_s14zr1, I0, S0, (is_i 0 0), (sz_0 (n := n0) (by omega))⟩ ⟨_, _, _, _, _, _, RP.mk F_s25ar1 F_s25br1 F_s25dr1 F_s25xr1 F_s25yr1 F_s25zr1, I25ur1, S25ur1, I25vr1, S25vr1⟩ (by omega)) I26ur1 I26vr1).mono fun e w' ⟨v, he, hR, hx⟩ => ⟨v, he, hx, hR⟩⟩
  intro v_ lo26r1 hi26r1 hr_
  obtain ⟨W_, hW_⟩ := hr_
  have hv_ : Fc.holds (.rp (z26ar1) (z26br1) (z26dr1) (z26xr1) (z26yr1) (z26zr1)) lo26r1 hi26r1 v_ W_ := hW_.get
  clear hW_
  obtain ⟨s26ar1, A_26ar1, n26ar1, c26ar1, s26br1, A_26br1, n26br1, c26br1, s26dr1, A_26dr1, n26dr1, c26dr1, s26xr1, A_26xr1, n26xr1, c26xr1, s26yr1, A_26yr1, n26yr1, c26yr1, s26zr1, A_26zr1, n26zr1, c26zr1, rfl, -, -, -, -, -, -⟩ := hv_
  clear W_
  try simp only [Act.put, sa0, sa1, sa2]
  refine wpT_quiet 1 (by rfl) (by kernel_rfl) ?_
  simp only [tk1, tk0, dp1, dp0]
  repeat (go_big_quiet_step (fail))
  refine wpQuiet_nil ?_
  refine wpT_nil ?_
  intro w4 hK
  have hlt_ := hS.lt
  replace hS := hS.mv hK.ext
  replace hS := hS.addI (show RI w4 (iv s14ar1 A_14ar1 n14ar1 c14ar1) a0 from RP.at1 (hK.at_ 2 (e := ((pv s14ar1 A_14ar1 n14ar1 c14ar1 s14br1 A_14br1 n14br1 c14br1 s14dr1 A_14dr1 n14dr1 c14dr1 s14xr1 A_14xr1 n14xr1 c14xr1 s14yr1 A_14yr1 n14yr1 c14yr1 s14zr1 A_14zr1 n14zr1 c14zr1), lo14r1, hi14r1)) (by rfl)))
  replace hS := hS.addI (show RI w4 (iv s14br1 A_14br1 n14br1 c14br1) a1 from RP.at2 (hK.at_ 2 (e := ((pv s14ar1 A_14ar1 n14ar1 c14ar1 s14br1 A_14br1 n14br1 c14br1 s14dr1 A_14dr1 n14dr1 c14dr1 s14xr1 A_14xr1 n14xr1 c14xr1 s14yr1 A_14yr1 n14yr1 c14yr1 s14zr1 A_14zr1 n14zr1 c14zr1), lo14r1, hi14r1)) (by rfl)))
  replace hS := hS.addI (show RI w4 (iv s14dr1 A_14dr1 n14dr1 c14dr1) a2 from RP.at3 (hK.at_ 2 (e := ((pv s14ar1 A_14ar1 n14ar1 c14ar1 s14br1 A_14br1 n14br1 c14br1 s14dr1 A_14dr1 n14dr1 c14dr1 s14xr1 A_14xr1 n14xr1 c14xr1 s14yr1 A_14yr1 n14yr1 c14yr1 s14zr1 A_14zr1 n14zr1 c14zr1), lo14r1, hi14r1)) (by rfl)))
  replace hS := hS.addI (show RI w4 (iv s14xr1 A_14xr1 n14xr1 c14xr1) (0 : Int) from RP.at4 (hK.at_ 2 (e := ((pv s14ar1 A_14ar1 n14ar1 c14ar1 s14br1 A_14br1 n14br1 c14br1 s14dr1 A_14dr1 n14dr1 c14dr1 s14xr1 A_14xr1 n14xr1 c14xr1 s14yr1 A_14yr1 n14yr1 c14yr1 s14zr1 A_14zr1 n14zr1 c14zr1), lo14r1, hi14r1)) (by rfl)))
  replace hS := hS.addI (show RI w4 (iv s14yr1 A_14yr1 n14yr1 c14yr1) (0 : Int) from RP.at5 (hK.at_ 2 (e := ((pv s14ar1 A_14ar1 n14ar1 c14ar1 s14br1 A_14br1 n14br1 c14br1 s14dr1 A_14dr1 n14dr1 c14dr1 s14xr1 A_14xr1 n14xr1 c14xr1 s14yr1 A_14yr1 n14yr1 c14yr1 s14zr1 A_14zr1 n14zr1 c14zr1), lo14r1, hi14r1)) (by rfl)))
  replace hS := hS.addI (show RI w4 (iv s14zr1 A_14zr1 n14zr1 c14zr1) (1 : Int) from RP.at6 (hK.at_ 2 (e := ((pv s14ar1 A_14ar1 n14ar1 c14ar1 s14br1 A_14br1 n14br1 c14br1 s14dr1 A_14dr1 n14dr1 c14dr1 s14xr1 A_14xr1 n14xr1 c14xr1 s14yr1 A_14yr1 n14yr1 c14yr1 s14zr1 A_14zr1 n14zr1 c14zr1), lo14r1, hi14r1)) (by rfl)))
  replace hS := hS.addI (show RI w4 (iv s16ar1 A_16ar1 n16ar1 c16ar1) a3 from RP.at1 (hK.at_ 4 (e := ((pv s16ar1 A_16ar1 n16ar1 c16ar1 s16br1 A_16br1 n16br1 c16br1 s16dr1 A_16dr1 n16dr1 c16dr1 s16xr1 A_16xr1 n16xr1 c16xr1 s16yr1 A_16yr1 n16yr1 c16yr1 s16zr1 A_16zr1 n16zr1 c16zr1), lo16r1, hi16r1)) (by rfl)))
  replace hS := hS.addI (show RI w4 (iv s16br1 A_16br1 n16br1 c16br1) a4 from RP.at2 (hK.at_ 4 (e := ((pv s16ar1 A_16ar1 n16ar1 c16ar1 s16br1 A_16br1 n16br1 c16br1 s16dr1 A_16dr1 n16dr1 c16dr1 s16xr1 A_16xr1 n16xr1 c16xr1 s16yr1 A_16yr1 n16yr1 c16yr1 s16zr1 A_16zr1 n16zr1 c16zr1), lo16r1, hi16r1)) (by rfl)))
  replace hS := hS.addI (show RI w4 (iv s16dr1 A_16dr1 n16dr1 c16dr1) a5 from RP.at3 (hK.at_ 4 (e := ((pv s16ar1 A_16ar1 n16ar1 c16ar1 s16br1 A_16br1 n16br1 c16br1 s16dr1 A_16dr1 n16dr1 c16dr1 s16xr1 A_16xr1 n16xr1 c16xr1 s16yr1 A_16yr1 n16yr1 c16yr1 s16zr1 A_16zr1 n16zr1 c16zr1), lo16r1, hi16r1)) (by rfl)))
  replace hS := hS.addI (show RI w4 (iv s16xr1 A_16xr1 n16xr1 c16xr1) (0 : Int) from RP.at4 (hK.at_ 4 (e := ((pv s16ar1 A_16ar1 n16ar1 c16ar1 s16br1 A_16br1 n16br1 c16br1 s16dr1 A_16dr1 n16dr1 c16dr1 s16xr1 A_16xr1 n16xr1 c16xr1 s16yr1 A_16yr1 n16yr1 c16yr1 s16zr1 A_16zr1 n16zr1 c16zr1), lo16r1, hi16r1)) (by rfl)))
  replace hS := hS.addI (show RI w4 (iv s16yr1 A_16yr1 n16yr1 c16yr1) (0 : Int) from RP.at5 (hK.at_ 4 (e := ((pv s16ar1 A_16ar1 n16ar1 c16ar1 s16br1 A_16br1 n16br1 c16br1 s16dr1 A_16dr1 n16dr1 c16dr1 s16xr1 A_16xr1 n16xr1 c16xr1 s16yr1 A_16yr1 n16yr1 c16yr1 s16zr1 A_16zr1 n16zr1 c16zr1), lo16r1, hi16r1)) (by rfl)))
  replace hS := hS.addI (show RI w4 (iv s16zr1 A_16zr1 n16zr1 c16zr1) (1 : Int) from RP.at6 (hK.at_ 4 (e := ((pv s16ar1 A_16ar1 n16ar1 c16ar1 s16br1 A_16br1 n16br1 c16br1 s16dr1 A_16dr1 n16dr1 c16dr1 s16xr1 A_16xr1 n16xr1 c16xr1 s16yr1 A_16yr1 n16yr1 c16yr1 s16zr1 A_16zr1 n16zr1 c16zr1), lo16r1, hi16r1)) (by rfl)))
  replace hS := hS.addI (show RI w4 (iv s19ar1 A_19ar1 n19ar1 c19ar1) z19ar1 from RP.at1 (hK.at_ 7 (e := ((pv s19ar1 A_19ar1 n19ar1 c19ar1 s19br1 A_19br1 n19br1 c19br1 s19dr1 A_19dr1 n19dr1 c19dr1 s19xr1 A_19xr1 n19xr1 c19xr1 s19yr1 A_19yr1 n19yr1 c19yr1 s19zr1 A_19zr1 n19zr1 c19zr1), lo19r1, hi19r1)) (by rfl)))
  replace hS := hS.addI (show RI w4 (iv s19br1 A_19br1 n19br1 c19br1) z19br1 from RP.at2 (hK.at_ 7 (e := ((pv s19ar1 A_19ar1 n19ar1 c19ar1 s19br1 A_19br1 n19br1 c19br1 s19dr1 A_19dr1 n19dr1 c19dr1 s19xr1 A_19xr1 n19xr1 c19xr1 s19yr1 A_19yr1 n19yr1 c19yr1 s19zr1 A_19zr1 n19zr1 c19zr1), lo19r1, hi19r1)) (by rfl)))
  replace hS := hS.addI (show RI w4 (iv s19dr1 A_19dr1 n19dr1 c19dr1) z19dr1 from RP.at3 (hK.at_ 7 (e := ((pv s19ar1 A_19ar1 n19ar1 c19ar1 s19br1 A_19br1 n19br1 c19br1 s19dr1 A_19dr1 n19dr1 c19dr1 s19xr1 A_19xr1 n19xr1 c19xr1 s19yr1 A_19yr1 n19yr1 c19yr1 s19zr1 A_19zr1 n19zr1 c19zr1), lo19r1, hi19r1)) (by rfl)))
  replace hS := hS.addI (show RI w4 (iv s19xr1 A_19xr1 n19xr1 c19xr1) z19xr1 from RP.at4 (hK.at_ 7 (e := ((pv s19ar1 A_19ar1 n19ar1 c19ar1 s19br1 A_19br1 n19br1 c19br1 s19dr1 A_19dr1 n19dr1 c19dr1 s19xr1 A_19xr1 n19xr1 c19xr1 s19yr1 A_19yr1 n19yr1 c19yr1 s19zr1 A_19zr1 n19zr1 c19zr1), lo19r1, hi19r1)) (by rfl)))
  replace hS := hS.addI (show RI w4 (iv s19yr1 A_19yr1 n19yr1 c19yr1) z19yr1 from RP.at5 (hK.at_ 7 (e := ((pv s19ar1 A_19ar1 n19ar1 c19ar1 s19br1 A_19br1 n19br1 c19br1 s19dr1 A_19dr1 n19dr1 c19dr1 s19xr1 A_19xr1 n19xr1 c19xr1 s19yr1 A_19yr1 n19yr1 c19yr1 s19zr1 A_19zr1 n19zr1 c19zr1), lo19r1, hi19r1)) (by rfl)))
  replace hS := hS.addI (show RI w4 (iv s19zr1 A_19zr1 n19zr1 c19zr1) z19zr1 from RP.at6 (hK.at_ 7 (e := ((pv s19ar1 A_19ar1 n19ar1 c19ar1 s19br1 A_19br1 n19br1 c19br1 s19dr1 A_19dr1 n19dr1 c19dr1 s19xr1 A_19xr1 n19xr1 c19xr1 s19yr1 A_19yr1 n19yr1 c19yr1 s19zr1 A_19zr1 n19zr1 c19zr1), lo19r1, hi19r1)) (by rfl)))
  replace hS := hS.addI (show RI w4 (iv s21ar1 A_21ar1 n21ar1 c21ar1) a6 from RP.at1 (hK.at_ 9 (e := ((pv s21ar1 A_21ar1 n21ar1 c21ar1 s21br1 A_21br1 n21br1 c21br1 s21dr1 A_21dr1 n21dr1 c21dr1 s21xr1 A_21xr1 n21xr1 c21xr1 s21yr1 A_21yr1 n21yr1 c21yr1 s21zr1 A_21zr1 n21zr1 c21zr1), lo21r1, hi21r1)) (by rfl)))
  replace hS := hS.addI (show RI w4 (iv s21br1 A_21br1 n21br1 c21br1) a7 from RP.at2 (hK.at_ 9 (e := ((pv s21ar1 A_21ar1 n21ar1 c21ar1 s21br1 A_21br1 n21br1 c21br1 s21dr1 A_21dr1 n21dr1 c21dr1 s21xr1 A_21xr1 n21xr1 c21xr1 s21yr1 A_21yr1 n21yr1 c21yr1 s21zr1 A_21zr1 n21zr1 c21zr1), lo21r1, hi21r1)) (by rfl)))
  replace hS := hS.addI (show RI w4 (iv s21dr1 A_21dr1 n21dr1 c21dr1) a8 from RP.at3 (hK.at_ 9 (e := ((pv s21ar1 A_21ar1 n21ar1 c21ar1 s21br1 A_21br1 n21br1 c21br1 s21dr1 A_21dr1 n21dr1 c21dr1 s21xr1 A_21xr1 n21xr1 c21xr1 s21yr1 A_21yr1 n21yr1 c21yr1 s21zr1 A_21zr1 n21zr1 c21zr1), lo21r1, hi21r1)) (by rfl)))
  replace hS := hS.addI (show RI w4 (iv s21xr1 A_21xr1 n21xr1 c21xr1) (0 : Int) from RP.at4 (hK.at_ 9 (e := ((pv s21ar1 A_21ar1 n21ar1 c21ar1 s21br1 A_21br1 n21br1 c21br1 s21dr1 A_21dr1 n21dr1 c21dr1 s21xr1 A_21xr1 n21xr1 c21xr1 s21yr1 A_21yr1 n21yr1 c21yr1 s21zr1 A_21zr1 n21zr1 c21zr1), lo21r1, hi21r1)) (by rfl)))
  replace hS := hS.addI (show RI w4 (iv s21yr1 A_21yr1 n21yr1 c21yr1) (0 : Int) from RP.at5 (hK.at_ 9 (e := ((pv s21ar1 A_21ar1 n21ar1 c21ar1 s21br1 A_21br1 n21br1 c21br1 s21dr1 A_21dr1 n21dr1 c21dr1 s21xr1 A_21xr1 n21xr1 c21xr1 s21yr1 A_21yr1 n21yr1 c21yr1 s21zr1 A_21zr1 n21zr1 c21zr1), lo21r1, hi21r1)) (by rfl)))
  replace hS := hS.addI (show RI w4 (iv s21zr1 A_21zr1 n21zr1 c21zr1) (1 : Int) from RP.at6 (hK.at_ 9 (e := ((pv s21ar1 A_21ar1 n21ar1 c21ar1 s21br1 A_21br1 n21br1 c21br1 s21dr1 A_21dr1 n21dr1 c21dr1 s21xr1 A_21xr1 n21xr1 c21xr1 s21yr1 A_21yr1 n21yr1 c21yr1 s21zr1 A_21zr1 n21zr1 c21zr1), lo21r1, hi21r1)) (by rfl)))
  replace hS := hS.addI (show RI w4 (iv s24ar1 A_24ar1 n24ar1 c24ar1) z24ar1 from RP.at1 (hK.at_ 12 (e := ((pv s24ar1 A_24ar1 n24ar1 c24ar1 s24br1 A_24br1 n24br1 c24br1 s24dr1 A_24dr1 n24dr1 c24dr1 s24xr1 A_24xr1 n24xr1 c24xr1 s24yr1 A_24yr1 n24yr1 c24yr1 s24zr1 A_24zr1 n24zr1 c24zr1), lo24r1, hi24r1)) (by rfl)))
  replace hS := hS.addI (show RI w4 (iv s24br1 A_24br1 n24br1 c24br1) z24br1 from RP.at2 (hK.at_ 12 (e := ((pv s24ar1 A_24ar1 n24ar1 c24ar1 s24br1 A_24br1 n24br1 c24br1 s24dr1 A_24dr1 n24dr1 c24dr1 s24xr1 A_24xr1 n24xr1 c24xr1 s24yr1 A_24yr1 n24yr1 c24yr1 s24zr1 A_24zr1 n24zr1 c24zr1), lo24r1, hi24r1)) (by rfl)))
  replace hS := hS.addI (show RI w4 (iv s24dr1 A_24dr1 n24dr1 c24dr1) z24dr1 from RP.at3 (hK.at_ 12 (e := ((pv s24ar1 A_24ar1 n24ar1 c24ar1 s24br1 A_24br1 n24br1 c24br1 s24dr1 A_24dr1 n24dr1 c24dr1 s24xr1 A_24xr1 n24xr1 c24xr1 s24yr1 A_24yr1 n24yr1 c24yr1 s24zr1 A_24zr1 n24zr1 c24zr1), lo24r1, hi24r1)) (by rfl)))
  replace hS := hS.addI (show RI w4 (iv s24xr1 A_24xr1 n24xr1 c24xr1) z24xr1 from RP.at4 (hK.at_ 12 (e := ((pv s24ar1 A_24ar1 n24ar1 c24ar1 s24br1 A_24br1 n24br1 c24br1 s24dr1 A_24dr1 n24dr1 c24dr1 s24xr1 A_24xr1 n24xr1 c24xr1 s24yr1 A_24yr1 n24yr1 c24yr1 s24zr1 A_24zr1 n24zr1 c24zr1), lo24r1, hi24r1)) (by rfl)))
  replace hS := hS.addI (show RI w4 (iv s24yr1 A_24yr1 n24yr1 c24yr1) z24yr1 from RP.at5 (hK.at_ 12 (e := ((pv s24ar1 A_24ar1 n24ar1 c24ar1 s24br1 A_24br1 n24br1 c24br1 s24dr1 A_24dr1 n24dr1 c24dr1 s24xr1 A_24xr1 n24xr1 c24xr1 s24yr1 A_24yr1 n24yr1 c24yr1 s24zr1 A_24zr1 n24zr1 c24zr1), lo24r1, hi24r1)) (by rfl)))
  replace hS := hS.addI (show RI w4 (iv s24zr1 A_24zr1 n24zr1 c24zr1) z24zr1 from RP.at6 (hK.at_ 12 (e := ((pv s24ar1 A_24ar1 n24ar1 c24ar1 s24br1 A_24br1 n24br1 c24br1 s24dr1 A_24dr1 n24dr1 c24dr1 s24xr1 A_24xr1 n24xr1 c24xr1 s24yr1 A_24yr1 n24yr1 c24yr1 s24zr1 A_24zr1 n24zr1 c24zr1), lo24r1, hi24r1)) (by rfl)))
  replace hS := hS.addI (show RI w4 (iv s25ar1 A_25ar1 n25ar1 c25ar1) z25ar1 from RP.at1 (hK.at_ 13 (e := ((pv s25ar1 A_25ar1 n25ar1 c25ar1 s25br1 A_25br1 n25br1 c25br1 s25dr1 A_25dr1 n25dr1 c25dr1 s25xr1 A_25xr1 n25xr1 c25xr1 s25yr1 A_25yr1 n25yr1 c25yr1 s25zr1 A_25zr1 n25zr1 c25zr1), lo25r1, hi25r1)) (by rfl)))
  replace hS := hS.addI (show RI w4 (iv s25br1 A_25br1 n25br1 c25br1) z25br1 from RP.at2 (hK.at_ 13 (e := ((pv s25ar1 A_25ar1 n25ar1 c25ar1 s25br1 A_25br1 n25br1 c25br1 s25dr1 A_25dr1 n25dr1 c25dr1 s25xr1 A_25xr1 n25xr1 c25xr1 s25yr1 A_25yr1 n25yr1 c25yr1 s25zr1 A_25zr1 n25zr1 c25zr1), lo25r1, hi25r1)) (by rfl)))
  replace hS := hS.addI (show RI w4 (iv s25dr1 A_25dr1 n25dr1 c25dr1) z25dr1 from RP.at3 (hK.at_ 13 (e := ((pv s25ar1 A_25ar1 n25ar1 c25ar1 s25br1 A_25br1 n25br1 c25br1 s25dr1 A_25dr1 n25dr1 c25dr1 s25xr1 A_25xr1 n25xr1 c25xr1 s25yr1 A_25yr1 n25yr1 c25yr1 s25zr1 A_25zr1 n25zr1 c25zr1), lo25r1, hi25r1)) (by rfl)))
  replace hS := hS.addI (show RI w4 (iv s25xr1 A_25xr1 n25xr1 c25xr1) z25xr1 from RP.at4 (hK.at_ 13 (e := ((pv s25ar1 A_25ar1 n25ar1 c25ar1 s25br1 A_25br1 n25br1 c25br1 s25dr1 A_25dr1 n25dr1 c25dr1 s25xr1 A_25xr1 n25xr1 c25xr1 s25yr1 A_25yr1 n25yr1 c25yr1 s25zr1 A_25zr1 n25zr1 c25zr1), lo25r1, hi25r1)) (by rfl)))
  replace hS := hS.addI (show RI w4 (iv s25yr1 A_25yr1 n25yr1 c25yr1) z25yr1 from RP.at5 (hK.at_ 13 (e := ((pv s25ar1 A_25ar1 n25ar1 c25ar1 s25br1 A_25br1 n25br1 c25br1 s25dr1 A_25dr1 n25dr1 c25dr1 s25xr1 A_25xr1 n25xr1 c25xr1 s25yr1 A_25yr1 n25yr1 c25yr1 s25zr1 A_25zr1 n25zr1 c25zr1), lo25r1, hi25r1)) (by rfl)))
  replace hS := hS.addI (show RI w4 (iv s25zr1 A_25zr1 n25zr1 c25zr1) z25zr1 from RP.at6 (hK.at_ 13 (e := ((pv s25ar1 A_25ar1 n25ar1 c25ar1 s25br1 A_25br1 n25br1 c25br1 s25dr1 A_25dr1 n25dr1 c25dr1 s25xr1 A_25xr1 n25xr1 c25xr1 s25yr1 A_25yr1 n25yr1 c25yr1 s25zr1 A_25zr1 n25zr1 c25zr1), lo25r1, hi25r1)) (by rfl)))
  replace hS := hS.addI (show RI w4 (iv s26ar1 A_26ar1 n26ar1 c26ar1) z26ar1 from RP.at1 (hK.at_ 14 (e := ((pv s26ar1 A_26ar1 n26ar1 c26ar1 s26br1 A_26br1 n26br1 c26br1 s26dr1 A_26dr1 n26dr1 c26dr1 s26xr1 A_26xr1 n26xr1 c26xr1 s26yr1 A_26yr1 n26yr1 c26yr1 s26zr1 A_26zr1 n26zr1 c26zr1), lo26r1, hi26r1)) (by rfl)))
  replace hS := hS.addI (show RI w4 (iv s26br1 A_26br1 n26br1 c26br1) z26br1 from RP.at2 (hK.at_ 14 (e := ((pv s26ar1 A_26ar1 n26ar1 c26ar1 s26br1 A_26br1 n26br1 c26br1 s26dr1 A_26dr1 n26dr1 c26dr1 s26xr1 A_26xr1 n26xr1 c26xr1 s26yr1 A_26yr1 n26yr1 c26yr1 s26zr1 A_26zr1 n26zr1 c26zr1), lo26r1, hi26r1)) (by rfl)))
  replace hS := hS.addI (show RI w4 (iv s26dr1 A_26dr1 n26dr1 c26dr1) z26dr1 from RP.at3 (hK.at_ 14 (e := ((pv s26ar1 A_26ar1 n26ar1 c26ar1 s26br1 A_26br1 n26br1 c26br1 s26dr1 A_26dr1 n26dr1 c26dr1 s26xr1 A_26xr1 n26xr1 c26xr1 s26yr1 A_26yr1 n26yr1 c26yr1 s26zr1 A_26zr1 n26zr1 c26zr1), lo26r1, hi26r1)) (by rfl)))
  replace hS := hS.addI (show RI w4 (iv s26xr1 A_26xr1 n26xr1 c26xr1) z26xr1 from RP.at4 (hK.at_ 14 (e := ((pv s26ar1 A_26ar1 n26ar1 c26ar1 s26br1 A_26br1 n26br1 c26br1 s26dr1 A_26dr1 n26dr1 c26dr1 s26xr1 A_26xr1 n26xr1 c26xr1 s26yr1 A_26yr1 n26yr1 c26yr1 s26zr1 A_26zr1 n26zr1 c26zr1), lo26r1, hi26r1)) (by rfl)))
  replace hS := hS.addI (show RI w4 (iv s26yr1 A_26yr1 n26yr1 c26yr1) z26yr1 from RP.at5 (hK.at_ 14 (e := ((pv s26ar1 A_26ar1 n26ar1 c26ar1 s26br1 A_26br1 n26br1 c26br1 s26dr1 A_26dr1 n26dr1 c26dr1 s26xr1 A_26xr1 n26xr1 c26xr1 s26yr1 A_26yr1 n26yr1 c26yr1 s26zr1 A_26zr1 n26zr1 c26zr1), lo26r1, hi26r1)) (by rfl)))
  replace hS := hS.addI (show RI w4 (iv s26zr1 A_26zr1 n26zr1 c26zr1) z26zr1 from RP.at6 (hK.at_ 14 (e := ((pv s26ar1 A_26ar1 n26ar1 c26ar1 s26br1 A_26br1 n26br1 c26br1 s26dr1 A_26dr1 n26dr1 c26dr1 s26xr1 A_26xr1 n26xr1 c26xr1 s26yr1 A_26yr1 n26yr1 c26yr1 s26zr1 A_26zr1 n26zr1 c26zr1), lo26r1, hi26r1)) (by rfl)))
  clear hK hlt_ hE_ Y5 Y4 Y3
  have k_3 := (hS.blk 0 rfl).cell
  have k_4 := (hS.blk 0 rfl).frozen
  go_wp2_with fail
  clear k_3 k_4
  replace hS := (St.put (W' := ((((((((((((w4.setCell ⟨g7, 12, none⟩ (.bool s26ar1)).setCell ⟨g7, 13, none⟩ (.slice A_26ar1 n26ar1 c26ar1)).setCell ⟨g7, 14, none⟩ (.bool s26br1)).setCell ⟨g7, 15, none⟩ (.slice A_26br1 n26br1 c26br1)).setCell ⟨g7, 16, none⟩ (.bool s26dr1)).setCell ⟨g7, 17, none⟩ (.slice A_26dr1 n26dr1 c26dr1)).setCell ⟨g7, 18, none⟩ (.bool s26xr1)).setCell ⟨g7, 19, none⟩ (.slice A_26xr1 n26xr1 c26xr1)).setCell ⟨g7, 20, none⟩ (.bool s26yr1)).setCell ⟨g7, 21, none⟩ (.slice A_26yr1 n26yr1 c26yr1)).setCell ⟨g7, 22, none⟩ (.bool s26zr1)).setCell ⟨g7, 23, none⟩ (.slice A_26zr1 n26zr1 c26zr1))) hS 0 12 [.bool s26ar1, .slice A_26ar1 n26ar1 c26ar1, .bool s26br1, .slice A_26br1 n26br1 c26br1, .bool s26dr1, .slice A_26dr1 n26dr1 c26dr1, .bool s26xr1, .slice A_26xr1 n26xr1 c26xr1, .bool s26yr1, .slice A_26yr1 n26yr1 c26yr1, .bool s26zr1, .slice A_26zr1 n26zr1 c26zr1] (cs' := #[.bool s26ar0, .slice A_26ar0 n26ar0 c26ar0, .bool s26br0, .slice A_26br0 n26br0 c26br0, .bool s26dr0, .slice A_26dr0 n26dr0 c26dr0, .bool s26xr0, .slice A_26xr0 n26xr0 c26xr0, .bool s26yr0, .slice A_26yr0 n26yr0 c26yr0, .bool s26zr0, .slice A_26zr0 n26zr0 c26zr0, .bool s26ar1, .slice A_26ar1 n26ar1 c26ar1, .bool s26br1, .slice A_26br1 n26br1 c26br1, .bool s26dr1, .slice A_26dr1 n26dr1 c26dr1, .bool s26xr1, .slice A_26xr1 n26xr1 c26xr1, .bool s26yr1, .slice A_26yr1 n26yr1 c26yr1, .bool s26zr1, .slice A_26zr1 n26zr1 c26zr1, .bool false, .slice none 0 0, .bool false, .slice none 0 0, .bool false, .slice none 0 0, .bool false, .slice none 0 0, .bool false, .slice none 0 0, .bool false, .slice none 0 0]) (bs' := _) rfl o7 rfl rfl (by kernel_rfl) rfl)
  simp only [List.set_cons_zero] at hS
  generalize ((((((((((((w4.setCell ⟨g7, 12, none⟩ (.bool s26ar1)).setCell ⟨g7, 13, none⟩ (.slice A_26ar1 n26ar1 c26ar1)).setCell ⟨g7, 14, none⟩ (.bool s26br1)).setCell ⟨g7, 15, none⟩ (.slice A_26br1 n26br1 c26br1)).setCell ⟨g7, 16, none⟩ (.bool s26dr1)).setCell ⟨g7, 17, none⟩ (.slice A_26dr1 n26dr1 c26dr1)).setCell ⟨g7, 18, none⟩ (.bool s26xr1)).setCell ⟨g7, 19, none⟩ (.slice A_26xr1 n26xr1 c26xr1)).setCell ⟨g7, 20, none⟩ (.bool s26yr1)).setCell ⟨g7, 21, none⟩ (.slice A_26yr1 n26yr1 c26yr1)).setCell ⟨g7, 22, none⟩ (.bool s26zr1)).setCell ⟨g7, 23, none⟩ (.slice A_26zr1 n26zr1 c26zr1)) = w5 at hS ⊢
  rw [rounds_succ]
  go_wp2_with fail
  obtain ⟨z19ar2, z19br2, z19dr2, I19ur2⟩ := is_ex (((⟨q1, (GQ.i 0 0)⟩ : PQ) * PQ.zp 4)).u
  obtain ⟨z19xr2, z19yr2, z19zr2, I19vr2⟩ := is_ex (((⟨q1, (GQ.i 0 0)⟩ : PQ) * PQ.zp 4)).v
  have S19ur2 : Sz (2 * (n1 + 2) + 69) z19ar2 z19br2 z19dr2 := (Bd.produ (p := (⟨q1, (GQ.i 0 0)⟩ : PQ)) (q := PQ.zp 4) (m := n1) (n := 2) ⟨_, _, _, I1, S1⟩ ⟨_, _, _, (is_i 0 0), (sz_0 (n := n1) (by omega))⟩ (Bd.zp (by omega)).1 (Bd.zp (by omega)).2).sz I19ur2
  have S19vr2 : Sz (2 * (n1 + 2) + 69) z19xr2 z19yr2 z19zr2 := (Bd.prodv (p := (⟨q1, (GQ.i 0 0)⟩ : PQ)) (q := PQ.zp 4) (m := n1) (n := 2) ⟨_, _, _, I1, S1⟩ ⟨_, _, _, (is_i 0 0), (sz_0 (n := n1) (by omega))⟩ (Bd.zp (by omega)).1 (Bd.zp (by omega)).2).sz I19vr2
  obtain ⟨z24ar2, z24br2, z24dr2, I24ur2⟩ := is_ex (((⟨q2, (GQ.i 0 0)⟩ : PQ) * PQ.zp 8)).u
  obtain ⟨z24xr2, z24yr2, z24zr2, I24vr2⟩ := is_ex (((⟨q2, (GQ.i 0 0)⟩ : PQ) * PQ.zp 8)).v
  have S24ur2 : Sz (2 * (n2 + 2) + 69) z24ar2 z24br2 z24dr2 := (Bd.produ (p := (⟨q2, (GQ.i 0 0)⟩ : PQ)) (q := PQ.zp 8) (m := n2) (n := 2) ⟨_, _, _, I2, S2⟩ ⟨_, _, _, (is_i 0 0), (sz_0 (n := n2) (by omega))⟩ (Bd.zp (by omega)).1 (Bd.zp (by omega)).2).sz I24ur2
  have S24vr2 : Sz (2 * (n2 + 2) + 69) z24xr2 z24yr2 z24zr2 := (Bd.prodv (p := (⟨q2, (GQ.i 0 0)⟩ : PQ)) (q := PQ.zp 8) (m := n2) (n := 2) ⟨_, _, _, I2, S2⟩ ⟨_, _, _, (is_i 0 0), (sz_0 (n := n2) (by omega))⟩ (Bd.zp (by omega)).1 (Bd.zp (by omega)).2).sz I24vr2
  obtain ⟨z25ar2, z25br2, z25dr2, I25ur2⟩ := is_ex ((((⟨q1, (GQ.i 0 0)⟩ : PQ) * PQ.zp 4) + ((⟨q2, (GQ.i 0 0)⟩ : PQ) * PQ.zp 8))).u
  obtain ⟨z25xr2, z25yr2, z25zr2, I25vr2⟩ := is_ex ((((⟨q1, (GQ.i 0 0)⟩ : PQ) * PQ.zp 4) + ((⟨q2, (GQ.i 0 0)⟩ : PQ) * PQ.zp 8))).v
  have S25ur2 : Sz ((2 * (n1 + 2) + 69) + (2 * (n2 + 2) + 69) + 1) z25ar2 z25br2 z25dr2 := (Bd.mono (Bd.add (x := ((⟨q1, (GQ.i 0 0)⟩ : PQ) * PQ.zp 4).u) (y := ((⟨q2, (GQ.i 0 0)⟩ : PQ) * PQ.zp 8).u) (m := 2 * (n1 + 2) + 69) (n := 2 * (n2 + 2) + 69) ⟨_, _, _, I19ur2, S19ur2⟩ ⟨_, _, _, I24ur2, S24ur2⟩) (by omega)).sz I25ur2
  have S25vr2 : Sz ((2 * (n1 + 2) + 69) + (2 * (n2 + 2) + 69) + 1) z25xr2 z25yr2 z25zr2 := (Bd.mono (Bd.add (x := ((⟨q1, (GQ.i 0 0)⟩ : PQ) * PQ.zp 4).v) (y := ((⟨q2, (GQ.i 0 0)⟩ : PQ) * PQ.zp 8).v) (m := 2 * (n1 + 2) + 69) (n := 2 * (n2 + 2) + 69) ⟨_, _, _, I19vr2, S19vr2⟩ ⟨_, _, _, I24vr2, S24vr2⟩) (by omega)).sz I25vr2
  obtain ⟨z26ar2, z26br2, z26dr2, I26ur2⟩ := is_ex (((⟨q0, (GQ.i 0 0)⟩ : PQ) + (((⟨q1, (GQ.i 0 0)⟩ : PQ) * PQ.zp 4) + ((⟨q2, (GQ.i 0 0)⟩ : PQ) * PQ.zp 8)))).u
  obtain ⟨z26xr2, z26yr2, z26zr2, I26vr2⟩ := is_ex (((⟨q0, (GQ.i 0 0)⟩ : PQ) + (((⟨q1, (GQ.i 0 0)⟩ : PQ) * PQ.zp 4) + ((⟨q2, (GQ.i 0 0)⟩ : PQ) * PQ.zp 8)))).v
  have S26ur2 : Sz (n0 + ((2 * (n1 + 2) + 69) + (2 * (n2 + 2) + 69) + 1) + 1) z26ar2 z26br2 z26dr2 := (Bd.mono (Bd.add (x := (⟨q0, (GQ.i 0 0)⟩ : PQ).u) (y := (((⟨q1, (GQ.i 0 0)⟩ : PQ) * PQ.zp 4) + ((⟨q2, (GQ.i 0 0)⟩ : PQ) * PQ.zp 8)).u) (m := n0) (n := (2 * (n1 + 2) + 69) + (2 * (n2 + 2) + 69) + 1) ⟨_, _, _, I0, S0⟩ ⟨_, _, _, I25ur2, S25ur2⟩) (by omega)).sz I26ur2
  have S26vr2 : Sz (n0 + ((2 * (n1 + 2) + 69) + (2 * (n2 + 2) + 69) + 1) + 1) z26xr2 z26yr2 z26zr2 := (Bd.mono (Bd.add (x := (⟨q0, (GQ.i 0 0)⟩ : PQ).v) (y := (((⟨q1, (GQ.i 0 0)⟩ : PQ) * PQ.zp 4) + ((⟨q2, (GQ.i 0 0)⟩ : PQ) * PQ.zp 8)).v) (m := n0) (n := (2 * (n1 + 2) + 69) + (2 * (n2 + 2) + 69) + 1) ⟨_, _, _, (is_i 0 0), (sz_0 (n := n0) (by omega))⟩ ⟨_, _, _, I25vr2, S25vr2⟩) (by omega)).sz I26vr2
  have Y5 := ExtOf.blk (hS.blk 2 rfl)
  have Y4 := ExtOf.blk (hS.blk 3 rfl)
  have Y3 := ExtOf.blk (hS.blk 4 rfl)
  have hE_ := hS.ext
  refine wp_region_tame 16 (hasF [(2, .any), (4, .any), (7, .any), (9, .any), (12, .any), (13, .any), (14, .any)]) (Fcs [(2, .rp (a0) (a1) (a2) ((0 : Int)) ((0 : Int)) ((1 : Int))), (4, .rp (a3) (a4) (a5) ((0 : Int)) ((0 : Int)) ((1 : Int))), (7, .rp (z19ar2) (z19br2) (z19dr2) (z19xr2) (z19yr2) (z19zr2)), (9, .rp (a6) (a7) (a8) ((0 : Int)) ((0 : Int)) ((1 : Int))), (12, .rp (z24ar2) (z24br2) (z24dr2) (z24xr2) (z24yr2) (z24zr2)), (13, .rp (z25ar2) (z25br2) (z25dr2) (z25xr2) (z25yr2) (z25zr2)), (14, .rp (z26ar2) (z26br2) (z26dr2) (z26xr2) (z26yr2) (z26zr2))]) (Fcs_stab _) (by kernel_rfl) (by kernel_rfl) ?_
  simp only [tk1, tk0, dp1, dp0]
  refine wpT_quiet 2 (by rfl) (by kernel_rfl) ?_
  simp only [tk1, tk0, dp1, dp0]
  repeat (go_big_quiet_step (fail))
  refine wpQuiet_nil ?_
  refine wpT_eff (by rfl) (by rfl) (by rfl) ?_ ?_
  · intro W_ hK
    have hW := hK.1
    clear hK
    go_simp
    exact ⟨rfl, (toRP (qPlain_ok _ q0 (n0) _ ⟨_, _, _, RG.mk (RI.ext (hS.num 92 rfl) hW) (RI.ext (hS.num 91 rfl) hW) (RI.ext (hS.num 90 rfl) hW), I0, S0⟩ (by omega)) I0 (is_i 0 0)).mono fun e w' ⟨v, he, hR, hx⟩ => ⟨v, he, hx, hR⟩⟩
  intro v_ lo14r2 hi14r2 hr_
  obtain ⟨W_, hW_⟩ := hr_
  have hv_ : Fc.holds (.rp (a0) (a1) (a2) ((0 : Int)) ((0 : Int)) ((1 : Int))) lo14r2 hi14r2 v_ W_ := hW_.get
  clear hW_
  obtain ⟨s14ar2, A_14ar2, n14ar2, c14ar2, s14br2, A_14br2, n14br2, c14br2, s14dr2, A_14dr2, n14dr2, c14dr2, s14xr2, A_14xr2, n14xr2, c14xr2, s14yr2, A_14yr2, n14yr2, c14yr2, s14zr2, A_14zr2, n14zr2, c14zr2, rfl, -, -, -, -, -, -⟩ := hv_
  clear W_
  try simp only [Act.put, sa0, sa1, sa2]
  refine wpT_quiet 1 (by rfl) (by kernel_rfl) ?_
  simp only [tk1, tk0, dp1, dp0]
  repeat (go_big_quiet_step (fail))
  refine wpQuiet_nil ?_
  refine wpT_eff (by rfl) (by rfl) (by rfl) ?_ ?_
  · intro W_ hK
    have hW := hK.1
    clear hK
    go_simp
    exact ⟨rfl, (toRP (qPlain_ok _ q1 (n1) _ ⟨_, _, _, RG.mk (RI.ext (hS.num 89 rfl) hW) (RI.ext (hS.num 88 rfl) hW) (RI.ext (hS.num 87 rfl) hW), I1, S1⟩ (by omega)) I1 (is_i 0 0)).mono fun e w' ⟨v, he, hR, hx⟩ => ⟨v, he, hx, hR⟩⟩
  intro v_ lo16r2 hi16r2 hr_
  obtain ⟨W_, hW_⟩ := hr_
  have hv_ : Fc.holds (.rp (a3) (a4) (a5) ((0 : Int)) ((0 : Int)) ((1 : Int))) lo16r2 hi16r2 v_ W_ := hW_.get
  clear hW_
  obtain ⟨s16ar2, A_16ar2, n16ar2, c16ar2, s16br2, A_16br2, n16br2, c16br2, s16dr2, A_16dr2, n16dr2, c16dr2, s16xr2, A_16xr2, n16xr2, c16xr2, s16yr2, A_16yr2, n16yr2, c16yr2, s16zr2, A_16zr2, n16zr2, c16zr2, rfl, -, -, -, -, -, -⟩ := hv_
  clear W_
  try simp only [Act.put, sa0, sa1, sa2]
  refine wpT_quiet 2 (by rfl) (by kernel_rfl) ?_
  simp only [tk1, tk0, dp1, dp0]
  repeat (go_big_quiet_step (fail))
  refine wpQuiet_nil ?_
  refine wpT_eff (by rfl) (by rfl) (by rfl) ?_ ?_
  · intro W_ hK
    have hW := hK.1
    have F_s16ar2 : RI W_ (iv s16ar2 A_16ar2 n16ar2 c16ar2) a3 := RP.at1 (hK.2 4 ((pv s16ar2 A_16ar2 n16ar2 c16ar2 s16br2 A_16br2 n16br2 c16br2 s16dr2 A_16dr2 n16dr2 c16dr2 s16xr2 A_16xr2 n16xr2 c16xr2 s16yr2 A_16yr2 n16yr2 c16yr2 s16zr2 A_16zr2 n16zr2 c16zr2), lo16r2, hi16r2) (by rfl) (anc_of (by kernel_rfl)))
    have F_s16br2 : RI W_ (iv s16br2 A_16br2 n16br2 c16br2) a4 := RP.at2 (hK.2 4 ((pv s16ar2 A_16ar2 n16ar2 c16ar2 s16br2 A_16br2 n16br2 c16br2 s16dr2 A_16dr2 n16dr2 c16dr2 s16xr2 A_16xr2 n16xr2 c16xr2 s16yr2 A_16yr2 n16yr2 c16yr2 s16zr2 A_16zr2 n16zr2 c16zr2), lo16r2, hi16r2) (by rfl) (anc_of (by kernel_rfl)))
    have F_s16dr2 : RI W_ (iv s16dr2 A_16dr2 n16dr2 c16dr2) a5 := RP.at3 (hK.2 4 ((pv s16ar2 A_16ar2 n16ar2 c16ar2 s16br2 A_16br2 n16br2 c16br2 s16dr2 A_16dr2 n16dr2 c16dr2 s16xr2 A_16xr2 n16xr2 c16xr2 s16yr2 A_16yr2 n16yr2 c16yr2 s16zr2 A_16zr2 n16zr2 c16zr2), lo16r2, hi16r2) (by rfl) (anc_of (by kernel_rfl)))
    have F_s16xr2 : RI W_ (iv s16xr2 A_16xr2 n16xr2 c16xr2) (0 : Int) := RP.at4 (hK.2 4 ((pv s16ar2 A_16ar2 n16ar2 c16ar2 s16br2 A_16br2 n16br2 c16br2 s16dr2 A_16dr2 n16dr2 c16dr2 s16xr2 A_16xr2 n16xr2 c16xr2 s16yr2 A_16yr2 n16yr2 c16yr2 s16zr2 A_16zr2 n16zr2 c16zr2), lo16r2, hi16r2) (by rfl) (anc_of (by kernel_rfl)))
    have F_s16yr2 : RI W_ (iv s16yr2 A_16yr2 n16yr2 c16yr2) (0 : Int) := RP.at5 (hK.2 4 ((pv s16ar2 A_16ar2 n16ar2 c16ar2 s16br2 A_16br2 n16br2 c16br2 s16dr2 A_16dr2 n16dr2 c16dr2 s16xr2 A_16xr2 n16xr2 c16xr2 s16yr2 A_16yr2 n16yr2 c16yr2 s16zr2 A_16zr2 n16zr2 c16zr2), lo16r2, hi16r2) (by rfl) (anc_of (by kernel_rfl)))
    have F_s16zr2 : RI W_ (iv s16zr2 A_16zr2 n16zr2 c16zr2) (1 : Int) := RP.at6 (hK.2 4 ((pv s16ar2 A_16ar2 n16ar2 c16ar2 s16br2 A_16br2 n16br2 c16br2 s16dr2 A_16dr2 n16dr2 c16dr2 s16xr2 A_16xr2 n16xr2 c16xr2 s16yr2 A_16yr2 n16yr2 c16yr2 s16zr2 A_16zr2 n16zr2 c16zr2), lo16r2, hi16r2) (by rfl) (anc_of (by kernel_rfl)))
    clear hK
    go_simp
    exact ⟨rfl, (toRP (qTurn_w _ (⟨q1, (GQ.i 0 0)⟩ : PQ) (n1) (-8) 4 _ ⟨_, _, _, _, _, _, RP.mk F_s16ar2 F_s16br2 F_s16dr2 F_s16xr2 F_s16yr2 F_s16zr2, I1, S1, (is_i 0 0), (sz_0 (n := n1) (by omega))⟩ (by omega) (by omega) (Lib.hid (show (-8 : Int) % 12 = ((4 : Nat) : Int) by decide)) (by omega) (by omega)) I19ur2 I19vr2).mono fun e w' ⟨v, he, hR, hx⟩ => ⟨v, he, hx, hR⟩⟩
  intro v_ lo19r2 hi19r2 hr_
  obtain ⟨W_, hW_⟩ := hr_
  have hv_ : Fc.holds (.rp (z19ar2) (z19br2) (z19dr2) (z19xr2) (z19yr2) (z19zr2)) lo19r2 hi19r2 v_ W_ := hW_.get
  clear hW_
  obtain ⟨s19ar2, A_19ar2, n19ar2, c19ar2, s19br2, A_19br2, n19br2, c19br2, s19dr2, A_19dr2, n19dr2, c19dr2, s19xr2, A_19xr2, n19xr2, c19xr2, s19yr2, A_19yr2, n19yr2, c19yr2, s19zr2, A_19zr2, n19zr2, c19zr2, rfl, -, -, -, -, -, -⟩ := hv_
  clear W_
  try simp only [Act.put, sa0, sa1, sa2]
  refine wpT_quiet 1 (by rfl) (by kernel_rfl) ?_
  simp only [tk1, tk0, dp1, dp0]
  repeat (go_big_quiet_step (fail))
  refine wpQuiet_nil ?_
  refine wpT_eff (by rfl) (by rfl) (by rfl) ?_ ?_
  · intro W_ hK
    have hW := hK.1
    clear hK
    go_simp
    exact ⟨rfl, (toRP (qPlain_ok _ q2 (n2) _ ⟨_, _, _, RG.mk (RI.ext (hS.num 86 rfl) hW) (RI.ext (hS.num 85 rfl) hW) (RI.ext (hS.num 84 rfl) hW), I2, S2⟩ (by omega)) I2 (is_i 0 0)).mono fun e w' ⟨v, he, hR, hx⟩ => ⟨v, he, hx, hR⟩⟩
  intro v_ lo21r2 hi21r2 hr_
  obtain ⟨W_, hW_⟩ := hr_
  have hv_ : Fc.holds (.rp (a6) (a7) (a8) ((0 : Int)) ((0 : Int)) ((1 : Int))) lo21r2 hi21r2 v_ W_ := hW_.get
  clear hW_
  obtain ⟨s21ar2, A_21ar2, n21ar2, c21ar2, s21br2, A_21br2, n21br2, c21br2, s21dr2, A_21dr2, n21dr2, c21dr2, s21xr2, A_21xr2, n21xr2, c21xr2, s21yr2, A_21yr2, n21yr2, c21yr2, s21zr2, A_21zr2, n21zr2, c21zr2, rfl, -, -, -, -, -, -⟩ := hv_
  clear W_
  try simp only [Act.put, sa0, sa1, sa2]
  refine wpT_quiet 2 (by rfl) (by kernel_rfl) ?_
  simp only [tk1, tk0, dp1, dp0]
  repeat (go_big_quiet_step (fail))
  refine wpQuiet_nil ?_
  refine wpT_eff (by rfl) (by rfl) (by rfl) ?_ ?_
  · intro W_ hK
    have hW := hK.1
    have F_s21ar2 : RI W_ (iv s21ar2 A_21ar2 n21ar2 c21ar2) a6 := RP.at1 (hK.2 9 ((pv s21ar2 A_21ar2 n21ar2 c21ar2 s21br2 A_21br2 n21br2 c21br2 s21dr2 A_21dr2 n21dr2 c21dr2 s21xr2 A_21xr2 n21xr2 c21xr2 s21yr2 A_21yr2 n21yr2 c21yr2 s21zr2 A_21zr2 n21zr2 c21zr2), lo21r2, hi21r2) (by rfl) (anc_of (by kernel_rfl)))
    have F_s21br2 : RI W_ (iv s21br2 A_21br2 n21br2 c21br2) a7 := RP.at2 (hK.2 9 ((pv s21ar2 A_21ar2 n21ar2 c21ar2 s21br2 A_21br2 n21br2 c21br2 s21dr2 A_21dr2 n21dr2 c21dr2 s21xr2 A_21xr2 n21xr2 c21xr2 s21yr2 A_21yr2 n21yr2 c21yr2 s21zr2 A_21zr2 n21zr2 c21zr2), lo21r2, hi21r2) (by rfl) (anc_of (by kernel_rfl)))
    have F_s21dr2 : RI W_ (iv s21dr2 A_21dr2 n21dr2 c21dr2) a8 := RP.at3 (hK.2 9 ((pv s21ar2 A_21ar2 n21ar2 c21ar2 s21br2 A_21br2 n21br2 c21br2 s21dr2 A_21dr2 n21dr2 c21dr2 s21xr2 A_21xr2 n21xr2 c21xr2 s21yr2 A_21yr2 n21yr2 c21yr2 s21zr2 A_21zr2 n21zr2 c21zr2), lo21r2, hi21r2) (by rfl) (anc_of (by kernel_rfl)))
    have F_s21xr2 : RI W_ (iv s21xr2 A_21xr2 n21xr2 c21xr2) (0 : Int) := RP.at4 (hK.2 9 ((pv s21ar2 A_21ar2 n21ar2 c21ar2 s21br2 A_21br2 n21br2 c21br2 s21dr2 A_21dr2 n21dr2 c21dr2 s21xr2 A_21xr2 n21xr2 c21xr2 s21yr2 A_21yr2 n21yr2 c21yr2 s21zr2 A_21zr2 n21zr2 c21zr2), lo21r2, hi21r2) (by rfl) (anc_of (by kernel_rfl)))
    have F_s21yr2 : RI W_ (iv s21yr2 A_21yr2 n21yr2 c21yr2) (0 : Int) := RP.at5 (hK.2 9 ((pv s21ar2 A_21ar2 n21ar2 c21ar2 s21br2 A_21br2 n21br2 c21br2 s21dr2 A_21dr2 n21dr2 c21dr2 s21xr2 A_21xr2 n21xr2 c21xr2 s21yr2 A_21yr2 n21yr2 c21yr2 s21zr2 A_21zr2 n21zr2 c21zr2), lo21r2, hi21r2) (by rfl) (anc_of (by kernel_rfl)))
    have F_s21zr2 : RI W_ (iv s21zr2 A_21zr2 n21zr2 c21zr2) (1 : Int) := RP.at6 (hK.2 9 ((pv s21ar2 A_21ar2 n21ar2 c21ar2 s21br2 A_21br2 n21br2 c21br2 s21dr2 A_21dr2 n21dr2 c21dr2 s21xr2 A_21xr2 n21xr2 c21xr2 s21yr2 A_21yr2 n21yr2 c21yr2 s21zr2 A_21zr2 n21zr2 c21zr2), lo21r2, hi21r2) (by rfl) (anc_of (by kernel_rfl)))
    clear hK
    go_simp
    exact ⟨rfl, (toRP (qTurn_w _ (⟨q2, (GQ.i 0 0)⟩ : PQ) (n2) (8) 8 _ ⟨_, _, _, _, _, _, RP.mk F_s21ar2 F_s21br2 F_s21dr2 F_s21xr2 F_s21yr2 F_s21zr2, I2, S2, (is_i 0 0), (sz_0 (n := n2) (by omega))⟩ (by omega) (by omega) (Lib.hid (show (8 : Int) % 12 = ((8 : Nat) : Int) by decide)) (by omega) (by omega)) I24ur2 I24vr2).mono fun e w' ⟨v, he, hR, hx⟩ => ⟨v, he, hx, hR⟩⟩
  intro v_ lo24r2 hi24r2 hr_
  obtain ⟨W_, hW_⟩ := hr_
  have hv_ : Fc.holds (.rp (z24ar2) (z24br2) (z24dr2) (z24xr2) (z24yr2) (z24zr2)) lo24r2 hi24r2 v_ W_ := hW_.get
  clear hW_
  obtain ⟨s24ar2, A_24ar2, n24ar2, c24ar2, s24br2, A_24br2, n24br2, c24br2, s24dr2, A_24dr2, n24dr2, c24dr2, s24xr2, A_24xr2, n24xr2, c24xr2, s24yr2, A_24yr2, n24yr2, c24yr2, s24zr2, A_24zr2, n24zr2, c24zr2, rfl, -, -, -, -, -, -⟩ := hv_
  clear W_
  try simp only [Act.put, sa0, sa1, sa2]
  refine wpT_eff (by rfl) (by rfl) (by rfl) ?_ ?_
  · intro W_ hK
    have hW := hK.1
    have F_s19ar2 : RI W_ (iv s19ar2 A_19ar2 n19ar2 c19ar2) z19ar2 := RP.at1 (hK.2 7 ((pv s19ar2 A_19ar2 n19ar2 c19ar2 s19br2 A_19br2 n19br2 c19br2 s19dr2 A_19dr2 n19dr2 c19dr2 s19xr2 A_19xr2 n19xr2 c19xr2 s19yr2 A_19yr2 n19yr2 c19yr2 s19zr2 A_19zr2 n19zr2 c19zr2), lo19r2, hi19r2) (by rfl) (anc_of (by kernel_rfl)))
    have F_s19br2 : RI W_ (iv s19br2 A_19br2 n19br2 c19br2) z19br2 := RP.at2 (hK.2 7 ((pv s19ar2 A_19ar2 n19ar2 c19ar2 s19br2 A_19br2 n19br2 c19br2 s19dr2 A_19dr2 n19dr2 c19dr2 s19xr2 A_19xr2 n19xr2 c19xr2 s19yr2 A_19yr2 n19yr2 c19yr2 s19zr2 A_19zr2 n19zr2 c19zr2), lo19r2, hi19r2) (by rfl) (anc_of (by kernel_rfl)))
    have F_s19dr2 : RI W_ (iv s19dr2 A_19dr2 n19dr2 c19dr2) z19dr2 := RP.at3 (hK.2 7 ((pv s19ar2 A_19ar2 n19ar2 c19ar2 s19br2 A_19br2 n19br2 c19br2 s19dr2 A_19dr2 n19dr2 c19dr2 s19xr2 A_19xr2 n19xr2 c19xr2 s19yr2 A_19yr2 n19yr2 c19yr2 s19zr2 A_19zr2 n19zr2 c19zr2), lo19r2, hi19r2) (by rfl) (anc_of (by kernel_rfl)))
    have F_s19xr2 : RI W_ (iv s19xr2 A_19xr2 n19xr2 c19xr2) z19xr2 := RP.at4 (hK.2 7 ((pv s19ar2 A_19ar2 n19ar2 c19ar2 s19br2 A_19br2 n19br2 c19br2 s19dr2 A_19dr2 n19dr2 c19dr2 s19xr2 A_19xr2 n19xr2 c19xr2 s19yr2 A_19yr2 n19yr2 c19yr2 s19zr2 A_19zr2 n19zr2 c19zr2), lo19r2, hi19r2) (by rfl) (anc_of (by kernel_rfl)))
    have F_s19yr2 : RI W_ (iv s19yr2 A_19yr2 n19yr2 c19yr2) z19yr2 := RP.at5 (hK.2 7 ((pv s19ar2 A_19ar2 n19ar2 c19ar2 s19br2 A_19br2 n19br2 c19br2 s19dr2 A_19dr2 n19dr2 c19dr2 s19xr2 A_19xr2 n19xr2 c19xr2 s19yr2 A_19yr2 n19yr2 c19yr2 s19zr2 A_19zr2 n19zr2 c19zr2), lo19r2, hi19r2) (by rfl) (anc_of (by kernel_rfl)))
    have F_s19zr2 : RI W_ (iv s19zr2 A_19zr2 n19zr2 c19zr2) z19zr2 := RP.at6 (hK.2 7 ((pv s19ar2 A_19ar2 n19ar2 c19ar2 s19br2 A_19br2 n19br2 c19br2 s19dr2 A_19dr2 n19dr2 c19dr2 s19xr2 A_19xr2 n19xr2 c19xr2 s19yr2 A_19yr2 n19yr2 c19yr2 s19zr2 A_19zr2 n19zr2 c19zr2), lo19r2, hi19r2) (by rfl) (anc_of (by kernel_rfl)))
    have F_s24ar2 : RI W_ (iv s24ar2 A_24ar2 n24ar2 c24ar2) z24ar2 := RP.at1 (hK.2 12 ((pv s24ar2 A_24ar2 n24ar2 c24ar2 s24br2 A_24br2 n24br2 c24br2 s24dr2 A_24dr2 n24dr2 c24dr2 s24xr2 A_24xr2 n24xr2 c24xr2 s24yr2 A_24yr2 n24yr2 c24yr2 s24zr2 A_24zr2 n24zr2 c24zr2), lo24r2, hi24r2) (by rfl) (anc_of (by kernel_rfl)))
    have F_s24br2 : RI W_ (iv s24br2 A_24br2 n24br2 c24br2) z24br2 := RP.at2 (hK.2 12 ((pv s24ar2 A_24ar2 n24ar2 c24ar2 s24br2 A_24br2 n24br2 c24br2 s24dr2 A_24dr2 n24dr2 c24dr2 s24xr2 A_24xr2 n24xr2 c24xr2 s24yr2 A_24yr2 n24yr2 c24yr2 s24zr2 A_24zr2 n24zr2 c24zr2), lo24r2, hi24r2) (by rfl) (anc_of (by kernel_rfl)))
    have F_s24dr2 : RI W_ (iv s24dr2 A_24dr2 n24dr2 c24dr2) z24dr2 := RP.at3 (hK.2 12 ((pv s24ar2 A_24ar2 n24ar2 c24ar2 s24br2 A_24br2 n24br2 c24br2 s24dr2 A_24dr2 n24dr2 c24dr2 s24xr2 A_24xr2 n24xr2 c24xr2 s24yr2 A_24yr2 n24yr2 c24yr2 s24zr2 A_24zr2 n24zr2 c24zr2), lo24r2, hi24r2) (by rfl) (anc_of (by kernel_rfl)))
    have F_s24xr2 : RI W_ (iv s24xr2 A_24xr2 n24xr2 c24xr2) z24xr2 := RP.at4 (hK.2 12 ((pv s24ar2 A_24ar2 n24ar2 c24ar2 s24br2 A_24br2 n24br2 c24br2 s24dr2 A_24dr2 n24dr2 c24dr2 s24xr2 A_24xr2 n24xr2 c24xr2 s24yr2 A_24yr2 n24yr2 c24yr2 s24zr2 A_24zr2 n24zr2 c24zr2), lo24r2, hi24r2) (by rfl) (anc_of (by kernel_rfl)))
    have F_s24yr2 : RI W_ (iv s24yr2 A_24yr2 n24yr2 c24yr2) z24yr2 := RP.at5 (hK.2 12 ((pv s24ar2 A_24ar2 n24ar2 c24ar2 s24br2 A_24br2 n24br2 c24br2 s24dr2 A_24dr2 n24dr2 c24dr2 s24xr2 A_24xr2 n24xr2 c24xr2 s24yr2 A_24yr2 n24yr2 c24yr2 s24zr2 A_24zr2 n24zr2 c24zr2), lo24r2, hi24r2) (by rfl) (anc_of (by kernel_rfl)))
    have F_s24zr2 : RI W_ (iv s24zr2 A_24zr2 n24zr2 c24zr2) z24zr2 := RP.at6 (hK.2 12 ((pv s24ar2 A_24ar2 n24ar2 c24ar2 s24br2 A_24br2 n24br2 c24br2 s24dr2 A_24dr2 n24dr2 c24dr2 s24xr2 A_24xr2 n24xr2 c24xr2 s24yr2 A_24yr2 n24yr2 c24yr2 s24zr2 A_24zr2 n24zr2 c24zr2), lo24r2, hi24r2) (by rfl) (anc_of (by kernel_rfl)))
    clear hK
    go_simp
    exact ⟨rfl, (toRP (qSum_w _ ((⟨q1, (GQ.i 0 0)⟩ : PQ) * PQ.zp 4) (2 * (n1 + 2) + 69) _ ((⟨q2, (GQ.i 0 0)⟩ : PQ) * PQ.zp 8) (2 * (n2 + 2) + 69) _ ⟨_, _, _, _, _, _, RP.mk F_s19ar2 F_s19br2 F_s19dr2 F_s19xr2 F_s19yr2 F_s19zr2, I19ur2, S19ur2, I19vr2, S19vr2⟩ ⟨_, _, _, _, _, _, RP.mk F_s24ar2 F_s24br2 F_s24dr2 F_s24xr2 F_s24yr2 F_s24zr2, I24ur2, S24ur2, I24vr2, S24vr2⟩ (by omega)) I25ur2 I25vr2).mono fun e w' ⟨v, he, hR, hx⟩ => ⟨v, he, hx, hR⟩⟩
  intro v_ lo25r2 hi25r2 hr_
  obtain ⟨W_, hW_⟩ := hr_
  have hv_ : Fc.holds (.rp (z25ar2) (z25br2) (z25dr2) (z25xr2) (z25yr2) (z25zr2)) lo25r2 hi25r2 v_ W_ := hW_.get
  clear hW_
  obtain ⟨s25ar2, A_25ar2, n25ar2, c25ar2, s25br2, A_25br2, n25br2, c25br2, s25dr2, A_25dr2, n25dr2, c25dr2, s25xr2, A_25xr2, n25xr2, c25xr2, s25yr2, A_25yr2, n25yr2, c25yr2, s25zr2, A_25zr2, n25zr2, c25zr2, rfl, -, -, -, -, -, -⟩ := hv_
  clear W_
  try simp only [Act.put, sa0, sa1, sa2]
  refine wpT_eff (by rfl) (by rfl) (by rfl) ?_ ?_
  · intro W_ hK
    have hW := hK.1
    have F_s14ar2 : RI W_ (iv s14ar2 A_14ar2 n14ar2 c14ar2) a0 := RP.at1 (hK.2 2 ((pv s14ar2 A_14ar2 n14ar2 c14ar2 s14br2 A_14br2 n14br2 c14br2 s14dr2 A_14dr2 n14dr2 c14dr2 s14xr2 A_14xr2 n14xr2 c14xr2 s14yr2 A_14yr2 n14yr2 c14yr2 s14zr2 A_14zr2 n14zr2 c14zr2), lo14r2, hi14r2) (by rfl) (anc_of (by kernel_rfl)))
    have F_s14br2 : RI W_ (iv s14br2 A_14br2 n14br2 c14br2) a1 := RP.at2 (hK.2 2 ((pv s14ar2 A_14ar2 n14ar2 c14ar2 s14br2 A_14br2 n14br2 c14br2 s14dr2 A_14dr2 n14dr2 c14dr2 s14xr2 A_14xr2 n14xr2 c14xr2 s14yr2 A_14yr2 n14yr2 c14yr2 s14zr2 A_14zr2 n14zr2 c14zr2), lo14r2, hi14r2) (by rfl) (anc_of (by kernel_rfl)))
    have F_s14dr2 : RI W_ (iv s14dr2 A_14dr2 n14dr2 c14dr2) a2 := RP.at3 (hK.2 2 ((pv s14ar2 A_14ar2 n14ar2 c14ar2 s14br2 A_14br2 n14br2 c14br2 s14dr2 A_14dr2 n14dr2 c14dr2 s14xr2 A_14xr2 n14xr2 c14xr2 s14yr2 A_14yr2 n14yr2 c14yr2 s14zr2 A_14zr2 n14zr2 c14zr2), lo14r2, hi14r2) (by rfl) (anc_of (by kernel_rfl)))
    have F_s14xr2 : RI W_ (iv s14xr2 A_14xr2 n14xr2 c14xr2) (0 : Int) := RP.at4 (hK.2 2 ((pv s14ar2 A_14ar2 n14ar2 c14ar2 s14br2 A_14br2 n14br2 c14br2 s14dr2 A_14dr2 n14dr2 c14dr2 s14xr2 A_14xr2 n14xr2 c14xr2 s14yr2 A_14yr2 n14yr2 c14yr2 s14zr2 A_14zr2 n14zr2 c14zr2), lo14r2, hi14r2) (by rfl) (anc_of (by kernel_rfl)))
    have F_s14yr2 : RI W_ (iv s14yr2 A_14yr2 n14yr2 c14yr2) (0 : Int) := RP.at5 (hK.2 2 ((pv s14ar2 A_14ar2 n14ar2 c14ar2 s14br2 A_14br2 n14br2 c14br2 s14dr2 A_14dr2 n14dr2 c14dr2 s14xr2 A_14xr2 n14xr2 c14xr2 s14yr2 A_14yr2 n14yr2 c14yr2 s14zr2 A_14zr2 n14zr2 c14zr2), lo14r2, hi14r2) (by rfl) (anc_of (by kernel_rfl)))
    have F_s14zr2 : RI W_ (iv s14zr2 A_14zr2 n14zr2 c14zr2) (1 : Int) := RP.at6 (hK.2 2 ((pv s14ar2 A_14ar2 n14ar2 c14ar2 s14br2 A_14br2 n14br2 c14br2 s14dr2 A_14dr2 n14dr2 c14dr2 s14xr2 A_14xr2 n14xr2 c14xr2 s14yr2 A_14yr2 n14yr2 c14yr2 s14zr2 A_14zr2 n14zr2 c14zr2), lo14r2, hi14r2) (by rfl) (anc_of (by kernel_rfl)))
    have F_s25ar2 : RI W_ (iv s25ar2 A_25ar2 n25ar2 c25ar2) z25ar2 := RP.at1 (hK.2 13 ((pv s25ar2 A_25ar2 n25ar2 c25ar2 s25br2 A_25br2 n25br2 c25br2 s25dr2 A_25dr2 n25dr2 c25dr2 s25xr2 A_25xr2 n25xr2 c25xr2 s25yr2 A_25yr2 n25yr2 c25yr2 s25zr2 A_25zr2 n25zr2 c25zr2), lo25r2, hi25r2) (by rfl) (anc_of (by kernel_rfl)))
    have F_s25br2 : RI W_ (iv s25br2 A_25br2 n25br2 c25br2) z25br2 := RP.at2 (hK.2 13 ((pv s25ar2 A_25ar2 n25ar2 c25ar2 s25br2 A_25br2 n25br2 c25br2 s25dr2 A_25dr2 n25dr2 c25dr2 s25xr2 A_25xr2 n25xr2 c25xr2 s25yr2 A_25yr2 n25yr2 c25yr2 s25zr2 A_25zr2 n25zr2 c25zr2), lo25r2, hi25r2) (by rfl) (anc_of (by kernel_rfl)))
    have F_s25dr2 : RI W_ (iv s25dr2 A_25dr2 n25dr2 c25dr2) z25dr2 := RP.at3 (hK.2 13 ((pv s25ar2 A_25ar2 n25ar2 c25ar2 s25br2 A_25br2 n25br2 c25br2 s25dr2 A_25dr2 n25dr2 c25dr2 s25xr2 A_25xr2 n25xr2 c25xr2 s25yr2 A_25yr2 n25yr2 c25yr2 s25zr2 A_25zr2 n25zr2 c25zr2), lo25r2, hi25r2) (by rfl) (anc_of (by kernel_rfl)))
    have F_s25xr2 : RI W_ (iv s25xr2 A_25xr2 n25xr2 c25xr2) z25xr2 := RP.at4 (hK.2 13 ((pv s25ar2 A_25ar2 n25ar2 c25ar2 s25br2 A_25br2 n25br2 c25br2 s25dr2 A_25dr2 n25dr2 c25dr2 s25xr2 A_25xr2 n25xr2 c25xr2 s25yr2 A_25yr2 n25yr2 c25yr2 s25zr2 A_25zr2 n25zr2 c25zr2), lo25r2, hi25r2) (by rfl) (anc_of (by kernel_rfl)))
    have F_s25yr2 : RI W_ (iv s25yr2 A_25yr2 n25yr2 c25yr2) z25yr2 := RP.at5 (hK.2 13 ((pv s25ar2 A_25ar2 n25ar2 c25ar2 s25br2 A_25br2 n25br2 c25br2 s25dr2 A_25dr2 n25dr2 c25dr2 s25xr2 A_25xr2 n25xr2 c25xr2 s25yr2 A_25yr2 n25yr2 c25yr2 s25zr2 A_25zr2 n25zr2 c25zr2), lo25r2, hi25r2) (by rfl) (anc_of (by kernel_rfl)))
    have F_s25zr2 : RI W_ (iv s25zr2 A_25zr2 n25zr2 c25zr2) z25zr2 := RP.at6 (hK.2 13 ((pv s25ar2 A_25ar2 n25ar2 c25ar2 s25br2 A_25br2 n25br2 c25br2 s25dr2 A_25dr2 n25dr2 c25dr2 s25xr2 A_25xr2 n25xr2 c25xr2 s25yr2 A_25yr2 n25yr2 c25yr2 s25zr2 A_25zr2 n25zr2 c25zr2), lo25r2, hi25r2) (by rfl) (anc_of (by kernel_rfl)))
    clear hK
    go_simp
    exact ⟨rfl, (toRP (qSum_w _ (⟨q0, (GQ.i 0 0)⟩ : PQ) (n0) _ (((⟨q1, (GQ.i 0 0)⟩ : PQ) * PQ.zp 4) + ((⟨q2, (GQ.i 0 0)⟩ : PQ) * PQ.zp 8)) ((2 * (n1 + 2) + 69) + (2 * (n2 + 2) + 69) + 1) _ ⟨_, _, _, _, _, _, RP.mk F_s14ar2 F_s14br2 F_s14dr2 F_s14xr2 F_s14yr2 F_s14zr2, I0, S0, (is_i 0 0), (sz_0 (n := n0) (by omega))⟩ ⟨_, _, _, _, _, _, RP.mk F_s25ar2 F_s25br2 F_s25dr2 F_s25xr2 F_s25yr2 F_s25zr2, I25ur2, S25ur2, I25vr2, S25vr2⟩ (by omega)) I26ur2 I26vr2).mono fun e w' ⟨v, he, hR, hx⟩ => ⟨v, he, hx, hR⟩⟩
  intro v_ lo26r2 hi26r2 hr_
  obtain ⟨W_, hW_⟩ := hr_
  have hv_ : Fc.holds (.rp (z26ar2) (z26br2) (z26dr2) (z26xr2) (z26yr2) (z26zr2)) lo26r2 hi26r2 v_ W_ := hW_.get
  clear hW_
  obtain ⟨s26ar2, A_26ar2, n26ar2, c26ar2, s26br2, A_26br2, n26br2, c26br2, s26dr2, A_26dr2, n26dr2, c26dr2, s26xr2, A_26xr2, n26xr2, c26xr2, s26yr2, A_26yr2, n26yr2, c26yr2, s26zr2, A_26zr2, n26zr2, c26zr2, rfl, -, -, -, -, -, -⟩ := hv_
  clear W_
  try simp only [Act.put, sa0, sa1, sa2]
  refine wpT_quiet 1 (by rfl) (by kernel_rfl) ?_
  simp only [tk1, tk0, dp1, dp0]
  repeat (go_big_quiet_step (fail))
  refine wpQuiet_nil ?_
  refine wpT_nil ?_
  intro w6 hK
  have hlt_ := hS.lt
  replace hS := hS.mv hK.ext
  replace hS := hS.addI (show RI w6 (iv s14ar2 A_14ar2 n14ar2 c14ar2) a0 from RP.at1 (hK.at_ 2 (e := ((pv s14ar2 A_14ar2 n14ar2 c14ar2 s14br2 A_14br2 n14br2 c14br2 s14dr2 A_14dr2 n14dr2 c14dr2 s14xr2 A_14xr2 n14xr2 c14xr2 s14yr2 A_14yr2 n14yr2 c14yr2 s14zr2 A_14zr2 n14zr2 c14zr2), lo14r2, hi14r2)) (by rfl)))
  replace hS := hS.addI (show RI w6 (iv s14br2 A_14br2 n14br2 c14br2) a1 from RP.at2 (hK.at_ 2 (e := ((pv s14ar2 A_14ar2 n14ar2 c14ar2 s14br2 A_14br2 n14br2 c14br2 s14dr2 A_14dr2 n14dr2 c14dr2 s14xr2 A_14xr2 n14xr2 c14xr2 s14yr2 A_14yr2 n14yr2 c14yr2 s14zr2 A_14zr2 n14zr2 c14zr2), lo14r2, hi14r2)) (by rfl)))
  replace hS := hS.addI (show RI w6 (iv s14dr2 A_14dr2 n14dr2 c14dr2) a2 from RP.at3 (hK.at_ 2 (e := ((pv s14ar2 A_14ar2 n14ar2 c14ar2 s14br2 A_14br2 n14br2 c14br2 s14dr2 A_14dr2 n14dr2 c14dr2 s14xr2 A_14xr2 n14xr2 c14xr2 s14yr2 A_14yr2 n14yr2 c14yr2 s14zr2 A_14zr2 n14zr2 c14zr2), lo14r2, hi14r2)) (by rfl)))
  replace hS := hS.addI (show RI w6 (iv s14xr2 A_14xr2 n14xr2 c14xr2) (0 : Int) from RP.at4 (hK.at_ 2 (e := ((pv s14ar2 A_14ar2 n14ar2 c14ar2 s14br2 A_14br2 n14br2 c14br2 s14dr2 A_14dr2 n14dr2 c14dr2 s14xr2 A_14xr2 n14xr2 c14xr2 s14yr2 A_14yr2 n14yr2 c14yr2 s14zr2 A_14zr2 n14zr2 c14zr2), lo14r2, hi14r2)) (by rfl)))
  replace hS := hS.addI (show RI w6 (iv s14yr2 A_14yr2 n14yr2 c14yr2) (0 : Int) from RP.at5 (hK.at_ 2 (e := ((pv s14ar2 A_14ar2 n14ar2 c14ar2 s14br2 A_14br2 n14br2 c14br2 s14dr2 A_14dr2 n14dr2 c14dr2 s14xr2 A_14xr2 n14xr2 c14xr2 s14yr2 A_14yr2 n14yr2 c14yr2 s14zr2 A_14zr2 n14zr2 c14zr2), lo14r2, hi14r2)) (by rfl)))
  replace hS := hS.addI (show RI w6 (iv s14zr2 A_14zr2 n14zr2 c14zr2) (1 : Int) from RP.at6 (hK.at_ 2 (e := ((pv s14ar2 A_14ar2 n14ar2 c14ar2 s14br2 A_14br2 n14br2 c14br2 s14dr2 A_14dr2 n14dr2 c14dr2 s14xr2 A_14xr2 n14xr2 c14xr2 s14yr2 A_14yr2 n14yr2 c14yr2 s14zr2 A_14zr2 n14zr2 c14zr2), lo14r2, hi14r2)) (by rfl)))
  replace hS := hS.addI (show RI w6 (iv s16ar2 A_16ar2 n16ar2 c16ar2) a3 from RP.at1 (hK.at_ 4 (e := ((pv s16ar2 A_16ar2 n16ar2 c16ar2 s16br2 A_16br2 n16br2 c16br2 s16dr2 A_16dr2 n16dr2 c16dr2 s16xr2 A_16xr2 n16xr2 c16xr2 s16yr2 A_16yr2 n16yr2 c16yr2 s16zr2 A_16zr2 n16zr2 c16zr2), lo16r2, hi16r2)) (by rfl)))
  replace hS := hS.addI (show RI w6 (iv s16br2 A_16br2 n16br2 c16br2) a4 from RP.at2 (hK.at_ 4 (e := ((pv s16ar2 A_16ar2 n16ar2 c16ar2 s16br2 A_16br2 n16br2 c16br2 s16dr2 A_16dr2 n16dr2 c16dr2 s16xr2 A_16xr2 n16xr2 c16xr2 s16yr2 A_16yr2 n16yr2 c16yr2 s16zr2 A_16zr2 n16zr2 c16zr2), lo16r2, hi16r2)) (by rfl)))
  replace hS := hS.addI (show RI w6 (iv s16dr2 A_16dr2 n16dr2 c16dr2) a5 from RP.at3 (hK.at_ 4 (e := ((pv s16ar2 A_16ar2 n16ar2 c16ar2 s16br2 A_16br2 n16br2 c16br2 s16dr2 A_16dr2 n16dr2 c16dr2 s16xr2 A_16xr2 n16xr2 c16xr2 s16yr2 A_16yr2 n16yr2 c16yr2 s16zr2 A_16zr2 n16zr2 c16zr2), lo16r2, hi16r2)) (by rfl)))
  replace hS := hS.addI (show RI w6 (iv s16xr2 A_16xr2 n16xr2 c16xr2) (0 : Int) from RP.at4 (hK.at_ 4 (e := ((pv s16ar2 A_16ar2 n16ar2 c16ar2 s16br2 A_16br2 n16br2 c16br2 s16dr2 A_16dr2 n16dr2 c16dr2 s16xr2 A_16xr2 n16xr2 c16xr2 s16yr2 A_16yr2 n16yr2 c16yr2 s16zr2 A_16zr2 n16zr2 c16zr2), lo16r2, hi16r2)) (by rfl)))
  replace hS := hS.addI (show RI w6 (iv s16yr2 A_16yr2 n16yr2 c16yr2) (0 : Int) from RP.at5 (hK.at_ 4 (e := ((pv s16ar2 A_16ar2 n16ar2 c16ar2 s16br2 A_16br2 n16br2 c16br2 s16dr2 A_16dr2 n16dr2 c16dr2 s16xr2 A_16xr2 n16xr2 c16xr2 s16yr2 A_16yr2 n16yr2 c16yr2 s16zr2 A_16zr2 n16zr2 c16zr2), lo16r2, hi16r2)) (by rfl)))
  replace hS := hS.addI (show RI w6 (iv s16zr2 A_16zr2 n16zr2 c16zr2) (1 : Int) from RP.at6 (hK.at_ 4 (e := ((pv s16ar2 A_16ar2 n16ar2 c16ar2 s16br2 A_16br2 n16br2 c16br2 s16dr2 A_16dr2 n16dr2 c16dr2 s16xr2 A_16xr2 n16xr2 c16xr2 s16yr2 A_16yr2 n16yr2 c16yr2 s16zr2 A_16zr2 n16zr2 c16zr2), lo16r2, hi16r2)) (by rfl)))
  replace hS := hS.addI (show RI w6 (iv s19ar2 A_19ar2 n19ar2 c19ar2) z19ar2 from RP.at1 (hK.at_ 7 (e := ((pv s19ar2 A_19ar2 n19ar2 c19ar2 s19br2 A_19br2 n19br2 c19br2 s19dr2 A_19dr2 n19dr2 c19dr2 s19xr2 A_19xr2 n19xr2 c19xr2 s19yr2 A_19yr2 n19yr2 c19yr2 s19zr2 A_19zr2 n19zr2 c19zr2), lo19r2, hi19r2)) (by rfl)))
  replace hS := hS.addI (show RI w6 (iv s19br2 A_19br2 n19br2 c19br2) z19br2 from RP.at2 (hK.at_ 7 (e := ((pv s19ar2 A_19ar2 n19ar2 c19ar2 s19br2 A_19br2 n19br2 c19br2 s19dr2 A_19dr2 n19dr2 c19dr2 s19xr2 A_19xr2 n19xr2 c19xr2 s19yr2 A_19yr2 n19yr2 c19yr2 s19zr2 A_19zr2 n19zr2 c19zr2), lo19r2, hi19r2)) (by rfl)))
  replace hS := hS.addI (show RI w6 (iv s19dr2 A_19dr2 n19dr2 c19dr2) z19dr2 from RP.at3 (hK.at_ 7 (e := ((pv s19ar2 A_19ar2 n19ar2 c19ar2 s19br2 A_19br2 n19br2 c19br2 s19dr2 A_19dr2 n19dr2 c19dr2 s19xr2 A_19xr2 n19xr2 c19xr2 s19yr2 A_19yr2 n19yr2 c19yr2 s19zr2 A_19zr2 n19zr2 c19zr2), lo19r2, hi19r2)) (by rfl)))
  replace hS := hS.addI (show RI w6 (iv s19xr2 A_19xr2 n19xr2 c19xr2) z19xr2 from RP.at4 (hK.at_ 7 (e := ((pv s19ar2 A_19ar2 n19ar2 c19ar2 s19br2 A_19br2 n19br2 c19br2 s19dr2 A_19dr2 n19dr2 c19dr2 s19xr2 A_19xr2 n19xr2 c19xr2 s19yr2 A_19yr2 n19yr2 c19yr2 s19zr2 A_19zr2 n19zr2 c19zr2), lo19r2, hi19r2)) (by rfl)))
  replace hS := hS.addI (show RI w6 (iv s19yr2 A_19yr2 n19yr2 c19yr2) z19yr2 from RP.at5 (hK.at_ 7 (e := ((pv s19ar2 A_19ar2 n19ar2 c19ar2 s19br2 A_19br2 n19br2 c19br2 s19dr2 A_19dr2 n19dr2 c19dr2 s19xr2 A_19xr2 n19xr2 c19xr2 s19yr2 A_19yr2 n19yr2 c19yr2 s19zr2 A_19zr2 n19zr2 c19zr2), lo19r2, hi19r2)) (by rfl)))
  replace hS := hS.addI (show RI w6 (iv s19zr2 A_19zr2 n19zr2 c19zr2) z19zr2 from RP.at6 (hK.at_ 7 (e := ((pv s19ar2 A_19ar2 n19ar2 c19ar2 s19br2 A_19br2 n19br2 c19br2 s19dr2 A_19dr2 n19dr2 c19dr2 s19xr2 A_19xr2 n19xr2 c19xr2 s19yr2 A_19yr2 n19yr2 c19yr2 s19zr2 A_19zr2 n19zr2 c19zr2), lo19r2, hi19r2)) (by rfl)))
  replace hS := hS.addI (show RI w6 (iv s21ar2 A_21ar2 n21ar2 c21ar2) a6 from RP.at1 (hK.at_ 9 (e := ((pv s21ar2 A_21ar2 n21ar2 c21ar2 s21br2 A_21br2 n21br2 c21br2 s21dr2 A_21dr2 n21dr2 c21dr2 s21xr2 A_21xr2 n21xr2 c21xr2 s21yr2 A_21yr2 n21yr2 c21yr2 s21zr2 A_21zr2 n21zr2 c21zr2), lo21r2, hi21r2)) (by rfl)))
  replace hS := hS.addI (show RI w6 (iv s21br2 A_21br2 n21br2 c21br2) a7 from RP.at2 (hK.at_ 9 (e := ((pv s21ar2 A_21ar2 n21ar2 c21ar2 s21br2 A_21br2 n21br2 c21br2 s21dr2 A_21dr2 n21dr2 c21dr2 s21xr2 A_21xr2 n21xr2 c21xr2 s21yr2 A_21yr2 n21yr2 c21yr2 s21zr2 A_21zr2 n21zr2 c21zr2), lo21r2, hi21r2)) (by rfl)))
  replace hS := hS.addI (show RI w6 (iv s21dr2 A_21dr2 n21dr2 c21dr2) a8 from RP.at3 (hK.at_ 9 (e := ((pv s21ar2 A_21ar2 n21ar2 c21ar2 s21br2 A_21br2 n21br2 c21br2 s21dr2 A_21dr2 n21dr2 c21dr2 s21xr2 A_21xr2 n21xr2 c21xr2 s21yr2 A_21yr2 n21yr2 c21yr2 s21zr2 A_21zr2 n21zr2 c21zr2), lo21r2, hi21r2)) (by rfl)))
  replace hS := hS.addI (show RI w6 (iv s21xr2 A_21xr2 n21xr2 c21xr2) (0 : Int) from RP.at4 (hK.at_ 9 (e := ((pv s21ar2 A_21ar2 n21ar2 c21ar2 s21br2 A_21br2 n21br2 c21br2 s21dr2 A_21dr2 n21dr2 c21dr2 s21xr2 A_21xr2 n21xr2 c21xr2 s21yr2 A_21yr2 n21yr2 c21yr2 s21zr2 A_21zr2 n21zr2 c21zr2), lo21r2, hi21r2)) (by rfl)))
  replace hS := hS.addI (show RI w6 (iv s21yr2 A_21yr2 n21yr2 c21yr2) (0 : Int) from RP.at5 (hK.at_ 9 (e := ((pv s21ar2 A_21ar2 n21ar2 c21ar2 s21br2 A_21br2 n21br2 c21br2 s21dr2 A_21dr2 n21dr2 c21dr2 s21xr2 A_21xr2 n21xr2 c21xr2 s21yr2 A_21yr2 n21yr2 c21yr2 s21zr2 A_21zr2 n21zr2 c21zr2), lo21r2, hi21r2)) (by rfl)))
  replace hS := hS.addI (show RI w6 (iv s21zr2 A_21zr2 n21zr2 c21zr2) (1 : Int) from RP.at6 (hK.at_ 9 (e := ((pv s21ar2 A_21ar2 n21ar2 c21ar2 s21br2 A_21br2 n21br2 c21br2 s21dr2 A_21dr2 n21dr2 c21dr2 s21xr2 A_21xr2 n21xr2 c21xr2 s21yr2 A_21yr2 n21yr2 c21yr2 s21zr2 A_21zr2 n21zr2 c21zr2), lo21r2, hi21r2)) (by rfl)))
  replace hS := hS.addI (show RI w6 (iv s24ar2 A_24ar2 n24ar2 c24ar2) z24ar2 from RP.at1 (hK.at_ 12 (e := ((pv s24ar2 A_24ar2 n24ar2 c24ar2 s24br2 A_24br2 n24br2 c24br2 s24dr2 A_24dr2 n24dr2 c24dr2 s24xr2 A_24xr2 n24xr2 c24xr2 s24yr2 A_24yr2 n24yr2 c24yr2 s24zr2 A_24zr2 n24zr2 c24zr2), lo24r2, hi24r2)) (by rfl)))
  replace hS := hS.addI (show RI w6 (iv s24br2 A_24br2 n24br2 c24br2) z24br2 from RP.at2 (hK.at_ 12 (e := ((pv s24ar2 A_24ar2 n24ar2 c24ar2 s24br2 A_24br2 n24br2 c24br2 s24dr2 A_24dr2 n24dr2 c24dr2 s24xr2 A_24xr2 n24xr2 c24xr2 s24yr2 A_24yr2 n24yr2 c24yr2 s24zr2 A_24zr2 n24zr2 c24zr2), lo24r2, hi24r2)) (by rfl)))
  replace hS := hS.addI (show RI w6 (iv s24dr2 A_24dr2 n24dr2 c24dr2) z24dr2 from RP.at3 (hK.at_ 12 (e := ((pv s24ar2 A_24ar2 n24ar2 c24ar2 s24br2 A_24br2 n24br2 c24br2 s24dr2 A_24dr2 n24dr2 c24dr2 s24xr2 A_24xr2 n24xr2 c24xr2 s24yr2 A_24yr2 n24yr2 c24yr2 s24zr2 A_24zr2 n24zr2 c24zr2), lo24r2, hi24r2)) (by rfl)))
  replace hS := hS.addI (show RI w6 (iv s24xr2 A_24xr2 n24xr2 c24xr2) z24xr2 from RP.at4 (hK.at_ 12 (e := ((pv s24ar2 A_24ar2 n24ar2 c24ar2 s24br2 A_24br2 n24br2 c24br2 s24dr2 A_24dr2 n24dr2 c24dr2 s24xr2 A_24xr2 n24xr2 c24xr2 s24yr2 A_24yr2 n24yr2 c24yr2 s24zr2 A_24zr2 n24zr2 c24zr2), lo24r2, hi24r2)) (by rfl)))
  replace hS := hS.addI (show RI w6 (iv s24yr2 A_24yr2 n24yr2 c24yr2) z24yr2 from RP.at5 (hK.at_ 12 (e := ((pv s24ar2 A_24ar2 n24ar2 c24ar2 s24br2 A_24br2 n24br2 c24br2 s24dr2 A_24dr2 n24dr2 c24dr2 s24xr2 A_24xr2 n24xr2 c24xr2 s24yr2 A_24yr2 n24yr2 c24yr2 s24zr2 A_24zr2 n24zr2 c24zr2), lo24r2, hi24r2)) (by rfl)))
  replace hS := hS.addI (show RI w6 (iv s24zr2 A_24zr2 n24zr2 c24zr2) z24zr2 from RP.at6 (hK.at_ 12 (e := ((pv s24ar2 A_24ar2 n24ar2 c24ar2 s24br2 A_24br2 n24br2 c24br2 s24dr2 A_24dr2 n24dr2 c24dr2 s24xr2 A_24xr2 n24xr2 c24xr2 s24yr2 A_24yr2 n24yr2 c24yr2 s24zr2 A_24zr2 n24zr2 c24zr2), lo24r2, hi24r2)) (by rfl)))
  replace hS := hS.addI (show RI w6 (iv s25ar2 A_25ar2 n25ar2 c25ar2) z25ar2 from RP.at1 (hK.at_ 13 (e := ((pv s25ar2 A_25ar2 n25ar2 c25ar2 s25br2 A_25br2 n25br2 c25br2 s25dr2 A_25dr2 n25dr2 c25dr2 s25xr2 A_25xr2 n25xr2 c25xr2 s25yr2 A_25yr2 n25yr2 c25yr2 s25zr2 A_25zr2 n25zr2 c25zr2), lo25r2, hi25r2)) (by rfl)))
  replace hS := hS.addI (show RI w6 (iv s25br2 A_25br2 n25br2 c25br2) z25br2 from RP.at2 (hK.at_ 13 (e := ((pv s25ar2 A_25ar2 n25ar2 c25ar2 s25br2 A_25br2 n25br2 c25br2 s25dr2 A_25dr2 n25dr2 c25dr2 s25xr2 A_25xr2 n25xr2 c25xr2 s25yr2 A_25yr2 n25yr2 c25yr2 s25zr2 A_25zr2 n25zr2 c25zr2), lo25r2, hi25r2)) (by rfl)))
  replace hS := hS.addI (show RI w6 (iv s25dr2 A_25dr2 n25dr2 c25dr2) z25dr2 from RP.at3 (hK.at_ 13 (e := ((pv s25ar2 A_25ar2 n25ar2 c25ar2 s25br2 A_25br2 n25br2 c25br2 s25dr2 A_25dr2 n25dr2 c25dr2 s25xr2 A_25xr2 n25xr2 c25xr2 s25yr2 A_25yr2 n25yr2 c25yr2 s25zr2 A_25zr2 n25zr2 c25zr2), lo25r2, hi25r2)) (by rfl)))
  replace hS := hS.addI (show RI w6 (iv s25xr2 A_25xr2 n25xr2 c25xr2) z25xr2 from RP.at4 (hK.at_ 13 (e := ((pv s25ar2 A_25ar2 n25ar2 c25ar2 s25br2 A_25br2 n25br2 c25br2 s25dr2 A_25dr2 n25dr2 c25dr2 s25xr2 A_25xr2 n25xr2 c25xr2 s25yr2 A_25yr2 n25yr2 c25yr2 s25zr2 A_25zr2 n25zr2 c25zr2), lo25r2, hi25r2)) (by rfl)))
  replace hS := hS.addI (show RI w6 (iv s25yr2 A_25yr2 n25yr2 c25yr2) z25yr2 from RP.at5 (hK.at_ 13 (e := ((pv s25ar2 A_25ar2 n25ar2 c25ar2 s25br2 A_25br2 n25br2 c25br2 s25dr2 A_25dr2 n25dr2 c25dr2 s25xr2 A_25xr2 n25xr2 c25xr2 s25yr2 A_25yr2 n25yr2 c25yr2 s25zr2 A_25zr2 n25zr2 c25zr2), lo25r2, hi25r2)) (by rfl)))
  replace hS := hS.addI (show RI w6 (iv s25zr2 A_25zr2 n25zr2 c25zr2) z25zr2 from RP.at6 (hK.at_ 13 (e := ((pv s25ar2 A_25ar2 n25ar2 c25ar2 s25br2 A_25br2 n25br2 c25br2 s25dr2 A_25dr2 n25dr2 c25dr2 s25xr2 A_25xr2 n25xr2 c25xr2 s25yr2 A_25yr2 n25yr2 c25yr2 s25zr2 A_25zr2 n25zr2 c25zr2), lo25r2, hi25r2)) (by rfl)))
  replace hS := hS.addI (show RI w6 (iv s26ar2 A_26ar2 n26ar2 c26ar2) z26ar2 from RP.at1 (hK.at_ 14 (e := ((pv s26ar2 A_26ar2 n26ar2 c26ar2 s26br2 A_26br2 n26br2 c26br2 s26dr2 A_26dr2 n26dr2 c26dr2 s26xr2 A_26xr2 n26xr2 c26xr2 s26yr2 A_26yr2 n26yr2 c26yr2 s26zr2 A_26zr2 n26zr2 c26zr2), lo26r2, hi26r2)) (by rfl)))
  replace hS := hS.addI (show RI w6 (iv s26br2 A_26br2 n26br2 c26br2) z26br2 from RP.at2 (hK.at_ 14 (e := ((pv s26ar2 A_26ar2 n26ar2 c26ar2 s26br2 A_26br2 n26br2 c26br2 s26dr2 A_26dr2 n26dr2 c26dr2 s26xr2 A_26xr2 n26xr2 c26xr2 s26yr2 A_26yr2 n26yr2 c26yr2 s26zr2 A_26zr2 n26zr2 c26zr2), lo26r2, hi26r2)) (by rfl)))
  replace hS := hS.addI (show RI w6 (iv s26dr2 A_26dr2 n26dr2 c26dr2) z26dr2 from RP.at3 (hK.at_ 14 (e := ((pv s26ar2 A_26ar2 n26ar2 c26ar2 s26br2 A_26br2 n26br2 c26br2 s26dr2 A_26dr2 n26dr2 c26dr2 s26xr2 A_26xr2 n26xr2 c26xr2 s26yr2 A_26yr2 n26yr2 c26yr2 s26zr2 A_26zr2 n26zr2 c26zr2), lo26r2, hi26r2)) (by rfl)))
  replace hS := hS.addI (show RI w6 (iv s26xr2 A_26xr2 n26xr2 c26xr2) z26xr2 from RP.at4 (hK.at_ 14 (e := ((pv s26ar2 A_26ar2 n26ar2 c26ar2 s26br2 A_26br2 n26br2 c26br2 s26dr2 A_26dr2 n26dr2 c26dr2 s26xr2 A_26xr2 n26xr2 c26xr2 s26yr2 A_26yr2 n26yr2 c26yr2 s26zr2 A_26zr2 n26zr2 c26zr2), lo26r2, hi26r2)) (by rfl)))
  replace hS := hS.addI (show RI w6 (iv s26yr2 A_26yr2 n26yr2 c26yr2) z26yr2 from RP.at5 (hK.at_ 14 (e := ((pv s26ar2 A_26ar2 n26ar2 c26ar2 s26br2 A_26br2 n26br2 c26br2 s26dr2 A_26dr2 n26dr2 c26dr2 s26xr2 A_26xr2 n26xr2 c26xr2 s26yr2 A_26yr2 n26yr2 c26yr2 s26zr2 A_26zr2 n26zr2 c26zr2), lo26r2, hi26r2)) (by rfl)))
  replace hS := hS.addI (show RI w6 (iv s26zr2 A_26zr2 n26zr2 c26zr2) z26zr2 from RP.at6 (hK.at_ 14 (e := ((pv s26ar2 A_26ar2 n26ar2 c26ar2 s26br2 A_26br2 n26br2 c26br2 s26dr2 A_26dr2 n26dr2 c26dr2 s26xr2 A_26xr2 n26xr2 c26xr2 s26yr2 A_26yr2 n26yr2 c26yr2 s26zr2 A_26zr2 n26zr2 c26zr2), lo26r2, hi26r2)) (by rfl)))
  clear hK hlt_ hE_ Y5 Y4 Y3
  have k_5 := (hS.blk 0 rfl).cell
  have k_6 := (hS.blk 0 rfl).frozen
  go_wp2_with fail
  clear k_5 k_6
  replace hS := (St.put (W' := ((((((((((((w6.setCell ⟨g7, 24, none⟩ (.bool s26ar2)).setCell ⟨g7, 25, none⟩ (.slice A_26ar2 n26ar2 c26ar2)).setCell ⟨g7, 26, none⟩ (.bool s26br2)).setCell ⟨g7, 27, none⟩ (.slice A_26br2 n26br2 c26br2)).setCell ⟨g7, 28, none⟩ (.bool s26dr2)).setCell ⟨g7, 29, none⟩ (.slice A_26dr2 n26dr2 c26dr2)).setCell ⟨g7, 30, none⟩ (.bool s26xr2)).setCell ⟨g7, 31, none⟩ (.slice A_26xr2 n26xr2 c26xr2)).setCell ⟨g7, 32, none⟩ (.bool s26yr2)).setCell ⟨g7, 33, none⟩ (.slice A_26yr2 n26yr2 c26yr2)).setCell ⟨g7, 34, none⟩ (.bool s26zr2)).setCell ⟨g7, 35, none⟩ (.slice A_26zr2 n26zr2 c26zr2))) hS 0 24 [.bool s26ar2, .slice A_26ar2 n26ar2 c26ar2, .bool s26br2, .slice A_26br2 n26br2 c26br2, .bool s26dr2, .slice A_26dr2 n26dr2 c26dr2, .bool s26xr2, .slice A_26xr2 n26xr2 c26xr2, .bool s26yr2, .slice A_26yr2 n26yr2 c26yr2, .bool s26zr2, .slice A_26zr2 n26zr2 c26zr2] (cs' := #[.bool s26ar0, .slice A_26ar0 n26ar0 c26ar0, .bool s26br0, .slice A_26br0 n26br0 c26br0, .bool s26dr0, .slice A_26dr0 n26dr0 c26dr0, .bool s26xr0, .slice A_26xr0 n26xr0 c26xr0, .bool s26yr0, .slice A_26yr0 n26yr0 c26yr0, .bool s26zr0, .slice A_26zr0 n26zr0 c26zr0, .bool s26ar1, .slice A_26ar1 n26ar1 c26ar1, .bool s26br1, .slice A_26br1 n26br1 c26br1, .bool s26dr1, .slice A_26dr1 n26dr1 c26dr1, .bool s26xr1, .slice A_26xr1 n26xr1 c26xr1, .bool s26yr1, .slice A_26yr1 n26yr1 c26yr1, .bool s26zr1, .slice A_26zr1 n26zr1 c26zr1, .bool s26ar2, .slice A_26ar2 n26ar2 c26ar2, .bool s26br2, .slice A_26br2 n26br2 c26br2, .bool s26dr2, .slice A_26dr2 n26dr2 c26dr2, .bool s26xr2, .slice A_26xr2 n26xr2 c26xr2, .bool s26yr2, .slice A_26yr2 n26yr2 c26yr2, .bool s26zr2, .slice A_26zr2 n26zr2 c26zr2]) (bs' := _) rfl o7 rfl rfl (by kernel_rfl) rfl)
  simp only [List.set_cons_zero] at hS
  generalize ((((((((((((w6.setCell ⟨g7, 24, none⟩ (.bool s26ar2)).setCell ⟨g7, 25, none⟩ (.slice A_26ar2 n26ar2 c26ar2)).setCell ⟨g7, 26, none⟩ (.bool s26br2)).setCell ⟨g7, 27, none⟩ (.slice A_26br2 n26br2 c26br2)).setCell ⟨g7, 28, none⟩ (.bool s26dr2)).setCell ⟨g7, 29, none⟩ (.slice A_26dr2 n26dr2 c26dr2)).setCell ⟨g7, 30, none⟩ (.bool s26xr2)).setCell ⟨g7, 31, none⟩ (.slice A_26xr2 n26xr2 c26xr2)).setCell ⟨g7, 32, none⟩ (.bool s26yr2)).setCell ⟨g7, 33, none⟩ (.slice A_26yr2 n26yr2 c26yr2)).setCell ⟨g7, 34, none⟩ (.bool s26zr2)).setCell ⟨g7, 35, none⟩ (.slice A_26zr2 n26zr2 c26zr2)) = w7 at hS ⊢
  rw [rounds_succ]
  have k_7 := Lib.hid (hS.blk 0 rfl)
  have k_8 := Lib.hid (hS.blk 1 rfl)
  go_wp2_with (first | (refine wpList_load_row rfl 52 _ rfl g7 (by rfl) 52 _ (0, 0) _ k_7.out Tryz.underlying52 rfl (a3_sz rfl) ?_) | (refine wpList_store_row rfl 52 _ _ rfl g6 _ (by rfl) (by rfl) 52 _ k_8.out (a3_sz rfl) (by rfl) (by kernel_rfl) ?_))
  replace hS := (St.row hS 1 (cs' := #[.bool s26ar0, .slice A_26ar0 n26ar0 c26ar0, .bool s26br0, .slice A_26br0 n26br0 c26br0, .bool s26dr0, .slice A_26dr0 n26dr0 c26dr0, .bool s26xr0, .slice A_26xr0 n26xr0 c26xr0, .bool s26yr0, .slice A_26yr0 n26yr0 c26yr0, .bool s26zr0, .slice A_26zr0 n26zr0 c26zr0, .bool s26ar1, .slice A_26ar1 n26ar1 c26ar1, .bool s26br1, .slice A_26br1 n26br1 c26br1, .bool s26dr1, .slice A_26dr1 n26dr1 c26dr1, .bool s26xr1, .slice A_26xr1 n26xr1 c26xr1, .bool s26yr1, .slice A_26yr1 n26yr1 c26yr1, .bool s26zr1, .slice A_26zr1 n26zr1 c26zr1, .bool s26ar2, .slice A_26ar2 n26ar2 c26ar2, .bool s26br2, .slice A_26br2 n26br2 c26br2, .bool s26dr2, .slice A_26dr2 n26dr2 c26dr2, .bool s26xr2, .slice A_26xr2 n26xr2 c26xr2, .bool s26yr2, .slice A_26yr2 n26yr2 c26yr2, .bool s26zr2, .slice A_26zr2 n26zr2 c26zr2]) (bs' := _) rfl o6 (by kernel_rfl) rfl)
  exact bp_a31 rfl rfl rfl (hS.blk 1 rfl) ⟨_, rfl, ⟨_, _, _, _, _, _, _, _, _, _, _, _, _, _, _, _, _, _, RA.mk (hS.num 89 rfl) (hS.num 88 rfl) (hS.num 87 rfl) (hS.num 86 rfl) (hS.num 85 rfl) (hS.num 84 rfl) (hS.num 47 rfl) (hS.num 46 rfl) (hS.num 45 rfl) (hS.num 44 rfl) (hS.num 43 rfl) (hS.num 42 rfl) (hS.num 5 rfl) (hS.num 4 rfl) (hS.num 3 rfl) (hS.num 2 rfl) (hS.num 1 rfl) (hS.num 0 rfl), I26ur0, Sz.mono S26ur0 (by omega), I26vr0, Sz.mono S26vr0 (by omega), I26ur1, Sz.mono S26ur1 (by omega), I26vr1, Sz.mono S26vr1 (by omega), I26ur2, Sz.mono S26ur2 (by omega), I26vr2, Sz.mono S26vr2 (by omega)⟩, hS.ext⟩

theorem ph0_eq (x y z : GQ) : PQ.plain x + (PQ.plain y * PQ.zp 0 + PQ.plain z * PQ.zp 0) = ph0 x y z := by
  rw [PQ.zp0]
  ext <;> simp only [ph0, PQ.plain, PQ.mk4, PQ.add_u, PQ.add_v, PQ.mul_u, PQ.mul_v, GQ.mul_re, GQ.mul_im, GQ.add_re, GQ.add_im, GQ.i_re, GQ.i_im] <;> grind
theorem ph1_eq (x y z : GQ) : PQ.plain x + (PQ.plain y * PQ.zp 8 + PQ.plain z * PQ.zp 4) = ph1 x y z := by
  rw [PQ.zp8, PQ.zp4]
  ext <;> simp only [ph1, GQ.blend, GQ.ip, PQ.plain, PQ.mk4, PQ.add_u, PQ.add_v, PQ.mul_u, PQ.mul_v, GQ.mul_re, GQ.mul_im, GQ.add_re, GQ.add_im, GQ.i_re, GQ.i_im] <;> grind
theorem ph2_eq (x y z : GQ) : PQ.plain x + (PQ.plain y * PQ.zp 4 + PQ.plain z * PQ.zp 8) = ph2 x y z := by
  rw [PQ.zp8, PQ.zp4]
  ext <;> simp only [ph2, GQ.blend, GQ.ip, PQ.plain, PQ.mk4, PQ.add_u, PQ.add_v, PQ.mul_u, PQ.mul_v, GQ.mul_re, GQ.mul_im, GQ.add_re, GQ.add_im, GQ.i_re, GQ.i_im] <;> grind
theorem ph_sum (x y z : GQ) : ph0 x y z + (ph1 x y z + ph2 x y z) = PQ.plain (GQ.i 3 0 * x) := by
  ext <;> simp only [ph0, ph1, ph2, GQ.blend, GQ.ip, PQ.plain, PQ.add_u, PQ.add_v, GQ.mul_re, GQ.mul_im, GQ.add_re, GQ.add_im, GQ.i_re, GQ.i_im] <;> grind
theorem qPhases_ok (v0 : Value) (q0 : GQ) (n0 : Nat) (v1 : Value) (q1 : GQ) (n1 : Nat) (v2 : Value) (q2 : GQ) (n2 : Nat) (w : World) (hX0 : GV w v0 q0 n0) (hX1 : GV w v1 q1 n1) (hX2 : GV w v2 q2 n2) (hn : 4 * (n0 + n1 + n2) + 1000 ≤ 12800) (m0 : 1 ≤ n0) (m1 : 1 ≤ n1) (m2 : 1 ≤ n2) :
    Calls Tryz.prog 29 #[v0, v1, v2] w fun e w' => ∃ v, e = .returned v ∧ AV w' v (ph0 q0 q1 q2) (ph1 q0 q1 q2) (ph2 q0 q1 q2) (2 * (n0 + n1 + n2) + 200) ∧ Ext w w' := by
  have := qPhases_w v0 q0 n0 v1 q1 n1 v2 q2 n2 w hX0 hX1 hX2 hn m0 m1 m2
  rw [ph0_eq, ph1_eq, ph2_eq] at this
  exact this

end Go.Proofs.YtjeijmnhbckjdaaGreatDoor
