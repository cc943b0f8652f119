/- Numbers that are not valid, in all functions: the walk. -/
import Derived.Test.YtjeijmnhbckjdaaGreatDoorQAnndkn
import Derived.Test.YtjeijmnhbckjdaaGreatDoorQGdoamd
import Derived.Test.YtjeijmnhbckjdaaGreatDoorQGfggbo
import Derived.Test.YtjeijmnhbckjdaaGreatDoorQRowGkpce
namespace Go.Proofs.YtjeijmnhbckjdaaGreatDoor
open Go.RowKit
set_option linter.unusedVariables false

theorem xZero_b (v : Value) (q : GQ) (n : Nat) (b : Bool) (w : World) (hX : GV w v q n) (hn : n ≤ 12800) (h : b = true ↔ q = GQ.i 0 0) :
    Calls Tryz.prog 38 #[v] w fun e w' => e = .returned (.bool b) ∧ Ext w w' := by
  cases b
  · exact xZero_no v q n w hX hn (fun e => by simp [e] at h)
  · exact xZero_yes v q n w hX hn (h.1 rfl)
theorem qZero_b (v : Value) (q : GQ) (n : Nat) (b : Bool) (w : World) (hX : GV w v q n) (hn : n ≤ 12800) (h : b = true ↔ q = GQ.i 0 0) :
    Calls Tryz.prog 40 #[v] w fun e w' => e = .returned (.bool b) ∧ Ext w w' := by
  cases b
  · exact qZero_no v q n w hX hn (fun e => by simp [e] at h)
  · exact qZero_yes v q n w hX hn (h.1 rfl)
theorem xSame_b (v u : Value) (q q' : GQ) (m n : Nat) (b : Bool) (w : World) (hX : GV w v q m) (hY : GV w u q' n) (hm : m ≤ 12800) (hn : n ≤ 12800) (h : b = true ↔ q = q') :
    Calls Tryz.prog 41 #[v, u] w fun e w' => e = .returned (.bool b) ∧ Ext w w' := by
  cases b
  · exact xSame_no v u q q' m n w hX hY hm hn (fun e => by simp [e] at h)
  · exact xSame_q v u q q' m n w hX hY hm hn (h.1 rfl)
theorem qSame_b_ (v u : Value) (q q' : GQ) (m n : Nat) (b : Bool) (w : World) (hX : GV w v q m) (hY : GV w u q' n) (h : b = true ↔ q = q') :
    Calls Tryz.prog 13 #[v, u] w fun e w' => e = .returned (.bool b) ∧ Ext w w' := by
  cases b
  · exact qSame_ne v u q q' m n w hX hY (fun e => by simp [e] at h)
  · exact qSame_q v u q q' m n w hX hY (h.1 rfl)

set_option maxRecDepth 100000 in
set_option maxHeartbeats 1600000 in
theorem comp_large (a6 : Bool) (a7 : Option Addr) (a0 a8 : Nat) (a9 : Bool) (aa : Option Addr) (a1 ab : Nat) (ac : Bool) (ad : Option Addr) (a2 ae : Nat) (af : Bool) (ag : Option Addr) (a3 ah : Nat) (ai : Bool) (aj : Option Addr) (a4 ak : Nat) (am : Bool) (an : Option Addr) (a5 ao : Nat) (w : World) (hTab : Tab w) (HL : Hid ([a0, a1, a2, a3, a4, a5].all (fun n => decide (n ≤ 40)) = false))
      :
    Calls Tryz.prog 9 #[gv a6 a7 a0 a8 a9 aa a1 ab ac ad a2 ae, gv af ag a3 ah ai aj a4 ak am an a5 ao] w fun e w' => e = .returned (.bool true) ∧ Ext w w' := by
  have hS := St.start w
  have o2 : Own w w.heap.size := Own.of hS.ext (by simp)
  have o3 : Own w (w.heap.size + 1) := Own.of hS.ext (by simp)
  have ap := (St.al (St.al hS 26 #[.bool a6, .slice a7 a0 a8, .bool a9, .slice aa a1 ab, .bool ac, .slice ad a2 ae] (g := w.heap.size) (by simp)) 26 #[.bool af, .slice ag a3 ah, .bool ai, .slice aj a4 ak, .bool am, .slice an a5 ao] (g := (w.heap.size + 1)) (by simp))
  have k_1 := (ap.blk 1 rfl).cell
  have k_2 := (ap.blk 0 rfl).cell
  have o17 : Own w (w.heap.size + 2) := Own.of hS.ext (by simp)
  go_enter Tryz.func9, Tryz.ntmps9
  go_wp2_with fail
  clear k_1 k_2
  clear ap
  replace hS := (St.al (St.al (St.al hS 26 #[.bool a6, .slice a7 a0 a8, .bool a9, .slice aa a1 ab, .bool ac, .slice ad a2 ae] (g := w.heap.size) (by simp)) 26 #[.bool af, .slice ag a3 ah, .bool ai, .slice aj a4 ak, .bool am, .slice an a5 ao] (g := (w.heap.size + 1)) (by simp)) 26 #[.bool a6, .slice a7 a0 a8, .bool a9, .slice aa a1 ab, .bool ac, .slice ad a2 ae, .bool af, .slice ag a3 ah, .bool ai, .slice aj a4 ak, .bool am, .slice an a5 ao] (g := (w.heap.size + 2)) (by simp))
  generalize (((w.alloc (.cells #[.bool a6, .slice a7 a0 a8, .bool a9, .slice aa a1 ab, .bool ac, .slice ad a2 ae] 26)).alloc (.cells #[.bool af, .slice ag a3 ah, .bool ai, .slice aj a4 ak, .bool am, .slice an a5 ao] 26)).alloc (.cells #[.bool a6, .slice a7 a0 a8, .bool a9, .slice aa a1 ab, .bool ac, .slice ad a2 ae, .bool af, .slice ag a3 ah, .bool ai, .slice aj a4 ak, .bool am, .slice an a5 ao] 26)) = w1 at hS ⊢
  generalize w.heap.size + 2 = g17 at hS o17 ⊢
  generalize w.heap.size + 1 = g3 at hS o3 ⊢
  generalize w.heap.size = g2 at hS o2 ⊢
  refine (low2_raw g17 40 false _ (hS.blk 0 rfl) HL.out).mono ?_
  rintro e w2 ⟨rfl, hx_⟩
  replace hS := hS.mv hx_
  clear hx_
  go_wp2_with fail
  refine (lxknown_ok _ (tab_ext hTab hS.ext)).mono ?_
  rintro e w3 ⟨rfl, hx_⟩
  replace hS := hS.mv hx_
  clear hx_
  go_wp2
  go_ret
  exact ⟨ret_bool (rfl), hS.ext⟩

set_option maxRecDepth 100000 in
set_option maxHeartbeats 25600000 in
theorem comp_ff (a3 : Bool) (a4 : Option Addr) (a0 a5 : Nat) (a6 : Bool) (a7 : Option Addr) (a1 a8 : Nat) (a9 : Bool) (aa : Option Addr) (a2 ab : Nat) (af : Bool) (ag : Option Addr) (ac ah : Nat) (ai : Bool) (aj : Option Addr) (ad ak : Nat) (am : Bool) (an : Option Addr) (ae ao : Nat) (w : World) (hV0 : VB w (gv a3 a4 a0 a5 a6 a7 a1 a8 a9 aa a2 ab) false) (hV1 : VB w (gv af ag ac ah ai aj ad ak am an ae ao) false) (hTab : Tab w) (HL : Hid ([a0, a1, a2, ac, ad, ae].all (fun n => decide (n ≤ 40)) = true))
      :
    Calls Tryz.prog 9 #[gv a3 a4 a0 a5 a6 a7 a1 a8 a9 aa a2 ab, gv af ag ac ah ai aj ad ak am an ae ao] w fun e w' => e = .returned (.bool true) ∧ Ext w w' := by
  have hS := St.start w
  have o2 : Own w w.heap.size := Own.of hS.ext (by simp)
  have o3 : Own w (w.heap.size + 1) := Own.of hS.ext (by simp)
  have bq := (St.al (St.al hS 26 #[.bool a3, .slice a4 a0 a5, .bool a6, .slice a7 a1 a8, .bool a9, .slice aa a2 ab] (g := w.heap.size) (by simp)) 26 #[.bool af, .slice ag ac ah, .bool ai, .slice aj ad ak, .bool am, .slice an ae ao] (g := (w.heap.size + 1)) (by simp))
  have k_1 := (bq.blk 1 rfl).cell
  have k_2 := (bq.blk 0 rfl).cell
  have o17 : Own w (w.heap.size + 2) := Own.of hS.ext (by simp)
  go_enter Tryz.func9, Tryz.ntmps9
  go_wp2_with fail
  clear k_1 k_2
  clear bq
  replace hS := (St.al (St.al (St.al hS 26 #[.bool a3, .slice a4 a0 a5, .bool a6, .slice a7 a1 a8, .bool a9, .slice aa a2 ab] (g := w.heap.size) (by simp)) 26 #[.bool af, .slice ag ac ah, .bool ai, .slice aj ad ak, .bool am, .slice an ae ao] (g := (w.heap.size + 1)) (by simp)) 26 #[.bool a3, .slice a4 a0 a5, .bool a6, .slice a7 a1 a8, .bool a9, .slice aa a2 ab, .bool af, .slice ag ac ah, .bool ai, .slice aj ad ak, .bool am, .slice an ae ao] (g := (w.heap.size + 2)) (by simp))
  generalize (((w.alloc (.cells #[.bool a3, .slice a4 a0 a5, .bool a6, .slice a7 a1 a8, .bool a9, .slice aa a2 ab] 26)).alloc (.cells #[.bool af, .slice ag ac ah, .bool ai, .slice aj ad ak, .bool am, .slice an ae ao] 26)).alloc (.cells #[.bool a3, .slice a4 a0 a5, .bool a6, .slice a7 a1 a8, .bool a9, .slice aa a2 ab, .bool af, .slice ag ac ah, .bool ai, .slice aj ad ak, .bool am, .slice an ae ao] 26)) = w1 at hS ⊢
  generalize w.heap.size + 2 = g17 at hS o17 ⊢
  generalize w.heap.size + 1 = g3 at hS o3 ⊢
  generalize w.heap.size = g2 at hS o2 ⊢
  refine (low2_raw g17 40 true _ (hS.blk 0 rfl) HL.out).mono ?_
  rintro e w2 ⟨rfl, hx_⟩
  replace hS := hS.mv hx_
  clear hx_
  go_wp2_with fail
  have Y3 := ExtOf.blk (hS.blk 1 rfl)
  have Y2 := ExtOf.blk (hS.blk 2 rfl)
  have hE_ := hS.ext
  refine wp_region_tame 4 (hasF [(1, .any), (3, .any)]) (Fcs [(1, .eq (.bool false)), (3, .eq (.bool false))]) (Fcs_stab _) (by kernel_rfl) (by kernel_rfl) ?_
  simp only [tk1, tk0, dp1, dp0]
  refine wpT_quiet 1 (by rfl) (by kernel_rfl) ?_
  simp only [tk1, tk0, dp1, dp0]
  repeat (go_big_quiet_step (fail))
  refine wpQuiet_nil ?_
  refine wpT_eff (by rfl) (by rfl) (by rfl) ?_ ?_
  · intro W_ hK
    have hW := hK.1
    clear hK
    go_simp
    exact ⟨rfl, (VB.q (hV0.ext (hE_.trans hW))).mono fun e w' ⟨he, hx⟩ => ⟨_, he, hx, rfl⟩⟩
  intro v_ lo22 hi22 hr_
  obtain ⟨W_, hW_⟩ := hr_
  obtain rfl : v_ = .bool false := hW_.get
  clear hW_ W_
  try simp only [Act.put, sa0, sa1, sa2]
  refine wpT_quiet 1 (by rfl) (by kernel_rfl) ?_
  simp only [tk1, tk0, dp1, dp0]
  repeat (go_big_quiet_step (fail))
  refine wpQuiet_nil ?_
  refine wpT_eff (by rfl) (by rfl) (by rfl) ?_ ?_
  · intro W_ hK
    have hW := hK.1
    clear hK
    go_simp
    exact ⟨rfl, (VB.q (hV1.ext (hE_.trans hW))).mono fun e w' ⟨he, hx⟩ => ⟨_, he, hx, rfl⟩⟩
  intro v_ lo24 hi24 hr_
  obtain ⟨W_, hW_⟩ := hr_
  obtain rfl : v_ = .bool false := hW_.get
  clear hW_ W_
  try simp only [Act.put, sa0, sa1, sa2]
  refine wpT_nil ?_
  intro w3 hK
  have hlt_ := hS.lt
  replace hS := hS.mv hK.ext
  clear hK hlt_ hE_ Y3 Y2
  go_wp2_with fail
  have Y3 := ExtOf.blk (hS.blk 1 rfl)
  have Y2 := ExtOf.blk (hS.blk 2 rfl)
  have hE_ := hS.ext
  refine wp_region_tame 41 (hasF [(1, .any), (6, .any), (12, .any), (14, .any), (19, .any), (30, .any)]) (Fcs [(1, .eq (.bool false)), (6, .eq (.bool false)), (12, .eq (.string ⟨#[]⟩)), (14, .eq (.string ⟨#[]⟩)), (19, .eq (.bool false)), (30, .eq (.bool false))]) (Fcs_stab _) (by kernel_rfl) (by kernel_rfl) ?_
  simp only [tk1, tk0, dp1, dp0]
  refine wpT_quiet 1 (by rfl) (by kernel_rfl) ?_
  simp only [tk1, tk0, dp1, dp0]
  repeat (go_big_quiet_step (fail))
  refine wpQuiet_nil ?_
  refine wpT_eff (by rfl) (by rfl) (by rfl) ?_ ?_
  · intro W_ hK
    have hW := hK.1
    clear hK
    go_simp
    exact ⟨rfl, (VB.e (hV0.ext (hE_.trans hW))).mono fun e w' ⟨he, hx⟩ => ⟨_, he, hx, rfl⟩⟩
  intro v_ lo26 hi26 hr_
  obtain ⟨W_, hW_⟩ := hr_
  obtain rfl : v_ = .bool false := hW_.get
  clear hW_ W_
  try simp only [Act.put, sa0, sa1, sa2]
  refine wpT_quiet 4 (by rfl) (by kernel_rfl) ?_
  simp only [tk1, tk0, dp1, dp0]
  repeat (go_big_quiet_step (fail))
  refine wpQuiet_nil ?_
  refine wpT_eff (by rfl) (by rfl) (by rfl) ?_ ?_
  · intro W_ hK
    have hW := hK.1
    clear hK
    go_simp
    exact ⟨rfl, (VB.e (hV1.ext (hE_.trans hW))).mono fun e w' ⟨he, hx⟩ => ⟨_, he, hx, rfl⟩⟩
  intro v_ lo31 hi31 hr_
  obtain ⟨W_, hW_⟩ := hr_
  obtain rfl : v_ = .bool false := hW_.get
  clear hW_ W_
  try simp only [Act.put, sa0, sa1, sa2]
  refine wpT_quiet 5 (by rfl) (by kernel_rfl) ?_
  simp only [tk1, tk0, dp1, dp0]
  repeat (go_big_quiet_step (fail))
  refine wpQuiet_nil ?_
  refine wpT_eff (by rfl) (by rfl) (by rfl) ?_ ?_
  · intro W_ hK
    have hW := hK.1
    clear hK
    go_simp
    exact ⟨rfl, (xText_bad a3 a4 a0 a5 a6 a7 a1 a8 a9 aa a2 ab _ (hV0.ext (hE_.trans hW))).mono fun e w' ⟨he, hx⟩ => ⟨_, he, hx, rfl⟩⟩
  intro v_ lo37 hi37 hr_
  obtain ⟨W_, hW_⟩ := hr_
  obtain rfl : v_ = .string ⟨#[]⟩ := hW_.get
  clear hW_ W_
  try simp only [Act.put, sa0, sa1, sa2]
  refine wpT_quiet 1 (by rfl) (by kernel_rfl) ?_
  simp only [tk1, tk0, dp1, dp0]
  repeat (go_big_quiet_step (fail))
  refine wpQuiet_nil ?_
  refine wpT_eff (by rfl) (by rfl) (by rfl) ?_ ?_
  · intro W_ hK
    have hW := hK.1
    clear hK
    go_simp
    exact ⟨rfl, (qText_bad a3 a4 a0 a5 a6 a7 a1 a8 a9 aa a2 ab _ (hV0.ext (hE_.trans hW))).mono fun e w' ⟨he, hx⟩ => ⟨_, he, hx, rfl⟩⟩
  intro v_ lo39 hi39 hr_
  obtain ⟨W_, hW_⟩ := hr_
  obtain rfl : v_ = .string ⟨#[]⟩ := hW_.get
  clear hW_ W_
  try simp only [Act.put, sa0, sa1, sa2]
  refine wpT_quiet 4 (by rfl) (by kernel_rfl) ?_
  simp only [tk1, tk0, dp1, dp0]
  repeat (go_big_quiet_step (fail))
  refine wpQuiet_nil ?_
  refine wpT_eff (by rfl) (by rfl) (by rfl) ?_ ?_
  · intro W_ hK
    have hW := hK.1
    clear hK
    go_simp
    exact ⟨rfl, (xZero_bad a3 a4 a0 a5 a6 a7 a1 a8 a9 aa a2 ab _ (hV0.ext (hE_.trans hW))).mono fun e w' ⟨he, hx⟩ => ⟨_, he, hx, rfl⟩⟩
  intro v_ lo44 hi44 hr_
  obtain ⟨W_, hW_⟩ := hr_
  obtain rfl : v_ = .bool false := hW_.get
  clear hW_ W_
  try simp only [Act.put, sa0, sa1, sa2]
  refine wpT_quiet 3 (by rfl) (by kernel_rfl) ?_
  simp only [tk1, tk0, dp1, dp0]
  repeat (go_big_quiet_step (fail))
  refine wpQuiet_nil ?_
  refine wpT_skip (by rfl) (by rfl) ?_
  try simp only [Act.put, sa0, sa1, sa2]
  refine wpT_quiet 6 (by rfl) (by kernel_rfl) ?_
  simp only [tk1, tk0, dp1, dp0]
  repeat (go_big_quiet_step (fail))
  refine wpQuiet_nil ?_
  refine wpT_eff (by rfl) (by rfl) (by rfl) ?_ ?_
  · intro W_ hK
    have hW := hK.1
    clear hK
    go_simp
    exact ⟨rfl, (xSame_bad a3 a4 a0 a5 a6 a7 a1 a8 a9 aa a2 ab false af ag ac ah ai aj ad ak am an ae ao false _ (hV0.ext (hE_.trans hW)) (hV1.ext (hE_.trans hW)) (Lib.hid rfl)).mono fun e w' ⟨he, hx⟩ => ⟨_, he, hx, rfl⟩⟩
  intro v_ lo55 hi55 hr_
  obtain ⟨W_, hW_⟩ := hr_
  obtain rfl : v_ = .bool false := hW_.get
  clear hW_ W_
  try simp only [Act.put, sa0, sa1, sa2]
  refine wpT_quiet 7 (by rfl) (by kernel_rfl) ?_
  simp only [tk1, tk0, dp1, dp0]
  repeat (go_big_quiet_step (fail))
  refine wpQuiet_nil ?_
  refine wpT_skip (by rfl) (by rfl) ?_
  try simp only [Act.put, sa0, sa1, sa2]
  refine wpT_quiet 2 (by rfl) (by kernel_rfl) ?_
  simp only [tk1, tk0, dp1, dp0]
  repeat (go_big_quiet_step (fail))
  refine wpQuiet_nil ?_
  refine wpT_nil ?_
  intro w4 hK
  have hlt_ := hS.lt
  replace hS := hS.mv hK.ext
  clear hK hlt_ hE_ Y3 Y2
  have k_3 := (hS.blk 2 rfl).cell
  have k_4 := (hS.blk 1 rfl).cell
  go_wp2_with fail
  clear k_3 k_4
  refine (xAdd_bad a3 a4 a0 a5 a6 a7 a1 a8 a9 aa a2 ab false af ag ac ah ai aj ad ak am an ae ao false _ (hV0.ext hS.ext) (hV1.ext hS.ext) (Lib.hid rfl)).mono ?_
  rintro e w5 ⟨v_, rfl, hv_, hx_⟩
  replace hS := hS.mv hx_
  clear hx_
  obtain ⟨_, rfl, aP, ap, aQ, aR, aS, aq, aT, aU, aV, ar, aW, aX, rfl, au, av, aw⟩ := hv_
  replace hS := hS.addI au
  clear au
  replace hS := hS.addI av
  clear av
  replace hS := hS.addI aw
  clear aw
  have o7 : Own w w5.heap.size := Own.of hS.ext (by simp)
  have br := (St.al hS 26 #[.bool false, .slice none 0 0, .bool false, .slice none 0 0, .bool false, .slice none 0 0] (g := w5.heap.size) (by simp))
  have k_5 := (br.blk 0 rfl).cell
  have k_6 := (br.blk 0 rfl).frozen
  have bs := (St.al hS 26 #[.bool aP, .slice ap aQ aR, .bool aS, .slice aq aT aU, .bool aV, .slice ar aW aX] (g := w5.heap.size) (by simp))
  have k_7 := (bs.blk 3 rfl).cell
  have k_8 := (bs.blk 2 rfl).cell
  go_wp2_with fail
  clear k_5 k_6 k_7 k_8
  clear br bs
  replace hS := (St.al hS 26 #[.bool aP, .slice ap aQ aR, .bool aS, .slice aq aT aU, .bool aV, .slice ar aW aX] (g := w5.heap.size) (by simp))
  generalize (w5.alloc (.cells #[.bool aP, .slice ap aQ aR, .bool aS, .slice aq aT aU, .bool aV, .slice ar aW aX] 26)) = w6 at hS ⊢
  generalize w5.heap.size = g7 at hS o7 ⊢
  refine (xSub_bad a3 a4 a0 a5 a6 a7 a1 a8 a9 aa a2 ab false af ag ac ah ai aj ad ak am an ae ao false _ (hV0.ext hS.ext) (hV1.ext hS.ext) (Lib.hid rfl)).mono ?_
  rintro e w7 ⟨v_, rfl, hv_, hx_⟩
  replace hS := hS.mv hx_
  clear hx_
  obtain ⟨_, rfl, aY, ax, aZ, b0, b1, ay, b2, b3, b4, az, b5, b6, rfl, aA, aB, aC⟩ := hv_
  replace hS := hS.addI aA
  clear aA
  replace hS := hS.addI aB
  clear aB
  replace hS := hS.addI aC
  clear aC
  have o9 : Own w w7.heap.size := Own.of hS.ext (by simp)
  have bt := (St.al hS 26 #[.bool false, .slice none 0 0, .bool false, .slice none 0 0, .bool false, .slice none 0 0] (g := w7.heap.size) (by simp))
  have k_9 := (bt.blk 0 rfl).cell
  have bu := (bt.blk 0 rfl).frozen
  have bv := (St.al hS 26 #[.bool aY, .slice ax aZ b0, .bool b1, .slice ay b2 b3, .bool b4, .slice az b5 b6] (g := w7.heap.size) (by simp))
  have bw := (bv.blk 4 rfl).cell
  have bx := (bv.blk 3 rfl).cell
  go_wp2_with fail
  clear k_9 bu bw bx
  clear bt bv
  replace hS := (St.al hS 26 #[.bool aY, .slice ax aZ b0, .bool b1, .slice ay b2 b3, .bool b4, .slice az b5 b6] (g := w7.heap.size) (by simp))
  generalize (w7.alloc (.cells #[.bool aY, .slice ax aZ b0, .bool b1, .slice ay b2 b3, .bool b4, .slice az b5 b6] 26)) = w8 at hS ⊢
  generalize w7.heap.size = g9 at hS o9 ⊢
  refine (xMul_bad a3 a4 a0 a5 a6 a7 a1 a8 a9 aa a2 ab false af ag ac ah ai aj ad ak am an ae ao false _ (hV0.ext hS.ext) (hV1.ext hS.ext) (Lib.hid rfl)).mono ?_
  rintro e w9 ⟨v_, rfl, hv_, hx_⟩
  replace hS := hS.mv hx_
  clear hx_
  obtain ⟨_, rfl, b7, aD, b8, b9, ba, aE, bb, bc, bd, aF, be, bf, rfl, aG, aH, aI⟩ := hv_
  replace hS := hS.addI aG
  clear aG
  replace hS := hS.addI aH
  clear aH
  replace hS := hS.addI aI
  clear aI
  have o11 : Own w w9.heap.size := Own.of hS.ext (by simp)
  have bz := (St.al hS 26 #[.bool false, .slice none 0 0, .bool false, .slice none 0 0, .bool false, .slice none 0 0] (g := w9.heap.size) (by simp))
  have bA := (bz.blk 0 rfl).cell
  have bB := (bz.blk 0 rfl).frozen
  have bC := (St.al hS 26 #[.bool b7, .slice aD b8 b9, .bool ba, .slice aE bb bc, .bool bd, .slice aF be bf] (g := w9.heap.size) (by simp))
  have bD := (bC.blk 5 rfl).cell
  have bE := (bC.blk 4 rfl).cell
  go_wp2_with fail
  clear bA bB bD bE
  clear bz bC
  replace hS := (St.al hS 26 #[.bool b7, .slice aD b8 b9, .bool ba, .slice aE bb bc, .bool bd, .slice aF be bf] (g := w9.heap.size) (by simp))
  generalize (w9.alloc (.cells #[.bool b7, .slice aD b8 b9, .bool ba, .slice aE bb bc, .bool bd, .slice aF be bf] 26)) = w10 at hS ⊢
  generalize w9.heap.size = g11 at hS o11 ⊢
  refine (xDiv_bad a3 a4 a0 a5 a6 a7 a1 a8 a9 aa a2 ab false af ag ac ah ai aj ad ak am an ae ao false _ (hV0.ext hS.ext) (hV1.ext hS.ext) (Lib.hid rfl)).mono ?_
  rintro e bg ⟨v_, rfl, hv_, hx_⟩
  replace hS := hS.mv hx_
  clear hx_
  obtain ⟨_, rfl, bh, aM, bi, bj, bk, aN, bl, bm, bn, aO, bo, bp, rfl, aJ, aK, aL⟩ := hv_
  replace hS := hS.addI aJ
  clear aJ
  replace hS := hS.addI aK
  clear aK
  replace hS := hS.addI aL
  clear aL
  have o13 : Own w bg.heap.size := Own.of hS.ext (by simp)
  have bF := (St.al hS 26 #[.bool false, .slice none 0 0, .bool false, .slice none 0 0, .bool false, .slice none 0 0] (g := bg.heap.size) (by simp))
  have bG := (bF.blk 0 rfl).cell
  have bH := (bF.blk 0 rfl).frozen
  go_wp2_with fail
  clear bG bH
  clear bF
  replace hS := (St.al hS 26 #[.bool bh, .slice aM bi bj, .bool bk, .slice aN bl bm, .bool bn, .slice aO bo bp] (g := bg.heap.size) (by simp))
  generalize (bg.alloc (.cells #[.bool bh, .slice aM bi bj, .bool bk, .slice aN bl bm, .bool bn, .slice aO bo bp] 26)) = w12 at hS ⊢
  generalize bg.heap.size = g13 at hS o13 ⊢
  refine (lxknown_ok _ (tab_ext hTab hS.ext)).mono ?_
  rintro e w13 ⟨rfl, hx_⟩
  replace hS := hS.mv hx_
  clear hx_
  go_wp2
  go_ret
  exact ⟨ret_bool (rfl), hS.ext⟩

set_option maxRecDepth 100000 in
set_option maxHeartbeats 25600000 in
theorem comp_ft (a3 : Bool) (a4 : Option Addr) (a0 a5 : Nat) (a6 : Bool) (a7 : Option Addr) (a1 a8 : Nat) (a9 : Bool) (aa : Option Addr) (a2 ab : Nat) (af : Bool) (ag : Option Addr) (ac ah : Nat) (ai : Bool) (aj : Option Addr) (ad ak : Nat) (am : Bool) (an : Option Addr) (ae ao : Nat) (w : World) (hV0 : VB w (gv a3 a4 a0 a5 a6 a7 a1 a8 a9 aa a2 ab) false) (hV1 : VB w (gv af ag ac ah ai aj ad ak am an ae ao) true) (hTab : Tab w) (HL : Hid ([a0, a1, a2, ac, ad, ae].all (fun n => decide (n ≤ 40)) = true))
      :
    Calls Tryz.prog 9 #[gv a3 a4 a0 a5 a6 a7 a1 a8 a9 aa a2 ab, gv af ag ac ah ai aj ad ak am an ae ao] w fun e w' => e = .returned (.bool true) ∧ Ext w w' := by
  have hS := St.start w
  have o2 : Own w w.heap.size := Own.of hS.ext (by simp)
  have o3 : Own w (w.heap.size + 1) := Own.of hS.ext (by simp)
  have bq := (St.al (St.al hS 26 #[.bool a3, .slice a4 a0 a5, .bool a6, .slice a7 a1 a8, .bool a9, .slice aa a2 ab] (g := w.heap.size) (by simp)) 26 #[.bool af, .slice ag ac ah, .bool ai, .slice aj ad ak, .bool am, .slice an ae ao] (g := (w.heap.size + 1)) (by simp))
  have k_1 := (bq.blk 1 rfl).cell
  have k_2 := (bq.blk 0 rfl).cell
  have o17 : Own w (w.heap.size + 2) := Own.of hS.ext (by simp)
  go_enter Tryz.func9, Tryz.ntmps9
  go_wp2_with fail
  clear k_1 k_2
  clear bq
  replace hS := (St.al (St.al (St.al hS 26 #[.bool a3, .slice a4 a0 a5, .bool a6, .slice a7 a1 a8, .bool a9, .slice aa a2 ab] (g := w.heap.size) (by simp)) 26 #[.bool af, .slice ag ac ah, .bool ai, .slice aj ad ak, .bool am, .slice an ae ao] (g := (w.heap.size + 1)) (by simp)) 26 #[.bool a3, .slice a4 a0 a5, .bool a6, .slice a7 a1 a8, .bool a9, .slice aa a2 ab, .bool af, .slice ag ac ah, .bool ai, .slice aj ad ak, .bool am, .slice an ae ao] (g := (w.heap.size + 2)) (by simp))
  generalize (((w.alloc (.cells #[.bool a3, .slice a4 a0 a5, .bool a6, .slice a7 a1 a8, .bool a9, .slice aa a2 ab] 26)).alloc (.cells #[.bool af, .slice ag ac ah, .bool ai, .slice aj ad ak, .bool am, .slice an ae ao] 26)).alloc (.cells #[.bool a3, .slice a4 a0 a5, .bool a6, .slice a7 a1 a8, .bool a9, .slice aa a2 ab, .bool af, .slice ag ac ah, .bool ai, .slice aj ad ak, .bool am, .slice an ae ao] 26)) = w1 at hS ⊢
  generalize w.heap.size + 2 = g17 at hS o17 ⊢
  generalize w.heap.size + 1 = g3 at hS o3 ⊢
  generalize w.heap.size = g2 at hS o2 ⊢
  refine (low2_raw g17 40 true _ (hS.blk 0 rfl) HL.out).mono ?_
  rintro e w2 ⟨rfl, hx_⟩
  replace hS := hS.mv hx_
  clear hx_
  go_wp2_with fail
  have Y3 := ExtOf.blk (hS.blk 1 rfl)
  have Y2 := ExtOf.blk (hS.blk 2 rfl)
  have hE_ := hS.ext
  refine wp_region_tame 4 (hasF [(1, .any), (3, .any)]) (Fcs [(1, .eq (.bool false)), (3, .eq (.bool true))]) (Fcs_stab _) (by kernel_rfl) (by kernel_rfl) ?_
  simp only [tk1, tk0, dp1, dp0]
  refine wpT_quiet 1 (by rfl) (by kernel_rfl) ?_
  simp only [tk1, tk0, dp1, dp0]
  repeat (go_big_quiet_step (fail))
  refine wpQuiet_nil ?_
  refine wpT_eff (by rfl) (by rfl) (by rfl) ?_ ?_
  · intro W_ hK
    have hW := hK.1
    clear hK
    go_simp
    exact ⟨rfl, (VB.q (hV0.ext (hE_.trans hW))).mono fun e w' ⟨he, hx⟩ => ⟨_, he, hx, rfl⟩⟩
  intro v_ lo22 hi22 hr_
  obtain ⟨W_, hW_⟩ := hr_
  obtain rfl : v_ = .bool false := hW_.get
  clear hW_ W_
  try simp only [Act.put, sa0, sa1, sa2]
  refine wpT_quiet 1 (by rfl) (by kernel_rfl) ?_
  simp only [tk1, tk0, dp1, dp0]
  repeat (go_big_quiet_step (fail))
  refine wpQuiet_nil ?_
  refine wpT_eff (by rfl) (by rfl) (by rfl) ?_ ?_
  · intro W_ hK
    have hW := hK.1
    clear hK
    go_simp
    exact ⟨rfl, (VB.q (hV1.ext (hE_.trans hW))).mono fun e w' ⟨he, hx⟩ => ⟨_, he, hx, rfl⟩⟩
  intro v_ lo24 hi24 hr_
  obtain ⟨W_, hW_⟩ := hr_
  obtain rfl : v_ = .bool true := hW_.get
  clear hW_ W_
  try simp only [Act.put, sa0, sa1, sa2]
  refine wpT_nil ?_
  intro w3 hK
  have hlt_ := hS.lt
  replace hS := hS.mv hK.ext
  clear hK hlt_ hE_ Y3 Y2
  go_wp2_with fail
  have Y3 := ExtOf.blk (hS.blk 1 rfl)
  have Y2 := ExtOf.blk (hS.blk 2 rfl)
  have hE_ := hS.ext
  refine wp_region_tame 41 (hasF [(1, .any), (6, .any), (12, .any), (14, .any), (19, .any), (30, .any)]) (Fcs [(1, .eq (.bool false)), (6, .eq (.bool true)), (12, .eq (.string ⟨#[]⟩)), (14, .eq (.string ⟨#[]⟩)), (19, .eq (.bool false)), (30, .eq (.bool false))]) (Fcs_stab _) (by kernel_rfl) (by kernel_rfl) ?_
  simp only [tk1, tk0, dp1, dp0]
  refine wpT_quiet 1 (by rfl) (by kernel_rfl) ?_
  simp only [tk1, tk0, dp1, dp0]
  repeat (go_big_quiet_step (fail))
  refine wpQuiet_nil ?_
  refine wpT_eff (by rfl) (by rfl) (by rfl) ?_ ?_
  · intro W_ hK
    have hW := hK.1
    clear hK
    go_simp
    exact ⟨rfl, (VB.e (hV0.ext (hE_.trans hW))).mono fun e w' ⟨he, hx⟩ => ⟨_, he, hx, rfl⟩⟩
  intro v_ lo26 hi26 hr_
  obtain ⟨W_, hW_⟩ := hr_
  obtain rfl : v_ = .bool false := hW_.get
  clear hW_ W_
  try simp only [Act.put, sa0, sa1, sa2]
  refine wpT_quiet 4 (by rfl) (by kernel_rfl) ?_
  simp only [tk1, tk0, dp1, dp0]
  repeat (go_big_quiet_step (fail))
  refine wpQuiet_nil ?_
  refine wpT_eff (by rfl) (by rfl) (by rfl) ?_ ?_
  · intro W_ hK
    have hW := hK.1
    clear hK
    go_simp
    exact ⟨rfl, (VB.e (hV1.ext (hE_.trans hW))).mono fun e w' ⟨he, hx⟩ => ⟨_, he, hx, rfl⟩⟩
  intro v_ lo31 hi31 hr_
  obtain ⟨W_, hW_⟩ := hr_
  obtain rfl : v_ = .bool true := hW_.get
  clear hW_ W_
  try simp only [Act.put, sa0, sa1, sa2]
  refine wpT_quiet 5 (by rfl) (by kernel_rfl) ?_
  simp only [tk1, tk0, dp1, dp0]
  repeat (go_big_quiet_step (fail))
  refine wpQuiet_nil ?_
  refine wpT_eff (by rfl) (by rfl) (by rfl) ?_ ?_
  · intro W_ hK
    have hW := hK.1
    clear hK
    go_simp
    exact ⟨rfl, (xText_bad a3 a4 a0 a5 a6 a7 a1 a8 a9 aa a2 ab _ (hV0.ext (hE_.trans hW))).mono fun e w' ⟨he, hx⟩ => ⟨_, he, hx, rfl⟩⟩
  intro v_ lo37 hi37 hr_
  obtain ⟨W_, hW_⟩ := hr_
  obtain rfl : v_ = .string ⟨#[]⟩ := hW_.get
  clear hW_ W_
  try simp only [Act.put, sa0, sa1, sa2]
  refine wpT_quiet 1 (by rfl) (by kernel_rfl) ?_
  simp only [tk1, tk0, dp1, dp0]
  repeat (go_big_quiet_step (fail))
  refine wpQuiet_nil ?_
  refine wpT_eff (by rfl) (by rfl) (by rfl) ?_ ?_
  · intro W_ hK
    have hW := hK.1
    clear hK
    go_simp
    exact ⟨rfl, (qText_bad a3 a4 a0 a5 a6 a7 a1 a8 a9 aa a2 ab _ (hV0.ext (hE_.trans hW))).mono fun e w' ⟨he, hx⟩ => ⟨_, he, hx, rfl⟩⟩
  intro v_ lo39 hi39 hr_
  obtain ⟨W_, hW_⟩ := hr_
  obtain rfl : v_ = .string ⟨#[]⟩ := hW_.get
  clear hW_ W_
  try simp only [Act.put, sa0, sa1, sa2]
  refine wpT_quiet 4 (by rfl) (by kernel_rfl) ?_
  simp only [tk1, tk0, dp1, dp0]
  repeat (go_big_quiet_step (fail))
  refine wpQuiet_nil ?_
  refine wpT_eff (by rfl) (by rfl) (by rfl) ?_ ?_
  · intro W_ hK
    have hW := hK.1
    clear hK
    go_simp
    exact ⟨rfl, (xZero_bad a3 a4 a0 a5 a6 a7 a1 a8 a9 aa a2 ab _ (hV0.ext (hE_.trans hW))).mono fun e w' ⟨he, hx⟩ => ⟨_, he, hx, rfl⟩⟩
  intro v_ lo44 hi44 hr_
  obtain ⟨W_, hW_⟩ := hr_
  obtain rfl : v_ = .bool false := hW_.get
  clear hW_ W_
  try simp only [Act.put, sa0, sa1, sa2]
  refine wpT_quiet 3 (by rfl) (by kernel_rfl) ?_
  simp only [tk1, tk0, dp1, dp0]
  repeat (go_big_quiet_step (fail))
  refine wpQuiet_nil ?_
  refine wpT_skip (by rfl) (by rfl) ?_
  try simp only [Act.put, sa0, sa1, sa2]
  refine wpT_quiet 6 (by rfl) (by kernel_rfl) ?_
  simp only [tk1, tk0, dp1, dp0]
  repeat (go_big_quiet_step (fail))
  refine wpQuiet_nil ?_
  refine wpT_eff (by rfl) (by rfl) (by rfl) ?_ ?_
  · intro W_ hK
    have hW := hK.1
    clear hK
    go_simp
    exact ⟨rfl, (xSame_bad a3 a4 a0 a5 a6 a7 a1 a8 a9 aa a2 ab false af ag ac ah ai aj ad ak am an ae ao true _ (hV0.ext (hE_.trans hW)) (hV1.ext (hE_.trans hW)) (Lib.hid rfl)).mono fun e w' ⟨he, hx⟩ => ⟨_, he, hx, rfl⟩⟩
  intro v_ lo55 hi55 hr_
  obtain ⟨W_, hW_⟩ := hr_
  obtain rfl : v_ = .bool false := hW_.get
  clear hW_ W_
  try simp only [Act.put, sa0, sa1, sa2]
  refine wpT_quiet 7 (by rfl) (by kernel_rfl) ?_
  simp only [tk1, tk0, dp1, dp0]
  repeat (go_big_quiet_step (fail))
  refine wpQuiet_nil ?_
  refine wpT_skip (by rfl) (by rfl) ?_
  try simp only [Act.put, sa0, sa1, sa2]
  refine wpT_quiet 2 (by rfl) (by kernel_rfl) ?_
  simp only [tk1, tk0, dp1, dp0]
  repeat (go_big_quiet_step (fail))
  refine wpQuiet_nil ?_
  refine wpT_nil ?_
  intro w4 hK
  have hlt_ := hS.lt
  replace hS := hS.mv hK.ext
  clear hK hlt_ hE_ Y3 Y2
  have k_3 := (hS.blk 2 rfl).cell
  have k_4 := (hS.blk 1 rfl).cell
  go_wp2_with fail
  clear k_3 k_4
  refine (xAdd_bad a3 a4 a0 a5 a6 a7 a1 a8 a9 aa a2 ab false af ag ac ah ai aj ad ak am an ae ao true _ (hV0.ext hS.ext) (hV1.ext hS.ext) (Lib.hid rfl)).mono ?_
  rintro e w5 ⟨v_, rfl, hv_, hx_⟩
  replace hS := hS.mv hx_
  clear hx_
  obtain ⟨_, rfl, aP, ap, aQ, aR, aS, aq, aT, aU, aV, ar, aW, aX, rfl, au, av, aw⟩ := hv_
  replace hS := hS.addI au
  clear au
  replace hS := hS.addI av
  clear av
  replace hS := hS.addI aw
  clear aw
  have o7 : Own w w5.heap.size := Own.of hS.ext (by simp)
  have br := (St.al hS 26 #[.bool false, .slice none 0 0, .bool false, .slice none 0 0, .bool false, .slice none 0 0] (g := w5.heap.size) (by simp))
  have k_5 := (br.blk 0 rfl).cell
  have k_6 := (br.blk 0 rfl).frozen
  have bs := (St.al hS 26 #[.bool aP, .slice ap aQ aR, .bool aS, .slice aq aT aU, .bool aV, .slice ar aW aX] (g := w5.heap.size) (by simp))
  have k_7 := (bs.blk 3 rfl).cell
  have k_8 := (bs.blk 2 rfl).cell
  go_wp2_with fail
  clear k_5 k_6 k_7 k_8
  clear br bs
  replace hS := (St.al hS 26 #[.bool aP, .slice ap aQ aR, .bool aS, .slice aq aT aU, .bool aV, .slice ar aW aX] (g := w5.heap.size) (by simp))
  generalize (w5.alloc (.cells #[.bool aP, .slice ap aQ aR, .bool aS, .slice aq aT aU, .bool aV, .slice ar aW aX] 26)) = w6 at hS ⊢
  generalize w5.heap.size = g7 at hS o7 ⊢
  refine (xSub_bad a3 a4 a0 a5 a6 a7 a1 a8 a9 aa a2 ab false af ag ac ah ai aj ad ak am an ae ao true _ (hV0.ext hS.ext) (hV1.ext hS.ext) (Lib.hid rfl)).mono ?_
  rintro e w7 ⟨v_, rfl, hv_, hx_⟩
  replace hS := hS.mv hx_
  clear hx_
  obtain ⟨_, rfl, aY, ax, aZ, b0, b1, ay, b2, b3, b4, az, b5, b6, rfl, aA, aB, aC⟩ := hv_
  replace hS := hS.addI aA
  clear aA
  replace hS := hS.addI aB
  clear aB
  replace hS := hS.addI aC
  clear aC
  have o9 : Own w w7.heap.size := Own.of hS.ext (by simp)
  have bt := (St.al hS 26 #[.bool false, .slice none 0 0, .bool false, .slice none 0 0, .bool false, .slice none 0 0] (g := w7.heap.size) (by simp))
  have k_9 := (bt.blk 0 rfl).cell
  have bu := (bt.blk 0 rfl).frozen
  have bv := (St.al hS 26 #[.bool aY, .slice ax aZ b0, .bool b1, .slice ay b2 b3, .bool b4, .slice az b5 b6] (g := w7.heap.size) (by simp))
  have bw := (bv.blk 4 rfl).cell
  have bx := (bv.blk 3 rfl).cell
  go_wp2_with fail
  clear k_9 bu bw bx
  clear bt bv
  replace hS := (St.al hS 26 #[.bool aY, .slice ax aZ b0, .bool b1, .slice ay b2 b3, .bool b4, .slice az b5 b6] (g := w7.heap.size) (by simp))
  generalize (w7.alloc (.cells #[.bool aY, .slice ax aZ b0, .bool b1, .slice ay b2 b3, .bool b4, .slice az b5 b6] 26)) = w8 at hS ⊢
  generalize w7.heap.size = g9 at hS o9 ⊢
  refine (xMul_bad a3 a4 a0 a5 a6 a7 a1 a8 a9 aa a2 ab false af ag ac ah ai aj ad ak am an ae ao true _ (hV0.ext hS.ext) (hV1.ext hS.ext) (Lib.hid rfl)).mono ?_
  rintro e w9 ⟨v_, rfl, hv_, hx_⟩
  replace hS := hS.mv hx_
  clear hx_
  obtain ⟨_, rfl, b7, aD, b8, b9, ba, aE, bb, bc, bd, aF, be, bf, rfl, aG, aH, aI⟩ := hv_
  replace hS := hS.addI aG
  clear aG
  replace hS := hS.addI aH
  clear aH
  replace hS := hS.addI aI
  clear aI
  have o11 : Own w w9.heap.size := Own.of hS.ext (by simp)
  have bz := (St.al hS 26 #[.bool false, .slice none 0 0, .bool false, .slice none 0 0, .bool false, .slice none 0 0] (g := w9.heap.size) (by simp))
  have bA := (bz.blk 0 rfl).cell
  have bB := (bz.blk 0 rfl).frozen
  have bC := (St.al hS 26 #[.bool b7, .slice aD b8 b9, .bool ba, .slice aE bb bc, .bool bd, .slice aF be bf] (g := w9.heap.size) (by simp))
  have bD := (bC.blk 5 rfl).cell
  have bE := (bC.blk 4 rfl).cell
  go_wp2_with fail
  clear bA bB bD bE
  clear bz bC
  replace hS := (St.al hS 26 #[.bool b7, .slice aD b8 b9, .bool ba, .slice aE bb bc, .bool bd, .slice aF be bf] (g := w9.heap.size) (by simp))
  generalize (w9.alloc (.cells #[.bool b7, .slice aD b8 b9, .bool ba, .slice aE bb bc, .bool bd, .slice aF be bf] 26)) = w10 at hS ⊢
  generalize w9.heap.size = g11 at hS o11 ⊢
  refine (xDiv_bad a3 a4 a0 a5 a6 a7 a1 a8 a9 aa a2 ab false af ag ac ah ai aj ad ak am an ae ao true _ (hV0.ext hS.ext) (hV1.ext hS.ext) (Lib.hid rfl)).mono ?_
  rintro e bg ⟨v_, rfl, hv_, hx_⟩
  replace hS := hS.mv hx_
  clear hx_
  obtain ⟨_, rfl, bh, aM, bi, bj, bk, aN, bl, bm, bn, aO, bo, bp, rfl, aJ, aK, aL⟩ := hv_
  replace hS := hS.addI aJ
  clear aJ
  replace hS := hS.addI aK
  clear aK
  replace hS := hS.addI aL
  clear aL
  have o13 : Own w bg.heap.size := Own.of hS.ext (by simp)
  have bF := (St.al hS 26 #[.bool false, .slice none 0 0, .bool false, .slice none 0 0, .bool false, .slice none 0 0] (g := bg.heap.size) (by simp))
  have bG := (bF.blk 0 rfl).cell
  have bH := (bF.blk 0 rfl).frozen
  go_wp2_with fail
  clear bG bH
  clear bF
  replace hS := (St.al hS 26 #[.bool bh, .slice aM bi bj, .bool bk, .slice aN bl bm, .bool bn, .slice aO bo bp] (g := bg.heap.size) (by simp))
  generalize (bg.alloc (.cells #[.bool bh, .slice aM bi bj, .bool bk, .slice aN bl bm, .bool bn, .slice aO bo bp] 26)) = w12 at hS ⊢
  generalize bg.heap.size = g13 at hS o13 ⊢
  refine (lxknown_ok _ (tab_ext hTab hS.ext)).mono ?_
  rintro e w13 ⟨rfl, hx_⟩
  replace hS := hS.mv hx_
  clear hx_
  go_wp2
  go_ret
  exact ⟨ret_bool (rfl), hS.ext⟩

set_option maxRecDepth 100000 in
set_option maxHeartbeats 25600000 in
theorem comp_tf (v0 : Value) (q0 : GQ) (n0 : Nat) (af : Bool) (ag : Option Addr) (ac ah : Nat) (ai : Bool) (aj : Option Addr) (ad ak : Nat) (am : Bool) (an : Option Addr) (ae ao : Nat) (zb : Bool) (w : World) (hX0 : GV w v0 q0 n0) (hV1 : VB w (gv af ag ac ah ai aj ad ak am an ae ao) false) (hn0 : n0 ≤ 1280) (hy1 : ac ≤ 40) (hy2 : ad ≤ 40) (hy3 : ae ≤ 40) (hTab : Tab w) (HZ : Hid (zb = true ↔ q0 = GQ.i 0 0))
      :
    Calls Tryz.prog 9 #[v0, gv af ag ac ah ai aj ad ak am an ae ao] w fun e w' => e = .returned (.bool true) ∧ Ext w w' := by
  have hS := St.start w
  obtain ⟨bt, bu, bv, hX0, I0, S0⟩ := hX0
  obtain ⟨a3, a4, a0, a5, a6, a7, a1, a8, a9, aa, a2, ab, rfl, bg, bh, bi⟩ := hX0
  replace hS := hS.addI bg
  clear bg
  replace hS := hS.addI bh
  clear bh
  replace hS := hS.addI bi
  clear bi
  have HL : Hid ([a0, a1, a2, ac, ad, ae].all (fun n => decide (n ≤ 40)) = true) := Lib.hid (by simp only [List.all_cons, List.all_nil, Bool.and_true, Bool.and_eq_true, decide_eq_true_eq]; exact ⟨RI.low (k := 40) (hS.num 2 rfl) S0.a (by omega), RI.low (k := 40) (hS.num 1 rfl) S0.b (by omega), RI.low (k := 40) (hS.num 0 rfl) S0.d (by omega), hy1, hy2, hy3⟩)
  have o2 : Own w w.heap.size := Own.of hS.ext (by simp)
  have o3 : Own w (w.heap.size + 1) := Own.of hS.ext (by simp)
  have bw := (St.al (St.al hS 26 #[.bool a3, .slice a4 a0 a5, .bool a6, .slice a7 a1 a8, .bool a9, .slice aa a2 ab] (g := w.heap.size) (by simp)) 26 #[.bool af, .slice ag ac ah, .bool ai, .slice aj ad ak, .bool am, .slice an ae ao] (g := (w.heap.size + 1)) (by simp))
  have k_1 := (bw.blk 1 rfl).cell
  have k_2 := (bw.blk 0 rfl).cell
  have o17 : Own w (w.heap.size + 2) := Own.of hS.ext (by simp)
  go_enter Tryz.func9, Tryz.ntmps9
  go_wp2_with fail
  clear k_1 k_2
  clear bw
  replace hS := (St.al (St.al (St.al hS 26 #[.bool a3, .slice a4 a0 a5, .bool a6, .slice a7 a1 a8, .bool a9, .slice aa a2 ab] (g := w.heap.size) (by simp)) 26 #[.bool af, .slice ag ac ah, .bool ai, .slice aj ad ak, .bool am, .slice an ae ao] (g := (w.heap.size + 1)) (by simp)) 26 #[.bool a3, .slice a4 a0 a5, .bool a6, .slice a7 a1 a8, .bool a9, .slice aa a2 ab, .bool af, .slice ag ac ah, .bool ai, .slice aj ad ak, .bool am, .slice an ae ao] (g := (w.heap.size + 2)) (by simp))
  generalize (((w.alloc (.cells #[.bool a3, .slice a4 a0 a5, .bool a6, .slice a7 a1 a8, .bool a9, .slice aa a2 ab] 26)).alloc (.cells #[.bool af, .slice ag ac ah, .bool ai, .slice aj ad ak, .bool am, .slice an ae ao] 26)).alloc (.cells #[.bool a3, .slice a4 a0 a5, .bool a6, .slice a7 a1 a8, .bool a9, .slice aa a2 ab, .bool af, .slice ag ac ah, .bool ai, .slice aj ad ak, .bool am, .slice an ae ao] 26)) = w1 at hS ⊢
  generalize w.heap.size + 2 = g17 at hS o17 ⊢
  generalize w.heap.size + 1 = g3 at hS o3 ⊢
  generalize w.heap.size = g2 at hS o2 ⊢
  refine (low2_raw g17 40 true _ (hS.blk 0 rfl) HL.out).mono ?_
  rintro e w2 ⟨rfl, hx_⟩
  replace hS := hS.mv hx_
  clear hx_
  go_wp2_with fail
  have Y3 := ExtOf.blk (hS.blk 1 rfl)
  have Y2 := ExtOf.blk (hS.blk 2 rfl)
  have hE_ := hS.ext
  refine wp_region_tame 4 (hasF [(1, .any), (3, .any)]) (Fcs [(1, .eq (.bool true)), (3, .eq (.bool false))]) (Fcs_stab _) (by kernel_rfl) (by kernel_rfl) ?_
  simp only [tk1, tk0, dp1, dp0]
  refine wpT_quiet 1 (by rfl) (by kernel_rfl) ?_
  simp only [tk1, tk0, dp1, dp0]
  repeat (go_big_quiet_step (fail))
  refine wpQuiet_nil ?_
  refine wpT_eff (by rfl) (by rfl) (by rfl) ?_ ?_
  · intro W_ hK
    have hW := hK.1
    clear hK
    go_simp
    exact ⟨rfl, (qValid_gv _ q0 (n0) _ ⟨_, _, _, RG.mk (RI.ext (hS.num 2 rfl) hW) (RI.ext (hS.num 1 rfl) hW) (RI.ext (hS.num 0 rfl) hW), I0, S0⟩ (by omega)).mono fun e w' ⟨he, hx⟩ => ⟨_, he, hx, rfl⟩⟩
  intro v_ lo22 hi22 hr_
  obtain ⟨W_, hW_⟩ := hr_
  obtain rfl : v_ = .bool true := hW_.get
  clear hW_ W_
  try simp only [Act.put, sa0, sa1, sa2]
  refine wpT_quiet 1 (by rfl) (by kernel_rfl) ?_
  simp only [tk1, tk0, dp1, dp0]
  repeat (go_big_quiet_step (fail))
  refine wpQuiet_nil ?_
  refine wpT_eff (by rfl) (by rfl) (by rfl) ?_ ?_
  · intro W_ hK
    have hW := hK.1
    clear hK
    go_simp
    exact ⟨rfl, (VB.q (hV1.ext (hE_.trans hW))).mono fun e w' ⟨he, hx⟩ => ⟨_, he, hx, rfl⟩⟩
  intro v_ lo24 hi24 hr_
  obtain ⟨W_, hW_⟩ := hr_
  obtain rfl : v_ = .bool false := hW_.get
  clear hW_ W_
  try simp only [Act.put, sa0, sa1, sa2]
  refine wpT_nil ?_
  intro w3 hK
  have hlt_ := hS.lt
  replace hS := hS.mv hK.ext
  clear hK hlt_ hE_ Y3 Y2
  go_wp2_with fail
  have Y3 := ExtOf.blk (hS.blk 1 rfl)
  have Y2 := ExtOf.blk (hS.blk 2 rfl)
  have hE_ := hS.ext
  refine wp_region_tame 41 (hasF [(1, .any), (6, .any), (12, .any), (14, .any), (19, .any), (23, .any), (30, .any)]) (Fcs [(1, .eq (.bool true)), (6, .eq (.bool false)), (12, .eq (.string ⟨(gtx bt bu bv).toArray⟩)), (14, .eq (.string ⟨(gtx bt bu bv).toArray⟩)), (19, .eq (.bool zb)), (23, .eq (.bool zb)), (30, .eq (.bool false))]) (Fcs_stab _) (by kernel_rfl) (by kernel_rfl) ?_
  simp only [tk1, tk0, dp1, dp0]
  refine wpT_quiet 1 (by rfl) (by kernel_rfl) ?_
  simp only [tk1, tk0, dp1, dp0]
  repeat (go_big_quiet_step (fail))
  refine wpQuiet_nil ?_
  refine wpT_eff (by rfl) (by rfl) (by rfl) ?_ ?_
  · intro W_ hK
    have hW := hK.1
    clear hK
    go_simp
    exact ⟨rfl, (eValid_gv _ q0 (n0) _ ⟨_, _, _, RG.mk (RI.ext (hS.num 2 rfl) hW) (RI.ext (hS.num 1 rfl) hW) (RI.ext (hS.num 0 rfl) hW), I0, S0⟩ (by omega)).mono fun e w' ⟨he, hx⟩ => ⟨_, he, hx, rfl⟩⟩
  intro v_ lo26 hi26 hr_
  obtain ⟨W_, hW_⟩ := hr_
  obtain rfl : v_ = .bool true := hW_.get
  clear hW_ W_
  try simp only [Act.put, sa0, sa1, sa2]
  refine wpT_quiet 4 (by rfl) (by kernel_rfl) ?_
  simp only [tk1, tk0, dp1, dp0]
  repeat (go_big_quiet_step (fail))
  refine wpQuiet_nil ?_
  refine wpT_eff (by rfl) (by rfl) (by rfl) ?_ ?_
  · intro W_ hK
    have hW := hK.1
    clear hK
    go_simp
    exact ⟨rfl, (VB.e (hV1.ext (hE_.trans hW))).mono fun e w' ⟨he, hx⟩ => ⟨_, he, hx, rfl⟩⟩
  intro v_ lo31 hi31 hr_
  obtain ⟨W_, hW_⟩ := hr_
  obtain rfl : v_ = .bool false := hW_.get
  clear hW_ W_
  try simp only [Act.put, sa0, sa1, sa2]
  refine wpT_quiet 5 (by rfl) (by kernel_rfl) ?_
  simp only [tk1, tk0, dp1, dp0]
  repeat (go_big_quiet_step (fail))
  refine wpQuiet_nil ?_
  refine wpT_eff (by rfl) (by rfl) (by rfl) ?_ ?_
  · intro W_ hK
    have hW := hK.1
    clear hK
    go_simp
    exact ⟨rfl, (xText_ok _ q0 (n0) _ ⟨_, _, _, RG.mk (RI.ext (hS.num 2 rfl) hW) (RI.ext (hS.num 1 rfl) hW) (RI.ext (hS.num 0 rfl) hW), I0, S0⟩ (by omega) (tab_ext hTab (hE_.trans hW)) I0).mono fun e w' ⟨he, hx⟩ => ⟨_, he, hx, rfl⟩⟩
  intro v_ lo37 hi37 hr_
  obtain ⟨W_, hW_⟩ := hr_
  obtain rfl : v_ = .string ⟨(gtx bt bu bv).toArray⟩ := hW_.get
  clear hW_ W_
  try simp only [Act.put, sa0, sa1, sa2]
  refine wpT_quiet 1 (by rfl) (by kernel_rfl) ?_
  simp only [tk1, tk0, dp1, dp0]
  repeat (go_big_quiet_step (fail))
  refine wpQuiet_nil ?_
  refine wpT_eff (by rfl) (by rfl) (by rfl) ?_ ?_
  · intro W_ hK
    have hW := hK.1
    clear hK
    go_simp
    exact ⟨rfl, (qText_ok _ q0 (n0) _ ⟨_, _, _, RG.mk (RI.ext (hS.num 2 rfl) hW) (RI.ext (hS.num 1 rfl) hW) (RI.ext (hS.num 0 rfl) hW), I0, S0⟩ (by omega) I0).mono fun e w' ⟨he, hx⟩ => ⟨_, he, hx, rfl⟩⟩
  intro v_ lo39 hi39 hr_
  obtain ⟨W_, hW_⟩ := hr_
  obtain rfl : v_ = .string ⟨(gtx bt bu bv).toArray⟩ := hW_.get
  clear hW_ W_
  try simp only [Act.put, sa0, sa1, sa2]
  refine wpT_quiet 4 (by rfl) (by kernel_rfl) ?_
  simp only [tk1, tk0, dp1, dp0]
  repeat (go_big_quiet_step (fail))
  refine wpQuiet_nil ?_
  refine wpT_eff (by rfl) (by rfl) (by rfl) ?_ ?_
  · intro W_ hK
    have hW := hK.1
    clear hK
    go_simp
    exact ⟨rfl, (xZero_b _ q0 (n0) zb _ ⟨_, _, _, RG.mk (RI.ext (hS.num 2 rfl) hW) (RI.ext (hS.num 1 rfl) hW) (RI.ext (hS.num 0 rfl) hW), I0, S0⟩ (by omega) HZ.out).mono fun e w' ⟨he, hx⟩ => ⟨_, he, hx, rfl⟩⟩
  intro v_ lo44 hi44 hr_
  obtain ⟨W_, hW_⟩ := hr_
  obtain rfl : v_ = .bool zb := hW_.get
  clear hW_ W_
  try simp only [Act.put, sa0, sa1, sa2]
  refine wpT_quiet 3 (by rfl) (by kernel_rfl) ?_
  simp only [tk1, tk0, dp1, dp0]
  repeat (go_big_quiet_step (fail))
  refine wpQuiet_nil ?_
  refine wpT_eff (by rfl) (by rfl) (by rfl) ?_ ?_
  · intro W_ hK
    have hW := hK.1
    clear hK
    go_simp
    exact ⟨rfl, (qZero_b _ q0 (n0) zb _ ⟨_, _, _, RG.mk (RI.ext (hS.num 2 rfl) hW) (RI.ext (hS.num 1 rfl) hW) (RI.ext (hS.num 0 rfl) hW), I0, S0⟩ (by omega) HZ.out).mono fun e w' ⟨he, hx⟩ => ⟨_, he, hx, rfl⟩⟩
  intro v_ lo48 hi48 hr_
  obtain ⟨W_, hW_⟩ := hr_
  obtain rfl : v_ = .bool zb := hW_.get
  clear hW_ W_
  try simp only [Act.put, sa0, sa1, sa2]
  refine wpT_quiet 6 (by rfl) (by kernel_rfl) ?_
  simp only [tk1, tk0, dp1, dp0]
  repeat (go_big_quiet_step (fail))
  refine wpQuiet_nil ?_
  refine wpT_eff (by rfl) (by rfl) (by rfl) ?_ ?_
  · intro W_ hK
    have hW := hK.1
    clear hK
    go_simp
    exact ⟨rfl, (xSame_bad a3 a4 a0 a5 a6 a7 a1 a8 a9 aa a2 ab true af ag ac ah ai aj ad ak am an ae ao false _ (GV.vb (q := q0) (n := n0) ⟨_, _, _, RG.mk (RI.ext (hS.num 2 rfl) hW) (RI.ext (hS.num 1 rfl) hW) (RI.ext (hS.num 0 rfl) hW), I0, S0⟩ (by omega)) (hV1.ext (hE_.trans hW)) (Lib.hid rfl)).mono fun e w' ⟨he, hx⟩ => ⟨_, he, hx, rfl⟩⟩
  intro v_ lo55 hi55 hr_
  obtain ⟨W_, hW_⟩ := hr_
  obtain rfl : v_ = .bool false := hW_.get
  clear hW_ W_
  try simp only [Act.put, sa0, sa1, sa2]
  refine wpT_quiet 7 (by rfl) (by kernel_rfl) ?_
  simp only [tk1, tk0, dp1, dp0]
  repeat (go_big_quiet_step (fail))
  refine wpQuiet_nil ?_
  refine wpT_skip (by rfl) (by rfl) ?_
  try simp only [Act.put, sa0, sa1, sa2]
  refine wpT_quiet 2 (by rfl) (by kernel_rfl) ?_
  simp only [tk1, tk0, dp1, dp0]
  repeat (go_big_quiet_step (fail))
  refine wpQuiet_nil ?_
  refine wpT_nil ?_
  intro w4 hK
  have hlt_ := hS.lt
  replace hS := hS.mv hK.ext
  clear hK hlt_ hE_ Y3 Y2
  have k_3 := (hS.blk 2 rfl).cell
  have k_4 := (hS.blk 1 rfl).cell
  go_wp2_with fail
  clear k_3 k_4
  refine (xAdd_bad a3 a4 a0 a5 a6 a7 a1 a8 a9 aa a2 ab true af ag ac ah ai aj ad ak am an ae ao false _ (GV.vb (q := q0) (n := n0) ⟨_, _, _, RG.mk (hS.num 2 rfl) (hS.num 1 rfl) (hS.num 0 rfl), I0, S0⟩ (by omega)) (hV1.ext hS.ext) (Lib.hid rfl)).mono ?_
  rintro e w5 ⟨v_, rfl, hv_, hx_⟩
  replace hS := hS.mv hx_
  clear hx_
  obtain ⟨_, rfl, aP, ap, aQ, aR, aS, aq, aT, aU, aV, ar, aW, aX, rfl, au, av, aw⟩ := hv_
  replace hS := hS.addI au
  clear au
  replace hS := hS.addI av
  clear av
  replace hS := hS.addI aw
  clear aw
  have o7 : Own w w5.heap.size := Own.of hS.ext (by simp)
  have bx := (St.al hS 26 #[.bool false, .slice none 0 0, .bool false, .slice none 0 0, .bool false, .slice none 0 0] (g := w5.heap.size) (by simp))
  have k_5 := (bx.blk 0 rfl).cell
  have k_6 := (bx.blk 0 rfl).frozen
  have bz := (St.al hS 26 #[.bool aP, .slice ap aQ aR, .bool aS, .slice aq aT aU, .bool aV, .slice ar aW aX] (g := w5.heap.size) (by simp))
  have k_7 := (bz.blk 3 rfl).cell
  have k_8 := (bz.blk 2 rfl).cell
  go_wp2_with fail
  clear k_5 k_6 k_7 k_8
  clear bx bz
  replace hS := (St.al hS 26 #[.bool aP, .slice ap aQ aR, .bool aS, .slice aq aT aU, .bool aV, .slice ar aW aX] (g := w5.heap.size) (by simp))
  generalize (w5.alloc (.cells #[.bool aP, .slice ap aQ aR, .bool aS, .slice aq aT aU, .bool aV, .slice ar aW aX] 26)) = w6 at hS ⊢
  generalize w5.heap.size = g7 at hS o7 ⊢
  refine (xSub_bad a3 a4 a0 a5 a6 a7 a1 a8 a9 aa a2 ab true af ag ac ah ai aj ad ak am an ae ao false _ (GV.vb (q := q0) (n := n0) ⟨_, _, _, RG.mk (hS.num 5 rfl) (hS.num 4 rfl) (hS.num 3 rfl), I0, S0⟩ (by omega)) (hV1.ext hS.ext) (Lib.hid rfl)).mono ?_
  rintro e w7 ⟨v_, rfl, hv_, hx_⟩
  replace hS := hS.mv hx_
  clear hx_
  obtain ⟨_, rfl, aY, ax, aZ, b0, b1, ay, b2, b3, b4, az, b5, b6, rfl, aA, aB, aC⟩ := hv_
  replace hS := hS.addI aA
  clear aA
  replace hS := hS.addI aB
  clear aB
  replace hS := hS.addI aC
  clear aC
  have o9 : Own w w7.heap.size := Own.of hS.ext (by simp)
  have bA := (St.al hS 26 #[.bool false, .slice none 0 0, .bool false, .slice none 0 0, .bool false, .slice none 0 0] (g := w7.heap.size) (by simp))
  have k_9 := (bA.blk 0 rfl).cell
  have bB := (bA.blk 0 rfl).frozen
  have bC := (St.al hS 26 #[.bool aY, .slice ax aZ b0, .bool b1, .slice ay b2 b3, .bool b4, .slice az b5 b6] (g := w7.heap.size) (by simp))
  have bD := (bC.blk 4 rfl).cell
  have bE := (bC.blk 3 rfl).cell
  go_wp2_with fail
  clear k_9 bB bD bE
  clear bA bC
  replace hS := (St.al hS 26 #[.bool aY, .slice ax aZ b0, .bool b1, .slice ay b2 b3, .bool b4, .slice az b5 b6] (g := w7.heap.size) (by simp))
  generalize (w7.alloc (.cells #[.bool aY, .slice ax aZ b0, .bool b1, .slice ay b2 b3, .bool b4, .slice az b5 b6] 26)) = w8 at hS ⊢
  generalize w7.heap.size = g9 at hS o9 ⊢
  refine (xMul_bad a3 a4 a0 a5 a6 a7 a1 a8 a9 aa a2 ab true af ag ac ah ai aj ad ak am an ae ao false _ (GV.vb (q := q0) (n := n0) ⟨_, _, _, RG.mk (hS.num 8 rfl) (hS.num 7 rfl) (hS.num 6 rfl), I0, S0⟩ (by omega)) (hV1.ext hS.ext) (Lib.hid rfl)).mono ?_
  rintro e w9 ⟨v_, rfl, hv_, hx_⟩
  replace hS := hS.mv hx_
  clear hx_
  obtain ⟨_, rfl, b7, aD, b8, b9, ba, aE, bb, bc, bd, aF, be, bf, rfl, aG, aH, aI⟩ := hv_
  replace hS := hS.addI aG
  clear aG
  replace hS := hS.addI aH
  clear aH
  replace hS := hS.addI aI
  clear aI
  have o11 : Own w w9.heap.size := Own.of hS.ext (by simp)
  have bF := (St.al hS 26 #[.bool false, .slice none 0 0, .bool false, .slice none 0 0, .bool false, .slice none 0 0] (g := w9.heap.size) (by simp))
  have bG := (bF.blk 0 rfl).cell
  have bH := (bF.blk 0 rfl).frozen
  have bI := (St.al hS 26 #[.bool b7, .slice aD b8 b9, .bool ba, .slice aE bb bc, .bool bd, .slice aF be bf] (g := w9.heap.size) (by simp))
  have bJ := (bI.blk 5 rfl).cell
  have bK := (bI.blk 4 rfl).cell
  go_wp2_with fail
  clear bG bH bJ bK
  clear bF bI
  replace hS := (St.al hS 26 #[.bool b7, .slice aD b8 b9, .bool ba, .slice aE bb bc, .bool bd, .slice aF be bf] (g := w9.heap.size) (by simp))
  generalize (w9.alloc (.cells #[.bool b7, .slice aD b8 b9, .bool ba, .slice aE bb bc, .bool bd, .slice aF be bf] 26)) = w10 at hS ⊢
  generalize w9.heap.size = g11 at hS o11 ⊢
  refine (xDiv_bad a3 a4 a0 a5 a6 a7 a1 a8 a9 aa a2 ab true af ag ac ah ai aj ad ak am an ae ao false _ (GV.vb (q := q0) (n := n0) ⟨_, _, _, RG.mk (hS.num 11 rfl) (hS.num 10 rfl) (hS.num 9 rfl), I0, S0⟩ (by omega)) (hV1.ext hS.ext) (Lib.hid rfl)).mono ?_
  rintro e bj ⟨v_, rfl, hv_, hx_⟩
  replace hS := hS.mv hx_
  clear hx_
  obtain ⟨_, rfl, bk, aM, bl, bm, bn, aN, bo, bp, bq, aO, br, bs, rfl, aJ, aK, aL⟩ := hv_
  replace hS := hS.addI aJ
  clear aJ
  replace hS := hS.addI aK
  clear aK
  replace hS := hS.addI aL
  clear aL
  have o13 : Own w bj.heap.size := Own.of hS.ext (by simp)
  have bL := (St.al hS 26 #[.bool false, .slice none 0 0, .bool false, .slice none 0 0, .bool false, .slice none 0 0] (g := bj.heap.size) (by simp))
  have bM := (bL.blk 0 rfl).cell
  have bN := (bL.blk 0 rfl).frozen
  go_wp2_with fail
  clear bM bN
  clear bL
  replace hS := (St.al hS 26 #[.bool bk, .slice aM bl bm, .bool bn, .slice aN bo bp, .bool bq, .slice aO br bs] (g := bj.heap.size) (by simp))
  generalize (bj.alloc (.cells #[.bool bk, .slice aM bl bm, .bool bn, .slice aN bo bp, .bool bq, .slice aO br bs] 26)) = w12 at hS ⊢
  generalize bj.heap.size = g13 at hS o13 ⊢
  refine (lxknown_ok _ (tab_ext hTab hS.ext)).mono ?_
  rintro e w13 ⟨rfl, hx_⟩
  replace hS := hS.mv hx_
  clear hx_
  go_wp2
  go_ret
  exact ⟨ret_bool (rfl), hS.ext⟩

end Go.Proofs.YtjeijmnhbckjdaaGreatDoor
