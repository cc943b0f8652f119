/- The laws of a field: the walk. -/
import Derived.Test.YtjeijmnhbckjdaaGreatDoorQAnndkn
import Derived.Test.YtjeijmnhbckjdaaGreatDoorQGdbooa
import Derived.Test.YtjeijmnhbckjdaaGreatDoorQGfleoo
import Derived.Test.YtjeijmnhbckjdaaGreatDoorQRowGidpd
namespace Go.Proofs.YtjeijmnhbckjdaaGreatDoor
open Go.RowKit
set_option linter.unusedVariables false

set_option maxRecDepth 100000 in
set_option maxHeartbeats 1600000 in
theorem field_large (a9 : Bool) (aa : Option Addr) (a0 ab : Nat) (ac : Bool) (ad : Option Addr) (a1 ae : Nat) (af : Bool) (ag : Option Addr) (a2 ah : Nat) (ai : Bool) (aj : Option Addr) (a3 ak : Nat) (am : Bool) (an : Option Addr) (a4 ao : Nat) (ap : Bool) (aq : Option Addr) (a5 ar : Nat) (au : Bool) (av : Option Addr) (a6 aw : Nat) (ax : Bool) (ay : Option Addr) (a7 az : Nat) (aA : Bool) (aB : Option Addr) (a8 aC : Nat) (w : World) (hTab : Tab w) (HL : Hid ([a0, a1, a2, a3, a4, a5, a6, a7, a8].all (fun n => decide (n ≤ 12)) = false))
      :
    Calls Tryz.prog 10 #[gv a9 aa a0 ab ac ad a1 ae af ag a2 ah, gv ai aj a3 ak am an a4 ao ap aq a5 ar, gv au av a6 aw ax ay a7 az aA aB a8 aC] w fun e w' => e = .returned (.bool true) ∧ Ext w w' := by
  have hS := St.start w
  have o3 : Own w w.heap.size := Own.of hS.ext (by simp)
  have o4 : Own w (w.heap.size + 1) := Own.of hS.ext (by simp)
  have o5 : Own w (w.heap.size + 2) := Own.of hS.ext (by simp)
  have aD := (St.al (St.al (St.al hS 26 #[.bool a9, .slice aa a0 ab, .bool ac, .slice ad a1 ae, .bool af, .slice ag a2 ah] (g := w.heap.size) (by simp)) 26 #[.bool ai, .slice aj a3 ak, .bool am, .slice an a4 ao, .bool ap, .slice aq a5 ar] (g := (w.heap.size + 1)) (by simp)) 26 #[.bool au, .slice av a6 aw, .bool ax, .slice ay a7 az, .bool aA, .slice aB a8 aC] (g := (w.heap.size + 2)) (by simp))
  have k_1 := (aD.blk 2 rfl).cell
  have k_2 := (aD.blk 1 rfl).cell
  have k_3 := (aD.blk 0 rfl).cell
  have o31 : Own w (w.heap.size + 3) := Own.of hS.ext (by simp)
  go_enter Tryz.func10, Tryz.ntmps10
  go_wp2_with fail
  clear k_1 k_2 k_3
  clear aD
  replace hS := (St.al (St.al (St.al (St.al hS 26 #[.bool a9, .slice aa a0 ab, .bool ac, .slice ad a1 ae, .bool af, .slice ag a2 ah] (g := w.heap.size) (by simp)) 26 #[.bool ai, .slice aj a3 ak, .bool am, .slice an a4 ao, .bool ap, .slice aq a5 ar] (g := (w.heap.size + 1)) (by simp)) 26 #[.bool au, .slice av a6 aw, .bool ax, .slice ay a7 az, .bool aA, .slice aB a8 aC] (g := (w.heap.size + 2)) (by simp)) 26 #[.bool a9, .slice aa a0 ab, .bool ac, .slice ad a1 ae, .bool af, .slice ag a2 ah, .bool ai, .slice aj a3 ak, .bool am, .slice an a4 ao, .bool ap, .slice aq a5 ar, .bool au, .slice av a6 aw, .bool ax, .slice ay a7 az, .bool aA, .slice aB a8 aC] (g := (w.heap.size + 3)) (by simp))
  generalize ((((w.alloc (.cells #[.bool a9, .slice aa a0 ab, .bool ac, .slice ad a1 ae, .bool af, .slice ag a2 ah] 26)).alloc (.cells #[.bool ai, .slice aj a3 ak, .bool am, .slice an a4 ao, .bool ap, .slice aq a5 ar] 26)).alloc (.cells #[.bool au, .slice av a6 aw, .bool ax, .slice ay a7 az, .bool aA, .slice aB a8 aC] 26)).alloc (.cells #[.bool a9, .slice aa a0 ab, .bool ac, .slice ad a1 ae, .bool af, .slice ag a2 ah, .bool ai, .slice aj a3 ak, .bool am, .slice an a4 ao, .bool ap, .slice aq a5 ar, .bool au, .slice av a6 aw, .bool ax, .slice ay a7 az, .bool aA, .slice aB a8 aC] 26)) = w1 at hS ⊢
  generalize w.heap.size + 3 = g31 at hS o31 ⊢
  generalize w.heap.size + 2 = g5 at hS o5 ⊢
  generalize w.heap.size + 1 = g4 at hS o4 ⊢
  generalize w.heap.size = g3 at hS o3 ⊢
  refine (low3_raw g31 12 false _ (hS.blk 0 rfl) HL.out).mono ?_
  rintro e w2 ⟨rfl, hx_⟩
  replace hS := hS.mv hx_
  clear hx_
  go_wp2_with fail
  refine (lxknown_ok _ (tab_ext hTab hS.ext)).mono ?_
  rintro e w3 ⟨rfl, hx_⟩
  replace hS := hS.mv hx_
  clear hx_
  go_wp2
  go_ret
  exact ⟨ret_bool (rfl), hS.ext⟩

set_option maxRecDepth 100000 in
set_option maxHeartbeats 1600000 in
theorem field_bad0 (a3 : Bool) (a4 : Option Addr) (a0 a5 : Nat) (a6 : Bool) (a7 : Option Addr) (a1 a8 : Nat) (a9 : Bool) (aa : Option Addr) (a2 ab : Nat) (ai : Bool) (aj : Option Addr) (ac ak : Nat) (am : Bool) (an : Option Addr) (ad ao : Nat) (ap : Bool) (aq : Option Addr) (ae ar : Nat) (au : Bool) (av : Option Addr) (af aw : Nat) (ax : Bool) (ay : Option Addr) (ag az : Nat) (aA : Bool) (aB : Option Addr) (ah aC : Nat) (w : World) (hV0 : VB w (gv a3 a4 a0 a5 a6 a7 a1 a8 a9 aa a2 ab) false) (hTab : Tab w) (HL : Hid ([a0, a1, a2, ac, ad, ae, af, ag, ah].all (fun n => decide (n ≤ 12)) = true))
      :
    Calls Tryz.prog 10 #[gv a3 a4 a0 a5 a6 a7 a1 a8 a9 aa a2 ab, gv ai aj ac ak am an ad ao ap aq ae ar, gv au av af aw ax ay ag az aA aB ah aC] w fun e w' => e = .returned (.bool true) ∧ Ext w w' := by
  have hS := St.start w
  have o3 : Own w w.heap.size := Own.of hS.ext (by simp)
  have o4 : Own w (w.heap.size + 1) := Own.of hS.ext (by simp)
  have o5 : Own w (w.heap.size + 2) := Own.of hS.ext (by simp)
  have aD := (St.al (St.al (St.al hS 26 #[.bool a3, .slice a4 a0 a5, .bool a6, .slice a7 a1 a8, .bool a9, .slice aa a2 ab] (g := w.heap.size) (by simp)) 26 #[.bool ai, .slice aj ac ak, .bool am, .slice an ad ao, .bool ap, .slice aq ae ar] (g := (w.heap.size + 1)) (by simp)) 26 #[.bool au, .slice av af aw, .bool ax, .slice ay ag az, .bool aA, .slice aB ah aC] (g := (w.heap.size + 2)) (by simp))
  have k_1 := (aD.blk 2 rfl).cell
  have k_2 := (aD.blk 1 rfl).cell
  have k_3 := (aD.blk 0 rfl).cell
  have o31 : Own w (w.heap.size + 3) := Own.of hS.ext (by simp)
  go_enter Tryz.func10, Tryz.ntmps10
  go_wp2_with fail
  clear k_1 k_2 k_3
  clear aD
  replace hS := (St.al (St.al (St.al (St.al hS 26 #[.bool a3, .slice a4 a0 a5, .bool a6, .slice a7 a1 a8, .bool a9, .slice aa a2 ab] (g := w.heap.size) (by simp)) 26 #[.bool ai, .slice aj ac ak, .bool am, .slice an ad ao, .bool ap, .slice aq ae ar] (g := (w.heap.size + 1)) (by simp)) 26 #[.bool au, .slice av af aw, .bool ax, .slice ay ag az, .bool aA, .slice aB ah aC] (g := (w.heap.size + 2)) (by simp)) 26 #[.bool a3, .slice a4 a0 a5, .bool a6, .slice a7 a1 a8, .bool a9, .slice aa a2 ab, .bool ai, .slice aj ac ak, .bool am, .slice an ad ao, .bool ap, .slice aq ae ar, .bool au, .slice av af aw, .bool ax, .slice ay ag az, .bool aA, .slice aB ah aC] (g := (w.heap.size + 3)) (by simp))
  generalize ((((w.alloc (.cells #[.bool a3, .slice a4 a0 a5, .bool a6, .slice a7 a1 a8, .bool a9, .slice aa a2 ab] 26)).alloc (.cells #[.bool ai, .slice aj ac ak, .bool am, .slice an ad ao, .bool ap, .slice aq ae ar] 26)).alloc (.cells #[.bool au, .slice av af aw, .bool ax, .slice ay ag az, .bool aA, .slice aB ah aC] 26)).alloc (.cells #[.bool a3, .slice a4 a0 a5, .bool a6, .slice a7 a1 a8, .bool a9, .slice aa a2 ab, .bool ai, .slice aj ac ak, .bool am, .slice an ad ao, .bool ap, .slice aq ae ar, .bool au, .slice av af aw, .bool ax, .slice ay ag az, .bool aA, .slice aB ah aC] 26)) = w1 at hS ⊢
  generalize w.heap.size + 3 = g31 at hS o31 ⊢
  generalize w.heap.size + 2 = g5 at hS o5 ⊢
  generalize w.heap.size + 1 = g4 at hS o4 ⊢
  generalize w.heap.size = g3 at hS o3 ⊢
  refine (low3_raw g31 12 true _ (hS.blk 0 rfl) HL.out).mono ?_
  rintro e w2 ⟨rfl, hx_⟩
  replace hS := hS.mv hx_
  clear hx_
  have k_4 := (hS.blk 3 rfl).cell
  go_wp2_with fail
  clear k_4
  refine (VB.e (hV0.ext hS.ext)).mono ?_
  rintro e w3 ⟨rfl, hx_⟩
  replace hS := hS.mv hx_
  clear hx_
  go_wp2_with fail
  refine (lxknown_ok _ (tab_ext hTab hS.ext)).mono ?_
  rintro e w4 ⟨rfl, hx_⟩
  replace hS := hS.mv hx_
  clear hx_
  go_wp2
  go_ret
  exact ⟨ret_bool (rfl), hS.ext⟩

set_option maxRecDepth 100000 in
set_option maxHeartbeats 1600000 in
theorem field_bad1 (a6 : Bool) (a7 : Option Addr) (a0 a8 : Nat) (a9 : Bool) (aa : Option Addr) (a1 ab : Nat) (ac : Bool) (ad : Option Addr) (a2 ae : Nat) (af : Bool) (ag : Option Addr) (a3 ah : Nat) (ai : Bool) (aj : Option Addr) (a4 ak : Nat) (am : Bool) (an : Option Addr) (a5 ao : Nat) (au : Bool) (av : Option Addr) (ap aw : Nat) (ax : Bool) (ay : Option Addr) (aq az : Nat) (aA : Bool) (aB : Option Addr) (ar aC : Nat) (w : World) (hV0 : VB w (gv a6 a7 a0 a8 a9 aa a1 ab ac ad a2 ae) true) (hV1 : VB w (gv af ag a3 ah ai aj a4 ak am an a5 ao) false) (hTab : Tab w) (HL : Hid ([a0, a1, a2, a3, a4, a5, ap, aq, ar].all (fun n => decide (n ≤ 12)) = true))
      :
    Calls Tryz.prog 10 #[gv a6 a7 a0 a8 a9 aa a1 ab ac ad a2 ae, gv af ag a3 ah ai aj a4 ak am an a5 ao, gv au av ap aw ax ay aq az aA aB ar aC] w fun e w' => e = .returned (.bool true) ∧ Ext w w' := by
  have hS := St.start w
  have o3 : Own w w.heap.size := Own.of hS.ext (by simp)
  have o4 : Own w (w.heap.size + 1) := Own.of hS.ext (by simp)
  have o5 : Own w (w.heap.size + 2) := Own.of hS.ext (by simp)
  have aD := (St.al (St.al (St.al hS 26 #[.bool a6, .slice a7 a0 a8, .bool a9, .slice aa a1 ab, .bool ac, .slice ad a2 ae] (g := w.heap.size) (by simp)) 26 #[.bool af, .slice ag a3 ah, .bool ai, .slice aj a4 ak, .bool am, .slice an a5 ao] (g := (w.heap.size + 1)) (by simp)) 26 #[.bool au, .slice av ap aw, .bool ax, .slice ay aq az, .bool aA, .slice aB ar aC] (g := (w.heap.size + 2)) (by simp))
  have k_1 := (aD.blk 2 rfl).cell
  have k_2 := (aD.blk 1 rfl).cell
  have k_3 := (aD.blk 0 rfl).cell
  have o31 : Own w (w.heap.size + 3) := Own.of hS.ext (by simp)
  go_enter Tryz.func10, Tryz.ntmps10
  go_wp2_with fail
  clear k_1 k_2 k_3
  clear aD
  replace hS := (St.al (St.al (St.al (St.al hS 26 #[.bool a6, .slice a7 a0 a8, .bool a9, .slice aa a1 ab, .bool ac, .slice ad a2 ae] (g := w.heap.size) (by simp)) 26 #[.bool af, .slice ag a3 ah, .bool ai, .slice aj a4 ak, .bool am, .slice an a5 ao] (g := (w.heap.size + 1)) (by simp)) 26 #[.bool au, .slice av ap aw, .bool ax, .slice ay aq az, .bool aA, .slice aB ar aC] (g := (w.heap.size + 2)) (by simp)) 26 #[.bool a6, .slice a7 a0 a8, .bool a9, .slice aa a1 ab, .bool ac, .slice ad a2 ae, .bool af, .slice ag a3 ah, .bool ai, .slice aj a4 ak, .bool am, .slice an a5 ao, .bool au, .slice av ap aw, .bool ax, .slice ay aq az, .bool aA, .slice aB ar aC] (g := (w.heap.size + 3)) (by simp))
  generalize ((((w.alloc (.cells #[.bool a6, .slice a7 a0 a8, .bool a9, .slice aa a1 ab, .bool ac, .slice ad a2 ae] 26)).alloc (.cells #[.bool af, .slice ag a3 ah, .bool ai, .slice aj a4 ak, .bool am, .slice an a5 ao] 26)).alloc (.cells #[.bool au, .slice av ap aw, .bool ax, .slice ay aq az, .bool aA, .slice aB ar aC] 26)).alloc (.cells #[.bool a6, .slice a7 a0 a8, .bool a9, .slice aa a1 ab, .bool ac, .slice ad a2 ae, .bool af, .slice ag a3 ah, .bool ai, .slice aj a4 ak, .bool am, .slice an a5 ao, .bool au, .slice av ap aw, .bool ax, .slice ay aq az, .bool aA, .slice aB ar aC] 26)) = w1 at hS ⊢
  generalize w.heap.size + 3 = g31 at hS o31 ⊢
  generalize w.heap.size + 2 = g5 at hS o5 ⊢
  generalize w.heap.size + 1 = g4 at hS o4 ⊢
  generalize w.heap.size = g3 at hS o3 ⊢
  refine (low3_raw g31 12 true _ (hS.blk 0 rfl) HL.out).mono ?_
  rintro e w2 ⟨rfl, hx_⟩
  replace hS := hS.mv hx_
  clear hx_
  have k_4 := (hS.blk 3 rfl).cell
  go_wp2_with fail
  clear k_4
  refine (VB.e (hV0.ext hS.ext)).mono ?_
  rintro e w3 ⟨rfl, hx_⟩
  replace hS := hS.mv hx_
  clear hx_
  have k_5 := (hS.blk 2 rfl).cell
  go_wp2_with fail
  clear k_5
  refine (VB.e (hV1.ext hS.ext)).mono ?_
  rintro e w4 ⟨rfl, hx_⟩
  replace hS := hS.mv hx_
  clear hx_
  go_wp2_with fail
  refine (lxknown_ok _ (tab_ext hTab hS.ext)).mono ?_
  rintro e w5 ⟨rfl, hx_⟩
  replace hS := hS.mv hx_
  clear hx_
  go_wp2
  go_ret
  exact ⟨ret_bool (rfl), hS.ext⟩

set_option maxRecDepth 100000 in
set_option maxHeartbeats 1600000 in
theorem field_bad2 (a9 : Bool) (aa : Option Addr) (a0 ab : Nat) (ac : Bool) (ad : Option Addr) (a1 ae : Nat) (af : Bool) (ag : Option Addr) (a2 ah : Nat) (ai : Bool) (aj : Option Addr) (a3 ak : Nat) (am : Bool) (an : Option Addr) (a4 ao : Nat) (ap : Bool) (aq : Option Addr) (a5 ar : Nat) (au : Bool) (av : Option Addr) (a6 aw : Nat) (ax : Bool) (ay : Option Addr) (a7 az : Nat) (aA : Bool) (aB : Option Addr) (a8 aC : Nat) (w : World) (hV0 : VB w (gv a9 aa a0 ab ac ad a1 ae af ag a2 ah) true) (hV1 : VB w (gv ai aj a3 ak am an a4 ao ap aq a5 ar) true) (hV2 : VB w (gv au av a6 aw ax ay a7 az aA aB a8 aC) false) (hTab : Tab w) (HL : Hid ([a0, a1, a2, a3, a4, a5, a6, a7, a8].all (fun n => decide (n ≤ 12)) = true))
      :
    Calls Tryz.prog 10 #[gv a9 aa a0 ab ac ad a1 ae af ag a2 ah, gv ai aj a3 ak am an a4 ao ap aq a5 ar, gv au av a6 aw ax ay a7 az aA aB a8 aC] w fun e w' => e = .returned (.bool true) ∧ Ext w w' := by
  have hS := St.start w
  have o3 : Own w w.heap.size := Own.of hS.ext (by simp)
  have o4 : Own w (w.heap.size + 1) := Own.of hS.ext (by simp)
  have o5 : Own w (w.heap.size + 2) := Own.of hS.ext (by simp)
  have aD := (St.al (St.al (St.al hS 26 #[.bool a9, .slice aa a0 ab, .bool ac, .slice ad a1 ae, .bool af, .slice ag a2 ah] (g := w.heap.size) (by simp)) 26 #[.bool ai, .slice aj a3 ak, .bool am, .slice an a4 ao, .bool ap, .slice aq a5 ar] (g := (w.heap.size + 1)) (by simp)) 26 #[.bool au, .slice av a6 aw, .bool ax, .slice ay a7 az, .bool aA, .slice aB a8 aC] (g := (w.heap.size + 2)) (by simp))
  have k_1 := (aD.blk 2 rfl).cell
  have k_2 := (aD.blk 1 rfl).cell
  have k_3 := (aD.blk 0 rfl).cell
  have o31 : Own w (w.heap.size + 3) := Own.of hS.ext (by simp)
  go_enter Tryz.func10, Tryz.ntmps10
  go_wp2_with fail
  clear k_1 k_2 k_3
  clear aD
  replace hS := (St.al (St.al (St.al (St.al hS 26 #[.bool a9, .slice aa a0 ab, .bool ac, .slice ad a1 ae, .bool af, .slice ag a2 ah] (g := w.heap.size) (by simp)) 26 #[.bool ai, .slice aj a3 ak, .bool am, .slice an a4 ao, .bool ap, .slice aq a5 ar] (g := (w.heap.size + 1)) (by simp)) 26 #[.bool au, .slice av a6 aw, .bool ax, .slice ay a7 az, .bool aA, .slice aB a8 aC] (g := (w.heap.size + 2)) (by simp)) 26 #[.bool a9, .slice aa a0 ab, .bool ac, .slice ad a1 ae, .bool af, .slice ag a2 ah, .bool ai, .slice aj a3 ak, .bool am, .slice an a4 ao, .bool ap, .slice aq a5 ar, .bool au, .slice av a6 aw, .bool ax, .slice ay a7 az, .bool aA, .slice aB a8 aC] (g := (w.heap.size + 3)) (by simp))
  generalize ((((w.alloc (.cells #[.bool a9, .slice aa a0 ab, .bool ac, .slice ad a1 ae, .bool af, .slice ag a2 ah] 26)).alloc (.cells #[.bool ai, .slice aj a3 ak, .bool am, .slice an a4 ao, .bool ap, .slice aq a5 ar] 26)).alloc (.cells #[.bool au, .slice av a6 aw, .bool ax, .slice ay a7 az, .bool aA, .slice aB a8 aC] 26)).alloc (.cells #[.bool a9, .slice aa a0 ab, .bool ac, .slice ad a1 ae, .bool af, .slice ag a2 ah, .bool ai, .slice aj a3 ak, .bool am, .slice an a4 ao, .bool ap, .slice aq a5 ar, .bool au, .slice av a6 aw, .bool ax, .slice ay a7 az, .bool aA, .slice aB a8 aC] 26)) = w1 at hS ⊢
  generalize w.heap.size + 3 = g31 at hS o31 ⊢
  generalize w.heap.size + 2 = g5 at hS o5 ⊢
  generalize w.heap.size + 1 = g4 at hS o4 ⊢
  generalize w.heap.size = g3 at hS o3 ⊢
  refine (low3_raw g31 12 true _ (hS.blk 0 rfl) HL.out).mono ?_
  rintro e w2 ⟨rfl, hx_⟩
  replace hS := hS.mv hx_
  clear hx_
  have k_4 := (hS.blk 3 rfl).cell
  go_wp2_with fail
  clear k_4
  refine (VB.e (hV0.ext hS.ext)).mono ?_
  rintro e w3 ⟨rfl, hx_⟩
  replace hS := hS.mv hx_
  clear hx_
  have k_5 := (hS.blk 2 rfl).cell
  go_wp2_with fail
  clear k_5
  refine (VB.e (hV1.ext hS.ext)).mono ?_
  rintro e w4 ⟨rfl, hx_⟩
  replace hS := hS.mv hx_
  clear hx_
  have k_6 := (hS.blk 1 rfl).cell
  go_wp2_with fail
  clear k_6
  refine (VB.e (hV2.ext hS.ext)).mono ?_
  rintro e w5 ⟨rfl, hx_⟩
  replace hS := hS.mv hx_
  clear hx_
  go_wp2_with fail
  refine (lxknown_ok _ (tab_ext hTab hS.ext)).mono ?_
  rintro e w6 ⟨rfl, hx_⟩
  replace hS := hS.mv hx_
  clear hx_
  go_wp2
  go_ret
  exact ⟨ret_bool (rfl), hS.ext⟩

set_option maxRecDepth 100000 in
set_option maxHeartbeats 51200000 in
theorem field_z (v0 : Value) (q0 : GQ) (n0 : Nat) (v1 : Value) (q1 : GQ) (n1 : Nat) (v2 : Value) (q2 : GQ) (n2 : Nat) (w : World) (hX0 : GV w v0 q0 n0) (hX1 : GV w v1 q1 n1) (hX2 : GV w v2 q2 n2) (hn0 : n0 ≤ 384) (hn1 : n1 ≤ 384) (hn2 : n2 ≤ 384) (hTab : Tab w) (E1 : Hid (q0 * q1 = q1 * q0)) (E2 : Hid (q0 * (q1 + q2) = (q0 * q1) + (q0 * q2))) (E3 : Hid ((q0 * q1) * q2 = (q0 * q2) * q1)) (E4 : Hid ((q1 + q2) - q2 = q1)) (HZ : Hid (q1 = GQ.i 0 0))
      :
    Calls Tryz.prog 10 #[v0, v1, v2] w fun e w' => e = .returned (.bool true) ∧ Ext w w' := by
  have hS := St.start w
  obtain ⟨x0a, x0b, x0d, hX0, I0, S0⟩ := hX0
  obtain ⟨aB, aC, aq, aD, aE, aF, ar, aG, aH, aI, au, aJ, rfl, dK, dL, dM⟩ := hX0
  replace hS := hS.addI dK
  clear dK
  replace hS := hS.addI dL
  clear dL
  replace hS := hS.addI dM
  clear dM
  obtain ⟨x1a, x1b, x1d, hX1, I1, S1⟩ := hX1
  obtain ⟨aK, aL, av, aM, aN, aO, aw, aP, aQ, aR, ax, aS, rfl, dN, dO, dP⟩ := hX1
  replace hS := hS.addI dN
  clear dN
  replace hS := hS.addI dO
  clear dO
  replace hS := hS.addI dP
  clear dP
  obtain ⟨x2a, x2b, x2d, hX2, I2, S2⟩ := hX2
  obtain ⟨aT, aU, ay, aV, aW, aX, az, aY, aZ, b0, aA, b1, rfl, dQ, dR, dS⟩ := hX2
  replace hS := hS.addI dQ
  clear dQ
  replace hS := hS.addI dR
  clear dR
  replace hS := hS.addI dS
  clear dS
  have HL : Hid ([aq, ar, au, av, aw, ax, ay, az, aA].all (fun n => decide (n ≤ 12)) = true) := Lib.hid (by simp only [List.all_cons, List.all_nil, Bool.and_true, Bool.and_eq_true, decide_eq_true_eq]; exact ⟨RI.low (k := 12) (hS.num 8 rfl) S0.a (by omega), RI.low (k := 12) (hS.num 7 rfl) S0.b (by omega), RI.low (k := 12) (hS.num 6 rfl) S0.d (by omega), RI.low (k := 12) (hS.num 5 rfl) S1.a (by omega), RI.low (k := 12) (hS.num 4 rfl) S1.b (by omega), RI.low (k := 12) (hS.num 3 rfl) S1.d (by omega), RI.low (k := 12) (hS.num 2 rfl) S2.a (by omega), RI.low (k := 12) (hS.num 1 rfl) S2.b (by omega), RI.low (k := 12) (hS.num 0 rfl) S2.d (by omega)⟩)
  have o3 : Own w w.heap.size := Own.of hS.ext (by simp)
  have o4 : Own w (w.heap.size + 1) := Own.of hS.ext (by simp)
  have o5 : Own w (w.heap.size + 2) := Own.of hS.ext (by simp)
  have e0 := (St.al (St.al (St.al hS 26 #[.bool aB, .slice aC aq aD, .bool aE, .slice aF ar aG, .bool aH, .slice aI au aJ] (g := w.heap.size) (by simp)) 26 #[.bool aK, .slice aL av aM, .bool aN, .slice aO aw aP, .bool aQ, .slice aR ax aS] (g := (w.heap.size + 1)) (by simp)) 26 #[.bool aT, .slice aU ay aV, .bool aW, .slice aX az aY, .bool aZ, .slice b0 aA b1] (g := (w.heap.size + 2)) (by simp))
  have k_1 := (e0.blk 2 rfl).cell
  have k_2 := (e0.blk 1 rfl).cell
  have k_3 := (e0.blk 0 rfl).cell
  have o31 : Own w (w.heap.size + 3) := Own.of hS.ext (by simp)
  go_enter Tryz.func10, Tryz.ntmps10
  go_wp2_with fail
  clear k_1 k_2 k_3
  clear e0
  replace hS := (St.al (St.al (St.al (St.al hS 26 #[.bool aB, .slice aC aq aD, .bool aE, .slice aF ar aG, .bool aH, .slice aI au aJ] (g := w.heap.size) (by simp)) 26 #[.bool aK, .slice aL av aM, .bool aN, .slice aO aw aP, .bool aQ, .slice aR ax aS] (g := (w.heap.size + 1)) (by simp)) 26 #[.bool aT, .slice aU ay aV, .bool aW, .slice aX az aY, .bool aZ, .slice b0 aA b1] (g := (w.heap.size + 2)) (by simp)) 26 #[.bool aB, .slice aC aq aD, .bool aE, .slice aF ar aG, .bool aH, .slice aI au aJ, .bool aK, .slice aL av aM, .bool aN, .slice aO aw aP, .bool aQ, .slice aR ax aS, .bool aT, .slice aU ay aV, .bool aW, .slice aX az aY, .bool aZ, .slice b0 aA b1] (g := (w.heap.size + 3)) (by simp))
  generalize ((((w.alloc (.cells #[.bool aB, .slice aC aq aD, .bool aE, .slice aF ar aG, .bool aH, .slice aI au aJ] 26)).alloc (.cells #[.bool aK, .slice aL av aM, .bool aN, .slice aO aw aP, .bool aQ, .slice aR ax aS] 26)).alloc (.cells #[.bool aT, .slice aU ay aV, .bool aW, .slice aX az aY, .bool aZ, .slice b0 aA b1] 26)).alloc (.cells #[.bool aB, .slice aC aq aD, .bool aE, .slice aF ar aG, .bool aH, .slice aI au aJ, .bool aK, .slice aL av aM, .bool aN, .slice aO aw aP, .bool aQ, .slice aR ax aS, .bool aT, .slice aU ay aV, .bool aW, .slice aX az aY, .bool aZ, .slice b0 aA b1] 26)) = w1 at hS ⊢
  generalize w.heap.size + 3 = g31 at hS o31 ⊢
  generalize w.heap.size + 2 = g5 at hS o5 ⊢
  generalize w.heap.size + 1 = g4 at hS o4 ⊢
  generalize w.heap.size = g3 at hS o3 ⊢
  refine (low3_raw g31 12 true _ (hS.blk 0 rfl) HL.out).mono ?_
  rintro e w2 ⟨rfl, hx_⟩
  replace hS := hS.mv hx_
  clear hx_
  have k_4 := (hS.blk 3 rfl).cell
  go_wp2_with fail
  clear k_4
  refine (eValid_gv _ q0 (n0) _ ⟨_, _, _, RG.mk (hS.num 8 rfl) (hS.num 7 rfl) (hS.num 6 rfl), I0, S0⟩ (by omega)).mono ?_
  rintro e w3 ⟨rfl, hx_⟩
  replace hS := hS.mv hx_
  clear hx_
  have k_5 := (hS.blk 2 rfl).cell
  go_wp2_with fail
  clear k_5
  refine (eValid_gv _ q1 (n1) _ ⟨_, _, _, RG.mk (hS.num 5 rfl) (hS.num 4 rfl) (hS.num 3 rfl), I1, S1⟩ (by omega)).mono ?_
  rintro e w4 ⟨rfl, hx_⟩
  replace hS := hS.mv hx_
  clear hx_
  have k_6 := (hS.blk 1 rfl).cell
  go_wp2_with fail
  clear k_6
  refine (eValid_gv _ q2 (n2) _ ⟨_, _, _, RG.mk (hS.num 2 rfl) (hS.num 1 rfl) (hS.num 0 rfl), I2, S2⟩ (by omega)).mono ?_
  rintro e w5 ⟨rfl, hx_⟩
  replace hS := hS.mv hx_
  clear hx_
  have k_7 := (hS.blk 3 rfl).cell
  have k_8 := (hS.blk 2 rfl).cell
  go_wp2_with fail
  clear k_7 k_8
  obtain ⟨e4, e5, e6, c1⟩ := is_ex (q0 * q1)
  have dB : Sz (n0 + n1 + 1) e4 e5 e6 := (Bd.mul ⟨_, _, _, I0, S0⟩ ⟨_, _, _, I1, S1⟩).sz c1
  refine (toTG (xMul_w _ q0 (n0) _ q1 (n1) _ ⟨_, _, _, RG.mk (hS.num 8 rfl) (hS.num 7 rfl) (hS.num 6 rfl), I0, S0⟩ ⟨_, _, _, RG.mk (hS.num 5 rfl) (hS.num 4 rfl) (hS.num 3 rfl), I1, S1⟩ (by omega)) c1).mono ?_
  rintro e w6 ⟨v_, rfl, hv_, hx_⟩
  replace hS := hS.mv hx_
  clear hx_
  obtain ⟨_, rfl, cb, b2, cc, cd, ce, b3, cf, cg, ch, b4, ci, cj, rfl, b5, b6, b7⟩ := hv_
  replace hS := hS.addI b5
  clear b5
  replace hS := hS.addI b6
  clear b6
  replace hS := hS.addI b7
  clear b7
  have o7 : Own w w6.heap.size := Own.of hS.ext (by simp)
  have e7 := (St.al hS 26 #[.bool false, .slice none 0 0, .bool false, .slice none 0 0, .bool false, .slice none 0 0] (g := w6.heap.size) (by simp))
  have k_9 := (e7.blk 0 rfl).cell
  have e8 := (e7.blk 0 rfl).frozen
  have e9 := (St.al hS 26 #[.bool cb, .slice b2 cc cd, .bool ce, .slice b3 cf cg, .bool ch, .slice b4 ci cj] (g := w6.heap.size) (by simp))
  have ea := (e9.blk 3 rfl).cell
  have eb := (e9.blk 4 rfl).cell
  go_wp2_with fail
  clear k_9 e8 ea eb
  clear e7 e9
  replace hS := (St.al hS 26 #[.bool cb, .slice b2 cc cd, .bool ce, .slice b3 cf cg, .bool ch, .slice b4 ci cj] (g := w6.heap.size) (by simp))
  generalize (w6.alloc (.cells #[.bool cb, .slice b2 cc cd, .bool ce, .slice b3 cf cg, .bool ch, .slice b4 ci cj] 26)) = w7 at hS ⊢
  generalize w6.heap.size = g7 at hS o7 ⊢
  obtain ⟨ec, ed, ee, ef⟩ := is_ex (q1 * q0)
  have S59 : Sz (n1 + n0 + 1) ec ed ee := (Bd.mul ⟨_, _, _, I1, S1⟩ ⟨_, _, _, I0, S0⟩).sz ef
  refine (toTG (xMul_w _ q1 (n1) _ q0 (n0) _ ⟨_, _, _, RG.mk (hS.num 8 rfl) (hS.num 7 rfl) (hS.num 6 rfl), I1, S1⟩ ⟨_, _, _, RG.mk (hS.num 11 rfl) (hS.num 10 rfl) (hS.num 9 rfl), I0, S0⟩ (by omega)) ef).mono ?_
  rintro e w8 ⟨v_, rfl, hv_, hx_⟩
  replace hS := hS.mv hx_
  clear hx_
  obtain ⟨_, rfl, ck, b8, cl, cn, co, b9, cp, cq, cr, ba, cs, ct, rfl, bb, bc, bd⟩ := hv_
  replace hS := hS.addI bb
  clear bb
  replace hS := hS.addI bc
  clear bc
  replace hS := hS.addI bd
  clear bd
  have o9 : Own w w8.heap.size := Own.of hS.ext (by simp)
  have eg := (St.al hS 26 #[.bool false, .slice none 0 0, .bool false, .slice none 0 0, .bool false, .slice none 0 0] (g := w8.heap.size) (by simp))
  have eh := (eg.blk 0 rfl).cell
  have ei := (eg.blk 0 rfl).frozen
  have ej := (St.al hS 26 #[.bool ck, .slice b8 cl cn, .bool co, .slice b9 cp cq, .bool cr, .slice ba cs ct] (g := w8.heap.size) (by simp))
  have ek := (ej.blk 4 rfl).cell
  have el := (ej.blk 3 rfl).cell
  go_wp2_with fail
  clear eh ei ek el
  clear eg ej
  replace hS := (St.al hS 26 #[.bool ck, .slice b8 cl cn, .bool co, .slice b9 cp cq, .bool cr, .slice ba cs ct] (g := w8.heap.size) (by simp))
  generalize (w8.alloc (.cells #[.bool ck, .slice b8 cl cn, .bool co, .slice b9 cp cq, .bool cr, .slice ba cs ct] 26)) = w9 at hS ⊢
  generalize w8.heap.size = g9 at hS o9 ⊢
  obtain ⟨em, en, eo, dC⟩ := is_ex (q1 + q2)
  have e1 : Sz (n1 + n2 + 65) em en eo := (Bd.mono (Bd.add ⟨_, _, _, I1, S1⟩ ⟨_, _, _, I2, S2⟩) (by omega)).sz dC
  refine (toTG (xAdd_ok _ q1 (n1) _ q2 (n2) _ ⟨_, _, _, RG.mk (hS.num 11 rfl) (hS.num 10 rfl) (hS.num 9 rfl), I1, S1⟩ ⟨_, _, _, RG.mk (hS.num 8 rfl) (hS.num 7 rfl) (hS.num 6 rfl), I2, S2⟩ (by omega)) dC).mono ?_
  rintro e dD ⟨v_, rfl, hv_, hx_⟩
  replace hS := hS.mv hx_
  clear hx_
  obtain ⟨_, rfl, cu, be, cv, cw, cx, bf, cy, cz, cA, bg, cB, cC, rfl, bh, bi, bj⟩ := hv_
  replace hS := hS.addI bh
  clear bh
  replace hS := hS.addI bi
  clear bi
  replace hS := hS.addI bj
  clear bj
  have o11 : Own w dD.heap.size := Own.of hS.ext (by simp)
  have ep := (St.al hS 26 #[.bool false, .slice none 0 0, .bool false, .slice none 0 0, .bool false, .slice none 0 0] (g := dD.heap.size) (by simp))
  have er := (ep.blk 0 rfl).cell
  have es := (ep.blk 0 rfl).frozen
  have et := (St.al hS 26 #[.bool cu, .slice be cv cw, .bool cx, .slice bf cy cz, .bool cA, .slice bg cB cC] (g := dD.heap.size) (by simp))
  have eu := (et.blk 6 rfl).cell
  have ev := (et.blk 0 rfl).cell
  go_wp2_with fail
  clear er es eu ev
  clear ep et
  replace hS := (St.al hS 26 #[.bool cu, .slice be cv cw, .bool cx, .slice bf cy cz, .bool cA, .slice bg cB cC] (g := dD.heap.size) (by simp))
  generalize (dD.alloc (.cells #[.bool cu, .slice be cv cw, .bool cx, .slice bf cy cz, .bool cA, .slice bg cB cC] 26)) = w11 at hS ⊢
  generalize dD.heap.size = g11 at hS o11 ⊢
  obtain ⟨ew, ex, ey, ez⟩ := is_ex (q0 * (q1 + q2))
  have S71 : Sz (n0 + (n1 + n2 + 65) + 1) ew ex ey := (Bd.mul ⟨_, _, _, I0, S0⟩ ⟨_, _, _, dC, e1⟩).sz ez
  refine (toTG (xMul_w _ q0 (n0) _ (q1 + q2) (n1 + n2 + 65) _ ⟨_, _, _, RG.mk (hS.num 17 rfl) (hS.num 16 rfl) (hS.num 15 rfl), I0, S0⟩ ⟨_, _, _, RG.mk (hS.num 2 rfl) (hS.num 1 rfl) (hS.num 0 rfl), dC, e1⟩ (by omega)) ez).mono ?_
  rintro e dE ⟨v_, rfl, hv_, hx_⟩
  replace hS := hS.mv hx_
  clear hx_
  obtain ⟨_, rfl, cD, bk, cE, cF, cG, bl, cH, cI, cJ, bm, cK, cL, rfl, bn, bo, bp⟩ := hv_
  replace hS := hS.addI bn
  clear bn
  replace hS := hS.addI bo
  clear bo
  replace hS := hS.addI bp
  clear bp
  have o13 : Own w dE.heap.size := Own.of hS.ext (by simp)
  have eA := (St.al hS 26 #[.bool false, .slice none 0 0, .bool false, .slice none 0 0, .bool false, .slice none 0 0] (g := dE.heap.size) (by simp))
  have eB := (eA.blk 0 rfl).cell
  have eC := (eA.blk 0 rfl).frozen
  have eD := (St.al hS 26 #[.bool cD, .slice bk cE cF, .bool cG, .slice bl cH cI, .bool cJ, .slice bm cK cL] (g := dE.heap.size) (by simp))
  have eE := (eD.blk 7 rfl).cell
  have eF := (eD.blk 5 rfl).cell
  go_wp2_with fail
  clear eB eC eE eF
  clear eA eD
  replace hS := (St.al hS 26 #[.bool cD, .slice bk cE cF, .bool cG, .slice bl cH cI, .bool cJ, .slice bm cK cL] (g := dE.heap.size) (by simp))
  generalize (dE.alloc (.cells #[.bool cD, .slice bk cE cF, .bool cG, .slice bl cH cI, .bool cJ, .slice bm cK cL] 26)) = w13 at hS ⊢
  generalize dE.heap.size = g13 at hS o13 ⊢
  obtain ⟨eG, eH, eI, e2⟩ := is_ex (q0 * q2)
  have fx : Sz (n0 + n2 + 1) eG eH eI := (Bd.mul ⟨_, _, _, I0, S0⟩ ⟨_, _, _, I2, S2⟩).sz e2
  refine (toTG (xMul_w _ q0 (n0) _ q2 (n2) _ ⟨_, _, _, RG.mk (hS.num 20 rfl) (hS.num 19 rfl) (hS.num 18 rfl), I0, S0⟩ ⟨_, _, _, RG.mk (hS.num 14 rfl) (hS.num 13 rfl) (hS.num 12 rfl), I2, S2⟩ (by omega)) e2).mono ?_
  rintro e dF ⟨v_, rfl, hv_, hx_⟩
  replace hS := hS.mv hx_
  clear hx_
  obtain ⟨_, rfl, cM, bq, cN, cO, cP, br, cQ, cR, cS, bs, cT, cU, rfl, bt, bu, bv⟩ := hv_
  replace hS := hS.addI bt
  clear bt
  replace hS := hS.addI bu
  clear bu
  replace hS := hS.addI bv
  clear bv
  have o15 : Own w dF.heap.size := Own.of hS.ext (by simp)
  have cV := (St.al hS 26 #[.bool false, .slice none 0 0, .bool false, .slice none 0 0, .bool false, .slice none 0 0] (g := dF.heap.size) (by simp))
  have eJ := (cV.blk 0 rfl).cell
  have eK := (cV.blk 0 rfl).frozen
  have cW := (St.al hS 26 #[.bool cM, .slice bq cN cO, .bool cP, .slice br cQ cR, .bool cS, .slice bs cT cU] (g := dF.heap.size) (by simp))
  have eL := (cW.blk 4 rfl).cell
  have eM := (cW.blk 0 rfl).cell
  go_wp2_with fail
  clear eJ eK eL eM
  clear cV cW
  replace hS := (St.al hS 26 #[.bool cM, .slice bq cN cO, .bool cP, .slice br cQ cR, .bool cS, .slice bs cT cU] (g := dF.heap.size) (by simp))
  generalize (dF.alloc (.cells #[.bool cM, .slice bq cN cO, .bool cP, .slice br cQ cR, .bool cS, .slice bs cT cU] 26)) = w15 at hS ⊢
  generalize dF.heap.size = g15 at hS o15 ⊢
  obtain ⟨eN, eO, eP, eQ⟩ := is_ex ((q0 * q1) + (q0 * q2))
  have S83 : Sz ((n0 + n1 + 1) + (n0 + n2 + 1) + 65) eN eO eP := (Bd.mono (Bd.add ⟨_, _, _, c1, dB⟩ ⟨_, _, _, e2, fx⟩) (by omega)).sz eQ
  refine (toTG (xAdd_ok _ (q0 * q1) (n0 + n1 + 1) _ (q0 * q2) (n0 + n2 + 1) _ ⟨_, _, _, RG.mk (hS.num 14 rfl) (hS.num 13 rfl) (hS.num 12 rfl), c1, dB⟩ ⟨_, _, _, RG.mk (hS.num 2 rfl) (hS.num 1 rfl) (hS.num 0 rfl), e2, fx⟩ (by omega)) eQ).mono ?_
  rintro e dG ⟨v_, rfl, hv_, hx_⟩
  replace hS := hS.mv hx_
  clear hx_
  obtain ⟨_, rfl, cX, bw, cY, cZ, d0, bx, d1, d2, d3, bz, d4, d5, rfl, bA, bB, bC⟩ := hv_
  replace hS := hS.addI bA
  clear bA
  replace hS := hS.addI bB
  clear bB
  replace hS := hS.addI bC
  clear bC
  have o17 : Own w dG.heap.size := Own.of hS.ext (by simp)
  have d6 := (St.al hS 26 #[.bool false, .slice none 0 0, .bool false, .slice none 0 0, .bool false, .slice none 0 0] (g := dG.heap.size) (by simp))
  have eR := (d6.blk 0 rfl).cell
  have eS := (d6.blk 0 rfl).frozen
  have d7 := (St.al hS 26 #[.bool cX, .slice bw cY cZ, .bool d0, .slice bx d1 d2, .bool d3, .slice bz d4 d5] (g := dG.heap.size) (by simp))
  have eT := (d7.blk 5 rfl).cell
  have eU := (d7.blk 7 rfl).cell
  go_wp2_with fail
  clear eR eS eT eU
  clear d6 d7
  replace hS := (St.al hS 26 #[.bool cX, .slice bw cY cZ, .bool d0, .slice bx d1 d2, .bool d3, .slice bz d4 d5] (g := dG.heap.size) (by simp))
  generalize (dG.alloc (.cells #[.bool cX, .slice bw cY cZ, .bool d0, .slice bx d1 d2, .bool d3, .slice bz d4 d5] 26)) = w17 at hS ⊢
  generalize dG.heap.size = g17 at hS o17 ⊢
  obtain ⟨eV, eW, eX, eY⟩ := is_ex ((q0 * q1) * q2)
  have S89 : Sz ((n0 + n1 + 1) + n2 + 1) eV eW eX := (Bd.mul ⟨_, _, _, c1, dB⟩ ⟨_, _, _, I2, S2⟩).sz eY
  refine (toTG (xMul_w _ (q0 * q1) (n0 + n1 + 1) _ q2 (n2) _ ⟨_, _, _, RG.mk (hS.num 17 rfl) (hS.num 16 rfl) (hS.num 15 rfl), c1, dB⟩ ⟨_, _, _, RG.mk (hS.num 20 rfl) (hS.num 19 rfl) (hS.num 18 rfl), I2, S2⟩ (by omega)) eY).mono ?_
  rintro e dH ⟨v_, rfl, hv_, hx_⟩
  replace hS := hS.mv hx_
  clear hx_
  obtain ⟨_, rfl, d8, bD, d9, da, db, bE, dc, dd, de, bF, df, dg, rfl, bG, bH, bI⟩ := hv_
  replace hS := hS.addI bG
  clear bG
  replace hS := hS.addI bH
  clear bH
  replace hS := hS.addI bI
  clear bI
  have o19 : Own w dH.heap.size := Own.of hS.ext (by simp)
  have dh := (St.al hS 26 #[.bool false, .slice none 0 0, .bool false, .slice none 0 0, .bool false, .slice none 0 0] (g := dH.heap.size) (by simp))
  have eZ := (dh.blk 0 rfl).cell
  have f0 := (dh.blk 0 rfl).frozen
  have di := (St.al hS 26 #[.bool d8, .slice bD d9 da, .bool db, .slice bE dc dd, .bool de, .slice bF df dg] (g := dH.heap.size) (by simp))
  have f1 := (di.blk 10 rfl).cell
  have f2 := (di.blk 8 rfl).cell
  go_wp2_with fail
  clear eZ f0 f1 f2
  clear dh di
  replace hS := (St.al hS 26 #[.bool d8, .slice bD d9 da, .bool db, .slice bE dc dd, .bool de, .slice bF df dg] (g := dH.heap.size) (by simp))
  generalize (dH.alloc (.cells #[.bool d8, .slice bD d9 da, .bool db, .slice bE dc dd, .bool de, .slice bF df dg] 26)) = w19 at hS ⊢
  generalize dH.heap.size = g19 at hS o19 ⊢
  obtain ⟨f3, f4, f5, e3⟩ := is_ex (q0 * q2)
  have fy : Sz (n0 + n2 + 1) f3 f4 f5 := (Bd.mul ⟨_, _, _, I0, S0⟩ ⟨_, _, _, I2, S2⟩).sz e3
  refine (toTG (xMul_w _ q0 (n0) _ q2 (n2) _ ⟨_, _, _, RG.mk (hS.num 29 rfl) (hS.num 28 rfl) (hS.num 27 rfl), I0, S0⟩ ⟨_, _, _, RG.mk (hS.num 23 rfl) (hS.num 22 rfl) (hS.num 21 rfl), I2, S2⟩ (by omega)) e3).mono ?_
  rintro e dI ⟨v_, rfl, hv_, hx_⟩
  replace hS := hS.mv hx_
  clear hx_
  obtain ⟨_, rfl, dj, bJ, dk, dl, dm, bK, dn, dp, dq, bL, dr, ds, rfl, bM, bN, bO⟩ := hv_
  replace hS := hS.addI bM
  clear bM
  replace hS := hS.addI bN
  clear bN
  replace hS := hS.addI bO
  clear bO
  have f6 : Own w dI.heap.size := Own.of hS.ext (by simp)
  have dt := (St.al hS 26 #[.bool false, .slice none 0 0, .bool false, .slice none 0 0, .bool false, .slice none 0 0] (g := dI.heap.size) (by simp))
  have f7 := (dt.blk 0 rfl).cell
  have f8 := (dt.blk 0 rfl).frozen
  have du := (St.al hS 26 #[.bool dj, .slice bJ dk dl, .bool dm, .slice bK dn dp, .bool dq, .slice bL dr ds] (g := dI.heap.size) (by simp))
  have f9 := (du.blk 0 rfl).cell
  have fa := (du.blk 10 rfl).cell
  go_wp2_with fail
  clear f7 f8 f9 fa
  clear dt du
  replace hS := (St.al hS 26 #[.bool dj, .slice bJ dk dl, .bool dm, .slice bK dn dp, .bool dq, .slice bL dr ds] (g := dI.heap.size) (by simp))
  generalize (dI.alloc (.cells #[.bool dj, .slice bJ dk dl, .bool dm, .slice bK dn dp, .bool dq, .slice bL dr ds] 26)) = w21 at hS ⊢
  generalize dI.heap.size = ac at hS f6 ⊢
  obtain ⟨dT, dU, dV, dv⟩ := is_ex ((q0 * q2) * q1)
  have fb : Sz ((n0 + n2 + 1) + n1 + 1) dT dU dV := (Bd.mul ⟨_, _, _, e3, fy⟩ ⟨_, _, _, I1, S1⟩).sz dv
  refine (toTG (xMul_w _ (q0 * q2) (n0 + n2 + 1) _ q1 (n1) _ ⟨_, _, _, RG.mk (hS.num 2 rfl) (hS.num 1 rfl) (hS.num 0 rfl), e3, fy⟩ ⟨_, _, _, RG.mk (hS.num 29 rfl) (hS.num 28 rfl) (hS.num 27 rfl), I1, S1⟩ (by omega)) dv).mono ?_
  rintro e fc ⟨v_, rfl, hv_, hx_⟩
  replace hS := hS.mv hx_
  clear hx_
  obtain ⟨_, rfl, a3, a0, a4, a5, a6, a1, a7, a8, a9, a2, aa, ab, rfl, ag, ah, ai⟩ := hv_
  replace hS := hS.addI ag
  clear ag
  replace hS := hS.addI ah
  clear ah
  replace hS := hS.addI ai
  clear ai
  have fd := (hS.blk 0 rfl).cell
  have fe := (hS.blk 0 rfl).frozen
  have dw := (St.put (W' := ((((((fc.setCell ⟨ac, 0, none⟩ (.bool a3)).setCell ⟨ac, 1, none⟩ (.slice a0 a4 a5)).setCell ⟨ac, 2, none⟩ (.bool a6)).setCell ⟨ac, 3, none⟩ (.slice a1 a7 a8)).setCell ⟨ac, 4, none⟩ (.bool a9)).setCell ⟨ac, 5, none⟩ (.slice a2 aa ab))) hS 0 0 [.bool a3, .slice a0 a4 a5, .bool a6, .slice a1 a7 a8, .bool a9, .slice a2 aa ab] (cs' := #[.bool a3, .slice a0 a4 a5, .bool a6, .slice a1 a7 a8, .bool a9, .slice a2 aa ab]) (bs' := _) rfl f6 rfl rfl (by kernel_rfl) rfl)
  have ff := (dw.blk 7 rfl).cell
  have fg := (dw.blk 6 rfl).cell
  go_wp2_with fail
  clear fd fe ff fg
  clear dw
  replace hS := (St.put (W' := ((((((fc.setCell ⟨ac, 0, none⟩ (.bool a3)).setCell ⟨ac, 1, none⟩ (.slice a0 a4 a5)).setCell ⟨ac, 2, none⟩ (.bool a6)).setCell ⟨ac, 3, none⟩ (.slice a1 a7 a8)).setCell ⟨ac, 4, none⟩ (.bool a9)).setCell ⟨ac, 5, none⟩ (.slice a2 aa ab))) hS 0 0 [.bool a3, .slice a0 a4 a5, .bool a6, .slice a1 a7 a8, .bool a9, .slice a2 aa ab] (cs' := #[.bool a3, .slice a0 a4 a5, .bool a6, .slice a1 a7 a8, .bool a9, .slice a2 aa ab]) (bs' := _) rfl f6 rfl rfl (by kernel_rfl) rfl)
  simp only [List.set_cons_zero] at hS
  generalize ((((((fc.setCell ⟨ac, 0, none⟩ (.bool a3)).setCell ⟨ac, 1, none⟩ (.slice a0 a4 a5)).setCell ⟨ac, 2, none⟩ (.bool a6)).setCell ⟨ac, 3, none⟩ (.slice a1 a7 a8)).setCell ⟨ac, 4, none⟩ (.bool a9)).setCell ⟨ac, 5, none⟩ (.slice a2 aa ab)) = w23 at hS ⊢
  refine (xSame_q _ _ (q0 * q1) (q1 * q0) (n0 + n1 + 1) (n1 + n0 + 1) _ ⟨_, _, _, RG.mk (hS.num 26 rfl) (hS.num 25 rfl) (hS.num 24 rfl), c1, dB⟩ ⟨_, _, _, RG.mk (hS.num 23 rfl) (hS.num 22 rfl) (hS.num 21 rfl), ef, S59⟩ (by omega) (by omega) E1.out).mono ?_
  rintro e w24 ⟨rfl, hx_⟩
  replace hS := hS.mv hx_
  clear hx_
  have fh := (hS.blk 4 rfl).cell
  have fi := (hS.blk 2 rfl).cell
  go_wp2_with fail
  clear fh fi
  refine (xSame_q _ _ (q0 * (q1 + q2)) ((q0 * q1) + (q0 * q2)) (n0 + (n1 + n2 + 65) + 1) ((n0 + n1 + 1) + (n0 + n2 + 1) + 65) _ ⟨_, _, _, RG.mk (hS.num 17 rfl) (hS.num 16 rfl) (hS.num 15 rfl), ez, S71⟩ ⟨_, _, _, RG.mk (hS.num 11 rfl) (hS.num 10 rfl) (hS.num 9 rfl), eQ, S83⟩ (by omega) (by omega) E2.out).mono ?_
  rintro e w25 ⟨rfl, hx_⟩
  replace hS := hS.mv hx_
  clear hx_
  have fj := (hS.blk 1 rfl).cell
  have fk := (hS.blk 0 rfl).cell
  go_wp2_with fail
  clear fj fk
  refine (xSame_q _ _ ((q0 * q1) * q2) ((q0 * q2) * q1) ((n0 + n1 + 1) + n2 + 1) ((n0 + n2 + 1) + n1 + 1) _ ⟨_, _, _, RG.mk (hS.num 8 rfl) (hS.num 7 rfl) (hS.num 6 rfl), eY, S89⟩ ⟨_, _, _, RG.mk (hS.num 2 rfl) (hS.num 1 rfl) (hS.num 0 rfl), dv, fb⟩ (by omega) (by omega) E3.out).mono ?_
  rintro e w26 ⟨rfl, hx_⟩
  replace hS := hS.mv hx_
  clear hx_
  have fl := (hS.blk 5 rfl).cell
  have fm := (hS.blk 9 rfl).cell
  go_wp2_with fail
  clear fl fm
  obtain ⟨dW, dX, dY, dx⟩ := is_ex ((q1 + q2) - q2)
  have fn : Sz ((n1 + n2 + 65) + n2 + 65) dW dX dY := (Bd.mono (Bd.sub ⟨_, _, _, dC, e1⟩ ⟨_, _, _, I2, S2⟩) (by omega)).sz dx
  refine (toTG (xSub_ok _ (q1 + q2) (n1 + n2 + 65) _ q2 (n2) _ ⟨_, _, _, RG.mk (hS.num 20 rfl) (hS.num 19 rfl) (hS.num 18 rfl), dC, e1⟩ ⟨_, _, _, RG.mk (hS.num 29 rfl) (hS.num 28 rfl) (hS.num 27 rfl), I2, S2⟩ (by omega)) dx).mono ?_
  rintro e dJ ⟨v_, rfl, hv_, hx_⟩
  replace hS := hS.mv hx_
  clear hx_
  obtain ⟨_, rfl, bP, ad, bQ, bR, bS, ae, bT, bU, bV, af, bW, bX, rfl, aj, ak, am⟩ := hv_
  replace hS := hS.addI aj
  clear aj
  replace hS := hS.addI ak
  clear ak
  replace hS := hS.addI am
  clear am
  have o24 : Own w dJ.heap.size := Own.of hS.ext (by simp)
  have dy := (St.al hS 26 #[.bool false, .slice none 0 0, .bool false, .slice none 0 0, .bool false, .slice none 0 0] (g := dJ.heap.size) (by simp))
  have fo := (dy.blk 0 rfl).cell
  have fp := (dy.blk 0 rfl).frozen
  have dz := (St.al hS 26 #[.bool bP, .slice ad bQ bR, .bool bS, .slice ae bT bU, .bool bV, .slice af bW bX] (g := dJ.heap.size) (by simp))
  have fq := (dz.blk 8 rfl).cell
  have fr := (dz.blk 11 rfl).cell
  go_wp2_with fail
  clear fo fp fq fr
  clear dy dz
  replace hS := (St.al hS 26 #[.bool bP, .slice ad bQ bR, .bool bS, .slice ae bT bU, .bool bV, .slice af bW bX] (g := dJ.heap.size) (by simp))
  generalize (dJ.alloc (.cells #[.bool bP, .slice ad bQ bR, .bool bS, .slice ae bT bU, .bool bV, .slice af bW bX] 26)) = w28 at hS ⊢
  generalize dJ.heap.size = g24 at hS o24 ⊢
  refine (xDiv_z _ (q0 * q1) (n0 + n1 + 1) _ q1 (n1) _ ⟨_, _, _, RG.mk (hS.num 29 rfl) (hS.num 28 rfl) (hS.num 27 rfl), c1, dB⟩ ⟨_, _, _, RG.mk (hS.num 35 rfl) (hS.num 34 rfl) (hS.num 33 rfl), I1, S1⟩ (Lib.hid HZ.out) (by omega)).mono ?_
  rintro e dZ ⟨v_, rfl, hv_, hx_⟩
  replace hS := hS.mv hx_
  clear hx_
  obtain ⟨_, rfl, c2, bY, c3, c4, c5, bZ, c6, c7, c8, c0, c9, ca, rfl, an, ao, ap⟩ := hv_
  replace hS := hS.addI an
  clear an
  replace hS := hS.addI ao
  clear ao
  replace hS := hS.addI ap
  clear ap
  have o26 : Own w dZ.heap.size := Own.of hS.ext (by simp)
  have dA := (St.al hS 26 #[.bool false, .slice none 0 0, .bool false, .slice none 0 0, .bool false, .slice none 0 0] (g := dZ.heap.size) (by simp))
  have fs := (dA.blk 0 rfl).cell
  have ft := (dA.blk 0 rfl).frozen
  go_wp2_with fail
  clear fs ft
  clear dA
  replace hS := (St.al hS 26 #[.bool c2, .slice bY c3 c4, .bool c5, .slice bZ c6 c7, .bool c8, .slice c0 c9 ca] (g := dZ.heap.size) (by simp))
  generalize (dZ.alloc (.cells #[.bool c2, .slice bY c3 c4, .bool c5, .slice bZ c6 c7, .bool c8, .slice c0 c9 ca] 26)) = w30 at hS ⊢
  generalize dZ.heap.size = g26 at hS o26 ⊢
  refine (lxknown_ok _ (tab_ext hTab hS.ext)).mono ?_
  rintro e w31 ⟨rfl, hx_⟩
  replace hS := hS.mv hx_
  clear hx_
  have fu := (hS.blk 1 rfl).cell
  have fv := (hS.blk 12 rfl).cell
  go_wp2_with fail
  clear fu fv
  refine (xSame_q _ _ ((q1 + q2) - q2) q1 ((n1 + n2 + 65) + n2 + 65) (n1) _ ⟨_, _, _, RG.mk (hS.num 5 rfl) (hS.num 4 rfl) (hS.num 3 rfl), dx, fn⟩ ⟨_, _, _, RG.mk (hS.num 38 rfl) (hS.num 37 rfl) (hS.num 36 rfl), I1, S1⟩ (by omega) (by omega) E4.out).mono ?_
  rintro e w32 ⟨rfl, hx_⟩
  replace hS := hS.mv hx_
  clear hx_
  have fw := (hS.blk 12 rfl).cell
  go_wp2_with fail
  clear fw
  refine (xZero_yes _ q1 (n1) _ ⟨_, _, _, RG.mk (hS.num 38 rfl) (hS.num 37 rfl) (hS.num 36 rfl), I1, S1⟩ (by omega) HZ.out).mono ?_
  rintro e w33 ⟨rfl, hx_⟩
  replace hS := hS.mv hx_
  clear hx_
  go_wp2
  go_ret
  exact ⟨ret_bool (rfl), hS.ext⟩

set_option maxRecDepth 100000 in
set_option maxHeartbeats 51200000 in
theorem field_n (v0 : Value) (q0 : GQ) (n0 : Nat) (v1 : Value) (q1 : GQ) (n1 : Nat) (v2 : Value) (q2 : GQ) (n2 : Nat) (w : World) (hX0 : GV w v0 q0 n0) (hX1 : GV w v1 q1 n1) (hX2 : GV w v2 q2 n2) (hn0 : n0 ≤ 384) (hn1 : n1 ≤ 384) (hn2 : n2 ≤ 384) (hTab : Tab w) (E1 : Hid (q0 * q1 = q1 * q0)) (E2 : Hid (q0 * (q1 + q2) = (q0 * q1) + (q0 * q2))) (E3 : Hid ((q0 * q1) * q2 = (q0 * q2) * q1)) (E4 : Hid ((q1 + q2) - q2 = q1)) (HZ : Hid (q1 ≠ GQ.i 0 0)) (E5 : Hid ((q0 * q1) / q1 = q0))
      :
    Calls Tryz.prog 10 #[v0, v1, v2] w fun e w' => e = .returned (.bool true) ∧ Ext w w' := by
  have hS := St.start w
  obtain ⟨x0a, x0b, x0d, hX0, I0, S0⟩ := hX0
  obtain ⟨aB, aC, aq, aD, aE, aF, ar, aG, aH, aI, au, aJ, rfl, dL, dM, dN⟩ := hX0
  replace hS := hS.addI dL
  clear dL
  replace hS := hS.addI dM
  clear dM
  replace hS := hS.addI dN
  clear dN
  obtain ⟨x1a, x1b, x1d, hX1, I1, S1⟩ := hX1
  obtain ⟨aK, aL, av, aM, aN, aO, aw, aP, aQ, aR, ax, aS, rfl, dO, dP, dQ⟩ := hX1
  replace hS := hS.addI dO
  clear dO
  replace hS := hS.addI dP
  clear dP
  replace hS := hS.addI dQ
  clear dQ
  obtain ⟨x2a, x2b, x2d, hX2, I2, S2⟩ := hX2
  obtain ⟨aT, aU, ay, aV, aW, aX, az, aY, aZ, b0, aA, b1, rfl, dR, dS, dT⟩ := hX2
  replace hS := hS.addI dR
  clear dR
  replace hS := hS.addI dS
  clear dS
  replace hS := hS.addI dT
  clear dT
  have HL : Hid ([aq, ar, au, av, aw, ax, ay, az, aA].all (fun n => decide (n ≤ 12)) = true) := Lib.hid (by simp only [List.all_cons, List.all_nil, Bool.and_true, Bool.and_eq_true, decide_eq_true_eq]; exact ⟨RI.low (k := 12) (hS.num 8 rfl) S0.a (by omega), RI.low (k := 12) (hS.num 7 rfl) S0.b (by omega), RI.low (k := 12) (hS.num 6 rfl) S0.d (by omega), RI.low (k := 12) (hS.num 5 rfl) S1.a (by omega), RI.low (k := 12) (hS.num 4 rfl) S1.b (by omega), RI.low (k := 12) (hS.num 3 rfl) S1.d (by omega), RI.low (k := 12) (hS.num 2 rfl) S2.a (by omega), RI.low (k := 12) (hS.num 1 rfl) S2.b (by omega), RI.low (k := 12) (hS.num 0 rfl) S2.d (by omega)⟩)
  have o3 : Own w w.heap.size := Own.of hS.ext (by simp)
  have o4 : Own w (w.heap.size + 1) := Own.of hS.ext (by simp)
  have o5 : Own w (w.heap.size + 2) := Own.of hS.ext (by simp)
  have e4 := (St.al (St.al (St.al hS 26 #[.bool aB, .slice aC aq aD, .bool aE, .slice aF ar aG, .bool aH, .slice aI au aJ] (g := w.heap.size) (by simp)) 26 #[.bool aK, .slice aL av aM, .bool aN, .slice aO aw aP, .bool aQ, .slice aR ax aS] (g := (w.heap.size + 1)) (by simp)) 26 #[.bool aT, .slice aU ay aV, .bool aW, .slice aX az aY, .bool aZ, .slice b0 aA b1] (g := (w.heap.size + 2)) (by simp))
  have k_1 := (e4.blk 2 rfl).cell
  have k_2 := (e4.blk 1 rfl).cell
  have k_3 := (e4.blk 0 rfl).cell
  have o31 : Own w (w.heap.size + 3) := Own.of hS.ext (by simp)
  go_enter Tryz.func10, Tryz.ntmps10
  go_wp2_with fail
  clear k_1 k_2 k_3
  clear e4
  replace hS := (St.al (St.al (St.al (St.al hS 26 #[.bool aB, .slice aC aq aD, .bool aE, .slice aF ar aG, .bool aH, .slice aI au aJ] (g := w.heap.size) (by simp)) 26 #[.bool aK, .slice aL av aM, .bool aN, .slice aO aw aP, .bool aQ, .slice aR ax aS] (g := (w.heap.size + 1)) (by simp)) 26 #[.bool aT, .slice aU ay aV, .bool aW, .slice aX az aY, .bool aZ, .slice b0 aA b1] (g := (w.heap.size + 2)) (by simp)) 26 #[.bool aB, .slice aC aq aD, .bool aE, .slice aF ar aG, .bool aH, .slice aI au aJ, .bool aK, .slice aL av aM, .bool aN, .slice aO aw aP, .bool aQ, .slice aR ax aS, .bool aT, .slice aU ay aV, .bool aW, .slice aX az aY, .bool aZ, .slice b0 aA b1] (g := (w.heap.size + 3)) (by simp))
  generalize ((((w.alloc (.cells #[.bool aB, .slice aC aq aD, .bool aE, .slice aF ar aG, .bool aH, .slice aI au aJ] 26)).alloc (.cells #[.bool aK, .slice aL av aM, .bool aN, .slice aO aw aP, .bool aQ, .slice aR ax aS] 26)).alloc (.cells #[.bool aT, .slice aU ay aV, .bool aW, .slice aX az aY, .bool aZ, .slice b0 aA b1] 26)).alloc (.cells #[.bool aB, .slice aC aq aD, .bool aE, .slice aF ar aG, .bool aH, .slice aI au aJ, .bool aK, .slice aL av aM, .bool aN, .slice aO aw aP, .bool aQ, .slice aR ax aS, .bool aT, .slice aU ay aV, .bool aW, .slice aX az aY, .bool aZ, .slice b0 aA b1] 26)) = w1 at hS ⊢
  generalize w.heap.size + 3 = g31 at hS o31 ⊢
  generalize w.heap.size + 2 = g5 at hS o5 ⊢
  generalize w.heap.size + 1 = g4 at hS o4 ⊢
  generalize w.heap.size = g3 at hS o3 ⊢
  refine (low3_raw g31 12 true _ (hS.blk 0 rfl) HL.out).mono ?_
  rintro e w2 ⟨rfl, hx_⟩
  replace hS := hS.mv hx_
  clear hx_
  have k_4 := (hS.blk 3 rfl).cell
  go_wp2_with fail
  clear k_4
  refine (eValid_gv _ q0 (n0) _ ⟨_, _, _, RG.mk (hS.num 8 rfl) (hS.num 7 rfl) (hS.num 6 rfl), I0, S0⟩ (by omega)).mono ?_
  rintro e w3 ⟨rfl, hx_⟩
  replace hS := hS.mv hx_
  clear hx_
  have k_5 := (hS.blk 2 rfl).cell
  go_wp2_with fail
  clear k_5
  refine (eValid_gv _ q1 (n1) _ ⟨_, _, _, RG.mk (hS.num 5 rfl) (hS.num 4 rfl) (hS.num 3 rfl), I1, S1⟩ (by omega)).mono ?_
  rintro e w4 ⟨rfl, hx_⟩
  replace hS := hS.mv hx_
  clear hx_
  have k_6 := (hS.blk 1 rfl).cell
  go_wp2_with fail
  clear k_6
  refine (eValid_gv _ q2 (n2) _ ⟨_, _, _, RG.mk (hS.num 2 rfl) (hS.num 1 rfl) (hS.num 0 rfl), I2, S2⟩ (by omega)).mono ?_
  rintro e w5 ⟨rfl, hx_⟩
  replace hS := hS.mv hx_
  clear hx_
  have k_7 := (hS.blk 3 rfl).cell
  have k_8 := (hS.blk 2 rfl).cell
  go_wp2_with fail
  clear k_7 k_8
  obtain ⟨e8, e9, ea, c1⟩ := is_ex (q0 * q1)
  have cb : Sz (n0 + n1 + 1) e8 e9 ea := (Bd.mul ⟨_, _, _, I0, S0⟩ ⟨_, _, _, I1, S1⟩).sz c1
  refine (toTG (xMul_w _ q0 (n0) _ q1 (n1) _ ⟨_, _, _, RG.mk (hS.num 8 rfl) (hS.num 7 rfl) (hS.num 6 rfl), I0, S0⟩ ⟨_, _, _, RG.mk (hS.num 5 rfl) (hS.num 4 rfl) (hS.num 3 rfl), I1, S1⟩ (by omega)) c1).mono ?_
  rintro e w6 ⟨v_, rfl, hv_, hx_⟩
  replace hS := hS.mv hx_
  clear hx_
  obtain ⟨_, rfl, cc, b2, cd, ce, cf, b3, cg, ch, ci, b4, cj, ck, rfl, b5, b6, b7⟩ := hv_
  replace hS := hS.addI b5
  clear b5
  replace hS := hS.addI b6
  clear b6
  replace hS := hS.addI b7
  clear b7
  have o7 : Own w w6.heap.size := Own.of hS.ext (by simp)
  have eb := (St.al hS 26 #[.bool false, .slice none 0 0, .bool false, .slice none 0 0, .bool false, .slice none 0 0] (g := w6.heap.size) (by simp))
  have k_9 := (eb.blk 0 rfl).cell
  have ec := (eb.blk 0 rfl).frozen
  have ed := (St.al hS 26 #[.bool cc, .slice b2 cd ce, .bool cf, .slice b3 cg ch, .bool ci, .slice b4 cj ck] (g := w6.heap.size) (by simp))
  have ee := (ed.blk 3 rfl).cell
  have ef := (ed.blk 4 rfl).cell
  go_wp2_with fail
  clear k_9 ec ee ef
  clear eb ed
  replace hS := (St.al hS 26 #[.bool cc, .slice b2 cd ce, .bool cf, .slice b3 cg ch, .bool ci, .slice b4 cj ck] (g := w6.heap.size) (by simp))
  generalize (w6.alloc (.cells #[.bool cc, .slice b2 cd ce, .bool cf, .slice b3 cg ch, .bool ci, .slice b4 cj ck] 26)) = w7 at hS ⊢
  generalize w6.heap.size = g7 at hS o7 ⊢
  obtain ⟨eg, eh, ei, ej⟩ := is_ex (q1 * q0)
  have S59 : Sz (n1 + n0 + 1) eg eh ei := (Bd.mul ⟨_, _, _, I1, S1⟩ ⟨_, _, _, I0, S0⟩).sz ej
  refine (toTG (xMul_w _ q1 (n1) _ q0 (n0) _ ⟨_, _, _, RG.mk (hS.num 8 rfl) (hS.num 7 rfl) (hS.num 6 rfl), I1, S1⟩ ⟨_, _, _, RG.mk (hS.num 11 rfl) (hS.num 10 rfl) (hS.num 9 rfl), I0, S0⟩ (by omega)) ej).mono ?_
  rintro e w8 ⟨v_, rfl, hv_, hx_⟩
  replace hS := hS.mv hx_
  clear hx_
  obtain ⟨_, rfl, cl, b8, cn, co, cp, b9, cq, cr, cs, ba, ct, cu, rfl, bb, bc, bd⟩ := hv_
  replace hS := hS.addI bb
  clear bb
  replace hS := hS.addI bc
  clear bc
  replace hS := hS.addI bd
  clear bd
  have o9 : Own w w8.heap.size := Own.of hS.ext (by simp)
  have ek := (St.al hS 26 #[.bool false, .slice none 0 0, .bool false, .slice none 0 0, .bool false, .slice none 0 0] (g := w8.heap.size) (by simp))
  have el := (ek.blk 0 rfl).cell
  have em := (ek.blk 0 rfl).frozen
  have en := (St.al hS 26 #[.bool cl, .slice b8 cn co, .bool cp, .slice b9 cq cr, .bool cs, .slice ba ct cu] (g := w8.heap.size) (by simp))
  have eo := (en.blk 4 rfl).cell
  have ep := (en.blk 3 rfl).cell
  go_wp2_with fail
  clear el em eo ep
  clear ek en
  replace hS := (St.al hS 26 #[.bool cl, .slice b8 cn co, .bool cp, .slice b9 cq cr, .bool cs, .slice ba ct cu] (g := w8.heap.size) (by simp))
  generalize (w8.alloc (.cells #[.bool cl, .slice b8 cn co, .bool cp, .slice b9 cq cr, .bool cs, .slice ba ct cu] 26)) = w9 at hS ⊢
  generalize w8.heap.size = g9 at hS o9 ⊢
  obtain ⟨er, es, et, dD⟩ := is_ex (q1 + q2)
  have e5 : Sz (n1 + n2 + 65) er es et := (Bd.mono (Bd.add ⟨_, _, _, I1, S1⟩ ⟨_, _, _, I2, S2⟩) (by omega)).sz dD
  refine (toTG (xAdd_ok _ q1 (n1) _ q2 (n2) _ ⟨_, _, _, RG.mk (hS.num 11 rfl) (hS.num 10 rfl) (hS.num 9 rfl), I1, S1⟩ ⟨_, _, _, RG.mk (hS.num 8 rfl) (hS.num 7 rfl) (hS.num 6 rfl), I2, S2⟩ (by omega)) dD).mono ?_
  rintro e dE ⟨v_, rfl, hv_, hx_⟩
  replace hS := hS.mv hx_
  clear hx_
  obtain ⟨_, rfl, cv, be, cw, cx, cy, bf, cz, cA, cB, bg, cC, cD, rfl, bh, bi, bj⟩ := hv_
  replace hS := hS.addI bh
  clear bh
  replace hS := hS.addI bi
  clear bi
  replace hS := hS.addI bj
  clear bj
  have o11 : Own w dE.heap.size := Own.of hS.ext (by simp)
  have eu := (St.al hS 26 #[.bool false, .slice none 0 0, .bool false, .slice none 0 0, .bool false, .slice none 0 0] (g := dE.heap.size) (by simp))
  have ev := (eu.blk 0 rfl).cell
  have ew := (eu.blk 0 rfl).frozen
  have ex := (St.al hS 26 #[.bool cv, .slice be cw cx, .bool cy, .slice bf cz cA, .bool cB, .slice bg cC cD] (g := dE.heap.size) (by simp))
  have ey := (ex.blk 6 rfl).cell
  have ez := (ex.blk 0 rfl).cell
  go_wp2_with fail
  clear ev ew ey ez
  clear eu ex
  replace hS := (St.al hS 26 #[.bool cv, .slice be cw cx, .bool cy, .slice bf cz cA, .bool cB, .slice bg cC cD] (g := dE.heap.size) (by simp))
  generalize (dE.alloc (.cells #[.bool cv, .slice be cw cx, .bool cy, .slice bf cz cA, .bool cB, .slice bg cC cD] 26)) = w11 at hS ⊢
  generalize dE.heap.size = g11 at hS o11 ⊢
  obtain ⟨eA, eB, eC, eD⟩ := is_ex (q0 * (q1 + q2))
  have S71 : Sz (n0 + (n1 + n2 + 65) + 1) eA eB eC := (Bd.mul ⟨_, _, _, I0, S0⟩ ⟨_, _, _, dD, e5⟩).sz eD
  refine (toTG (xMul_w _ q0 (n0) _ (q1 + q2) (n1 + n2 + 65) _ ⟨_, _, _, RG.mk (hS.num 17 rfl) (hS.num 16 rfl) (hS.num 15 rfl), I0, S0⟩ ⟨_, _, _, RG.mk (hS.num 2 rfl) (hS.num 1 rfl) (hS.num 0 rfl), dD, e5⟩ (by omega)) eD).mono ?_
  rintro e dF ⟨v_, rfl, hv_, hx_⟩
  replace hS := hS.mv hx_
  clear hx_
  obtain ⟨_, rfl, cE, bk, cF, cG, cH, bl, cI, cJ, cK, bm, cL, cM, rfl, bn, bo, bp⟩ := hv_
  replace hS := hS.addI bn
  clear bn
  replace hS := hS.addI bo
  clear bo
  replace hS := hS.addI bp
  clear bp
  have o13 : Own w dF.heap.size := Own.of hS.ext (by simp)
  have eE := (St.al hS 26 #[.bool false, .slice none 0 0, .bool false, .slice none 0 0, .bool false, .slice none 0 0] (g := dF.heap.size) (by simp))
  have eF := (eE.blk 0 rfl).cell
  have eG := (eE.blk 0 rfl).frozen
  have eH := (St.al hS 26 #[.bool cE, .slice bk cF cG, .bool cH, .slice bl cI cJ, .bool cK, .slice bm cL cM] (g := dF.heap.size) (by simp))
  have eI := (eH.blk 7 rfl).cell
  have eJ := (eH.blk 5 rfl).cell
  go_wp2_with fail
  clear eF eG eI eJ
  clear eE eH
  replace hS := (St.al hS 26 #[.bool cE, .slice bk cF cG, .bool cH, .slice bl cI cJ, .bool cK, .slice bm cL cM] (g := dF.heap.size) (by simp))
  generalize (dF.alloc (.cells #[.bool cE, .slice bk cF cG, .bool cH, .slice bl cI cJ, .bool cK, .slice bm cL cM] 26)) = w13 at hS ⊢
  generalize dF.heap.size = g13 at hS o13 ⊢
  obtain ⟨eK, eL, eM, e6⟩ := is_ex (q0 * q2)
  have fE : Sz (n0 + n2 + 1) eK eL eM := (Bd.mul ⟨_, _, _, I0, S0⟩ ⟨_, _, _, I2, S2⟩).sz e6
  refine (toTG (xMul_w _ q0 (n0) _ q2 (n2) _ ⟨_, _, _, RG.mk (hS.num 20 rfl) (hS.num 19 rfl) (hS.num 18 rfl), I0, S0⟩ ⟨_, _, _, RG.mk (hS.num 14 rfl) (hS.num 13 rfl) (hS.num 12 rfl), I2, S2⟩ (by omega)) e6).mono ?_
  rintro e dG ⟨v_, rfl, hv_, hx_⟩
  replace hS := hS.mv hx_
  clear hx_
  obtain ⟨_, rfl, cN, bq, cO, cP, cQ, br, cR, cS, cT, bs, cU, cV, rfl, bt, bu, bv⟩ := hv_
  replace hS := hS.addI bt
  clear bt
  replace hS := hS.addI bu
  clear bu
  replace hS := hS.addI bv
  clear bv
  have o15 : Own w dG.heap.size := Own.of hS.ext (by simp)
  have cW := (St.al hS 26 #[.bool false, .slice none 0 0, .bool false, .slice none 0 0, .bool false, .slice none 0 0] (g := dG.heap.size) (by simp))
  have eN := (cW.blk 0 rfl).cell
  have eO := (cW.blk 0 rfl).frozen
  have cX := (St.al hS 26 #[.bool cN, .slice bq cO cP, .bool cQ, .slice br cR cS, .bool cT, .slice bs cU cV] (g := dG.heap.size) (by simp))
  have eP := (cX.blk 4 rfl).cell
  have eQ := (cX.blk 0 rfl).cell
  go_wp2_with fail
  clear eN eO eP eQ
  clear cW cX
  replace hS := (St.al hS 26 #[.bool cN, .slice bq cO cP, .bool cQ, .slice br cR cS, .bool cT, .slice bs cU cV] (g := dG.heap.size) (by simp))
  generalize (dG.alloc (.cells #[.bool cN, .slice bq cO cP, .bool cQ, .slice br cR cS, .bool cT, .slice bs cU cV] 26)) = w15 at hS ⊢
  generalize dG.heap.size = g15 at hS o15 ⊢
  obtain ⟨eR, eS, eT, eU⟩ := is_ex ((q0 * q1) + (q0 * q2))
  have S83 : Sz ((n0 + n1 + 1) + (n0 + n2 + 1) + 65) eR eS eT := (Bd.mono (Bd.add ⟨_, _, _, c1, cb⟩ ⟨_, _, _, e6, fE⟩) (by omega)).sz eU
  refine (toTG (xAdd_ok _ (q0 * q1) (n0 + n1 + 1) _ (q0 * q2) (n0 + n2 + 1) _ ⟨_, _, _, RG.mk (hS.num 14 rfl) (hS.num 13 rfl) (hS.num 12 rfl), c1, cb⟩ ⟨_, _, _, RG.mk (hS.num 2 rfl) (hS.num 1 rfl) (hS.num 0 rfl), e6, fE⟩ (by omega)) eU).mono ?_
  rintro e dH ⟨v_, rfl, hv_, hx_⟩
  replace hS := hS.mv hx_
  clear hx_
  obtain ⟨_, rfl, cY, bw, cZ, d0, d1, bx, d2, d3, d4, bz, d5, d6, rfl, bA, bB, bC⟩ := hv_
  replace hS := hS.addI bA
  clear bA
  replace hS := hS.addI bB
  clear bB
  replace hS := hS.addI bC
  clear bC
  have o17 : Own w dH.heap.size := Own.of hS.ext (by simp)
  have d7 := (St.al hS 26 #[.bool false, .slice none 0 0, .bool false, .slice none 0 0, .bool false, .slice none 0 0] (g := dH.heap.size) (by simp))
  have eV := (d7.blk 0 rfl).cell
  have eW := (d7.blk 0 rfl).frozen
  have d8 := (St.al hS 26 #[.bool cY, .slice bw cZ d0, .bool d1, .slice bx d2 d3, .bool d4, .slice bz d5 d6] (g := dH.heap.size) (by simp))
  have eX := (d8.blk 5 rfl).cell
  have eY := (d8.blk 7 rfl).cell
  go_wp2_with fail
  clear eV eW eX eY
  clear d7 d8
  replace hS := (St.al hS 26 #[.bool cY, .slice bw cZ d0, .bool d1, .slice bx d2 d3, .bool d4, .slice bz d5 d6] (g := dH.heap.size) (by simp))
  generalize (dH.alloc (.cells #[.bool cY, .slice bw cZ d0, .bool d1, .slice bx d2 d3, .bool d4, .slice bz d5 d6] 26)) = w17 at hS ⊢
  generalize dH.heap.size = g17 at hS o17 ⊢
  obtain ⟨eZ, f0, f1, f2⟩ := is_ex ((q0 * q1) * q2)
  have S89 : Sz ((n0 + n1 + 1) + n2 + 1) eZ f0 f1 := (Bd.mul ⟨_, _, _, c1, cb⟩ ⟨_, _, _, I2, S2⟩).sz f2
  refine (toTG (xMul_w _ (q0 * q1) (n0 + n1 + 1) _ q2 (n2) _ ⟨_, _, _, RG.mk (hS.num 17 rfl) (hS.num 16 rfl) (hS.num 15 rfl), c1, cb⟩ ⟨_, _, _, RG.mk (hS.num 20 rfl) (hS.num 19 rfl) (hS.num 18 rfl), I2, S2⟩ (by omega)) f2).mono ?_
  rintro e dI ⟨v_, rfl, hv_, hx_⟩
  replace hS := hS.mv hx_
  clear hx_
  obtain ⟨_, rfl, d9, bD, da, db, dc, bE, dd, de, df, bF, dg, dh, rfl, bG, bH, bI⟩ := hv_
  replace hS := hS.addI bG
  clear bG
  replace hS := hS.addI bH
  clear bH
  replace hS := hS.addI bI
  clear bI
  have o19 : Own w dI.heap.size := Own.of hS.ext (by simp)
  have di := (St.al hS 26 #[.bool false, .slice none 0 0, .bool false, .slice none 0 0, .bool false, .slice none 0 0] (g := dI.heap.size) (by simp))
  have f3 := (di.blk 0 rfl).cell
  have f4 := (di.blk 0 rfl).frozen
  have dj := (St.al hS 26 #[.bool d9, .slice bD da db, .bool dc, .slice bE dd de, .bool df, .slice bF dg dh] (g := dI.heap.size) (by simp))
  have f5 := (dj.blk 10 rfl).cell
  have f6 := (dj.blk 8 rfl).cell
  go_wp2_with fail
  clear f3 f4 f5 f6
  clear di dj
  replace hS := (St.al hS 26 #[.bool d9, .slice bD da db, .bool dc, .slice bE dd de, .bool df, .slice bF dg dh] (g := dI.heap.size) (by simp))
  generalize (dI.alloc (.cells #[.bool d9, .slice bD da db, .bool dc, .slice bE dd de, .bool df, .slice bF dg dh] 26)) = w19 at hS ⊢
  generalize dI.heap.size = g19 at hS o19 ⊢
  obtain ⟨f7, f8, f9, e7⟩ := is_ex (q0 * q2)
  have fF : Sz (n0 + n2 + 1) f7 f8 f9 := (Bd.mul ⟨_, _, _, I0, S0⟩ ⟨_, _, _, I2, S2⟩).sz e7
  refine (toTG (xMul_w _ q0 (n0) _ q2 (n2) _ ⟨_, _, _, RG.mk (hS.num 29 rfl) (hS.num 28 rfl) (hS.num 27 rfl), I0, S0⟩ ⟨_, _, _, RG.mk (hS.num 23 rfl) (hS.num 22 rfl) (hS.num 21 rfl), I2, S2⟩ (by omega)) e7).mono ?_
  rintro e dJ ⟨v_, rfl, hv_, hx_⟩
  replace hS := hS.mv hx_
  clear hx_
  obtain ⟨_, rfl, dk, bJ, dl, dm, dn, bK, dp, dq, dr, bL, ds, dt, rfl, bM, bN, bO⟩ := hv_
  replace hS := hS.addI bM
  clear bM
  replace hS := hS.addI bN
  clear bN
  replace hS := hS.addI bO
  clear bO
  have fa : Own w dJ.heap.size := Own.of hS.ext (by simp)
  have du := (St.al hS 26 #[.bool false, .slice none 0 0, .bool false, .slice none 0 0, .bool false, .slice none 0 0] (g := dJ.heap.size) (by simp))
  have fb := (du.blk 0 rfl).cell
  have fc := (du.blk 0 rfl).frozen
  have dv := (St.al hS 26 #[.bool dk, .slice bJ dl dm, .bool dn, .slice bK dp dq, .bool dr, .slice bL ds dt] (g := dJ.heap.size) (by simp))
  have fd := (dv.blk 0 rfl).cell
  have fe := (dv.blk 10 rfl).cell
  go_wp2_with fail
  clear fb fc fd fe
  clear du dv
  replace hS := (St.al hS 26 #[.bool dk, .slice bJ dl dm, .bool dn, .slice bK dp dq, .bool dr, .slice bL ds dt] (g := dJ.heap.size) (by simp))
  generalize (dJ.alloc (.cells #[.bool dk, .slice bJ dl dm, .bool dn, .slice bK dp dq, .bool dr, .slice bL ds dt] 26)) = w21 at hS ⊢
  generalize dJ.heap.size = ac at hS fa ⊢
  obtain ⟨dU, dV, dW, dw⟩ := is_ex ((q0 * q2) * q1)
  have ff : Sz ((n0 + n2 + 1) + n1 + 1) dU dV dW := (Bd.mul ⟨_, _, _, e7, fF⟩ ⟨_, _, _, I1, S1⟩).sz dw
  refine (toTG (xMul_w _ (q0 * q2) (n0 + n2 + 1) _ q1 (n1) _ ⟨_, _, _, RG.mk (hS.num 2 rfl) (hS.num 1 rfl) (hS.num 0 rfl), e7, fF⟩ ⟨_, _, _, RG.mk (hS.num 29 rfl) (hS.num 28 rfl) (hS.num 27 rfl), I1, S1⟩ (by omega)) dw).mono ?_
  rintro e fg ⟨v_, rfl, hv_, hx_⟩
  replace hS := hS.mv hx_
  clear hx_
  obtain ⟨_, rfl, a3, a0, a4, a5, a6, a1, a7, a8, a9, a2, aa, ab, rfl, ag, ah, ai⟩ := hv_
  replace hS := hS.addI ag
  clear ag
  replace hS := hS.addI ah
  clear ah
  replace hS := hS.addI ai
  clear ai
  have fh := (hS.blk 0 rfl).cell
  have fi := (hS.blk 0 rfl).frozen
  have dx := (St.put (W' := ((((((fg.setCell ⟨ac, 0, none⟩ (.bool a3)).setCell ⟨ac, 1, none⟩ (.slice a0 a4 a5)).setCell ⟨ac, 2, none⟩ (.bool a6)).setCell ⟨ac, 3, none⟩ (.slice a1 a7 a8)).setCell ⟨ac, 4, none⟩ (.bool a9)).setCell ⟨ac, 5, none⟩ (.slice a2 aa ab))) hS 0 0 [.bool a3, .slice a0 a4 a5, .bool a6, .slice a1 a7 a8, .bool a9, .slice a2 aa ab] (cs' := #[.bool a3, .slice a0 a4 a5, .bool a6, .slice a1 a7 a8, .bool a9, .slice a2 aa ab]) (bs' := _) rfl fa rfl rfl (by kernel_rfl) rfl)
  have fj := (dx.blk 7 rfl).cell
  have fk := (dx.blk 6 rfl).cell
  go_wp2_with fail
  clear fh fi fj fk
  clear dx
  replace hS := (St.put (W' := ((((((fg.setCell ⟨ac, 0, none⟩ (.bool a3)).setCell ⟨ac, 1, none⟩ (.slice a0 a4 a5)).setCell ⟨ac, 2, none⟩ (.bool a6)).setCell ⟨ac, 3, none⟩ (.slice a1 a7 a8)).setCell ⟨ac, 4, none⟩ (.bool a9)).setCell ⟨ac, 5, none⟩ (.slice a2 aa ab))) hS 0 0 [.bool a3, .slice a0 a4 a5, .bool a6, .slice a1 a7 a8, .bool a9, .slice a2 aa ab] (cs' := #[.bool a3, .slice a0 a4 a5, .bool a6, .slice a1 a7 a8, .bool a9, .slice a2 aa ab]) (bs' := _) rfl fa rfl rfl (by kernel_rfl) rfl)
  simp only [List.set_cons_zero] at hS
  generalize ((((((fg.setCell ⟨ac, 0, none⟩ (.bool a3)).setCell ⟨ac, 1, none⟩ (.slice a0 a4 a5)).setCell ⟨ac, 2, none⟩ (.bool a6)).setCell ⟨ac, 3, none⟩ (.slice a1 a7 a8)).setCell ⟨ac, 4, none⟩ (.bool a9)).setCell ⟨ac, 5, none⟩ (.slice a2 aa ab)) = w23 at hS ⊢
  refine (xSame_q _ _ (q0 * q1) (q1 * q0) (n0 + n1 + 1) (n1 + n0 + 1) _ ⟨_, _, _, RG.mk (hS.num 26 rfl) (hS.num 25 rfl) (hS.num 24 rfl), c1, cb⟩ ⟨_, _, _, RG.mk (hS.num 23 rfl) (hS.num 22 rfl) (hS.num 21 rfl), ej, S59⟩ (by omega) (by omega) E1.out).mono ?_
  rintro e w24 ⟨rfl, hx_⟩
  replace hS := hS.mv hx_
  clear hx_
  have fl := (hS.blk 4 rfl).cell
  have fm := (hS.blk 2 rfl).cell
  go_wp2_with fail
  clear fl fm
  refine (xSame_q _ _ (q0 * (q1 + q2)) ((q0 * q1) + (q0 * q2)) (n0 + (n1 + n2 + 65) + 1) ((n0 + n1 + 1) + (n0 + n2 + 1) + 65) _ ⟨_, _, _, RG.mk (hS.num 17 rfl) (hS.num 16 rfl) (hS.num 15 rfl), eD, S71⟩ ⟨_, _, _, RG.mk (hS.num 11 rfl) (hS.num 10 rfl) (hS.num 9 rfl), eU, S83⟩ (by omega) (by omega) E2.out).mono ?_
  rintro e w25 ⟨rfl, hx_⟩
  replace hS := hS.mv hx_
  clear hx_
  have fn := (hS.blk 1 rfl).cell
  have fo := (hS.blk 0 rfl).cell
  go_wp2_with fail
  clear fn fo
  refine (xSame_q _ _ ((q0 * q1) * q2) ((q0 * q2) * q1) ((n0 + n1 + 1) + n2 + 1) ((n0 + n2 + 1) + n1 + 1) _ ⟨_, _, _, RG.mk (hS.num 8 rfl) (hS.num 7 rfl) (hS.num 6 rfl), f2, S89⟩ ⟨_, _, _, RG.mk (hS.num 2 rfl) (hS.num 1 rfl) (hS.num 0 rfl), dw, ff⟩ (by omega) (by omega) E3.out).mono ?_
  rintro e w26 ⟨rfl, hx_⟩
  replace hS := hS.mv hx_
  clear hx_
  have fp := (hS.blk 5 rfl).cell
  have fq := (hS.blk 9 rfl).cell
  go_wp2_with fail
  clear fp fq
  obtain ⟨dX, dY, dZ, dy⟩ := is_ex ((q1 + q2) - q2)
  have fr : Sz ((n1 + n2 + 65) + n2 + 65) dX dY dZ := (Bd.mono (Bd.sub ⟨_, _, _, dD, e5⟩ ⟨_, _, _, I2, S2⟩) (by omega)).sz dy
  refine (toTG (xSub_ok _ (q1 + q2) (n1 + n2 + 65) _ q2 (n2) _ ⟨_, _, _, RG.mk (hS.num 20 rfl) (hS.num 19 rfl) (hS.num 18 rfl), dD, e5⟩ ⟨_, _, _, RG.mk (hS.num 29 rfl) (hS.num 28 rfl) (hS.num 27 rfl), I2, S2⟩ (by omega)) dy).mono ?_
  rintro e dK ⟨v_, rfl, hv_, hx_⟩
  replace hS := hS.mv hx_
  clear hx_
  obtain ⟨_, rfl, bP, ad, bQ, bR, bS, ae, bT, bU, bV, af, bW, bX, rfl, aj, ak, am⟩ := hv_
  replace hS := hS.addI aj
  clear aj
  replace hS := hS.addI ak
  clear ak
  replace hS := hS.addI am
  clear am
  have o24 : Own w dK.heap.size := Own.of hS.ext (by simp)
  have dz := (St.al hS 26 #[.bool false, .slice none 0 0, .bool false, .slice none 0 0, .bool false, .slice none 0 0] (g := dK.heap.size) (by simp))
  have fs := (dz.blk 0 rfl).cell
  have ft := (dz.blk 0 rfl).frozen
  have dA := (St.al hS 26 #[.bool bP, .slice ad bQ bR, .bool bS, .slice ae bT bU, .bool bV, .slice af bW bX] (g := dK.heap.size) (by simp))
  have fu := (dA.blk 8 rfl).cell
  have fv := (dA.blk 11 rfl).cell
  go_wp2_with fail
  clear fs ft fu fv
  clear dz dA
  replace hS := (St.al hS 26 #[.bool bP, .slice ad bQ bR, .bool bS, .slice ae bT bU, .bool bV, .slice af bW bX] (g := dK.heap.size) (by simp))
  generalize (dK.alloc (.cells #[.bool bP, .slice ad bQ bR, .bool bS, .slice ae bT bU, .bool bV, .slice af bW bX] 26)) = w28 at hS ⊢
  generalize dK.heap.size = g24 at hS o24 ⊢
  obtain ⟨e0, e1, e2, dB⟩ := is_ex ((q0 * q1) / q1)
  have fw : Sz ((n0 + n1 + 1) + (n1 + n1 + 1)) e0 e1 e2 := (Bd.div ⟨_, _, _, c1, cb⟩ ⟨_, _, _, I1, S1⟩ HZ.out).sz dB
  refine (toTG (xDiv_w _ (q0 * q1) (n0 + n1 + 1) _ q1 (n1) _ ⟨_, _, _, RG.mk (hS.num 29 rfl) (hS.num 28 rfl) (hS.num 27 rfl), c1, cb⟩ ⟨_, _, _, RG.mk (hS.num 35 rfl) (hS.num 34 rfl) (hS.num 33 rfl), I1, S1⟩ (Lib.hid HZ.out) (by omega)) dB).mono ?_
  rintro e e3 ⟨v_, rfl, hv_, hx_⟩
  replace hS := hS.mv hx_
  clear hx_
  obtain ⟨_, rfl, c2, bY, c3, c4, c5, bZ, c6, c7, c8, c0, c9, ca, rfl, an, ao, ap⟩ := hv_
  replace hS := hS.addI an
  clear an
  replace hS := hS.addI ao
  clear ao
  replace hS := hS.addI ap
  clear ap
  have o26 : Own w e3.heap.size := Own.of hS.ext (by simp)
  have dC := (St.al hS 26 #[.bool false, .slice none 0 0, .bool false, .slice none 0 0, .bool false, .slice none 0 0] (g := e3.heap.size) (by simp))
  have fx := (dC.blk 0 rfl).cell
  have fy := (dC.blk 0 rfl).frozen
  go_wp2_with fail
  clear fx fy
  clear dC
  replace hS := (St.al hS 26 #[.bool c2, .slice bY c3 c4, .bool c5, .slice bZ c6 c7, .bool c8, .slice c0 c9 ca] (g := e3.heap.size) (by simp))
  generalize (e3.alloc (.cells #[.bool c2, .slice bY c3 c4, .bool c5, .slice bZ c6 c7, .bool c8, .slice c0 c9 ca] 26)) = w30 at hS ⊢
  generalize e3.heap.size = g26 at hS o26 ⊢
  refine (lxknown_ok _ (tab_ext hTab hS.ext)).mono ?_
  rintro e w31 ⟨rfl, hx_⟩
  replace hS := hS.mv hx_
  clear hx_
  have fz := (hS.blk 1 rfl).cell
  have fA := (hS.blk 12 rfl).cell
  go_wp2_with fail
  clear fz fA
  refine (xSame_q _ _ ((q1 + q2) - q2) q1 ((n1 + n2 + 65) + n2 + 65) (n1) _ ⟨_, _, _, RG.mk (hS.num 5 rfl) (hS.num 4 rfl) (hS.num 3 rfl), dy, fr⟩ ⟨_, _, _, RG.mk (hS.num 38 rfl) (hS.num 37 rfl) (hS.num 36 rfl), I1, S1⟩ (by omega) (by omega) E4.out).mono ?_
  rintro e w32 ⟨rfl, hx_⟩
  replace hS := hS.mv hx_
  clear hx_
  have fB := (hS.blk 12 rfl).cell
  go_wp2_with fail
  clear fB
  refine (xZero_no _ q1 (n1) _ ⟨_, _, _, RG.mk (hS.num 38 rfl) (hS.num 37 rfl) (hS.num 36 rfl), I1, S1⟩ (by omega) HZ.out).mono ?_
  rintro e w33 ⟨rfl, hx_⟩
  replace hS := hS.mv hx_
  clear hx_
  have fC := (hS.blk 0 rfl).cell
  have fD := (hS.blk 13 rfl).cell
  go_wp2_with fail
  clear fC fD
  refine (xSame_q _ _ ((q0 * q1) / q1) q0 ((n0 + n1 + 1) + (n1 + n1 + 1)) (n0) _ ⟨_, _, _, RG.mk (hS.num 2 rfl) (hS.num 1 rfl) (hS.num 0 rfl), dB, fw⟩ ⟨_, _, _, RG.mk (hS.num 41 rfl) (hS.num 40 rfl) (hS.num 39 rfl), I0, S0⟩ (by omega) (by omega) E5.out).mono ?_
  rintro e w34 ⟨rfl, hx_⟩
  replace hS := hS.mv hx_
  clear hx_
  go_wp2
  go_ret
  exact ⟨ret_bool (rfl), hS.ext⟩

theorem field_any {s0a : Bool} {A0a : Option Addr} {n0a c0a : Nat} {l0a : List Nat} {s0b : Bool} {A0b : Option Addr} {n0b c0b : Nat} {l0b : List Nat} {s0d : Bool} {A0d : Option Addr} {n0d c0d : Nat} {l0d : List Nat} {s1a : Bool} {A1a : Option Addr} {n1a c1a : Nat} {l1a : List Nat} {s1b : Bool} {A1b : Option Addr} {n1b c1b : Nat} {l1b : List Nat} {s1d : Bool} {A1d : Option Addr} {n1d c1d : Nat} {l1d : List Nat} {s2a : Bool} {A2a : Option Addr} {n2a c2a : Nat} {l2a : List Nat} {s2b : Bool} {A2b : Option Addr} {n2b c2b : Nat} {l2b : List Nat} {s2d : Bool} {A2d : Option Addr} {n2d c2d : Nat} {l2d : List Nat} (w : World) (r0 : RawG w s0a A0a n0a c0a l0a s0b A0b n0b c0b l0b s0d A0d n0d c0d l0d) (r1 : RawG w s1a A1a n1a c1a l1a s1b A1b n1b c1b l1b s1d A1d n1d c1d l1d) (r2 : RawG w s2a A2a n2a c2a l2a s2b A2b n2b c2b l2b s2d A2d n2d c2d l2d) (hTab : Tab w) :
    Calls Tryz.prog 10 #[gv s0a A0a n0a c0a s0b A0b n0b c0b s0d A0d n0d c0d, gv s1a A1a n1a c1a s1b A1b n1b c1b s1d A1d n1d c1d, gv s2a A2a n2a c2a s2b A2b n2b c2b s2d A2d n2d c2d] w fun e w' => e = .returned (.bool true) ∧ Ext w w' := by
  cases hl : [n0a, n0b, n0d, n1a, n1b, n1d, n2a, n2b, n2d].all (fun n => decide (n ≤ 12))
  · exact field_large _ _ _ _ _ _ _ _ _ _ _ _ _ _ _ _ _ _ _ _ _ _ _ _ _ _ _ _ _ _ _ _ _ _ _ _ w hTab (Lib.hid hl)
  have hl' : n0a ≤ 12 ∧ n0b ≤ 12 ∧ n0d ≤ 12 ∧ n1a ≤ 12 ∧ n1b ≤ 12 ∧ n1d ≤ 12 ∧ n2a ≤ 12 ∧ n2b ≤ 12 ∧ n2d ≤ 12 := by simpa using hl
  obtain ⟨k0a, k0b, k0d, k1a, k1b, k1d, k2a, k2b, k2d⟩ := hl'
  rcases r0.cases k0a k0b k0d (by omega) with ⟨q0, h0⟩ | hb
  · rcases r1.cases k1a k1b k1d (by omega) with ⟨q1, h1⟩ | hb
    · rcases r2.cases k2a k2b k2d (by omega) with ⟨q2, h2⟩ | hb
      · have e1 : q0 * q1 = q1 * q0 := GQ.mul_comm' _ _
        have e2 : q0 * (q1 + q2) = (q0 * q1) + (q0 * q2) := by ext <;> simp only [GQ.mul_re, GQ.mul_im, GQ.add_re, GQ.add_im] <;> grind
        have e3 : (q0 * q1) * q2 = (q0 * q2) * q1 := by ext <;> simp only [GQ.mul_re, GQ.mul_im] <;> grind
        have e4 : (q1 + q2) - q2 = q1 := by ext <;> simp only [GQ.sub_re, GQ.sub_im, GQ.add_re, GQ.add_im] <;> grind
        by_cases hz : q1 = GQ.i 0 0
        · exact field_z _ q0 (32 * 12) _ q1 (32 * 12) _ q2 (32 * 12) w h0 h1 h2 (by omega) (by omega) (by omega) hTab (Lib.hid e1) (Lib.hid e2) (Lib.hid e3) (Lib.hid e4) (Lib.hid hz)
        · exact field_n _ q0 (32 * 12) _ q1 (32 * 12) _ q2 (32 * 12) w h0 h1 h2 (by omega) (by omega) (by omega) hTab (Lib.hid e1) (Lib.hid e2) (Lib.hid e3) (Lib.hid e4) (Lib.hid hz) (Lib.hid (GQ.div_mul hz))
      · exact field_bad2 _ _ _ _ _ _ _ _ _ _ _ _ _ _ _ _ _ _ _ _ _ _ _ _ _ _ _ _ _ _ _ _ _ _ _ _ w (h0.vb (by omega)) (h1.vb (by omega)) hb hTab (Lib.hid hl)
    · exact field_bad1 _ _ _ _ _ _ _ _ _ _ _ _ _ _ _ _ _ _ _ _ _ _ _ _ _ _ _ _ _ _ _ _ _ _ _ _ w (h0.vb (by omega)) hb hTab (Lib.hid hl)
  · exact field_bad0 _ _ _ _ _ _ _ _ _ _ _ _ _ _ _ _ _ _ _ _ _ _ _ _ _ _ _ _ _ _ _ _ _ _ _ _ w hb hTab (Lib.hid hl)
end Go.Proofs.YtjeijmnhbckjdaaGreatDoor
