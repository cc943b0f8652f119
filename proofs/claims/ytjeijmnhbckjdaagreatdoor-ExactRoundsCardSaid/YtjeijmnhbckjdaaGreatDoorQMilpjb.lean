/- Rounding: the walk. -/
import Derived.Test.YtjeijmnhbckjdaaGreatDoorQAncjbo
import Derived.Test.YtjeijmnhbckjdaaGreatDoorQGdbicl
import Derived.Test.YtjeijmnhbckjdaaGreatDoorQHipiol
import Derived.Test.YtjeijmnhbckjdaaGreatDoorQQcihpi
import Derived.Test.YtjeijmnhbckjdaaGreatDoorQRowGglic
namespace Go.Proofs.YtjeijmnhbckjdaaGreatDoor
open Go.RowKit
set_option linter.unusedVariables false

theorem qRound_at (v : Value) (p : PQ) (k : Nat) (r N M : Int) (w : World) (hX : PV w v p k) (hk : 4 * k + 266 ≤ 12800) (r1 : 1 ≤ r) (r2 : r ≤ 10000) (hN : Rd p r N) (hM : clamp N = M) :
    Calls Tryz.prog 23 #[v, .int .i64 r] w fun e w' => e = .returned (.int .i64 M) ∧ Ext w w' := by subst hM; exact qRound_ok v p k r N w hX hk r1 r2 hN

set_option maxRecDepth 100000 in
set_option maxHeartbeats 1600000 in
theorem rounds_large (a6 : Bool) (a7 : Option Addr) (a0 a8 : Nat) (a9 : Bool) (aa : Option Addr) (a1 ab : Nat) (ac : Bool) (ad : Option Addr) (a2 ae : Nat) (af : Bool) (ag : Option Addr) (a3 ah : Nat) (ai : Bool) (aj : Option Addr) (a4 ak : Nat) (am : Bool) (an : Option Addr) (a5 ao : Nat) (m1 : Int) (w : World) (l1 : -9223372036854775808 ≤ m1) (u1 : m1 ≤ 9223372036854775807) (hTab : Tab w) (HL : Hid ([a0, a1, a2, a3, a4, a5].all (fun n => decide (n ≤ 30)) = false))
      :
    Calls Tryz.prog 5 #[pv a6 a7 a0 a8 a9 aa a1 ab ac ad a2 ae af ag a3 ah ai aj a4 ak am an a5 ao, .int .i64 m1] w fun e w' => e = .returned (.bool true) ∧ Ext w w' := by
  have hS := St.start w
  have o2 : Own w w.heap.size := Own.of hS.ext (by simp)
  have ap := (St.al hS 37 #[.bool a6, .slice a7 a0 a8, .bool a9, .slice aa a1 ab, .bool ac, .slice ad a2 ae, .bool af, .slice ag a3 ah, .bool ai, .slice aj a4 ak, .bool am, .slice an a5 ao] (g := w.heap.size) (by simp))
  have k_1 := (ap.blk 0 rfl).cell
  have o13 : Own w (w.heap.size + 1) := Own.of hS.ext (by simp)
  go_enter Tryz.func5, Tryz.ntmps5
  go_wp2_with fail
  clear k_1
  clear ap
  replace hS := (St.al (St.al hS 37 #[.bool a6, .slice a7 a0 a8, .bool a9, .slice aa a1 ab, .bool ac, .slice ad a2 ae, .bool af, .slice ag a3 ah, .bool ai, .slice aj a4 ak, .bool am, .slice an a5 ao] (g := w.heap.size) (by simp)) 26 #[.bool a6, .slice a7 a0 a8, .bool a9, .slice aa a1 ab, .bool ac, .slice ad a2 ae, .bool af, .slice ag a3 ah, .bool ai, .slice aj a4 ak, .bool am, .slice an a5 ao] (g := (w.heap.size + 1)) (by simp))
  generalize ((w.alloc (.cells #[.bool a6, .slice a7 a0 a8, .bool a9, .slice aa a1 ab, .bool ac, .slice ad a2 ae, .bool af, .slice ag a3 ah, .bool ai, .slice aj a4 ak, .bool am, .slice an a5 ao] 37)).alloc (.cells #[.bool a6, .slice a7 a0 a8, .bool a9, .slice aa a1 ab, .bool ac, .slice ad a2 ae, .bool af, .slice ag a3 ah, .bool ai, .slice aj a4 ak, .bool am, .slice an a5 ao] 26)) = w1 at hS ⊢
  generalize w.heap.size + 1 = g13 at hS o13 ⊢
  generalize w.heap.size = g2 at hS o2 ⊢
  refine (low2_raw g13 30 false _ (hS.blk 0 rfl) HL.out).mono ?_
  rintro e w2 ⟨rfl, hx_⟩
  replace hS := hS.mv hx_
  clear hx_
  go_wp2_with fail
  refine (lxknown_ok _ (tab_ext hTab hS.ext)).mono ?_
  rintro e w3 ⟨rfl, hx_⟩
  replace hS := hS.mv hx_
  clear hx_
  go_wp2
  go_ret
  exact ⟨ret_bool (rfl), hS.ext⟩

set_option maxRecDepth 100000 in
set_option maxHeartbeats 3200000 in
theorem rounds_badu (a6 : Bool) (a7 : Option Addr) (a0 a8 : Nat) (a9 : Bool) (aa : Option Addr) (a1 ab : Nat) (ac : Bool) (ad : Option Addr) (a2 ae : Nat) (af : Bool) (ag : Option Addr) (a3 ah : Nat) (ai : Bool) (aj : Option Addr) (a4 ak : Nat) (am : Bool) (an : Option Addr) (a5 ao : Nat) (m1 : Int) (b0v : Bool) (w : World) (hV0u : VB w (gv a6 a7 a0 a8 a9 aa a1 ab ac ad a2 ae) false) (hV0v : VB w (gv af ag a3 ah ai aj a4 ak am an a5 ao) b0v) (l1 : -9223372036854775808 ≤ m1) (u1 : m1 ≤ 9223372036854775807) (hTab : Tab w) (HL : Hid ([a0, a1, a2, a3, a4, a5].all (fun n => decide (n ≤ 30)) = true)) 
      :
    Calls Tryz.prog 5 #[pv a6 a7 a0 a8 a9 aa a1 ab ac ad a2 ae af ag a3 ah ai aj a4 ak am an a5 ao, .int .i64 m1] w fun e w' => e = .returned (.bool true) ∧ Ext w w' := by
  have hS := St.start w
  have o2 : Own w w.heap.size := Own.of hS.ext (by simp)
  have ap := (St.al hS 37 #[.bool a6, .slice a7 a0 a8, .bool a9, .slice aa a1 ab, .bool ac, .slice ad a2 ae, .bool af, .slice ag a3 ah, .bool ai, .slice aj a4 ak, .bool am, .slice an a5 ao] (g := w.heap.size) (by simp))
  have k_1 := (ap.blk 0 rfl).cell
  have o13 : Own w (w.heap.size + 1) := Own.of hS.ext (by simp)
  go_enter Tryz.func5, Tryz.ntmps5
  go_wp2_with fail
  clear k_1
  clear ap
  replace hS := (St.al (St.al hS 37 #[.bool a6, .slice a7 a0 a8, .bool a9, .slice aa a1 ab, .bool ac, .slice ad a2 ae, .bool af, .slice ag a3 ah, .bool ai, .slice aj a4 ak, .bool am, .slice an a5 ao] (g := w.heap.size) (by simp)) 26 #[.bool a6, .slice a7 a0 a8, .bool a9, .slice aa a1 ab, .bool ac, .slice ad a2 ae, .bool af, .slice ag a3 ah, .bool ai, .slice aj a4 ak, .bool am, .slice an a5 ao] (g := (w.heap.size + 1)) (by simp))
  generalize ((w.alloc (.cells #[.bool a6, .slice a7 a0 a8, .bool a9, .slice aa a1 ab, .bool ac, .slice ad a2 ae, .bool af, .slice ag a3 ah, .bool ai, .slice aj a4 ak, .bool am, .slice an a5 ao] 37)).alloc (.cells #[.bool a6, .slice a7 a0 a8, .bool a9, .slice aa a1 ab, .bool ac, .slice ad a2 ae, .bool af, .slice ag a3 ah, .bool ai, .slice aj a4 ak, .bool am, .slice an a5 ao] 26)) = w1 at hS ⊢
  generalize w.heap.size + 1 = g13 at hS o13 ⊢
  generalize w.heap.size = g2 at hS o2 ⊢
  refine (low2_raw g13 30 true _ (hS.blk 0 rfl) HL.out).mono ?_
  rintro e w2 ⟨rfl, hx_⟩
  replace hS := hS.mv hx_
  clear hx_
  have k_2 := (hS.blk 1 rfl).cell
  go_wp2_with fail
  clear k_2
  refine (xRound_bad a6 a7 a0 a8 a9 aa a1 ab ac ad a2 ae af ag a3 ah ai aj a4 ak am an a5 ao false b0v (m1) _ (hV0u.ext hS.ext) (hV0v.ext hS.ext) l1 u1 (Lib.hid rfl)).mono ?_
  rintro e w3 ⟨rfl, hx_⟩
  replace hS := hS.mv hx_
  clear hx_
  have k_3 := (hS.blk 1 rfl).cell
  go_wp2_with fail
  clear k_3
  refine (VB.q (hV0u.ext hS.ext)).mono ?_
  rintro e w4 ⟨rfl, hx_⟩
  replace hS := hS.mv hx_
  clear hx_
  go_wp2_with fail
  refine (lxknown_ok _ (tab_ext hTab hS.ext)).mono ?_
  rintro e w5 ⟨rfl, hx_⟩
  replace hS := hS.mv hx_
  clear hx_
  go_wp2
  go_ret
  exact ⟨ret_bool (rfl), hS.ext⟩

set_option maxRecDepth 100000 in
set_option maxHeartbeats 3200000 in
theorem rounds_badv (a6 : Bool) (a7 : Option Addr) (a0 a8 : Nat) (a9 : Bool) (aa : Option Addr) (a1 ab : Nat) (ac : Bool) (ad : Option Addr) (a2 ae : Nat) (af : Bool) (ag : Option Addr) (a3 ah : Nat) (ai : Bool) (aj : Option Addr) (a4 ak : Nat) (am : Bool) (an : Option Addr) (a5 ao : Nat) (m1 : Int) (w : World) (hV0u : VB w (gv a6 a7 a0 a8 a9 aa a1 ab ac ad a2 ae) true) (hV0v : VB w (gv af ag a3 ah ai aj a4 ak am an a5 ao) false) (l1 : -9223372036854775808 ≤ m1) (u1 : m1 ≤ 9223372036854775807) (hTab : Tab w) (HL : Hid ([a0, a1, a2, a3, a4, a5].all (fun n => decide (n ≤ 30)) = true)) 
      :
    Calls Tryz.prog 5 #[pv a6 a7 a0 a8 a9 aa a1 ab ac ad a2 ae af ag a3 ah ai aj a4 ak am an a5 ao, .int .i64 m1] w fun e w' => e = .returned (.bool true) ∧ Ext w w' := by
  have hS := St.start w
  have o2 : Own w w.heap.size := Own.of hS.ext (by simp)
  have ap := (St.al hS 37 #[.bool a6, .slice a7 a0 a8, .bool a9, .slice aa a1 ab, .bool ac, .slice ad a2 ae, .bool af, .slice ag a3 ah, .bool ai, .slice aj a4 ak, .bool am, .slice an a5 ao] (g := w.heap.size) (by simp))
  have k_1 := (ap.blk 0 rfl).cell
  have o13 : Own w (w.heap.size + 1) := Own.of hS.ext (by simp)
  go_enter Tryz.func5, Tryz.ntmps5
  go_wp2_with fail
  clear k_1
  clear ap
  replace hS := (St.al (St.al hS 37 #[.bool a6, .slice a7 a0 a8, .bool a9, .slice aa a1 ab, .bool ac, .slice ad a2 ae, .bool af, .slice ag a3 ah, .bool ai, .slice aj a4 ak, .bool am, .slice an a5 ao] (g := w.heap.size) (by simp)) 26 #[.bool a6, .slice a7 a0 a8, .bool a9, .slice aa a1 ab, .bool ac, .slice ad a2 ae, .bool af, .slice ag a3 ah, .bool ai, .slice aj a4 ak, .bool am, .slice an a5 ao] (g := (w.heap.size + 1)) (by simp))
  generalize ((w.alloc (.cells #[.bool a6, .slice a7 a0 a8, .bool a9, .slice aa a1 ab, .bool ac, .slice ad a2 ae, .bool af, .slice ag a3 ah, .bool ai, .slice aj a4 ak, .bool am, .slice an a5 ao] 37)).alloc (.cells #[.bool a6, .slice a7 a0 a8, .bool a9, .slice aa a1 ab, .bool ac, .slice ad a2 ae, .bool af, .slice ag a3 ah, .bool ai, .slice aj a4 ak, .bool am, .slice an a5 ao] 26)) = w1 at hS ⊢
  generalize w.heap.size + 1 = g13 at hS o13 ⊢
  generalize w.heap.size = g2 at hS o2 ⊢
  refine (low2_raw g13 30 true _ (hS.blk 0 rfl) HL.out).mono ?_
  rintro e w2 ⟨rfl, hx_⟩
  replace hS := hS.mv hx_
  clear hx_
  have k_2 := (hS.blk 1 rfl).cell
  go_wp2_with fail
  clear k_2
  refine (xRound_bad a6 a7 a0 a8 a9 aa a1 ab ac ad a2 ae af ag a3 ah ai aj a4 ak am an a5 ao true false (m1) _ (hV0u.ext hS.ext) (hV0v.ext hS.ext) l1 u1 (Lib.hid rfl)).mono ?_
  rintro e w3 ⟨rfl, hx_⟩
  replace hS := hS.mv hx_
  clear hx_
  have k_3 := (hS.blk 1 rfl).cell
  go_wp2_with fail
  clear k_3
  refine (VB.q (hV0u.ext hS.ext)).mono ?_
  rintro e w4 ⟨rfl, hx_⟩
  replace hS := hS.mv hx_
  clear hx_
  have k_4 := (hS.blk 1 rfl).cell
  go_wp2_with fail
  clear k_4
  refine (VB.q (hV0v.ext hS.ext)).mono ?_
  rintro e w5 ⟨rfl, hx_⟩
  replace hS := hS.mv hx_
  clear hx_
  go_wp2_with fail
  refine (lxknown_ok _ (tab_ext hTab hS.ext)).mono ?_
  rintro e w6 ⟨rfl, hx_⟩
  replace hS := hS.mv hx_
  clear hx_
  go_wp2
  go_ret
  exact ⟨ret_bool (rfl), hS.ext⟩

set_option maxRecDepth 100000 in
set_option maxHeartbeats 3200000 in
theorem rounds_badl (a6 : Bool) (a7 : Option Addr) (a0 a8 : Nat) (a9 : Bool) (aa : Option Addr) (a1 ab : Nat) (ac : Bool) (ad : Option Addr) (a2 ae : Nat) (af : Bool) (ag : Option Addr) (a3 ah : Nat) (ai : Bool) (aj : Option Addr) (a4 ak : Nat) (am : Bool) (an : Option Addr) (a5 ao : Nat) (m1 : Int) (w : World) (hV0u : VB w (gv a6 a7 a0 a8 a9 aa a1 ab ac ad a2 ae) true) (hV0v : VB w (gv af ag a3 ah ai aj a4 ak am an a5 ao) true) (l1 : -9223372036854775808 ≤ m1) (u1 : m1 ≤ 9223372036854775807) (hTab : Tab w) (HL : Hid ([a0, a1, a2, a3, a4, a5].all (fun n => decide (n ≤ 30)) = true)) (Hr : Hid (m1 < 1))
      :
    Calls Tryz.prog 5 #[pv a6 a7 a0 a8 a9 aa a1 ab ac ad a2 ae af ag a3 ah ai aj a4 ak am an a5 ao, .int .i64 m1] w fun e w' => e = .returned (.bool true) ∧ Ext w w' := by
  have hS := St.start w
  have t1 : decide (m1 < 1) = true := by have := Hr.out; simp; omega
  have o2 : Own w w.heap.size := Own.of hS.ext (by simp)
  have ap := (St.al hS 37 #[.bool a6, .slice a7 a0 a8, .bool a9, .slice aa a1 ab, .bool ac, .slice ad a2 ae, .bool af, .slice ag a3 ah, .bool ai, .slice aj a4 ak, .bool am, .slice an a5 ao] (g := w.heap.size) (by simp))
  have k_1 := (ap.blk 0 rfl).cell
  have o13 : Own w (w.heap.size + 1) := Own.of hS.ext (by simp)
  go_enter Tryz.func5, Tryz.ntmps5
  go_wp2_with fail
  clear k_1
  clear ap
  replace hS := (St.al (St.al hS 37 #[.bool a6, .slice a7 a0 a8, .bool a9, .slice aa a1 ab, .bool ac, .slice ad a2 ae, .bool af, .slice ag a3 ah, .bool ai, .slice aj a4 ak, .bool am, .slice an a5 ao] (g := w.heap.size) (by simp)) 26 #[.bool a6, .slice a7 a0 a8, .bool a9, .slice aa a1 ab, .bool ac, .slice ad a2 ae, .bool af, .slice ag a3 ah, .bool ai, .slice aj a4 ak, .bool am, .slice an a5 ao] (g := (w.heap.size + 1)) (by simp))
  generalize ((w.alloc (.cells #[.bool a6, .slice a7 a0 a8, .bool a9, .slice aa a1 ab, .bool ac, .slice ad a2 ae, .bool af, .slice ag a3 ah, .bool ai, .slice aj a4 ak, .bool am, .slice an a5 ao] 37)).alloc (.cells #[.bool a6, .slice a7 a0 a8, .bool a9, .slice aa a1 ab, .bool ac, .slice ad a2 ae, .bool af, .slice ag a3 ah, .bool ai, .slice aj a4 ak, .bool am, .slice an a5 ao] 26)) = w1 at hS ⊢
  generalize w.heap.size + 1 = g13 at hS o13 ⊢
  generalize w.heap.size = g2 at hS o2 ⊢
  refine (low2_raw g13 30 true _ (hS.blk 0 rfl) HL.out).mono ?_
  rintro e w2 ⟨rfl, hx_⟩
  replace hS := hS.mv hx_
  clear hx_
  have k_2 := (hS.blk 1 rfl).cell
  go_wp2_with fail
  clear k_2
  refine (xRound_badl a6 a7 a0 a8 a9 aa a1 ab ac ad a2 ae af ag a3 ah ai aj a4 ak am an a5 ao true true (m1) _ (hV0u.ext hS.ext) (hV0v.ext hS.ext) l1 u1 (Lib.hid rfl) Hr).mono ?_
  rintro e w3 ⟨rfl, hx_⟩
  replace hS := hS.mv hx_
  clear hx_
  have k_3 := (hS.blk 1 rfl).cell
  go_wp2_with fail
  clear k_3
  refine (VB.q (hV0u.ext hS.ext)).mono ?_
  rintro e w4 ⟨rfl, hx_⟩
  replace hS := hS.mv hx_
  clear hx_
  have k_4 := (hS.blk 1 rfl).cell
  go_wp2_with fail
  clear k_4
  refine (VB.q (hV0v.ext hS.ext)).mono ?_
  rintro e w5 ⟨rfl, hx_⟩
  replace hS := hS.mv hx_
  clear hx_
  go_wp2_with fail
  refine (lxknown_ok _ (tab_ext hTab hS.ext)).mono ?_
  rintro e w6 ⟨rfl, hx_⟩
  replace hS := hS.mv hx_
  clear hx_
  go_wp2
  go_ret
  exact ⟨ret_bool (rfl), hS.ext⟩

set_option maxRecDepth 100000 in
set_option maxHeartbeats 3200000 in
theorem rounds_badh (a6 : Bool) (a7 : Option Addr) (a0 a8 : Nat) (a9 : Bool) (aa : Option Addr) (a1 ab : Nat) (ac : Bool) (ad : Option Addr) (a2 ae : Nat) (af : Bool) (ag : Option Addr) (a3 ah : Nat) (ai : Bool) (aj : Option Addr) (a4 ak : Nat) (am : Bool) (an : Option Addr) (a5 ao : Nat) (m1 : Int) (w : World) (hV0u : VB w (gv a6 a7 a0 a8 a9 aa a1 ab ac ad a2 ae) true) (hV0v : VB w (gv af ag a3 ah ai aj a4 ak am an a5 ao) true) (l1 : -9223372036854775808 ≤ m1) (u1 : m1 ≤ 9223372036854775807) (hTab : Tab w) (HL : Hid ([a0, a1, a2, a3, a4, a5].all (fun n => decide (n ≤ 30)) = true)) (Hr : Hid (10000 < m1))
      :
    Calls Tryz.prog 5 #[pv a6 a7 a0 a8 a9 aa a1 ab ac ad a2 ae af ag a3 ah ai aj a4 ak am an a5 ao, .int .i64 m1] w fun e w' => e = .returned (.bool true) ∧ Ext w w' := by
  have hS := St.start w
  have t1 : decide (m1 < 1) = false := by have := Hr.out; simp; omega
  have t2 : decide ((10000 : Int) < m1) = true := by have := Hr.out; simp; omega
  have o2 : Own w w.heap.size := Own.of hS.ext (by simp)
  have ap := (St.al hS 37 #[.bool a6, .slice a7 a0 a8, .bool a9, .slice aa a1 ab, .bool ac, .slice ad a2 ae, .bool af, .slice ag a3 ah, .bool ai, .slice aj a4 ak, .bool am, .slice an a5 ao] (g := w.heap.size) (by simp))
  have k_1 := (ap.blk 0 rfl).cell
  have o13 : Own w (w.heap.size + 1) := Own.of hS.ext (by simp)
  go_enter Tryz.func5, Tryz.ntmps5
  go_wp2_with fail
  clear k_1
  clear ap
  replace hS := (St.al (St.al hS 37 #[.bool a6, .slice a7 a0 a8, .bool a9, .slice aa a1 ab, .bool ac, .slice ad a2 ae, .bool af, .slice ag a3 ah, .bool ai, .slice aj a4 ak, .bool am, .slice an a5 ao] (g := w.heap.size) (by simp)) 26 #[.bool a6, .slice a7 a0 a8, .bool a9, .slice aa a1 ab, .bool ac, .slice ad a2 ae, .bool af, .slice ag a3 ah, .bool ai, .slice aj a4 ak, .bool am, .slice an a5 ao] (g := (w.heap.size + 1)) (by simp))
  generalize ((w.alloc (.cells #[.bool a6, .slice a7 a0 a8, .bool a9, .slice aa a1 ab, .bool ac, .slice ad a2 ae, .bool af, .slice ag a3 ah, .bool ai, .slice aj a4 ak, .bool am, .slice an a5 ao] 37)).alloc (.cells #[.bool a6, .slice a7 a0 a8, .bool a9, .slice aa a1 ab, .bool ac, .slice ad a2 ae, .bool af, .slice ag a3 ah, .bool ai, .slice aj a4 ak, .bool am, .slice an a5 ao] 26)) = w1 at hS ⊢
  generalize w.heap.size + 1 = g13 at hS o13 ⊢
  generalize w.heap.size = g2 at hS o2 ⊢
  refine (low2_raw g13 30 true _ (hS.blk 0 rfl) HL.out).mono ?_
  rintro e w2 ⟨rfl, hx_⟩
  replace hS := hS.mv hx_
  clear hx_
  have k_2 := (hS.blk 1 rfl).cell
  go_wp2_with fail
  clear k_2
  refine (xRound_badu a6 a7 a0 a8 a9 aa a1 ab ac ad a2 ae af ag a3 ah ai aj a4 ak am an a5 ao true true (m1) _ (hV0u.ext hS.ext) (hV0v.ext hS.ext) l1 u1 (Lib.hid rfl) Hr).mono ?_
  rintro e w3 ⟨rfl, hx_⟩
  replace hS := hS.mv hx_
  clear hx_
  have k_3 := (hS.blk 1 rfl).cell
  go_wp2_with fail
  clear k_3
  refine (VB.q (hV0u.ext hS.ext)).mono ?_
  rintro e w4 ⟨rfl, hx_⟩
  replace hS := hS.mv hx_
  clear hx_
  have k_4 := (hS.blk 1 rfl).cell
  go_wp2_with fail
  clear k_4
  refine (VB.q (hV0v.ext hS.ext)).mono ?_
  rintro e w5 ⟨rfl, hx_⟩
  replace hS := hS.mv hx_
  clear hx_
  go_wp2_with fail
  refine (lxknown_ok _ (tab_ext hTab hS.ext)).mono ?_
  rintro e w6 ⟨rfl, hx_⟩
  replace hS := hS.mv hx_
  clear hx_
  go_wp2
  go_ret
  exact ⟨ret_bool (rfl), hS.ext⟩

set_option maxRecDepth 100000 in
set_option maxHeartbeats 25600000 in
theorem rounds_a (v0 : Value) (q0 : PQ) (n0 : Nat) (m1 : Int) (N N2 : Int) (nn : Int) (w : World) (hX0 : PV w v0 q0 n0) (l1 : -9223372036854775808 ≤ m1) (u1 : m1 ≤ 9223372036854775807) (hn0 : n0 ≤ 960) (h1 : 1 ≤ m1) (h2 : m1 ≤ 10000) (hTab : Tab w) (HN : Hid (Rd q0 m1 N)) (HM : Hid (clamp N = nn)) (HN2 : Hid (Rd (q0 + (⟨GQ.i (m1) (5), (GQ.i 0 0)⟩ : PQ)) m1 N2)) (HM2 : Hid (clamp N2 = nn + 1)) (b1 : -4611686018427387904 ≤ nn) (b2 : nn ≤ 4611686018427387904)
      :
    Calls Tryz.prog 5 #[v0, .int .i64 m1] w fun e w' => e = .returned (.bool true) ∧ Ext w w' := by
  have hS := St.start w
  obtain ⟨x0a, x0b, x0d, x0x, x0y, x0z, hX0, bX, bE, bY, bF⟩ := hX0
  obtain ⟨bf, bg, b9, bh, bi, bj, ba, bk, bl, bm, bb, bn, bo, bp, bc, bq, br, bs, bd, bt, bu, bv, be, bw, rfl, bZ, c0, c1, c2, c3, c4⟩ := hX0
  replace hS := hS.addI bZ
  clear bZ
  replace hS := hS.addI c0
  clear c0
  replace hS := hS.addI c1
  clear c1
  replace hS := hS.addI c2
  clear c2
  replace hS := hS.addI c3
  clear c3
  replace hS := hS.addI c4
  clear c4
  have t1 : decide (m1 < 1) = false := by simp; omega
  have t2 : decide ((10000 : Int) < m1) = false := by simp; omega
  have HL : Hid ([b9, ba, bb, bc, bd, be].all (fun n => decide (n ≤ 30)) = true) := Lib.hid (by simp only [List.all_cons, List.all_nil, Bool.and_true, Bool.and_eq_true, decide_eq_true_eq]; exact ⟨RI.low (k := 30) (hS.num 5 rfl) bE.a (by omega), RI.low (k := 30) (hS.num 4 rfl) bE.b (by omega), RI.low (k := 30) (hS.num 3 rfl) bE.d (by omega), RI.low (k := 30) (hS.num 2 rfl) bF.a (by omega), RI.low (k := 30) (hS.num 1 rfl) bF.b (by omega), RI.low (k := 30) (hS.num 0 rfl) bF.d (by omega)⟩)
  have o2 : Own w w.heap.size := Own.of hS.ext (by simp)
  have c7 := (St.al hS 37 #[.bool bf, .slice bg b9 bh, .bool bi, .slice bj ba bk, .bool bl, .slice bm bb bn, .bool bo, .slice bp bc bq, .bool br, .slice bs bd bt, .bool bu, .slice bv be bw] (g := w.heap.size) (by simp))
  have k_1 := (c7.blk 0 rfl).cell
  have o13 : Own w (w.heap.size + 1) := Own.of hS.ext (by simp)
  go_enter Tryz.func5, Tryz.ntmps5
  go_wp2_with fail
  clear k_1
  clear c7
  replace hS := (St.al (St.al hS 37 #[.bool bf, .slice bg b9 bh, .bool bi, .slice bj ba bk, .bool bl, .slice bm bb bn, .bool bo, .slice bp bc bq, .bool br, .slice bs bd bt, .bool bu, .slice bv be bw] (g := w.heap.size) (by simp)) 26 #[.bool bf, .slice bg b9 bh, .bool bi, .slice bj ba bk, .bool bl, .slice bm bb bn, .bool bo, .slice bp bc bq, .bool br, .slice bs bd bt, .bool bu, .slice bv be bw] (g := (w.heap.size + 1)) (by simp))
  generalize ((w.alloc (.cells #[.bool bf, .slice bg b9 bh, .bool bi, .slice bj ba bk, .bool bl, .slice bm bb bn, .bool bo, .slice bp bc bq, .bool br, .slice bs bd bt, .bool bu, .slice bv be bw] 37)).alloc (.cells #[.bool bf, .slice bg b9 bh, .bool bi, .slice bj ba bk, .bool bl, .slice bm bb bn, .bool bo, .slice bp bc bq, .bool br, .slice bs bd bt, .bool bu, .slice bv be bw] 26)) = w1 at hS ⊢
  generalize w.heap.size + 1 = g13 at hS o13 ⊢
  generalize w.heap.size = g2 at hS o2 ⊢
  refine (low2_raw g13 30 true _ (hS.blk 0 rfl) HL.out).mono ?_
  rintro e w2 ⟨rfl, hx_⟩
  replace hS := hS.mv hx_
  clear hx_
  have k_2 := (hS.blk 1 rfl).cell
  go_wp2_with fail
  clear k_2
  refine (xRound_at _ q0 (n0) (m1) N (nn) _ ⟨_, _, _, _, _, _, RP.mk (hS.num 5 rfl) (hS.num 4 rfl) (hS.num 3 rfl) (hS.num 2 rfl) (hS.num 1 rfl) (hS.num 0 rfl), bX, bE, bY, bF⟩ (by omega) (by omega) (by omega) HN.out HM.out).mono ?_
  rintro e w3 ⟨rfl, hx_⟩
  replace hS := hS.mv hx_
  clear hx_
  have k_3 := (hS.blk 1 rfl).cell
  go_wp2_with fail
  clear k_3
  refine (qValid_gv _ q0.u (n0) _ ⟨_, _, _, RG.mk (hS.num 5 rfl) (hS.num 4 rfl) (hS.num 3 rfl), bX, bE⟩ (by omega)).mono ?_
  rintro e w4 ⟨rfl, hx_⟩
  replace hS := hS.mv hx_
  clear hx_
  have k_4 := (hS.blk 1 rfl).cell
  go_wp2_with fail
  clear k_4
  refine (qValid_gv _ q0.v (n0) _ ⟨_, _, _, RG.mk (hS.num 2 rfl) (hS.num 1 rfl) (hS.num 0 rfl), bY, bF⟩ (by omega)).mono ?_
  rintro e w5 ⟨rfl, hx_⟩
  replace hS := hS.mv hx_
  clear hx_
  have k_5 := (hS.blk 1 rfl).cell
  go_wp2_with fail
  clear k_5
  refine (qRound_at _ q0 (n0) (m1) N (nn) _ ⟨_, _, _, _, _, _, RP.mk (hS.num 5 rfl) (hS.num 4 rfl) (hS.num 3 rfl) (hS.num 2 rfl) (hS.num 1 rfl) (hS.num 0 rfl), bX, bE, bY, bF⟩ (by omega) (by omega) (by omega) HN.out HM.out).mono ?_
  rintro e w6 ⟨rfl, hx_⟩
  replace hS := hS.mv hx_
  clear hx_
  go_wp2_with fail
  obtain ⟨bx, bz, bA, bG⟩ := is_ex ((q0 + (⟨GQ.i (m1) (5), (GQ.i 0 0)⟩ : PQ))).u
  obtain ⟨bB, bC, bD, bH⟩ := is_ex ((q0 + (⟨GQ.i (m1) (5), (GQ.i 0 0)⟩ : PQ))).v
  have c5 : Sz (n0 + 64 + 1) bx bz bA := (Bd.mono (Bd.add (x := q0.u) (y := (⟨GQ.i (m1) (5), (GQ.i 0 0)⟩ : PQ).u) (m := n0) (n := 64) ⟨_, _, _, bX, bE⟩ ⟨_, _, _, (is_i (m1) (5)), (sz_i l1 u1 (by omega) (by omega))⟩) (by omega)).sz bG
  have c6 : Sz (n0 + 64 + 1) bB bC bD := (Bd.mono (Bd.add (x := q0.v) (y := (⟨GQ.i (m1) (5), (GQ.i 0 0)⟩ : PQ).v) (m := n0) (n := 64) ⟨_, _, _, bY, bF⟩ ⟨_, _, _, (is_i 0 0), (sz_0 (n := 64) (by omega))⟩) (by omega)).sz bH
  have Y2 := ExtOf.blk (hS.blk 1 rfl)
  have hE_ := hS.ext
  refine wp_region_tame 11 (hasF [(2, .any), (3, .any), (4, .any), (6, .any)]) (Fcs [(2, .rg ((m1)) ((5 : Int)) ((1 : Int))), (3, .rp ((m1)) ((5 : Int)) ((1 : Int)) ((0 : Int)) ((0 : Int)) ((1 : Int))), (4, .rp (bx) (bz) (bA) (bB) (bC) (bD)), (6, .eq (.tuple #[.int .i64 (nn + 1), .int .i64 0]))]) (Fcs_stab _) (by kernel_rfl) (by kernel_rfl) ?_
  simp only [tk1, tk0, dp1, dp0]
  refine wpT_quiet 2 (by rfl) (by kernel_rfl) ?_
  simp only [tk1, tk0, dp1, dp0]
  repeat (go_big_quiet_step (fail))
  refine wpQuiet_nil ?_
  refine wpT_eff (by rfl) (by rfl) (by rfl) ?_ ?_
  · intro W_ hK
    have hW := hK.1
    clear hK
    go_simp
    exact ⟨rfl, (qInt_ok (m1) (5) _ l1 u1 (by omega) (by omega)).mono fun e w' ⟨v, he, hR, hx⟩ => ⟨v, he, hx, hR⟩⟩
  intro v_ b7 b8 hr_
  obtain ⟨W_, hW_⟩ := hr_
  have hv_ : Fc.holds (.rg ((m1)) ((5 : Int)) ((1 : Int))) b7 b8 v_ W_ := hW_.get
  clear hW_
  obtain ⟨aW, aT, aX, aY, aZ, aU, b0, b3, b4, aV, b5, b6, rfl, -, -, -⟩ := hv_
  clear W_
  try simp only [Act.put, sa0, sa1, sa2]
  refine wpT_eff (by rfl) (by rfl) (by rfl) ?_ ?_
  · intro W_ hK
    have hW := hK.1
    have bI : RI W_ (iv aW aT aX aY) (m1) := RG.at1 (hK.2 2 ((gv aW aT aX aY aZ aU b0 b3 b4 aV b5 b6), b7, b8) (by rfl) (by kernel_rfl))
    have bJ : RI W_ (iv aZ aU b0 b3) (5 : Int) := RG.at2 (hK.2 2 ((gv aW aT aX aY aZ aU b0 b3 b4 aV b5 b6), b7, b8) (by rfl) (by kernel_rfl))
    have bK : RI W_ (iv b4 aV b5 b6) (1 : Int) := RG.at3 (hK.2 2 ((gv aW aT aX aY aZ aU b0 b3 b4 aV b5 b6), b7, b8) (by rfl) (by kernel_rfl))
    clear hK
    go_simp
    exact ⟨rfl, (toRP (qPlain_ok _ (GQ.i (m1) (5)) (64) _ ⟨_, _, _, RG.mk bI bJ bK, (is_i (m1) (5)), (sz_i l1 u1 (by omega) (by omega))⟩ (by omega)) (is_i (m1) (5)) (is_i 0 0)).mono fun e w' ⟨v, he, hR, hx⟩ => ⟨v, he, hx, hR⟩⟩
  intro v_ aP aQ hr_
  obtain ⟨W_, hW_⟩ := hr_
  have hv_ : Fc.holds (.rp ((m1)) ((5 : Int)) ((1 : Int)) ((0 : Int)) ((0 : Int)) ((1 : Int))) aP aQ v_ W_ := hW_.get
  clear hW_
  obtain ⟨ac, a0, ad, ae, af, a1, ag, ah, ai, a2, aj, ak, am, a3, an, ao, ap, a4, aq, ar, au, a5, av, aw, rfl, -, -, -, -, -, -⟩ := hv_
  clear W_
  try simp only [Act.put, sa0, sa1, sa2]
  refine wpT_eff (by rfl) (by rfl) (by rfl) ?_ ?_
  · intro W_ hK
    have hW := hK.1
    have bL : RI W_ (iv ac a0 ad ae) (m1) := RP.at1 (hK.2 3 ((pv ac a0 ad ae af a1 ag ah ai a2 aj ak am a3 an ao ap a4 aq ar au a5 av aw), aP, aQ) (by rfl) (by kernel_rfl))
    have bM : RI W_ (iv af a1 ag ah) (5 : Int) := RP.at2 (hK.2 3 ((pv ac a0 ad ae af a1 ag ah ai a2 aj ak am a3 an ao ap a4 aq ar au a5 av aw), aP, aQ) (by rfl) (by kernel_rfl))
    have bN : RI W_ (iv ai a2 aj ak) (1 : Int) := RP.at3 (hK.2 3 ((pv ac a0 ad ae af a1 ag ah ai a2 aj ak am a3 an ao ap a4 aq ar au a5 av aw), aP, aQ) (by rfl) (by kernel_rfl))
    have bO : RI W_ (iv am a3 an ao) (0 : Int) := RP.at4 (hK.2 3 ((pv ac a0 ad ae af a1 ag ah ai a2 aj ak am a3 an ao ap a4 aq ar au a5 av aw), aP, aQ) (by rfl) (by kernel_rfl))
    have bP : RI W_ (iv ap a4 aq ar) (0 : Int) := RP.at5 (hK.2 3 ((pv ac a0 ad ae af a1 ag ah ai a2 aj ak am a3 an ao ap a4 aq ar au a5 av aw), aP, aQ) (by rfl) (by kernel_rfl))
    have bQ : RI W_ (iv au a5 av aw) (1 : Int) := RP.at6 (hK.2 3 ((pv ac a0 ad ae af a1 ag ah ai a2 aj ak am a3 an ao ap a4 aq ar au a5 av aw), aP, aQ) (by rfl) (by kernel_rfl))
    clear hK
    go_simp
    exact ⟨rfl, (toRP (qSum_w _ q0 (n0) _ (⟨GQ.i (m1) (5), (GQ.i 0 0)⟩ : PQ) (64) _ ⟨_, _, _, _, _, _, RP.mk (RI.ext (hS.num 5 rfl) hW) (RI.ext (hS.num 4 rfl) hW) (RI.ext (hS.num 3 rfl) hW) (RI.ext (hS.num 2 rfl) hW) (RI.ext (hS.num 1 rfl) hW) (RI.ext (hS.num 0 rfl) hW), bX, bE, bY, bF⟩ ⟨_, _, _, _, _, _, RP.mk bL bM bN bO bP bQ, (is_i (m1) (5)), (sz_i l1 u1 (by omega) (by omega)), (is_i 0 0), (sz_0 (n := 64) (by omega))⟩ (by omega)) bG bH).mono fun e w' ⟨v, he, hR, hx⟩ => ⟨v, he, hx, hR⟩⟩
  intro v_ aR aS hr_
  obtain ⟨W_, hW_⟩ := hr_
  have hv_ : Fc.holds (.rp (bx) (bz) (bA) (bB) (bC) (bD)) aR aS v_ W_ := hW_.get
  clear hW_
  obtain ⟨ax, a6, ay, az, aA, a7, aB, aC, aD, a8, aE, aF, aG, a9, aH, aI, aJ, aa, aK, aL, aM, ab, aN, aO, rfl, -, -, -, -, -, -⟩ := hv_
  clear W_
  try simp only [Act.put, sa0, sa1, sa2]
  refine wpT_quiet 1 (by rfl) (by kernel_rfl) ?_
  simp only [tk1, tk0, dp1, dp0]
  repeat (go_big_quiet_step (fail))
  refine wpQuiet_nil ?_
  refine wpT_eff (by rfl) (by rfl) (by rfl) ?_ ?_
  · intro W_ hK
    have hW := hK.1
    have bR : RI W_ (iv ax a6 ay az) bx := RP.at1 (hK.2 4 ((pv ax a6 ay az aA a7 aB aC aD a8 aE aF aG a9 aH aI aJ aa aK aL aM ab aN aO), aR, aS) (by rfl) (by kernel_rfl))
    have bS : RI W_ (iv aA a7 aB aC) bz := RP.at2 (hK.2 4 ((pv ax a6 ay az aA a7 aB aC aD a8 aE aF aG a9 aH aI aJ aa aK aL aM ab aN aO), aR, aS) (by rfl) (by kernel_rfl))
    have bT : RI W_ (iv aD a8 aE aF) bA := RP.at3 (hK.2 4 ((pv ax a6 ay az aA a7 aB aC aD a8 aE aF aG a9 aH aI aJ aa aK aL aM ab aN aO), aR, aS) (by rfl) (by kernel_rfl))
    have bU : RI W_ (iv aG a9 aH aI) bB := RP.at4 (hK.2 4 ((pv ax a6 ay az aA a7 aB aC aD a8 aE aF aG a9 aH aI aJ aa aK aL aM ab aN aO), aR, aS) (by rfl) (by kernel_rfl))
    have bV : RI W_ (iv aJ aa aK aL) bC := RP.at5 (hK.2 4 ((pv ax a6 ay az aA a7 aB aC aD a8 aE aF aG a9 aH aI aJ aa aK aL aM ab aN aO), aR, aS) (by rfl) (by kernel_rfl))
    have bW : RI W_ (iv aM ab aN aO) bD := RP.at6 (hK.2 4 ((pv ax a6 ay az aA a7 aB aC aD a8 aE aF aG a9 aH aI aJ aa aK aL aM ab aN aO), aR, aS) (by rfl) (by kernel_rfl))
    clear hK
    go_simp
    exact ⟨rfl, (xRound_at _ (q0 + (⟨GQ.i (m1) (5), (GQ.i 0 0)⟩ : PQ)) (n0 + 64 + 1) (m1) N2 (nn + 1) _ ⟨_, _, _, _, _, _, RP.mk bR bS bT bU bV bW, bG, c5, bH, c6⟩ (by omega) (by omega) (by omega) HN2.out HM2.out).mono fun e w' ⟨he, hx⟩ => ⟨_, he, hx, rfl⟩⟩
  intro v_ lo66 hi66 hr_
  obtain ⟨W_, hW_⟩ := hr_
  obtain rfl : v_ = .tuple #[.int .i64 (nn + 1), .int .i64 0] := hW_.get
  clear hW_ W_
  try simp only [Act.put, sa0, sa1, sa2]
  refine wpT_quiet 4 (by rfl) (by kernel_rfl) ?_
  simp only [tk1, tk0, dp1, dp0]
  repeat (go_big_quiet_step (fail))
  refine wpQuiet_nil ?_
  refine wpT_nil ?_
  intro w7 hK
  have hlt_ := hS.lt
  replace hS := hS.mv hK.ext
  replace hS := hS.addI (show RI w7 (iv aW aT aX aY) (m1) from RG.at1 (hK.at_ 2 (e := ((gv aW aT aX aY aZ aU b0 b3 b4 aV b5 b6), b7, b8)) (by rfl)))
  replace hS := hS.addI (show RI w7 (iv aZ aU b0 b3) (5 : Int) from RG.at2 (hK.at_ 2 (e := ((gv aW aT aX aY aZ aU b0 b3 b4 aV b5 b6), b7, b8)) (by rfl)))
  replace hS := hS.addI (show RI w7 (iv b4 aV b5 b6) (1 : Int) from RG.at3 (hK.at_ 2 (e := ((gv aW aT aX aY aZ aU b0 b3 b4 aV b5 b6), b7, b8)) (by rfl)))
  replace hS := hS.addI (show RI w7 (iv ac a0 ad ae) (m1) from RP.at1 (hK.at_ 3 (e := ((pv ac a0 ad ae af a1 ag ah ai a2 aj ak am a3 an ao ap a4 aq ar au a5 av aw), aP, aQ)) (by rfl)))
  replace hS := hS.addI (show RI w7 (iv af a1 ag ah) (5 : Int) from RP.at2 (hK.at_ 3 (e := ((pv ac a0 ad ae af a1 ag ah ai a2 aj ak am a3 an ao ap a4 aq ar au a5 av aw), aP, aQ)) (by rfl)))
  replace hS := hS.addI (show RI w7 (iv ai a2 aj ak) (1 : Int) from RP.at3 (hK.at_ 3 (e := ((pv ac a0 ad ae af a1 ag ah ai a2 aj ak am a3 an ao ap a4 aq ar au a5 av aw), aP, aQ)) (by rfl)))
  replace hS := hS.addI (show RI w7 (iv am a3 an ao) (0 : Int) from RP.at4 (hK.at_ 3 (e := ((pv ac a0 ad ae af a1 ag ah ai a2 aj ak am a3 an ao ap a4 aq ar au a5 av aw), aP, aQ)) (by rfl)))
  replace hS := hS.addI (show RI w7 (iv ap a4 aq ar) (0 : Int) from RP.at5 (hK.at_ 3 (e := ((pv ac a0 ad ae af a1 ag ah ai a2 aj ak am a3 an ao ap a4 aq ar au a5 av aw), aP, aQ)) (by rfl)))
  replace hS := hS.addI (show RI w7 (iv au a5 av aw) (1 : Int) from RP.at6 (hK.at_ 3 (e := ((pv ac a0 ad ae af a1 ag ah ai a2 aj ak am a3 an ao ap a4 aq ar au a5 av aw), aP, aQ)) (by rfl)))
  replace hS := hS.addI (show RI w7 (iv ax a6 ay az) bx from RP.at1 (hK.at_ 4 (e := ((pv ax a6 ay az aA a7 aB aC aD a8 aE aF aG a9 aH aI aJ aa aK aL aM ab aN aO), aR, aS)) (by rfl)))
  replace hS := hS.addI (show RI w7 (iv aA a7 aB aC) bz from RP.at2 (hK.at_ 4 (e := ((pv ax a6 ay az aA a7 aB aC aD a8 aE aF aG a9 aH aI aJ aa aK aL aM ab aN aO), aR, aS)) (by rfl)))
  replace hS := hS.addI (show RI w7 (iv aD a8 aE aF) bA from RP.at3 (hK.at_ 4 (e := ((pv ax a6 ay az aA a7 aB aC aD a8 aE aF aG a9 aH aI aJ aa aK aL aM ab aN aO), aR, aS)) (by rfl)))
  replace hS := hS.addI (show RI w7 (iv aG a9 aH aI) bB from RP.at4 (hK.at_ 4 (e := ((pv ax a6 ay az aA a7 aB aC aD a8 aE aF aG a9 aH aI aJ aa aK aL aM ab aN aO), aR, aS)) (by rfl)))
  replace hS := hS.addI (show RI w7 (iv aJ aa aK aL) bC from RP.at5 (hK.at_ 4 (e := ((pv ax a6 ay az aA a7 aB aC aD a8 aE aF aG a9 aH aI aJ aa aK aL aM ab aN aO), aR, aS)) (by rfl)))
  replace hS := hS.addI (show RI w7 (iv aM ab aN aO) bD from RP.at6 (hK.at_ 4 (e := ((pv ax a6 ay az aA a7 aB aC aD a8 aE aF aG a9 aH aI aJ aa aK aL aM ab aN aO), aR, aS)) (by rfl)))
  clear hK hlt_ hE_ Y2
  go_wp2_with fail
  refine (lxknown_ok _ (tab_ext hTab hS.ext)).mono ?_
  rintro e w8 ⟨rfl, hx_⟩
  replace hS := hS.mv hx_
  clear hx_
  have k_6 := (hS.blk 1 rfl).cell
  go_wp2_with fail
  clear k_6
  refine (rSign_at _ x0d (1) _ (hS.num 18 rfl) (lim_of bE.d (by omega)) (cmpZ_pos bX.low.1)).mono ?_
  rintro e w9 ⟨rfl, hx_⟩
  replace hS := hS.mv hx_
  clear hx_
  go_wp2
  go_ret
  exact ⟨ret_bool (rfl), hS.ext⟩

set_option maxRecDepth 100000 in
set_option maxHeartbeats 25600000 in
theorem rounds_t (v0 : Value) (q0 : PQ) (n0 : Nat) (m1 : Int) (N N2 : Int) (w : World) (hX0 : PV w v0 q0 n0) (l1 : -9223372036854775808 ≤ m1) (u1 : m1 ≤ 9223372036854775807) (hn0 : n0 ≤ 960) (h1 : 1 ≤ m1) (h2 : m1 ≤ 10000) (hTab : Tab w) (HN : Hid (Rd q0 m1 N)) (HM : Hid (clamp N = 4611686018427387904)) (HN2 : Hid (Rd (q0 + (⟨GQ.i (m1) (5), (GQ.i 0 0)⟩ : PQ)) m1 N2)) (HM2 : Hid (clamp N2 = 4611686018427387904))
      :
    Calls Tryz.prog 5 #[v0, .int .i64 m1] w fun e w' => e = .returned (.bool true) ∧ Ext w w' := by
  have hS := St.start w
  obtain ⟨x0a, x0b, x0d, x0x, x0y, x0z, hX0, bV, bC, bW, bD⟩ := hX0
  obtain ⟨bd, be, b7, bf, bg, bh, b8, bi, bj, bk, b9, bl, bm, bn, ba, bo, bp, bq, bb, br, bs, bt, bc, bu, rfl, bX, bY, bZ, c0, c1, c2⟩ := hX0
  replace hS := hS.addI bX
  clear bX
  replace hS := hS.addI bY
  clear bY
  replace hS := hS.addI bZ
  clear bZ
  replace hS := hS.addI c0
  clear c0
  replace hS := hS.addI c1
  clear c1
  replace hS := hS.addI c2
  clear c2
  have t1 : decide (m1 < 1) = false := by simp; omega
  have t2 : decide ((10000 : Int) < m1) = false := by simp; omega
  have HL : Hid ([b7, b8, b9, ba, bb, bc].all (fun n => decide (n ≤ 30)) = true) := Lib.hid (by simp only [List.all_cons, List.all_nil, Bool.and_true, Bool.and_eq_true, decide_eq_true_eq]; exact ⟨RI.low (k := 30) (hS.num 5 rfl) bC.a (by omega), RI.low (k := 30) (hS.num 4 rfl) bC.b (by omega), RI.low (k := 30) (hS.num 3 rfl) bC.d (by omega), RI.low (k := 30) (hS.num 2 rfl) bD.a (by omega), RI.low (k := 30) (hS.num 1 rfl) bD.b (by omega), RI.low (k := 30) (hS.num 0 rfl) bD.d (by omega)⟩)
  have o2 : Own w w.heap.size := Own.of hS.ext (by simp)
  have c5 := (St.al hS 37 #[.bool bd, .slice be b7 bf, .bool bg, .slice bh b8 bi, .bool bj, .slice bk b9 bl, .bool bm, .slice bn ba bo, .bool bp, .slice bq bb br, .bool bs, .slice bt bc bu] (g := w.heap.size) (by simp))
  have k_1 := (c5.blk 0 rfl).cell
  have o13 : Own w (w.heap.size + 1) := Own.of hS.ext (by simp)
  go_enter Tryz.func5, Tryz.ntmps5
  go_wp2_with fail
  clear k_1
  clear c5
  replace hS := (St.al (St.al hS 37 #[.bool bd, .slice be b7 bf, .bool bg, .slice bh b8 bi, .bool bj, .slice bk b9 bl, .bool bm, .slice bn ba bo, .bool bp, .slice bq bb br, .bool bs, .slice bt bc bu] (g := w.heap.size) (by simp)) 26 #[.bool bd, .slice be b7 bf, .bool bg, .slice bh b8 bi, .bool bj, .slice bk b9 bl, .bool bm, .slice bn ba bo, .bool bp, .slice bq bb br, .bool bs, .slice bt bc bu] (g := (w.heap.size + 1)) (by simp))
  generalize ((w.alloc (.cells #[.bool bd, .slice be b7 bf, .bool bg, .slice bh b8 bi, .bool bj, .slice bk b9 bl, .bool bm, .slice bn ba bo, .bool bp, .slice bq bb br, .bool bs, .slice bt bc bu] 37)).alloc (.cells #[.bool bd, .slice be b7 bf, .bool bg, .slice bh b8 bi, .bool bj, .slice bk b9 bl, .bool bm, .slice bn ba bo, .bool bp, .slice bq bb br, .bool bs, .slice bt bc bu] 26)) = w1 at hS ⊢
  generalize w.heap.size + 1 = g13 at hS o13 ⊢
  generalize w.heap.size = g2 at hS o2 ⊢
  refine (low2_raw g13 30 true _ (hS.blk 0 rfl) HL.out).mono ?_
  rintro e w2 ⟨rfl, hx_⟩
  replace hS := hS.mv hx_
  clear hx_
  have k_2 := (hS.blk 1 rfl).cell
  go_wp2_with fail
  clear k_2
  refine (xRound_at _ q0 (n0) (m1) N (4611686018427387904) _ ⟨_, _, _, _, _, _, RP.mk (hS.num 5 rfl) (hS.num 4 rfl) (hS.num 3 rfl) (hS.num 2 rfl) (hS.num 1 rfl) (hS.num 0 rfl), bV, bC, bW, bD⟩ (by omega) (by omega) (by omega) HN.out HM.out).mono ?_
  rintro e w3 ⟨rfl, hx_⟩
  replace hS := hS.mv hx_
  clear hx_
  have k_3 := (hS.blk 1 rfl).cell
  go_wp2_with fail
  clear k_3
  refine (qValid_gv _ q0.u (n0) _ ⟨_, _, _, RG.mk (hS.num 5 rfl) (hS.num 4 rfl) (hS.num 3 rfl), bV, bC⟩ (by omega)).mono ?_
  rintro e w4 ⟨rfl, hx_⟩
  replace hS := hS.mv hx_
  clear hx_
  have k_4 := (hS.blk 1 rfl).cell
  go_wp2_with fail
  clear k_4
  refine (qValid_gv _ q0.v (n0) _ ⟨_, _, _, RG.mk (hS.num 2 rfl) (hS.num 1 rfl) (hS.num 0 rfl), bW, bD⟩ (by omega)).mono ?_
  rintro e w5 ⟨rfl, hx_⟩
  replace hS := hS.mv hx_
  clear hx_
  have k_5 := (hS.blk 1 rfl).cell
  go_wp2_with fail
  clear k_5
  refine (qRound_at _ q0 (n0) (m1) N (4611686018427387904) _ ⟨_, _, _, _, _, _, RP.mk (hS.num 5 rfl) (hS.num 4 rfl) (hS.num 3 rfl) (hS.num 2 rfl) (hS.num 1 rfl) (hS.num 0 rfl), bV, bC, bW, bD⟩ (by omega) (by omega) (by omega) HN.out HM.out).mono ?_
  rintro e w6 ⟨rfl, hx_⟩
  replace hS := hS.mv hx_
  clear hx_
  go_wp2_with fail
  obtain ⟨bv, bw, bx, bE⟩ := is_ex ((q0 + (⟨GQ.i (m1) (5), (GQ.i 0 0)⟩ : PQ))).u
  obtain ⟨bz, bA, bB, bF⟩ := is_ex ((q0 + (⟨GQ.i (m1) (5), (GQ.i 0 0)⟩ : PQ))).v
  have c3 : Sz (n0 + 64 + 1) bv bw bx := (Bd.mono (Bd.add (x := q0.u) (y := (⟨GQ.i (m1) (5), (GQ.i 0 0)⟩ : PQ).u) (m := n0) (n := 64) ⟨_, _, _, bV, bC⟩ ⟨_, _, _, (is_i (m1) (5)), (sz_i l1 u1 (by omega) (by omega))⟩) (by omega)).sz bE
  have c4 : Sz (n0 + 64 + 1) bz bA bB := (Bd.mono (Bd.add (x := q0.v) (y := (⟨GQ.i (m1) (5), (GQ.i 0 0)⟩ : PQ).v) (m := n0) (n := 64) ⟨_, _, _, bW, bD⟩ ⟨_, _, _, (is_i 0 0), (sz_0 (n := 64) (by omega))⟩) (by omega)).sz bF
  have Y2 := ExtOf.blk (hS.blk 1 rfl)
  have hE_ := hS.ext
  refine wp_region_tame 11 (hasF [(2, .any), (3, .any), (4, .any), (6, .any)]) (Fcs [(2, .rg ((m1)) ((5 : Int)) ((1 : Int))), (3, .rp ((m1)) ((5 : Int)) ((1 : Int)) ((0 : Int)) ((0 : Int)) ((1 : Int))), (4, .rp (bv) (bw) (bx) (bz) (bA) (bB)), (6, .eq (.tuple #[.int .i64 (4611686018427387904), .int .i64 0]))]) (Fcs_stab _) (by kernel_rfl) (by kernel_rfl) ?_
  simp only [tk1, tk0, dp1, dp0]
  refine wpT_quiet 2 (by rfl) (by kernel_rfl) ?_
  simp only [tk1, tk0, dp1, dp0]
  repeat (go_big_quiet_step (fail))
  refine wpQuiet_nil ?_
  refine wpT_eff (by rfl) (by rfl) (by rfl) ?_ ?_
  · intro W_ hK
    have hW := hK.1
    clear hK
    go_simp
    exact ⟨rfl, (qInt_ok (m1) (5) _ l1 u1 (by omega) (by omega)).mono fun e w' ⟨v, he, hR, hx⟩ => ⟨v, he, hx, hR⟩⟩
  intro v_ b5 b6 hr_
  obtain ⟨W_, hW_⟩ := hr_
  have hv_ : Fc.holds (.rg ((m1)) ((5 : Int)) ((1 : Int))) b5 b6 v_ W_ := hW_.get
  clear hW_
  obtain ⟨aW, aT, aX, aY, aZ, aU, b0, b1, b2, aV, b3, b4, rfl, -, -, -⟩ := hv_
  clear W_
  try simp only [Act.put, sa0, sa1, sa2]
  refine wpT_eff (by rfl) (by rfl) (by rfl) ?_ ?_
  · intro W_ hK
    have hW := hK.1
    have bG : RI W_ (iv aW aT aX aY) (m1) := RG.at1 (hK.2 2 ((gv aW aT aX aY aZ aU b0 b1 b2 aV b3 b4), b5, b6) (by rfl) (by kernel_rfl))
    have bH : RI W_ (iv aZ aU b0 b1) (5 : Int) := RG.at2 (hK.2 2 ((gv aW aT aX aY aZ aU b0 b1 b2 aV b3 b4), b5, b6) (by rfl) (by kernel_rfl))
    have bI : RI W_ (iv b2 aV b3 b4) (1 : Int) := RG.at3 (hK.2 2 ((gv aW aT aX aY aZ aU b0 b1 b2 aV b3 b4), b5, b6) (by rfl) (by kernel_rfl))
    clear hK
    go_simp
    exact ⟨rfl, (toRP (qPlain_ok _ (GQ.i (m1) (5)) (64) _ ⟨_, _, _, RG.mk bG bH bI, (is_i (m1) (5)), (sz_i l1 u1 (by omega) (by omega))⟩ (by omega)) (is_i (m1) (5)) (is_i 0 0)).mono fun e w' ⟨v, he, hR, hx⟩ => ⟨v, he, hx, hR⟩⟩
  intro v_ aP aQ hr_
  obtain ⟨W_, hW_⟩ := hr_
  have hv_ : Fc.holds (.rp ((m1)) ((5 : Int)) ((1 : Int)) ((0 : Int)) ((0 : Int)) ((1 : Int))) aP aQ v_ W_ := hW_.get
  clear hW_
  obtain ⟨ac, a0, ad, ae, af, a1, ag, ah, ai, a2, aj, ak, am, a3, an, ao, ap, a4, aq, ar, au, a5, av, aw, rfl, -, -, -, -, -, -⟩ := hv_
  clear W_
  try simp only [Act.put, sa0, sa1, sa2]
  refine wpT_eff (by rfl) (by rfl) (by rfl) ?_ ?_
  · intro W_ hK
    have hW := hK.1
    have bJ : RI W_ (iv ac a0 ad ae) (m1) := RP.at1 (hK.2 3 ((pv ac a0 ad ae af a1 ag ah ai a2 aj ak am a3 an ao ap a4 aq ar au a5 av aw), aP, aQ) (by rfl) (by kernel_rfl))
    have bK : RI W_ (iv af a1 ag ah) (5 : Int) := RP.at2 (hK.2 3 ((pv ac a0 ad ae af a1 ag ah ai a2 aj ak am a3 an ao ap a4 aq ar au a5 av aw), aP, aQ) (by rfl) (by kernel_rfl))
    have bL : RI W_ (iv ai a2 aj ak) (1 : Int) := RP.at3 (hK.2 3 ((pv ac a0 ad ae af a1 ag ah ai a2 aj ak am a3 an ao ap a4 aq ar au a5 av aw), aP, aQ) (by rfl) (by kernel_rfl))
    have bM : RI W_ (iv am a3 an ao) (0 : Int) := RP.at4 (hK.2 3 ((pv ac a0 ad ae af a1 ag ah ai a2 aj ak am a3 an ao ap a4 aq ar au a5 av aw), aP, aQ) (by rfl) (by kernel_rfl))
    have bN : RI W_ (iv ap a4 aq ar) (0 : Int) := RP.at5 (hK.2 3 ((pv ac a0 ad ae af a1 ag ah ai a2 aj ak am a3 an ao ap a4 aq ar au a5 av aw), aP, aQ) (by rfl) (by kernel_rfl))
    have bO : RI W_ (iv au a5 av aw) (1 : Int) := RP.at6 (hK.2 3 ((pv ac a0 ad ae af a1 ag ah ai a2 aj ak am a3 an ao ap a4 aq ar au a5 av aw), aP, aQ) (by rfl) (by kernel_rfl))
    clear hK
    go_simp
    exact ⟨rfl, (toRP (qSum_w _ q0 (n0) _ (⟨GQ.i (m1) (5), (GQ.i 0 0)⟩ : PQ) (64) _ ⟨_, _, _, _, _, _, RP.mk (RI.ext (hS.num 5 rfl) hW) (RI.ext (hS.num 4 rfl) hW) (RI.ext (hS.num 3 rfl) hW) (RI.ext (hS.num 2 rfl) hW) (RI.ext (hS.num 1 rfl) hW) (RI.ext (hS.num 0 rfl) hW), bV, bC, bW, bD⟩ ⟨_, _, _, _, _, _, RP.mk bJ bK bL bM bN bO, (is_i (m1) (5)), (sz_i l1 u1 (by omega) (by omega)), (is_i 0 0), (sz_0 (n := 64) (by omega))⟩ (by omega)) bE bF).mono fun e w' ⟨v, he, hR, hx⟩ => ⟨v, he, hx, hR⟩⟩
  intro v_ aR aS hr_
  obtain ⟨W_, hW_⟩ := hr_
  have hv_ : Fc.holds (.rp (bv) (bw) (bx) (bz) (bA) (bB)) aR aS v_ W_ := hW_.get
  clear hW_
  obtain ⟨ax, a6, ay, az, aA, a7, aB, aC, aD, a8, aE, aF, aG, a9, aH, aI, aJ, aa, aK, aL, aM, ab, aN, aO, rfl, -, -, -, -, -, -⟩ := hv_
  clear W_
  try simp only [Act.put, sa0, sa1, sa2]
  refine wpT_quiet 1 (by rfl) (by kernel_rfl) ?_
  simp only [tk1, tk0, dp1, dp0]
  repeat (go_big_quiet_step (fail))
  refine wpQuiet_nil ?_
  refine wpT_eff (by rfl) (by rfl) (by rfl) ?_ ?_
  · intro W_ hK
    have hW := hK.1
    have bP : RI W_ (iv ax a6 ay az) bv := RP.at1 (hK.2 4 ((pv ax a6 ay az aA a7 aB aC aD a8 aE aF aG a9 aH aI aJ aa aK aL aM ab aN aO), aR, aS) (by rfl) (by kernel_rfl))
    have bQ : RI W_ (iv aA a7 aB aC) bw := RP.at2 (hK.2 4 ((pv ax a6 ay az aA a7 aB aC aD a8 aE aF aG a9 aH aI aJ aa aK aL aM ab aN aO), aR, aS) (by rfl) (by kernel_rfl))
    have bR : RI W_ (iv aD a8 aE aF) bx := RP.at3 (hK.2 4 ((pv ax a6 ay az aA a7 aB aC aD a8 aE aF aG a9 aH aI aJ aa aK aL aM ab aN aO), aR, aS) (by rfl) (by kernel_rfl))
    have bS : RI W_ (iv aG a9 aH aI) bz := RP.at4 (hK.2 4 ((pv ax a6 ay az aA a7 aB aC aD a8 aE aF aG a9 aH aI aJ aa aK aL aM ab aN aO), aR, aS) (by rfl) (by kernel_rfl))
    have bT : RI W_ (iv aJ aa aK aL) bA := RP.at5 (hK.2 4 ((pv ax a6 ay az aA a7 aB aC aD a8 aE aF aG a9 aH aI aJ aa aK aL aM ab aN aO), aR, aS) (by rfl) (by kernel_rfl))
    have bU : RI W_ (iv aM ab aN aO) bB := RP.at6 (hK.2 4 ((pv ax a6 ay az aA a7 aB aC aD a8 aE aF aG a9 aH aI aJ aa aK aL aM ab aN aO), aR, aS) (by rfl) (by kernel_rfl))
    clear hK
    go_simp
    exact ⟨rfl, (xRound_at _ (q0 + (⟨GQ.i (m1) (5), (GQ.i 0 0)⟩ : PQ)) (n0 + 64 + 1) (m1) N2 (4611686018427387904) _ ⟨_, _, _, _, _, _, RP.mk bP bQ bR bS bT bU, bE, c3, bF, c4⟩ (by omega) (by omega) (by omega) HN2.out HM2.out).mono fun e w' ⟨he, hx⟩ => ⟨_, he, hx, rfl⟩⟩
  intro v_ lo66 hi66 hr_
  obtain ⟨W_, hW_⟩ := hr_
  obtain rfl : v_ = .tuple #[.int .i64 (4611686018427387904), .int .i64 0] := hW_.get
  clear hW_ W_
  try simp only [Act.put, sa0, sa1, sa2]
  refine wpT_quiet 4 (by rfl) (by kernel_rfl) ?_
  simp only [tk1, tk0, dp1, dp0]
  repeat (go_big_quiet_step (fail))
  refine wpQuiet_nil ?_
  refine wpT_nil ?_
  intro w7 hK
  have hlt_ := hS.lt
  replace hS := hS.mv hK.ext
  replace hS := hS.addI (show RI w7 (iv aW aT aX aY) (m1) from RG.at1 (hK.at_ 2 (e := ((gv aW aT aX aY aZ aU b0 b1 b2 aV b3 b4), b5, b6)) (by rfl)))
  replace hS := hS.addI (show RI w7 (iv aZ aU b0 b1) (5 : Int) from RG.at2 (hK.at_ 2 (e := ((gv aW aT aX aY aZ aU b0 b1 b2 aV b3 b4), b5, b6)) (by rfl)))
  replace hS := hS.addI (show RI w7 (iv b2 aV b3 b4) (1 : Int) from RG.at3 (hK.at_ 2 (e := ((gv aW aT aX aY aZ aU b0 b1 b2 aV b3 b4), b5, b6)) (by rfl)))
  replace hS := hS.addI (show RI w7 (iv ac a0 ad ae) (m1) from RP.at1 (hK.at_ 3 (e := ((pv ac a0 ad ae af a1 ag ah ai a2 aj ak am a3 an ao ap a4 aq ar au a5 av aw), aP, aQ)) (by rfl)))
  replace hS := hS.addI (show RI w7 (iv af a1 ag ah) (5 : Int) from RP.at2 (hK.at_ 3 (e := ((pv ac a0 ad ae af a1 ag ah ai a2 aj ak am a3 an ao ap a4 aq ar au a5 av aw), aP, aQ)) (by rfl)))
  replace hS := hS.addI (show RI w7 (iv ai a2 aj ak) (1 : Int) from RP.at3 (hK.at_ 3 (e := ((pv ac a0 ad ae af a1 ag ah ai a2 aj ak am a3 an ao ap a4 aq ar au a5 av aw), aP, aQ)) (by rfl)))
  replace hS := hS.addI (show RI w7 (iv am a3 an ao) (0 : Int) from RP.at4 (hK.at_ 3 (e := ((pv ac a0 ad ae af a1 ag ah ai a2 aj ak am a3 an ao ap a4 aq ar au a5 av aw), aP, aQ)) (by rfl)))
  replace hS := hS.addI (show RI w7 (iv ap a4 aq ar) (0 : Int) from RP.at5 (hK.at_ 3 (e := ((pv ac a0 ad ae af a1 ag ah ai a2 aj ak am a3 an ao ap a4 aq ar au a5 av aw), aP, aQ)) (by rfl)))
  replace hS := hS.addI (show RI w7 (iv au a5 av aw) (1 : Int) from RP.at6 (hK.at_ 3 (e := ((pv ac a0 ad ae af a1 ag ah ai a2 aj ak am a3 an ao ap a4 aq ar au a5 av aw), aP, aQ)) (by rfl)))
  replace hS := hS.addI (show RI w7 (iv ax a6 ay az) bv from RP.at1 (hK.at_ 4 (e := ((pv ax a6 ay az aA a7 aB aC aD a8 aE aF aG a9 aH aI aJ aa aK aL aM ab aN aO), aR, aS)) (by rfl)))
  replace hS := hS.addI (show RI w7 (iv aA a7 aB aC) bw from RP.at2 (hK.at_ 4 (e := ((pv ax a6 ay az aA a7 aB aC aD a8 aE aF aG a9 aH aI aJ aa aK aL aM ab aN aO), aR, aS)) (by rfl)))
  replace hS := hS.addI (show RI w7 (iv aD a8 aE aF) bx from RP.at3 (hK.at_ 4 (e := ((pv ax a6 ay az aA a7 aB aC aD a8 aE aF aG a9 aH aI aJ aa aK aL aM ab aN aO), aR, aS)) (by rfl)))
  replace hS := hS.addI (show RI w7 (iv aG a9 aH aI) bz from RP.at4 (hK.at_ 4 (e := ((pv ax a6 ay az aA a7 aB aC aD a8 aE aF aG a9 aH aI aJ aa aK aL aM ab aN aO), aR, aS)) (by rfl)))
  replace hS := hS.addI (show RI w7 (iv aJ aa aK aL) bA from RP.at5 (hK.at_ 4 (e := ((pv ax a6 ay az aA a7 aB aC aD a8 aE aF aG a9 aH aI aJ aa aK aL aM ab aN aO), aR, aS)) (by rfl)))
  replace hS := hS.addI (show RI w7 (iv aM ab aN aO) bB from RP.at6 (hK.at_ 4 (e := ((pv ax a6 ay az aA a7 aB aC aD a8 aE aF aG a9 aH aI aJ aa aK aL aM ab aN aO), aR, aS)) (by rfl)))
  clear hK hlt_ hE_ Y2
  go_wp2_with fail
  refine (lxknown_ok _ (tab_ext hTab hS.ext)).mono ?_
  rintro e w8 ⟨rfl, hx_⟩
  replace hS := hS.mv hx_
  clear hx_
  have k_6 := (hS.blk 1 rfl).cell
  go_wp2_with fail
  clear k_6
  refine (rSign_at _ x0d (1) _ (hS.num 18 rfl) (lim_of bC.d (by omega)) (cmpZ_pos bV.low.1)).mono ?_
  rintro e w9 ⟨rfl, hx_⟩
  replace hS := hS.mv hx_
  clear hx_
  go_wp2
  go_ret
  exact ⟨ret_bool (rfl), hS.ext⟩

set_option maxRecDepth 100000 in
set_option maxHeartbeats 25600000 in
theorem rounds_b (v0 : Value) (q0 : PQ) (n0 : Nat) (m1 : Int) (N N2 : Int) (w : World) (hX0 : PV w v0 q0 n0) (l1 : -9223372036854775808 ≤ m1) (u1 : m1 ≤ 9223372036854775807) (hn0 : n0 ≤ 960) (h1 : 1 ≤ m1) (h2 : m1 ≤ 10000) (hTab : Tab w) (HN : Hid (Rd q0 m1 N)) (HM : Hid (clamp N = -4611686018427387904)) (HN2 : Hid (Rd (q0 + (⟨GQ.i (m1) (5), (GQ.i 0 0)⟩ : PQ)) m1 N2)) (HM2 : Hid (clamp N2 = -4611686018427387904))
      :
    Calls Tryz.prog 5 #[v0, .int .i64 m1] w fun e w' => e = .returned (.bool true) ∧ Ext w w' := by
  have hS := St.start w
  obtain ⟨x0a, x0b, x0d, x0x, x0y, x0z, hX0, bV, bC, bW, bD⟩ := hX0
  obtain ⟨bd, be, b7, bf, bg, bh, b8, bi, bj, bk, b9, bl, bm, bn, ba, bo, bp, bq, bb, br, bs, bt, bc, bu, rfl, bX, bY, bZ, c0, c1, c2⟩ := hX0
  replace hS := hS.addI bX
  clear bX
  replace hS := hS.addI bY
  clear bY
  replace hS := hS.addI bZ
  clear bZ
  replace hS := hS.addI c0
  clear c0
  replace hS := hS.addI c1
  clear c1
  replace hS := hS.addI c2
  clear c2
  have t1 : decide (m1 < 1) = false := by simp; omega
  have t2 : decide ((10000 : Int) < m1) = false := by simp; omega
  have HL : Hid ([b7, b8, b9, ba, bb, bc].all (fun n => decide (n ≤ 30)) = true) := Lib.hid (by simp only [List.all_cons, List.all_nil, Bool.and_true, Bool.and_eq_true, decide_eq_true_eq]; exact ⟨RI.low (k := 30) (hS.num 5 rfl) bC.a (by omega), RI.low (k := 30) (hS.num 4 rfl) bC.b (by omega), RI.low (k := 30) (hS.num 3 rfl) bC.d (by omega), RI.low (k := 30) (hS.num 2 rfl) bD.a (by omega), RI.low (k := 30) (hS.num 1 rfl) bD.b (by omega), RI.low (k := 30) (hS.num 0 rfl) bD.d (by omega)⟩)
  have o2 : Own w w.heap.size := Own.of hS.ext (by simp)
  have c5 := (St.al hS 37 #[.bool bd, .slice be b7 bf, .bool bg, .slice bh b8 bi, .bool bj, .slice bk b9 bl, .bool bm, .slice bn ba bo, .bool bp, .slice bq bb br, .bool bs, .slice bt bc bu] (g := w.heap.size) (by simp))
  have k_1 := (c5.blk 0 rfl).cell
  have o13 : Own w (w.heap.size + 1) := Own.of hS.ext (by simp)
  go_enter Tryz.func5, Tryz.ntmps5
  go_wp2_with fail
  clear k_1
  clear c5
  replace hS := (St.al (St.al hS 37 #[.bool bd, .slice be b7 bf, .bool bg, .slice bh b8 bi, .bool bj, .slice bk b9 bl, .bool bm, .slice bn ba bo, .bool bp, .slice bq bb br, .bool bs, .slice bt bc bu] (g := w.heap.size) (by simp)) 26 #[.bool bd, .slice be b7 bf, .bool bg, .slice bh b8 bi, .bool bj, .slice bk b9 bl, .bool bm, .slice bn ba bo, .bool bp, .slice bq bb br, .bool bs, .slice bt bc bu] (g := (w.heap.size + 1)) (by simp))
  generalize ((w.alloc (.cells #[.bool bd, .slice be b7 bf, .bool bg, .slice bh b8 bi, .bool bj, .slice bk b9 bl, .bool bm, .slice bn ba bo, .bool bp, .slice bq bb br, .bool bs, .slice bt bc bu] 37)).alloc (.cells #[.bool bd, .slice be b7 bf, .bool bg, .slice bh b8 bi, .bool bj, .slice bk b9 bl, .bool bm, .slice bn ba bo, .bool bp, .slice bq bb br, .bool bs, .slice bt bc bu] 26)) = w1 at hS ⊢
  generalize w.heap.size + 1 = g13 at hS o13 ⊢
  generalize w.heap.size = g2 at hS o2 ⊢
  refine (low2_raw g13 30 true _ (hS.blk 0 rfl) HL.out).mono ?_
  rintro e w2 ⟨rfl, hx_⟩
  replace hS := hS.mv hx_
  clear hx_
  have k_2 := (hS.blk 1 rfl).cell
  go_wp2_with fail
  clear k_2
  refine (xRound_at _ q0 (n0) (m1) N (-4611686018427387904) _ ⟨_, _, _, _, _, _, RP.mk (hS.num 5 rfl) (hS.num 4 rfl) (hS.num 3 rfl) (hS.num 2 rfl) (hS.num 1 rfl) (hS.num 0 rfl), bV, bC, bW, bD⟩ (by omega) (by omega) (by omega) HN.out HM.out).mono ?_
  rintro e w3 ⟨rfl, hx_⟩
  replace hS := hS.mv hx_
  clear hx_
  have k_3 := (hS.blk 1 rfl).cell
  go_wp2_with fail
  clear k_3
  refine (qValid_gv _ q0.u (n0) _ ⟨_, _, _, RG.mk (hS.num 5 rfl) (hS.num 4 rfl) (hS.num 3 rfl), bV, bC⟩ (by omega)).mono ?_
  rintro e w4 ⟨rfl, hx_⟩
  replace hS := hS.mv hx_
  clear hx_
  have k_4 := (hS.blk 1 rfl).cell
  go_wp2_with fail
  clear k_4
  refine (qValid_gv _ q0.v (n0) _ ⟨_, _, _, RG.mk (hS.num 2 rfl) (hS.num 1 rfl) (hS.num 0 rfl), bW, bD⟩ (by omega)).mono ?_
  rintro e w5 ⟨rfl, hx_⟩
  replace hS := hS.mv hx_
  clear hx_
  have k_5 := (hS.blk 1 rfl).cell
  go_wp2_with fail
  clear k_5
  refine (qRound_at _ q0 (n0) (m1) N (-4611686018427387904) _ ⟨_, _, _, _, _, _, RP.mk (hS.num 5 rfl) (hS.num 4 rfl) (hS.num 3 rfl) (hS.num 2 rfl) (hS.num 1 rfl) (hS.num 0 rfl), bV, bC, bW, bD⟩ (by omega) (by omega) (by omega) HN.out HM.out).mono ?_
  rintro e w6 ⟨rfl, hx_⟩
  replace hS := hS.mv hx_
  clear hx_
  go_wp2_with fail
  obtain ⟨bv, bw, bx, bE⟩ := is_ex ((q0 + (⟨GQ.i (m1) (5), (GQ.i 0 0)⟩ : PQ))).u
  obtain ⟨bz, bA, bB, bF⟩ := is_ex ((q0 + (⟨GQ.i (m1) (5), (GQ.i 0 0)⟩ : PQ))).v
  have c3 : Sz (n0 + 64 + 1) bv bw bx := (Bd.mono (Bd.add (x := q0.u) (y := (⟨GQ.i (m1) (5), (GQ.i 0 0)⟩ : PQ).u) (m := n0) (n := 64) ⟨_, _, _, bV, bC⟩ ⟨_, _, _, (is_i (m1) (5)), (sz_i l1 u1 (by omega) (by omega))⟩) (by omega)).sz bE
  have c4 : Sz (n0 + 64 + 1) bz bA bB := (Bd.mono (Bd.add (x := q0.v) (y := (⟨GQ.i (m1) (5), (GQ.i 0 0)⟩ : PQ).v) (m := n0) (n := 64) ⟨_, _, _, bW, bD⟩ ⟨_, _, _, (is_i 0 0), (sz_0 (n := 64) (by omega))⟩) (by omega)).sz bF
  have Y2 := ExtOf.blk (hS.blk 1 rfl)
  have hE_ := hS.ext
  refine wp_region_tame 11 (hasF [(2, .any), (3, .any), (4, .any), (6, .any)]) (Fcs [(2, .rg ((m1)) ((5 : Int)) ((1 : Int))), (3, .rp ((m1)) ((5 : Int)) ((1 : Int)) ((0 : Int)) ((0 : Int)) ((1 : Int))), (4, .rp (bv) (bw) (bx) (bz) (bA) (bB)), (6, .eq (.tuple #[.int .i64 (-4611686018427387904), .int .i64 0]))]) (Fcs_stab _) (by kernel_rfl) (by kernel_rfl) ?_
  simp only [tk1, tk0, dp1, dp0]
  refine wpT_quiet 2 (by rfl) (by kernel_rfl) ?_
  simp only [tk1, tk0, dp1, dp0]
  repeat (go_big_quiet_step (fail))
  refine wpQuiet_nil ?_
  refine wpT_eff (by rfl) (by rfl) (by rfl) ?_ ?_
  · intro W_ hK
    have hW := hK.1
    clear hK
    go_simp
    exact ⟨rfl, (qInt_ok (m1) (5) _ l1 u1 (by omega) (by omega)).mono fun e w' ⟨v, he, hR, hx⟩ => ⟨v, he, hx, hR⟩⟩
  intro v_ b5 b6 hr_
  obtain ⟨W_, hW_⟩ := hr_
  have hv_ : Fc.holds (.rg ((m1)) ((5 : Int)) ((1 : Int))) b5 b6 v_ W_ := hW_.get
  clear hW_
  obtain ⟨aW, aT, aX, aY, aZ, aU, b0, b1, b2, aV, b3, b4, rfl, -, -, -⟩ := hv_
  clear W_
  try simp only [Act.put, sa0, sa1, sa2]
  refine wpT_eff (by rfl) (by rfl) (by rfl) ?_ ?_
  · intro W_ hK
    have hW := hK.1
    have bG : RI W_ (iv aW aT aX aY) (m1) := RG.at1 (hK.2 2 ((gv aW aT aX aY aZ aU b0 b1 b2 aV b3 b4), b5, b6) (by rfl) (by kernel_rfl))
    have bH : RI W_ (iv aZ aU b0 b1) (5 : Int) := RG.at2 (hK.2 2 ((gv aW aT aX aY aZ aU b0 b1 b2 aV b3 b4), b5, b6) (by rfl) (by kernel_rfl))
    have bI : RI W_ (iv b2 aV b3 b4) (1 : Int) := RG.at3 (hK.2 2 ((gv aW aT aX aY aZ aU b0 b1 b2 aV b3 b4), b5, b6) (by rfl) (by kernel_rfl))
    clear hK
    go_simp
    exact ⟨rfl, (toRP (qPlain_ok _ (GQ.i (m1) (5)) (64) _ ⟨_, _, _, RG.mk bG bH bI, (is_i (m1) (5)), (sz_i l1 u1 (by omega) (by omega))⟩ (by omega)) (is_i (m1) (5)) (is_i 0 0)).mono fun e w' ⟨v, he, hR, hx⟩ => ⟨v, he, hx, hR⟩⟩
  intro v_ aP aQ hr_
  obtain ⟨W_, hW_⟩ := hr_
  have hv_ : Fc.holds (.rp ((m1)) ((5 : Int)) ((1 : Int)) ((0 : Int)) ((0 : Int)) ((1 : Int))) aP aQ v_ W_ := hW_.get
  clear hW_
  obtain ⟨ac, a0, ad, ae, af, a1, ag, ah, ai, a2, aj, ak, am, a3, an, ao, ap, a4, aq, ar, au, a5, av, aw, rfl, -, -, -, -, -, -⟩ := hv_
  clear W_
  try simp only [Act.put, sa0, sa1, sa2]
  refine wpT_eff (by rfl) (by rfl) (by rfl) ?_ ?_
  · intro W_ hK
    have hW := hK.1
    have bJ : RI W_ (iv ac a0 ad ae) (m1) := RP.at1 (hK.2 3 ((pv ac a0 ad ae af a1 ag ah ai a2 aj ak am a3 an ao ap a4 aq ar au a5 av aw), aP, aQ) (by rfl) (by kernel_rfl))
    have bK : RI W_ (iv af a1 ag ah) (5 : Int) := RP.at2 (hK.2 3 ((pv ac a0 ad ae af a1 ag ah ai a2 aj ak am a3 an ao ap a4 aq ar au a5 av aw), aP, aQ) (by rfl) (by kernel_rfl))
    have bL : RI W_ (iv ai a2 aj ak) (1 : Int) := RP.at3 (hK.2 3 ((pv ac a0 ad ae af a1 ag ah ai a2 aj ak am a3 an ao ap a4 aq ar au a5 av aw), aP, aQ) (by rfl) (by kernel_rfl))
    have bM : RI W_ (iv am a3 an ao) (0 : Int) := RP.at4 (hK.2 3 ((pv ac a0 ad ae af a1 ag ah ai a2 aj ak am a3 an ao ap a4 aq ar au a5 av aw), aP, aQ) (by rfl) (by kernel_rfl))
    have bN : RI W_ (iv ap a4 aq ar) (0 : Int) := RP.at5 (hK.2 3 ((pv ac a0 ad ae af a1 ag ah ai a2 aj ak am a3 an ao ap a4 aq ar au a5 av aw), aP, aQ) (by rfl) (by kernel_rfl))
    have bO : RI W_ (iv au a5 av aw) (1 : Int) := RP.at6 (hK.2 3 ((pv ac a0 ad ae af a1 ag ah ai a2 aj ak am a3 an ao ap a4 aq ar au a5 av aw), aP, aQ) (by rfl) (by kernel_rfl))
    clear hK
    go_simp
    exact ⟨rfl, (toRP (qSum_w _ q0 (n0) _ (⟨GQ.i (m1) (5), (GQ.i 0 0)⟩ : PQ) (64) _ ⟨_, _, _, _, _, _, RP.mk (RI.ext (hS.num 5 rfl) hW) (RI.ext (hS.num 4 rfl) hW) (RI.ext (hS.num 3 rfl) hW) (RI.ext (hS.num 2 rfl) hW) (RI.ext (hS.num 1 rfl) hW) (RI.ext (hS.num 0 rfl) hW), bV, bC, bW, bD⟩ ⟨_, _, _, _, _, _, RP.mk bJ bK bL bM bN bO, (is_i (m1) (5)), (sz_i l1 u1 (by omega) (by omega)), (is_i 0 0), (sz_0 (n := 64) (by omega))⟩ (by omega)) bE bF).mono fun e w' ⟨v, he, hR, hx⟩ => ⟨v, he, hx, hR⟩⟩
  intro v_ aR aS hr_
  obtain ⟨W_, hW_⟩ := hr_
  have hv_ : Fc.holds (.rp (bv) (bw) (bx) (bz) (bA) (bB)) aR aS v_ W_ := hW_.get
  clear hW_
  obtain ⟨ax, a6, ay, az, aA, a7, aB, aC, aD, a8, aE, aF, aG, a9, aH, aI, aJ, aa, aK, aL, aM, ab, aN, aO, rfl, -, -, -, -, -, -⟩ := hv_
  clear W_
  try simp only [Act.put, sa0, sa1, sa2]
  refine wpT_quiet 1 (by rfl) (by kernel_rfl) ?_
  simp only [tk1, tk0, dp1, dp0]
  repeat (go_big_quiet_step (fail))
  refine wpQuiet_nil ?_
  refine wpT_eff (by rfl) (by rfl) (by rfl) ?_ ?_
  · intro W_ hK
    have hW := hK.1
    have bP : RI W_ (iv ax a6 ay az) bv := RP.at1 (hK.2 4 ((pv ax a6 ay az aA a7 aB aC aD a8 aE aF aG a9 aH aI aJ aa aK aL aM ab aN aO), aR, aS) (by rfl) (by kernel_rfl))
    have bQ : RI W_ (iv aA a7 aB aC) bw := RP.at2 (hK.2 4 ((pv ax a6 ay az aA a7 aB aC aD a8 aE aF aG a9 aH aI aJ aa aK aL aM ab aN aO), aR, aS) (by rfl) (by kernel_rfl))
    have bR : RI W_ (iv aD a8 aE aF) bx := RP.at3 (hK.2 4 ((pv ax a6 ay az aA a7 aB aC aD a8 aE aF aG a9 aH aI aJ aa aK aL aM ab aN aO), aR, aS) (by rfl) (by kernel_rfl))
    have bS : RI W_ (iv aG a9 aH aI) bz := RP.at4 (hK.2 4 ((pv ax a6 ay az aA a7 aB aC aD a8 aE aF aG a9 aH aI aJ aa aK aL aM ab aN aO), aR, aS) (by rfl) (by kernel_rfl))
    have bT : RI W_ (iv aJ aa aK aL) bA := RP.at5 (hK.2 4 ((pv ax a6 ay az aA a7 aB aC aD a8 aE aF aG a9 aH aI aJ aa aK aL aM ab aN aO), aR, aS) (by rfl) (by kernel_rfl))
    have bU : RI W_ (iv aM ab aN aO) bB := RP.at6 (hK.2 4 ((pv ax a6 ay az aA a7 aB aC aD a8 aE aF aG a9 aH aI aJ aa aK aL aM ab aN aO), aR, aS) (by rfl) (by kernel_rfl))
    clear hK
    go_simp
    exact ⟨rfl, (xRound_at _ (q0 + (⟨GQ.i (m1) (5), (GQ.i 0 0)⟩ : PQ)) (n0 + 64 + 1) (m1) N2 (-4611686018427387904) _ ⟨_, _, _, _, _, _, RP.mk bP bQ bR bS bT bU, bE, c3, bF, c4⟩ (by omega) (by omega) (by omega) HN2.out HM2.out).mono fun e w' ⟨he, hx⟩ => ⟨_, he, hx, rfl⟩⟩
  intro v_ lo66 hi66 hr_
  obtain ⟨W_, hW_⟩ := hr_
  obtain rfl : v_ = .tuple #[.int .i64 (-4611686018427387904), .int .i64 0] := hW_.get
  clear hW_ W_
  try simp only [Act.put, sa0, sa1, sa2]
  refine wpT_quiet 4 (by rfl) (by kernel_rfl) ?_
  simp only [tk1, tk0, dp1, dp0]
  repeat (go_big_quiet_step (fail))
  refine wpQuiet_nil ?_
  refine wpT_nil ?_
  intro w7 hK
  have hlt_ := hS.lt
  replace hS := hS.mv hK.ext
  replace hS := hS.addI (show RI w7 (iv aW aT aX aY) (m1) from RG.at1 (hK.at_ 2 (e := ((gv aW aT aX aY aZ aU b0 b1 b2 aV b3 b4), b5, b6)) (by rfl)))
  replace hS := hS.addI (show RI w7 (iv aZ aU b0 b1) (5 : Int) from RG.at2 (hK.at_ 2 (e := ((gv aW aT aX aY aZ aU b0 b1 b2 aV b3 b4), b5, b6)) (by rfl)))
  replace hS := hS.addI (show RI w7 (iv b2 aV b3 b4) (1 : Int) from RG.at3 (hK.at_ 2 (e := ((gv aW aT aX aY aZ aU b0 b1 b2 aV b3 b4), b5, b6)) (by rfl)))
  replace hS := hS.addI (show RI w7 (iv ac a0 ad ae) (m1) from RP.at1 (hK.at_ 3 (e := ((pv ac a0 ad ae af a1 ag ah ai a2 aj ak am a3 an ao ap a4 aq ar au a5 av aw), aP, aQ)) (by rfl)))
  replace hS := hS.addI (show RI w7 (iv af a1 ag ah) (5 : Int) from RP.at2 (hK.at_ 3 (e := ((pv ac a0 ad ae af a1 ag ah ai a2 aj ak am a3 an ao ap a4 aq ar au a5 av aw), aP, aQ)) (by rfl)))
  replace hS := hS.addI (show RI w7 (iv ai a2 aj ak) (1 : Int) from RP.at3 (hK.at_ 3 (e := ((pv ac a0 ad ae af a1 ag ah ai a2 aj ak am a3 an ao ap a4 aq ar au a5 av aw), aP, aQ)) (by rfl)))
  replace hS := hS.addI (show RI w7 (iv am a3 an ao) (0 : Int) from RP.at4 (hK.at_ 3 (e := ((pv ac a0 ad ae af a1 ag ah ai a2 aj ak am a3 an ao ap a4 aq ar au a5 av aw), aP, aQ)) (by rfl)))
  replace hS := hS.addI (show RI w7 (iv ap a4 aq ar) (0 : Int) from RP.at5 (hK.at_ 3 (e := ((pv ac a0 ad ae af a1 ag ah ai a2 aj ak am a3 an ao ap a4 aq ar au a5 av aw), aP, aQ)) (by rfl)))
  replace hS := hS.addI (show RI w7 (iv au a5 av aw) (1 : Int) from RP.at6 (hK.at_ 3 (e := ((pv ac a0 ad ae af a1 ag ah ai a2 aj ak am a3 an ao ap a4 aq ar au a5 av aw), aP, aQ)) (by rfl)))
  replace hS := hS.addI (show RI w7 (iv ax a6 ay az) bv from RP.at1 (hK.at_ 4 (e := ((pv ax a6 ay az aA a7 aB aC aD a8 aE aF aG a9 aH aI aJ aa aK aL aM ab aN aO), aR, aS)) (by rfl)))
  replace hS := hS.addI (show RI w7 (iv aA a7 aB aC) bw from RP.at2 (hK.at_ 4 (e := ((pv ax a6 ay az aA a7 aB aC aD a8 aE aF aG a9 aH aI aJ aa aK aL aM ab aN aO), aR, aS)) (by rfl)))
  replace hS := hS.addI (show RI w7 (iv aD a8 aE aF) bx from RP.at3 (hK.at_ 4 (e := ((pv ax a6 ay az aA a7 aB aC aD a8 aE aF aG a9 aH aI aJ aa aK aL aM ab aN aO), aR, aS)) (by rfl)))
  replace hS := hS.addI (show RI w7 (iv aG a9 aH aI) bz from RP.at4 (hK.at_ 4 (e := ((pv ax a6 ay az aA a7 aB aC aD a8 aE aF aG a9 aH aI aJ aa aK aL aM ab aN aO), aR, aS)) (by rfl)))
  replace hS := hS.addI (show RI w7 (iv aJ aa aK aL) bA from RP.at5 (hK.at_ 4 (e := ((pv ax a6 ay az aA a7 aB aC aD a8 aE aF aG a9 aH aI aJ aa aK aL aM ab aN aO), aR, aS)) (by rfl)))
  replace hS := hS.addI (show RI w7 (iv aM ab aN aO) bB from RP.at6 (hK.at_ 4 (e := ((pv ax a6 ay az aA a7 aB aC aD a8 aE aF aG a9 aH aI aJ aa aK aL aM ab aN aO), aR, aS)) (by rfl)))
  clear hK hlt_ hE_ Y2
  go_wp2_with fail
  refine (lxknown_ok _ (tab_ext hTab hS.ext)).mono ?_
  rintro e w8 ⟨rfl, hx_⟩
  replace hS := hS.mv hx_
  clear hx_
  have k_6 := (hS.blk 1 rfl).cell
  go_wp2_with fail
  clear k_6
  refine (rSign_at _ x0d (1) _ (hS.num 18 rfl) (lim_of bC.d (by omega)) (cmpZ_pos bV.low.1)).mono ?_
  rintro e w9 ⟨rfl, hx_⟩
  replace hS := hS.mv hx_
  clear hx_
  go_wp2
  go_ret
  exact ⟨ret_bool (rfl), hS.ext⟩

theorem Rd.more {p : PQ} {r N : Int} (h : Rd p r N) : Rd (p + (⟨GQ.i r 5, GQ.i 0 0⟩ : PQ)) r (N + 1) := by
  obtain ⟨a, b, d, I⟩ := is_ex p.u
  obtain ⟨x, y, z, J⟩ := is_ex p.v
  obtain ⟨a1, b1, d1, I1⟩ := is_ex (p + (⟨GQ.i r 5, GQ.i 0 0⟩ : PQ)).u
  have ev : (p + (⟨GQ.i r 5, GQ.i 0 0⟩ : PQ)).v = p.v := by
    show p.v + GQ.i 0 0 = p.v
    ext <;> simp only [GQ.add_re, GQ.add_im, GQ.i_re, GQ.i_im] <;> grind
  have J1 : Is (p + (⟨GQ.i r 5, GQ.i 0 0⟩ : PQ)).v x y z := by rw [ev]; exact J
  have hd := cast_ne I.dne
  have hd1 := cast_ne I1.dne
  have e : a1 * d = (a + r * d) * d1 := by
    have e1 := I1.re
    have e2 := I.re
    have e3 : (p + (⟨GQ.i r 5, GQ.i 0 0⟩ : PQ)).u.re = p.u.re + (r : Rat) := rfl
    rw [e3, e2] at e1
    have : (a1 : Rat) * d = (a + r * d) * d1 := by grind
    exact_mod_cast this
  refine Rd.of I1 J1 fun k => ?_
  rw [rz_more I.low.1 I1.low.1 e, h a b d x y z I J]
  omega

theorem rounds_any {s0a : Bool} {A0a : Option Addr} {n0a c0a : Nat} {l0a : List Nat} {s0b : Bool} {A0b : Option Addr} {n0b c0b : Nat} {l0b : List Nat} {s0d : Bool} {A0d : Option Addr} {n0d c0d : Nat} {l0d : List Nat} {s1a : Bool} {A1a : Option Addr} {n1a c1a : Nat} {l1a : List Nat} {s1b : Bool} {A1b : Option Addr} {n1b c1b : Nat} {l1b : List Nat} {s1d : Bool} {A1d : Option Addr} {n1d c1d : Nat} {l1d : List Nat} (r : Int) (w : World) (r0 : RawG w s0a A0a n0a c0a l0a s0b A0b n0b c0b l0b s0d A0d n0d c0d l0d) (r1 : RawG w s1a A1a n1a c1a l1a s1b A1b n1b c1b l1b s1d A1d n1d c1d l1d) (hTab : Tab w) (a1 : -9223372036854775808 ≤ r) (a2 : r ≤ 9223372036854775807) :
    Calls Tryz.prog 5 #[pv s0a A0a n0a c0a s0b A0b n0b c0b s0d A0d n0d c0d s1a A1a n1a c1a s1b A1b n1b c1b s1d A1d n1d c1d, .int .i64 r] w fun e w' => e = .returned (.bool true) ∧ Ext w w' := by
  cases hl : [n0a, n0b, n0d, n1a, n1b, n1d].all (fun n => decide (n ≤ 30))
  · exact rounds_large _ _ _ _ _ _ _ _ _ _ _ _ _ _ _ _ _ _ _ _ _ _ _ _ r w a1 a2 hTab (Lib.hid hl)
  have hl' : n0a ≤ 30 ∧ n0b ≤ 30 ∧ n0d ≤ 30 ∧ n1a ≤ 30 ∧ n1b ≤ 30 ∧ n1d ≤ 30 := by simpa using hl
  obtain ⟨k0a, k0b, k0d, k1a, k1b, k1d⟩ := hl'
  obtain ⟨bv, hbv⟩ := r1.vb k1a k1b k1d (by omega)
  rcases r0.cases k0a k0b k0d (by omega) with ⟨qu, h0⟩ | hb
  · rcases r1.cases k1a k1b k1d (by omega) with ⟨qv, h1⟩ | hb
    · by_cases hr1 : r < 1
      · exact rounds_badl _ _ _ _ _ _ _ _ _ _ _ _ _ _ _ _ _ _ _ _ _ _ _ _ r w (h0.vb (by omega)) (h1.vb (by omega)) a1 a2 hTab (Lib.hid hl) (Lib.hid hr1)
      · by_cases hr2 : 10000 < r
        · exact rounds_badh _ _ _ _ _ _ _ _ _ _ _ _ _ _ _ _ _ _ _ _ _ _ _ _ r w (h0.vb (by omega)) (h1.vb (by omega)) a1 a2 hTab (Lib.hid hl) (Lib.hid hr2)
        · obtain ⟨N, hN⟩ := Rd.ex ⟨qu, qv⟩ (r := r) (by omega)
          have hX := PV.of h0 h1
          by_cases hA : clamp (N + 1) = clamp N + 1
          · exact rounds_a _ ⟨qu, qv⟩ (32 * 30) r N (N + 1) (clamp N) w hX a1 a2 (by omega) (by omega) (by omega) hTab (Lib.hid hN) (Lib.hid rfl) (Lib.hid hN.more) (Lib.hid hA) (by unfold clamp; omega) (by unfold clamp; omega)
          · rcases Int.lt_or_le N 0 with hs | hs
            · exact rounds_b _ ⟨qu, qv⟩ (32 * 30) r N (N + 1) w hX a1 a2 (by omega) (by omega) (by omega) hTab (Lib.hid hN) (Lib.hid (by unfold clamp at *; omega)) (Lib.hid hN.more) (Lib.hid (by unfold clamp at *; omega))
            · exact rounds_t _ ⟨qu, qv⟩ (32 * 30) r N (N + 1) w hX a1 a2 (by omega) (by omega) (by omega) hTab (Lib.hid hN) (Lib.hid (by unfold clamp at *; omega)) (Lib.hid hN.more) (Lib.hid (by unfold clamp at *; omega))
    · exact rounds_badv _ _ _ _ _ _ _ _ _ _ _ _ _ _ _ _ _ _ _ _ _ _ _ _ r w (h0.vb (by omega)) hb a1 a2 hTab (Lib.hid hl)
  · exact rounds_badu _ _ _ _ _ _ _ _ _ _ _ _ _ _ _ _ _ _ _ _ _ _ _ _ r bv w hb hbv a1 a2 hTab (Lib.hid hl)
end Go.Proofs.YtjeijmnhbckjdaaGreatDoor
