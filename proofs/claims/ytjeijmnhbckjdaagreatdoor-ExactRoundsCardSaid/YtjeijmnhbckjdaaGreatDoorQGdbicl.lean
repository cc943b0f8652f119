/- Numbers that are not valid: the program says so. -/
import Derived.Test.YtjeijmnhbckjdaaGreatDoorQGcghbc
import Derived.Test.YtjeijmnhbckjdaaGreatDoorQNGebol
namespace Go.Proofs.YtjeijmnhbckjdaaGreatDoor
open Go.RowKit
set_option linter.unusedVariables false

set_option maxRecDepth 100000 in
set_option maxHeartbeats 1600000 in
theorem xRound_bad (a0 : Bool) (a1 : Option Addr) (a2 a3 : Nat) (a4 : Bool) (a5 : Option Addr) (a6 a7 : Nat) (a8 : Bool) (a9 : Option Addr) (aa ab : Nat) (ac : Bool) (ad : Option Addr) (ae af : Nat) (ag : Bool) (ah : Option Addr) (ai aj : Nat) (ak : Bool) (am : Option Addr) (an ao : Nat) (b0u : Bool) (b0v : Bool) (m1 : Int) (w : World) (hV0u : VB w (gv a0 a1 a2 a3 a4 a5 a6 a7 a8 a9 aa ab) b0u) (hV0v : VB w (gv ac ad ae af ag ah ai aj ak am an ao) b0v) (l1 : -9223372036854775808 ≤ m1) (u1 : m1 ≤ 9223372036854775807) (Hb : Hid ([b0u, b0v].all id = false))
      :
    Calls Tryz.prog 22 #[pv a0 a1 a2 a3 a4 a5 a6 a7 a8 a9 aa ab ac ad ae af ag ah ai aj ak am an ao, .int .i64 m1] w fun e w' => e = .returned (.tuple #[.int .i64 0, .int .i64 1]) ∧ Ext w w' := by
  have hS := St.start w
  have o2 : Own w w.heap.size := Own.of hS.ext (by simp)
  have ap := (St.al hS 37 #[.bool a0, .slice a1 a2 a3, .bool a4, .slice a5 a6 a7, .bool a8, .slice a9 aa ab, .bool ac, .slice ad ae af, .bool ag, .slice ah ai aj, .bool ak, .slice am an ao] (g := w.heap.size) (by simp))
  have k_1 := (ap.blk 0 rfl).cell
  have o22 : Own w (w.heap.size + 1) := Own.of hS.ext (by simp)
  go_enter Tryz.func22, Tryz.ntmps22
  go_wp2_with fail
  clear k_1
  clear ap
  replace hS := (St.al (St.al hS 37 #[.bool a0, .slice a1 a2 a3, .bool a4, .slice a5 a6 a7, .bool a8, .slice a9 aa ab, .bool ac, .slice ad ae af, .bool ag, .slice ah ai aj, .bool ak, .slice am an ao] (g := w.heap.size) (by simp)) 26 #[.bool a0, .slice a1 a2 a3, .bool a4, .slice a5 a6 a7, .bool a8, .slice a9 aa ab, .bool ac, .slice ad ae af, .bool ag, .slice ah ai aj, .bool ak, .slice am an ao] (g := (w.heap.size + 1)) (by simp))
  generalize ((w.alloc (.cells #[.bool a0, .slice a1 a2 a3, .bool a4, .slice a5 a6 a7, .bool a8, .slice a9 aa ab, .bool ac, .slice ad ae af, .bool ag, .slice ah ai aj, .bool ak, .slice am an ao] 37)).alloc (.cells #[.bool a0, .slice a1 a2 a3, .bool a4, .slice a5 a6 a7, .bool a8, .slice a9 aa ab, .bool ac, .slice ad ae af, .bool ag, .slice ah ai aj, .bool ak, .slice am an ao] 26)) = w1 at hS ⊢
  generalize w.heap.size + 1 = g22 at hS o22 ⊢
  generalize w.heap.size = g2 at hS o2 ⊢
  refine (xvalid2_raw g22 b0u b0v false _ (hS.blk 0 rfl) (hV0u.ext hS.ext) (hV0v.ext hS.ext) Hb.out).mono ?_
  rintro e w2 ⟨rfl, hx_⟩
  replace hS := hS.mv hx_
  clear hx_
  go_wp2
  go_ret2
  exact ⟨rfl, hS.ext⟩

set_option maxRecDepth 100000 in
set_option maxHeartbeats 1600000 in
theorem xRound_badl (a0 : Bool) (a1 : Option Addr) (a2 a3 : Nat) (a4 : Bool) (a5 : Option Addr) (a6 a7 : Nat) (a8 : Bool) (a9 : Option Addr) (aa ab : Nat) (ac : Bool) (ad : Option Addr) (ae af : Nat) (ag : Bool) (ah : Option Addr) (ai aj : Nat) (ak : Bool) (am : Option Addr) (an ao : Nat) (b0u : Bool) (b0v : Bool) (m1 : Int) (w : World) (hV0u : VB w (gv a0 a1 a2 a3 a4 a5 a6 a7 a8 a9 aa ab) b0u) (hV0v : VB w (gv ac ad ae af ag ah ai aj ak am an ao) b0v) (l1 : -9223372036854775808 ≤ m1) (u1 : m1 ≤ 9223372036854775807) (Hb : Hid ([b0u, b0v].all id = true)) (Hr : Hid (m1 < 1))
      :
    Calls Tryz.prog 22 #[pv a0 a1 a2 a3 a4 a5 a6 a7 a8 a9 aa ab ac ad ae af ag ah ai aj ak am an ao, .int .i64 m1] w fun e w' => e = .returned (.tuple #[.int .i64 0, .int .i64 1]) ∧ Ext w w' := by
  have hS := St.start w
  have t1 : decide (m1 < 1) = true := by have := Hr.out; simp; omega
  have o2 : Own w w.heap.size := Own.of hS.ext (by simp)
  have ap := (St.al hS 37 #[.bool a0, .slice a1 a2 a3, .bool a4, .slice a5 a6 a7, .bool a8, .slice a9 aa ab, .bool ac, .slice ad ae af, .bool ag, .slice ah ai aj, .bool ak, .slice am an ao] (g := w.heap.size) (by simp))
  have k_1 := (ap.blk 0 rfl).cell
  have o22 : Own w (w.heap.size + 1) := Own.of hS.ext (by simp)
  go_enter Tryz.func22, Tryz.ntmps22
  go_wp2_with fail
  clear k_1
  clear ap
  replace hS := (St.al (St.al hS 37 #[.bool a0, .slice a1 a2 a3, .bool a4, .slice a5 a6 a7, .bool a8, .slice a9 aa ab, .bool ac, .slice ad ae af, .bool ag, .slice ah ai aj, .bool ak, .slice am an ao] (g := w.heap.size) (by simp)) 26 #[.bool a0, .slice a1 a2 a3, .bool a4, .slice a5 a6 a7, .bool a8, .slice a9 aa ab, .bool ac, .slice ad ae af, .bool ag, .slice ah ai aj, .bool ak, .slice am an ao] (g := (w.heap.size + 1)) (by simp))
  generalize ((w.alloc (.cells #[.bool a0, .slice a1 a2 a3, .bool a4, .slice a5 a6 a7, .bool a8, .slice a9 aa ab, .bool ac, .slice ad ae af, .bool ag, .slice ah ai aj, .bool ak, .slice am an ao] 37)).alloc (.cells #[.bool a0, .slice a1 a2 a3, .bool a4, .slice a5 a6 a7, .bool a8, .slice a9 aa ab, .bool ac, .slice ad ae af, .bool ag, .slice ah ai aj, .bool ak, .slice am an ao] 26)) = w1 at hS ⊢
  generalize w.heap.size + 1 = g22 at hS o22 ⊢
  generalize w.heap.size = g2 at hS o2 ⊢
  refine (xvalid2_raw g22 b0u b0v true _ (hS.blk 0 rfl) (hV0u.ext hS.ext) (hV0v.ext hS.ext) Hb.out).mono ?_
  rintro e w2 ⟨rfl, hx_⟩
  replace hS := hS.mv hx_
  clear hx_
  go_wp2
  go_ret2
  exact ⟨rfl, hS.ext⟩

set_option maxRecDepth 100000 in
set_option maxHeartbeats 1600000 in
theorem xRound_badu (a0 : Bool) (a1 : Option Addr) (a2 a3 : Nat) (a4 : Bool) (a5 : Option Addr) (a6 a7 : Nat) (a8 : Bool) (a9 : Option Addr) (aa ab : Nat) (ac : Bool) (ad : Option Addr) (ae af : Nat) (ag : Bool) (ah : Option Addr) (ai aj : Nat) (ak : Bool) (am : Option Addr) (an ao : Nat) (b0u : Bool) (b0v : Bool) (m1 : Int) (w : World) (hV0u : VB w (gv a0 a1 a2 a3 a4 a5 a6 a7 a8 a9 aa ab) b0u) (hV0v : VB w (gv ac ad ae af ag ah ai aj ak am an ao) b0v) (l1 : -9223372036854775808 ≤ m1) (u1 : m1 ≤ 9223372036854775807) (Hb : Hid ([b0u, b0v].all id = true)) (Hr : Hid (10000 < m1))
      :
    Calls Tryz.prog 22 #[pv a0 a1 a2 a3 a4 a5 a6 a7 a8 a9 aa ab ac ad ae af ag ah ai aj ak am an ao, .int .i64 m1] w fun e w' => e = .returned (.tuple #[.int .i64 0, .int .i64 1]) ∧ Ext w w' := by
  have hS := St.start w
  have t1 : decide (m1 < 1) = false := by have := Hr.out; simp; omega
  have t2 : decide ((10000 : Int) < m1) = true := by have := Hr.out; simp; omega
  have o2 : Own w w.heap.size := Own.of hS.ext (by simp)
  have ap := (St.al hS 37 #[.bool a0, .slice a1 a2 a3, .bool a4, .slice a5 a6 a7, .bool a8, .slice a9 aa ab, .bool ac, .slice ad ae af, .bool ag, .slice ah ai aj, .bool ak, .slice am an ao] (g := w.heap.size) (by simp))
  have k_1 := (ap.blk 0 rfl).cell
  have o22 : Own w (w.heap.size + 1) := Own.of hS.ext (by simp)
  go_enter Tryz.func22, Tryz.ntmps22
  go_wp2_with fail
  clear k_1
  clear ap
  replace hS := (St.al (St.al hS 37 #[.bool a0, .slice a1 a2 a3, .bool a4, .slice a5 a6 a7, .bool a8, .slice a9 aa ab, .bool ac, .slice ad ae af, .bool ag, .slice ah ai aj, .bool ak, .slice am an ao] (g := w.heap.size) (by simp)) 26 #[.bool a0, .slice a1 a2 a3, .bool a4, .slice a5 a6 a7, .bool a8, .slice a9 aa ab, .bool ac, .slice ad ae af, .bool ag, .slice ah ai aj, .bool ak, .slice am an ao] (g := (w.heap.size + 1)) (by simp))
  generalize ((w.alloc (.cells #[.bool a0, .slice a1 a2 a3, .bool a4, .slice a5 a6 a7, .bool a8, .slice a9 aa ab, .bool ac, .slice ad ae af, .bool ag, .slice ah ai aj, .bool ak, .slice am an ao] 37)).alloc (.cells #[.bool a0, .slice a1 a2 a3, .bool a4, .slice a5 a6 a7, .bool a8, .slice a9 aa ab, .bool ac, .slice ad ae af, .bool ag, .slice ah ai aj, .bool ak, .slice am an ao] 26)) = w1 at hS ⊢
  generalize w.heap.size + 1 = g22 at hS o22 ⊢
  generalize w.heap.size = g2 at hS o2 ⊢
  refine (xvalid2_raw g22 b0u b0v true _ (hS.blk 0 rfl) (hV0u.ext hS.ext) (hV0v.ext hS.ext) Hb.out).mono ?_
  rintro e w2 ⟨rfl, hx_⟩
  replace hS := hS.mv hx_
  clear hx_
  go_wp2
  go_ret2
  exact ⟨rfl, hS.ext⟩

end Go.Proofs.YtjeijmnhbckjdaaGreatDoor
