/- Numbers that are not valid: the program says so. -/
import Derived.Test.YtjeijmnhbckjdaaGreatDoorQGcjbhm
import Derived.Test.YtjeijmnhbckjdaaGreatDoorQNGiaom
namespace Go.Proofs.YtjeijmnhbckjdaaGreatDoor
open Go.RowKit
set_option linter.unusedVariables false

set_option maxRecDepth 100000 in
set_option maxHeartbeats 1600000 in
theorem xAdd_bad (a0 : Bool) (a1 : Option Addr) (a2 a3 : Nat) (a4 : Bool) (a5 : Option Addr) (a6 a7 : Nat) (a8 : Bool) (a9 : Option Addr) (aa ab : Nat) (b0 : Bool) (ac : Bool) (ad : Option Addr) (ae af : Nat) (ag : Bool) (ah : Option Addr) (ai aj : Nat) (ak : Bool) (am : Option Addr) (an ao : Nat) (b1 : Bool) (w : World) (hV0 : VB w (gv a0 a1 a2 a3 a4 a5 a6 a7 a8 a9 aa ab) b0) (hV1 : VB w (gv ac ad ae af ag ah ai aj ak am an ao) b1) (Hb : Hid ([b0, b1].all id = false))
      :
    Calls Tryz.prog 36 #[gv a0 a1 a2 a3 a4 a5 a6 a7 a8 a9 aa ab, gv ac ad ae af ag ah ai aj ak am an ao] w fun e w' => ∃ v, e = .returned v ∧ (∃ u, v = .tuple #[u, .int .i64 1] ∧ RG w' u 0 0 0) ∧ Ext w w' := by
  have hS := St.start w
  have o2 : Own w w.heap.size := Own.of hS.ext (by simp)
  have o3 : Own w (w.heap.size + 1) := Own.of hS.ext (by simp)
  have o4 : Own w (w.heap.size + 2) := Own.of hS.ext (by simp)
  have ap := (St.al (St.al (St.al hS 26 #[.bool a0, .slice a1 a2 a3, .bool a4, .slice a5 a6 a7, .bool a8, .slice a9 aa ab] (g := w.heap.size) (by simp)) 26 #[.bool ac, .slice ad ae af, .bool ag, .slice ah ai aj, .bool ak, .slice am an ao] (g := (w.heap.size + 1)) (by simp)) 26 #[.bool false, .slice none 0 0, .bool false, .slice none 0 0, .bool false, .slice none 0 0] (g := (w.heap.size + 2)) (by simp))
  have k_1 := (ap.blk 2 rfl).cell
  have k_2 := (ap.blk 1 rfl).cell
  have o9 : Own w (w.heap.size + 3) := Own.of hS.ext (by simp)
  go_enter Tryz.func36, Tryz.ntmps36
  go_wp2_with fail
  clear k_1 k_2
  clear ap
  replace hS := (St.al (St.al (St.al (St.al hS 26 #[.bool a0, .slice a1 a2 a3, .bool a4, .slice a5 a6 a7, .bool a8, .slice a9 aa ab] (g := w.heap.size) (by simp)) 26 #[.bool ac, .slice ad ae af, .bool ag, .slice ah ai aj, .bool ak, .slice am an ao] (g := (w.heap.size + 1)) (by simp)) 26 #[.bool false, .slice none 0 0, .bool false, .slice none 0 0, .bool false, .slice none 0 0] (g := (w.heap.size + 2)) (by simp)) 26 #[.bool a0, .slice a1 a2 a3, .bool a4, .slice a5 a6 a7, .bool a8, .slice a9 aa ab, .bool ac, .slice ad ae af, .bool ag, .slice ah ai aj, .bool ak, .slice am an ao] (g := (w.heap.size + 3)) (by simp))
  generalize ((((w.alloc (.cells #[.bool a0, .slice a1 a2 a3, .bool a4, .slice a5 a6 a7, .bool a8, .slice a9 aa ab] 26)).alloc (.cells #[.bool ac, .slice ad ae af, .bool ag, .slice ah ai aj, .bool ak, .slice am an ao] 26)).alloc (.cells #[.bool false, .slice none 0 0, .bool false, .slice none 0 0, .bool false, .slice none 0 0] 26)).alloc (.cells #[.bool a0, .slice a1 a2 a3, .bool a4, .slice a5 a6 a7, .bool a8, .slice a9 aa ab, .bool ac, .slice ad ae af, .bool ag, .slice ah ai aj, .bool ak, .slice am an ao] 26)) = w1 at hS ⊢
  generalize w.heap.size + 3 = g9 at hS o9 ⊢
  generalize w.heap.size + 2 = g4 at hS o4 ⊢
  generalize w.heap.size + 1 = g3 at hS o3 ⊢
  generalize w.heap.size = g2 at hS o2 ⊢
  refine (xvalid2_raw g9 b0 b1 false _ (hS.blk 0 rfl) (hV0.ext hS.ext) (hV1.ext hS.ext) Hb.out).mono ?_
  rintro e w2 ⟨rfl, hx_⟩
  replace hS := hS.mv hx_
  clear hx_
  have k_3 := (hS.blk 1 rfl).cell
  have k_4 := (hS.blk 1 rfl).frozen
  go_wp2
  replace hS := (St.put (W' := ((((((w2.setCell ⟨g4, 0, none⟩ (.bool false)).setCell ⟨g4, 1, none⟩ (.slice none 0 0)).setCell ⟨g4, 2, none⟩ (.bool false)).setCell ⟨g4, 3, none⟩ (.slice none 0 0)).setCell ⟨g4, 4, none⟩ (.bool false)).setCell ⟨g4, 5, none⟩ (.slice none 0 0))) hS 1 0 [.bool false, .slice none 0 0, .bool false, .slice none 0 0, .bool false, .slice none 0 0] (cs' := #[.bool false, .slice none 0 0, .bool false, .slice none 0 0, .bool false, .slice none 0 0]) (bs' := _) rfl o4 rfl rfl (by kernel_rfl) rfl)
  exact bp_gauss2 rfl rfl rfl (hS.blk 1 rfl) ⟨_, rfl, ⟨_, rfl, RG.mk (RI.zero _) (RI.zero _) (RI.zero _)⟩, hS.ext⟩

set_option maxRecDepth 100000 in
set_option maxHeartbeats 1600000 in
theorem xTurn_bad (a0 : Bool) (a1 : Option Addr) (a2 a3 : Nat) (a4 : Bool) (a5 : Option Addr) (a6 a7 : Nat) (a8 : Bool) (a9 : Option Addr) (aa ab : Nat) (ac : Bool) (ad : Option Addr) (ae af : Nat) (ag : Bool) (ah : Option Addr) (ai aj : Nat) (ak : Bool) (am : Option Addr) (an ao : Nat) (b0u : Bool) (b0v : Bool) (m1 : Int) (w : World) (hV0u : VB w (gv a0 a1 a2 a3 a4 a5 a6 a7 a8 a9 aa ab) b0u) (hV0v : VB w (gv ac ad ae af ag ah ai aj ak am an ao) b0v) (l1 : -9223372036854775808 ≤ m1) (u1 : m1 ≤ 9223372036854775807) (Hb : Hid ([b0u, b0v].all id = false))
      :
    Calls Tryz.prog 19 #[pv a0 a1 a2 a3 a4 a5 a6 a7 a8 a9 aa ab ac ad ae af ag ah ai aj ak am an ao, .int .i64 m1] w fun e w' => ∃ v, e = .returned v ∧ (∃ u, v = .tuple #[u, .int .i64 1] ∧ RP w' u 0 0 0 0 0 0) ∧ Ext w w' := by
  have hS := St.start w
  have o2 : Own w w.heap.size := Own.of hS.ext (by simp)
  have o4 : Own w (w.heap.size + 1) := Own.of hS.ext (by simp)
  have ap := (St.al (St.al hS 37 #[.bool a0, .slice a1 a2 a3, .bool a4, .slice a5 a6 a7, .bool a8, .slice a9 aa ab, .bool ac, .slice ad ae af, .bool ag, .slice ah ai aj, .bool ak, .slice am an ao] (g := w.heap.size) (by simp)) 37 #[.bool false, .slice none 0 0, .bool false, .slice none 0 0, .bool false, .slice none 0 0, .bool false, .slice none 0 0, .bool false, .slice none 0 0, .bool false, .slice none 0 0] (g := (w.heap.size + 1)) (by simp))
  have k_1 := (ap.blk 1 rfl).cell
  have o13 : Own w (w.heap.size + 2) := Own.of hS.ext (by simp)
  go_enter Tryz.func19, Tryz.ntmps19
  go_wp2_with fail
  clear k_1
  clear ap
  replace hS := (St.al (St.al (St.al hS 37 #[.bool a0, .slice a1 a2 a3, .bool a4, .slice a5 a6 a7, .bool a8, .slice a9 aa ab, .bool ac, .slice ad ae af, .bool ag, .slice ah ai aj, .bool ak, .slice am an ao] (g := w.heap.size) (by simp)) 37 #[.bool false, .slice none 0 0, .bool false, .slice none 0 0, .bool false, .slice none 0 0, .bool false, .slice none 0 0, .bool false, .slice none 0 0, .bool false, .slice none 0 0] (g := (w.heap.size + 1)) (by simp)) 26 #[.bool a0, .slice a1 a2 a3, .bool a4, .slice a5 a6 a7, .bool a8, .slice a9 aa ab, .bool ac, .slice ad ae af, .bool ag, .slice ah ai aj, .bool ak, .slice am an ao] (g := (w.heap.size + 2)) (by simp))
  generalize (((w.alloc (.cells #[.bool a0, .slice a1 a2 a3, .bool a4, .slice a5 a6 a7, .bool a8, .slice a9 aa ab, .bool ac, .slice ad ae af, .bool ag, .slice ah ai aj, .bool ak, .slice am an ao] 37)).alloc (.cells #[.bool false, .slice none 0 0, .bool false, .slice none 0 0, .bool false, .slice none 0 0, .bool false, .slice none 0 0, .bool false, .slice none 0 0, .bool false, .slice none 0 0] 37)).alloc (.cells #[.bool a0, .slice a1 a2 a3, .bool a4, .slice a5 a6 a7, .bool a8, .slice a9 aa ab, .bool ac, .slice ad ae af, .bool ag, .slice ah ai aj, .bool ak, .slice am an ao] 26)) = w1 at hS ⊢
  generalize w.heap.size + 2 = g13 at hS o13 ⊢
  generalize w.heap.size + 1 = g4 at hS o4 ⊢
  generalize w.heap.size = g2 at hS o2 ⊢
  refine (xvalid2_raw g13 b0u b0v false _ (hS.blk 0 rfl) (hV0u.ext hS.ext) (hV0v.ext hS.ext) Hb.out).mono ?_
  rintro e w2 ⟨rfl, hx_⟩
  replace hS := hS.mv hx_
  clear hx_
  have k_2 := (hS.blk 1 rfl).cell
  have k_3 := (hS.blk 1 rfl).frozen
  go_wp2
  replace hS := (St.put (W' := ((((((((((((w2.setCell ⟨g4, 0, none⟩ (.bool false)).setCell ⟨g4, 1, none⟩ (.slice none 0 0)).setCell ⟨g4, 2, none⟩ (.bool false)).setCell ⟨g4, 3, none⟩ (.slice none 0 0)).setCell ⟨g4, 4, none⟩ (.bool false)).setCell ⟨g4, 5, none⟩ (.slice none 0 0)).setCell ⟨g4, 6, none⟩ (.bool false)).setCell ⟨g4, 7, none⟩ (.slice none 0 0)).setCell ⟨g4, 8, none⟩ (.bool false)).setCell ⟨g4, 9, none⟩ (.slice none 0 0)).setCell ⟨g4, 10, none⟩ (.bool false)).setCell ⟨g4, 11, none⟩ (.slice none 0 0))) hS 1 0 [.bool false, .slice none 0 0, .bool false, .slice none 0 0, .bool false, .slice none 0 0, .bool false, .slice none 0 0, .bool false, .slice none 0 0, .bool false, .slice none 0 0] (cs' := #[.bool false, .slice none 0 0, .bool false, .slice none 0 0, .bool false, .slice none 0 0, .bool false, .slice none 0 0, .bool false, .slice none 0 0, .bool false, .slice none 0 0]) (bs' := _) rfl o4 rfl rfl (by kernel_rfl) rfl)
  exact bp_phasor2 rfl rfl rfl (hS.blk 1 rfl) ⟨_, rfl, ⟨_, rfl, RP.mk (RI.zero _) (RI.zero _) (RI.zero _) (RI.zero _) (RI.zero _) (RI.zero _)⟩, hS.ext⟩

set_option maxRecDepth 100000 in
set_option maxHeartbeats 1600000 in
theorem xRound_badl (a0 : Bool) (a1 : Option Addr) (a2 a3 : Nat) (a4 : Bool) (a5 : Option Addr) (a6 a7 : Nat) (a8 : Bool) (a9 : Option Addr) (aa ab : Nat) (ac : Bool) (ad : Option Addr) (ae af : Nat) (ag : Bool) (ah : Option Addr) (ai aj : Nat) (ak : Bool) (am : Option Addr) (an ao : Nat) (b0u : Bool) (b0v : Bool) (m1 : Int) (w : World) (hV0u : VB w (gv a0 a1 a2 a3 a4 a5 a6 a7 a8 a9 aa ab) b0u) (hV0v : VB w (gv ac ad ae af ag ah ai aj ak am an ao) b0v) (l1 : -9223372036854775808 ≤ m1) (u1 : m1 ≤ 9223372036854775807) (Hb : Hid ([b0u, b0v].all id = true)) (Hr : Hid (m1 < 1))
      :
    Calls Tryz.prog 22 #[pv a0 a1 a2 a3 a4 a5 a6 a7 a8 a9 aa ab ac ad ae af ag ah ai aj ak am an ao, .int .i64 m1] w fun e w' => e = .returned (.tuple #[.int .i64 0, .int .i64 1]) ∧ Ext w w' := by
  have hS := St.start w
  have t1 : decide (m1 < 1) = true := by have := Hr.out; simp; omega
  have o2 : Own w w.heap.size := Own.of hS.ext (by simp)
  have ap := (St.al hS 37 #[.bool a0, .slice a1 a2 a3, .bool a4, .slice a5 a6 a7, .bool a8, .slice a9 aa ab, .bool ac, .slice ad ae af, .bool ag, .slice ah ai aj, .bool ak, .slice am an ao] (g := w.heap.size) (by simp))
  have k_1 := (ap.blk 0 rfl).cell
  have o22 : Own w (w.heap.size + 1) := Own.of hS.ext (by simp)
  go_enter Tryz.func22, Tryz.ntmps22
  go_wp2_with fail
  clear k_1
  clear ap
  replace hS := (St.al (St.al hS 37 #[.bool a0, .slice a1 a2 a3, .bool a4, .slice a5 a6 a7, .bool a8, .slice a9 aa ab, .bool ac, .slice ad ae af, .bool ag, .slice ah ai aj, .bool ak, .slice am an ao] (g := w.heap.size) (by simp)) 26 #[.bool a0, .slice a1 a2 a3, .bool a4, .slice a5 a6 a7, .bool a8, .slice a9 aa ab, .bool ac, .slice ad ae af, .bool ag, .slice ah ai aj, .bool ak, .slice am an ao] (g := (w.heap.size + 1)) (by simp))
  generalize ((w.alloc (.cells #[.bool a0, .slice a1 a2 a3, .bool a4, .slice a5 a6 a7, .bool a8, .slice a9 aa ab, .bool ac, .slice ad ae af, .bool ag, .slice ah ai aj, .bool ak, .slice am an ao] 37)).alloc (.cells #[.bool a0, .slice a1 a2 a3, .bool a4, .slice a5 a6 a7, .bool a8, .slice a9 aa ab, .bool ac, .slice ad ae af, .bool ag, .slice ah ai aj, .bool ak, .slice am an ao] 26)) = w1 at hS ⊢
  generalize w.heap.size + 1 = g22 at hS o22 ⊢
  generalize w.heap.size = g2 at hS o2 ⊢
  refine (xvalid2_raw g22 b0u b0v true _ (hS.blk 0 rfl) (hV0u.ext hS.ext) (hV0v.ext hS.ext) Hb.out).mono ?_
  rintro e w2 ⟨rfl, hx_⟩
  replace hS := hS.mv hx_
  clear hx_
  go_wp2
  go_ret2
  exact ⟨rfl, hS.ext⟩

set_option maxRecDepth 100000 in
set_option maxHeartbeats 800000 in
theorem eOf_bad (m0 : Int) (m1 : Int) (w : World) (l0 : -9223372036854775808 ≤ m0) (u0 : m0 ≤ 9223372036854775807) (l1 : -9223372036854775808 ≤ m1) (u1 : m1 ≤ 9223372036854775807)
      :
    Calls Tryz.prog 11 #[.int .i64 m0, .int .i64 m1, .int .i64 (0)] w fun e w' => ∃ v, e = .returned v ∧ (∃ u, v = .tuple #[u, .int .i64 21] ∧ RG w' u 0 0 0) ∧ Ext w w' := by
  have hS := St.start w
  have o6 : Own w w.heap.size := Own.of hS.ext (by simp)
  have hT1 := (St.al hS 26 #[.bool false, .slice none 0 0, .bool false, .slice none 0 0, .bool false, .slice none 0 0] (g := w.heap.size) (by simp))
  have k_1 := (hT1.blk 0 rfl).cell
  have k_2 := (hT1.blk 0 rfl).frozen
  go_enter Tryz.func11, Tryz.ntmps11
  go_wp2
  replace hS := (St.al hS 26 #[.bool false, .slice none 0 0, .bool false, .slice none 0 0, .bool false, .slice none 0 0] (g := w.heap.size) (by simp))
  exact bp_gauss2 rfl rfl rfl (hS.blk 0 rfl) ⟨_, rfl, ⟨_, rfl, RG.mk (RI.zero _) (RI.zero _) (RI.zero _)⟩, hS.ext⟩

end Go.Proofs.YtjeijmnhbckjdaaGreatDoor
