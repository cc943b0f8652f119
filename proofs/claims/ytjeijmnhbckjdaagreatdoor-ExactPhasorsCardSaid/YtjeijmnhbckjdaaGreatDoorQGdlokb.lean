/- Numbers that are not valid: the program says so. -/
import Derived.Test.YtjeijmnhbckjdaaGreatDoorQGcdplf
import Derived.Test.YtjeijmnhbckjdaaGreatDoorQNGgleb
namespace Go.Proofs.YtjeijmnhbckjdaaGreatDoor
open Go.RowKit
set_option linter.unusedVariables false

set_option maxRecDepth 100000 in
set_option maxHeartbeats 1600000 in
theorem xSum_bad (a0 : Bool) (a1 : Option Addr) (a2 a3 : Nat) (a4 : Bool) (a5 : Option Addr) (a6 a7 : Nat) (a8 : Bool) (a9 : Option Addr) (aa ab : Nat) (ac : Bool) (ad : Option Addr) (ae af : Nat) (ag : Bool) (ah : Option Addr) (ai aj : Nat) (ak : Bool) (am : Option Addr) (an ao : Nat) (b0u : Bool) (b0v : Bool) (ap : Bool) (aq : Option Addr) (ar au : Nat) (av : Bool) (aw : Option Addr) (ax ay : Nat) (az : Bool) (aA : Option Addr) (aB aC : Nat) (aD : Bool) (aE : Option Addr) (aF aG : Nat) (aH : Bool) (aI : Option Addr) (aJ aK : Nat) (aL : Bool) (aM : Option Addr) (aN aO : Nat) (b1u : Bool) (b1v : Bool) (w : World) (hV0u : VB w (gv a0 a1 a2 a3 a4 a5 a6 a7 a8 a9 aa ab) b0u) (hV0v : VB w (gv ac ad ae af ag ah ai aj ak am an ao) b0v) (hV1u : VB w (gv ap aq ar au av aw ax ay az aA aB aC) b1u) (hV1v : VB w (gv aD aE aF aG aH aI aJ aK aL aM aN aO) b1v) (Hb : Hid ([b0u, b0v, b1u, b1v].all id = false))
      :
    Calls Tryz.prog 31 #[pv a0 a1 a2 a3 a4 a5 a6 a7 a8 a9 aa ab ac ad ae af ag ah ai aj ak am an ao, pv ap aq ar au av aw ax ay az aA aB aC aD aE aF aG aH aI aJ aK aL aM aN aO] w fun e w' => ∃ v, e = .returned v ∧ (∃ u, v = .tuple #[u, .int .i64 1] ∧ RP w' u 0 0 0 0 0 0) ∧ Ext w w' := by
  have hS := St.start w
  have o2 : Own w w.heap.size := Own.of hS.ext (by simp)
  have o3 : Own w (w.heap.size + 1) := Own.of hS.ext (by simp)
  have o4 : Own w (w.heap.size + 2) := Own.of hS.ext (by simp)
  have aP := (St.al (St.al (St.al hS 37 #[.bool a0, .slice a1 a2 a3, .bool a4, .slice a5 a6 a7, .bool a8, .slice a9 aa ab, .bool ac, .slice ad ae af, .bool ag, .slice ah ai aj, .bool ak, .slice am an ao] (g := w.heap.size) (by simp)) 37 #[.bool ap, .slice aq ar au, .bool av, .slice aw ax ay, .bool az, .slice aA aB aC, .bool aD, .slice aE aF aG, .bool aH, .slice aI aJ aK, .bool aL, .slice aM aN aO] (g := (w.heap.size + 1)) (by simp)) 37 #[.bool false, .slice none 0 0, .bool false, .slice none 0 0, .bool false, .slice none 0 0, .bool false, .slice none 0 0, .bool false, .slice none 0 0, .bool false, .slice none 0 0] (g := (w.heap.size + 2)) (by simp))
  have k_1 := (aP.blk 2 rfl).cell
  have k_2 := (aP.blk 1 rfl).cell
  have o15 : Own w (w.heap.size + 3) := Own.of hS.ext (by simp)
  go_enter Tryz.func31, Tryz.ntmps31
  go_wp2_with fail
  clear k_1 k_2
  clear aP
  replace hS := (St.al (St.al (St.al (St.al hS 37 #[.bool a0, .slice a1 a2 a3, .bool a4, .slice a5 a6 a7, .bool a8, .slice a9 aa ab, .bool ac, .slice ad ae af, .bool ag, .slice ah ai aj, .bool ak, .slice am an ao] (g := w.heap.size) (by simp)) 37 #[.bool ap, .slice aq ar au, .bool av, .slice aw ax ay, .bool az, .slice aA aB aC, .bool aD, .slice aE aF aG, .bool aH, .slice aI aJ aK, .bool aL, .slice aM aN aO] (g := (w.heap.size + 1)) (by simp)) 37 #[.bool false, .slice none 0 0, .bool false, .slice none 0 0, .bool false, .slice none 0 0, .bool false, .slice none 0 0, .bool false, .slice none 0 0, .bool false, .slice none 0 0] (g := (w.heap.size + 2)) (by simp)) 26 #[.bool a0, .slice a1 a2 a3, .bool a4, .slice a5 a6 a7, .bool a8, .slice a9 aa ab, .bool ac, .slice ad ae af, .bool ag, .slice ah ai aj, .bool ak, .slice am an ao, .bool ap, .slice aq ar au, .bool av, .slice aw ax ay, .bool az, .slice aA aB aC, .bool aD, .slice aE aF aG, .bool aH, .slice aI aJ aK, .bool aL, .slice aM aN aO] (g := (w.heap.size + 3)) (by simp))
  generalize ((((w.alloc (.cells #[.bool a0, .slice a1 a2 a3, .bool a4, .slice a5 a6 a7, .bool a8, .slice a9 aa ab, .bool ac, .slice ad ae af, .bool ag, .slice ah ai aj, .bool ak, .slice am an ao] 37)).alloc (.cells #[.bool ap, .slice aq ar au, .bool av, .slice aw ax ay, .bool az, .slice aA aB aC, .bool aD, .slice aE aF aG, .bool aH, .slice aI aJ aK, .bool aL, .slice aM aN aO] 37)).alloc (.cells #[.bool false, .slice none 0 0, .bool false, .slice none 0 0, .bool false, .slice none 0 0, .bool false, .slice none 0 0, .bool false, .slice none 0 0, .bool false, .slice none 0 0] 37)).alloc (.cells #[.bool a0, .slice a1 a2 a3, .bool a4, .slice a5 a6 a7, .bool a8, .slice a9 aa ab, .bool ac, .slice ad ae af, .bool ag, .slice ah ai aj, .bool ak, .slice am an ao, .bool ap, .slice aq ar au, .bool av, .slice aw ax ay, .bool az, .slice aA aB aC, .bool aD, .slice aE aF aG, .bool aH, .slice aI aJ aK, .bool aL, .slice aM aN aO] 26)) = w1 at hS ⊢
  generalize w.heap.size + 3 = g15 at hS o15 ⊢
  generalize w.heap.size + 2 = g4 at hS o4 ⊢
  generalize w.heap.size + 1 = g3 at hS o3 ⊢
  generalize w.heap.size = g2 at hS o2 ⊢
  refine (xvalid4_raw g15 b0u b0v b1u b1v false _ (hS.blk 0 rfl) (hV0u.ext hS.ext) (hV0v.ext hS.ext) (hV1u.ext hS.ext) (hV1v.ext hS.ext) Hb.out).mono ?_
  rintro e w2 ⟨rfl, hx_⟩
  replace hS := hS.mv hx_
  clear hx_
  have k_3 := (hS.blk 1 rfl).cell
  have k_4 := (hS.blk 1 rfl).frozen
  go_wp2
  replace hS := (St.put (W' := ((((((((((((w2.setCell ⟨g4, 0, none⟩ (.bool false)).setCell ⟨g4, 1, none⟩ (.slice none 0 0)).setCell ⟨g4, 2, none⟩ (.bool false)).setCell ⟨g4, 3, none⟩ (.slice none 0 0)).setCell ⟨g4, 4, none⟩ (.bool false)).setCell ⟨g4, 5, none⟩ (.slice none 0 0)).setCell ⟨g4, 6, none⟩ (.bool false)).setCell ⟨g4, 7, none⟩ (.slice none 0 0)).setCell ⟨g4, 8, none⟩ (.bool false)).setCell ⟨g4, 9, none⟩ (.slice none 0 0)).setCell ⟨g4, 10, none⟩ (.bool false)).setCell ⟨g4, 11, none⟩ (.slice none 0 0))) hS 1 0 [.bool false, .slice none 0 0, .bool false, .slice none 0 0, .bool false, .slice none 0 0, .bool false, .slice none 0 0, .bool false, .slice none 0 0, .bool false, .slice none 0 0] (cs' := #[.bool false, .slice none 0 0, .bool false, .slice none 0 0, .bool false, .slice none 0 0, .bool false, .slice none 0 0, .bool false, .slice none 0 0, .bool false, .slice none 0 0]) (bs' := _) rfl o4 rfl rfl (by kernel_rfl) rfl)
  exact bp_phasor2 rfl rfl rfl (hS.blk 1 rfl) ⟨_, rfl, ⟨_, rfl, RP.mk (RI.zero _) (RI.zero _) (RI.zero _) (RI.zero _) (RI.zero _) (RI.zero _)⟩, hS.ext⟩

set_option maxRecDepth 100000 in
set_option maxHeartbeats 1600000 in
theorem xTimes_bad (a0 : Bool) (a1 : Option Addr) (a2 a3 : Nat) (a4 : Bool) (a5 : Option Addr) (a6 a7 : Nat) (a8 : Bool) (a9 : Option Addr) (aa ab : Nat) (ac : Bool) (ad : Option Addr) (ae af : Nat) (ag : Bool) (ah : Option Addr) (ai aj : Nat) (ak : Bool) (am : Option Addr) (an ao : Nat) (b0u : Bool) (b0v : Bool) (ap : Bool) (aq : Option Addr) (ar au : Nat) (av : Bool) (aw : Option Addr) (ax ay : Nat) (az : Bool) (aA : Option Addr) (aB aC : Nat) (b1 : Bool) (w : World) (hV0u : VB w (gv a0 a1 a2 a3 a4 a5 a6 a7 a8 a9 aa ab) b0u) (hV0v : VB w (gv ac ad ae af ag ah ai aj ak am an ao) b0v) (hV1 : VB w (gv ap aq ar au av aw ax ay az aA aB aC) b1) (Hb : Hid ([b0u, b0v, b1].all id = false))
      :
    Calls Tryz.prog 32 #[pv a0 a1 a2 a3 a4 a5 a6 a7 a8 a9 aa ab ac ad ae af ag ah ai aj ak am an ao, gv ap aq ar au av aw ax ay az aA aB aC] w fun e w' => ∃ v, e = .returned v ∧ (∃ u, v = .tuple #[u, .int .i64 1] ∧ RP w' u 0 0 0 0 0 0) ∧ Ext w w' := by
  have hS := St.start w
  have o2 : Own w w.heap.size := Own.of hS.ext (by simp)
  have o3 : Own w (w.heap.size + 1) := Own.of hS.ext (by simp)
  have o4 : Own w (w.heap.size + 2) := Own.of hS.ext (by simp)
  have aD := (St.al (St.al (St.al hS 37 #[.bool a0, .slice a1 a2 a3, .bool a4, .slice a5 a6 a7, .bool a8, .slice a9 aa ab, .bool ac, .slice ad ae af, .bool ag, .slice ah ai aj, .bool ak, .slice am an ao] (g := w.heap.size) (by simp)) 26 #[.bool ap, .slice aq ar au, .bool av, .slice aw ax ay, .bool az, .slice aA aB aC] (g := (w.heap.size + 1)) (by simp)) 37 #[.bool false, .slice none 0 0, .bool false, .slice none 0 0, .bool false, .slice none 0 0, .bool false, .slice none 0 0, .bool false, .slice none 0 0, .bool false, .slice none 0 0] (g := (w.heap.size + 2)) (by simp))
  have k_1 := (aD.blk 2 rfl).cell
  have k_2 := (aD.blk 1 rfl).cell
  have o12 : Own w (w.heap.size + 3) := Own.of hS.ext (by simp)
  go_enter Tryz.func32, Tryz.ntmps32
  go_wp2_with fail
  clear k_1 k_2
  clear aD
  replace hS := (St.al (St.al (St.al (St.al hS 37 #[.bool a0, .slice a1 a2 a3, .bool a4, .slice a5 a6 a7, .bool a8, .slice a9 aa ab, .bool ac, .slice ad ae af, .bool ag, .slice ah ai aj, .bool ak, .slice am an ao] (g := w.heap.size) (by simp)) 26 #[.bool ap, .slice aq ar au, .bool av, .slice aw ax ay, .bool az, .slice aA aB aC] (g := (w.heap.size + 1)) (by simp)) 37 #[.bool false, .slice none 0 0, .bool false, .slice none 0 0, .bool false, .slice none 0 0, .bool false, .slice none 0 0, .bool false, .slice none 0 0, .bool false, .slice none 0 0] (g := (w.heap.size + 2)) (by simp)) 26 #[.bool a0, .slice a1 a2 a3, .bool a4, .slice a5 a6 a7, .bool a8, .slice a9 aa ab, .bool ac, .slice ad ae af, .bool ag, .slice ah ai aj, .bool ak, .slice am an ao, .bool ap, .slice aq ar au, .bool av, .slice aw ax ay, .bool az, .slice aA aB aC] (g := (w.heap.size + 3)) (by simp))
  generalize ((((w.alloc (.cells #[.bool a0, .slice a1 a2 a3, .bool a4, .slice a5 a6 a7, .bool a8, .slice a9 aa ab, .bool ac, .slice ad ae af, .bool ag, .slice ah ai aj, .bool ak, .slice am an ao] 37)).alloc (.cells #[.bool ap, .slice aq ar au, .bool av, .slice aw ax ay, .bool az, .slice aA aB aC] 26)).alloc (.cells #[.bool false, .slice none 0 0, .bool false, .slice none 0 0, .bool false, .slice none 0 0, .bool false, .slice none 0 0, .bool false, .slice none 0 0, .bool false, .slice none 0 0] 37)).alloc (.cells #[.bool a0, .slice a1 a2 a3, .bool a4, .slice a5 a6 a7, .bool a8, .slice a9 aa ab, .bool ac, .slice ad ae af, .bool ag, .slice ah ai aj, .bool ak, .slice am an ao, .bool ap, .slice aq ar au, .bool av, .slice aw ax ay, .bool az, .slice aA aB aC] 26)) = w1 at hS ⊢
  generalize w.heap.size + 3 = g12 at hS o12 ⊢
  generalize w.heap.size + 2 = g4 at hS o4 ⊢
  generalize w.heap.size + 1 = g3 at hS o3 ⊢
  generalize w.heap.size = g2 at hS o2 ⊢
  refine (xvalid3_raw g12 b0u b0v b1 false _ (hS.blk 0 rfl) (hV0u.ext hS.ext) (hV0v.ext hS.ext) (hV1.ext hS.ext) Hb.out).mono ?_
  rintro e w2 ⟨rfl, hx_⟩
  replace hS := hS.mv hx_
  clear hx_
  have k_3 := (hS.blk 1 rfl).cell
  have k_4 := (hS.blk 1 rfl).frozen
  go_wp2
  replace hS := (St.put (W' := ((((((((((((w2.setCell ⟨g4, 0, none⟩ (.bool false)).setCell ⟨g4, 1, none⟩ (.slice none 0 0)).setCell ⟨g4, 2, none⟩ (.bool false)).setCell ⟨g4, 3, none⟩ (.slice none 0 0)).setCell ⟨g4, 4, none⟩ (.bool false)).setCell ⟨g4, 5, none⟩ (.slice none 0 0)).setCell ⟨g4, 6, none⟩ (.bool false)).setCell ⟨g4, 7, none⟩ (.slice none 0 0)).setCell ⟨g4, 8, none⟩ (.bool false)).setCell ⟨g4, 9, none⟩ (.slice none 0 0)).setCell ⟨g4, 10, none⟩ (.bool false)).setCell ⟨g4, 11, none⟩ (.slice none 0 0))) hS 1 0 [.bool false, .slice none 0 0, .bool false, .slice none 0 0, .bool false, .slice none 0 0, .bool false, .slice none 0 0, .bool false, .slice none 0 0, .bool false, .slice none 0 0] (cs' := #[.bool false, .slice none 0 0, .bool false, .slice none 0 0, .bool false, .slice none 0 0, .bool false, .slice none 0 0, .bool false, .slice none 0 0, .bool false, .slice none 0 0]) (bs' := _) rfl o4 rfl rfl (by kernel_rfl) rfl)
  exact bp_phasor2 rfl rfl rfl (hS.blk 1 rfl) ⟨_, rfl, ⟨_, rfl, RP.mk (RI.zero _) (RI.zero _) (RI.zero _) (RI.zero _) (RI.zero _) (RI.zero _)⟩, hS.ext⟩

set_option maxRecDepth 100000 in
set_option maxHeartbeats 1600000 in
theorem xPlain_bad (a0 : Bool) (a1 : Option Addr) (a2 a3 : Nat) (a4 : Bool) (a5 : Option Addr) (a6 a7 : Nat) (a8 : Bool) (a9 : Option Addr) (aa ab : Nat) (w : World) (hV0 : VB w (gv a0 a1 a2 a3 a4 a5 a6 a7 a8 a9 aa ab) false)
      :
    Calls Tryz.prog 33 #[gv a0 a1 a2 a3 a4 a5 a6 a7 a8 a9 aa ab] w fun e w' => ∃ v, e = .returned v ∧ (∃ u, v = .tuple #[u, .int .i64 1] ∧ RP w' u 0 0 0 0 0 0) ∧ Ext w w' := by
  have hS := St.start w
  have o1 : Own w w.heap.size := Own.of hS.ext (by simp)
  have o2 : Own w (w.heap.size + 1) := Own.of hS.ext (by simp)
  have ac := (St.al (St.al hS 26 #[.bool a0, .slice a1 a2 a3, .bool a4, .slice a5 a6 a7, .bool a8, .slice a9 aa ab] (g := w.heap.size) (by simp)) 37 #[.bool false, .slice none 0 0, .bool false, .slice none 0 0, .bool false, .slice none 0 0, .bool false, .slice none 0 0, .bool false, .slice none 0 0, .bool false, .slice none 0 0] (g := (w.heap.size + 1)) (by simp))
  have k_1 := (ac.blk 1 rfl).cell
  go_enter Tryz.func33, Tryz.ntmps33
  go_wp2_with fail
  clear k_1
  clear ac
  replace hS := (St.al (St.al hS 26 #[.bool a0, .slice a1 a2 a3, .bool a4, .slice a5 a6 a7, .bool a8, .slice a9 aa ab] (g := w.heap.size) (by simp)) 37 #[.bool false, .slice none 0 0, .bool false, .slice none 0 0, .bool false, .slice none 0 0, .bool false, .slice none 0 0, .bool false, .slice none 0 0, .bool false, .slice none 0 0] (g := (w.heap.size + 1)) (by simp))
  generalize ((w.alloc (.cells #[.bool a0, .slice a1 a2 a3, .bool a4, .slice a5 a6 a7, .bool a8, .slice a9 aa ab] 26)).alloc (.cells #[.bool false, .slice none 0 0, .bool false, .slice none 0 0, .bool false, .slice none 0 0, .bool false, .slice none 0 0, .bool false, .slice none 0 0, .bool false, .slice none 0 0] 37)) = w1 at hS ⊢
  generalize w.heap.size + 1 = g2 at hS o2 ⊢
  generalize w.heap.size = g1 at hS o1 ⊢
  refine (VB.e (hV0.ext hS.ext)).mono ?_
  rintro e w2 ⟨rfl, hx_⟩
  replace hS := hS.mv hx_
  clear hx_
  have k_2 := (hS.blk 0 rfl).cell
  have k_3 := (hS.blk 0 rfl).frozen
  go_wp2
  replace hS := (St.put (W' := ((((((((((((w2.setCell ⟨g2, 0, none⟩ (.bool false)).setCell ⟨g2, 1, none⟩ (.slice none 0 0)).setCell ⟨g2, 2, none⟩ (.bool false)).setCell ⟨g2, 3, none⟩ (.slice none 0 0)).setCell ⟨g2, 4, none⟩ (.bool false)).setCell ⟨g2, 5, none⟩ (.slice none 0 0)).setCell ⟨g2, 6, none⟩ (.bool false)).setCell ⟨g2, 7, none⟩ (.slice none 0 0)).setCell ⟨g2, 8, none⟩ (.bool false)).setCell ⟨g2, 9, none⟩ (.slice none 0 0)).setCell ⟨g2, 10, none⟩ (.bool false)).setCell ⟨g2, 11, none⟩ (.slice none 0 0))) hS 0 0 [.bool false, .slice none 0 0, .bool false, .slice none 0 0, .bool false, .slice none 0 0, .bool false, .slice none 0 0, .bool false, .slice none 0 0, .bool false, .slice none 0 0] (cs' := #[.bool false, .slice none 0 0, .bool false, .slice none 0 0, .bool false, .slice none 0 0, .bool false, .slice none 0 0, .bool false, .slice none 0 0, .bool false, .slice none 0 0]) (bs' := _) rfl o2 rfl rfl (by kernel_rfl) rfl)
  exact bp_phasor2 rfl rfl rfl (hS.blk 0 rfl) ⟨_, rfl, ⟨_, rfl, RP.mk (RI.zero _) (RI.zero _) (RI.zero _) (RI.zero _) (RI.zero _) (RI.zero _)⟩, hS.ext⟩

end Go.Proofs.YtjeijmnhbckjdaaGreatDoor
