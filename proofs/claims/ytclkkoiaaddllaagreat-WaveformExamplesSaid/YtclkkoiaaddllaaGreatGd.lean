/- Numbers that are not valid: the program says so. -/
import Derived.Test.YtclkkoiaaddllaaGreatGc
import Derived.Test.YtclkkoiaaddllaaGreatNG
namespace Go.Proofs.YtclkkoiaaddllaaGreat
open Go.RowKit
set_option linter.unusedVariables false

set_option maxRecDepth 100000 in
set_option maxHeartbeats 1600000 in
theorem xAdd_bad (s0a : Bool) (A0a : Option Addr) (n0a c0a : Nat) (s0b : Bool) (A0b : Option Addr) (n0b c0b : Nat) (s0d : Bool) (A0d : Option Addr) (n0d c0d : Nat) (b0 : Bool) (s1a : Bool) (A1a : Option Addr) (n1a c1a : Nat) (s1b : Bool) (A1b : Option Addr) (n1b c1b : Nat) (s1d : Bool) (A1d : Option Addr) (n1d c1d : Nat) (b1 : Bool) (w : World) (hV0 : VB w (gv s0a A0a n0a c0a s0b A0b n0b c0b s0d A0d n0d c0d) b0) (hV1 : VB w (gv s1a A1a n1a c1a s1b A1b n1b c1b s1d A1d n1d c1d) b1) (Hb : Hid ([b0, b1].all id = false))
      :
    Calls Tryz.prog 71 #[gv s0a A0a n0a c0a s0b A0b n0b c0b s0d A0d n0d c0d, gv s1a A1a n1a c1a s1b A1b n1b c1b s1d A1d n1d c1d] w fun e w' => ∃ v, e = .returned v ∧ (∃ u, v = .tuple #[u, .int .i64 1] ∧ RG w' u 0 0 0) ∧ Ext w w' := by
  have hS := St.start w
  have o2 : Own w w.heap.size := Own.of hS.ext (by simp)
  have o3 : Own w (w.heap.size + 1) := Own.of hS.ext (by simp)
  have o4 : Own w (w.heap.size + 2) := Own.of hS.ext (by simp)
  have hT1 := (St.al (St.al (St.al hS 32 #[.bool s0a, .slice A0a n0a c0a, .bool s0b, .slice A0b n0b c0b, .bool s0d, .slice A0d n0d c0d] (g := w.heap.size) (by simp)) 32 #[.bool s1a, .slice A1a n1a c1a, .bool s1b, .slice A1b n1b c1b, .bool s1d, .slice A1d n1d c1d] (g := (w.heap.size + 1)) (by simp)) 32 #[.bool false, .slice none 0 0, .bool false, .slice none 0 0, .bool false, .slice none 0 0] (g := (w.heap.size + 2)) (by simp))
  have k_1 := (hT1.blk 2 rfl).cell
  have k_2 := (hT1.blk 1 rfl).cell
  have o9 : Own w (w.heap.size + 3) := Own.of hS.ext (by simp)
  go_enter Tryz.func71, Tryz.ntmps71
  go_wp2_with fail
  clear k_1 k_2
  clear hT1
  replace hS := (St.al (St.al (St.al (St.al hS 32 #[.bool s0a, .slice A0a n0a c0a, .bool s0b, .slice A0b n0b c0b, .bool s0d, .slice A0d n0d c0d] (g := w.heap.size) (by simp)) 32 #[.bool s1a, .slice A1a n1a c1a, .bool s1b, .slice A1b n1b c1b, .bool s1d, .slice A1d n1d c1d] (g := (w.heap.size + 1)) (by simp)) 32 #[.bool false, .slice none 0 0, .bool false, .slice none 0 0, .bool false, .slice none 0 0] (g := (w.heap.size + 2)) (by simp)) 32 #[.bool s0a, .slice A0a n0a c0a, .bool s0b, .slice A0b n0b c0b, .bool s0d, .slice A0d n0d c0d, .bool s1a, .slice A1a n1a c1a, .bool s1b, .slice A1b n1b c1b, .bool s1d, .slice A1d n1d c1d] (g := (w.heap.size + 3)) (by simp))
  generalize ((((w.alloc (.cells #[.bool s0a, .slice A0a n0a c0a, .bool s0b, .slice A0b n0b c0b, .bool s0d, .slice A0d n0d c0d] 32)).alloc (.cells #[.bool s1a, .slice A1a n1a c1a, .bool s1b, .slice A1b n1b c1b, .bool s1d, .slice A1d n1d c1d] 32)).alloc (.cells #[.bool false, .slice none 0 0, .bool false, .slice none 0 0, .bool false, .slice none 0 0] 32)).alloc (.cells #[.bool s0a, .slice A0a n0a c0a, .bool s0b, .slice A0b n0b c0b, .bool s0d, .slice A0d n0d c0d, .bool s1a, .slice A1a n1a c1a, .bool s1b, .slice A1b n1b c1b, .bool s1d, .slice A1d n1d c1d] 32)) = w1 at hS ⊢
  generalize w.heap.size + 3 = g9 at hS o9 ⊢
  generalize w.heap.size + 2 = g4 at hS o4 ⊢
  generalize w.heap.size + 1 = g3 at hS o3 ⊢
  generalize w.heap.size = g2 at hS o2 ⊢
  refine (xvalid2_raw g9 b0 b1 false _ (hS.blk 0 rfl) (hV0.ext hS.ext) (hV1.ext hS.ext) Hb.out).mono ?_
  rintro e w2 ⟨rfl, hx_⟩
  replace hS := hS.mv hx_
  clear hx_
  have k_3 := (hS.blk 1 rfl).cell
  have k_4 := (hS.blk 1 rfl).frozen
  go_wp2
  replace hS := (St.put (W' := ((((((w2.setCell ⟨g4, 0, none⟩ (.bool false)).setCell ⟨g4, 1, none⟩ (.slice none 0 0)).setCell ⟨g4, 2, none⟩ (.bool false)).setCell ⟨g4, 3, none⟩ (.slice none 0 0)).setCell ⟨g4, 4, none⟩ (.bool false)).setCell ⟨g4, 5, none⟩ (.slice none 0 0))) hS 1 0 [.bool false, .slice none 0 0, .bool false, .slice none 0 0, .bool false, .slice none 0 0] (cs' := #[.bool false, .slice none 0 0, .bool false, .slice none 0 0, .bool false, .slice none 0 0]) (bs' := _) rfl o4 rfl rfl (by kernel_rfl) rfl)
  exact bp_gauss2 rfl rfl rfl (hS.blk 1 rfl) ⟨_, rfl, ⟨_, rfl, RG.mk (RI.zero _) (RI.zero _) (RI.zero _)⟩, hS.ext⟩

set_option maxRecDepth 100000 in
set_option maxHeartbeats 1600000 in
theorem xSub_bad (s0a : Bool) (A0a : Option Addr) (n0a c0a : Nat) (s0b : Bool) (A0b : Option Addr) (n0b c0b : Nat) (s0d : Bool) (A0d : Option Addr) (n0d c0d : Nat) (b0 : Bool) (s1a : Bool) (A1a : Option Addr) (n1a c1a : Nat) (s1b : Bool) (A1b : Option Addr) (n1b c1b : Nat) (s1d : Bool) (A1d : Option Addr) (n1d c1d : Nat) (b1 : Bool) (w : World) (hV0 : VB w (gv s0a A0a n0a c0a s0b A0b n0b c0b s0d A0d n0d c0d) b0) (hV1 : VB w (gv s1a A1a n1a c1a s1b A1b n1b c1b s1d A1d n1d c1d) b1) (Hb : Hid ([b0, b1].all id = false))
      :
    Calls Tryz.prog 66 #[gv s0a A0a n0a c0a s0b A0b n0b c0b s0d A0d n0d c0d, gv s1a A1a n1a c1a s1b A1b n1b c1b s1d A1d n1d c1d] w fun e w' => ∃ v, e = .returned v ∧ (∃ u, v = .tuple #[u, .int .i64 1] ∧ RG w' u 0 0 0) ∧ Ext w w' := by
  have hS := St.start w
  have o2 : Own w w.heap.size := Own.of hS.ext (by simp)
  have o3 : Own w (w.heap.size + 1) := Own.of hS.ext (by simp)
  have o4 : Own w (w.heap.size + 2) := Own.of hS.ext (by simp)
  have hT1 := (St.al (St.al (St.al hS 32 #[.bool s0a, .slice A0a n0a c0a, .bool s0b, .slice A0b n0b c0b, .bool s0d, .slice A0d n0d c0d] (g := w.heap.size) (by simp)) 32 #[.bool s1a, .slice A1a n1a c1a, .bool s1b, .slice A1b n1b c1b, .bool s1d, .slice A1d n1d c1d] (g := (w.heap.size + 1)) (by simp)) 32 #[.bool false, .slice none 0 0, .bool false, .slice none 0 0, .bool false, .slice none 0 0] (g := (w.heap.size + 2)) (by simp))
  have k_1 := (hT1.blk 2 rfl).cell
  have k_2 := (hT1.blk 1 rfl).cell
  have o9 : Own w (w.heap.size + 3) := Own.of hS.ext (by simp)
  go_enter Tryz.func66, Tryz.ntmps66
  go_wp2_with fail
  clear k_1 k_2
  clear hT1
  replace hS := (St.al (St.al (St.al (St.al hS 32 #[.bool s0a, .slice A0a n0a c0a, .bool s0b, .slice A0b n0b c0b, .bool s0d, .slice A0d n0d c0d] (g := w.heap.size) (by simp)) 32 #[.bool s1a, .slice A1a n1a c1a, .bool s1b, .slice A1b n1b c1b, .bool s1d, .slice A1d n1d c1d] (g := (w.heap.size + 1)) (by simp)) 32 #[.bool false, .slice none 0 0, .bool false, .slice none 0 0, .bool false, .slice none 0 0] (g := (w.heap.size + 2)) (by simp)) 32 #[.bool s0a, .slice A0a n0a c0a, .bool s0b, .slice A0b n0b c0b, .bool s0d, .slice A0d n0d c0d, .bool s1a, .slice A1a n1a c1a, .bool s1b, .slice A1b n1b c1b, .bool s1d, .slice A1d n1d c1d] (g := (w.heap.size + 3)) (by simp))
  generalize ((((w.alloc (.cells #[.bool s0a, .slice A0a n0a c0a, .bool s0b, .slice A0b n0b c0b, .bool s0d, .slice A0d n0d c0d] 32)).alloc (.cells #[.bool s1a, .slice A1a n1a c1a, .bool s1b, .slice A1b n1b c1b, .bool s1d, .slice A1d n1d c1d] 32)).alloc (.cells #[.bool false, .slice none 0 0, .bool false, .slice none 0 0, .bool false, .slice none 0 0] 32)).alloc (.cells #[.bool s0a, .slice A0a n0a c0a, .bool s0b, .slice A0b n0b c0b, .bool s0d, .slice A0d n0d c0d, .bool s1a, .slice A1a n1a c1a, .bool s1b, .slice A1b n1b c1b, .bool s1d, .slice A1d n1d c1d] 32)) = w1 at hS ⊢
  generalize w.heap.size + 3 = g9 at hS o9 ⊢
  generalize w.heap.size + 2 = g4 at hS o4 ⊢
  generalize w.heap.size + 1 = g3 at hS o3 ⊢
  generalize w.heap.size = g2 at hS o2 ⊢
  refine (xvalid2_raw g9 b0 b1 false _ (hS.blk 0 rfl) (hV0.ext hS.ext) (hV1.ext hS.ext) Hb.out).mono ?_
  rintro e w2 ⟨rfl, hx_⟩
  replace hS := hS.mv hx_
  clear hx_
  have k_3 := (hS.blk 1 rfl).cell
  have k_4 := (hS.blk 1 rfl).frozen
  go_wp2
  replace hS := (St.put (W' := ((((((w2.setCell ⟨g4, 0, none⟩ (.bool false)).setCell ⟨g4, 1, none⟩ (.slice none 0 0)).setCell ⟨g4, 2, none⟩ (.bool false)).setCell ⟨g4, 3, none⟩ (.slice none 0 0)).setCell ⟨g4, 4, none⟩ (.bool false)).setCell ⟨g4, 5, none⟩ (.slice none 0 0))) hS 1 0 [.bool false, .slice none 0 0, .bool false, .slice none 0 0, .bool false, .slice none 0 0] (cs' := #[.bool false, .slice none 0 0, .bool false, .slice none 0 0, .bool false, .slice none 0 0]) (bs' := _) rfl o4 rfl rfl (by kernel_rfl) rfl)
  exact bp_gauss2 rfl rfl rfl (hS.blk 1 rfl) ⟨_, rfl, ⟨_, rfl, RG.mk (RI.zero _) (RI.zero _) (RI.zero _)⟩, hS.ext⟩

set_option maxRecDepth 100000 in
set_option maxHeartbeats 1600000 in
theorem xMul_bad (s0a : Bool) (A0a : Option Addr) (n0a c0a : Nat) (s0b : Bool) (A0b : Option Addr) (n0b c0b : Nat) (s0d : Bool) (A0d : Option Addr) (n0d c0d : Nat) (b0 : Bool) (s1a : Bool) (A1a : Option Addr) (n1a c1a : Nat) (s1b : Bool) (A1b : Option Addr) (n1b c1b : Nat) (s1d : Bool) (A1d : Option Addr) (n1d c1d : Nat) (b1 : Bool) (w : World) (hV0 : VB w (gv s0a A0a n0a c0a s0b A0b n0b c0b s0d A0d n0d c0d) b0) (hV1 : VB w (gv s1a A1a n1a c1a s1b A1b n1b c1b s1d A1d n1d c1d) b1) (Hb : Hid ([b0, b1].all id = false))
      :
    Calls Tryz.prog 65 #[gv s0a A0a n0a c0a s0b A0b n0b c0b s0d A0d n0d c0d, gv s1a A1a n1a c1a s1b A1b n1b c1b s1d A1d n1d c1d] w fun e w' => ∃ v, e = .returned v ∧ (∃ u, v = .tuple #[u, .int .i64 1] ∧ RG w' u 0 0 0) ∧ Ext w w' := by
  have hS := St.start w
  have o2 : Own w w.heap.size := Own.of hS.ext (by simp)
  have o3 : Own w (w.heap.size + 1) := Own.of hS.ext (by simp)
  have o4 : Own w (w.heap.size + 2) := Own.of hS.ext (by simp)
  have hT1 := (St.al (St.al (St.al hS 32 #[.bool s0a, .slice A0a n0a c0a, .bool s0b, .slice A0b n0b c0b, .bool s0d, .slice A0d n0d c0d] (g := w.heap.size) (by simp)) 32 #[.bool s1a, .slice A1a n1a c1a, .bool s1b, .slice A1b n1b c1b, .bool s1d, .slice A1d n1d c1d] (g := (w.heap.size + 1)) (by simp)) 32 #[.bool false, .slice none 0 0, .bool false, .slice none 0 0, .bool false, .slice none 0 0] (g := (w.heap.size + 2)) (by simp))
  have k_1 := (hT1.blk 2 rfl).cell
  have k_2 := (hT1.blk 1 rfl).cell
  have o9 : Own w (w.heap.size + 3) := Own.of hS.ext (by simp)
  go_enter Tryz.func65, Tryz.ntmps65
  go_wp2_with fail
  clear k_1 k_2
  clear hT1
  replace hS := (St.al (St.al (St.al (St.al hS 32 #[.bool s0a, .slice A0a n0a c0a, .bool s0b, .slice A0b n0b c0b, .bool s0d, .slice A0d n0d c0d] (g := w.heap.size) (by simp)) 32 #[.bool s1a, .slice A1a n1a c1a, .bool s1b, .slice A1b n1b c1b, .bool s1d, .slice A1d n1d c1d] (g := (w.heap.size + 1)) (by simp)) 32 #[.bool false, .slice none 0 0, .bool false, .slice none 0 0, .bool false, .slice none 0 0] (g := (w.heap.size + 2)) (by simp)) 32 #[.bool s0a, .slice A0a n0a c0a, .bool s0b, .slice A0b n0b c0b, .bool s0d, .slice A0d n0d c0d, .bool s1a, .slice A1a n1a c1a, .bool s1b, .slice A1b n1b c1b, .bool s1d, .slice A1d n1d c1d] (g := (w.heap.size + 3)) (by simp))
  generalize ((((w.alloc (.cells #[.bool s0a, .slice A0a n0a c0a, .bool s0b, .slice A0b n0b c0b, .bool s0d, .slice A0d n0d c0d] 32)).alloc (.cells #[.bool s1a, .slice A1a n1a c1a, .bool s1b, .slice A1b n1b c1b, .bool s1d, .slice A1d n1d c1d] 32)).alloc (.cells #[.bool false, .slice none 0 0, .bool false, .slice none 0 0, .bool false, .slice none 0 0] 32)).alloc (.cells #[.bool s0a, .slice A0a n0a c0a, .bool s0b, .slice A0b n0b c0b, .bool s0d, .slice A0d n0d c0d, .bool s1a, .slice A1a n1a c1a, .bool s1b, .slice A1b n1b c1b, .bool s1d, .slice A1d n1d c1d] 32)) = w1 at hS ⊢
  generalize w.heap.size + 3 = g9 at hS o9 ⊢
  generalize w.heap.size + 2 = g4 at hS o4 ⊢
  generalize w.heap.size + 1 = g3 at hS o3 ⊢
  generalize w.heap.size = g2 at hS o2 ⊢
  refine (xvalid2_raw g9 b0 b1 false _ (hS.blk 0 rfl) (hV0.ext hS.ext) (hV1.ext hS.ext) Hb.out).mono ?_
  rintro e w2 ⟨rfl, hx_⟩
  replace hS := hS.mv hx_
  clear hx_
  have k_3 := (hS.blk 1 rfl).cell
  have k_4 := (hS.blk 1 rfl).frozen
  go_wp2
  replace hS := (St.put (W' := ((((((w2.setCell ⟨g4, 0, none⟩ (.bool false)).setCell ⟨g4, 1, none⟩ (.slice none 0 0)).setCell ⟨g4, 2, none⟩ (.bool false)).setCell ⟨g4, 3, none⟩ (.slice none 0 0)).setCell ⟨g4, 4, none⟩ (.bool false)).setCell ⟨g4, 5, none⟩ (.slice none 0 0))) hS 1 0 [.bool false, .slice none 0 0, .bool false, .slice none 0 0, .bool false, .slice none 0 0] (cs' := #[.bool false, .slice none 0 0, .bool false, .slice none 0 0, .bool false, .slice none 0 0]) (bs' := _) rfl o4 rfl rfl (by kernel_rfl) rfl)
  exact bp_gauss2 rfl rfl rfl (hS.blk 1 rfl) ⟨_, rfl, ⟨_, rfl, RG.mk (RI.zero _) (RI.zero _) (RI.zero _)⟩, hS.ext⟩

set_option maxRecDepth 100000 in
set_option maxHeartbeats 1600000 in
theorem xDiv_bad (s0a : Bool) (A0a : Option Addr) (n0a c0a : Nat) (s0b : Bool) (A0b : Option Addr) (n0b c0b : Nat) (s0d : Bool) (A0d : Option Addr) (n0d c0d : Nat) (b0 : Bool) (s1a : Bool) (A1a : Option Addr) (n1a c1a : Nat) (s1b : Bool) (A1b : Option Addr) (n1b c1b : Nat) (s1d : Bool) (A1d : Option Addr) (n1d c1d : Nat) (b1 : Bool) (w : World) (hV0 : VB w (gv s0a A0a n0a c0a s0b A0b n0b c0b s0d A0d n0d c0d) b0) (hV1 : VB w (gv s1a A1a n1a c1a s1b A1b n1b c1b s1d A1d n1d c1d) b1) (Hb : Hid ([b0, b1].all id = false))
      :
    Calls Tryz.prog 117 #[gv s0a A0a n0a c0a s0b A0b n0b c0b s0d A0d n0d c0d, gv s1a A1a n1a c1a s1b A1b n1b c1b s1d A1d n1d c1d] w fun e w' => ∃ v, e = .returned v ∧ (∃ u, v = .tuple #[u, .int .i64 1] ∧ RG w' u 0 0 0) ∧ Ext w w' := by
  have hS := St.start w
  have o2 : Own w w.heap.size := Own.of hS.ext (by simp)
  have o3 : Own w (w.heap.size + 1) := Own.of hS.ext (by simp)
  have o4 : Own w (w.heap.size + 2) := Own.of hS.ext (by simp)
  have hT1 := (St.al (St.al (St.al hS 32 #[.bool s0a, .slice A0a n0a c0a, .bool s0b, .slice A0b n0b c0b, .bool s0d, .slice A0d n0d c0d] (g := w.heap.size) (by simp)) 32 #[.bool s1a, .slice A1a n1a c1a, .bool s1b, .slice A1b n1b c1b, .bool s1d, .slice A1d n1d c1d] (g := (w.heap.size + 1)) (by simp)) 32 #[.bool false, .slice none 0 0, .bool false, .slice none 0 0, .bool false, .slice none 0 0] (g := (w.heap.size + 2)) (by simp))
  have k_1 := (hT1.blk 2 rfl).cell
  have k_2 := (hT1.blk 1 rfl).cell
  have o9 : Own w (w.heap.size + 3) := Own.of hS.ext (by simp)
  go_enter Tryz.func117, Tryz.ntmps117
  go_wp2_with fail
  clear k_1 k_2
  clear hT1
  replace hS := (St.al (St.al (St.al (St.al hS 32 #[.bool s0a, .slice A0a n0a c0a, .bool s0b, .slice A0b n0b c0b, .bool s0d, .slice A0d n0d c0d] (g := w.heap.size) (by simp)) 32 #[.bool s1a, .slice A1a n1a c1a, .bool s1b, .slice A1b n1b c1b, .bool s1d, .slice A1d n1d c1d] (g := (w.heap.size + 1)) (by simp)) 32 #[.bool false, .slice none 0 0, .bool false, .slice none 0 0, .bool false, .slice none 0 0] (g := (w.heap.size + 2)) (by simp)) 32 #[.bool s0a, .slice A0a n0a c0a, .bool s0b, .slice A0b n0b c0b, .bool s0d, .slice A0d n0d c0d, .bool s1a, .slice A1a n1a c1a, .bool s1b, .slice A1b n1b c1b, .bool s1d, .slice A1d n1d c1d] (g := (w.heap.size + 3)) (by simp))
  generalize ((((w.alloc (.cells #[.bool s0a, .slice A0a n0a c0a, .bool s0b, .slice A0b n0b c0b, .bool s0d, .slice A0d n0d c0d] 32)).alloc (.cells #[.bool s1a, .slice A1a n1a c1a, .bool s1b, .slice A1b n1b c1b, .bool s1d, .slice A1d n1d c1d] 32)).alloc (.cells #[.bool false, .slice none 0 0, .bool false, .slice none 0 0, .bool false, .slice none 0 0] 32)).alloc (.cells #[.bool s0a, .slice A0a n0a c0a, .bool s0b, .slice A0b n0b c0b, .bool s0d, .slice A0d n0d c0d, .bool s1a, .slice A1a n1a c1a, .bool s1b, .slice A1b n1b c1b, .bool s1d, .slice A1d n1d c1d] 32)) = w1 at hS ⊢
  generalize w.heap.size + 3 = g9 at hS o9 ⊢
  generalize w.heap.size + 2 = g4 at hS o4 ⊢
  generalize w.heap.size + 1 = g3 at hS o3 ⊢
  generalize w.heap.size = g2 at hS o2 ⊢
  refine (xvalid2_raw g9 b0 b1 false _ (hS.blk 0 rfl) (hV0.ext hS.ext) (hV1.ext hS.ext) Hb.out).mono ?_
  rintro e w2 ⟨rfl, hx_⟩
  replace hS := hS.mv hx_
  clear hx_
  have k_3 := (hS.blk 1 rfl).cell
  have k_4 := (hS.blk 1 rfl).frozen
  go_wp2
  replace hS := (St.put (W' := ((((((w2.setCell ⟨g4, 0, none⟩ (.bool false)).setCell ⟨g4, 1, none⟩ (.slice none 0 0)).setCell ⟨g4, 2, none⟩ (.bool false)).setCell ⟨g4, 3, none⟩ (.slice none 0 0)).setCell ⟨g4, 4, none⟩ (.bool false)).setCell ⟨g4, 5, none⟩ (.slice none 0 0))) hS 1 0 [.bool false, .slice none 0 0, .bool false, .slice none 0 0, .bool false, .slice none 0 0] (cs' := #[.bool false, .slice none 0 0, .bool false, .slice none 0 0, .bool false, .slice none 0 0]) (bs' := _) rfl o4 rfl rfl (by kernel_rfl) rfl)
  exact bp_gauss2 rfl rfl rfl (hS.blk 1 rfl) ⟨_, rfl, ⟨_, rfl, RG.mk (RI.zero _) (RI.zero _) (RI.zero _)⟩, hS.ext⟩

set_option maxRecDepth 100000 in
set_option maxHeartbeats 1600000 in
theorem xTurn_bad (s0a : Bool) (A0a : Option Addr) (n0a c0a : Nat) (s0b : Bool) (A0b : Option Addr) (n0b c0b : Nat) (s0d : Bool) (A0d : Option Addr) (n0d c0d : Nat) (s0x : Bool) (A0x : Option Addr) (n0x c0x : Nat) (s0y : Bool) (A0y : Option Addr) (n0y c0y : Nat) (s0z : Bool) (A0z : Option Addr) (n0z c0z : Nat) (b0u : Bool) (b0v : Bool) (m1 : Int) (w : World) (hV0u : VB w (gv s0a A0a n0a c0a s0b A0b n0b c0b s0d A0d n0d c0d) b0u) (hV0v : VB w (gv s0x A0x n0x c0x s0y A0y n0y c0y s0z A0z n0z c0z) b0v) (l1 : -9223372036854775808 ≤ m1) (u1 : m1 ≤ 9223372036854775807) (Hb : Hid ([b0u, b0v].all id = false))
      :
    Calls Tryz.prog 54 #[pv s0a A0a n0a c0a s0b A0b n0b c0b s0d A0d n0d c0d s0x A0x n0x c0x s0y A0y n0y c0y s0z A0z n0z c0z, .int .i64 m1] w fun e w' => ∃ v, e = .returned v ∧ (∃ u, v = .tuple #[u, .int .i64 1] ∧ RP w' u 0 0 0 0 0 0) ∧ Ext w w' := by
  have hS := St.start w
  have o2 : Own w w.heap.size := Own.of hS.ext (by simp)
  have o4 : Own w (w.heap.size + 1) := Own.of hS.ext (by simp)
  have hT1 := (St.al (St.al hS 46 #[.bool s0a, .slice A0a n0a c0a, .bool s0b, .slice A0b n0b c0b, .bool s0d, .slice A0d n0d c0d, .bool s0x, .slice A0x n0x c0x, .bool s0y, .slice A0y n0y c0y, .bool s0z, .slice A0z n0z c0z] (g := w.heap.size) (by simp)) 46 #[.bool false, .slice none 0 0, .bool false, .slice none 0 0, .bool false, .slice none 0 0, .bool false, .slice none 0 0, .bool false, .slice none 0 0, .bool false, .slice none 0 0] (g := (w.heap.size + 1)) (by simp))
  have k_1 := (hT1.blk 1 rfl).cell
  have o13 : Own w (w.heap.size + 2) := Own.of hS.ext (by simp)
  go_enter Tryz.func54, Tryz.ntmps54
  go_wp2_with fail
  clear k_1
  clear hT1
  replace hS := (St.al (St.al (St.al hS 46 #[.bool s0a, .slice A0a n0a c0a, .bool s0b, .slice A0b n0b c0b, .bool s0d, .slice A0d n0d c0d, .bool s0x, .slice A0x n0x c0x, .bool s0y, .slice A0y n0y c0y, .bool s0z, .slice A0z n0z c0z] (g := w.heap.size) (by simp)) 46 #[.bool false, .slice none 0 0, .bool false, .slice none 0 0, .bool false, .slice none 0 0, .bool false, .slice none 0 0, .bool false, .slice none 0 0, .bool false, .slice none 0 0] (g := (w.heap.size + 1)) (by simp)) 32 #[.bool s0a, .slice A0a n0a c0a, .bool s0b, .slice A0b n0b c0b, .bool s0d, .slice A0d n0d c0d, .bool s0x, .slice A0x n0x c0x, .bool s0y, .slice A0y n0y c0y, .bool s0z, .slice A0z n0z c0z] (g := (w.heap.size + 2)) (by simp))
  generalize (((w.alloc (.cells #[.bool s0a, .slice A0a n0a c0a, .bool s0b, .slice A0b n0b c0b, .bool s0d, .slice A0d n0d c0d, .bool s0x, .slice A0x n0x c0x, .bool s0y, .slice A0y n0y c0y, .bool s0z, .slice A0z n0z c0z] 46)).alloc (.cells #[.bool false, .slice none 0 0, .bool false, .slice none 0 0, .bool false, .slice none 0 0, .bool false, .slice none 0 0, .bool false, .slice none 0 0, .bool false, .slice none 0 0] 46)).alloc (.cells #[.bool s0a, .slice A0a n0a c0a, .bool s0b, .slice A0b n0b c0b, .bool s0d, .slice A0d n0d c0d, .bool s0x, .slice A0x n0x c0x, .bool s0y, .slice A0y n0y c0y, .bool s0z, .slice A0z n0z c0z] 32)) = w1 at hS ⊢
  generalize w.heap.size + 2 = g13 at hS o13 ⊢
  generalize w.heap.size + 1 = g4 at hS o4 ⊢
  generalize w.heap.size = g2 at hS o2 ⊢
  refine (xvalid2_raw g13 b0u b0v false _ (hS.blk 0 rfl) (hV0u.ext hS.ext) (hV0v.ext hS.ext) Hb.out).mono ?_
  rintro e w2 ⟨rfl, hx_⟩
  replace hS := hS.mv hx_
  clear hx_
  have k_2 := (hS.blk 1 rfl).cell
  have k_3 := (hS.blk 1 rfl).frozen
  go_wp2
  replace hS := (St.put (W' := ((((((((((((w2.setCell ⟨g4, 0, none⟩ (.bool false)).setCell ⟨g4, 1, none⟩ (.slice none 0 0)).setCell ⟨g4, 2, none⟩ (.bool false)).setCell ⟨g4, 3, none⟩ (.slice none 0 0)).setCell ⟨g4, 4, none⟩ (.bool false)).setCell ⟨g4, 5, none⟩ (.slice none 0 0)).setCell ⟨g4, 6, none⟩ (.bool false)).setCell ⟨g4, 7, none⟩ (.slice none 0 0)).setCell ⟨g4, 8, none⟩ (.bool false)).setCell ⟨g4, 9, none⟩ (.slice none 0 0)).setCell ⟨g4, 10, none⟩ (.bool false)).setCell ⟨g4, 11, none⟩ (.slice none 0 0))) hS 1 0 [.bool false, .slice none 0 0, .bool false, .slice none 0 0, .bool false, .slice none 0 0, .bool false, .slice none 0 0, .bool false, .slice none 0 0, .bool false, .slice none 0 0] (cs' := #[.bool false, .slice none 0 0, .bool false, .slice none 0 0, .bool false, .slice none 0 0, .bool false, .slice none 0 0, .bool false, .slice none 0 0, .bool false, .slice none 0 0]) (bs' := _) rfl o4 rfl rfl (by kernel_rfl) rfl)
  exact bp_phasor2 rfl rfl rfl (hS.blk 1 rfl) ⟨_, rfl, ⟨_, rfl, RP.mk (RI.zero _) (RI.zero _) (RI.zero _) (RI.zero _) (RI.zero _) (RI.zero _)⟩, hS.ext⟩

set_option maxRecDepth 100000 in
set_option maxHeartbeats 1600000 in
theorem xRound_bad (s0a : Bool) (A0a : Option Addr) (n0a c0a : Nat) (s0b : Bool) (A0b : Option Addr) (n0b c0b : Nat) (s0d : Bool) (A0d : Option Addr) (n0d c0d : Nat) (s0x : Bool) (A0x : Option Addr) (n0x c0x : Nat) (s0y : Bool) (A0y : Option Addr) (n0y c0y : Nat) (s0z : Bool) (A0z : Option Addr) (n0z c0z : Nat) (b0u : Bool) (b0v : Bool) (m1 : Int) (w : World) (hV0u : VB w (gv s0a A0a n0a c0a s0b A0b n0b c0b s0d A0d n0d c0d) b0u) (hV0v : VB w (gv s0x A0x n0x c0x s0y A0y n0y c0y s0z A0z n0z c0z) b0v) (l1 : -9223372036854775808 ≤ m1) (u1 : m1 ≤ 9223372036854775807) (Hb : Hid ([b0u, b0v].all id = false))
      :
    Calls Tryz.prog 55 #[pv s0a A0a n0a c0a s0b A0b n0b c0b s0d A0d n0d c0d s0x A0x n0x c0x s0y A0y n0y c0y s0z A0z n0z c0z, .int .i64 m1] w fun e w' => e = .returned (.tuple #[.int .i64 0, .int .i64 1]) ∧ Ext w w' := by
  have hS := St.start w
  have o2 : Own w w.heap.size := Own.of hS.ext (by simp)
  have hT1 := (St.al hS 46 #[.bool s0a, .slice A0a n0a c0a, .bool s0b, .slice A0b n0b c0b, .bool s0d, .slice A0d n0d c0d, .bool s0x, .slice A0x n0x c0x, .bool s0y, .slice A0y n0y c0y, .bool s0z, .slice A0z n0z c0z] (g := w.heap.size) (by simp))
  have k_1 := (hT1.blk 0 rfl).cell
  have o22 : Own w (w.heap.size + 1) := Own.of hS.ext (by simp)
  go_enter Tryz.func55, Tryz.ntmps55
  go_wp2_with fail
  clear k_1
  clear hT1
  replace hS := (St.al (St.al hS 46 #[.bool s0a, .slice A0a n0a c0a, .bool s0b, .slice A0b n0b c0b, .bool s0d, .slice A0d n0d c0d, .bool s0x, .slice A0x n0x c0x, .bool s0y, .slice A0y n0y c0y, .bool s0z, .slice A0z n0z c0z] (g := w.heap.size) (by simp)) 32 #[.bool s0a, .slice A0a n0a c0a, .bool s0b, .slice A0b n0b c0b, .bool s0d, .slice A0d n0d c0d, .bool s0x, .slice A0x n0x c0x, .bool s0y, .slice A0y n0y c0y, .bool s0z, .slice A0z n0z c0z] (g := (w.heap.size + 1)) (by simp))
  generalize ((w.alloc (.cells #[.bool s0a, .slice A0a n0a c0a, .bool s0b, .slice A0b n0b c0b, .bool s0d, .slice A0d n0d c0d, .bool s0x, .slice A0x n0x c0x, .bool s0y, .slice A0y n0y c0y, .bool s0z, .slice A0z n0z c0z] 46)).alloc (.cells #[.bool s0a, .slice A0a n0a c0a, .bool s0b, .slice A0b n0b c0b, .bool s0d, .slice A0d n0d c0d, .bool s0x, .slice A0x n0x c0x, .bool s0y, .slice A0y n0y c0y, .bool s0z, .slice A0z n0z c0z] 32)) = w1 at hS ⊢
  generalize w.heap.size + 1 = g22 at hS o22 ⊢
  generalize w.heap.size = g2 at hS o2 ⊢
  refine (xvalid2_raw g22 b0u b0v false _ (hS.blk 0 rfl) (hV0u.ext hS.ext) (hV0v.ext hS.ext) Hb.out).mono ?_
  rintro e w2 ⟨rfl, hx_⟩
  replace hS := hS.mv hx_
  clear hx_
  go_wp2
  go_ret2
  exact ⟨rfl, hS.ext⟩

set_option maxRecDepth 100000 in
set_option maxHeartbeats 1600000 in
theorem xRound_badl (s0a : Bool) (A0a : Option Addr) (n0a c0a : Nat) (s0b : Bool) (A0b : Option Addr) (n0b c0b : Nat) (s0d : Bool) (A0d : Option Addr) (n0d c0d : Nat) (s0x : Bool) (A0x : Option Addr) (n0x c0x : Nat) (s0y : Bool) (A0y : Option Addr) (n0y c0y : Nat) (s0z : Bool) (A0z : Option Addr) (n0z c0z : Nat) (b0u : Bool) (b0v : Bool) (m1 : Int) (w : World) (hV0u : VB w (gv s0a A0a n0a c0a s0b A0b n0b c0b s0d A0d n0d c0d) b0u) (hV0v : VB w (gv s0x A0x n0x c0x s0y A0y n0y c0y s0z A0z n0z c0z) b0v) (l1 : -9223372036854775808 ≤ m1) (u1 : m1 ≤ 9223372036854775807) (Hb : Hid ([b0u, b0v].all id = true)) (Hr : Hid (m1 < 1))
      :
    Calls Tryz.prog 55 #[pv s0a A0a n0a c0a s0b A0b n0b c0b s0d A0d n0d c0d s0x A0x n0x c0x s0y A0y n0y c0y s0z A0z n0z c0z, .int .i64 m1] w fun e w' => e = .returned (.tuple #[.int .i64 0, .int .i64 1]) ∧ Ext w w' := by
  have hS := St.start w
  have t1 : decide (m1 < 1) = true := by have := Hr.out; simp; omega
  have o2 : Own w w.heap.size := Own.of hS.ext (by simp)
  have hT1 := (St.al hS 46 #[.bool s0a, .slice A0a n0a c0a, .bool s0b, .slice A0b n0b c0b, .bool s0d, .slice A0d n0d c0d, .bool s0x, .slice A0x n0x c0x, .bool s0y, .slice A0y n0y c0y, .bool s0z, .slice A0z n0z c0z] (g := w.heap.size) (by simp))
  have k_1 := (hT1.blk 0 rfl).cell
  have o22 : Own w (w.heap.size + 1) := Own.of hS.ext (by simp)
  go_enter Tryz.func55, Tryz.ntmps55
  go_wp2_with fail
  clear k_1
  clear hT1
  replace hS := (St.al (St.al hS 46 #[.bool s0a, .slice A0a n0a c0a, .bool s0b, .slice A0b n0b c0b, .bool s0d, .slice A0d n0d c0d, .bool s0x, .slice A0x n0x c0x, .bool s0y, .slice A0y n0y c0y, .bool s0z, .slice A0z n0z c0z] (g := w.heap.size) (by simp)) 32 #[.bool s0a, .slice A0a n0a c0a, .bool s0b, .slice A0b n0b c0b, .bool s0d, .slice A0d n0d c0d, .bool s0x, .slice A0x n0x c0x, .bool s0y, .slice A0y n0y c0y, .bool s0z, .slice A0z n0z c0z] (g := (w.heap.size + 1)) (by simp))
  generalize ((w.alloc (.cells #[.bool s0a, .slice A0a n0a c0a, .bool s0b, .slice A0b n0b c0b, .bool s0d, .slice A0d n0d c0d, .bool s0x, .slice A0x n0x c0x, .bool s0y, .slice A0y n0y c0y, .bool s0z, .slice A0z n0z c0z] 46)).alloc (.cells #[.bool s0a, .slice A0a n0a c0a, .bool s0b, .slice A0b n0b c0b, .bool s0d, .slice A0d n0d c0d, .bool s0x, .slice A0x n0x c0x, .bool s0y, .slice A0y n0y c0y, .bool s0z, .slice A0z n0z c0z] 32)) = w1 at hS ⊢
  generalize w.heap.size + 1 = g22 at hS o22 ⊢
  generalize w.heap.size = g2 at hS o2 ⊢
  refine (xvalid2_raw g22 b0u b0v true _ (hS.blk 0 rfl) (hV0u.ext hS.ext) (hV0v.ext hS.ext) Hb.out).mono ?_
  rintro e w2 ⟨rfl, hx_⟩
  replace hS := hS.mv hx_
  clear hx_
  go_wp2
  go_ret2
  exact ⟨rfl, hS.ext⟩

set_option maxRecDepth 100000 in
set_option maxHeartbeats 1600000 in
theorem xRound_badu (s0a : Bool) (A0a : Option Addr) (n0a c0a : Nat) (s0b : Bool) (A0b : Option Addr) (n0b c0b : Nat) (s0d : Bool) (A0d : Option Addr) (n0d c0d : Nat) (s0x : Bool) (A0x : Option Addr) (n0x c0x : Nat) (s0y : Bool) (A0y : Option Addr) (n0y c0y : Nat) (s0z : Bool) (A0z : Option Addr) (n0z c0z : Nat) (b0u : Bool) (b0v : Bool) (m1 : Int) (w : World) (hV0u : VB w (gv s0a A0a n0a c0a s0b A0b n0b c0b s0d A0d n0d c0d) b0u) (hV0v : VB w (gv s0x A0x n0x c0x s0y A0y n0y c0y s0z A0z n0z c0z) b0v) (l1 : -9223372036854775808 ≤ m1) (u1 : m1 ≤ 9223372036854775807) (Hb : Hid ([b0u, b0v].all id = true)) (Hr : Hid (10000 < m1))
      :
    Calls Tryz.prog 55 #[pv s0a A0a n0a c0a s0b A0b n0b c0b s0d A0d n0d c0d s0x A0x n0x c0x s0y A0y n0y c0y s0z A0z n0z c0z, .int .i64 m1] w fun e w' => e = .returned (.tuple #[.int .i64 0, .int .i64 1]) ∧ Ext w w' := by
  have hS := St.start w
  have t1 : decide (m1 < 1) = false := by have := Hr.out; simp; omega
  have t2 : decide ((10000 : Int) < m1) = true := by have := Hr.out; simp; omega
  have o2 : Own w w.heap.size := Own.of hS.ext (by simp)
  have hT1 := (St.al hS 46 #[.bool s0a, .slice A0a n0a c0a, .bool s0b, .slice A0b n0b c0b, .bool s0d, .slice A0d n0d c0d, .bool s0x, .slice A0x n0x c0x, .bool s0y, .slice A0y n0y c0y, .bool s0z, .slice A0z n0z c0z] (g := w.heap.size) (by simp))
  have k_1 := (hT1.blk 0 rfl).cell
  have o22 : Own w (w.heap.size + 1) := Own.of hS.ext (by simp)
  go_enter Tryz.func55, Tryz.ntmps55
  go_wp2_with fail
  clear k_1
  clear hT1
  replace hS := (St.al (St.al hS 46 #[.bool s0a, .slice A0a n0a c0a, .bool s0b, .slice A0b n0b c0b, .bool s0d, .slice A0d n0d c0d, .bool s0x, .slice A0x n0x c0x, .bool s0y, .slice A0y n0y c0y, .bool s0z, .slice A0z n0z c0z] (g := w.heap.size) (by simp)) 32 #[.bool s0a, .slice A0a n0a c0a, .bool s0b, .slice A0b n0b c0b, .bool s0d, .slice A0d n0d c0d, .bool s0x, .slice A0x n0x c0x, .bool s0y, .slice A0y n0y c0y, .bool s0z, .slice A0z n0z c0z] (g := (w.heap.size + 1)) (by simp))
  generalize ((w.alloc (.cells #[.bool s0a, .slice A0a n0a c0a, .bool s0b, .slice A0b n0b c0b, .bool s0d, .slice A0d n0d c0d, .bool s0x, .slice A0x n0x c0x, .bool s0y, .slice A0y n0y c0y, .bool s0z, .slice A0z n0z c0z] 46)).alloc (.cells #[.bool s0a, .slice A0a n0a c0a, .bool s0b, .slice A0b n0b c0b, .bool s0d, .slice A0d n0d c0d, .bool s0x, .slice A0x n0x c0x, .bool s0y, .slice A0y n0y c0y, .bool s0z, .slice A0z n0z c0z] 32)) = w1 at hS ⊢
  generalize w.heap.size + 1 = g22 at hS o22 ⊢
  generalize w.heap.size = g2 at hS o2 ⊢
  refine (xvalid2_raw g22 b0u b0v true _ (hS.blk 0 rfl) (hV0u.ext hS.ext) (hV0v.ext hS.ext) Hb.out).mono ?_
  rintro e w2 ⟨rfl, hx_⟩
  replace hS := hS.mv hx_
  clear hx_
  go_wp2
  go_ret2
  exact ⟨rfl, hS.ext⟩

set_option maxRecDepth 100000 in
set_option maxHeartbeats 800000 in
theorem eOf_bad (m0 : Int) (m1 : Int) (w : World) (l0 : -9223372036854775808 ≤ m0) (u0 : m0 ≤ 9223372036854775807) (l1 : -9223372036854775808 ≤ m1) (u1 : m1 ≤ 9223372036854775807)
      :
    Calls Tryz.prog 37 #[.int .i64 m0, .int .i64 m1, .int .i64 (0)] w fun e w' => ∃ v, e = .returned v ∧ (∃ u, v = .tuple #[u, .int .i64 21] ∧ RG w' u 0 0 0) ∧ Ext w w' := by
  have hS := St.start w
  have o6 : Own w w.heap.size := Own.of hS.ext (by simp)
  have hT1 := (St.al hS 32 #[.bool false, .slice none 0 0, .bool false, .slice none 0 0, .bool false, .slice none 0 0] (g := w.heap.size) (by simp))
  have k_1 := (hT1.blk 0 rfl).cell
  have k_2 := (hT1.blk 0 rfl).frozen
  go_enter Tryz.func37, Tryz.ntmps37
  go_wp2
  replace hS := (St.al hS 32 #[.bool false, .slice none 0 0, .bool false, .slice none 0 0, .bool false, .slice none 0 0] (g := w.heap.size) (by simp))
  exact bp_gauss2 rfl rfl rfl (hS.blk 0 rfl) ⟨_, rfl, ⟨_, rfl, RG.mk (RI.zero _) (RI.zero _) (RI.zero _)⟩, hS.ext⟩

end Go.Proofs.YtclkkoiaaddllaaGreat
