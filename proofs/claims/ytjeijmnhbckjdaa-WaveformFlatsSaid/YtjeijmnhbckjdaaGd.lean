/- Numbers that are not valid: the program says so. -/
import Derived.Test.YtjeijmnhbckjdaaGc
import Derived.Test.YtjeijmnhbckjdaaNG
namespace Go.Proofs.Ytjeijmnhbckjdaa
open Go.RowKit
set_option linter.unusedVariables false
set_option maxRecDepth 100000 in
set_option maxHeartbeats 1600000 in
theorem xTurn_bad (s0a : Bool) (A0a : Option Addr) (n0a c0a : Nat) (s0b : Bool) (A0b : Option Addr) (n0b c0b : Nat) (s0d : Bool) (A0d : Option Addr) (n0d c0d : Nat) (s0x : Bool) (A0x : Option Addr) (n0x c0x : Nat) (s0y : Bool) (A0y : Option Addr) (n0y c0y : Nat) (s0z : Bool) (A0z : Option Addr) (n0z c0z : Nat) (b0u : Bool) (b0v : Bool) (m1 : Int) (w : World) (hV0u : VB w (gv s0a A0a n0a c0a s0b A0b n0b c0b s0d A0d n0d c0d) b0u) (hV0v : VB w (gv s0x A0x n0x c0x s0y A0y n0y c0y s0z A0z n0z c0z) b0v) (l1 : -9223372036854775808 ≤ m1) (u1 : m1 ≤ 9223372036854775807) (Hb : Hid ([b0u, b0v].all id = false))
      :
    Calls Try.prog 19 #[pv s0a A0a n0a c0a s0b A0b n0b c0b s0d A0d n0d c0d s0x A0x n0x c0x s0y A0y n0y c0y s0z A0z n0z c0z, .int .i64 m1] w fun e w' => ∃ v, e = .returned v ∧ (∃ u, v = .tuple #[u, .int .i64 1] ∧ RP w' u 0 0 0 0 0 0) ∧ Ext w w' := by
  have hS := St.start w
  have o2 : Own w w.heap.size := Own.of hS.ext (by simp)
  have o4 : Own w (w.heap.size + 1) := Own.of hS.ext (by simp)
  have hT1 := (St.al (St.al hS 28 #[.bool s0a, .slice A0a n0a c0a, .bool s0b, .slice A0b n0b c0b, .bool s0d, .slice A0d n0d c0d, .bool s0x, .slice A0x n0x c0x, .bool s0y, .slice A0y n0y c0y, .bool s0z, .slice A0z n0z c0z] (g := w.heap.size) (by simp)) 28 #[.bool false, .slice none 0 0, .bool false, .slice none 0 0, .bool false, .slice none 0 0, .bool false, .slice none 0 0, .bool false, .slice none 0 0, .bool false, .slice none 0 0] (g := (w.heap.size + 1)) (by simp))
  have k_1 := (hT1.blk 1 rfl).cell
  have o13 : Own w (w.heap.size + 2) := Own.of hS.ext (by simp)
  go_enter Try.func19, Try.ntmps19
  go_wp2_with fail
  clear k_1
  clear hT1
  replace hS := (St.al (St.al (St.al hS 28 #[.bool s0a, .slice A0a n0a c0a, .bool s0b, .slice A0b n0b c0b, .bool s0d, .slice A0d n0d c0d, .bool s0x, .slice A0x n0x c0x, .bool s0y, .slice A0y n0y c0y, .bool s0z, .slice A0z n0z c0z] (g := w.heap.size) (by simp)) 28 #[.bool false, .slice none 0 0, .bool false, .slice none 0 0, .bool false, .slice none 0 0, .bool false, .slice none 0 0, .bool false, .slice none 0 0, .bool false, .slice none 0 0] (g := (w.heap.size + 1)) (by simp)) 26 #[.bool s0a, .slice A0a n0a c0a, .bool s0b, .slice A0b n0b c0b, .bool s0d, .slice A0d n0d c0d, .bool s0x, .slice A0x n0x c0x, .bool s0y, .slice A0y n0y c0y, .bool s0z, .slice A0z n0z c0z] (g := (w.heap.size + 2)) (by simp))
  generalize (((w.alloc (.cells #[.bool s0a, .slice A0a n0a c0a, .bool s0b, .slice A0b n0b c0b, .bool s0d, .slice A0d n0d c0d, .bool s0x, .slice A0x n0x c0x, .bool s0y, .slice A0y n0y c0y, .bool s0z, .slice A0z n0z c0z] 28)).alloc (.cells #[.bool false, .slice none 0 0, .bool false, .slice none 0 0, .bool false, .slice none 0 0, .bool false, .slice none 0 0, .bool false, .slice none 0 0, .bool false, .slice none 0 0] 28)).alloc (.cells #[.bool s0a, .slice A0a n0a c0a, .bool s0b, .slice A0b n0b c0b, .bool s0d, .slice A0d n0d c0d, .bool s0x, .slice A0x n0x c0x, .bool s0y, .slice A0y n0y c0y, .bool s0z, .slice A0z n0z c0z] 26)) = w1 at hS ⊢
  generalize w.heap.size + 2 = g13 at hS o13 ⊢
  generalize w.heap.size + 1 = g4 at hS o4 ⊢
  generalize w.heap.size = g2 at hS o2 ⊢
  refine (xvalid2_raw g13 b0u b0v false _ (hS.blk 0 rfl) (hV0u.ext hS.ext) (hV0v.ext hS.ext) Hb.out).mono ?_
  rintro e w2 ⟨rfl, hx_⟩
  replace hS := hS.mv hx_
  clear hx_
  have k_2 := (hS.blk 1 rfl).cell
  have k_3 := (hS.blk 1 rfl).frozen
  go_wp2
  replace hS := (St.put (W' := ((((((((((((w2.setCell ⟨g4, 0, none⟩ (.bool false)).setCell ⟨g4, 1, none⟩ (.slice none 0 0)).setCell ⟨g4, 2, none⟩ (.bool false)).setCell ⟨g4, 3, none⟩ (.slice none 0 0)).setCell ⟨g4, 4, none⟩ (.bool false)).setCell ⟨g4, 5, none⟩ (.slice none 0 0)).setCell ⟨g4, 6, none⟩ (.bool false)).setCell ⟨g4, 7, none⟩ (.slice none 0 0)).setCell ⟨g4, 8, none⟩ (.bool false)).setCell ⟨g4, 9, none⟩ (.slice none 0 0)).setCell ⟨g4, 10, none⟩ (.bool false)).setCell ⟨g4, 11, none⟩ (.slice none 0 0))) hS 1 0 [.bool false, .slice none 0 0, .bool false, .slice none 0 0, .bool false, .slice none 0 0, .bool false, .slice none 0 0, .bool false, .slice none 0 0, .bool false, .slice none 0 0] (cs' := #[.bool false, .slice none 0 0, .bool false, .slice none 0 0, .bool false, .slice none 0 0, .bool false, .slice none 0 0, .bool false, .slice none 0 0, .bool false, .slice none 0 0]) (bs' := _) rfl o4 rfl rfl (by kernel_rfl) rfl)
  exact bp_phasor2 rfl rfl rfl (hS.blk 1 rfl) ⟨_, rfl, ⟨_, rfl, RP.mk (RI.zero _) (RI.zero _) (RI.zero _) (RI.zero _) (RI.zero _) (RI.zero _)⟩, hS.ext⟩

set_option maxRecDepth 100000 in
set_option maxHeartbeats 1600000 in
theorem xRound_bad (s0a : Bool) (A0a : Option Addr) (n0a c0a : Nat) (s0b : Bool) (A0b : Option Addr) (n0b c0b : Nat) (s0d : Bool) (A0d : Option Addr) (n0d c0d : Nat) (s0x : Bool) (A0x : Option Addr) (n0x c0x : Nat) (s0y : Bool) (A0y : Option Addr) (n0y c0y : Nat) (s0z : Bool) (A0z : Option Addr) (n0z c0z : Nat) (b0u : Bool) (b0v : Bool) (m1 : Int) (w : World) (hV0u : VB w (gv s0a A0a n0a c0a s0b A0b n0b c0b s0d A0d n0d c0d) b0u) (hV0v : VB w (gv s0x A0x n0x c0x s0y A0y n0y c0y s0z A0z n0z c0z) b0v) (l1 : -9223372036854775808 ≤ m1) (u1 : m1 ≤ 9223372036854775807) (Hb : Hid ([b0u, b0v].all id = false))
      :
    Calls Try.prog 20 #[pv s0a A0a n0a c0a s0b A0b n0b c0b s0d A0d n0d c0d s0x A0x n0x c0x s0y A0y n0y c0y s0z A0z n0z c0z, .int .i64 m1] w fun e w' => e = .returned (.tuple #[.int .i64 0, .int .i64 1]) ∧ Ext w w' := by
  have hS := St.start w
  have o2 : Own w w.heap.size := Own.of hS.ext (by simp)
  have hT1 := (St.al hS 28 #[.bool s0a, .slice A0a n0a c0a, .bool s0b, .slice A0b n0b c0b, .bool s0d, .slice A0d n0d c0d, .bool s0x, .slice A0x n0x c0x, .bool s0y, .slice A0y n0y c0y, .bool s0z, .slice A0z n0z c0z] (g := w.heap.size) (by simp))
  have k_1 := (hT1.blk 0 rfl).cell
  have o22 : Own w (w.heap.size + 1) := Own.of hS.ext (by simp)
  go_enter Try.func20, Try.ntmps20
  go_wp2_with fail
  clear k_1
  clear hT1
  replace hS := (St.al (St.al hS 28 #[.bool s0a, .slice A0a n0a c0a, .bool s0b, .slice A0b n0b c0b, .bool s0d, .slice A0d n0d c0d, .bool s0x, .slice A0x n0x c0x, .bool s0y, .slice A0y n0y c0y, .bool s0z, .slice A0z n0z c0z] (g := w.heap.size) (by simp)) 26 #[.bool s0a, .slice A0a n0a c0a, .bool s0b, .slice A0b n0b c0b, .bool s0d, .slice A0d n0d c0d, .bool s0x, .slice A0x n0x c0x, .bool s0y, .slice A0y n0y c0y, .bool s0z, .slice A0z n0z c0z] (g := (w.heap.size + 1)) (by simp))
  generalize ((w.alloc (.cells #[.bool s0a, .slice A0a n0a c0a, .bool s0b, .slice A0b n0b c0b, .bool s0d, .slice A0d n0d c0d, .bool s0x, .slice A0x n0x c0x, .bool s0y, .slice A0y n0y c0y, .bool s0z, .slice A0z n0z c0z] 28)).alloc (.cells #[.bool s0a, .slice A0a n0a c0a, .bool s0b, .slice A0b n0b c0b, .bool s0d, .slice A0d n0d c0d, .bool s0x, .slice A0x n0x c0x, .bool s0y, .slice A0y n0y c0y, .bool s0z, .slice A0z n0z c0z] 26)) = w1 at hS ⊢
  generalize w.heap.size + 1 = g22 at hS o22 ⊢
  generalize w.heap.size = g2 at hS o2 ⊢
  refine (xvalid2_raw g22 b0u b0v false _ (hS.blk 0 rfl) (hV0u.ext hS.ext) (hV0v.ext hS.ext) Hb.out).mono ?_
  rintro e w2 ⟨rfl, hx_⟩
  replace hS := hS.mv hx_
  clear hx_
  go_wp2
  go_ret2
  exact ⟨rfl, hS.ext⟩

set_option maxRecDepth 100000 in
set_option maxHeartbeats 1600000 in
theorem xRound_badl (s0a : Bool) (A0a : Option Addr) (n0a c0a : Nat) (s0b : Bool) (A0b : Option Addr) (n0b c0b : Nat) (s0d : Bool) (A0d : Option Addr) (n0d c0d : Nat) (s0x : Bool) (A0x : Option Addr) (n0x c0x : Nat) (s0y : Bool) (A0y : Option Addr) (n0y c0y : Nat) (s0z : Bool) (A0z : Option Addr) (n0z c0z : Nat) (b0u : Bool) (b0v : Bool) (m1 : Int) (w : World) (hV0u : VB w (gv s0a A0a n0a c0a s0b A0b n0b c0b s0d A0d n0d c0d) b0u) (hV0v : VB w (gv s0x A0x n0x c0x s0y A0y n0y c0y s0z A0z n0z c0z) b0v) (l1 : -9223372036854775808 ≤ m1) (u1 : m1 ≤ 9223372036854775807) (Hb : Hid ([b0u, b0v].all id = true)) (Hr : Hid (m1 < 1))
      :
    Calls Try.prog 20 #[pv s0a A0a n0a c0a s0b A0b n0b c0b s0d A0d n0d c0d s0x A0x n0x c0x s0y A0y n0y c0y s0z A0z n0z c0z, .int .i64 m1] w fun e w' => e = .returned (.tuple #[.int .i64 0, .int .i64 1]) ∧ Ext w w' := by
  have hS := St.start w
  have t1 : decide (m1 < 1) = true := by have := Hr.out; simp; omega
  have o2 : Own w w.heap.size := Own.of hS.ext (by simp)
  have hT1 := (St.al hS 28 #[.bool s0a, .slice A0a n0a c0a, .bool s0b, .slice A0b n0b c0b, .bool s0d, .slice A0d n0d c0d, .bool s0x, .slice A0x n0x c0x, .bool s0y, .slice A0y n0y c0y, .bool s0z, .slice A0z n0z c0z] (g := w.heap.size) (by simp))
  have k_1 := (hT1.blk 0 rfl).cell
  have o22 : Own w (w.heap.size + 1) := Own.of hS.ext (by simp)
  go_enter Try.func20, Try.ntmps20
  go_wp2_with fail
  clear k_1
  clear hT1
  replace hS := (St.al (St.al hS 28 #[.bool s0a, .slice A0a n0a c0a, .bool s0b, .slice A0b n0b c0b, .bool s0d, .slice A0d n0d c0d, .bool s0x, .slice A0x n0x c0x, .bool s0y, .slice A0y n0y c0y, .bool s0z, .slice A0z n0z c0z] (g := w.heap.size) (by simp)) 26 #[.bool s0a, .slice A0a n0a c0a, .bool s0b, .slice A0b n0b c0b, .bool s0d, .slice A0d n0d c0d, .bool s0x, .slice A0x n0x c0x, .bool s0y, .slice A0y n0y c0y, .bool s0z, .slice A0z n0z c0z] (g := (w.heap.size + 1)) (by simp))
  generalize ((w.alloc (.cells #[.bool s0a, .slice A0a n0a c0a, .bool s0b, .slice A0b n0b c0b, .bool s0d, .slice A0d n0d c0d, .bool s0x, .slice A0x n0x c0x, .bool s0y, .slice A0y n0y c0y, .bool s0z, .slice A0z n0z c0z] 28)).alloc (.cells #[.bool s0a, .slice A0a n0a c0a, .bool s0b, .slice A0b n0b c0b, .bool s0d, .slice A0d n0d c0d, .bool s0x, .slice A0x n0x c0x, .bool s0y, .slice A0y n0y c0y, .bool s0z, .slice A0z n0z c0z] 26)) = w1 at hS ⊢
  generalize w.heap.size + 1 = g22 at hS o22 ⊢
  generalize w.heap.size = g2 at hS o2 ⊢
  refine (xvalid2_raw g22 b0u b0v true _ (hS.blk 0 rfl) (hV0u.ext hS.ext) (hV0v.ext hS.ext) Hb.out).mono ?_
  rintro e w2 ⟨rfl, hx_⟩
  replace hS := hS.mv hx_
  clear hx_
  go_wp2
  go_ret2
  exact ⟨rfl, hS.ext⟩

set_option maxRecDepth 100000 in
set_option maxHeartbeats 1600000 in
theorem xRound_badu (s0a : Bool) (A0a : Option Addr) (n0a c0a : Nat) (s0b : Bool) (A0b : Option Addr) (n0b c0b : Nat) (s0d : Bool) (A0d : Option Addr) (n0d c0d : Nat) (s0x : Bool) (A0x : Option Addr) (n0x c0x : Nat) (s0y : Bool) (A0y : Option Addr) (n0y c0y : Nat) (s0z : Bool) (A0z : Option Addr) (n0z c0z : Nat) (b0u : Bool) (b0v : Bool) (m1 : Int) (w : World) (hV0u : VB w (gv s0a A0a n0a c0a s0b A0b n0b c0b s0d A0d n0d c0d) b0u) (hV0v : VB w (gv s0x A0x n0x c0x s0y A0y n0y c0y s0z A0z n0z c0z) b0v) (l1 : -9223372036854775808 ≤ m1) (u1 : m1 ≤ 9223372036854775807) (Hb : Hid ([b0u, b0v].all id = true)) (Hr : Hid (10000 < m1))
      :
    Calls Try.prog 20 #[pv s0a A0a n0a c0a s0b A0b n0b c0b s0d A0d n0d c0d s0x A0x n0x c0x s0y A0y n0y c0y s0z A0z n0z c0z, .int .i64 m1] w fun e w' => e = .returned (.tuple #[.int .i64 0, .int .i64 1]) ∧ Ext w w' := by
  have hS := St.start w
  have t1 : decide (m1 < 1) = false := by have := Hr.out; simp; omega
  have t2 : decide ((10000 : Int) < m1) = true := by have := Hr.out; simp; omega
  have o2 : Own w w.heap.size := Own.of hS.ext (by simp)
  have hT1 := (St.al hS 28 #[.bool s0a, .slice A0a n0a c0a, .bool s0b, .slice A0b n0b c0b, .bool s0d, .slice A0d n0d c0d, .bool s0x, .slice A0x n0x c0x, .bool s0y, .slice A0y n0y c0y, .bool s0z, .slice A0z n0z c0z] (g := w.heap.size) (by simp))
  have k_1 := (hT1.blk 0 rfl).cell
  have o22 : Own w (w.heap.size + 1) := Own.of hS.ext (by simp)
  go_enter Try.func20, Try.ntmps20
  go_wp2_with fail
  clear k_1
  clear hT1
  replace hS := (St.al (St.al hS 28 #[.bool s0a, .slice A0a n0a c0a, .bool s0b, .slice A0b n0b c0b, .bool s0d, .slice A0d n0d c0d, .bool s0x, .slice A0x n0x c0x, .bool s0y, .slice A0y n0y c0y, .bool s0z, .slice A0z n0z c0z] (g := w.heap.size) (by simp)) 26 #[.bool s0a, .slice A0a n0a c0a, .bool s0b, .slice A0b n0b c0b, .bool s0d, .slice A0d n0d c0d, .bool s0x, .slice A0x n0x c0x, .bool s0y, .slice A0y n0y c0y, .bool s0z, .slice A0z n0z c0z] (g := (w.heap.size + 1)) (by simp))
  generalize ((w.alloc (.cells #[.bool s0a, .slice A0a n0a c0a, .bool s0b, .slice A0b n0b c0b, .bool s0d, .slice A0d n0d c0d, .bool s0x, .slice A0x n0x c0x, .bool s0y, .slice A0y n0y c0y, .bool s0z, .slice A0z n0z c0z] 28)).alloc (.cells #[.bool s0a, .slice A0a n0a c0a, .bool s0b, .slice A0b n0b c0b, .bool s0d, .slice A0d n0d c0d, .bool s0x, .slice A0x n0x c0x, .bool s0y, .slice A0y n0y c0y, .bool s0z, .slice A0z n0z c0z] 26)) = w1 at hS ⊢
  generalize w.heap.size + 1 = g22 at hS o22 ⊢
  generalize w.heap.size = g2 at hS o2 ⊢
  refine (xvalid2_raw g22 b0u b0v true _ (hS.blk 0 rfl) (hV0u.ext hS.ext) (hV0v.ext hS.ext) Hb.out).mono ?_
  rintro e w2 ⟨rfl, hx_⟩
  replace hS := hS.mv hx_
  clear hx_
  go_wp2
  go_ret2
  exact ⟨rfl, hS.ext⟩

end Go.Proofs.Ytjeijmnhbckjdaa
