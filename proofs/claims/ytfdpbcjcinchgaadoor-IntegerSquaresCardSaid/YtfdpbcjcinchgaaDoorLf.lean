/- The laws' early returns (printed by wip/tools/gen_skips.py). -/
import Derived.Test.YtfdpbcjcinchgaaDoorLd
namespace Go.Proofs.YtfdpbcjcinchgaaDoor
open Go.RowKit
set_option linter.unusedVariables false

theorem rValid_rx (v : Value) (s : Bool) (l : List Nat) (w : World) (hX : RX w v s l) :
    Calls Tryd.prog 18 #[v] w fun e w' => e = .returned (.bool (validB s l)) ∧ Ext w w' := by
  obtain ⟨A, n, c, rfl, h⟩ := hX
  exact rValid_any s A n c l w h

set_option maxRecDepth 100000 in
set_option maxHeartbeats 1600000 in
theorem euclid_skip0 (v0 v1 : Value) (s0 s1 : Bool) (l0 l1 : List Nat) (w : World) (hX0 : RX w v0 s0 l0) (hX1 : RX w v1 s1 l1) (hlg : ¬ (l0.length ≤ 40 ∧ l1.length ≤ 40)) :
    Calls Tryd.prog 12 #[v0, v1] w fun e w' => e = .returned (.bool true) ∧ Ext w w' := by
  obtain ⟨A0, n0, c0, rfl, hx0⟩ := hX0
  have hn0 := hx0.len
  obtain ⟨A1, n1, c1, rfl, hx1⟩ := hX1
  have hn1 := hx1.len
  rw [hn0, hn1] at hlg
  have HLG := Lib.hid hlg; clear hlg
  have HN0 := Lib.hid hn0; clear hn0
  have hX0 : RX w (iv s0 A0 n0 c0) s0 l0 := ⟨A0, n0, c0, rfl, hx0⟩
  clear hx0
  have HN1 := Lib.hid hn1; clear hn1
  have hX1 : RX w (iv s1 A1 n1 c1) s1 l1 := ⟨A1, n1, c1, rfl, hx1⟩
  clear hx1
  have hE : Ext w ((w.alloc (.cells #[.bool s0, .slice A0 n0 c0] 24)).alloc (.cells #[.bool s1, .slice A1 n1 c1] 24)) := (Ext.new w _).alloc _
  have b2 : Blk ((w.alloc (.cells #[.bool s0, .slice A0 n0 c0] 24)).alloc (.cells #[.bool s1, .slice A1 n1 c1] 24)) (w.heap.size) 24 #[.bool s0, .slice A0 n0 c0] := (Blk.new' _ _ (by simp)).alloc _
  have b3 : Blk ((w.alloc (.cells #[.bool s0, .slice A0 n0 c0] 24)).alloc (.cells #[.bool s1, .slice A1 n1 c1] 24)) (w.heap.size + 1) 24 #[.bool s1, .slice A1 n1 c1] := Blk.new' _ _ (by simp)
  go_enter Tryd.func12, Tryd.ntmps12
  go_wp2_with fail
  generalize ((w.alloc (.cells #[.bool s0, .slice A0 n0 c0] 24)).alloc (.cells #[.bool s1, .slice A1 n1 c1] 24)) = w0 at *
  generalize hg : w.heap.size = g at *
  have HG := Lib.hid hg; clear hg
  replace hX0 := hX0.ext hE
  replace hX1 := hX1.ext hE
  refine (known_any _).mono ?_
  rintro e w1 ⟨rfl, hx_⟩
  replace b2 := b2.ext hx_
  replace b3 := b3.ext hx_
  replace hX0 := hX0.ext hx_
  replace hX1 := hX1.ext hx_
  replace hE := hE.trans hx_
  clear hx_
  have k2 := b2.cell
  have k3 := b3.cell
  go_wp2_with fail
  refine (Large_any w1.heap.size 2 [(A0, n0, c0), (A1, n1, c1)] _ (by simp) (large2 (Blk.new w1 24 #[.bool s0, .slice A0 n0 c0, .bool s1, .slice A1 n1 c1]))).mono ?_
  rintro e w2 ⟨rfl, hx_⟩
  rw [large2_yes HLG.out]
  replace hE := hE.trans ((Ext.new w1 _).trans hx_)
  go_wp2
  go_ret
  exact ⟨rfl, hE⟩

set_option maxRecDepth 100000 in
set_option maxHeartbeats 1600000 in
theorem euclid_skip1 (v0 v1 : Value) (s0 s1 : Bool) (l0 l1 : List Nat) (w : World) (hX0 : RX w v0 s0 l0) (hX1 : RX w v1 s1 l1) (hl0 : l0.length ≤ 40) (hl1 : l1.length ≤ 40) (hv0 : validB s0 l0 = false) :
    Calls Tryd.prog 12 #[v0, v1] w fun e w' => e = .returned (.bool true) ∧ Ext w w' := by
  obtain ⟨A0, n0, c0, rfl, hx0⟩ := hX0
  have hn0 := hx0.len
  obtain ⟨A1, n1, c1, rfl, hx1⟩ := hX1
  have hn1 := hx1.len
  rw [hn0] at hl0
  rw [hn1] at hl1
  have HV0 := Lib.hid hv0; clear hv0
  have HN0 := Lib.hid hn0; clear hn0
  have hX0 : RX w (iv s0 A0 n0 c0) s0 l0 := ⟨A0, n0, c0, rfl, hx0⟩
  clear hx0
  have HN1 := Lib.hid hn1; clear hn1
  have hX1 : RX w (iv s1 A1 n1 c1) s1 l1 := ⟨A1, n1, c1, rfl, hx1⟩
  clear hx1
  have hE : Ext w ((w.alloc (.cells #[.bool s0, .slice A0 n0 c0] 24)).alloc (.cells #[.bool s1, .slice A1 n1 c1] 24)) := (Ext.new w _).alloc _
  have b2 : Blk ((w.alloc (.cells #[.bool s0, .slice A0 n0 c0] 24)).alloc (.cells #[.bool s1, .slice A1 n1 c1] 24)) (w.heap.size) 24 #[.bool s0, .slice A0 n0 c0] := (Blk.new' _ _ (by simp)).alloc _
  have b3 : Blk ((w.alloc (.cells #[.bool s0, .slice A0 n0 c0] 24)).alloc (.cells #[.bool s1, .slice A1 n1 c1] 24)) (w.heap.size + 1) 24 #[.bool s1, .slice A1 n1 c1] := Blk.new' _ _ (by simp)
  go_enter Tryd.func12, Tryd.ntmps12
  go_wp2_with fail
  generalize ((w.alloc (.cells #[.bool s0, .slice A0 n0 c0] 24)).alloc (.cells #[.bool s1, .slice A1 n1 c1] 24)) = w0 at *
  generalize hg : w.heap.size = g at *
  have HG := Lib.hid hg; clear hg
  replace hX0 := hX0.ext hE
  replace hX1 := hX1.ext hE
  refine (known_any _).mono ?_
  rintro e w1 ⟨rfl, hx_⟩
  replace b2 := b2.ext hx_
  replace b3 := b3.ext hx_
  replace hX0 := hX0.ext hx_
  replace hX1 := hX1.ext hx_
  replace hE := hE.trans hx_
  clear hx_
  have k2 := b2.cell
  have k3 := b3.cell
  go_wp2_with fail
  have hbs := Blk.new w1 24 #[.bool s0, .slice A0 n0 c0, .bool s1, .slice A1 n1 c1]
  have hx0 := Ext.new w1 (.cells #[.bool s0, .slice A0 n0 c0, .bool s1, .slice A1 n1 c1] 24)
  replace b2 := b2.ext hx0
  replace b3 := b3.ext hx0
  replace hX0 := hX0.ext hx0
  replace hX1 := hX1.ext hx0
  replace hE := hE.trans hx0
  clear hx0
  refine (Large_any w1.heap.size 2 [(A0, n0, c0), (A1, n1, c1)] _ (by simp) (large2 hbs)).mono ?_
  rintro e w2 ⟨rfl, hx_⟩
  rw [large2_no (by omega) (by omega)]
  replace b2 := b2.ext hx_
  replace b3 := b3.ext hx_
  replace hX0 := hX0.ext hx_
  replace hX1 := hX1.ext hx_
  replace hE := hE.trans hx_
  clear hx_ hbs
  clear k2 k3
  have k2 := b2.cell
  have k3 := b3.cell
  go_wp2_with fail
  refine (rValid_rx _ s0 l0 _ hX0).mono ?_
  rintro e w3 ⟨rfl, hx_⟩
  replace b2 := b2.ext hx_
  replace b3 := b3.ext hx_
  replace hX0 := hX0.ext hx_
  replace hX1 := hX1.ext hx_
  replace hE := hE.trans hx_
  clear hx_
  clear k2 k3
  rw [HV0.out]
  have k2 := b2.cell
  have k3 := b3.cell
  go_wp2
  go_ret
  exact ⟨rfl, hE⟩

set_option maxRecDepth 100000 in
set_option maxHeartbeats 1600000 in
theorem euclid_skip2 (v0 v1 : Value) (s0 s1 : Bool) (l0 l1 : List Nat) (w : World) (hX0 : RX w v0 s0 l0) (hX1 : RX w v1 s1 l1) (hl0 : l0.length ≤ 40) (hl1 : l1.length ≤ 40) (hv0 : validB s0 l0 = true) (hv1 : validB s1 l1 = false) :
    Calls Tryd.prog 12 #[v0, v1] w fun e w' => e = .returned (.bool true) ∧ Ext w w' := by
  obtain ⟨A0, n0, c0, rfl, hx0⟩ := hX0
  have hn0 := hx0.len
  obtain ⟨A1, n1, c1, rfl, hx1⟩ := hX1
  have hn1 := hx1.len
  rw [hn0] at hl0
  rw [hn1] at hl1
  have HV0 := Lib.hid hv0; clear hv0
  have HV1 := Lib.hid hv1; clear hv1
  have HN0 := Lib.hid hn0; clear hn0
  have hX0 : RX w (iv s0 A0 n0 c0) s0 l0 := ⟨A0, n0, c0, rfl, hx0⟩
  clear hx0
  have HN1 := Lib.hid hn1; clear hn1
  have hX1 : RX w (iv s1 A1 n1 c1) s1 l1 := ⟨A1, n1, c1, rfl, hx1⟩
  clear hx1
  have hE : Ext w ((w.alloc (.cells #[.bool s0, .slice A0 n0 c0] 24)).alloc (.cells #[.bool s1, .slice A1 n1 c1] 24)) := (Ext.new w _).alloc _
  have b2 : Blk ((w.alloc (.cells #[.bool s0, .slice A0 n0 c0] 24)).alloc (.cells #[.bool s1, .slice A1 n1 c1] 24)) (w.heap.size) 24 #[.bool s0, .slice A0 n0 c0] := (Blk.new' _ _ (by simp)).alloc _
  have b3 : Blk ((w.alloc (.cells #[.bool s0, .slice A0 n0 c0] 24)).alloc (.cells #[.bool s1, .slice A1 n1 c1] 24)) (w.heap.size + 1) 24 #[.bool s1, .slice A1 n1 c1] := Blk.new' _ _ (by simp)
  go_enter Tryd.func12, Tryd.ntmps12
  go_wp2_with fail
  generalize ((w.alloc (.cells #[.bool s0, .slice A0 n0 c0] 24)).alloc (.cells #[.bool s1, .slice A1 n1 c1] 24)) = w0 at *
  generalize hg : w.heap.size = g at *
  have HG := Lib.hid hg; clear hg
  replace hX0 := hX0.ext hE
  replace hX1 := hX1.ext hE
  refine (known_any _).mono ?_
  rintro e w1 ⟨rfl, hx_⟩
  replace b2 := b2.ext hx_
  replace b3 := b3.ext hx_
  replace hX0 := hX0.ext hx_
  replace hX1 := hX1.ext hx_
  replace hE := hE.trans hx_
  clear hx_
  have k2 := b2.cell
  have k3 := b3.cell
  go_wp2_with fail
  have hbs := Blk.new w1 24 #[.bool s0, .slice A0 n0 c0, .bool s1, .slice A1 n1 c1]
  have hx0 := Ext.new w1 (.cells #[.bool s0, .slice A0 n0 c0, .bool s1, .slice A1 n1 c1] 24)
  replace b2 := b2.ext hx0
  replace b3 := b3.ext hx0
  replace hX0 := hX0.ext hx0
  replace hX1 := hX1.ext hx0
  replace hE := hE.trans hx0
  clear hx0
  refine (Large_any w1.heap.size 2 [(A0, n0, c0), (A1, n1, c1)] _ (by simp) (large2 hbs)).mono ?_
  rintro e w2 ⟨rfl, hx_⟩
  rw [large2_no (by omega) (by omega)]
  replace b2 := b2.ext hx_
  replace b3 := b3.ext hx_
  replace hX0 := hX0.ext hx_
  replace hX1 := hX1.ext hx_
  replace hE := hE.trans hx_
  clear hx_ hbs
  clear k2 k3
  have k2 := b2.cell
  have k3 := b3.cell
  go_wp2_with fail
  refine (rValid_rx _ s0 l0 _ hX0).mono ?_
  rintro e w3 ⟨rfl, hx_⟩
  replace b2 := b2.ext hx_
  replace b3 := b3.ext hx_
  replace hX0 := hX0.ext hx_
  replace hX1 := hX1.ext hx_
  replace hE := hE.trans hx_
  clear hx_
  clear k2 k3
  rw [HV0.out]
  have k2 := b2.cell
  have k3 := b3.cell
  go_wp2_with fail
  refine (rValid_rx _ s1 l1 _ hX1).mono ?_
  rintro e w4 ⟨rfl, hx_⟩
  replace b2 := b2.ext hx_
  replace b3 := b3.ext hx_
  replace hX0 := hX0.ext hx_
  replace hX1 := hX1.ext hx_
  replace hE := hE.trans hx_
  clear hx_
  clear k2 k3
  rw [HV1.out]
  have k2 := b2.cell
  have k3 := b3.cell
  go_wp2
  go_ret
  exact ⟨rfl, hE⟩

set_option maxRecDepth 100000 in
set_option maxHeartbeats 1600000 in
theorem euclid_skip3 (v0 v1 : Value) (s0 s1 : Bool) (l0 l1 : List Nat) (w : World) (hX0 : RX w v0 s0 l0) (hX1 : RX w v1 s1 l1) (hl0 : l0.length ≤ 40) (hl1 : l1.length ≤ 40) (hv0 : validB s0 l0 = true) (hv1 : validB s1 l1 = true) (hz : l1.length = 0) :
    Calls Tryd.prog 12 #[v0, v1] w fun e w' => e = .returned (.bool true) ∧ Ext w w' := by
  obtain ⟨A0, n0, c0, rfl, hx0⟩ := hX0
  have hn0 := hx0.len
  obtain ⟨A1, n1, c1, rfl, hx1⟩ := hX1
  have hn1 := hx1.len
  rw [hn0] at hl0
  rw [hn1] at hl1
  have HV0 := Lib.hid hv0; clear hv0
  have HV1 := Lib.hid hv1; clear hv1
  rw [hn1] at hz
  have t1 : ((n1 : Int) == 0) = true := by simp [hz]
  have t2 : (n1 == 0) = true := by simp [hz]
  have HZ := Lib.hid hz; clear hz
  have HN0 := Lib.hid hn0; clear hn0
  have hX0 : RX w (iv s0 A0 n0 c0) s0 l0 := ⟨A0, n0, c0, rfl, hx0⟩
  clear hx0
  have HN1 := Lib.hid hn1; clear hn1
  have hX1 : RX w (iv s1 A1 n1 c1) s1 l1 := ⟨A1, n1, c1, rfl, hx1⟩
  clear hx1
  have hE : Ext w ((w.alloc (.cells #[.bool s0, .slice A0 n0 c0] 24)).alloc (.cells #[.bool s1, .slice A1 n1 c1] 24)) := (Ext.new w _).alloc _
  have b2 : Blk ((w.alloc (.cells #[.bool s0, .slice A0 n0 c0] 24)).alloc (.cells #[.bool s1, .slice A1 n1 c1] 24)) (w.heap.size) 24 #[.bool s0, .slice A0 n0 c0] := (Blk.new' _ _ (by simp)).alloc _
  have b3 : Blk ((w.alloc (.cells #[.bool s0, .slice A0 n0 c0] 24)).alloc (.cells #[.bool s1, .slice A1 n1 c1] 24)) (w.heap.size + 1) 24 #[.bool s1, .slice A1 n1 c1] := Blk.new' _ _ (by simp)
  go_enter Tryd.func12, Tryd.ntmps12
  go_wp2_with fail
  generalize ((w.alloc (.cells #[.bool s0, .slice A0 n0 c0] 24)).alloc (.cells #[.bool s1, .slice A1 n1 c1] 24)) = w0 at *
  generalize hg : w.heap.size = g at *
  have HG := Lib.hid hg; clear hg
  replace hX0 := hX0.ext hE
  replace hX1 := hX1.ext hE
  refine (known_any _).mono ?_
  rintro e w1 ⟨rfl, hx_⟩
  replace b2 := b2.ext hx_
  replace b3 := b3.ext hx_
  replace hX0 := hX0.ext hx_
  replace hX1 := hX1.ext hx_
  replace hE := hE.trans hx_
  clear hx_
  have k2 := b2.cell
  have k3 := b3.cell
  go_wp2_with fail
  have hbs := Blk.new w1 24 #[.bool s0, .slice A0 n0 c0, .bool s1, .slice A1 n1 c1]
  have hx0 := Ext.new w1 (.cells #[.bool s0, .slice A0 n0 c0, .bool s1, .slice A1 n1 c1] 24)
  replace b2 := b2.ext hx0
  replace b3 := b3.ext hx0
  replace hX0 := hX0.ext hx0
  replace hX1 := hX1.ext hx0
  replace hE := hE.trans hx0
  clear hx0
  refine (Large_any w1.heap.size 2 [(A0, n0, c0), (A1, n1, c1)] _ (by simp) (large2 hbs)).mono ?_
  rintro e w2 ⟨rfl, hx_⟩
  rw [large2_no (by omega) (by omega)]
  replace b2 := b2.ext hx_
  replace b3 := b3.ext hx_
  replace hX0 := hX0.ext hx_
  replace hX1 := hX1.ext hx_
  replace hE := hE.trans hx_
  clear hx_ hbs
  clear k2 k3
  have k2 := b2.cell
  have k3 := b3.cell
  go_wp2_with fail
  refine (rValid_rx _ s0 l0 _ hX0).mono ?_
  rintro e w3 ⟨rfl, hx_⟩
  replace b2 := b2.ext hx_
  replace b3 := b3.ext hx_
  replace hX0 := hX0.ext hx_
  replace hX1 := hX1.ext hx_
  replace hE := hE.trans hx_
  clear hx_
  clear k2 k3
  rw [HV0.out]
  have k2 := b2.cell
  have k3 := b3.cell
  go_wp2_with fail
  refine (rValid_rx _ s1 l1 _ hX1).mono ?_
  rintro e w4 ⟨rfl, hx_⟩
  replace b2 := b2.ext hx_
  replace b3 := b3.ext hx_
  replace hX0 := hX0.ext hx_
  replace hX1 := hX1.ext hx_
  replace hE := hE.trans hx_
  clear hx_
  clear k2 k3
  rw [HV1.out]
  have k2 := b2.cell
  have k3 := b3.cell
  go_wp2
  go_ret
  exact ⟨rfl, hE⟩

set_option maxRecDepth 100000 in
set_option maxHeartbeats 1600000 in
theorem squares_skip0 (v0 v1 : Value) (s0 s1 : Bool) (l0 l1 : List Nat) (w : World) (hX0 : RX w v0 s0 l0) (hX1 : RX w v1 s1 l1) (hlg : ¬ (l0.length ≤ 40 ∧ l1.length ≤ 40)) :
    Calls Tryd.prog 9 #[v0, v1] w fun e w' => e = .returned (.bool true) ∧ Ext w w' := by
  obtain ⟨A0, n0, c0, rfl, hx0⟩ := hX0
  have hn0 := hx0.len
  obtain ⟨A1, n1, c1, rfl, hx1⟩ := hX1
  have hn1 := hx1.len
  rw [hn0, hn1] at hlg
  have HLG := Lib.hid hlg; clear hlg
  have HN0 := Lib.hid hn0; clear hn0
  have hX0 : RX w (iv s0 A0 n0 c0) s0 l0 := ⟨A0, n0, c0, rfl, hx0⟩
  clear hx0
  have HN1 := Lib.hid hn1; clear hn1
  have hX1 : RX w (iv s1 A1 n1 c1) s1 l1 := ⟨A1, n1, c1, rfl, hx1⟩
  clear hx1
  have hE : Ext w ((w.alloc (.cells #[.bool s0, .slice A0 n0 c0] 24)).alloc (.cells #[.bool s1, .slice A1 n1 c1] 24)) := (Ext.new w _).alloc _
  have b2 : Blk ((w.alloc (.cells #[.bool s0, .slice A0 n0 c0] 24)).alloc (.cells #[.bool s1, .slice A1 n1 c1] 24)) (w.heap.size) 24 #[.bool s0, .slice A0 n0 c0] := (Blk.new' _ _ (by simp)).alloc _
  have b3 : Blk ((w.alloc (.cells #[.bool s0, .slice A0 n0 c0] 24)).alloc (.cells #[.bool s1, .slice A1 n1 c1] 24)) (w.heap.size + 1) 24 #[.bool s1, .slice A1 n1 c1] := Blk.new' _ _ (by simp)
  go_enter Tryd.func9, Tryd.ntmps9
  go_wp2_with fail
  generalize ((w.alloc (.cells #[.bool s0, .slice A0 n0 c0] 24)).alloc (.cells #[.bool s1, .slice A1 n1 c1] 24)) = w0 at *
  generalize hg : w.heap.size = g at *
  have HG := Lib.hid hg; clear hg
  replace hX0 := hX0.ext hE
  replace hX1 := hX1.ext hE
  refine (known_any _).mono ?_
  rintro e w1 ⟨rfl, hx_⟩
  replace b2 := b2.ext hx_
  replace b3 := b3.ext hx_
  replace hX0 := hX0.ext hx_
  replace hX1 := hX1.ext hx_
  replace hE := hE.trans hx_
  clear hx_
  have k2 := b2.cell
  have k3 := b3.cell
  go_wp2_with fail
  refine (Large_any w1.heap.size 2 [(A0, n0, c0), (A1, n1, c1)] _ (by simp) (large2 (Blk.new w1 24 #[.bool s0, .slice A0 n0 c0, .bool s1, .slice A1 n1 c1]))).mono ?_
  rintro e w2 ⟨rfl, hx_⟩
  rw [large2_yes HLG.out]
  replace hE := hE.trans ((Ext.new w1 _).trans hx_)
  go_wp2
  go_ret
  exact ⟨rfl, hE⟩

set_option maxRecDepth 100000 in
set_option maxHeartbeats 1600000 in
theorem squares_skip1 (v0 v1 : Value) (s0 s1 : Bool) (l0 l1 : List Nat) (w : World) (hX0 : RX w v0 s0 l0) (hX1 : RX w v1 s1 l1) (hl0 : l0.length ≤ 40) (hl1 : l1.length ≤ 40) (hv0 : validB s0 l0 = false) :
    Calls Tryd.prog 9 #[v0, v1] w fun e w' => e = .returned (.bool true) ∧ Ext w w' := by
  obtain ⟨A0, n0, c0, rfl, hx0⟩ := hX0
  have hn0 := hx0.len
  obtain ⟨A1, n1, c1, rfl, hx1⟩ := hX1
  have hn1 := hx1.len
  rw [hn0] at hl0
  rw [hn1] at hl1
  have HV0 := Lib.hid hv0; clear hv0
  have HN0 := Lib.hid hn0; clear hn0
  have hX0 : RX w (iv s0 A0 n0 c0) s0 l0 := ⟨A0, n0, c0, rfl, hx0⟩
  clear hx0
  have HN1 := Lib.hid hn1; clear hn1
  have hX1 : RX w (iv s1 A1 n1 c1) s1 l1 := ⟨A1, n1, c1, rfl, hx1⟩
  clear hx1
  have hE : Ext w ((w.alloc (.cells #[.bool s0, .slice A0 n0 c0] 24)).alloc (.cells #[.bool s1, .slice A1 n1 c1] 24)) := (Ext.new w _).alloc _
  have b2 : Blk ((w.alloc (.cells #[.bool s0, .slice A0 n0 c0] 24)).alloc (.cells #[.bool s1, .slice A1 n1 c1] 24)) (w.heap.size) 24 #[.bool s0, .slice A0 n0 c0] := (Blk.new' _ _ (by simp)).alloc _
  have b3 : Blk ((w.alloc (.cells #[.bool s0, .slice A0 n0 c0] 24)).alloc (.cells #[.bool s1, .slice A1 n1 c1] 24)) (w.heap.size + 1) 24 #[.bool s1, .slice A1 n1 c1] := Blk.new' _ _ (by simp)
  go_enter Tryd.func9, Tryd.ntmps9
  go_wp2_with fail
  generalize ((w.alloc (.cells #[.bool s0, .slice A0 n0 c0] 24)).alloc (.cells #[.bool s1, .slice A1 n1 c1] 24)) = w0 at *
  generalize hg : w.heap.size = g at *
  have HG := Lib.hid hg; clear hg
  replace hX0 := hX0.ext hE
  replace hX1 := hX1.ext hE
  refine (known_any _).mono ?_
  rintro e w1 ⟨rfl, hx_⟩
  replace b2 := b2.ext hx_
  replace b3 := b3.ext hx_
  replace hX0 := hX0.ext hx_
  replace hX1 := hX1.ext hx_
  replace hE := hE.trans hx_
  clear hx_
  have k2 := b2.cell
  have k3 := b3.cell
  go_wp2_with fail
  have hbs := Blk.new w1 24 #[.bool s0, .slice A0 n0 c0, .bool s1, .slice A1 n1 c1]
  have hx0 := Ext.new w1 (.cells #[.bool s0, .slice A0 n0 c0, .bool s1, .slice A1 n1 c1] 24)
  replace b2 := b2.ext hx0
  replace b3 := b3.ext hx0
  replace hX0 := hX0.ext hx0
  replace hX1 := hX1.ext hx0
  replace hE := hE.trans hx0
  clear hx0
  refine (Large_any w1.heap.size 2 [(A0, n0, c0), (A1, n1, c1)] _ (by simp) (large2 hbs)).mono ?_
  rintro e w2 ⟨rfl, hx_⟩
  rw [large2_no (by omega) (by omega)]
  replace b2 := b2.ext hx_
  replace b3 := b3.ext hx_
  replace hX0 := hX0.ext hx_
  replace hX1 := hX1.ext hx_
  replace hE := hE.trans hx_
  clear hx_ hbs
  clear k2 k3
  have k2 := b2.cell
  have k3 := b3.cell
  go_wp2_with fail
  refine (rValid_rx _ s0 l0 _ hX0).mono ?_
  rintro e w3 ⟨rfl, hx_⟩
  replace b2 := b2.ext hx_
  replace b3 := b3.ext hx_
  replace hX0 := hX0.ext hx_
  replace hX1 := hX1.ext hx_
  replace hE := hE.trans hx_
  clear hx_
  clear k2 k3
  rw [HV0.out]
  have k2 := b2.cell
  have k3 := b3.cell
  go_wp2
  go_ret
  exact ⟨rfl, hE⟩

set_option maxRecDepth 100000 in
set_option maxHeartbeats 1600000 in
theorem squares_skip2 (v0 v1 : Value) (s0 s1 : Bool) (l0 l1 : List Nat) (w : World) (hX0 : RX w v0 s0 l0) (hX1 : RX w v1 s1 l1) (hl0 : l0.length ≤ 40) (hl1 : l1.length ≤ 40) (hv0 : validB s0 l0 = true) (hv1 : validB s1 l1 = false) :
    Calls Tryd.prog 9 #[v0, v1] w fun e w' => e = .returned (.bool true) ∧ Ext w w' := by
  obtain ⟨A0, n0, c0, rfl, hx0⟩ := hX0
  have hn0 := hx0.len
  obtain ⟨A1, n1, c1, rfl, hx1⟩ := hX1
  have hn1 := hx1.len
  rw [hn0] at hl0
  rw [hn1] at hl1
  have HV0 := Lib.hid hv0; clear hv0
  have HV1 := Lib.hid hv1; clear hv1
  have HN0 := Lib.hid hn0; clear hn0
  have hX0 : RX w (iv s0 A0 n0 c0) s0 l0 := ⟨A0, n0, c0, rfl, hx0⟩
  clear hx0
  have HN1 := Lib.hid hn1; clear hn1
  have hX1 : RX w (iv s1 A1 n1 c1) s1 l1 := ⟨A1, n1, c1, rfl, hx1⟩
  clear hx1
  have hE : Ext w ((w.alloc (.cells #[.bool s0, .slice A0 n0 c0] 24)).alloc (.cells #[.bool s1, .slice A1 n1 c1] 24)) := (Ext.new w _).alloc _
  have b2 : Blk ((w.alloc (.cells #[.bool s0, .slice A0 n0 c0] 24)).alloc (.cells #[.bool s1, .slice A1 n1 c1] 24)) (w.heap.size) 24 #[.bool s0, .slice A0 n0 c0] := (Blk.new' _ _ (by simp)).alloc _
  have b3 : Blk ((w.alloc (.cells #[.bool s0, .slice A0 n0 c0] 24)).alloc (.cells #[.bool s1, .slice A1 n1 c1] 24)) (w.heap.size + 1) 24 #[.bool s1, .slice A1 n1 c1] := Blk.new' _ _ (by simp)
  go_enter Tryd.func9, Tryd.ntmps9
  go_wp2_with fail
  generalize ((w.alloc (.cells #[.bool s0, .slice A0 n0 c0] 24)).alloc (.cells #[.bool s1, .slice A1 n1 c1] 24)) = w0 at *
  generalize hg : w.heap.size = g at *
  have HG := Lib.hid hg; clear hg
  replace hX0 := hX0.ext hE
  replace hX1 := hX1.ext hE
  refine (known_any _).mono ?_
  rintro e w1 ⟨rfl, hx_⟩
  replace b2 := b2.ext hx_
  replace b3 := b3.ext hx_
  replace hX0 := hX0.ext hx_
  replace hX1 := hX1.ext hx_
  replace hE := hE.trans hx_
  clear hx_
  have k2 := b2.cell
  have k3 := b3.cell
  go_wp2_with fail
  have hbs := Blk.new w1 24 #[.bool s0, .slice A0 n0 c0, .bool s1, .slice A1 n1 c1]
  have hx0 := Ext.new w1 (.cells #[.bool s0, .slice A0 n0 c0, .bool s1, .slice A1 n1 c1] 24)
  replace b2 := b2.ext hx0
  replace b3 := b3.ext hx0
  replace hX0 := hX0.ext hx0
  replace hX1 := hX1.ext hx0
  replace hE := hE.trans hx0
  clear hx0
  refine (Large_any w1.heap.size 2 [(A0, n0, c0), (A1, n1, c1)] _ (by simp) (large2 hbs)).mono ?_
  rintro e w2 ⟨rfl, hx_⟩
  rw [large2_no (by omega) (by omega)]
  replace b2 := b2.ext hx_
  replace b3 := b3.ext hx_
  replace hX0 := hX0.ext hx_
  replace hX1 := hX1.ext hx_
  replace hE := hE.trans hx_
  clear hx_ hbs
  clear k2 k3
  have k2 := b2.cell
  have k3 := b3.cell
  go_wp2_with fail
  refine (rValid_rx _ s0 l0 _ hX0).mono ?_
  rintro e w3 ⟨rfl, hx_⟩
  replace b2 := b2.ext hx_
  replace b3 := b3.ext hx_
  replace hX0 := hX0.ext hx_
  replace hX1 := hX1.ext hx_
  replace hE := hE.trans hx_
  clear hx_
  clear k2 k3
  rw [HV0.out]
  have k2 := b2.cell
  have k3 := b3.cell
  go_wp2_with fail
  refine (rValid_rx _ s1 l1 _ hX1).mono ?_
  rintro e w4 ⟨rfl, hx_⟩
  replace b2 := b2.ext hx_
  replace b3 := b3.ext hx_
  replace hX0 := hX0.ext hx_
  replace hX1 := hX1.ext hx_
  replace hE := hE.trans hx_
  clear hx_
  clear k2 k3
  rw [HV1.out]
  have k2 := b2.cell
  have k3 := b3.cell
  go_wp2
  go_ret
  exact ⟨rfl, hE⟩

set_option maxRecDepth 100000 in
set_option maxHeartbeats 1600000 in
theorem ring_skip0 (v0 v1 v2 : Value) (s0 s1 s2 : Bool) (l0 l1 l2 : List Nat) (w : World) (hX0 : RX w v0 s0 l0) (hX1 : RX w v1 s1 l1) (hX2 : RX w v2 s2 l2) (hlg : ¬ (l0.length ≤ 40 ∧ l1.length ≤ 40 ∧ l2.length ≤ 40)) :
    Calls Tryd.prog 10 #[v0, v1, v2] w fun e w' => e = .returned (.bool true) ∧ Ext w w' := by
  obtain ⟨A0, n0, c0, rfl, hx0⟩ := hX0
  have hn0 := hx0.len
  obtain ⟨A1, n1, c1, rfl, hx1⟩ := hX1
  have hn1 := hx1.len
  obtain ⟨A2, n2, c2, rfl, hx2⟩ := hX2
  have hn2 := hx2.len
  rw [hn0, hn1, hn2] at hlg
  have HLG := Lib.hid hlg; clear hlg
  have HN0 := Lib.hid hn0; clear hn0
  have hX0 : RX w (iv s0 A0 n0 c0) s0 l0 := ⟨A0, n0, c0, rfl, hx0⟩
  clear hx0
  have HN1 := Lib.hid hn1; clear hn1
  have hX1 : RX w (iv s1 A1 n1 c1) s1 l1 := ⟨A1, n1, c1, rfl, hx1⟩
  clear hx1
  have HN2 := Lib.hid hn2; clear hn2
  have hX2 : RX w (iv s2 A2 n2 c2) s2 l2 := ⟨A2, n2, c2, rfl, hx2⟩
  clear hx2
  have hE : Ext w (((w.alloc (.cells #[.bool s0, .slice A0 n0 c0] 24)).alloc (.cells #[.bool s1, .slice A1 n1 c1] 24)).alloc (.cells #[.bool s2, .slice A2 n2 c2] 24)) := ((Ext.new w _).alloc _).alloc _
  have b3 : Blk (((w.alloc (.cells #[.bool s0, .slice A0 n0 c0] 24)).alloc (.cells #[.bool s1, .slice A1 n1 c1] 24)).alloc (.cells #[.bool s2, .slice A2 n2 c2] 24)) (w.heap.size) 24 #[.bool s0, .slice A0 n0 c0] := ((Blk.new' _ _ (by simp)).alloc _).alloc _
  have b4 : Blk (((w.alloc (.cells #[.bool s0, .slice A0 n0 c0] 24)).alloc (.cells #[.bool s1, .slice A1 n1 c1] 24)).alloc (.cells #[.bool s2, .slice A2 n2 c2] 24)) (w.heap.size + 1) 24 #[.bool s1, .slice A1 n1 c1] := (Blk.new' _ _ (by simp)).alloc _
  have b5 : Blk (((w.alloc (.cells #[.bool s0, .slice A0 n0 c0] 24)).alloc (.cells #[.bool s1, .slice A1 n1 c1] 24)).alloc (.cells #[.bool s2, .slice A2 n2 c2] 24)) (w.heap.size + 2) 24 #[.bool s2, .slice A2 n2 c2] := Blk.new' _ _ (by simp)
  go_enter Tryd.func10, Tryd.ntmps10
  go_wp2_with fail
  generalize (((w.alloc (.cells #[.bool s0, .slice A0 n0 c0] 24)).alloc (.cells #[.bool s1, .slice A1 n1 c1] 24)).alloc (.cells #[.bool s2, .slice A2 n2 c2] 24)) = w0 at *
  generalize hg : w.heap.size = g at *
  have HG := Lib.hid hg; clear hg
  replace hX0 := hX0.ext hE
  replace hX1 := hX1.ext hE
  replace hX2 := hX2.ext hE
  refine (known_any _).mono ?_
  rintro e w1 ⟨rfl, hx_⟩
  replace b3 := b3.ext hx_
  replace b4 := b4.ext hx_
  replace b5 := b5.ext hx_
  replace hX0 := hX0.ext hx_
  replace hX1 := hX1.ext hx_
  replace hX2 := hX2.ext hx_
  replace hE := hE.trans hx_
  clear hx_
  have k3 := b3.cell
  have k4 := b4.cell
  have k5 := b5.cell
  go_wp2_with fail
  refine (Large_any w1.heap.size 3 [(A0, n0, c0), (A1, n1, c1), (A2, n2, c2)] _ (by simp) (large3 (Blk.new w1 24 #[.bool s0, .slice A0 n0 c0, .bool s1, .slice A1 n1 c1, .bool s2, .slice A2 n2 c2]))).mono ?_
  rintro e w2 ⟨rfl, hx_⟩
  rw [large3_yes HLG.out]
  replace hE := hE.trans ((Ext.new w1 _).trans hx_)
  go_wp2
  go_ret
  exact ⟨rfl, hE⟩

set_option maxRecDepth 100000 in
set_option maxHeartbeats 1600000 in
theorem ring_skip1 (v0 v1 v2 : Value) (s0 s1 s2 : Bool) (l0 l1 l2 : List Nat) (w : World) (hX0 : RX w v0 s0 l0) (hX1 : RX w v1 s1 l1) (hX2 : RX w v2 s2 l2) (hl0 : l0.length ≤ 40) (hl1 : l1.length ≤ 40) (hl2 : l2.length ≤ 40) (hv0 : validB s0 l0 = false) :
    Calls Tryd.prog 10 #[v0, v1, v2] w fun e w' => e = .returned (.bool true) ∧ Ext w w' := by
  obtain ⟨A0, n0, c0, rfl, hx0⟩ := hX0
  have hn0 := hx0.len
  obtain ⟨A1, n1, c1, rfl, hx1⟩ := hX1
  have hn1 := hx1.len
  obtain ⟨A2, n2, c2, rfl, hx2⟩ := hX2
  have hn2 := hx2.len
  rw [hn0] at hl0
  rw [hn1] at hl1
  rw [hn2] at hl2
  have HV0 := Lib.hid hv0; clear hv0
  have HN0 := Lib.hid hn0; clear hn0
  have hX0 : RX w (iv s0 A0 n0 c0) s0 l0 := ⟨A0, n0, c0, rfl, hx0⟩
  clear hx0
  have HN1 := Lib.hid hn1; clear hn1
  have hX1 : RX w (iv s1 A1 n1 c1) s1 l1 := ⟨A1, n1, c1, rfl, hx1⟩
  clear hx1
  have HN2 := Lib.hid hn2; clear hn2
  have hX2 : RX w (iv s2 A2 n2 c2) s2 l2 := ⟨A2, n2, c2, rfl, hx2⟩
  clear hx2
  have hE : Ext w (((w.alloc (.cells #[.bool s0, .slice A0 n0 c0] 24)).alloc (.cells #[.bool s1, .slice A1 n1 c1] 24)).alloc (.cells #[.bool s2, .slice A2 n2 c2] 24)) := ((Ext.new w _).alloc _).alloc _
  have b3 : Blk (((w.alloc (.cells #[.bool s0, .slice A0 n0 c0] 24)).alloc (.cells #[.bool s1, .slice A1 n1 c1] 24)).alloc (.cells #[.bool s2, .slice A2 n2 c2] 24)) (w.heap.size) 24 #[.bool s0, .slice A0 n0 c0] := ((Blk.new' _ _ (by simp)).alloc _).alloc _
  have b4 : Blk (((w.alloc (.cells #[.bool s0, .slice A0 n0 c0] 24)).alloc (.cells #[.bool s1, .slice A1 n1 c1] 24)).alloc (.cells #[.bool s2, .slice A2 n2 c2] 24)) (w.heap.size + 1) 24 #[.bool s1, .slice A1 n1 c1] := (Blk.new' _ _ (by simp)).alloc _
  have b5 : Blk (((w.alloc (.cells #[.bool s0, .slice A0 n0 c0] 24)).alloc (.cells #[.bool s1, .slice A1 n1 c1] 24)).alloc (.cells #[.bool s2, .slice A2 n2 c2] 24)) (w.heap.size + 2) 24 #[.bool s2, .slice A2 n2 c2] := Blk.new' _ _ (by simp)
  go_enter Tryd.func10, Tryd.ntmps10
  go_wp2_with fail
  generalize (((w.alloc (.cells #[.bool s0, .slice A0 n0 c0] 24)).alloc (.cells #[.bool s1, .slice A1 n1 c1] 24)).alloc (.cells #[.bool s2, .slice A2 n2 c2] 24)) = w0 at *
  generalize hg : w.heap.size = g at *
  have HG := Lib.hid hg; clear hg
  replace hX0 := hX0.ext hE
  replace hX1 := hX1.ext hE
  replace hX2 := hX2.ext hE
  refine (known_any _).mono ?_
  rintro e w1 ⟨rfl, hx_⟩
  replace b3 := b3.ext hx_
  replace b4 := b4.ext hx_
  replace b5 := b5.ext hx_
  replace hX0 := hX0.ext hx_
  replace hX1 := hX1.ext hx_
  replace hX2 := hX2.ext hx_
  replace hE := hE.trans hx_
  clear hx_
  have k3 := b3.cell
  have k4 := b4.cell
  have k5 := b5.cell
  go_wp2_with fail
  have hbs := Blk.new w1 24 #[.bool s0, .slice A0 n0 c0, .bool s1, .slice A1 n1 c1, .bool s2, .slice A2 n2 c2]
  have hx0 := Ext.new w1 (.cells #[.bool s0, .slice A0 n0 c0, .bool s1, .slice A1 n1 c1, .bool s2, .slice A2 n2 c2] 24)
  replace b3 := b3.ext hx0
  replace b4 := b4.ext hx0
  replace b5 := b5.ext hx0
  replace hX0 := hX0.ext hx0
  replace hX1 := hX1.ext hx0
  replace hX2 := hX2.ext hx0
  replace hE := hE.trans hx0
  clear hx0
  refine (Large_any w1.heap.size 3 [(A0, n0, c0), (A1, n1, c1), (A2, n2, c2)] _ (by simp) (large3 hbs)).mono ?_
  rintro e w2 ⟨rfl, hx_⟩
  rw [large3_no (by omega) (by omega) (by omega)]
  replace b3 := b3.ext hx_
  replace b4 := b4.ext hx_
  replace b5 := b5.ext hx_
  replace hX0 := hX0.ext hx_
  replace hX1 := hX1.ext hx_
  replace hX2 := hX2.ext hx_
  replace hE := hE.trans hx_
  clear hx_ hbs
  clear k3 k4 k5
  have k3 := b3.cell
  have k4 := b4.cell
  have k5 := b5.cell
  go_wp2_with fail
  refine (rValid_rx _ s0 l0 _ hX0).mono ?_
  rintro e w3 ⟨rfl, hx_⟩
  replace b3 := b3.ext hx_
  replace b4 := b4.ext hx_
  replace b5 := b5.ext hx_
  replace hX0 := hX0.ext hx_
  replace hX1 := hX1.ext hx_
  replace hX2 := hX2.ext hx_
  replace hE := hE.trans hx_
  clear hx_
  clear k3 k4 k5
  rw [HV0.out]
  have k3 := b3.cell
  have k4 := b4.cell
  have k5 := b5.cell
  go_wp2
  go_ret
  exact ⟨rfl, hE⟩

set_option maxRecDepth 100000 in
set_option maxHeartbeats 1600000 in
theorem ring_skip2 (v0 v1 v2 : Value) (s0 s1 s2 : Bool) (l0 l1 l2 : List Nat) (w : World) (hX0 : RX w v0 s0 l0) (hX1 : RX w v1 s1 l1) (hX2 : RX w v2 s2 l2) (hl0 : l0.length ≤ 40) (hl1 : l1.length ≤ 40) (hl2 : l2.length ≤ 40) (hv0 : validB s0 l0 = true) (hv1 : validB s1 l1 = false) :
    Calls Tryd.prog 10 #[v0, v1, v2] w fun e w' => e = .returned (.bool true) ∧ Ext w w' := by
  obtain ⟨A0, n0, c0, rfl, hx0⟩ := hX0
  have hn0 := hx0.len
  obtain ⟨A1, n1, c1, rfl, hx1⟩ := hX1
  have hn1 := hx1.len
  obtain ⟨A2, n2, c2, rfl, hx2⟩ := hX2
  have hn2 := hx2.len
  rw [hn0] at hl0
  rw [hn1] at hl1
  rw [hn2] at hl2
  have HV0 := Lib.hid hv0; clear hv0
  have HV1 := Lib.hid hv1; clear hv1
  have HN0 := Lib.hid hn0; clear hn0
  have hX0 : RX w (iv s0 A0 n0 c0) s0 l0 := ⟨A0, n0, c0, rfl, hx0⟩
  clear hx0
  have HN1 := Lib.hid hn1; clear hn1
  have hX1 : RX w (iv s1 A1 n1 c1) s1 l1 := ⟨A1, n1, c1, rfl, hx1⟩
  clear hx1
  have HN2 := Lib.hid hn2; clear hn2
  have hX2 : RX w (iv s2 A2 n2 c2) s2 l2 := ⟨A2, n2, c2, rfl, hx2⟩
  clear hx2
  have hE : Ext w (((w.alloc (.cells #[.bool s0, .slice A0 n0 c0] 24)).alloc (.cells #[.bool s1, .slice A1 n1 c1] 24)).alloc (.cells #[.bool s2, .slice A2 n2 c2] 24)) := ((Ext.new w _).alloc _).alloc _
  have b3 : Blk (((w.alloc (.cells #[.bool s0, .slice A0 n0 c0] 24)).alloc (.cells #[.bool s1, .slice A1 n1 c1] 24)).alloc (.cells #[.bool s2, .slice A2 n2 c2] 24)) (w.heap.size) 24 #[.bool s0, .slice A0 n0 c0] := ((Blk.new' _ _ (by simp)).alloc _).alloc _
  have b4 : Blk (((w.alloc (.cells #[.bool s0, .slice A0 n0 c0] 24)).alloc (.cells #[.bool s1, .slice A1 n1 c1] 24)).alloc (.cells #[.bool s2, .slice A2 n2 c2] 24)) (w.heap.size + 1) 24 #[.bool s1, .slice A1 n1 c1] := (Blk.new' _ _ (by simp)).alloc _
  have b5 : Blk (((w.alloc (.cells #[.bool s0, .slice A0 n0 c0] 24)).alloc (.cells #[.bool s1, .slice A1 n1 c1] 24)).alloc (.cells #[.bool s2, .slice A2 n2 c2] 24)) (w.heap.size + 2) 24 #[.bool s2, .slice A2 n2 c2] := Blk.new' _ _ (by simp)
  go_enter Tryd.func10, Tryd.ntmps10
  go_wp2_with fail
  generalize (((w.alloc (.cells #[.bool s0, .slice A0 n0 c0] 24)).alloc (.cells #[.bool s1, .slice A1 n1 c1] 24)).alloc (.cells #[.bool s2, .slice A2 n2 c2] 24)) = w0 at *
  generalize hg : w.heap.size = g at *
  have HG := Lib.hid hg; clear hg
  replace hX0 := hX0.ext hE
  replace hX1 := hX1.ext hE
  replace hX2 := hX2.ext hE
  refine (known_any _).mono ?_
  rintro e w1 ⟨rfl, hx_⟩
  replace b3 := b3.ext hx_
  replace b4 := b4.ext hx_
  replace b5 := b5.ext hx_
  replace hX0 := hX0.ext hx_
  replace hX1 := hX1.ext hx_
  replace hX2 := hX2.ext hx_
  replace hE := hE.trans hx_
  clear hx_
  have k3 := b3.cell
  have k4 := b4.cell
  have k5 := b5.cell
  go_wp2_with fail
  have hbs := Blk.new w1 24 #[.bool s0, .slice A0 n0 c0, .bool s1, .slice A1 n1 c1, .bool s2, .slice A2 n2 c2]
  have hx0 := Ext.new w1 (.cells #[.bool s0, .slice A0 n0 c0, .bool s1, .slice A1 n1 c1, .bool s2, .slice A2 n2 c2] 24)
  replace b3 := b3.ext hx0
  replace b4 := b4.ext hx0
  replace b5 := b5.ext hx0
  replace hX0 := hX0.ext hx0
  replace hX1 := hX1.ext hx0
  replace hX2 := hX2.ext hx0
  replace hE := hE.trans hx0
  clear hx0
  refine (Large_any w1.heap.size 3 [(A0, n0, c0), (A1, n1, c1), (A2, n2, c2)] _ (by simp) (large3 hbs)).mono ?_
  rintro e w2 ⟨rfl, hx_⟩
  rw [large3_no (by omega) (by omega) (by omega)]
  replace b3 := b3.ext hx_
  replace b4 := b4.ext hx_
  replace b5 := b5.ext hx_
  replace hX0 := hX0.ext hx_
  replace hX1 := hX1.ext hx_
  replace hX2 := hX2.ext hx_
  replace hE := hE.trans hx_
  clear hx_ hbs
  clear k3 k4 k5
  have k3 := b3.cell
  have k4 := b4.cell
  have k5 := b5.cell
  go_wp2_with fail
  refine (rValid_rx _ s0 l0 _ hX0).mono ?_
  rintro e w3 ⟨rfl, hx_⟩
  replace b3 := b3.ext hx_
  replace b4 := b4.ext hx_
  replace b5 := b5.ext hx_
  replace hX0 := hX0.ext hx_
  replace hX1 := hX1.ext hx_
  replace hX2 := hX2.ext hx_
  replace hE := hE.trans hx_
  clear hx_
  clear k3 k4 k5
  rw [HV0.out]
  have k3 := b3.cell
  have k4 := b4.cell
  have k5 := b5.cell
  go_wp2_with fail
  refine (rValid_rx _ s1 l1 _ hX1).mono ?_
  rintro e w4 ⟨rfl, hx_⟩
  replace b3 := b3.ext hx_
  replace b4 := b4.ext hx_
  replace b5 := b5.ext hx_
  replace hX0 := hX0.ext hx_
  replace hX1 := hX1.ext hx_
  replace hX2 := hX2.ext hx_
  replace hE := hE.trans hx_
  clear hx_
  clear k3 k4 k5
  rw [HV1.out]
  have k3 := b3.cell
  have k4 := b4.cell
  have k5 := b5.cell
  go_wp2
  go_ret
  exact ⟨rfl, hE⟩

set_option maxRecDepth 100000 in
set_option maxHeartbeats 1600000 in
theorem ring_skip3 (v0 v1 v2 : Value) (s0 s1 s2 : Bool) (l0 l1 l2 : List Nat) (w : World) (hX0 : RX w v0 s0 l0) (hX1 : RX w v1 s1 l1) (hX2 : RX w v2 s2 l2) (hl0 : l0.length ≤ 40) (hl1 : l1.length ≤ 40) (hl2 : l2.length ≤ 40) (hv0 : validB s0 l0 = true) (hv1 : validB s1 l1 = true) (hv2 : validB s2 l2 = false) :
    Calls Tryd.prog 10 #[v0, v1, v2] w fun e w' => e = .returned (.bool true) ∧ Ext w w' := by
  obtain ⟨A0, n0, c0, rfl, hx0⟩ := hX0
  have hn0 := hx0.len
  obtain ⟨A1, n1, c1, rfl, hx1⟩ := hX1
  have hn1 := hx1.len
  obtain ⟨A2, n2, c2, rfl, hx2⟩ := hX2
  have hn2 := hx2.len
  rw [hn0] at hl0
  rw [hn1] at hl1
  rw [hn2] at hl2
  have HV0 := Lib.hid hv0; clear hv0
  have HV1 := Lib.hid hv1; clear hv1
  have HV2 := Lib.hid hv2; clear hv2
  have HN0 := Lib.hid hn0; clear hn0
  have hX0 : RX w (iv s0 A0 n0 c0) s0 l0 := ⟨A0, n0, c0, rfl, hx0⟩
  clear hx0
  have HN1 := Lib.hid hn1; clear hn1
  have hX1 : RX w (iv s1 A1 n1 c1) s1 l1 := ⟨A1, n1, c1, rfl, hx1⟩
  clear hx1
  have HN2 := Lib.hid hn2; clear hn2
  have hX2 : RX w (iv s2 A2 n2 c2) s2 l2 := ⟨A2, n2, c2, rfl, hx2⟩
  clear hx2
  have hE : Ext w (((w.alloc (.cells #[.bool s0, .slice A0 n0 c0] 24)).alloc (.cells #[.bool s1, .slice A1 n1 c1] 24)).alloc (.cells #[.bool s2, .slice A2 n2 c2] 24)) := ((Ext.new w _).alloc _).alloc _
  have b3 : Blk (((w.alloc (.cells #[.bool s0, .slice A0 n0 c0] 24)).alloc (.cells #[.bool s1, .slice A1 n1 c1] 24)).alloc (.cells #[.bool s2, .slice A2 n2 c2] 24)) (w.heap.size) 24 #[.bool s0, .slice A0 n0 c0] := ((Blk.new' _ _ (by simp)).alloc _).alloc _
  have b4 : Blk (((w.alloc (.cells #[.bool s0, .slice A0 n0 c0] 24)).alloc (.cells #[.bool s1, .slice A1 n1 c1] 24)).alloc (.cells #[.bool s2, .slice A2 n2 c2] 24)) (w.heap.size + 1) 24 #[.bool s1, .slice A1 n1 c1] := (Blk.new' _ _ (by simp)).alloc _
  have b5 : Blk (((w.alloc (.cells #[.bool s0, .slice A0 n0 c0] 24)).alloc (.cells #[.bool s1, .slice A1 n1 c1] 24)).alloc (.cells #[.bool s2, .slice A2 n2 c2] 24)) (w.heap.size + 2) 24 #[.bool s2, .slice A2 n2 c2] := Blk.new' _ _ (by simp)
  go_enter Tryd.func10, Tryd.ntmps10
  go_wp2_with fail
  generalize (((w.alloc (.cells #[.bool s0, .slice A0 n0 c0] 24)).alloc (.cells #[.bool s1, .slice A1 n1 c1] 24)).alloc (.cells #[.bool s2, .slice A2 n2 c2] 24)) = w0 at *
  generalize hg : w.heap.size = g at *
  have HG := Lib.hid hg; clear hg
  replace hX0 := hX0.ext hE
  replace hX1 := hX1.ext hE
  replace hX2 := hX2.ext hE
  refine (known_any _).mono ?_
  rintro e w1 ⟨rfl, hx_⟩
  replace b3 := b3.ext hx_
  replace b4 := b4.ext hx_
  replace b5 := b5.ext hx_
  replace hX0 := hX0.ext hx_
  replace hX1 := hX1.ext hx_
  replace hX2 := hX2.ext hx_
  replace hE := hE.trans hx_
  clear hx_
  have k3 := b3.cell
  have k4 := b4.cell
  have k5 := b5.cell
  go_wp2_with fail
  have hbs := Blk.new w1 24 #[.bool s0, .slice A0 n0 c0, .bool s1, .slice A1 n1 c1, .bool s2, .slice A2 n2 c2]
  have hx0 := Ext.new w1 (.cells #[.bool s0, .slice A0 n0 c0, .bool s1, .slice A1 n1 c1, .bool s2, .slice A2 n2 c2] 24)
  replace b3 := b3.ext hx0
  replace b4 := b4.ext hx0
  replace b5 := b5.ext hx0
  replace hX0 := hX0.ext hx0
  replace hX1 := hX1.ext hx0
  replace hX2 := hX2.ext hx0
  replace hE := hE.trans hx0
  clear hx0
  refine (Large_any w1.heap.size 3 [(A0, n0, c0), (A1, n1, c1), (A2, n2, c2)] _ (by simp) (large3 hbs)).mono ?_
  rintro e w2 ⟨rfl, hx_⟩
  rw [large3_no (by omega) (by omega) (by omega)]
  replace b3 := b3.ext hx_
  replace b4 := b4.ext hx_
  replace b5 := b5.ext hx_
  replace hX0 := hX0.ext hx_
  replace hX1 := hX1.ext hx_
  replace hX2 := hX2.ext hx_
  replace hE := hE.trans hx_
  clear hx_ hbs
  clear k3 k4 k5
  have k3 := b3.cell
  have k4 := b4.cell
  have k5 := b5.cell
  go_wp2_with fail
  refine (rValid_rx _ s0 l0 _ hX0).mono ?_
  rintro e w3 ⟨rfl, hx_⟩
  replace b3 := b3.ext hx_
  replace b4 := b4.ext hx_
  replace b5 := b5.ext hx_
  replace hX0 := hX0.ext hx_
  replace hX1 := hX1.ext hx_
  replace hX2 := hX2.ext hx_
  replace hE := hE.trans hx_
  clear hx_
  clear k3 k4 k5
  rw [HV0.out]
  have k3 := b3.cell
  have k4 := b4.cell
  have k5 := b5.cell
  go_wp2_with fail
  refine (rValid_rx _ s1 l1 _ hX1).mono ?_
  rintro e w4 ⟨rfl, hx_⟩
  replace b3 := b3.ext hx_
  replace b4 := b4.ext hx_
  replace b5 := b5.ext hx_
  replace hX0 := hX0.ext hx_
  replace hX1 := hX1.ext hx_
  replace hX2 := hX2.ext hx_
  replace hE := hE.trans hx_
  clear hx_
  clear k3 k4 k5
  rw [HV1.out]
  have k3 := b3.cell
  have k4 := b4.cell
  have k5 := b5.cell
  go_wp2_with fail
  refine (rValid_rx _ s2 l2 _ hX2).mono ?_
  rintro e w5 ⟨rfl, hx_⟩
  replace b3 := b3.ext hx_
  replace b4 := b4.ext hx_
  replace b5 := b5.ext hx_
  replace hX0 := hX0.ext hx_
  replace hX1 := hX1.ext hx_
  replace hX2 := hX2.ext hx_
  replace hE := hE.trans hx_
  clear hx_
  clear k3 k4 k5
  rw [HV2.out]
  have k3 := b3.cell
  have k4 := b4.cell
  have k5 := b5.cell
  go_wp2
  go_ret
  exact ⟨rfl, hE⟩

end Go.Proofs.YtfdpbcjcinchgaaDoor
