/- The walk of WaveformChannels. -/
import Derived.Test.YtjeijmnhbckjdaaCd
import Derived.Test.YtjeijmnhbckjdaaCf
import Derived.Test.YtjeijmnhbckjdaaHi
namespace Go.Proofs.Ytjeijmnhbckjdaa
open Go.RowKit
set_option linter.unusedVariables false

set_option maxRecDepth 100000 in
set_option maxHeartbeats 6400000 in
theorem channels_large (s1 s2 s3 s4 s5 s6 : Bool) (A1 A2 A3 A4 A5 A6 : Option Addr) (n1 c1 n2 c2 n3 c3 n4 c4 n5 c5 n6 c6 : Nat) (r L : Int) (w : World) (hs : ((decide (n1 ≤ 6) && decide (n2 ≤ 6) && decide (n3 ≤ 6)) && (decide (n4 ≤ 6) && decide (n5 ≤ 6) && decide (n6 ≤ 6))) = false) :
    Calls Try.prog 3 #[pv s1 A1 n1 c1 s2 A2 n2 c2 s3 A3 n3 c3 s4 A4 n4 c4 s5 A5 n5 c5 s6 A6 n6 c6, .int .i64 r, .int .i64 L] w fun e w' => e = .returned (.bool true) ∧ Ext w w' := by
  have HS := Lib.hid hs; clear hs
  have hB3 := Blk.new w 28 #[.bool s1, .slice A1 n1 c1, .bool s2, .slice A2 n2 c2, .bool s3, .slice A3 n3 c3, .bool s4, .slice A4 n4 c4, .bool s5, .slice A5 n5 c5, .bool s6, .slice A6 n6 c6]
  have hE : Ext w (w.alloc (.cells #[.bool s1, .slice A1 n1 c1, .bool s2, .slice A2 n2 c2, .bool s3, .slice A3 n3 c3, .bool s4, .slice A4 n4 c4, .bool s5, .slice A5 n5 c5, .bool s6, .slice A6 n6 c6] 28)) := Ext.new _ _
  have k0 := hB3.cell
  go_enter Try.func3, Try.ntmps3
  go_wp2_with (refine wpList_load_row rfl 28 _ rfl w.heap.size (by rfl) 28 _ (0, 0) _ hB3 Try.underlying28 rfl (phasor_size rfl) ?_)
  generalize (w.alloc (.cells #[.bool s1, .slice A1 n1 c1, .bool s2, .slice A2 n2 c2, .bool s3, .slice A3 n3 c3, .bool s4, .slice A4 n4 c4, .bool s5, .slice A5 n5 c5, .bool s6, .slice A6 n6 c6] 28)) = w1 at hB3 hE k0 ⊢
  generalize w.heap.size = g3 at hB3 k0 ⊢
  refine (wsmall_any s1 s2 s3 s4 s5 s6 A1 A2 A3 A4 A5 A6 n1 c1 n2 c2 n3 c3 n4 c4 n5 c5 n6 c6 _).mono ?_
  rintro e w2 ⟨rfl, hx⟩
  clear k0
  replace hE := hE.trans hx; replace hB3 := hB3.ext hx
  clear hx
  have k0 := hB3.cell
  rw [HS.out]
  go_wp2_with fail
  refine (lwknown_ok _).mono ?_
  rintro e w3 ⟨rfl, hx⟩
  clear k0
  replace hE := hE.trans hx; replace hB3 := hB3.ext hx
  clear hx
  have k0 := hB3.cell
  go_wp2_with fail
  go_ret
  exact ⟨rfl, hE⟩
set_option maxRecDepth 100000 in
set_option maxHeartbeats 6400000 in
theorem channels_badu (s1 s2 s3 s4 s5 s6 : Bool) (A1 A2 A3 A4 A5 A6 : Option Addr) (n1 c1 n2 c2 n3 c3 n4 c4 n5 c5 n6 c6 : Nat) (b0v : Bool) (r L : Int) (w : World) (hs : ((decide (n1 ≤ 6) && decide (n2 ≤ 6) && decide (n3 ≤ 6)) && (decide (n4 ≤ 6) && decide (n5 ≤ 6) && decide (n6 ≤ 6))) = true) (hU : VB w (gv s1 A1 n1 c1 s2 A2 n2 c2 s3 A3 n3 c3) false) (hV : VB w (gv s4 A4 n4 c4 s5 A5 n5 c5 s6 A6 n6 c6) b0v)  :
    Calls Try.prog 3 #[pv s1 A1 n1 c1 s2 A2 n2 c2 s3 A3 n3 c3 s4 A4 n4 c4 s5 A5 n5 c5 s6 A6 n6 c6, .int .i64 r, .int .i64 L] w fun e w' => e = .returned (.bool true) ∧ Ext w w' := by
  have HS := Lib.hid hs; have HU := Lib.hid hU; have HV := Lib.hid hV; clear hs hU hV
  have hB3 := Blk.new w 28 #[.bool s1, .slice A1 n1 c1, .bool s2, .slice A2 n2 c2, .bool s3, .slice A3 n3 c3, .bool s4, .slice A4 n4 c4, .bool s5, .slice A5 n5 c5, .bool s6, .slice A6 n6 c6]
  have hE : Ext w (w.alloc (.cells #[.bool s1, .slice A1 n1 c1, .bool s2, .slice A2 n2 c2, .bool s3, .slice A3 n3 c3, .bool s4, .slice A4 n4 c4, .bool s5, .slice A5 n5 c5, .bool s6, .slice A6 n6 c6] 28)) := Ext.new _ _
  have k0 := hB3.cell
  go_enter Try.func3, Try.ntmps3
  go_wp2_with (refine wpList_load_row rfl 28 _ rfl w.heap.size (by rfl) 28 _ (0, 0) _ hB3 Try.underlying28 rfl (phasor_size rfl) ?_)
  generalize (w.alloc (.cells #[.bool s1, .slice A1 n1 c1, .bool s2, .slice A2 n2 c2, .bool s3, .slice A3 n3 c3, .bool s4, .slice A4 n4 c4, .bool s5, .slice A5 n5 c5, .bool s6, .slice A6 n6 c6] 28)) = w1 at hB3 hE k0 ⊢
  generalize w.heap.size = g3 at hB3 k0 ⊢
  refine (wsmall_any s1 s2 s3 s4 s5 s6 A1 A2 A3 A4 A5 A6 n1 c1 n2 c2 n3 c3 n4 c4 n5 c5 n6 c6 _).mono ?_
  rintro e w2 ⟨rfl, hx⟩
  clear k0
  replace hE := hE.trans hx; replace hB3 := hB3.ext hx
  clear hx
  have k0 := hB3.cell
  rw [HS.out]
  go_wp2_with (refine wpList_load_row rfl 28 _ rfl g3 (by rfl) 28 _ (0, 0) _ hB3 Try.underlying28 rfl (phasor_size rfl) ?_)
  refine (channel_badu s1 s2 s3 s4 s5 s6 A1 A2 A3 A4 A5 A6 n1 c1 n2 c2 n3 c3 n4 c4 n5 c5 n6 c6 b0v r L _ (HU.out.ext hE) (HV.out.ext hE)).mono ?_
  rintro e w3 ⟨rfl, hx⟩
  clear k0
  replace hE := hE.trans hx; replace hB3 := hB3.ext hx
  clear hx
  have k0 := hB3.cell
  have hE2 := hE.alloc (.cells #[.int .i64 0, .int .i64 0, .int .i64 0, .int .i64 0, .int .i64 0, .int .i64 0, .int .i64 0, .int .i64 0, .int .i64 0, .int .i64 0, .int .i64 0, .int .i64 0] 31); have hB4 := hB3.alloc (.cells #[.int .i64 0, .int .i64 0, .int .i64 0, .int .i64 0, .int .i64 0, .int .i64 0, .int .i64 0, .int .i64 0, .int .i64 0, .int .i64 0, .int .i64 0, .int .i64 0] 31)
  clear k0; have k0 := hB4.cell
  go_wp2_with (refine wpList_store_row rfl 31 _ _ rfl w3.heap.size (#[.int .i64 0, .int .i64 0, .int .i64 0, .int .i64 0, .int .i64 0, .int .i64 0, .int .i64 0, .int .i64 0, .int .i64 0, .int .i64 0, .int .i64 0, .int .i64 0]) rfl rfl 31 #[.int .i64 0, .int .i64 0, .int .i64 0, .int .i64 0, .int .i64 0, .int .i64 0, .int .i64 0, .int .i64 0, .int .i64 0, .int .i64 0, .int .i64 0, .int .i64 0] (Blk.new w3 31 _) (a12_sz rfl) rfl z12_one ?_; rw [World.setRow_alloc_new])
  replace hE := hE2; replace hB3 := hB4; clear hE2 hB4
  generalize w3.alloc (.cells #[.int .i64 0, .int .i64 0, .int .i64 0, .int .i64 0, .int .i64 0, .int .i64 0, .int .i64 0, .int .i64 0, .int .i64 0, .int .i64 0, .int .i64 0, .int .i64 0] 31) = w4 at hE hB3 k0 ⊢
  refine ((HU.out.ext hE).q).mono ?_
  rintro e w5 ⟨rfl, hx⟩
  clear k0
  replace hE := hE.trans hx; replace hB3 := hB3.ext hx
  clear hx
  have k0 := hB3.cell
  go_wp2_with fail
  refine (lwknown_ok _).mono ?_
  rintro e w6 ⟨rfl, hx⟩
  clear k0
  replace hE := hE.trans hx; replace hB3 := hB3.ext hx
  clear hx
  have k0 := hB3.cell
  go_wp2_with fail
  go_ret
  exact ⟨rfl, hE⟩
set_option maxRecDepth 100000 in
set_option maxHeartbeats 6400000 in
theorem channels_badv (s1 s2 s3 s4 s5 s6 : Bool) (A1 A2 A3 A4 A5 A6 : Option Addr) (n1 c1 n2 c2 n3 c3 n4 c4 n5 c5 n6 c6 : Nat) (r L : Int) (w : World) (hs : ((decide (n1 ≤ 6) && decide (n2 ≤ 6) && decide (n3 ≤ 6)) && (decide (n4 ≤ 6) && decide (n5 ≤ 6) && decide (n6 ≤ 6))) = true) (hU : VB w (gv s1 A1 n1 c1 s2 A2 n2 c2 s3 A3 n3 c3) true) (hV : VB w (gv s4 A4 n4 c4 s5 A5 n5 c5 s6 A6 n6 c6) false)  :
    Calls Try.prog 3 #[pv s1 A1 n1 c1 s2 A2 n2 c2 s3 A3 n3 c3 s4 A4 n4 c4 s5 A5 n5 c5 s6 A6 n6 c6, .int .i64 r, .int .i64 L] w fun e w' => e = .returned (.bool true) ∧ Ext w w' := by
  have HS := Lib.hid hs; have HU := Lib.hid hU; have HV := Lib.hid hV; clear hs hU hV
  have hB3 := Blk.new w 28 #[.bool s1, .slice A1 n1 c1, .bool s2, .slice A2 n2 c2, .bool s3, .slice A3 n3 c3, .bool s4, .slice A4 n4 c4, .bool s5, .slice A5 n5 c5, .bool s6, .slice A6 n6 c6]
  have hE : Ext w (w.alloc (.cells #[.bool s1, .slice A1 n1 c1, .bool s2, .slice A2 n2 c2, .bool s3, .slice A3 n3 c3, .bool s4, .slice A4 n4 c4, .bool s5, .slice A5 n5 c5, .bool s6, .slice A6 n6 c6] 28)) := Ext.new _ _
  have k0 := hB3.cell
  go_enter Try.func3, Try.ntmps3
  go_wp2_with (refine wpList_load_row rfl 28 _ rfl w.heap.size (by rfl) 28 _ (0, 0) _ hB3 Try.underlying28 rfl (phasor_size rfl) ?_)
  generalize (w.alloc (.cells #[.bool s1, .slice A1 n1 c1, .bool s2, .slice A2 n2 c2, .bool s3, .slice A3 n3 c3, .bool s4, .slice A4 n4 c4, .bool s5, .slice A5 n5 c5, .bool s6, .slice A6 n6 c6] 28)) = w1 at hB3 hE k0 ⊢
  generalize w.heap.size = g3 at hB3 k0 ⊢
  refine (wsmall_any s1 s2 s3 s4 s5 s6 A1 A2 A3 A4 A5 A6 n1 c1 n2 c2 n3 c3 n4 c4 n5 c5 n6 c6 _).mono ?_
  rintro e w2 ⟨rfl, hx⟩
  clear k0
  replace hE := hE.trans hx; replace hB3 := hB3.ext hx
  clear hx
  have k0 := hB3.cell
  rw [HS.out]
  go_wp2_with (refine wpList_load_row rfl 28 _ rfl g3 (by rfl) 28 _ (0, 0) _ hB3 Try.underlying28 rfl (phasor_size rfl) ?_)
  refine (channel_badv s1 s2 s3 s4 s5 s6 A1 A2 A3 A4 A5 A6 n1 c1 n2 c2 n3 c3 n4 c4 n5 c5 n6 c6 true r L _ (HU.out.ext hE) (HV.out.ext hE)).mono ?_
  rintro e w3 ⟨rfl, hx⟩
  clear k0
  replace hE := hE.trans hx; replace hB3 := hB3.ext hx
  clear hx
  have k0 := hB3.cell
  have hE2 := hE.alloc (.cells #[.int .i64 0, .int .i64 0, .int .i64 0, .int .i64 0, .int .i64 0, .int .i64 0, .int .i64 0, .int .i64 0, .int .i64 0, .int .i64 0, .int .i64 0, .int .i64 0] 31); have hB4 := hB3.alloc (.cells #[.int .i64 0, .int .i64 0, .int .i64 0, .int .i64 0, .int .i64 0, .int .i64 0, .int .i64 0, .int .i64 0, .int .i64 0, .int .i64 0, .int .i64 0, .int .i64 0] 31)
  clear k0; have k0 := hB4.cell
  go_wp2_with (refine wpList_store_row rfl 31 _ _ rfl w3.heap.size (#[.int .i64 0, .int .i64 0, .int .i64 0, .int .i64 0, .int .i64 0, .int .i64 0, .int .i64 0, .int .i64 0, .int .i64 0, .int .i64 0, .int .i64 0, .int .i64 0]) rfl rfl 31 #[.int .i64 0, .int .i64 0, .int .i64 0, .int .i64 0, .int .i64 0, .int .i64 0, .int .i64 0, .int .i64 0, .int .i64 0, .int .i64 0, .int .i64 0, .int .i64 0] (Blk.new w3 31 _) (a12_sz rfl) rfl z12_one ?_; rw [World.setRow_alloc_new])
  replace hE := hE2; replace hB3 := hB4; clear hE2 hB4
  generalize w3.alloc (.cells #[.int .i64 0, .int .i64 0, .int .i64 0, .int .i64 0, .int .i64 0, .int .i64 0, .int .i64 0, .int .i64 0, .int .i64 0, .int .i64 0, .int .i64 0, .int .i64 0] 31) = w4 at hE hB3 k0 ⊢
  refine ((HU.out.ext hE).q).mono ?_
  rintro e w5 ⟨rfl, hx⟩
  clear k0
  replace hE := hE.trans hx; replace hB3 := hB3.ext hx
  clear hx
  have k0 := hB3.cell
  go_wp2_with fail
  refine ((HV.out.ext hE).q).mono ?_
  rintro e w6 ⟨rfl, hx⟩
  clear k0
  replace hE := hE.trans hx; replace hB3 := hB3.ext hx
  clear hx
  have k0 := hB3.cell
  go_wp2_with fail
  refine (lwknown_ok _).mono ?_
  rintro e w7 ⟨rfl, hx⟩
  clear k0
  replace hE := hE.trans hx; replace hB3 := hB3.ext hx
  clear hx
  have k0 := hB3.cell
  go_wp2_with fail
  go_ret
  exact ⟨rfl, hE⟩
set_option maxRecDepth 100000 in
set_option maxHeartbeats 6400000 in
theorem channels_bada (s1 s2 s3 s4 s5 s6 : Bool) (A1 A2 A3 A4 A5 A6 : Option Addr) (n1 c1 n2 c2 n3 c3 n4 c4 n5 c5 n6 c6 : Nat) (r L : Int) (w : World) (hs : ((decide (n1 ≤ 6) && decide (n2 ≤ 6) && decide (n3 ≤ 6)) && (decide (n4 ≤ 6) && decide (n5 ≤ 6) && decide (n6 ≤ 6))) = true) (hU : VB w (gv s1 A1 n1 c1 s2 A2 n2 c2 s3 A3 n3 c3) true) (hV : VB w (gv s4 A4 n4 c4 s5 A5 n5 c5 s6 A6 n6 c6) true) (h : r < 1) :
    Calls Try.prog 3 #[pv s1 A1 n1 c1 s2 A2 n2 c2 s3 A3 n3 c3 s4 A4 n4 c4 s5 A5 n5 c5 s6 A6 n6 c6, .int .i64 r, .int .i64 L] w fun e w' => e = .returned (.bool true) ∧ Ext w w' := by
  have HS := Lib.hid hs; have HU := Lib.hid hU; have HV := Lib.hid hV; clear hs hU hV
  have t1 : decide (r < 1) = true := by simp; omega
  have hB3 := Blk.new w 28 #[.bool s1, .slice A1 n1 c1, .bool s2, .slice A2 n2 c2, .bool s3, .slice A3 n3 c3, .bool s4, .slice A4 n4 c4, .bool s5, .slice A5 n5 c5, .bool s6, .slice A6 n6 c6]
  have hE : Ext w (w.alloc (.cells #[.bool s1, .slice A1 n1 c1, .bool s2, .slice A2 n2 c2, .bool s3, .slice A3 n3 c3, .bool s4, .slice A4 n4 c4, .bool s5, .slice A5 n5 c5, .bool s6, .slice A6 n6 c6] 28)) := Ext.new _ _
  have k0 := hB3.cell
  go_enter Try.func3, Try.ntmps3
  go_wp2_with (refine wpList_load_row rfl 28 _ rfl w.heap.size (by rfl) 28 _ (0, 0) _ hB3 Try.underlying28 rfl (phasor_size rfl) ?_)
  generalize (w.alloc (.cells #[.bool s1, .slice A1 n1 c1, .bool s2, .slice A2 n2 c2, .bool s3, .slice A3 n3 c3, .bool s4, .slice A4 n4 c4, .bool s5, .slice A5 n5 c5, .bool s6, .slice A6 n6 c6] 28)) = w1 at hB3 hE k0 ⊢
  generalize w.heap.size = g3 at hB3 k0 ⊢
  refine (wsmall_any s1 s2 s3 s4 s5 s6 A1 A2 A3 A4 A5 A6 n1 c1 n2 c2 n3 c3 n4 c4 n5 c5 n6 c6 _).mono ?_
  rintro e w2 ⟨rfl, hx⟩
  clear k0
  replace hE := hE.trans hx; replace hB3 := hB3.ext hx
  clear hx
  have k0 := hB3.cell
  rw [HS.out]
  go_wp2_with (refine wpList_load_row rfl 28 _ rfl g3 (by rfl) 28 _ (0, 0) _ hB3 Try.underlying28 rfl (phasor_size rfl) ?_)
  refine (channel_bada s1 s2 s3 s4 s5 s6 A1 A2 A3 A4 A5 A6 n1 c1 n2 c2 n3 c3 n4 c4 n5 c5 n6 c6 true r L _ (HU.out.ext hE) (HV.out.ext hE) h).mono ?_
  rintro e w3 ⟨rfl, hx⟩
  clear k0
  replace hE := hE.trans hx; replace hB3 := hB3.ext hx
  clear hx
  have k0 := hB3.cell
  have hE2 := hE.alloc (.cells #[.int .i64 0, .int .i64 0, .int .i64 0, .int .i64 0, .int .i64 0, .int .i64 0, .int .i64 0, .int .i64 0, .int .i64 0, .int .i64 0, .int .i64 0, .int .i64 0] 31); have hB4 := hB3.alloc (.cells #[.int .i64 0, .int .i64 0, .int .i64 0, .int .i64 0, .int .i64 0, .int .i64 0, .int .i64 0, .int .i64 0, .int .i64 0, .int .i64 0, .int .i64 0, .int .i64 0] 31)
  clear k0; have k0 := hB4.cell
  go_wp2_with (refine wpList_store_row rfl 31 _ _ rfl w3.heap.size (#[.int .i64 0, .int .i64 0, .int .i64 0, .int .i64 0, .int .i64 0, .int .i64 0, .int .i64 0, .int .i64 0, .int .i64 0, .int .i64 0, .int .i64 0, .int .i64 0]) rfl rfl 31 #[.int .i64 0, .int .i64 0, .int .i64 0, .int .i64 0, .int .i64 0, .int .i64 0, .int .i64 0, .int .i64 0, .int .i64 0, .int .i64 0, .int .i64 0, .int .i64 0] (Blk.new w3 31 _) (a12_sz rfl) rfl z12_one ?_; rw [World.setRow_alloc_new])
  replace hE := hE2; replace hB3 := hB4; clear hE2 hB4
  generalize w3.alloc (.cells #[.int .i64 0, .int .i64 0, .int .i64 0, .int .i64 0, .int .i64 0, .int .i64 0, .int .i64 0, .int .i64 0, .int .i64 0, .int .i64 0, .int .i64 0, .int .i64 0] 31) = w4 at hE hB3 k0 ⊢
  refine ((HU.out.ext hE).q).mono ?_
  rintro e w5 ⟨rfl, hx⟩
  clear k0
  replace hE := hE.trans hx; replace hB3 := hB3.ext hx
  clear hx
  have k0 := hB3.cell
  go_wp2_with fail
  refine ((HV.out.ext hE).q).mono ?_
  rintro e w6 ⟨rfl, hx⟩
  clear k0
  replace hE := hE.trans hx; replace hB3 := hB3.ext hx
  clear hx
  have k0 := hB3.cell
  go_wp2_with fail
  refine (lwknown_ok _).mono ?_
  rintro e w7 ⟨rfl, hx⟩
  clear k0
  replace hE := hE.trans hx; replace hB3 := hB3.ext hx
  clear hx
  have k0 := hB3.cell
  go_wp2_with fail
  go_ret
  exact ⟨rfl, hE⟩
set_option maxRecDepth 100000 in
set_option maxHeartbeats 6400000 in
theorem channels_badb (s1 s2 s3 s4 s5 s6 : Bool) (A1 A2 A3 A4 A5 A6 : Option Addr) (n1 c1 n2 c2 n3 c3 n4 c4 n5 c5 n6 c6 : Nat) (r L : Int) (w : World) (hs : ((decide (n1 ≤ 6) && decide (n2 ≤ 6) && decide (n3 ≤ 6)) && (decide (n4 ≤ 6) && decide (n5 ≤ 6) && decide (n6 ≤ 6))) = true) (hU : VB w (gv s1 A1 n1 c1 s2 A2 n2 c2 s3 A3 n3 c3) true) (hV : VB w (gv s4 A4 n4 c4 s5 A5 n5 c5 s6 A6 n6 c6) true) (h : 10000 < r) :
    Calls Try.prog 3 #[pv s1 A1 n1 c1 s2 A2 n2 c2 s3 A3 n3 c3 s4 A4 n4 c4 s5 A5 n5 c5 s6 A6 n6 c6, .int .i64 r, .int .i64 L] w fun e w' => e = .returned (.bool true) ∧ Ext w w' := by
  have HS := Lib.hid hs; have HU := Lib.hid hU; have HV := Lib.hid hV; clear hs hU hV
  have t1 : decide (r < 1) = false := by simp; omega
  have t2 : decide ((10000 : Int) < r) = true := by simp; omega
  have hB3 := Blk.new w 28 #[.bool s1, .slice A1 n1 c1, .bool s2, .slice A2 n2 c2, .bool s3, .slice A3 n3 c3, .bool s4, .slice A4 n4 c4, .bool s5, .slice A5 n5 c5, .bool s6, .slice A6 n6 c6]
  have hE : Ext w (w.alloc (.cells #[.bool s1, .slice A1 n1 c1, .bool s2, .slice A2 n2 c2, .bool s3, .slice A3 n3 c3, .bool s4, .slice A4 n4 c4, .bool s5, .slice A5 n5 c5, .bool s6, .slice A6 n6 c6] 28)) := Ext.new _ _
  have k0 := hB3.cell
  go_enter Try.func3, Try.ntmps3
  go_wp2_with (refine wpList_load_row rfl 28 _ rfl w.heap.size (by rfl) 28 _ (0, 0) _ hB3 Try.underlying28 rfl (phasor_size rfl) ?_)
  generalize (w.alloc (.cells #[.bool s1, .slice A1 n1 c1, .bool s2, .slice A2 n2 c2, .bool s3, .slice A3 n3 c3, .bool s4, .slice A4 n4 c4, .bool s5, .slice A5 n5 c5, .bool s6, .slice A6 n6 c6] 28)) = w1 at hB3 hE k0 ⊢
  generalize w.heap.size = g3 at hB3 k0 ⊢
  refine (wsmall_any s1 s2 s3 s4 s5 s6 A1 A2 A3 A4 A5 A6 n1 c1 n2 c2 n3 c3 n4 c4 n5 c5 n6 c6 _).mono ?_
  rintro e w2 ⟨rfl, hx⟩
  clear k0
  replace hE := hE.trans hx; replace hB3 := hB3.ext hx
  clear hx
  have k0 := hB3.cell
  rw [HS.out]
  go_wp2_with (refine wpList_load_row rfl 28 _ rfl g3 (by rfl) 28 _ (0, 0) _ hB3 Try.underlying28 rfl (phasor_size rfl) ?_)
  refine (channel_badb s1 s2 s3 s4 s5 s6 A1 A2 A3 A4 A5 A6 n1 c1 n2 c2 n3 c3 n4 c4 n5 c5 n6 c6 true r L _ (HU.out.ext hE) (HV.out.ext hE) h).mono ?_
  rintro e w3 ⟨rfl, hx⟩
  clear k0
  replace hE := hE.trans hx; replace hB3 := hB3.ext hx
  clear hx
  have k0 := hB3.cell
  have hE2 := hE.alloc (.cells #[.int .i64 0, .int .i64 0, .int .i64 0, .int .i64 0, .int .i64 0, .int .i64 0, .int .i64 0, .int .i64 0, .int .i64 0, .int .i64 0, .int .i64 0, .int .i64 0] 31); have hB4 := hB3.alloc (.cells #[.int .i64 0, .int .i64 0, .int .i64 0, .int .i64 0, .int .i64 0, .int .i64 0, .int .i64 0, .int .i64 0, .int .i64 0, .int .i64 0, .int .i64 0, .int .i64 0] 31)
  clear k0; have k0 := hB4.cell
  go_wp2_with (refine wpList_store_row rfl 31 _ _ rfl w3.heap.size (#[.int .i64 0, .int .i64 0, .int .i64 0, .int .i64 0, .int .i64 0, .int .i64 0, .int .i64 0, .int .i64 0, .int .i64 0, .int .i64 0, .int .i64 0, .int .i64 0]) rfl rfl 31 #[.int .i64 0, .int .i64 0, .int .i64 0, .int .i64 0, .int .i64 0, .int .i64 0, .int .i64 0, .int .i64 0, .int .i64 0, .int .i64 0, .int .i64 0, .int .i64 0] (Blk.new w3 31 _) (a12_sz rfl) rfl z12_one ?_; rw [World.setRow_alloc_new])
  replace hE := hE2; replace hB3 := hB4; clear hE2 hB4
  generalize w3.alloc (.cells #[.int .i64 0, .int .i64 0, .int .i64 0, .int .i64 0, .int .i64 0, .int .i64 0, .int .i64 0, .int .i64 0, .int .i64 0, .int .i64 0, .int .i64 0, .int .i64 0] 31) = w4 at hE hB3 k0 ⊢
  refine ((HU.out.ext hE).q).mono ?_
  rintro e w5 ⟨rfl, hx⟩
  clear k0
  replace hE := hE.trans hx; replace hB3 := hB3.ext hx
  clear hx
  have k0 := hB3.cell
  go_wp2_with fail
  refine ((HV.out.ext hE).q).mono ?_
  rintro e w6 ⟨rfl, hx⟩
  clear k0
  replace hE := hE.trans hx; replace hB3 := hB3.ext hx
  clear hx
  have k0 := hB3.cell
  go_wp2_with fail
  refine (lwknown_ok _).mono ?_
  rintro e w7 ⟨rfl, hx⟩
  clear k0
  replace hE := hE.trans hx; replace hB3 := hB3.ext hx
  clear hx
  have k0 := hB3.cell
  go_wp2_with fail
  go_ret
  exact ⟨rfl, hE⟩
set_option maxRecDepth 100000 in
set_option maxHeartbeats 6400000 in
theorem channels_badc (s1 s2 s3 s4 s5 s6 : Bool) (A1 A2 A3 A4 A5 A6 : Option Addr) (n1 c1 n2 c2 n3 c3 n4 c4 n5 c5 n6 c6 : Nat) (r L : Int) (w : World) (hs : ((decide (n1 ≤ 6) && decide (n2 ≤ 6) && decide (n3 ≤ 6)) && (decide (n4 ≤ 6) && decide (n5 ≤ 6) && decide (n6 ≤ 6))) = true) (hU : VB w (gv s1 A1 n1 c1 s2 A2 n2 c2 s3 A3 n3 c3) true) (hV : VB w (gv s4 A4 n4 c4 s5 A5 n5 c5 s6 A6 n6 c6) true) (h0 : 1 ≤ r) (h1 : r ≤ 10000) (h : L < 1) :
    Calls Try.prog 3 #[pv s1 A1 n1 c1 s2 A2 n2 c2 s3 A3 n3 c3 s4 A4 n4 c4 s5 A5 n5 c5 s6 A6 n6 c6, .int .i64 r, .int .i64 L] w fun e w' => e = .returned (.bool true) ∧ Ext w w' := by
  have HS := Lib.hid hs; have HU := Lib.hid hU; have HV := Lib.hid hV; clear hs hU hV
  have t1 : decide (r < 1) = false := by simp; omega
  have t2 : decide ((10000 : Int) < r) = false := by simp; omega
  have t3 : decide (L < 1) = true := by simp; omega
  have hB3 := Blk.new w 28 #[.bool s1, .slice A1 n1 c1, .bool s2, .slice A2 n2 c2, .bool s3, .slice A3 n3 c3, .bool s4, .slice A4 n4 c4, .bool s5, .slice A5 n5 c5, .bool s6, .slice A6 n6 c6]
  have hE : Ext w (w.alloc (.cells #[.bool s1, .slice A1 n1 c1, .bool s2, .slice A2 n2 c2, .bool s3, .slice A3 n3 c3, .bool s4, .slice A4 n4 c4, .bool s5, .slice A5 n5 c5, .bool s6, .slice A6 n6 c6] 28)) := Ext.new _ _
  have k0 := hB3.cell
  go_enter Try.func3, Try.ntmps3
  go_wp2_with (refine wpList_load_row rfl 28 _ rfl w.heap.size (by rfl) 28 _ (0, 0) _ hB3 Try.underlying28 rfl (phasor_size rfl) ?_)
  generalize (w.alloc (.cells #[.bool s1, .slice A1 n1 c1, .bool s2, .slice A2 n2 c2, .bool s3, .slice A3 n3 c3, .bool s4, .slice A4 n4 c4, .bool s5, .slice A5 n5 c5, .bool s6, .slice A6 n6 c6] 28)) = w1 at hB3 hE k0 ⊢
  generalize w.heap.size = g3 at hB3 k0 ⊢
  refine (wsmall_any s1 s2 s3 s4 s5 s6 A1 A2 A3 A4 A5 A6 n1 c1 n2 c2 n3 c3 n4 c4 n5 c5 n6 c6 _).mono ?_
  rintro e w2 ⟨rfl, hx⟩
  clear k0
  replace hE := hE.trans hx; replace hB3 := hB3.ext hx
  clear hx
  have k0 := hB3.cell
  rw [HS.out]
  go_wp2_with (refine wpList_load_row rfl 28 _ rfl g3 (by rfl) 28 _ (0, 0) _ hB3 Try.underlying28 rfl (phasor_size rfl) ?_)
  refine (channel_badc s1 s2 s3 s4 s5 s6 A1 A2 A3 A4 A5 A6 n1 c1 n2 c2 n3 c3 n4 c4 n5 c5 n6 c6 true r L _ (HU.out.ext hE) (HV.out.ext hE) h0 h1 h).mono ?_
  rintro e w3 ⟨rfl, hx⟩
  clear k0
  replace hE := hE.trans hx; replace hB3 := hB3.ext hx
  clear hx
  have k0 := hB3.cell
  have hE2 := hE.alloc (.cells #[.int .i64 0, .int .i64 0, .int .i64 0, .int .i64 0, .int .i64 0, .int .i64 0, .int .i64 0, .int .i64 0, .int .i64 0, .int .i64 0, .int .i64 0, .int .i64 0] 31); have hB4 := hB3.alloc (.cells #[.int .i64 0, .int .i64 0, .int .i64 0, .int .i64 0, .int .i64 0, .int .i64 0, .int .i64 0, .int .i64 0, .int .i64 0, .int .i64 0, .int .i64 0, .int .i64 0] 31)
  clear k0; have k0 := hB4.cell
  go_wp2_with (refine wpList_store_row rfl 31 _ _ rfl w3.heap.size (#[.int .i64 0, .int .i64 0, .int .i64 0, .int .i64 0, .int .i64 0, .int .i64 0, .int .i64 0, .int .i64 0, .int .i64 0, .int .i64 0, .int .i64 0, .int .i64 0]) rfl rfl 31 #[.int .i64 0, .int .i64 0, .int .i64 0, .int .i64 0, .int .i64 0, .int .i64 0, .int .i64 0, .int .i64 0, .int .i64 0, .int .i64 0, .int .i64 0, .int .i64 0] (Blk.new w3 31 _) (a12_sz rfl) rfl z12_one ?_; rw [World.setRow_alloc_new])
  replace hE := hE2; replace hB3 := hB4; clear hE2 hB4
  generalize w3.alloc (.cells #[.int .i64 0, .int .i64 0, .int .i64 0, .int .i64 0, .int .i64 0, .int .i64 0, .int .i64 0, .int .i64 0, .int .i64 0, .int .i64 0, .int .i64 0, .int .i64 0] 31) = w4 at hE hB3 k0 ⊢
  refine ((HU.out.ext hE).q).mono ?_
  rintro e w5 ⟨rfl, hx⟩
  clear k0
  replace hE := hE.trans hx; replace hB3 := hB3.ext hx
  clear hx
  have k0 := hB3.cell
  go_wp2_with fail
  refine ((HV.out.ext hE).q).mono ?_
  rintro e w6 ⟨rfl, hx⟩
  clear k0
  replace hE := hE.trans hx; replace hB3 := hB3.ext hx
  clear hx
  have k0 := hB3.cell
  go_wp2_with fail
  refine (lwknown_ok _).mono ?_
  rintro e w7 ⟨rfl, hx⟩
  clear k0
  replace hE := hE.trans hx; replace hB3 := hB3.ext hx
  clear hx
  have k0 := hB3.cell
  go_wp2_with fail
  go_ret
  exact ⟨rfl, hE⟩
set_option maxRecDepth 100000 in
set_option maxHeartbeats 6400000 in
theorem channels_badd (s1 s2 s3 s4 s5 s6 : Bool) (A1 A2 A3 A4 A5 A6 : Option Addr) (n1 c1 n2 c2 n3 c3 n4 c4 n5 c5 n6 c6 : Nat) (r L : Int) (w : World) (hs : ((decide (n1 ≤ 6) && decide (n2 ≤ 6) && decide (n3 ≤ 6)) && (decide (n4 ≤ 6) && decide (n5 ≤ 6) && decide (n6 ≤ 6))) = true) (hU : VB w (gv s1 A1 n1 c1 s2 A2 n2 c2 s3 A3 n3 c3) true) (hV : VB w (gv s4 A4 n4 c4 s5 A5 n5 c5 s6 A6 n6 c6) true) (h0 : 1 ≤ r) (h1 : r ≤ 10000) (h : 16383 < L) :
    Calls Try.prog 3 #[pv s1 A1 n1 c1 s2 A2 n2 c2 s3 A3 n3 c3 s4 A4 n4 c4 s5 A5 n5 c5 s6 A6 n6 c6, .int .i64 r, .int .i64 L] w fun e w' => e = .returned (.bool true) ∧ Ext w w' := by
  have HS := Lib.hid hs; have HU := Lib.hid hU; have HV := Lib.hid hV; clear hs hU hV
  have t1 : decide (r < 1) = false := by simp; omega
  have t2 : decide ((10000 : Int) < r) = false := by simp; omega
  have t3 : decide (L < 1) = false := by simp; omega
  have t4 : decide ((16383 : Int) < L) = true := by simp; omega
  have hB3 := Blk.new w 28 #[.bool s1, .slice A1 n1 c1, .bool s2, .slice A2 n2 c2, .bool s3, .slice A3 n3 c3, .bool s4, .slice A4 n4 c4, .bool s5, .slice A5 n5 c5, .bool s6, .slice A6 n6 c6]
  have hE : Ext w (w.alloc (.cells #[.bool s1, .slice A1 n1 c1, .bool s2, .slice A2 n2 c2, .bool s3, .slice A3 n3 c3, .bool s4, .slice A4 n4 c4, .bool s5, .slice A5 n5 c5, .bool s6, .slice A6 n6 c6] 28)) := Ext.new _ _
  have k0 := hB3.cell
  go_enter Try.func3, Try.ntmps3
  go_wp2_with (refine wpList_load_row rfl 28 _ rfl w.heap.size (by rfl) 28 _ (0, 0) _ hB3 Try.underlying28 rfl (phasor_size rfl) ?_)
  generalize (w.alloc (.cells #[.bool s1, .slice A1 n1 c1, .bool s2, .slice A2 n2 c2, .bool s3, .slice A3 n3 c3, .bool s4, .slice A4 n4 c4, .bool s5, .slice A5 n5 c5, .bool s6, .slice A6 n6 c6] 28)) = w1 at hB3 hE k0 ⊢
  generalize w.heap.size = g3 at hB3 k0 ⊢
  refine (wsmall_any s1 s2 s3 s4 s5 s6 A1 A2 A3 A4 A5 A6 n1 c1 n2 c2 n3 c3 n4 c4 n5 c5 n6 c6 _).mono ?_
  rintro e w2 ⟨rfl, hx⟩
  clear k0
  replace hE := hE.trans hx; replace hB3 := hB3.ext hx
  clear hx
  have k0 := hB3.cell
  rw [HS.out]
  go_wp2_with (refine wpList_load_row rfl 28 _ rfl g3 (by rfl) 28 _ (0, 0) _ hB3 Try.underlying28 rfl (phasor_size rfl) ?_)
  refine (channel_badd s1 s2 s3 s4 s5 s6 A1 A2 A3 A4 A5 A6 n1 c1 n2 c2 n3 c3 n4 c4 n5 c5 n6 c6 true r L _ (HU.out.ext hE) (HV.out.ext hE) h0 h1 h).mono ?_
  rintro e w3 ⟨rfl, hx⟩
  clear k0
  replace hE := hE.trans hx; replace hB3 := hB3.ext hx
  clear hx
  have k0 := hB3.cell
  have hE2 := hE.alloc (.cells #[.int .i64 0, .int .i64 0, .int .i64 0, .int .i64 0, .int .i64 0, .int .i64 0, .int .i64 0, .int .i64 0, .int .i64 0, .int .i64 0, .int .i64 0, .int .i64 0] 31); have hB4 := hB3.alloc (.cells #[.int .i64 0, .int .i64 0, .int .i64 0, .int .i64 0, .int .i64 0, .int .i64 0, .int .i64 0, .int .i64 0, .int .i64 0, .int .i64 0, .int .i64 0, .int .i64 0] 31)
  clear k0; have k0 := hB4.cell
  go_wp2_with (refine wpList_store_row rfl 31 _ _ rfl w3.heap.size (#[.int .i64 0, .int .i64 0, .int .i64 0, .int .i64 0, .int .i64 0, .int .i64 0, .int .i64 0, .int .i64 0, .int .i64 0, .int .i64 0, .int .i64 0, .int .i64 0]) rfl rfl 31 #[.int .i64 0, .int .i64 0, .int .i64 0, .int .i64 0, .int .i64 0, .int .i64 0, .int .i64 0, .int .i64 0, .int .i64 0, .int .i64 0, .int .i64 0, .int .i64 0] (Blk.new w3 31 _) (a12_sz rfl) rfl z12_one ?_; rw [World.setRow_alloc_new])
  replace hE := hE2; replace hB3 := hB4; clear hE2 hB4
  generalize w3.alloc (.cells #[.int .i64 0, .int .i64 0, .int .i64 0, .int .i64 0, .int .i64 0, .int .i64 0, .int .i64 0, .int .i64 0, .int .i64 0, .int .i64 0, .int .i64 0, .int .i64 0] 31) = w4 at hE hB3 k0 ⊢
  refine ((HU.out.ext hE).q).mono ?_
  rintro e w5 ⟨rfl, hx⟩
  clear k0
  replace hE := hE.trans hx; replace hB3 := hB3.ext hx
  clear hx
  have k0 := hB3.cell
  go_wp2_with fail
  refine ((HV.out.ext hE).q).mono ?_
  rintro e w6 ⟨rfl, hx⟩
  clear k0
  replace hE := hE.trans hx; replace hB3 := hB3.ext hx
  clear hx
  have k0 := hB3.cell
  go_wp2_with fail
  refine (lwknown_ok _).mono ?_
  rintro e w7 ⟨rfl, hx⟩
  clear k0
  replace hE := hE.trans hx; replace hB3 := hB3.ext hx
  clear hx
  have k0 := hB3.cell
  go_wp2_with fail
  go_ret
  exact ⟨rfl, hE⟩
set_option maxRecDepth 100000 in
set_option maxHeartbeats 6400000 in
theorem channels_ok (s1 s2 s3 s4 s5 s6 : Bool) (A1 A2 A3 A4 A5 A6 : Option Addr) (n1 c1 n2 c2 n3 c3 n4 c4 n5 c5 n6 c6 : Nat) (p : PQ) (r L : Int) (f : Nat → Int) (w : World) (hs : ((decide (n1 ≤ 6) && decide (n2 ≤ 6) && decide (n3 ≤ 6)) && (decide (n4 ≤ 6) && decide (n5 ≤ 6) && decide (n6 ≤ 6))) = true) (hX : PV w (pv s1 A1 n1 c1 s2 A2 n2 c2 s3 A3 n3 c3 s4 A4 n4 c4 s5 A5 n5 c5 s6 A6 n6 c6) p 192) (r1 : 1 ≤ r) (r2 : r ≤ 10000) (l1 : 1 ≤ L) (l2 : L ≤ 16383) (hf : ∀ k, k < 12 → Rd (p * PQ.zp k) r (f k)) :
    Calls Try.prog 3 #[pv s1 A1 n1 c1 s2 A2 n2 c2 s3 A3 n3 c3 s4 A4 n4 c4 s5 A5 n5 c5 s6 A6 n6 c6, .int .i64 r, .int .i64 L] w fun e w' => e = .returned (.bool true) ∧ Ext w w' := by
  have HS := Lib.hid hs; have HX := Lib.hid hX; have HF := Lib.hid hf; clear hs hX hf
  have t1 : decide (r < 1) = false := by simp; omega
  have t2 : decide ((10000 : Int) < r) = false := by simp; omega
  have t3 : decide (L < 1) = false := by simp; omega
  have t4 : decide ((16383 : Int) < L) = false := by simp; omega
  have hB3 := Blk.new w 28 #[.bool s1, .slice A1 n1 c1, .bool s2, .slice A2 n2 c2, .bool s3, .slice A3 n3 c3, .bool s4, .slice A4 n4 c4, .bool s5, .slice A5 n5 c5, .bool s6, .slice A6 n6 c6]
  have hE : Ext w (w.alloc (.cells #[.bool s1, .slice A1 n1 c1, .bool s2, .slice A2 n2 c2, .bool s3, .slice A3 n3 c3, .bool s4, .slice A4 n4 c4, .bool s5, .slice A5 n5 c5, .bool s6, .slice A6 n6 c6] 28)) := Ext.new _ _
  have k0 := hB3.cell
  go_enter Try.func3, Try.ntmps3
  go_wp2_with (refine wpList_load_row rfl 28 _ rfl w.heap.size (by rfl) 28 _ (0, 0) _ hB3 Try.underlying28 rfl (phasor_size rfl) ?_)
  generalize (w.alloc (.cells #[.bool s1, .slice A1 n1 c1, .bool s2, .slice A2 n2 c2, .bool s3, .slice A3 n3 c3, .bool s4, .slice A4 n4 c4, .bool s5, .slice A5 n5 c5, .bool s6, .slice A6 n6 c6] 28)) = w1 at hB3 hE k0 ⊢
  generalize w.heap.size = g3 at hB3 k0 ⊢
  refine (wsmall_any s1 s2 s3 s4 s5 s6 A1 A2 A3 A4 A5 A6 n1 c1 n2 c2 n3 c3 n4 c4 n5 c5 n6 c6 _).mono ?_
  rintro e w2 ⟨rfl, hx⟩
  clear k0
  replace hE := hE.trans hx; replace hB3 := hB3.ext hx
  clear hx
  have k0 := hB3.cell
  rw [HS.out]
  go_wp2_with (refine wpList_load_row rfl 28 _ rfl g3 (by rfl) 28 _ (0, 0) _ hB3 Try.underlying28 rfl (phasor_size rfl) ?_)
  refine (channel_row _ p 192 r L f _ (HX.out.ext hE) (by omega) r1 r2 l1 l2 HF.out).mono ?_
  rintro e w3 ⟨rfl, hx⟩
  clear k0
  replace hE := hE.trans hx; replace hB3 := hB3.ext hx
  clear hx
  have k0 := hB3.cell
  have hE2 := hE.alloc (.cells (row12 fun j => lm L (f j)) 31); have hB4 := hB3.alloc (.cells (row12 fun j => lm L (f j)) 31); have hB7 := Blk.new w3 31 (row12 fun j => lm L (f j))
  clear k0; have k0 := hB4.cell
  go_wp2_with (refine wpList_store_row rfl 31 _ _ rfl w3.heap.size (row12 fun j => lm L (f j)) rfl rfl 31 #[.int .i64 0, .int .i64 0, .int .i64 0, .int .i64 0, .int .i64 0, .int .i64 0, .int .i64 0, .int .i64 0, .int .i64 0, .int .i64 0, .int .i64 0, .int .i64 0] (Blk.new w3 31 _) (a12_sz (row12_size _)) (z12_row _) (row12_one _) ?_; rw [World.setRow_alloc_new])
  replace hE := hE2; replace hB3 := hB4; clear hE2 hB4
  generalize w3.alloc (.cells (row12 fun j => lm L (f j)) 31) = w4 at hE hB3 hB7 k0 ⊢
  generalize w3.heap.size = g7 at hB7 ⊢
  refine ((HX.out.gu.vb (by omega)).ext hE |>.q).mono ?_
  rintro e w5 ⟨rfl, hx⟩
  clear k0
  replace hE := hE.trans hx; replace hB3 := hB3.ext hx; replace hB7 := hB7.ext hx
  clear hx
  have k0 := hB3.cell
  go_wp2_with fail
  refine ((HX.out.gw.vb (by omega)).ext hE |>.q).mono ?_
  rintro e w6 ⟨rfl, hx⟩
  clear k0
  replace hE := hE.trans hx; replace hB3 := hB3.ext hx; replace hB7 := hB7.ext hx
  clear hx
  have k0 := hB3.cell
  have HE := Lib.hid hE; clear hE k0
  go_wp2_with fail
  go_loopw [52] (fun i wr => ∃ k : Nat, k ≤ 12 ∧ i = .int .i64 k ∧ Ext w6 wr) (fun i _ => 12 - (intOf i).toNat)
  case atStart => exact ⟨0, by omega, rfl, Ext.refl _⟩
  case round =>
    obtain ⟨k, hk, rfl, hx⟩ := hrel
    replace hB3 := hB3.ext hx; replace hB7 := hB7.ext hx
    have HX6 := Lib.hid (HE.out.trans hx)
    by_cases hlt : k < 12
    · have hd : decide ((k : Int) < 12) = true := by simp; omega
      have q1 : (0 : Int) ≤ (k : Int) := by omega
      have q2 : (k : Int) < 12 := by omega
      have LM := IntWalk.wrap64_in (-L) (by omega)
      have YK := ExtOf.cell ((hB7.cell k).trans (row12_at hlt))
      have hne : (lm L (f k) != max (-L) (min L (clamp (f k)))) = false := by simp; unfold lm; omega
      have HNE := Lib.hid hne; clear hne
      go_wp2_with fail
      refine wp_region_ordN [(true, 0), (true, 1), (true, 2), (true, 3), (true, 4), (true, 5), (true, 6), (true, 7), (true, 9), (false, 8), (false, 10), (true, 11), (true, 12), (true, 13)] (by kernel_rfl) (by kernel_rfl) ?_
      refine wpOrd_quiet [0, 1, 2, 3, 4, 5] [(true, 6), (true, 7), (true, 9), (false, 8), (false, 10), (true, 11), (true, 12), (true, 13)] _ (by kernel_rfl) ?_
      simp only [nthOps, nthOp, List.cons_append, List.nil_append]
      repeat (go_big_quiet_step (fail))
      refine wpQuiet_nil ?_
      refine wpOrd_quiet [6] [(true, 7), (true, 9), (false, 8), (false, 10), (true, 11), (true, 12), (true, 13)] _ (by kernel_rfl) ?_
      simp only [nthOps, nthOp, List.cons_append, List.nil_append]
      refine wpQuiet_load_row rfl 28 _ rfl g3 (by rfl) 28 _ (0, 0) _ (by rintro W ⟨x, rfl⟩; exact hB3.ext x.ext) Try.underlying28 rfl (phasor_size rfl) ?_
      refine wpQuiet_nil ?_
      try simp only [Act.put, List.setIfInBounds_toArray, List.set_cons_succ, List.set_cons_zero]
      refine wpOrd_quiet [7, 9] [(false, 8), (false, 10), (true, 11), (true, 12), (true, 13)] _ (by kernel_rfl) ?_
      simp only [nthOps, nthOp, List.cons_append, List.nil_append]
      repeat (go_big_quiet_step (fail))
      refine wpQuiet_nil ?_
      have hB_ : Ext wr wr.drew := (Ext.refl _).drew
      refine wpOrd_act 8 [(false, 10), (true, 11), (true, 12), (true, 13)] (by kernel_rfl) ?_
      intro K hK
      simp only [nthOp]
      go_wp2_with fail
      refine (qTurn_w _ p 192 k k _ (HX.out.ext (HX6.out.trans hB_)) (by omega) (by omega) (Lib.hid (by omega)) hlt (by omega)).mono ?_
      rintro e w8 ⟨v8, rfl, hv8, hx8⟩
      replace hB_ := hB_.trans hx8; clear hx8
      go_wp2
      refine hK _ _ ⟨⟨_, hB_⟩, rfl⟩ ?_
      clear hK K
      refine wpOrd_act 10 [(true, 11), (true, 12), (true, 13)] (by kernel_rfl) ?_
      intro K hK
      simp only [nthOp]
      go_wp2_with fail
      refine (qRound_ok v8 (p * PQ.zp k) (2 * (192 + 2) + 69) r (f k) _ hv8 (by omega) r1 r2 (HF.out k hlt)).mono ?_
      rintro e w9 ⟨rfl, hx9⟩
      replace hB_ := hB_.trans hx9; clear hx9
      go_wp2
      refine hK _ _ ⟨⟨_, hB_⟩, rfl⟩ ?_
      clear hK K YK
      refine wpOrd_quiet [11, 12, 13] [] _ (by kernel_rfl) ?_
      simp only [nthOps, nthOp, List.cons_append, List.nil_append]
      repeat (go_big_quiet_step (fail))
      refine wpQuiet_nil ?_
      simp only [wpOrd]
      rw [HNE.out]
      go_wp2_with fail
      go_roundw
      case rel => exact ⟨k + 1, by omega, by go_num, hx.trans hB_⟩
      case measure => simp [intOf]; omega
    · obtain rfl : k = 12 := by omega
      go_wp2_with fail
      refine (lwknown_ok _).mono ?_
      rintro e w7 ⟨rfl, hx7⟩
      go_wp2_with fail
      go_ret
      exact ⟨rfl, HX6.out.trans hx7⟩
end Go.Proofs.Ytjeijmnhbckjdaa
