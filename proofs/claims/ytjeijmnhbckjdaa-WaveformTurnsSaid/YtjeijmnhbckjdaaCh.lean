/- The walk of WaveformTurns. -/
import Derived.Test.YtjeijmnhbckjdaaCd
import Derived.Test.YtjeijmnhbckjdaaCf
import Derived.Test.YtjeijmnhbckjdaaGh
namespace Go.Proofs.Ytjeijmnhbckjdaa
open Go.RowKit
set_option linter.unusedVariables false

theorem zp_next (p : PQ) (k : Nat) (hk : k < 12) : p * PQ.zp 1 * PQ.zp k = p * PQ.zp ((k + 1) % 12) := by
  rw [PQ.mul_assoc', ← PQ.zp_add]
  by_cases h : k = 11
  · subst h
    show p * PQ.zp 12 = p * PQ.zp 0
    have e : PQ.zp 12 = PQ.zp 0 := by
      show PQ.zp 11 * PQ.z = PQ.zp 0
      rw [PQ.zp11, PQ.mk4_mul, PQ.zp0]
      congr 1 <;> grind
    rw [e]
  · rw [Nat.mod_eq_of_lt (by omega), Nat.add_comm]

set_option maxRecDepth 100000 in
set_option maxHeartbeats 6400000 in
theorem turns_large (s1 s2 s3 s4 s5 s6 : Bool) (A1 A2 A3 A4 A5 A6 : Option Addr) (n1 c1 n2 c2 n3 c3 n4 c4 n5 c5 n6 c6 : Nat) (b0v : Bool) (r L : Int) (w : World) (hs : ((decide (n1 ≤ 6) && decide (n2 ≤ 6) && decide (n3 ≤ 6)) && (decide (n4 ≤ 6) && decide (n5 ≤ 6) && decide (n6 ≤ 6))) = false)  :
    Calls Try.prog 5 #[pv s1 A1 n1 c1 s2 A2 n2 c2 s3 A3 n3 c3 s4 A4 n4 c4 s5 A5 n5 c5 s6 A6 n6 c6, .int .i64 r, .int .i64 L] w fun e w' => e = .returned (.bool true) ∧ Ext w w' := by
  have HS := Lib.hid hs; clear hs
  have hB3 := Blk.new w 28 #[.bool s1, .slice A1 n1 c1, .bool s2, .slice A2 n2 c2, .bool s3, .slice A3 n3 c3, .bool s4, .slice A4 n4 c4, .bool s5, .slice A5 n5 c5, .bool s6, .slice A6 n6 c6]
  have hE : Ext w (w.alloc (.cells #[.bool s1, .slice A1 n1 c1, .bool s2, .slice A2 n2 c2, .bool s3, .slice A3 n3 c3, .bool s4, .slice A4 n4 c4, .bool s5, .slice A5 n5 c5, .bool s6, .slice A6 n6 c6] 28)) := Ext.new _ _
  have k0 := hB3.cell
  go_enter Try.func5, Try.ntmps5
  go_wp2_with (refine wpList_load_row rfl 28 _ rfl w.heap.size (by rfl) 28 _ (0, 0) _ hB3 Try.underlying28 rfl (phasor_size rfl) ?_)
  generalize (w.alloc (.cells #[.bool s1, .slice A1 n1 c1, .bool s2, .slice A2 n2 c2, .bool s3, .slice A3 n3 c3, .bool s4, .slice A4 n4 c4, .bool s5, .slice A5 n5 c5, .bool s6, .slice A6 n6 c6] 28)) = w1 at hB3 hE k0 ⊢
  generalize w.heap.size = g3 at hB3 k0 ⊢
  refine (wsmall_any s1 s2 s3 s4 s5 s6 A1 A2 A3 A4 A5 A6 n1 c1 n2 c2 n3 c3 n4 c4 n5 c5 n6 c6 _).mono ?_
  rintro e w2 ⟨rfl, hx⟩
  clear k0
  replace hE := hE.trans hx; replace hB3 := hB3.ext hx
  clear hx
  have k0 := hB3.cell
  rw [HS.out]
  go_wp2_with fail
  refine (lwknown_ok _).mono ?_
  rintro e w3 ⟨rfl, hx⟩
  clear k0
  replace hE := hE.trans hx; replace hB3 := hB3.ext hx
  clear hx
  have k0 := hB3.cell
  go_wp2_with fail
  go_ret
  exact ⟨rfl, hE⟩
set_option maxRecDepth 100000 in
set_option maxHeartbeats 6400000 in
theorem turns_u (s1 s2 s3 s4 s5 s6 : Bool) (A1 A2 A3 A4 A5 A6 : Option Addr) (n1 c1 n2 c2 n3 c3 n4 c4 n5 c5 n6 c6 : Nat) (b0v : Bool) (r L : Int) (w : World) (hs : ((decide (n1 ≤ 6) && decide (n2 ≤ 6) && decide (n3 ≤ 6)) && (decide (n4 ≤ 6) && decide (n5 ≤ 6) && decide (n6 ≤ 6))) = true) (hU : VB w (gv s1 A1 n1 c1 s2 A2 n2 c2 s3 A3 n3 c3) false) (hV : VB w (gv s4 A4 n4 c4 s5 A5 n5 c5 s6 A6 n6 c6) b0v)  :
    Calls Try.prog 5 #[pv s1 A1 n1 c1 s2 A2 n2 c2 s3 A3 n3 c3 s4 A4 n4 c4 s5 A5 n5 c5 s6 A6 n6 c6, .int .i64 r, .int .i64 L] w fun e w' => e = .returned (.bool true) ∧ Ext w w' := by
  have HS := Lib.hid hs; clear hs
  have HU := Lib.hid hU; have HV := Lib.hid hV; clear hU hV
  have hB3 := Blk.new w 28 #[.bool s1, .slice A1 n1 c1, .bool s2, .slice A2 n2 c2, .bool s3, .slice A3 n3 c3, .bool s4, .slice A4 n4 c4, .bool s5, .slice A5 n5 c5, .bool s6, .slice A6 n6 c6]
  have hE : Ext w (w.alloc (.cells #[.bool s1, .slice A1 n1 c1, .bool s2, .slice A2 n2 c2, .bool s3, .slice A3 n3 c3, .bool s4, .slice A4 n4 c4, .bool s5, .slice A5 n5 c5, .bool s6, .slice A6 n6 c6] 28)) := Ext.new _ _
  have k0 := hB3.cell
  go_enter Try.func5, Try.ntmps5
  go_wp2_with (refine wpList_load_row rfl 28 _ rfl w.heap.size (by rfl) 28 _ (0, 0) _ hB3 Try.underlying28 rfl (phasor_size rfl) ?_)
  generalize (w.alloc (.cells #[.bool s1, .slice A1 n1 c1, .bool s2, .slice A2 n2 c2, .bool s3, .slice A3 n3 c3, .bool s4, .slice A4 n4 c4, .bool s5, .slice A5 n5 c5, .bool s6, .slice A6 n6 c6] 28)) = w1 at hB3 hE k0 ⊢
  generalize w.heap.size = g3 at hB3 k0 ⊢
  refine (wsmall_any s1 s2 s3 s4 s5 s6 A1 A2 A3 A4 A5 A6 n1 c1 n2 c2 n3 c3 n4 c4 n5 c5 n6 c6 _).mono ?_
  rintro e w2 ⟨rfl, hx⟩
  clear k0
  replace hE := hE.trans hx; replace hB3 := hB3.ext hx
  clear hx
  have k0 := hB3.cell
  rw [HS.out]
  go_wp2_with fail
  refine ((HU.out.ext hE).q).mono ?_
  rintro e w3 ⟨rfl, hx⟩
  clear k0
  replace hE := hE.trans hx; replace hB3 := hB3.ext hx
  clear hx
  have k0 := hB3.cell
  go_wp2_with fail
  refine (lwknown_ok _).mono ?_
  rintro e w4 ⟨rfl, hx⟩
  clear k0
  replace hE := hE.trans hx; replace hB3 := hB3.ext hx
  clear hx
  have k0 := hB3.cell
  go_wp2_with fail
  go_ret
  exact ⟨rfl, hE⟩
set_option maxRecDepth 100000 in
set_option maxHeartbeats 6400000 in
theorem turns_v (s1 s2 s3 s4 s5 s6 : Bool) (A1 A2 A3 A4 A5 A6 : Option Addr) (n1 c1 n2 c2 n3 c3 n4 c4 n5 c5 n6 c6 : Nat) (b0v : Bool) (r L : Int) (w : World) (hs : ((decide (n1 ≤ 6) && decide (n2 ≤ 6) && decide (n3 ≤ 6)) && (decide (n4 ≤ 6) && decide (n5 ≤ 6) && decide (n6 ≤ 6))) = true) (hU : VB w (gv s1 A1 n1 c1 s2 A2 n2 c2 s3 A3 n3 c3) true) (hV : VB w (gv s4 A4 n4 c4 s5 A5 n5 c5 s6 A6 n6 c6) false)  :
    Calls Try.prog 5 #[pv s1 A1 n1 c1 s2 A2 n2 c2 s3 A3 n3 c3 s4 A4 n4 c4 s5 A5 n5 c5 s6 A6 n6 c6, .int .i64 r, .int .i64 L] w fun e w' => e = .returned (.bool true) ∧ Ext w w' := by
  have HS := Lib.hid hs; clear hs
  have HU := Lib.hid hU; have HV := Lib.hid hV; clear hU hV
  have hB3 := Blk.new w 28 #[.bool s1, .slice A1 n1 c1, .bool s2, .slice A2 n2 c2, .bool s3, .slice A3 n3 c3, .bool s4, .slice A4 n4 c4, .bool s5, .slice A5 n5 c5, .bool s6, .slice A6 n6 c6]
  have hE : Ext w (w.alloc (.cells #[.bool s1, .slice A1 n1 c1, .bool s2, .slice A2 n2 c2, .bool s3, .slice A3 n3 c3, .bool s4, .slice A4 n4 c4, .bool s5, .slice A5 n5 c5, .bool s6, .slice A6 n6 c6] 28)) := Ext.new _ _
  have k0 := hB3.cell
  go_enter Try.func5, Try.ntmps5
  go_wp2_with (refine wpList_load_row rfl 28 _ rfl w.heap.size (by rfl) 28 _ (0, 0) _ hB3 Try.underlying28 rfl (phasor_size rfl) ?_)
  generalize (w.alloc (.cells #[.bool s1, .slice A1 n1 c1, .bool s2, .slice A2 n2 c2, .bool s3, .slice A3 n3 c3, .bool s4, .slice A4 n4 c4, .bool s5, .slice A5 n5 c5, .bool s6, .slice A6 n6 c6] 28)) = w1 at hB3 hE k0 ⊢
  generalize w.heap.size = g3 at hB3 k0 ⊢
  refine (wsmall_any s1 s2 s3 s4 s5 s6 A1 A2 A3 A4 A5 A6 n1 c1 n2 c2 n3 c3 n4 c4 n5 c5 n6 c6 _).mono ?_
  rintro e w2 ⟨rfl, hx⟩
  clear k0
  replace hE := hE.trans hx; replace hB3 := hB3.ext hx
  clear hx
  have k0 := hB3.cell
  rw [HS.out]
  go_wp2_with fail
  refine ((HU.out.ext hE).q).mono ?_
  rintro e w3 ⟨rfl, hx⟩
  clear k0
  replace hE := hE.trans hx; replace hB3 := hB3.ext hx
  clear hx
  have k0 := hB3.cell
  go_wp2_with fail
  refine ((HV.out.ext hE).q).mono ?_
  rintro e w4 ⟨rfl, hx⟩
  clear k0
  replace hE := hE.trans hx; replace hB3 := hB3.ext hx
  clear hx
  have k0 := hB3.cell
  go_wp2_with fail
  refine (lwknown_ok _).mono ?_
  rintro e w5 ⟨rfl, hx⟩
  clear k0
  replace hE := hE.trans hx; replace hB3 := hB3.ext hx
  clear hx
  have k0 := hB3.cell
  go_wp2_with fail
  go_ret
  exact ⟨rfl, hE⟩
set_option maxRecDepth 100000 in
set_option maxHeartbeats 6400000 in
theorem turns_a (s1 s2 s3 s4 s5 s6 : Bool) (A1 A2 A3 A4 A5 A6 : Option Addr) (n1 c1 n2 c2 n3 c3 n4 c4 n5 c5 n6 c6 : Nat) (b0v : Bool) (r L : Int) (w : World) (hs : ((decide (n1 ≤ 6) && decide (n2 ≤ 6) && decide (n3 ≤ 6)) && (decide (n4 ≤ 6) && decide (n5 ≤ 6) && decide (n6 ≤ 6))) = true) (hU : VB w (gv s1 A1 n1 c1 s2 A2 n2 c2 s3 A3 n3 c3) true) (hV : VB w (gv s4 A4 n4 c4 s5 A5 n5 c5 s6 A6 n6 c6) true) (h : r < 1) :
    Calls Try.prog 5 #[pv s1 A1 n1 c1 s2 A2 n2 c2 s3 A3 n3 c3 s4 A4 n4 c4 s5 A5 n5 c5 s6 A6 n6 c6, .int .i64 r, .int .i64 L] w fun e w' => e = .returned (.bool true) ∧ Ext w w' := by
  have HS := Lib.hid hs; clear hs
  have HU := Lib.hid hU; have HV := Lib.hid hV; clear hU hV
  have t1 : decide (r < 1) = true := by simp; omega
  have hB3 := Blk.new w 28 #[.bool s1, .slice A1 n1 c1, .bool s2, .slice A2 n2 c2, .bool s3, .slice A3 n3 c3, .bool s4, .slice A4 n4 c4, .bool s5, .slice A5 n5 c5, .bool s6, .slice A6 n6 c6]
  have hE : Ext w (w.alloc (.cells #[.bool s1, .slice A1 n1 c1, .bool s2, .slice A2 n2 c2, .bool s3, .slice A3 n3 c3, .bool s4, .slice A4 n4 c4, .bool s5, .slice A5 n5 c5, .bool s6, .slice A6 n6 c6] 28)) := Ext.new _ _
  have k0 := hB3.cell
  go_enter Try.func5, Try.ntmps5
  go_wp2_with (refine wpList_load_row rfl 28 _ rfl w.heap.size (by rfl) 28 _ (0, 0) _ hB3 Try.underlying28 rfl (phasor_size rfl) ?_)
  generalize (w.alloc (.cells #[.bool s1, .slice A1 n1 c1, .bool s2, .slice A2 n2 c2, .bool s3, .slice A3 n3 c3, .bool s4, .slice A4 n4 c4, .bool s5, .slice A5 n5 c5, .bool s6, .slice A6 n6 c6] 28)) = w1 at hB3 hE k0 ⊢
  generalize w.heap.size = g3 at hB3 k0 ⊢
  refine (wsmall_any s1 s2 s3 s4 s5 s6 A1 A2 A3 A4 A5 A6 n1 c1 n2 c2 n3 c3 n4 c4 n5 c5 n6 c6 _).mono ?_
  rintro e w2 ⟨rfl, hx⟩
  clear k0
  replace hE := hE.trans hx; replace hB3 := hB3.ext hx
  clear hx
  have k0 := hB3.cell
  rw [HS.out]
  go_wp2_with fail
  refine ((HU.out.ext hE).q).mono ?_
  rintro e w3 ⟨rfl, hx⟩
  clear k0
  replace hE := hE.trans hx; replace hB3 := hB3.ext hx
  clear hx
  have k0 := hB3.cell
  go_wp2_with fail
  refine ((HV.out.ext hE).q).mono ?_
  rintro e w4 ⟨rfl, hx⟩
  clear k0
  replace hE := hE.trans hx; replace hB3 := hB3.ext hx
  clear hx
  have k0 := hB3.cell
  go_wp2_with fail
  refine (lwknown_ok _).mono ?_
  rintro e w5 ⟨rfl, hx⟩
  clear k0
  replace hE := hE.trans hx; replace hB3 := hB3.ext hx
  clear hx
  have k0 := hB3.cell
  go_wp2_with fail
  go_ret
  exact ⟨rfl, hE⟩
set_option maxRecDepth 100000 in
set_option maxHeartbeats 6400000 in
theorem turns_b (s1 s2 s3 s4 s5 s6 : Bool) (A1 A2 A3 A4 A5 A6 : Option Addr) (n1 c1 n2 c2 n3 c3 n4 c4 n5 c5 n6 c6 : Nat) (b0v : Bool) (r L : Int) (w : World) (hs : ((decide (n1 ≤ 6) && decide (n2 ≤ 6) && decide (n3 ≤ 6)) && (decide (n4 ≤ 6) && decide (n5 ≤ 6) && decide (n6 ≤ 6))) = true) (hU : VB w (gv s1 A1 n1 c1 s2 A2 n2 c2 s3 A3 n3 c3) true) (hV : VB w (gv s4 A4 n4 c4 s5 A5 n5 c5 s6 A6 n6 c6) true) (h : 10000 < r) :
    Calls Try.prog 5 #[pv s1 A1 n1 c1 s2 A2 n2 c2 s3 A3 n3 c3 s4 A4 n4 c4 s5 A5 n5 c5 s6 A6 n6 c6, .int .i64 r, .int .i64 L] w fun e w' => e = .returned (.bool true) ∧ Ext w w' := by
  have HS := Lib.hid hs; clear hs
  have HU := Lib.hid hU; have HV := Lib.hid hV; clear hU hV
  have t1 : decide (r < 1) = false := by simp; omega
  have t2 : decide ((10000 : Int) < r) = true := by simp; omega
  have hB3 := Blk.new w 28 #[.bool s1, .slice A1 n1 c1, .bool s2, .slice A2 n2 c2, .bool s3, .slice A3 n3 c3, .bool s4, .slice A4 n4 c4, .bool s5, .slice A5 n5 c5, .bool s6, .slice A6 n6 c6]
  have hE : Ext w (w.alloc (.cells #[.bool s1, .slice A1 n1 c1, .bool s2, .slice A2 n2 c2, .bool s3, .slice A3 n3 c3, .bool s4, .slice A4 n4 c4, .bool s5, .slice A5 n5 c5, .bool s6, .slice A6 n6 c6] 28)) := Ext.new _ _
  have k0 := hB3.cell
  go_enter Try.func5, Try.ntmps5
  go_wp2_with (refine wpList_load_row rfl 28 _ rfl w.heap.size (by rfl) 28 _ (0, 0) _ hB3 Try.underlying28 rfl (phasor_size rfl) ?_)
  generalize (w.alloc (.cells #[.bool s1, .slice A1 n1 c1, .bool s2, .slice A2 n2 c2, .bool s3, .slice A3 n3 c3, .bool s4, .slice A4 n4 c4, .bool s5, .slice A5 n5 c5, .bool s6, .slice A6 n6 c6] 28)) = w1 at hB3 hE k0 ⊢
  generalize w.heap.size = g3 at hB3 k0 ⊢
  refine (wsmall_any s1 s2 s3 s4 s5 s6 A1 A2 A3 A4 A5 A6 n1 c1 n2 c2 n3 c3 n4 c4 n5 c5 n6 c6 _).mono ?_
  rintro e w2 ⟨rfl, hx⟩
  clear k0
  replace hE := hE.trans hx; replace hB3 := hB3.ext hx
  clear hx
  have k0 := hB3.cell
  rw [HS.out]
  go_wp2_with fail
  refine ((HU.out.ext hE).q).mono ?_
  rintro e w3 ⟨rfl, hx⟩
  clear k0
  replace hE := hE.trans hx; replace hB3 := hB3.ext hx
  clear hx
  have k0 := hB3.cell
  go_wp2_with fail
  refine ((HV.out.ext hE).q).mono ?_
  rintro e w4 ⟨rfl, hx⟩
  clear k0
  replace hE := hE.trans hx; replace hB3 := hB3.ext hx
  clear hx
  have k0 := hB3.cell
  go_wp2_with fail
  refine (lwknown_ok _).mono ?_
  rintro e w5 ⟨rfl, hx⟩
  clear k0
  replace hE := hE.trans hx; replace hB3 := hB3.ext hx
  clear hx
  have k0 := hB3.cell
  go_wp2_with fail
  go_ret
  exact ⟨rfl, hE⟩
set_option maxRecDepth 100000 in
set_option maxHeartbeats 6400000 in
theorem turns_c (s1 s2 s3 s4 s5 s6 : Bool) (A1 A2 A3 A4 A5 A6 : Option Addr) (n1 c1 n2 c2 n3 c3 n4 c4 n5 c5 n6 c6 : Nat) (b0v : Bool) (r L : Int) (w : World) (hs : ((decide (n1 ≤ 6) && decide (n2 ≤ 6) && decide (n3 ≤ 6)) && (decide (n4 ≤ 6) && decide (n5 ≤ 6) && decide (n6 ≤ 6))) = true) (hU : VB w (gv s1 A1 n1 c1 s2 A2 n2 c2 s3 A3 n3 c3) true) (hV : VB w (gv s4 A4 n4 c4 s5 A5 n5 c5 s6 A6 n6 c6) true) (h0 : 1 ≤ r) (h1 : r ≤ 10000) (h : L < 1) :
    Calls Try.prog 5 #[pv s1 A1 n1 c1 s2 A2 n2 c2 s3 A3 n3 c3 s4 A4 n4 c4 s5 A5 n5 c5 s6 A6 n6 c6, .int .i64 r, .int .i64 L] w fun e w' => e = .returned (.bool true) ∧ Ext w w' := by
  have HS := Lib.hid hs; clear hs
  have HU := Lib.hid hU; have HV := Lib.hid hV; clear hU hV
  have t1 : decide (r < 1) = false := by simp; omega
  have t2 : decide ((10000 : Int) < r) = false := by simp; omega
  have t3 : decide (L < 1) = true := by simp; omega
  have hB3 := Blk.new w 28 #[.bool s1, .slice A1 n1 c1, .bool s2, .slice A2 n2 c2, .bool s3, .slice A3 n3 c3, .bool s4, .slice A4 n4 c4, .bool s5, .slice A5 n5 c5, .bool s6, .slice A6 n6 c6]
  have hE : Ext w (w.alloc (.cells #[.bool s1, .slice A1 n1 c1, .bool s2, .slice A2 n2 c2, .bool s3, .slice A3 n3 c3, .bool s4, .slice A4 n4 c4, .bool s5, .slice A5 n5 c5, .bool s6, .slice A6 n6 c6] 28)) := Ext.new _ _
  have k0 := hB3.cell
  go_enter Try.func5, Try.ntmps5
  go_wp2_with (refine wpList_load_row rfl 28 _ rfl w.heap.size (by rfl) 28 _ (0, 0) _ hB3 Try.underlying28 rfl (phasor_size rfl) ?_)
  generalize (w.alloc (.cells #[.bool s1, .slice A1 n1 c1, .bool s2, .slice A2 n2 c2, .bool s3, .slice A3 n3 c3, .bool s4, .slice A4 n4 c4, .bool s5, .slice A5 n5 c5, .bool s6, .slice A6 n6 c6] 28)) = w1 at hB3 hE k0 ⊢
  generalize w.heap.size = g3 at hB3 k0 ⊢
  refine (wsmall_any s1 s2 s3 s4 s5 s6 A1 A2 A3 A4 A5 A6 n1 c1 n2 c2 n3 c3 n4 c4 n5 c5 n6 c6 _).mono ?_
  rintro e w2 ⟨rfl, hx⟩
  clear k0
  replace hE := hE.trans hx; replace hB3 := hB3.ext hx
  clear hx
  have k0 := hB3.cell
  rw [HS.out]
  go_wp2_with fail
  refine ((HU.out.ext hE).q).mono ?_
  rintro e w3 ⟨rfl, hx⟩
  clear k0
  replace hE := hE.trans hx; replace hB3 := hB3.ext hx
  clear hx
  have k0 := hB3.cell
  go_wp2_with fail
  refine ((HV.out.ext hE).q).mono ?_
  rintro e w4 ⟨rfl, hx⟩
  clear k0
  replace hE := hE.trans hx; replace hB3 := hB3.ext hx
  clear hx
  have k0 := hB3.cell
  go_wp2_with fail
  refine (lwknown_ok _).mono ?_
  rintro e w5 ⟨rfl, hx⟩
  clear k0
  replace hE := hE.trans hx; replace hB3 := hB3.ext hx
  clear hx
  have k0 := hB3.cell
  go_wp2_with fail
  go_ret
  exact ⟨rfl, hE⟩
set_option maxRecDepth 100000 in
set_option maxHeartbeats 6400000 in
theorem turns_d (s1 s2 s3 s4 s5 s6 : Bool) (A1 A2 A3 A4 A5 A6 : Option Addr) (n1 c1 n2 c2 n3 c3 n4 c4 n5 c5 n6 c6 : Nat) (b0v : Bool) (r L : Int) (w : World) (hs : ((decide (n1 ≤ 6) && decide (n2 ≤ 6) && decide (n3 ≤ 6)) && (decide (n4 ≤ 6) && decide (n5 ≤ 6) && decide (n6 ≤ 6))) = true) (hU : VB w (gv s1 A1 n1 c1 s2 A2 n2 c2 s3 A3 n3 c3) true) (hV : VB w (gv s4 A4 n4 c4 s5 A5 n5 c5 s6 A6 n6 c6) true) (h0 : 1 ≤ r) (h1 : r ≤ 10000) (h : 16383 < L) :
    Calls Try.prog 5 #[pv s1 A1 n1 c1 s2 A2 n2 c2 s3 A3 n3 c3 s4 A4 n4 c4 s5 A5 n5 c5 s6 A6 n6 c6, .int .i64 r, .int .i64 L] w fun e w' => e = .returned (.bool true) ∧ Ext w w' := by
  have HS := Lib.hid hs; clear hs
  have HU := Lib.hid hU; have HV := Lib.hid hV; clear hU hV
  have t1 : decide (r < 1) = false := by simp; omega
  have t2 : decide ((10000 : Int) < r) = false := by simp; omega
  have t3 : decide (L < 1) = false := by simp; omega
  have t4 : decide ((16383 : Int) < L) = true := by simp; omega
  have hB3 := Blk.new w 28 #[.bool s1, .slice A1 n1 c1, .bool s2, .slice A2 n2 c2, .bool s3, .slice A3 n3 c3, .bool s4, .slice A4 n4 c4, .bool s5, .slice A5 n5 c5, .bool s6, .slice A6 n6 c6]
  have hE : Ext w (w.alloc (.cells #[.bool s1, .slice A1 n1 c1, .bool s2, .slice A2 n2 c2, .bool s3, .slice A3 n3 c3, .bool s4, .slice A4 n4 c4, .bool s5, .slice A5 n5 c5, .bool s6, .slice A6 n6 c6] 28)) := Ext.new _ _
  have k0 := hB3.cell
  go_enter Try.func5, Try.ntmps5
  go_wp2_with (refine wpList_load_row rfl 28 _ rfl w.heap.size (by rfl) 28 _ (0, 0) _ hB3 Try.underlying28 rfl (phasor_size rfl) ?_)
  generalize (w.alloc (.cells #[.bool s1, .slice A1 n1 c1, .bool s2, .slice A2 n2 c2, .bool s3, .slice A3 n3 c3, .bool s4, .slice A4 n4 c4, .bool s5, .slice A5 n5 c5, .bool s6, .slice A6 n6 c6] 28)) = w1 at hB3 hE k0 ⊢
  generalize w.heap.size = g3 at hB3 k0 ⊢
  refine (wsmall_any s1 s2 s3 s4 s5 s6 A1 A2 A3 A4 A5 A6 n1 c1 n2 c2 n3 c3 n4 c4 n5 c5 n6 c6 _).mono ?_
  rintro e w2 ⟨rfl, hx⟩
  clear k0
  replace hE := hE.trans hx; replace hB3 := hB3.ext hx
  clear hx
  have k0 := hB3.cell
  rw [HS.out]
  go_wp2_with fail
  refine ((HU.out.ext hE).q).mono ?_
  rintro e w3 ⟨rfl, hx⟩
  clear k0
  replace hE := hE.trans hx; replace hB3 := hB3.ext hx
  clear hx
  have k0 := hB3.cell
  go_wp2_with fail
  refine ((HV.out.ext hE).q).mono ?_
  rintro e w4 ⟨rfl, hx⟩
  clear k0
  replace hE := hE.trans hx; replace hB3 := hB3.ext hx
  clear hx
  have k0 := hB3.cell
  go_wp2_with fail
  refine (lwknown_ok _).mono ?_
  rintro e w5 ⟨rfl, hx⟩
  clear k0
  replace hE := hE.trans hx; replace hB3 := hB3.ext hx
  clear hx
  have k0 := hB3.cell
  go_wp2_with fail
  go_ret
  exact ⟨rfl, hE⟩
set_option maxRecDepth 100000 in
set_option maxHeartbeats 6400000 in
theorem turns_ok (s1 s2 s3 s4 s5 s6 : Bool) (A1 A2 A3 A4 A5 A6 : Option Addr) (n1 c1 n2 c2 n3 c3 n4 c4 n5 c5 n6 c6 : Nat) (p : PQ) (r L : Int) (f : Nat → Int) (w : World) (hs : ((decide (n1 ≤ 6) && decide (n2 ≤ 6) && decide (n3 ≤ 6)) && (decide (n4 ≤ 6) && decide (n5 ≤ 6) && decide (n6 ≤ 6))) = true) (hX : PV w (pv s1 A1 n1 c1 s2 A2 n2 c2 s3 A3 n3 c3 s4 A4 n4 c4 s5 A5 n5 c5 s6 A6 n6 c6) p 192) (r1 : 1 ≤ r) (r2 : r ≤ 10000) (l1 : 1 ≤ L) (l2 : L ≤ 16383) (hf : ∀ k, k < 12 → Rd (p * PQ.zp k) r (f k)) :
    Calls Try.prog 5 #[pv s1 A1 n1 c1 s2 A2 n2 c2 s3 A3 n3 c3 s4 A4 n4 c4 s5 A5 n5 c5 s6 A6 n6 c6, .int .i64 r, .int .i64 L] w fun e w' => e = .returned (.bool true) ∧ Ext w w' := by
  have HS := Lib.hid hs; have HX := Lib.hid hX; have HF := Lib.hid hf; clear hs hX hf
  have t1 : decide (r < 1) = false := by simp; omega
  have t2 : decide ((10000 : Int) < r) = false := by simp; omega
  have t3 : decide (L < 1) = false := by simp; omega
  have t4 : decide ((16383 : Int) < L) = false := by simp; omega
  have hB3 := Blk.new w 28 #[.bool s1, .slice A1 n1 c1, .bool s2, .slice A2 n2 c2, .bool s3, .slice A3 n3 c3, .bool s4, .slice A4 n4 c4, .bool s5, .slice A5 n5 c5, .bool s6, .slice A6 n6 c6]
  have hE : Ext w (w.alloc (.cells #[.bool s1, .slice A1 n1 c1, .bool s2, .slice A2 n2 c2, .bool s3, .slice A3 n3 c3, .bool s4, .slice A4 n4 c4, .bool s5, .slice A5 n5 c5, .bool s6, .slice A6 n6 c6] 28)) := Ext.new _ _
  have k0 := hB3.cell
  go_enter Try.func5, Try.ntmps5
  go_wp2_with (refine wpList_load_row rfl 28 _ rfl w.heap.size (by rfl) 28 _ (0, 0) _ hB3 Try.underlying28 rfl (phasor_size rfl) ?_)
  generalize (w.alloc (.cells #[.bool s1, .slice A1 n1 c1, .bool s2, .slice A2 n2 c2, .bool s3, .slice A3 n3 c3, .bool s4, .slice A4 n4 c4, .bool s5, .slice A5 n5 c5, .bool s6, .slice A6 n6 c6] 28)) = w1 at hB3 hE k0 ⊢
  generalize w.heap.size = g3 at hB3 k0 ⊢
  refine (wsmall_any s1 s2 s3 s4 s5 s6 A1 A2 A3 A4 A5 A6 n1 c1 n2 c2 n3 c3 n4 c4 n5 c5 n6 c6 _).mono ?_
  rintro e w2 ⟨rfl, hx⟩
  clear k0
  replace hE := hE.trans hx; replace hB3 := hB3.ext hx
  clear hx
  have k0 := hB3.cell
  rw [HS.out]
  go_wp2_with fail
  refine ((HX.out.gu.vb (by omega)).ext hE |>.q).mono ?_
  rintro e w3 ⟨rfl, hx⟩
  clear k0
  replace hE := hE.trans hx; replace hB3 := hB3.ext hx
  clear hx
  have k0 := hB3.cell
  go_wp2_with fail
  refine ((HX.out.gw.vb (by omega)).ext hE |>.q).mono ?_
  rintro e w4 ⟨rfl, hx⟩
  clear k0
  replace hE := hE.trans hx; replace hB3 := hB3.ext hx
  clear hx
  have k0 := hB3.cell
  go_wp2_with (refine wpList_load_row rfl 28 _ rfl g3 (by rfl) 28 _ (0, 0) _ hB3 Try.underlying28 rfl (phasor_size rfl) ?_)
  refine (channel_row _ p 192 r L f _ (HX.out.ext hE) (by omega) r1 r2 l1 l2 HF.out).mono ?_
  rintro e w5 ⟨rfl, hx⟩
  clear k0
  replace hE := hE.trans hx; replace hB3 := hB3.ext hx
  clear hx
  have k0 := hB3.cell
  have hE2 := hE.alloc (.cells (row12 fun j => lm L (f j)) 31); have hB7 := Blk.new w5 31 (row12 fun j => lm L (f j)); have hB4 := hB3.alloc (.cells (row12 fun j => lm L (f j)) 31)
  clear k0; have k0 := hB4.cell
  go_wp2_with (first | (refine wpList_load_row rfl 28 _ rfl g3 (by rfl) 28 _ (0, 0) _ hB4 Try.underlying28 rfl (phasor_size rfl) ?_) | (refine wpList_store_row rfl 31 _ _ rfl w5.heap.size (row12 fun j => lm L (f j)) rfl rfl 31 #[.int .i64 0, .int .i64 0, .int .i64 0, .int .i64 0, .int .i64 0, .int .i64 0, .int .i64 0, .int .i64 0, .int .i64 0, .int .i64 0, .int .i64 0, .int .i64 0] (Blk.new w5 31 _) (a12_sz (row12_size _)) (z12_row _) (row12_one _) ?_; rw [World.setRow_alloc_new]))
  replace hE := hE2; replace hB3 := hB4; clear hE2 hB4
  generalize w5.alloc (.cells (row12 fun j => lm L (f j)) 31) = w6 at hE hB7 hB3 k0 ⊢
  generalize w5.heap.size = g7 at hB7 ⊢
  refine (qTurn_w _ p 192 1 1 _ (HX.out.ext hE) (by omega) (by omega) (Lib.hid (by omega)) (by omega) (by omega)).mono ?_
  rintro e w7 ⟨v7, rfl, hv7, hx⟩
  replace hE := hE.trans hx; replace hB7 := hB7.ext hx
  clear hx k0 hB3
  have HV7 := Lib.hid hv7; clear hv7
  go_wp2_with fail
  refine (channel_row v7 (p * PQ.zp 1) (2 * (192 + 2) + 69) r L (fun k => f ((k + 1) % 12)) _ HV7.out (by omega) r1 r2 l1 l2 (fun k hk => by rw [zp_next p k hk]; exact HF.out _ (by omega))).mono ?_
  rintro e w8 ⟨rfl, hx⟩
  replace hE := hE.trans hx; replace hB7 := hB7.ext hx
  clear hx HV7
  have hE2 := hE.alloc (.cells (row12 fun j => lm L (f ((j + 1) % 12))) 31); have hB9 := Blk.new w8 31 (row12 fun j => lm L (f ((j + 1) % 12))); have hB5 := hB7.alloc (.cells (row12 fun j => lm L (f ((j + 1) % 12))) 31)
  go_wp2_with (refine wpList_store_row rfl 31 _ _ rfl w8.heap.size (row12 fun j => lm L (f ((j + 1) % 12))) rfl rfl 31 #[.int .i64 0, .int .i64 0, .int .i64 0, .int .i64 0, .int .i64 0, .int .i64 0, .int .i64 0, .int .i64 0, .int .i64 0, .int .i64 0, .int .i64 0, .int .i64 0] (Blk.new w8 31 _) (a12_sz (row12_size _)) (z12_row _) (row12_one _) ?_; rw [World.setRow_alloc_new])
  replace hE := hE2; replace hB7 := hB5; clear hE2 hB5
  generalize w8.alloc (.cells (row12 fun j => lm L (f ((j + 1) % 12))) 31) = w9 at hE hB7 hB9 ⊢
  generalize w8.heap.size = g9 at hB9 ⊢
  have HE := Lib.hid hE; clear hE
  go_loopw [59] (fun i wr => ∃ k : Nat, k ≤ 12 ∧ i = .int .i64 k ∧ Ext w9 wr) (fun i _ => 12 - (intOf i).toNat)
  case atStart => exact ⟨0, by omega, rfl, Ext.refl _⟩
  case round =>
    obtain ⟨k, hk, rfl, hx⟩ := hrel
    replace hB7 := hB7.ext hx; replace hB9 := hB9.ext hx
    have HX6 := Lib.hid (HE.out.trans hx)
    by_cases hlt : k < 12
    · have hd : decide ((k : Int) < 12) = true := by simp; omega
      have q1 : (0 : Int) ≤ (k : Int) := by omega
      have q2 : (k : Int) < 12 := by omega
      have cK := (hB9.cell k).trans (row12_at (by omega))
      have cL := (hB7.cell ((k + 1) % 12)).trans (row12_at (by omega))
      obtain ⟨m, hm⟩ : ∃ m : Nat, (k + 1) % 12 = m := ⟨_, rfl⟩
      have q3 : m < 12 := by omega
      have q4 : (m : Int) < 12 := by omega
      have q5 : (0 : Int) ≤ (m : Int) := by omega
      have hrem : ((k : Int) + 1).tmod 12 = (m : Int) := by rw [Int.tmod_eq_emod_of_nonneg (by omega)]; omega
      rw [hm] at cK cL
      have hne : (lm L (f m) != lm L (f m)) = false := by simp
      go_wp2_with fail
      go_region
      clear cK cL
      go_wp2_with fail
      go_roundw
      case rel => exact ⟨k + 1, by omega, by go_num, hx.drew⟩
      case measure => simp [intOf]; omega
    · obtain rfl : k = 12 := by omega
      go_wp2_with fail
      refine (lwknown_ok _).mono ?_
      rintro e w10 ⟨rfl, hx8⟩
      go_wp2_with fail
      go_ret
      exact ⟨rfl, HX6.out.trans hx8⟩
end Go.Proofs.Ytjeijmnhbckjdaa
