/- The walk of WaveformAntisymmetric. -/
import Derived.Test.YtjeijmnhbckjdaaCd
import Derived.Test.YtjeijmnhbckjdaaCf
import Derived.Test.YtjeijmnhbckjdaaGh
namespace Go.Proofs.Ytjeijmnhbckjdaa
open Go.RowKit
set_option linter.unusedVariables false

theorem Is.neg {q : GQ} {a b d : Int} (h : Is q a b d) : Is (-q) (-a) (-b) d := by
  refine ⟨⟨h.low.1, ?_⟩, ?_, ?_⟩
  · have := h.low.2
    unfold g3 at *
    simpa using this
  · rw [GQ.neg_re, h.re, Rat.intCast_neg]; grind
  · rw [GQ.neg_im, h.im, Rat.intCast_neg]; grind
theorem Rd.anti {p q : PQ} {r N M : Int} (hr : 0 < r) (h : Rd p r N) (h' : Rd q r M) (eu : q.u = -p.u) (ev : q.v = -p.v) : N + M = 0 ∨ N + M = 1 := by
  obtain ⟨a, b, d, I⟩ := is_ex p.u
  obtain ⟨x, y, z, J⟩ := is_ex p.v
  have I' : Is q.u (-a) (-b) d := by rw [eu]; exact I.neg
  have J' : Is q.v (-x) (-y) z := by rw [ev]; exact J.neg
  exact rz_neg I.low.1 J.low.1 hr (h a b d x y z I J) (h' (-a) (-b) d (-x) (-y) z I' J')
theorem zp_half (p : PQ) (k : Nat) : (p * PQ.zp (k + 6)).u = -(p * PQ.zp k).u ∧ (p * PQ.zp (k + 6)).v = -(p * PQ.zp k).v := by
  rw [PQ.zp_add, PQ.zp6]
  constructor <;> (ext <;> simp only [PQ.mk4, PQ.mul_u, PQ.mul_v, GQ.mul_re, GQ.mul_im, GQ.add_re, GQ.add_im, GQ.neg_re, GQ.neg_im, GQ.i_re, GQ.i_im] <;> grind)
theorem lm_anti {N M : Int} (h : N + M = 0 ∨ N + M = 1) : lm 16383 N + lm 16383 M = 0 ∨ lm 16383 N + lm 16383 M = 1 := by unfold lm clamp; omega

set_option maxRecDepth 100000 in
set_option maxHeartbeats 6400000 in
theorem anti_large (s1 s2 s3 s4 s5 s6 : Bool) (A1 A2 A3 A4 A5 A6 : Option Addr) (n1 c1 n2 c2 n3 c3 n4 c4 n5 c5 n6 c6 : Nat) (b0v : Bool) (r : Int) (w : World) (hs : ((decide (n1 ≤ 6) && decide (n2 ≤ 6) && decide (n3 ≤ 6)) && (decide (n4 ≤ 6) && decide (n5 ≤ 6) && decide (n6 ≤ 6))) = false)  :
    Calls Try.prog 4 #[pv s1 A1 n1 c1 s2 A2 n2 c2 s3 A3 n3 c3 s4 A4 n4 c4 s5 A5 n5 c5 s6 A6 n6 c6, .int .i64 r] w fun e w' => e = .returned (.bool true) ∧ Ext w w' := by
  have HS := Lib.hid hs; clear hs
  have hB3 := Blk.new w 28 #[.bool s1, .slice A1 n1 c1, .bool s2, .slice A2 n2 c2, .bool s3, .slice A3 n3 c3, .bool s4, .slice A4 n4 c4, .bool s5, .slice A5 n5 c5, .bool s6, .slice A6 n6 c6]
  have hE : Ext w (w.alloc (.cells #[.bool s1, .slice A1 n1 c1, .bool s2, .slice A2 n2 c2, .bool s3, .slice A3 n3 c3, .bool s4, .slice A4 n4 c4, .bool s5, .slice A5 n5 c5, .bool s6, .slice A6 n6 c6] 28)) := Ext.new _ _
  have k0 := hB3.cell
  go_enter Try.func4, Try.ntmps4
  go_wp2_with (refine wpList_load_row rfl 28 _ rfl w.heap.size (by rfl) 28 _ (0, 0) _ hB3 Try.underlying28 rfl (phasor_size rfl) ?_)
  generalize (w.alloc (.cells #[.bool s1, .slice A1 n1 c1, .bool s2, .slice A2 n2 c2, .bool s3, .slice A3 n3 c3, .bool s4, .slice A4 n4 c4, .bool s5, .slice A5 n5 c5, .bool s6, .slice A6 n6 c6] 28)) = w1 at hB3 hE k0 ⊢
  generalize w.heap.size = g3 at hB3 k0 ⊢
  refine (wsmall_any s1 s2 s3 s4 s5 s6 A1 A2 A3 A4 A5 A6 n1 c1 n2 c2 n3 c3 n4 c4 n5 c5 n6 c6 _).mono ?_
  rintro e w2 ⟨rfl, hx⟩
  clear k0
  replace hE := hE.trans hx; replace hB3 := hB3.ext hx
  clear hx
  have k0 := hB3.cell
  rw [HS.out]
  go_wp2_with fail
  refine (lwknown_ok _).mono ?_
  rintro e w3 ⟨rfl, hx⟩
  clear k0
  replace hE := hE.trans hx; replace hB3 := hB3.ext hx
  clear hx
  have k0 := hB3.cell
  go_wp2_with fail
  go_ret
  exact ⟨rfl, hE⟩
set_option maxRecDepth 100000 in
set_option maxHeartbeats 6400000 in
theorem anti_u (s1 s2 s3 s4 s5 s6 : Bool) (A1 A2 A3 A4 A5 A6 : Option Addr) (n1 c1 n2 c2 n3 c3 n4 c4 n5 c5 n6 c6 : Nat) (b0v : Bool) (r : Int) (w : World) (hs : ((decide (n1 ≤ 6) && decide (n2 ≤ 6) && decide (n3 ≤ 6)) && (decide (n4 ≤ 6) && decide (n5 ≤ 6) && decide (n6 ≤ 6))) = true) (hU : VB w (gv s1 A1 n1 c1 s2 A2 n2 c2 s3 A3 n3 c3) false) (hV : VB w (gv s4 A4 n4 c4 s5 A5 n5 c5 s6 A6 n6 c6) b0v)  :
    Calls Try.prog 4 #[pv s1 A1 n1 c1 s2 A2 n2 c2 s3 A3 n3 c3 s4 A4 n4 c4 s5 A5 n5 c5 s6 A6 n6 c6, .int .i64 r] w fun e w' => e = .returned (.bool true) ∧ Ext w w' := by
  have HS := Lib.hid hs; clear hs
  have HU := Lib.hid hU; have HV := Lib.hid hV; clear hU hV
  have hB3 := Blk.new w 28 #[.bool s1, .slice A1 n1 c1, .bool s2, .slice A2 n2 c2, .bool s3, .slice A3 n3 c3, .bool s4, .slice A4 n4 c4, .bool s5, .slice A5 n5 c5, .bool s6, .slice A6 n6 c6]
  have hE : Ext w (w.alloc (.cells #[.bool s1, .slice A1 n1 c1, .bool s2, .slice A2 n2 c2, .bool s3, .slice A3 n3 c3, .bool s4, .slice A4 n4 c4, .bool s5, .slice A5 n5 c5, .bool s6, .slice A6 n6 c6] 28)) := Ext.new _ _
  have k0 := hB3.cell
  go_enter Try.func4, Try.ntmps4
  go_wp2_with (refine wpList_load_row rfl 28 _ rfl w.heap.size (by rfl) 28 _ (0, 0) _ hB3 Try.underlying28 rfl (phasor_size rfl) ?_)
  generalize (w.alloc (.cells #[.bool s1, .slice A1 n1 c1, .bool s2, .slice A2 n2 c2, .bool s3, .slice A3 n3 c3, .bool s4, .slice A4 n4 c4, .bool s5, .slice A5 n5 c5, .bool s6, .slice A6 n6 c6] 28)) = w1 at hB3 hE k0 ⊢
  generalize w.heap.size = g3 at hB3 k0 ⊢
  refine (wsmall_any s1 s2 s3 s4 s5 s6 A1 A2 A3 A4 A5 A6 n1 c1 n2 c2 n3 c3 n4 c4 n5 c5 n6 c6 _).mono ?_
  rintro e w2 ⟨rfl, hx⟩
  clear k0
  replace hE := hE.trans hx; replace hB3 := hB3.ext hx
  clear hx
  have k0 := hB3.cell
  rw [HS.out]
  go_wp2_with fail
  refine ((HU.out.ext hE).q).mono ?_
  rintro e w3 ⟨rfl, hx⟩
  clear k0
  replace hE := hE.trans hx; replace hB3 := hB3.ext hx
  clear hx
  have k0 := hB3.cell
  go_wp2_with fail
  refine (lwknown_ok _).mono ?_
  rintro e w4 ⟨rfl, hx⟩
  clear k0
  replace hE := hE.trans hx; replace hB3 := hB3.ext hx
  clear hx
  have k0 := hB3.cell
  go_wp2_with fail
  go_ret
  exact ⟨rfl, hE⟩
set_option maxRecDepth 100000 in
set_option maxHeartbeats 6400000 in
theorem anti_v (s1 s2 s3 s4 s5 s6 : Bool) (A1 A2 A3 A4 A5 A6 : Option Addr) (n1 c1 n2 c2 n3 c3 n4 c4 n5 c5 n6 c6 : Nat) (b0v : Bool) (r : Int) (w : World) (hs : ((decide (n1 ≤ 6) && decide (n2 ≤ 6) && decide (n3 ≤ 6)) && (decide (n4 ≤ 6) && decide (n5 ≤ 6) && decide (n6 ≤ 6))) = true) (hU : VB w (gv s1 A1 n1 c1 s2 A2 n2 c2 s3 A3 n3 c3) true) (hV : VB w (gv s4 A4 n4 c4 s5 A5 n5 c5 s6 A6 n6 c6) false)  :
    Calls Try.prog 4 #[pv s1 A1 n1 c1 s2 A2 n2 c2 s3 A3 n3 c3 s4 A4 n4 c4 s5 A5 n5 c5 s6 A6 n6 c6, .int .i64 r] w fun e w' => e = .returned (.bool true) ∧ Ext w w' := by
  have HS := Lib.hid hs; clear hs
  have HU := Lib.hid hU; have HV := Lib.hid hV; clear hU hV
  have hB3 := Blk.new w 28 #[.bool s1, .slice A1 n1 c1, .bool s2, .slice A2 n2 c2, .bool s3, .slice A3 n3 c3, .bool s4, .slice A4 n4 c4, .bool s5, .slice A5 n5 c5, .bool s6, .slice A6 n6 c6]
  have hE : Ext w (w.alloc (.cells #[.bool s1, .slice A1 n1 c1, .bool s2, .slice A2 n2 c2, .bool s3, .slice A3 n3 c3, .bool s4, .slice A4 n4 c4, .bool s5, .slice A5 n5 c5, .bool s6, .slice A6 n6 c6] 28)) := Ext.new _ _
  have k0 := hB3.cell
  go_enter Try.func4, Try.ntmps4
  go_wp2_with (refine wpList_load_row rfl 28 _ rfl w.heap.size (by rfl) 28 _ (0, 0) _ hB3 Try.underlying28 rfl (phasor_size rfl) ?_)
  generalize (w.alloc (.cells #[.bool s1, .slice A1 n1 c1, .bool s2, .slice A2 n2 c2, .bool s3, .slice A3 n3 c3, .bool s4, .slice A4 n4 c4, .bool s5, .slice A5 n5 c5, .bool s6, .slice A6 n6 c6] 28)) = w1 at hB3 hE k0 ⊢
  generalize w.heap.size = g3 at hB3 k0 ⊢
  refine (wsmall_any s1 s2 s3 s4 s5 s6 A1 A2 A3 A4 A5 A6 n1 c1 n2 c2 n3 c3 n4 c4 n5 c5 n6 c6 _).mono ?_
  rintro e w2 ⟨rfl, hx⟩
  clear k0
  replace hE := hE.trans hx; replace hB3 := hB3.ext hx
  clear hx
  have k0 := hB3.cell
  rw [HS.out]
  go_wp2_with fail
  refine ((HU.out.ext hE).q).mono ?_
  rintro e w3 ⟨rfl, hx⟩
  clear k0
  replace hE := hE.trans hx; replace hB3 := hB3.ext hx
  clear hx
  have k0 := hB3.cell
  go_wp2_with fail
  refine ((HV.out.ext hE).q).mono ?_
  rintro e w4 ⟨rfl, hx⟩
  clear k0
  replace hE := hE.trans hx; replace hB3 := hB3.ext hx
  clear hx
  have k0 := hB3.cell
  go_wp2_with fail
  refine (lwknown_ok _).mono ?_
  rintro e w5 ⟨rfl, hx⟩
  clear k0
  replace hE := hE.trans hx; replace hB3 := hB3.ext hx
  clear hx
  have k0 := hB3.cell
  go_wp2_with fail
  go_ret
  exact ⟨rfl, hE⟩
set_option maxRecDepth 100000 in
set_option maxHeartbeats 6400000 in
theorem anti_a (s1 s2 s3 s4 s5 s6 : Bool) (A1 A2 A3 A4 A5 A6 : Option Addr) (n1 c1 n2 c2 n3 c3 n4 c4 n5 c5 n6 c6 : Nat) (b0v : Bool) (r : Int) (w : World) (hs : ((decide (n1 ≤ 6) && decide (n2 ≤ 6) && decide (n3 ≤ 6)) && (decide (n4 ≤ 6) && decide (n5 ≤ 6) && decide (n6 ≤ 6))) = true) (hU : VB w (gv s1 A1 n1 c1 s2 A2 n2 c2 s3 A3 n3 c3) true) (hV : VB w (gv s4 A4 n4 c4 s5 A5 n5 c5 s6 A6 n6 c6) true) (h : r < 1) :
    Calls Try.prog 4 #[pv s1 A1 n1 c1 s2 A2 n2 c2 s3 A3 n3 c3 s4 A4 n4 c4 s5 A5 n5 c5 s6 A6 n6 c6, .int .i64 r] w fun e w' => e = .returned (.bool true) ∧ Ext w w' := by
  have HS := Lib.hid hs; clear hs
  have HU := Lib.hid hU; have HV := Lib.hid hV; clear hU hV
  have t1 : decide (r < 1) = true := by simp; omega
  have hB3 := Blk.new w 28 #[.bool s1, .slice A1 n1 c1, .bool s2, .slice A2 n2 c2, .bool s3, .slice A3 n3 c3, .bool s4, .slice A4 n4 c4, .bool s5, .slice A5 n5 c5, .bool s6, .slice A6 n6 c6]
  have hE : Ext w (w.alloc (.cells #[.bool s1, .slice A1 n1 c1, .bool s2, .slice A2 n2 c2, .bool s3, .slice A3 n3 c3, .bool s4, .slice A4 n4 c4, .bool s5, .slice A5 n5 c5, .bool s6, .slice A6 n6 c6] 28)) := Ext.new _ _
  have k0 := hB3.cell
  go_enter Try.func4, Try.ntmps4
  go_wp2_with (refine wpList_load_row rfl 28 _ rfl w.heap.size (by rfl) 28 _ (0, 0) _ hB3 Try.underlying28 rfl (phasor_size rfl) ?_)
  generalize (w.alloc (.cells #[.bool s1, .slice A1 n1 c1, .bool s2, .slice A2 n2 c2, .bool s3, .slice A3 n3 c3, .bool s4, .slice A4 n4 c4, .bool s5, .slice A5 n5 c5, .bool s6, .slice A6 n6 c6] 28)) = w1 at hB3 hE k0 ⊢
  generalize w.heap.size = g3 at hB3 k0 ⊢
  refine (wsmall_any s1 s2 s3 s4 s5 s6 A1 A2 A3 A4 A5 A6 n1 c1 n2 c2 n3 c3 n4 c4 n5 c5 n6 c6 _).mono ?_
  rintro e w2 ⟨rfl, hx⟩
  clear k0
  replace hE := hE.trans hx; replace hB3 := hB3.ext hx
  clear hx
  have k0 := hB3.cell
  rw [HS.out]
  go_wp2_with fail
  refine ((HU.out.ext hE).q).mono ?_
  rintro e w3 ⟨rfl, hx⟩
  clear k0
  replace hE := hE.trans hx; replace hB3 := hB3.ext hx
  clear hx
  have k0 := hB3.cell
  go_wp2_with fail
  refine ((HV.out.ext hE).q).mono ?_
  rintro e w4 ⟨rfl, hx⟩
  clear k0
  replace hE := hE.trans hx; replace hB3 := hB3.ext hx
  clear hx
  have k0 := hB3.cell
  go_wp2_with fail
  refine (lwknown_ok _).mono ?_
  rintro e w5 ⟨rfl, hx⟩
  clear k0
  replace hE := hE.trans hx; replace hB3 := hB3.ext hx
  clear hx
  have k0 := hB3.cell
  go_wp2_with fail
  go_ret
  exact ⟨rfl, hE⟩
set_option maxRecDepth 100000 in
set_option maxHeartbeats 6400000 in
theorem anti_b (s1 s2 s3 s4 s5 s6 : Bool) (A1 A2 A3 A4 A5 A6 : Option Addr) (n1 c1 n2 c2 n3 c3 n4 c4 n5 c5 n6 c6 : Nat) (b0v : Bool) (r : Int) (w : World) (hs : ((decide (n1 ≤ 6) && decide (n2 ≤ 6) && decide (n3 ≤ 6)) && (decide (n4 ≤ 6) && decide (n5 ≤ 6) && decide (n6 ≤ 6))) = true) (hU : VB w (gv s1 A1 n1 c1 s2 A2 n2 c2 s3 A3 n3 c3) true) (hV : VB w (gv s4 A4 n4 c4 s5 A5 n5 c5 s6 A6 n6 c6) true) (h : 10000 < r) :
    Calls Try.prog 4 #[pv s1 A1 n1 c1 s2 A2 n2 c2 s3 A3 n3 c3 s4 A4 n4 c4 s5 A5 n5 c5 s6 A6 n6 c6, .int .i64 r] w fun e w' => e = .returned (.bool true) ∧ Ext w w' := by
  have HS := Lib.hid hs; clear hs
  have HU := Lib.hid hU; have HV := Lib.hid hV; clear hU hV
  have t1 : decide (r < 1) = false := by simp; omega
  have t2 : decide ((10000 : Int) < r) = true := by simp; omega
  have hB3 := Blk.new w 28 #[.bool s1, .slice A1 n1 c1, .bool s2, .slice A2 n2 c2, .bool s3, .slice A3 n3 c3, .bool s4, .slice A4 n4 c4, .bool s5, .slice A5 n5 c5, .bool s6, .slice A6 n6 c6]
  have hE : Ext w (w.alloc (.cells #[.bool s1, .slice A1 n1 c1, .bool s2, .slice A2 n2 c2, .bool s3, .slice A3 n3 c3, .bool s4, .slice A4 n4 c4, .bool s5, .slice A5 n5 c5, .bool s6, .slice A6 n6 c6] 28)) := Ext.new _ _
  have k0 := hB3.cell
  go_enter Try.func4, Try.ntmps4
  go_wp2_with (refine wpList_load_row rfl 28 _ rfl w.heap.size (by rfl) 28 _ (0, 0) _ hB3 Try.underlying28 rfl (phasor_size rfl) ?_)
  generalize (w.alloc (.cells #[.bool s1, .slice A1 n1 c1, .bool s2, .slice A2 n2 c2, .bool s3, .slice A3 n3 c3, .bool s4, .slice A4 n4 c4, .bool s5, .slice A5 n5 c5, .bool s6, .slice A6 n6 c6] 28)) = w1 at hB3 hE k0 ⊢
  generalize w.heap.size = g3 at hB3 k0 ⊢
  refine (wsmall_any s1 s2 s3 s4 s5 s6 A1 A2 A3 A4 A5 A6 n1 c1 n2 c2 n3 c3 n4 c4 n5 c5 n6 c6 _).mono ?_
  rintro e w2 ⟨rfl, hx⟩
  clear k0
  replace hE := hE.trans hx; replace hB3 := hB3.ext hx
  clear hx
  have k0 := hB3.cell
  rw [HS.out]
  go_wp2_with fail
  refine ((HU.out.ext hE).q).mono ?_
  rintro e w3 ⟨rfl, hx⟩
  clear k0
  replace hE := hE.trans hx; replace hB3 := hB3.ext hx
  clear hx
  have k0 := hB3.cell
  go_wp2_with fail
  refine ((HV.out.ext hE).q).mono ?_
  rintro e w4 ⟨rfl, hx⟩
  clear k0
  replace hE := hE.trans hx; replace hB3 := hB3.ext hx
  clear hx
  have k0 := hB3.cell
  go_wp2_with fail
  refine (lwknown_ok _).mono ?_
  rintro e w5 ⟨rfl, hx⟩
  clear k0
  replace hE := hE.trans hx; replace hB3 := hB3.ext hx
  clear hx
  have k0 := hB3.cell
  go_wp2_with fail
  go_ret
  exact ⟨rfl, hE⟩
set_option maxRecDepth 100000 in
set_option maxHeartbeats 6400000 in
theorem anti_ok (s1 s2 s3 s4 s5 s6 : Bool) (A1 A2 A3 A4 A5 A6 : Option Addr) (n1 c1 n2 c2 n3 c3 n4 c4 n5 c5 n6 c6 : Nat) (p : PQ) (r : Int) (f : Nat → Int) (w : World) (hs : ((decide (n1 ≤ 6) && decide (n2 ≤ 6) && decide (n3 ≤ 6)) && (decide (n4 ≤ 6) && decide (n5 ≤ 6) && decide (n6 ≤ 6))) = true) (hX : PV w (pv s1 A1 n1 c1 s2 A2 n2 c2 s3 A3 n3 c3 s4 A4 n4 c4 s5 A5 n5 c5 s6 A6 n6 c6) p 192) (r1 : 1 ≤ r) (r2 : r ≤ 10000) (hf : ∀ k, k < 12 → Rd (p * PQ.zp k) r (f k)) :
    Calls Try.prog 4 #[pv s1 A1 n1 c1 s2 A2 n2 c2 s3 A3 n3 c3 s4 A4 n4 c4 s5 A5 n5 c5 s6 A6 n6 c6, .int .i64 r] w fun e w' => e = .returned (.bool true) ∧ Ext w w' := by
  have HS := Lib.hid hs; have HX := Lib.hid hX; have HF := Lib.hid hf; clear hs hX hf
  have t1 : decide (r < 1) = false := by simp; omega
  have t2 : decide ((10000 : Int) < r) = false := by simp; omega
  have hB3 := Blk.new w 28 #[.bool s1, .slice A1 n1 c1, .bool s2, .slice A2 n2 c2, .bool s3, .slice A3 n3 c3, .bool s4, .slice A4 n4 c4, .bool s5, .slice A5 n5 c5, .bool s6, .slice A6 n6 c6]
  have hE : Ext w (w.alloc (.cells #[.bool s1, .slice A1 n1 c1, .bool s2, .slice A2 n2 c2, .bool s3, .slice A3 n3 c3, .bool s4, .slice A4 n4 c4, .bool s5, .slice A5 n5 c5, .bool s6, .slice A6 n6 c6] 28)) := Ext.new _ _
  have k0 := hB3.cell
  go_enter Try.func4, Try.ntmps4
  go_wp2_with (refine wpList_load_row rfl 28 _ rfl w.heap.size (by rfl) 28 _ (0, 0) _ hB3 Try.underlying28 rfl (phasor_size rfl) ?_)
  generalize (w.alloc (.cells #[.bool s1, .slice A1 n1 c1, .bool s2, .slice A2 n2 c2, .bool s3, .slice A3 n3 c3, .bool s4, .slice A4 n4 c4, .bool s5, .slice A5 n5 c5, .bool s6, .slice A6 n6 c6] 28)) = w1 at hB3 hE k0 ⊢
  generalize w.heap.size = g3 at hB3 k0 ⊢
  refine (wsmall_any s1 s2 s3 s4 s5 s6 A1 A2 A3 A4 A5 A6 n1 c1 n2 c2 n3 c3 n4 c4 n5 c5 n6 c6 _).mono ?_
  rintro e w2 ⟨rfl, hx⟩
  clear k0
  replace hE := hE.trans hx; replace hB3 := hB3.ext hx
  clear hx
  have k0 := hB3.cell
  rw [HS.out]
  go_wp2_with fail
  refine ((HX.out.gu.vb (by omega)).ext hE |>.q).mono ?_
  rintro e w3 ⟨rfl, hx⟩
  clear k0
  replace hE := hE.trans hx; replace hB3 := hB3.ext hx
  clear hx
  have k0 := hB3.cell
  go_wp2_with fail
  refine ((HX.out.gw.vb (by omega)).ext hE |>.q).mono ?_
  rintro e w4 ⟨rfl, hx⟩
  clear k0
  replace hE := hE.trans hx; replace hB3 := hB3.ext hx
  clear hx
  have k0 := hB3.cell
  go_wp2_with (refine wpList_load_row rfl 28 _ rfl g3 (by rfl) 28 _ (0, 0) _ hB3 Try.underlying28 rfl (phasor_size rfl) ?_)
  refine (channel_row _ p 192 r 16383 f _ (HX.out.ext hE) (by omega) r1 r2 (by omega) (by omega) HF.out).mono ?_
  rintro e w5 ⟨rfl, hx⟩
  clear k0
  replace hE := hE.trans hx; replace hB3 := hB3.ext hx
  clear hx
  have k0 := hB3.cell
  have hE2 := hE.alloc (.cells (row12 fun j => lm 16383 (f j)) 31); have hB7 := Blk.new w5 31 (row12 fun j => lm 16383 (f j))
  clear k0 hB3
  go_wp2_with (refine wpList_store_row rfl 31 _ _ rfl w5.heap.size (row12 fun j => lm 16383 (f j)) rfl rfl 31 #[.int .i64 0, .int .i64 0, .int .i64 0, .int .i64 0, .int .i64 0, .int .i64 0, .int .i64 0, .int .i64 0, .int .i64 0, .int .i64 0, .int .i64 0, .int .i64 0] (Blk.new w5 31 _) (a12_sz (row12_size _)) (z12_row _) (row12_one _) ?_; rw [World.setRow_alloc_new])
  replace hE := hE2; clear hE2
  generalize w5.alloc (.cells (row12 fun j => lm 16383 (f j)) 31) = w6 at hE hB7 ⊢
  generalize w5.heap.size = g7 at hB7 ⊢
  have HE := Lib.hid hE; clear hE
  go_loopw [7] (fun i wr => ∃ k : Nat, k ≤ 6 ∧ i = .int .i64 k ∧ Ext w6 wr) (fun i _ => 6 - (intOf i).toNat)
  case atStart => exact ⟨0, by omega, rfl, Ext.refl _⟩
  case round =>
    obtain ⟨k, hk, rfl, hx⟩ := hrel
    replace hB7 := hB7.ext hx
    have HX6 := Lib.hid (HE.out.trans hx)
    by_cases hlt : k < 6
    · have hd : decide ((k : Int) < 6) = true := by simp; omega
      have q1 : (0 : Int) ≤ (k : Int) := by omega
      have q2 : (k : Int) < 12 := by omega
      have q3 : (k : Int) + 6 < 12 := by omega
      have cK := (hB7.cell k).trans (row12_at (by omega))
      have cL := (hB7.cell (k + 6)).trans (row12_at (by omega))
      obtain ⟨eu, ev⟩ := zp_half p k
      have hs := lm_anti ((HF.out k (by omega)).anti (by omega) (HF.out (k + 6) (by omega)) eu ev)
      obtain ⟨y, hy⟩ : ∃ y, lm 16383 (f k) + lm 16383 (f (k + 6)) = y := ⟨_, rfl⟩
      rw [hy] at hs
      have hin := IntWalk.wrap64_in y (by omega)
      have HS := Lib.hid hs; have HIN := Lib.hid hin; clear hs eu ev hin
      go_wp2_with fail
      go_region
      rw [HIN.out]
      clear HIN cK cL hy
      rcases HS.out with h0 | h0
      all_goals
        subst h0
        clear HS
        go_wp2_with fail
        go_roundw
        case rel => exact ⟨k + 1, by omega, by go_num, hx.drew⟩
        case measure => simp [intOf]; omega
    · obtain rfl : k = 6 := by omega
      go_wp2_with fail
      refine (lwknown_ok _).mono ?_
      rintro e w8 ⟨rfl, hx8⟩
      go_wp2_with fail
      go_ret
      exact ⟨rfl, HX6.out.trans hx8⟩
end Go.Proofs.Ytjeijmnhbckjdaa
