/- The samples of a phasor: Channel for invalid arguments. -/
import Derived.Test.YtclkkoiaaddllaaGreatCb
namespace Go.Proofs.YtclkkoiaaddllaaGreat
open Go.RowKit
set_option linter.unusedVariables false

set_option maxRecDepth 100000 in
set_option maxHeartbeats 3200000 in
theorem channel_badu (s1 s2 s3 s4 s5 s6 : Bool) (A1 A2 A3 A4 A5 A6 : Option Addr) (n1 c1 n2 c2 n3 c3 n4 c4 n5 c5 n6 c6 : Nat) (b0v : Bool) (r L : Int) (w : World) (hU : VB w (gv s1 A1 n1 c1 s2 A2 n2 c2 s3 A3 n3 c3) false) (hV : VB w (gv s4 A4 n4 c4 s5 A5 n5 c5 s6 A6 n6 c6) b0v)  :
    Calls Tryz.prog 24 #[pv s1 A1 n1 c1 s2 A2 n2 c2 s3 A3 n3 c3 s4 A4 n4 c4 s5 A5 n5 c5 s6 A6 n6 c6, .int .i64 r, .int .i64 L] w fun e w' => e = .returned (.tuple #[.agg #[.int .i64 0, .int .i64 0, .int .i64 0, .int .i64 0, .int .i64 0, .int .i64 0, .int .i64 0, .int .i64 0, .int .i64 0, .int .i64 0, .int .i64 0, .int .i64 0], .int .i64 1]) ∧ Ext w w' := by
  have HU := Lib.hid hU; have HV := Lib.hid hV; clear hU hV
  have hB3 : Blk (((w.alloc (.cells #[.bool s1, .slice A1 n1 c1, .bool s2, .slice A2 n2 c2, .bool s3, .slice A3 n3 c3, .bool s4, .slice A4 n4 c4, .bool s5, .slice A5 n5 c5, .bool s6, .slice A6 n6 c6] 46)).alloc (.cells #[.int .i64 0, .int .i64 0, .int .i64 0, .int .i64 0, .int .i64 0, .int .i64 0, .int .i64 0, .int .i64 0, .int .i64 0, .int .i64 0, .int .i64 0, .int .i64 0] 48)).alloc (.cells #[.int .i64 0, .int .i64 0, .int .i64 0, .int .i64 0, .int .i64 0, .int .i64 0, .int .i64 0, .int .i64 0, .int .i64 0, .int .i64 0, .int .i64 0, .int .i64 0] 48)) w.heap.size 46 #[.bool s1, .slice A1 n1 c1, .bool s2, .slice A2 n2 c2, .bool s3, .slice A3 n3 c3, .bool s4, .slice A4 n4 c4, .bool s5, .slice A5 n5 c5, .bool s6, .slice A6 n6 c6] := ((Blk.new _ _ _).alloc _).alloc _
  have hB6 : Blk (((w.alloc (.cells #[.bool s1, .slice A1 n1 c1, .bool s2, .slice A2 n2 c2, .bool s3, .slice A3 n3 c3, .bool s4, .slice A4 n4 c4, .bool s5, .slice A5 n5 c5, .bool s6, .slice A6 n6 c6] 46)).alloc (.cells #[.int .i64 0, .int .i64 0, .int .i64 0, .int .i64 0, .int .i64 0, .int .i64 0, .int .i64 0, .int .i64 0, .int .i64 0, .int .i64 0, .int .i64 0, .int .i64 0] 48)).alloc (.cells #[.int .i64 0, .int .i64 0, .int .i64 0, .int .i64 0, .int .i64 0, .int .i64 0, .int .i64 0, .int .i64 0, .int .i64 0, .int .i64 0, .int .i64 0, .int .i64 0] 48)) (w.heap.size + 1) 48 #[.int .i64 0, .int .i64 0, .int .i64 0, .int .i64 0, .int .i64 0, .int .i64 0, .int .i64 0, .int .i64 0, .int .i64 0, .int .i64 0, .int .i64 0, .int .i64 0] := (Blk.new' _ _ (by simp)).alloc _
  have hB8 : Blk (((w.alloc (.cells #[.bool s1, .slice A1 n1 c1, .bool s2, .slice A2 n2 c2, .bool s3, .slice A3 n3 c3, .bool s4, .slice A4 n4 c4, .bool s5, .slice A5 n5 c5, .bool s6, .slice A6 n6 c6] 46)).alloc (.cells #[.int .i64 0, .int .i64 0, .int .i64 0, .int .i64 0, .int .i64 0, .int .i64 0, .int .i64 0, .int .i64 0, .int .i64 0, .int .i64 0, .int .i64 0, .int .i64 0] 48)).alloc (.cells #[.int .i64 0, .int .i64 0, .int .i64 0, .int .i64 0, .int .i64 0, .int .i64 0, .int .i64 0, .int .i64 0, .int .i64 0, .int .i64 0, .int .i64 0, .int .i64 0] 48)) (w.heap.size + 2) 48 #[.int .i64 0, .int .i64 0, .int .i64 0, .int .i64 0, .int .i64 0, .int .i64 0, .int .i64 0, .int .i64 0, .int .i64 0, .int .i64 0, .int .i64 0, .int .i64 0] := Blk.new' _ _ (by simp)
  have hE : Ext w (((w.alloc (.cells #[.bool s1, .slice A1 n1 c1, .bool s2, .slice A2 n2 c2, .bool s3, .slice A3 n3 c3, .bool s4, .slice A4 n4 c4, .bool s5, .slice A5 n5 c5, .bool s6, .slice A6 n6 c6] 46)).alloc (.cells #[.int .i64 0, .int .i64 0, .int .i64 0, .int .i64 0, .int .i64 0, .int .i64 0, .int .i64 0, .int .i64 0, .int .i64 0, .int .i64 0, .int .i64 0, .int .i64 0] 48)).alloc (.cells #[.int .i64 0, .int .i64 0, .int .i64 0, .int .i64 0, .int .i64 0, .int .i64 0, .int .i64 0, .int .i64 0, .int .i64 0, .int .i64 0, .int .i64 0, .int .i64 0] 48)) := ((Ext.new _ _).alloc _).alloc _
  have k0 := hB3.cell
  go_enter Tryz.func24, Tryz.ntmps24
  go_wp2_with fail
  generalize (((w.alloc (.cells #[.bool s1, .slice A1 n1 c1, .bool s2, .slice A2 n2 c2, .bool s3, .slice A3 n3 c3, .bool s4, .slice A4 n4 c4, .bool s5, .slice A5 n5 c5, .bool s6, .slice A6 n6 c6] 46)).alloc (.cells #[.int .i64 0, .int .i64 0, .int .i64 0, .int .i64 0, .int .i64 0, .int .i64 0, .int .i64 0, .int .i64 0, .int .i64 0, .int .i64 0, .int .i64 0, .int .i64 0] 48)).alloc (.cells #[.int .i64 0, .int .i64 0, .int .i64 0, .int .i64 0, .int .i64 0, .int .i64 0, .int .i64 0, .int .i64 0, .int .i64 0, .int .i64 0, .int .i64 0, .int .i64 0] 48)) = w1 at hB3 hB6 hB8 hE k0 ⊢
  have hb0 : w.heap.size ≤ w.heap.size := Nat.le_refl _
  generalize hg8 : w.heap.size + 2 = g8 at hB8 ⊢
  generalize hg6 : w.heap.size + 1 = g6 at hB6 ⊢
  generalize hg3 : w.heap.size = g3 at hB3 k0 ⊢
  have HG := Lib.hid (And.intro hg3 (And.intro hg6 hg8)); clear hg3 hg6 hg8 hb0
  have HE := Lib.hid hE; clear hE
  refine (HU.out.ext HE.out).e.mono ?_
  rintro e w2 ⟨rfl, hx⟩
  clear k0
  have hx1 := HE.out.trans hx
  replace hB3 := hB3.ext hx; replace hB6 := hB6.ext hx; replace hB8 := hB8.ext hx
  clear HE hx
  have HE := Lib.hid hx1; clear hx1
  have k0 := hB3.cell
  clear k0
  go_wp2_with (first | (refine wpList_load_row rfl 48 _ rfl g8 (by rfl) 48 _ (0, 0) _ hB8 Tryz.underlying48 rfl (a12_sz rfl) ?_) | (refine wpList_store_row rfl 48 _ _ rfl g6 #[.int .i64 0, .int .i64 0, .int .i64 0, .int .i64 0, .int .i64 0, .int .i64 0, .int .i64 0, .int .i64 0, .int .i64 0, .int .i64 0, .int .i64 0, .int .i64 0] rfl rfl 48 _ hB6 (a12_sz rfl) rfl z12_one ?_))
  obtain ⟨h1, h2, h3⟩ := HG.out
  refine Go.bodyPost_ret_by (results_row2 rfl _ _ g6 48 #[.int .i64 0, .int .i64 0, .int .i64 0, .int .i64 0, .int .i64 0, .int .i64 0, .int .i64 0, .int .i64 0, .int .i64 0, .int .i64 0, .int .i64 0, .int .i64 0] (0, 0) _ rfl (setRow_heap _ g6 _ _ _ _ hB6) Tryz.underlying48 rfl (a12_sz rfl)) rfl ?_
  refine ⟨?_, (Only.setRow _ g6 _).ext HE.out (by omega)⟩
  rfl

set_option maxRecDepth 100000 in
set_option maxHeartbeats 3200000 in
theorem channel_badv (s1 s2 s3 s4 s5 s6 : Bool) (A1 A2 A3 A4 A5 A6 : Option Addr) (n1 c1 n2 c2 n3 c3 n4 c4 n5 c5 n6 c6 : Nat) (b0v : Bool) (r L : Int) (w : World) (hU : VB w (gv s1 A1 n1 c1 s2 A2 n2 c2 s3 A3 n3 c3) true) (hV : VB w (gv s4 A4 n4 c4 s5 A5 n5 c5 s6 A6 n6 c6) false)  :
    Calls Tryz.prog 24 #[pv s1 A1 n1 c1 s2 A2 n2 c2 s3 A3 n3 c3 s4 A4 n4 c4 s5 A5 n5 c5 s6 A6 n6 c6, .int .i64 r, .int .i64 L] w fun e w' => e = .returned (.tuple #[.agg #[.int .i64 0, .int .i64 0, .int .i64 0, .int .i64 0, .int .i64 0, .int .i64 0, .int .i64 0, .int .i64 0, .int .i64 0, .int .i64 0, .int .i64 0, .int .i64 0], .int .i64 1]) ∧ Ext w w' := by
  have HU := Lib.hid hU; have HV := Lib.hid hV; clear hU hV
  have hB3 : Blk (((w.alloc (.cells #[.bool s1, .slice A1 n1 c1, .bool s2, .slice A2 n2 c2, .bool s3, .slice A3 n3 c3, .bool s4, .slice A4 n4 c4, .bool s5, .slice A5 n5 c5, .bool s6, .slice A6 n6 c6] 46)).alloc (.cells #[.int .i64 0, .int .i64 0, .int .i64 0, .int .i64 0, .int .i64 0, .int .i64 0, .int .i64 0, .int .i64 0, .int .i64 0, .int .i64 0, .int .i64 0, .int .i64 0] 48)).alloc (.cells #[.int .i64 0, .int .i64 0, .int .i64 0, .int .i64 0, .int .i64 0, .int .i64 0, .int .i64 0, .int .i64 0, .int .i64 0, .int .i64 0, .int .i64 0, .int .i64 0] 48)) w.heap.size 46 #[.bool s1, .slice A1 n1 c1, .bool s2, .slice A2 n2 c2, .bool s3, .slice A3 n3 c3, .bool s4, .slice A4 n4 c4, .bool s5, .slice A5 n5 c5, .bool s6, .slice A6 n6 c6] := ((Blk.new _ _ _).alloc _).alloc _
  have hB6 : Blk (((w.alloc (.cells #[.bool s1, .slice A1 n1 c1, .bool s2, .slice A2 n2 c2, .bool s3, .slice A3 n3 c3, .bool s4, .slice A4 n4 c4, .bool s5, .slice A5 n5 c5, .bool s6, .slice A6 n6 c6] 46)).alloc (.cells #[.int .i64 0, .int .i64 0, .int .i64 0, .int .i64 0, .int .i64 0, .int .i64 0, .int .i64 0, .int .i64 0, .int .i64 0, .int .i64 0, .int .i64 0, .int .i64 0] 48)).alloc (.cells #[.int .i64 0, .int .i64 0, .int .i64 0, .int .i64 0, .int .i64 0, .int .i64 0, .int .i64 0, .int .i64 0, .int .i64 0, .int .i64 0, .int .i64 0, .int .i64 0] 48)) (w.heap.size + 1) 48 #[.int .i64 0, .int .i64 0, .int .i64 0, .int .i64 0, .int .i64 0, .int .i64 0, .int .i64 0, .int .i64 0, .int .i64 0, .int .i64 0, .int .i64 0, .int .i64 0] := (Blk.new' _ _ (by simp)).alloc _
  have hB8 : Blk (((w.alloc (.cells #[.bool s1, .slice A1 n1 c1, .bool s2, .slice A2 n2 c2, .bool s3, .slice A3 n3 c3, .bool s4, .slice A4 n4 c4, .bool s5, .slice A5 n5 c5, .bool s6, .slice A6 n6 c6] 46)).alloc (.cells #[.int .i64 0, .int .i64 0, .int .i64 0, .int .i64 0, .int .i64 0, .int .i64 0, .int .i64 0, .int .i64 0, .int .i64 0, .int .i64 0, .int .i64 0, .int .i64 0] 48)).alloc (.cells #[.int .i64 0, .int .i64 0, .int .i64 0, .int .i64 0, .int .i64 0, .int .i64 0, .int .i64 0, .int .i64 0, .int .i64 0, .int .i64 0, .int .i64 0, .int .i64 0] 48)) (w.heap.size + 2) 48 #[.int .i64 0, .int .i64 0, .int .i64 0, .int .i64 0, .int .i64 0, .int .i64 0, .int .i64 0, .int .i64 0, .int .i64 0, .int .i64 0, .int .i64 0, .int .i64 0] := Blk.new' _ _ (by simp)
  have hE : Ext w (((w.alloc (.cells #[.bool s1, .slice A1 n1 c1, .bool s2, .slice A2 n2 c2, .bool s3, .slice A3 n3 c3, .bool s4, .slice A4 n4 c4, .bool s5, .slice A5 n5 c5, .bool s6, .slice A6 n6 c6] 46)).alloc (.cells #[.int .i64 0, .int .i64 0, .int .i64 0, .int .i64 0, .int .i64 0, .int .i64 0, .int .i64 0, .int .i64 0, .int .i64 0, .int .i64 0, .int .i64 0, .int .i64 0] 48)).alloc (.cells #[.int .i64 0, .int .i64 0, .int .i64 0, .int .i64 0, .int .i64 0, .int .i64 0, .int .i64 0, .int .i64 0, .int .i64 0, .int .i64 0, .int .i64 0, .int .i64 0] 48)) := ((Ext.new _ _).alloc _).alloc _
  have k0 := hB3.cell
  go_enter Tryz.func24, Tryz.ntmps24
  go_wp2_with fail
  generalize (((w.alloc (.cells #[.bool s1, .slice A1 n1 c1, .bool s2, .slice A2 n2 c2, .bool s3, .slice A3 n3 c3, .bool s4, .slice A4 n4 c4, .bool s5, .slice A5 n5 c5, .bool s6, .slice A6 n6 c6] 46)).alloc (.cells #[.int .i64 0, .int .i64 0, .int .i64 0, .int .i64 0, .int .i64 0, .int .i64 0, .int .i64 0, .int .i64 0, .int .i64 0, .int .i64 0, .int .i64 0, .int .i64 0] 48)).alloc (.cells #[.int .i64 0, .int .i64 0, .int .i64 0, .int .i64 0, .int .i64 0, .int .i64 0, .int .i64 0, .int .i64 0, .int .i64 0, .int .i64 0, .int .i64 0, .int .i64 0] 48)) = w1 at hB3 hB6 hB8 hE k0 ⊢
  have hb0 : w.heap.size ≤ w.heap.size := Nat.le_refl _
  generalize hg8 : w.heap.size + 2 = g8 at hB8 ⊢
  generalize hg6 : w.heap.size + 1 = g6 at hB6 ⊢
  generalize hg3 : w.heap.size = g3 at hB3 k0 ⊢
  have HG := Lib.hid (And.intro hg3 (And.intro hg6 hg8)); clear hg3 hg6 hg8 hb0
  have HE := Lib.hid hE; clear hE
  refine (HU.out.ext HE.out).e.mono ?_
  rintro e w2 ⟨rfl, hx⟩
  clear k0
  have hx1 := HE.out.trans hx
  replace hB3 := hB3.ext hx; replace hB6 := hB6.ext hx; replace hB8 := hB8.ext hx
  clear HE hx
  have HE := Lib.hid hx1; clear hx1
  have k0 := hB3.cell
  go_wp2_with fail
  refine (HV.out.ext HE.out).e.mono ?_
  rintro e w3 ⟨rfl, hx⟩
  clear k0
  have hx1 := HE.out.trans hx
  replace hB3 := hB3.ext hx; replace hB6 := hB6.ext hx; replace hB8 := hB8.ext hx
  clear HE hx
  have HE := Lib.hid hx1; clear hx1
  have k0 := hB3.cell
  clear k0
  go_wp2_with (first | (refine wpList_load_row rfl 48 _ rfl g8 (by rfl) 48 _ (0, 0) _ hB8 Tryz.underlying48 rfl (a12_sz rfl) ?_) | (refine wpList_store_row rfl 48 _ _ rfl g6 #[.int .i64 0, .int .i64 0, .int .i64 0, .int .i64 0, .int .i64 0, .int .i64 0, .int .i64 0, .int .i64 0, .int .i64 0, .int .i64 0, .int .i64 0, .int .i64 0] rfl rfl 48 _ hB6 (a12_sz rfl) rfl z12_one ?_))
  obtain ⟨h1, h2, h3⟩ := HG.out
  refine Go.bodyPost_ret_by (results_row2 rfl _ _ g6 48 #[.int .i64 0, .int .i64 0, .int .i64 0, .int .i64 0, .int .i64 0, .int .i64 0, .int .i64 0, .int .i64 0, .int .i64 0, .int .i64 0, .int .i64 0, .int .i64 0] (0, 0) _ rfl (setRow_heap _ g6 _ _ _ _ hB6) Tryz.underlying48 rfl (a12_sz rfl)) rfl ?_
  refine ⟨?_, (Only.setRow _ g6 _).ext HE.out (by omega)⟩
  rfl

set_option maxRecDepth 100000 in
set_option maxHeartbeats 3200000 in
theorem channel_bada (s1 s2 s3 s4 s5 s6 : Bool) (A1 A2 A3 A4 A5 A6 : Option Addr) (n1 c1 n2 c2 n3 c3 n4 c4 n5 c5 n6 c6 : Nat) (b0v : Bool) (r L : Int) (w : World) (hU : VB w (gv s1 A1 n1 c1 s2 A2 n2 c2 s3 A3 n3 c3) true) (hV : VB w (gv s4 A4 n4 c4 s5 A5 n5 c5 s6 A6 n6 c6) true) (h : r < 1) :
    Calls Tryz.prog 24 #[pv s1 A1 n1 c1 s2 A2 n2 c2 s3 A3 n3 c3 s4 A4 n4 c4 s5 A5 n5 c5 s6 A6 n6 c6, .int .i64 r, .int .i64 L] w fun e w' => e = .returned (.tuple #[.agg #[.int .i64 0, .int .i64 0, .int .i64 0, .int .i64 0, .int .i64 0, .int .i64 0, .int .i64 0, .int .i64 0, .int .i64 0, .int .i64 0, .int .i64 0, .int .i64 0], .int .i64 1]) ∧ Ext w w' := by
  have HU := Lib.hid hU; have HV := Lib.hid hV; clear hU hV
  have t1 : decide (r < 1) = true := by simp; omega
  have hB3 : Blk (((w.alloc (.cells #[.bool s1, .slice A1 n1 c1, .bool s2, .slice A2 n2 c2, .bool s3, .slice A3 n3 c3, .bool s4, .slice A4 n4 c4, .bool s5, .slice A5 n5 c5, .bool s6, .slice A6 n6 c6] 46)).alloc (.cells #[.int .i64 0, .int .i64 0, .int .i64 0, .int .i64 0, .int .i64 0, .int .i64 0, .int .i64 0, .int .i64 0, .int .i64 0, .int .i64 0, .int .i64 0, .int .i64 0] 48)).alloc (.cells #[.int .i64 0, .int .i64 0, .int .i64 0, .int .i64 0, .int .i64 0, .int .i64 0, .int .i64 0, .int .i64 0, .int .i64 0, .int .i64 0, .int .i64 0, .int .i64 0] 48)) w.heap.size 46 #[.bool s1, .slice A1 n1 c1, .bool s2, .slice A2 n2 c2, .bool s3, .slice A3 n3 c3, .bool s4, .slice A4 n4 c4, .bool s5, .slice A5 n5 c5, .bool s6, .slice A6 n6 c6] := ((Blk.new _ _ _).alloc _).alloc _
  have hB6 : Blk (((w.alloc (.cells #[.bool s1, .slice A1 n1 c1, .bool s2, .slice A2 n2 c2, .bool s3, .slice A3 n3 c3, .bool s4, .slice A4 n4 c4, .bool s5, .slice A5 n5 c5, .bool s6, .slice A6 n6 c6] 46)).alloc (.cells #[.int .i64 0, .int .i64 0, .int .i64 0, .int .i64 0, .int .i64 0, .int .i64 0, .int .i64 0, .int .i64 0, .int .i64 0, .int .i64 0, .int .i64 0, .int .i64 0] 48)).alloc (.cells #[.int .i64 0, .int .i64 0, .int .i64 0, .int .i64 0, .int .i64 0, .int .i64 0, .int .i64 0, .int .i64 0, .int .i64 0, .int .i64 0, .int .i64 0, .int .i64 0] 48)) (w.heap.size + 1) 48 #[.int .i64 0, .int .i64 0, .int .i64 0, .int .i64 0, .int .i64 0, .int .i64 0, .int .i64 0, .int .i64 0, .int .i64 0, .int .i64 0, .int .i64 0, .int .i64 0] := (Blk.new' _ _ (by simp)).alloc _
  have hB8 : Blk (((w.alloc (.cells #[.bool s1, .slice A1 n1 c1, .bool s2, .slice A2 n2 c2, .bool s3, .slice A3 n3 c3, .bool s4, .slice A4 n4 c4, .bool s5, .slice A5 n5 c5, .bool s6, .slice A6 n6 c6] 46)).alloc (.cells #[.int .i64 0, .int .i64 0, .int .i64 0, .int .i64 0, .int .i64 0, .int .i64 0, .int .i64 0, .int .i64 0, .int .i64 0, .int .i64 0, .int .i64 0, .int .i64 0] 48)).alloc (.cells #[.int .i64 0, .int .i64 0, .int .i64 0, .int .i64 0, .int .i64 0, .int .i64 0, .int .i64 0, .int .i64 0, .int .i64 0, .int .i64 0, .int .i64 0, .int .i64 0] 48)) (w.heap.size + 2) 48 #[.int .i64 0, .int .i64 0, .int .i64 0, .int .i64 0, .int .i64 0, .int .i64 0, .int .i64 0, .int .i64 0, .int .i64 0, .int .i64 0, .int .i64 0, .int .i64 0] := Blk.new' _ _ (by simp)
  have hE : Ext w (((w.alloc (.cells #[.bool s1, .slice A1 n1 c1, .bool s2, .slice A2 n2 c2, .bool s3, .slice A3 n3 c3, .bool s4, .slice A4 n4 c4, .bool s5, .slice A5 n5 c5, .bool s6, .slice A6 n6 c6] 46)).alloc (.cells #[.int .i64 0, .int .i64 0, .int .i64 0, .int .i64 0, .int .i64 0, .int .i64 0, .int .i64 0, .int .i64 0, .int .i64 0, .int .i64 0, .int .i64 0, .int .i64 0] 48)).alloc (.cells #[.int .i64 0, .int .i64 0, .int .i64 0, .int .i64 0, .int .i64 0, .int .i64 0, .int .i64 0, .int .i64 0, .int .i64 0, .int .i64 0, .int .i64 0, .int .i64 0] 48)) := ((Ext.new _ _).alloc _).alloc _
  have k0 := hB3.cell
  go_enter Tryz.func24, Tryz.ntmps24
  go_wp2_with fail
  generalize (((w.alloc (.cells #[.bool s1, .slice A1 n1 c1, .bool s2, .slice A2 n2 c2, .bool s3, .slice A3 n3 c3, .bool s4, .slice A4 n4 c4, .bool s5, .slice A5 n5 c5, .bool s6, .slice A6 n6 c6] 46)).alloc (.cells #[.int .i64 0, .int .i64 0, .int .i64 0, .int .i64 0, .int .i64 0, .int .i64 0, .int .i64 0, .int .i64 0, .int .i64 0, .int .i64 0, .int .i64 0, .int .i64 0] 48)).alloc (.cells #[.int .i64 0, .int .i64 0, .int .i64 0, .int .i64 0, .int .i64 0, .int .i64 0, .int .i64 0, .int .i64 0, .int .i64 0, .int .i64 0, .int .i64 0, .int .i64 0] 48)) = w1 at hB3 hB6 hB8 hE k0 ⊢
  have hb0 : w.heap.size ≤ w.heap.size := Nat.le_refl _
  generalize hg8 : w.heap.size + 2 = g8 at hB8 ⊢
  generalize hg6 : w.heap.size + 1 = g6 at hB6 ⊢
  generalize hg3 : w.heap.size = g3 at hB3 k0 ⊢
  have HG := Lib.hid (And.intro hg3 (And.intro hg6 hg8)); clear hg3 hg6 hg8 hb0
  have HE := Lib.hid hE; clear hE
  refine (HU.out.ext HE.out).e.mono ?_
  rintro e w2 ⟨rfl, hx⟩
  clear k0
  have hx1 := HE.out.trans hx
  replace hB3 := hB3.ext hx; replace hB6 := hB6.ext hx; replace hB8 := hB8.ext hx
  clear HE hx
  have HE := Lib.hid hx1; clear hx1
  have k0 := hB3.cell
  go_wp2_with fail
  refine (HV.out.ext HE.out).e.mono ?_
  rintro e w3 ⟨rfl, hx⟩
  clear k0
  have hx1 := HE.out.trans hx
  replace hB3 := hB3.ext hx; replace hB6 := hB6.ext hx; replace hB8 := hB8.ext hx
  clear HE hx
  have HE := Lib.hid hx1; clear hx1
  have k0 := hB3.cell
  clear k0
  go_wp2_with (first | (refine wpList_load_row rfl 48 _ rfl g8 (by rfl) 48 _ (0, 0) _ hB8 Tryz.underlying48 rfl (a12_sz rfl) ?_) | (refine wpList_store_row rfl 48 _ _ rfl g6 #[.int .i64 0, .int .i64 0, .int .i64 0, .int .i64 0, .int .i64 0, .int .i64 0, .int .i64 0, .int .i64 0, .int .i64 0, .int .i64 0, .int .i64 0, .int .i64 0] rfl rfl 48 _ hB6 (a12_sz rfl) rfl z12_one ?_))
  obtain ⟨h1, h2, h3⟩ := HG.out
  refine Go.bodyPost_ret_by (results_row2 rfl _ _ g6 48 #[.int .i64 0, .int .i64 0, .int .i64 0, .int .i64 0, .int .i64 0, .int .i64 0, .int .i64 0, .int .i64 0, .int .i64 0, .int .i64 0, .int .i64 0, .int .i64 0] (0, 0) _ rfl (setRow_heap _ g6 _ _ _ _ hB6) Tryz.underlying48 rfl (a12_sz rfl)) rfl ?_
  refine ⟨?_, (Only.setRow _ g6 _).ext HE.out (by omega)⟩
  rfl

set_option maxRecDepth 100000 in
set_option maxHeartbeats 3200000 in
theorem channel_badb (s1 s2 s3 s4 s5 s6 : Bool) (A1 A2 A3 A4 A5 A6 : Option Addr) (n1 c1 n2 c2 n3 c3 n4 c4 n5 c5 n6 c6 : Nat) (b0v : Bool) (r L : Int) (w : World) (hU : VB w (gv s1 A1 n1 c1 s2 A2 n2 c2 s3 A3 n3 c3) true) (hV : VB w (gv s4 A4 n4 c4 s5 A5 n5 c5 s6 A6 n6 c6) true) (h : 10000 < r) :
    Calls Tryz.prog 24 #[pv s1 A1 n1 c1 s2 A2 n2 c2 s3 A3 n3 c3 s4 A4 n4 c4 s5 A5 n5 c5 s6 A6 n6 c6, .int .i64 r, .int .i64 L] w fun e w' => e = .returned (.tuple #[.agg #[.int .i64 0, .int .i64 0, .int .i64 0, .int .i64 0, .int .i64 0, .int .i64 0, .int .i64 0, .int .i64 0, .int .i64 0, .int .i64 0, .int .i64 0, .int .i64 0], .int .i64 1]) ∧ Ext w w' := by
  have HU := Lib.hid hU; have HV := Lib.hid hV; clear hU hV
  have t1 : decide (r < 1) = false := by simp; omega
  have t2 : decide ((10000 : Int) < r) = true := by simp; omega
  have hB3 : Blk (((w.alloc (.cells #[.bool s1, .slice A1 n1 c1, .bool s2, .slice A2 n2 c2, .bool s3, .slice A3 n3 c3, .bool s4, .slice A4 n4 c4, .bool s5, .slice A5 n5 c5, .bool s6, .slice A6 n6 c6] 46)).alloc (.cells #[.int .i64 0, .int .i64 0, .int .i64 0, .int .i64 0, .int .i64 0, .int .i64 0, .int .i64 0, .int .i64 0, .int .i64 0, .int .i64 0, .int .i64 0, .int .i64 0] 48)).alloc (.cells #[.int .i64 0, .int .i64 0, .int .i64 0, .int .i64 0, .int .i64 0, .int .i64 0, .int .i64 0, .int .i64 0, .int .i64 0, .int .i64 0, .int .i64 0, .int .i64 0] 48)) w.heap.size 46 #[.bool s1, .slice A1 n1 c1, .bool s2, .slice A2 n2 c2, .bool s3, .slice A3 n3 c3, .bool s4, .slice A4 n4 c4, .bool s5, .slice A5 n5 c5, .bool s6, .slice A6 n6 c6] := ((Blk.new _ _ _).alloc _).alloc _
  have hB6 : Blk (((w.alloc (.cells #[.bool s1, .slice A1 n1 c1, .bool s2, .slice A2 n2 c2, .bool s3, .slice A3 n3 c3, .bool s4, .slice A4 n4 c4, .bool s5, .slice A5 n5 c5, .bool s6, .slice A6 n6 c6] 46)).alloc (.cells #[.int .i64 0, .int .i64 0, .int .i64 0, .int .i64 0, .int .i64 0, .int .i64 0, .int .i64 0, .int .i64 0, .int .i64 0, .int .i64 0, .int .i64 0, .int .i64 0] 48)).alloc (.cells #[.int .i64 0, .int .i64 0, .int .i64 0, .int .i64 0, .int .i64 0, .int .i64 0, .int .i64 0, .int .i64 0, .int .i64 0, .int .i64 0, .int .i64 0, .int .i64 0] 48)) (w.heap.size + 1) 48 #[.int .i64 0, .int .i64 0, .int .i64 0, .int .i64 0, .int .i64 0, .int .i64 0, .int .i64 0, .int .i64 0, .int .i64 0, .int .i64 0, .int .i64 0, .int .i64 0] := (Blk.new' _ _ (by simp)).alloc _
  have hB8 : Blk (((w.alloc (.cells #[.bool s1, .slice A1 n1 c1, .bool s2, .slice A2 n2 c2, .bool s3, .slice A3 n3 c3, .bool s4, .slice A4 n4 c4, .bool s5, .slice A5 n5 c5, .bool s6, .slice A6 n6 c6] 46)).alloc (.cells #[.int .i64 0, .int .i64 0, .int .i64 0, .int .i64 0, .int .i64 0, .int .i64 0, .int .i64 0, .int .i64 0, .int .i64 0, .int .i64 0, .int .i64 0, .int .i64 0] 48)).alloc (.cells #[.int .i64 0, .int .i64 0, .int .i64 0, .int .i64 0, .int .i64 0, .int .i64 0, .int .i64 0, .int .i64 0, .int .i64 0, .int .i64 0, .int .i64 0, .int .i64 0] 48)) (w.heap.size + 2) 48 #[.int .i64 0, .int .i64 0, .int .i64 0, .int .i64 0, .int .i64 0, .int .i64 0, .int .i64 0, .int .i64 0, .int .i64 0, .int .i64 0, .int .i64 0, .int .i64 0] := Blk.new' _ _ (by simp)
  have hE : Ext w (((w.alloc (.cells #[.bool s1, .slice A1 n1 c1, .bool s2, .slice A2 n2 c2, .bool s3, .slice A3 n3 c3, .bool s4, .slice A4 n4 c4, .bool s5, .slice A5 n5 c5, .bool s6, .slice A6 n6 c6] 46)).alloc (.cells #[.int .i64 0, .int .i64 0, .int .i64 0, .int .i64 0, .int .i64 0, .int .i64 0, .int .i64 0, .int .i64 0, .int .i64 0, .int .i64 0, .int .i64 0, .int .i64 0] 48)).alloc (.cells #[.int .i64 0, .int .i64 0, .int .i64 0, .int .i64 0, .int .i64 0, .int .i64 0, .int .i64 0, .int .i64 0, .int .i64 0, .int .i64 0, .int .i64 0, .int .i64 0] 48)) := ((Ext.new _ _).alloc _).alloc _
  have k0 := hB3.cell
  go_enter Tryz.func24, Tryz.ntmps24
  go_wp2_with fail
  generalize (((w.alloc (.cells #[.bool s1, .slice A1 n1 c1, .bool s2, .slice A2 n2 c2, .bool s3, .slice A3 n3 c3, .bool s4, .slice A4 n4 c4, .bool s5, .slice A5 n5 c5, .bool s6, .slice A6 n6 c6] 46)).alloc (.cells #[.int .i64 0, .int .i64 0, .int .i64 0, .int .i64 0, .int .i64 0, .int .i64 0, .int .i64 0, .int .i64 0, .int .i64 0, .int .i64 0, .int .i64 0, .int .i64 0] 48)).alloc (.cells #[.int .i64 0, .int .i64 0, .int .i64 0, .int .i64 0, .int .i64 0, .int .i64 0, .int .i64 0, .int .i64 0, .int .i64 0, .int .i64 0, .int .i64 0, .int .i64 0] 48)) = w1 at hB3 hB6 hB8 hE k0 ⊢
  have hb0 : w.heap.size ≤ w.heap.size := Nat.le_refl _
  generalize hg8 : w.heap.size + 2 = g8 at hB8 ⊢
  generalize hg6 : w.heap.size + 1 = g6 at hB6 ⊢
  generalize hg3 : w.heap.size = g3 at hB3 k0 ⊢
  have HG := Lib.hid (And.intro hg3 (And.intro hg6 hg8)); clear hg3 hg6 hg8 hb0
  have HE := Lib.hid hE; clear hE
  refine (HU.out.ext HE.out).e.mono ?_
  rintro e w2 ⟨rfl, hx⟩
  clear k0
  have hx1 := HE.out.trans hx
  replace hB3 := hB3.ext hx; replace hB6 := hB6.ext hx; replace hB8 := hB8.ext hx
  clear HE hx
  have HE := Lib.hid hx1; clear hx1
  have k0 := hB3.cell
  go_wp2_with fail
  refine (HV.out.ext HE.out).e.mono ?_
  rintro e w3 ⟨rfl, hx⟩
  clear k0
  have hx1 := HE.out.trans hx
  replace hB3 := hB3.ext hx; replace hB6 := hB6.ext hx; replace hB8 := hB8.ext hx
  clear HE hx
  have HE := Lib.hid hx1; clear hx1
  have k0 := hB3.cell
  clear k0
  go_wp2_with (first | (refine wpList_load_row rfl 48 _ rfl g8 (by rfl) 48 _ (0, 0) _ hB8 Tryz.underlying48 rfl (a12_sz rfl) ?_) | (refine wpList_store_row rfl 48 _ _ rfl g6 #[.int .i64 0, .int .i64 0, .int .i64 0, .int .i64 0, .int .i64 0, .int .i64 0, .int .i64 0, .int .i64 0, .int .i64 0, .int .i64 0, .int .i64 0, .int .i64 0] rfl rfl 48 _ hB6 (a12_sz rfl) rfl z12_one ?_))
  obtain ⟨h1, h2, h3⟩ := HG.out
  refine Go.bodyPost_ret_by (results_row2 rfl _ _ g6 48 #[.int .i64 0, .int .i64 0, .int .i64 0, .int .i64 0, .int .i64 0, .int .i64 0, .int .i64 0, .int .i64 0, .int .i64 0, .int .i64 0, .int .i64 0, .int .i64 0] (0, 0) _ rfl (setRow_heap _ g6 _ _ _ _ hB6) Tryz.underlying48 rfl (a12_sz rfl)) rfl ?_
  refine ⟨?_, (Only.setRow _ g6 _).ext HE.out (by omega)⟩
  rfl

set_option maxRecDepth 100000 in
set_option maxHeartbeats 3200000 in
theorem channel_badc (s1 s2 s3 s4 s5 s6 : Bool) (A1 A2 A3 A4 A5 A6 : Option Addr) (n1 c1 n2 c2 n3 c3 n4 c4 n5 c5 n6 c6 : Nat) (b0v : Bool) (r L : Int) (w : World) (hU : VB w (gv s1 A1 n1 c1 s2 A2 n2 c2 s3 A3 n3 c3) true) (hV : VB w (gv s4 A4 n4 c4 s5 A5 n5 c5 s6 A6 n6 c6) true) (h0 : 1 ≤ r) (h1 : r ≤ 10000) (h : L < 1) :
    Calls Tryz.prog 24 #[pv s1 A1 n1 c1 s2 A2 n2 c2 s3 A3 n3 c3 s4 A4 n4 c4 s5 A5 n5 c5 s6 A6 n6 c6, .int .i64 r, .int .i64 L] w fun e w' => e = .returned (.tuple #[.agg #[.int .i64 0, .int .i64 0, .int .i64 0, .int .i64 0, .int .i64 0, .int .i64 0, .int .i64 0, .int .i64 0, .int .i64 0, .int .i64 0, .int .i64 0, .int .i64 0], .int .i64 1]) ∧ Ext w w' := by
  have HU := Lib.hid hU; have HV := Lib.hid hV; clear hU hV
  have t1 : decide (r < 1) = false := by simp; omega
  have t2 : decide ((10000 : Int) < r) = false := by simp; omega
  have t3 : decide (L < 1) = true := by simp; omega
  have hB3 : Blk (((w.alloc (.cells #[.bool s1, .slice A1 n1 c1, .bool s2, .slice A2 n2 c2, .bool s3, .slice A3 n3 c3, .bool s4, .slice A4 n4 c4, .bool s5, .slice A5 n5 c5, .bool s6, .slice A6 n6 c6] 46)).alloc (.cells #[.int .i64 0, .int .i64 0, .int .i64 0, .int .i64 0, .int .i64 0, .int .i64 0, .int .i64 0, .int .i64 0, .int .i64 0, .int .i64 0, .int .i64 0, .int .i64 0] 48)).alloc (.cells #[.int .i64 0, .int .i64 0, .int .i64 0, .int .i64 0, .int .i64 0, .int .i64 0, .int .i64 0, .int .i64 0, .int .i64 0, .int .i64 0, .int .i64 0, .int .i64 0] 48)) w.heap.size 46 #[.bool s1, .slice A1 n1 c1, .bool s2, .slice A2 n2 c2, .bool s3, .slice A3 n3 c3, .bool s4, .slice A4 n4 c4, .bool s5, .slice A5 n5 c5, .bool s6, .slice A6 n6 c6] := ((Blk.new _ _ _).alloc _).alloc _
  have hB6 : Blk (((w.alloc (.cells #[.bool s1, .slice A1 n1 c1, .bool s2, .slice A2 n2 c2, .bool s3, .slice A3 n3 c3, .bool s4, .slice A4 n4 c4, .bool s5, .slice A5 n5 c5, .bool s6, .slice A6 n6 c6] 46)).alloc (.cells #[.int .i64 0, .int .i64 0, .int .i64 0, .int .i64 0, .int .i64 0, .int .i64 0, .int .i64 0, .int .i64 0, .int .i64 0, .int .i64 0, .int .i64 0, .int .i64 0] 48)).alloc (.cells #[.int .i64 0, .int .i64 0, .int .i64 0, .int .i64 0, .int .i64 0, .int .i64 0, .int .i64 0, .int .i64 0, .int .i64 0, .int .i64 0, .int .i64 0, .int .i64 0] 48)) (w.heap.size + 1) 48 #[.int .i64 0, .int .i64 0, .int .i64 0, .int .i64 0, .int .i64 0, .int .i64 0, .int .i64 0, .int .i64 0, .int .i64 0, .int .i64 0, .int .i64 0, .int .i64 0] := (Blk.new' _ _ (by simp)).alloc _
  have hB8 : Blk (((w.alloc (.cells #[.bool s1, .slice A1 n1 c1, .bool s2, .slice A2 n2 c2, .bool s3, .slice A3 n3 c3, .bool s4, .slice A4 n4 c4, .bool s5, .slice A5 n5 c5, .bool s6, .slice A6 n6 c6] 46)).alloc (.cells #[.int .i64 0, .int .i64 0, .int .i64 0, .int .i64 0, .int .i64 0, .int .i64 0, .int .i64 0, .int .i64 0, .int .i64 0, .int .i64 0, .int .i64 0, .int .i64 0] 48)).alloc (.cells #[.int .i64 0, .int .i64 0, .int .i64 0, .int .i64 0, .int .i64 0, .int .i64 0, .int .i64 0, .int .i64 0, .int .i64 0, .int .i64 0, .int .i64 0, .int .i64 0] 48)) (w.heap.size + 2) 48 #[.int .i64 0, .int .i64 0, .int .i64 0, .int .i64 0, .int .i64 0, .int .i64 0, .int .i64 0, .int .i64 0, .int .i64 0, .int .i64 0, .int .i64 0, .int .i64 0] := Blk.new' _ _ (by simp)
  have hE : Ext w (((w.alloc (.cells #[.bool s1, .slice A1 n1 c1, .bool s2, .slice A2 n2 c2, .bool s3, .slice A3 n3 c3, .bool s4, .slice A4 n4 c4, .bool s5, .slice A5 n5 c5, .bool s6, .slice A6 n6 c6] 46)).alloc (.cells #[.int .i64 0, .int .i64 0, .int .i64 0, .int .i64 0, .int .i64 0, .int .i64 0, .int .i64 0, .int .i64 0, .int .i64 0, .int .i64 0, .int .i64 0, .int .i64 0] 48)).alloc (.cells #[.int .i64 0, .int .i64 0, .int .i64 0, .int .i64 0, .int .i64 0, .int .i64 0, .int .i64 0, .int .i64 0, .int .i64 0, .int .i64 0, .int .i64 0, .int .i64 0] 48)) := ((Ext.new _ _).alloc _).alloc _
  have k0 := hB3.cell
  go_enter Tryz.func24, Tryz.ntmps24
  go_wp2_with fail
  generalize (((w.alloc (.cells #[.bool s1, .slice A1 n1 c1, .bool s2, .slice A2 n2 c2, .bool s3, .slice A3 n3 c3, .bool s4, .slice A4 n4 c4, .bool s5, .slice A5 n5 c5, .bool s6, .slice A6 n6 c6] 46)).alloc (.cells #[.int .i64 0, .int .i64 0, .int .i64 0, .int .i64 0, .int .i64 0, .int .i64 0, .int .i64 0, .int .i64 0, .int .i64 0, .int .i64 0, .int .i64 0, .int .i64 0] 48)).alloc (.cells #[.int .i64 0, .int .i64 0, .int .i64 0, .int .i64 0, .int .i64 0, .int .i64 0, .int .i64 0, .int .i64 0, .int .i64 0, .int .i64 0, .int .i64 0, .int .i64 0] 48)) = w1 at hB3 hB6 hB8 hE k0 ⊢
  have hb0 : w.heap.size ≤ w.heap.size := Nat.le_refl _
  generalize hg8 : w.heap.size + 2 = g8 at hB8 ⊢
  generalize hg6 : w.heap.size + 1 = g6 at hB6 ⊢
  generalize hg3 : w.heap.size = g3 at hB3 k0 ⊢
  have HG := Lib.hid (And.intro hg3 (And.intro hg6 hg8)); clear hg3 hg6 hg8 hb0
  have HE := Lib.hid hE; clear hE
  refine (HU.out.ext HE.out).e.mono ?_
  rintro e w2 ⟨rfl, hx⟩
  clear k0
  have hx1 := HE.out.trans hx
  replace hB3 := hB3.ext hx; replace hB6 := hB6.ext hx; replace hB8 := hB8.ext hx
  clear HE hx
  have HE := Lib.hid hx1; clear hx1
  have k0 := hB3.cell
  go_wp2_with fail
  refine (HV.out.ext HE.out).e.mono ?_
  rintro e w3 ⟨rfl, hx⟩
  clear k0
  have hx1 := HE.out.trans hx
  replace hB3 := hB3.ext hx; replace hB6 := hB6.ext hx; replace hB8 := hB8.ext hx
  clear HE hx
  have HE := Lib.hid hx1; clear hx1
  have k0 := hB3.cell
  clear k0
  go_wp2_with (first | (refine wpList_load_row rfl 48 _ rfl g8 (by rfl) 48 _ (0, 0) _ hB8 Tryz.underlying48 rfl (a12_sz rfl) ?_) | (refine wpList_store_row rfl 48 _ _ rfl g6 #[.int .i64 0, .int .i64 0, .int .i64 0, .int .i64 0, .int .i64 0, .int .i64 0, .int .i64 0, .int .i64 0, .int .i64 0, .int .i64 0, .int .i64 0, .int .i64 0] rfl rfl 48 _ hB6 (a12_sz rfl) rfl z12_one ?_))
  obtain ⟨h1, h2, h3⟩ := HG.out
  refine Go.bodyPost_ret_by (results_row2 rfl _ _ g6 48 #[.int .i64 0, .int .i64 0, .int .i64 0, .int .i64 0, .int .i64 0, .int .i64 0, .int .i64 0, .int .i64 0, .int .i64 0, .int .i64 0, .int .i64 0, .int .i64 0] (0, 0) _ rfl (setRow_heap _ g6 _ _ _ _ hB6) Tryz.underlying48 rfl (a12_sz rfl)) rfl ?_
  refine ⟨?_, (Only.setRow _ g6 _).ext HE.out (by omega)⟩
  rfl

set_option maxRecDepth 100000 in
set_option maxHeartbeats 3200000 in
theorem channel_badd (s1 s2 s3 s4 s5 s6 : Bool) (A1 A2 A3 A4 A5 A6 : Option Addr) (n1 c1 n2 c2 n3 c3 n4 c4 n5 c5 n6 c6 : Nat) (b0v : Bool) (r L : Int) (w : World) (hU : VB w (gv s1 A1 n1 c1 s2 A2 n2 c2 s3 A3 n3 c3) true) (hV : VB w (gv s4 A4 n4 c4 s5 A5 n5 c5 s6 A6 n6 c6) true) (h0 : 1 ≤ r) (h1 : r ≤ 10000) (h : 16383 < L) :
    Calls Tryz.prog 24 #[pv s1 A1 n1 c1 s2 A2 n2 c2 s3 A3 n3 c3 s4 A4 n4 c4 s5 A5 n5 c5 s6 A6 n6 c6, .int .i64 r, .int .i64 L] w fun e w' => e = .returned (.tuple #[.agg #[.int .i64 0, .int .i64 0, .int .i64 0, .int .i64 0, .int .i64 0, .int .i64 0, .int .i64 0, .int .i64 0, .int .i64 0, .int .i64 0, .int .i64 0, .int .i64 0], .int .i64 1]) ∧ Ext w w' := by
  have HU := Lib.hid hU; have HV := Lib.hid hV; clear hU hV
  have t1 : decide (r < 1) = false := by simp; omega
  have t2 : decide ((10000 : Int) < r) = false := by simp; omega
  have t3 : decide (L < 1) = false := by simp; omega
  have t4 : decide ((16383 : Int) < L) = true := by simp; omega
  have hB3 : Blk (((w.alloc (.cells #[.bool s1, .slice A1 n1 c1, .bool s2, .slice A2 n2 c2, .bool s3, .slice A3 n3 c3, .bool s4, .slice A4 n4 c4, .bool s5, .slice A5 n5 c5, .bool s6, .slice A6 n6 c6] 46)).alloc (.cells #[.int .i64 0, .int .i64 0, .int .i64 0, .int .i64 0, .int .i64 0, .int .i64 0, .int .i64 0, .int .i64 0, .int .i64 0, .int .i64 0, .int .i64 0, .int .i64 0] 48)).alloc (.cells #[.int .i64 0, .int .i64 0, .int .i64 0, .int .i64 0, .int .i64 0, .int .i64 0, .int .i64 0, .int .i64 0, .int .i64 0, .int .i64 0, .int .i64 0, .int .i64 0] 48)) w.heap.size 46 #[.bool s1, .slice A1 n1 c1, .bool s2, .slice A2 n2 c2, .bool s3, .slice A3 n3 c3, .bool s4, .slice A4 n4 c4, .bool s5, .slice A5 n5 c5, .bool s6, .slice A6 n6 c6] := ((Blk.new _ _ _).alloc _).alloc _
  have hB6 : Blk (((w.alloc (.cells #[.bool s1, .slice A1 n1 c1, .bool s2, .slice A2 n2 c2, .bool s3, .slice A3 n3 c3, .bool s4, .slice A4 n4 c4, .bool s5, .slice A5 n5 c5, .bool s6, .slice A6 n6 c6] 46)).alloc (.cells #[.int .i64 0, .int .i64 0, .int .i64 0, .int .i64 0, .int .i64 0, .int .i64 0, .int .i64 0, .int .i64 0, .int .i64 0, .int .i64 0, .int .i64 0, .int .i64 0] 48)).alloc (.cells #[.int .i64 0, .int .i64 0, .int .i64 0, .int .i64 0, .int .i64 0, .int .i64 0, .int .i64 0, .int .i64 0, .int .i64 0, .int .i64 0, .int .i64 0, .int .i64 0] 48)) (w.heap.size + 1) 48 #[.int .i64 0, .int .i64 0, .int .i64 0, .int .i64 0, .int .i64 0, .int .i64 0, .int .i64 0, .int .i64 0, .int .i64 0, .int .i64 0, .int .i64 0, .int .i64 0] := (Blk.new' _ _ (by simp)).alloc _
  have hB8 : Blk (((w.alloc (.cells #[.bool s1, .slice A1 n1 c1, .bool s2, .slice A2 n2 c2, .bool s3, .slice A3 n3 c3, .bool s4, .slice A4 n4 c4, .bool s5, .slice A5 n5 c5, .bool s6, .slice A6 n6 c6] 46)).alloc (.cells #[.int .i64 0, .int .i64 0, .int .i64 0, .int .i64 0, .int .i64 0, .int .i64 0, .int .i64 0, .int .i64 0, .int .i64 0, .int .i64 0, .int .i64 0, .int .i64 0] 48)).alloc (.cells #[.int .i64 0, .int .i64 0, .int .i64 0, .int .i64 0, .int .i64 0, .int .i64 0, .int .i64 0, .int .i64 0, .int .i64 0, .int .i64 0, .int .i64 0, .int .i64 0] 48)) (w.heap.size + 2) 48 #[.int .i64 0, .int .i64 0, .int .i64 0, .int .i64 0, .int .i64 0, .int .i64 0, .int .i64 0, .int .i64 0, .int .i64 0, .int .i64 0, .int .i64 0, .int .i64 0] := Blk.new' _ _ (by simp)
  have hE : Ext w (((w.alloc (.cells #[.bool s1, .slice A1 n1 c1, .bool s2, .slice A2 n2 c2, .bool s3, .slice A3 n3 c3, .bool s4, .slice A4 n4 c4, .bool s5, .slice A5 n5 c5, .bool s6, .slice A6 n6 c6] 46)).alloc (.cells #[.int .i64 0, .int .i64 0, .int .i64 0, .int .i64 0, .int .i64 0, .int .i64 0, .int .i64 0, .int .i64 0, .int .i64 0, .int .i64 0, .int .i64 0, .int .i64 0] 48)).alloc (.cells #[.int .i64 0, .int .i64 0, .int .i64 0, .int .i64 0, .int .i64 0, .int .i64 0, .int .i64 0, .int .i64 0, .int .i64 0, .int .i64 0, .int .i64 0, .int .i64 0] 48)) := ((Ext.new _ _).alloc _).alloc _
  have k0 := hB3.cell
  go_enter Tryz.func24, Tryz.ntmps24
  go_wp2_with fail
  generalize (((w.alloc (.cells #[.bool s1, .slice A1 n1 c1, .bool s2, .slice A2 n2 c2, .bool s3, .slice A3 n3 c3, .bool s4, .slice A4 n4 c4, .bool s5, .slice A5 n5 c5, .bool s6, .slice A6 n6 c6] 46)).alloc (.cells #[.int .i64 0, .int .i64 0, .int .i64 0, .int .i64 0, .int .i64 0, .int .i64 0, .int .i64 0, .int .i64 0, .int .i64 0, .int .i64 0, .int .i64 0, .int .i64 0] 48)).alloc (.cells #[.int .i64 0, .int .i64 0, .int .i64 0, .int .i64 0, .int .i64 0, .int .i64 0, .int .i64 0, .int .i64 0, .int .i64 0, .int .i64 0, .int .i64 0, .int .i64 0] 48)) = w1 at hB3 hB6 hB8 hE k0 ⊢
  have hb0 : w.heap.size ≤ w.heap.size := Nat.le_refl _
  generalize hg8 : w.heap.size + 2 = g8 at hB8 ⊢
  generalize hg6 : w.heap.size + 1 = g6 at hB6 ⊢
  generalize hg3 : w.heap.size = g3 at hB3 k0 ⊢
  have HG := Lib.hid (And.intro hg3 (And.intro hg6 hg8)); clear hg3 hg6 hg8 hb0
  have HE := Lib.hid hE; clear hE
  refine (HU.out.ext HE.out).e.mono ?_
  rintro e w2 ⟨rfl, hx⟩
  clear k0
  have hx1 := HE.out.trans hx
  replace hB3 := hB3.ext hx; replace hB6 := hB6.ext hx; replace hB8 := hB8.ext hx
  clear HE hx
  have HE := Lib.hid hx1; clear hx1
  have k0 := hB3.cell
  go_wp2_with fail
  refine (HV.out.ext HE.out).e.mono ?_
  rintro e w3 ⟨rfl, hx⟩
  clear k0
  have hx1 := HE.out.trans hx
  replace hB3 := hB3.ext hx; replace hB6 := hB6.ext hx; replace hB8 := hB8.ext hx
  clear HE hx
  have HE := Lib.hid hx1; clear hx1
  have k0 := hB3.cell
  clear k0
  go_wp2_with (first | (refine wpList_load_row rfl 48 _ rfl g8 (by rfl) 48 _ (0, 0) _ hB8 Tryz.underlying48 rfl (a12_sz rfl) ?_) | (refine wpList_store_row rfl 48 _ _ rfl g6 #[.int .i64 0, .int .i64 0, .int .i64 0, .int .i64 0, .int .i64 0, .int .i64 0, .int .i64 0, .int .i64 0, .int .i64 0, .int .i64 0, .int .i64 0, .int .i64 0] rfl rfl 48 _ hB6 (a12_sz rfl) rfl z12_one ?_))
  obtain ⟨h1, h2, h3⟩ := HG.out
  refine Go.bodyPost_ret_by (results_row2 rfl _ _ g6 48 #[.int .i64 0, .int .i64 0, .int .i64 0, .int .i64 0, .int .i64 0, .int .i64 0, .int .i64 0, .int .i64 0, .int .i64 0, .int .i64 0, .int .i64 0, .int .i64 0] (0, 0) _ rfl (setRow_heap _ g6 _ _ _ _ hB6) Tryz.underlying48 rfl (a12_sz rfl)) rfl ?_
  refine ⟨?_, (Only.setRow _ g6 _).ext HE.out (by omega)⟩
  rfl
end Go.Proofs.YtclkkoiaaddllaaGreat
