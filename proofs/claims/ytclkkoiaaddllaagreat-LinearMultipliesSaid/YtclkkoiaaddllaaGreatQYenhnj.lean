/- The methods of linear's field. -/
import Derived.Test.YtclkkoiaaddllaaGreatQYckiei
import Derived.Test.YtclkkoiaaddllaaGreatQYdfhpp
import Derived.Test.YtclkkoiaaddllaaGreatQGhjefh
namespace Go.Proofs.YtclkkoiaaddllaaGreat
open Go.RowKit
set_option linter.unusedVariables false

/-- No error has been noted. -/
def CalmF (w : World) (g : Nat) : Prop := Blk w g 68 #[.int .i64 0]
theorem CalmF.ext {w w' : World} {g : Nat} (h : CalmF w g) (x : Ext w w') : CalmF w' g := Blk.ext h x
theorem put_gauss {w w' : World} {g n : Nat} {q : GQ} {s1 s2 s3 : Bool} {A1 A2 A3 : Option Addr} {n1 c1 n2 c2 n3 c3 : Nat} (hx : Ext w w') (ho : w.heap.size ≤ g) (hb : Blk w' g 32 #[.bool false, .slice none 0 0, .bool false, .slice none 0 0, .bool false, .slice none 0 0])
    (h : GV w' (gv s1 A1 n1 c1 s2 A2 n2 c2 s3 A3 n3 c3) q n) :
    Ext w ((((((w'.setCell ⟨g, 0, none⟩ (.bool s1)).setCell ⟨g, 1, none⟩ (.slice A1 n1 c1)).setCell ⟨g, 2, none⟩ (.bool s2)).setCell ⟨g, 3, none⟩ (.slice A2 n2 c2)).setCell ⟨g, 4, none⟩ (.bool s3)).setCell ⟨g, 5, none⟩ (.slice A3 n3 c3)) ∧
    Blk ((((((w'.setCell ⟨g, 0, none⟩ (.bool s1)).setCell ⟨g, 1, none⟩ (.slice A1 n1 c1)).setCell ⟨g, 2, none⟩ (.bool s2)).setCell ⟨g, 3, none⟩ (.slice A2 n2 c2)).setCell ⟨g, 4, none⟩ (.bool s3)).setCell ⟨g, 5, none⟩ (.slice A3 n3 c3)) g 32 #[.bool s1, .slice A1 n1 c1, .bool s2, .slice A2 n2 c2, .bool s3, .slice A3 n3 c3] ∧
    GV ((((((w'.setCell ⟨g, 0, none⟩ (.bool s1)).setCell ⟨g, 1, none⟩ (.slice A1 n1 c1)).setCell ⟨g, 2, none⟩ (.bool s2)).setCell ⟨g, 3, none⟩ (.slice A2 n2 c2)).setCell ⟨g, 4, none⟩ (.bool s3)).setCell ⟨g, 5, none⟩ (.slice A3 n3 c3)) (gv s1 A1 n1 c1 s2 A2 n2 c2 s3 A3 n3 c3) q n := by
  have hm : Mod (fun k => k = g) w' (puts w' g 0 [.bool s1, .slice A1 n1 c1, .bool s2, .slice A2 n2 c2, .bool s3, .slice A3 n3 c3]) := Mod.only (puts_only _ _ _ _) rfl
  have hS : Far (fun k => k = g) w' := fun k hk _ => by subst hk; exact ⟨_, _, hb, rfl⟩
  have ec : setsA #[.bool false, .slice none 0 0, .bool false, .slice none 0 0, .bool false, .slice none 0 0] 0 [.bool s1, .slice A1 n1 c1, .bool s2, .slice A2 n2 c2, .bool s3, .slice A3 n3 c3] = #[.bool s1, .slice A1 n1 c1, .bool s2, .slice A2 n2 c2, .bool s3, .slice A3 n3 c3] := by kernel_rfl
  have h1 := puts_ext ho 0 [.bool s1, .slice A1 n1 c1, .bool s2, .slice A2 n2 c2, .bool s3, .slice A3 n3 c3] hx
  have h2 := puts_blk 0 [.bool s1, .slice A1 n1 c1, .bool s2, .slice A2 n2 c2, .bool s3, .slice A3 n3 c3] hb
  rw [ec] at h2
  exact ⟨h1, h2, h.mod hm hS⟩

set_option maxRecDepth 100000 in
set_option maxHeartbeats 1600000 in
theorem fkeep_ok (g : Nat) (v : Value) (q : GQ) (n : Nat) (w : World) (hc : CalmF w g) (hX : GV w v q n) :
    Calls Tryz.prog 36 #[.pointer (some ⟨g, 0, none⟩), v, .int .i64 0] w fun e w' => ∃ v, e = .returned v ∧ GV w' v q n ∧ Ext w w' := by
  obtain ⟨s1, A1, n1, c1, s2, A2, n2, c2, s3, A3, n3, c3, rfl⟩ := hX.opn
  have k00 := Blk.cell hc
  have f00 := Blk.frozen hc
  have hw1 : Ext w (w.setCell ⟨g, 0, none⟩ (.int .i64 0)) := (Ext.refl w).stay hc rfl
  have hc1 := hc.ext hw1
  have k1 := Blk.cell hc1
  have hlt : g < w.heap.size := Blk.lt hc
  have HX1 := Lib.hid (hX.ext hw1)
  clear hX
  go_enter Tryz.func36, Tryz.ntmps36
  go_wp2_with fail
  exact bp_gauss1 rfl rfl rfl (Blk.new' _ _ (by simp [World.setCell])) ⟨_, rfl, HX1.out.ext ((Ext.new _ _).alloc _), hw1.trans ((Ext.new _ _).alloc _)⟩
set_option maxRecDepth 100000 in
set_option maxHeartbeats 1600000 in
theorem fadd_ok (g : Nat) (v0 v1 : Value) (q0 q1 : GQ) (n0 n1 : Nat) (w : World) (hc : CalmF w g) (hX : GV w v0 q0 n0) (hY : GV w v1 q1 n1) (hn : 2 * max n0 n1 + 65 ≤ 12800) :
    Calls Tryz.prog 43 #[.pointer (some ⟨g, 0, none⟩), v0, v1] w fun e w' => ∃ v, e = .returned v ∧ GV w' v (q0 + q1) (n0 + n1 + 65) ∧ Ext w w' := by
  obtain ⟨sx1, Ax1, nx1, cx1, sx2, Ax2, nx2, cx2, sx3, Ax3, nx3, cx3, rfl⟩ := hX.opn
  obtain ⟨sy1, Ay1, ny1, cy1, sy2, Ay2, ny2, cy2, sy3, Ay3, ny3, cy3, rfl⟩ := hY.opn
  have HX := Lib.hid hX; have HY := Lib.hid hY; clear hX hY
  have hE : Ext w (((w.alloc (.cells #[.bool sx1, .slice Ax1 nx1 cx1, .bool sx2, .slice Ax2 nx2 cx2, .bool sx3, .slice Ax3 nx3 cx3] 32)).alloc (.cells #[.bool sy1, .slice Ay1 ny1 cy1, .bool sy2, .slice Ay2 ny2 cy2, .bool sy3, .slice Ay3 ny3 cy3] 32)).alloc (.cells #[.bool false, .slice none 0 0, .bool false, .slice none 0 0, .bool false, .slice none 0 0] 32)) := ((Ext.new _ _).alloc _).alloc _
  have hB4 : Blk (((w.alloc (.cells #[.bool sx1, .slice Ax1 nx1 cx1, .bool sx2, .slice Ax2 nx2 cx2, .bool sx3, .slice Ax3 nx3 cx3] 32)).alloc (.cells #[.bool sy1, .slice Ay1 ny1 cy1, .bool sy2, .slice Ay2 ny2 cy2, .bool sy3, .slice Ay3 ny3 cy3] 32)).alloc (.cells #[.bool false, .slice none 0 0, .bool false, .slice none 0 0, .bool false, .slice none 0 0] 32)) w.heap.size 32 #[.bool sx1, .slice Ax1 nx1 cx1, .bool sx2, .slice Ax2 nx2 cx2, .bool sx3, .slice Ax3 nx3 cx3] := ((Blk.new _ _ _).alloc _).alloc _
  have hB5 : Blk (((w.alloc (.cells #[.bool sx1, .slice Ax1 nx1 cx1, .bool sx2, .slice Ax2 nx2 cx2, .bool sx3, .slice Ax3 nx3 cx3] 32)).alloc (.cells #[.bool sy1, .slice Ay1 ny1 cy1, .bool sy2, .slice Ay2 ny2 cy2, .bool sy3, .slice Ay3 ny3 cy3] 32)).alloc (.cells #[.bool false, .slice none 0 0, .bool false, .slice none 0 0, .bool false, .slice none 0 0] 32)) (w.heap.size + 1) 32 #[.bool sy1, .slice Ay1 ny1 cy1, .bool sy2, .slice Ay2 ny2 cy2, .bool sy3, .slice Ay3 ny3 cy3] := (Blk.new' _ _ (by simp)).alloc _
  have hB6 : Blk (((w.alloc (.cells #[.bool sx1, .slice Ax1 nx1 cx1, .bool sx2, .slice Ax2 nx2 cx2, .bool sx3, .slice Ax3 nx3 cx3] 32)).alloc (.cells #[.bool sy1, .slice Ay1 ny1 cy1, .bool sy2, .slice Ay2 ny2 cy2, .bool sy3, .slice Ay3 ny3 cy3] 32)).alloc (.cells #[.bool false, .slice none 0 0, .bool false, .slice none 0 0, .bool false, .slice none 0 0] 32)) (w.heap.size + 2) 32 #[.bool false, .slice none 0 0, .bool false, .slice none 0 0, .bool false, .slice none 0 0] := Blk.new' _ _ (by simp)
  have hc1 := hc.ext hE
  have k0 := Blk.cell hc1
  go_enter Tryz.func43, Tryz.ntmps43
  go_wp2_with fail
  refine (xAdd_ok _ q0 n0 _ q1 n1 _ (HX.out.ext hE) (HY.out.ext hE) hn).mono ?_
  rintro e w2 ⟨v, rfl, ⟨u, rfl, hu⟩, hx⟩
  clear k0
  replace hE := hE.trans hx; replace hB6 := hB6.ext hx; replace hc1 := hc1.ext hx
  clear hx hB4 hB5
  go_wp2_with fail
  refine (fkeep_ok g u _ _ _ hc1 hu).mono ?_
  rintro e w3 ⟨v, rfl, hv, hx⟩
  replace hE := hE.trans hx; replace hB6 := hB6.ext hx
  clear hx hu hc1
  obtain ⟨sr1, Ar1, nr1, cr1, sr2, Ar2, nr2, cr2, sr3, Ar3, nr3, cr3, rfl⟩ := hv.opn
  have k6 := hB6.cell; have f6 := hB6.frozen
  obtain ⟨p1, p2, p3⟩ := put_gauss hE (by omega) hB6 hv
  have P1 := Lib.hid p1; have P2 := Lib.hid p2; have P3 := Lib.hid p3
  clear p1 p2 p3 hE hB6 hv
  go_wp2_with fail
  exact bp_gauss1 rfl rfl rfl P2.out ⟨_, rfl, P3.out, P1.out⟩
set_option maxRecDepth 100000 in
set_option maxHeartbeats 1600000 in
theorem fsub_ok (g : Nat) (v0 v1 : Value) (q0 q1 : GQ) (n0 n1 : Nat) (w : World) (hc : CalmF w g) (hX : GV w v0 q0 n0) (hY : GV w v1 q1 n1) (hn : 2 * max n0 n1 + 65 ≤ 12800) :
    Calls Tryz.prog 39 #[.pointer (some ⟨g, 0, none⟩), v0, v1] w fun e w' => ∃ v, e = .returned v ∧ GV w' v (q0 - q1) (n0 + n1 + 65) ∧ Ext w w' := by
  obtain ⟨sx1, Ax1, nx1, cx1, sx2, Ax2, nx2, cx2, sx3, Ax3, nx3, cx3, rfl⟩ := hX.opn
  obtain ⟨sy1, Ay1, ny1, cy1, sy2, Ay2, ny2, cy2, sy3, Ay3, ny3, cy3, rfl⟩ := hY.opn
  have HX := Lib.hid hX; have HY := Lib.hid hY; clear hX hY
  have hE : Ext w (((w.alloc (.cells #[.bool sx1, .slice Ax1 nx1 cx1, .bool sx2, .slice Ax2 nx2 cx2, .bool sx3, .slice Ax3 nx3 cx3] 32)).alloc (.cells #[.bool sy1, .slice Ay1 ny1 cy1, .bool sy2, .slice Ay2 ny2 cy2, .bool sy3, .slice Ay3 ny3 cy3] 32)).alloc (.cells #[.bool false, .slice none 0 0, .bool false, .slice none 0 0, .bool false, .slice none 0 0] 32)) := ((Ext.new _ _).alloc _).alloc _
  have hB4 : Blk (((w.alloc (.cells #[.bool sx1, .slice Ax1 nx1 cx1, .bool sx2, .slice Ax2 nx2 cx2, .bool sx3, .slice Ax3 nx3 cx3] 32)).alloc (.cells #[.bool sy1, .slice Ay1 ny1 cy1, .bool sy2, .slice Ay2 ny2 cy2, .bool sy3, .slice Ay3 ny3 cy3] 32)).alloc (.cells #[.bool false, .slice none 0 0, .bool false, .slice none 0 0, .bool false, .slice none 0 0] 32)) w.heap.size 32 #[.bool sx1, .slice Ax1 nx1 cx1, .bool sx2, .slice Ax2 nx2 cx2, .bool sx3, .slice Ax3 nx3 cx3] := ((Blk.new _ _ _).alloc _).alloc _
  have hB5 : Blk (((w.alloc (.cells #[.bool sx1, .slice Ax1 nx1 cx1, .bool sx2, .slice Ax2 nx2 cx2, .bool sx3, .slice Ax3 nx3 cx3] 32)).alloc (.cells #[.bool sy1, .slice Ay1 ny1 cy1, .bool sy2, .slice Ay2 ny2 cy2, .bool sy3, .slice Ay3 ny3 cy3] 32)).alloc (.cells #[.bool false, .slice none 0 0, .bool false, .slice none 0 0, .bool false, .slice none 0 0] 32)) (w.heap.size + 1) 32 #[.bool sy1, .slice Ay1 ny1 cy1, .bool sy2, .slice Ay2 ny2 cy2, .bool sy3, .slice Ay3 ny3 cy3] := (Blk.new' _ _ (by simp)).alloc _
  have hB6 : Blk (((w.alloc (.cells #[.bool sx1, .slice Ax1 nx1 cx1, .bool sx2, .slice Ax2 nx2 cx2, .bool sx3, .slice Ax3 nx3 cx3] 32)).alloc (.cells #[.bool sy1, .slice Ay1 ny1 cy1, .bool sy2, .slice Ay2 ny2 cy2, .bool sy3, .slice Ay3 ny3 cy3] 32)).alloc (.cells #[.bool false, .slice none 0 0, .bool false, .slice none 0 0, .bool false, .slice none 0 0] 32)) (w.heap.size + 2) 32 #[.bool false, .slice none 0 0, .bool false, .slice none 0 0, .bool false, .slice none 0 0] := Blk.new' _ _ (by simp)
  have hc1 := hc.ext hE
  have k0 := Blk.cell hc1
  go_enter Tryz.func39, Tryz.ntmps39
  go_wp2_with fail
  refine (xSub_ok _ q0 n0 _ q1 n1 _ (HX.out.ext hE) (HY.out.ext hE) hn).mono ?_
  rintro e w2 ⟨v, rfl, ⟨u, rfl, hu⟩, hx⟩
  clear k0
  replace hE := hE.trans hx; replace hB6 := hB6.ext hx; replace hc1 := hc1.ext hx
  clear hx hB4 hB5
  go_wp2_with fail
  refine (fkeep_ok g u _ _ _ hc1 hu).mono ?_
  rintro e w3 ⟨v, rfl, hv, hx⟩
  replace hE := hE.trans hx; replace hB6 := hB6.ext hx
  clear hx hu hc1
  obtain ⟨sr1, Ar1, nr1, cr1, sr2, Ar2, nr2, cr2, sr3, Ar3, nr3, cr3, rfl⟩ := hv.opn
  have k6 := hB6.cell; have f6 := hB6.frozen
  obtain ⟨p1, p2, p3⟩ := put_gauss hE (by omega) hB6 hv
  have P1 := Lib.hid p1; have P2 := Lib.hid p2; have P3 := Lib.hid p3
  clear p1 p2 p3 hE hB6 hv
  go_wp2_with fail
  exact bp_gauss1 rfl rfl rfl P2.out ⟨_, rfl, P3.out, P1.out⟩
set_option maxRecDepth 100000 in
set_option maxHeartbeats 1600000 in
theorem fmul_ok (g : Nat) (v0 v1 : Value) (q0 q1 : GQ) (n0 n1 : Nat) (w : World) (hc : CalmF w g) (hX : GV w v0 q0 n0) (hY : GV w v1 q1 n1) (hn : 2 * max n0 n1 + 1 ≤ 12800) :
    Calls Tryz.prog 38 #[.pointer (some ⟨g, 0, none⟩), v0, v1] w fun e w' => ∃ v, e = .returned v ∧ GV w' v (q0 * q1) (n0 + n1 + 1) ∧ Ext w w' := by
  obtain ⟨sx1, Ax1, nx1, cx1, sx2, Ax2, nx2, cx2, sx3, Ax3, nx3, cx3, rfl⟩ := hX.opn
  obtain ⟨sy1, Ay1, ny1, cy1, sy2, Ay2, ny2, cy2, sy3, Ay3, ny3, cy3, rfl⟩ := hY.opn
  have HX := Lib.hid hX; have HY := Lib.hid hY; clear hX hY
  have hE : Ext w (((w.alloc (.cells #[.bool sx1, .slice Ax1 nx1 cx1, .bool sx2, .slice Ax2 nx2 cx2, .bool sx3, .slice Ax3 nx3 cx3] 32)).alloc (.cells #[.bool sy1, .slice Ay1 ny1 cy1, .bool sy2, .slice Ay2 ny2 cy2, .bool sy3, .slice Ay3 ny3 cy3] 32)).alloc (.cells #[.bool false, .slice none 0 0, .bool false, .slice none 0 0, .bool false, .slice none 0 0] 32)) := ((Ext.new _ _).alloc _).alloc _
  have hB4 : Blk (((w.alloc (.cells #[.bool sx1, .slice Ax1 nx1 cx1, .bool sx2, .slice Ax2 nx2 cx2, .bool sx3, .slice Ax3 nx3 cx3] 32)).alloc (.cells #[.bool sy1, .slice Ay1 ny1 cy1, .bool sy2, .slice Ay2 ny2 cy2, .bool sy3, .slice Ay3 ny3 cy3] 32)).alloc (.cells #[.bool false, .slice none 0 0, .bool false, .slice none 0 0, .bool false, .slice none 0 0] 32)) w.heap.size 32 #[.bool sx1, .slice Ax1 nx1 cx1, .bool sx2, .slice Ax2 nx2 cx2, .bool sx3, .slice Ax3 nx3 cx3] := ((Blk.new _ _ _).alloc _).alloc _
  have hB5 : Blk (((w.alloc (.cells #[.bool sx1, .slice Ax1 nx1 cx1, .bool sx2, .slice Ax2 nx2 cx2, .bool sx3, .slice Ax3 nx3 cx3] 32)).alloc (.cells #[.bool sy1, .slice Ay1 ny1 cy1, .bool sy2, .slice Ay2 ny2 cy2, .bool sy3, .slice Ay3 ny3 cy3] 32)).alloc (.cells #[.bool false, .slice none 0 0, .bool false, .slice none 0 0, .bool false, .slice none 0 0] 32)) (w.heap.size + 1) 32 #[.bool sy1, .slice Ay1 ny1 cy1, .bool sy2, .slice Ay2 ny2 cy2, .bool sy3, .slice Ay3 ny3 cy3] := (Blk.new' _ _ (by simp)).alloc _
  have hB6 : Blk (((w.alloc (.cells #[.bool sx1, .slice Ax1 nx1 cx1, .bool sx2, .slice Ax2 nx2 cx2, .bool sx3, .slice Ax3 nx3 cx3] 32)).alloc (.cells #[.bool sy1, .slice Ay1 ny1 cy1, .bool sy2, .slice Ay2 ny2 cy2, .bool sy3, .slice Ay3 ny3 cy3] 32)).alloc (.cells #[.bool false, .slice none 0 0, .bool false, .slice none 0 0, .bool false, .slice none 0 0] 32)) (w.heap.size + 2) 32 #[.bool false, .slice none 0 0, .bool false, .slice none 0 0, .bool false, .slice none 0 0] := Blk.new' _ _ (by simp)
  have hc1 := hc.ext hE
  have k0 := Blk.cell hc1
  go_enter Tryz.func38, Tryz.ntmps38
  go_wp2_with fail
  refine (xMul_w _ q0 n0 _ q1 n1 _ (HX.out.ext hE) (HY.out.ext hE) hn).mono ?_
  rintro e w2 ⟨v, rfl, ⟨u, rfl, hu⟩, hx⟩
  clear k0
  replace hE := hE.trans hx; replace hB6 := hB6.ext hx; replace hc1 := hc1.ext hx
  clear hx hB4 hB5
  go_wp2_with fail
  refine (fkeep_ok g u _ _ _ hc1 hu).mono ?_
  rintro e w3 ⟨v, rfl, hv, hx⟩
  replace hE := hE.trans hx; replace hB6 := hB6.ext hx
  clear hx hu hc1
  obtain ⟨sr1, Ar1, nr1, cr1, sr2, Ar2, nr2, cr2, sr3, Ar3, nr3, cr3, rfl⟩ := hv.opn
  have k6 := hB6.cell; have f6 := hB6.frozen
  obtain ⟨p1, p2, p3⟩ := put_gauss hE (by omega) hB6 hv
  have P1 := Lib.hid p1; have P2 := Lib.hid p2; have P3 := Lib.hid p3
  clear p1 p2 p3 hE hB6 hv
  go_wp2_with fail
  exact bp_gauss1 rfl rfl rfl P2.out ⟨_, rfl, P3.out, P1.out⟩
set_option maxRecDepth 100000 in
set_option maxHeartbeats 1600000 in
theorem fdiv_ok (g : Nat) (v0 v1 : Value) (q0 q1 : GQ) (n0 n1 : Nat) (w : World) (hc : CalmF w g) (hX : GV w v0 q0 n0) (hY : GV w v1 q1 n1) (h0 : q1 ≠ GQ.i 0 0) (hn : 4 * max n0 n1 + 3 ≤ 12800) :
    Calls Tryz.prog 78 #[.pointer (some ⟨g, 0, none⟩), v0, v1] w fun e w' => ∃ v, e = .returned v ∧ GV w' v (q0 / q1) (n0 + (n1 + n1 + 1)) ∧ Ext w w' := by
  obtain ⟨sx1, Ax1, nx1, cx1, sx2, Ax2, nx2, cx2, sx3, Ax3, nx3, cx3, rfl⟩ := hX.opn
  obtain ⟨sy1, Ay1, ny1, cy1, sy2, Ay2, ny2, cy2, sy3, Ay3, ny3, cy3, rfl⟩ := hY.opn
  have HX := Lib.hid hX; have HY := Lib.hid hY; clear hX hY
  have hE : Ext w (((w.alloc (.cells #[.bool sx1, .slice Ax1 nx1 cx1, .bool sx2, .slice Ax2 nx2 cx2, .bool sx3, .slice Ax3 nx3 cx3] 32)).alloc (.cells #[.bool sy1, .slice Ay1 ny1 cy1, .bool sy2, .slice Ay2 ny2 cy2, .bool sy3, .slice Ay3 ny3 cy3] 32)).alloc (.cells #[.bool false, .slice none 0 0, .bool false, .slice none 0 0, .bool false, .slice none 0 0] 32)) := ((Ext.new _ _).alloc _).alloc _
  have hB4 : Blk (((w.alloc (.cells #[.bool sx1, .slice Ax1 nx1 cx1, .bool sx2, .slice Ax2 nx2 cx2, .bool sx3, .slice Ax3 nx3 cx3] 32)).alloc (.cells #[.bool sy1, .slice Ay1 ny1 cy1, .bool sy2, .slice Ay2 ny2 cy2, .bool sy3, .slice Ay3 ny3 cy3] 32)).alloc (.cells #[.bool false, .slice none 0 0, .bool false, .slice none 0 0, .bool false, .slice none 0 0] 32)) w.heap.size 32 #[.bool sx1, .slice Ax1 nx1 cx1, .bool sx2, .slice Ax2 nx2 cx2, .bool sx3, .slice Ax3 nx3 cx3] := ((Blk.new _ _ _).alloc _).alloc _
  have hB5 : Blk (((w.alloc (.cells #[.bool sx1, .slice Ax1 nx1 cx1, .bool sx2, .slice Ax2 nx2 cx2, .bool sx3, .slice Ax3 nx3 cx3] 32)).alloc (.cells #[.bool sy1, .slice Ay1 ny1 cy1, .bool sy2, .slice Ay2 ny2 cy2, .bool sy3, .slice Ay3 ny3 cy3] 32)).alloc (.cells #[.bool false, .slice none 0 0, .bool false, .slice none 0 0, .bool false, .slice none 0 0] 32)) (w.heap.size + 1) 32 #[.bool sy1, .slice Ay1 ny1 cy1, .bool sy2, .slice Ay2 ny2 cy2, .bool sy3, .slice Ay3 ny3 cy3] := (Blk.new' _ _ (by simp)).alloc _
  have hB6 : Blk (((w.alloc (.cells #[.bool sx1, .slice Ax1 nx1 cx1, .bool sx2, .slice Ax2 nx2 cx2, .bool sx3, .slice Ax3 nx3 cx3] 32)).alloc (.cells #[.bool sy1, .slice Ay1 ny1 cy1, .bool sy2, .slice Ay2 ny2 cy2, .bool sy3, .slice Ay3 ny3 cy3] 32)).alloc (.cells #[.bool false, .slice none 0 0, .bool false, .slice none 0 0, .bool false, .slice none 0 0] 32)) (w.heap.size + 2) 32 #[.bool false, .slice none 0 0, .bool false, .slice none 0 0, .bool false, .slice none 0 0] := Blk.new' _ _ (by simp)
  have hc1 := hc.ext hE
  have k0 := Blk.cell hc1
  go_enter Tryz.func78, Tryz.ntmps78
  go_wp2_with fail
  refine (xDiv_w _ q0 n0 _ q1 n1 _ (HX.out.ext hE) (HY.out.ext hE) (Lib.hid h0) hn).mono ?_
  rintro e w2 ⟨v, rfl, ⟨u, rfl, hu⟩, hx⟩
  clear k0
  replace hE := hE.trans hx; replace hB6 := hB6.ext hx; replace hc1 := hc1.ext hx
  clear hx hB4 hB5
  go_wp2_with fail
  refine (fkeep_ok g u _ _ _ hc1 hu).mono ?_
  rintro e w3 ⟨v, rfl, hv, hx⟩
  replace hE := hE.trans hx; replace hB6 := hB6.ext hx
  clear hx hu hc1
  obtain ⟨sr1, Ar1, nr1, cr1, sr2, Ar2, nr2, cr2, sr3, Ar3, nr3, cr3, rfl⟩ := hv.opn
  have k6 := hB6.cell; have f6 := hB6.frozen
  obtain ⟨p1, p2, p3⟩ := put_gauss hE (by omega) hB6 hv
  have P1 := Lib.hid p1; have P2 := Lib.hid p2; have P3 := Lib.hid p3
  clear p1 p2 p3 hE hB6 hv
  go_wp2_with fail
  exact bp_gauss1 rfl rfl rfl P2.out ⟨_, rfl, P3.out, P1.out⟩
set_option maxRecDepth 100000 in
set_option maxHeartbeats 1600000 in
theorem fzero_ok (g : Nat) (w : World) (hc : CalmF w g) :
    Calls Tryz.prog 35 #[.pointer (some ⟨g, 0, none⟩)] w fun e w' => ∃ v, e = .returned v ∧ GV w' v (GQ.i 0 0) 64 ∧ Ext w w' := by
  have hE : Ext w (w.alloc (.cells #[.bool false, .slice none 0 0, .bool false, .slice none 0 0, .bool false, .slice none 0 0] 32)) := Ext.new _ _
  have hB6 : Blk (w.alloc (.cells #[.bool false, .slice none 0 0, .bool false, .slice none 0 0, .bool false, .slice none 0 0] 32)) w.heap.size 32 #[.bool false, .slice none 0 0, .bool false, .slice none 0 0, .bool false, .slice none 0 0] := Blk.new _ _ _
  have hc1 := hc.ext hE
  go_enter Tryz.func35, Tryz.ntmps35
  go_wp2_with fail
  refine (eOf_q 0 0 1 _ (by omega) (by omega) (by omega) (by omega) (by omega) (by omega) (by omega)).mono ?_
  rintro e w2 ⟨v, rfl, ⟨u, rfl, hu⟩, hx⟩
  replace hE := hE.trans hx; replace hB6 := hB6.ext hx; replace hc1 := hc1.ext hx
  clear hx
  have e0 : (⟨((0 : Int) : Rat) / ((1 : Int) : Rat), ((0 : Int) : Rat) / ((1 : Int) : Rat)⟩ : GQ) = GQ.i 0 0 := by ext <;> simp only [GQ.i_re, GQ.i_im] <;> grind
  rw [e0] at hu
  go_wp2_with fail
  refine (fkeep_ok g u _ _ _ hc1 hu).mono ?_
  rintro e w3 ⟨v, rfl, hv, hx⟩
  replace hE := hE.trans hx; replace hB6 := hB6.ext hx
  clear hx hu hc1
  obtain ⟨sr1, Ar1, nr1, cr1, sr2, Ar2, nr2, cr2, sr3, Ar3, nr3, cr3, rfl⟩ := hv.opn
  have k6 := hB6.cell; have f6 := hB6.frozen
  obtain ⟨p1, p2, p3⟩ := put_gauss hE (by omega) hB6 hv
  have P1 := Lib.hid p1; have P2 := Lib.hid p2; have P3 := Lib.hid p3
  clear p1 p2 p3 hE hB6 hv
  go_wp2_with fail
  exact bp_gauss1 rfl rfl rfl P2.out ⟨_, rfl, P3.out, P1.out⟩
theorem xZero_of (v : Value) (q : GQ) (n : Nat) (w : World) (hX : GV w v q n) (hn : n ≤ 12800) :
    Calls Tryz.prog 53 #[v] w fun e w' => e = .returned (.bool (decide (q = GQ.i 0 0))) ∧ Ext w w' := by
  by_cases h : q = GQ.i 0 0
  · rw [decide_eq_true h]; exact xZero_yes v q n w hX hn h
  · rw [decide_eq_false h]; exact xZero_no v q n w hX hn h
end Go.Proofs.YtclkkoiaaddllaaGreat
