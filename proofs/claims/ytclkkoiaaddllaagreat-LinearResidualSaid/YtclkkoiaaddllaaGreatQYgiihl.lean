/- Sums, rounding, as the laws want them. -/
import Derived.Test.YtclkkoiaaddllaaGreatQAnkmcd
import Derived.Test.YtclkkoiaaddllaaGreatQYdkifc
import Derived.Test.YtclkkoiaaddllaaGreatQNIjenn
import Derived.Test.YtclkkoiaaddllaaGreatQNHnbbg
import Derived.Test.YtclkkoiaaddllaaGreatQGcglcp

namespace Go.Proofs.YtclkkoiaaddllaaGreat
open Go.RowKit
set_option linter.unusedVariables false

theorem xAdd_ok (v0 : Value) (q0 : GQ) (n0 : Nat) (v1 : Value) (q1 : GQ) (n1 : Nat) (w : World) (hX0 : GV w v0 q0 n0) (hX1 : GV w v1 q1 n1) (hn : 2 * max n0 n1 + 65 ≤ 12800) :
    Calls Tryz.prog 71 #[v0, v1] w fun e w' => ∃ v, e = .returned v ∧ (∃ u, v = .tuple #[u, .int .i64 0] ∧ GV w' u (q0 + q1) (n0 + n1 + 65)) ∧ Ext w w' := by
  have := xAdd_w v0 q0 n0 v1 q1 n1 w hX0 hX1 hn
  rwa [add_blend] at this
theorem xSub_ok (v0 : Value) (q0 : GQ) (n0 : Nat) (v1 : Value) (q1 : GQ) (n1 : Nat) (w : World) (hX0 : GV w v0 q0 n0) (hX1 : GV w v1 q1 n1) (hn : 2 * max n0 n1 + 65 ≤ 12800) :
    Calls Tryz.prog 66 #[v0, v1] w fun e w' => ∃ v, e = .returned v ∧ (∃ u, v = .tuple #[u, .int .i64 0] ∧ GV w' u (q0 - q1) (n0 + n1 + 65)) ∧ Ext w w' := by
  have := xSub_w v0 q0 n0 v1 q1 n1 w hX0 hX1 hn
  rwa [sub_blend] at this
theorem qSame_q (v u : Value) (q q' : GQ) (m n : Nat) (w : World) (hX : GV w v q m) (hY : GV w u q' n) (h : q = q') :
    Calls Tryz.prog 14 #[v, u] w fun e w' => e = .returned (.bool true) ∧ Ext w w' := by subst h; exact qSame_eq v u q m n w hX hY
/-- N is the real part of the phasor divided by r, rounded. -/
def Rd (p : PQ) (r N : Int) : Prop := ∀ a b d x y z, Is p.u a b d → Is p.v x y z → ∀ k, RZ a d x z r k ↔ k ≤ N
theorem Rd.of {p : PQ} {a b d x y z r N : Int} (I : Is p.u a b d) (J : Is p.v x y z) (h : ∀ k, RZ a d x z r k ↔ k ≤ N) : Rd p r N := by
  intro a' b' d' x' y' z' I' J'
  obtain ⟨rfl, rfl, rfl⟩ := I.unique I'
  obtain ⟨rfl, rfl, rfl⟩ := J.unique J'
  exact h
theorem Rd.unique {p : PQ} {r N N' : Int} (h : Rd p r N) (h' : Rd p r N') : N = N' := by
  obtain ⟨a, b, d, I⟩ := is_ex p.u
  obtain ⟨x, y, z, J⟩ := is_ex p.v
  have h1 := h a b d x y z I J
  have h2 := h' a b d x y z I J
  have e1 := (h1 N').1 ((h2 N').2 (Int.le_refl _))
  have e2 := (h2 N).1 ((h1 N).2 (Int.le_refl _))
  omega
theorem rz_down {a d x z r m k : Int} (hp : 0 < r * (d * z)) (h : RZ a d x z r m) (hk : k ≤ m) : RZ a d x z r k := by
  unfold RZ at *
  refine le3_down h ?_
  have e : (2 * m - 1) * r * (d * z) - 2 * (a * z) - ((2 * k - 1) * r * (d * z) - 2 * (a * z)) = 2 * ((m - k) * (r * (d * z))) := by grind
  have := Int.mul_nonneg (show 0 ≤ m - k by omega) (show 0 ≤ r * (d * z) by omega)
  omega
theorem Rd.at_ {a d x z r N : Int} (hp : 0 < r * (d * z)) (h1 : RZ a d x z r N) (h2 : ¬ RZ a d x z r (N + 1)) (k : Int) : RZ a d x z r k ↔ k ≤ N := by
  constructor
  · intro h
    rcases Int.lt_or_le N k with h3 | h3
    · exact absurd (rz_down hp h (by omega)) h2
    · exact h3
  · exact rz_down hp h1
instance (a d x z r n : Int) : Decidable (RZ a d x z r n) := by unfold RZ; infer_instance
end Go.Proofs.YtclkkoiaaddllaaGreat

namespace Go.Proofs.YtclkkoiaaddllaaGreat
open Go.RowKit
set_option linter.unusedVariables false

/-- No error has been noted. -/
def CalmF (w : World) (g : Nat) : Prop := Blk w g 68 #[.int .i64 0]
theorem CalmF.ext {w w' : World} {g : Nat} (h : CalmF w g) (x : Ext w w') : CalmF w' g := Blk.ext h x
theorem put_gauss {w w' : World} {g n : Nat} {q : GQ} {s1 s2 s3 : Bool} {A1 A2 A3 : Option Addr} {n1 c1 n2 c2 n3 c3 : Nat} (hx : Ext w w') (ho : w.heap.size ≤ g) (hb : Blk w' g 32 #[.bool false, .slice none 0 0, .bool false, .slice none 0 0, .bool false, .slice none 0 0])
    (h : GV w' (gv s1 A1 n1 c1 s2 A2 n2 c2 s3 A3 n3 c3) q n) :
    Ext w ((((((w'.setCell ⟨g, 0, none⟩ (.bool s1)).setCell ⟨g, 1, none⟩ (.slice A1 n1 c1)).setCell ⟨g, 2, none⟩ (.bool s2)).setCell ⟨g, 3, none⟩ (.slice A2 n2 c2)).setCell ⟨g, 4, none⟩ (.bool s3)).setCell ⟨g, 5, none⟩ (.slice A3 n3 c3)) ∧
    Blk ((((((w'.setCell ⟨g, 0, none⟩ (.bool s1)).setCell ⟨g, 1, none⟩ (.slice A1 n1 c1)).setCell ⟨g, 2, none⟩ (.bool s2)).setCell ⟨g, 3, none⟩ (.slice A2 n2 c2)).setCell ⟨g, 4, none⟩ (.bool s3)).setCell ⟨g, 5, none⟩ (.slice A3 n3 c3)) g 32 #[.bool s1, .slice A1 n1 c1, .bool s2, .slice A2 n2 c2, .bool s3, .slice A3 n3 c3] ∧
    GV ((((((w'.setCell ⟨g, 0, none⟩ (.bool s1)).setCell ⟨g, 1, none⟩ (.slice A1 n1 c1)).setCell ⟨g, 2, none⟩ (.bool s2)).setCell ⟨g, 3, none⟩ (.slice A2 n2 c2)).setCell ⟨g, 4, none⟩ (.bool s3)).setCell ⟨g, 5, none⟩ (.slice A3 n3 c3)) (gv s1 A1 n1 c1 s2 A2 n2 c2 s3 A3 n3 c3) q n := by
  have hm : Mod (fun k => k = g) w' (puts w' g 0 [.bool s1, .slice A1 n1 c1, .bool s2, .slice A2 n2 c2, .bool s3, .slice A3 n3 c3]) := Mod.only (puts_only _ _ _ _) rfl
  have hS : Far (fun k => k = g) w' := fun k hk _ => by subst hk; exact ⟨_, _, hb, rfl⟩
  have ec : setsA #[.bool false, .slice none 0 0, .bool false, .slice none 0 0, .bool false, .slice none 0 0] 0 [.bool s1, .slice A1 n1 c1, .bool s2, .slice A2 n2 c2, .bool s3, .slice A3 n3 c3] = #[.bool s1, .slice A1 n1 c1, .bool s2, .slice A2 n2 c2, .bool s3, .slice A3 n3 c3] := by kernel_rfl
  have h1 := puts_ext ho 0 [.bool s1, .slice A1 n1 c1, .bool s2, .slice A2 n2 c2, .bool s3, .slice A3 n3 c3] hx
  have h2 := puts_blk 0 [.bool s1, .slice A1 n1 c1, .bool s2, .slice A2 n2 c2, .bool s3, .slice A3 n3 c3] hb
  rw [ec] at h2
  exact ⟨h1, h2, h.mod hm hS⟩

set_option maxRecDepth 100000 in
set_option maxHeartbeats 1600000 in
theorem fkeep_ok (g : Nat) (v : Value) (q : GQ) (n : Nat) (w : World) (hc : CalmF w g) (hX : GV w v q n) :
    Calls Tryz.prog 36 #[.pointer (some ⟨g, 0, none⟩), v, .int .i64 0] w fun e w' => ∃ v, e = .returned v ∧ GV w' v q n ∧ Ext w w' := by
  obtain ⟨s1, A1, n1, c1, s2, A2, n2, c2, s3, A3, n3, c3, rfl⟩ := hX.opn
  have k00 := Blk.cell hc
  have f00 := Blk.frozen hc
  have hw1 : Ext w (w.setCell ⟨g, 0, none⟩ (.int .i64 0)) := (Ext.refl w).stay hc rfl
  have hc1 := hc.ext hw1
  have k1 := Blk.cell hc1
  have hlt : g < w.heap.size := Blk.lt hc
  have HX1 := Lib.hid (hX.ext hw1)
  clear hX
  go_enter Tryz.func36, Tryz.ntmps36
  go_wp2_with fail
  exact bp_gauss1 rfl rfl rfl (Blk.new' _ _ (by simp [World.setCell])) ⟨_, rfl, HX1.out.ext ((Ext.new _ _).alloc _), hw1.trans ((Ext.new _ _).alloc _)⟩
set_option maxRecDepth 100000 in
set_option maxHeartbeats 1600000 in
theorem fadd_ok (g : Nat) (v0 v1 : Value) (q0 q1 : GQ) (n0 n1 : Nat) (w : World) (hc : CalmF w g) (hX : GV w v0 q0 n0) (hY : GV w v1 q1 n1) (hn : 2 * max n0 n1 + 65 ≤ 12800) :
    Calls Tryz.prog 43 #[.pointer (some ⟨g, 0, none⟩), v0, v1] w fun e w' => ∃ v, e = .returned v ∧ GV w' v (q0 + q1) (n0 + n1 + 65) ∧ Ext w w' := by
  obtain ⟨sx1, Ax1, nx1, cx1, sx2, Ax2, nx2, cx2, sx3, Ax3, nx3, cx3, rfl⟩ := hX.opn
  obtain ⟨sy1, Ay1, ny1, cy1, sy2, Ay2, ny2, cy2, sy3, Ay3, ny3, cy3, rfl⟩ := hY.opn
  have HX := Lib.hid hX; have HY := Lib.hid hY; clear hX hY
  have hE : Ext w (((w.alloc (.cells #[.bool sx1, .slice Ax1 nx1 cx1, .bool sx2, .slice Ax2 nx2 cx2, .bool sx3, .slice Ax3 nx3 cx3] 32)).alloc (.cells #[.bool sy1, .slice Ay1 ny1 cy1, .bool sy2, .slice Ay2 ny2 cy2, .bool sy3, .slice Ay3 ny3 cy3] 32)).alloc (.cells #[.bool false, .slice none 0 0, .bool false, .slice none 0 0, .bool false, .slice none 0 0] 32)) := ((Ext.new _ _).alloc _).alloc _
  have hB4 : Blk (((w.alloc (.cells #[.bool sx1, .slice Ax1 nx1 cx1, .bool sx2, .slice Ax2 nx2 cx2, .bool sx3, .slice Ax3 nx3 cx3] 32)).alloc (.cells #[.bool sy1, .slice Ay1 ny1 cy1, .bool sy2, .slice Ay2 ny2 cy2, .bool sy3, .slice Ay3 ny3 cy3] 32)).alloc (.cells #[.bool false, .slice none 0 0, .bool false, .slice none 0 0, .bool false, .slice none 0 0] 32)) w.heap.size 32 #[.bool sx1, .slice Ax1 nx1 cx1, .bool sx2, .slice Ax2 nx2 cx2, .bool sx3, .slice Ax3 nx3 cx3] := ((Blk.new _ _ _).alloc _).alloc _
  have hB5 : Blk (((w.alloc (.cells #[.bool sx1, .slice Ax1 nx1 cx1, .bool sx2, .slice Ax2 nx2 cx2, .bool sx3, .slice Ax3 nx3 cx3] 32)).alloc (.cells #[.bool sy1, .slice Ay1 ny1 cy1, .bool sy2, .slice Ay2 ny2 cy2, .bool sy3, .slice Ay3 ny3 cy3] 32)).alloc (.cells #[.bool false, .slice none 0 0, .bool false, .slice none 0 0, .bool false, .slice none 0 0] 32)) (w.heap.size + 1) 32 #[.bool sy1, .slice Ay1 ny1 cy1, .bool sy2, .slice Ay2 ny2 cy2, .bool sy3, .slice Ay3 ny3 cy3] := (Blk.new' _ _ (by simp)).alloc _
  have hB6 : Blk (((w.alloc (.cells #[.bool sx1, .slice Ax1 nx1 cx1, .bool sx2, .slice Ax2 nx2 cx2, .bool sx3, .slice Ax3 nx3 cx3] 32)).alloc (.cells #[.bool sy1, .slice Ay1 ny1 cy1, .bool sy2, .slice Ay2 ny2 cy2, .bool sy3, .slice Ay3 ny3 cy3] 32)).alloc (.cells #[.bool false, .slice none 0 0, .bool false, .slice none 0 0, .bool false, .slice none 0 0] 32)) (w.heap.size + 2) 32 #[.bool false, .slice none 0 0, .bool false, .slice none 0 0, .bool false, .slice none 0 0] := Blk.new' _ _ (by simp)
  have hc1 := hc.ext hE
  have k0 := Blk.cell hc1
  go_enter Tryz.func43, Tryz.ntmps43
  go_wp2_with fail
  refine (xAdd_ok _ q0 n0 _ q1 n1 _ (HX.out.ext hE) (HY.out.ext hE) hn).mono ?_
  rintro e w2 ⟨v, rfl, ⟨u, rfl, hu⟩, hx⟩
  clear k0
  replace hE := hE.trans hx; replace hB6 := hB6.ext hx; replace hc1 := hc1.ext hx
  clear hx hB4 hB5
  go_wp2_with fail
  refine (fkeep_ok g u _ _ _ hc1 hu).mono ?_
  rintro e w3 ⟨v, rfl, hv, hx⟩
  replace hE := hE.trans hx; replace hB6 := hB6.ext hx
  clear hx hu hc1
  obtain ⟨sr1, Ar1, nr1, cr1, sr2, Ar2, nr2, cr2, sr3, Ar3, nr3, cr3, rfl⟩ := hv.opn
  have k6 := hB6.cell; have f6 := hB6.frozen
  obtain ⟨p1, p2, p3⟩ := put_gauss hE (by omega) hB6 hv
  have P1 := Lib.hid p1; have P2 := Lib.hid p2; have P3 := Lib.hid p3
  clear p1 p2 p3 hE hB6 hv
  go_wp2_with fail
  exact bp_gauss1 rfl rfl rfl P2.out ⟨_, rfl, P3.out, P1.out⟩
set_option maxRecDepth 100000 in
set_option maxHeartbeats 1600000 in
theorem fsub_ok (g : Nat) (v0 v1 : Value) (q0 q1 : GQ) (n0 n1 : Nat) (w : World) (hc : CalmF w g) (hX : GV w v0 q0 n0) (hY : GV w v1 q1 n1) (hn : 2 * max n0 n1 + 65 ≤ 12800) :
    Calls Tryz.prog 39 #[.pointer (some ⟨g, 0, none⟩), v0, v1] w fun e w' => ∃ v, e = .returned v ∧ GV w' v (q0 - q1) (n0 + n1 + 65) ∧ Ext w w' := by
  obtain ⟨sx1, Ax1, nx1, cx1, sx2, Ax2, nx2, cx2, sx3, Ax3, nx3, cx3, rfl⟩ := hX.opn
  obtain ⟨sy1, Ay1, ny1, cy1, sy2, Ay2, ny2, cy2, sy3, Ay3, ny3, cy3, rfl⟩ := hY.opn
  have HX := Lib.hid hX; have HY := Lib.hid hY; clear hX hY
  have hE : Ext w (((w.alloc (.cells #[.bool sx1, .slice Ax1 nx1 cx1, .bool sx2, .slice Ax2 nx2 cx2, .bool sx3, .slice Ax3 nx3 cx3] 32)).alloc (.cells #[.bool sy1, .slice Ay1 ny1 cy1, .bool sy2, .slice Ay2 ny2 cy2, .bool sy3, .slice Ay3 ny3 cy3] 32)).alloc (.cells #[.bool false, .slice none 0 0, .bool false, .slice none 0 0, .bool false, .slice none 0 0] 32)) := ((Ext.new _ _).alloc _).alloc _
  have hB4 : Blk (((w.alloc (.cells #[.bool sx1, .slice Ax1 nx1 cx1, .bool sx2, .slice Ax2 nx2 cx2, .bool sx3, .slice Ax3 nx3 cx3] 32)).alloc (.cells #[.bool sy1, .slice Ay1 ny1 cy1, .bool sy2, .slice Ay2 ny2 cy2, .bool sy3, .slice Ay3 ny3 cy3] 32)).alloc (.cells #[.bool false, .slice none 0 0, .bool false, .slice none 0 0, .bool false, .slice none 0 0] 32)) w.heap.size 32 #[.bool sx1, .slice Ax1 nx1 cx1, .bool sx2, .slice Ax2 nx2 cx2, .bool sx3, .slice Ax3 nx3 cx3] := ((Blk.new _ _ _).alloc _).alloc _
  have hB5 : Blk (((w.alloc (.cells #[.bool sx1, .slice Ax1 nx1 cx1, .bool sx2, .slice Ax2 nx2 cx2, .bool sx3, .slice Ax3 nx3 cx3] 32)).alloc (.cells #[.bool sy1, .slice Ay1 ny1 cy1, .bool sy2, .slice Ay2 ny2 cy2, .bool sy3, .slice Ay3 ny3 cy3] 32)).alloc (.cells #[.bool false, .slice none 0 0, .bool false, .slice none 0 0, .bool false, .slice none 0 0] 32)) (w.heap.size + 1) 32 #[.bool sy1, .slice Ay1 ny1 cy1, .bool sy2, .slice Ay2 ny2 cy2, .bool sy3, .slice Ay3 ny3 cy3] := (Blk.new' _ _ (by simp)).alloc _
  have hB6 : Blk (((w.alloc (.cells #[.bool sx1, .slice Ax1 nx1 cx1, .bool sx2, .slice Ax2 nx2 cx2, .bool sx3, .slice Ax3 nx3 cx3] 32)).alloc (.cells #[.bool sy1, .slice Ay1 ny1 cy1, .bool sy2, .slice Ay2 ny2 cy2, .bool sy3, .slice Ay3 ny3 cy3] 32)).alloc (.cells #[.bool false, .slice none 0 0, .bool false, .slice none 0 0, .bool false, .slice none 0 0] 32)) (w.heap.size + 2) 32 #[.bool false, .slice none 0 0, .bool false, .slice none 0 0, .bool false, .slice none 0 0] := Blk.new' _ _ (by simp)
  have hc1 := hc.ext hE
  have k0 := Blk.cell hc1
  go_enter Tryz.func39, Tryz.ntmps39
  go_wp2_with fail
  refine (xSub_ok _ q0 n0 _ q1 n1 _ (HX.out.ext hE) (HY.out.ext hE) hn).mono ?_
  rintro e w2 ⟨v, rfl, ⟨u, rfl, hu⟩, hx⟩
  clear k0
  replace hE := hE.trans hx; replace hB6 := hB6.ext hx; replace hc1 := hc1.ext hx
  clear hx hB4 hB5
  go_wp2_with fail
  refine (fkeep_ok g u _ _ _ hc1 hu).mono ?_
  rintro e w3 ⟨v, rfl, hv, hx⟩
  replace hE := hE.trans hx; replace hB6 := hB6.ext hx
  clear hx hu hc1
  obtain ⟨sr1, Ar1, nr1, cr1, sr2, Ar2, nr2, cr2, sr3, Ar3, nr3, cr3, rfl⟩ := hv.opn
  have k6 := hB6.cell; have f6 := hB6.frozen
  obtain ⟨p1, p2, p3⟩ := put_gauss hE (by omega) hB6 hv
  have P1 := Lib.hid p1; have P2 := Lib.hid p2; have P3 := Lib.hid p3
  clear p1 p2 p3 hE hB6 hv
  go_wp2_with fail
  exact bp_gauss1 rfl rfl rfl P2.out ⟨_, rfl, P3.out, P1.out⟩
set_option maxRecDepth 100000 in
set_option maxHeartbeats 1600000 in
theorem fmul_ok (g : Nat) (v0 v1 : Value) (q0 q1 : GQ) (n0 n1 : Nat) (w : World) (hc : CalmF w g) (hX : GV w v0 q0 n0) (hY : GV w v1 q1 n1) (hn : 2 * max n0 n1 + 1 ≤ 12800) :
    Calls Tryz.prog 38 #[.pointer (some ⟨g, 0, none⟩), v0, v1] w fun e w' => ∃ v, e = .returned v ∧ GV w' v (q0 * q1) (n0 + n1 + 1) ∧ Ext w w' := by
  obtain ⟨sx1, Ax1, nx1, cx1, sx2, Ax2, nx2, cx2, sx3, Ax3, nx3, cx3, rfl⟩ := hX.opn
  obtain ⟨sy1, Ay1, ny1, cy1, sy2, Ay2, ny2, cy2, sy3, Ay3, ny3, cy3, rfl⟩ := hY.opn
  have HX := Lib.hid hX; have HY := Lib.hid hY; clear hX hY
  have hE : Ext w (((w.alloc (.cells #[.bool sx1, .slice Ax1 nx1 cx1, .bool sx2, .slice Ax2 nx2 cx2, .bool sx3, .slice Ax3 nx3 cx3] 32)).alloc (.cells #[.bool sy1, .slice Ay1 ny1 cy1, .bool sy2, .slice Ay2 ny2 cy2, .bool sy3, .slice Ay3 ny3 cy3] 32)).alloc (.cells #[.bool false, .slice none 0 0, .bool false, .slice none 0 0, .bool false, .slice none 0 0] 32)) := ((Ext.new _ _).alloc _).alloc _
  have hB4 : Blk (((w.alloc (.cells #[.bool sx1, .slice Ax1 nx1 cx1, .bool sx2, .slice Ax2 nx2 cx2, .bool sx3, .slice Ax3 nx3 cx3] 32)).alloc (.cells #[.bool sy1, .slice Ay1 ny1 cy1, .bool sy2, .slice Ay2 ny2 cy2, .bool sy3, .slice Ay3 ny3 cy3] 32)).alloc (.cells #[.bool false, .slice none 0 0, .bool false, .slice none 0 0, .bool false, .slice none 0 0] 32)) w.heap.size 32 #[.bool sx1, .slice Ax1 nx1 cx1, .bool sx2, .slice Ax2 nx2 cx2, .bool sx3, .slice Ax3 nx3 cx3] := ((Blk.new _ _ _).alloc _).alloc _
  have hB5 : Blk (((w.alloc (.cells #[.bool sx1, .slice Ax1 nx1 cx1, .bool sx2, .slice Ax2 nx2 cx2, .bool sx3, .slice Ax3 nx3 cx3] 32)).alloc (.cells #[.bool sy1, .slice Ay1 ny1 cy1, .bool sy2, .slice Ay2 ny2 cy2, .bool sy3, .slice Ay3 ny3 cy3] 32)).alloc (.cells #[.bool false, .slice none 0 0, .bool false, .slice none 0 0, .bool false, .slice none 0 0] 32)) (w.heap.size + 1) 32 #[.bool sy1, .slice Ay1 ny1 cy1, .bool sy2, .slice Ay2 ny2 cy2, .bool sy3, .slice Ay3 ny3 cy3] := (Blk.new' _ _ (by simp)).alloc _
  have hB6 : Blk (((w.alloc (.cells #[.bool sx1, .slice Ax1 nx1 cx1, .bool sx2, .slice Ax2 nx2 cx2, .bool sx3, .slice Ax3 nx3 cx3] 32)).alloc (.cells #[.bool sy1, .slice Ay1 ny1 cy1, .bool sy2, .slice Ay2 ny2 cy2, .bool sy3, .slice Ay3 ny3 cy3] 32)).alloc (.cells #[.bool false, .slice none 0 0, .bool false, .slice none 0 0, .bool false, .slice none 0 0] 32)) (w.heap.size + 2) 32 #[.bool false, .slice none 0 0, .bool false, .slice none 0 0, .bool false, .slice none 0 0] := Blk.new' _ _ (by simp)
  have hc1 := hc.ext hE
  have k0 := Blk.cell hc1
  go_enter Tryz.func38, Tryz.ntmps38
  go_wp2_with fail
  refine (xMul_w _ q0 n0 _ q1 n1 _ (HX.out.ext hE) (HY.out.ext hE) hn).mono ?_
  rintro e w2 ⟨v, rfl, ⟨u, rfl, hu⟩, hx⟩
  clear k0
  replace hE := hE.trans hx; replace hB6 := hB6.ext hx; replace hc1 := hc1.ext hx
  clear hx hB4 hB5
  go_wp2_with fail
  refine (fkeep_ok g u _ _ _ hc1 hu).mono ?_
  rintro e w3 ⟨v, rfl, hv, hx⟩
  replace hE := hE.trans hx; replace hB6 := hB6.ext hx
  clear hx hu hc1
  obtain ⟨sr1, Ar1, nr1, cr1, sr2, Ar2, nr2, cr2, sr3, Ar3, nr3, cr3, rfl⟩ := hv.opn
  have k6 := hB6.cell; have f6 := hB6.frozen
  obtain ⟨p1, p2, p3⟩ := put_gauss hE (by omega) hB6 hv
  have P1 := Lib.hid p1; have P2 := Lib.hid p2; have P3 := Lib.hid p3
  clear p1 p2 p3 hE hB6 hv
  go_wp2_with fail
  exact bp_gauss1 rfl rfl rfl P2.out ⟨_, rfl, P3.out, P1.out⟩
set_option maxRecDepth 100000 in
set_option maxHeartbeats 1600000 in
theorem fdiv_ok (g : Nat) (v0 v1 : Value) (q0 q1 : GQ) (n0 n1 : Nat) (w : World) (hc : CalmF w g) (hX : GV w v0 q0 n0) (hY : GV w v1 q1 n1) (h0 : q1 ≠ GQ.i 0 0) (hn : 4 * max n0 n1 + 3 ≤ 12800) :
    Calls Tryz.prog 78 #[.pointer (some ⟨g, 0, none⟩), v0, v1] w fun e w' => ∃ v, e = .returned v ∧ GV w' v (q0 / q1) (n0 + (n1 + n1 + 1)) ∧ Ext w w' := by
  obtain ⟨sx1, Ax1, nx1, cx1, sx2, Ax2, nx2, cx2, sx3, Ax3, nx3, cx3, rfl⟩ := hX.opn
  obtain ⟨sy1, Ay1, ny1, cy1, sy2, Ay2, ny2, cy2, sy3, Ay3, ny3, cy3, rfl⟩ := hY.opn
  have HX := Lib.hid hX; have HY := Lib.hid hY; clear hX hY
  have hE : Ext w (((w.alloc (.cells #[.bool sx1, .slice Ax1 nx1 cx1, .bool sx2, .slice Ax2 nx2 cx2, .bool sx3, .slice Ax3 nx3 cx3] 32)).alloc (.cells #[.bool sy1, .slice Ay1 ny1 cy1, .bool sy2, .slice Ay2 ny2 cy2, .bool sy3, .slice Ay3 ny3 cy3] 32)).alloc (.cells #[.bool false, .slice none 0 0, .bool false, .slice none 0 0, .bool false, .slice none 0 0] 32)) := ((Ext.new _ _).alloc _).alloc _
  have hB4 : Blk (((w.alloc (.cells #[.bool sx1, .slice Ax1 nx1 cx1, .bool sx2, .slice Ax2 nx2 cx2, .bool sx3, .slice Ax3 nx3 cx3] 32)).alloc (.cells #[.bool sy1, .slice Ay1 ny1 cy1, .bool sy2, .slice Ay2 ny2 cy2, .bool sy3, .slice Ay3 ny3 cy3] 32)).alloc (.cells #[.bool false, .slice none 0 0, .bool false, .slice none 0 0, .bool false, .slice none 0 0] 32)) w.heap.size 32 #[.bool sx1, .slice Ax1 nx1 cx1, .bool sx2, .slice Ax2 nx2 cx2, .bool sx3, .slice Ax3 nx3 cx3] := ((Blk.new _ _ _).alloc _).alloc _
  have hB5 : Blk (((w.alloc (.cells #[.bool sx1, .slice Ax1 nx1 cx1, .bool sx2, .slice Ax2 nx2 cx2, .bool sx3, .slice Ax3 nx3 cx3] 32)).alloc (.cells #[.bool sy1, .slice Ay1 ny1 cy1, .bool sy2, .slice Ay2 ny2 cy2, .bool sy3, .slice Ay3 ny3 cy3] 32)).alloc (.cells #[.bool false, .slice none 0 0, .bool false, .slice none 0 0, .bool false, .slice none 0 0] 32)) (w.heap.size + 1) 32 #[.bool sy1, .slice Ay1 ny1 cy1, .bool sy2, .slice Ay2 ny2 cy2, .bool sy3, .slice Ay3 ny3 cy3] := (Blk.new' _ _ (by simp)).alloc _
  have hB6 : Blk (((w.alloc (.cells #[.bool sx1, .slice Ax1 nx1 cx1, .bool sx2, .slice Ax2 nx2 cx2, .bool sx3, .slice Ax3 nx3 cx3] 32)).alloc (.cells #[.bool sy1, .slice Ay1 ny1 cy1, .bool sy2, .slice Ay2 ny2 cy2, .bool sy3, .slice Ay3 ny3 cy3] 32)).alloc (.cells #[.bool false, .slice none 0 0, .bool false, .slice none 0 0, .bool false, .slice none 0 0] 32)) (w.heap.size + 2) 32 #[.bool false, .slice none 0 0, .bool false, .slice none 0 0, .bool false, .slice none 0 0] := Blk.new' _ _ (by simp)
  have hc1 := hc.ext hE
  have k0 := Blk.cell hc1
  go_enter Tryz.func78, Tryz.ntmps78
  go_wp2_with fail
  refine (xDiv_w _ q0 n0 _ q1 n1 _ (HX.out.ext hE) (HY.out.ext hE) (Lib.hid h0) hn).mono ?_
  rintro e w2 ⟨v, rfl, ⟨u, rfl, hu⟩, hx⟩
  clear k0
  replace hE := hE.trans hx; replace hB6 := hB6.ext hx; replace hc1 := hc1.ext hx
  clear hx hB4 hB5
  go_wp2_with fail
  refine (fkeep_ok g u _ _ _ hc1 hu).mono ?_
  rintro e w3 ⟨v, rfl, hv, hx⟩
  replace hE := hE.trans hx; replace hB6 := hB6.ext hx
  clear hx hu hc1
  obtain ⟨sr1, Ar1, nr1, cr1, sr2, Ar2, nr2, cr2, sr3, Ar3, nr3, cr3, rfl⟩ := hv.opn
  have k6 := hB6.cell; have f6 := hB6.frozen
  obtain ⟨p1, p2, p3⟩ := put_gauss hE (by omega) hB6 hv
  have P1 := Lib.hid p1; have P2 := Lib.hid p2; have P3 := Lib.hid p3
  clear p1 p2 p3 hE hB6 hv
  go_wp2_with fail
  exact bp_gauss1 rfl rfl rfl P2.out ⟨_, rfl, P3.out, P1.out⟩
set_option maxRecDepth 100000 in
set_option maxHeartbeats 1600000 in
theorem fzero_ok (g : Nat) (w : World) (hc : CalmF w g) :
    Calls Tryz.prog 35 #[.pointer (some ⟨g, 0, none⟩)] w fun e w' => ∃ v, e = .returned v ∧ GV w' v (GQ.i 0 0) 64 ∧ Ext w w' := by
  have hE : Ext w (w.alloc (.cells #[.bool false, .slice none 0 0, .bool false, .slice none 0 0, .bool false, .slice none 0 0] 32)) := Ext.new _ _
  have hB6 : Blk (w.alloc (.cells #[.bool false, .slice none 0 0, .bool false, .slice none 0 0, .bool false, .slice none 0 0] 32)) w.heap.size 32 #[.bool false, .slice none 0 0, .bool false, .slice none 0 0, .bool false, .slice none 0 0] := Blk.new _ _ _
  have hc1 := hc.ext hE
  go_enter Tryz.func35, Tryz.ntmps35
  go_wp2_with fail
  refine (eOf_q 0 0 1 _ (by omega) (by omega) (by omega) (by omega) (by omega) (by omega) (by omega)).mono ?_
  rintro e w2 ⟨v, rfl, ⟨u, rfl, hu⟩, hx⟩
  replace hE := hE.trans hx; replace hB6 := hB6.ext hx; replace hc1 := hc1.ext hx
  clear hx
  have e0 : (⟨((0 : Int) : Rat) / ((1 : Int) : Rat), ((0 : Int) : Rat) / ((1 : Int) : Rat)⟩ : GQ) = GQ.i 0 0 := by ext <;> simp only [GQ.i_re, GQ.i_im] <;> grind
  rw [e0] at hu
  go_wp2_with fail
  refine (fkeep_ok g u _ _ _ hc1 hu).mono ?_
  rintro e w3 ⟨v, rfl, hv, hx⟩
  replace hE := hE.trans hx; replace hB6 := hB6.ext hx
  clear hx hu hc1
  obtain ⟨sr1, Ar1, nr1, cr1, sr2, Ar2, nr2, cr2, sr3, Ar3, nr3, cr3, rfl⟩ := hv.opn
  have k6 := hB6.cell; have f6 := hB6.frozen
  obtain ⟨p1, p2, p3⟩ := put_gauss hE (by omega) hB6 hv
  have P1 := Lib.hid p1; have P2 := Lib.hid p2; have P3 := Lib.hid p3
  clear p1 p2 p3 hE hB6 hv
  go_wp2_with fail
  exact bp_gauss1 rfl rfl rfl P2.out ⟨_, rfl, P3.out, P1.out⟩
theorem xZero_of (v : Value) (q : GQ) (n : Nat) (w : World) (hX : GV w v q n) (hn : n ≤ 12800) :
    Calls Tryz.prog 53 #[v] w fun e w' => e = .returned (.bool (decide (q = GQ.i 0 0))) ∧ Ext w w' := by
  by_cases h : q = GQ.i 0 0
  · rw [decide_eq_true h]; exact xZero_yes v q n w hX hn h
  · rw [decide_eq_false h]; exact xZero_no v q n w hX hn h
end Go.Proofs.YtclkkoiaaddllaaGreat

namespace Go.Proofs.YtclkkoiaaddllaaGreat
open Go.RowKit
set_option linter.unusedVariables false

/-- A row's slice. -/
structure Rw where
  A : Option Addr
  b : Nat
  o : Nat
  n : Nat
  c : Nat
def Rw.v (r : Rw) : Value := .slice r.A r.n r.c
/-- Rows of numbers as they lie in memory. -/
structure Mem (w : World) (A : Option Addr) (B O m : Nat) (R : Nat → Rw) (E : Nat → Nat → En) : Prop where
  at0 : 0 < m → A = some ⟨B, O, none⟩
  row : ∀ i, i < m → w.cell? ⟨B, O + i, none⟩ = some (R i).v
  ra : ∀ i, i < m → 0 < (R i).n → (R i).A = some ⟨(R i).b, (R i).o, none⟩
  el : ∀ i j, i < m → j < (R i).n → ∀ t u, (E i j).cells[t]? = some u → w.cell? ⟨(R i).b, (R i).o + (j * 6 + t), none⟩ = some u
  lm : m ≤ 9223372036854775807
  ln : ∀ i, i < m → (R i).n ≤ 9223372036854775807
theorem cell_ext {w w' : World} {p : Addr} {u : Value} (h : w.cell? p = some u) (x : Ext w w') : w'.cell? p = some u := by
  have hp : p.block < w.heap.size := by
    rcases Nat.lt_or_ge p.block w.heap.size with hlt | hge
    · exact hlt
    · unfold World.cell? at h
      rw [Array.getElem?_eq_none hge] at h
      simp at h
  exact (x.cell hp).trans h
section
variable {w w' : World} {A : Option Addr} {B O m c : Nat} {R : Nat → Rw} {E : Nat → Nat → En}
theorem Mem.ext (h : Mem w A B O m R E) (x : Ext w w') : Mem w' A B O m R E :=
  ⟨h.at0, fun i hi => cell_ext (h.row i hi) x, h.ra, fun i j hi hj t u hu => cell_ext (h.el i j hi hj t u hu) x, h.lm, h.ln⟩
/-- The number of columns. -/
def wd (m : Nat) (R : Nat → Rw) : Nat := if m = 0 then 0 else (R 0).n
set_option maxRecDepth 100000 in
set_option maxHeartbeats 1600000 in
theorem width_any (h : Mem w A B O m R E) : Calls Tryz.prog 34 #[.slice A m c] w fun e w' => e = .returned (.int .i64 (wd m R : Nat)) ∧ Ext w w' := by
  by_cases h0 : m = 0
  · have d0 : ((m : Int) == 0) = true := by simp [h0]
    have e0 : wd m R = 0 := by unfold wd; rw [if_pos h0]
    rw [e0]
    clear h0
    go_enter Tryz.func34, Tryz.ntmps34
    go_wp2_with fail
    go_ret
    exact ⟨rfl, Ext.refl _⟩
  · have d0 : ((m : Int) == 0) = false := by simp [h0]
    have e0 : wd m R = (R 0).n := by unfold wd; rw [if_neg h0]
    rw [e0]
    have hA := h.at0 (by omega)
    have hr : w.cell? ⟨B, O, none⟩ = some (.slice (R 0).A (R 0).n (R 0).c) := h.row 0 (by omega)
    subst hA
    have q1 : (0 : Int) < (m : Int) := by omega
    go_enter Tryz.func34, Tryz.ntmps34
    go_wp2_with fail
    go_ret
    exact ⟨rfl, Ext.refl _⟩
/-- The rows are a matrix: all as long as the first one, none too long, all numbers valid. -/
def IsM (m : Nat) (R : Nat → Rw) (vb : Nat → Nat → Bool) : Prop := m ≤ 24 ∧ wd m R ≤ 24 ∧ (∀ i, i < m → (R i).n = wd m R) ∧ ∀ i j, i < m → j < (R i).n → vb i j = true
theorem Mem.rowc (h : Mem w A B O m R E) {i : Nat} (hi : i < m) (x : Ext w w') : w'.cell? ⟨B, O + i, none⟩ = some (.slice (R i).A (R i).n (R i).c) := x.cell_ (h.row i hi)
theorem Mem.cells (h : Mem w A B O m R E) {i j : Nat} (hi : i < m) (hj : j < (R i).n) (x : Ext w w') :
    w'.cell? ⟨(R i).b, (R i).o + j * 6, none⟩ = some (.bool (E i j).s1) ∧ w'.cell? ⟨(R i).b, (R i).o + j * 6 + 1, none⟩ = some (.slice (E i j).A1 (E i j).n1 (E i j).c1) ∧ w'.cell? ⟨(R i).b, (R i).o + j * 6 + 2, none⟩ = some (.bool (E i j).s2) ∧
    w'.cell? ⟨(R i).b, (R i).o + j * 6 + 3, none⟩ = some (.slice (E i j).A2 (E i j).n2 (E i j).c2) ∧ w'.cell? ⟨(R i).b, (R i).o + j * 6 + 4, none⟩ = some (.bool (E i j).s3) ∧ w'.cell? ⟨(R i).b, (R i).o + j * 6 + 5, none⟩ = some (.slice (E i j).A3 (E i j).n3 (E i j).c3) :=
  ⟨x.cell_ (h.el i j hi hj 0 _ rfl), x.cell_ (h.el i j hi hj 1 _ rfl), x.cell_ (h.el i j hi hj 2 _ rfl), x.cell_ (h.el i j hi hj 3 _ rfl), x.cell_ (h.el i j hi hj 4 _ rfl), x.cell_ (h.el i j hi hj 5 _ rfl)⟩
set_option maxRecDepth 100000 in
set_option maxHeartbeats 3200000 in
theorem matrix_any (h : Mem w A B O m R E) {vb : Nat → Nat → Bool} (hv : ∀ i j, i < m → j < (R i).n → VB w (E i j).v (vb i j)) (b : Bool) (hb : b = true ↔ IsM m R vb) :
    Calls Tryz.prog 29 #[.slice A m c] w fun e w' => e = .returned (.bool b) ∧ Ext w w' := by
  have HM := Lib.hid h; have HV := Lib.hid hv
  have hm0 : (0 : Int) ≤ (m : Int) := by omega
  by_cases h24 : 24 < m
  · have d24 : decide ((24 : Int) < (m : Int)) = true := by simp; omega
    have hF : b = false := by cases b <;> simp_all [IsM]; omega
    subst hF
    clear h hv hb h24
    go_enter Tryz.func29, Tryz.ntmps29
    go_wp2_with fail
    go_ret
    exact ⟨rfl, Ext.refl _⟩
  have d24 : decide ((24 : Int) < (m : Int)) = false := by simp; omega
  by_cases hw24 : 24 < wd m R
  · have dw : decide ((24 : Int) < (wd m R : Int)) = true := by simp; omega
    have hF : b = false := by cases b <;> simp_all [IsM]; omega
    subst hF
    clear h hv hb
    go_enter Tryz.func29, Tryz.ntmps29
    go_wp2_with fail
    refine (width_any HM.out).mono ?_
    rintro e w2 ⟨rfl, hx⟩
    go_wp2_with fail
    go_ret
    exact ⟨rfl, hx⟩
  have dw : decide ((24 : Int) < (wd m R : Int)) = false := by simp; omega
  have HB := Lib.hid hb; clear hb
  have h24' : m ≤ 24 := by omega
  clear h hv
  go_enter Tryz.func29, Tryz.ntmps29
  go_wp2_with fail
  refine (width_any HM.out).mono ?_
  rintro e w2 ⟨rfl, hx2⟩
  have HX2 := Lib.hid hx2; clear hx2
  go_wp2_with fail
  go_loopw [19] (fun i wr => ∃ k : Nat, k ≤ m ∧ i = .int .i64 k ∧ (∀ i, i < k → (R i).n = wd m R) ∧ Ext w wr) (fun i _ => m - (intOf i).toNat)
  case atStart => exact ⟨0, by omega, rfl, by intros; omega, HX2.out⟩
  case round =>
    obtain ⟨k, hk, rfl, hall, hx⟩ := hrel
    have HA := Lib.hid hall; have HX := Lib.hid hx; clear hall hx HX2
    by_cases hlt : k < m
    · have hd : decide ((k : Int) < (m : Int)) = true := by simp; omega
      have hA := HM.out.at0 (by omega)
      have hr := HM.out.rowc hlt HX.out
      subst hA
      by_cases hn : (R k).n = wd m R
      · have dn : (((R k).n : Int) != (wd m R : Int)) = false := by simp [hn]
        have HN := Lib.hid hn; clear hn
        go_wp2_with fail
        refine (width_any (HM.out.ext HX.out)).mono ?_
        rintro e w3 ⟨rfl, hx3⟩
        go_wp2_with fail
        go_roundw
        case rel =>
          refine ⟨k + 1, by omega, by go_num, fun i hi => ?_, HX.out.trans hx3⟩
          by_cases e : i = k
          · subst e; exact HN.out
          · exact HA.out i (by omega)
        case measure => simp [intOf]; omega
      · have dn : (((R k).n : Int) != (wd m R : Int)) = true := by simp; omega
        have hF : b = false := by
          cases b
          · rfl
          · exact absurd ((HB.out.1 rfl).2.2.1 k hlt) hn
        subst hF
        clear hn
        go_wp2_with fail
        refine (width_any (HM.out.ext HX.out)).mono ?_
        rintro e w3 ⟨rfl, hx3⟩
        go_wp2_with fail
        go_ret
        exact ⟨rfl, HX.out.trans hx3⟩
    · obtain rfl : k = m := by omega
      have hd : decide ((k : Int) < (k : Int)) = false := by simp
      clear hd
      go_wp2_with fail
      go_loopw [31] (fun i wr => ∃ k' : Nat, k' ≤ k ∧ i = .int .i64 k' ∧ (∀ i j, i < k' → j < (R i).n → vb i j = true) ∧ Ext w wr) (fun i _ => k - (intOf i).toNat)
      case atStart => exact ⟨0, by omega, rfl, by intros; omega, HX.out⟩
      case round =>
        clear hlt
        obtain ⟨r, hr, rfl, hall, hx⟩ := hrel
        have HA2 := Lib.hid hall; have HX2 := Lib.hid hx; clear hall hx HX
        by_cases hlt : r < k
        · have hd : decide ((r : Int) < (k : Int)) = true := by simp; omega
          have hA := HM.out.at0 (by omega)
          have hr2 := HM.out.rowc hlt HX2.out
          subst hA
          go_wp2_with fail
          go_loopw [37] (fun i wr => ∃ k' : Nat, k' ≤ (R r).n ∧ i = .int .i64 k' ∧ (∀ j, j < k' → vb r j = true) ∧ Ext w wr) (fun i _ => (R r).n - (intOf i).toNat)
          case atStart => exact ⟨0, by omega, rfl, by intros; omega, HX2.out⟩
          case round =>
            clear hd
            obtain ⟨j, hj, rfl, hall, hx⟩ := hrel
            have HA3 := Lib.hid hall; have HX3 := Lib.hid hx; clear hall hx
            by_cases hjt : j < (R r).n
            · have hd : decide ((j : Int) < ((R r).n : Int)) = true := by simp; omega
              have hRA := HM.out.ra r hlt (by omega)
              have hln := HM.out.ln r hlt
              obtain ⟨c0, c1, c2, c3, c4, c5⟩ := HM.out.cells hlt hjt HX3.out
              rw [hRA]
              generalize hvb : vb r j = bv
              have HVB : Hid (VB w (E r j).v bv) := Lib.hid (hvb ▸ HV.out r j hlt hjt)
              have HVQ := Lib.hid hvb; clear hvb
              have HE := Lib.hid (HX3.out.alloc (.cells #[.bool (E r j).s1, .slice (E r j).A1 (E r j).n1 (E r j).c1, .bool (E r j).s2, .slice (E r j).A2 (E r j).n2 (E r j).c2, .bool (E r j).s3, .slice (E r j).A3 (E r j).n3 (E r j).c3] 32))
              go_wp2_with fail
              refine ((HVB.out.ext HE.out).e).mono ?_
              rintro e w4 ⟨rfl, hx4⟩
              cases bv
              · have hF : b = false := by
                  cases b
                  · rfl
                  · have := (HB.out.1 rfl).2.2.2 r j hlt hjt
                    rw [HVQ.out] at this; cases this
                subst hF
                go_wp2_with fail
                go_ret
                exact ⟨rfl, HE.out.trans hx4⟩
              · go_wp2_with fail
                go_roundw
                case rel =>
                  refine ⟨j + 1, by omega, by go_num, fun i hi => ?_, HE.out.trans hx4⟩
                  by_cases e : i = j
                  · subst e; exact HVQ.out
                  · exact HA3.out i (by omega)
                case measure => simp [intOf]; omega
            · obtain rfl : j = (R r).n := by omega
              have hd : decide (((R r).n : Int) < ((R r).n : Int)) = false := by simp
              go_wp2_with fail
              go_roundw
              case rel =>
                refine ⟨r + 1, by omega, by go_num, fun i j2 hi hj2 => ?_, HX3.out⟩
                by_cases e : i = r
                · subst e; exact HA3.out j2 hj2
                · exact HA2.out i j2 (by omega) hj2
              case measure => simp [intOf]; omega
        · obtain rfl : r = k := by omega
          have hT : b = true := HB.out.2 ⟨h24', by omega, HA.out, HA2.out⟩
          subst hT
          go_wp2_with fail
          go_ret
          exact ⟨rfl, HX2.out⟩
end
end Go.Proofs.YtclkkoiaaddllaaGreat

namespace Go.Proofs.YtclkkoiaaddllaaGreat
open Go.RowKit
set_option linter.unusedVariables false

theorem RowIs.cells {w : World} {g n : Nat} {f : Nat → En} (hb : Blk w g 32 (rowc n f).toArray) {j : Nat} (hj : j < n) {p : Nat} (hp : j * 6 = p) :
    w.cell? ⟨g, p, none⟩ = some (.bool (f j).s1) ∧ w.cell? ⟨g, p + 1, none⟩ = some (.slice (f j).A1 (f j).n1 (f j).c1) ∧ w.cell? ⟨g, p + 2, none⟩ = some (.bool (f j).s2) ∧
    w.cell? ⟨g, p + 3, none⟩ = some (.slice (f j).A2 (f j).n2 (f j).c2) ∧ w.cell? ⟨g, p + 4, none⟩ = some (.bool (f j).s3) ∧ w.cell? ⟨g, p + 5, none⟩ = some (.slice (f j).A3 (f j).n3 (f j).c3) := by
  subst hp
  have h : ∀ t u, (f j).cells[t]? = some u → w.cell? ⟨g, j * 6 + t, none⟩ = some u := fun t u hu => by
    rw [hb.cell]
    have ht : t < 6 := by
      have := (List.getElem?_eq_some_iff.1 hu).1
      exact this
    rw [List.getElem?_toArray, rowc_at ht hj]; exact hu
  exact ⟨h 0 _ rfl, h 1 _ rfl, h 2 _ rfl, h 3 _ rfl, h 4 _ rfl, h 5 _ rfl⟩
/-- A row less a multiple of another one, from place o on, k numbers. -/
def subk (x y : Nat → GQ) (q : GQ) (o o2 k : Nat) : Nat → GQ := fun j => if o ≤ j ∧ j < o + k then x j - q * y (o2 + (j - o)) else x j
theorem subk_zero (x y : Nat → GQ) (q : GQ) (o o2 : Nat) : subk x y q o o2 0 = x := by
  funext j; unfold subk; rw [if_neg (by omega)]
theorem subk_succ (x y : Nat → GQ) (q : GQ) (o o2 k : Nat) : subk x y q o o2 (k + 1) = upd (subk x y q o o2 k) (o + k) (x (o + k) - q * y (o2 + k)) := by
  funext j
  unfold upd
  by_cases h : j = o + k
  · subst h
    rw [if_pos rfl]; unfold subk; rw [if_pos (by omega)]
    rw [show o + k - o = k by omega]
  · rw [if_neg h]; unfold subk
    by_cases h2 : o ≤ j ∧ j < o + k
    · rw [if_pos h2, if_pos (by omega)]
    · rw [if_neg h2, if_neg (by omega)]
theorem subk_at (x y : Nat → GQ) (q : GQ) (o o2 k : Nat) : subk x y q o o2 k (o + k) = x (o + k) := by
  unfold subk; rw [if_neg (by omega)]
theorem CalmF.ne {w : World} {gf g n : Nat} {x : Nat → GQ} (h : CalmF w gf) (hx : RowIs w g n x) : gf ≠ g := by
  rintro rfl
  obtain ⟨f, hb, _⟩ := hx
  have e := h.symm.trans hb
  simp at e
theorem RowIs.far {w : World} {g n : Nat} {x : Nat → GQ} (h : RowIs w g n x) : Far (fun k => k = g) w := by
  obtain ⟨f, h1, _⟩ := h
  intro k hk _
  subst hk
  exact ⟨_, _, h1, rowc_noint _ _⟩
set_option maxRecDepth 100000 in
set_option maxHeartbeats 6400000 in
theorem fsubtract_g (gf g g2 o o2 n n2 L C L2 C2 Nx Ny Nq : Nat) (A A2 : Option Addr) (v : Value) (x y : Nat → GQ) (q : GQ) (w : World) (hc : CalmF w gf) (hx : RowIs w g n x) (hy : RowIs w g2 n2 y) (hne : g ≠ g2)
    (hA : 0 < L → A = some ⟨g, o * 6, none⟩) (hA2 : 0 < L2 → A2 = some ⟨g2, o2 * 6, none⟩) (hL : L ≤ L2) (ho : o + L ≤ n) (ho2 : o2 + L2 ≤ n2) (hbig : L ≤ 9223372036854775807) (hbig2 : L2 ≤ 9223372036854775807)
    (hq : GV w v q Nq) (bx : ∀ j, j < L → Bd (x (o + j)) Nx) (by_ : ∀ j, j < L → Bd (y (o2 + j)) Ny) (hN : 2 * max Nx (Nq + Ny + 1) + 65 ≤ 12800) (hN2 : 2 * max Nq Ny + 1 ≤ 12800) :
    Calls Tryz.prog 77 #[.pointer (some ⟨gf, 0, none⟩), .slice A L C, .slice A2 L2 C2, v] w fun e w' => e = .returned (.tuple #[]) ∧ RowIs w' g n (subk x y q o o2 L) ∧ Mod (fun k => k = g) w w' := by
  obtain ⟨s1, A1, n1, c1, s2, A2', n2', c2, s3, A3, n3, c3, rfl⟩ := hq.opn
  have HB := Lib.hid (Blk.new w 32 #[.bool s1, .slice A1 n1 c1, .bool s2, .slice A2' n2' c2, .bool s3, .slice A3 n3 c3])
  have HE := Lib.hid (Ext.new w (.cells #[.bool s1, .slice A1 n1 c1, .bool s2, .slice A2' n2' c2, .bool s3, .slice A3 n3 c3] 32))
  have hgl : g < w.heap.size := by obtain ⟨f, h, _⟩ := hx; exact h.lt
  have HC := Lib.hid (hc.ext HE.out); have HX := Lib.hid (hx.ext HE.out); have HY := Lib.hid (hy.ext HE.out); have HQ := Lib.hid (hq.ext HE.out)
  have HBX := Lib.hid bx; have HBY := Lib.hid by_
  clear hc hx hy hq bx by_
  go_enter Tryz.func77, Tryz.ntmps77
  go_wp2_with fail
  generalize (w.alloc _) = w1 at HB HE HC HX HY HQ ⊢
  generalize hg7 : w.heap.size = g7 at HB hgl ⊢
  have HG7 := Lib.hid hg7; clear hg7
  go_loopw [11] (fun i wr => ∃ k : Nat, k ≤ L ∧ i = .int .i64 k ∧ RowIs wr g n (subk x y q o o2 k) ∧ Mod (fun k => k = g) w1 wr) (fun i _ => L - (intOf i).toNat)
  case atStart => exact ⟨0, by omega, rfl, by rw [subk_zero]; exact HX.out, Mod.refl _ _⟩
  case round =>
    obtain ⟨k, hk, rfl, hrow, hm⟩ := hrel
    have HM := Lib.hid hm; have HR := Lib.hid hrow; clear hm hrow
    by_cases hlt : k < L
    · have hd : decide ((k : Int) < (L : Int)) = true := by simp; omega
      have hk2 : decide ((k : Int) < (L2 : Int)) = true := by simp; omega
      have hA := hA (by omega); have hA2 := hA2 (by omega)
      subst hA; subst hA2
      have hfar := HX.out.far
      obtain ⟨f2, hf2, hv2⟩ := HY.out.mod HM.out hfar (by exact fun e => hne e.symm)
      obtain ⟨f, hf, hv⟩ := HR.out
      have HV2 := Lib.hid ((hv2 (o2 + k) (by omega)).to (HBY.out k hlt)); have HV := Lib.hid (hv (o + k) (by omega))
      obtain ⟨d0, d1, d2, d3, d4, d5⟩ := RowIs.cells hf2 (j := o2 + k) (by omega) (show (o2 + k) * 6 = o2 * 6 + k * 6 by omega)
      have HF := Lib.hid hf; have HF2 := Lib.hid hf2; clear hf hf2 hv2
      have HHV := Lib.hid hv; clear hv
      go_wp2_with fail
      refine (xZero_of _ _ _ _ HV2.out (by omega)).mono ?_
      rintro e w3 ⟨rfl, hx3⟩
      by_cases h0 : y (o2 + k) = GQ.i 0 0
      · rw [decide_eq_true h0]
        go_wp2_with fail
        go_roundw
        case rel =>
          refine ⟨k + 1, by omega, by go_num, ?_, HM.out.trans (Mod.of hx3)⟩
          rw [subk_succ]
          refine (HR.out.ext hx3).congr fun j hj => ?_
          by_cases e : j = o + k
          · subst e; rw [upd_same, subk_at, h0, GQ.mul_zero', GQ.sub_zero']
          · rw [upd_ne e]
        case measure => simp [intOf]; omega
      · rw [decide_eq_false h0]
        have HF3 := Lib.hid (HF.out.ext hx3); have HB3 := Lib.hid ((HB.out.mod HM.out (by exact fun e => by omega)).ext hx3)
        obtain ⟨a0, a1, a2, a3, a4, a5⟩ := RowIs.cells HF3.out (j := o + k) (by omega) (show (o + k) * 6 = o * 6 + k * 6 by omega)
        have E0 := ExtOf.cell a0; have E1 := ExtOf.cell a1; have E2 := ExtOf.cell a2; have E3 := ExtOf.cell a3; have E4 := ExtOf.cell a4; have E5 := ExtOf.cell a5
        have D0 := ExtOf.cell (hx3.cell_ d0); have D1 := ExtOf.cell (hx3.cell_ d1); have D2 := ExtOf.cell (hx3.cell_ d2); have D3 := ExtOf.cell (hx3.cell_ d3); have D4 := ExtOf.cell (hx3.cell_ d4); have D5 := ExtOf.cell (hx3.cell_ d5)
        have B7 := ExtOf.blk HB3.out
        have HX3 := Lib.hid hx3; clear hx3 a0 a1 a2 a3 a4 a5 d0 d1 d2 d3 d4 d5
        go_wp2_with fail
        refine wp_region_ordE 15 [(true, 0), (true, 1), (true, 2), (true, 3), (true, 4), (true, 5), (true, 6), (true, 7), (true, 8), (true, 9), (true, 10), (true, 11), (true, 12), (false, 13), (false, 14)] (by kernel_rfl) (by kernel_rfl) ?_
        refine wpOrdT_quiet [0, 1, 2, 3, 4, 5, 6, 7, 8, 9, 10, 11, 12] [(false, 13), (false, 14)] _ (by kernel_rfl) ?_
        simp only [nthOps, nthOp, List.cons_append, List.nil_append]
        repeat (go_big_quiet_step (fail))
        refine wpQuiet_nil ?_
        refine wpOrdT_act 13 [(false, 14)] (by kernel_rfl) ?_
        intro K hK
        simp only [nthOp]
        go_wp2_with fail
        have HM3 := Lib.hid (HM.out.trans (Mod.of HX3.out.drew))
        have HV3 := Lib.hid (HV.out.ext HX3.out.drew)
        refine (fmul_ok gf _ _ q (y (o2 + k)) Nq Ny _ (Blk.mod HC.out HM3.out (HC.out.ne HX.out)) (HQ.out.mod HM3.out hfar) (HV2.out.ext HX3.out.drew) (by omega)).mono ?_
        rintro e w4 ⟨v4, rfl, hv4, hx4⟩
        have HX4 := Lib.hid hx4.undrew; have HV4 := Lib.hid hv4; have HXd := Lib.hid hx4
        clear hx4 hv4
        go_wp2
        refine hK _ _ ⟨⟨w4, HX4.out⟩, rfl⟩ ?_
        clear hK K
        refine wpOrdT_act 14 [] (by kernel_rfl) ?_
        intro K hK
        simp only [nthOp]
        go_wp2_with fail
        have hbx := HBX.out k hlt
        refine (fsub_ok gf _ _ (x (o + k)) (q * y (o2 + k)) Nx (Nq + Ny + 1) _ ?_ ?_ HV4.out (by omega)).mono ?_
        · exact Blk.ext (Blk.mod HC.out HM3.out (HC.out.ne HX.out)) HXd.out
        · have := HV3.out.ext HXd.out
          rw [subk_at] at this
          exact this.to hbx
        rintro e w5 ⟨v5, rfl, hv5, hx5⟩
        obtain ⟨t1, B1, m1, b1, t2, B2, m2, b2, t3, B3, m3, b3, rfl⟩ := hv5.opn
        have HX5 := Lib.hid (HX4.out.trans hx5); have HV5 := Lib.hid hv5
        clear hx5 hv5
        go_wp2
        refine hK _ _ ⟨⟨w5, HX5.out⟩, rfl⟩ ?_
        clear hK K
        have HF5 := Lib.hid (HF3.out.ext HX5.out)
        obtain ⟨a0, a1, a2, a3, a4, a5⟩ := RowIs.cells HF5.out (j := o + k) (by omega) (show (o + k) * 6 = o * 6 + k * 6 by omega)
        have f5 := HF5.out.frozen
        simp only [wpOrdT, List.drop_succ_cons, List.drop_zero]
        have HA5 := Lib.hid hfar
        clear hfar E0 E1 E2 E3 E4 E5 D0 D1 D2 D3 D4 D5 B7
        go_wp2_with fail
        go_roundw
        case rel =>
          refine ⟨k + 1, by omega, by go_num, ?_⟩
          have hm5 : Mod (fun k => k = g) w1 w5 := (HM.out.trans (Mod.of HX3.out)).trans (Mod.of HX5.out)
          have hh : ∀ j, j < n → GV w5 (f j).v (subk x y q o o2 k j) 12800 := fun j hj => ((HHV.out j hj).ext HX3.out).ext HX5.out
          have hp := RowIs.put (e := ⟨t1, B1, m1, b1, t2, B2, m2, b2, t3, B3, m3, b3⟩) HF5.out hh (j := o + k) (by omega) (HV5.out.up (by omega))
          rw [show (o + k) * 6 = o * 6 + k * 6 by omega] at hp
          rw [subk_succ]
          exact ⟨hp.1, hm5.trans hp.2⟩
        case measure => simp [intOf]; omega
    · obtain rfl : k = L := by omega
      have hd : decide ((k : Int) < (k : Int)) = false := by simp
      go_wp2_with fail
      refine bodyPost_end (results_none rfl _ _ _) rfl ?_
      refine ⟨rfl, HR.out, ?_⟩
      exact (Mod.of HE.out).trans HM.out
theorem fsubtract_w (gf g g2 o o2 n n2 L C L2 C2 N : Nat) (A A2 : Option Addr) (v : Value) (x y : Nat → GQ) (q : GQ) (w : World) (hc : CalmF w gf) (hx : RowIs w g n x) (hy : RowIs w g2 n2 y) (hne : g ≠ g2)
    (hA : 0 < L → A = some ⟨g, o * 6, none⟩) (hA2 : 0 < L2 → A2 = some ⟨g2, o2 * 6, none⟩) (hL : L ≤ L2) (ho : o + L ≤ n) (ho2 : o2 + L2 ≤ n2) (hbig : L ≤ 9223372036854775807) (hbig2 : L2 ≤ 9223372036854775807)
    (hq : GV w v q N) (bx : ∀ j, j < L → Bd (x (o + j)) N) (by_ : ∀ j, j < L → Bd (y (o2 + j)) N) (hN : 4 * N + 67 ≤ 12800) :
    Calls Tryz.prog 77 #[.pointer (some ⟨gf, 0, none⟩), .slice A L C, .slice A2 L2 C2, v] w fun e w' => e = .returned (.tuple #[]) ∧ RowIs w' g n (subk x y q o o2 L) ∧ Mod (fun k => k = g) w w' :=
  fsubtract_g gf g g2 o o2 n n2 L C L2 C2 N N N A A2 v x y q w hc hx hy hne hA hA2 hL ho ho2 hbig hbig2 hq bx by_ (by omega) (by omega)
set_option maxRecDepth 100000 in
set_option maxHeartbeats 1600000 in
theorem fsubtract_0 (gf C L2 C2 : Nat) (A A2 : Option Addr) (v : Value) (q : GQ) (N : Nat) (w : World) (hq : GV w v q N) :
    Calls Tryz.prog 77 #[.pointer (some ⟨gf, 0, none⟩), .slice A 0 C, .slice A2 L2 C2, v] w fun e w' => e = .returned (.tuple #[]) ∧ Ext w w' := by
  obtain ⟨s1, A1, n1, c1, s2, A2', n2', c2, s3, A3, n3, c3, rfl⟩ := hq.opn
  have HE := Lib.hid (Ext.new w (.cells #[.bool s1, .slice A1 n1 c1, .bool s2, .slice A2' n2' c2, .bool s3, .slice A3 n3 c3] 32))
  clear hq
  go_enter Tryz.func77, Tryz.ntmps77
  go_wp2_with fail
  generalize (w.alloc _) = w1 at HE ⊢
  go_loopw [11] (fun i wr => i = .int .i64 0 ∧ wr = w1) (fun i _ => 0)
  case atStart => exact ⟨rfl, rfl⟩
  case round =>
    obtain ⟨rfl, rfl⟩ := hrel
    go_wp2_with fail
    refine bodyPost_end (results_none rfl _ _ _) rfl ?_
    exact ⟨rfl, HE.out⟩
end Go.Proofs.YtclkkoiaaddllaaGreat

