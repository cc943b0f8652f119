/- The walk of LinearExamples. -/
import Derived.Test.YtclkkoiaaddllaaGreatQYwgmhh
namespace Go.Proofs.YtclkkoiaaddllaaGreat
open Go.RowKit
set_option linter.unusedVariables false

theorem row2_at {w : World} {g : Nat} {s1 s2 s3 : Bool} {A1 A2 A3 : Option Addr} {n1 c1 n2 c2 n3 c3 : Nat} {q1 : GQ} (h1 : GV w (gv s1 A1 n1 c1 s2 A2 n2 c2 s3 A3 n3 c3) q1 64) (x : Nat → GQ) (e0 : x 0 = q1) (e1 : x 1 = q1) (hg : w.heap.size = g) :
    RowIs (w.alloc (.cells #[.bool s1, .slice A1 n1 c1, .bool s2, .slice A2 n2 c2, .bool s3, .slice A3 n3 c3, .bool s1, .slice A1 n1 c1, .bool s2, .slice A2 n2 c2, .bool s3, .slice A3 n3 c3] 32)) g 2 x := by
  subst hg; exact row2_new h1 h1 x e0 e1
theorem row1_at {w : World} {g : Nat} {s1 s2 s3 : Bool} {A1 A2 A3 : Option Addr} {n1 c1 n2 c2 n3 c3 : Nat} {q1 : GQ} (h1 : GV w (gv s1 A1 n1 c1 s2 A2 n2 c2 s3 A3 n3 c3) q1 64) (x : Nat → GQ) (e0 : x 0 = q1) (hg : w.heap.size = g) :
    RowIs (w.alloc (.cells #[.bool s1, .slice A1 n1 c1, .bool s2, .slice A2 n2 c2, .bool s3, .slice A3 n3 c3] 32)) g 1 x := by
  subst hg; exact row1_new h1 x e0
theorem out2_at {w : World} {g0 g1 n g : Nat} {x0 x1 : Nat → GQ} (h0 : RowIs w g0 n x0) (h1 : RowIs w g1 n x1) (X : Nat → Nat → GQ) (e0 : X 0 = x0) (e1 : X 1 = x1) (hg : w.heap.size = g) :
    ∃ RX, Out (w.alloc (.cells #[.slice (some ⟨g0, 0, none⟩) n n, .slice (some ⟨g1, 0, none⟩) n n] 37)) g 2 n RX X := by
  subst hg; exact out2_new h0 h1 X e0 e1
theorem out1_at {w : World} {g0 n g : Nat} {x0 : Nat → GQ} (h0 : RowIs w g0 n x0) (X : Nat → Nat → GQ) (e0 : X 0 = x0) (hg : w.heap.size = g) : ∃ RX, Out (w.alloc (.cells #[.slice (some ⟨g0, 0, none⟩) n n] 37)) g 1 n RX X := by
  subst hg; exact out1_new h0 X e0
theorem three0 (j : Nat) (hj : j < 2) : (if j = 0 then GQ.i 1 0 else GQ.i 1 0) = threeM 0 j := by
  show _ = (if (0 : Nat) = 2 then (if j = 0 then GQ.i 1 0 else GQ.i 0 1) else GQ.i 1 0)
  have h : ¬ ((0 : Nat) = 2) := by decide
  rw [if_neg h]
  split <;> rfl
def kRow2 (q p : GQ) (v : Value) (w : World) : Prop := ∃ g, v = .slice (some ⟨g, 0, none⟩) 2 2 ∧ RowIs w g 2 (fun j => if j = 0 then q else p)
def kOut3 (v : Value) (w : World) : Prop := ∃ G, v = .slice (some ⟨G, 0, none⟩) 3 3 ∧ ∃ RX, Out w G 3 2 RX threeM
def ePhi : Nat → Nat → Nat → Value → World → Prop
  | 2, _, _, v, w => kRow2 (GQ.i 1 0) (GQ.i 1 0) v w
  | 5, _, _, v, w => kRow2 (GQ.i 1 0) (GQ.i 1 0) v w
  | 7, _, _, v, w => kGV (GQ.i (0) (1)) v w
  | 8, _, _, v, w => kRow2 (GQ.i 1 0) (GQ.i 0 1) v w
  | 9, _, _, v, w => kOut3 v w
  | 10, _, _, v, w => v = .tuple #[.int .i64 2, .int .i64 0]
  | _, _, _, _, _ => True
theorem kRow2.ext {q p : GQ} {v : Value} {w w' : World} (h : kRow2 q p v w) (x : Ext w w') : kRow2 q p v w' := by
  obtain ⟨g, e, h⟩ := h
  exact ⟨g, e, h.ext x⟩
theorem kOut3.ext {v : Value} {w w' : World} (h : kOut3 v w) (x : Ext w w') : kOut3 v w' := by
  obtain ⟨G, e, h⟩ := h
  exact ⟨G, e, OutE.ext h x⟩
theorem ePhi_stab (i lo hi : Nat) (v : Value) (w w' : World) (h : ePhi i lo hi v w) (x : Ext w w') : ePhi i lo hi v w' := by
  unfold ePhi at h ⊢
  split at h
  all_goals first | exact kGV.ext h x | exact kRow2.ext h x | exact kOut3.ext h x | exact h
theorem kRow2_at {q p : GQ} {w : World} {g : Nat} (h : kRow2 q p (.slice (some ⟨g, 0, none⟩) 2 2) w) : RowIs w g 2 (fun j => if j = 0 then q else p) := by
  obtain ⟨g', e, h⟩ := h
  simp at e
  subst e; exact h
theorem kOut3_at {w : World} {G : Nat} (h : kOut3 (.slice (some ⟨G, 0, none⟩) 3 3) w) : ∃ RX, Out w G 3 2 RX threeM := by
  obtain ⟨G', e, h⟩ := h
  simp at e
  subst e; exact h
set_option maxRecDepth 100000 in
set_option maxHeartbeats 12800000 in
theorem lexamples_any (w : World) : Calls Tryz.prog 5 #[] w fun e w' => e = .returned (.bool true) ∧ Ext w w' := by
  go_enter Tryz.func5, Tryz.ntmps5
  have HE := Lib.hid (Ext.refl w)
  go_wp2_with fail
  refine (qI_ok (1) (0) _ (by omega) (by omega) (by omega) (by omega)).mono ?_
  rintro e w1 ⟨s11, A11, n11, c11, s12, A12, n12, c12, s13, A13, n13, c13, rfl, h1, hx⟩
  have HI1 := Lib.hid h1; clear h1
  replace HE := Lib.hid (HE.out.trans hx); clear hx
  have hx : Ext w1 ((w1.alloc (.cells #[] 37)).alloc (.cells #[.bool s11, .slice A11 n11 c11, .bool s12, .slice A12 n12 c12, .bool s13, .slice A13 n13 c13] 32)) := (Ext.new _ _).alloc _
  have HB := Lib.hid (show Blk ((w1.alloc (.cells #[] 37)).alloc (.cells #[.bool s11, .slice A11 n11 c11, .bool s12, .slice A12 n12 c12, .bool s13, .slice A13 n13 c13] 32)) (w1.heap.size + 1) 32 #[.bool s11, .slice A11 n11 c11, .bool s12, .slice A12 n12 c12, .bool s13, .slice A13 n13 c13] from Blk.new' _ _ (by simp))
  replace HI1 := Lib.hid (HI1.out.ext hx); replace HE := Lib.hid (HE.out.trans hx); clear hx
  go_wp2_with fail
  generalize ((w1.alloc (.cells #[] 37)).alloc (.cells #[.bool s11, .slice A11 n11 c11, .bool s12, .slice A12 n12 c12, .bool s13, .slice A13 n13 c13] 32)) = wa at HB HI1 HE ⊢
  generalize w1.heap.size + 1 = g1 at HB ⊢
  generalize w1.heap.size = gN at *
  refine (solve_none _ _ _ _ _).mono ?_
  rintro e w2 ⟨G2, rfl, hx⟩
  replace HB := Lib.hid (HB.out.ext hx); replace HI1 := Lib.hid (HI1.out.ext hx); replace HE := Lib.hid (HE.out.trans hx); clear hx
  go_wp2_with fail
  refine (det_none _ _ _).mono ?_
  rintro e w3 ⟨v5, rfl, hv5, hx⟩
  obtain ⟨s51, A51, n51, c51, s52, A52, n52, c52, s53, A53, n53, c53, rfl⟩ := hv5.opn
  replace HB := Lib.hid (HB.out.ext hx); replace HI1 := Lib.hid (HI1.out.ext hx); replace HE := Lib.hid (HE.out.trans hx); clear hx
  have k1 := HB.out.cell; have hlt1 := HB.out.lt
  have r1 := row2_at (w := (w3.alloc (.cells #[.bool s51, .slice A51 n51 c51, .bool s52, .slice A52 n52 c52, .bool s53, .slice A53 n53 c53] 32))) (g := w3.heap.size + 1) (HI1.out.ext (Ext.new _ _)) (fun j => if j = 0 then GQ.i 1 0 else GQ.i 1 0) rfl rfl (by simp)
  have r2 := row2_at (w := ((w3.alloc (.cells #[.bool s51, .slice A51 n51 c51, .bool s52, .slice A52 n52 c52, .bool s53, .slice A53 n53 c53] 32)).alloc (.cells #[.bool s11, .slice A11 n11 c11, .bool s12, .slice A12 n12 c12, .bool s13, .slice A13 n13 c13, .bool s11, .slice A11 n11 c11, .bool s12, .slice A12 n12 c12, .bool s13, .slice A13 n13 c13] 32))) (g := w3.heap.size + 2) (HI1.out.ext ((Ext.new _ _).alloc _)) (fun j => if j = 0 then GQ.i 1 0 else GQ.i 1 0) rfl rfl (by simp)
  have HA := Lib.hid (OutE.ext (W' := (((((((w3.alloc (.cells #[.bool s51, .slice A51 n51 c51, .bool s52, .slice A52 n52 c52, .bool s53, .slice A53 n53 c53] 32)).alloc (.cells #[.bool s11, .slice A11 n11 c11, .bool s12, .slice A12 n12 c12, .bool s13, .slice A13 n13 c13, .bool s11, .slice A11 n11 c11, .bool s12, .slice A12 n12 c12, .bool s13, .slice A13 n13 c13] 32)).alloc (.cells #[.bool s11, .slice A11 n11 c11, .bool s12, .slice A12 n12 c12, .bool s13, .slice A13 n13 c13, .bool s11, .slice A11 n11 c11, .bool s12, .slice A12 n12 c12, .bool s13, .slice A13 n13 c13] 32)).alloc (.cells #[.slice (some ⟨w3.heap.size + 1, 0, none⟩) 2 2, .slice (some ⟨w3.heap.size + 2, 0, none⟩) 2 2] 37)).alloc (.cells #[.bool s11, .slice A11 n11 c11, .bool s12, .slice A12 n12 c12, .bool s13, .slice A13 n13 c13] 32)).alloc (.cells #[.bool s11, .slice A11 n11 c11, .bool s12, .slice A12 n12 c12, .bool s13, .slice A13 n13 c13] 32)).alloc (.cells #[.slice (some ⟨w3.heap.size + 4, 0, none⟩) 1 1, .slice (some ⟨w3.heap.size + 5, 0, none⟩) 1 1] 37))) (out2_at (w := (((w3.alloc (.cells #[.bool s51, .slice A51 n51 c51, .bool s52, .slice A52 n52 c52, .bool s53, .slice A53 n53 c53] 32)).alloc (.cells #[.bool s11, .slice A11 n11 c11, .bool s12, .slice A12 n12 c12, .bool s13, .slice A13 n13 c13, .bool s11, .slice A11 n11 c11, .bool s12, .slice A12 n12 c12, .bool s13, .slice A13 n13 c13] 32)).alloc (.cells #[.bool s11, .slice A11 n11 c11, .bool s12, .slice A12 n12 c12, .bool s13, .slice A13 n13 c13, .bool s11, .slice A11 n11 c11, .bool s12, .slice A12 n12 c12, .bool s13, .slice A13 n13 c13] 32))) (g := w3.heap.size + 3) (r1.ext (Ext.new _ _)) r2 oneM rfl rfl (by simp)) (((Ext.new _ _).alloc _).alloc _))
  have r3 := row1_at (w := ((((w3.alloc (.cells #[.bool s51, .slice A51 n51 c51, .bool s52, .slice A52 n52 c52, .bool s53, .slice A53 n53 c53] 32)).alloc (.cells #[.bool s11, .slice A11 n11 c11, .bool s12, .slice A12 n12 c12, .bool s13, .slice A13 n13 c13, .bool s11, .slice A11 n11 c11, .bool s12, .slice A12 n12 c12, .bool s13, .slice A13 n13 c13] 32)).alloc (.cells #[.bool s11, .slice A11 n11 c11, .bool s12, .slice A12 n12 c12, .bool s13, .slice A13 n13 c13, .bool s11, .slice A11 n11 c11, .bool s12, .slice A12 n12 c12, .bool s13, .slice A13 n13 c13] 32)).alloc (.cells #[.slice (some ⟨w3.heap.size + 1, 0, none⟩) 2 2, .slice (some ⟨w3.heap.size + 2, 0, none⟩) 2 2] 37))) (g := w3.heap.size + 4) (HI1.out.ext ((((Ext.new _ _).alloc _).alloc _).alloc _)) (fun j => if j = 0 then GQ.i 1 0 else GQ.i 1 0) rfl (by simp)
  have r4 := row1_at (w := (((((w3.alloc (.cells #[.bool s51, .slice A51 n51 c51, .bool s52, .slice A52 n52 c52, .bool s53, .slice A53 n53 c53] 32)).alloc (.cells #[.bool s11, .slice A11 n11 c11, .bool s12, .slice A12 n12 c12, .bool s13, .slice A13 n13 c13, .bool s11, .slice A11 n11 c11, .bool s12, .slice A12 n12 c12, .bool s13, .slice A13 n13 c13] 32)).alloc (.cells #[.bool s11, .slice A11 n11 c11, .bool s12, .slice A12 n12 c12, .bool s13, .slice A13 n13 c13, .bool s11, .slice A11 n11 c11, .bool s12, .slice A12 n12 c12, .bool s13, .slice A13 n13 c13] 32)).alloc (.cells #[.slice (some ⟨w3.heap.size + 1, 0, none⟩) 2 2, .slice (some ⟨w3.heap.size + 2, 0, none⟩) 2 2] 37)).alloc (.cells #[.bool s11, .slice A11 n11 c11, .bool s12, .slice A12 n12 c12, .bool s13, .slice A13 n13 c13] 32))) (g := w3.heap.size + 5) (HI1.out.ext (((((Ext.new _ _).alloc _).alloc _).alloc _).alloc _)) (fun j => if j = 0 then GQ.i 1 0 else GQ.i 1 0) rfl (by simp)
  have HC := Lib.hid (out2_at (w := ((((((w3.alloc (.cells #[.bool s51, .slice A51 n51 c51, .bool s52, .slice A52 n52 c52, .bool s53, .slice A53 n53 c53] 32)).alloc (.cells #[.bool s11, .slice A11 n11 c11, .bool s12, .slice A12 n12 c12, .bool s13, .slice A13 n13 c13, .bool s11, .slice A11 n11 c11, .bool s12, .slice A12 n12 c12, .bool s13, .slice A13 n13 c13] 32)).alloc (.cells #[.bool s11, .slice A11 n11 c11, .bool s12, .slice A12 n12 c12, .bool s13, .slice A13 n13 c13, .bool s11, .slice A11 n11 c11, .bool s12, .slice A12 n12 c12, .bool s13, .slice A13 n13 c13] 32)).alloc (.cells #[.slice (some ⟨w3.heap.size + 1, 0, none⟩) 2 2, .slice (some ⟨w3.heap.size + 2, 0, none⟩) 2 2] 37)).alloc (.cells #[.bool s11, .slice A11 n11 c11, .bool s12, .slice A12 n12 c12, .bool s13, .slice A13 n13 c13] 32)).alloc (.cells #[.bool s11, .slice A11 n11 c11, .bool s12, .slice A12 n12 c12, .bool s13, .slice A13 n13 c13] 32))) (g := w3.heap.size + 6) (r3.ext (Ext.new _ _)) r4 oneM rfl rfl (by simp))
  have HB5 := Lib.hid (show Blk (((((((w3.alloc (.cells #[.bool s51, .slice A51 n51 c51, .bool s52, .slice A52 n52 c52, .bool s53, .slice A53 n53 c53] 32)).alloc (.cells #[.bool s11, .slice A11 n11 c11, .bool s12, .slice A12 n12 c12, .bool s13, .slice A13 n13 c13, .bool s11, .slice A11 n11 c11, .bool s12, .slice A12 n12 c12, .bool s13, .slice A13 n13 c13] 32)).alloc (.cells #[.bool s11, .slice A11 n11 c11, .bool s12, .slice A12 n12 c12, .bool s13, .slice A13 n13 c13, .bool s11, .slice A11 n11 c11, .bool s12, .slice A12 n12 c12, .bool s13, .slice A13 n13 c13] 32)).alloc (.cells #[.slice (some ⟨w3.heap.size + 1, 0, none⟩) 2 2, .slice (some ⟨w3.heap.size + 2, 0, none⟩) 2 2] 37)).alloc (.cells #[.bool s11, .slice A11 n11 c11, .bool s12, .slice A12 n12 c12, .bool s13, .slice A13 n13 c13] 32)).alloc (.cells #[.bool s11, .slice A11 n11 c11, .bool s12, .slice A12 n12 c12, .bool s13, .slice A13 n13 c13] 32)).alloc (.cells #[.slice (some ⟨w3.heap.size + 4, 0, none⟩) 1 1, .slice (some ⟨w3.heap.size + 5, 0, none⟩) 1 1] 37)) w3.heap.size 32 #[.bool s51, .slice A51 n51 c51, .bool s52, .slice A52 n52 c52, .bool s53, .slice A53 n53 c53] from (Blk.new _ _ _).ext ((((((Ext.new _ _).alloc _).alloc _).alloc _).alloc _).alloc _))
  have HV5 := Lib.hid (hv5.ext (show Ext w3 (((((((w3.alloc (.cells #[.bool s51, .slice A51 n51 c51, .bool s52, .slice A52 n52 c52, .bool s53, .slice A53 n53 c53] 32)).alloc (.cells #[.bool s11, .slice A11 n11 c11, .bool s12, .slice A12 n12 c12, .bool s13, .slice A13 n13 c13, .bool s11, .slice A11 n11 c11, .bool s12, .slice A12 n12 c12, .bool s13, .slice A13 n13 c13] 32)).alloc (.cells #[.bool s11, .slice A11 n11 c11, .bool s12, .slice A12 n12 c12, .bool s13, .slice A13 n13 c13, .bool s11, .slice A11 n11 c11, .bool s12, .slice A12 n12 c12, .bool s13, .slice A13 n13 c13] 32)).alloc (.cells #[.slice (some ⟨w3.heap.size + 1, 0, none⟩) 2 2, .slice (some ⟨w3.heap.size + 2, 0, none⟩) 2 2] 37)).alloc (.cells #[.bool s11, .slice A11 n11 c11, .bool s12, .slice A12 n12 c12, .bool s13, .slice A13 n13 c13] 32)).alloc (.cells #[.bool s11, .slice A11 n11 c11, .bool s12, .slice A12 n12 c12, .bool s13, .slice A13 n13 c13] 32)).alloc (.cells #[.slice (some ⟨w3.heap.size + 4, 0, none⟩) 1 1, .slice (some ⟨w3.heap.size + 5, 0, none⟩) 1 1] 37)) from (((((((Ext.new _ _).alloc _).alloc _).alloc _).alloc _).alloc _).alloc _)))
  have hx : Ext w3 (((((((w3.alloc (.cells #[.bool s51, .slice A51 n51 c51, .bool s52, .slice A52 n52 c52, .bool s53, .slice A53 n53 c53] 32)).alloc (.cells #[.bool s11, .slice A11 n11 c11, .bool s12, .slice A12 n12 c12, .bool s13, .slice A13 n13 c13, .bool s11, .slice A11 n11 c11, .bool s12, .slice A12 n12 c12, .bool s13, .slice A13 n13 c13] 32)).alloc (.cells #[.bool s11, .slice A11 n11 c11, .bool s12, .slice A12 n12 c12, .bool s13, .slice A13 n13 c13, .bool s11, .slice A11 n11 c11, .bool s12, .slice A12 n12 c12, .bool s13, .slice A13 n13 c13] 32)).alloc (.cells #[.slice (some ⟨w3.heap.size + 1, 0, none⟩) 2 2, .slice (some ⟨w3.heap.size + 2, 0, none⟩) 2 2] 37)).alloc (.cells #[.bool s11, .slice A11 n11 c11, .bool s12, .slice A12 n12 c12, .bool s13, .slice A13 n13 c13] 32)).alloc (.cells #[.bool s11, .slice A11 n11 c11, .bool s12, .slice A12 n12 c12, .bool s13, .slice A13 n13 c13] 32)).alloc (.cells #[.slice (some ⟨w3.heap.size + 4, 0, none⟩) 1 1, .slice (some ⟨w3.heap.size + 5, 0, none⟩) 1 1] 37)) := (((((((Ext.new _ _).alloc _).alloc _).alloc _).alloc _).alloc _).alloc _)
  have k4 := ((HB.out.ext ((((Ext.new _ _).alloc _).alloc _).alloc _) : Blk ((((w3.alloc (.cells #[.bool s51, .slice A51 n51 c51, .bool s52, .slice A52 n52 c52, .bool s53, .slice A53 n53 c53] 32)).alloc (.cells #[.bool s11, .slice A11 n11 c11, .bool s12, .slice A12 n12 c12, .bool s13, .slice A13 n13 c13, .bool s11, .slice A11 n11 c11, .bool s12, .slice A12 n12 c12, .bool s13, .slice A13 n13 c13] 32)).alloc (.cells #[.bool s11, .slice A11 n11 c11, .bool s12, .slice A12 n12 c12, .bool s13, .slice A13 n13 c13, .bool s11, .slice A11 n11 c11, .bool s12, .slice A12 n12 c12, .bool s13, .slice A13 n13 c13] 32)).alloc (.cells #[.slice (some ⟨w3.heap.size + 1, 0, none⟩) 2 2, .slice (some ⟨w3.heap.size + 2, 0, none⟩) 2 2] 37)) _ _ _)).cell; have k5 := ((HB.out.ext (((((Ext.new _ _).alloc _).alloc _).alloc _).alloc _) : Blk (((((w3.alloc (.cells #[.bool s51, .slice A51 n51 c51, .bool s52, .slice A52 n52 c52, .bool s53, .slice A53 n53 c53] 32)).alloc (.cells #[.bool s11, .slice A11 n11 c11, .bool s12, .slice A12 n12 c12, .bool s13, .slice A13 n13 c13, .bool s11, .slice A11 n11 c11, .bool s12, .slice A12 n12 c12, .bool s13, .slice A13 n13 c13] 32)).alloc (.cells #[.bool s11, .slice A11 n11 c11, .bool s12, .slice A12 n12 c12, .bool s13, .slice A13 n13 c13, .bool s11, .slice A11 n11 c11, .bool s12, .slice A12 n12 c12, .bool s13, .slice A13 n13 c13] 32)).alloc (.cells #[.slice (some ⟨w3.heap.size + 1, 0, none⟩) 2 2, .slice (some ⟨w3.heap.size + 2, 0, none⟩) 2 2] 37)).alloc (.cells #[.bool s11, .slice A11 n11 c11, .bool s12, .slice A12 n12 c12, .bool s13, .slice A13 n13 c13] 32)) _ _ _)).cell; have k3 := ((HB.out.ext ((Ext.new _ _).alloc _) : Blk ((w3.alloc (.cells #[.bool s51, .slice A51 n51 c51, .bool s52, .slice A52 n52 c52, .bool s53, .slice A53 n53 c53] 32)).alloc (.cells #[.bool s11, .slice A11 n11 c11, .bool s12, .slice A12 n12 c12, .bool s13, .slice A13 n13 c13, .bool s11, .slice A11 n11 c11, .bool s12, .slice A12 n12 c12, .bool s13, .slice A13 n13 c13] 32)) _ _ _)).cell
  replace HB := Lib.hid (HB.out.ext hx); replace HI1 := Lib.hid (HI1.out.ext hx); replace HE := Lib.hid (HE.out.trans hx)
  clear hx hv5 r1 r2 r3 r4
  go_wp2_with fail
  clear k1 hlt1 k3 k4 k5
  generalize (((((((w3.alloc (.cells #[.bool s51, .slice A51 n51 c51, .bool s52, .slice A52 n52 c52, .bool s53, .slice A53 n53 c53] 32)).alloc (.cells #[.bool s11, .slice A11 n11 c11, .bool s12, .slice A12 n12 c12, .bool s13, .slice A13 n13 c13, .bool s11, .slice A11 n11 c11, .bool s12, .slice A12 n12 c12, .bool s13, .slice A13 n13 c13] 32)).alloc (.cells #[.bool s11, .slice A11 n11 c11, .bool s12, .slice A12 n12 c12, .bool s13, .slice A13 n13 c13, .bool s11, .slice A11 n11 c11, .bool s12, .slice A12 n12 c12, .bool s13, .slice A13 n13 c13] 32)).alloc (.cells #[.slice (some ⟨w3.heap.size + 1, 0, none⟩) 2 2, .slice (some ⟨w3.heap.size + 2, 0, none⟩) 2 2] 37)).alloc (.cells #[.bool s11, .slice A11 n11 c11, .bool s12, .slice A12 n12 c12, .bool s13, .slice A13 n13 c13] 32)).alloc (.cells #[.bool s11, .slice A11 n11 c11, .bool s12, .slice A12 n12 c12, .bool s13, .slice A13 n13 c13] 32)).alloc (.cells #[.slice (some ⟨w3.heap.size + 4, 0, none⟩) 1 1, .slice (some ⟨w3.heap.size + 5, 0, none⟩) 1 1] 37)) = w4 at HB HI1 HE HA HC HB5 HV5 ⊢
  refine (solve_sing _ _ _ HA.out HC.out).mono ?_
  rintro e w5 ⟨rfl, hx⟩
  clear HA HC
  replace HB := Lib.hid (HB.out.ext hx); replace HI1 := Lib.hid (HI1.out.ext hx); replace HB5 := Lib.hid (HB5.out.ext hx); replace HV5 := Lib.hid (HV5.out.ext hx); replace HE := Lib.hid (HE.out.trans hx); clear hx
  have k1 := HB.out.cell; have hlt1 := HB.out.lt
  have HA := Lib.hid (out1_at (w := (w5.alloc (.cells #[.bool s11, .slice A11 n11 c11, .bool s12, .slice A12 n12 c12, .bool s13, .slice A13 n13 c13] 32))) (g := w5.heap.size + 1) (row1_at (w := w5) (g := w5.heap.size) HI1.out (fun j => if j = 0 then GQ.i 1 0 else GQ.i 1 0) rfl rfl) oneM rfl (by simp))
  have hx : Ext w5 ((w5.alloc (.cells #[.bool s11, .slice A11 n11 c11, .bool s12, .slice A12 n12 c12, .bool s13, .slice A13 n13 c13] 32)).alloc (.cells #[.slice (some ⟨w5.heap.size, 0, none⟩) 1 1] 37)) := ((Ext.new _ _).alloc _)
  replace HB := Lib.hid (HB.out.ext hx); replace HI1 := Lib.hid (HI1.out.ext hx); replace HB5 := Lib.hid (HB5.out.ext hx); replace HV5 := Lib.hid (HV5.out.ext hx); replace HE := Lib.hid (HE.out.trans hx); clear hx
  go_wp2_with fail
  clear k1 hlt1
  generalize ((w5.alloc (.cells #[.bool s11, .slice A11 n11 c11, .bool s12, .slice A12 n12 c12, .bool s13, .slice A13 n13 c13] 32)).alloc (.cells #[.slice (some ⟨w5.heap.size, 0, none⟩) 1 1] 37)) = w6 at HB HI1 HE HA HB5 HV5 ⊢
  refine (solve_c1 HA.out).mono ?_
  rintro e w7 ⟨rfl, hx⟩
  clear HA
  replace HB := Lib.hid (HB.out.ext hx); replace HI1 := Lib.hid (HI1.out.ext hx); replace HB5 := Lib.hid (HB5.out.ext hx); replace HV5 := Lib.hid (HV5.out.ext hx); replace HE := Lib.hid (HE.out.trans hx); clear hx
  have k1 := HB.out.cell; have hlt1 := HB.out.lt
  have HR0 := Lib.hid ((row1_at (w := w7) (g := w7.heap.size) HI1.out (fun j => if j = 0 then GQ.i 1 0 else GQ.i 1 0) rfl rfl).ext (w' := (((w7.alloc (.cells #[.bool s11, .slice A11 n11 c11, .bool s12, .slice A12 n12 c12, .bool s13, .slice A13 n13 c13] 32)).alloc (.cells #[.bool s11, .slice A11 n11 c11, .bool s12, .slice A12 n12 c12, .bool s13, .slice A13 n13 c13, .bool s11, .slice A11 n11 c11, .bool s12, .slice A12 n12 c12, .bool s13, .slice A13 n13 c13] 32)).alloc (.cells #[.slice (some ⟨w7.heap.size, 0, none⟩) 1 1, .slice (some ⟨w7.heap.size + 1, 0, none⟩) 2 2] 37))) ((Ext.new _ _).alloc _))
  have HR1 := Lib.hid ((row2_at (w := (w7.alloc (.cells #[.bool s11, .slice A11 n11 c11, .bool s12, .slice A12 n12 c12, .bool s13, .slice A13 n13 c13] 32))) (g := w7.heap.size + 1) (HI1.out.ext (Ext.new _ _)) (fun j => if j = 0 then GQ.i 1 0 else GQ.i 1 0) rfl rfl (by simp)).ext (w' := (((w7.alloc (.cells #[.bool s11, .slice A11 n11 c11, .bool s12, .slice A12 n12 c12, .bool s13, .slice A13 n13 c13] 32)).alloc (.cells #[.bool s11, .slice A11 n11 c11, .bool s12, .slice A12 n12 c12, .bool s13, .slice A13 n13 c13, .bool s11, .slice A11 n11 c11, .bool s12, .slice A12 n12 c12, .bool s13, .slice A13 n13 c13] 32)).alloc (.cells #[.slice (some ⟨w7.heap.size, 0, none⟩) 1 1, .slice (some ⟨w7.heap.size + 1, 0, none⟩) 2 2] 37))) (Ext.new _ _))
  have HA := Lib.hid (show Blk (((w7.alloc (.cells #[.bool s11, .slice A11 n11 c11, .bool s12, .slice A12 n12 c12, .bool s13, .slice A13 n13 c13] 32)).alloc (.cells #[.bool s11, .slice A11 n11 c11, .bool s12, .slice A12 n12 c12, .bool s13, .slice A13 n13 c13, .bool s11, .slice A11 n11 c11, .bool s12, .slice A12 n12 c12, .bool s13, .slice A13 n13 c13] 32)).alloc (.cells #[.slice (some ⟨w7.heap.size, 0, none⟩) 1 1, .slice (some ⟨w7.heap.size + 1, 0, none⟩) 2 2] 37)) (w7.heap.size + 2) 37 #[.slice (some ⟨w7.heap.size, 0, none⟩) 1 1, .slice (some ⟨w7.heap.size + 1, 0, none⟩) 2 2] from Blk.new' _ _ (by simp))
  have hx : Ext w7 (((w7.alloc (.cells #[.bool s11, .slice A11 n11 c11, .bool s12, .slice A12 n12 c12, .bool s13, .slice A13 n13 c13] 32)).alloc (.cells #[.bool s11, .slice A11 n11 c11, .bool s12, .slice A12 n12 c12, .bool s13, .slice A13 n13 c13, .bool s11, .slice A11 n11 c11, .bool s12, .slice A12 n12 c12, .bool s13, .slice A13 n13 c13] 32)).alloc (.cells #[.slice (some ⟨w7.heap.size, 0, none⟩) 1 1, .slice (some ⟨w7.heap.size + 1, 0, none⟩) 2 2] 37)) := (((Ext.new _ _).alloc _).alloc _)
  replace HB := Lib.hid (HB.out.ext hx); replace HI1 := Lib.hid (HI1.out.ext hx); replace HB5 := Lib.hid (HB5.out.ext hx); replace HV5 := Lib.hid (HV5.out.ext hx); replace HE := Lib.hid (HE.out.trans hx); clear hx
  go_wp2_with fail
  clear k1 hlt1
  generalize (((w7.alloc (.cells #[.bool s11, .slice A11 n11 c11, .bool s12, .slice A12 n12 c12, .bool s13, .slice A13 n13 c13] 32)).alloc (.cells #[.bool s11, .slice A11 n11 c11, .bool s12, .slice A12 n12 c12, .bool s13, .slice A13 n13 c13, .bool s11, .slice A11 n11 c11, .bool s12, .slice A12 n12 c12, .bool s13, .slice A13 n13 c13] 32)).alloc (.cells #[.slice (some ⟨w7.heap.size, 0, none⟩) 1 1, .slice (some ⟨w7.heap.size + 1, 0, none⟩) 2 2] 37)) = w8 at HB HI1 HE HA HR0 HR1 HB5 HV5 ⊢
  refine (product_rag HA.out HR0.out HR1.out).mono ?_
  rintro e w9 ⟨rfl, hx⟩
  clear HA HR0 HR1
  replace HB := Lib.hid (HB.out.ext hx); replace HI1 := Lib.hid (HI1.out.ext hx); replace HB5 := Lib.hid (HB5.out.ext hx); replace HV5 := Lib.hid (HV5.out.ext hx); replace HE := Lib.hid (HE.out.trans hx); clear hx
  go_wp2_with fail
  have Y1 := ExtOf.blk HB.out
  refine wp_region_tame 15 (hasF [(2, .any), (5, .any), (7, .any), (8, .any), (9, .any), (10, .any)]) ePhi ePhi_stab (by kernel_rfl) (by kernel_rfl) ?_
  simp only [tk1, tk0, dp1, dp0]
  refine wpT_quiet 2 (by rfl) (by kernel_rfl) ?_
  simp only [tk1, tk0, dp1, dp0]
  repeat (go_big_quiet_step (fail))
  refine wpQuiet_nil ?_
  refine wpT_eff (by rfl) (by rfl) (by rfl) ?_ ?_
  · intro W_ hK
    have hW := hK.1
    clear hK
    go_simp
    exact ⟨Ext.new _ _, W_.heap.size, rfl, row2_new (HI1.out.ext hW) (HI1.out.ext hW) _ rfl rfl⟩
  intro v_ loga higa hr_
  obtain ⟨W_, hW_⟩ := hr_
  obtain ⟨ga, rfl, -⟩ : kRow2 (GQ.i 1 0) (GQ.i 1 0) v_ W_ := hW_.get
  clear hW_ W_
  try simp only [Act.put, sa0, sa1, sa2]
  refine wpT_quiet 2 (by rfl) (by kernel_rfl) ?_
  simp only [tk1, tk0, dp1, dp0]
  repeat (go_big_quiet_step (fail))
  refine wpQuiet_nil ?_
  refine wpT_eff (by rfl) (by rfl) (by rfl) ?_ ?_
  · intro W_ hK
    have hW := hK.1
    clear hK
    go_simp
    exact ⟨Ext.new _ _, W_.heap.size, rfl, row2_new (HI1.out.ext hW) (HI1.out.ext hW) _ rfl rfl⟩
  intro v_ logb higb hr_
  obtain ⟨W_, hW_⟩ := hr_
  obtain ⟨gb, rfl, -⟩ : kRow2 (GQ.i 1 0) (GQ.i 1 0) v_ W_ := hW_.get
  clear hW_ W_
  try simp only [Act.put, sa0, sa1, sa2]
  refine wpT_quiet 1 (by rfl) (by kernel_rfl) ?_
  simp only [tk1, tk0, dp1, dp0]
  repeat (go_big_quiet_step (fail))
  refine wpQuiet_nil ?_
  refine wpT_eff (by rfl) (by rfl) (by rfl) ?_ ?_
  · intro W_ hK
    have hW := hK.1
    clear hK
    go_simp
    exact ⟨rfl, (qI_ok (0) (1) _ (by omega) (by omega) (by omega) (by omega)).mono fun e w' ⟨si1, Ai1, ni1, ci1, si2, Ai2, ni2, ci2, si3, Ai3, ni3, ci3, he, hg, hx⟩ => ⟨_, he, hx, si1, Ai1, ni1, ci1, si2, Ai2, ni2, ci2, si3, Ai3, ni3, ci3, rfl, hg⟩⟩
  intro v_ loi hii hr_
  obtain ⟨W_, hW_⟩ := hr_
  obtain ⟨si1, Ai1, ni1, ci1, si2, Ai2, ni2, ci2, si3, Ai3, ni3, ci3, rfl, -⟩ : kGV (GQ.i (0) (1)) v_ W_ := hW_.get
  clear hW_ W_
  try simp only [Act.put, sa0, sa1, sa2]
  refine wpT_eff (by rfl) (by rfl) (by rfl) ?_ ?_
  · intro W_ hK
    have hW := hK.1
    have hF : kGV (GQ.i (0) (1)) (gv si1 Ai1 ni1 ci1 si2 Ai2 ni2 ci2 si3 Ai3 ni3 ci3) W_ := hK.2 7 ((gv si1 Ai1 ni1 ci1 si2 Ai2 ni2 ci2 si3 Ai3 ni3 ci3), loi, hii) (by rfl) (anc_of (by kernel_rfl))
    clear hK
    go_simp
    exact ⟨Ext.new _ _, W_.heap.size, rfl, row2_new (HI1.out.ext hW) (kGV_at hF) _ rfl rfl⟩
  intro v_ logc higc hr_
  obtain ⟨W_, hW_⟩ := hr_
  obtain ⟨gc, rfl, -⟩ : kRow2 (GQ.i 1 0) (GQ.i 0 1) v_ W_ := hW_.get
  clear hW_ W_
  try simp only [Act.put, sa0, sa1, sa2]
  refine wpT_eff (by rfl) (by rfl) (by rfl) ?_ ?_
  · intro W_ hK
    have hF1 : kRow2 (GQ.i 1 0) (GQ.i 1 0) (.slice (some ⟨ga, 0, none⟩) 2 2) W_ := hK.2 2 (.slice (some ⟨ga, 0, none⟩) 2 2, loga, higa) (by rfl) (anc_of (by kernel_rfl))
    have hF2 : kRow2 (GQ.i 1 0) (GQ.i 1 0) (.slice (some ⟨gb, 0, none⟩) 2 2) W_ := hK.2 5 (.slice (some ⟨gb, 0, none⟩) 2 2, logb, higb) (by rfl) (anc_of (by kernel_rfl))
    have hF3 : kRow2 (GQ.i 1 0) (GQ.i 0 1) (.slice (some ⟨gc, 0, none⟩) 2 2) W_ := hK.2 8 (.slice (some ⟨gc, 0, none⟩) 2 2, logc, higc) (by rfl) (anc_of (by kernel_rfl))
    clear hK
    go_simp
    exact ⟨Ext.new _ _, W_.heap.size, rfl, out3_new ((kRow2_at hF1).congr three0) ((kRow2_at hF2).congr three0) (kRow2_at hF3) threeM rfl rfl rfl⟩
  intro v_ loG hiG hr_
  obtain ⟨W_, hW_⟩ := hr_
  obtain ⟨GC, rfl, -⟩ : kOut3 v_ W_ := hW_.get
  clear hW_ W_
  try simp only [Act.put, sa0, sa1, sa2]
  refine wpT_eff (by rfl) (by rfl) (by rfl) ?_ ?_
  · intro W_ hK
    have hF : kOut3 (.slice (some ⟨GC, 0, none⟩) 3 3) W_ := hK.2 9 (.slice (some ⟨GC, 0, none⟩) 3 3, loG, hiG) (by rfl) (anc_of (by kernel_rfl))
    clear hK
    go_simp
    exact ⟨rfl, (rank_three GC W_ (kOut3_at hF)).mono fun e w' ⟨he, hx⟩ => ⟨_, he, hx, rfl⟩⟩
  intro v_ lo_ hi_ hr_
  obtain ⟨W_, hW_⟩ := hr_
  obtain rfl : v_ = .tuple #[.int .i64 2, .int .i64 0] := hW_.get
  clear hW_ W_
  try simp only [Act.put, sa0, sa1, sa2]
  refine wpT_quiet 4 (by rfl) (by kernel_rfl) ?_
  simp only [tk1, tk0, dp1, dp0]
  repeat (go_big_quiet_step (fail))
  refine wpQuiet_nil ?_
  refine wpT_nil ?_
  intro wz hK
  have hx := hK.ext
  clear hK Y1
  replace HB := Lib.hid (HB.out.ext hx); replace HI1 := Lib.hid (HI1.out.ext hx); replace HB5 := Lib.hid (HB5.out.ext hx); replace HV5 := Lib.hid (HV5.out.ext hx); replace HE := Lib.hid (HE.out.trans hx); clear hx
  generalize w3.heap.size = g5 at HB5 ⊢
  have k1 := HB.out.cell; have hlt1 := HB.out.lt
  have HA := Lib.hid (out1_at (w := (wz.alloc (.cells #[.bool s11, .slice A11 n11 c11, .bool s12, .slice A12 n12 c12, .bool s13, .slice A13 n13 c13, .bool s11, .slice A11 n11 c11, .bool s12, .slice A12 n12 c12, .bool s13, .slice A13 n13 c13] 32))) (g := wz.heap.size + 1) (row2_at (w := wz) (g := wz.heap.size) HI1.out (fun j => if j = 0 then GQ.i 1 0 else GQ.i 1 0) rfl rfl rfl) (fun _ => (fun j => if j = 0 then GQ.i 1 0 else GQ.i 1 0)) rfl (by simp))
  have hx : Ext wz ((wz.alloc (.cells #[.bool s11, .slice A11 n11 c11, .bool s12, .slice A12 n12 c12, .bool s13, .slice A13 n13 c13, .bool s11, .slice A11 n11 c11, .bool s12, .slice A12 n12 c12, .bool s13, .slice A13 n13 c13] 32)).alloc (.cells #[.slice (some ⟨wz.heap.size, 0, none⟩) 2 2] 37)) := ((Ext.new _ _).alloc _)
  replace HB := Lib.hid (HB.out.ext hx); replace HI1 := Lib.hid (HI1.out.ext hx); replace HB5 := Lib.hid (HB5.out.ext hx); replace HV5 := Lib.hid (HV5.out.ext hx); replace HE := Lib.hid (HE.out.trans hx); clear hx
  go_wp2_with fail
  clear k1 hlt1
  generalize ((wz.alloc (.cells #[.bool s11, .slice A11 n11 c11, .bool s12, .slice A12 n12 c12, .bool s13, .slice A13 n13 c13, .bool s11, .slice A11 n11 c11, .bool s12, .slice A12 n12 c12, .bool s13, .slice A13 n13 c13] 32)).alloc (.cells #[.slice (some ⟨wz.heap.size, 0, none⟩) 2 2] 37)) = w10 at HB HI1 HE HA HB5 HV5 ⊢
  refine (det_c1 HA.out).mono ?_
  rintro e w11 ⟨rfl, hx⟩
  clear HA
  replace HB := Lib.hid (HB.out.ext hx); replace HI1 := Lib.hid (HI1.out.ext hx); replace HB5 := Lib.hid (HB5.out.ext hx); replace HV5 := Lib.hid (HV5.out.ext hx); replace HE := Lib.hid (HE.out.trans hx); clear hx
  have HA := Lib.hid (show Blk ((((w11.alloc (.cells #[.bool false, .slice none 0 0, .bool false, .slice none 0 0, .bool false, .slice none 0 0] 32)).alloc (.cells #[] 32)).alloc (.cells #[] 32)).alloc (.cells #[.slice (some ⟨w11.heap.size + 1, 0, none⟩) 0 0, .slice (some ⟨w11.heap.size + 2, 0, none⟩) 0 0] 37)) (w11.heap.size + 3) 37 #[.slice (some ⟨w11.heap.size + 1, 0, none⟩) 0 0, .slice (some ⟨w11.heap.size + 2, 0, none⟩) 0 0] from Blk.new' _ _ (by simp))
  have hx : Ext w11 ((((w11.alloc (.cells #[.bool false, .slice none 0 0, .bool false, .slice none 0 0, .bool false, .slice none 0 0] 32)).alloc (.cells #[] 32)).alloc (.cells #[] 32)).alloc (.cells #[.slice (some ⟨w11.heap.size + 1, 0, none⟩) 0 0, .slice (some ⟨w11.heap.size + 2, 0, none⟩) 0 0] 37)) := ((((Ext.new _ _).alloc _).alloc _).alloc _)
  replace HB := Lib.hid (HB.out.ext hx); replace HI1 := Lib.hid (HI1.out.ext hx); replace HB5 := Lib.hid (HB5.out.ext hx); replace HV5 := Lib.hid (HV5.out.ext hx); replace HE := Lib.hid (HE.out.trans hx); clear hx
  go_wp2_with fail
  generalize ((((w11.alloc (.cells #[.bool false, .slice none 0 0, .bool false, .slice none 0 0, .bool false, .slice none 0 0] 32)).alloc (.cells #[] 32)).alloc (.cells #[] 32)).alloc (.cells #[.slice (some ⟨w11.heap.size + 1, 0, none⟩) 0 0, .slice (some ⟨w11.heap.size + 2, 0, none⟩) 0 0] 37)) = w12 at HB HI1 HE HA HB5 HV5 ⊢
  refine (product_e HA.out).mono ?_
  rintro e w13 ⟨⟨G9, g9, rfl, hc⟩, hx⟩
  clear HA
  have HC := Lib.hid hc; clear hc
  replace HB := Lib.hid (HB.out.ext hx); replace HI1 := Lib.hid (HI1.out.ext hx); replace HB5 := Lib.hid (HB5.out.ext hx); replace HV5 := Lib.hid (HV5.out.ext hx); replace HE := Lib.hid (HE.out.trans hx); clear hx
  have HA := Lib.hid (show Blk ((w13.alloc (.cells #[.bool false, .slice none 0 0, .bool false, .slice none 0 0, .bool false, .slice none 0 0] 32)).alloc (.cells #[.slice (some ⟨w13.heap.size, 0, none⟩) 1 1] 37)) (w13.heap.size + 1) 37 #[.slice (some ⟨w13.heap.size, 0, none⟩) 1 1] from Blk.new' _ _ (by simp))
  have HZ := Lib.hid ((show Blk (w13.alloc (.cells #[.bool false, .slice none 0 0, .bool false, .slice none 0 0, .bool false, .slice none 0 0] 32)) (w13.heap.size) 32 #[.bool false, .slice none 0 0, .bool false, .slice none 0 0, .bool false, .slice none 0 0] from Blk.new _ _ _).ext (w' := ((w13.alloc (.cells #[.bool false, .slice none 0 0, .bool false, .slice none 0 0, .bool false, .slice none 0 0] 32)).alloc (.cells #[.slice (some ⟨w13.heap.size, 0, none⟩) 1 1] 37))) (Ext.new _ _))
  have hx : Ext w13 ((w13.alloc (.cells #[.bool false, .slice none 0 0, .bool false, .slice none 0 0, .bool false, .slice none 0 0] 32)).alloc (.cells #[.slice (some ⟨w13.heap.size, 0, none⟩) 1 1] 37)) := ((Ext.new _ _).alloc _)
  replace HC := Lib.hid (hx.cell_ HC.out)
  replace HB := Lib.hid (HB.out.ext hx); replace HI1 := Lib.hid (HI1.out.ext hx); replace HB5 := Lib.hid (HB5.out.ext hx); replace HV5 := Lib.hid (HV5.out.ext hx); replace HE := Lib.hid (HE.out.trans hx); clear hx
  go_wp2_with fail
  generalize ((w13.alloc (.cells #[.bool false, .slice none 0 0, .bool false, .slice none 0 0, .bool false, .slice none 0 0] 32)).alloc (.cells #[.slice (some ⟨w13.heap.size, 0, none⟩) 1 1] 37)) = w14 at HB HI1 HE HA HZ HC HB5 HV5 ⊢
  refine (rank_z HA.out HZ.out).mono ?_
  rintro e w15 ⟨rfl, hx⟩
  clear HA HZ
  replace HC := Lib.hid (hx.cell_ HC.out)
  replace HB := Lib.hid (HB.out.ext hx); replace HI1 := Lib.hid (HI1.out.ext hx); replace HB5 := Lib.hid (HB5.out.ext hx); replace HV5 := Lib.hid (HV5.out.ext hx); replace HE := Lib.hid (HE.out.trans hx); clear hx
  go_wp2_with fail
  refine (llknown_ok _).mono ?_
  rintro e w16 ⟨rfl, hx⟩
  replace HC := Lib.hid (hx.cell_ HC.out)
  replace HB := Lib.hid (HB.out.ext hx); replace HI1 := Lib.hid (HI1.out.ext hx); replace HB5 := Lib.hid (HB5.out.ext hx); replace HV5 := Lib.hid (HV5.out.ext hx); replace HE := Lib.hid (HE.out.trans hx); clear hx
  have k1 := HB.out.cell; have k5 := HB5.out.cell; have k9 := HC.out
  go_wp2_with fail
  refine (qSame_q _ _ (GQ.i 1 0) (GQ.i 1 0) 12800 64 w16 HV5.out HI1.out rfl).mono ?_
  rintro e w17 ⟨rfl, hx⟩
  clear k1 k5 k9
  have k9 := hx.cell_ HC.out
  replace HE := Lib.hid (HE.out.trans hx); clear hx
  go_wp2_with fail
  go_ret
  exact ⟨rfl, HE.out⟩
end Go.Proofs.YtclkkoiaaddllaaGreat
