/- Linear: the sanity check of its laws. -/
import Derived.Test.YtclkkoiaaddllaaGreatQYskjdd
import Derived.Test.YtclkkoiaaddllaaGreatQAnkmcd

namespace Go.Proofs.YtclkkoiaaddllaaGreat
open Go.RowKit
set_option linter.unusedVariables false

theorem qI_ok (a b : Int) (w : World) (l0 : -9223372036854775808 ≤ a) (u0 : a ≤ 9223372036854775807) (l1 : -9223372036854775808 ≤ b) (u1 : b ≤ 9223372036854775807) : Calls Tryz.prog 19 #[.int .i64 a, .int .i64 b] w fun e w' => ∃ s1 A1 n1 c1 s2 A2 n2 c2 s3 A3 n3 c3, e = .returned (gv s1 A1 n1 c1 s2 A2 n2 c2 s3 A3 n3 c3) ∧ GV w' (gv s1 A1 n1 c1 s2 A2 n2 c2 s3 A3 n3 c3) (GQ.i a b) 64 ∧ Ext w w' := by
  refine (qInt_ok a b w l0 u0 l1 u1).mono ?_
  rintro e w' ⟨v, rfl, hv, hx⟩
  have hg : GV w' v (GQ.i a b) 64 := ⟨a, b, 1, hv, is_i a b, by show a.natAbs < 2 ^ 64; omega, by show b.natAbs < 2 ^ 64; omega, by decide⟩
  obtain ⟨s1, A1, n1, c1, s2, A2, n2, c2, s3, A3, n3, c3, rfl⟩ := hg.opn
  exact ⟨_, _, _, _, _, _, _, _, _, _, _, _, rfl, hg, hx⟩
theorem row2_new {w : World} {s11 s12 s13 s21 s22 s23 : Bool} {A11 A12 A13 A21 A22 A23 : Option Addr} {n11 c11 n12 c12 n13 c13 n21 c21 n22 c22 n23 c23 : Nat} {q1 q2 : GQ} (h1 : GV w (gv s11 A11 n11 c11 s12 A12 n12 c12 s13 A13 n13 c13) q1 64) (h2 : GV w (gv s21 A21 n21 c21 s22 A22 n22 c22 s23 A23 n23 c23) q2 64) (x : Nat → GQ) (e0 : x 0 = q1) (e1 : x 1 = q2) :
    RowIs (w.alloc (.cells #[.bool s11, .slice A11 n11 c11, .bool s12, .slice A12 n12 c12, .bool s13, .slice A13 n13 c13, .bool s21, .slice A21 n21 c21, .bool s22, .slice A22 n22 c22, .bool s23, .slice A23 n23 c23] 32)) w.heap.size 2 x := by
  have hx := Ext.new w (.cells #[.bool s11, .slice A11 n11 c11, .bool s12, .slice A12 n12 c12, .bool s13, .slice A13 n13 c13, .bool s21, .slice A21 n21 c21, .bool s22, .slice A22 n22 c22, .bool s23, .slice A23 n23 c23] 32)
  refine ⟨fun j => if j = 0 then ⟨s11, A11, n11, c11, s12, A12, n12, c12, s13, A13, n13, c13⟩ else ⟨s21, A21, n21, c21, s22, A22, n22, c22, s23, A23, n23, c23⟩, Blk.new _ _ _, fun j hj => ?_⟩
  match j, hj with
  | 0, _ => rw [e0]; exact (h1.ext hx).up (by omega)
  | 1, _ => rw [e1]; exact (h2.ext hx).up (by omega)
theorem row1_new {w : World} {s11 s12 s13 : Bool} {A11 A12 A13 : Option Addr} {n11 c11 n12 c12 n13 c13 : Nat} {q1 : GQ} (h1 : GV w (gv s11 A11 n11 c11 s12 A12 n12 c12 s13 A13 n13 c13) q1 64) (x : Nat → GQ) (e0 : x 0 = q1) :
    RowIs (w.alloc (.cells #[.bool s11, .slice A11 n11 c11, .bool s12, .slice A12 n12 c12, .bool s13, .slice A13 n13 c13] 32)) w.heap.size 1 x := by
  have hx := Ext.new w (.cells #[.bool s11, .slice A11 n11 c11, .bool s12, .slice A12 n12 c12, .bool s13, .slice A13 n13 c13] 32)
  refine ⟨fun j => ⟨s11, A11, n11, c11, s12, A12, n12, c12, s13, A13, n13, c13⟩, Blk.new _ _ _, fun j hj => ?_⟩
  obtain rfl : j = 0 := by omega
  rw [e0]; exact (h1.ext hx).up (by omega)
theorem out2_new {w : World} {g0 g1 n : Nat} {x0 x1 : Nat → GQ} (h0 : RowIs w g0 n x0) (h1 : RowIs w g1 n x1) (X : Nat → Nat → GQ) (e0 : X 0 = x0) (e1 : X 1 = x1) :
    ∃ RX, Out (w.alloc (.cells #[.slice (some ⟨g0, 0, none⟩) n n, .slice (some ⟨g1, 0, none⟩) n n] 37)) w.heap.size 2 n RX X := by
  have hx := Ext.new w (.cells #[.slice (some ⟨g0, 0, none⟩) n n, .slice (some ⟨g1, 0, none⟩) n n] 37)
  refine ⟨fun i => if i = 0 then ⟨some ⟨g0, 0, none⟩, g0, 0, n, n⟩ else ⟨some ⟨g1, 0, none⟩, g1, 0, n, n⟩, Blk.new _ _ _, fun i hi => ?_⟩
  match i, hi with
  | 0, _ => exact ⟨rfl, rfl, rfl, by rw [e0]; exact h0.ext hx⟩
  | 1, _ => exact ⟨rfl, rfl, rfl, by rw [e1]; exact h1.ext hx⟩
theorem OutE.ext {W W' : World} {G m n : Nat} {X : Nat → Nat → GQ} (h : ∃ RX, Out W G m n RX X) (x : Ext W W') : ∃ RX, Out W' G m n RX X := h.elim fun RX h => ⟨RX, h.ext x⟩
set_option maxRecDepth 100000 in
theorem solve_known (Ga Gb : Nat) (w : World) (ha : ∃ RX, Out w Ga 2 2 RX kA) (hb : ∃ RX, Out w Gb 2 1 RX kB) :
    Calls Tryz.prog 20 #[.slice (some ⟨Ga, 0, none⟩) 2 2, .slice (some ⟨Gb, 0, none⟩) 2 2] w fun e w' => ∃ G, e = .returned (.tuple #[.slice (some ⟨G, 0, none⟩) 2 2, .int .i64 0]) ∧ (∃ RX, Out w' G 2 1 RX (bsol (ech 2 (side 2 kA kB) 2).X 2 2)) ∧ Ext w w' := by
  obtain ⟨RA, ha⟩ := ha
  obtain ⟨RB, hb⟩ := hb
  obtain ⟨R, E, hM, hn, hv⟩ := ha.mem (by omega) (by omega)
  obtain ⟨R2, E2, hM2, hn2, hv2⟩ := hb.mem (by omega) (by omega)
  have w1 : wd 2 R = 2 := by unfold wd; rw [if_neg (by omega)]; exact hn 0 (by omega)
  have w2 : wd 2 R2 = 1 := by unfold wd; rw [if_neg (by omega)]; exact hn2 0 (by omega)
  refine (solve_ok (m := 2) (X := kA) (Y := kB) (c := 2) (c2 := 2) (nb := 1) (N := 100) (Ns := 4) (Nd := 4) (Nx := 4) (vb := fun _ _ => true) (vb2 := fun _ _ => true) hM hM2 (fun i j hi hj => (hv i j hi (by rw [hn i hi] at hj; exact hj)).vb (by omega)) (fun i j hi hj => (hv2 i j hi (by rw [hn2 i hi] at hj; exact hj)).vb (by omega))
    ⟨by omega, by omega, fun i hi => by rw [w1]; exact hn i hi, fun _ _ _ _ => rfl⟩ ⟨by omega, by omega, fun i hi => by rw [w2]; exact hn2 i hi, fun _ _ _ _ => rfl⟩ hn hn2 (by omega) hv hv2 (by omega) kZ_room (fun _ => kroomB')).mono ?_
  rintro e w' ⟨h | ⟨_, G, RX, he, ho⟩, hx⟩
  · have := kZ_r; omega
  · exact ⟨G, he, ⟨RX, ho⟩, hx⟩
set_option maxRecDepth 100000 in
theorem det_known (Ga : Nat) (w : World) (ha : ∃ RX, Out w Ga 2 2 RX kA) :
    Calls Tryz.prog 12 #[.slice (some ⟨Ga, 0, none⟩) 2 2] w fun e w' => ∃ v, e = .returned (.tuple #[v, .int .i64 0]) ∧ GV w' v (GQ.i (-1) 0) 12800 ∧ Ext w w' := by
  obtain ⟨RA, ha⟩ := ha
  obtain ⟨R, E, hM, hn, hv⟩ := ha.mem (by omega) (by omega)
  have w1 : wd 2 R = 2 := by unfold wd; rw [if_neg (by omega)]; exact hn 0 (by omega)
  have := det_ok (m := 2) (X := kA) (c := 2) (N := 100) (N2 := 64) (vb := fun _ _ => true) hM (fun i j hi hj => (hv i j hi (by rw [hn i hi] at hj; exact hj)).vb (by omega)) ⟨by omega, by omega, fun i hi => by rw [w1]; exact hn i hi, fun _ _ _ _ => rfl⟩ hn hv (by omega) kA_room (fun _ => kp) kd (by omega) (by omega)
  rwa [kdet] at this
set_option maxRecDepth 100000 in
theorem same_known (Ga Gb : Nat) (w : World) (X Y : Nat → Nat → GQ) (ha : ∃ RX, Out w Ga 2 1 RX X) (hb : ∃ RX, Out w Gb 2 1 RX Y) (h0 : X 0 0 = Y 0 0) (h1 : X 1 0 = Y 1 0) :
    Calls Tryz.prog 22 #[.slice (some ⟨Ga, 0, none⟩) 2 2, .slice (some ⟨Gb, 0, none⟩) 2 2] w fun e w' => e = .returned (.bool true) ∧ Ext w w' := by
  obtain ⟨RA, ha⟩ := ha
  obtain ⟨RB, hb⟩ := hb
  obtain ⟨R, E, hM, hn, hv⟩ := ha.mem (by omega) (by omega)
  obtain ⟨R2, E2, hM2, hn2, hv2⟩ := hb.mem (by omega) (by omega)
  refine same_mx (c := 2) (c2 := 2) (X := X) hM hM2 (fun i hi => (hn i hi).trans (hn2 i hi).symm) (by omega) (fun i hi => by rw [hn i hi]; omega) (fun i j hi hj => hv i j hi (by rw [hn i hi] at hj; exact hj)) (fun i j hi hj => ?_)
  rw [hn i hi] at hj
  obtain rfl : j = 0 := by omega
  have e : X i 0 = Y i 0 := by
    rcases (show i = 0 ∨ i = 1 by omega) with rfl | rfl
    · exact h0
    · exact h1
  rw [e]
  exact hv2 i 0 hi (by omega)
/-- The numbers that the sanity check expects. -/
def kC : Nat → Nat → GQ := mx2 (GQ.i 7 0) (GQ.i 7 0) (GQ.i 5 0) (GQ.i 5 0)
def kGV (q : GQ) (v : Value) (w : World) : Prop := ∃ s1 A1 n1 c1 s2 A2 n2 c2 s3 A3 n3 c3, v = gv s1 A1 n1 c1 s2 A2 n2 c2 s3 A3 n3 c3 ∧ GV w (gv s1 A1 n1 c1 s2 A2 n2 c2 s3 A3 n3 c3) q 64
def kRow (q : GQ) (v : Value) (w : World) : Prop := ∃ g, v = .slice (some ⟨g, 0, none⟩) 1 1 ∧ RowIs w g 1 (fun j => if j = 0 then q else q)
def kOut (v : Value) (w : World) : Prop := ∃ G, v = .slice (some ⟨G, 0, none⟩) 2 2 ∧ ∃ RX, Out w G 2 1 RX kC
def kPhi : Nat → Nat → Nat → Value → World → Prop
  | 4, _, _, v, w => kGV (GQ.i (7) (0)) v w
  | 5, _, _, v, w => kRow (GQ.i (7) (0)) v w
  | 6, _, _, v, w => kGV (GQ.i (5) (0)) v w
  | 7, _, _, v, w => kRow (GQ.i (5) (0)) v w
  | 8, _, _, v, w => kOut v w
  | 9, _, _, v, w => v = .bool true
  | 17, _, _, v, w => kGV (GQ.i (-1) (0)) v w
  | 18, _, _, v, w => v = .bool true
  | _, _, _, _, _ => True
theorem kGV.ext {q : GQ} {v : Value} {w w' : World} (h : kGV q v w) (x : Ext w w') : kGV q v w' := by
  obtain ⟨s1, A1, n1, c1, s2, A2, n2, c2, s3, A3, n3, c3, e, h⟩ := h
  exact ⟨s1, A1, n1, c1, s2, A2, n2, c2, s3, A3, n3, c3, e, h.ext x⟩
theorem kRow.ext {q : GQ} {v : Value} {w w' : World} (h : kRow q v w) (x : Ext w w') : kRow q v w' := by
  obtain ⟨g, e, h⟩ := h
  exact ⟨g, e, h.ext x⟩
theorem kOut.ext {v : Value} {w w' : World} (h : kOut v w) (x : Ext w w') : kOut v w' := by
  obtain ⟨G, e, h⟩ := h
  exact ⟨G, e, OutE.ext h x⟩
theorem kPhi_stab (i lo hi : Nat) (v : Value) (w w' : World) (h : kPhi i lo hi v w) (x : Ext w w') : kPhi i lo hi v w' := by
  unfold kPhi at h ⊢
  split at h
  all_goals first | exact kGV.ext h x | exact kRow.ext h x | exact kOut.ext h x | exact h
theorem kGV_at {q : GQ} {w : World} {s1 s2 s3 : Bool} {A1 A2 A3 : Option Addr} {n1 c1 n2 c2 n3 c3 : Nat} (h : kGV q (gv s1 A1 n1 c1 s2 A2 n2 c2 s3 A3 n3 c3) w) : GV w (gv s1 A1 n1 c1 s2 A2 n2 c2 s3 A3 n3 c3) q 64 := by
  obtain ⟨_, _, _, _, _, _, _, _, _, _, _, _, e, h⟩ := h
  rw [e]; exact h
theorem kRow_at {q : GQ} {w : World} {g : Nat} (h : kRow q (.slice (some ⟨g, 0, none⟩) 1 1) w) : RowIs w g 1 (fun j => if j = 0 then q else q) := by
  obtain ⟨g', e, h⟩ := h
  simp at e
  subst e; exact h
theorem kOut_at {w : World} {G : Nat} (h : kOut (.slice (some ⟨G, 0, none⟩) 2 2) w) : ∃ RX, Out w G 2 1 RX kC := by
  obtain ⟨G', e, h⟩ := h
  simp at e
  subst e; exact h
set_option maxRecDepth 100000 in
set_option maxHeartbeats 6400000 in
theorem llknown_ok (w : World) : Calls Tryz.prog 9 #[] w fun e w' => e = .returned (.bool true) ∧ Ext w w' := by
  go_enter Tryz.func9, Tryz.ntmps9
  have HE := Lib.hid (Ext.refl w)
  go_wp2_with fail
  refine (qI_ok (0) (0) _ (by omega) (by omega) (by omega) (by omega)).mono ?_
  rintro e w1 ⟨s11, A11, n11, c11, s12, A12, n12, c12, s13, A13, n13, c13, rfl, h1, hx⟩
  have HI1 := Lib.hid h1; clear h1
  replace HE := Lib.hid (HE.out.trans hx); clear hx
  go_wp2_with fail
  refine (qI_ok (1) (0) _ (by omega) (by omega) (by omega) (by omega)).mono ?_
  rintro e w2 ⟨s21, A21, n21, c21, s22, A22, n22, c22, s23, A23, n23, c23, rfl, h2, hx⟩
  have HI2 := Lib.hid h2; clear h2
  replace HI1 := Lib.hid (HI1.out.ext hx)
  replace HE := Lib.hid (HE.out.trans hx); clear hx
  go_wp2_with fail
  have hx := Ext.new w2 (.cells #[.bool s11, .slice A11 n11 c11, .bool s12, .slice A12 n12 c12, .bool s13, .slice A13 n13 c13, .bool s21, .slice A21 n21 c21, .bool s22, .slice A22 n22 c22, .bool s23, .slice A23 n23 c23] 32)
  have HRa := Lib.hid (row2_new (w := w2) HI1.out HI2.out (fun j => if j = 0 then GQ.i 0 0 else GQ.i 1 0) rfl rfl)
  replace HE := Lib.hid (HE.out.trans hx); clear hx HI1 HI2
  have hsz : (w2.alloc (.cells #[.bool s11, .slice A11 n11 c11, .bool s12, .slice A12 n12 c12, .bool s13, .slice A13 n13 c13, .bool s21, .slice A21 n21 c21, .bool s22, .slice A22 n22 c22, .bool s23, .slice A23 n23 c23] 32)).heap.size = w2.heap.size + 1 := by simp
  have HZa := Lib.hid hsz; clear hsz
  generalize w2.alloc _ = Wa at  HRa HE HZa ⊢
  generalize w2.heap.size = ga at HRa HZa ⊢
  refine (qI_ok (1) (0) _ (by omega) (by omega) (by omega) (by omega)).mono ?_
  rintro e w3 ⟨s31, A31, n31, c31, s32, A32, n32, c32, s33, A33, n33, c33, rfl, h3, hx⟩
  have HI3 := Lib.hid h3; clear h3
  replace HRa := Lib.hid (HRa.out.ext hx)
  replace HE := Lib.hid (HE.out.trans hx); clear hx
  go_wp2_with fail
  refine (qI_ok (0) (0) _ (by omega) (by omega) (by omega) (by omega)).mono ?_
  rintro e w4 ⟨s41, A41, n41, c41, s42, A42, n42, c42, s43, A43, n43, c43, rfl, h4, hx⟩
  have HI4 := Lib.hid h4; clear h4
  replace HRa := Lib.hid (HRa.out.ext hx)
  replace HI3 := Lib.hid (HI3.out.ext hx)
  replace HE := Lib.hid (HE.out.trans hx); clear hx
  go_wp2_with fail
  have hx := Ext.new w4 (.cells #[.bool s31, .slice A31 n31 c31, .bool s32, .slice A32 n32 c32, .bool s33, .slice A33 n33 c33, .bool s41, .slice A41 n41 c41, .bool s42, .slice A42 n42 c42, .bool s43, .slice A43 n43 c43] 32)
  have HRb := Lib.hid (row2_new (w := w4) HI3.out HI4.out (fun j => if j = 0 then GQ.i 1 0 else GQ.i 0 0) rfl rfl)
  replace HRa := Lib.hid (HRa.out.ext hx)
  replace HE := Lib.hid (HE.out.trans hx); clear hx HI3 HI4
  have hsz : (w4.alloc (.cells #[.bool s31, .slice A31 n31 c31, .bool s32, .slice A32 n32 c32, .bool s33, .slice A33 n33 c33, .bool s41, .slice A41 n41 c41, .bool s42, .slice A42 n42 c42, .bool s43, .slice A43 n43 c43] 32)).heap.size = w4.heap.size + 1 := by simp
  have HZb := Lib.hid hsz; clear hsz
  generalize w4.alloc _ = Wb at HRa HRb HE HZb ⊢
  generalize w4.heap.size = gb at HRb HZb ⊢
  have hx := Ext.new Wb (.cells #[.slice (some ⟨ga, 0, none⟩) 2 2, .slice (some ⟨gb, 0, none⟩) 2 2] 37)
  have HOA := Lib.hid (out2_new (w := Wb) (n := 2) HRa.out HRb.out (kA) rfl rfl)
  replace HE := Lib.hid (HE.out.trans hx); clear hx HRa HRb
  replace HOA := Lib.hid (HZb.out ▸ HOA.out)
  generalize Wb.alloc _ = WA at  HOA HE ⊢
  generalize gb + 1 = gA at HOA ⊢
  refine (qI_ok (5) (0) _ (by omega) (by omega) (by omega) (by omega)).mono ?_
  rintro e w5 ⟨s51, A51, n51, c51, s52, A52, n52, c52, s53, A53, n53, c53, rfl, h5, hx⟩
  have HI5 := Lib.hid h5; clear h5
  replace HOA := Lib.hid (OutE.ext HOA.out hx)
  replace HE := Lib.hid (HE.out.trans hx); clear hx
  go_wp2_with fail
  have hx := Ext.new w5 (.cells #[.bool s51, .slice A51 n51 c51, .bool s52, .slice A52 n52 c52, .bool s53, .slice A53 n53 c53] 32)
  have HRc := Lib.hid (row1_new (w := w5) HI5.out (fun j => if j = 0 then GQ.i 5 0 else GQ.i 5 0) rfl)
  replace HOA := Lib.hid (OutE.ext HOA.out hx)
  replace HE := Lib.hid (HE.out.trans hx); clear hx HI5
  have hsz : (w5.alloc (.cells #[.bool s51, .slice A51 n51 c51, .bool s52, .slice A52 n52 c52, .bool s53, .slice A53 n53 c53] 32)).heap.size = w5.heap.size + 1 := by simp
  have HZc := Lib.hid hsz; clear hsz
  generalize w5.alloc _ = Wc at HOA HRc HE HZc ⊢
  generalize w5.heap.size = gc at HRc HZc ⊢
  refine (qI_ok (7) (0) _ (by omega) (by omega) (by omega) (by omega)).mono ?_
  rintro e w6 ⟨s61, A61, n61, c61, s62, A62, n62, c62, s63, A63, n63, c63, rfl, h6, hx⟩
  have HI6 := Lib.hid h6; clear h6
  replace HOA := Lib.hid (OutE.ext HOA.out hx)
  replace HRc := Lib.hid (HRc.out.ext hx)
  replace HE := Lib.hid (HE.out.trans hx); clear hx
  go_wp2_with fail
  have hx := Ext.new w6 (.cells #[.bool s61, .slice A61 n61 c61, .bool s62, .slice A62 n62 c62, .bool s63, .slice A63 n63 c63] 32)
  have HRd := Lib.hid (row1_new (w := w6) HI6.out (fun j => if j = 0 then GQ.i 7 0 else GQ.i 7 0) rfl)
  replace HOA := Lib.hid (OutE.ext HOA.out hx)
  replace HRc := Lib.hid (HRc.out.ext hx)
  replace HE := Lib.hid (HE.out.trans hx); clear hx HI6
  have hsz : (w6.alloc (.cells #[.bool s61, .slice A61 n61 c61, .bool s62, .slice A62 n62 c62, .bool s63, .slice A63 n63 c63] 32)).heap.size = w6.heap.size + 1 := by simp
  have HZd := Lib.hid hsz; clear hsz
  generalize w6.alloc _ = Wd at HOA HRc HRd HE HZd ⊢
  generalize w6.heap.size = gd at HRd HZd ⊢
  have hx := Ext.new Wd (.cells #[.slice (some ⟨gc, 0, none⟩) 1 1, .slice (some ⟨gd, 0, none⟩) 1 1] 37)
  have HOB := Lib.hid (out2_new (w := Wd) (n := 1) HRc.out HRd.out (kB) rfl rfl)
  replace HOA := Lib.hid (OutE.ext HOA.out hx)
  replace HE := Lib.hid (HE.out.trans hx); clear hx HRc HRd
  replace HOB := Lib.hid (HZd.out ▸ HOB.out)
  generalize Wd.alloc _ = WB at HOA HOB HE ⊢
  generalize gd + 1 = gB at HOB ⊢
  refine (solve_known gA gB _ HOA.out HOB.out).mono ?_
  rintro e w7 ⟨G, rfl, hG, hx⟩
  have HG := Lib.hid hG; clear hG
  replace HOA := Lib.hid (OutE.ext HOA.out hx)
  replace HE := Lib.hid (HE.out.trans hx); clear hx HOB
  go_wp2_with fail
  refine (det_known gA _ HOA.out).mono ?_
  rintro e w8 ⟨v, rfl, hv, hx⟩
  obtain ⟨s91, A91, n91, c91, s92, A92, n92, c92, s93, A93, n93, c93, rfl⟩ := hv.opn
  have HV := Lib.hid hv; clear hv
  replace HG := Lib.hid (OutE.ext HG.out hx)
  replace HE := Lib.hid (HE.out.trans hx); clear hx HOA
  go_wp2_with fail
  have Y4 := ExtOf.blk (Blk.new w8 32 #[.bool s91, .slice A91 n91 c91, .bool s92, .slice A92 n92 c92, .bool s93, .slice A93 n93 c93])
  have HV2 := Lib.hid (HV.out.ext (Ext.new w8 (.cells #[.bool s91, .slice A91 n91 c91, .bool s92, .slice A92 n92 c92, .bool s93, .slice A93 n93 c93] 32)))
  have HG2 := Lib.hid (OutE.ext HG.out (Ext.new w8 (.cells #[.bool s91, .slice A91 n91 c91, .bool s92, .slice A92 n92 c92, .bool s93, .slice A93 n93 c93] 32)))
  have hE_ := HE.out.trans (Ext.new w8 (.cells #[.bool s91, .slice A91 n91 c91, .bool s92, .slice A92 n92 c92, .bool s93, .slice A93 n93 c93] 32))
  clear HV HG HE
  generalize w8.alloc (.cells #[.bool s91, .slice A91 n91 c91, .bool s92, .slice A92 n92 c92, .bool s93, .slice A93 n93 c93] 32) = wk at Y4 HV2 HG2 hE_ ⊢
  have HE_ := Lib.hid hE_; clear hE_
  refine wp_region_tame 20 (hasF [(4, .any), (5, .any), (6, .any), (7, .any), (8, .any), (9, .any), (17, .any), (18, .any)]) kPhi kPhi_stab (by kernel_rfl) (by kernel_rfl) ?_
  simp only [tk1, tk0, dp1, dp0]
  refine wpT_quiet 4 (by rfl) (by kernel_rfl) ?_
  simp only [tk1, tk0, dp1, dp0]
  repeat (go_big_quiet_step (fail))
  refine wpQuiet_nil ?_
  refine wpT_eff (by rfl) (by rfl) (by rfl) ?_ ?_
  · intro W_ hK
    have hW := hK.1
    clear hK
    go_simp
    exact ⟨rfl, (qI_ok (7) (0) _ (by omega) (by omega) (by omega) (by omega)).mono fun e w' ⟨sp1, Ap1, np1, cp1, sp2, Ap2, np2, cp2, sp3, Ap3, np3, cp3, he, hg, hx⟩ => ⟨_, he, hx, sp1, Ap1, np1, cp1, sp2, Ap2, np2, cp2, sp3, Ap3, np3, cp3, rfl, hg⟩⟩
  intro v_ lop hip hr_
  obtain ⟨W_, hW_⟩ := hr_
  obtain ⟨sp1, Ap1, np1, cp1, sp2, Ap2, np2, cp2, sp3, Ap3, np3, cp3, rfl, -⟩ : kGV (GQ.i (7) (0)) v_ W_ := hW_.get
  clear hW_ W_
  try simp only [Act.put, sa0, sa1, sa2]
  refine wpT_eff (by rfl) (by rfl) (by rfl) ?_ ?_
  · intro W_ hK
    have hF : kGV (GQ.i (7) (0)) ((gv sp1 Ap1 np1 cp1 sp2 Ap2 np2 cp2 sp3 Ap3 np3 cp3)) W_ := hK.2 4 ((gv sp1 Ap1 np1 cp1 sp2 Ap2 np2 cp2 sp3 Ap3 np3 cp3), lop, hip) (by rfl) (anc_of (by kernel_rfl))
    clear hK
    go_simp
    have hF2 := kGV_at hF
    exact ⟨Ext.new _ _, W_.heap.size, rfl, row1_new hF2 _ rfl⟩
  intro v_ logp higp hr_
  obtain ⟨W_, hW_⟩ := hr_
  obtain ⟨gp, rfl, -⟩ : kRow (GQ.i (7) (0)) v_ W_ := hW_.get
  clear hW_ W_
  try simp only [Act.put, sa0, sa1, sa2]
  refine wpT_eff (by rfl) (by rfl) (by rfl) ?_ ?_
  · intro W_ hK
    have hW := hK.1
    clear hK
    go_simp
    exact ⟨rfl, (qI_ok (5) (0) _ (by omega) (by omega) (by omega) (by omega)).mono fun e w' ⟨sq1, Aq1, nq1, cq1, sq2, Aq2, nq2, cq2, sq3, Aq3, nq3, cq3, he, hg, hx⟩ => ⟨_, he, hx, sq1, Aq1, nq1, cq1, sq2, Aq2, nq2, cq2, sq3, Aq3, nq3, cq3, rfl, hg⟩⟩
  intro v_ loq hiq hr_
  obtain ⟨W_, hW_⟩ := hr_
  obtain ⟨sq1, Aq1, nq1, cq1, sq2, Aq2, nq2, cq2, sq3, Aq3, nq3, cq3, rfl, -⟩ : kGV (GQ.i (5) (0)) v_ W_ := hW_.get
  clear hW_ W_
  try simp only [Act.put, sa0, sa1, sa2]
  refine wpT_eff (by rfl) (by rfl) (by rfl) ?_ ?_
  · intro W_ hK
    have hF : kGV (GQ.i (5) (0)) ((gv sq1 Aq1 nq1 cq1 sq2 Aq2 nq2 cq2 sq3 Aq3 nq3 cq3)) W_ := hK.2 6 ((gv sq1 Aq1 nq1 cq1 sq2 Aq2 nq2 cq2 sq3 Aq3 nq3 cq3), loq, hiq) (by rfl) (anc_of (by kernel_rfl))
    clear hK
    go_simp
    have hF2 := kGV_at hF
    exact ⟨Ext.new _ _, W_.heap.size, rfl, row1_new hF2 _ rfl⟩
  intro v_ logq higq hr_
  obtain ⟨W_, hW_⟩ := hr_
  obtain ⟨gq, rfl, -⟩ : kRow (GQ.i (5) (0)) v_ W_ := hW_.get
  clear hW_ W_
  try simp only [Act.put, sa0, sa1, sa2]
  refine wpT_eff (by rfl) (by rfl) (by rfl) ?_ ?_
  · intro W_ hK
    have hF1 : kRow (GQ.i (7) (0)) (.slice (some ⟨gp, 0, none⟩) 1 1) W_ := hK.2 5 (.slice (some ⟨gp, 0, none⟩) 1 1, logp, higp) (by rfl) (anc_of (by kernel_rfl))
    have hF2 : kRow (GQ.i (5) (0)) (.slice (some ⟨gq, 0, none⟩) 1 1) W_ := hK.2 7 (.slice (some ⟨gq, 0, none⟩) 1 1, logq, higq) (by rfl) (anc_of (by kernel_rfl))
    clear hK
    go_simp
    exact ⟨Ext.new _ _, W_.heap.size, rfl, out2_new (kRow_at hF1) (kRow_at hF2) kC rfl rfl⟩
  intro v_ loG hiG hr_
  obtain ⟨W_, hW_⟩ := hr_
  obtain ⟨GC, rfl, -⟩ : kOut v_ W_ := hW_.get
  clear hW_ W_
  try simp only [Act.put, sa0, sa1, sa2]
  refine wpT_eff (by rfl) (by rfl) (by rfl) ?_ ?_
  · intro W_ hK
    have hW := hK.1
    have hF : kOut (.slice (some ⟨GC, 0, none⟩) 2 2) W_ := hK.2 8 (.slice (some ⟨GC, 0, none⟩) 2 2, loG, hiG) (by rfl) (anc_of (by kernel_rfl))
    clear hK
    go_simp
    exact ⟨rfl, (same_known G GC W_ _ kC (OutE.ext HG2.out hW) (kOut_at hF) (by rw [ks3]; rfl) (by rw [ks2]; rfl)).mono fun e w' ⟨he, hx⟩ => ⟨_, he, hx, rfl⟩⟩
  intro v_ lo_ hi_ hr_
  obtain ⟨W_, hW_⟩ := hr_
  obtain rfl : v_ = .bool true := hW_.get
  clear hW_ W_
  try simp only [Act.put, sa0, sa1, sa2]
  refine wpT_quiet 7 (by rfl) (by kernel_rfl) ?_
  simp only [tk1, tk0, dp1, dp0]
  repeat (go_big_quiet_step (fail))
  refine wpQuiet_nil ?_
  refine wpT_eff (by rfl) (by rfl) (by rfl) ?_ ?_
  · intro W_ hK
    have hW := hK.1
    clear hK
    go_simp
    exact ⟨rfl, (qI_ok (-1) (0) _ (by omega) (by omega) (by omega) (by omega)).mono fun e w' ⟨sr1, Ar1, nr1, cr1, sr2, Ar2, nr2, cr2, sr3, Ar3, nr3, cr3, he, hg, hx⟩ => ⟨_, he, hx, sr1, Ar1, nr1, cr1, sr2, Ar2, nr2, cr2, sr3, Ar3, nr3, cr3, rfl, hg⟩⟩
  intro v_ lor hir hr_
  obtain ⟨W_, hW_⟩ := hr_
  obtain ⟨sr1, Ar1, nr1, cr1, sr2, Ar2, nr2, cr2, sr3, Ar3, nr3, cr3, rfl, -⟩ : kGV (GQ.i (-1) (0)) v_ W_ := hW_.get
  clear hW_ W_
  try simp only [Act.put, sa0, sa1, sa2]
  refine wpT_eff (by rfl) (by rfl) (by rfl) ?_ ?_
  · intro W_ hK
    have hW := hK.1
    have hF : kGV (GQ.i (-1) (0)) ((gv sr1 Ar1 nr1 cr1 sr2 Ar2 nr2 cr2 sr3 Ar3 nr3 cr3)) W_ := hK.2 17 ((gv sr1 Ar1 nr1 cr1 sr2 Ar2 nr2 cr2 sr3 Ar3 nr3 cr3), lor, hir) (by rfl) (anc_of (by kernel_rfl))
    clear hK
    go_simp
    exact ⟨rfl, (qSame_q _ _ (GQ.i (-1) 0) (GQ.i (-1) 0) 12800 64 W_ (HV2.out.ext hW) (kGV_at hF) rfl).mono fun e w' ⟨he, hx⟩ => ⟨_, he, hx, rfl⟩⟩
  intro v_ los his hr_
  obtain ⟨W_, hW_⟩ := hr_
  obtain rfl : v_ = .bool true := hW_.get
  clear hW_ W_
  try simp only [Act.put, sa0, sa1, sa2]
  refine wpT_quiet 1 (by rfl) (by kernel_rfl) ?_
  simp only [tk1, tk0, dp1, dp0]
  repeat (go_big_quiet_step (fail))
  refine wpQuiet_nil ?_
  refine wpT_nil ?_
  intro wz hK
  have hx := hK.ext
  clear hK Y4
  go_wp2_with fail
  go_ret
  exact ⟨rfl, HE_.out.trans hx⟩
end Go.Proofs.YtclkkoiaaddllaaGreat

namespace Go.Proofs.YtclkkoiaaddllaaGreat
open Go.RowKit
set_option linter.unusedVariables false

section
variable {A A2 : Option Addr} {B O B2 O2 m m2 c c2 : Nat} {R R2 : Nat → Rw} {E E2 : Nat → Nat → En} {w : World} {vb vb2 : Nat → Nat → Bool}
end
end Go.Proofs.YtclkkoiaaddllaaGreat

namespace Go.Proofs.YtclkkoiaaddllaaGreat
open Go.RowKit
set_option linter.unusedVariables false

theorem mem0 (w : World) (A : Option Addr) : Mem w A 0 0 0 (fun _ => nilRw) (fun _ _ => zEn) := ⟨fun h => absurd h (by omega), fun i hi => absurd hi (by omega), fun i hi => absurd hi (by omega), fun i j hi => absurd hi (by omega), by omega, fun i hi => absurd hi (by omega)⟩
end Go.Proofs.YtclkkoiaaddllaaGreat

namespace Go.Proofs.YtclkkoiaaddllaaGreat
open Go.RowKit
set_option linter.unusedVariables false

end Go.Proofs.YtclkkoiaaddllaaGreat

namespace Go.Proofs.YtclkkoiaaddllaaGreat
open Go.RowKit
set_option linter.unusedVariables false

section
variable {w w' : World} {A : Option Addr} {B O m c : Nat} {R : Nat → Rw} {E : Nat → Nat → En}
set_option maxRecDepth 100000 in
set_option maxHeartbeats 3200000 in
theorem qMatrix_any (h : Mem w A B O m R E) {vb : Nat → Nat → Bool} (hv : ∀ i j, i < m → j < (R i).n → VB w (E i j).v (vb i j)) (b : Bool) (hb : b = true ↔ IsM m R vb) :
    Calls Tryz.prog 15 #[.slice A m c] w fun e w' => e = .returned (.bool b) ∧ Ext w w' := by
  have HM := Lib.hid h; have HV := Lib.hid hv
  have hm0 : (0 : Int) ≤ (m : Int) := by omega
  by_cases h24 : 24 < m
  · have d24 : decide ((24 : Int) < (m : Int)) = true := by simp; omega
    have hF : b = false := by cases b <;> simp_all [IsM]; omega
    subst hF
    clear h hv hb h24
    go_enter Tryz.func15, Tryz.ntmps15
    go_wp2_with fail
    go_ret
    exact ⟨rfl, Ext.refl _⟩
  have d24 : decide ((24 : Int) < (m : Int)) = false := by simp; omega
  have HB := Lib.hid hb; clear hb
  have h24' : m ≤ 24 := by omega
  clear h hv
  go_enter Tryz.func15, Tryz.ntmps15
  go_wp2_with fail
  go_loopw [12] (fun i wr => ∃ k : Nat, k ≤ m ∧ i = .int .i64 k ∧ (∀ i, i < k → (R i).n = (R 0).n ∧ (R i).n ≤ 24 ∧ ∀ j, j < (R i).n → vb i j = true) ∧ Ext w wr) (fun i _ => m - (intOf i).toNat)
  case atStart => exact ⟨0, by omega, rfl, by intros; omega, Ext.refl _⟩
  case round =>
    obtain ⟨k, hk, rfl, hall, hx⟩ := hrel
    have HA := Lib.hid hall; have HX := Lib.hid hx; clear hall hx
    by_cases hlt : k < m
    · have hd : decide ((k : Int) < (m : Int)) = true := by simp; omega
      have hA := HM.out.at0 (by omega)
      have hr := HM.out.rowc hlt HX.out
      have hr0 : _ := HM.out.rowc (i := 0) (by omega) HX.out
      rw [Nat.add_zero] at hr0
      subst hA
      have q0 : (0 : Int) < (m : Int) := by omega
      by_cases hn : (R k).n = (R 0).n
      · have dn : (((R k).n : Int) != ((R 0).n : Int)) = false := by simp [hn]
        have HN := Lib.hid hn; clear hn
        by_cases h25 : 24 < (R k).n
        · have d25 : decide ((24 : Int) < ((R k).n : Int)) = true := by simp; omega
          have hF : b = false := by
            cases b
            · rfl
            · have := (HB.out.1 rfl).2.1
              unfold wd at this
              rw [if_neg (by omega), ← HN.out] at this; omega
          subst hF
          clear h25
          go_wp2_with fail
          go_ret
          exact ⟨rfl, HX.out⟩
        have d25 : decide ((24 : Int) < ((R k).n : Int)) = false := by simp; omega
        have H25 := Lib.hid (show (R k).n ≤ 24 by omega); clear h25
        go_wp2_with fail
        go_loopw [30] (fun i wr => ∃ k' : Nat, k' ≤ (R k).n ∧ i = .int .i64 k' ∧ (∀ j, j < k' → vb k j = true) ∧ Ext w wr) (fun i _ => (R k).n - (intOf i).toNat)
        case atStart => exact ⟨0, by omega, rfl, by intros; omega, HX.out⟩
        case round =>
          clear hd hr hr0
          obtain ⟨j, hj, rfl, hall, hx⟩ := hrel
          have HA3 := Lib.hid hall; have HX3 := Lib.hid hx; clear hall hx
          by_cases hjt : j < (R k).n
          · have hd : decide ((j : Int) < ((R k).n : Int)) = true := by simp; omega
            have hRA := HM.out.ra k hlt (by omega)
            have hln := HM.out.ln k hlt
            obtain ⟨c0, c1, c2, c3, c4, c5⟩ := HM.out.cells hlt hjt HX3.out
            rw [hRA]
            generalize hvb : vb k j = bv
            have HVB : Hid (VB w (E k j).v bv) := Lib.hid (hvb ▸ HV.out k j hlt hjt)
            have HVQ := Lib.hid hvb; clear hvb
            have HE := Lib.hid (HX3.out.alloc (.cells #[.bool (E k j).s1, .slice (E k j).A1 (E k j).n1 (E k j).c1, .bool (E k j).s2, .slice (E k j).A2 (E k j).n2 (E k j).c2, .bool (E k j).s3, .slice (E k j).A3 (E k j).n3 (E k j).c3] 32))
            go_wp2_with fail
            refine ((HVB.out.ext HE.out).q).mono ?_
            rintro e w4 ⟨rfl, hx4⟩
            cases bv
            · have hF : b = false := by
                cases b
                · rfl
                · have := (HB.out.1 rfl).2.2.2 k j hlt hjt
                  rw [HVQ.out] at this; cases this
              subst hF
              go_wp2_with fail
              go_ret
              exact ⟨rfl, HE.out.trans hx4⟩
            · go_wp2_with fail
              go_roundw
              case rel =>
                refine ⟨j + 1, by omega, by go_num, fun i hi => ?_, HE.out.trans hx4⟩
                by_cases e : i = j
                · subst e; exact HVQ.out
                · exact HA3.out i (by omega)
              case measure => simp [intOf]; omega
          · obtain rfl : j = (R k).n := by omega
            have hd : decide (((R k).n : Int) < ((R k).n : Int)) = false := by simp
            go_wp2_with fail
            go_roundw
            case rel =>
              refine ⟨k + 1, by omega, by go_num, fun i hi => ?_, HX3.out⟩
              by_cases e : i = k
              · subst e; exact ⟨HN.out, H25.out, HA3.out⟩
              · exact HA.out i (by omega)
            case measure => simp [intOf]; omega
      · have dn : (((R k).n : Int) != ((R 0).n : Int)) = true := by simp; omega
        have hF : b = false := by
          cases b
          · rfl
          · have h1 := (HB.out.1 rfl).2.2.1 k hlt
            have h2 := (HB.out.1 rfl).2.2.1 0 (by omega)
            exact absurd (h1.trans h2.symm) hn
        subst hF
        clear hn
        go_wp2_with fail
        go_ret
        exact ⟨rfl, HX.out⟩
    · obtain rfl : k = m := by omega
      have hd : decide ((k : Int) < (k : Int)) = false := by simp
      have hT : b = true := by
        refine HB.out.2 ⟨h24', ?_, fun i hi => ?_, fun i j hi hj => (HA.out i hi).2.2 j hj⟩
        · unfold wd
          split
          · omega
          · exact (HA.out 0 (by omega)).2.1
        · unfold wd
          rw [if_neg (by omega)]
          exact (HA.out i hi).1
      subst hT
      clear hlt
      go_wp2_with fail
      go_ret
      exact ⟨rfl, HX.out⟩
end
/-- Small enough for the laws. -/
def Sml (m : Nat) (R : Nat → Rw) (E : Nat → Nat → En) : Prop := m ≤ 6 ∧ (∀ i, i < m → (R i).n ≤ 6) ∧ ∀ i j, i < m → j < (R i).n → (E i j).n1 ≤ 1 ∧ (E i j).n2 ≤ 1 ∧ (E i j).n3 ≤ 1
set_option maxRecDepth 100000 in
set_option maxHeartbeats 3200000 in
theorem small_any {w : World} {g p c : Nat} {fA : Nat → Option Addr} {fB fO fm fc : Nat → Nat} {fR : Nat → Nat → Rw} {fE : Nat → Nat → Nat → En} (hM : ∀ k, k < p → Mem w (fA k) (fB k) (fO k) (fm k) (fR k) (fE k)) (hg : ∀ k, k < p → w.cell? ⟨g, k, none⟩ = some (.slice (fA k) (fm k) (fc k)))
    (hp : p ≤ 1000) (b : Bool) (hb : b = true ↔ ∀ k, k < p → Sml (fm k) (fR k) (fE k)) :
    Calls Tryz.prog 8 #[.slice (some ⟨g, 0, none⟩) p c] w fun e w' => e = .returned (.bool b) ∧ Ext w w' := by
  have HM := Lib.hid hM; have HG := Lib.hid hg; have HB := Lib.hid hb
  clear hM hg hb
  go_enter Tryz.func8, Tryz.ntmps8
  go_wp2_with fail
  go_loopw [11] (fun i wr => ∃ k : Nat, k ≤ p ∧ i = .int .i64 k ∧ (∀ i, i < k → Sml (fm i) (fR i) (fE i)) ∧ Ext w wr) (fun i _ => p - (intOf i).toNat)
  case atStart => exact ⟨0, by omega, rfl, by intros; omega, Ext.refl _⟩
  case round =>
    obtain ⟨t, ht, rfl, hall, hx⟩ := hrel
    have HT := Lib.hid hall; have HX0 := Lib.hid hx; clear hall hx
    by_cases htp : t < p
    · have hd : decide ((t : Int) < (p : Int)) = true := by simp; omega
      have hc := HX0.out.cell_ (HG.out t htp)
      have Hm := Lib.hid (HM.out t htp)
      have HBt := Lib.hid (fun (h : b = true) => HB.out.1 h t htp)
      generalize fA t = A at hc Hm
      generalize fB t = B at Hm
      generalize fO t = O at Hm
      generalize hfm : fm t = m at hc Hm HBt
      generalize fc t = cc at hc
      generalize hfR : fR t = R at Hm HBt
      generalize hfE : fE t = E at Hm HBt
      have HQ := Lib.hid (show ∀ (h : Sml m R E), Sml (fm t) (fR t) (fE t) from fun h => by rw [hfm, hfR, hfE]; exact h)
      clear hfm hfR hfE
      by_cases h6 : 6 < m
      · have d6 : decide ((6 : Int) < (m : Int)) = true := by simp; omega
        have hF : b = false := by
          cases b
          · rfl
          · have := (HBt.out rfl).1; omega
        subst hF
        clear h6
        go_wp2_with fail
        go_ret
        exact ⟨rfl, HX0.out⟩
      have d6 : decide ((6 : Int) < (m : Int)) = false := by simp; omega
      have H6 := Lib.hid (show m ≤ 6 by omega); clear h6
      have hm0 : (0 : Int) ≤ (m : Int) := by omega
      go_wp2_with fail
      go_loopw [20] (fun i wr => ∃ k : Nat, k ≤ m ∧ i = .int .i64 k ∧ (∀ i, i < k → (R i).n ≤ 6 ∧ ∀ j, j < (R i).n → (E i j).n1 ≤ 1 ∧ (E i j).n2 ≤ 1 ∧ (E i j).n3 ≤ 1) ∧ Ext w wr) (fun i _ => m - (intOf i).toNat)
      case atStart => exact ⟨0, by omega, rfl, by intros; omega, HX0.out⟩
      case round =>
        clear hd hc d6
        obtain ⟨k, hk, rfl, hall, hx⟩ := hrel
        have HA := Lib.hid hall; have HX := Lib.hid hx; clear hall hx
        by_cases hlt : k < m
        · have hd : decide ((k : Int) < (m : Int)) = true := by simp; omega
          have hA := Hm.out.at0 (by omega)
          have hr := Hm.out.rowc hlt HX.out
          subst hA
          by_cases h25 : 6 < (R k).n
          · have d25 : decide ((6 : Int) < ((R k).n : Int)) = true := by simp; omega
            have hF : b = false := by
              cases b
              · rfl
              · have := (HBt.out rfl).2.1 k hlt; omega
            subst hF
            clear h25
            go_wp2_with fail
            go_ret
            exact ⟨rfl, HX.out⟩
          have d25 : decide ((6 : Int) < ((R k).n : Int)) = false := by simp; omega
          have H25 := Lib.hid (show (R k).n ≤ 6 by omega); clear h25
          go_wp2_with fail
          go_loopw [29] (fun i wr => ∃ k' : Nat, k' ≤ (R k).n ∧ i = .int .i64 k' ∧ (∀ j, j < k' → (E k j).n1 ≤ 1 ∧ (E k j).n2 ≤ 1 ∧ (E k j).n3 ≤ 1) ∧ Ext w wr) (fun i _ => (R k).n - (intOf i).toNat)
          case atStart => exact ⟨0, by omega, rfl, by intros; omega, HX.out⟩
          case round =>
            clear hd hr d25
            obtain ⟨j, hj, rfl, hall, hx⟩ := hrel
            have HA3 := Lib.hid hall; have HX3 := Lib.hid hx; clear hall hx
            by_cases hjt : j < (R k).n
            · have hd : decide ((j : Int) < ((R k).n : Int)) = true := by simp; omega
              have hRA := Hm.out.ra k hlt (by omega)
              have hln := Hm.out.ln k hlt
              obtain ⟨c0, c1, c2, c3, c4, c5⟩ := Hm.out.cells hlt hjt HX3.out
              rw [hRA]
              have HE := Lib.hid (HX3.out.alloc (.cells #[.bool (E k j).s1, .slice (E k j).A1 (E k j).n1 (E k j).c1, .bool (E k j).s2, .slice (E k j).A2 (E k j).n2 (E k j).c2, .bool (E k j).s3, .slice (E k j).A3 (E k j).n3 (E k j).c3] 32))
              go_wp2_with fail
              refine (qSmall_any (E k j).s1 (E k j).A1 (E k j).n1 (E k j).c1 (E k j).s2 (E k j).A2 (E k j).n2 (E k j).c2 (E k j).s3 (E k j).A3 (E k j).n3 (E k j).c3 1 _).mono ?_
              rintro e w4 ⟨rfl, hx4⟩
              generalize hbv : (decide ((E k j).n1 ≤ 1) && decide ((E k j).n2 ≤ 1) && decide ((E k j).n3 ≤ 1)) = bv
              have HVQ := Lib.hid hbv; clear hbv
              cases bv
              · have hF : b = false := by
                  cases b
                  · rfl
                  · have h1 := (HBt.out rfl).2.2 k j hlt hjt
                    have h2 := HVQ.out
                    rw [decide_eq_true h1.1, decide_eq_true h1.2.1, decide_eq_true h1.2.2] at h2
                    cases h2
                subst hF
                go_wp2_with fail
                go_ret
                exact ⟨rfl, HE.out.trans hx4⟩
              · go_wp2_with fail
                go_roundw
                case rel =>
                  refine ⟨j + 1, by omega, by go_num, fun i hi => ?_, HE.out.trans hx4⟩
                  by_cases e : i = j
                  · subst e
                    have h2 := HVQ.out
                    simp only [Bool.and_eq_true, decide_eq_true_eq] at h2
                    exact ⟨h2.1.1, h2.1.2, h2.2⟩
                  · exact HA3.out i (by omega)
                case measure => simp [intOf]; omega
            · obtain rfl : j = (R k).n := by omega
              have hd : decide (((R k).n : Int) < ((R k).n : Int)) = false := by simp
              have h6 := H6.out
              go_wp2_with fail
              go_roundw
              case rel =>
                refine ⟨k + 1, by omega, by go_num, fun i hi => ?_, HX3.out⟩
                by_cases e : i = k
                · subst e; exact ⟨H25.out, HA3.out⟩
                · exact HA.out i (by omega)
              case measure => simp [intOf]; omega
        · obtain rfl : k = m := by omega
          have hd : decide ((k : Int) < (k : Int)) = false := by simp
          have hS : Sml (fm t) (fR t) (fE t) := HQ.out ⟨H6.out, fun i hi => (HA.out i hi).1, fun i j hi hj => (HA.out i hi).2 j hj⟩
          have HS := Lib.hid hS; clear hS
          clear hlt
          go_wp2_with fail
          go_roundw
          case rel =>
            refine ⟨t + 1, by omega, by go_num, fun i hi => ?_, HX.out⟩
            by_cases e : i = t
            · subst e; exact HS.out
            · exact HT.out i (by omega)
          case measure => simp [intOf]; omega
    · obtain rfl : t = p := by omega
      have hd : decide ((t : Int) < (t : Int)) = false := by simp
      have hT : b = true := HB.out.2 HT.out
      subst hT
      clear htp
      go_wp2_with fail
      go_ret
      exact ⟨rfl, HX0.out⟩
end Go.Proofs.YtclkkoiaaddllaaGreat

namespace Go.Proofs.YtclkkoiaaddllaaGreat
open Go.RowKit
set_option linter.unusedVariables false

/-- The first s products of an entry of a product. -/
def psum (X Y : Nat → Nat → GQ) (i j : Nat) : Nat → GQ
  | 0 => GQ.i 0 0
  | s + 1 => psum X Y i j s + X i s * Y s j
/-- What the outer loop keeps. -/
structure PI (w W : World) (gf G m nb k : Nat) (RX : Nat → Rw) (Z : Nat → Nat → GQ) : Prop where
  ext : Ext w W
  calm : CalmF W gf
  x : Blk W G 37 (mxc m RX).toArray
  row : ∀ i, i < k → (RX i).A = some ⟨(RX i).b, 0, none⟩ ∧ (RX i).n = nb ∧ (RX i).c = nb ∧ RowIs W (RX i).b nb (Z i)
set_option maxRecDepth 100000 in
set_option maxHeartbeats 6400000 in
theorem product_ok {A1 A2 : Option Addr} {B1 O1 m1 c1 B2 O2 m2 c2 nb Na Nb Ns : Nat} {R1 R2 : Nat → Rw} {E1 E2 : Nat → Nat → En} {X Y : Nat → Nat → GQ} {w : World} {vb1 vb2 : Nat → Nat → Bool} (h1 : Mem w A1 B1 O1 m1 R1 E1) (h2 : Mem w A2 B2 O2 m2 R2 E2)
    (v1 : ∀ i j, i < m1 → j < (R1 i).n → VB w (E1 i j).v (vb1 i j)) (v2 : ∀ i j, i < m2 → j < (R2 i).n → VB w (E2 i j).v (vb2 i j)) (M1 : IsM m1 R1 vb1) (M2 : IsM m2 R2 vb2) (hw : wd m1 R1 = m2) (hnb : wd m2 R2 = nb)
    (g1 : ∀ i k, i < m1 → k < m2 → GV w (E1 i k).v (X i k) Na) (g2 : ∀ k j, k < m2 → j < nb → GV w (E2 k j).v (Y k j) Nb) (hs : ∀ i j s, i < m1 → j < nb → s ≤ m2 → Bd (psum X Y i j s) Ns) (hN : 2 * max Ns (Na + Nb + 1) + 65 ≤ 12800) (hN2 : 2 * max Na Nb + 1 ≤ 12800) (hN3 : 64 ≤ Ns) :
    Calls Tryz.prog 16 #[.slice A1 m1 c1, .slice A2 m2 c2] w fun e w' => ∃ G RX, e = .returned (.tuple #[.slice (some ⟨G, 0, none⟩) m1 m1, .int .i64 0]) ∧ Out w' G m1 nb RX (fun i j => psum X Y i j m2) ∧ Ext w w' := by
  have hm1 := M1.1; have hm2 := M2.1
  have hnb24 : nb ≤ 24 := hnb ▸ M2.2.1
  have HN1 := Lib.hid (show ∀ i, i < m1 → (R1 i).n = m2 from fun i hi => (M1.2.2.1 i hi).trans hw)
  have HN2 := Lib.hid (show ∀ i, i < m2 → (R2 i).n = nb from fun i hi => (M2.2.2.1 i hi).trans hnb)
  have HMa := Lib.hid (fun (w' : World) (x : Ext w w') => matrix_any (c := c1) (h1.ext x) (fun i j hi hj => (v1 i j hi hj).ext x) true ⟨fun _ => M1, fun _ => rfl⟩)
  have HMb := Lib.hid (fun (w' : World) (x : Ext w w') => matrix_any (c := c2) (h2.ext x) (fun i j hi hj => (v2 i j hi hj).ext x) true ⟨fun _ => M2, fun _ => rfl⟩)
  have HWa := Lib.hid (fun (w' : World) (x : Ext w w') => width_any (c := c1) (h1.ext x))
  have HWb := Lib.hid (fun (w' : World) (x : Ext w w') => width_any (c := c2) (h2.ext x))
  rw [hw] at HWa; rw [hnb] at HWb
  have H1 := Lib.hid h1; have H2 := Lib.hid h2; have HG1 := Lib.hid g1; have HG2 := Lib.hid g2; have HS := Lib.hid hs
  clear h1 h2 v1 v2 M1 M2 hw hnb g1 g2 hs
  have hmk := make_mx m1 (by omega)
  have hmr := make_row nb (by omega)
  have hbeq : ((m2 : Int) != (m2 : Int)) = false := by simp
  have q0 : (0 : Int) ≤ (m1 : Int) := by omega
  have q1 : (0 : Int) ≤ (m2 : Int) := by omega
  go_enter Tryz.func16, Tryz.ntmps16
  go_wp2_with fail
  refine (HMa.out _ (Ext.refl _)).mono ?_
  rintro e w1 ⟨rfl, hx1⟩
  go_wp2_with fail
  refine (HMb.out _ hx1).mono ?_
  rintro e w2 ⟨rfl, hx2⟩
  have HE2 := Lib.hid (hx1.trans hx2); clear hx1 hx2
  go_wp2_with fail
  refine (HWa.out _ HE2.out).mono ?_
  rintro e w3 ⟨rfl, hx3⟩
  have HE3 := Lib.hid (HE2.out.trans hx3); clear hx3 HE2
  have hC4 := calm_new w3
  have HE4 := Lib.hid (HE3.out.alloc (.cells #[.int .i64 0] 68))
  clear HE3
  go_wp2_with fail
  have hlt4 := hC4.lt
  have hs4 : (w3.alloc (.cells #[.int .i64 0] 68)).heap.size = w3.heap.size + 1 := by simp
  generalize (w3.alloc (.cells #[.int .i64 0] 68)) = w4 at hC4 HE4 hlt4 hs4 ⊢
  generalize w3.heap.size = gf at hC4 hlt4 hs4 ⊢
  have hE5 := Ext.new w4 (.cells (mxc m1 fun _ => nilRw).toArray 37)
  have hB5 := Blk.new w4 37 (mxc m1 fun _ => nilRw).toArray
  have hC5 := hC4.ext hE5
  have hx4s := HE4.out.size
  replace HE4 := Lib.hid (HE4.out.trans hE5)
  clear hE5 hC4
  have HB5 := Lib.hid hB5; have HC5 := Lib.hid hC5; clear hB5 hC5
  have HSZ := Lib.hid (show (w4.alloc (.cells (mxc m1 fun _ => nilRw).toArray 37)).heap.size = w4.heap.size + 1 by simp)
  clear hlt4
  generalize (w4.alloc (.cells (mxc m1 fun _ => nilRw).toArray 37)) = w5 at HB5 HC5 HE4 HSZ ⊢
  have HW4 := Lib.hid (show w.heap.size ≤ w4.heap.size from hx4s)
  clear hx4s
  rw [hs4] at HB5 HSZ HW4
  clear hs4
  generalize gf + 1 = G at HB5 HSZ HW4 ⊢
  have HGG := Lib.hid (show w.heap.size ≤ G ∧ gf ≠ G from by
    refine ⟨?_, HC5.out.ne_t HB5.out (by decide)⟩
    exact HW4.out)
  have HGL := Lib.hid (show G < w5.heap.size by have := HSZ.out; omega)
  clear hmk HSZ HW4
  go_loopw [32] (fun i wr => ∃ (k : Nat) (RX : Nat → Rw), k ≤ m1 ∧ i = .int .i64 k ∧ PI w wr gf G m1 nb k RX (fun i j => psum X Y i j m2)) (fun i _ => m1 - (intOf i).toNat)
  case atStart => exact ⟨0, fun _ => nilRw, by omega, rfl, ⟨HE4.out, HC5.out, HB5.out, fun i hi => absurd hi (by omega)⟩⟩
  case round =>
    obtain ⟨k, RX, hk, rfl, hP⟩ := hrel
    have HP := Lib.hid hP; clear hP HB5 HC5 HE4 HGL
    by_cases hlt : k < m1
    · have hd : decide ((k : Int) < (m1 : Int)) = true := by simp; omega
      have hA := H1.out.at0 (by omega)
      have hr := H1.out.rowc hlt HP.out.ext
      rw [HN1.out k hlt] at hr
      subst hA
      go_wp2_with fail
      refine (HWb.out _ HP.out.ext).mono ?_
      rintro e wq ⟨rfl, hxq⟩
      have HEq := Lib.hid (HP.out.ext.trans hxq)
      have HCq := Lib.hid (HP.out.calm.ext hxq)
      have hOq := HP.out.x.ext hxq
      have HRq : Hid (∀ i, i < k → (RX i).A = some ⟨(RX i).b, 0, none⟩ ∧ (RX i).n = nb ∧ (RX i).c = nb ∧ RowIs wq (RX i).b nb (fun j => psum X Y i j m2)) := Lib.hid fun i hi => by
        obtain ⟨a, b, c, d⟩ := HP.out.row i hi
        exact ⟨a, b, c, d.ext hxq⟩
      clear hr hxq HP
      have hE1 := Ext.new wq (.cells (rowc nb fun _ => zEn).toArray 32)
      have hO1 := hOq.ext hE1
      have fr := hO1.frozen
      have k1 : (wq.alloc (.cells (rowc nb fun _ => zEn).toArray 32)).cell? ⟨G, k, none⟩ = some (RX k).v := by rw [hO1.cell]; exact mxc_at hlt
      have hO2 : Blk ((wq.alloc (.cells (rowc nb fun _ => zEn).toArray 32)).setCell ⟨G, k, none⟩ (.slice (some ⟨wq.heap.size, 0, none⟩) nb nb)) G 37 (mxc m1 (upd RX k ⟨some ⟨wq.heap.size, 0, none⟩, wq.heap.size, 0, nb, nb⟩)).toArray := by
        rw [← mxc_upd]; exact hO1.set_ _ _
      have k2 : ((wq.alloc (.cells (rowc nb fun _ => zEn).toArray 32)).setCell ⟨G, k, none⟩ (.slice (some ⟨wq.heap.size, 0, none⟩) nb nb)).cell? ⟨G, k, none⟩ = some (.slice (some ⟨wq.heap.size, 0, none⟩) nb nb) := by rw [hO2.cell, mxc_at hlt, upd_same]; rfl
      have hgw : G < wq.heap.size := hOq.lt
      have hB2 : Blk ((wq.alloc (.cells (rowc nb fun _ => zEn).toArray 32)).setCell ⟨G, k, none⟩ (.slice (some ⟨wq.heap.size, 0, none⟩) nb nb)) wq.heap.size 32 (rowc nb fun _ => zEn).toArray := (Blk.new _ _ _).far (by show wq.heap.size ≠ G; omega) _
      have hm4 : Mod (fun g => g = G) wq ((wq.alloc (.cells (rowc nb fun _ => zEn).toArray 32)).setCell ⟨G, k, none⟩ (.slice (some ⟨wq.heap.size, 0, none⟩) nb nb)) := (Mod.of hE1).trans (Mod.only (Only.set _ _ _ _) rfl)
      have hfarG : Far (fun g => g = G) wq := fun g hg _ => by subst hg; exact ⟨_, _, hOq, noInt_slices _ _⟩
      have HO2 := Lib.hid hO2; have HB4 := Lib.hid hB2; have HM4 := Lib.hid hm4; have HFG := Lib.hid hfarG; have HGW := Lib.hid hgw; have HOq := Lib.hid hOq
      clear hO2 hB2 hm4 hfarG hgw hE1 hO1 hOq
      go_wp2_with fail
      clear k1 k2 fr
      generalize hW4 : World.setCell _ _ _ = w6 at HO2 HB4 HM4 ⊢
      clear hW4
      generalize hgg : wq.heap.size = g at *
      have HGg := Lib.hid hgg; clear hgg
      have HC6 := Lib.hid (Blk.mod HCq.out HM4.out (by exact fun e => HGG.out.2 e))
      have HE6 : Hid (Ext w w6) := Lib.hid (by
        have hm := (Mod.of (S := fun g => g = G) HEq.out).trans HM4.out
        exact hm.ext fun k hk e => by have := HGG.out.1; omega)
      have HR6 : Hid (∀ i, i < k → (RX i).A = some ⟨(RX i).b, 0, none⟩ ∧ (RX i).n = nb ∧ (RX i).c = nb ∧ (RX i).b ≠ g ∧ RowIs w6 (RX i).b nb (fun j => psum X Y i j m2)) := Lib.hid fun i hi => by
        obtain ⟨a, b, c, d⟩ := HRq.out i hi
        obtain ⟨cs, hcs⟩ := d.blk
        exact ⟨a, b, c, by have := hcs.lt; have := HGg.out; omega, d.mod HM4.out HFG.out (by exact fun e => hcs.ne_t HOq.out (by decide) e)⟩
      have HFX : Hid (gf < g ∧ w.heap.size ≤ g) := Lib.hid (by have h1 := HGg.out; have h2 := Blk.lt HCq.out; have h3 := HEq.out.size; omega)
      clear HCq HRq HOq HEq HFG HM4
      have hfg : Far (fun g' => g' = g) w6 := fun g' hg _ => by subst hg; exact ⟨_, _, HB4.out, rowc_noint _ _⟩
      have HFg := Lib.hid hfg; clear hfg
      go_loopw [48] (fun i48 wz => ∃ (j : Nat) (f : Nat → En), j ≤ nb ∧ i48 = .int .i64 j ∧ Blk wz g 32 (rowc nb f).toArray ∧ (∀ j', j' < j → GV wz (f j').v (psum X Y k j' m2) 12800) ∧ Mod (fun g' => g' = g) w6 wz) (fun i48 _ => nb - (intOf i48).toNat)
      case atStart => exact ⟨0, _, by omega, rfl, HB4.out, fun j hj => by omega, Mod.refl _ _⟩
      case round =>
        clear hd
        obtain ⟨j, f, hj, rfl, hb, hgv, hmz⟩ := hrel
        have HBz := Lib.hid hb; have HGV := Lib.hid hgv; have HMz := Lib.hid hmz; clear hb hgv hmz
        rename World => wz
        have HCz := Lib.hid (Blk.mod HC6.out HMz.out (by have := HFX.out.1; exact fun e => by omega))
        have HEz : Hid (Ext w wz) := Lib.hid (((Mod.of HE6.out).trans HMz.out).ext fun k' hk' e => by have := HFX.out.2; omega)
        have HOz := Lib.hid (HO2.out.mod HMz.out (by have := HGW.out; exact fun e => by omega))
        by_cases hjt : j < nb
        · have dj : decide ((j : Int) < (nb : Int)) = true := by simp; omega
          go_wp2_with fail
          refine (fzero_ok gf wz HCz.out).mono ?_
          rintro e wa ⟨v, rfl, hv, hxa⟩
          obtain ⟨t1, T1, p1, q1, t2, T2, p2, q2, t3, T3, p3, q3, rfl⟩ := hv.opn
          have hra := row1_new hv (fun _ => psum X Y k j 0) rfl
          have hea := Ext.new wa (.cells #[.bool t1, .slice T1 p1 q1, .bool t2, .slice T2 p2 q2, .bool t3, .slice T3 p3 q3] 32)
          have HXa := Lib.hid (hxa.trans hea)
          have HRa := Lib.hid hra
          have hsa : wz.heap.size ≤ wa.heap.size := hxa.size
          clear hra hea hxa hv
          go_wp2_with fail
          generalize wa.alloc (.cells #[.bool t1, .slice T1 p1 q1, .bool t2, .slice T2 p2 q2, .bool t3, .slice T3 p3 q3] 32) = wb at HXa HRa ⊢
          generalize wa.heap.size = ga at HRa hsa ⊢
          have HSA := Lib.hid hsa; clear hsa
          go_loopw [54] (fun i54 ws => ∃ s : Nat, s ≤ m2 ∧ i54 = .int .i64 s ∧ RowIs ws ga 1 (fun _ => psum X Y k j s) ∧ Ext wz ws) (fun i54 _ => m2 - (intOf i54).toNat)
          case atStart => exact ⟨0, by omega, rfl, HRa.out, HXa.out⟩
          case round =>
            clear dj HRa HXa
            obtain ⟨s, hs, rfl, hacc, hxs⟩ := hrel
            have HAc := Lib.hid hacc; have HXs := Lib.hid hxs; clear hacc hxs
            rename World => ws
            by_cases hst : s < m2
            · have ds : decide ((s : Int) < (m2 : Int)) = true := by simp; omega
              have djb : decide ((j : Int) < (nb : Int)) = true := by simp; omega
              have hRA := H1.out.ra k hlt (by rw [HN1.out k hlt]; omega)
              obtain ⟨e0, e1, e2, e3, e4, e5⟩ := H1.out.cells hlt (j := s) (by rw [HN1.out k hlt]; exact hst) (HEz.out.trans HXs.out)
              have HXe := Lib.hid (HXs.out.alloc (.cells #[.bool (E1 k s).s1, .slice (E1 k s).A1 (E1 k s).n1 (E1 k s).c1, .bool (E1 k s).s2, .slice (E1 k s).A2 (E1 k s).n2 (E1 k s).c2, .bool (E1 k s).s3, .slice (E1 k s).A3 (E1 k s).n3 (E1 k s).c3] 32))
              have HBe := Lib.hid (Blk.new ws 32 #[.bool (E1 k s).s1, .slice (E1 k s).A1 (E1 k s).n1 (E1 k s).c1, .bool (E1 k s).s2, .slice (E1 k s).A2 (E1 k s).n2 (E1 k s).c2, .bool (E1 k s).s3, .slice (E1 k s).A3 (E1 k s).n3 (E1 k s).c3])
              have HAe := Lib.hid (HAc.out.ext (Ext.new ws (.cells #[.bool (E1 k s).s1, .slice (E1 k s).A1 (E1 k s).n1 (E1 k s).c1, .bool (E1 k s).s2, .slice (E1 k s).A2 (E1 k s).n2 (E1 k s).c2, .bool (E1 k s).s3, .slice (E1 k s).A3 (E1 k s).n3 (E1 k s).c3] 32)))
              rw [hRA]
              go_wp2_with fail
              clear e0 e1 e2 e3 e4 e5 hRA
              generalize ws.alloc (.cells #[.bool (E1 k s).s1, .slice (E1 k s).A1 (E1 k s).n1 (E1 k s).c1, .bool (E1 k s).s2, .slice (E1 k s).A2 (E1 k s).n2 (E1 k s).c2, .bool (E1 k s).s3, .slice (E1 k s).A3 (E1 k s).n3 (E1 k s).c3] 32) = wv at HXe HBe HAe ⊢
              generalize ws.heap.size = gv_ at HBe ⊢
              obtain ⟨fa, hfa, hva⟩ := HAe.out
              have hxw := HEz.out.trans HXe.out
              have hA2 := H2.out.at0 (by omega)
              have hR2 := H2.out.ra s hst (by rw [HN2.out s hst]; omega)
              have hrow2 := H2.out.rowc hst hxw
              rw [HN2.out s hst, hR2] at hrow2
              obtain ⟨d0, d1, d2, d3, d4, d5⟩ := H2.out.cells hst (j := j) (by rw [HN2.out s hst]; exact hjt) hxw
              obtain ⟨a0, a1, a2, a3, a4, a5⟩ := RowIs.cells hfa (j := 0) (by omega) (show 0 * 6 = 0 by omega)
              have K1 := ExtOf.cell hrow2
              have D0 := ExtOf.cell d0; have D1 := ExtOf.cell d1; have D2 := ExtOf.cell d2; have D3 := ExtOf.cell d3; have D4 := ExtOf.cell d4; have D5 := ExtOf.cell d5
              have A0 := ExtOf.cell a0; have A1_ := ExtOf.cell a1; have A2_ := ExtOf.cell a2; have A3 := ExtOf.cell a3; have A4 := ExtOf.cell a4; have A5 := ExtOf.cell a5
              have B13 := ExtOf.blk HBe.out
              have HVa := Lib.hid ((hva 0 (by omega)).to (HS.out k j s hlt hjt (by omega)))
              have HV1 := Lib.hid ((HG1.out k s hlt hst).ext hxw); have HV2 := Lib.hid ((HG2.out s j hst hjt).ext hxw)
              have HFa := Lib.hid hfa; have HHa := Lib.hid hva
              have HCv := Lib.hid (Blk.ext HCz.out HXe.out)
              subst hA2
              clear hfa hva d0 d1 d2 d3 d4 d5 a0 a1 a2 a3 a4 a5 hrow2 hR2
              refine wp_region_ordE 11 [(true, 0), (true, 1), (true, 2), (true, 3), (true, 4), (true, 5), (true, 6), (true, 7), (true, 8), (false, 9), (false, 10)] (by kernel_rfl) (by kernel_rfl) ?_
              refine wpOrdT_quiet [0, 1, 2, 3, 4, 5, 6, 7, 8] [(false, 9), (false, 10)] _ (by kernel_rfl) ?_
              simp only [nthOps, nthOp, List.cons_append, List.nil_append]
              repeat (go_big_quiet_step (fail))
              refine wpQuiet_nil ?_
              refine wpOrdT_act 9 [(false, 10)] (by kernel_rfl) ?_
              intro K hK
              simp only [nthOp]
              go_wp2_with fail
              have hdd : Ext wv wv.drew := (Ext.refl _).drew
              refine (fmul_ok gf _ _ (X k s) (Y s j) Na Nb _ (HCv.out.ext hdd) (HV1.out.ext hdd) (HV2.out.ext hdd) hN2).mono ?_
              rintro e w7 ⟨v7, rfl, hv7, hx7⟩
              have HX7 := Lib.hid hx7.undrew; have HV7 := Lib.hid hv7; have HXd := Lib.hid (hdd.trans hx7)
              clear hx7 hv7 hdd
              go_wp2
              refine hK _ _ ⟨⟨w7, HX7.out⟩, rfl⟩ ?_
              clear hK K
              refine wpOrdT_act 10 [] (by kernel_rfl) ?_
              intro K hK
              simp only [nthOp]
              go_wp2_with fail
              refine (fadd_ok gf _ _ (psum X Y k j s) (X k s * Y s j) Ns (Na + Nb + 1) _ (HCv.out.ext HXd.out) (HVa.out.ext HXd.out) HV7.out hN).mono ?_
              rintro e w8 ⟨v8, rfl, hv8, hx8⟩
              obtain ⟨u1, U1, l1, r1, u2, U2, l2, r2, u3, U3, l3, r3, rfl⟩ := hv8.opn
              have HX8 := Lib.hid (HX7.out.trans hx8); have HV8 := Lib.hid (hv8.to (n := Ns) (HS.out k j (s + 1) hlt hjt (by omega)))
              clear hx8 hv8
              go_wp2
              refine hK _ _ ⟨⟨w8, HX8.out⟩, rfl⟩ ?_
              clear hK K K1 D0 D1 D2 D3 D4 D5 A0 A1_ A2_ A3 A4 A5 B13
              simp only [wpOrdT, List.drop_succ_cons, List.drop_zero]
              have HF8 := Lib.hid (HFa.out.ext HX8.out)
              obtain ⟨a0, a1, a2, a3, a4, a5⟩ := RowIs.cells HF8.out (j := 0) (by omega) (show 0 * 6 = 0 by omega)
              have fr := HF8.out.frozen
              go_wp2_with fail
              go_roundw
              case rel =>
                have hh : ∀ j', j' < 1 → GV w8 (fa j').v ((fun _ => psum X Y k j s) j') 12800 := fun j' hj' => (HHa.out j' hj').ext HX8.out
                have hp := RowIs.put (e := ⟨u1, U1, l1, r1, u2, U2, l2, r2, u3, U3, l3, r3⟩) HF8.out hh (j := 0) (by omega) (HV8.out.up (by omega))
                rw [show 0 * 6 = 0 by omega] at hp
                refine ⟨s + 1, by omega, by go_num, hp.1.congr fun j' hj' => ?_, ?_⟩
                · obtain rfl : j' = 0 := by omega
                  rw [upd_same]; rfl
                · exact ((Mod.of (HXe.out.trans HX8.out)).trans hp.2).ext fun k' hk' e => by have := HSA.out; omega
              case measure => simp [intOf]; omega
            · obtain rfl : m2 = s := by omega
              have ds : decide ((m2 : Int) < (m2 : Int)) = false := by simp
              clear hst
              go_wp2_with fail
              have HBs := Lib.hid (HBz.out.ext HXs.out)
              obtain ⟨fa, hfa, hva⟩ := HAc.out
              have HVa := Lib.hid (hva 0 (by omega))
              have djb : decide ((j : Int) < (nb : Int)) = true := by simp; omega
              have dkm : decide ((k : Int) < (m1 : Int)) = true := by simp; omega
              have K1 := ExtOf.cell (show ws.cell? ⟨G, k, none⟩ = some (.slice (some ⟨g, 0, none⟩) nb nb) by
                refine HXs.out.cell_ ?_
                rw [HOz.out.cell, mxc_at hlt, upd_same]; rfl)
              obtain ⟨a0, a1, a2, a3, a4, a5⟩ := RowIs.cells hfa (j := 0) (by omega) (show 0 * 6 = 0 by omega)
              have A0 := ExtOf.cell a0; have A1_ := ExtOf.cell a1; have A2_ := ExtOf.cell a2; have A3 := ExtOf.cell a3; have A4 := ExtOf.cell a4; have A5 := ExtOf.cell a5
              clear hfa hva a0 a1 a2 a3 a4 a5
              refine wp_region_ordE 6 [(true, 0), (true, 1), (true, 2), (true, 3), (true, 4), (true, 5)] (by kernel_rfl) (by kernel_rfl) ?_
              refine wpOrdT_quiet [0, 1, 2, 3, 4, 5] [] _ (by kernel_rfl) ?_
              simp only [nthOps, nthOp, List.cons_append, List.nil_append]
              repeat (go_big_quiet_step (fail))
              refine wpQuiet_nil ?_
              clear K1 A0 A1_ A2_ A3 A4 A5
              simp only [wpOrdT, List.drop_succ_cons, List.drop_zero]
              have HBd := Lib.hid (HBs.out.ext ((Ext.refl ws).drew)); have HVd := Lib.hid (HVa.out.ext ((Ext.refl ws).drew))
              have HXx := Lib.hid ((Ext.refl ws).drew)
              generalize ws.drew = wx at HBd HVd HXx ⊢
              obtain ⟨a0, a1, a2, a3, a4, a5⟩ := RowIs.cells HBd.out hjt rfl
              have fr := HBd.out.frozen
              go_wp2_with fail
              go_roundw
              case rel =>
                have hh : ∀ j', j' < j → GV wx (f j').v (psum X Y k j' m2) 12800 := fun j' hj' => ((HGV.out j' hj').ext HXs.out).ext HXx.out
                have hm5 : Mod (fun g' => g' = g) wx (puts wx g (j * 6) (fa 0).cells) := Mod.only (puts_only _ _ _ _) rfl
                have hS5 : Far (fun g' => g' = g) wx := fun g' hg _ => by subst hg; exact ⟨_, _, HBd.out, rowc_noint _ _⟩
                have hb6 := puts_blk (j * 6) (fa 0).cells HBd.out
                rw [rowc_set (f := f) (fa 0) hjt] at hb6
                refine ⟨j + 1, _, by omega, by go_num, hb6, fun j' hj' => ?_, (HMz.out.trans (Mod.of (HXs.out.trans HXx.out))).trans hm5⟩
                by_cases e : j' = j
                · subst e; rw [upd_same]; exact HVd.out.mod hm5 hS5
                · rw [upd_ne e]; exact (hh j' (by omega)).mod hm5 hS5
              case measure => simp [intOf]; omega
        · obtain rfl : nb = j := by omega
          have dj : decide ((nb : Int) < (nb : Int)) = false := by simp
          go_wp2_with fail
          go_roundw
          case rel =>
            refine ⟨k + 1, upd RX k ⟨some ⟨g, 0, none⟩, g, 0, nb, nb⟩, by omega, by go_num, HEz.out, HCz.out, HOz.out, fun i hi => ?_⟩
            by_cases e : i = k
            · subst e
              rw [upd_same]
              exact ⟨rfl, rfl, rfl, f, HBz.out, HGV.out⟩
            · rw [upd_ne e]
              obtain ⟨a, b, c, d, e'⟩ := HR6.out i (by omega)
              exact ⟨a, b, c, e'.mod HMz.out HFg.out d⟩
          case measure => simp [intOf]; omega
    · obtain rfl : k = m1 := by omega
      have hd : decide ((k : Int) < (k : Int)) = false := by simp
      have e0 := Blk.cell HP.out.calm
      clear hlt
      go_wp2_with fail
      exact bp_tmps2' rfl rfl ⟨G, RX, rfl, ⟨HP.out.x, HP.out.row⟩, HP.out.ext⟩
end Go.Proofs.YtclkkoiaaddllaaGreat

