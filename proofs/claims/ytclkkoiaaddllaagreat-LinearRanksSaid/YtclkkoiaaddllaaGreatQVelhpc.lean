/- Linear: the sanity check of its laws. -/
import Derived.Test.YtclkkoiaaddllaaGreatQYsnjgm
import Derived.Test.YtclkkoiaaddllaaGreatQAnkmcd
import Derived.Test.YtclkkoiaaddllaaGreatQRoweglb
import Derived.Test.YtclkkoiaaddllaaGreatQYahoea

namespace Go.Proofs.YtclkkoiaaddllaaGreat
open Go.RowKit
set_option linter.unusedVariables false

theorem qI_ok (a b : Int) (w : World) (l0 : -9223372036854775808 ≤ a) (u0 : a ≤ 9223372036854775807) (l1 : -9223372036854775808 ≤ b) (u1 : b ≤ 9223372036854775807) : Calls Tryz.prog 19 #[.int .i64 a, .int .i64 b] w fun e w' => ∃ s1 A1 n1 c1 s2 A2 n2 c2 s3 A3 n3 c3, e = .returned (gv s1 A1 n1 c1 s2 A2 n2 c2 s3 A3 n3 c3) ∧ GV w' (gv s1 A1 n1 c1 s2 A2 n2 c2 s3 A3 n3 c3) (GQ.i a b) 64 ∧ Ext w w' := by
  refine (qInt_ok a b w l0 u0 l1 u1).mono ?_
  rintro e w' ⟨v, rfl, hv, hx⟩
  have hg : GV w' v (GQ.i a b) 64 := ⟨a, b, 1, hv, is_i a b, by show a.natAbs < 2 ^ 64; omega, by show b.natAbs < 2 ^ 64; omega, by decide⟩
  obtain ⟨s1, A1, n1, c1, s2, A2, n2, c2, s3, A3, n3, c3, rfl⟩ := hg.opn
  exact ⟨_, _, _, _, _, _, _, _, _, _, _, _, rfl, hg, hx⟩
theorem row2_new {w : World} {s11 s12 s13 s21 s22 s23 : Bool} {A11 A12 A13 A21 A22 A23 : Option Addr} {n11 c11 n12 c12 n13 c13 n21 c21 n22 c22 n23 c23 : Nat} {q1 q2 : GQ} (h1 : GV w (gv s11 A11 n11 c11 s12 A12 n12 c12 s13 A13 n13 c13) q1 64) (h2 : GV w (gv s21 A21 n21 c21 s22 A22 n22 c22 s23 A23 n23 c23) q2 64) (x : Nat → GQ) (e0 : x 0 = q1) (e1 : x 1 = q2) :
    RowIs (w.alloc (.cells #[.bool s11, .slice A11 n11 c11, .bool s12, .slice A12 n12 c12, .bool s13, .slice A13 n13 c13, .bool s21, .slice A21 n21 c21, .bool s22, .slice A22 n22 c22, .bool s23, .slice A23 n23 c23] 32)) w.heap.size 2 x := by
  have hx := Ext.new w (.cells #[.bool s11, .slice A11 n11 c11, .bool s12, .slice A12 n12 c12, .bool s13, .slice A13 n13 c13, .bool s21, .slice A21 n21 c21, .bool s22, .slice A22 n22 c22, .bool s23, .slice A23 n23 c23] 32)
  refine ⟨fun j => if j = 0 then ⟨s11, A11, n11, c11, s12, A12, n12, c12, s13, A13, n13, c13⟩ else ⟨s21, A21, n21, c21, s22, A22, n22, c22, s23, A23, n23, c23⟩, Blk.new _ _ _, fun j hj => ?_⟩
  match j, hj with
  | 0, _ => rw [e0]; exact (h1.ext hx).up (by omega)
  | 1, _ => rw [e1]; exact (h2.ext hx).up (by omega)
theorem row1_new {w : World} {s11 s12 s13 : Bool} {A11 A12 A13 : Option Addr} {n11 c11 n12 c12 n13 c13 : Nat} {q1 : GQ} (h1 : GV w (gv s11 A11 n11 c11 s12 A12 n12 c12 s13 A13 n13 c13) q1 64) (x : Nat → GQ) (e0 : x 0 = q1) :
    RowIs (w.alloc (.cells #[.bool s11, .slice A11 n11 c11, .bool s12, .slice A12 n12 c12, .bool s13, .slice A13 n13 c13] 32)) w.heap.size 1 x := by
  have hx := Ext.new w (.cells #[.bool s11, .slice A11 n11 c11, .bool s12, .slice A12 n12 c12, .bool s13, .slice A13 n13 c13] 32)
  refine ⟨fun j => ⟨s11, A11, n11, c11, s12, A12, n12, c12, s13, A13, n13, c13⟩, Blk.new _ _ _, fun j hj => ?_⟩
  obtain rfl : j = 0 := by omega
  rw [e0]; exact (h1.ext hx).up (by omega)
theorem out2_new {w : World} {g0 g1 n : Nat} {x0 x1 : Nat → GQ} (h0 : RowIs w g0 n x0) (h1 : RowIs w g1 n x1) (X : Nat → Nat → GQ) (e0 : X 0 = x0) (e1 : X 1 = x1) :
    ∃ RX, Out (w.alloc (.cells #[.slice (some ⟨g0, 0, none⟩) n n, .slice (some ⟨g1, 0, none⟩) n n] 37)) w.heap.size 2 n RX X := by
  have hx := Ext.new w (.cells #[.slice (some ⟨g0, 0, none⟩) n n, .slice (some ⟨g1, 0, none⟩) n n] 37)
  refine ⟨fun i => if i = 0 then ⟨some ⟨g0, 0, none⟩, g0, 0, n, n⟩ else ⟨some ⟨g1, 0, none⟩, g1, 0, n, n⟩, Blk.new _ _ _, fun i hi => ?_⟩
  match i, hi with
  | 0, _ => exact ⟨rfl, rfl, rfl, by rw [e0]; exact h0.ext hx⟩
  | 1, _ => exact ⟨rfl, rfl, rfl, by rw [e1]; exact h1.ext hx⟩
theorem OutE.ext {W W' : World} {G m n : Nat} {X : Nat → Nat → GQ} (h : ∃ RX, Out W G m n RX X) (x : Ext W W') : ∃ RX, Out W' G m n RX X := h.elim fun RX h => ⟨RX, h.ext x⟩
set_option maxRecDepth 100000 in
theorem solve_known (Ga Gb : Nat) (w : World) (ha : ∃ RX, Out w Ga 2 2 RX kA) (hb : ∃ RX, Out w Gb 2 1 RX kB) :
    Calls Tryz.prog 20 #[.slice (some ⟨Ga, 0, none⟩) 2 2, .slice (some ⟨Gb, 0, none⟩) 2 2] w fun e w' => ∃ G, e = .returned (.tuple #[.slice (some ⟨G, 0, none⟩) 2 2, .int .i64 0]) ∧ (∃ RX, Out w' G 2 1 RX (bsol (ech 2 (side 2 kA kB) 2).X 2 2)) ∧ Ext w w' := by
  obtain ⟨RA, ha⟩ := ha
  obtain ⟨RB, hb⟩ := hb
  obtain ⟨R, E, hM, hn, hv⟩ := ha.mem (by omega) (by omega)
  obtain ⟨R2, E2, hM2, hn2, hv2⟩ := hb.mem (by omega) (by omega)
  have w1 : wd 2 R = 2 := by unfold wd; rw [if_neg (by omega)]; exact hn 0 (by omega)
  have w2 : wd 2 R2 = 1 := by unfold wd; rw [if_neg (by omega)]; exact hn2 0 (by omega)
  refine (solve_ok (m := 2) (X := kA) (Y := kB) (c := 2) (c2 := 2) (nb := 1) (N := 100) (Ns := 4) (Nd := 4) (Nx := 4) (vb := fun _ _ => true) (vb2 := fun _ _ => true) hM hM2 (fun i j hi hj => (hv i j hi (by rw [hn i hi] at hj; exact hj)).vb (by omega)) (fun i j hi hj => (hv2 i j hi (by rw [hn2 i hi] at hj; exact hj)).vb (by omega))
    ⟨by omega, by omega, fun i hi => by rw [w1]; exact hn i hi, fun _ _ _ _ => rfl⟩ ⟨by omega, by omega, fun i hi => by rw [w2]; exact hn2 i hi, fun _ _ _ _ => rfl⟩ hn hn2 (by omega) hv hv2 (by omega) kZ_room (fun _ => kroomB')).mono ?_
  rintro e w' ⟨h | ⟨_, G, RX, he, ho⟩, hx⟩
  · have := kZ_r; omega
  · exact ⟨G, he, ⟨RX, ho⟩, hx⟩
set_option maxRecDepth 100000 in
theorem det_known (Ga : Nat) (w : World) (ha : ∃ RX, Out w Ga 2 2 RX kA) :
    Calls Tryz.prog 12 #[.slice (some ⟨Ga, 0, none⟩) 2 2] w fun e w' => ∃ v, e = .returned (.tuple #[v, .int .i64 0]) ∧ GV w' v (GQ.i (-1) 0) 12800 ∧ Ext w w' := by
  obtain ⟨RA, ha⟩ := ha
  obtain ⟨R, E, hM, hn, hv⟩ := ha.mem (by omega) (by omega)
  have w1 : wd 2 R = 2 := by unfold wd; rw [if_neg (by omega)]; exact hn 0 (by omega)
  have := det_ok (m := 2) (X := kA) (c := 2) (N := 100) (N2 := 64) (vb := fun _ _ => true) hM (fun i j hi hj => (hv i j hi (by rw [hn i hi] at hj; exact hj)).vb (by omega)) ⟨by omega, by omega, fun i hi => by rw [w1]; exact hn i hi, fun _ _ _ _ => rfl⟩ hn hv (by omega) kA_room (fun _ => kp) kd (by omega) (by omega)
  rwa [kdet] at this
set_option maxRecDepth 100000 in
theorem same_known (Ga Gb : Nat) (w : World) (X Y : Nat → Nat → GQ) (ha : ∃ RX, Out w Ga 2 1 RX X) (hb : ∃ RX, Out w Gb 2 1 RX Y) (h0 : X 0 0 = Y 0 0) (h1 : X 1 0 = Y 1 0) :
    Calls Tryz.prog 22 #[.slice (some ⟨Ga, 0, none⟩) 2 2, .slice (some ⟨Gb, 0, none⟩) 2 2] w fun e w' => e = .returned (.bool true) ∧ Ext w w' := by
  obtain ⟨RA, ha⟩ := ha
  obtain ⟨RB, hb⟩ := hb
  obtain ⟨R, E, hM, hn, hv⟩ := ha.mem (by omega) (by omega)
  obtain ⟨R2, E2, hM2, hn2, hv2⟩ := hb.mem (by omega) (by omega)
  refine same_mx (c := 2) (c2 := 2) (X := X) hM hM2 (fun i hi => (hn i hi).trans (hn2 i hi).symm) (by omega) (fun i hi => by rw [hn i hi]; omega) (fun i j hi hj => hv i j hi (by rw [hn i hi] at hj; exact hj)) (fun i j hi hj => ?_)
  rw [hn i hi] at hj
  obtain rfl : j = 0 := by omega
  have e : X i 0 = Y i 0 := by
    rcases (show i = 0 ∨ i = 1 by omega) with rfl | rfl
    · exact h0
    · exact h1
  rw [e]
  exact hv2 i 0 hi (by omega)
/-- The numbers that the sanity check expects. -/
def kC : Nat → Nat → GQ := mx2 (GQ.i 7 0) (GQ.i 7 0) (GQ.i 5 0) (GQ.i 5 0)
def kGV (q : GQ) (v : Value) (w : World) : Prop := ∃ s1 A1 n1 c1 s2 A2 n2 c2 s3 A3 n3 c3, v = gv s1 A1 n1 c1 s2 A2 n2 c2 s3 A3 n3 c3 ∧ GV w (gv s1 A1 n1 c1 s2 A2 n2 c2 s3 A3 n3 c3) q 64
def kRow (q : GQ) (v : Value) (w : World) : Prop := ∃ g, v = .slice (some ⟨g, 0, none⟩) 1 1 ∧ RowIs w g 1 (fun j => if j = 0 then q else q)
def kOut (v : Value) (w : World) : Prop := ∃ G, v = .slice (some ⟨G, 0, none⟩) 2 2 ∧ ∃ RX, Out w G 2 1 RX kC
def kPhi : Nat → Nat → Nat → Value → World → Prop
  | 4, _, _, v, w => kGV (GQ.i (7) (0)) v w
  | 5, _, _, v, w => kRow (GQ.i (7) (0)) v w
  | 6, _, _, v, w => kGV (GQ.i (5) (0)) v w
  | 7, _, _, v, w => kRow (GQ.i (5) (0)) v w
  | 8, _, _, v, w => kOut v w
  | 9, _, _, v, w => v = .bool true
  | 17, _, _, v, w => kGV (GQ.i (-1) (0)) v w
  | 18, _, _, v, w => v = .bool true
  | _, _, _, _, _ => True
theorem kGV.ext {q : GQ} {v : Value} {w w' : World} (h : kGV q v w) (x : Ext w w') : kGV q v w' := by
  obtain ⟨s1, A1, n1, c1, s2, A2, n2, c2, s3, A3, n3, c3, e, h⟩ := h
  exact ⟨s1, A1, n1, c1, s2, A2, n2, c2, s3, A3, n3, c3, e, h.ext x⟩
theorem kRow.ext {q : GQ} {v : Value} {w w' : World} (h : kRow q v w) (x : Ext w w') : kRow q v w' := by
  obtain ⟨g, e, h⟩ := h
  exact ⟨g, e, h.ext x⟩
theorem kOut.ext {v : Value} {w w' : World} (h : kOut v w) (x : Ext w w') : kOut v w' := by
  obtain ⟨G, e, h⟩ := h
  exact ⟨G, e, OutE.ext h x⟩
theorem kPhi_stab (i lo hi : Nat) (v : Value) (w w' : World) (h : kPhi i lo hi v w) (x : Ext w w') : kPhi i lo hi v w' := by
  unfold kPhi at h ⊢
  split at h
  all_goals first | exact kGV.ext h x | exact kRow.ext h x | exact kOut.ext h x | exact h
theorem kGV_at {q : GQ} {w : World} {s1 s2 s3 : Bool} {A1 A2 A3 : Option Addr} {n1 c1 n2 c2 n3 c3 : Nat} (h : kGV q (gv s1 A1 n1 c1 s2 A2 n2 c2 s3 A3 n3 c3) w) : GV w (gv s1 A1 n1 c1 s2 A2 n2 c2 s3 A3 n3 c3) q 64 := by
  obtain ⟨_, _, _, _, _, _, _, _, _, _, _, _, e, h⟩ := h
  rw [e]; exact h
theorem kRow_at {q : GQ} {w : World} {g : Nat} (h : kRow q (.slice (some ⟨g, 0, none⟩) 1 1) w) : RowIs w g 1 (fun j => if j = 0 then q else q) := by
  obtain ⟨g', e, h⟩ := h
  simp at e
  subst e; exact h
theorem kOut_at {w : World} {G : Nat} (h : kOut (.slice (some ⟨G, 0, none⟩) 2 2) w) : ∃ RX, Out w G 2 1 RX kC := by
  obtain ⟨G', e, h⟩ := h
  simp at e
  subst e; exact h
set_option maxRecDepth 100000 in
set_option maxHeartbeats 6400000 in
theorem llknown_ok (w : World) : Calls Tryz.prog 9 #[] w fun e w' => e = .returned (.bool true) ∧ Ext w w' := by
  go_enter Tryz.func9, Tryz.ntmps9
  have HE := Lib.hid (Ext.refl w)
  go_wp2_with fail
  refine (qI_ok (0) (0) _ (by omega) (by omega) (by omega) (by omega)).mono ?_
  rintro e w1 ⟨s11, A11, n11, c11, s12, A12, n12, c12, s13, A13, n13, c13, rfl, h1, hx⟩
  have HI1 := Lib.hid h1; clear h1
  replace HE := Lib.hid (HE.out.trans hx); clear hx
  go_wp2_with fail
  refine (qI_ok (1) (0) _ (by omega) (by omega) (by omega) (by omega)).mono ?_
  rintro e w2 ⟨s21, A21, n21, c21, s22, A22, n22, c22, s23, A23, n23, c23, rfl, h2, hx⟩
  have HI2 := Lib.hid h2; clear h2
  replace HI1 := Lib.hid (HI1.out.ext hx)
  replace HE := Lib.hid (HE.out.trans hx); clear hx
  go_wp2_with fail
  have hx := Ext.new w2 (.cells #[.bool s11, .slice A11 n11 c11, .bool s12, .slice A12 n12 c12, .bool s13, .slice A13 n13 c13, .bool s21, .slice A21 n21 c21, .bool s22, .slice A22 n22 c22, .bool s23, .slice A23 n23 c23] 32)
  have HRa := Lib.hid (row2_new (w := w2) HI1.out HI2.out (fun j => if j = 0 then GQ.i 0 0 else GQ.i 1 0) rfl rfl)
  replace HE := Lib.hid (HE.out.trans hx); clear hx HI1 HI2
  have hsz : (w2.alloc (.cells #[.bool s11, .slice A11 n11 c11, .bool s12, .slice A12 n12 c12, .bool s13, .slice A13 n13 c13, .bool s21, .slice A21 n21 c21, .bool s22, .slice A22 n22 c22, .bool s23, .slice A23 n23 c23] 32)).heap.size = w2.heap.size + 1 := by simp
  have HZa := Lib.hid hsz; clear hsz
  generalize w2.alloc _ = Wa at  HRa HE HZa ⊢
  generalize w2.heap.size = ga at HRa HZa ⊢
  refine (qI_ok (1) (0) _ (by omega) (by omega) (by omega) (by omega)).mono ?_
  rintro e w3 ⟨s31, A31, n31, c31, s32, A32, n32, c32, s33, A33, n33, c33, rfl, h3, hx⟩
  have HI3 := Lib.hid h3; clear h3
  replace HRa := Lib.hid (HRa.out.ext hx)
  replace HE := Lib.hid (HE.out.trans hx); clear hx
  go_wp2_with fail
  refine (qI_ok (0) (0) _ (by omega) (by omega) (by omega) (by omega)).mono ?_
  rintro e w4 ⟨s41, A41, n41, c41, s42, A42, n42, c42, s43, A43, n43, c43, rfl, h4, hx⟩
  have HI4 := Lib.hid h4; clear h4
  replace HRa := Lib.hid (HRa.out.ext hx)
  replace HI3 := Lib.hid (HI3.out.ext hx)
  replace HE := Lib.hid (HE.out.trans hx); clear hx
  go_wp2_with fail
  have hx := Ext.new w4 (.cells #[.bool s31, .slice A31 n31 c31, .bool s32, .slice A32 n32 c32, .bool s33, .slice A33 n33 c33, .bool s41, .slice A41 n41 c41, .bool s42, .slice A42 n42 c42, .bool s43, .slice A43 n43 c43] 32)
  have HRb := Lib.hid (row2_new (w := w4) HI3.out HI4.out (fun j => if j = 0 then GQ.i 1 0 else GQ.i 0 0) rfl rfl)
  replace HRa := Lib.hid (HRa.out.ext hx)
  replace HE := Lib.hid (HE.out.trans hx); clear hx HI3 HI4
  have hsz : (w4.alloc (.cells #[.bool s31, .slice A31 n31 c31, .bool s32, .slice A32 n32 c32, .bool s33, .slice A33 n33 c33, .bool s41, .slice A41 n41 c41, .bool s42, .slice A42 n42 c42, .bool s43, .slice A43 n43 c43] 32)).heap.size = w4.heap.size + 1 := by simp
  have HZb := Lib.hid hsz; clear hsz
  generalize w4.alloc _ = Wb at HRa HRb HE HZb ⊢
  generalize w4.heap.size = gb at HRb HZb ⊢
  have hx := Ext.new Wb (.cells #[.slice (some ⟨ga, 0, none⟩) 2 2, .slice (some ⟨gb, 0, none⟩) 2 2] 37)
  have HOA := Lib.hid (out2_new (w := Wb) (n := 2) HRa.out HRb.out (kA) rfl rfl)
  replace HE := Lib.hid (HE.out.trans hx); clear hx HRa HRb
  replace HOA := Lib.hid (HZb.out ▸ HOA.out)
  generalize Wb.alloc _ = WA at  HOA HE ⊢
  generalize gb + 1 = gA at HOA ⊢
  refine (qI_ok (5) (0) _ (by omega) (by omega) (by omega) (by omega)).mono ?_
  rintro e w5 ⟨s51, A51, n51, c51, s52, A52, n52, c52, s53, A53, n53, c53, rfl, h5, hx⟩
  have HI5 := Lib.hid h5; clear h5
  replace HOA := Lib.hid (OutE.ext HOA.out hx)
  replace HE := Lib.hid (HE.out.trans hx); clear hx
  go_wp2_with fail
  have hx := Ext.new w5 (.cells #[.bool s51, .slice A51 n51 c51, .bool s52, .slice A52 n52 c52, .bool s53, .slice A53 n53 c53] 32)
  have HRc := Lib.hid (row1_new (w := w5) HI5.out (fun j => if j = 0 then GQ.i 5 0 else GQ.i 5 0) rfl)
  replace HOA := Lib.hid (OutE.ext HOA.out hx)
  replace HE := Lib.hid (HE.out.trans hx); clear hx HI5
  have hsz : (w5.alloc (.cells #[.bool s51, .slice A51 n51 c51, .bool s52, .slice A52 n52 c52, .bool s53, .slice A53 n53 c53] 32)).heap.size = w5.heap.size + 1 := by simp
  have HZc := Lib.hid hsz; clear hsz
  generalize w5.alloc _ = Wc at HOA HRc HE HZc ⊢
  generalize w5.heap.size = gc at HRc HZc ⊢
  refine (qI_ok (7) (0) _ (by omega) (by omega) (by omega) (by omega)).mono ?_
  rintro e w6 ⟨s61, A61, n61, c61, s62, A62, n62, c62, s63, A63, n63, c63, rfl, h6, hx⟩
  have HI6 := Lib.hid h6; clear h6
  replace HOA := Lib.hid (OutE.ext HOA.out hx)
  replace HRc := Lib.hid (HRc.out.ext hx)
  replace HE := Lib.hid (HE.out.trans hx); clear hx
  go_wp2_with fail
  have hx := Ext.new w6 (.cells #[.bool s61, .slice A61 n61 c61, .bool s62, .slice A62 n62 c62, .bool s63, .slice A63 n63 c63] 32)
  have HRd := Lib.hid (row1_new (w := w6) HI6.out (fun j => if j = 0 then GQ.i 7 0 else GQ.i 7 0) rfl)
  replace HOA := Lib.hid (OutE.ext HOA.out hx)
  replace HRc := Lib.hid (HRc.out.ext hx)
  replace HE := Lib.hid (HE.out.trans hx); clear hx HI6
  have hsz : (w6.alloc (.cells #[.bool s61, .slice A61 n61 c61, .bool s62, .slice A62 n62 c62, .bool s63, .slice A63 n63 c63] 32)).heap.size = w6.heap.size + 1 := by simp
  have HZd := Lib.hid hsz; clear hsz
  generalize w6.alloc _ = Wd at HOA HRc HRd HE HZd ⊢
  generalize w6.heap.size = gd at HRd HZd ⊢
  have hx := Ext.new Wd (.cells #[.slice (some ⟨gc, 0, none⟩) 1 1, .slice (some ⟨gd, 0, none⟩) 1 1] 37)
  have HOB := Lib.hid (out2_new (w := Wd) (n := 1) HRc.out HRd.out (kB) rfl rfl)
  replace HOA := Lib.hid (OutE.ext HOA.out hx)
  replace HE := Lib.hid (HE.out.trans hx); clear hx HRc HRd
  replace HOB := Lib.hid (HZd.out ▸ HOB.out)
  generalize Wd.alloc _ = WB at HOA HOB HE ⊢
  generalize gd + 1 = gB at HOB ⊢
  refine (solve_known gA gB _ HOA.out HOB.out).mono ?_
  rintro e w7 ⟨G, rfl, hG, hx⟩
  have HG := Lib.hid hG; clear hG
  replace HOA := Lib.hid (OutE.ext HOA.out hx)
  replace HE := Lib.hid (HE.out.trans hx); clear hx HOB
  go_wp2_with fail
  refine (det_known gA _ HOA.out).mono ?_
  rintro e w8 ⟨v, rfl, hv, hx⟩
  obtain ⟨s91, A91, n91, c91, s92, A92, n92, c92, s93, A93, n93, c93, rfl⟩ := hv.opn
  have HV := Lib.hid hv; clear hv
  replace HG := Lib.hid (OutE.ext HG.out hx)
  replace HE := Lib.hid (HE.out.trans hx); clear hx HOA
  go_wp2_with fail
  have Y4 := ExtOf.blk (Blk.new w8 32 #[.bool s91, .slice A91 n91 c91, .bool s92, .slice A92 n92 c92, .bool s93, .slice A93 n93 c93])
  have HV2 := Lib.hid (HV.out.ext (Ext.new w8 (.cells #[.bool s91, .slice A91 n91 c91, .bool s92, .slice A92 n92 c92, .bool s93, .slice A93 n93 c93] 32)))
  have HG2 := Lib.hid (OutE.ext HG.out (Ext.new w8 (.cells #[.bool s91, .slice A91 n91 c91, .bool s92, .slice A92 n92 c92, .bool s93, .slice A93 n93 c93] 32)))
  have hE_ := HE.out.trans (Ext.new w8 (.cells #[.bool s91, .slice A91 n91 c91, .bool s92, .slice A92 n92 c92, .bool s93, .slice A93 n93 c93] 32))
  clear HV HG HE
  generalize w8.alloc (.cells #[.bool s91, .slice A91 n91 c91, .bool s92, .slice A92 n92 c92, .bool s93, .slice A93 n93 c93] 32) = wk at Y4 HV2 HG2 hE_ ⊢
  have HE_ := Lib.hid hE_; clear hE_
  refine wp_region_tame 20 (hasF [(4, .any), (5, .any), (6, .any), (7, .any), (8, .any), (9, .any), (17, .any), (18, .any)]) kPhi kPhi_stab (by kernel_rfl) (by kernel_rfl) ?_
  simp only [tk1, tk0, dp1, dp0]
  refine wpT_quiet 4 (by rfl) (by kernel_rfl) ?_
  simp only [tk1, tk0, dp1, dp0]
  repeat (go_big_quiet_step (fail))
  refine wpQuiet_nil ?_
  refine wpT_eff (by rfl) (by rfl) (by rfl) ?_ ?_
  · intro W_ hK
    have hW := hK.1
    clear hK
    go_simp
    exact ⟨rfl, (qI_ok (7) (0) _ (by omega) (by omega) (by omega) (by omega)).mono fun e w' ⟨sp1, Ap1, np1, cp1, sp2, Ap2, np2, cp2, sp3, Ap3, np3, cp3, he, hg, hx⟩ => ⟨_, he, hx, sp1, Ap1, np1, cp1, sp2, Ap2, np2, cp2, sp3, Ap3, np3, cp3, rfl, hg⟩⟩
  intro v_ lop hip hr_
  obtain ⟨W_, hW_⟩ := hr_
  obtain ⟨sp1, Ap1, np1, cp1, sp2, Ap2, np2, cp2, sp3, Ap3, np3, cp3, rfl, -⟩ : kGV (GQ.i (7) (0)) v_ W_ := hW_.get
  clear hW_ W_
  try simp only [Act.put, sa0, sa1, sa2]
  refine wpT_eff (by rfl) (by rfl) (by rfl) ?_ ?_
  · intro W_ hK
    have hF : kGV (GQ.i (7) (0)) ((gv sp1 Ap1 np1 cp1 sp2 Ap2 np2 cp2 sp3 Ap3 np3 cp3)) W_ := hK.2 4 ((gv sp1 Ap1 np1 cp1 sp2 Ap2 np2 cp2 sp3 Ap3 np3 cp3), lop, hip) (by rfl) (anc_of (by kernel_rfl))
    clear hK
    go_simp
    have hF2 := kGV_at hF
    exact ⟨Ext.new _ _, W_.heap.size, rfl, row1_new hF2 _ rfl⟩
  intro v_ logp higp hr_
  obtain ⟨W_, hW_⟩ := hr_
  obtain ⟨gp, rfl, -⟩ : kRow (GQ.i (7) (0)) v_ W_ := hW_.get
  clear hW_ W_
  try simp only [Act.put, sa0, sa1, sa2]
  refine wpT_eff (by rfl) (by rfl) (by rfl) ?_ ?_
  · intro W_ hK
    have hW := hK.1
    clear hK
    go_simp
    exact ⟨rfl, (qI_ok (5) (0) _ (by omega) (by omega) (by omega) (by omega)).mono fun e w' ⟨sq1, Aq1, nq1, cq1, sq2, Aq2, nq2, cq2, sq3, Aq3, nq3, cq3, he, hg, hx⟩ => ⟨_, he, hx, sq1, Aq1, nq1, cq1, sq2, Aq2, nq2, cq2, sq3, Aq3, nq3, cq3, rfl, hg⟩⟩
  intro v_ loq hiq hr_
  obtain ⟨W_, hW_⟩ := hr_
  obtain ⟨sq1, Aq1, nq1, cq1, sq2, Aq2, nq2, cq2, sq3, Aq3, nq3, cq3, rfl, -⟩ : kGV (GQ.i (5) (0)) v_ W_ := hW_.get
  clear hW_ W_
  try simp only [Act.put, sa0, sa1, sa2]
  refine wpT_eff (by rfl) (by rfl) (by rfl) ?_ ?_
  · intro W_ hK
    have hF : kGV (GQ.i (5) (0)) ((gv sq1 Aq1 nq1 cq1 sq2 Aq2 nq2 cq2 sq3 Aq3 nq3 cq3)) W_ := hK.2 6 ((gv sq1 Aq1 nq1 cq1 sq2 Aq2 nq2 cq2 sq3 Aq3 nq3 cq3), loq, hiq) (by rfl) (anc_of (by kernel_rfl))
    clear hK
    go_simp
    have hF2 := kGV_at hF
    exact ⟨Ext.new _ _, W_.heap.size, rfl, row1_new hF2 _ rfl⟩
  intro v_ logq higq hr_
  obtain ⟨W_, hW_⟩ := hr_
  obtain ⟨gq, rfl, -⟩ : kRow (GQ.i (5) (0)) v_ W_ := hW_.get
  clear hW_ W_
  try simp only [Act.put, sa0, sa1, sa2]
  refine wpT_eff (by rfl) (by rfl) (by rfl) ?_ ?_
  · intro W_ hK
    have hF1 : kRow (GQ.i (7) (0)) (.slice (some ⟨gp, 0, none⟩) 1 1) W_ := hK.2 5 (.slice (some ⟨gp, 0, none⟩) 1 1, logp, higp) (by rfl) (anc_of (by kernel_rfl))
    have hF2 : kRow (GQ.i (5) (0)) (.slice (some ⟨gq, 0, none⟩) 1 1) W_ := hK.2 7 (.slice (some ⟨gq, 0, none⟩) 1 1, logq, higq) (by rfl) (anc_of (by kernel_rfl))
    clear hK
    go_simp
    exact ⟨Ext.new _ _, W_.heap.size, rfl, out2_new (kRow_at hF1) (kRow_at hF2) kC rfl rfl⟩
  intro v_ loG hiG hr_
  obtain ⟨W_, hW_⟩ := hr_
  obtain ⟨GC, rfl, -⟩ : kOut v_ W_ := hW_.get
  clear hW_ W_
  try simp only [Act.put, sa0, sa1, sa2]
  refine wpT_eff (by rfl) (by rfl) (by rfl) ?_ ?_
  · intro W_ hK
    have hW := hK.1
    have hF : kOut (.slice (some ⟨GC, 0, none⟩) 2 2) W_ := hK.2 8 (.slice (some ⟨GC, 0, none⟩) 2 2, loG, hiG) (by rfl) (anc_of (by kernel_rfl))
    clear hK
    go_simp
    exact ⟨rfl, (same_known G GC W_ _ kC (OutE.ext HG2.out hW) (kOut_at hF) (by rw [ks3]; rfl) (by rw [ks2]; rfl)).mono fun e w' ⟨he, hx⟩ => ⟨_, he, hx, rfl⟩⟩
  intro v_ lo_ hi_ hr_
  obtain ⟨W_, hW_⟩ := hr_
  obtain rfl : v_ = .bool true := hW_.get
  clear hW_ W_
  try simp only [Act.put, sa0, sa1, sa2]
  refine wpT_quiet 7 (by rfl) (by kernel_rfl) ?_
  simp only [tk1, tk0, dp1, dp0]
  repeat (go_big_quiet_step (fail))
  refine wpQuiet_nil ?_
  refine wpT_eff (by rfl) (by rfl) (by rfl) ?_ ?_
  · intro W_ hK
    have hW := hK.1
    clear hK
    go_simp
    exact ⟨rfl, (qI_ok (-1) (0) _ (by omega) (by omega) (by omega) (by omega)).mono fun e w' ⟨sr1, Ar1, nr1, cr1, sr2, Ar2, nr2, cr2, sr3, Ar3, nr3, cr3, he, hg, hx⟩ => ⟨_, he, hx, sr1, Ar1, nr1, cr1, sr2, Ar2, nr2, cr2, sr3, Ar3, nr3, cr3, rfl, hg⟩⟩
  intro v_ lor hir hr_
  obtain ⟨W_, hW_⟩ := hr_
  obtain ⟨sr1, Ar1, nr1, cr1, sr2, Ar2, nr2, cr2, sr3, Ar3, nr3, cr3, rfl, -⟩ : kGV (GQ.i (-1) (0)) v_ W_ := hW_.get
  clear hW_ W_
  try simp only [Act.put, sa0, sa1, sa2]
  refine wpT_eff (by rfl) (by rfl) (by rfl) ?_ ?_
  · intro W_ hK
    have hW := hK.1
    have hF : kGV (GQ.i (-1) (0)) ((gv sr1 Ar1 nr1 cr1 sr2 Ar2 nr2 cr2 sr3 Ar3 nr3 cr3)) W_ := hK.2 17 ((gv sr1 Ar1 nr1 cr1 sr2 Ar2 nr2 cr2 sr3 Ar3 nr3 cr3), lor, hir) (by rfl) (anc_of (by kernel_rfl))
    clear hK
    go_simp
    exact ⟨rfl, (qSame_q _ _ (GQ.i (-1) 0) (GQ.i (-1) 0) 12800 64 W_ (HV2.out.ext hW) (kGV_at hF) rfl).mono fun e w' ⟨he, hx⟩ => ⟨_, he, hx, rfl⟩⟩
  intro v_ los his hr_
  obtain ⟨W_, hW_⟩ := hr_
  obtain rfl : v_ = .bool true := hW_.get
  clear hW_ W_
  try simp only [Act.put, sa0, sa1, sa2]
  refine wpT_quiet 1 (by rfl) (by kernel_rfl) ?_
  simp only [tk1, tk0, dp1, dp0]
  repeat (go_big_quiet_step (fail))
  refine wpQuiet_nil ?_
  refine wpT_nil ?_
  intro wz hK
  have hx := hK.ext
  clear hK Y4
  go_wp2_with fail
  go_ret
  exact ⟨rfl, HE_.out.trans hx⟩
end Go.Proofs.YtclkkoiaaddllaaGreat

namespace Go.Proofs.YtclkkoiaaddllaaGreat
open Go.RowKit
set_option linter.unusedVariables false

section
variable {A A2 : Option Addr} {B O B2 O2 m m2 c c2 : Nat} {R R2 : Nat → Rw} {E E2 : Nat → Nat → En} {w : World} {vb vb2 : Nat → Nat → Bool}
set_option maxRecDepth 100000 in
set_option maxHeartbeats 3200000 in
theorem rank_arg (h : Mem w A B O m R E) (hvb : ∀ i j, i < m → j < (R i).n → VB w (E i j).v (vb i j)) (hM : ¬ IsM m R vb) :
    Calls Tryz.prog 10 #[.slice A m c] w fun e w' => e = .returned (.tuple #[.int .i64 0, .int .i64 1]) ∧ Ext w w' := by
  have HMx := Lib.hid (matrix_any (c := c) h hvb false ⟨fun h => by simp at h, fun h => absurd h hM⟩)
  clear h hvb hM
  go_enter Tryz.func10, Tryz.ntmps10
  go_wp2_with fail
  refine HMx.out.mono ?_
  rintro e w1 ⟨rfl, hx1⟩
  go_wp2_with fail
  exact bp_tmps2 rfl rfl ⟨rfl, hx1⟩
set_option maxRecDepth 100000 in
set_option maxHeartbeats 3200000 in
theorem det_cnt (h : Mem w A B O m R E) (hvb : ∀ i j, i < m → j < (R i).n → VB w (E i j).v (vb i j)) (hM : IsM m R vb) (hne : m ≠ wd m R) :
    Calls Tryz.prog 12 #[.slice A m c] w fun e w' => e = .returned (.tuple #[gv false none 0 0 false none 0 0 false none 0 0, .int .i64 3]) ∧ Ext w w' := by
  have HMx := Lib.hid (fun (w' : World) (x : Ext w w') => matrix_any (c := c) (h.ext x) (fun i j hi hj => (hvb i j hi hj).ext x) true ⟨fun _ => hM, fun _ => rfl⟩)
  have HWd := Lib.hid (fun (w' : World) (x : Ext w w') => width_any (c := c) (h.ext x))
  have hbne : ((m : Int) != (wd m R : Int)) = true := by simp; omega
  clear h hvb hM hne
  have hE0 := Ext.new w (.cells #[.bool false, .slice none 0 0, .bool false, .slice none 0 0, .bool false, .slice none 0 0] 32)
  have hB2 := Blk.new w 32 #[.bool false, .slice none 0 0, .bool false, .slice none 0 0, .bool false, .slice none 0 0]
  go_enter Tryz.func12, Tryz.ntmps12
  go_wp2_with fail
  generalize (w.alloc (.cells #[.bool false, .slice none 0 0, .bool false, .slice none 0 0, .bool false, .slice none 0 0] 32)) = w0 at hE0 hB2 ⊢
  generalize hg2 : w.heap.size = g2 at hB2 ⊢
  have HG2 := Lib.hid hg2; clear hg2
  refine (HMx.out _ hE0).mono ?_
  rintro e w1 ⟨rfl, hx1⟩
  have HE1 := Lib.hid (hE0.trans hx1); have HB2 := Lib.hid (hB2.ext hx1); clear hx1 hE0 hB2
  go_wp2_with fail
  refine (HWd.out _ HE1.out).mono ?_
  rintro e w2 ⟨rfl, hx2⟩
  have HE2 := Lib.hid (HE1.out.trans hx2); have HB3 := Lib.hid (HB2.out.ext hx2)
  clear hx2 HE1 HB2
  have k2 := HB3.out.cell; have f2 := HB3.out.frozen
  have hb4 : Blk (puts w2 g2 0 [.bool false, .slice none 0 0, .bool false, .slice none 0 0, .bool false, .slice none 0 0]) g2 32 #[.bool false, .slice none 0 0, .bool false, .slice none 0 0, .bool false, .slice none 0 0] := by
    have h1 := puts_blk 0 [.bool false, .slice none 0 0, .bool false, .slice none 0 0, .bool false, .slice none 0 0] HB3.out
    have ec : setsA #[.bool false, .slice none 0 0, .bool false, .slice none 0 0, .bool false, .slice none 0 0] 0 [.bool false, .slice none 0 0, .bool false, .slice none 0 0, .bool false, .slice none 0 0] = #[.bool false, .slice none 0 0, .bool false, .slice none 0 0, .bool false, .slice none 0 0] := by kernel_rfl
    rw [ec] at h1; exact h1
  have he4 := puts_ext (w0 := w) (g := g2) (by have := HG2.out; show w.heap.size ≤ g2; omega) 0 [.bool false, .slice none 0 0, .bool false, .slice none 0 0, .bool false, .slice none 0 0] HE2.out
  have HB4 := Lib.hid hb4; have HE4 := Lib.hid he4
  clear hb4 he4
  go_wp2_with fail
  exact bp_gauss2 rfl rfl rfl HB4.out ⟨rfl, HE4.out⟩
end
end Go.Proofs.YtclkkoiaaddllaaGreat

namespace Go.Proofs.YtclkkoiaaddllaaGreat
open Go.RowKit
set_option linter.unusedVariables false

theorem mem0 (w : World) (A : Option Addr) : Mem w A 0 0 0 (fun _ => nilRw) (fun _ _ => zEn) := ⟨fun h => absurd h (by omega), fun i hi => absurd hi (by omega), fun i hi => absurd hi (by omega), fun i j hi => absurd hi (by omega), by omega, fun i hi => absurd hi (by omega)⟩
end Go.Proofs.YtclkkoiaaddllaaGreat

namespace Go.Proofs.YtclkkoiaaddllaaGreat
open Go.RowKit
set_option linter.unusedVariables false

end Go.Proofs.YtclkkoiaaddllaaGreat

namespace Go.Proofs.YtclkkoiaaddllaaGreat
open Go.RowKit
set_option linter.unusedVariables false

section
variable {w w' : World} {A : Option Addr} {B O m c : Nat} {R : Nat → Rw} {E : Nat → Nat → En}
set_option maxRecDepth 100000 in
set_option maxHeartbeats 3200000 in
theorem qMatrix_any (h : Mem w A B O m R E) {vb : Nat → Nat → Bool} (hv : ∀ i j, i < m → j < (R i).n → VB w (E i j).v (vb i j)) (b : Bool) (hb : b = true ↔ IsM m R vb) :
    Calls Tryz.prog 15 #[.slice A m c] w fun e w' => e = .returned (.bool b) ∧ Ext w w' := by
  have HM := Lib.hid h; have HV := Lib.hid hv
  have hm0 : (0 : Int) ≤ (m : Int) := by omega
  by_cases h24 : 24 < m
  · have d24 : decide ((24 : Int) < (m : Int)) = true := by simp; omega
    have hF : b = false := by cases b <;> simp_all [IsM]; omega
    subst hF
    clear h hv hb h24
    go_enter Tryz.func15, Tryz.ntmps15
    go_wp2_with fail
    go_ret
    exact ⟨rfl, Ext.refl _⟩
  have d24 : decide ((24 : Int) < (m : Int)) = false := by simp; omega
  have HB := Lib.hid hb; clear hb
  have h24' : m ≤ 24 := by omega
  clear h hv
  go_enter Tryz.func15, Tryz.ntmps15
  go_wp2_with fail
  go_loopw [12] (fun i wr => ∃ k : Nat, k ≤ m ∧ i = .int .i64 k ∧ (∀ i, i < k → (R i).n = (R 0).n ∧ (R i).n ≤ 24 ∧ ∀ j, j < (R i).n → vb i j = true) ∧ Ext w wr) (fun i _ => m - (intOf i).toNat)
  case atStart => exact ⟨0, by omega, rfl, by intros; omega, Ext.refl _⟩
  case round =>
    obtain ⟨k, hk, rfl, hall, hx⟩ := hrel
    have HA := Lib.hid hall; have HX := Lib.hid hx; clear hall hx
    by_cases hlt : k < m
    · have hd : decide ((k : Int) < (m : Int)) = true := by simp; omega
      have hA := HM.out.at0 (by omega)
      have hr := HM.out.rowc hlt HX.out
      have hr0 : _ := HM.out.rowc (i := 0) (by omega) HX.out
      rw [Nat.add_zero] at hr0
      subst hA
      have q0 : (0 : Int) < (m : Int) := by omega
      by_cases hn : (R k).n = (R 0).n
      · have dn : (((R k).n : Int) != ((R 0).n : Int)) = false := by simp [hn]
        have HN := Lib.hid hn; clear hn
        by_cases h25 : 24 < (R k).n
        · have d25 : decide ((24 : Int) < ((R k).n : Int)) = true := by simp; omega
          have hF : b = false := by
            cases b
            · rfl
            · have := (HB.out.1 rfl).2.1
              unfold wd at this
              rw [if_neg (by omega), ← HN.out] at this; omega
          subst hF
          clear h25
          go_wp2_with fail
          go_ret
          exact ⟨rfl, HX.out⟩
        have d25 : decide ((24 : Int) < ((R k).n : Int)) = false := by simp; omega
        have H25 := Lib.hid (show (R k).n ≤ 24 by omega); clear h25
        go_wp2_with fail
        go_loopw [30] (fun i wr => ∃ k' : Nat, k' ≤ (R k).n ∧ i = .int .i64 k' ∧ (∀ j, j < k' → vb k j = true) ∧ Ext w wr) (fun i _ => (R k).n - (intOf i).toNat)
        case atStart => exact ⟨0, by omega, rfl, by intros; omega, HX.out⟩
        case round =>
          clear hd hr hr0
          obtain ⟨j, hj, rfl, hall, hx⟩ := hrel
          have HA3 := Lib.hid hall; have HX3 := Lib.hid hx; clear hall hx
          by_cases hjt : j < (R k).n
          · have hd : decide ((j : Int) < ((R k).n : Int)) = true := by simp; omega
            have hRA := HM.out.ra k hlt (by omega)
            have hln := HM.out.ln k hlt
            obtain ⟨c0, c1, c2, c3, c4, c5⟩ := HM.out.cells hlt hjt HX3.out
            rw [hRA]
            generalize hvb : vb k j = bv
            have HVB : Hid (VB w (E k j).v bv) := Lib.hid (hvb ▸ HV.out k j hlt hjt)
            have HVQ := Lib.hid hvb; clear hvb
            have HE := Lib.hid (HX3.out.alloc (.cells #[.bool (E k j).s1, .slice (E k j).A1 (E k j).n1 (E k j).c1, .bool (E k j).s2, .slice (E k j).A2 (E k j).n2 (E k j).c2, .bool (E k j).s3, .slice (E k j).A3 (E k j).n3 (E k j).c3] 32))
            go_wp2_with fail
            refine ((HVB.out.ext HE.out).q).mono ?_
            rintro e w4 ⟨rfl, hx4⟩
            cases bv
            · have hF : b = false := by
                cases b
                · rfl
                · have := (HB.out.1 rfl).2.2.2 k j hlt hjt
                  rw [HVQ.out] at this; cases this
              subst hF
              go_wp2_with fail
              go_ret
              exact ⟨rfl, HE.out.trans hx4⟩
            · go_wp2_with fail
              go_roundw
              case rel =>
                refine ⟨j + 1, by omega, by go_num, fun i hi => ?_, HE.out.trans hx4⟩
                by_cases e : i = j
                · subst e; exact HVQ.out
                · exact HA3.out i (by omega)
              case measure => simp [intOf]; omega
          · obtain rfl : j = (R k).n := by omega
            have hd : decide (((R k).n : Int) < ((R k).n : Int)) = false := by simp
            go_wp2_with fail
            go_roundw
            case rel =>
              refine ⟨k + 1, by omega, by go_num, fun i hi => ?_, HX3.out⟩
              by_cases e : i = k
              · subst e; exact ⟨HN.out, H25.out, HA3.out⟩
              · exact HA.out i (by omega)
            case measure => simp [intOf]; omega
      · have dn : (((R k).n : Int) != ((R 0).n : Int)) = true := by simp; omega
        have hF : b = false := by
          cases b
          · rfl
          · have h1 := (HB.out.1 rfl).2.2.1 k hlt
            have h2 := (HB.out.1 rfl).2.2.1 0 (by omega)
            exact absurd (h1.trans h2.symm) hn
        subst hF
        clear hn
        go_wp2_with fail
        go_ret
        exact ⟨rfl, HX.out⟩
    · obtain rfl : k = m := by omega
      have hd : decide ((k : Int) < (k : Int)) = false := by simp
      have hT : b = true := by
        refine HB.out.2 ⟨h24', ?_, fun i hi => ?_, fun i j hi hj => (HA.out i hi).2.2 j hj⟩
        · unfold wd
          split
          · omega
          · exact (HA.out 0 (by omega)).2.1
        · unfold wd
          rw [if_neg (by omega)]
          exact (HA.out i hi).1
      subst hT
      clear hlt
      go_wp2_with fail
      go_ret
      exact ⟨rfl, HX.out⟩
end
/-- Small enough for the laws. -/
def Sml (m : Nat) (R : Nat → Rw) (E : Nat → Nat → En) : Prop := m ≤ 6 ∧ (∀ i, i < m → (R i).n ≤ 6) ∧ ∀ i j, i < m → j < (R i).n → (E i j).n1 ≤ 1 ∧ (E i j).n2 ≤ 1 ∧ (E i j).n3 ≤ 1
set_option maxRecDepth 100000 in
set_option maxHeartbeats 3200000 in
theorem small_any {w : World} {g p c : Nat} {fA : Nat → Option Addr} {fB fO fm fc : Nat → Nat} {fR : Nat → Nat → Rw} {fE : Nat → Nat → Nat → En} (hM : ∀ k, k < p → Mem w (fA k) (fB k) (fO k) (fm k) (fR k) (fE k)) (hg : ∀ k, k < p → w.cell? ⟨g, k, none⟩ = some (.slice (fA k) (fm k) (fc k)))
    (hp : p ≤ 1000) (b : Bool) (hb : b = true ↔ ∀ k, k < p → Sml (fm k) (fR k) (fE k)) :
    Calls Tryz.prog 8 #[.slice (some ⟨g, 0, none⟩) p c] w fun e w' => e = .returned (.bool b) ∧ Ext w w' := by
  have HM := Lib.hid hM; have HG := Lib.hid hg; have HB := Lib.hid hb
  clear hM hg hb
  go_enter Tryz.func8, Tryz.ntmps8
  go_wp2_with fail
  go_loopw [11] (fun i wr => ∃ k : Nat, k ≤ p ∧ i = .int .i64 k ∧ (∀ i, i < k → Sml (fm i) (fR i) (fE i)) ∧ Ext w wr) (fun i _ => p - (intOf i).toNat)
  case atStart => exact ⟨0, by omega, rfl, by intros; omega, Ext.refl _⟩
  case round =>
    obtain ⟨t, ht, rfl, hall, hx⟩ := hrel
    have HT := Lib.hid hall; have HX0 := Lib.hid hx; clear hall hx
    by_cases htp : t < p
    · have hd : decide ((t : Int) < (p : Int)) = true := by simp; omega
      have hc := HX0.out.cell_ (HG.out t htp)
      have Hm := Lib.hid (HM.out t htp)
      have HBt := Lib.hid (fun (h : b = true) => HB.out.1 h t htp)
      generalize fA t = A at hc Hm
      generalize fB t = B at Hm
      generalize fO t = O at Hm
      generalize hfm : fm t = m at hc Hm HBt
      generalize fc t = cc at hc
      generalize hfR : fR t = R at Hm HBt
      generalize hfE : fE t = E at Hm HBt
      have HQ := Lib.hid (show ∀ (h : Sml m R E), Sml (fm t) (fR t) (fE t) from fun h => by rw [hfm, hfR, hfE]; exact h)
      clear hfm hfR hfE
      by_cases h6 : 6 < m
      · have d6 : decide ((6 : Int) < (m : Int)) = true := by simp; omega
        have hF : b = false := by
          cases b
          · rfl
          · have := (HBt.out rfl).1; omega
        subst hF
        clear h6
        go_wp2_with fail
        go_ret
        exact ⟨rfl, HX0.out⟩
      have d6 : decide ((6 : Int) < (m : Int)) = false := by simp; omega
      have H6 := Lib.hid (show m ≤ 6 by omega); clear h6
      have hm0 : (0 : Int) ≤ (m : Int) := by omega
      go_wp2_with fail
      go_loopw [20] (fun i wr => ∃ k : Nat, k ≤ m ∧ i = .int .i64 k ∧ (∀ i, i < k → (R i).n ≤ 6 ∧ ∀ j, j < (R i).n → (E i j).n1 ≤ 1 ∧ (E i j).n2 ≤ 1 ∧ (E i j).n3 ≤ 1) ∧ Ext w wr) (fun i _ => m - (intOf i).toNat)
      case atStart => exact ⟨0, by omega, rfl, by intros; omega, HX0.out⟩
      case round =>
        clear hd hc d6
        obtain ⟨k, hk, rfl, hall, hx⟩ := hrel
        have HA := Lib.hid hall; have HX := Lib.hid hx; clear hall hx
        by_cases hlt : k < m
        · have hd : decide ((k : Int) < (m : Int)) = true := by simp; omega
          have hA := Hm.out.at0 (by omega)
          have hr := Hm.out.rowc hlt HX.out
          subst hA
          by_cases h25 : 6 < (R k).n
          · have d25 : decide ((6 : Int) < ((R k).n : Int)) = true := by simp; omega
            have hF : b = false := by
              cases b
              · rfl
              · have := (HBt.out rfl).2.1 k hlt; omega
            subst hF
            clear h25
            go_wp2_with fail
            go_ret
            exact ⟨rfl, HX.out⟩
          have d25 : decide ((6 : Int) < ((R k).n : Int)) = false := by simp; omega
          have H25 := Lib.hid (show (R k).n ≤ 6 by omega); clear h25
          go_wp2_with fail
          go_loopw [29] (fun i wr => ∃ k' : Nat, k' ≤ (R k).n ∧ i = .int .i64 k' ∧ (∀ j, j < k' → (E k j).n1 ≤ 1 ∧ (E k j).n2 ≤ 1 ∧ (E k j).n3 ≤ 1) ∧ Ext w wr) (fun i _ => (R k).n - (intOf i).toNat)
          case atStart => exact ⟨0, by omega, rfl, by intros; omega, HX.out⟩
          case round =>
            clear hd hr d25
            obtain ⟨j, hj, rfl, hall, hx⟩ := hrel
            have HA3 := Lib.hid hall; have HX3 := Lib.hid hx; clear hall hx
            by_cases hjt : j < (R k).n
            · have hd : decide ((j : Int) < ((R k).n : Int)) = true := by simp; omega
              have hRA := Hm.out.ra k hlt (by omega)
              have hln := Hm.out.ln k hlt
              obtain ⟨c0, c1, c2, c3, c4, c5⟩ := Hm.out.cells hlt hjt HX3.out
              rw [hRA]
              have HE := Lib.hid (HX3.out.alloc (.cells #[.bool (E k j).s1, .slice (E k j).A1 (E k j).n1 (E k j).c1, .bool (E k j).s2, .slice (E k j).A2 (E k j).n2 (E k j).c2, .bool (E k j).s3, .slice (E k j).A3 (E k j).n3 (E k j).c3] 32))
              go_wp2_with fail
              refine (qSmall_any (E k j).s1 (E k j).A1 (E k j).n1 (E k j).c1 (E k j).s2 (E k j).A2 (E k j).n2 (E k j).c2 (E k j).s3 (E k j).A3 (E k j).n3 (E k j).c3 1 _).mono ?_
              rintro e w4 ⟨rfl, hx4⟩
              generalize hbv : (decide ((E k j).n1 ≤ 1) && decide ((E k j).n2 ≤ 1) && decide ((E k j).n3 ≤ 1)) = bv
              have HVQ := Lib.hid hbv; clear hbv
              cases bv
              · have hF : b = false := by
                  cases b
                  · rfl
                  · have h1 := (HBt.out rfl).2.2 k j hlt hjt
                    have h2 := HVQ.out
                    rw [decide_eq_true h1.1, decide_eq_true h1.2.1, decide_eq_true h1.2.2] at h2
                    cases h2
                subst hF
                go_wp2_with fail
                go_ret
                exact ⟨rfl, HE.out.trans hx4⟩
              · go_wp2_with fail
                go_roundw
                case rel =>
                  refine ⟨j + 1, by omega, by go_num, fun i hi => ?_, HE.out.trans hx4⟩
                  by_cases e : i = j
                  · subst e
                    have h2 := HVQ.out
                    simp only [Bool.and_eq_true, decide_eq_true_eq] at h2
                    exact ⟨h2.1.1, h2.1.2, h2.2⟩
                  · exact HA3.out i (by omega)
                case measure => simp [intOf]; omega
            · obtain rfl : j = (R k).n := by omega
              have hd : decide (((R k).n : Int) < ((R k).n : Int)) = false := by simp
              have h6 := H6.out
              go_wp2_with fail
              go_roundw
              case rel =>
                refine ⟨k + 1, by omega, by go_num, fun i hi => ?_, HX3.out⟩
                by_cases e : i = k
                · subst e; exact ⟨H25.out, HA3.out⟩
                · exact HA.out i (by omega)
              case measure => simp [intOf]; omega
        · obtain rfl : k = m := by omega
          have hd : decide ((k : Int) < (k : Int)) = false := by simp
          have hS : Sml (fm t) (fR t) (fE t) := HQ.out ⟨H6.out, fun i hi => (HA.out i hi).1, fun i j hi hj => (HA.out i hi).2 j hj⟩
          have HS := Lib.hid hS; clear hS
          clear hlt
          go_wp2_with fail
          go_roundw
          case rel =>
            refine ⟨t + 1, by omega, by go_num, fun i hi => ?_, HX.out⟩
            by_cases e : i = t
            · subst e; exact HS.out
            · exact HT.out i (by omega)
          case measure => simp [intOf]; omega
    · obtain rfl : t = p := by omega
      have hd : decide ((t : Int) < (t : Int)) = false := by simp
      have hT : b = true := HB.out.2 HT.out
      subst hT
      clear htp
      go_wp2_with fail
      go_ret
      exact ⟨rfl, HX0.out⟩
end Go.Proofs.YtclkkoiaaddllaaGreat

namespace Go.Proofs.YtclkkoiaaddllaaGreat
open Go.RowKit
set_option linter.unusedVariables false

end Go.Proofs.YtclkkoiaaddllaaGreat

namespace Go.Proofs.YtclkkoiaaddllaaGreat
set_option linter.unusedVariables false
set_option linter.unusedSimpArgs false

namespace GQ
end GQ
def D2 (X : Nat → Nat → GQ) : GQ := X 0 0 * X 1 1 - X 0 1 * X 1 0
def D3 (X : Nat → Nat → GQ) : GQ := X 0 0 * (X 1 1 * X 2 2 - X 1 2 * X 2 1) - X 0 1 * (X 1 0 * X 2 2 - X 1 2 * X 2 0) + X 0 2 * (X 1 0 * X 2 1 - X 1 1 * X 2 0)
def d3 (a b c d e f g h i : GQ) : GQ := a * (e * i - f * h) - b * (d * i - f * g) + c * (d * h - e * g)
/-- The sizes of all rows: row i has the size of its pivots' number. -/
theorem ech_bd {m W b : Nat} {X : Nat → Nat → GQ} {F : Nat → Nat} (hb : ∀ i j, i < m → j < W → Bd (X i j) b) (hF : ∀ k, k < m → room b k < 2 ^ F k) : ∀ c, c ≤ W → ∀ i j, i < m → j < W → Bd ((ech m X c).X i j) (F (min i (ech m X c).r))
  | 0, _, i, j, hi, hj => by
    obtain ⟨o, P, hI⟩ := ech_inv m X 0
    have h0 : (ech m X 0).r = 0 := rfl
    rw [h0, Nat.min_zero]
    exact hI.bd hb (by omega) (by rw [h0]; exact hF 0 (by omega)) i j (by omega) hi hj
  | c + 1, hc, i, j, hi, hj => by
    by_cases hic : (ech m X (c + 1)).r ≤ i
    · obtain ⟨o, P, hI⟩ := ech_inv m X (c + 1)
      rw [Nat.min_eq_right hic]
      exact hI.bd hb hc (hF _ (by omega)) i j hic hi hj
    have ih := ech_bd hb hF c (by omega)
    have e : ech m X (c + 1) = estep m c (ech m X c) := rfl
    rw [e] at hic ⊢
    cases hf : fp (ech m X c).X c (m - (ech m X c).r) (ech m X c).r with
    | none => rw [estep_none hf]; exact ih i j hi hj
    | some k =>
      rw [estep_some hf] at hic ⊢
      obtain ⟨h1, h2, h3, h4⟩ := of_fp_some hf
      have hic' : ¬ (ech m X c).r + 1 ≤ i := hic
      show Bd (clr (fun i => (ech m X c).X (swp k (ech m X c).r i)) (ech m X c).r c i j) (F (min i ((ech m X c).r + 1)))
      unfold clr
      rw [if_neg (by omega), show min i ((ech m X c).r + 1) = i by omega]
      by_cases e2 : i = (ech m X c).r
      · have := ih k j (by omega) hj
        rw [show min k (ech m X c).r = i by omega] at this
        subst e2; show Bd ((ech m X c).X (swp k (ech m X c).r (ech m X c).r) j) _
        rw [swp_r]; exact this
      · have := ih i j hi hj
        rw [show min i (ech m X c).r = i by omega] at this
        show Bd ((ech m X c).X (swp k (ech m X c).r i) j) _
        rw [swp_ne (by omega) e2]; exact this
theorem ech_dg {m b : Nat} {X : Nat → Nat → GQ} {F : Nat → Nat} (hb : ∀ i j, i < m → j < m → Bd (X i j) b) (hF : ∀ k, k < m → room b k < 2 ^ F k) (hmono : ∀ i j, i ≤ j → F i ≤ F j) : ∀ i j, i < m → j < m → Bd ((ech m X m).X i j) (F i) := fun i j hi hj =>
  (ech_bd hb hF m (Nat.le_refl _) i j hi hj).mono (hmono _ _ (Nat.min_le_left _ _))
/-- The sizes with which Determinant of at most three rows does. -/
def F3 : Nat → Nat := fun k => if k = 0 then 402 else if k = 1 then 1607 else 3617
end Go.Proofs.YtclkkoiaaddllaaGreat

namespace Go.Proofs.YtclkkoiaaddllaaGreat
open Go.RowKit Go.ChangeShapes Go.WideShapes Go.ChangeAt Go.Joins Go.Deep
set_option linter.unusedVariables false

theorem spot_none {w : World} {ad : Addr} {v : Value} (h : w.cell? ad = some v) : ∃ b o, ad = ⟨b, o, none⟩ := by
  have hs : ad.spot = none := by
    unfold World.cell? at h
    split at h
    · split at h
      · cases h
      · rename_i hsp; simpa using hsp
    · cases h
  obtain ⟨b, o, sp⟩ := ad
  simp only at hs; subst hs
  exact ⟨b, o, rfl⟩
theorem add_zero_addr (ad : Addr) : ad.add 0 = ad := by
  unfold Addr.add
  split <;> simp_all
theorem u32_bounds {x : Int} (h : (Lit.int .u32 x).wf = true) : 0 ≤ x ∧ x < 4294967296 := by
  simp [Lit.wf, IntKind.min, IntKind.max, IntKind.signed, IntKind.bits] at h
  exact ⟨h.1, by omega⟩
theorem Tryz.cells4 : Tryz.prog.cellsOf 4 = 1 := by kernel_rfl
theorem Tryz.cellsU32 : Tryz.prog.cellsOf 103 = 1 := by kernel_rfl
theorem Tryz.cellsU32s : Tryz.prog.cellsOf 28 = 1 := by kernel_rfl
theorem Tryz.cellsInt : Tryz.prog.cellsOf 30 = 2 := by kernel_rfl
theorem Tryz.cellsGauss : Tryz.prog.cellsOf 32 = 6 := by kernel_rfl
/-- Three integers of whatever digits, at most these lengths. -/
structure RawG (w : World) (s1 : Bool) (A1 : Option Addr) (n1 c1 : Nat) (l1 : List Nat) (s2 : Bool) (A2 : Option Addr) (n2 c2 : Nat) (l2 : List Nat) (s3 : Bool) (A3 : Option Addr) (n3 c3 : Nat) (l3 : List Nat) : Prop where
  r1 : RX w (iv s1 A1 n1 c1) s1 l1
  r2 : RX w (iv s2 A2 n2 c2) s2 l2
  r3 : RX w (iv s3 A3 n3 c3) s3 l3
theorem RX.n_eq {w : World} {s : Bool} {A : Option Addr} {n c : Nat} {l : List Nat} (h : RX w (iv s A n c) s l) : l.length = n := by
  obtain ⟨A', n', c', e, h'⟩ := h
  simp [iv] at e
  obtain ⟨_, rfl, _⟩ := e
  exact h'.len
section
variable {w : World} {s1 : Bool} {A1 : Option Addr} {n1 c1 : Nat} {l1 : List Nat} {s2 : Bool} {A2 : Option Addr} {n2 c2 : Nat} {l2 : List Nat} {s3 : Bool} {A3 : Option Addr} {n3 c3 : Nat} {l3 : List Nat} {k : Nat}
theorem RawG.cases (h : RawG w s1 A1 n1 c1 l1 s2 A2 n2 c2 l2 s3 A3 n3 c3 l3) (h1 : n1 ≤ k) (h2 : n2 ≤ k) (h3 : n3 ≤ k) (hk : k ≤ 400) : (∃ q, GV w (gv s1 A1 n1 c1 s2 A2 n2 c2 s3 A3 n3 c3) q (32 * k)) ∨ VB w (gv s1 A1 n1 c1 s2 A2 n2 c2 s3 A3 n3 c3) false :=
  gauss_cases h.r1 h.r2 h.r3 (by rw [h.r1.n_eq]; exact h1) (by rw [h.r2.n_eq]; exact h2) (by rw [h.r3.n_eq]; exact h3) hk
end
section
variable {H : Type} {enc : TypeId × Value → H} {w : World} {base : Nat} {spare : Nat → Bool} {held : Bool}
set_option maxRecDepth 100000 in
theorem open_int_cells {fuel : Nat} {c0 c1 : Value} {x : DataW H × List MemPlace} (h : DataW.trod enc Tryz.prog w base spare held fuel 30 [c0, c1] = some x) :
    ∃ s A n c l, c0 = .bool s ∧ c1 = .slice A n c ∧ RX w (iv s A n c) s l := by
  obtain ⟨xs, n, _, hx, _, hlen, hg⟩ := DataW.trod_struct Tryz.underlying30 h
  match xs, hlen with
  | [y0, y1], _ =>
    have g0 : DataW.trod enc Tryz.prog w base spare held n 4 [c0] = some y0 := by simpa [Tryz.cells4] using hg 0 _ rfl
    have g1 : DataW.trod enc Tryz.prog w base spare held n 28 [c1] = some y1 := by simpa [Tryz.cells4, Tryz.cellsU32s] using hg 1 _ rfl
    obtain ⟨s, e0, _⟩ := DataW.trod_bool Tryz.underlying4 g0
    obtain ⟨A, n1, k1, S, e1, hS, h1, h1', hwf⟩ := open_reads Tryz.underlying28 Tryz.underlying103 Tryz.cellsU32 g1
    simp at e0
    subst e0 e1
    unfold maxLen at h1'
    have hm : mg (S.map Int.toNat) = S.map (.int .u32) := by
      unfold mg
      rw [List.map_map]
      apply List.map_congr_left
      intro z hz
      have := u32_bounds (hwf z hz)
      simp; omega
    refine ⟨s, A, n1, k1, S.map Int.toNat, rfl, rfl, A, n1, k1, rfl, ⟨by rw [hm]; exact hS, ?_, h1, by omega⟩⟩
    intro z hz
    obtain ⟨x, hx, rfl⟩ := List.mem_map.1 hz
    have := u32_bounds (hwf x hx)
    omega
set_option maxRecDepth 100000 in
theorem open_gauss_cells {fuel : Nat} {c0 c1 c2 c3 c4 c5 : Value} {x : DataW H × List MemPlace} (h : DataW.trod enc Tryz.prog w base spare held fuel 32 [c0, c1, c2, c3, c4, c5] = some x) :
    ∃ s1 A1 n1 k1 l1 s2 A2 n2 k2 l2 s3 A3 n3 k3 l3, Value.agg #[c0, c1, c2, c3, c4, c5] = gv s1 A1 n1 k1 s2 A2 n2 k2 s3 A3 n3 k3 ∧ RawG w s1 A1 n1 k1 l1 s2 A2 n2 k2 l2 s3 A3 n3 k3 l3 := by
  obtain ⟨xs, n, _, hx, _, hlen, hg⟩ := DataW.trod_struct Tryz.underlying32 h
  match xs, hlen with
  | [y0, y1, y2], _ =>
    have g0 : DataW.trod enc Tryz.prog w base spare held n 30 [c0, c1] = some y0 := by simpa [Tryz.cellsInt] using hg 0 _ rfl
    have g1 : DataW.trod enc Tryz.prog w base spare held n 30 [c2, c3] = some y1 := by simpa [Tryz.cellsInt] using hg 1 _ rfl
    have g2 : DataW.trod enc Tryz.prog w base spare held n 30 [c4, c5] = some y2 := by simpa [Tryz.cellsInt] using hg 2 _ rfl
    obtain ⟨s1, A1, n1, k1, l1, rfl, rfl, r1⟩ := open_int_cells g0
    obtain ⟨s2, A2, n2, k2, l2, rfl, rfl, r2⟩ := open_int_cells g1
    obtain ⟨s3, A3, n3, k3, l3, rfl, rfl, r3⟩ := open_int_cells g2
    exact ⟨s1, A1, n1, k1, l1, s2, A2, n2, k2, l2, s3, A3, n3, k3, l3, rfl, ⟨r1, r2, r3⟩⟩
end
theorem Tryz.cellsRow : Tryz.prog.cellsOf 37 = 1 := by kernel_rfl
/-- A complex number of whatever digits. -/
def RawE (w : World) (e : En) : Prop := ∃ l1 l2 l3, RawG w e.s1 e.A1 e.n1 e.c1 l1 e.s2 e.A2 e.n2 e.c2 l2 e.s3 e.A3 e.n3 e.c3 l3
instance : Inhabited En := ⟨zEn⟩
instance : Inhabited Rw := ⟨nilRw⟩
theorem mem_z (w : World) (A : Option Addr) (R : Nat → Rw) (E : Nat → Nat → En) : Mem w A 0 0 0 R E := ⟨fun h => absurd h (by omega), fun i hi => absurd hi (by omega), fun i hi => absurd hi (by omega), fun i j hi => absurd hi (by omega), by omega, fun i hi => absurd hi (by omega)⟩
section
variable {H : Type} {enc : TypeId × Value → H} {w : World} {base : Nat} {spare : Nat → Bool} {held : Bool}
set_option maxRecDepth 100000 in
theorem open_gauss_en {fuel : Nat} {cs : List Value} {x : DataW H × List MemPlace} (hl : cs.length = 6) (h : DataW.trod enc Tryz.prog w base spare held fuel 32 cs = some x) : ∃ e : En, cs = e.cells ∧ RawE w e := by
  match cs, hl with
  | [c0, c1, c2, c3, c4, c5], _ =>
    obtain ⟨s1, A1, n1, k1, l1, s2, A2, n2, k2, l2, s3, A3, n3, k3, l3, e, h⟩ := open_gauss_cells h
    unfold gv at e
    injection e with e
    injection e with e
    exact ⟨⟨s1, A1, n1, k1, s2, A2, n2, k2, s3, A3, n3, k3⟩, e, l1, l2, l3, h⟩
set_option maxRecDepth 100000 in
theorem open_row {fuel : Nat} {v : Value} {x : DataW H × List MemPlace} (h : DataW.trod enc Tryz.prog w base spare held fuel 37 [v] = some x) :
    ∃ (r : Rw) (e : Nat → En), v = r.v ∧ (0 < r.n → r.A = some ⟨r.b, r.o, none⟩) ∧ r.n ≤ 9223372036854775807 ∧ ∀ j, j < r.n → (∀ t u, (e j).cells[t]? = some u → w.cell? ⟨r.b, r.o + (j * 6 + t), none⟩ = some u) ∧ RawE w (e j) := by
  rcases open_slice Tryz.underlying37 h with ⟨hcs, _⟩ | ⟨a, len, cap, m, nf, D, Pl, hcs, _, hl, hm, hmm, _, hi⟩
  · injection hcs with hcs
    exact ⟨nilRw, fun _ => zEn, hcs, fun h => absurd h (by decide), by decide, fun j hj => absurd hj (by show ¬ j < 0; omega)⟩
  · injection hcs with hcs
    have hml : len ≤ m := by rw [hmm]; split <;> omega
    unfold maxLen at hm
    rw [Tryz.cellsGauss] at hi
    obtain ⟨e, he⟩ := choose_lt (α := En) (n := len) (p := fun i e => (∀ t u, e.cells[t]? = some u → w.cell? ((a.add (i * 6)).add t) = some u) ∧ RawE w e) (fun i hlt => by
      obtain ⟨cs', h1, h2⟩ := hi i (by omega)
      obtain ⟨_, hlen, hc⟩ := World.cells?_some h1
      obtain ⟨e, rfl, hr⟩ := open_gauss_en hlen h2
      refine ⟨e, fun t u hu => ?_, hr⟩
      have ht : t < 6 := (List.getElem?_eq_some_iff.1 hu).1
      rw [hc t ht]; exact hu)
    by_cases h0 : len = 0
    · subst h0
      exact ⟨⟨some a, 0, 0, 0, cap⟩, e, hcs, fun h => absurd h (by show ¬ 0 < 0; omega), by show 0 ≤ _; omega, fun j hj => absurd hj (by show ¬ j < 0; omega)⟩
    obtain ⟨b, o, hbo⟩ := spot_none (w := w) (ad := a) ((he 0 (by omega)).1 0 _ rfl |> fun h => by rw [Nat.zero_mul, add_zero_addr, add_zero_addr] at h; exact h)
    subst hbo
    refine ⟨⟨some ⟨b, o, none⟩, b, o, len, cap⟩, e, hcs, fun _ => rfl, by show len ≤ _; omega, fun j hj => ⟨fun t u hu => ?_, (he j hj).2⟩⟩
    have := (he j hj).1 t u hu
    rw [add_plain, add_plain] at this
    rw [← Nat.add_assoc]; exact this
set_option maxRecDepth 100000 in
theorem open_matrix {fuel : Nat} {v : Value} {x : DataW H × List MemPlace} (h : DataW.trod enc Tryz.prog w base spare held fuel 22 [v] = some x) :
    ∃ A B O m c R E, v = .slice A m c ∧ Mem w A B O m R E ∧ ∀ i j, i < m → j < (R i).n → RawE w (E i j) := by
  rcases open_slice1 Tryz.underlying22 Tryz.cellsRow h with ⟨hcs, _⟩ | ⟨a, len, cap, m, nf, V, D, Pl, hcs, _, hl, hm, hmm, _, hi⟩
  · injection hcs with hcs
    exact ⟨none, 0, 0, 0, 0, fun _ => nilRw, fun _ _ => zEn, hcs, mem0 w none, fun i j hi => absurd hi (by omega)⟩
  · injection hcs with hcs
    have hml : len ≤ m := by rw [hmm]; split <;> omega
    unfold maxLen at hm
    obtain ⟨R, hR⟩ := choose_lt (α := Rw) (n := len) (p := fun i r => ∃ e : Nat → En, V i = r.v ∧ (0 < r.n → r.A = some ⟨r.b, r.o, none⟩) ∧ r.n ≤ 9223372036854775807 ∧ ∀ j, j < r.n → (∀ t u, (e j).cells[t]? = some u → w.cell? ⟨r.b, r.o + (j * 6 + t), none⟩ = some u) ∧ RawE w (e j)) (fun i hlt => open_row (hi i (by omega)).2)
    obtain ⟨E, hE⟩ := choose_lt (α := Nat → En) (n := len) (p := fun i e => V i = (R i).v ∧ (0 < (R i).n → (R i).A = some ⟨(R i).b, (R i).o, none⟩) ∧ (R i).n ≤ 9223372036854775807 ∧ ∀ j, j < (R i).n → (∀ t u, (e j).cells[t]? = some u → w.cell? ⟨(R i).b, (R i).o + (j * 6 + t), none⟩ = some u) ∧ RawE w (e j)) hR
    by_cases h0 : len = 0
    · subst h0
      exact ⟨some a, 0, 0, 0, cap, R, E, hcs, mem_z w (some a) R E, fun i j hi => absurd hi (by omega)⟩
    obtain ⟨b, o, hbo⟩ := spot_none (w := w) (ad := a) ((hi 0 (by omega)).1 |> fun h => by rw [add_zero_addr] at h; exact h)
    subst hbo
    refine ⟨some ⟨b, o, none⟩, b, o, len, cap, R, E, hcs, ⟨fun _ => rfl, fun i hi' => ?_, fun i hi' hn => (hE i hi').2.1 hn, fun i j hi' hj => ((hE i hi').2.2.2 j hj).1, by omega, fun i hi' => (hE i hi').2.2.1⟩, fun i j hi' hj => ((hE i hi').2.2.2 j hj).2⟩
    have := (hi i (by omega)).1
    rw [add_plain, (hE i hi').1] at this
    exact this
end
end Go.Proofs.YtclkkoiaaddllaaGreat

namespace Go.Proofs.YtclkkoiaaddllaaGreat
open Go.RowKit
set_option linter.unusedVariables false

theorem raw_vb {w : World} {m : Nat} {R : Nat → Rw} {E : Nat → Nat → En} (hr : ∀ i j, i < m → j < (R i).n → RawE w (E i j)) (hs : Sml m R E) :
    ∃ (vb : Nat → Nat → Bool) (X : Nat → Nat → GQ), ∀ i j, i < m → j < (R i).n → VB w (E i j).v (vb i j) ∧ (vb i j = true → GV w (E i j).v (X i j) 32) := by
  have h : ∀ i j, ∃ x : Bool × GQ, i < m → j < (R i).n → VB w (E i j).v x.1 ∧ (x.1 = true → GV w (E i j).v x.2 32) := fun i j => by
    by_cases hi : i < m
    · by_cases hj : j < (R i).n
      · obtain ⟨l1, l2, l3, hg⟩ := hr i j hi hj
        obtain ⟨k1, k2, k3⟩ := hs.2.2 i j hi hj
        rcases hg.cases (k := 1) k1 k2 k3 (by omega) with ⟨q, hq⟩ | hv
        · exact ⟨(true, q), fun _ _ => ⟨hq.vb (by omega), fun _ => hq⟩⟩
        · exact ⟨(false, GQ.i 0 0), fun _ _ => ⟨hv, fun h => by cases h⟩⟩
      · exact ⟨(false, GQ.i 0 0), fun _ h => absurd h hj⟩
    · exact ⟨(false, GQ.i 0 0), fun h => absurd h hi⟩
  obtain ⟨f, hf⟩ := Classical.axiomOfChoice (fun i => Classical.axiomOfChoice (h i))
  exact ⟨fun i j => (f i j).1, fun i j => (f i j).2, hf⟩
theorem qMul_g (v0 v1 : Value) (x y : GQ) (m n : Nat) (w : World) (hX : GV w v0 x m) (hY : GV w v1 y n) (hn : m + n + 1 ≤ 12800) :
    Calls Tryz.prog 17 #[v0, v1] w fun e w' => ∃ v, e = .returned v ∧ GV w' v (x * y) (m + n + 1) ∧ Ext w w' := by
  obtain ⟨a, b, d, h1, i1, s1⟩ := hX
  obtain ⟨a', b', d', h2, i2, s2⟩ := hY
  obtain ⟨u, v, t, h⟩ := is_ex (x * y)
  have K := MulOk.of i1 s1 i2 s2 h hn
  refine (qMul_ok v0 v1 a b d a' b' d' u v t m n w h1 h2 K).mono ?_
  rintro e w' ⟨z, he, hz, hx⟩
  exact ⟨z, he, ⟨u, v, t, hz, h, K.size⟩, hx⟩
theorem GV.bd {w : World} {v : Value} {q : GQ} {n : Nat} (h : GV w v q n) : Bd q n := by
  obtain ⟨a, b, d, _, h2, h3⟩ := h
  exact ⟨a, b, d, h2, h3⟩
theorem Mem.reads {w : World} {A : Option Addr} {B O m : Nat} {R : Nat → Rw} {E : Nat → Nat → En} (h : Mem w A B O m R E) : Reads w w.heap.size 1 A m (mxc m R) := by
  refine ⟨by rw [mxc_len]; omega, fun hm => ⟨⟨B, O, none⟩, h.at0 hm, lt_of_cell (h.row 0 hm), fun j u hu => ?_⟩⟩
  have hj : j < m := by have := (List.getElem?_eq_some_iff.1 hu).1; rwa [mxc_len] at this
  have := mxc_at (R := R) hj
  rw [List.getElem?_toArray] at this
  rw [this] at hu
  injection hu with hu
  subst hu
  rw [add_plain]; exact h.row j hj
end Go.Proofs.YtclkkoiaaddllaaGreat

