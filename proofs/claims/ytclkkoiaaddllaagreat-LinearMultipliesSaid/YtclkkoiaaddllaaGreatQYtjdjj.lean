/- Linear: the sanity check of its laws. -/
import Derived.Test.YtclkkoiaaddllaaGreatQYsiohg
import Derived.Test.YtclkkoiaaddllaaGreatQAnkmcd
namespace Go.Proofs.YtclkkoiaaddllaaGreat
open Go.RowKit
set_option linter.unusedVariables false

theorem qI_ok (a b : Int) (w : World) (l0 : -9223372036854775808 ≤ a) (u0 : a ≤ 9223372036854775807) (l1 : -9223372036854775808 ≤ b) (u1 : b ≤ 9223372036854775807) : Calls Tryz.prog 19 #[.int .i64 a, .int .i64 b] w fun e w' => ∃ s1 A1 n1 c1 s2 A2 n2 c2 s3 A3 n3 c3, e = .returned (gv s1 A1 n1 c1 s2 A2 n2 c2 s3 A3 n3 c3) ∧ GV w' (gv s1 A1 n1 c1 s2 A2 n2 c2 s3 A3 n3 c3) (GQ.i a b) 64 ∧ Ext w w' := by
  refine (qInt_ok a b w l0 u0 l1 u1).mono ?_
  rintro e w' ⟨v, rfl, hv, hx⟩
  have hg : GV w' v (GQ.i a b) 64 := ⟨a, b, 1, hv, is_i a b, by show a.natAbs < 2 ^ 64; omega, by show b.natAbs < 2 ^ 64; omega, by decide⟩
  obtain ⟨s1, A1, n1, c1, s2, A2, n2, c2, s3, A3, n3, c3, rfl⟩ := hg.opn
  exact ⟨_, _, _, _, _, _, _, _, _, _, _, _, rfl, hg, hx⟩
theorem row2_new {w : World} {s11 s12 s13 s21 s22 s23 : Bool} {A11 A12 A13 A21 A22 A23 : Option Addr} {n11 c11 n12 c12 n13 c13 n21 c21 n22 c22 n23 c23 : Nat} {q1 q2 : GQ} (h1 : GV w (gv s11 A11 n11 c11 s12 A12 n12 c12 s13 A13 n13 c13) q1 64) (h2 : GV w (gv s21 A21 n21 c21 s22 A22 n22 c22 s23 A23 n23 c23) q2 64) (x : Nat → GQ) (e0 : x 0 = q1) (e1 : x 1 = q2) :
    RowIs (w.alloc (.cells #[.bool s11, .slice A11 n11 c11, .bool s12, .slice A12 n12 c12, .bool s13, .slice A13 n13 c13, .bool s21, .slice A21 n21 c21, .bool s22, .slice A22 n22 c22, .bool s23, .slice A23 n23 c23] 32)) w.heap.size 2 x := by
  have hx := Ext.new w (.cells #[.bool s11, .slice A11 n11 c11, .bool s12, .slice A12 n12 c12, .bool s13, .slice A13 n13 c13, .bool s21, .slice A21 n21 c21, .bool s22, .slice A22 n22 c22, .bool s23, .slice A23 n23 c23] 32)
  refine ⟨fun j => if j = 0 then ⟨s11, A11, n11, c11, s12, A12, n12, c12, s13, A13, n13, c13⟩ else ⟨s21, A21, n21, c21, s22, A22, n22, c22, s23, A23, n23, c23⟩, Blk.new _ _ _, fun j hj => ?_⟩
  match j, hj with
  | 0, _ => rw [e0]; exact (h1.ext hx).up (by omega)
  | 1, _ => rw [e1]; exact (h2.ext hx).up (by omega)
theorem row1_new {w : World} {s11 s12 s13 : Bool} {A11 A12 A13 : Option Addr} {n11 c11 n12 c12 n13 c13 : Nat} {q1 : GQ} (h1 : GV w (gv s11 A11 n11 c11 s12 A12 n12 c12 s13 A13 n13 c13) q1 64) (x : Nat → GQ) (e0 : x 0 = q1) :
    RowIs (w.alloc (.cells #[.bool s11, .slice A11 n11 c11, .bool s12, .slice A12 n12 c12, .bool s13, .slice A13 n13 c13] 32)) w.heap.size 1 x := by
  have hx := Ext.new w (.cells #[.bool s11, .slice A11 n11 c11, .bool s12, .slice A12 n12 c12, .bool s13, .slice A13 n13 c13] 32)
  refine ⟨fun j => ⟨s11, A11, n11, c11, s12, A12, n12, c12, s13, A13, n13, c13⟩, Blk.new _ _ _, fun j hj => ?_⟩
  obtain rfl : j = 0 := by omega
  rw [e0]; exact (h1.ext hx).up (by omega)
theorem out2_new {w : World} {g0 g1 n : Nat} {x0 x1 : Nat → GQ} (h0 : RowIs w g0 n x0) (h1 : RowIs w g1 n x1) (X : Nat → Nat → GQ) (e0 : X 0 = x0) (e1 : X 1 = x1) :
    ∃ RX, Out (w.alloc (.cells #[.slice (some ⟨g0, 0, none⟩) n n, .slice (some ⟨g1, 0, none⟩) n n] 37)) w.heap.size 2 n RX X := by
  have hx := Ext.new w (.cells #[.slice (some ⟨g0, 0, none⟩) n n, .slice (some ⟨g1, 0, none⟩) n n] 37)
  refine ⟨fun i => if i = 0 then ⟨some ⟨g0, 0, none⟩, g0, 0, n, n⟩ else ⟨some ⟨g1, 0, none⟩, g1, 0, n, n⟩, Blk.new _ _ _, fun i hi => ?_⟩
  match i, hi with
  | 0, _ => exact ⟨rfl, rfl, rfl, by rw [e0]; exact h0.ext hx⟩
  | 1, _ => exact ⟨rfl, rfl, rfl, by rw [e1]; exact h1.ext hx⟩
theorem OutE.ext {W W' : World} {G m n : Nat} {X : Nat → Nat → GQ} (h : ∃ RX, Out W G m n RX X) (x : Ext W W') : ∃ RX, Out W' G m n RX X := h.elim fun RX h => ⟨RX, h.ext x⟩
set_option maxRecDepth 100000 in
theorem solve_known (Ga Gb : Nat) (w : World) (ha : ∃ RX, Out w Ga 2 2 RX kA) (hb : ∃ RX, Out w Gb 2 1 RX kB) :
    Calls Tryz.prog 20 #[.slice (some ⟨Ga, 0, none⟩) 2 2, .slice (some ⟨Gb, 0, none⟩) 2 2] w fun e w' => ∃ G, e = .returned (.tuple #[.slice (some ⟨G, 0, none⟩) 2 2, .int .i64 0]) ∧ (∃ RX, Out w' G 2 1 RX (bsol (ech 2 (side 2 kA kB) 2).X 2 2)) ∧ Ext w w' := by
  obtain ⟨RA, ha⟩ := ha
  obtain ⟨RB, hb⟩ := hb
  obtain ⟨R, E, hM, hn, hv⟩ := ha.mem (by omega) (by omega)
  obtain ⟨R2, E2, hM2, hn2, hv2⟩ := hb.mem (by omega) (by omega)
  have w1 : wd 2 R = 2 := by unfold wd; rw [if_neg (by omega)]; exact hn 0 (by omega)
  have w2 : wd 2 R2 = 1 := by unfold wd; rw [if_neg (by omega)]; exact hn2 0 (by omega)
  refine (solve_ok (m := 2) (X := kA) (Y := kB) (c := 2) (c2 := 2) (nb := 1) (N := 100) (Ns := 4) (Nd := 4) (Nx := 4) (vb := fun _ _ => true) (vb2 := fun _ _ => true) hM hM2 (fun i j hi hj => (hv i j hi (by rw [hn i hi] at hj; exact hj)).vb (by omega)) (fun i j hi hj => (hv2 i j hi (by rw [hn2 i hi] at hj; exact hj)).vb (by omega))
    ⟨by omega, by omega, fun i hi => by rw [w1]; exact hn i hi, fun _ _ _ _ => rfl⟩ ⟨by omega, by omega, fun i hi => by rw [w2]; exact hn2 i hi, fun _ _ _ _ => rfl⟩ hn hn2 (by omega) hv hv2 (by omega) kZ_room (fun _ => kroomB')).mono ?_
  rintro e w' ⟨h | ⟨_, G, RX, he, ho⟩, hx⟩
  · have := kZ_r; omega
  · exact ⟨G, he, ⟨RX, ho⟩, hx⟩
set_option maxRecDepth 100000 in
theorem det_known (Ga : Nat) (w : World) (ha : ∃ RX, Out w Ga 2 2 RX kA) :
    Calls Tryz.prog 12 #[.slice (some ⟨Ga, 0, none⟩) 2 2] w fun e w' => ∃ v, e = .returned (.tuple #[v, .int .i64 0]) ∧ GV w' v (GQ.i (-1) 0) 12800 ∧ Ext w w' := by
  obtain ⟨RA, ha⟩ := ha
  obtain ⟨R, E, hM, hn, hv⟩ := ha.mem (by omega) (by omega)
  have w1 : wd 2 R = 2 := by unfold wd; rw [if_neg (by omega)]; exact hn 0 (by omega)
  have := det_ok (m := 2) (X := kA) (c := 2) (N := 100) (N2 := 64) (vb := fun _ _ => true) hM (fun i j hi hj => (hv i j hi (by rw [hn i hi] at hj; exact hj)).vb (by omega)) ⟨by omega, by omega, fun i hi => by rw [w1]; exact hn i hi, fun _ _ _ _ => rfl⟩ hn hv (by omega) kA_room (fun _ => kp) kd (by omega) (by omega)
  rwa [kdet] at this
set_option maxRecDepth 100000 in
theorem same_known (Ga Gb : Nat) (w : World) (X Y : Nat → Nat → GQ) (ha : ∃ RX, Out w Ga 2 1 RX X) (hb : ∃ RX, Out w Gb 2 1 RX Y) (h0 : X 0 0 = Y 0 0) (h1 : X 1 0 = Y 1 0) :
    Calls Tryz.prog 22 #[.slice (some ⟨Ga, 0, none⟩) 2 2, .slice (some ⟨Gb, 0, none⟩) 2 2] w fun e w' => e = .returned (.bool true) ∧ Ext w w' := by
  obtain ⟨RA, ha⟩ := ha
  obtain ⟨RB, hb⟩ := hb
  obtain ⟨R, E, hM, hn, hv⟩ := ha.mem (by omega) (by omega)
  obtain ⟨R2, E2, hM2, hn2, hv2⟩ := hb.mem (by omega) (by omega)
  refine same_mx (c := 2) (c2 := 2) (X := X) hM hM2 (fun i hi => (hn i hi).trans (hn2 i hi).symm) (by omega) (fun i hi => by rw [hn i hi]; omega) (fun i j hi hj => hv i j hi (by rw [hn i hi] at hj; exact hj)) (fun i j hi hj => ?_)
  rw [hn i hi] at hj
  obtain rfl : j = 0 := by omega
  have e : X i 0 = Y i 0 := by
    rcases (show i = 0 ∨ i = 1 by omega) with rfl | rfl
    · exact h0
    · exact h1
  rw [e]
  exact hv2 i 0 hi (by omega)
/-- The numbers that the sanity check expects. -/
def kC : Nat → Nat → GQ := mx2 (GQ.i 7 0) (GQ.i 7 0) (GQ.i 5 0) (GQ.i 5 0)
def kGV (q : GQ) (v : Value) (w : World) : Prop := ∃ s1 A1 n1 c1 s2 A2 n2 c2 s3 A3 n3 c3, v = gv s1 A1 n1 c1 s2 A2 n2 c2 s3 A3 n3 c3 ∧ GV w (gv s1 A1 n1 c1 s2 A2 n2 c2 s3 A3 n3 c3) q 64
def kRow (q : GQ) (v : Value) (w : World) : Prop := ∃ g, v = .slice (some ⟨g, 0, none⟩) 1 1 ∧ RowIs w g 1 (fun j => if j = 0 then q else q)
def kOut (v : Value) (w : World) : Prop := ∃ G, v = .slice (some ⟨G, 0, none⟩) 2 2 ∧ ∃ RX, Out w G 2 1 RX kC
def kPhi : Nat → Nat → Nat → Value → World → Prop
  | 4, _, _, v, w => kGV (GQ.i (7) (0)) v w
  | 5, _, _, v, w => kRow (GQ.i (7) (0)) v w
  | 6, _, _, v, w => kGV (GQ.i (5) (0)) v w
  | 7, _, _, v, w => kRow (GQ.i (5) (0)) v w
  | 8, _, _, v, w => kOut v w
  | 9, _, _, v, w => v = .bool true
  | 17, _, _, v, w => kGV (GQ.i (-1) (0)) v w
  | 18, _, _, v, w => v = .bool true
  | _, _, _, _, _ => True
theorem kGV.ext {q : GQ} {v : Value} {w w' : World} (h : kGV q v w) (x : Ext w w') : kGV q v w' := by
  obtain ⟨s1, A1, n1, c1, s2, A2, n2, c2, s3, A3, n3, c3, e, h⟩ := h
  exact ⟨s1, A1, n1, c1, s2, A2, n2, c2, s3, A3, n3, c3, e, h.ext x⟩
theorem kRow.ext {q : GQ} {v : Value} {w w' : World} (h : kRow q v w) (x : Ext w w') : kRow q v w' := by
  obtain ⟨g, e, h⟩ := h
  exact ⟨g, e, h.ext x⟩
theorem kOut.ext {v : Value} {w w' : World} (h : kOut v w) (x : Ext w w') : kOut v w' := by
  obtain ⟨G, e, h⟩ := h
  exact ⟨G, e, OutE.ext h x⟩
theorem kPhi_stab (i lo hi : Nat) (v : Value) (w w' : World) (h : kPhi i lo hi v w) (x : Ext w w') : kPhi i lo hi v w' := by
  unfold kPhi at h ⊢
  split at h
  all_goals first | exact kGV.ext h x | exact kRow.ext h x | exact kOut.ext h x | exact h
theorem kGV_at {q : GQ} {w : World} {s1 s2 s3 : Bool} {A1 A2 A3 : Option Addr} {n1 c1 n2 c2 n3 c3 : Nat} (h : kGV q (gv s1 A1 n1 c1 s2 A2 n2 c2 s3 A3 n3 c3) w) : GV w (gv s1 A1 n1 c1 s2 A2 n2 c2 s3 A3 n3 c3) q 64 := by
  obtain ⟨_, _, _, _, _, _, _, _, _, _, _, _, e, h⟩ := h
  rw [e]; exact h
theorem kRow_at {q : GQ} {w : World} {g : Nat} (h : kRow q (.slice (some ⟨g, 0, none⟩) 1 1) w) : RowIs w g 1 (fun j => if j = 0 then q else q) := by
  obtain ⟨g', e, h⟩ := h
  simp at e
  subst e; exact h
theorem kOut_at {w : World} {G : Nat} (h : kOut (.slice (some ⟨G, 0, none⟩) 2 2) w) : ∃ RX, Out w G 2 1 RX kC := by
  obtain ⟨G', e, h⟩ := h
  simp at e
  subst e; exact h
set_option maxRecDepth 100000 in
set_option maxHeartbeats 6400000 in
theorem llknown_ok (w : World) : Calls Tryz.prog 9 #[] w fun e w' => e = .returned (.bool true) ∧ Ext w w' := by
  go_enter Tryz.func9, Tryz.ntmps9
  have HE := Lib.hid (Ext.refl w)
  go_wp2_with fail
  refine (qI_ok (0) (0) _ (by omega) (by omega) (by omega) (by omega)).mono ?_
  rintro e w1 ⟨s11, A11, n11, c11, s12, A12, n12, c12, s13, A13, n13, c13, rfl, h1, hx⟩
  have HI1 := Lib.hid h1; clear h1
  replace HE := Lib.hid (HE.out.trans hx); clear hx
  go_wp2_with fail
  refine (qI_ok (1) (0) _ (by omega) (by omega) (by omega) (by omega)).mono ?_
  rintro e w2 ⟨s21, A21, n21, c21, s22, A22, n22, c22, s23, A23, n23, c23, rfl, h2, hx⟩
  have HI2 := Lib.hid h2; clear h2
  replace HI1 := Lib.hid (HI1.out.ext hx)
  replace HE := Lib.hid (HE.out.trans hx); clear hx
  go_wp2_with fail
  have hx := Ext.new w2 (.cells #[.bool s11, .slice A11 n11 c11, .bool s12, .slice A12 n12 c12, .bool s13, .slice A13 n13 c13, .bool s21, .slice A21 n21 c21, .bool s22, .slice A22 n22 c22, .bool s23, .slice A23 n23 c23] 32)
  have HRa := Lib.hid (row2_new (w := w2) HI1.out HI2.out (fun j => if j = 0 then GQ.i 0 0 else GQ.i 1 0) rfl rfl)
  replace HE := Lib.hid (HE.out.trans hx); clear hx HI1 HI2
  have hsz : (w2.alloc (.cells #[.bool s11, .slice A11 n11 c11, .bool s12, .slice A12 n12 c12, .bool s13, .slice A13 n13 c13, .bool s21, .slice A21 n21 c21, .bool s22, .slice A22 n22 c22, .bool s23, .slice A23 n23 c23] 32)).heap.size = w2.heap.size + 1 := by simp
  have HZa := Lib.hid hsz; clear hsz
  generalize w2.alloc _ = Wa at  HRa HE HZa ⊢
  generalize w2.heap.size = ga at HRa HZa ⊢
  refine (qI_ok (1) (0) _ (by omega) (by omega) (by omega) (by omega)).mono ?_
  rintro e w3 ⟨s31, A31, n31, c31, s32, A32, n32, c32, s33, A33, n33, c33, rfl, h3, hx⟩
  have HI3 := Lib.hid h3; clear h3
  replace HRa := Lib.hid (HRa.out.ext hx)
  replace HE := Lib.hid (HE.out.trans hx); clear hx
  go_wp2_with fail
  refine (qI_ok (0) (0) _ (by omega) (by omega) (by omega) (by omega)).mono ?_
  rintro e w4 ⟨s41, A41, n41, c41, s42, A42, n42, c42, s43, A43, n43, c43, rfl, h4, hx⟩
  have HI4 := Lib.hid h4; clear h4
  replace HRa := Lib.hid (HRa.out.ext hx)
  replace HI3 := Lib.hid (HI3.out.ext hx)
  replace HE := Lib.hid (HE.out.trans hx); clear hx
  go_wp2_with fail
  have hx := Ext.new w4 (.cells #[.bool s31, .slice A31 n31 c31, .bool s32, .slice A32 n32 c32, .bool s33, .slice A33 n33 c33, .bool s41, .slice A41 n41 c41, .bool s42, .slice A42 n42 c42, .bool s43, .slice A43 n43 c43] 32)
  have HRb := Lib.hid (row2_new (w := w4) HI3.out HI4.out (fun j => if j = 0 then GQ.i 1 0 else GQ.i 0 0) rfl rfl)
  replace HRa := Lib.hid (HRa.out.ext hx)
  replace HE := Lib.hid (HE.out.trans hx); clear hx HI3 HI4
  have hsz : (w4.alloc (.cells #[.bool s31, .slice A31 n31 c31, .bool s32, .slice A32 n32 c32, .bool s33, .slice A33 n33 c33, .bool s41, .slice A41 n41 c41, .bool s42, .slice A42 n42 c42, .bool s43, .slice A43 n43 c43] 32)).heap.size = w4.heap.size + 1 := by simp
  have HZb := Lib.hid hsz; clear hsz
  generalize w4.alloc _ = Wb at HRa HRb HE HZb ⊢
  generalize w4.heap.size = gb at HRb HZb ⊢
  have hx := Ext.new Wb (.cells #[.slice (some ⟨ga, 0, none⟩) 2 2, .slice (some ⟨gb, 0, none⟩) 2 2] 37)
  have HOA := Lib.hid (out2_new (w := Wb) (n := 2) HRa.out HRb.out (kA) rfl rfl)
  replace HE := Lib.hid (HE.out.trans hx); clear hx HRa HRb
  replace HOA := Lib.hid (HZb.out ▸ HOA.out)
  generalize Wb.alloc _ = WA at  HOA HE ⊢
  generalize gb + 1 = gA at HOA ⊢
  refine (qI_ok (5) (0) _ (by omega) (by omega) (by omega) (by omega)).mono ?_
  rintro e w5 ⟨s51, A51, n51, c51, s52, A52, n52, c52, s53, A53, n53, c53, rfl, h5, hx⟩
  have HI5 := Lib.hid h5; clear h5
  replace HOA := Lib.hid (OutE.ext HOA.out hx)
  replace HE := Lib.hid (HE.out.trans hx); clear hx
  go_wp2_with fail
  have hx := Ext.new w5 (.cells #[.bool s51, .slice A51 n51 c51, .bool s52, .slice A52 n52 c52, .bool s53, .slice A53 n53 c53] 32)
  have HRc := Lib.hid (row1_new (w := w5) HI5.out (fun j => if j = 0 then GQ.i 5 0 else GQ.i 5 0) rfl)
  replace HOA := Lib.hid (OutE.ext HOA.out hx)
  replace HE := Lib.hid (HE.out.trans hx); clear hx HI5
  have hsz : (w5.alloc (.cells #[.bool s51, .slice A51 n51 c51, .bool s52, .slice A52 n52 c52, .bool s53, .slice A53 n53 c53] 32)).heap.size = w5.heap.size + 1 := by simp
  have HZc := Lib.hid hsz; clear hsz
  generalize w5.alloc _ = Wc at HOA HRc HE HZc ⊢
  generalize w5.heap.size = gc at HRc HZc ⊢
  refine (qI_ok (7) (0) _ (by omega) (by omega) (by omega) (by omega)).mono ?_
  rintro e w6 ⟨s61, A61, n61, c61, s62, A62, n62, c62, s63, A63, n63, c63, rfl, h6, hx⟩
  have HI6 := Lib.hid h6; clear h6
  replace HOA := Lib.hid (OutE.ext HOA.out hx)
  replace HRc := Lib.hid (HRc.out.ext hx)
  replace HE := Lib.hid (HE.out.trans hx); clear hx
  go_wp2_with fail
  have hx := Ext.new w6 (.cells #[.bool s61, .slice A61 n61 c61, .bool s62, .slice A62 n62 c62, .bool s63, .slice A63 n63 c63] 32)
  have HRd := Lib.hid (row1_new (w := w6) HI6.out (fun j => if j = 0 then GQ.i 7 0 else GQ.i 7 0) rfl)
  replace HOA := Lib.hid (OutE.ext HOA.out hx)
  replace HRc := Lib.hid (HRc.out.ext hx)
  replace HE := Lib.hid (HE.out.trans hx); clear hx HI6
  have hsz : (w6.alloc (.cells #[.bool s61, .slice A61 n61 c61, .bool s62, .slice A62 n62 c62, .bool s63, .slice A63 n63 c63] 32)).heap.size = w6.heap.size + 1 := by simp
  have HZd := Lib.hid hsz; clear hsz
  generalize w6.alloc _ = Wd at HOA HRc HRd HE HZd ⊢
  generalize w6.heap.size = gd at HRd HZd ⊢
  have hx := Ext.new Wd (.cells #[.slice (some ⟨gc, 0, none⟩) 1 1, .slice (some ⟨gd, 0, none⟩) 1 1] 37)
  have HOB := Lib.hid (out2_new (w := Wd) (n := 1) HRc.out HRd.out (kB) rfl rfl)
  replace HOA := Lib.hid (OutE.ext HOA.out hx)
  replace HE := Lib.hid (HE.out.trans hx); clear hx HRc HRd
  replace HOB := Lib.hid (HZd.out ▸ HOB.out)
  generalize Wd.alloc _ = WB at HOA HOB HE ⊢
  generalize gd + 1 = gB at HOB ⊢
  refine (solve_known gA gB _ HOA.out HOB.out).mono ?_
  rintro e w7 ⟨G, rfl, hG, hx⟩
  have HG := Lib.hid hG; clear hG
  replace HOA := Lib.hid (OutE.ext HOA.out hx)
  replace HE := Lib.hid (HE.out.trans hx); clear hx HOB
  go_wp2_with fail
  refine (det_known gA _ HOA.out).mono ?_
  rintro e w8 ⟨v, rfl, hv, hx⟩
  obtain ⟨s91, A91, n91, c91, s92, A92, n92, c92, s93, A93, n93, c93, rfl⟩ := hv.opn
  have HV := Lib.hid hv; clear hv
  replace HG := Lib.hid (OutE.ext HG.out hx)
  replace HE := Lib.hid (HE.out.trans hx); clear hx HOA
  go_wp2_with fail
  have Y4 := ExtOf.blk (Blk.new w8 32 #[.bool s91, .slice A91 n91 c91, .bool s92, .slice A92 n92 c92, .bool s93, .slice A93 n93 c93])
  have HV2 := Lib.hid (HV.out.ext (Ext.new w8 (.cells #[.bool s91, .slice A91 n91 c91, .bool s92, .slice A92 n92 c92, .bool s93, .slice A93 n93 c93] 32)))
  have HG2 := Lib.hid (OutE.ext HG.out (Ext.new w8 (.cells #[.bool s91, .slice A91 n91 c91, .bool s92, .slice A92 n92 c92, .bool s93, .slice A93 n93 c93] 32)))
  have hE_ := HE.out.trans (Ext.new w8 (.cells #[.bool s91, .slice A91 n91 c91, .bool s92, .slice A92 n92 c92, .bool s93, .slice A93 n93 c93] 32))
  clear HV HG HE
  generalize w8.alloc (.cells #[.bool s91, .slice A91 n91 c91, .bool s92, .slice A92 n92 c92, .bool s93, .slice A93 n93 c93] 32) = wk at Y4 HV2 HG2 hE_ ⊢
  have HE_ := Lib.hid hE_; clear hE_
  refine wp_region_tame 20 (hasF [(4, .any), (5, .any), (6, .any), (7, .any), (8, .any), (9, .any), (17, .any), (18, .any)]) kPhi kPhi_stab (by kernel_rfl) (by kernel_rfl) ?_
  simp only [tk1, tk0, dp1, dp0]
  refine wpT_quiet 4 (by rfl) (by kernel_rfl) ?_
  simp only [tk1, tk0, dp1, dp0]
  repeat (go_big_quiet_step (fail))
  refine wpQuiet_nil ?_
  refine wpT_eff (by rfl) (by rfl) (by rfl) ?_ ?_
  · intro W_ hK
    have hW := hK.1
    clear hK
    go_simp
    exact ⟨rfl, (qI_ok (7) (0) _ (by omega) (by omega) (by omega) (by omega)).mono fun e w' ⟨sp1, Ap1, np1, cp1, sp2, Ap2, np2, cp2, sp3, Ap3, np3, cp3, he, hg, hx⟩ => ⟨_, he, hx, sp1, Ap1, np1, cp1, sp2, Ap2, np2, cp2, sp3, Ap3, np3, cp3, rfl, hg⟩⟩
  intro v_ lop hip hr_
  obtain ⟨W_, hW_⟩ := hr_
  obtain ⟨sp1, Ap1, np1, cp1, sp2, Ap2, np2, cp2, sp3, Ap3, np3, cp3, rfl, -⟩ : kGV (GQ.i (7) (0)) v_ W_ := hW_.get
  clear hW_ W_
  try simp only [Act.put, sa0, sa1, sa2]
  refine wpT_eff (by rfl) (by rfl) (by rfl) ?_ ?_
  · intro W_ hK
    have hF : kGV (GQ.i (7) (0)) ((gv sp1 Ap1 np1 cp1 sp2 Ap2 np2 cp2 sp3 Ap3 np3 cp3)) W_ := hK.2 4 ((gv sp1 Ap1 np1 cp1 sp2 Ap2 np2 cp2 sp3 Ap3 np3 cp3), lop, hip) (by rfl) (anc_of (by kernel_rfl))
    clear hK
    go_simp
    have hF2 := kGV_at hF
    exact ⟨Ext.new _ _, W_.heap.size, rfl, row1_new hF2 _ rfl⟩
  intro v_ logp higp hr_
  obtain ⟨W_, hW_⟩ := hr_
  obtain ⟨gp, rfl, -⟩ : kRow (GQ.i (7) (0)) v_ W_ := hW_.get
  clear hW_ W_
  try simp only [Act.put, sa0, sa1, sa2]
  refine wpT_eff (by rfl) (by rfl) (by rfl) ?_ ?_
  · intro W_ hK
    have hW := hK.1
    clear hK
    go_simp
    exact ⟨rfl, (qI_ok (5) (0) _ (by omega) (by omega) (by omega) (by omega)).mono fun e w' ⟨sq1, Aq1, nq1, cq1, sq2, Aq2, nq2, cq2, sq3, Aq3, nq3, cq3, he, hg, hx⟩ => ⟨_, he, hx, sq1, Aq1, nq1, cq1, sq2, Aq2, nq2, cq2, sq3, Aq3, nq3, cq3, rfl, hg⟩⟩
  intro v_ loq hiq hr_
  obtain ⟨W_, hW_⟩ := hr_
  obtain ⟨sq1, Aq1, nq1, cq1, sq2, Aq2, nq2, cq2, sq3, Aq3, nq3, cq3, rfl, -⟩ : kGV (GQ.i (5) (0)) v_ W_ := hW_.get
  clear hW_ W_
  try simp only [Act.put, sa0, sa1, sa2]
  refine wpT_eff (by rfl) (by rfl) (by rfl) ?_ ?_
  · intro W_ hK
    have hF : kGV (GQ.i (5) (0)) ((gv sq1 Aq1 nq1 cq1 sq2 Aq2 nq2 cq2 sq3 Aq3 nq3 cq3)) W_ := hK.2 6 ((gv sq1 Aq1 nq1 cq1 sq2 Aq2 nq2 cq2 sq3 Aq3 nq3 cq3), loq, hiq) (by rfl) (anc_of (by kernel_rfl))
    clear hK
    go_simp
    have hF2 := kGV_at hF
    exact ⟨Ext.new _ _, W_.heap.size, rfl, row1_new hF2 _ rfl⟩
  intro v_ logq higq hr_
  obtain ⟨W_, hW_⟩ := hr_
  obtain ⟨gq, rfl, -⟩ : kRow (GQ.i (5) (0)) v_ W_ := hW_.get
  clear hW_ W_
  try simp only [Act.put, sa0, sa1, sa2]
  refine wpT_eff (by rfl) (by rfl) (by rfl) ?_ ?_
  · intro W_ hK
    have hF1 : kRow (GQ.i (7) (0)) (.slice (some ⟨gp, 0, none⟩) 1 1) W_ := hK.2 5 (.slice (some ⟨gp, 0, none⟩) 1 1, logp, higp) (by rfl) (anc_of (by kernel_rfl))
    have hF2 : kRow (GQ.i (5) (0)) (.slice (some ⟨gq, 0, none⟩) 1 1) W_ := hK.2 7 (.slice (some ⟨gq, 0, none⟩) 1 1, logq, higq) (by rfl) (anc_of (by kernel_rfl))
    clear hK
    go_simp
    exact ⟨Ext.new _ _, W_.heap.size, rfl, out2_new (kRow_at hF1) (kRow_at hF2) kC rfl rfl⟩
  intro v_ loG hiG hr_
  obtain ⟨W_, hW_⟩ := hr_
  obtain ⟨GC, rfl, -⟩ : kOut v_ W_ := hW_.get
  clear hW_ W_
  try simp only [Act.put, sa0, sa1, sa2]
  refine wpT_eff (by rfl) (by rfl) (by rfl) ?_ ?_
  · intro W_ hK
    have hW := hK.1
    have hF : kOut (.slice (some ⟨GC, 0, none⟩) 2 2) W_ := hK.2 8 (.slice (some ⟨GC, 0, none⟩) 2 2, loG, hiG) (by rfl) (anc_of (by kernel_rfl))
    clear hK
    go_simp
    exact ⟨rfl, (same_known G GC W_ _ kC (OutE.ext HG2.out hW) (kOut_at hF) (by rw [ks3]; rfl) (by rw [ks2]; rfl)).mono fun e w' ⟨he, hx⟩ => ⟨_, he, hx, rfl⟩⟩
  intro v_ lo_ hi_ hr_
  obtain ⟨W_, hW_⟩ := hr_
  obtain rfl : v_ = .bool true := hW_.get
  clear hW_ W_
  try simp only [Act.put, sa0, sa1, sa2]
  refine wpT_quiet 7 (by rfl) (by kernel_rfl) ?_
  simp only [tk1, tk0, dp1, dp0]
  repeat (go_big_quiet_step (fail))
  refine wpQuiet_nil ?_
  refine wpT_eff (by rfl) (by rfl) (by rfl) ?_ ?_
  · intro W_ hK
    have hW := hK.1
    clear hK
    go_simp
    exact ⟨rfl, (qI_ok (-1) (0) _ (by omega) (by omega) (by omega) (by omega)).mono fun e w' ⟨sr1, Ar1, nr1, cr1, sr2, Ar2, nr2, cr2, sr3, Ar3, nr3, cr3, he, hg, hx⟩ => ⟨_, he, hx, sr1, Ar1, nr1, cr1, sr2, Ar2, nr2, cr2, sr3, Ar3, nr3, cr3, rfl, hg⟩⟩
  intro v_ lor hir hr_
  obtain ⟨W_, hW_⟩ := hr_
  obtain ⟨sr1, Ar1, nr1, cr1, sr2, Ar2, nr2, cr2, sr3, Ar3, nr3, cr3, rfl, -⟩ : kGV (GQ.i (-1) (0)) v_ W_ := hW_.get
  clear hW_ W_
  try simp only [Act.put, sa0, sa1, sa2]
  refine wpT_eff (by rfl) (by rfl) (by rfl) ?_ ?_
  · intro W_ hK
    have hW := hK.1
    have hF : kGV (GQ.i (-1) (0)) ((gv sr1 Ar1 nr1 cr1 sr2 Ar2 nr2 cr2 sr3 Ar3 nr3 cr3)) W_ := hK.2 17 ((gv sr1 Ar1 nr1 cr1 sr2 Ar2 nr2 cr2 sr3 Ar3 nr3 cr3), lor, hir) (by rfl) (anc_of (by kernel_rfl))
    clear hK
    go_simp
    exact ⟨rfl, (qSame_q _ _ (GQ.i (-1) 0) (GQ.i (-1) 0) 12800 64 W_ (HV2.out.ext hW) (kGV_at hF) rfl).mono fun e w' ⟨he, hx⟩ => ⟨_, he, hx, rfl⟩⟩
  intro v_ los his hr_
  obtain ⟨W_, hW_⟩ := hr_
  obtain rfl : v_ = .bool true := hW_.get
  clear hW_ W_
  try simp only [Act.put, sa0, sa1, sa2]
  refine wpT_quiet 1 (by rfl) (by kernel_rfl) ?_
  simp only [tk1, tk0, dp1, dp0]
  repeat (go_big_quiet_step (fail))
  refine wpQuiet_nil ?_
  refine wpT_nil ?_
  intro wz hK
  have hx := hK.ext
  clear hK Y4
  go_wp2_with fail
  go_ret
  exact ⟨rfl, HE_.out.trans hx⟩
end Go.Proofs.YtclkkoiaaddllaaGreat
