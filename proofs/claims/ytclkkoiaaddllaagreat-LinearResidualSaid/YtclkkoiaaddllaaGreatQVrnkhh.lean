/- The walk of LinearResidual. -/
import Derived.Test.YtclkkoiaaddllaaGreatQVladgb
import Derived.Test.YtclkkoiaaddllaaGreatQVqioke
namespace Go.Proofs.YtclkkoiaaddllaaGreat
open Go.RowKit
set_option linter.unusedVariables false
set_option linter.unusedSimpArgs false

set_option maxRecDepth 100000 in
set_option maxHeartbeats 12800000 in
theorem residual_any {A1 A2 : Option Addr} {B1 O1 m1 c1 B2 O2 m2 c2 : Nat} {R1 R2 : Nat → Rw} {E1 E2 : Nat → Nat → En} {w : World} (h1 : Mem w A1 B1 O1 m1 R1 E1) (h2 : Mem w A2 B2 O2 m2 R2 E2) (r1 : ∀ i j, i < m1 → j < (R1 i).n → RawE w (E1 i j)) (r2 : ∀ i j, i < m2 → j < (R2 i).n → RawE w (E2 i j)) :
    Calls Tryz.prog 6 #[.slice A1 m1 c1, .slice A2 m2 c2] w fun e w' => e = .returned (.bool true) ∧ Ext w w' := by
  have H1 := Lib.hid h1; have H2 := Lib.hid h2; have HR1 := Lib.hid r1; have HR2 := Lib.hid r2
  have hbk : Blk (w.alloc (.cells #[.slice A1 m1 c1, .slice A2 m2 c2] 22)) w.heap.size 22 #[.slice A1 m1 c1, .slice A2 m2 c2] := Blk.new _ _ _
  have hsm := fun b hb => small2 (h1.ext (Ext.new w (.cells #[.slice A1 m1 c1, .slice A2 m2 c2] 22))) (h2.ext (Ext.new w (.cells #[.slice A1 m1 c1, .slice A2 m2 c2] 22))) hbk b hb
  clear h1 h2 r1 r2 hbk
  by_cases hS : Sml m1 R1 E1 ∧ Sml m2 R2 E2
  rotate_left
  · have HSm := Lib.hid (hsm false (by simp only [Bool.false_eq_true, false_iff]; exact hS))
    clear hsm hS
    go_enter Tryz.func6, Tryz.ntmps6
    have HE := Lib.hid (Ext.new w (.cells #[.slice A1 m1 c1, .slice A2 m2 c2] 22))
    go_wp2_with fail
    refine (HSm.out).mono ?_
    rintro e w1 ⟨rfl, hx⟩
    replace HE := Lib.hid (HE.out.trans hx); clear hx
    go_wp2_with fail
    refine (llknown_ok _).mono ?_
    rintro e w9 ⟨rfl, hx⟩
    replace HE := Lib.hid (HE.out.trans hx); clear hx
    go_wp2_with fail
    go_ret
    exact ⟨rfl, HE.out⟩
  have HSm := Lib.hid (hsm true (by simp only [true_iff]; exact hS))
  clear hsm
  obtain ⟨vb1, X, hX⟩ := raw_vb HR1.out hS.1
  obtain ⟨vb2, Y, hY⟩ := raw_vb HR2.out hS.2
  have HX := Lib.hid hX; have HY := Lib.hid hY; have HS6 := Lib.hid hS
  clear hX hY hS HR1 HR2
  have hqa := fun b (hb : b = true ↔ IsM m1 R1 vb1) => Lib.hid (fun (w' : World) (x : Ext w w') => qMatrix_any (c := c1) (H1.out.ext x) (fun i j hi hj => (HX.out i j hi hj).1.ext x) b hb)
  have hqb := fun b (hb : b = true ↔ IsM m2 R2 vb2) => Lib.hid (fun (w' : World) (x : Ext w w') => qMatrix_any (c := c2) (H2.out.ext x) (fun i j hi hj => (HY.out i j hi hj).1.ext x) b hb)
  by_cases hM1 : IsM m1 R1 vb1
  rotate_left
  · have HQa := hqa false (by simp only [Bool.false_eq_true, false_iff]; exact hM1)
    clear hqa hqb hM1
    go_enter Tryz.func6, Tryz.ntmps6
    have HE := Lib.hid (Ext.new w (.cells #[.slice A1 m1 c1, .slice A2 m2 c2] 22))
    go_wp2_with fail
    refine (HSm.out).mono ?_
    rintro e w1 ⟨rfl, hx⟩
    replace HE := Lib.hid (HE.out.trans hx); clear hx
    go_wp2_with fail
    refine (HQa.out _ HE.out).mono ?_
    rintro e w2 ⟨rfl, hx⟩
    replace HE := Lib.hid (HE.out.trans hx); clear hx
    go_wp2_with fail
    refine (llknown_ok _).mono ?_
    rintro e w9 ⟨rfl, hx⟩
    replace HE := Lib.hid (HE.out.trans hx); clear hx
    go_wp2_with fail
    go_ret
    exact ⟨rfl, HE.out⟩
  have HQa := hqa true (by simp only [true_iff]; exact hM1)
  have HM1 := Lib.hid hM1
  clear hqa hM1
  by_cases hM2 : IsM m2 R2 vb2
  rotate_left
  · have HQb := hqb false (by simp only [Bool.false_eq_true, false_iff]; exact hM2)
    clear hqb hM2
    go_enter Tryz.func6, Tryz.ntmps6
    have HE := Lib.hid (Ext.new w (.cells #[.slice A1 m1 c1, .slice A2 m2 c2] 22))
    go_wp2_with fail
    refine (HSm.out).mono ?_
    rintro e w1 ⟨rfl, hx⟩
    replace HE := Lib.hid (HE.out.trans hx); clear hx
    go_wp2_with fail
    refine (HQa.out _ HE.out).mono ?_
    rintro e w2 ⟨rfl, hx⟩
    replace HE := Lib.hid (HE.out.trans hx); clear hx
    go_wp2_with fail
    refine (HQb.out _ HE.out).mono ?_
    rintro e w3 ⟨rfl, hx⟩
    replace HE := Lib.hid (HE.out.trans hx); clear hx
    go_wp2_with fail
    refine (llknown_ok _).mono ?_
    rintro e w9 ⟨rfl, hx⟩
    replace HE := Lib.hid (HE.out.trans hx); clear hx
    go_wp2_with fail
    go_ret
    exact ⟨rfl, HE.out⟩
  have HQb := hqb true (by simp only [true_iff]; exact hM2)
  have HM2 := Lib.hid hM2
  clear hqb hM2
  by_cases e3 : m1 = m2
  rotate_left
  · have d3 : ((m1 : Int) != (m2 : Int)) = true := by simp; omega
    clear e3
    go_enter Tryz.func6, Tryz.ntmps6
    have HE := Lib.hid (Ext.new w (.cells #[.slice A1 m1 c1, .slice A2 m2 c2] 22))
    go_wp2_with fail
    refine (HSm.out).mono ?_
    rintro e w1 ⟨rfl, hx⟩
    replace HE := Lib.hid (HE.out.trans hx); clear hx
    go_wp2_with fail
    refine (HQa.out _ HE.out).mono ?_
    rintro e w2 ⟨rfl, hx⟩
    replace HE := Lib.hid (HE.out.trans hx); clear hx
    go_wp2_with fail
    refine (HQb.out _ HE.out).mono ?_
    rintro e w3 ⟨rfl, hx⟩
    replace HE := Lib.hid (HE.out.trans hx); clear hx
    go_wp2_with fail
    refine (llknown_ok _).mono ?_
    rintro e w9 ⟨rfl, hx⟩
    replace HE := Lib.hid (HE.out.trans hx); clear hx
    go_wp2_with fail
    go_ret
    exact ⟨rfl, HE.out⟩
  subst e3
  have d3 : ((m1 : Int) != (m1 : Int)) = false := by simp
  have hnb2 : wd m1 R2 ≤ 6 := by
    unfold wd
    split
    · omega
    · exact HS6.out.2.2.1 0 (by omega)
  have HM6 := Lib.hid HS6.out.1.1
  have HNB := Lib.hid hnb2; clear hnb2
  have HN2 := Lib.hid (show ∀ i, i < m1 → (R2 i).n = wd m1 R2 from fun i hi => HM2.out.2.2.1 i hi)
  have hW0 : m1 = 0 → wd m1 R2 = 0 := fun e => by unfold wd; rw [if_pos e]
  have hkey : (m1 = 0 ∨ m1 = (R1 0).n) ∨ (m1 ≠ 0 ∧ m1 ≠ (R1 0).n) := by omega
  rcases hkey with hkey | ⟨e4, e6⟩
  rotate_left
  · have hA1 := H1.out.at0 (by omega)
    subst hA1
    have d4 : decide ((m1 : Int) > 0) = true := by simp; omega
    have d6 : ((m1 : Int) != ((R1 0).n : Int)) = true := by simp; omega
    have q0 : (0 : Int) < (m1 : Int) := by omega
    clear e6 e4
    go_enter Tryz.func6, Tryz.ntmps6
    have HE := Lib.hid (Ext.new w (.cells #[.slice (some ⟨B1, O1, none⟩) m1 c1, .slice A2 m1 c2] 22))
    go_wp2_with fail
    refine (HSm.out).mono ?_
    rintro e w1 ⟨rfl, hx⟩
    replace HE := Lib.hid (HE.out.trans hx); clear hx
    go_wp2_with fail
    refine (HQa.out _ HE.out).mono ?_
    rintro e w2 ⟨rfl, hx⟩
    replace HE := Lib.hid (HE.out.trans hx); clear hx
    go_wp2_with fail
    refine (HQb.out _ HE.out).mono ?_
    rintro e w3 ⟨rfl, hx⟩
    replace HE := Lib.hid (HE.out.trans hx); clear hx
    have hr1 := (H1.out.rowc (i := 0) (by omega) HE.out)
    rw [Nat.add_zero] at hr1
    go_wp2_with fail
    refine (llknown_ok _).mono ?_
    rintro e w9 ⟨rfl, hx⟩
    replace HE := Lib.hid (HE.out.trans hx); clear hx
    go_wp2_with fail
    go_ret
    exact ⟨rfl, HE.out⟩
  by_cases e4 : m1 = 0
  · have d4 : decide ((m1 : Int) > 0) = false := by simp; omega
    have d4a : decide ((0 : Int) < (m1 : Int)) = false := by simp; omega
    have d4b : decide (0 < m1) = false := by simp; omega
    have d4c : ¬ (0 : Int) < (m1 : Int) := by omega
    have hwd1 : wd m1 R1 = m1 := by unfold wd; rw [if_pos e4]; exact e4.symm
    have HN1 := Lib.hid (show ∀ i, i < m1 → (R1 i).n = m1 from fun i hi => (HM1.out.2.2.1 i hi).trans hwd1)
    have HG1 := Lib.hid (show ∀ i j, i < m1 → j < m1 → GV w (E1 i j).v (X i j) 32 from fun i j hi hj => (HX.out i j hi (by rw [HN1.out i hi]; exact hj)).2 (HM1.out.2.2.2 i j hi (by rw [HN1.out i hi]; exact hj)))
    have HG2 := Lib.hid (show ∀ i j, i < m1 → j < wd m1 R2 → GV w (E2 i j).v (Y i j) 32 from fun i j hi hj => (HY.out i j hi (by rw [HN2.out i hi]; exact hj)).2 (HM2.out.2.2.2 i j hi (by rw [HN2.out i hi]; exact hj)))
    generalize hnb : wd m1 R2 = nb at HN2 HG2 HNB hW0
    have HW2 := Lib.hid hnb; clear hnb
    have HB1 := Lib.hid (show ∀ i j, i < m1 → j < m1 → Bd (X i j) 32 from fun i j hi hj => (HG1.out i j hi hj).bd)
    have HBZ := Lib.hid (side_bd (Y := Y) HB1.out (fun i j hi hj => (HG2.out i j hi hj).bd))
    have HW1 := Lib.hid hwd1
    clear hwd1
    have hsd := side_congr (m := m1) (X := X) (Y := Y) m1 (Nat.le_refl _)
    have HSD := Lib.hid hsd.1; clear hsd
    have hrle := ech_le' m1 (side m1 X Y) m1
    have hm6 := HM6.out; have hnb6 := HNB.out
    have HSV := fun (w' : World) (x : Ext w w') => solve_r (c := c1) (c2 := c2) (X := X) (Y := Y) (N := 2340) (Ns := 5440) (Nd := 5440) (Nx := 2720) (H1.out.ext x) (H2.out.ext x) (fun i j hi hj => (HX.out i j hi hj).1.ext x) (fun i j hi hj => (HY.out i j hi hj).1.ext x) HM1.out HM2.out HN1.out HN2.out (by omega)
      (fun i j hi hj => ((HG1.out i j hi hj).ext x).up (by omega)) (fun i j hi hj => ((HG2.out i j hi hj).ext x).up (by omega)) (by omega) (roomZ HM6.out HBZ.out) (fun hr => roomC6 HM6.out HBZ.out hr)
    have HDT := fun (w' : World) (x : Ext w w') => det_ok (c := c1) (X := X) (N := 2340) (N2 := 2340) (H1.out.ext x) (fun i j hi hj => (HX.out i j hi hj).1.ext x) HM1.out HN1.out (fun i j hi hj => ((HG1.out i j hi hj).ext x).up (by omega)) (by omega) (room6 HM6.out HB1.out) (pp6 HM6.out HB1.out) (dg6 HM6.out HB1.out) (by omega) (by omega)
    have HRK := fun (w' : World) (x : Ext w w') => rank_ok (c := c1) (X := X) (na := m1) (N := 2340) (H1.out.ext x) (fun i j hi hj => (HX.out i j hi hj).1.ext x) HM1.out HN1.out (fun h => h) (by omega) (fun i j hi hj => ((HG1.out i j hi hj).ext x).up (by omega)) (by omega) (room6 HM6.out HB1.out)
    have HSVh := Lib.hid HSV; have HDTh := Lib.hid HDT; have HRKh := Lib.hid HRK
    clear HSV HDT HRK
    clear hkey e4
    go_enter Tryz.func6, Tryz.ntmps6
    have HE := Lib.hid (Ext.new w (.cells #[.slice A1 m1 c1, .slice A2 m1 c2] 22))
    go_wp2_with fail
    refine (HSm.out).mono ?_
    rintro e w1 ⟨rfl, hx⟩
    replace HE := Lib.hid (HE.out.trans hx); clear hx
    go_wp2_with fail
    refine (HQa.out _ HE.out).mono ?_
    rintro e w2 ⟨rfl, hx⟩
    replace HE := Lib.hid (HE.out.trans hx); clear hx
    go_wp2_with fail
    refine (HQb.out _ HE.out).mono ?_
    rintro e w3 ⟨rfl, hx⟩
    replace HE := Lib.hid (HE.out.trans hx); clear hx
    go_wp2_with fail
    clear d3 d4 d4a d4b d4c HQa HQb HSm
    refine (HSVh.out _ HE.out).mono ?_
    rintro e w4 ⟨hor, hx⟩
    replace HE := Lib.hid (HE.out.trans hx)
    rcases hor with ⟨hlt, rfl⟩ | ⟨hfl, G, RX, rfl, hO⟩
    · clear hx
      have hz : detv m1 X = GQ.i 0 0 := detv_zero.2 (by rw [← HSD.out]; exact hlt)
      have HZ := Lib.hid hz; clear hz
      have dr : (((ech m1 X m1).r : Int) == (m1 : Int)) = false := by
        have := HSD.out
        simp; omega
      clear hlt
      go_wp2_with fail
      refine (HDTh.out _ HE.out).mono ?_
      rintro e w5 ⟨v, rfl, hv, hx⟩
      obtain ⟨s1, D1, n1, k1, s2, D2, n2, k2, s3, D3, n3, k3, rfl⟩ := hv.opn
      have hxn := Ext.new w5 (.cells #[.bool s1, .slice D1 n1 k1, .bool s2, .slice D2 n2 k2, .bool s3, .slice D3 n3 k3] 32)
      have HV := Lib.hid (hv.ext hxn)
      have HB := Lib.hid (Blk.new w5 32 #[.bool s1, .slice D1 n1 k1, .bool s2, .slice D2 n2 k2, .bool s3, .slice D3 n3 k3])
      replace HE := Lib.hid (HE.out.trans (hx.trans hxn)); clear hx hv hxn
      go_wp2_with fail
      generalize (w5.alloc (.cells #[.bool s1, .slice D1 n1 k1, .bool s2, .slice D2 n2 k2, .bool s3, .slice D3 n3 k3] 32)) = w6 at HV HB HE ⊢
      generalize w5.heap.size = gd at HB ⊢
      refine (HRKh.out _ HE.out).mono ?_
      rintro e w7 ⟨rfl, hx⟩
      replace HE := Lib.hid (HE.out.trans hx)
      have HV7 := Lib.hid (HV.out.ext hx)
      have kd := (HB.out.ext hx).cell
      clear hx
      go_wp2_with fail
      refine (qZero_yes _ _ _ _ HV7.out (by omega) HZ.out).mono ?_
      rintro e w8 ⟨rfl, hx⟩
      replace HE := Lib.hid (HE.out.trans hx); clear hx kd
      go_wp2_with fail
      refine (llknown_ok _).mono ?_
      rintro e w9 ⟨rfl, hx⟩
      replace HE := Lib.hid (HE.out.trans hx); clear hx
      go_wp2_with fail
      go_ret
      exact ⟨rfl, HE.out⟩
    · have HO := Lib.hid hO; clear hO hx
      have HFL := Lib.hid hfl
      have hz : detv m1 X ≠ GQ.i 0 0 := fun h => by
        have := detv_zero.1 h
        have := HSD.out
        omega
      have HZ := Lib.hid hz; clear hz
      have dr : (((ech m1 X m1).r : Int) == (m1 : Int)) = true := by
        have := HSD.out
        simp; omega
      clear hfl
      go_wp2_with fail
      refine (HDTh.out _ HE.out).mono ?_
      rintro e w5 ⟨v, rfl, hv, hx⟩
      obtain ⟨s1, D1, n1, k1, s2, D2, n2, k2, s3, D3, n3, k3, rfl⟩ := hv.opn
      have hxn := Ext.new w5 (.cells #[.bool s1, .slice D1 n1 k1, .bool s2, .slice D2 n2 k2, .bool s3, .slice D3 n3 k3] 32)
      have HV := Lib.hid (hv.ext hxn)
      have HB := Lib.hid (Blk.new w5 32 #[.bool s1, .slice D1 n1 k1, .bool s2, .slice D2 n2 k2, .bool s3, .slice D3 n3 k3])
      replace HO := Lib.hid (HO.out.ext (hx.trans hxn))
      replace HE := Lib.hid (HE.out.trans (hx.trans hxn)); clear hx hv hxn
      go_wp2_with fail
      generalize (w5.alloc (.cells #[.bool s1, .slice D1 n1 k1, .bool s2, .slice D2 n2 k2, .bool s3, .slice D3 n3 k3] 32)) = w6 at HV HB HE HO ⊢
      generalize w5.heap.size = gd at HB ⊢
      refine (HRKh.out _ HE.out).mono ?_
      rintro e w7 ⟨rfl, hx⟩
      replace HE := Lib.hid (HE.out.trans hx); replace HO := Lib.hid (HO.out.ext hx)
      have HV7 := Lib.hid (HV.out.ext hx)
      have kd := (HB.out.ext hx).cell
      clear hx
      go_wp2_with fail
      refine (qZero_no _ _ _ _ HV7.out (by omega) HZ.out).mono ?_
      rintro e w8 ⟨rfl, hx⟩
      replace HE := Lib.hid (HE.out.trans hx); replace HO := Lib.hid (HO.out.ext hx); clear hx kd
      obtain ⟨Rx, Ex, hMx, hnx, hvx⟩ := HO.out.mem (by omega) (by omega)
      have hwx : wd m1 Rx = nb := by
        unfold wd
        by_cases e : m1 = 0
        · rw [if_pos e]; exact (hW0 e).symm
        · rw [if_neg e]; exact hnx 0 (by omega)
      have hIx : IsM m1 Rx (fun _ _ => true) := ⟨by omega, by rw [hwx]; omega, fun i hi => by rw [hwx]; exact hnx i hi, fun _ _ _ _ => rfl⟩
      have hbx : ∀ i j, i < m1 → j < nb → Bd (sol m1 X Y i j) 2720 := fun i j hi hj => by
        rw [sol_is HFL.out hi]; exact sol_bd HM6.out HBZ.out HFL.out i _ hi (by omega)
      have hpr := product_ok (c1 := c1) (c2 := m1) (Na := 32) (Nb := 2720) (Ns := 3300) (X := X) (Y := sol m1 X Y) (vb2 := fun _ _ => true) (H1.out.ext HE.out) hMx (fun i j hi hj => (HX.out i j hi hj).1.ext HE.out) (fun i j hi hj => (hvx i j hi (by rw [hnx i hi] at hj; exact hj)).vb (by omega)) HM1.out hIx HW1.out hwx
        (fun i k hi hk => (HG1.out i k hi hk).ext HE.out) (fun k j hk hj => (hvx k j hk hj).to (hbx k j hk hj)) (fun i j s hi hj hs => prod_bd HM6.out HB1.out HBZ.out HFL.out hi hj hs) (by omega) (by omega) (by omega)
      have HPR := Lib.hid hpr; clear hpr hbx hIx hwx hMx hnx hvx
      go_wp2_with fail
      refine HPR.out.mono ?_
      rintro e w10 ⟨G2, RX2, rfl, hO2, hx⟩
      replace HE := Lib.hid (HE.out.trans hx); clear hx HPR
      have HO2 := Lib.hid hO2; clear hO2
      go_wp2_with fail
      refine (llknown_ok _).mono ?_
      rintro e w11 ⟨rfl, hx⟩
      replace HE := Lib.hid (HE.out.trans hx); replace HO2 := Lib.hid (HO2.out.ext hx); clear hx
      obtain ⟨Rx, Ex, hMx, hnx, hvx⟩ := HO2.out.mem (by omega) (by omega)
      have hsm := same_mx (c := m1) (c2 := c2) (X := fun i j => psum X (sol m1 X Y) i j m1) hMx (H2.out.ext HE.out) (fun i hi => (hnx i hi).trans (HN2.out i hi).symm) (by omega) (fun i hi => by rw [hnx i hi]; omega) (fun i j hi hj => hvx i j hi (by rw [hnx i hi] at hj; exact hj)) (fun i j hi hj => by
        rw [hnx i hi] at hj
        show GV _ _ (psum X (sol m1 X Y) i j m1) _
        rw [sol_right HFL.out hi]
        exact ((HG2.out i j hi hj).ext HE.out).up (by omega))
      have HSM := Lib.hid hsm; clear hsm hMx hnx hvx
      go_wp2_with fail
      refine HSM.out.mono ?_
      rintro e w12 ⟨rfl, hx⟩
      replace HE := Lib.hid (HE.out.trans hx); clear hx
      go_wp2_with fail
      go_ret
      exact ⟨rfl, HE.out⟩
  · have e6 : m1 = (R1 0).n := by omega
    have hA1 := H1.out.at0 (by omega)
    subst hA1
    have d4 : decide ((m1 : Int) > 0) = true := by simp; omega
    have d6 : ((m1 : Int) != ((R1 0).n : Int)) = false := by simp; omega
    have q0 : (0 : Int) < (m1 : Int) := by omega
    have hwd1 : wd m1 R1 = m1 := by unfold wd; rw [if_neg e4]; exact e6.symm
    have HN1 := Lib.hid (show ∀ i, i < m1 → (R1 i).n = m1 from fun i hi => (HM1.out.2.2.1 i hi).trans hwd1)
    have HG1 := Lib.hid (show ∀ i j, i < m1 → j < m1 → GV w (E1 i j).v (X i j) 32 from fun i j hi hj => (HX.out i j hi (by rw [HN1.out i hi]; exact hj)).2 (HM1.out.2.2.2 i j hi (by rw [HN1.out i hi]; exact hj)))
    have HG2 := Lib.hid (show ∀ i j, i < m1 → j < wd m1 R2 → GV w (E2 i j).v (Y i j) 32 from fun i j hi hj => (HY.out i j hi (by rw [HN2.out i hi]; exact hj)).2 (HM2.out.2.2.2 i j hi (by rw [HN2.out i hi]; exact hj)))
    generalize hnb : wd m1 R2 = nb at HN2 HG2 HNB hW0
    have HW2 := Lib.hid hnb; clear hnb
    have HB1 := Lib.hid (show ∀ i j, i < m1 → j < m1 → Bd (X i j) 32 from fun i j hi hj => (HG1.out i j hi hj).bd)
    have HBZ := Lib.hid (side_bd (Y := Y) HB1.out (fun i j hi hj => (HG2.out i j hi hj).bd))
    have HW1 := Lib.hid hwd1
    clear hwd1
    have hsd := side_congr (m := m1) (X := X) (Y := Y) m1 (Nat.le_refl _)
    have HSD := Lib.hid hsd.1; clear hsd
    have hrle := ech_le' m1 (side m1 X Y) m1
    have hm6 := HM6.out; have hnb6 := HNB.out
    have HSV := fun (w' : World) (x : Ext w w') => solve_r (c := c1) (c2 := c2) (X := X) (Y := Y) (N := 2340) (Ns := 5440) (Nd := 5440) (Nx := 2720) (H1.out.ext x) (H2.out.ext x) (fun i j hi hj => (HX.out i j hi hj).1.ext x) (fun i j hi hj => (HY.out i j hi hj).1.ext x) HM1.out HM2.out HN1.out HN2.out (by omega)
      (fun i j hi hj => ((HG1.out i j hi hj).ext x).up (by omega)) (fun i j hi hj => ((HG2.out i j hi hj).ext x).up (by omega)) (by omega) (roomZ HM6.out HBZ.out) (fun hr => roomC6 HM6.out HBZ.out hr)
    have HDT := fun (w' : World) (x : Ext w w') => det_ok (c := c1) (X := X) (N := 2340) (N2 := 2340) (H1.out.ext x) (fun i j hi hj => (HX.out i j hi hj).1.ext x) HM1.out HN1.out (fun i j hi hj => ((HG1.out i j hi hj).ext x).up (by omega)) (by omega) (room6 HM6.out HB1.out) (pp6 HM6.out HB1.out) (dg6 HM6.out HB1.out) (by omega) (by omega)
    have HRK := fun (w' : World) (x : Ext w w') => rank_ok (c := c1) (X := X) (na := m1) (N := 2340) (H1.out.ext x) (fun i j hi hj => (HX.out i j hi hj).1.ext x) HM1.out HN1.out (fun h => h) (by omega) (fun i j hi hj => ((HG1.out i j hi hj).ext x).up (by omega)) (by omega) (room6 HM6.out HB1.out)
    have HSVh := Lib.hid HSV; have HDTh := Lib.hid HDT; have HRKh := Lib.hid HRK
    clear HSV HDT HRK
    clear hkey e4 e6
    go_enter Tryz.func6, Tryz.ntmps6
    have HE := Lib.hid (Ext.new w (.cells #[.slice (some ⟨B1, O1, none⟩) m1 c1, .slice A2 m1 c2] 22))
    go_wp2_with fail
    refine (HSm.out).mono ?_
    rintro e w1 ⟨rfl, hx⟩
    replace HE := Lib.hid (HE.out.trans hx); clear hx
    go_wp2_with fail
    refine (HQa.out _ HE.out).mono ?_
    rintro e w2 ⟨rfl, hx⟩
    replace HE := Lib.hid (HE.out.trans hx); clear hx
    go_wp2_with fail
    refine (HQb.out _ HE.out).mono ?_
    rintro e w3 ⟨rfl, hx⟩
    replace HE := Lib.hid (HE.out.trans hx); clear hx
    have hr1 := (H1.out.rowc (i := 0) (by omega) HE.out)
    rw [Nat.add_zero] at hr1
    go_wp2_with fail
    clear d3 d4 d6 hr1 HQa HQb HSm
    refine (HSVh.out _ HE.out).mono ?_
    rintro e w4 ⟨hor, hx⟩
    replace HE := Lib.hid (HE.out.trans hx)
    rcases hor with ⟨hlt, rfl⟩ | ⟨hfl, G, RX, rfl, hO⟩
    · clear hx
      have hz : detv m1 X = GQ.i 0 0 := detv_zero.2 (by rw [← HSD.out]; exact hlt)
      have HZ := Lib.hid hz; clear hz
      have dr : (((ech m1 X m1).r : Int) == (m1 : Int)) = false := by
        have := HSD.out
        simp; omega
      clear hlt
      go_wp2_with fail
      refine (HDTh.out _ HE.out).mono ?_
      rintro e w5 ⟨v, rfl, hv, hx⟩
      obtain ⟨s1, D1, n1, k1, s2, D2, n2, k2, s3, D3, n3, k3, rfl⟩ := hv.opn
      have hxn := Ext.new w5 (.cells #[.bool s1, .slice D1 n1 k1, .bool s2, .slice D2 n2 k2, .bool s3, .slice D3 n3 k3] 32)
      have HV := Lib.hid (hv.ext hxn)
      have HB := Lib.hid (Blk.new w5 32 #[.bool s1, .slice D1 n1 k1, .bool s2, .slice D2 n2 k2, .bool s3, .slice D3 n3 k3])
      replace HE := Lib.hid (HE.out.trans (hx.trans hxn)); clear hx hv hxn
      go_wp2_with fail
      generalize (w5.alloc (.cells #[.bool s1, .slice D1 n1 k1, .bool s2, .slice D2 n2 k2, .bool s3, .slice D3 n3 k3] 32)) = w6 at HV HB HE ⊢
      generalize w5.heap.size = gd at HB ⊢
      refine (HRKh.out _ HE.out).mono ?_
      rintro e w7 ⟨rfl, hx⟩
      replace HE := Lib.hid (HE.out.trans hx)
      have HV7 := Lib.hid (HV.out.ext hx)
      have kd := (HB.out.ext hx).cell
      clear hx
      go_wp2_with fail
      refine (qZero_yes _ _ _ _ HV7.out (by omega) HZ.out).mono ?_
      rintro e w8 ⟨rfl, hx⟩
      replace HE := Lib.hid (HE.out.trans hx); clear hx kd
      go_wp2_with fail
      refine (llknown_ok _).mono ?_
      rintro e w9 ⟨rfl, hx⟩
      replace HE := Lib.hid (HE.out.trans hx); clear hx
      go_wp2_with fail
      go_ret
      exact ⟨rfl, HE.out⟩
    · have HO := Lib.hid hO; clear hO hx
      have HFL := Lib.hid hfl
      have hz : detv m1 X ≠ GQ.i 0 0 := fun h => by
        have := detv_zero.1 h
        have := HSD.out
        omega
      have HZ := Lib.hid hz; clear hz
      have dr : (((ech m1 X m1).r : Int) == (m1 : Int)) = true := by
        have := HSD.out
        simp; omega
      clear hfl
      go_wp2_with fail
      refine (HDTh.out _ HE.out).mono ?_
      rintro e w5 ⟨v, rfl, hv, hx⟩
      obtain ⟨s1, D1, n1, k1, s2, D2, n2, k2, s3, D3, n3, k3, rfl⟩ := hv.opn
      have hxn := Ext.new w5 (.cells #[.bool s1, .slice D1 n1 k1, .bool s2, .slice D2 n2 k2, .bool s3, .slice D3 n3 k3] 32)
      have HV := Lib.hid (hv.ext hxn)
      have HB := Lib.hid (Blk.new w5 32 #[.bool s1, .slice D1 n1 k1, .bool s2, .slice D2 n2 k2, .bool s3, .slice D3 n3 k3])
      replace HO := Lib.hid (HO.out.ext (hx.trans hxn))
      replace HE := Lib.hid (HE.out.trans (hx.trans hxn)); clear hx hv hxn
      go_wp2_with fail
      generalize (w5.alloc (.cells #[.bool s1, .slice D1 n1 k1, .bool s2, .slice D2 n2 k2, .bool s3, .slice D3 n3 k3] 32)) = w6 at HV HB HE HO ⊢
      generalize w5.heap.size = gd at HB ⊢
      refine (HRKh.out _ HE.out).mono ?_
      rintro e w7 ⟨rfl, hx⟩
      replace HE := Lib.hid (HE.out.trans hx); replace HO := Lib.hid (HO.out.ext hx)
      have HV7 := Lib.hid (HV.out.ext hx)
      have kd := (HB.out.ext hx).cell
      clear hx
      go_wp2_with fail
      refine (qZero_no _ _ _ _ HV7.out (by omega) HZ.out).mono ?_
      rintro e w8 ⟨rfl, hx⟩
      replace HE := Lib.hid (HE.out.trans hx); replace HO := Lib.hid (HO.out.ext hx); clear hx kd
      obtain ⟨Rx, Ex, hMx, hnx, hvx⟩ := HO.out.mem (by omega) (by omega)
      have hwx : wd m1 Rx = nb := by
        unfold wd
        by_cases e : m1 = 0
        · rw [if_pos e]; exact (hW0 e).symm
        · rw [if_neg e]; exact hnx 0 (by omega)
      have hIx : IsM m1 Rx (fun _ _ => true) := ⟨by omega, by rw [hwx]; omega, fun i hi => by rw [hwx]; exact hnx i hi, fun _ _ _ _ => rfl⟩
      have hbx : ∀ i j, i < m1 → j < nb → Bd (sol m1 X Y i j) 2720 := fun i j hi hj => by
        rw [sol_is HFL.out hi]; exact sol_bd HM6.out HBZ.out HFL.out i _ hi (by omega)
      have hpr := product_ok (c1 := c1) (c2 := m1) (Na := 32) (Nb := 2720) (Ns := 3300) (X := X) (Y := sol m1 X Y) (vb2 := fun _ _ => true) (H1.out.ext HE.out) hMx (fun i j hi hj => (HX.out i j hi hj).1.ext HE.out) (fun i j hi hj => (hvx i j hi (by rw [hnx i hi] at hj; exact hj)).vb (by omega)) HM1.out hIx HW1.out hwx
        (fun i k hi hk => (HG1.out i k hi hk).ext HE.out) (fun k j hk hj => (hvx k j hk hj).to (hbx k j hk hj)) (fun i j s hi hj hs => prod_bd HM6.out HB1.out HBZ.out HFL.out hi hj hs) (by omega) (by omega) (by omega)
      have HPR := Lib.hid hpr; clear hpr hbx hIx hwx hMx hnx hvx
      go_wp2_with fail
      refine HPR.out.mono ?_
      rintro e w10 ⟨G2, RX2, rfl, hO2, hx⟩
      replace HE := Lib.hid (HE.out.trans hx); clear hx HPR
      have HO2 := Lib.hid hO2; clear hO2
      go_wp2_with fail
      refine (llknown_ok _).mono ?_
      rintro e w11 ⟨rfl, hx⟩
      replace HE := Lib.hid (HE.out.trans hx); replace HO2 := Lib.hid (HO2.out.ext hx); clear hx
      obtain ⟨Rx, Ex, hMx, hnx, hvx⟩ := HO2.out.mem (by omega) (by omega)
      have hsm := same_mx (c := m1) (c2 := c2) (X := fun i j => psum X (sol m1 X Y) i j m1) hMx (H2.out.ext HE.out) (fun i hi => (hnx i hi).trans (HN2.out i hi).symm) (by omega) (fun i hi => by rw [hnx i hi]; omega) (fun i j hi hj => hvx i j hi (by rw [hnx i hi] at hj; exact hj)) (fun i j hi hj => by
        rw [hnx i hi] at hj
        show GV _ _ (psum X (sol m1 X Y) i j m1) _
        rw [sol_right HFL.out hi]
        exact ((HG2.out i j hi hj).ext HE.out).up (by omega))
      have HSM := Lib.hid hsm; clear hsm hMx hnx hvx
      go_wp2_with fail
      refine HSM.out.mono ?_
      rintro e w12 ⟨rfl, hx⟩
      replace HE := Lib.hid (HE.out.trans hx); clear hx
      go_wp2_with fail
      go_ret
      exact ⟨rfl, HE.out⟩
end Go.Proofs.YtclkkoiaaddllaaGreat
