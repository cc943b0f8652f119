/- Contracts: division of valid integers. -/
import Derived.Test.YtfdpbcjcinchgaaDoorIy
namespace Go.Proofs.YtfdpbcjcinchgaaDoor
open Go.RowKit
set_option linter.unusedVariables false

theorem div_lim {x y : Int} (ax : x.natAbs < lim) : x.natAbs / y.natAbs < lim := Nat.lt_of_le_of_lt (Nat.div_le_self _ _) ax
theorem mod_lim {x y : Int} (ax : x.natAbs < lim) : x.natAbs % y.natAbs < lim := Nat.lt_of_le_of_lt (Nat.mod_le _ _) ax
theorem resS_of {s : Bool} {k : Nat} {z : Int} (h : z = zOf s k) (hk : k < lim) : resS (zOf s k) = (z, 0) := by rw [resS_ok (by rw [zOf_abs]; exact hk), h]
theorem digs_some {k n : Nat} (h : (digs k).length = n) : 0 < n ↔ 0 < k := by
  rcases Nat.eq_zero_or_pos k with h0 | h0
  · subst h0; rw [digs_zero] at h; simp at h; omega
  · have : digs k ≠ [] := fun e => by rw [digs_nil] at e; omega
    have := List.length_pos_iff.2 this
    omega

set_option maxRecDepth 100000 in
set_option maxHeartbeats 1600000 in
theorem Divide_ok (v u : Value) (x y : Int) (w : World) (hX : RI w v x) (hY : RI w u y) (ax : x.natAbs < lim) (ay : y.natAbs < lim) (hy0 : y ≠ 0) :
    Calls Tryd.prog 37 #[v, u] w fun e w' => ∃ v, e = .returned v ∧ RetD (x / y) (x % y) 0 v w' ∧ Ext w w' := by
  have HV1 := Lib.hid (RI.valid hX ax)
  have HV2 := Lib.hid (RI.valid hY ay)
  obtain ⟨A, n, c, rfl, hx⟩ := hX
  obtain ⟨B, m, d, rfl, hy⟩ := hY
  have hn := hx.le400 ax
  have hm := hy.le400 ay
  have hm0 : 0 < m := (digs_some hy.len).2 (by omega)
  have t1 : ((m : Int) == 0) = false := by simp; omega
  have t2 : (m == 0) = false := by simp; omega
  generalize hsx : decide (x < 0) = sx at *
  generalize hsy : decide (y < 0) = sy at *
  have HSX := Lib.hid hsx; have HSY := Lib.hid hsy; clear hsx hsy
  go_enter Tryd.func37, Tryd.ntmps37
  go_wp2_with fail
  refine (Valid_any _ A n c _ _ (hx.ext ((((Ext.new w _).alloc _).alloc _).alloc _))).mono ?_
  rintro e w1 ⟨rfl, hx1⟩
  rw [HV1.out]
  have c0 := (boxqa hx1).cell
  have c1 := (boxqb hx1).cell
  go_wp2_with fail
  refine (Valid_any _ B m d _ _ (hy.ext (boxq hx1))).mono ?_
  rintro e w2 ⟨rfl, hx2⟩
  rw [HV2.out]
  clear c0 c1
  have hx2 := hx1.trans hx2
  have c0 := (boxqa hx2).cell
  have c1 := (boxqb hx2).cell
  go_wp2_with fail
  refine (divMag_any A B n m c d x.natAbs y.natAbs _ (hx.ext (boxq hx2)) (hy.ext (boxq hx2)) (by omega) (by omega)).mono ?_
  rintro e w3 ⟨q, r, rfl, ⟨Aq, nq, cq, rfl, hQ⟩, ⟨Ar, nr, cr, rfl, hR⟩, hx3⟩
  clear c0 c1
  have hx3 := hx2.trans hx3
  have c0 := (boxqa hx3).cell
  have c1 := (boxqb hx3).cell
  have hnr := digs_some hR.len
  by_cases hturn : sx = true ∧ 0 < nr
  · obtain ⟨rfl, hnr0⟩ := hturn
    have hx0 : x < 0 := of_decide_eq_true HSX.out
    have hr0 := hnr.1 hnr0
    have hpl := divide_turn (x := x) (y := y) hy0 hx0 hr0
    rw [HSX.out, HSY.out] at hpl
    have HPL := Lib.hid hpl; clear hpl
    have HLE := Lib.hid (divide_le hy0 hx0 hr0)
    have hnq : nq ≤ 400 := by have := hQ.len; have := len_lim (div_lim (y := y) ax); omega
    have hmod := Nat.mod_lt x.natAbs (show 0 < y.natAbs by omega)
    have hnrm : nr ≤ m := by
      have h1 := hR.len
      have h2 := digs_len_le (n := x.natAbs % y.natAbs) (k := m) (Nat.lt_trans hmod (lt_of_digs_len (by rw [hy.len]; exact Nat.le_refl _)))
      omega
    have hnr1 : (0 : Int) < (nr : Int) := by omega
    have HMOD := Lib.hid hmod; clear hmod hx0 hr0 hnr
    go_wp2_with fail
    refine (addMag_any Aq _ nq 1 cq 1 _ [1] _ (hQ.ext (Ext.new w3 _)) (RM.blk (Blk.new _ _ _) (Dig.one (by omega)) rfl (by omega)) (by omega) (by omega)).mono ?_
    rintro e w4 ⟨v4, rfl, ⟨Aq, nq, cq, rfl, hQ⟩, hx4⟩
    rw [val_digs, show val [1] = 1 from rfl] at hQ
    have hx34 := (Ext.new w3 _).trans hx4
    have hR4 := hR.ext hx34
    have hx4 := hx3.trans hx34
    clear c0 c1 hR
    have c1 := (boxqb hx4).cell
    go_wp2_with fail
    refine (subMag_any B Ar m nr d cr _ _ _ (hy.ext (boxq hx4)) hR4 (by omega) hnrm (by rw [val_digs, val_digs]; exact Nat.le_of_lt HMOD.out)).mono ?_
    rintro e w5 ⟨v5, rfl, ⟨Ar, nr, cr, rfl, hR⟩, hx5⟩
    rw [val_digs, val_digs] at hR
    have hQ := hQ.ext hx5
    have hx5 := hx4.trans hx5
    clear c1
    have c0 := (boxqa hx5).cell
    have c1 := (boxqb hx5).cell
    clear hx4 hx34
    obtain ⟨zq, hzq⟩ : ∃ z, z = x / y := ⟨_, rfl⟩
    obtain ⟨zr, hzr⟩ : ∃ z, z = x % y := ⟨_, rfl⟩
    go_wp2_with fail
    refine (result_any _ Aq nq cq _ _ hQ).mono ?_
    rintro e w4 ⟨v4, rfl, hret, hx4⟩
    have HZQ := Lib.hid hzq; have HZR := Lib.hid hzr; clear hzq hzr
    have hq1 := HZQ.out.trans HPL.out.1
    simp only [Bool.true_bne] at hq1
    rw [val_digs, resS_of hq1 (Nat.lt_of_le_of_lt HLE.out ax)] at hret
    have HQ1 := Lib.hid hq1; clear hq1
    obtain ⟨u4, rfl, A4, n4, c4, rfl, hI4⟩ := hret
    have hR4 := hR.ext hx4
    have hx4 := hx5.trans hx4
    clear c0 c1
    have b4 := boxqc hx4
    have c4' := b4.cell
    have f4 := b4.frozen
    obtain ⟨k1, k2, k3⟩ := put2 (boxq hx4) (by omega) b4 (decide (zq < 0)) A4 n4 c4
    have hR5 := k3 _ _ _ _ hR4
    have hI5 := k3 _ _ _ _ hI4
    have b5 := ((boxqd hx4).far (p := ⟨w.heap.size + 2, 0, none⟩) (by simp) (.bool (decide (zq < 0)))).far (p := ⟨w.heap.size + 2, 1, none⟩) (by simp) (.slice A4 n4 c4)
    clear k3
    have K1 := Lib.hid k1; have K2 := Lib.hid k2; have HI5 := Lib.hid hI5; have HR5 := Lib.hid hR5; have HB5 := Lib.hid b5
    clear k1 k2 hI5 hR5 b5 hI4 hR4 hQ hR
    go_wp2_with fail
    refine (result_any false Ar _ cr _ _ HR5.out).mono ?_
    rintro e w6 ⟨v6, rfl, hret, hx6⟩
    rw [val_digs, resS_of (show zr = zOf false _ from HZR.out.trans HPL.out.2) (Nat.lt_of_le_of_lt (Nat.sub_le _ _) ay)] at hret
    obtain ⟨u6, rfl, A6, n6, c6, rfl, hI6⟩ := hret
    have e6 := K1.out.trans hx6
    have b64 := K2.out.ext hx6
    have b65 := HB5.out.ext hx6
    have hI5 := HI5.out.ext hx6
    have c64 := b64.cell
    have f64 := b64.frozen
    have c65 := b65.cell
    have f65 := b65.frozen
    clear c4' f4
    go_wp2_with fail
    obtain ⟨m1, m2, m3⟩ := put2 e6 (by omega) b65 (decide (zr < 0)) A6 n6 c6
    have m4 := (b64.far (p := ⟨w.heap.size + 3, 0, none⟩) (by simp) (.bool (decide (zr < 0)))).far (p := ⟨w.heap.size + 3, 1, none⟩) (by simp) (.slice A6 n6 c6)
    have m5 := m3 _ _ _ _ hI5
    have m6 := m3 _ _ _ _ hI6
    clear m3 c64 f64 c65 f65 b64 b65 hI5 hI6 HI5 HR5 HB5 K1 K2 e6
    rw [show w.heap.size + 1 + 1 + 1 = w.heap.size + 3 from rfl]
    generalize (w6.setCell ⟨w.heap.size + 3, 0, none⟩ (.bool (decide (zr < 0)))).setCell ⟨w.heap.size + 3, 1, none⟩ (.slice A6 n6 c6) = w7 at *
    have p4 : w7.cell? ⟨w.heap.size + 1 + 1, 0, none⟩ = some (.bool (decide (zq < 0))) := by have := m4.cell 0; simpa using this
    have p4' : w7.cell? ⟨w.heap.size + 1 + 1, 1, none⟩ = some (.slice A4 n4 c4) := by have := m4.cell 1; simpa using this
    have p5 : w7.cell? ⟨w.heap.size + 3, 0, none⟩ = some (.bool (decide (zr < 0))) := by have := m2.cell 0; simpa using this
    have p5' : w7.cell? ⟨w.heap.size + 3, 1, none⟩ = some (.slice A6 n6 c6) := by have := m2.cell 1; simpa using this
    have g4 : w7.frozen? ⟨w.heap.size + 1 + 1, 0, none⟩ = false := m4.frozen 0
    have g4' : w7.frozen? ⟨w.heap.size + 1 + 1, 1, none⟩ = false := m4.frozen 1
    have g5 : w7.frozen? ⟨w.heap.size + 3, 0, none⟩ = false := m2.frozen 0
    have g5' : w7.frozen? ⟨w.heap.size + 3, 1, none⟩ = false := m2.frozen 1
    go_region
    go_wp2
    obtain ⟨n1, n2, n3⟩ := put2 m1 (by omega) m4 (decide (zq < 0)) A4 n4 c4
    have n4' := (m2.far (p := ⟨w.heap.size + 2, 0, none⟩) (by simp) (.bool (decide (zq < 0)))).far (p := ⟨w.heap.size + 2, 1, none⟩) (by simp) (.slice A4 n4 c4)
    obtain ⟨o1, o2, o3⟩ := put2 n1 (by omega) n4' (decide (zr < 0)) A6 n6 c6
    have o4 := (n2.far (p := ⟨w.heap.size + 3, 0, none⟩) (by simp) (.bool (decide (zr < 0)))).far (p := ⟨w.heap.size + 3, 1, none⟩) (by simp) (.slice A6 n6 c6)
    have r4 := o3 _ _ _ _ (n3 _ _ _ _ m5)
    have r5 := o3 _ _ _ _ (n3 _ _ _ _ m6)
    rw [← HZQ.out, ← HZR.out]
    exact bp_int3 rfl rfl rfl (o4.ext (Ext.refl _).drew) rfl (o2.ext (Ext.refl _).drew) ⟨_, rfl, ⟨_, _, rfl, ⟨_, _, _, rfl, r4.ext (Ext.refl _).drew⟩, ⟨_, _, _, rfl, r5.ext (Ext.refl _).drew⟩⟩, o1.drew⟩
  · have hpl := divide_plain (x := x) (y := y) hy0 (fun h => by
      have h1 : sx = true := by rw [← HSX.out]; exact decide_eq_true h
      have : ¬ 0 < nr := fun h2 => hturn ⟨h1, h2⟩
      rw [hnr] at this; omega)
    rw [HSX.out, HSY.out] at hpl
    have HPL := Lib.hid hpl; clear hpl
    have hpr : sx = false ∨ (sx = true ∧ nr = 0) := by
      cases sx
      · exact .inl rfl
      · simp at hturn; exact .inr ⟨rfl, by omega⟩
    clear hturn hnr
    rcases hpr with rfl | ⟨rfl, rfl⟩
    all_goals
      obtain ⟨zq, hzq⟩ : ∃ z, z = x / y := ⟨_, rfl⟩
      obtain ⟨zr, hzr⟩ : ∃ z, z = x % y := ⟨_, rfl⟩
      go_wp2_with fail
      refine (result_any _ Aq nq cq _ _ hQ).mono ?_
      rintro e w4 ⟨v4, rfl, hret, hx4⟩
      have HZQ := Lib.hid hzq; have HZR := Lib.hid hzr; clear hzq hzr
      have hq1 := HZQ.out.trans HPL.out.1
      simp only [Bool.false_bne, Bool.true_bne] at hq1
      rw [val_digs, resS_of hq1 (div_lim ax)] at hret
      have HQ1 := Lib.hid hq1; clear hq1
      obtain ⟨u4, rfl, A4, n4, c4, rfl, hI4⟩ := hret
      have hR4 := hR.ext hx4
      have hx4 := hx3.trans hx4
      clear c0 c1
      have b4 := boxqc hx4
      have c4' := b4.cell
      have f4 := b4.frozen
      obtain ⟨k1, k2, k3⟩ := put2 (boxq hx4) (by omega) b4 (decide (zq < 0)) A4 n4 c4
      have hR5 := k3 _ _ _ _ hR4
      have hI5 := k3 _ _ _ _ hI4
      have b5 := ((boxqd hx4).far (p := ⟨w.heap.size + 2, 0, none⟩) (by simp) (.bool (decide (zq < 0)))).far (p := ⟨w.heap.size + 2, 1, none⟩) (by simp) (.slice A4 n4 c4)
      clear k3
      have K1 := Lib.hid k1; have K2 := Lib.hid k2; have HI5 := Lib.hid hI5; have HR5 := Lib.hid hR5; have HB5 := Lib.hid b5
      clear k1 k2 hI5 hR5 b5 hI4 hR4 hQ hR
      go_wp2_with fail
      refine (result_any false Ar _ cr _ _ HR5.out).mono ?_
      rintro e w6 ⟨v6, rfl, hret, hx6⟩
      rw [val_digs, resS_of (show zr = zOf false _ from HZR.out.trans HPL.out.2) (mod_lim ax)] at hret
      obtain ⟨u6, rfl, A6, n6, c6, rfl, hI6⟩ := hret
      have e6 := K1.out.trans hx6
      have b64 := K2.out.ext hx6
      have b65 := HB5.out.ext hx6
      have hI5 := HI5.out.ext hx6
      have c64 := b64.cell
      have f64 := b64.frozen
      have c65 := b65.cell
      have f65 := b65.frozen
      clear c4' f4
      go_wp2_with fail
      obtain ⟨m1, m2, m3⟩ := put2 e6 (by omega) b65 (decide (zr < 0)) A6 n6 c6
      have m4 := (b64.far (p := ⟨w.heap.size + 3, 0, none⟩) (by simp) (.bool (decide (zr < 0)))).far (p := ⟨w.heap.size + 3, 1, none⟩) (by simp) (.slice A6 n6 c6)
      have m5 := m3 _ _ _ _ hI5
      have m6 := m3 _ _ _ _ hI6
      clear m3 c64 f64 c65 f65 b64 b65 hI5 hI6 HI5 HR5 HB5 K1 K2 e6
      rw [show w.heap.size + 1 + 1 + 1 = w.heap.size + 3 from rfl]
      generalize (w6.setCell ⟨w.heap.size + 3, 0, none⟩ (.bool (decide (zr < 0)))).setCell ⟨w.heap.size + 3, 1, none⟩ (.slice A6 n6 c6) = w7 at *
      have p4 : w7.cell? ⟨w.heap.size + 1 + 1, 0, none⟩ = some (.bool (decide (zq < 0))) := by have := m4.cell 0; simpa using this
      have p4' : w7.cell? ⟨w.heap.size + 1 + 1, 1, none⟩ = some (.slice A4 n4 c4) := by have := m4.cell 1; simpa using this
      have p5 : w7.cell? ⟨w.heap.size + 3, 0, none⟩ = some (.bool (decide (zr < 0))) := by have := m2.cell 0; simpa using this
      have p5' : w7.cell? ⟨w.heap.size + 3, 1, none⟩ = some (.slice A6 n6 c6) := by have := m2.cell 1; simpa using this
      have g4 : w7.frozen? ⟨w.heap.size + 1 + 1, 0, none⟩ = false := m4.frozen 0
      have g4' : w7.frozen? ⟨w.heap.size + 1 + 1, 1, none⟩ = false := m4.frozen 1
      have g5 : w7.frozen? ⟨w.heap.size + 3, 0, none⟩ = false := m2.frozen 0
      have g5' : w7.frozen? ⟨w.heap.size + 3, 1, none⟩ = false := m2.frozen 1
      go_region
      go_wp2
      obtain ⟨n1, n2, n3⟩ := put2 m1 (by omega) m4 (decide (zq < 0)) A4 n4 c4
      have n4' := (m2.far (p := ⟨w.heap.size + 2, 0, none⟩) (by simp) (.bool (decide (zq < 0)))).far (p := ⟨w.heap.size + 2, 1, none⟩) (by simp) (.slice A4 n4 c4)
      obtain ⟨o1, o2, o3⟩ := put2 n1 (by omega) n4' (decide (zr < 0)) A6 n6 c6
      have o4 := (n2.far (p := ⟨w.heap.size + 3, 0, none⟩) (by simp) (.bool (decide (zr < 0)))).far (p := ⟨w.heap.size + 3, 1, none⟩) (by simp) (.slice A6 n6 c6)
      have r4 := o3 _ _ _ _ (n3 _ _ _ _ m5)
      have r5 := o3 _ _ _ _ (n3 _ _ _ _ m6)
      rw [← HZQ.out, ← HZR.out]
      exact bp_int3 rfl rfl rfl (o4.ext (Ext.refl _).drew) rfl (o2.ext (Ext.refl _).drew) ⟨_, rfl, ⟨_, _, rfl, ⟨_, _, _, rfl, r4.ext (Ext.refl _).drew⟩, ⟨_, _, _, rfl, r5.ext (Ext.refl _).drew⟩⟩, o1.drew⟩
end Go.Proofs.YtfdpbcjcinchgaaDoor
