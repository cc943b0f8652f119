/- Contract: the reference's division of valid integers. -/
import Derived.Test.YtfdpbcjcinchgaaDoorIz
namespace Go.Proofs.YtfdpbcjcinchgaaDoor
open Go.RowKit
set_option linter.unusedVariables false

set_option maxRecDepth 100000 in
set_option maxHeartbeats 1600000 in
theorem rDivide_ok (v u : Value) (x y : Int) (w : World) (hX : RI w v x) (hY : RI w u y) (ax : x.natAbs < lim) (ay : y.natAbs < lim) (hy0 : y ≠ 0) :
    Calls Tryd.prog 38 #[v, u] w fun e w' => ∃ v, e = .returned v ∧ RetD (x / y) (x % y) 0 v w' ∧ Ext w w' := by
  have HV1 := Lib.hid (RI.valid hX ax)
  have HV2 := Lib.hid (RI.valid hY ay)
  obtain ⟨A, n, c, rfl, hx⟩ := hX
  obtain ⟨B, m, d, rfl, hy⟩ := hY
  have hn := hx.le400 ax
  have hm := hy.le400 ay
  have hm0 : 0 < m := (digs_some hy.len).2 (by omega)
  have t1 : ((m : Int) == 0) = false := by simp; omega
  have t2 : (m == 0) = false := by simp; omega
  generalize hsx : decide (x < 0) = sx at *
  generalize hsy : decide (y < 0) = sy at *
  have HSX := Lib.hid hsx; have HSY := Lib.hid hsy; clear hsx hsy
  go_enter Tryd.func38, Tryd.ntmps38
  go_wp2_with fail
  refine (rValid_any _ A n c _ _ (hx.ext ((((Ext.new w _).alloc _).alloc _).alloc _))).mono ?_
  rintro e w1 ⟨rfl, hx1⟩
  rw [HV1.out]
  have c0 := (boxqa hx1).cell
  have c1 := (boxqb hx1).cell
  go_wp2_with fail
  refine (rValid_any _ B m d _ _ (hy.ext (boxq hx1))).mono ?_
  rintro e w2 ⟨rfl, hx2⟩
  rw [HV2.out]
  clear c0 c1
  have hx2 := hx1.trans hx2
  have c0 := (boxqa hx2).cell
  have c1 := (boxqb hx2).cell
  go_wp2_with fail
  refine (rdivide_any A B n m c d x.natAbs y.natAbs _ (hx.ext (boxq hx2)) (hy.ext (boxq hx2)) (by omega) (by omega)).mono ?_
  rintro e w3 ⟨q, r, rfl, ⟨Aq, nq, cq, rfl, hQ⟩, ⟨Ar, nr, cr, rfl, hR⟩, hx3⟩
  clear c0 c1
  have hx3 := hx2.trans hx3
  have c0 := (boxqa hx3).cell
  have c1 := (boxqb hx3).cell
  have hnq : nq ≤ 400 := by have := hQ.len; have := len_lim (div_lim (y := y) ax); omega
  have hnr : nr ≤ 400 := by have := hR.len; have := len_lim (mod_lim (y := y) ax); omega
  cases sx
  · have hpl := divide_plain (x := x) (y := y) hy0 (fun h => absurd h (of_decide_eq_false HSX.out))
    rw [HSX.out, HSY.out] at hpl
    have HPL := Lib.hid hpl; clear hpl
    have HQL : Hid (∀ z : Int, z = x / y → z.natAbs < lim) := Lib.hid (fun z hz => by rw [hz, HPL.out.1, zOf_abs]; exact div_lim ax)
    obtain ⟨zq, hzq⟩ : ∃ z, z = x / y := ⟨_, rfl⟩
    obtain ⟨zr, hzr⟩ : ∃ z, z = x % y := ⟨_, rfl⟩
    have HZQ := Lib.hid hzq; have HZR := Lib.hid hzr; clear hzq hzr
    have hq1 := HZQ.out.trans HPL.out.1
    simp only [Bool.false_bne] at hq1
    have hr1 : zr = zOf false _ := HZR.out.trans HPL.out.2
    go_wp2_with fail
    refine (rmade_any _ Aq nq cq _ _ hQ (by omega)).mono ?_
    rintro e w4 ⟨v4, rfl, hI4, hx4⟩
    rw [val_digs] at hI4
    rw [← hq1] at hI4
    have HR1 := Lib.hid hr1; clear hr1 hq1
    have hqlim : zq.natAbs < lim := HQL.out zq HZQ.out
    have hR4 := hR.ext hx4
    have hx4 := hx3.trans hx4
    clear c0 c1 hQ hR
    go_wp2_with fail
    refine (rresult_any _ zq _ hI4).mono ?_
    rintro e w5 ⟨v5, rfl, hret, hx5⟩
    rw [resS_ok hqlim] at hret
    obtain ⟨u5, rfl, A5, n5, c5, rfl, hI5⟩ := hret
    have hR5 := hR4.ext hx5
    have hx5 := hx4.trans hx5
    clear hI4 hR4
    go_wp2_with fail
    have Y9 := ExtOf.blk (Blk.new w5 24 #[.bool (decide (zq < 0)), .slice A5 n5 c5])
    have hx5b := hx5.trans (Ext.new w5 (.cells #[.bool (decide (zq < 0)), .slice A5 n5 c5] 24))
    have hR6 := hR5.ext (Ext.new w5 (.cells #[.bool (decide (zq < 0)), .slice A5 n5 c5] 24))
    have hI6 := hI5.ext (Ext.new w5 (.cells #[.bool (decide (zq < 0)), .slice A5 n5 c5] 24))
    generalize w5.alloc (.cells #[.bool (decide (zq < 0)), .slice A5 n5 c5] 24) = w6 at *
    refine wp_region_ordE 3 [(true, 0), (true, 1), (false, 2)] (by kernel_rfl) (by kernel_rfl) ?_
    refine wpOrdT_quiet [0, 1] [(false, 2)] _ (by kernel_rfl) ?_
    simp only [nthOps, nthOp, List.cons_append, List.nil_append]
    repeat (go_big_quiet_step (fail))
    refine wpQuiet_nil ?_
    refine wpOrdT_act 2 [] (by kernel_rfl) ?_
    intro K hK
    simp only [nthOp]
    go_wp2_with fail
    refine (rmade_any false Ar nr cr _ _ (hR6.ext (Ext.refl w6).drew) (by omega)).mono ?_
    rintro e w7 ⟨v7, rfl, ⟨A7, n7, c7, rfl, hI7⟩, hx7⟩
    have hx7 := hx7.undrew
    go_wp2
    refine hK _ _ ⟨⟨w7, hx7⟩, rfl⟩ ?_
    clear hK K
    simp only [wpOrdT, List.drop_succ_cons, List.drop_zero]
    have hx7c := hx5b.trans hx7
    have b4 := boxqc hx7c
    have b5 := boxqd hx7c
    have c4 := b4.cell
    have f4 := b4.frozen
    have c5' := b5.cell
    have f5 := b5.frozen
    obtain ⟨n1, n2, n3⟩ := put2 (boxq hx7c) (by omega) b4 (decide (zq < 0)) A5 n5 c5
    have n4' := (b5.far (p := ⟨w.heap.size + 2, 0, none⟩) (by simp) (.bool (decide (zq < 0)))).far (p := ⟨w.heap.size + 2, 1, none⟩) (by simp) (.slice A5 n5 c5)
    rw [val_digs, ← HR1.out] at hI7
    rw [val_digs, ← HR1.out]
    obtain ⟨o1, o2, o3⟩ := put2 n1 (by omega) n4' (decide (zr < 0)) A7 n7 c7
    have o4 := (n2.far (p := ⟨w.heap.size + 3, 0, none⟩) (by simp) (.bool (decide (zr < 0)))).far (p := ⟨w.heap.size + 3, 1, none⟩) (by simp) (.slice A7 n7 c7)
    have r4 := o3 _ _ _ _ (n3 _ _ _ _ (hI6.ext hx7))
    have r5 := o3 _ _ _ _ (n3 _ _ _ _ hI7)
    have O1 := Lib.hid o1; have O2 := Lib.hid o2; have O4 := Lib.hid o4; have R4 := Lib.hid r4; have R5 := Lib.hid r5
    clear n1 n2 n3 n4' o1 o2 o3 o4 r4 r5
    go_wp2
    rw [← HZQ.out, ← HZR.out]
    exact bp_int3 rfl rfl rfl O4.out rfl O2.out ⟨_, rfl, ⟨_, _, rfl, ⟨_, _, _, rfl, R4.out⟩, ⟨_, _, _, rfl, R5.out⟩⟩, O1.out⟩
  · go_wp2_with fail
    refine (rtrim_any Ar nr cr _ _ hR (by omega)).mono ?_
    rintro e w3b ⟨v3, rfl, ⟨At, nt, ct, rfl, hT⟩, hxt⟩
    rw [val_digs] at hT
    have hnt := digs_some hT.len
    have hQ := hQ.ext hxt
    have hR := hR.ext hxt
    have hx3 := hx3.trans hxt
    clear c0 c1
    have c0 := (boxqa hx3).cell
    have c1 := (boxqb hx3).cell
    by_cases hnt0 : 0 < nt
    · have hx0 : x < 0 := of_decide_eq_true HSX.out
      have hr0 := hnt.1 hnt0
      have hpl := divide_turn (x := x) (y := y) hy0 hx0 hr0
      rw [HSX.out, HSY.out] at hpl
      have HPL := Lib.hid hpl; clear hpl
      have HLE := Lib.hid (divide_le hy0 hx0 hr0)
      have HQL : Hid (∀ z : Int, z = x / y → z.natAbs < lim) := Lib.hid (fun z hz => by rw [hz, HPL.out.1, zOf_abs]; exact Nat.lt_of_le_of_lt HLE.out ax)
      have hmod := Nat.mod_lt x.natAbs (show 0 < y.natAbs by omega)
      have hnrm : nr ≤ m := by
        have h1 := hR.len
        have h2 := digs_len_le (n := x.natAbs % y.natAbs) (k := m) (Nat.lt_trans hmod (lt_of_digs_len (by rw [hy.len]; exact Nat.le_refl _)))
        omega
      have hnr1 : (0 : Int) < (nt : Int) := by omega
      have HMOD := Lib.hid hmod; clear hmod hx0 hr0 hnt
      go_wp2_with fail
      refine (rplus_any Aq _ nq 1 cq 1 _ [1] _ (hQ.ext (Ext.new w3b _)) (RM.blk (Blk.new _ _ _) (Dig.one (by omega)) rfl (by omega)) (by omega) (by omega)).mono ?_
      rintro e w4 ⟨v4, rfl, ⟨lq, ⟨Aq, nq', cq, rfl, hQ⟩, hlv, hll⟩, hx4⟩
      rw [val_digs, show val [1] = 1 from rfl] at hlv
      have hnq' : nq' ≤ 402 := by have := hQ.len; omega
      have HLV := Lib.hid hlv; clear hlv
      have hx34 := (Ext.new w3b _).trans hx4
      have hR4 := hR.ext hx34
      have hx4 := hx3.trans hx34
      clear c0 c1 hR
      have c1 := (boxqb hx4).cell
      go_wp2_with fail
      refine (rminus_any B Ar m nr d cr _ _ _ (hy.ext (boxq hx4)) hR4 (by omega) hnrm (by rw [val_digs, val_digs]; exact Nat.le_of_lt HMOD.out)).mono ?_
      rintro e w5 ⟨v5, rfl, ⟨Ar, nr', cr, rfl, hR⟩, hx5⟩
      rw [val_digs, val_digs] at hR
      have hnr' : nr' ≤ 400 := by have := hR.len; have := len_lim (Nat.lt_of_le_of_lt (Nat.sub_le y.natAbs (x.natAbs % y.natAbs)) ay); omega
      have hQ := hQ.ext hx5
      have hx3 := hx4.trans hx5
      clear c1 hx4 hx34
      have c0 := (boxqa hx3).cell
      have c1 := (boxqb hx3).cell
      obtain ⟨zq, hzq⟩ : ∃ z, z = x / y := ⟨_, rfl⟩
      obtain ⟨zr, hzr⟩ : ∃ z, z = x % y := ⟨_, rfl⟩
      have HZQ := Lib.hid hzq; have HZR := Lib.hid hzr; clear hzq hzr
      have hq1 := HZQ.out.trans HPL.out.1
      simp only [Bool.true_bne] at hq1
      have hr1 : zr = zOf false _ := HZR.out.trans HPL.out.2
      go_wp2_with fail
      refine (rmade_any _ Aq nq' cq _ _ hQ (by omega)).mono ?_
      rintro e w4 ⟨v4, rfl, hI4, hx4⟩
      rw [HLV.out] at hI4
      rw [← hq1] at hI4
      have HR1 := Lib.hid hr1; clear hr1 hq1
      have hqlim : zq.natAbs < lim := HQL.out zq HZQ.out
      have hR4 := hR.ext hx4
      have hx4 := hx3.trans hx4
      clear c0 c1 hQ hR
      go_wp2_with fail
      refine (rresult_any _ zq _ hI4).mono ?_
      rintro e w5 ⟨v5, rfl, hret, hx5⟩
      rw [resS_ok hqlim] at hret
      obtain ⟨u5, rfl, A5, n5, c5, rfl, hI5⟩ := hret
      have hR5 := hR4.ext hx5
      have hx5 := hx4.trans hx5
      clear hI4 hR4
      go_wp2_with fail
      have Y9 := ExtOf.blk (Blk.new w5 24 #[.bool (decide (zq < 0)), .slice A5 n5 c5])
      have hx5b := hx5.trans (Ext.new w5 (.cells #[.bool (decide (zq < 0)), .slice A5 n5 c5] 24))
      have hR6 := hR5.ext (Ext.new w5 (.cells #[.bool (decide (zq < 0)), .slice A5 n5 c5] 24))
      have hI6 := hI5.ext (Ext.new w5 (.cells #[.bool (decide (zq < 0)), .slice A5 n5 c5] 24))
      generalize w5.alloc (.cells #[.bool (decide (zq < 0)), .slice A5 n5 c5] 24) = w6 at *
      refine wp_region_ordE 3 [(true, 0), (true, 1), (false, 2)] (by kernel_rfl) (by kernel_rfl) ?_
      refine wpOrdT_quiet [0, 1] [(false, 2)] _ (by kernel_rfl) ?_
      simp only [nthOps, nthOp, List.cons_append, List.nil_append]
      repeat (go_big_quiet_step (fail))
      refine wpQuiet_nil ?_
      refine wpOrdT_act 2 [] (by kernel_rfl) ?_
      intro K hK
      simp only [nthOp]
      go_wp2_with fail
      refine (rmade_any false Ar nr' cr _ _ (hR6.ext (Ext.refl w6).drew) (by omega)).mono ?_
      rintro e w7 ⟨v7, rfl, ⟨A7, n7, c7, rfl, hI7⟩, hx7⟩
      have hx7 := hx7.undrew
      go_wp2
      refine hK _ _ ⟨⟨w7, hx7⟩, rfl⟩ ?_
      clear hK K
      simp only [wpOrdT, List.drop_succ_cons, List.drop_zero]
      have hx7c := hx5b.trans hx7
      have b4 := boxqc hx7c
      have b5 := boxqd hx7c
      have c4 := b4.cell
      have f4 := b4.frozen
      have c5' := b5.cell
      have f5 := b5.frozen
      obtain ⟨n1, n2, n3⟩ := put2 (boxq hx7c) (by omega) b4 (decide (zq < 0)) A5 n5 c5
      have n4' := (b5.far (p := ⟨w.heap.size + 2, 0, none⟩) (by simp) (.bool (decide (zq < 0)))).far (p := ⟨w.heap.size + 2, 1, none⟩) (by simp) (.slice A5 n5 c5)
      rw [val_digs, ← HR1.out] at hI7
      rw [val_digs, ← HR1.out]
      obtain ⟨o1, o2, o3⟩ := put2 n1 (by omega) n4' (decide (zr < 0)) A7 n7 c7
      have o4 := (n2.far (p := ⟨w.heap.size + 3, 0, none⟩) (by simp) (.bool (decide (zr < 0)))).far (p := ⟨w.heap.size + 3, 1, none⟩) (by simp) (.slice A7 n7 c7)
      have r4 := o3 _ _ _ _ (n3 _ _ _ _ (hI6.ext hx7))
      have r5 := o3 _ _ _ _ (n3 _ _ _ _ hI7)
      have O1 := Lib.hid o1; have O2 := Lib.hid o2; have O4 := Lib.hid o4; have R4 := Lib.hid r4; have R5 := Lib.hid r5
      clear n1 n2 n3 n4' o1 o2 o3 o4 r4 r5
      go_wp2
      rw [← HZQ.out, ← HZR.out]
      exact bp_int3 rfl rfl rfl O4.out rfl O2.out ⟨_, rfl, ⟨_, _, rfl, ⟨_, _, _, rfl, R4.out⟩, ⟨_, _, _, rfl, R5.out⟩⟩, O1.out⟩
    · have hz := hnt
      have hpl := divide_plain (x := x) (y := y) hy0 (fun h => by have := mt hnt.2 hnt0; omega)
      rw [HSX.out, HSY.out] at hpl
      have HPL := Lib.hid hpl; clear hpl
      have HQL : Hid (∀ z : Int, z = x / y → z.natAbs < lim) := Lib.hid (fun z hz => by rw [hz, HPL.out.1, zOf_abs]; exact div_lim ax)
      obtain rfl : nt = 0 := by omega
      clear hnt hnt0
      obtain ⟨zq, hzq⟩ : ∃ z, z = x / y := ⟨_, rfl⟩
      obtain ⟨zr, hzr⟩ : ∃ z, z = x % y := ⟨_, rfl⟩
      have HZQ := Lib.hid hzq; have HZR := Lib.hid hzr; clear hzq hzr
      have hq1 := HZQ.out.trans HPL.out.1
      simp only [Bool.true_bne] at hq1
      have hr1 : zr = zOf false _ := HZR.out.trans HPL.out.2
      go_wp2_with fail
      refine (rmade_any _ Aq nq cq _ _ hQ (by omega)).mono ?_
      rintro e w4 ⟨v4, rfl, hI4, hx4⟩
      rw [val_digs] at hI4
      rw [← hq1] at hI4
      have HR1 := Lib.hid hr1; clear hr1 hq1
      have hqlim : zq.natAbs < lim := HQL.out zq HZQ.out
      have hR4 := hR.ext hx4
      have hx4 := hx3.trans hx4
      clear c0 c1 hQ hR
      go_wp2_with fail
      refine (rresult_any _ zq _ hI4).mono ?_
      rintro e w5 ⟨v5, rfl, hret, hx5⟩
      rw [resS_ok hqlim] at hret
      obtain ⟨u5, rfl, A5, n5, c5, rfl, hI5⟩ := hret
      have hR5 := hR4.ext hx5
      have hx5 := hx4.trans hx5
      clear hI4 hR4
      go_wp2_with fail
      have Y9 := ExtOf.blk (Blk.new w5 24 #[.bool (decide (zq < 0)), .slice A5 n5 c5])
      have hx5b := hx5.trans (Ext.new w5 (.cells #[.bool (decide (zq < 0)), .slice A5 n5 c5] 24))
      have hR6 := hR5.ext (Ext.new w5 (.cells #[.bool (decide (zq < 0)), .slice A5 n5 c5] 24))
      have hI6 := hI5.ext (Ext.new w5 (.cells #[.bool (decide (zq < 0)), .slice A5 n5 c5] 24))
      generalize w5.alloc (.cells #[.bool (decide (zq < 0)), .slice A5 n5 c5] 24) = w6 at *
      refine wp_region_ordE 3 [(true, 0), (true, 1), (false, 2)] (by kernel_rfl) (by kernel_rfl) ?_
      refine wpOrdT_quiet [0, 1] [(false, 2)] _ (by kernel_rfl) ?_
      simp only [nthOps, nthOp, List.cons_append, List.nil_append]
      repeat (go_big_quiet_step (fail))
      refine wpQuiet_nil ?_
      refine wpOrdT_act 2 [] (by kernel_rfl) ?_
      intro K hK
      simp only [nthOp]
      go_wp2_with fail
      refine (rmade_any false Ar nr cr _ _ (hR6.ext (Ext.refl w6).drew) (by omega)).mono ?_
      rintro e w7 ⟨v7, rfl, ⟨A7, n7, c7, rfl, hI7⟩, hx7⟩
      have hx7 := hx7.undrew
      go_wp2
      refine hK _ _ ⟨⟨w7, hx7⟩, rfl⟩ ?_
      clear hK K
      simp only [wpOrdT, List.drop_succ_cons, List.drop_zero]
      have hx7c := hx5b.trans hx7
      have b4 := boxqc hx7c
      have b5 := boxqd hx7c
      have c4 := b4.cell
      have f4 := b4.frozen
      have c5' := b5.cell
      have f5 := b5.frozen
      obtain ⟨n1, n2, n3⟩ := put2 (boxq hx7c) (by omega) b4 (decide (zq < 0)) A5 n5 c5
      have n4' := (b5.far (p := ⟨w.heap.size + 2, 0, none⟩) (by simp) (.bool (decide (zq < 0)))).far (p := ⟨w.heap.size + 2, 1, none⟩) (by simp) (.slice A5 n5 c5)
      rw [val_digs, ← HR1.out] at hI7
      rw [val_digs, ← HR1.out]
      obtain ⟨o1, o2, o3⟩ := put2 n1 (by omega) n4' (decide (zr < 0)) A7 n7 c7
      have o4 := (n2.far (p := ⟨w.heap.size + 3, 0, none⟩) (by simp) (.bool (decide (zr < 0)))).far (p := ⟨w.heap.size + 3, 1, none⟩) (by simp) (.slice A7 n7 c7)
      have r4 := o3 _ _ _ _ (n3 _ _ _ _ (hI6.ext hx7))
      have r5 := o3 _ _ _ _ (n3 _ _ _ _ hI7)
      have O1 := Lib.hid o1; have O2 := Lib.hid o2; have O4 := Lib.hid o4; have R4 := Lib.hid r4; have R5 := Lib.hid r5
      clear n1 n2 n3 n4' o1 o2 o3 o4 r4 r5
      go_wp2
      rw [← HZQ.out, ← HZR.out]
      exact bp_int3 rfl rfl rfl O4.out rfl O2.out ⟨_, rfl, ⟨_, _, rfl, ⟨_, _, _, rfl, R4.out⟩, ⟨_, _, _, rfl, R5.out⟩⟩, O1.out⟩
end Go.Proofs.YtfdpbcjcinchgaaDoor
