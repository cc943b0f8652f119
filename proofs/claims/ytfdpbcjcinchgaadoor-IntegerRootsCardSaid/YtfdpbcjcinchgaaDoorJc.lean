/- Contract: the reference's greatest common divisor of valid integers. -/
import Derived.Test.YtfdpbcjcinchgaaDoorJb
namespace Go.Proofs.YtfdpbcjcinchgaaDoor
open Go.RowKit
set_option linter.unusedVariables false

set_option maxRecDepth 100000 in
set_option maxHeartbeats 1600000 in
theorem rGcd_ok (v u : Value) (x y : Int) (w : World) (hX : RI w v x) (hY : RI w u y) (ax : x.natAbs < lim) (ay : y.natAbs < lim) :
    Calls Tryd.prog 41 #[v, u] w fun e w' => ∃ v, e = .returned v ∧ RetI ((Nat.gcd x.natAbs y.natAbs : Nat), 0) v w' ∧ Ext w w' := by
  have HV1 := Lib.hid (RI.valid hX ax)
  have HV2 := Lib.hid (RI.valid hY ay)
  obtain ⟨A, n, c, rfl, hx⟩ := hX
  obtain ⟨B, m, d, rfl, hy⟩ := hY
  have hn := hx.le400 ax
  have hm := hy.le400 ay
  go_enter Tryd.func41, Tryd.ntmps41
  go_wp2_with fail
  refine (rValid_any _ A n c _ _ (hx.ext (((Ext.new w _).alloc _).alloc _))).mono ?_
  rintro e w1 ⟨rfl, hx1⟩
  rw [HV1.out]
  have c0 := (box3a hx1).cell
  have c1 := (box3b hx1).cell
  go_wp2_with fail
  refine (rValid_any _ B m d _ _ (hy.ext (box3 hx1))).mono ?_
  rintro e w2 ⟨rfl, hx2⟩
  rw [HV2.out]
  clear c0 c1
  have hx2 := hx1.trans hx2
  have Y0 := ExtOf.blk (box3a hx2)
  have Y1 := ExtOf.blk (box3b hx2)
  go_wp2_with fail
  refine wp_region_ordE 7 [(true,0),(true,1),(true,3),(true,4),(false,2),(false,5),(true,6)] (by kernel_rfl) (by kernel_rfl) ?_
  refine wpOrdT_quiet [0, 1, 3, 4] [(false, 2), (false, 5), (true, 6)] _ (by kernel_rfl) ?_
  simp only [nthOps, nthOp, List.cons_append, List.nil_append]
  repeat (go_big_quiet_step (fail))
  refine wpQuiet_nil ?_
  refine wpOrdT_act 2 [(false, 5), (true, 6)] (by kernel_rfl) ?_
  intro K hK
  simp only [nthOp]
  go_wp2_with fail
  refine (rtrim_any A n c _ _ ((hx.ext (box3 hx2)).ext (Ext.refl _).drew) (by omega)).mono ?_
  rintro e w3 ⟨v3, rfl, ⟨A3, n3, c3, rfl, hA⟩, hxw3⟩
  have hxw3 := Ext.undrew hxw3
  go_wp2
  refine hK _ _ ⟨⟨w3, hxw3⟩, rfl⟩ ?_
  clear hK K
  rw [val_digs] at hA
  refine wpOrdT_act 5 [(true, 6)] (by kernel_rfl) ?_
  intro K hK
  simp only [nthOp]
  go_wp2_with fail
  refine (rtrim_any B m d _ _ ((hy.ext (box3 hx2)).ext hxw3) (by omega)).mono ?_
  rintro e w4 ⟨v4, rfl, ⟨A4, n4, c4, rfl, hB⟩, hxw4⟩
  have hxw4 := hxw3.trans hxw4
  go_wp2
  refine hK _ _ ⟨⟨w4, hxw4⟩, rfl⟩ ?_
  clear hK K
  rw [val_digs] at hB
  have hA := hA.ext (by assumption : Ext w3 w4)
  refine wpOrdT_quiet [6] [] _ (by kernel_rfl) ?_
  simp only [nthOps, nthOp, List.cons_append, List.nil_append]
  repeat (go_big_quiet_step (fail))
  refine wpQuiet_nil ?_
  simp only [wpOrdT, List.drop_succ_cons, List.drop_zero]
  go_wp2_with fail
  clear Y0 Y1 hx hy
  have hx4 := hx2.trans hxw4
  clear hx2 hxw3 hxw4 hx1
  go_loopg [6, 7] y.natAbs (fun gk av bv wr => ∃ A n c B m d p, av = .slice A n c ∧ bv = .slice B m d ∧ RM wr A n c (digs p) ∧ RM wr B m d (digs gk) ∧ p < lim ∧ gk < lim ∧ Nat.gcd p gk = Nat.gcd x.natAbs y.natAbs ∧ Ext w4 wr)
  case atStart => exact ⟨_, _, _, _, _, _, x.natAbs, rfl, rfl, hA, hB, ax, ay, rfl, Ext.refl _⟩
  case round =>
    clear hA hB
    obtain ⟨A', n', c', B', m', d', p, rfl, rfl, hA, hB, hp, hq, hg, hex⟩ := hrel
    have hlA := hA.len
    have hlB := hB.len
    have hn' : n' ≤ 400 := by have := len_lim hp; omega
    have hm' : m' ≤ 400 := by have := len_lim hq; omega
    have hmq := digs_some hlB
    have HG := Lib.hid hg
    clear hg hlA hlB
    by_cases h0 : 0 < m'
    · have hq0 := hmq.1 h0
      have h0' : (0 : Int) < (m' : Int) := by omega
      have HGG := Lib.hid (show Nat.gcd gk (p % gk) = Nat.gcd x.natAbs y.natAbs by rw [← HG.out, Nat.gcd_comm p gk, Nat.gcd_rec gk p, Nat.gcd_comm])
      have hmod := Nat.mod_lt p hq0
      go_wp2_with fail
      refine (rdivide_any A' B' n' m' c' d' p gk _ hA hB hq0 (by omega)).mono ?_
      rintro e w5 ⟨q, r, rfl, ⟨Aq, nq, cq, rfl, hQ⟩, ⟨Ar, nr, cr, rfl, hR⟩, hx5⟩
      have hB5 := hB.ext hx5
      have hnr : nr ≤ 400 := by have := hR.len; have := len_lim (Nat.lt_trans hmod hq); omega
      go_wp2_with fail
      refine (rtrim_any Ar nr cr _ _ hR (by omega)).mono ?_
      rintro e w6 ⟨v6, rfl, ⟨A6, n6, c6, rfl, hT⟩, hx6⟩
      rw [val_digs] at hT
      have hB6 := hB5.ext hx6
      go_wp2_with fail
      go_roundg (p % gk)
      case measure => exact hmod
      case rel => exact ⟨_, _, _, _, _, _, gk, rfl, rfl, hB6, hT, hq, Nat.lt_trans hmod hq, HGG.out, hex.trans (hx5.trans hx6)⟩
    · obtain rfl : m' = 0 := by omega
      obtain rfl : gk = 0 := by
        rcases Nat.eq_zero_or_pos gk with h | h
        · exact h
        · exact absurd (hmq.2 h) h0
      have hgp : p = Nat.gcd x.natAbs y.natAbs := by rw [← HG.out, Nat.gcd_zero_right]
      have HGG := Lib.hid hgp; clear hgp
      go_wp2_with fail
      refine (rmade_any false A' n' c' _ _ hA (by omega)).mono ?_
      rintro e w8 ⟨v8, rfl, hI8, hx8⟩
      obtain ⟨Z, hZ⟩ : ∃ Z : Int, Z = (p : Int) := ⟨_, rfl⟩
      rw [val_digs, zOf_pos, ← hZ] at hI8
      have HZ := Lib.hid hZ; clear hZ
      obtain ⟨A2, n2, c2, rfl, hI⟩ := hI8
      have hx9 := hx4.trans (hex.trans hx8)
      have b4 := box3c hx9
      have c4 := b4.cell
      have f4 := b4.frozen
      obtain ⟨k1, k2, k3⟩ := put2 (box3 hx9) (by omega) b4 (decide (Z < 0)) A2 n2 c2
      have K1 := Lib.hid k1; have K2 := Lib.hid k2; have K3 := Lib.hid (k3 _ _ _ _ hI); clear k1 k2 k3
      go_wp2
      rw [← HGG.out, ← HZ.out]
      exact bp_int2 rfl rfl rfl K2.out ⟨_, rfl, ⟨_, rfl, _, _, _, rfl, K3.out⟩, K1.out⟩
end Go.Proofs.YtfdpbcjcinchgaaDoor
