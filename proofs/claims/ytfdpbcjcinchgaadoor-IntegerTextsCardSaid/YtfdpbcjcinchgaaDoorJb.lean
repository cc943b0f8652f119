/- Contracts: greatest common divisors. -/
import Derived.Test.YtfdpbcjcinchgaaDoorJa
namespace Go.Proofs.YtfdpbcjcinchgaaDoor
open Go.RowKit
set_option linter.unusedVariables false

set_option maxRecDepth 100000 in
set_option maxHeartbeats 800000 in
theorem gcdWord_any (a b : Nat) (w : World) (ha : a < 18446744073709551616) (hb : b < 18446744073709551616) :
    Calls Tryd.prog 74 #[.int .u64 (a : Int), .int .u64 (b : Int)] w fun e w' => e = .returned (.int .u64 ((Nat.gcd a b : Nat) : Int)) ∧ Ext w w' := by
  go_enter Tryd.func74, Tryd.ntmps74
  go_wp2_with fail
  go_loopw [0, 1] (fun av bv wr => ∃ p q : Nat, av = .int .u64 (p : Int) ∧ bv = .int .u64 (q : Int) ∧ p < 18446744073709551616 ∧ q < 18446744073709551616 ∧ Nat.gcd p q = Nat.gcd a b ∧ Ext w wr) (fun _ bv _ => (intOf bv).toNat)
  case atStart => exact ⟨a, b, rfl, rfl, ha, hb, rfl, Ext.refl _⟩
  case round =>
    obtain ⟨p, q, rfl, rfl, hp, hq, hg, hex⟩ := hrel
    have HG := Lib.hid hg; clear hg
    by_cases h0 : q = 0
    · subst h0
      go_wp2
      go_ret
      exact ⟨ret_int (by rw [← HG.out, Nat.gcd_zero_right]), hex⟩
    · have hq0 : 0 < q := by omega
      have hm := Nat.mod_lt p hq0
      have e1 : (p : Int) % (q : Int) = ((p % q : Nat) : Int) := by simp
      have HGG := Lib.hid (show Nat.gcd q (p % q) = Nat.gcd a b by rw [← HG.out, Nat.gcd_comm p q, Nat.gcd_rec q p, Nat.gcd_comm])
      have t1 : ((q : Int) != 0) = true := by simp; omega
      have t2 : (q != 0) = true := by simp; omega
      have t3 : (q : Int) ≠ 0 := by omega
      have E1 := Lib.hid e1; clear e1
      generalize hpq : p % q = pq at *
      clear hpq
      go_wp2_with fail
      go_quiet (fail)
      go_wp2_with fail
      go_roundw
      case rel => exact ⟨q, pq, rfl, by rw [E1.out], hq, by omega, HGG.out, hex.drewN _⟩
      case measure => simp only [intOf]; rw [E1.out]; omega

set_option maxRecDepth 100000 in
set_option maxHeartbeats 400000 in
theorem Gcd_bad1 (v u : Value) (s t : Bool) (l k : List Nat) (w : World) (hX : RX w v s l) (hY : RX w u t k) (hv : validB s l = false) :
    Calls Tryd.prog 40 #[v, u] w fun e w' => ∃ v, e = .returned v ∧ RetI (0, 1) v w' ∧ Ext w w' := by
  obtain ⟨A, n, c, rfl, hx⟩ := hX
  obtain ⟨B, m, d, rfl, hy⟩ := hY
  have HV1 := Lib.hid hv; clear hv
  go_enter Tryd.func40, Tryd.ntmps40
  go_wp2_with fail
  refine (Valid_any _ A n c _ _ (hx.ext (((Ext.new w _).alloc _).alloc _))).mono ?_
  rintro e w1 ⟨rfl, hx1⟩
  rw [HV1.out]
  have b4 := box3c hx1
  have c4 := b4.cell
  have f4 := b4.frozen
  obtain ⟨k1, k2, _⟩ := put2 (box3 hx1) (by omega) b4 false none 0 0
  have K1 := Lib.hid k1; have K2 := Lib.hid k2; clear k1 k2
  go_wp2
  exact bp_int2 rfl rfl rfl K2.out ⟨_, rfl, ⟨_, rfl, RI.zero _⟩, K1.out⟩
set_option maxRecDepth 100000 in
set_option maxHeartbeats 400000 in
theorem Gcd_bad2 (v u : Value) (s t : Bool) (l k : List Nat) (w : World) (hX : RX w v s l) (hY : RX w u t k) (hv : validB s l = true) (hu : validB t k = false) :
    Calls Tryd.prog 40 #[v, u] w fun e w' => ∃ v, e = .returned v ∧ RetI (0, 1) v w' ∧ Ext w w' := by
  obtain ⟨A, n, c, rfl, hx⟩ := hX
  obtain ⟨B, m, d, rfl, hy⟩ := hY
  have HV1 := Lib.hid hv; clear hv
  have HV2 := Lib.hid hu; clear hu
  go_enter Tryd.func40, Tryd.ntmps40
  go_wp2_with fail
  refine (Valid_any _ A n c _ _ (hx.ext (((Ext.new w _).alloc _).alloc _))).mono ?_
  rintro e w1 ⟨rfl, hx1⟩
  rw [HV1.out]
  have c0 := (box3a hx1).cell
  have c1 := (box3b hx1).cell
  go_wp2_with fail
  refine (Valid_any _ B m d _ _ (hy.ext (box3 hx1))).mono ?_
  rintro e w2 ⟨rfl, hx2⟩
  rw [HV2.out]
  clear c0 c1
  have hx2 := hx1.trans hx2
  have b4 := box3c hx2
  have c4 := b4.cell
  have f4 := b4.frozen
  obtain ⟨k1, k2, _⟩ := put2 (box3 hx2) (by omega) b4 false none 0 0
  have K1 := Lib.hid k1; have K2 := Lib.hid k2; clear k1 k2
  go_wp2
  exact bp_int2 rfl rfl rfl K2.out ⟨_, rfl, ⟨_, rfl, RI.zero _⟩, K1.out⟩
theorem Gcd_bad (v u : Value) (s t : Bool) (l k : List Nat) (w : World) (hX : RX w v s l) (hY : RX w u t k) (hv : (validB s l && validB t k) = false) :
    Calls Tryd.prog 40 #[v, u] w fun e w' => ∃ v, e = .returned v ∧ RetI (0, 1) v w' ∧ Ext w w' := by
  cases h1 : validB s l
  · exact Gcd_bad1 v u s t l k w hX hY h1
  · exact Gcd_bad2 v u s t l k w hX hY h1 (by simpa [h1] using hv)
set_option maxRecDepth 100000 in
set_option maxHeartbeats 400000 in
theorem rGcd_bad1 (v u : Value) (s t : Bool) (l k : List Nat) (w : World) (hX : RX w v s l) (hY : RX w u t k) (hv : validB s l = false) :
    Calls Tryd.prog 41 #[v, u] w fun e w' => ∃ v, e = .returned v ∧ RetI (0, 1) v w' ∧ Ext w w' := by
  obtain ⟨A, n, c, rfl, hx⟩ := hX
  obtain ⟨B, m, d, rfl, hy⟩ := hY
  have HV1 := Lib.hid hv; clear hv
  go_enter Tryd.func41, Tryd.ntmps41
  go_wp2_with fail
  refine (rValid_any _ A n c _ _ (hx.ext (((Ext.new w _).alloc _).alloc _))).mono ?_
  rintro e w1 ⟨rfl, hx1⟩
  rw [HV1.out]
  have b4 := box3c hx1
  have c4 := b4.cell
  have f4 := b4.frozen
  obtain ⟨k1, k2, _⟩ := put2 (box3 hx1) (by omega) b4 false none 0 0
  have K1 := Lib.hid k1; have K2 := Lib.hid k2; clear k1 k2
  go_wp2
  exact bp_int2 rfl rfl rfl K2.out ⟨_, rfl, ⟨_, rfl, RI.zero _⟩, K1.out⟩
set_option maxRecDepth 100000 in
set_option maxHeartbeats 400000 in
theorem rGcd_bad2 (v u : Value) (s t : Bool) (l k : List Nat) (w : World) (hX : RX w v s l) (hY : RX w u t k) (hv : validB s l = true) (hu : validB t k = false) :
    Calls Tryd.prog 41 #[v, u] w fun e w' => ∃ v, e = .returned v ∧ RetI (0, 1) v w' ∧ Ext w w' := by
  obtain ⟨A, n, c, rfl, hx⟩ := hX
  obtain ⟨B, m, d, rfl, hy⟩ := hY
  have HV1 := Lib.hid hv; clear hv
  have HV2 := Lib.hid hu; clear hu
  go_enter Tryd.func41, Tryd.ntmps41
  go_wp2_with fail
  refine (rValid_any _ A n c _ _ (hx.ext (((Ext.new w _).alloc _).alloc _))).mono ?_
  rintro e w1 ⟨rfl, hx1⟩
  rw [HV1.out]
  have c0 := (box3a hx1).cell
  have c1 := (box3b hx1).cell
  go_wp2_with fail
  refine (rValid_any _ B m d _ _ (hy.ext (box3 hx1))).mono ?_
  rintro e w2 ⟨rfl, hx2⟩
  rw [HV2.out]
  clear c0 c1
  have hx2 := hx1.trans hx2
  have b4 := box3c hx2
  have c4 := b4.cell
  have f4 := b4.frozen
  obtain ⟨k1, k2, _⟩ := put2 (box3 hx2) (by omega) b4 false none 0 0
  have K1 := Lib.hid k1; have K2 := Lib.hid k2; clear k1 k2
  go_wp2
  exact bp_int2 rfl rfl rfl K2.out ⟨_, rfl, ⟨_, rfl, RI.zero _⟩, K1.out⟩
theorem rGcd_bad (v u : Value) (s t : Bool) (l k : List Nat) (w : World) (hX : RX w v s l) (hY : RX w u t k) (hv : (validB s l && validB t k) = false) :
    Calls Tryd.prog 41 #[v, u] w fun e w' => ∃ v, e = .returned v ∧ RetI (0, 1) v w' ∧ Ext w w' := by
  cases h1 : validB s l
  · exact rGcd_bad1 v u s t l k w hX hY h1
  · exact rGcd_bad2 v u s t l k w hX hY h1 (by simpa [h1] using hv)

theorem resS_nat {k : Nat} (hk : k < lim) : resS (zOf false k) = ((k : Int), 0) := resS_of (by simp [zOf]) hk
theorem lt_lim_of_le2 {k n : Nat} (h : (digs k).length = n) (hn : n ≤ 2) : k < 18446744073709551616 := lt_of_digs_len (k := 2) (by omega)
theorem val_split2 (g : Nat) : val [g % 4294967296, g / 4294967296] = g := by simp only [val]; omega

set_option maxRecDepth 100000 in
set_option maxHeartbeats 1600000 in
theorem Gcd_ok (v u : Value) (x y : Int) (w : World) (hX : RI w v x) (hY : RI w u y) (ax : x.natAbs < lim) (ay : y.natAbs < lim) :
    Calls Tryd.prog 40 #[v, u] w fun e w' => ∃ v, e = .returned v ∧ RetI ((Nat.gcd x.natAbs y.natAbs : Nat), 0) v w' ∧ Ext w w' := by
  have HV1 := Lib.hid (RI.valid hX ax)
  have HV2 := Lib.hid (RI.valid hY ay)
  obtain ⟨A, n, c, rfl, hx⟩ := hX
  obtain ⟨B, m, d, rfl, hy⟩ := hY
  go_enter Tryd.func40, Tryd.ntmps40
  go_wp2_with fail
  refine (Valid_any _ A n c _ _ (hx.ext (((Ext.new w _).alloc _).alloc _))).mono ?_
  rintro e w1 ⟨rfl, hx1⟩
  rw [HV1.out]
  have c0 := (box3a hx1).cell
  have c1 := (box3b hx1).cell
  go_wp2_with fail
  refine (Valid_any _ B m d _ _ (hy.ext (box3 hx1))).mono ?_
  rintro e w2 ⟨rfl, hx2⟩
  rw [HV2.out]
  clear c0 c1
  have hx2 := hx1.trans hx2
  have c0 := (box3a hx2).cell
  have c1 := (box3b hx2).cell
  go_wp2_with fail
  go_quiet (fail)
  go_wp2_with fail
  clear c0 c1
  go_loopg [6, 7] y.natAbs (fun gk av bv wr => ∃ A n c B m d p, av = .slice A n c ∧ bv = .slice B m d ∧ RM wr A n c (digs p) ∧ RM wr B m d (digs gk) ∧ p < lim ∧ gk < lim ∧ Nat.gcd p gk = Nat.gcd x.natAbs y.natAbs ∧ Ext w2 wr)
  case atStart => exact ⟨A, n, c, B, m, d, x.natAbs, rfl, rfl, hx.ext ((box3 hx2).drewN _), hy.ext ((box3 hx2).drewN _), ax, ay, rfl, (Ext.refl _).drewN _⟩
  case round =>
    clear hx hy
    obtain ⟨A', n', c', B', m', d', p, rfl, rfl, hA, hB, hp, hq, hg, hex⟩ := hrel
    have hlA := hA.len
    have hlB := hB.len
    have hn' : n' ≤ 400 := by have := len_lim hp; omega
    have hm' : m' ≤ 400 := by have := len_lim hq; omega
    have hmq := digs_some hlB
    have HG := Lib.hid hg; have HLA := Lib.hid hlA; have HLB := Lib.hid hlB
    clear hg hlA hlB
    by_cases h0 : 0 < m'
    · have hq0 := hmq.1 h0
      have h0' : (0 : Int) < (m' : Int) := by omega
      by_cases hsm : n' ≤ 2 ∧ m' ≤ 2
      · obtain ⟨hn2, hm2⟩ := hsm
        have hn2' : (n' : Int) ≤ 2 := by omega
        have hm2' : (m' : Int) ≤ 2 := by omega
        have hp64 := lt_lim_of_le2 HLA.out hn2
        have hq64 := lt_lim_of_le2 HLB.out hm2
        go_wp2_with fail
        refine (word_any A' n' c' _ _ hA hn2).mono ?_
        rintro e w4 ⟨rfl, rfl⟩
        rw [val_digs]
        go_wp2_with fail
        refine (word_any B' m' d' _ _ hB hm2).mono ?_
        rintro e w5 ⟨rfl, rfl⟩
        rw [val_digs]
        go_wp2_with fail
        refine (gcdWord_any p gk _ hp64 hq64).mono ?_
        rintro e w6 ⟨rfl, hx6⟩
        rw [HG.out]
        have hx6 := (hx2.trans hex).trans hx6
        obtain ⟨G, hG⟩ : ∃ G, G = Nat.gcd x.natAbs y.natAbs := ⟨_, rfl⟩
        have hGlim : G < lim := by rw [hG, ← HG.out]; exact Nat.lt_of_le_of_lt (Nat.gcd_le_right _ hq0) hq
        have hG64 : G < 18446744073709551616 := by rw [hG, ← HG.out]; exact Nat.lt_of_le_of_lt (Nat.gcd_le_right _ hq0) hq64
        rw [← hG]
        have HGG := Lib.hid hG; clear hG
        have e1 : (G : Int) % 4294967296 = ((G % 4294967296 : Nat) : Int) := by omega
        have e2 : (G : Int) / 4294967296 = ((G / 4294967296 : Nat) : Int) := by omega
        have hd2 : Dig [G % 4294967296, G / 4294967296] := by
          intro z hz; simp at hz; omega
        have hv2 := val_split2 G
        have h2b : G / 4294967296 < 4294967296 := by omega
        generalize G % 4294967296 = g0 at *
        generalize G / 4294967296 = g1 at *
        have HV := Lib.hid hv2; clear hv2
        go_wp2_with fail
        refine (result_any false _ 2 2 [g0, g1] _ (RM.blk (Blk.new _ _ _) hd2 rfl (by omega))).mono ?_
        rintro e w7 ⟨v7, rfl, hret, hx7⟩
        obtain ⟨Z, hZ⟩ : ∃ Z : Int, Z = (G : Int) := ⟨_, rfl⟩
        rw [HV.out, resS_of (z := Z) (hZ.trans (by simp [zOf])) hGlim] at hret
        have HZ := Lib.hid hZ; clear hZ
        obtain ⟨u7, rfl, A2, n2, c2, rfl, hI⟩ := hret
        have hx3 := (hx6.trans (Ext.new w6 _)).trans hx7
        have b4 := box3c hx3
        have c4 := b4.cell
        have f4 := b4.frozen
        obtain ⟨k1, k2, k3⟩ := put2 (box3 hx3) (by omega) b4 (decide (Z < 0)) A2 n2 c2
        have K1 := Lib.hid k1; have K2 := Lib.hid k2; have K3 := Lib.hid (k3 _ _ _ _ hI); clear k1 k2 k3
        go_wp2
        rw [← HGG.out, ← HZ.out]
        exact bp_int2 rfl rfl rfl K2.out ⟨_, rfl, ⟨_, rfl, _, _, _, rfl, K3.out⟩, K1.out⟩
      · have hbr : decide ((n' : Int) ≤ 2) = false ∨ (n' ≤ 2 ∧ decide ((m' : Int) ≤ 2) = false) := by
          by_cases h : n' ≤ 2
          · exact .inr ⟨h, by rw [decide_eq_false_iff_not]; omega⟩
          · exact .inl (by rw [decide_eq_false_iff_not]; omega)
        have HSM := Lib.hid hsm; clear hsm
        have HGG := Lib.hid (show Nat.gcd gk (p % gk) = Nat.gcd x.natAbs y.natAbs by rw [← HG.out, Nat.gcd_comm p gk, Nat.gcd_rec gk p, Nat.gcd_comm])
        have hmod := Nat.mod_lt p hq0
        rcases hbr with hbr | ⟨hn2, hbr⟩
        all_goals
          try have hn2' : (n' : Int) ≤ 2 := by omega
          go_wp2_with fail
          refine (divMag_any A' B' n' m' c' d' p gk _ hA hB hq0 (by omega)).mono ?_
          rintro e w4 ⟨q, r, rfl, ⟨Aq, nq, cq, rfl, hQ⟩, ⟨Ar, nr, cr, rfl, hR⟩, hx4⟩
          have hB4 := hB.ext hx4
          go_wp2_with fail
          go_roundg (p % gk)
          case measure => exact hmod
          case rel => exact ⟨B', m', d', Ar, nr, cr, gk, rfl, rfl, hB4, hR, hq, Nat.lt_trans hmod hq, HGG.out, hex.trans hx4⟩
    · obtain rfl : m' = 0 := by omega
      obtain rfl : gk = 0 := by
        rcases Nat.eq_zero_or_pos gk with h | h
        · exact h
        · exact absurd (hmq.2 h) h0
      have hgp : p = Nat.gcd x.natAbs y.natAbs := by rw [← HG.out, Nat.gcd_zero_right]
      obtain ⟨G, hG⟩ : ∃ G, G = p := ⟨_, rfl⟩
      subst hG
      have HGG := Lib.hid hgp; clear hgp
      have hGlim := hp
      go_wp2_with fail
      refine (clone_any A' n' c' _ _ hA (by omega)).mono ?_
      rintro e w4 ⟨v4, rfl, ⟨A4, n4, c4, rfl, hC⟩, hx4⟩
      go_wp2_with fail
      refine (result_any false A4 n4 c4 _ _ hC).mono ?_
      rintro e w7 ⟨v7, rfl, hret, hx7⟩
      obtain ⟨Z, hZ⟩ : ∃ Z : Int, Z = (G : Int) := ⟨_, rfl⟩
      rw [val_digs, resS_of (z := Z) (hZ.trans (by simp [zOf])) hGlim] at hret
      have HZ := Lib.hid hZ; clear hZ
      obtain ⟨u7, rfl, A2, n2, c2, rfl, hI⟩ := hret
      have hx3 := ((hx2.trans hex).trans hx4).trans hx7
      have b4 := box3c hx3
      have c4 := b4.cell
      have f4 := b4.frozen
      obtain ⟨k1, k2, k3⟩ := put2 (box3 hx3) (by omega) b4 (decide (Z < 0)) A2 n2 c2
      have K1 := Lib.hid k1; have K2 := Lib.hid k2; have K3 := Lib.hid (k3 _ _ _ _ hI); clear k1 k2 k3
      go_wp2
      rw [← HGG.out, ← HZ.out]
      exact bp_int2 rfl rfl rfl K2.out ⟨_, rfl, ⟨_, rfl, _, _, _, rfl, K3.out⟩, K1.out⟩
end Go.Proofs.YtfdpbcjcinchgaaDoor
