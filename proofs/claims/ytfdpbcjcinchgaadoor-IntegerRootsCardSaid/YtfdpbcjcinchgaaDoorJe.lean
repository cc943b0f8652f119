/- Contracts: square roots of integers. -/
import Derived.Test.YtfdpbcjcinchgaaDoorJd
namespace Go.Proofs.YtfdpbcjcinchgaaDoor
open Go.RowKit
set_option linter.unusedVariables false

set_option maxRecDepth 100000 in
set_option maxHeartbeats 400000 in
theorem Root_bad1 (v : Value) (s : Bool) (l : List Nat) (w : World) (hX : RX w v s l) (hv : validB s l = false) :
    Calls Tryd.prog 42 #[v] w fun e w' => ∃ v, e = .returned v ∧ RetI (0, 1) v w' ∧ Ext w w' := by
  obtain ⟨A, n, c, rfl, hx⟩ := hX
  have HV1 := Lib.hid hv; clear hv
  go_enter Tryd.func42, Tryd.ntmps42
  go_wp2_with fail
  refine (Valid_any _ A n c _ _ (hx.ext ((Ext.new w _).alloc _))).mono ?_
  rintro e w1 ⟨rfl, hx1⟩
  rw [HV1.out]
  have b4 := box2b hx1
  have c4 := b4.cell
  have f4 := b4.frozen
  obtain ⟨k1, k2, _⟩ := put2 (box2 hx1) (by omega) b4 false none 0 0
  have K1 := Lib.hid k1; have K2 := Lib.hid k2; clear k1 k2
  go_wp2
  exact bp_int2 rfl rfl rfl K2.out ⟨_, rfl, ⟨_, rfl, RI.zero _⟩, K1.out⟩
set_option maxRecDepth 100000 in
set_option maxHeartbeats 400000 in
theorem Root_bad2 (v : Value) (l : List Nat) (w : World) (hX : RX w v true l) (hv : validB true l = true) :
    Calls Tryd.prog 42 #[v] w fun e w' => ∃ v, e = .returned v ∧ RetI (0, 1) v w' ∧ Ext w w' := by
  obtain ⟨A, n, c, rfl, hx⟩ := hX
  have HV1 := Lib.hid hv; clear hv
  go_enter Tryd.func42, Tryd.ntmps42
  go_wp2_with fail
  refine (Valid_any _ A n c _ _ (hx.ext ((Ext.new w _).alloc _))).mono ?_
  rintro e w1 ⟨rfl, hx1⟩
  rw [HV1.out]
  have b1 := box2a hx1
  have c1 := b1.cell
  have b4 := box2b hx1
  have c4 := b4.cell
  have f4 := b4.frozen
  obtain ⟨k1, k2, _⟩ := put2 (box2 hx1) (by omega) b4 false none 0 0
  have K1 := Lib.hid k1; have K2 := Lib.hid k2; clear k1 k2
  go_wp2
  exact bp_int2 rfl rfl rfl K2.out ⟨_, rfl, ⟨_, rfl, RI.zero _⟩, K1.out⟩
set_option maxRecDepth 100000 in
set_option maxHeartbeats 400000 in
theorem rRoot_bad1 (v : Value) (s : Bool) (l : List Nat) (w : World) (hX : RX w v s l) (hv : validB s l = false) :
    Calls Tryd.prog 43 #[v] w fun e w' => ∃ v, e = .returned v ∧ RetI (0, 1) v w' ∧ Ext w w' := by
  obtain ⟨A, n, c, rfl, hx⟩ := hX
  have HV1 := Lib.hid hv; clear hv
  go_enter Tryd.func43, Tryd.ntmps43
  go_wp2_with fail
  refine (rValid_any _ A n c _ _ (hx.ext ((Ext.new w _).alloc _))).mono ?_
  rintro e w1 ⟨rfl, hx1⟩
  rw [HV1.out]
  have b4 := box2b hx1
  have c4 := b4.cell
  have f4 := b4.frozen
  obtain ⟨k1, k2, _⟩ := put2 (box2 hx1) (by omega) b4 false none 0 0
  have K1 := Lib.hid k1; have K2 := Lib.hid k2; clear k1 k2
  go_wp2
  exact bp_int2 rfl rfl rfl K2.out ⟨_, rfl, ⟨_, rfl, RI.zero _⟩, K1.out⟩
set_option maxRecDepth 100000 in
set_option maxHeartbeats 400000 in
theorem rRoot_bad2 (v : Value) (l : List Nat) (w : World) (hX : RX w v true l) (hv : validB true l = true) :
    Calls Tryd.prog 43 #[v] w fun e w' => ∃ v, e = .returned v ∧ RetI (0, 1) v w' ∧ Ext w w' := by
  obtain ⟨A, n, c, rfl, hx⟩ := hX
  have HV1 := Lib.hid hv; clear hv
  go_enter Tryd.func43, Tryd.ntmps43
  go_wp2_with fail
  refine (rValid_any _ A n c _ _ (hx.ext ((Ext.new w _).alloc _))).mono ?_
  rintro e w1 ⟨rfl, hx1⟩
  rw [HV1.out]
  have b1 := box2a hx1
  have c1 := b1.cell
  have b4 := box2b hx1
  have c4 := b4.cell
  have f4 := b4.frozen
  obtain ⟨k1, k2, _⟩ := put2 (box2 hx1) (by omega) b4 false none 0 0
  have K1 := Lib.hid k1; have K2 := Lib.hid k2; clear k1 k2
  go_wp2
  exact bp_int2 rfl rfl rfl K2.out ⟨_, rfl, ⟨_, rfl, RI.zero _⟩, K1.out⟩

set_option maxRecDepth 100000 in
set_option maxHeartbeats 800000 in
theorem Root_ok (v : Value) (a R : Nat) (x z : Int) (w : World) (hX : RI w v x) (hxa : x = (a : Int)) (al : a < lim) (h1 : R * R ≤ a) (h2 : a < (R + 1) * (R + 1)) (hz : z = (R : Int)) :
    Calls Tryd.prog 42 #[v] w fun e w' => ∃ v, e = .returned v ∧ RetI (z, 0) v w' ∧ Ext w w' := by
  have HV1 := Lib.hid (RI.valid hX (by rw [hxa]; exact al))
  obtain ⟨A, n, c, rfl, hx⟩ := hX
  have hs : decide (x < 0) = false := by simp; omega
  have ha : x.natAbs = a := by omega
  rw [ha] at hx
  have hn : n ≤ 400 := by have := hx.len; have := len_lim al; omega
  have HRL : Hid (R < lim) := Lib.hid (Nat.lt_of_le_of_lt (by
    rcases Nat.eq_zero_or_pos R with h | h
    · omega
    · exact Nat.le_trans (Nat.le_mul_of_pos_left R h) h1) al)
  have HZ := Lib.hid hz; have H1 := Lib.hid h1; have H2 := Lib.hid h2; have HS := Lib.hid hs
  clear hz h1 h2 hxa
  rw [hs, ha] at HV1
  rw [hs]
  clear hs ha
  go_enter Tryd.func42, Tryd.ntmps42
  go_wp2_with fail
  refine (Valid_any _ A n c _ _ (hx.ext ((Ext.new w _).alloc _))).mono ?_
  rintro e w1 ⟨rfl, hx1⟩
  rw [HV1.out]
  have c1 := (box2a hx1).cell
  go_wp2_with fail
  refine (rootMag_any A n c a R _ (hx.ext (box2 hx1)) hn H1.out H2.out).mono ?_
  rintro e w2 ⟨v2, rfl, ⟨A1, n1, c3, rfl, hR⟩, hx2⟩
  clear c1
  have hx2 := hx1.trans hx2
  go_wp2_with fail
  refine (result_any false A1 n1 c3 _ _ hR).mono ?_
  rintro e w7 ⟨v7, rfl, hret, hx7⟩
  rw [val_digs, resS_of (z := z) (HZ.out.trans (by simp [zOf])) HRL.out] at hret
  obtain ⟨u7, rfl, A2, n2, c2, rfl, hI⟩ := hret
  have hx3 := hx2.trans hx7
  have b4 := box2b hx3
  have c4 := b4.cell
  have f4 := b4.frozen
  obtain ⟨k1, k2, k3⟩ := put2 (box2 hx3) (by omega) b4 (decide (z < 0)) A2 n2 c2
  have K1 := Lib.hid k1; have K2 := Lib.hid k2; have K3 := Lib.hid (k3 _ _ _ _ hI); clear k1 k2 k3
  go_wp2
  exact bp_int2 rfl rfl rfl K2.out ⟨_, rfl, ⟨_, rfl, _, _, _, rfl, K3.out⟩, K1.out⟩

theorem rroot0 (k : Nat) : (List.replicate (k + 1) 0).set k 1 = digs (4294967296 ^ k) := by
  have h := pow2_set (32 * k)
  rw [show 32 * k / 32 = k by omega, show 32 * k % 32 = 0 by omega, Nat.pow_zero, Nat.pow_mul] at h
  exact h

set_option maxRecDepth 100000 in
set_option maxHeartbeats 1600000 in
theorem rRoot_ok (v : Value) (a R : Nat) (x z : Int) (w : World) (hX : RI w v x) (hxa : x = (a : Int)) (al : a < lim) (h1 : R * R ≤ a) (h2 : a < (R + 1) * (R + 1)) (hz : z = (R : Int)) :
    Calls Tryd.prog 43 #[v] w fun e w' => ∃ v, e = .returned v ∧ RetI (z, 0) v w' ∧ Ext w w' := by
  have HV1 := Lib.hid (RI.valid hX (by rw [hxa]; exact al))
  obtain ⟨A, n, c, rfl, hx⟩ := hX
  have hs : decide (x < 0) = false := by simp; omega
  have ha : x.natAbs = a := by omega
  rw [ha] at hx
  have hn : n ≤ 400 := by have := hx.len; have := len_lim al; omega
  have hlen := hx.len
  have hsm := digs_some hlen
  have HZ := Lib.hid hz; have H1 := Lib.hid h1; have H2 := Lib.hid h2
  rw [hs, ha] at HV1
  rw [hs]
  clear hs ha hz hxa
  rcases Nat.eq_zero_or_pos n with h0 | h0
  · subst h0
    have ha0 : a = 0 := by
      rcases Nat.eq_zero_or_pos a with h | h
      · exact h
      · exact absurd (hsm.2 h) (by omega)
    have hR : R = 0 := by
      rcases Nat.eq_zero_or_pos R with h | h
      · exact h
      · have := Nat.mul_le_mul h h; omega
    have HR := Lib.hid hR
    clear hsm h1 h2 ha0 hR
    go_enter Tryd.func43, Tryd.ntmps43
    go_wp2_with fail
    refine (rValid_any _ A 0 c _ _ (hx.ext ((Ext.new w _).alloc _))).mono ?_
    rintro e w1 ⟨rfl, hx1⟩
    rw [HV1.out]
    have c1 := (box2a hx1).cell
    have b4 := box2b hx1
    have c4 := b4.cell
    have f4 := b4.frozen
    obtain ⟨k1, k2, _⟩ := put2 (box2 hx1) (by omega) b4 false none 0 0
    have K1 := Lib.hid k1; have K2 := Lib.hid k2; clear k1 k2
    go_wp2
    rw [HZ.out, HR.out]
    exact bp_int2 rfl rfl rfl K2.out ⟨_, rfl, ⟨_, rfl, RI.zero _⟩, K1.out⟩
  · have hbound : a < 2 ^ (2 * (32 * (n / 2 + 1))) := by
      have hv := val_lt hx.dg
      rw [val_digs, hlen] at hv
      have h4 : (4294967296 : Nat) ^ n = 2 ^ (32 * n) := by rw [Nat.pow_mul]
      rw [h4] at hv
      exact Nat.lt_of_lt_of_le hv (Nat.pow_le_pow_right (by decide) (by omega))
    have hRle := root_le h1 hbound
    have ha := hsm.1 h0
    have hR1 : 1 ≤ R := by
      rcases Nat.eq_zero_or_pos R with h | h
      · subst h; omega
      · exact h
    obtain ⟨hf, hhf⟩ : ∃ hf, hf = n / 2 := ⟨_, rfl⟩
    rw [← hhf, Nat.pow_mul] at hRle
    have hf2 : hf ≤ 200 := by omega
    have e1 : (n : Int) / 2 = (hf : Int) := by omega
    have HRL : Hid (R ≤ 4294967296 ^ (hf + 1)) := Lib.hid hRle
    have t1 : ((n : Int) == 0) = false := by simp; omega
    have t2 : (n == 0) = false := by simp; omega
    have hmk := make_u32 ((hf : Int) + 2) (hf + 2) (by omega) (by omega)
    have hz5 : (mg (List.replicate (hf + 2) 0))[hf + 1]? = some (.int .u32 0) := by simp [mg]
    have hset : (mg (List.replicate (hf + 2) 0)).set (hf + 1) (.int .u32 1) = mg (digs (4294967296 ^ (hf + 1))) := by
      rw [← rroot0 (hf + 1)]
      exact mg_set' (d := 1) (by simp)
    have hlen5 : (digs (4294967296 ^ (hf + 1))).length = hf + 2 := by
      have := congrArg List.length hset
      rw [List.length_set, mg_len, mg_len, List.length_replicate] at this
      exact this.symm
    have HSET := Lib.hid hset; have HL5 := Lib.hid hlen5; have HLEN := Lib.hid hlen; have HSM := Lib.hid hsm
    clear hset hlen5 hhf hRle hbound h1 h2 hlen hsm
    go_enter Tryd.func43, Tryd.ntmps43
    go_wp2_with fail
    refine (rValid_any _ A n c _ _ (hx.ext ((Ext.new w _).alloc _))).mono ?_
    rintro e w1 ⟨rfl, hx1⟩
    rw [HV1.out]
    have b1 := box2a hx1
    have b2 := box2b hx1
    have c1 := b1.cell
    have hbl := b1.lt
    go_wp2_with fail
    rw [HSET.out]
    clear hmk hz5 c1 e1
    have hst : RM (w1.alloc (.cells (mg (digs (4294967296 ^ (hf + 1)))).toArray 34)) (some ⟨w1.heap.size, 0, none⟩) (hf + 2) (hf + 2) (digs (4294967296 ^ (hf + 1))) := RM.blk (Blk.new _ _ _) (dig_digs _) HL5.out (by omega)
    have hex0 : Ext w1 (w1.alloc (.cells (mg (digs (4294967296 ^ (hf + 1)))).toArray 34)) := Ext.new _ _
    have hxw := hx.ext (box2 hx1)
    go_loopg [4] (4294967296 ^ (hf + 1)) (fun gk rv wr => ∃ A' n' c', rv = .slice A' n' c' ∧ RM wr A' n' c' (digs gk) ∧ R ≤ gk ∧ gk ≤ 4294967296 ^ (hf + 1) ∧ Ext w1 wr)
    case atStart => exact ⟨_, _, _, rfl, hst, HRL.out, Nat.le_refl _, hex0⟩
    case round =>
      clear hst hex0
      obtain ⟨A', n', c', rfl, hB, hRg, hgl, hex⟩ := hrel
      have HRG := Lib.hid hRg; have HGL := Lib.hid hgl
      have hg0 : 0 < gk := by omega
      have hn' : n' ≤ 300 := by
        have := hB.len
        have := digs_len_mono HGL.out (show (digs (4294967296 ^ (hf + 1))).length ≤ 300 by rw [HL5.out]; omega)
        omega
      clear hRg hgl
      have hnew := newton_ge (r := gk) hg0 H1.out
      have hexit := newton_exit (a := a) (r := gk) hg0
      have hqle : a / gk ≤ a := Nat.div_le_self _ _
      have HNEW := Lib.hid hnew; have HEXIT := Lib.hid hexit; have HQLE := Lib.hid hqle; clear hnew hexit hqle
      have c1 := (b1.ext hex).cell
      go_wp2_with fail
      refine (rdivide_any A A' n n' c c' a gk _ (hxw.ext hex) hB hg0 (by omega)).mono ?_
      rintro e w4 ⟨q, r, rfl, ⟨Aq, nq, cq, rfl, hQ⟩, ⟨Ar, nr, cr, rfl, hR⟩, hx4⟩
      clear c1
      have hnq : nq ≤ 400 := by
        have := hQ.len
        have := digs_len_mono HQLE.out (show (digs a).length ≤ 400 by rw [HLEN.out]; omega)
        omega
      have hB4 := hB.ext hx4
      have hex4 := hex.trans hx4
      go_wp2_with fail
      refine (rplus_any A' Aq n' nq c' cq _ _ _ hB4 hQ (by omega) (by omega)).mono ?_
      rintro e w5 ⟨v5, rfl, ⟨l5, ⟨A5, n5, c5, rfl, hS⟩, hval5, hlen5⟩, hx5⟩
      have hB5 := hB4.ext hx5
      have hex5 := hex4.trans hx5
      rw [val_digs, val_digs] at hval5
      have hn5 : n5 ≤ 1000 := by have := hS.len; omega
      generalize hnx : (gk + a / gk) / 2 = nx at *
      have HNX := Lib.hid hnx; have HV5 := Lib.hid hval5; clear hnx hval5 hlen5
      go_wp2_with fail
      refine (rback_any A5 n5 c5 1 _ _ hS (by omega) (by omega)).mono ?_
      rintro e w6 ⟨v6, rfl, ⟨A6, n6, c6, rfl, hN⟩, hx6⟩
      rw [HV5.out, Nat.pow_one, HNX.out] at hN
      have hB6 := hB5.ext hx6
      have hex6 := hex5.trans hx6
      go_wp2_with fail
      refine (rcompare_any A6 A' n6 n' c6 c' _ _ _ hN hB6 (canon_digs _) (canon_digs _)).mono ?_
      rintro e w7 ⟨rfl, hx7⟩
      rw [val_digs, val_digs]
      have hB7 := hB6.ext hx7
      have hN7 := hN.ext hx7
      have hex7 := hex6.trans hx7
      by_cases hle : gk ≤ nx
      · obtain ⟨t3, t4⟩ := cmpN_ge hle
        generalize cmpN nx gk = cc at *
        have hgR := root_unique (HEXIT.out hle) HRG.out H2.out
        have HGR := Lib.hid hgR; clear hgR
        go_wp2_with fail
        refine (rmade_any false A' n' c' _ _ hB7 (by omega)).mono ?_
        rintro e w8 ⟨v8, rfl, hI8, hx8⟩
        rw [val_digs, HGR.out, zOf_pos, ← HZ.out] at hI8
        obtain ⟨A2, n2, c2, rfl, hI⟩ := hI8
        have hx9 := hx1.trans (hex7.trans hx8)
        have b4 := box2b hx9
        have c4 := b4.cell
        have f4 := b4.frozen
        obtain ⟨k1, k2, k3⟩ := put2 (box2 hx9) (by omega) b4 (decide (z < 0)) A2 n2 c2
        have K1 := Lib.hid k1; have K2 := Lib.hid k2; have K3 := Lib.hid (k3 _ _ _ _ hI); clear k1 k2 k3
        go_wp2
        exact bp_int2 rfl rfl rfl K2.out ⟨_, rfl, ⟨_, rfl, _, _, _, rfl, K3.out⟩, K1.out⟩
      · have hlt : nx < gk := by omega
        rw [← cmpN_lt hlt]
        go_wp2_with fail
        go_roundg nx
        case measure => exact hlt
        case rel => exact ⟨_, _, _, rfl, hN7, HNEW.out, Nat.le_trans (Nat.le_of_lt hlt) HGL.out, hex7⟩
end Go.Proofs.YtfdpbcjcinchgaaDoor
