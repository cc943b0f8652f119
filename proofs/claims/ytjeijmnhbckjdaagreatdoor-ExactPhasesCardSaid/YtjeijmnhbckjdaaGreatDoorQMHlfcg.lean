/- Words and contracts that the laws share, several texts in one. -/
import Derived.Test.YtjeijmnhbckjdaaGreatDoorQMGeemb
import Derived.Deep.LoopGhost
/- Square roots: plain laws, and the contract of rootMag. -/
namespace Go.Proofs.YtjeijmnhbckjdaaGreatDoor
open Go.RowKit
set_option linter.unusedVariables false

theorem root_ex : ∀ a : Nat, ∃ R, R * R ≤ a ∧ a < (R + 1) * (R + 1)
  | 0 => ⟨0, by omega, by omega⟩
  | a + 1 => by
    obtain ⟨R, h1, h2⟩ := root_ex a
    by_cases h : a + 1 < (R + 1) * (R + 1)
    · exact ⟨R, by omega, h⟩
    · refine ⟨R + 1, by omega, ?_⟩
      have : (R + 1 + 1) * (R + 1 + 1) = (R + 1) * (R + 1) + 2 * (R + 1) + 1 := by
        rw [Nat.add_mul, Nat.mul_add, Nat.mul_add]; omega
      omega
theorem amgm {r t R : Nat} (h : r + t ≤ 2 * R) : r * t ≤ R * R := by
  rcases Nat.le_total r R with h1 | h1
  · obtain ⟨d, rfl⟩ := Nat.exists_eq_add_of_le h1
    have h2 : r * t ≤ r * (r + 2 * d) := Nat.mul_le_mul_left _ (by omega)
    have h3 : (r + d) * (r + d) = r * (r + 2 * d) + d * d := by
      rw [Nat.add_mul, Nat.mul_add, Nat.mul_add, Nat.mul_add, Nat.mul_comm d r, Nat.mul_left_comm r 2 d]; omega
    omega
  · obtain ⟨d, rfl⟩ := Nat.exists_eq_add_of_le h1
    obtain ⟨e, rfl⟩ : ∃ e, R = t + d + e := ⟨R - t - d, by omega⟩
    have h2 : (t + d + e + d) * t ≤ (t + d + e) * (t + d) := by
      have e1 : (t + d + e + d) * t = (t + d + e) * t + d * t := Nat.add_mul _ _ _
      have e2 : (t + d + e) * (t + d) = (t + d + e) * t + (t + d + e) * d := Nat.mul_add _ _ _
      have e3 : d * t ≤ (t + d + e) * d := by rw [Nat.mul_comm d t]; exact Nat.mul_le_mul_right _ (by omega)
      omega
    exact Nat.le_trans h2 (Nat.mul_le_mul_left _ (by omega))
theorem newton_ge {a r R : Nat} (hr : 0 < r) (h : R * R ≤ a) : R ≤ (r + a / r) / 2 := by
  rcases Nat.lt_or_ge ((r + a / r) / 2) R with hl | hl
  · have h1 : r + (a / r + 1) ≤ 2 * R := by omega
    have h2 := amgm h1
    have h3 : a < r * (a / r + 1) := by
      have := Nat.lt_mul_div_succ a hr
      simpa using this
    omega
  · exact hl
theorem newton_exit {a r : Nat} (hr : 0 < r) (h : r ≤ (r + a / r) / 2) : r * r ≤ a := by
  have h1 : r ≤ a / r := by omega
  exact Nat.le_trans (Nat.mul_le_mul_right r h1) (Nat.div_mul_le_self a r)
theorem root_unique {a r R : Nat} (h1 : r * r ≤ a) (h2 : R ≤ r) (h3 : a < (R + 1) * (R + 1)) : r = R := by
  rcases Nat.lt_or_ge R r with h | h
  · have := Nat.mul_le_mul (show R + 1 ≤ r from h) (show R + 1 ≤ r from h)
    omega
  · omega
theorem root_le {a R h : Nat} (h1 : R * R ≤ a) (h2 : a < 2 ^ (2 * h)) : R ≤ 2 ^ h := by
  rcases Nat.lt_or_ge (2 ^ h) R with hl | hl
  · have h3 := Nat.mul_le_mul (Nat.le_of_lt hl) (Nat.le_of_lt hl)
    rw [← Nat.pow_add] at h3
    have e : h + h = 2 * h := by omega
    rw [e] at h3
    omega
  · exact hl
theorem top_bound {l : List Nat} {k x : Nat} (hd : Dig l) (hl : l.length = k + 1) (hx : l[k]? = some x) : val l < 2 ^ (32 * k + Lib.bitLen x) := by
  have hx32 := hd.at_ hx
  have h1 : val l = val (l.take k) + 4294967296 ^ k * x := by
    have := val_take_succ hx
    rw [List.take_of_length_le (by omega)] at this
    exact this
  have h2 : val (l.take k) < 4294967296 ^ k := by
    have := val_lt (hd.take k)
    rw [List.length_take, Nat.min_eq_left (by omega)] at this
    exact this
  have h3 : x + 1 ≤ 2 ^ Lib.bitLen x := by
    rcases Nat.eq_zero_or_pos x with h0 | h0
    · subst h0; exact Nat.pos_of_ne_zero (by have := Nat.pow_pos (n := Lib.bitLen 0) (show 0 < 2 by decide); omega)
    · have := (Lib.bitLenAux_bounds 64 x (by omega) (by omega)).2.2
      unfold Lib.bitLen
      omega
  have h4 : 4294967296 ^ k = 2 ^ (32 * k) := by rw [Nat.pow_mul]
  rw [Nat.pow_add, ← h4]
  have h5 : 4294967296 ^ k * (x + 1) ≤ 4294967296 ^ k * 2 ^ Lib.bitLen x := Nat.mul_le_mul_left _ h3
  rw [Nat.mul_add] at h5
  omega
/-- A power of two as digits. -/
theorem pow2_digs (h : Nat) : List.replicate (h / 32) 0 ++ [2 ^ (h % 32)] = digs (2 ^ h) := by
  have hd : Dig (List.replicate (h / 32) 0 ++ [2 ^ (h % 32)]) := by
    intro z hz
    rcases List.mem_append.1 hz with hz | hz
    · rw [List.mem_replicate] at hz; omega
    · simp at hz
      subst hz
      exact Nat.pow_lt_pow_right (a := 2) (n := 32) (by decide) (by omega)
  have hv : val (List.replicate (h / 32) 0 ++ [2 ^ (h % 32)]) = 2 ^ h := by
    rw [val_snoc, val_replicate, List.length_replicate, Nat.zero_add, show (4294967296 : Nat) = 2 ^ 32 by rfl, ← Nat.pow_mul, ← Nat.pow_add]
    congr 1; omega
  rw [← hv, digs_val hd]
  intro x hx
  simp at hx
  subst hx
  exact Nat.ne_of_gt (Nat.pow_pos (by decide))
theorem set_last (k x : Nat) : (List.replicate (k + 1) 0).set k x = List.replicate k 0 ++ [x] := by
  rw [List.replicate_succ', List.set_append_right _ _ (by simp)]
  simp
theorem pow2_set (h : Nat) : (List.replicate (h / 32 + 1) 0).set (h / 32) (2 ^ (h % 32)) = digs (2 ^ h) := by rw [set_last, pow2_digs]
theorem cmpN_ge {a b : Nat} (h : b ≤ a) : decide (0 ≤ cmpN a b) = true ∧ 0 ≤ cmpN a b := by
  have : 0 ≤ cmpN a b := by unfold cmpN; rw [if_neg (by omega)]; split <;> omega
  exact ⟨by simpa using this, this⟩

theorem digs_len_mono {a b n : Nat} (h : a ≤ b) (hb : (digs b).length ≤ n) : (digs a).length ≤ n := by
  refine digs_len_le ?_
  have := val_lt (dig_digs b)
  rw [val_digs] at this
  exact Nat.lt_of_le_of_lt h (Nat.lt_of_lt_of_le this (Nat.pow_le_pow_right (by omega) hb))

theorem digs_len_add {a b k : Nat} (ha : (digs a).length ≤ k) (hb : (digs b).length ≤ k) : (digs (a + b)).length ≤ k + 1 := by
  have h1 := val_lt (dig_digs a)
  have h2 := val_lt (dig_digs b)
  rw [val_digs] at h1 h2
  have h3 : (4294967296 : Nat) ^ (digs a).length ≤ 4294967296 ^ k := Nat.pow_le_pow_right (by decide) ha
  have h4 : (4294967296 : Nat) ^ (digs b).length ≤ 4294967296 ^ k := Nat.pow_le_pow_right (by decide) hb
  exact digs_len_le (by rw [Nat.pow_succ]; omega)

set_option maxRecDepth 100000 in
set_option maxHeartbeats 1600000 in
theorem rootMag_any (A : Option Addr) (n c a R : Nat) (w : World) (hA : RM w A n c (digs a)) (hn : n ≤ 400) (h1 : R * R ≤ a) (h2 : a < (R + 1) * (R + 1)) :
    Calls Tryz.prog 126 #[.slice A n c] w fun e w' => ∃ v, e = .returned v ∧ SlM (digs R) v w' ∧ Ext w w' := by
  have hlen := hA.len
  have hs := digs_some hlen
  rcases Nat.eq_zero_or_pos n with h0 | h0
  · subst h0
    have ha : a = 0 := by
      rcases Nat.eq_zero_or_pos a with h | h
      · exact h
      · exact absurd (hs.2 h) (by omega)
    subst ha
    have hR : R = 0 := by
      rcases Nat.eq_zero_or_pos R with h | h
      · exact h
      · have := Nat.mul_le_mul h h; omega
    subst hR
    go_enter Tryz.func126, Tryz.ntmps126
    go_wp2
    go_ret
    exact ⟨_, rfl, ⟨_, _, _, rfl, by rw [digs_zero]; exact RM.nil⟩, Ext.refl _⟩
  · obtain ⟨j, rfl⟩ : ∃ j, n = j + 1 := ⟨n - 1, by omega⟩
    obtain ⟨ad, x, rfl, hb, hx, hx32, hcx⟩ := hA.at_ (k := j) (by omega)
    have htop := top_bound hA.dg hlen hx
    rw [val_digs] at htop
    have hbl : Lib.bitLen x ≤ 32 := Lib.bitLen_le x 32 (by omega) hx32
    have hxx : ((x : Int)).toNat = x := by omega
    have hbe : Lib.bitLen (x : Int).toNat = Lib.bitLen x := by rw [hxx]
    generalize Lib.bitLen x = bl at *
    obtain ⟨hf, hhf⟩ : ∃ hf, hf = (32 * j + bl + 1) / 2 := ⟨_, rfl⟩
    have hRle : R ≤ 2 ^ hf := root_le h1 (Nat.lt_of_lt_of_le htop (Nat.pow_le_pow_right (by decide) (by omega)))
    have ha := hs.1 h0
    have hR1 : 1 ≤ R := by
      rcases Nat.eq_zero_or_pos R with h | h
      · subst h; omega
      · exact h
    have hf6 : hf ≤ 6416 := by omega
    have HHF := Lib.hid hhf; have HBE := Lib.hid hbe; have H1 := Lib.hid h1; have H2 := Lib.hid h2; have HRL := Lib.hid hRle
    have HTOP := Lib.hid htop; have HX := Lib.hid hx; have HLEN := Lib.hid hlen; have HS := Lib.hid hs
    clear hhf hbe h1 h2 hRle htop hx hlen hs hxx
    go_enter Tryz.func126, Tryz.ntmps126
    go_wp2_with fail
    refine (Tryz.bits_Len32 (x : Int) _ (by omega) (by omega)).mono ?_
    rintro e w1 ⟨rfl, hw1⟩
    rw [hw1, HBE.out]
    clear hw1
    obtain ⟨q5, r5, hqr, hr5⟩ : ∃ q r, hf = 32 * q + r ∧ r < 32 := ⟨hf / 32, hf % 32, by omega, by omega⟩
    have e1 : ((32 : Int) * (j : Int) + (bl : Int) + 1) / 2 = (hf : Int) := by have := HHF.out; omega
    have e2 : (hf : Int) / 32 = (q5 : Int) := by omega
    have e3 : (hf : Int) % 32 = (r5 : Int) := by omega
    have HQR := Lib.hid hqr; clear hqr
    have hq5 : q5 ≤ 201 := by have := HQR.out; omega
    have hmk := make_u32 ((q5 : Int) + 1) (q5 + 1) (by omega) (by omega)
    have hz5 : (mg (List.replicate (q5 + 1) 0))[q5]? = some (.int .u32 0) := by simp [mg]
    have hp5 : 2 ^ r5 < 4294967296 := Nat.pow_lt_pow_right (a := 2) (n := 32) (by decide) hr5
    have e4 : (2 : Int) ^ r5 % 4294967296 = ((2 ^ r5 : Nat) : Int) := by
      rw [show (2 : Int) ^ r5 = ((2 ^ r5 : Nat) : Int) by simp]
      exact Int.emod_eq_of_lt (Int.natCast_nonneg _) (Int.ofNat_lt.2 hp5)
    have hset : (mg (List.replicate (q5 + 1) 0)).set q5 (.int .u32 ((2 : Int) ^ r5)) = mg (digs (2 ^ hf)) := by
      rw [← pow2_set hf]
      have hq : hf / 32 = q5 := by have := HQR.out; omega
      have hr : hf % 32 = r5 := by have := HQR.out; omega
      rw [hq, hr]
      exact mg_set' (by simp)
    have hlen5 : (digs (2 ^ hf)).length = q5 + 1 := by
      have := congrArg List.length hset
      rw [List.length_set, mg_len, mg_len, List.length_replicate] at this
      exact this.symm
    have hpos : 0 < 2 ^ hf := Nat.pow_pos (by decide)
    have HSET := Lib.hid hset; have HL5 := Lib.hid hlen5; have HPOS := Lib.hid hpos; clear hset hlen5 hpos
    go_wp2_with fail
    rw [HSET.out]
    clear hmk hz5 e1 e2 e3 e4 hcx
    have hst : RM (w.alloc (.cells (mg (digs (2 ^ hf))).toArray 90)) (some ⟨w.heap.size, 0, none⟩) (q5 + 1) (q5 + 1) (digs (2 ^ hf)) := RM.blk (Blk.new _ _ _) (dig_digs _) HL5.out (by omega)
    have hex0 : Ext w (w.alloc (.cells (mg (digs (2 ^ hf))).toArray 90)) := Ext.new _ _
    go_loopg [5] (2 ^ hf) (fun gk rv wr => ∃ A' n' c', rv = .slice A' n' c' ∧ RM wr A' n' c' (digs gk) ∧ R ≤ gk ∧ gk ≤ 2 ^ hf ∧ Ext w wr)
    case atStart => exact ⟨_, _, _, rfl, hst, HRL.out, Nat.le_refl _, hex0⟩
    case round =>
      clear hst hex0
      obtain ⟨A', n', c', rfl, hB, hRg, hgl, hex⟩ := hrel
      have HRG := Lib.hid hRg; have HGL := Lib.hid hgl
      have hg0 : 0 < gk := by omega
      have hn' : n' ≤ 300 := by
        have := hB.len
        have := digs_len_mono HGL.out (show (digs (2 ^ hf)).length ≤ 300 by rw [HL5.out]; omega)
        omega
      clear hRg hgl
      have hnew := newton_ge (r := gk) hg0 H1.out
      have hexit := newton_exit (a := a) (r := gk) hg0
      have hqle : a / gk ≤ a := Nat.div_le_self _ _
      have HNEW := Lib.hid hnew; have HEXIT := Lib.hid hexit; have HQLE := Lib.hid hqle; clear hnew hexit hqle
      go_wp2_with fail
      refine (divMag_any (some ad) A' (j + 1) n' c c' a gk _ (hA.ext hex) hB hg0 (by omega)).mono ?_
      rintro e w4 ⟨q, r, rfl, ⟨Aq, nq, cq, rfl, hQ⟩, ⟨Ar, nr, cr, rfl, hR⟩, hx4⟩
      have hnq : nq ≤ 400 := by
        have := hQ.len
        have := digs_len_mono HQLE.out (show (digs a).length ≤ 400 by rw [HLEN.out]; omega)
        omega
      have hB4 := hB.ext hx4
      have hex4 := hex.trans hx4
      go_wp2_with fail
      refine (addMag_any A' Aq n' nq c' cq _ _ _ hB4 hQ (by omega) (by omega)).mono ?_
      rintro e w5 ⟨v5, rfl, ⟨A5, n5, c5, rfl, hS⟩, hx5⟩
      have hB5 := hB4.ext hx5
      have hex5 := hex4.trans hx5
      rw [val_digs, val_digs] at hS
      have hn5 : n5 ≤ 1000 := by
        have h5 := hS.len
        have h6 := digs_len_add (k := 400) (a := gk) (b := a / gk) (by have := hB.len; omega) (by have := hQ.len; omega)
        omega
      generalize hnx : (gk + a / gk) / 2 = nx at *
      have HNX := Lib.hid hnx; clear hnx
      go_wp2_with fail
      refine (shiftRight_any A5 n5 c5 1 _ _ hS (by omega) (by omega)).mono ?_
      rintro e w6 ⟨v6, rfl, ⟨A6, n6, c6, rfl, hN⟩, hx6⟩
      rw [val_digs, show gk + a / gk = gk + a / gk from rfl, Nat.pow_one, HNX.out] at hN
      have hB6 := hB5.ext hx6
      have hex6 := hex5.trans hx6
      go_wp2_with fail
      refine (compareMag_any A6 A' n6 n' c6 c' _ _ _ hN hB6 (canon_digs _) (canon_digs _)).mono ?_
      rintro e w7 ⟨rfl, hx7⟩
      rw [val_digs, val_digs]
      have hB7 := hB6.ext hx7
      have hN7 := hN.ext hx7
      have hex7 := hex6.trans hx7
      by_cases hle : gk ≤ nx
      · obtain ⟨t1, t2⟩ := cmpN_ge hle
        generalize cmpN nx gk = cc at *
        go_wp2
        go_ret
        have hgR := root_unique (HEXIT.out hle) HRG.out H2.out
        exact ⟨_, rfl, ⟨_, _, _, rfl, by rw [← hgR]; exact hB7⟩, hex7⟩
      · have hlt : nx < gk := by omega
        rw [← cmpN_lt hlt]
        go_wp2_with fail
        go_roundg nx
        case measure => exact hlt
        case rel => exact ⟨_, _, _, rfl, hN7, HNEW.out, Nat.le_trans (Nat.le_of_lt hlt) HGL.out, hex7⟩
end Go.Proofs.YtjeijmnhbckjdaaGreatDoor

/- Contracts: square roots of integers. -/
namespace Go.Proofs.YtjeijmnhbckjdaaGreatDoor
open Go.RowKit
set_option linter.unusedVariables false

set_option maxRecDepth 100000 in
set_option maxHeartbeats 800000 in
theorem Root_ok (v : Value) (a R : Nat) (x z : Int) (w : World) (hX : RI w v x) (hxa : x = (a : Int)) (al : a < lim) (h1 : R * R ≤ a) (h2 : a < (R + 1) * (R + 1)) (hz : z = (R : Int)) :
    Calls Tryz.prog 98 #[v] w fun e w' => ∃ v, e = .returned v ∧ RetI (z, 0) v w' ∧ Ext w w' := by
  have HV1 := Lib.hid (RI.valid hX (by rw [hxa]; exact al))
  obtain ⟨A, n, c, rfl, hx⟩ := hX
  have hs : decide (x < 0) = false := by simp; omega
  have ha : x.natAbs = a := by omega
  rw [ha] at hx
  have hn : n ≤ 400 := by have := hx.len; have := len_lim al; omega
  have HRL : Hid (R < lim) := Lib.hid (Nat.lt_of_le_of_lt (by
    rcases Nat.eq_zero_or_pos R with h | h
    · omega
    · exact Nat.le_trans (Nat.le_mul_of_pos_left R h) h1) al)
  have HZ := Lib.hid hz; have H1 := Lib.hid h1; have H2 := Lib.hid h2; have HS := Lib.hid hs
  clear hz h1 h2 hxa
  rw [hs, ha] at HV1
  rw [hs]
  clear hs ha
  go_enter Tryz.func98, Tryz.ntmps98
  go_wp2_with fail
  refine (Valid_any _ A n c _ _ (hx.ext ((Ext.new w _).alloc _))).mono ?_
  rintro e w1 ⟨rfl, hx1⟩
  rw [HV1.out]
  have c1 := (box2a hx1).cell
  go_wp2_with fail
  refine (rootMag_any A n c a R _ (hx.ext (box2 hx1)) hn H1.out H2.out).mono ?_
  rintro e w2 ⟨v2, rfl, ⟨A1, n1, c3, rfl, hR⟩, hx2⟩
  clear c1
  have hx2 := hx1.trans hx2
  go_wp2_with fail
  refine (result_any false A1 n1 c3 _ _ hR).mono ?_
  rintro e w7 ⟨v7, rfl, hret, hx7⟩
  rw [val_digs, resS_of (z := z) (HZ.out.trans (by simp [zOf])) HRL.out] at hret
  obtain ⟨u7, rfl, A2, n2, c2, rfl, hI⟩ := hret
  have hx3 := hx2.trans hx7
  have b4 := box2b hx3
  have c4 := b4.cell
  have f4 := b4.frozen
  obtain ⟨k1, k2, k3⟩ := put2 (box2 hx3) (by omega) b4 (decide (z < 0)) A2 n2 c2
  have K1 := Lib.hid k1; have K2 := Lib.hid k2; have K3 := Lib.hid (k3 _ _ _ _ hI); clear k1 k2 k3
  go_wp2
  exact bp_int2 rfl rfl rfl K2.out ⟨_, rfl, ⟨_, rfl, _, _, _, rfl, K3.out⟩, K1.out⟩

end Go.Proofs.YtjeijmnhbckjdaaGreatDoor
