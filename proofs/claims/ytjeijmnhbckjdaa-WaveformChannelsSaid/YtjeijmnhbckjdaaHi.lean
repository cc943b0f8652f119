/- The specification of rounding: the search. -/
import Derived.Test.YtjeijmnhbckjdaaHh
import Derived.Test.YtjeijmnhbckjdaaGh
namespace Go.Proofs.Ytjeijmnhbckjdaa
open Go.RowKit
set_option linter.unusedVariables false

theorem qreaches_ok (v : Value) (a b d x y z r n : Int) (k : Nat) (w : World) (hX : RP w v a b d x y z) (S : Sz k a b d) (T : Sz k x y z) (hk : 4 * k + 266 ≤ 12800) (r1 : -9223372036854775808 ≤ r) (r2 : r ≤ 9223372036854775807) (n1 : -9223372036854775808 ≤ n) (n2 : n ≤ 9223372036854775807) :
    Calls Try.prog 26 #[v, .int .i64 r, .int .i64 n] w fun e w' => e = .returned (.bool (decide (RZ a d x z r n))) ∧ Ext w w' := by
  obtain ⟨s1, s2, s3⟩ := S.lims (by omega)
  obtain ⟨t1, t2, t3⟩ := T.lims (by omega)
  have b2 : (2 : Int).natAbs < 2 ^ 2 := by decide
  have m1 := lt_mul b2 (lt64 n1 n2)
  have m2 := lt_sub (m := 2 + 64) m1 (show (1 : Int).natAbs < 2 ^ (2 + 64) from Nat.one_lt_two_pow (by omega))
  have m3 := lt_mul S.a T.d
  have m4 := lt_mul b2 m3
  have m5 := lt_mul m2 (lt64 r1 r2)
  have m6 := lt_mul S.d T.d
  have m7 := lt_mul m5 m6
  have m8 := lt_sub (lt_up m4 (n := 2 + 64 + 1 + 64 + (k + k)) (by omega)) m7
  have m9 := lt_mul T.a S.d
  have m10 := lt_mul b2 m9
  have e : decide (RZ a d x z r n) = decide (0 ≤ sgn3 (2 * (a * z) - (2 * n - 1) * r * (d * z)) (2 * (x * d))) := by
    rw [decide_eq_decide, sgn3_iff]
    unfold RZ
    rw [show (2 * n - 1) * r * (d * z) - 2 * (a * z) = -(2 * (a * z) - (2 * n - 1) * r * (d * z)) by omega]
  rw [e]
  exact qreaches_w v a b d x y z r n w hX s1 s2 s3 t1 t2 t3 r1 r2 n1 n2 _ (Lib.hid rfl) (lim_of m1 (by omega)) _ (Lib.hid rfl) (lim_of m2 (by omega)) _ (Lib.hid rfl) (lim_of m3 (by omega)) _ (Lib.hid rfl) (lim_of m4 (by omega)) _ (Lib.hid rfl) (lim_of m5 (by omega)) _ (Lib.hid rfl) (lim_of m6 (by omega)) _ (Lib.hid rfl) (lim_of m7 (by omega)) _ (Lib.hid rfl) (lim_of m8 (by omega)) _ (Lib.hid rfl) (lim_of m9 (by omega)) _ (Lib.hid rfl) (lim_of m10 (by omega)) (2 + 64 + 1 + 64 + (k + k) + 1) (Lib.hid m8) (Lib.hid (lt_up m10 (by omega))) (Lib.hid (by omega))
/-- What the search knows: n is at most T, and near it. -/
def Near (T n k : Int) : Prop := n ≤ T ∧ T - n ≤ 2 ^ (k + 1).toNat ∧ (k = -1 → T = n)
/-- Inside a round: s is 2 to the k. -/
def NearI (T n k : Int) (i : Nat) : Prop := n ≤ T ∧ (i = 0 → T - n ≤ 2 * 2 ^ k.toNat) ∧ (i = 1 → T - n ≤ 2 ^ k.toNat) ∧ (i = 2 → T - n < 2 ^ k.toNat)
theorem Near.into {T n k : Int} (h : Near T n k) (hk : 0 ≤ k) : NearI T n k 0 := by
  refine ⟨h.1, fun _ => ?_, by omega, by omega⟩
  have e : (k + 1).toNat = k.toNat + 1 := by omega
  have := h.2.1
  rw [e, Int.pow_succ] at this
  omega
theorem NearI.out {T n k : Int} (h : NearI T n k 2) (hk : 0 ≤ k) : Near T n (k - 1) := by
  have h2 := h.2.2.2 rfl
  have e : (k - 1 + 1).toNat = k.toNat := by congr 1; omega
  refine ⟨h.1, by rw [e]; omega, fun h0 => ?_⟩
  have e0 : k.toNat = 0 := by omega
  rw [e0] at h2
  have := h.1
  simp at h2
  omega
theorem NearI.yes {T n k s : Int} {i : Nat} (h : NearI T n k i) (hi : i < 2) (hs : s = 2 ^ k.toNat) (hr : n + s ≤ T) : NearI T (n + s) k (i + 1) := by
  have hp : (0 : Int) < 2 ^ k.toNat := Int.pow_pos (by omega)
  unfold NearI at h ⊢
  rw [← hs] at hp
  simp only [← hs] at h ⊢
  obtain ⟨h1, h2, h3, h4⟩ := h
  refine ⟨hr, by omega, fun e => ?_, fun e => ?_⟩
  · have := h2 (by omega); omega
  · have := h3 (by omega); omega
theorem NearI.no {T n k s : Int} {i : Nat} (h : NearI T n k i) (hi : i < 2) (hs : s = 2 ^ k.toNat) (hr : ¬ n + s ≤ T) : NearI T n k (i + 1) := by
  have hp : (0 : Int) < 2 ^ k.toNat := Int.pow_pos (by omega)
  unfold NearI at h ⊢
  rw [← hs] at hp
  simp only [← hs] at h ⊢
  obtain ⟨h1, h2, h3, h4⟩ := h
  exact ⟨h1, by omega, fun e => by omega, fun e => by omega⟩
set_option maxRecDepth 100000 in
set_option maxHeartbeats 6400000 in
theorem qRound_w (s1 s2 s3 s4 s5 s6 : Bool) (A1 A2 A3 A4 A5 A6 : Option Addr) (n1 c1 n2 c2 n3 c3 n4 c4 n5 c5 n6 c6 : Nat) (r T : Int) (p : Int → Prop) [DecidablePred p] (w : World)
    (hC : ∀ w' m, Ext w w' → -9223372036854775808 ≤ m → m ≤ 9223372036854775807 → Calls Try.prog 26 #[pv s1 A1 n1 c1 s2 A2 n2 c2 s3 A3 n3 c3 s4 A4 n4 c4 s5 A5 n5 c5 s6 A6 n6 c6, .int .i64 r, .int .i64 m] w' fun e w'' => e = .returned (.bool (decide (p m))) ∧ Ext w' w'')
    (hT : Top p T) :
    Calls Try.prog 11 #[pv s1 A1 n1 c1 s2 A2 n2 c2 s3 A3 n3 c3 s4 A4 n4 c4 s5 A5 n5 c5 s6 A6 n6 c6, .int .i64 r] w fun e w' => e = .returned (.int .i64 T) ∧ Ext w w' := by
  have HC := Lib.hid hC; have HT := Lib.hid hT; clear hC hT
  have HB := Lib.hid (Blk.new w 28 #[.bool s1, .slice A1 n1 c1, .bool s2, .slice A2 n2 c2, .bool s3, .slice A3 n3 c3, .bool s4, .slice A4 n4 c4, .bool s5, .slice A5 n5 c5, .bool s6, .slice A6 n6 c6])
  have HW : Hid (Ext w (w.alloc (.cells #[.bool s1, .slice A1 n1 c1, .bool s2, .slice A2 n2 c2, .bool s3, .slice A3 n3 c3, .bool s4, .slice A4 n4 c4, .bool s5, .slice A5 n5 c5, .bool s6, .slice A6 n6 c6] 28))) := Lib.hid (Ext.new _ _)
  go_enter Try.func11, Try.ntmps11
  go_wp2_with fail
  generalize (w.alloc (.cells #[.bool s1, .slice A1 n1 c1, .bool s2, .slice A2 n2 c2, .bool s3, .slice A3 n3 c3, .bool s4, .slice A4 n4 c4, .bool s5, .slice A5 n5 c5, .bool s6, .slice A6 n6 c6] 28)) = w1 at HB HW ⊢
  generalize w.heap.size = g at HB ⊢
  go_loopw [5, 7] (fun nv kv wr => ∃ n k : Int, nv = .int .i64 n ∧ kv = .int .i64 k ∧ -1 ≤ k ∧ k ≤ 62 ∧ -4611686018427387904 ≤ n ∧ n ≤ 4611686018427387904 ∧ Hid (Near T n k) ∧ Ext w1 wr) (fun _ kv _ => (intOf kv + 1).toNat)
  case atStart =>
    refine ⟨-4611686018427387904, 62, rfl, rfl, by omega, by omega, by omega, by omega, Lib.hid ⟨HT.out.1, ?_, by omega⟩, Ext.refl _⟩
    have := HT.out.2.1
    have e : (2 : Int) ^ (62 + 1 : Int).toNat = 9223372036854775808 := by decide
    rw [e]; omega
  case round =>
    obtain ⟨n, k, rfl, rfl, k1, k2, b1, b2, hN, hex⟩ := hrel
    by_cases hk : 0 ≤ k
    · have d1 : decide (0 ≤ k) = true := by simpa using hk
      have e1 : (k.toNat : Int) = k := by omega
      obtain ⟨s, hs⟩ : ∃ s : Int, s = 2 ^ k.toNat := ⟨_, rfl⟩
      have hs1 : 1 ≤ s := by rw [hs]; exact Int.pow_pos (by omega)
      have hs2 : s ≤ 4611686018427387904 := by
        rw [hs]
        have : (2 : Int) ^ k.toNat ≤ 2 ^ 62 := by
          have h := Nat.pow_le_pow_right (n := 2) (by omega) (show k.toNat ≤ 62 by omega)
          have h' : ((2 ^ k.toNat : Nat) : Int) ≤ ((2 ^ 62 : Nat) : Int) := Int.ofNat_le.2 h
          simpa using h'
        exact this
      have e8 : wrap64 ((2 : Int) ^ k.toNat) = s := by rw [← hs]; exact IntWalk.wrap64_in _ (by omega)
      have HSS := Lib.hid hs; clear hs
      have HI := Lib.hid (hN.out.into hk); clear hN
      obtain ⟨wo, rfl⟩ : ∃ wo : World, wo = wr := ⟨_, rfl⟩
      clear e1
      go_wp2_with fail
      rw [e8]
      clear e8
      go_loopw [5, 9] (fun nv iv wr => ∃ (n : Int) (i : Nat), nv = .int .i64 n ∧ iv = .int .i64 (i : Int) ∧ i ≤ 2 ∧ -4611686018427387904 ≤ n ∧ n ≤ 4611686018427387904 ∧ Hid (NearI T n k i) ∧ Ext w1 wr) (fun _ iv _ => 2 - (intOf iv).toNat)
      case atStart => exact ⟨n, 0, rfl, rfl, by omega, b1, b2, HI, hex⟩
      case round =>
        clear HI b1 b2
        obtain ⟨n, i, rfl, rfl, hi, b1, b2, HI, hex⟩ := hrel
        by_cases hi2 : i < 2
        · have hd : decide ((i : Int) < 2) = true := by simp; omega
          have c0 := (Blk.ext HB.out hex).cell
          by_cases hle : n ≤ 4611686018427387904 - s
          · have d2 : decide (n ≤ 4611686018427387904 - s) = true := by simpa using hle
            have HP : Hid (p (n + s) ↔ n + s ≤ T) := Lib.hid (HT.out.2.2 (n + s) (by omega) (by omega))
            go_wp2_with fail
            refine (HC.out _ (n + s) (HW.out.trans hex) (by omega) (by omega)).mono ?_
            rintro e w2 ⟨rfl, hx2⟩
            by_cases hp : p (n + s)
            · have d3 : decide (p (n + s)) = true := by simpa using hp
              have HY := Lib.hid (HI.out.yes hi2 HSS.out (HP.out.1 hp)); clear hp
              rw [d3]
              clear d3
              go_wp2
              go_roundw
              case rel => exact ⟨n + s, i + 1, rfl, by go_num, by omega, by omega, by omega, HY, hex.trans hx2⟩
              case measure => simp [intOf] <;> omega
            · have d3 : decide (p (n + s)) = false := by simpa using hp
              have HY := Lib.hid (HI.out.no hi2 HSS.out (fun h => hp (HP.out.2 h))); clear hp
              rw [d3]
              clear d3
              go_wp2
              go_roundw
              case rel => exact ⟨n, i + 1, rfl, by go_num, by omega, b1, b2, HY, hex.trans hx2⟩
              case measure => simp [intOf] <;> omega
          · have d2 : decide (n ≤ 4611686018427387904 - s) = false := by simpa using hle
            have HY := Lib.hid (HI.out.no hi2 HSS.out (by have := HT.out.2.1; omega))
            go_wp2
            go_roundw
            case rel => exact ⟨n, i + 1, rfl, by go_num, by omega, b1, b2, HY, hex⟩
            case measure => simp [intOf] <;> omega
        · obtain rfl : i = 2 := by omega
          have HO := Lib.hid (HI.out.out hk)
          go_wp2
          go_roundw
          case rel => exact ⟨n, k - 1, rfl, rfl, by omega, by omega, b1, b2, HO, hex⟩
          case measure => simp [intOf] <;> omega
    · obtain rfl : k = -1 := by omega
      have HE := Lib.hid (hN.out.2.2 rfl)
      go_wp2
      go_ret
      exact ⟨ret_int HE.out.symm, HW.out.trans hex⟩
theorem qRound_ok (v : Value) (p : PQ) (k : Nat) (r N : Int) (w : World) (hX : PV w v p k) (hk : 4 * k + 266 ≤ 12800) (r1 : 1 ≤ r) (r2 : r ≤ 10000) (hN : Rd p r N) :
    Calls Try.prog 11 #[v, .int .i64 r] w fun e w' => e = .returned (.int .i64 (clamp N)) ∧ Ext w w' := by
  obtain ⟨a, b, d, x, y, z, hR, I, S, J, T⟩ := hX
  have hTop := top_clamp (hN a b d x y z I J)
  have hR' := hR
  obtain ⟨s1, A1, n1, c1, s2, A2, n2, c2, s3, A3, n3, c3, s4, A4, n4, c4, s5, A5, n5, c5, s6, A6, n6, c6, rfl, _⟩ := hR'
  exact qRound_w _ _ _ _ _ _ _ _ _ _ _ _ _ _ _ _ _ _ _ _ _ _ _ _ r (clamp N) (RZ a d x z r) w (fun w' m hx l u => qreaches_ok _ a b d x y z r m k w' (hR.ext hx) S T hk (by omega) (by omega) l u) hTop
end Go.Proofs.Ytjeijmnhbckjdaa
