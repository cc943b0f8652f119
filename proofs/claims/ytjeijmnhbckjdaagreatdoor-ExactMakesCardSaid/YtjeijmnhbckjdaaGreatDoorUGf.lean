/- The examples of the chapter. -/
import Derived.Test.YtjeijmnhbckjdaaGreatDoorUAn
import Derived.Test.YtjeijmnhbckjdaaGreatDoorUGe
import Derived.Test.YtjeijmnhbckjdaaGreatDoorUGb
import Derived.Test.YtjeijmnhbckjdaaGreatDoorUNI
import Derived.Test.YtjeijmnhbckjdaaGreatDoorUNH
namespace Go.Proofs.YtjeijmnhbckjdaaGreatDoor
open Go.RowKit
set_option linter.unusedVariables false

theorem qSame_q (v u : Value) (q q' : GQ) (m n : Nat) (w : World) (hX : GV w v q m) (hY : GV w u q' n) (h : q = q') :
    Calls Tryz.prog 13 #[v, u] w fun e w' => e = .returned (.bool true) ∧ Ext w w' := by subst h; exact qSame_eq v u q m n w hX hY
theorem qSamePhasor_q (v u : Value) (p p' : PQ) (m n : Nat) (w : World) (hX : PV w v p m) (hY : PV w u p' n) (h : p = p') :
    Calls Tryz.prog 20 #[v, u] w fun e w' => e = .returned (.bool true) ∧ Ext w w' := by subst h; exact qSamePhasor_eq v u p m n w hX hY
theorem Bd.frac {re im den : Int} (l0 : -9223372036854775808 ≤ re) (u0 : re ≤ 9223372036854775807) (l1 : -9223372036854775808 ≤ im) (u1 : im ≤ 9223372036854775807) (l2 : -9223372036854775808 ≤ den) (u2 : den ≤ 9223372036854775807) (hd : den ≠ 0) : Bd ⟨(re : Rat) / (den : Rat), (im : Rat) / (den : Rat)⟩ 64 :=
  Bd.of hd rfl rfl ⟨lt64 l0 u0, lt64 l1 u1, lt64 l2 u2⟩
/-- N is the real part of the phasor divided by r, rounded. -/
def Rd (p : PQ) (r N : Int) : Prop := ∀ a b d x y z, Is p.u a b d → Is p.v x y z → ∀ k, RZ a d x z r k ↔ k ≤ N
theorem Rd.of {p : PQ} {a b d x y z r N : Int} (I : Is p.u a b d) (J : Is p.v x y z) (h : ∀ k, RZ a d x z r k ↔ k ≤ N) : Rd p r N := by
  intro a' b' d' x' y' z' I' J'
  obtain ⟨rfl, rfl, rfl⟩ := I.unique I'
  obtain ⟨rfl, rfl, rfl⟩ := J.unique J'
  exact h
theorem Rd.unique {p : PQ} {r N N' : Int} (h : Rd p r N) (h' : Rd p r N') : N = N' := by
  obtain ⟨a, b, d, I⟩ := is_ex p.u
  obtain ⟨x, y, z, J⟩ := is_ex p.v
  have h1 := h a b d x y z I J
  have h2 := h' a b d x y z I J
  have e1 := (h1 N').1 ((h2 N').2 (Int.le_refl _))
  have e2 := (h2 N).1 ((h1 N).2 (Int.le_refl _))
  omega
theorem rz_down {a d x z r m k : Int} (hp : 0 < r * (d * z)) (h : RZ a d x z r m) (hk : k ≤ m) : RZ a d x z r k := by
  unfold RZ at *
  refine le3_down h ?_
  have e : (2 * m - 1) * r * (d * z) - 2 * (a * z) - ((2 * k - 1) * r * (d * z) - 2 * (a * z)) = 2 * ((m - k) * (r * (d * z))) := by grind
  have := Int.mul_nonneg (show 0 ≤ m - k by omega) (show 0 ≤ r * (d * z) by omega)
  omega
theorem Rd.at_ {a d x z r N : Int} (hp : 0 < r * (d * z)) (h1 : RZ a d x z r N) (h2 : ¬ RZ a d x z r (N + 1)) (k : Int) : RZ a d x z r k ↔ k ≤ N := by
  constructor
  · intro h
    rcases Int.lt_or_le N k with h3 | h3
    · exact absurd (rz_down hp h (by omega)) h2
    · exact h3
  · exact rz_down hp h1
instance (a d x z r n : Int) : Decidable (RZ a d x z r n) := by unfold RZ; infer_instance
theorem xRound_q (v : Value) (p : PQ) (n : Nat) (r N : Int) (w : World) (hX : PV w v p n) (h1 : 1 ≤ r) (h2 : r ≤ 10000) (hn : 4 * n + 80 ≤ 12800) (hN : Rd p r N) :
    Calls Tryz.prog 22 #[v, .int .i64 r] w fun e w' => e = .returned (.tuple #[.int .i64 (clamp N), .int .i64 0]) ∧ Ext w w' := by
  obtain ⟨a, b, d, x, y, z, hR, I, S, J, T⟩ := hX
  obtain ⟨N', h, hc⟩ := xRound_ok v p.u p.v a b d x y z r n w hR I S J T h1 h2 hn
  obtain rfl := hN.unique (Rd.of I J h)
  exact hc
theorem xRound_at (v : Value) (p : PQ) (n : Nat) (r N M : Int) (w : World) (hX : PV w v p n) (h1 : 1 ≤ r) (h2 : r ≤ 10000) (hn : 4 * n + 80 ≤ 12800) (hN : Rd p r N) (hM : clamp N = M) :
    Calls Tryz.prog 22 #[v, .int .i64 r] w fun e w' => e = .returned (.tuple #[.int .i64 M, .int .i64 0]) ∧ Ext w w' := by subst hM; exact xRound_q v p n r N w hX h1 h2 hn hN

theorem is_k1 : Is (⟨((2 : Int) : Rat) / ((-6 : Int) : Rat), ((-4 : Int) : Rat) / ((-6 : Int) : Rat)⟩ : GQ) (-1) 2 3 := by
  refine ⟨⟨by decide, by decide⟩, ?_, ?_⟩
  · show ((2 : Int) : Rat) / ((-6 : Int) : Rat) = ((-1 : Int) : Rat) / ((3 : Int) : Rat)
    simp only [Rat.intCast_neg, Rat.intCast_ofNat]; grind
  · show ((-4 : Int) : Rat) / ((-6 : Int) : Rat) = ((2 : Int) : Rat) / ((3 : Int) : Rat)
    simp only [Rat.intCast_neg, Rat.intCast_ofNat]; grind
theorem sz_k1 : Sz 64 (-1) 2 3 := ⟨by decide, by decide, by decide⟩
theorem one_zp1 : (⟨GQ.i 1 0, GQ.i 0 0⟩ : PQ) * PQ.zp 1 = PQ.mk4 0 (1/2) (1/2) 0 := by
  rw [show (⟨GQ.i 1 0, GQ.i 0 0⟩ : PQ) = PQ.one from rfl, PQ.mul_comm', PQ.mul_one', PQ.zp1]
theorem is_012 : Is (⟨0, 1/2⟩ : GQ) 0 1 2 := ⟨⟨by decide, by decide⟩, by show (0 : Rat) = ((0 : Int) : Rat) / ((2 : Int) : Rat); grind, by show (1/2 : Rat) = ((1 : Int) : Rat) / ((2 : Int) : Rat); grind⟩
theorem is_102 : Is (⟨1/2, 0⟩ : GQ) 1 0 2 := ⟨⟨by decide, by decide⟩, by show (1/2 : Rat) = ((1 : Int) : Rat) / ((2 : Int) : Rat); grind, by show (0 : Rat) = ((0 : Int) : Rat) / ((2 : Int) : Rat); grind⟩
theorem sz_012 : Sz 64 0 1 2 := ⟨by decide, by decide, by decide⟩
theorem sz_102 : Sz 64 1 0 2 := ⟨by decide, by decide, by decide⟩
theorem rd_k : Rd ((⟨GQ.i 1 0, GQ.i 0 0⟩ : PQ) * PQ.zp 1) 1 1 := by
  rw [one_zp1]
  exact Rd.of (p := PQ.mk4 0 (1/2) (1/2) 0) is_012 is_102 (Rd.at_ (by decide) (by decide) (by decide))
theorem gtx_k : gtx (-1) 2 3 = [45, 49, 43, 50, 105, 47, 51] := by kernel_rfl
theorem xText_k (v : Value) (q : GQ) (n : Nat) (w : World) (hX : GV w v q n) (hn : n ≤ 12800) (hTab : Tab w) (I : Is q (-1) 2 3) :
    Calls Tryz.prog 37 #[v] w fun e w' => e = .returned (.string ⟨#[45, 49, 43, 50, 105, 47, 51]⟩) ∧ Ext w w' := by
  have := xText_ok v q n w hX hn hTab I
  rwa [gtx_k] at this

set_option maxRecDepth 100000 in
set_option maxHeartbeats 6400000 in
theorem lxknown_ok  (w : World) (hTab : Tab w)
      :
    Calls Tryz.prog 12 #[] w fun e w' => e = .returned (.bool true) ∧ Ext w w' := by
  have hS := St.start w
  go_enter Tryz.func12, Tryz.ntmps12
  go_wp2_with fail
  refine (toTG (eOf_q (2) (-4) (-6) _ (by omega) (by omega) (by omega) (by omega) (by omega) (by omega) (by omega)) is_k1).mono ?_
  rintro e w1 ⟨v_, rfl, hv_, hx_⟩
  replace hS := hS.mv hx_
  clear hx_
  obtain ⟨_, rfl, s10a, A_10a, n10a, c10a, s10b, A_10b, n10b, c10b, s10d, A_10d, n10d, c10d, rfl, f_s10a, f_s10b, f_s10d⟩ := hv_
  replace hS := hS.addI f_s10a
  clear f_s10a
  replace hS := hS.addI f_s10b
  clear f_s10b
  replace hS := hS.addI f_s10d
  clear f_s10d
  have o1 : Own w w1.heap.size := Own.of hS.ext (by simp)
  have hT1 := (St.al hS 26 #[.bool false, .slice none 0 0, .bool false, .slice none 0 0, .bool false, .slice none 0 0] (g := w1.heap.size) (by simp))
  have k_1 := (hT1.blk 0 rfl).cell
  have k_2 := (hT1.blk 0 rfl).frozen
  go_wp2_with fail
  clear k_1 k_2
  clear hT1
  replace hS := (St.al hS 26 #[.bool s10a, .slice A_10a n10a c10a, .bool s10b, .slice A_10b n10b c10b, .bool s10d, .slice A_10d n10d c10d] (g := w1.heap.size) (by simp))
  generalize (w1.alloc (.cells #[.bool s10a, .slice A_10a n10a c10a, .bool s10b, .slice A_10b n10b c10b, .bool s10d, .slice A_10d n10d c10d] 26)) = w2 at hS ⊢
  generalize w1.heap.size = g1 at hS o1 ⊢
  refine (qInt_ok (1) (0) _ (by omega) (by omega) (by omega) (by omega)).mono ?_
  rintro e w3 ⟨v_, rfl, hv_, hx_⟩
  replace hS := hS.mv hx_
  clear hx_
  obtain ⟨s14a, A_14a, n14a, c14a, s14b, A_14b, n14b, c14b, s14d, A_14d, n14d, c14d, rfl, f_s14a, f_s14b, f_s14d⟩ := hv_
  replace hS := hS.addI f_s14a
  clear f_s14a
  replace hS := hS.addI f_s14b
  clear f_s14b
  replace hS := hS.addI f_s14d
  clear f_s14d
  go_wp2_with fail
  refine (toTP (xPlain_w _ (GQ.i (1) (0)) (64) _ ⟨_, _, _, RG.mk (hS.num 2 rfl) (hS.num 1 rfl) (hS.num 0 rfl), (is_i (1) (0)), (sz_i (by omega) (by omega) (by omega) (by omega))⟩ (by omega) (by omega)) (is_i (1) (0)) (is_i 0 0)).mono ?_
  rintro e w4 ⟨v_, rfl, hv_, hx_⟩
  replace hS := hS.mv hx_
  clear hx_
  obtain ⟨_, rfl, s15a, A_15a, n15a, c15a, s15b, A_15b, n15b, c15b, s15d, A_15d, n15d, c15d, s15x, A_15x, n15x, c15x, s15y, A_15y, n15y, c15y, s15z, A_15z, n15z, c15z, rfl, f_s15a, f_s15b, f_s15d, f_s15x, f_s15y, f_s15z⟩ := hv_
  replace hS := hS.addI f_s15a
  clear f_s15a
  replace hS := hS.addI f_s15b
  clear f_s15b
  replace hS := hS.addI f_s15d
  clear f_s15d
  replace hS := hS.addI f_s15x
  clear f_s15x
  replace hS := hS.addI f_s15y
  clear f_s15y
  replace hS := hS.addI f_s15z
  clear f_s15z
  have o3 : Own w w4.heap.size := Own.of hS.ext (by simp)
  have hT2 := (St.al hS 37 #[.bool false, .slice none 0 0, .bool false, .slice none 0 0, .bool false, .slice none 0 0, .bool false, .slice none 0 0, .bool false, .slice none 0 0, .bool false, .slice none 0 0] (g := w4.heap.size) (by simp))
  have k_3 := (hT2.blk 0 rfl).cell
  have k_4 := (hT2.blk 0 rfl).frozen
  have hT3 := (St.al hS 37 #[.bool s15a, .slice A_15a n15a c15a, .bool s15b, .slice A_15b n15b c15b, .bool s15d, .slice A_15d n15d c15d, .bool s15x, .slice A_15x n15x c15x, .bool s15y, .slice A_15y n15y c15y, .bool s15z, .slice A_15z n15z c15z] (g := w4.heap.size) (by simp))
  have k_5 := (hT3.blk 0 rfl).cell
  go_wp2_with fail
  clear k_3 k_4 k_5
  clear hT2 hT3
  replace hS := (St.al hS 37 #[.bool s15a, .slice A_15a n15a c15a, .bool s15b, .slice A_15b n15b c15b, .bool s15d, .slice A_15d n15d c15d, .bool s15x, .slice A_15x n15x c15x, .bool s15y, .slice A_15y n15y c15y, .bool s15z, .slice A_15z n15z c15z] (g := w4.heap.size) (by simp))
  generalize (w4.alloc (.cells #[.bool s15a, .slice A_15a n15a c15a, .bool s15b, .slice A_15b n15b c15b, .bool s15d, .slice A_15d n15d c15d, .bool s15x, .slice A_15x n15x c15x, .bool s15y, .slice A_15y n15y c15y, .bool s15z, .slice A_15z n15z c15z] 37)) = w5 at hS ⊢
  generalize w4.heap.size = g3 at hS o3 ⊢
  obtain ⟨z20a, z20b, z20d, I20u⟩ := is_ex (((⟨GQ.i (1) (0), (GQ.i 0 0)⟩ : PQ) * PQ.zp 1)).u
  obtain ⟨z20x, z20y, z20z, I20v⟩ := is_ex (((⟨GQ.i (1) (0), (GQ.i 0 0)⟩ : PQ) * PQ.zp 1)).v
  have S20u : Sz (2 * (64 + 2) + 69) z20a z20b z20d := (Bd.produ (p := (⟨GQ.i (1) (0), (GQ.i 0 0)⟩ : PQ)) (q := PQ.zp 1) (m := 64) (n := 2) ⟨_, _, _, (is_i (1) (0)), (sz_i (by omega) (by omega) (by omega) (by omega))⟩ ⟨_, _, _, (is_i 0 0), (sz_0 (n := 64) (by omega))⟩ (Bd.zp (by omega)).1 (Bd.zp (by omega)).2).sz I20u
  have S20v : Sz (2 * (64 + 2) + 69) z20x z20y z20z := (Bd.prodv (p := (⟨GQ.i (1) (0), (GQ.i 0 0)⟩ : PQ)) (q := PQ.zp 1) (m := 64) (n := 2) ⟨_, _, _, (is_i (1) (0)), (sz_i (by omega) (by omega) (by omega) (by omega))⟩ ⟨_, _, _, (is_i 0 0), (sz_0 (n := 64) (by omega))⟩ (Bd.zp (by omega)).1 (Bd.zp (by omega)).2).sz I20v
  refine (toTP (xTurn_ok _ (⟨GQ.i (1) (0), (GQ.i 0 0)⟩ : PQ) (64) (1) 1 _ ⟨_, _, _, _, _, _, RP.mk (hS.num 5 rfl) (hS.num 4 rfl) (hS.num 3 rfl) (hS.num 2 rfl) (hS.num 1 rfl) (hS.num 0 rfl), (is_i (1) (0)), (sz_i (by omega) (by omega) (by omega) (by omega)), (is_i 0 0), (sz_0 (n := 64) (by omega))⟩ (by omega) (by omega) (Lib.hid (show (1 : Int) % 12 = ((1 : Nat) : Int) by decide)).out (by omega)) I20u I20v).mono ?_
  rintro e w6 ⟨v_, rfl, hv_, hx_⟩
  replace hS := hS.mv hx_
  clear hx_
  obtain ⟨_, rfl, s20a, A_20a, n20a, c20a, s20b, A_20b, n20b, c20b, s20d, A_20d, n20d, c20d, s20x, A_20x, n20x, c20x, s20y, A_20y, n20y, c20y, s20z, A_20z, n20z, c20z, rfl, f_s20a, f_s20b, f_s20d, f_s20x, f_s20y, f_s20z⟩ := hv_
  replace hS := hS.addI f_s20a
  clear f_s20a
  replace hS := hS.addI f_s20b
  clear f_s20b
  replace hS := hS.addI f_s20d
  clear f_s20d
  replace hS := hS.addI f_s20x
  clear f_s20x
  replace hS := hS.addI f_s20y
  clear f_s20y
  replace hS := hS.addI f_s20z
  clear f_s20z
  have o5 : Own w w6.heap.size := Own.of hS.ext (by simp)
  have hT4 := (St.al hS 37 #[.bool false, .slice none 0 0, .bool false, .slice none 0 0, .bool false, .slice none 0 0, .bool false, .slice none 0 0, .bool false, .slice none 0 0, .bool false, .slice none 0 0] (g := w6.heap.size) (by simp))
  have k_6 := (hT4.blk 0 rfl).cell
  have k_7 := (hT4.blk 0 rfl).frozen
  have hT5 := (St.al hS 37 #[.bool s20a, .slice A_20a n20a c20a, .bool s20b, .slice A_20b n20b c20b, .bool s20d, .slice A_20d n20d c20d, .bool s20x, .slice A_20x n20x c20x, .bool s20y, .slice A_20y n20y c20y, .bool s20z, .slice A_20z n20z c20z] (g := w6.heap.size) (by simp))
  have k_8 := (hT5.blk 0 rfl).cell
  go_wp2_with fail
  clear k_6 k_7 k_8
  clear hT4 hT5
  replace hS := (St.al hS 37 #[.bool s20a, .slice A_20a n20a c20a, .bool s20b, .slice A_20b n20b c20b, .bool s20d, .slice A_20d n20d c20d, .bool s20x, .slice A_20x n20x c20x, .bool s20y, .slice A_20y n20y c20y, .bool s20z, .slice A_20z n20z c20z] (g := w6.heap.size) (by simp))
  generalize (w6.alloc (.cells #[.bool s20a, .slice A_20a n20a c20a, .bool s20b, .slice A_20b n20b c20b, .bool s20d, .slice A_20d n20d c20d, .bool s20x, .slice A_20x n20x c20x, .bool s20y, .slice A_20y n20y c20y, .bool s20z, .slice A_20z n20z c20z] 37)) = w7 at hS ⊢
  generalize w6.heap.size = g5 at hS o5 ⊢
  refine (xRound_at _ ((⟨GQ.i (1) (0), (GQ.i 0 0)⟩ : PQ) * PQ.zp 1) (2 * (64 + 2) + 69) (1) 1 1 _ ⟨_, _, _, _, _, _, RP.mk (hS.num 5 rfl) (hS.num 4 rfl) (hS.num 3 rfl) (hS.num 2 rfl) (hS.num 1 rfl) (hS.num 0 rfl), I20u, S20u, I20v, S20v⟩ (by omega) (by omega) (by omega) rd_k (by decide)).mono ?_
  rintro e w8 ⟨rfl, hx_⟩
  replace hS := hS.mv hx_
  clear hx_
  go_wp2_with fail
  have Y5 := ExtOf.blk (hS.blk 0 rfl)
  have Y1 := ExtOf.blk (hS.blk 2 rfl)
  have hE_ := hS.ext
  refine wp_region_tame 41 (hasF [(4, .any), (18, .any), (19, .any), (20, .any), (21, .any), (22, .any), (27, .any), (28, .any), (29, .any), (30, .any), (31, .any)]) (Fcs [(4, .eq (.string ⟨#[45, 49, 43, 50, 105, 47, 51]⟩)), (18, .ri ((0 : Int))), (19, .ri ((1 : Int))), (20, .ri ((2 : Int))), (21, .rg ((0 : Int)) ((1 : Int)) ((2 : Int))), (22, .eq (.bool true)), (27, .ri ((1 : Int))), (28, .ri ((0 : Int))), (29, .ri ((2 : Int))), (30, .rg ((1 : Int)) ((0 : Int)) ((2 : Int))), (31, .eq (.bool true))]) (Fcs_stab _) (by kernel_rfl) (by kernel_rfl) ?_
  simp only [List.take_succ_cons, List.take_zero, List.drop_succ_cons, List.drop_zero]
  refine wpT_quiet 4 (by rfl) (by kernel_rfl) ?_
  simp only [List.take_succ_cons, List.take_zero, List.drop_succ_cons, List.drop_zero]
  repeat (go_big_quiet_step (fail))
  refine wpQuiet_nil ?_
  refine wpT_eff (by rfl) (by rfl) (by rfl) ?_ ?_
  · intro W_ hK
    have hW := hK.1
    clear hK
    go_simp
    exact ⟨rfl, (xText_k _ (⟨((2 : Int) : Rat) / ((-6 : Int) : Rat), ((-4 : Int) : Rat) / ((-6 : Int) : Rat)⟩ : GQ) (64) _ ⟨_, _, _, RG.mk (RI.ext (hS.num 17 rfl) hW) (RI.ext (hS.num 16 rfl) hW) (RI.ext (hS.num 15 rfl) hW), is_k1, sz_k1⟩ (by omega) (tab_ext hTab (hE_.trans hW)) is_k1).mono fun e w' ⟨he, hx⟩ => ⟨_, he, hx, rfl⟩⟩
  intro v_ lo32 hi32 hr_
  obtain ⟨W_, hW_⟩ := hr_
  obtain rfl : v_ = .string ⟨#[45, 49, 43, 50, 105, 47, 51]⟩ := hW_.get
  clear hW_ W_
  try simp only [Act.put, List.setIfInBounds_toArray, List.set_cons_succ, List.set_cons_zero]
  refine wpT_quiet 13 (by rfl) (by kernel_rfl) ?_
  simp only [List.take_succ_cons, List.take_zero, List.drop_succ_cons, List.drop_zero]
  repeat (go_big_quiet_step (fail))
  refine wpQuiet_nil ?_
  refine wpT_eff (by rfl) (by rfl) (by rfl) ?_ ?_
  · intro W_ hK
    have hW := hK.1
    clear hK
    go_simp
    exact ⟨rfl, (qOf_ok (0) _ (by omega) (by omega)).mono fun e w' ⟨v, he, hR, hx⟩ => ⟨v, he, hx, hR⟩⟩
  intro v_ lo46 hi46 hr_
  obtain ⟨W_, hW_⟩ := hr_
  have hv_ : Fc.holds (.ri ((0 : Int))) lo46 hi46 v_ W_ := hW_.get
  clear hW_
  obtain ⟨s46, A_46, n46, c46, rfl, -⟩ := RI.opn hv_
  clear hv_
  clear W_
  try simp only [Act.put, List.setIfInBounds_toArray, List.set_cons_succ, List.set_cons_zero]
  refine wpT_eff (by rfl) (by rfl) (by rfl) ?_ ?_
  · intro W_ hK
    have hW := hK.1
    clear hK
    go_simp
    exact ⟨rfl, (qOf_ok (1) _ (by omega) (by omega)).mono fun e w' ⟨v, he, hR, hx⟩ => ⟨v, he, hx, hR⟩⟩
  intro v_ lo47 hi47 hr_
  obtain ⟨W_, hW_⟩ := hr_
  have hv_ : Fc.holds (.ri ((1 : Int))) lo47 hi47 v_ W_ := hW_.get
  clear hW_
  obtain ⟨s47, A_47, n47, c47, rfl, -⟩ := RI.opn hv_
  clear hv_
  clear W_
  try simp only [Act.put, List.setIfInBounds_toArray, List.set_cons_succ, List.set_cons_zero]
  refine wpT_eff (by rfl) (by rfl) (by rfl) ?_ ?_
  · intro W_ hK
    have hW := hK.1
    clear hK
    go_simp
    exact ⟨rfl, (qOf_ok (2) _ (by omega) (by omega)).mono fun e w' ⟨v, he, hR, hx⟩ => ⟨v, he, hx, hR⟩⟩
  intro v_ lo48 hi48 hr_
  obtain ⟨W_, hW_⟩ := hr_
  have hv_ : Fc.holds (.ri ((2 : Int))) lo48 hi48 v_ W_ := hW_.get
  clear hW_
  obtain ⟨s48, A_48, n48, c48, rfl, -⟩ := RI.opn hv_
  clear hv_
  clear W_
  try simp only [Act.put, List.setIfInBounds_toArray, List.set_cons_succ, List.set_cons_zero]
  refine wpT_eff (by rfl) (by rfl) (by rfl) ?_ ?_
  · intro W_ hK
    have hW := hK.1
    have F_s46 : RI W_ (iv s46 A_46 n46 c46) (0 : Int) := hK.2 18 ((iv s46 A_46 n46 c46), lo46, hi46) (by rfl) (anc_of (by kernel_rfl))
    have F_s47 : RI W_ (iv s47 A_47 n47 c47) (1 : Int) := hK.2 19 ((iv s47 A_47 n47 c47), lo47, hi47) (by rfl) (anc_of (by kernel_rfl))
    have F_s48 : RI W_ (iv s48 A_48 n48 c48) (2 : Int) := hK.2 20 ((iv s48 A_48 n48 c48), lo48, hi48) (by rfl) (anc_of (by kernel_rfl))
    clear hK
    go_simp
    exact ⟨rfl, (qMake_ok _ _ _ (0 : Int) (1 : Int) (2 : Int) (0 : Int) (1 : Int) (2 : Int) _ F_s46 F_s47 F_s48 (lt_lim64 (by omega) (by omega)) (lt_lim64 (by omega) (by omega)) (lt_lim64 (by omega) (by omega)) (by decide) (show ((0 : Int), (1 : Int), (2 : Int)) = nf 0 1 2 by decide)).mono fun e w' ⟨v, he, hR, hx⟩ => ⟨v, he, hx, hR⟩⟩
  intro v_ lo49 hi49 hr_
  obtain ⟨W_, hW_⟩ := hr_
  have hv_ : Fc.holds (.rg ((0 : Int)) ((1 : Int)) ((2 : Int))) lo49 hi49 v_ W_ := hW_.get
  clear hW_
  obtain ⟨s49a, A_49a, n49a, c49a, s49b, A_49b, n49b, c49b, s49d, A_49d, n49d, c49d, rfl, -, -, -⟩ := hv_
  clear W_
  try simp only [Act.put, List.setIfInBounds_toArray, List.set_cons_succ, List.set_cons_zero]
  refine wpT_eff (by rfl) (by rfl) (by rfl) ?_ ?_
  · intro W_ hK
    have hW := hK.1
    have F_s49a : RI W_ (iv s49a A_49a n49a c49a) (0 : Int) := RG.at1 (hK.2 21 ((gv s49a A_49a n49a c49a s49b A_49b n49b c49b s49d A_49d n49d c49d), lo49, hi49) (by rfl) (anc_of (by kernel_rfl)))
    have F_s49b : RI W_ (iv s49b A_49b n49b c49b) (1 : Int) := RG.at2 (hK.2 21 ((gv s49a A_49a n49a c49a s49b A_49b n49b c49b s49d A_49d n49d c49d), lo49, hi49) (by rfl) (anc_of (by kernel_rfl)))
    have F_s49d : RI W_ (iv s49d A_49d n49d c49d) (2 : Int) := RG.at3 (hK.2 21 ((gv s49a A_49a n49a c49a s49b A_49b n49b c49b s49d A_49d n49d c49d), lo49, hi49) (by rfl) (anc_of (by kernel_rfl)))
    clear hK
    go_simp
    exact ⟨rfl, (qSame_q _ _ (((⟨GQ.i (1) (0), (GQ.i 0 0)⟩ : PQ) * PQ.zp 1).u) (⟨0, 1/2⟩ : GQ) (2 * (64 + 2) + 69) (64) _ ⟨_, _, _, RG.mk (RI.ext (hS.num 5 rfl) hW) (RI.ext (hS.num 4 rfl) hW) (RI.ext (hS.num 3 rfl) hW), I20u, S20u⟩ ⟨_, _, _, RG.mk F_s49a F_s49b F_s49d, is_012, sz_012⟩ (congrArg PQ.u one_zp1)).mono fun e w' ⟨he, hx⟩ => ⟨_, he, hx, rfl⟩⟩
  intro v_ lo50 hi50 hr_
  obtain ⟨W_, hW_⟩ := hr_
  obtain rfl : v_ = .bool true := hW_.get
  clear hW_ W_
  try simp only [Act.put, List.setIfInBounds_toArray, List.set_cons_succ, List.set_cons_zero]
  refine wpT_quiet 4 (by rfl) (by kernel_rfl) ?_
  simp only [List.take_succ_cons, List.take_zero, List.drop_succ_cons, List.drop_zero]
  repeat (go_big_quiet_step (fail))
  refine wpQuiet_nil ?_
  refine wpT_eff (by rfl) (by rfl) (by rfl) ?_ ?_
  · intro W_ hK
    have hW := hK.1
    clear hK
    go_simp
    exact ⟨rfl, (qOf_ok (1) _ (by omega) (by omega)).mono fun e w' ⟨v, he, hR, hx⟩ => ⟨v, he, hx, hR⟩⟩
  intro v_ lo55 hi55 hr_
  obtain ⟨W_, hW_⟩ := hr_
  have hv_ : Fc.holds (.ri ((1 : Int))) lo55 hi55 v_ W_ := hW_.get
  clear hW_
  obtain ⟨s55, A_55, n55, c55, rfl, -⟩ := RI.opn hv_
  clear hv_
  clear W_
  try simp only [Act.put, List.setIfInBounds_toArray, List.set_cons_succ, List.set_cons_zero]
  refine wpT_eff (by rfl) (by rfl) (by rfl) ?_ ?_
  · intro W_ hK
    have hW := hK.1
    clear hK
    go_simp
    exact ⟨rfl, (qOf_ok (0) _ (by omega) (by omega)).mono fun e w' ⟨v, he, hR, hx⟩ => ⟨v, he, hx, hR⟩⟩
  intro v_ lo56 hi56 hr_
  obtain ⟨W_, hW_⟩ := hr_
  have hv_ : Fc.holds (.ri ((0 : Int))) lo56 hi56 v_ W_ := hW_.get
  clear hW_
  obtain ⟨s56, A_56, n56, c56, rfl, -⟩ := RI.opn hv_
  clear hv_
  clear W_
  try simp only [Act.put, List.setIfInBounds_toArray, List.set_cons_succ, List.set_cons_zero]
  refine wpT_eff (by rfl) (by rfl) (by rfl) ?_ ?_
  · intro W_ hK
    have hW := hK.1
    clear hK
    go_simp
    exact ⟨rfl, (qOf_ok (2) _ (by omega) (by omega)).mono fun e w' ⟨v, he, hR, hx⟩ => ⟨v, he, hx, hR⟩⟩
  intro v_ lo57 hi57 hr_
  obtain ⟨W_, hW_⟩ := hr_
  have hv_ : Fc.holds (.ri ((2 : Int))) lo57 hi57 v_ W_ := hW_.get
  clear hW_
  obtain ⟨s57, A_57, n57, c57, rfl, -⟩ := RI.opn hv_
  clear hv_
  clear W_
  try simp only [Act.put, List.setIfInBounds_toArray, List.set_cons_succ, List.set_cons_zero]
  refine wpT_eff (by rfl) (by rfl) (by rfl) ?_ ?_
  · intro W_ hK
    have hW := hK.1
    have F_s55 : RI W_ (iv s55 A_55 n55 c55) (1 : Int) := hK.2 27 ((iv s55 A_55 n55 c55), lo55, hi55) (by rfl) (anc_of (by kernel_rfl))
    have F_s56 : RI W_ (iv s56 A_56 n56 c56) (0 : Int) := hK.2 28 ((iv s56 A_56 n56 c56), lo56, hi56) (by rfl) (anc_of (by kernel_rfl))
    have F_s57 : RI W_ (iv s57 A_57 n57 c57) (2 : Int) := hK.2 29 ((iv s57 A_57 n57 c57), lo57, hi57) (by rfl) (anc_of (by kernel_rfl))
    clear hK
    go_simp
    exact ⟨rfl, (qMake_ok _ _ _ (1 : Int) (0 : Int) (2 : Int) (1 : Int) (0 : Int) (2 : Int) _ F_s55 F_s56 F_s57 (lt_lim64 (by omega) (by omega)) (lt_lim64 (by omega) (by omega)) (lt_lim64 (by omega) (by omega)) (by decide) (show ((1 : Int), (0 : Int), (2 : Int)) = nf 1 0 2 by decide)).mono fun e w' ⟨v, he, hR, hx⟩ => ⟨v, he, hx, hR⟩⟩
  intro v_ lo58 hi58 hr_
  obtain ⟨W_, hW_⟩ := hr_
  have hv_ : Fc.holds (.rg ((1 : Int)) ((0 : Int)) ((2 : Int))) lo58 hi58 v_ W_ := hW_.get
  clear hW_
  obtain ⟨s58a, A_58a, n58a, c58a, s58b, A_58b, n58b, c58b, s58d, A_58d, n58d, c58d, rfl, -, -, -⟩ := hv_
  clear W_
  try simp only [Act.put, List.setIfInBounds_toArray, List.set_cons_succ, List.set_cons_zero]
  refine wpT_eff (by rfl) (by rfl) (by rfl) ?_ ?_
  · intro W_ hK
    have hW := hK.1
    have F_s58a : RI W_ (iv s58a A_58a n58a c58a) (1 : Int) := RG.at1 (hK.2 30 ((gv s58a A_58a n58a c58a s58b A_58b n58b c58b s58d A_58d n58d c58d), lo58, hi58) (by rfl) (anc_of (by kernel_rfl)))
    have F_s58b : RI W_ (iv s58b A_58b n58b c58b) (0 : Int) := RG.at2 (hK.2 30 ((gv s58a A_58a n58a c58a s58b A_58b n58b c58b s58d A_58d n58d c58d), lo58, hi58) (by rfl) (anc_of (by kernel_rfl)))
    have F_s58d : RI W_ (iv s58d A_58d n58d c58d) (2 : Int) := RG.at3 (hK.2 30 ((gv s58a A_58a n58a c58a s58b A_58b n58b c58b s58d A_58d n58d c58d), lo58, hi58) (by rfl) (anc_of (by kernel_rfl)))
    clear hK
    go_simp
    exact ⟨rfl, (qSame_q _ _ (((⟨GQ.i (1) (0), (GQ.i 0 0)⟩ : PQ) * PQ.zp 1).v) (⟨1/2, 0⟩ : GQ) (2 * (64 + 2) + 69) (64) _ ⟨_, _, _, RG.mk (RI.ext (hS.num 2 rfl) hW) (RI.ext (hS.num 1 rfl) hW) (RI.ext (hS.num 0 rfl) hW), I20v, S20v⟩ ⟨_, _, _, RG.mk F_s58a F_s58b F_s58d, is_102, sz_102⟩ (congrArg PQ.v one_zp1)).mono fun e w' ⟨he, hx⟩ => ⟨_, he, hx, rfl⟩⟩
  intro v_ lo59 hi59 hr_
  obtain ⟨W_, hW_⟩ := hr_
  obtain rfl : v_ = .bool true := hW_.get
  clear hW_ W_
  try simp only [Act.put, List.setIfInBounds_toArray, List.set_cons_succ, List.set_cons_zero]
  refine wpT_quiet 9 (by rfl) (by kernel_rfl) ?_
  simp only [List.take_succ_cons, List.take_zero, List.drop_succ_cons, List.drop_zero]
  repeat (go_big_quiet_step (fail))
  refine wpQuiet_nil ?_
  refine wpT_nil ?_
  intro w9 hK
  have hlt_ := hS.lt
  replace hS := hS.mv hK.ext
  replace hS := hS.addI (show RI w9 (iv s46 A_46 n46 c46) (0 : Int) from hK.at_ 18 (e := ((iv s46 A_46 n46 c46), lo46, hi46)) (by rfl))
  replace hS := hS.addI (show RI w9 (iv s47 A_47 n47 c47) (1 : Int) from hK.at_ 19 (e := ((iv s47 A_47 n47 c47), lo47, hi47)) (by rfl))
  replace hS := hS.addI (show RI w9 (iv s48 A_48 n48 c48) (2 : Int) from hK.at_ 20 (e := ((iv s48 A_48 n48 c48), lo48, hi48)) (by rfl))
  replace hS := hS.addI (show RI w9 (iv s49a A_49a n49a c49a) (0 : Int) from RG.at1 (hK.at_ 21 (e := ((gv s49a A_49a n49a c49a s49b A_49b n49b c49b s49d A_49d n49d c49d), lo49, hi49)) (by rfl)))
  replace hS := hS.addI (show RI w9 (iv s49b A_49b n49b c49b) (1 : Int) from RG.at2 (hK.at_ 21 (e := ((gv s49a A_49a n49a c49a s49b A_49b n49b c49b s49d A_49d n49d c49d), lo49, hi49)) (by rfl)))
  replace hS := hS.addI (show RI w9 (iv s49d A_49d n49d c49d) (2 : Int) from RG.at3 (hK.at_ 21 (e := ((gv s49a A_49a n49a c49a s49b A_49b n49b c49b s49d A_49d n49d c49d), lo49, hi49)) (by rfl)))
  replace hS := hS.addI (show RI w9 (iv s55 A_55 n55 c55) (1 : Int) from hK.at_ 27 (e := ((iv s55 A_55 n55 c55), lo55, hi55)) (by rfl))
  replace hS := hS.addI (show RI w9 (iv s56 A_56 n56 c56) (0 : Int) from hK.at_ 28 (e := ((iv s56 A_56 n56 c56), lo56, hi56)) (by rfl))
  replace hS := hS.addI (show RI w9 (iv s57 A_57 n57 c57) (2 : Int) from hK.at_ 29 (e := ((iv s57 A_57 n57 c57), lo57, hi57)) (by rfl))
  replace hS := hS.addI (show RI w9 (iv s58a A_58a n58a c58a) (1 : Int) from RG.at1 (hK.at_ 30 (e := ((gv s58a A_58a n58a c58a s58b A_58b n58b c58b s58d A_58d n58d c58d), lo58, hi58)) (by rfl)))
  replace hS := hS.addI (show RI w9 (iv s58b A_58b n58b c58b) (0 : Int) from RG.at2 (hK.at_ 30 (e := ((gv s58a A_58a n58a c58a s58b A_58b n58b c58b s58d A_58d n58d c58d), lo58, hi58)) (by rfl)))
  replace hS := hS.addI (show RI w9 (iv s58d A_58d n58d c58d) (2 : Int) from RG.at3 (hK.at_ 30 (e := ((gv s58a A_58a n58a c58a s58b A_58b n58b c58b s58d A_58d n58d c58d), lo58, hi58)) (by rfl)))
  clear hK hlt_ hE_ Y5 Y1
  go_wp2
  go_ret
  exact ⟨ret_bool (rfl), hS.ext⟩

end Go.Proofs.YtjeijmnhbckjdaaGreatDoor
