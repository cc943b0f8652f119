/- Words and contracts that the laws share, several texts in one. -/
import Derived.Test.YtclkkoiaaddllaaGreatNB
import Derived.Test.YtclkkoiaaddllaaGreatMH
import Derived.Test.YtclkkoiaaddllaaGreatND
import Derived.Test.YtclkkoiaaddllaaGreatNG
/- Rounding down a multiple of the root of 3. -/
namespace Go.Proofs.YtclkkoiaaddllaaGreat
open Go.RowKit
set_option linter.unusedVariables false

theorem RI.lenne {w : World} {s : Bool} {A : Option Addr} {n c : Nat} {z : Int} (h : RI w (iv s A n c) z) (hz : z ≠ 0) : ((n : Int) == 0) = false := by
  obtain ⟨A', n', c', e, h'⟩ := h
  simp [iv] at e
  obtain ⟨_, _, rfl, _⟩ := e
  have := (digs_some h'.len).2 (by omega)
  simp
  omega
theorem RI.len0 {w : World} {s : Bool} {A : Option Addr} {n c : Nat} {z : Int} (h : RI w (iv s A n c) z) (hz : z = 0) : ((n : Int) == 0) = true := by
  obtain ⟨A', n', c', e, h'⟩ := h
  simp [iv] at e
  obtain ⟨_, _, rfl, _⟩ := e
  have := (digs_some h'.len)
  simp
  omega
theorem RI.sgn {w : World} {s : Bool} {A : Option Addr} {n c : Nat} {z : Int} (h : RI w (iv s A n c) z) : s = decide (z < 0) := by
  obtain ⟨A', n', c', e, h'⟩ := h
  simp [iv] at e
  exact e.1

set_option maxRecDepth 100000 in
set_option maxHeartbeats 1600000 in
theorem efloorRoot_z (gc : Nat) (v1 : Value) (x1 : Int) (w : World) (hc : Calm w gc) (hX1 : RI w v1 x1) (ax1 : x1.natAbs < lim) (H0 : Hid (x1 = 0))
      :
    Calls Tryz.prog 92 #[.pointer (some ⟨gc, 0, none⟩), v1] w fun e w' => ∃ v, e = .returned v ∧ RI w' v 0 ∧ Ext w w' := by
  have hS := St.start w
  obtain ⟨sx1, Ax1, nx1, cx1, rfl, hY1⟩ := hX1.opn
  replace hS := hS.addI hY1
  clear hX1 hY1
  replace hS := hS.addB hc trivial
  clear hc
  have t1 := RI.len0 (hS.num 0 rfl) H0.out
  have o3 : Own w w.heap.size := Own.of hS.ext (by simp)
  have o4 : Own w (w.heap.size + 1) := Own.of hS.ext (by simp)
  have hT1 := (St.al (St.al hS 30 #[.bool sx1, .slice Ax1 nx1 cx1] (g := w.heap.size) (by simp)) 30 #[.bool false, .slice none 0 0] (g := (w.heap.size + 1)) (by simp))
  have k_1 := (hT1.blk 1 rfl).cell
  have k_2 := (hT1.blk 0 rfl).cell
  have k_3 := (hT1.blk 0 rfl).frozen
  go_enter Tryz.func92, Tryz.ntmps92
  go_wp2
  replace hS := (St.al (St.al hS 30 #[.bool sx1, .slice Ax1 nx1 cx1] (g := w.heap.size) (by simp)) 30 #[.bool false, .slice none 0 0] (g := (w.heap.size + 1)) (by simp))
  exact bp_int1 rfl rfl rfl (hS.blk 0 rfl) ⟨_, rfl, (RI.zero _), hS.ext⟩

set_option maxRecDepth 100000 in
set_option maxHeartbeats 3200000 in
theorem efloorRoot_p (gc : Nat) (v1 : Value) (x1 : Int) (R26 a26_ : Nat) (w : World) (hc : Calm w gc) (hX1 : RI w v1 x1) (ax1 : x1.natAbs < lim) (H0 : Hid (0 < x1))
    (z16 : Int) (E16 : Hid (z16 = x1 * x1)) (A16 : z16.natAbs < lim)
    (z17 : Int) (E17 : Hid (z17 = z16 * (3))) (A17 : z17.natAbs < lim)
    (z26 : Int) (E26 : Hid (z26 = (R26 : Int))) (A26 : z26.natAbs < lim)
    (X26 : Hid (z17 = (a26_ : Int))) (Q26 : Hid (R26 * R26 ≤ a26_)) (T26 : Hid (a26_ < (R26 + 1) * (R26 + 1))) (B26 : Hid (a26_ < lim))  :
    Calls Tryz.prog 92 #[.pointer (some ⟨gc, 0, none⟩), v1] w fun e w' => ∃ v, e = .returned v ∧ RI w' v z26 ∧ Ext w w' := by
  have hS := St.start w
  obtain ⟨sx1, Ax1, nx1, cx1, rfl, hY1⟩ := hX1.opn
  replace hS := hS.addI hY1
  clear hX1 hY1
  replace hS := hS.addB hc trivial
  clear hc
  have t1 := RI.lenne (hS.num 0 rfl) (by have := H0.out; omega)
  have t2 : sx1 = false := by rw [RI.sgn (hS.num 0 rfl)]; have := H0.out; simp; omega
  subst t2
  have o3 : Own w w.heap.size := Own.of hS.ext (by simp)
  have o4 : Own w (w.heap.size + 1) := Own.of hS.ext (by simp)
  have hT1 := (St.al (St.al hS 30 #[.bool false, .slice Ax1 nx1 cx1] (g := w.heap.size) (by simp)) 30 #[.bool false, .slice none 0 0] (g := (w.heap.size + 1)) (by simp))
  have k_1 := (hT1.blk 1 rfl).cell
  go_enter Tryz.func92, Tryz.ntmps92
  go_wp2_with fail
  clear k_1
  clear hT1
  replace hS := (St.al (St.al hS 30 #[.bool false, .slice Ax1 nx1 cx1] (g := w.heap.size) (by simp)) 30 #[.bool false, .slice none 0 0] (g := (w.heap.size + 1)) (by simp))
  generalize ((w.alloc (.cells #[.bool false, .slice Ax1 nx1 cx1] 30)).alloc (.cells #[.bool false, .slice none 0 0] 30)) = w1 at hS ⊢
  generalize w.heap.size + 1 = g4 at hS o4 ⊢
  generalize w.heap.size = g3 at hS o3 ⊢
  refine (emul_ok gc _ _ x1 x1 z16 _ (hS.blk 2 rfl) (hS.num 0 rfl) (hS.num 0 rfl) ax1 ax1 E16.out A16).mono ?_
  rintro e w2 ⟨v_, rfl, hv_, hx_⟩
  replace hS := hS.mv hx_
  clear hx_
  obtain ⟨s16, A_16, n16, c16, rfl, f_s16⟩ := RI.opn hv_
  clear hv_
  replace hS := hS.addI f_s16
  clear f_s16
  go_wp2_with fail
  refine (escale_ok gc _ z16 (3) _ (hS.blk 2 rfl) (hS.num 0 rfl) A16 (by omega) (by omega) z17 E17 A17).mono ?_
  rintro e w3 ⟨v_, rfl, hv_, hx_⟩
  replace hS := hS.mv hx_
  clear hx_
  obtain ⟨s17, A_17, n17, c17, rfl, f_s17⟩ := RI.opn hv_
  clear hv_
  replace hS := hS.addI f_s17
  clear f_s17
  have o5 : Own w w3.heap.size := Own.of hS.ext (by simp)
  have hT2 := (St.al hS 30 #[.bool false, .slice none 0 0] (g := w3.heap.size) (by simp))
  have k_2 := (hT2.blk 0 rfl).cell
  have k_3 := (hT2.blk 0 rfl).frozen
  have hT3 := (St.al hS 30 #[.bool s17, .slice A_17 n17 c17] (g := w3.heap.size) (by simp))
  have k_4 := (hT3.blk 3 rfl).cell
  have k_5 := (hT3.blk 0 rfl).cell
  go_wp2_with fail
  clear k_2 k_3 k_4 k_5
  clear hT2 hT3
  replace hS := (St.al hS 30 #[.bool s17, .slice A_17 n17 c17] (g := w3.heap.size) (by simp))
  generalize (w3.alloc (.cells #[.bool s17, .slice A_17 n17 c17] 30)) = w4 at hS ⊢
  generalize w3.heap.size = g5 at hS o5 ⊢
  refine (Root_ok _ a26_ R26 z17 z26 _ (hS.num 0 rfl) X26.out B26.out Q26.out T26.out E26.out).mono ?_
  rintro e w5 ⟨v_, rfl, hv_, hx_⟩
  replace hS := hS.mv hx_
  clear hx_
  obtain ⟨_, rfl, hv1_⟩ := hv_
  obtain ⟨s26, A_26, n26, c26, rfl, f_s26⟩ := RI.opn hv1_
  clear hv1_
  replace hS := hS.addI f_s26
  clear f_s26
  go_wp2_with fail
  refine (keep_ok gc _ z26 _ (hS.blk 3 rfl) (hS.num 0 rfl)).mono ?_
  rintro e w6 ⟨v_, rfl, hv_, hx_⟩
  replace hS := hS.mv hx_
  clear hx_
  obtain ⟨s29, A_29, n29, c29, rfl, f_s29⟩ := RI.opn hv_
  clear hv_
  replace hS := hS.addI f_s29
  clear f_s29
  have o6 : Own w w6.heap.size := Own.of hS.ext (by simp)
  have hT4 := (St.al hS 30 #[.bool false, .slice none 0 0] (g := w6.heap.size) (by simp))
  have k_6 := (hT4.blk 0 rfl).cell
  have k_7 := (hT4.blk 0 rfl).frozen
  have hT5 := (St.al hS 30 #[.bool s29, .slice A_29 n29 c29] (g := w6.heap.size) (by simp))
  have k_8 := (hT5.blk 3 rfl).cell
  have k_9 := (hT5.blk 0 rfl).cell
  have k_10 := (hT5.blk 2 rfl).cell
  have k_11 := (hT5.blk 2 rfl).frozen
  go_wp2
  replace hS := (St.put (W' := (((w6.alloc (.cells #[.bool s29, .slice A_29 n29 c29] 30)).setCell ⟨g4, 0, none⟩ (.bool s29)).setCell ⟨g4, 1, none⟩ (.slice A_29 n29 c29))) (St.al hS 30 #[.bool s29, .slice A_29 n29 c29] (g := w6.heap.size) (by simp)) 2 0 [.bool s29, .slice A_29 n29 c29] (cs' := #[.bool s29, .slice A_29 n29 c29]) (bs' := _) rfl o4 rfl rfl (by kernel_rfl) rfl)
  exact bp_int1 rfl rfl rfl (hS.blk 2 rfl) ⟨_, rfl, (hS.num 0 rfl), hS.ext⟩

set_option maxRecDepth 100000 in
set_option maxHeartbeats 3200000 in
theorem efloorRoot_n (gc : Nat) (v1 : Value) (x1 : Int) (R26 a26_ : Nat) (w : World) (hc : Calm w gc) (hX1 : RI w v1 x1) (ax1 : x1.natAbs < lim) (H0 : Hid (x1 < 0))
    (z16 : Int) (E16 : Hid (z16 = x1 * x1)) (A16 : z16.natAbs < lim)
    (z17 : Int) (E17 : Hid (z17 = z16 * (3))) (A17 : z17.natAbs < lim)
    (z26 : Int) (E26 : Hid (z26 = (R26 : Int))) (A26 : z26.natAbs < lim)
    (X26 : Hid (z17 = (a26_ : Int))) (Q26 : Hid (R26 * R26 ≤ a26_)) (T26 : Hid (a26_ < (R26 + 1) * (R26 + 1))) (B26 : Hid (a26_ < lim))
    (z35 : Int) (E35 : Hid (z35 = -z26)) (A35 : z35.natAbs < lim)
    (z37 : Int) (E37 : Hid (z37 = z35 - (1 : Int))) (A37 : z37.natAbs < lim)  :
    Calls Tryz.prog 92 #[.pointer (some ⟨gc, 0, none⟩), v1] w fun e w' => ∃ v, e = .returned v ∧ RI w' v z37 ∧ Ext w w' := by
  have hS := St.start w
  obtain ⟨sx1, Ax1, nx1, cx1, rfl, hY1⟩ := hX1.opn
  replace hS := hS.addI hY1
  clear hX1 hY1
  replace hS := hS.addB hc trivial
  clear hc
  have t1 := RI.lenne (hS.num 0 rfl) (by have := H0.out; omega)
  have t2 : sx1 = true := by rw [RI.sgn (hS.num 0 rfl)]; have := H0.out; simp; omega
  subst t2
  have o3 : Own w w.heap.size := Own.of hS.ext (by simp)
  have o4 : Own w (w.heap.size + 1) := Own.of hS.ext (by simp)
  have hT1 := (St.al (St.al hS 30 #[.bool true, .slice Ax1 nx1 cx1] (g := w.heap.size) (by simp)) 30 #[.bool false, .slice none 0 0] (g := (w.heap.size + 1)) (by simp))
  have k_1 := (hT1.blk 1 rfl).cell
  go_enter Tryz.func92, Tryz.ntmps92
  go_wp2_with fail
  clear k_1
  clear hT1
  replace hS := (St.al (St.al hS 30 #[.bool true, .slice Ax1 nx1 cx1] (g := w.heap.size) (by simp)) 30 #[.bool false, .slice none 0 0] (g := (w.heap.size + 1)) (by simp))
  generalize ((w.alloc (.cells #[.bool true, .slice Ax1 nx1 cx1] 30)).alloc (.cells #[.bool false, .slice none 0 0] 30)) = w1 at hS ⊢
  generalize w.heap.size + 1 = g4 at hS o4 ⊢
  generalize w.heap.size = g3 at hS o3 ⊢
  refine (emul_ok gc _ _ x1 x1 z16 _ (hS.blk 2 rfl) (hS.num 0 rfl) (hS.num 0 rfl) ax1 ax1 E16.out A16).mono ?_
  rintro e w2 ⟨v_, rfl, hv_, hx_⟩
  replace hS := hS.mv hx_
  clear hx_
  obtain ⟨s16, A_16, n16, c16, rfl, f_s16⟩ := RI.opn hv_
  clear hv_
  replace hS := hS.addI f_s16
  clear f_s16
  go_wp2_with fail
  refine (escale_ok gc _ z16 (3) _ (hS.blk 2 rfl) (hS.num 0 rfl) A16 (by omega) (by omega) z17 E17 A17).mono ?_
  rintro e w3 ⟨v_, rfl, hv_, hx_⟩
  replace hS := hS.mv hx_
  clear hx_
  obtain ⟨s17, A_17, n17, c17, rfl, f_s17⟩ := RI.opn hv_
  clear hv_
  replace hS := hS.addI f_s17
  clear f_s17
  have o5 : Own w w3.heap.size := Own.of hS.ext (by simp)
  have hT2 := (St.al hS 30 #[.bool false, .slice none 0 0] (g := w3.heap.size) (by simp))
  have k_2 := (hT2.blk 0 rfl).cell
  have k_3 := (hT2.blk 0 rfl).frozen
  have hT3 := (St.al hS 30 #[.bool s17, .slice A_17 n17 c17] (g := w3.heap.size) (by simp))
  have k_4 := (hT3.blk 3 rfl).cell
  have k_5 := (hT3.blk 0 rfl).cell
  go_wp2_with fail
  clear k_2 k_3 k_4 k_5
  clear hT2 hT3
  replace hS := (St.al hS 30 #[.bool s17, .slice A_17 n17 c17] (g := w3.heap.size) (by simp))
  generalize (w3.alloc (.cells #[.bool s17, .slice A_17 n17 c17] 30)) = w4 at hS ⊢
  generalize w3.heap.size = g5 at hS o5 ⊢
  refine (Root_ok _ a26_ R26 z17 z26 _ (hS.num 0 rfl) X26.out B26.out Q26.out T26.out E26.out).mono ?_
  rintro e w5 ⟨v_, rfl, hv_, hx_⟩
  replace hS := hS.mv hx_
  clear hx_
  obtain ⟨_, rfl, hv1_⟩ := hv_
  obtain ⟨s26, A_26, n26, c26, rfl, f_s26⟩ := RI.opn hv1_
  clear hv1_
  replace hS := hS.addI f_s26
  clear f_s26
  go_wp2_with fail
  refine (keep_ok gc _ z26 _ (hS.blk 3 rfl) (hS.num 0 rfl)).mono ?_
  rintro e w6 ⟨v_, rfl, hv_, hx_⟩
  replace hS := hS.mv hx_
  clear hx_
  obtain ⟨s29, A_29, n29, c29, rfl, f_s29⟩ := RI.opn hv_
  clear hv_
  replace hS := hS.addI f_s29
  clear f_s29
  have o6 : Own w w6.heap.size := Own.of hS.ext (by simp)
  have hT4 := (St.al hS 30 #[.bool false, .slice none 0 0] (g := w6.heap.size) (by simp))
  have k_6 := (hT4.blk 0 rfl).cell
  have k_7 := (hT4.blk 0 rfl).frozen
  have hT5 := (St.al hS 30 #[.bool s29, .slice A_29 n29 c29] (g := w6.heap.size) (by simp))
  have k_8 := (hT5.blk 3 rfl).cell
  have k_9 := (hT5.blk 0 rfl).cell
  go_wp2_with fail
  clear k_6 k_7 k_8 k_9
  clear hT4 hT5
  replace hS := (St.al hS 30 #[.bool s29, .slice A_29 n29 c29] (g := w6.heap.size) (by simp))
  generalize (w6.alloc (.cells #[.bool s29, .slice A_29 n29 c29] 30)) = w7 at hS ⊢
  generalize w6.heap.size = g6 at hS o6 ⊢
  refine (eneg_ok gc _ z26 z35 _ (hS.blk 4 rfl) (hS.num 0 rfl) A26 E35.out).mono ?_
  rintro e w8 ⟨v_, rfl, hv_, hx_⟩
  replace hS := hS.mv hx_
  clear hx_
  obtain ⟨s35, A_35, n35, c35, rfl, f_s35⟩ := RI.opn hv_
  clear hv_
  replace hS := hS.addI f_s35
  clear f_s35
  go_wp2_with fail
  refine (Of_any (1) _ (by omega) (by omega)).mono ?_
  rintro e w9 ⟨v_, rfl, hv_, hx_⟩
  replace hS := hS.mv hx_
  clear hx_
  obtain ⟨s36, A_36, n36, c36, rfl, f_s36⟩ := RI.opn hv_
  clear hv_
  replace hS := hS.addI f_s36
  clear f_s36
  go_wp2_with fail
  refine (esub_ok gc _ _ z35 (1 : Int) z37 _ (hS.blk 4 rfl) (hS.num 1 rfl) (hS.num 0 rfl) A35 (lt_lim64 (by omega) (by omega)) E37.out A37).mono ?_
  rintro e w10 ⟨v_, rfl, hv_, hx_⟩
  replace hS := hS.mv hx_
  clear hx_
  obtain ⟨s37, A_37, n37, c37, rfl, f_s37⟩ := RI.opn hv_
  clear hv_
  replace hS := hS.addI f_s37
  clear f_s37
  have k_10 := (hS.blk 2 rfl).cell
  have k_11 := (hS.blk 2 rfl).frozen
  go_wp2
  replace hS := (St.put (W' := ((w10.setCell ⟨g4, 0, none⟩ (.bool s37)).setCell ⟨g4, 1, none⟩ (.slice A_37 n37 c37))) hS 2 0 [.bool s37, .slice A_37 n37 c37] (cs' := #[.bool s37, .slice A_37 n37 c37]) (bs' := _) rfl o4 rfl rfl (by kernel_rfl) rfl)
  exact bp_int1 rfl rfl rfl (hS.blk 2 rfl) ⟨_, rfl, (hS.num 0 rfl), hS.ext⟩

end Go.Proofs.YtclkkoiaaddllaaGreat

/- Rounding: bounds. -/
namespace Go.Proofs.YtclkkoiaaddllaaGreat
open Go.RowKit
set_option linter.unusedVariables false

theorem efloorRoot_ok (gc : Nat) (v : Value) (x t : Int) (w : World) (hc : Calm w gc) (hX : RI w v x) (n : Nat) (ax : x.natAbs < 2 ^ n) (hn : n + n + 3 ≤ 12800) (ht : IsFr x t) :
    Calls Tryz.prog 92 #[.pointer (some ⟨gc, 0, none⟩), v] w fun e w' => ∃ v, e = .returned v ∧ RI w' v t ∧ Ext w w' := by
  have al := lim_of ax (by omega)
  have b1 := lt_mul ax ax
  have b2 : (x * x * 3).natAbs < 2 ^ (n + n + 2) := lt_mul b1 (show (3 : Int).natAbs < 2 ^ 2 by decide)
  have nn : 0 ≤ x * x * 3 := by have := sq_nonneg' x; omega
  have hx3 : x * x * 3 = (((x * x * 3).natAbs : Nat) : Int) := by omega
  have rl : ∀ R : Nat, R * R ≤ (x * x * 3).natAbs → R < lim := by
    intro R h
    have h1 : R ≤ R * R := by
      rcases Nat.eq_zero_or_pos R with h | h
      · omega
      · exact Nat.le_mul_of_pos_left _ h
    exact Nat.lt_of_le_of_lt (Nat.le_trans h1 h) (lim_of b2 (by omega))
  rcases ht with ⟨h0, rfl⟩ | ⟨h0, h1, h2, h3⟩ | ⟨h0, R, h1, rfl, h2, h3⟩
  · exact efloorRoot_z gc v x w hc hX al (Lib.hid h0)
  · have e : t = ((t.toNat : Nat) : Int) := by omega
    have q1 : t.toNat * t.toNat ≤ (x * x * 3).natAbs := by
      have : ((t.toNat * t.toNat : Nat) : Int) ≤ (((x * x * 3).natAbs : Nat) : Int) := by rw [← hx3, Int.natCast_mul, ← e]; omega
      omega
    have q2 : (x * x * 3).natAbs < (t.toNat + 1) * (t.toNat + 1) := by
      have : (((x * x * 3).natAbs : Nat) : Int) < (((t.toNat + 1) * (t.toNat + 1) : Nat) : Int) := by rw [← hx3, Int.natCast_mul, Int.natCast_add, ← e]; push_cast; omega
      omega
    exact efloorRoot_p gc v x t.toNat (x * x * 3).natAbs w hc hX al (Lib.hid h0) _ (Lib.hid rfl) (lim_of b1 (by omega)) _ (Lib.hid rfl) (lim_of b2 (by omega)) t (Lib.hid e) (by have := rl _ q1; omega) (Lib.hid hx3) (Lib.hid q1) (Lib.hid q2) (Lib.hid (lim_of b2 (by omega)))
  · have e : R = ((R.toNat : Nat) : Int) := by omega
    have q1 : R.toNat * R.toNat ≤ (x * x * 3).natAbs := by
      have : ((R.toNat * R.toNat : Nat) : Int) ≤ (((x * x * 3).natAbs : Nat) : Int) := by rw [← hx3, Int.natCast_mul, ← e]; omega
      omega
    have q2 : (x * x * 3).natAbs < (R.toNat + 1) * (R.toNat + 1) := by
      have : (((x * x * 3).natAbs : Nat) : Int) < (((R.toNat + 1) * (R.toNat + 1) : Nat) : Int) := by rw [← hx3, Int.natCast_mul, Int.natCast_add, ← e]; push_cast; omega
      omega
    have rR := rl _ q1
    have r1 : R.natAbs < 2 ^ (n + n + 2) := by
      have h1 : R.toNat ≤ R.toNat * R.toNat := by
        rcases Nat.eq_zero_or_pos R.toNat with h | h
        · omega
        · exact Nat.le_mul_of_pos_left _ h
      omega
    have r2 : (-R - 1).natAbs < 2 ^ (n + n + 2 + 1) := lt_sub (by rw [Int.natAbs_neg]; exact r1) (show (1 : Int).natAbs < 2 ^ (n + n + 2) from Nat.one_lt_two_pow (by omega))
    exact efloorRoot_n gc v x R.toNat (x * x * 3).natAbs w hc hX al (Lib.hid h0) _ (Lib.hid rfl) (lim_of b1 (by omega)) _ (Lib.hid rfl) (lim_of b2 (by omega)) R (Lib.hid e) (by omega) (Lib.hid hx3) (Lib.hid q1) (Lib.hid q2) (Lib.hid (lim_of b2 (by omega))) _ (Lib.hid rfl) (by rw [Int.natAbs_neg]; omega) _ (Lib.hid rfl) (lim_of r2 (by omega))
theorem Small_yes (v : Value) (x : Int) (w : World) (hX : RI w v x) (ax : x.natAbs < lim) (h : -9223372036854775808 ≤ x ∧ x ≤ 9223372036854775807) :
    Calls Tryz.prog 130 #[v] w fun e w' => e = .returned (.tuple #[.int .i64 x, .bool true]) ∧ Ext w w' := by
  have := Small_ok v x w hX ax
  rwa [smallS_yes h] at this
theorem Small_no (v : Value) (x : Int) (w : World) (hX : RI w v x) (ax : x.natAbs < lim) (h : ¬ (-9223372036854775808 ≤ x ∧ x ≤ 9223372036854775807)) :
    Calls Tryz.prog 130 #[v] w fun e w' => e = .returned (.tuple #[.int .i64 0, .bool false]) ∧ Ext w w' := by
  have := Small_ok v x w hX ax
  rwa [smallS_no h] at this

set_option maxRecDepth 100000 in
set_option maxHeartbeats 1600000 in
theorem xbounded_s (v0 : Value) (x0 : Int) (w : World) (hX0 : RI w v0 x0) (ax0 : x0.natAbs < lim) (H0 : Hid (-9223372036854775808 ≤ x0 ∧ x0 ≤ 9223372036854775807))
      :
    Calls Tryz.prog 94 #[v0] w fun e w' => e = .returned (.int .i64 (clamp x0)) ∧ Ext w w' := by
  have hS := St.start w
  obtain ⟨sx0, Ax0, nx0, cx0, rfl, hY0⟩ := hX0.opn
  replace hS := hS.addI hY0
  clear hX0 hY0
  have o1 : Own w w.heap.size := Own.of hS.ext (by simp)
  have hT1 := (St.al hS 30 #[.bool sx0, .slice Ax0 nx0 cx0] (g := w.heap.size) (by simp))
  have k_1 := (hT1.blk 0 rfl).cell
  go_enter Tryz.func94, Tryz.ntmps94
  go_wp2_with fail
  clear k_1
  clear hT1
  replace hS := (St.al hS 30 #[.bool sx0, .slice Ax0 nx0 cx0] (g := w.heap.size) (by simp))
  generalize (w.alloc (.cells #[.bool sx0, .slice Ax0 nx0 cx0] 30)) = w1 at hS ⊢
  generalize w.heap.size = g1 at hS o1 ⊢
  refine (Small_yes _ x0 _ (hS.num 0 rfl) ax0 H0.out).mono ?_
  rintro e w2 ⟨rfl, hx_⟩
  replace hS := hS.mv hx_
  clear hx_
  go_wp2
  go_ret
  exact ⟨ret_int (rfl), hS.ext⟩

set_option maxRecDepth 100000 in
set_option maxHeartbeats 1600000 in
theorem xbounded_n (v0 : Value) (x0 : Int) (w : World) (hX0 : RI w v0 x0) (ax0 : x0.natAbs < lim) (H0 : Hid (x0 < -9223372036854775808))
      :
    Calls Tryz.prog 94 #[v0] w fun e w' => e = .returned (.int .i64 (-4611686018427387904)) ∧ Ext w w' := by
  have hS := St.start w
  obtain ⟨sx0, Ax0, nx0, cx0, rfl, hY0⟩ := hX0.opn
  replace hS := hS.addI hY0
  clear hX0 hY0
  have t2 : sx0 = true := by rw [RI.sgn (hS.num 0 rfl)]; have := H0.out; simp; omega
  subst t2
  have o1 : Own w w.heap.size := Own.of hS.ext (by simp)
  have hT1 := (St.al hS 30 #[.bool true, .slice Ax0 nx0 cx0] (g := w.heap.size) (by simp))
  have k_1 := (hT1.blk 0 rfl).cell
  go_enter Tryz.func94, Tryz.ntmps94
  go_wp2_with fail
  clear k_1
  clear hT1
  replace hS := (St.al hS 30 #[.bool true, .slice Ax0 nx0 cx0] (g := w.heap.size) (by simp))
  generalize (w.alloc (.cells #[.bool true, .slice Ax0 nx0 cx0] 30)) = w1 at hS ⊢
  generalize w.heap.size = g1 at hS o1 ⊢
  refine (Small_no _ x0 _ (hS.num 0 rfl) ax0 (by have := H0.out; omega)).mono ?_
  rintro e w2 ⟨rfl, hx_⟩
  replace hS := hS.mv hx_
  clear hx_
  have k_2 := (hS.blk 0 rfl).cell
  go_wp2
  go_ret
  exact ⟨ret_int (rfl), hS.ext⟩

set_option maxRecDepth 100000 in
set_option maxHeartbeats 1600000 in
theorem xbounded_p (v0 : Value) (x0 : Int) (w : World) (hX0 : RI w v0 x0) (ax0 : x0.natAbs < lim) (H0 : Hid (9223372036854775807 < x0))
      :
    Calls Tryz.prog 94 #[v0] w fun e w' => e = .returned (.int .i64 (4611686018427387904)) ∧ Ext w w' := by
  have hS := St.start w
  obtain ⟨sx0, Ax0, nx0, cx0, rfl, hY0⟩ := hX0.opn
  replace hS := hS.addI hY0
  clear hX0 hY0
  have t2 : sx0 = false := by rw [RI.sgn (hS.num 0 rfl)]; have := H0.out; simp; omega
  subst t2
  have o1 : Own w w.heap.size := Own.of hS.ext (by simp)
  have hT1 := (St.al hS 30 #[.bool false, .slice Ax0 nx0 cx0] (g := w.heap.size) (by simp))
  have k_1 := (hT1.blk 0 rfl).cell
  go_enter Tryz.func94, Tryz.ntmps94
  go_wp2_with fail
  clear k_1
  clear hT1
  replace hS := (St.al hS 30 #[.bool false, .slice Ax0 nx0 cx0] (g := w.heap.size) (by simp))
  generalize (w.alloc (.cells #[.bool false, .slice Ax0 nx0 cx0] 30)) = w1 at hS ⊢
  generalize w.heap.size = g1 at hS o1 ⊢
  refine (Small_no _ x0 _ (hS.num 0 rfl) ax0 (by have := H0.out; omega)).mono ?_
  rintro e w2 ⟨rfl, hx_⟩
  replace hS := hS.mv hx_
  clear hx_
  have k_2 := (hS.blk 0 rfl).cell
  go_wp2
  go_ret
  exact ⟨ret_int (rfl), hS.ext⟩

theorem xbounded_ok (v : Value) (x : Int) (w : World) (hX : RI w v x) (ax : x.natAbs < lim) :
    Calls Tryz.prog 94 #[v] w fun e w' => e = .returned (.int .i64 (clamp x)) ∧ Ext w w' := by
  by_cases h1 : x < -9223372036854775808
  · have := xbounded_n v x w hX ax (Lib.hid h1)
    rwa [show (-4611686018427387904 : Int) = clamp x by unfold clamp; omega] at this
  · by_cases h2 : 9223372036854775807 < x
    · have := xbounded_p v x w hX ax (Lib.hid h2)
      rwa [show (4611686018427387904 : Int) = clamp x by unfold clamp; omega] at this
    · exact xbounded_s v x w hX ax (Lib.hid ⟨by omega, by omega⟩)
end Go.Proofs.YtclkkoiaaddllaaGreat

/- Rounding: the walk. -/
namespace Go.Proofs.YtclkkoiaaddllaaGreat
open Go.RowKit
set_option linter.unusedVariables false

set_option maxRecDepth 100000 in
set_option maxHeartbeats 12800000 in
theorem xRound_w (v0 : Value) (x0a x0b x0d x0x x0y x0z : Int) (m1 : Int) (qu qv : GQ) (n0 : Nat) (w : World) (hX0 : RP w v0 x0a x0b x0d x0x x0y x0z) (ax0a : x0a.natAbs < lim) (ax0b : x0b.natAbs < lim) (ax0d : x0d.natAbs < lim) (ax0x : x0x.natAbs < lim) (ax0y : x0y.natAbs < lim) (ax0z : x0z.natAbs < lim) (l1 : -9223372036854775808 ≤ m1) (u1 : m1 ≤ 9223372036854775807) (I0u : Is qu x0a x0b x0d) (S0u : Sz n0 x0a x0b x0d) (I0v : Is qv x0x x0y x0z) (S0v : Sz n0 x0x x0y x0z) (hn0 : n0 ≤ 12800) (h1 : 1 ≤ m1) (h2 : m1 ≤ 10000)
    (z40 : Int) (E40 : Hid (z40 = (gcdL [x0d, x0z] : Nat))) (A40 : z40.natAbs < lim)
    (z45 : Int) (E45 : Hid (z45 = x0z / z40)) (A45 : z45.natAbs < lim)
    (N45 : Hid (z40 ≠ 0))
    (ND45 : Hid (z40 ∣ x0z))
    (z50 : Int) (E50 : Hid (z50 = x0d / z40)) (A50 : z50.natAbs < lim)
    (N50 : Hid (z40 ≠ 0))
    (ND50 : Hid (z40 ∣ x0d))
    (z55 : Int) (E55 : Hid (z55 = x0d * z45)) (A55 : z55.natAbs < lim)
    (z57 : Int) (E57 : Hid (z57 = z55 * (m1))) (A57 : z57.natAbs < lim)
    (z62 : Int) (E62 : Hid (z62 = x0a * z45)) (A62 : z62.natAbs < lim)
    (z63 : Int) (E63 : Hid (z63 = z62 * (2))) (A63 : z63.natAbs < lim)
    (z65 : Int) (E65 : Hid (z65 = z63 + z57)) (A65 : z65.natAbs < lim)
    (z70 : Int) (E70 : Hid (z70 = x0x * z50)) (A70 : z70.natAbs < lim)
    (z71 : Int) (E71 : Hid (z71 = z70 * (2))) (A71 : z71.natAbs < lim)
    (z72 : Int) (E72 : Hid (IsFr z71 z72)) (A72 : z72.natAbs < lim) (k72_ : Nat) (B72 : Hid (z71.natAbs < 2 ^ k72_)) (L72 : Hid (k72_ + k72_ + 3 ≤ 12800))
    (z75 : Int) (E75 : Hid (z75 = z65 + z72)) (A75 : z75.natAbs < lim)
    (z77 : Int) (E77 : Hid (z77 = z57 * (2))) (A77 : z77.natAbs < lim)
    (z86q : Int) (E86q : Hid (z86q = z75 / z77)) (A86q : z86q.natAbs < lim)
    (z86r : Int) (E86r : Hid (z86r = z75 % z77))
    (N86 : Hid (z77 ≠ 0))  :
    Calls Tryz.prog 55 #[v0, .int .i64 m1] w fun e w' => e = .returned (.tuple #[.int .i64 (clamp z86q), .int .i64 0]) ∧ Ext w w' := by
  have hS := St.start w
  obtain ⟨sx0a, Ax0a, nx0a, cx0a, sx0b, Ax0b, nx0b, cx0b, sx0d, Ax0d, nx0d, cx0d, sx0x, Ax0x, nx0x, cx0x, sx0y, Ax0y, nx0y, cx0y, sx0z, Ax0z, nx0z, cx0z, rfl, hx0a, hx0b, hx0d, hx0x, hx0y, hx0z⟩ := hX0
  replace hS := hS.addI hx0a
  clear hx0a
  replace hS := hS.addI hx0b
  clear hx0b
  replace hS := hS.addI hx0d
  clear hx0d
  replace hS := hS.addI hx0x
  clear hx0x
  replace hS := hS.addI hx0y
  clear hx0y
  replace hS := hS.addI hx0z
  clear hx0z
  have t1 : decide (m1 < 1) = false := by simp; omega
  have t2 : decide ((10000 : Int) < m1) = false := by simp; omega
  have o2 : Own w w.heap.size := Own.of hS.ext (by simp)
  have hT1 := (St.al hS 46 #[.bool sx0a, .slice Ax0a nx0a cx0a, .bool sx0b, .slice Ax0b nx0b cx0b, .bool sx0d, .slice Ax0d nx0d cx0d, .bool sx0x, .slice Ax0x nx0x cx0x, .bool sx0y, .slice Ax0y nx0y cx0y, .bool sx0z, .slice Ax0z nx0z cx0z] (g := w.heap.size) (by simp))
  have k_1 := (hT1.blk 0 rfl).cell
  have o22 : Own w (w.heap.size + 1) := Own.of hS.ext (by simp)
  go_enter Tryz.func55, Tryz.ntmps55
  go_wp2_with fail
  clear k_1
  clear hT1
  replace hS := (St.al (St.al hS 46 #[.bool sx0a, .slice Ax0a nx0a cx0a, .bool sx0b, .slice Ax0b nx0b cx0b, .bool sx0d, .slice Ax0d nx0d cx0d, .bool sx0x, .slice Ax0x nx0x cx0x, .bool sx0y, .slice Ax0y nx0y cx0y, .bool sx0z, .slice Ax0z nx0z cx0z] (g := w.heap.size) (by simp)) 32 #[.bool sx0a, .slice Ax0a nx0a cx0a, .bool sx0b, .slice Ax0b nx0b cx0b, .bool sx0d, .slice Ax0d nx0d cx0d, .bool sx0x, .slice Ax0x nx0x cx0x, .bool sx0y, .slice Ax0y nx0y cx0y, .bool sx0z, .slice Ax0z nx0z cx0z] (g := (w.heap.size + 1)) (by simp))
  generalize ((w.alloc (.cells #[.bool sx0a, .slice Ax0a nx0a cx0a, .bool sx0b, .slice Ax0b nx0b cx0b, .bool sx0d, .slice Ax0d nx0d cx0d, .bool sx0x, .slice Ax0x nx0x cx0x, .bool sx0y, .slice Ax0y nx0y cx0y, .bool sx0z, .slice Ax0z nx0z cx0z] 46)).alloc (.cells #[.bool sx0a, .slice Ax0a nx0a cx0a, .bool sx0b, .slice Ax0b nx0b cx0b, .bool sx0d, .slice Ax0d nx0d cx0d, .bool sx0x, .slice Ax0x nx0x cx0x, .bool sx0y, .slice Ax0y nx0y cx0y, .bool sx0z, .slice Ax0z nx0z cx0z] 32)) = w1 at hS ⊢
  generalize w.heap.size + 1 = g22 at hS o22 ⊢
  generalize w.heap.size = g2 at hS o2 ⊢
  refine (xvalid2_ok g22 qu qv n0 n0 _ (hS.blk 0 rfl) ⟨_, _, _, RG.mk (hS.num 5 rfl) (hS.num 4 rfl) (hS.num 3 rfl), I0u, S0u⟩ (by omega) ⟨_, _, _, RG.mk (hS.num 2 rfl) (hS.num 1 rfl) (hS.num 0 rfl), I0v, S0v⟩ (by omega)).mono ?_
  rintro e w2 ⟨rfl, hx_⟩
  replace hS := hS.mv hx_
  clear hx_
  have o6 : Own w w2.heap.size := Own.of hS.ext (by simp)
  have hT2 := (St.al hS 105 #[.int .i64 0] (g := w2.heap.size) (by simp))
  have k_2 := (hT2.blk 2 rfl).cell
  have o39 : Own w (w2.heap.size + 1) := Own.of hS.ext (by simp)
  go_wp2_with fail
  clear k_2
  clear hT2
  replace hS := (St.al (St.al hS 105 #[.int .i64 0] (g := w2.heap.size) (by simp)) 30 #[.bool sx0d, .slice Ax0d nx0d cx0d, .bool sx0z, .slice Ax0z nx0z cx0z] (g := (w2.heap.size + 1)) (by simp))
  generalize ((w2.alloc (.cells #[.int .i64 0] 105)).alloc (.cells #[.bool sx0d, .slice Ax0d nx0d cx0d, .bool sx0z, .slice Ax0z nx0z cx0z] 30)) = w3 at hS ⊢
  generalize w2.heap.size + 1 = g39 at hS o39 ⊢
  generalize w2.heap.size = g6 at hS o6 ⊢
  refine (egcd2_ok g6 g39 x0d x0z z40 _ (hS.blk 1 rfl) (hS.blk 0 rfl) (hS.num 3 rfl) (hS.num 0 rfl) ax0d ax0z E40).mono ?_
  rintro e w4 ⟨v_, rfl, hv_, hx_⟩
  replace hS := hS.mv hx_
  clear hx_
  obtain ⟨s40, A_40, n40, c40, rfl, f_s40⟩ := RI.opn hv_
  clear hv_
  replace hS := hS.addI f_s40
  clear f_s40
  have o7 : Own w w4.heap.size := Own.of hS.ext (by simp)
  have hT3 := (St.al hS 30 #[.bool false, .slice none 0 0] (g := w4.heap.size) (by simp))
  have k_3 := (hT3.blk 0 rfl).cell
  have k_4 := (hT3.blk 0 rfl).frozen
  go_wp2_with fail
  clear k_3 k_4
  clear hT3
  replace hS := (St.al hS 30 #[.bool s40, .slice A_40 n40 c40] (g := w4.heap.size) (by simp))
  generalize (w4.alloc (.cells #[.bool s40, .slice A_40 n40 c40] 30)) = w5 at hS ⊢
  generalize w4.heap.size = g7 at hS o7 ⊢
  have Y7 := ExtOf.blk (hS.blk 0 rfl)
  have Y2 := ExtOf.blk (hS.blk 4 rfl)
  have hE_ := hS.ext
  refine wp_region_tame 12 (hasF [(4, .any), (9, .any), (10, .any), (11, .any)]) (Fcs [(4, .ri (z45)), (9, .ri (z50)), (10, .box 30 #[.bool false, .slice none 0 0]), (11, .box 30 #[.bool false, .slice none 0 0])]) (Fcs_stab _) (by kernel_rfl) (by kernel_rfl) ?_
  simp only [List.take_succ_cons, List.take_zero, List.drop_succ_cons, List.drop_zero]
  refine wpT_quiet 4 (by rfl) (by kernel_rfl) ?_
  simp only [List.take_succ_cons, List.take_zero, List.drop_succ_cons, List.drop_zero]
  repeat (go_big_quiet_step (fail))
  refine wpQuiet_nil ?_
  refine wpT_eff (by rfl) (by rfl) (by rfl) ?_ ?_
  · intro W_ hK
    have hW := hK.1
    clear hK
    go_simp
    exact ⟨rfl, (ediv_ok g6 _ _ x0z z40 z45 _ (Blk.ext (hS.blk 2 rfl) hW) (RI.ext (hS.num 1 rfl) hW) (RI.ext (hS.num 0 rfl) hW) ax0z A40 N45.out ND45.out E45.out).mono fun e w' ⟨v, he, hR, hx⟩ => ⟨v, he, hx, hR⟩⟩
  intro v_ lo45 hi45 hr_
  obtain ⟨W_, hW_⟩ := hr_
  have hv_ : Fc.holds (.ri (z45)) lo45 hi45 v_ W_ := hW_.get
  clear hW_
  obtain ⟨s45, A_45, n45, c45, rfl, -⟩ := RI.opn hv_
  clear hv_
  clear W_
  try simp only [Act.put, List.setIfInBounds_toArray, List.set_cons_succ, List.set_cons_zero]
  refine wpT_quiet 4 (by rfl) (by kernel_rfl) ?_
  simp only [List.take_succ_cons, List.take_zero, List.drop_succ_cons, List.drop_zero]
  repeat (go_big_quiet_step (fail))
  refine wpQuiet_nil ?_
  refine wpT_eff (by rfl) (by rfl) (by rfl) ?_ ?_
  · intro W_ hK
    have hW := hK.1
    clear hK
    go_simp
    exact ⟨rfl, (ediv_ok g6 _ _ x0d z40 z50 _ (Blk.ext (hS.blk 2 rfl) hW) (RI.ext (hS.num 4 rfl) hW) (RI.ext (hS.num 0 rfl) hW) ax0d A40 N50.out ND50.out E50.out).mono fun e w' ⟨v, he, hR, hx⟩ => ⟨v, he, hx, hR⟩⟩
  intro v_ lo50 hi50 hr_
  obtain ⟨W_, hW_⟩ := hr_
  have hv_ : Fc.holds (.ri (z50)) lo50 hi50 v_ W_ := hW_.get
  clear hW_
  obtain ⟨s50, A_50, n50, c50, rfl, -⟩ := RI.opn hv_
  clear hv_
  clear W_
  try simp only [Act.put, List.setIfInBounds_toArray, List.set_cons_succ, List.set_cons_zero]
  refine wpT_eff (by rfl) (by rfl) (by rfl) ?_ ?_
  · intro W_ hK
    go_simp
    exact ⟨Ext.new _ _, rfl, by simp, Blk.new _ _ _⟩
  intro v_ g8 hi8 hr_
  obtain ⟨W_, hW_⟩ := hr_
  obtain ⟨rfl, hl8, -⟩ : Fc.holds (.box 30 #[.bool false, .slice none 0 0]) g8 hi8 v_ W_ := hW_.get
  clear hW_ W_
  try simp only [Act.put, List.setIfInBounds_toArray, List.set_cons_succ, List.set_cons_zero]
  refine wpT_eff (by rfl) (by rfl) (by rfl) ?_ ?_
  · intro W_ hK
    go_simp
    exact ⟨Ext.new _ _, rfl, by simp, Blk.new _ _ _⟩
  intro v_ g9 hi9 hr_
  obtain ⟨W_, hW_⟩ := hr_
  obtain ⟨rfl, hl9, -⟩ : Fc.holds (.box 30 #[.bool false, .slice none 0 0]) g9 hi9 v_ W_ := hW_.get
  clear hW_ W_
  try simp only [Act.put, List.setIfInBounds_toArray, List.set_cons_succ, List.set_cons_zero]
  refine wpT_nil ?_
  intro w6 hK
  have hlt_ := hS.lt
  replace hS := hS.mv hK.ext
  replace hS := hS.addI (show RI w6 (iv s45 A_45 n45 c45) z45 from hK.at_ 4 (e := ((iv s45 A_45 n45 c45), lo45, hi45)) (by rfl))
  replace hS := hS.addI (show RI w6 (iv s50 A_50 n50 c50) z50 from hK.at_ 9 (e := ((iv s50 A_50 n50 c50), lo50, hi50)) (by rfl))
  have lw8 : w5.heap.size ≤ g8 := hK.low 10 _ (by rfl)
  have o8 : Own w g8 := Own.of hE_ lw8
  replace hS := hS.addB (show Blk w6 g8 30 #[.bool false, .slice none 0 0] from (hK.at_ 10 (by rfl)).2.2) (apart_of fun p hp => Nat.ne_of_lt (Nat.lt_of_lt_of_le (hlt_ p hp) lw8))
  have lw9 : w5.heap.size ≤ g9 := hK.low 11 _ (by rfl)
  have o9 : Own w g9 := Own.of hE_ lw9
  replace hS := hS.addB (show Blk w6 g9 30 #[.bool false, .slice none 0 0] from (hK.at_ 11 (by rfl)).2.2) ⟨tame_ne hl8 hl9 (hK.disj 10 11 _ _ (by omega) (by rfl) (by rfl)), (apart_of fun p hp => Nat.ne_of_lt (Nat.lt_of_lt_of_le (hlt_ p hp) lw9))⟩
  clear hK hlt_ hE_ Y7 Y2
  clear lw8 hl8 hi8
  clear lw9 hl9 hi9
  have k_5 := (hS.blk 1 rfl).cell
  have k_6 := (hS.blk 1 rfl).frozen
  have hT4 := (St.put (W' := ((w6.setCell ⟨g8, 0, none⟩ (.bool s45)).setCell ⟨g8, 1, none⟩ (.slice A_45 n45 c45))) hS 1 0 [.bool s45, .slice A_45 n45 c45] (cs' := #[.bool s45, .slice A_45 n45 c45]) (bs' := _) rfl o8 rfl rfl (by kernel_rfl) rfl)
  have k_7 := (hT4.blk 0 rfl).cell
  have k_8 := (hT4.blk 0 rfl).frozen
  have hT5 := (St.put (W' := ((((w6.setCell ⟨g8, 0, none⟩ (.bool s45)).setCell ⟨g8, 1, none⟩ (.slice A_45 n45 c45)).setCell ⟨g9, 0, none⟩ (.bool s50)).setCell ⟨g9, 1, none⟩ (.slice A_50 n50 c50))) (St.put (W' := ((w6.setCell ⟨g8, 0, none⟩ (.bool s45)).setCell ⟨g8, 1, none⟩ (.slice A_45 n45 c45))) hS 1 0 [.bool s45, .slice A_45 n45 c45] (cs' := #[.bool s45, .slice A_45 n45 c45]) (bs' := _) rfl o8 rfl rfl (by kernel_rfl) rfl) 0 0 [.bool s50, .slice A_50 n50 c50] (cs' := #[.bool s50, .slice A_50 n50 c50]) (bs' := _) rfl o9 rfl rfl (by kernel_rfl) rfl)
  have k_9 := (hT5.blk 6 rfl).cell
  have k_10 := (hT5.blk 1 rfl).cell
  go_wp2_with fail
  clear k_5 k_6 k_7 k_8 k_9 k_10
  clear hT4 hT5
  replace hS := (St.put (W' := ((((w6.setCell ⟨g8, 0, none⟩ (.bool s45)).setCell ⟨g8, 1, none⟩ (.slice A_45 n45 c45)).setCell ⟨g9, 0, none⟩ (.bool s50)).setCell ⟨g9, 1, none⟩ (.slice A_50 n50 c50))) (St.put (W' := ((w6.setCell ⟨g8, 0, none⟩ (.bool s45)).setCell ⟨g8, 1, none⟩ (.slice A_45 n45 c45))) hS 1 0 [.bool s45, .slice A_45 n45 c45] (cs' := #[.bool s45, .slice A_45 n45 c45]) (bs' := _) rfl o8 rfl rfl (by kernel_rfl) rfl) 0 0 [.bool s50, .slice A_50 n50 c50] (cs' := #[.bool s50, .slice A_50 n50 c50]) (bs' := _) rfl o9 rfl rfl (by kernel_rfl) rfl)
  simp only [List.set_cons_zero, List.set_cons_succ] at hS
  generalize ((((w6.setCell ⟨g8, 0, none⟩ (.bool s45)).setCell ⟨g8, 1, none⟩ (.slice A_45 n45 c45)).setCell ⟨g9, 0, none⟩ (.bool s50)).setCell ⟨g9, 1, none⟩ (.slice A_50 n50 c50)) = w7 at hS ⊢
  refine (emul_ok g6 _ _ x0d z45 z55 _ (hS.blk 4 rfl) (hS.num 6 rfl) (hS.num 1 rfl) ax0d A45 E55.out A55).mono ?_
  rintro e w8 ⟨v_, rfl, hv_, hx_⟩
  replace hS := hS.mv hx_
  clear hx_
  obtain ⟨s55, A_55, n55, c55, rfl, f_s55⟩ := RI.opn hv_
  clear hv_
  replace hS := hS.addI f_s55
  clear f_s55
  go_wp2_with fail
  refine (escale_ok g6 _ z55 (m1) _ (hS.blk 4 rfl) (hS.num 0 rfl) A55 l1 u1 z57 E57 A57).mono ?_
  rintro e w9 ⟨v_, rfl, hv_, hx_⟩
  replace hS := hS.mv hx_
  clear hx_
  obtain ⟨s57, A_57, n57, c57, rfl, f_s57⟩ := RI.opn hv_
  clear hv_
  replace hS := hS.addI f_s57
  clear f_s57
  have o10 : Own w w9.heap.size := Own.of hS.ext (by simp)
  have hT6 := (St.al hS 30 #[.bool false, .slice none 0 0] (g := w9.heap.size) (by simp))
  have k_11 := (hT6.blk 0 rfl).cell
  have k_12 := (hT6.blk 0 rfl).frozen
  go_wp2_with fail
  clear k_11 k_12
  clear hT6
  replace hS := (St.al hS 30 #[.bool s57, .slice A_57 n57 c57] (g := w9.heap.size) (by simp))
  generalize (w9.alloc (.cells #[.bool s57, .slice A_57 n57 c57] 30)) = w10 at hS ⊢
  generalize w9.heap.size = g10 at hS o10 ⊢
  have Y10 := ExtOf.blk (hS.blk 0 rfl)
  have Y8 := ExtOf.blk (hS.blk 2 rfl)
  have Y2 := ExtOf.blk (hS.blk 7 rfl)
  have hE_ := hS.ext
  refine wp_region_tame 9 (hasF [(4, .any), (5, .any), (7, .any), (8, .any)]) (Fcs [(4, .ri (z62)), (5, .ri (z63)), (7, .ri (z65)), (8, .box 30 #[.bool false, .slice none 0 0])]) (Fcs_stab _) (by kernel_rfl) (by kernel_rfl) ?_
  simp only [List.take_succ_cons, List.take_zero, List.drop_succ_cons, List.drop_zero]
  refine wpT_quiet 4 (by rfl) (by kernel_rfl) ?_
  simp only [List.take_succ_cons, List.take_zero, List.drop_succ_cons, List.drop_zero]
  repeat (go_big_quiet_step (fail))
  refine wpQuiet_nil ?_
  refine wpT_eff (by rfl) (by rfl) (by rfl) ?_ ?_
  · intro W_ hK
    have hW := hK.1
    clear hK
    go_simp
    exact ⟨rfl, (emul_ok g6 _ _ x0a z45 z62 _ (Blk.ext (hS.blk 5 rfl) hW) (RI.ext (hS.num 10 rfl) hW) (RI.ext (hS.num 3 rfl) hW) ax0a A45 E62.out A62).mono fun e w' ⟨v, he, hR, hx⟩ => ⟨v, he, hx, hR⟩⟩
  intro v_ lo62 hi62 hr_
  obtain ⟨W_, hW_⟩ := hr_
  have hv_ : Fc.holds (.ri (z62)) lo62 hi62 v_ W_ := hW_.get
  clear hW_
  obtain ⟨s62, A_62, n62, c62, rfl, -⟩ := RI.opn hv_
  clear hv_
  clear W_
  try simp only [Act.put, List.setIfInBounds_toArray, List.set_cons_succ, List.set_cons_zero]
  refine wpT_eff (by rfl) (by rfl) (by rfl) ?_ ?_
  · intro W_ hK
    have hW := hK.1
    have F_s62 : RI W_ (iv s62 A_62 n62 c62) z62 := hK.2 4 ((iv s62 A_62 n62 c62), lo62, hi62) (by rfl) (by kernel_rfl)
    clear hK
    go_simp
    exact ⟨rfl, (escale_ok g6 _ z62 (2) _ (Blk.ext (hS.blk 5 rfl) hW) F_s62 A62 (by omega) (by omega) z63 E63 A63).mono fun e w' ⟨v, he, hR, hx⟩ => ⟨v, he, hx, hR⟩⟩
  intro v_ lo63 hi63 hr_
  obtain ⟨W_, hW_⟩ := hr_
  have hv_ : Fc.holds (.ri (z63)) lo63 hi63 v_ W_ := hW_.get
  clear hW_
  obtain ⟨s63, A_63, n63, c63, rfl, -⟩ := RI.opn hv_
  clear hv_
  clear W_
  try simp only [Act.put, List.setIfInBounds_toArray, List.set_cons_succ, List.set_cons_zero]
  refine wpT_quiet 1 (by rfl) (by kernel_rfl) ?_
  simp only [List.take_succ_cons, List.take_zero, List.drop_succ_cons, List.drop_zero]
  repeat (go_big_quiet_step (fail))
  refine wpQuiet_nil ?_
  refine wpT_eff (by rfl) (by rfl) (by rfl) ?_ ?_
  · intro W_ hK
    have hW := hK.1
    have F_s63 : RI W_ (iv s63 A_63 n63 c63) z63 := hK.2 5 ((iv s63 A_63 n63 c63), lo63, hi63) (by rfl) (by kernel_rfl)
    clear hK
    go_simp
    exact ⟨rfl, (eadd_ok g6 _ _ z63 z57 z65 _ (Blk.ext (hS.blk 5 rfl) hW) F_s63 (RI.ext (hS.num 0 rfl) hW) A63 A57 E65.out A65).mono fun e w' ⟨v, he, hR, hx⟩ => ⟨v, he, hx, hR⟩⟩
  intro v_ lo65 hi65 hr_
  obtain ⟨W_, hW_⟩ := hr_
  have hv_ : Fc.holds (.ri (z65)) lo65 hi65 v_ W_ := hW_.get
  clear hW_
  obtain ⟨s65, A_65, n65, c65, rfl, -⟩ := RI.opn hv_
  clear hv_
  clear W_
  try simp only [Act.put, List.setIfInBounds_toArray, List.set_cons_succ, List.set_cons_zero]
  refine wpT_eff (by rfl) (by rfl) (by rfl) ?_ ?_
  · intro W_ hK
    go_simp
    exact ⟨Ext.new _ _, rfl, by simp, Blk.new _ _ _⟩
  intro v_ g11 hi11 hr_
  obtain ⟨W_, hW_⟩ := hr_
  obtain ⟨rfl, hl11, -⟩ : Fc.holds (.box 30 #[.bool false, .slice none 0 0]) g11 hi11 v_ W_ := hW_.get
  clear hW_ W_
  try simp only [Act.put, List.setIfInBounds_toArray, List.set_cons_succ, List.set_cons_zero]
  refine wpT_nil ?_
  intro w11 hK
  have hlt_ := hS.lt
  replace hS := hS.mv hK.ext
  replace hS := hS.addI (show RI w11 (iv s62 A_62 n62 c62) z62 from hK.at_ 4 (e := ((iv s62 A_62 n62 c62), lo62, hi62)) (by rfl))
  replace hS := hS.addI (show RI w11 (iv s63 A_63 n63 c63) z63 from hK.at_ 5 (e := ((iv s63 A_63 n63 c63), lo63, hi63)) (by rfl))
  replace hS := hS.addI (show RI w11 (iv s65 A_65 n65 c65) z65 from hK.at_ 7 (e := ((iv s65 A_65 n65 c65), lo65, hi65)) (by rfl))
  have lw11 : w10.heap.size ≤ g11 := hK.low 8 _ (by rfl)
  have o11 : Own w g11 := Own.of hE_ lw11
  replace hS := hS.addB (show Blk w11 g11 30 #[.bool false, .slice none 0 0] from (hK.at_ 8 (by rfl)).2.2) (apart_of fun p hp => Nat.ne_of_lt (Nat.lt_of_lt_of_le (hlt_ p hp) lw11))
  clear hK hlt_ hE_ Y10 Y8 Y2
  clear lw11 hl11 hi11
  have k_13 := (hS.blk 0 rfl).cell
  have k_14 := (hS.blk 0 rfl).frozen
  have hT7 := (St.put (W' := ((w11.setCell ⟨g11, 0, none⟩ (.bool s65)).setCell ⟨g11, 1, none⟩ (.slice A_65 n65 c65))) hS 0 0 [.bool s65, .slice A_65 n65 c65] (cs' := #[.bool s65, .slice A_65 n65 c65]) (bs' := _) rfl o11 rfl rfl (by kernel_rfl) rfl)
  have k_15 := (hT7.blk 8 rfl).cell
  have k_16 := (hT7.blk 2 rfl).cell
  go_wp2_with fail
  clear k_13 k_14 k_15 k_16
  clear hT7
  replace hS := (St.put (W' := ((w11.setCell ⟨g11, 0, none⟩ (.bool s65)).setCell ⟨g11, 1, none⟩ (.slice A_65 n65 c65))) hS 0 0 [.bool s65, .slice A_65 n65 c65] (cs' := #[.bool s65, .slice A_65 n65 c65]) (bs' := _) rfl o11 rfl rfl (by kernel_rfl) rfl)
  simp only [List.set_cons_zero] at hS
  generalize ((w11.setCell ⟨g11, 0, none⟩ (.bool s65)).setCell ⟨g11, 1, none⟩ (.slice A_65 n65 c65)) = w12 at hS ⊢
  refine (emul_ok g6 _ _ x0x z50 z70 _ (hS.blk 6 rfl) (hS.num 10 rfl) (hS.num 5 rfl) ax0x A50 E70.out A70).mono ?_
  rintro e w13 ⟨v_, rfl, hv_, hx_⟩
  replace hS := hS.mv hx_
  clear hx_
  obtain ⟨s70, A_70, n70, c70, rfl, f_s70⟩ := RI.opn hv_
  clear hv_
  replace hS := hS.addI f_s70
  clear f_s70
  go_wp2_with fail
  refine (escale_ok g6 _ z70 (2) _ (hS.blk 6 rfl) (hS.num 0 rfl) A70 (by omega) (by omega) z71 E71 A71).mono ?_
  rintro e w14 ⟨v_, rfl, hv_, hx_⟩
  replace hS := hS.mv hx_
  clear hx_
  obtain ⟨s71, A_71, n71, c71, rfl, f_s71⟩ := RI.opn hv_
  clear hv_
  replace hS := hS.addI f_s71
  clear f_s71
  go_wp2_with fail
  refine (efloorRoot_ok g6 _ z71 z72 _ (hS.blk 6 rfl) (hS.num 0 rfl) k72_ B72.out L72.out E72.out).mono ?_
  rintro e w15 ⟨v_, rfl, hv_, hx_⟩
  replace hS := hS.mv hx_
  clear hx_
  obtain ⟨s72, A_72, n72, c72, rfl, f_s72⟩ := RI.opn hv_
  clear hv_
  replace hS := hS.addI f_s72
  clear f_s72
  have o12 : Own w w15.heap.size := Own.of hS.ext (by simp)
  have hT8 := (St.al hS 30 #[.bool false, .slice none 0 0] (g := w15.heap.size) (by simp))
  have k_17 := (hT8.blk 0 rfl).cell
  have k_18 := (hT8.blk 0 rfl).frozen
  go_wp2_with fail
  clear k_17 k_18
  clear hT8
  replace hS := (St.al hS 30 #[.bool s72, .slice A_72 n72 c72] (g := w15.heap.size) (by simp))
  generalize (w15.alloc (.cells #[.bool s72, .slice A_72 n72 c72] 30)) = w16 at hS ⊢
  generalize w15.heap.size = g12 at hS o12 ⊢
  have Y12 := ExtOf.blk (hS.blk 0 rfl)
  have Y11 := ExtOf.blk (hS.blk 1 rfl)
  have Y10 := ExtOf.blk (hS.blk 2 rfl)
  have hE_ := hS.ext
  refine wp_region_tame 7 (hasF [(2, .any), (4, .any), (5, .any), (6, .any)]) (Fcs [(2, .ri (z75)), (4, .ri (z77)), (5, .box 30 #[.bool false, .slice none 0 0]), (6, .box 30 #[.bool false, .slice none 0 0])]) (Fcs_stab _) (by kernel_rfl) (by kernel_rfl) ?_
  simp only [List.take_succ_cons, List.take_zero, List.drop_succ_cons, List.drop_zero]
  refine wpT_quiet 2 (by rfl) (by kernel_rfl) ?_
  simp only [List.take_succ_cons, List.take_zero, List.drop_succ_cons, List.drop_zero]
  repeat (go_big_quiet_step (fail))
  refine wpQuiet_nil ?_
  refine wpT_eff (by rfl) (by rfl) (by rfl) ?_ ?_
  · intro W_ hK
    have hW := hK.1
    clear hK
    go_simp
    exact ⟨rfl, (eadd_ok g6 _ _ z65 z72 z75 _ (Blk.ext (hS.blk 7 rfl) hW) (RI.ext (hS.num 3 rfl) hW) (RI.ext (hS.num 0 rfl) hW) A65 A72 E75.out A75).mono fun e w' ⟨v, he, hR, hx⟩ => ⟨v, he, hx, hR⟩⟩
  intro v_ lo75 hi75 hr_
  obtain ⟨W_, hW_⟩ := hr_
  have hv_ : Fc.holds (.ri (z75)) lo75 hi75 v_ W_ := hW_.get
  clear hW_
  obtain ⟨s75, A_75, n75, c75, rfl, -⟩ := RI.opn hv_
  clear hv_
  clear W_
  try simp only [Act.put, List.setIfInBounds_toArray, List.set_cons_succ, List.set_cons_zero]
  refine wpT_quiet 1 (by rfl) (by kernel_rfl) ?_
  simp only [List.take_succ_cons, List.take_zero, List.drop_succ_cons, List.drop_zero]
  repeat (go_big_quiet_step (fail))
  refine wpQuiet_nil ?_
  refine wpT_eff (by rfl) (by rfl) (by rfl) ?_ ?_
  · intro W_ hK
    have hW := hK.1
    clear hK
    go_simp
    exact ⟨rfl, (escale_ok g6 _ z57 (2) _ (Blk.ext (hS.blk 7 rfl) hW) (RI.ext (hS.num 6 rfl) hW) A57 (by omega) (by omega) z77 E77 A77).mono fun e w' ⟨v, he, hR, hx⟩ => ⟨v, he, hx, hR⟩⟩
  intro v_ lo77 hi77 hr_
  obtain ⟨W_, hW_⟩ := hr_
  have hv_ : Fc.holds (.ri (z77)) lo77 hi77 v_ W_ := hW_.get
  clear hW_
  obtain ⟨s77, A_77, n77, c77, rfl, -⟩ := RI.opn hv_
  clear hv_
  clear W_
  try simp only [Act.put, List.setIfInBounds_toArray, List.set_cons_succ, List.set_cons_zero]
  refine wpT_eff (by rfl) (by rfl) (by rfl) ?_ ?_
  · intro W_ hK
    go_simp
    exact ⟨Ext.new _ _, rfl, by simp, Blk.new _ _ _⟩
  intro v_ g13 hi13 hr_
  obtain ⟨W_, hW_⟩ := hr_
  obtain ⟨rfl, hl13, -⟩ : Fc.holds (.box 30 #[.bool false, .slice none 0 0]) g13 hi13 v_ W_ := hW_.get
  clear hW_ W_
  try simp only [Act.put, List.setIfInBounds_toArray, List.set_cons_succ, List.set_cons_zero]
  refine wpT_eff (by rfl) (by rfl) (by rfl) ?_ ?_
  · intro W_ hK
    go_simp
    exact ⟨Ext.new _ _, rfl, by simp, Blk.new _ _ _⟩
  intro v_ g14 hi14 hr_
  obtain ⟨W_, hW_⟩ := hr_
  obtain ⟨rfl, hl14, -⟩ : Fc.holds (.box 30 #[.bool false, .slice none 0 0]) g14 hi14 v_ W_ := hW_.get
  clear hW_ W_
  try simp only [Act.put, List.setIfInBounds_toArray, List.set_cons_succ, List.set_cons_zero]
  refine wpT_nil ?_
  intro w17 hK
  have hlt_ := hS.lt
  replace hS := hS.mv hK.ext
  replace hS := hS.addI (show RI w17 (iv s75 A_75 n75 c75) z75 from hK.at_ 2 (e := ((iv s75 A_75 n75 c75), lo75, hi75)) (by rfl))
  replace hS := hS.addI (show RI w17 (iv s77 A_77 n77 c77) z77 from hK.at_ 4 (e := ((iv s77 A_77 n77 c77), lo77, hi77)) (by rfl))
  have lw13 : w16.heap.size ≤ g13 := hK.low 5 _ (by rfl)
  have o13 : Own w g13 := Own.of hE_ lw13
  replace hS := hS.addB (show Blk w17 g13 30 #[.bool false, .slice none 0 0] from (hK.at_ 5 (by rfl)).2.2) (apart_of fun p hp => Nat.ne_of_lt (Nat.lt_of_lt_of_le (hlt_ p hp) lw13))
  have lw14 : w16.heap.size ≤ g14 := hK.low 6 _ (by rfl)
  have o14 : Own w g14 := Own.of hE_ lw14
  replace hS := hS.addB (show Blk w17 g14 30 #[.bool false, .slice none 0 0] from (hK.at_ 6 (by rfl)).2.2) ⟨tame_ne hl13 hl14 (hK.disj 5 6 _ _ (by omega) (by rfl) (by rfl)), (apart_of fun p hp => Nat.ne_of_lt (Nat.lt_of_lt_of_le (hlt_ p hp) lw14))⟩
  clear hK hlt_ hE_ Y12 Y11 Y10
  clear lw13 hl13 hi13
  clear lw14 hl14 hi14
  have k_19 := (hS.blk 1 rfl).cell
  have k_20 := (hS.blk 1 rfl).frozen
  have hT9 := (St.put (W' := ((w17.setCell ⟨g13, 0, none⟩ (.bool s75)).setCell ⟨g13, 1, none⟩ (.slice A_75 n75 c75))) hS 1 0 [.bool s75, .slice A_75 n75 c75] (cs' := #[.bool s75, .slice A_75 n75 c75]) (bs' := _) rfl o13 rfl rfl (by kernel_rfl) rfl)
  have k_21 := (hT9.blk 0 rfl).cell
  have k_22 := (hT9.blk 0 rfl).frozen
  have hT10 := (St.put (W' := ((((w17.setCell ⟨g13, 0, none⟩ (.bool s75)).setCell ⟨g13, 1, none⟩ (.slice A_75 n75 c75)).setCell ⟨g14, 0, none⟩ (.bool s77)).setCell ⟨g14, 1, none⟩ (.slice A_77 n77 c77))) (St.put (W' := ((w17.setCell ⟨g13, 0, none⟩ (.bool s75)).setCell ⟨g13, 1, none⟩ (.slice A_75 n75 c75))) hS 1 0 [.bool s75, .slice A_75 n75 c75] (cs' := #[.bool s75, .slice A_75 n75 c75]) (bs' := _) rfl o13 rfl rfl (by kernel_rfl) rfl) 0 0 [.bool s77, .slice A_77 n77 c77] (cs' := #[.bool s77, .slice A_77 n77 c77]) (bs' := _) rfl o14 rfl rfl (by kernel_rfl) rfl)
  have k_23 := (hT10.blk 9 rfl).cell
  have k_24 := (hT10.blk 1 rfl).cell
  have k_25 := (hT10.blk 0 rfl).cell
  go_wp2_with fail
  clear k_19 k_20 k_21 k_22 k_23 k_24 k_25
  clear hT9 hT10
  replace hS := (St.put (W' := ((((w17.setCell ⟨g13, 0, none⟩ (.bool s75)).setCell ⟨g13, 1, none⟩ (.slice A_75 n75 c75)).setCell ⟨g14, 0, none⟩ (.bool s77)).setCell ⟨g14, 1, none⟩ (.slice A_77 n77 c77))) (St.put (W' := ((w17.setCell ⟨g13, 0, none⟩ (.bool s75)).setCell ⟨g13, 1, none⟩ (.slice A_75 n75 c75))) hS 1 0 [.bool s75, .slice A_75 n75 c75] (cs' := #[.bool s75, .slice A_75 n75 c75]) (bs' := _) rfl o13 rfl rfl (by kernel_rfl) rfl) 0 0 [.bool s77, .slice A_77 n77 c77] (cs' := #[.bool s77, .slice A_77 n77 c77]) (bs' := _) rfl o14 rfl rfl (by kernel_rfl) rfl)
  simp only [List.set_cons_zero, List.set_cons_succ] at hS
  generalize ((((w17.setCell ⟨g13, 0, none⟩ (.bool s75)).setCell ⟨g13, 1, none⟩ (.slice A_75 n75 c75)).setCell ⟨g14, 0, none⟩ (.bool s77)).setCell ⟨g14, 1, none⟩ (.slice A_77 n77 c77)) = w18 at hS ⊢
  refine (Divide_in _ _ z75 z77 z86q z86r _ (hS.num 1 rfl) (hS.num 0 rfl) A75 A77 N86.out E86q.out E86r.out).mono ?_
  rintro e w19 ⟨v_, rfl, hv_, hx_⟩
  replace hS := hS.mv hx_
  clear hx_
  obtain ⟨_, _, rfl, hv1_, hv2_⟩ := hv_
  obtain ⟨s86a, A_86a, n86a, c86a, rfl, f_s86a⟩ := RI.opn hv1_
  obtain ⟨s86b, A_86b, n86b, c86b, rfl, f_s86b⟩ := RI.opn hv2_
  clear hv1_ hv2_
  replace hS := hS.addI f_s86a
  clear f_s86a
  replace hS := hS.addI f_s86b
  clear f_s86b
  have o15 : Own w w19.heap.size := Own.of hS.ext (by simp)
  have o16 : Own w (w19.heap.size + 1) := Own.of hS.ext (by simp)
  have hT11 := (St.al (St.al hS 30 #[.bool false, .slice none 0 0] (g := w19.heap.size) (by simp)) 30 #[.bool false, .slice none 0 0] (g := (w19.heap.size + 1)) (by simp))
  have k_26 := (hT11.blk 1 rfl).cell
  have k_27 := (hT11.blk 1 rfl).frozen
  have hT12 := (St.al (St.al hS 30 #[.bool s86a, .slice A_86a n86a c86a] (g := w19.heap.size) (by simp)) 30 #[.bool false, .slice none 0 0] (g := (w19.heap.size + 1)) (by simp))
  have k_28 := (hT12.blk 0 rfl).cell
  have k_29 := (hT12.blk 0 rfl).frozen
  have hT13 := (St.al (St.al hS 30 #[.bool s86a, .slice A_86a n86a c86a] (g := w19.heap.size) (by simp)) 30 #[.bool s86b, .slice A_86b n86b c86b] (g := (w19.heap.size + 1)) (by simp))
  have k_30 := (hT13.blk 1 rfl).cell
  go_wp2_with fail
  clear k_26 k_27 k_28 k_29 k_30
  clear hT11 hT12 hT13
  replace hS := (St.al (St.al hS 30 #[.bool s86a, .slice A_86a n86a c86a] (g := w19.heap.size) (by simp)) 30 #[.bool s86b, .slice A_86b n86b c86b] (g := (w19.heap.size + 1)) (by simp))
  generalize ((w19.alloc (.cells #[.bool s86a, .slice A_86a n86a c86a] 30)).alloc (.cells #[.bool s86b, .slice A_86b n86b c86b] 30)) = w20 at hS ⊢
  generalize w19.heap.size + 1 = g16 at hS o16 ⊢
  generalize w19.heap.size = g15 at hS o15 ⊢
  refine (xbounded_ok _ z86q _ (hS.num 1 rfl) A86q).mono ?_
  rintro e w21 ⟨rfl, hx_⟩
  replace hS := hS.mv hx_
  clear hx_
  go_wp2
  go_ret2
  exact ⟨rfl, hS.ext⟩

end Go.Proofs.YtclkkoiaaddllaaGreat

/- Rounding: what it says. -/
namespace Go.Proofs.YtclkkoiaaddllaaGreat
open Go.RowKit
set_option linter.unusedVariables false

/-- n is reached: n ≤ r / ratio + 1/2. -/
def RZ (a d b e r n : Int) : Prop := Le3 ((2 * n - 1) * r * (d * e) - 2 * (a * e)) (2 * (b * d))
theorem isFr_ex (x : Int) : ∃ t, IsFr x t ∧ t.natAbs ≤ 2 * x.natAbs + 1 := by
  obtain ⟨R, h1, h2⟩ := root_ex (3 * (x * x)).natAbs
  have hp : 0 ≤ 3 * (x * x) := by have := sq_nonneg' x; omega
  have i1 : (R : Int) * (R : Int) ≤ 3 * (x * x) := by
    have : ((R * R : Nat) : Int) ≤ ((3 * (x * x)).natAbs : Nat) := Int.ofNat_le.2 h1
    rw [Int.natCast_mul] at this
    omega
  have i2 : 3 * (x * x) < ((R : Int) + 1) * ((R : Int) + 1) := by
    have : ((3 * (x * x)).natAbs : Int) < (((R + 1) * (R + 1) : Nat) : Int) := Int.ofNat_lt.2 h2
    rw [Int.natCast_mul, Int.natCast_add] at this
    have e : (((3 * (x * x)).natAbs : Nat) : Int) = 3 * (x * x) := by omega
    rw [e] at this
    exact this
  have hb : (R : Int) ≤ 2 * (x.natAbs : Int) := by
    rcases Int.lt_or_le (2 * (x.natAbs : Int)) (R : Int) with h | h
    · have q := sq_lt (a := 2 * (x.natAbs : Int)) (b := (R : Int)) (by omega) h
      have e : 2 * (x.natAbs : Int) * (2 * (x.natAbs : Int)) = 4 * (x * x) := by
        have : (x.natAbs : Int) * (x.natAbs : Int) = x * x := by rw [← Int.natCast_mul, Int.natAbs_mul_self]
        grind
      have := sq_nonneg' x
      omega
    · exact h
  rcases Int.lt_trichotomy x 0 with h | h | h
  · exact ⟨-(R : Int) - 1, .inr (.inr ⟨h, R, by omega, rfl, i1, i2⟩), by omega⟩
  · exact ⟨0, .inl ⟨h, rfl⟩, by omega⟩
  · exact ⟨R, .inr (.inl ⟨h, by omega, i1, i2⟩), by omega⟩
theorem ediv_abs {a b : Int} (hb : 0 < b) : (a / b).natAbs ≤ a.natAbs := by
  rcases Int.lt_or_le a 0 with h | h
  · have h1 : a ≤ a / b := (Int.le_ediv_iff_mul_le hb).2 (by have := Int.mul_le_mul_of_nonpos_left (a := a) (b := b) (c := 1) (by omega) (by omega); omega)
    have h2 : a / b < 0 := Int.ediv_neg_of_neg_of_pos h hb
    omega
  · have h1 : a / b ≤ a := Int.ediv_le_self b h
    have h2 : 0 ≤ a / b := Int.ediv_nonneg h (by omega)
    omega
theorem round_iff {a d b e r g l t f n N : Int} (hg : 0 < g) (el : e = g * l) (et : d = g * t) (hr : 0 < r) (hd : 0 < d) (hl : 0 < l) (hf : IsFr (b * t * 2) f) (hN : N = (a * l * 2 + d * l * r + f) / (d * l * r * 2)) : RZ a d b e r n ↔ n ≤ N := by
  have hden : 0 < d * l * r := Int.mul_pos (Int.mul_pos hd hl) hr
  rw [hN, Int.le_ediv_iff_mul_le (by omega)]
  have e1 : n * (d * l * r * 2) ≤ a * l * 2 + d * l * r + f ↔ n * (d * l * r * 2) - a * l * 2 - d * l * r ≤ f := by omega
  rw [e1, le_fr hf, ← le3_scale hg]
  unfold RZ
  have e2 : (2 * n - 1) * r * (d * e) - 2 * (a * e) = g * (n * (d * l * r * 2) - a * l * 2 - d * l * r) := by rw [el]; grind
  have e3 : 2 * (b * d) = g * (b * t * 2) := by rw [et]; grind
  rw [e2, e3]
end Go.Proofs.YtclkkoiaaddllaaGreat

/- Rounding: the contract of Round. -/
namespace Go.Proofs.YtclkkoiaaddllaaGreat
open Go.RowKit
set_option linter.unusedVariables false

theorem xRound_ok (v : Value) (qu qv : GQ) (a b d a' b' d' r : Int) (n : Nat) (w : World) (hX : RP w v a b d a' b' d') (I : Is qu a b d) (S : Sz n a b d) (J : Is qv a' b' d') (T : Sz n a' b' d') (h1 : 1 ≤ r) (h2 : r ≤ 10000) (hn : 4 * n + 80 ≤ 12800) :
    ∃ N, (∀ k, RZ a d a' d' r k ↔ k ≤ N) ∧ Calls Tryz.prog 55 #[v, .int .i64 r] w fun e w' => e = .returned (.tuple #[.int .i64 (clamp N), .int .i64 0]) ∧ Ext w w' := by
  obtain ⟨g, t, l, hg, hg0, et, el⟩ := gcd2_facts (a := d) (b := d') J.dne
  have hgp : 0 < g := by rw [hg] at hg0 ⊢; omega
  have hd := I.low.1
  have hd' := J.low.1
  have hl : 0 < l := by
    rcases Int.lt_or_le 0 l with h | h
    · exact h
    · have := Int.mul_nonpos_of_nonneg_of_nonpos (a := g) (b := l) (by omega) h; omega
  obtain ⟨f, hf, hfb⟩ := isFr_ex (a' * t * 2)
  have bl := lt_div hg0 el T.d
  have bt := lt_div hg0 et S.d
  have bg := lt_fac I.dne et S.d
  have br : r.natAbs < 2 ^ 64 := lt64 (by omega) (by omega)
  have b2 : (2 : Int).natAbs < 2 ^ 2 := by decide
  have m1 := lt_mul S.d bl
  have m2 := lt_mul m1 br
  have m3 := lt_mul S.a bl
  have m4 := lt_mul m3 b2
  have m5 := lt_add (lt_up m4 (n := n + n + 64) (by omega)) m2
  have m6 := lt_mul T.a bt
  have m7 := lt_mul m6 b2
  have m8 : f.natAbs < 2 ^ (n + n + 65) := by
    have e1 : (2 : Nat) ^ (n + n + 4) = 2 ^ (n + n + 2) * 4 := by rw [show n + n + 4 = n + n + 2 + 2 by omega, Nat.pow_add]
    have e2 : (2 : Nat) ^ (n + n + 4) ≤ 2 ^ (n + n + 65) := Nat.pow_le_pow_right (by omega) (by omega)
    have e3 : 0 < (2 : Nat) ^ (n + n + 2) := Nat.pow_pos (by omega)
    omega
  have m9 := lt_add m5 m8
  have m10 := lt_mul m2 b2
  have hden : 0 < d * l * r * 2 := by have := Int.mul_pos (Int.mul_pos hd hl) (show 0 < r by omega); omega
  have m11 : ((a * l * 2 + d * l * r + f) / (d * l * r * 2)).natAbs < 2 ^ (n + n + 65 + 1) := Nat.lt_of_le_of_lt (ediv_abs hden) m9
  refine ⟨(a * l * 2 + d * l * r + f) / (d * l * r * 2), fun k => round_iff hgp el et (by omega) hd hl hf rfl, ?_⟩
  obtain ⟨s1, s2, s3⟩ := S.lims (by omega)
  obtain ⟨t1, t2, t3⟩ := T.lims (by omega)
  exact xRound_w v a b d a' b' d' r qu qv n w hX s1 s2 s3 t1 t2 t3 (by omega) (by omega) I S J T (by omega) h1 h2 g (Lib.hid hg) (lim_of bg (by omega)) l (Lib.hid (div_of hg0 el)) (lim_of bl (by omega)) (Lib.hid hg0) (Lib.hid ⟨_, el⟩) t (Lib.hid (div_of hg0 et)) (lim_of bt (by omega)) (Lib.hid hg0) (Lib.hid ⟨_, et⟩)
    _ (Lib.hid rfl) (lim_of m1 (by omega)) _ (Lib.hid rfl) (lim_of m2 (by omega)) _ (Lib.hid rfl) (lim_of m3 (by omega)) _ (Lib.hid rfl) (lim_of m4 (by omega)) _ (Lib.hid rfl) (lim_of m5 (by omega))
    _ (Lib.hid rfl) (lim_of m6 (by omega)) _ (Lib.hid rfl) (lim_of m7 (by omega)) f (Lib.hid hf) (lim_of m8 (by omega)) (n + n + 2) (Lib.hid m7) (Lib.hid (by omega)) _ (Lib.hid rfl) (lim_of m9 (by omega)) _ (Lib.hid rfl) (lim_of m10 (by omega))
    _ (Lib.hid rfl) (lim_of m11 (by omega)) _ (Lib.hid rfl) (Lib.hid (by omega))
end Go.Proofs.YtclkkoiaaddllaaGreat
