/- Words and contracts that the laws share, several texts in one. -/
import Derived.Test.YtjeijmnhbckjdaaGreatDoorQNBlpfp
import Derived.Test.YtjeijmnhbckjdaaGreatDoorQMHlfcg
import Derived.Test.YtjeijmnhbckjdaaGreatDoorQNDdhli
import Derived.Test.YtjeijmnhbckjdaaGreatDoorQNGodjj
/- Rounding down a multiple of the root of 3. -/
namespace Go.Proofs.YtjeijmnhbckjdaaGreatDoor
open Go.RowKit
set_option linter.unusedVariables false

theorem RI.lenne {w : World} {s : Bool} {A : Option Addr} {n c : Nat} {z : Int} (h : RI w (iv s A n c) z) (hz : z ≠ 0) : ((n : Int) == 0) = false := by
  obtain ⟨A', n', c', e, h'⟩ := h
  simp [iv] at e
  obtain ⟨_, _, rfl, _⟩ := e
  have := (digs_some h'.len).2 (by omega)
  simp
  omega
theorem RI.len0 {w : World} {s : Bool} {A : Option Addr} {n c : Nat} {z : Int} (h : RI w (iv s A n c) z) (hz : z = 0) : ((n : Int) == 0) = true := by
  obtain ⟨A', n', c', e, h'⟩ := h
  simp [iv] at e
  obtain ⟨_, _, rfl, _⟩ := e
  have := (digs_some h'.len)
  simp
  omega
theorem RI.sgn {w : World} {s : Bool} {A : Option Addr} {n c : Nat} {z : Int} (h : RI w (iv s A n c) z) : s = decide (z < 0) := by
  obtain ⟨A', n', c', e, h'⟩ := h
  simp [iv] at e
  exact e.1

set_option maxRecDepth 100000 in
set_option maxHeartbeats 1600000 in
theorem efloorRoot_z (gc : Nat) (v1 : Value) (x1 : Int) (w : World) (hc : Calm w gc) (hX1 : RI w v1 x1) (ax1 : x1.natAbs < lim) (H0 : Hid (x1 = 0))
      :
    Calls Tryz.prog 72 #[.pointer (some ⟨gc, 0, none⟩), v1] w fun e w' => ∃ v, e = .returned v ∧ RI w' v 0 ∧ Ext w w' := by
  have hS := St.start w
  obtain ⟨sx1, Ax1, nx1, cx1, rfl, hY1⟩ := hX1.opn
  replace hS := hS.addI hY1
  clear hX1 hY1
  replace hS := hS.addB hc trivial
  clear hc
  have t1 := RI.len0 (hS.num 0 rfl) H0.out
  have o3 : Own w w.heap.size := Own.of hS.ext (by simp)
  have o4 : Own w (w.heap.size + 1) := Own.of hS.ext (by simp)
  have hT1 := (St.al (St.al hS 24 #[.bool sx1, .slice Ax1 nx1 cx1] (g := w.heap.size) (by simp)) 24 #[.bool false, .slice none 0 0] (g := (w.heap.size + 1)) (by simp))
  have k_1 := (hT1.blk 1 rfl).cell
  have k_2 := (hT1.blk 0 rfl).cell
  have k_3 := (hT1.blk 0 rfl).frozen
  go_enter Tryz.func72, Tryz.ntmps72
  go_wp2
  replace hS := (St.al (St.al hS 24 #[.bool sx1, .slice Ax1 nx1 cx1] (g := w.heap.size) (by simp)) 24 #[.bool false, .slice none 0 0] (g := (w.heap.size + 1)) (by simp))
  exact bp_int1 rfl rfl rfl (hS.blk 0 rfl) ⟨_, rfl, (RI.zero _), hS.ext⟩

set_option maxRecDepth 100000 in
set_option maxHeartbeats 3200000 in
theorem efloorRoot_p (gc : Nat) (v1 : Value) (x1 : Int) (a7 a1 : Nat) (w : World) (hc : Calm w gc) (hX1 : RI w v1 x1) (ao : x1.natAbs < lim) (H0 : Hid (0 < x1))
    (ab : Int) (E16 : Hid (ab = x1 * x1)) (ap : ab.natAbs < lim)
    (ac : Int) (E17 : Hid (ac = ab * (3))) (A17 : ac.natAbs < lim)
    (ad : Int) (E26 : Hid (ad = (a7 : Int))) (A26 : ad.natAbs < lim)
    (X26 : Hid (ac = (a1 : Int))) (Q26 : Hid (a7 * a7 ≤ a1)) (T26 : Hid (a1 < (a7 + 1) * (a7 + 1))) (B26 : Hid (a1 < lim))  :
    Calls Tryz.prog 72 #[.pointer (some ⟨gc, 0, none⟩), v1] w fun e w' => ∃ v, e = .returned v ∧ RI w' v ad ∧ Ext w w' := by
  have hS := St.start w
  obtain ⟨sx1, af, ag, ah, rfl, hY1⟩ := hX1.opn
  replace hS := hS.addI hY1
  clear hX1 hY1
  replace hS := hS.addB hc trivial
  clear hc
  have t1 := RI.lenne (hS.num 0 rfl) (by have := H0.out; omega)
  have t2 : sx1 = false := by rw [RI.sgn (hS.num 0 rfl)]; have := H0.out; simp; omega
  subst t2
  have o3 : Own w w.heap.size := Own.of hS.ext (by simp)
  have o4 : Own w (w.heap.size + 1) := Own.of hS.ext (by simp)
  have aq := (St.al (St.al hS 24 #[.bool false, .slice af ag ah] (g := w.heap.size) (by simp)) 24 #[.bool false, .slice none 0 0] (g := (w.heap.size + 1)) (by simp))
  have k_1 := (aq.blk 1 rfl).cell
  go_enter Tryz.func72, Tryz.ntmps72
  go_wp2_with fail
  clear k_1
  clear aq
  replace hS := (St.al (St.al hS 24 #[.bool false, .slice af ag ah] (g := w.heap.size) (by simp)) 24 #[.bool false, .slice none 0 0] (g := (w.heap.size + 1)) (by simp))
  generalize ((w.alloc (.cells #[.bool false, .slice af ag ah] 24)).alloc (.cells #[.bool false, .slice none 0 0] 24)) = w1 at hS ⊢
  generalize w.heap.size + 1 = g4 at hS o4 ⊢
  generalize w.heap.size = g3 at hS o3 ⊢
  refine (emul_ok gc _ _ x1 x1 ab _ (hS.blk 2 rfl) (hS.num 0 rfl) (hS.num 0 rfl) ao ao E16.out ap).mono ?_
  rintro e w2 ⟨v_, rfl, hv_, hx_⟩
  replace hS := hS.mv hx_
  clear hx_
  obtain ⟨s16, A_16, n16, c16, rfl, a2⟩ := RI.opn hv_
  clear hv_
  replace hS := hS.addI a2
  clear a2
  go_wp2_with fail
  refine (escale_ok gc _ ab (3) _ (hS.blk 2 rfl) (hS.num 0 rfl) ap (by omega) (by omega) ac E17 A17).mono ?_
  rintro e w3 ⟨v_, rfl, hv_, hx_⟩
  replace hS := hS.mv hx_
  clear hx_
  obtain ⟨ai, a6, aj, ak, rfl, a3⟩ := RI.opn hv_
  clear hv_
  replace hS := hS.addI a3
  clear a3
  have o5 : Own w w3.heap.size := Own.of hS.ext (by simp)
  have am := (St.al hS 24 #[.bool false, .slice none 0 0] (g := w3.heap.size) (by simp))
  have k_2 := (am.blk 0 rfl).cell
  have k_3 := (am.blk 0 rfl).frozen
  have an := (St.al hS 24 #[.bool ai, .slice a6 aj ak] (g := w3.heap.size) (by simp))
  have k_4 := (an.blk 3 rfl).cell
  have k_5 := (an.blk 0 rfl).cell
  go_wp2_with fail
  clear k_2 k_3 k_4 k_5
  clear am an
  replace hS := (St.al hS 24 #[.bool ai, .slice a6 aj ak] (g := w3.heap.size) (by simp))
  generalize (w3.alloc (.cells #[.bool ai, .slice a6 aj ak] 24)) = w4 at hS ⊢
  generalize w3.heap.size = g5 at hS o5 ⊢
  refine (Root_ok _ a1 a7 ac ad _ (hS.num 0 rfl) X26.out B26.out Q26.out T26.out E26.out).mono ?_
  rintro e w5 ⟨v_, rfl, hv_, hx_⟩
  replace hS := hS.mv hx_
  clear hx_
  obtain ⟨_, rfl, hv1_⟩ := hv_
  obtain ⟨s26, A_26, n26, c26, rfl, a4⟩ := RI.opn hv1_
  clear hv1_
  replace hS := hS.addI a4
  clear a4
  go_wp2_with fail
  refine (keep_ok gc _ ad _ (hS.blk 3 rfl) (hS.num 0 rfl)).mono ?_
  rintro e w6 ⟨v_, rfl, hv_, hx_⟩
  replace hS := hS.mv hx_
  clear hx_
  obtain ⟨a8, a0, a9, aa, rfl, a5⟩ := RI.opn hv_
  clear hv_
  replace hS := hS.addI a5
  clear a5
  have o6 : Own w w6.heap.size := Own.of hS.ext (by simp)
  have ar := (St.al hS 24 #[.bool false, .slice none 0 0] (g := w6.heap.size) (by simp))
  have k_6 := (ar.blk 0 rfl).cell
  have k_7 := (ar.blk 0 rfl).frozen
  have ae := (St.al hS 24 #[.bool a8, .slice a0 a9 aa] (g := w6.heap.size) (by simp))
  have k_8 := (ae.blk 3 rfl).cell
  have k_9 := (ae.blk 0 rfl).cell
  have k_10 := (ae.blk 2 rfl).cell
  have k_11 := (ae.blk 2 rfl).frozen
  go_wp2
  replace hS := (St.put (W' := (((w6.alloc (.cells #[.bool a8, .slice a0 a9 aa] 24)).setCell ⟨g4, 0, none⟩ (.bool a8)).setCell ⟨g4, 1, none⟩ (.slice a0 a9 aa))) (St.al hS 24 #[.bool a8, .slice a0 a9 aa] (g := w6.heap.size) (by simp)) 2 0 [.bool a8, .slice a0 a9 aa] (cs' := #[.bool a8, .slice a0 a9 aa]) (bs' := _) rfl o4 rfl rfl (by kernel_rfl) rfl)
  exact bp_int1 rfl rfl rfl (hS.blk 2 rfl) ⟨_, rfl, (hS.num 0 rfl), hS.ext⟩

set_option maxRecDepth 100000 in
set_option maxHeartbeats 3200000 in
theorem efloorRoot_n (gc : Nat) (v1 : Value) (x1 : Int) (ab a0 : Nat) (w : World) (hc : Calm w gc) (hX1 : RI w v1 x1) (aA : x1.natAbs < lim) (H0 : Hid (x1 < 0))
    (ad : Int) (E16 : Hid (ad = x1 * x1)) (aB : ad.natAbs < lim)
    (ae : Int) (E17 : Hid (ae = ad * (3))) (A17 : ae.natAbs < lim)
    (ac : Int) (E26 : Hid (ac = (ab : Int))) (A26 : ac.natAbs < lim)
    (X26 : Hid (ae = (a0 : Int))) (Q26 : Hid (ab * ab ≤ a0)) (T26 : Hid (a0 < (ab + 1) * (ab + 1))) (B26 : Hid (a0 < lim))
    (af : Int) (E35 : Hid (af = -ac)) (A35 : af.natAbs < lim)
    (ag : Int) (E37 : Hid (ag = af - (1 : Int))) (A37 : ag.natAbs < lim)  :
    Calls Tryz.prog 72 #[.pointer (some ⟨gc, 0, none⟩), v1] w fun e w' => ∃ v, e = .returned v ∧ RI w' v ag ∧ Ext w w' := by
  have hS := St.start w
  obtain ⟨sx1, ah, ai, aj, rfl, hY1⟩ := hX1.opn
  replace hS := hS.addI hY1
  clear hX1 hY1
  replace hS := hS.addB hc trivial
  clear hc
  have t1 := RI.lenne (hS.num 0 rfl) (by have := H0.out; omega)
  have t2 : sx1 = true := by rw [RI.sgn (hS.num 0 rfl)]; have := H0.out; simp; omega
  subst t2
  have o3 : Own w w.heap.size := Own.of hS.ext (by simp)
  have o4 : Own w (w.heap.size + 1) := Own.of hS.ext (by simp)
  have aC := (St.al (St.al hS 24 #[.bool true, .slice ah ai aj] (g := w.heap.size) (by simp)) 24 #[.bool false, .slice none 0 0] (g := (w.heap.size + 1)) (by simp))
  have k_1 := (aC.blk 1 rfl).cell
  go_enter Tryz.func72, Tryz.ntmps72
  go_wp2_with fail
  clear k_1
  clear aC
  replace hS := (St.al (St.al hS 24 #[.bool true, .slice ah ai aj] (g := w.heap.size) (by simp)) 24 #[.bool false, .slice none 0 0] (g := (w.heap.size + 1)) (by simp))
  generalize ((w.alloc (.cells #[.bool true, .slice ah ai aj] 24)).alloc (.cells #[.bool false, .slice none 0 0] 24)) = w1 at hS ⊢
  generalize w.heap.size + 1 = g4 at hS o4 ⊢
  generalize w.heap.size = g3 at hS o3 ⊢
  refine (emul_ok gc _ _ x1 x1 ad _ (hS.blk 2 rfl) (hS.num 0 rfl) (hS.num 0 rfl) aA aA E16.out aB).mono ?_
  rintro e w2 ⟨v_, rfl, hv_, hx_⟩
  replace hS := hS.mv hx_
  clear hx_
  obtain ⟨s16, A_16, n16, c16, rfl, a1⟩ := RI.opn hv_
  clear hv_
  replace hS := hS.addI a1
  clear a1
  go_wp2_with fail
  refine (escale_ok gc _ ad (3) _ (hS.blk 2 rfl) (hS.num 0 rfl) aB (by omega) (by omega) ae E17 A17).mono ?_
  rintro e w3 ⟨v_, rfl, hv_, hx_⟩
  replace hS := hS.mv hx_
  clear hx_
  obtain ⟨ak, a8, am, an, rfl, a2⟩ := RI.opn hv_
  clear hv_
  replace hS := hS.addI a2
  clear a2
  have o5 : Own w w3.heap.size := Own.of hS.ext (by simp)
  have ao := (St.al hS 24 #[.bool false, .slice none 0 0] (g := w3.heap.size) (by simp))
  have k_2 := (ao.blk 0 rfl).cell
  have k_3 := (ao.blk 0 rfl).frozen
  have ap := (St.al hS 24 #[.bool ak, .slice a8 am an] (g := w3.heap.size) (by simp))
  have k_4 := (ap.blk 3 rfl).cell
  have k_5 := (ap.blk 0 rfl).cell
  go_wp2_with fail
  clear k_2 k_3 k_4 k_5
  clear ao ap
  replace hS := (St.al hS 24 #[.bool ak, .slice a8 am an] (g := w3.heap.size) (by simp))
  generalize (w3.alloc (.cells #[.bool ak, .slice a8 am an] 24)) = w4 at hS ⊢
  generalize w3.heap.size = g5 at hS o5 ⊢
  refine (Root_ok _ a0 ab ae ac _ (hS.num 0 rfl) X26.out B26.out Q26.out T26.out E26.out).mono ?_
  rintro e w5 ⟨v_, rfl, hv_, hx_⟩
  replace hS := hS.mv hx_
  clear hx_
  obtain ⟨_, rfl, hv1_⟩ := hv_
  obtain ⟨s26, A_26, n26, c26, rfl, a3⟩ := RI.opn hv1_
  clear hv1_
  replace hS := hS.addI a3
  clear a3
  go_wp2_with fail
  refine (keep_ok gc _ ac _ (hS.blk 3 rfl) (hS.num 0 rfl)).mono ?_
  rintro e w6 ⟨v_, rfl, hv_, hx_⟩
  replace hS := hS.mv hx_
  clear hx_
  obtain ⟨aq, a9, ar, au, rfl, a4⟩ := RI.opn hv_
  clear hv_
  replace hS := hS.addI a4
  clear a4
  have o6 : Own w w6.heap.size := Own.of hS.ext (by simp)
  have av := (St.al hS 24 #[.bool false, .slice none 0 0] (g := w6.heap.size) (by simp))
  have k_6 := (av.blk 0 rfl).cell
  have k_7 := (av.blk 0 rfl).frozen
  have aw := (St.al hS 24 #[.bool aq, .slice a9 ar au] (g := w6.heap.size) (by simp))
  have k_8 := (aw.blk 3 rfl).cell
  have k_9 := (aw.blk 0 rfl).cell
  go_wp2_with fail
  clear k_6 k_7 k_8 k_9
  clear av aw
  replace hS := (St.al hS 24 #[.bool aq, .slice a9 ar au] (g := w6.heap.size) (by simp))
  generalize (w6.alloc (.cells #[.bool aq, .slice a9 ar au] 24)) = w7 at hS ⊢
  generalize w6.heap.size = g6 at hS o6 ⊢
  refine (eneg_ok gc _ ac af _ (hS.blk 4 rfl) (hS.num 0 rfl) A26 E35.out).mono ?_
  rintro e w8 ⟨v_, rfl, hv_, hx_⟩
  replace hS := hS.mv hx_
  clear hx_
  obtain ⟨s35, A_35, n35, c35, rfl, a5⟩ := RI.opn hv_
  clear hv_
  replace hS := hS.addI a5
  clear a5
  go_wp2_with fail
  refine (Of_any (1) _ (by omega) (by omega)).mono ?_
  rintro e w9 ⟨v_, rfl, hv_, hx_⟩
  replace hS := hS.mv hx_
  clear hx_
  obtain ⟨s36, A_36, n36, c36, rfl, a6⟩ := RI.opn hv_
  clear hv_
  replace hS := hS.addI a6
  clear a6
  go_wp2_with fail
  refine (esub_ok gc _ _ af (1 : Int) ag _ (hS.blk 4 rfl) (hS.num 1 rfl) (hS.num 0 rfl) A35 (lt_lim64 (by omega) (by omega)) E37.out A37).mono ?_
  rintro e w10 ⟨v_, rfl, hv_, hx_⟩
  replace hS := hS.mv hx_
  clear hx_
  obtain ⟨ax, aa, ay, az, rfl, a7⟩ := RI.opn hv_
  clear hv_
  replace hS := hS.addI a7
  clear a7
  have k_10 := (hS.blk 2 rfl).cell
  have k_11 := (hS.blk 2 rfl).frozen
  go_wp2
  replace hS := (St.put (W' := ((w10.setCell ⟨g4, 0, none⟩ (.bool ax)).setCell ⟨g4, 1, none⟩ (.slice aa ay az))) hS 2 0 [.bool ax, .slice aa ay az] (cs' := #[.bool ax, .slice aa ay az]) (bs' := _) rfl o4 rfl rfl (by kernel_rfl) rfl)
  exact bp_int1 rfl rfl rfl (hS.blk 2 rfl) ⟨_, rfl, (hS.num 0 rfl), hS.ext⟩

end Go.Proofs.YtjeijmnhbckjdaaGreatDoor

/- Rounding: bounds. -/
namespace Go.Proofs.YtjeijmnhbckjdaaGreatDoor
open Go.RowKit
set_option linter.unusedVariables false

theorem efloorRoot_ok (gc : Nat) (v : Value) (x t : Int) (w : World) (hc : Calm w gc) (hX : RI w v x) (n : Nat) (ax : x.natAbs < 2 ^ n) (hn : n + n + 3 ≤ 12800) (ht : IsFr x t) :
    Calls Tryz.prog 72 #[.pointer (some ⟨gc, 0, none⟩), v] w fun e w' => ∃ v, e = .returned v ∧ RI w' v t ∧ Ext w w' := by
  have al := lim_of ax (by omega)
  have b1 := lt_mul ax ax
  have b2 : (x * x * 3).natAbs < 2 ^ (n + n + 2) := lt_mul b1 (show (3 : Int).natAbs < 2 ^ 2 by decide)
  have nn : 0 ≤ x * x * 3 := by have := sq_nonneg' x; omega
  have hx3 : x * x * 3 = (((x * x * 3).natAbs : Nat) : Int) := by omega
  have rl : ∀ R : Nat, R * R ≤ (x * x * 3).natAbs → R < lim := by
    intro R h
    have h1 : R ≤ R * R := by
      rcases Nat.eq_zero_or_pos R with h | h
      · omega
      · exact Nat.le_mul_of_pos_left _ h
    exact Nat.lt_of_le_of_lt (Nat.le_trans h1 h) (lim_of b2 (by omega))
  rcases ht with ⟨h0, rfl⟩ | ⟨h0, h1, h2, h3⟩ | ⟨h0, R, h1, rfl, h2, h3⟩
  · exact efloorRoot_z gc v x w hc hX al (Lib.hid h0)
  · have e : t = ((t.toNat : Nat) : Int) := by omega
    have q1 : t.toNat * t.toNat ≤ (x * x * 3).natAbs := by
      have : ((t.toNat * t.toNat : Nat) : Int) ≤ (((x * x * 3).natAbs : Nat) : Int) := by rw [← hx3, Int.natCast_mul, ← e]; omega
      omega
    have q2 : (x * x * 3).natAbs < (t.toNat + 1) * (t.toNat + 1) := by
      have : (((x * x * 3).natAbs : Nat) : Int) < (((t.toNat + 1) * (t.toNat + 1) : Nat) : Int) := by rw [← hx3, Int.natCast_mul, Int.natCast_add, ← e]; push_cast; omega
      omega
    exact efloorRoot_p gc v x t.toNat (x * x * 3).natAbs w hc hX al (Lib.hid h0) _ (Lib.hid rfl) (lim_of b1 (by omega)) _ (Lib.hid rfl) (lim_of b2 (by omega)) t (Lib.hid e) (by have := rl _ q1; omega) (Lib.hid hx3) (Lib.hid q1) (Lib.hid q2) (Lib.hid (lim_of b2 (by omega)))
  · have e : R = ((R.toNat : Nat) : Int) := by omega
    have q1 : R.toNat * R.toNat ≤ (x * x * 3).natAbs := by
      have : ((R.toNat * R.toNat : Nat) : Int) ≤ (((x * x * 3).natAbs : Nat) : Int) := by rw [← hx3, Int.natCast_mul, ← e]; omega
      omega
    have q2 : (x * x * 3).natAbs < (R.toNat + 1) * (R.toNat + 1) := by
      have : (((x * x * 3).natAbs : Nat) : Int) < (((R.toNat + 1) * (R.toNat + 1) : Nat) : Int) := by rw [← hx3, Int.natCast_mul, Int.natCast_add, ← e]; push_cast; omega
      omega
    have rR := rl _ q1
    have r1 : R.natAbs < 2 ^ (n + n + 2) := by
      have h1 : R.toNat ≤ R.toNat * R.toNat := by
        rcases Nat.eq_zero_or_pos R.toNat with h | h
        · omega
        · exact Nat.le_mul_of_pos_left _ h
      omega
    have r2 : (-R - 1).natAbs < 2 ^ (n + n + 2 + 1) := lt_sub (by rw [Int.natAbs_neg]; exact r1) (show (1 : Int).natAbs < 2 ^ (n + n + 2) from Nat.one_lt_two_pow (by omega))
    exact efloorRoot_n gc v x R.toNat (x * x * 3).natAbs w hc hX al (Lib.hid h0) _ (Lib.hid rfl) (lim_of b1 (by omega)) _ (Lib.hid rfl) (lim_of b2 (by omega)) R (Lib.hid e) (by omega) (Lib.hid hx3) (Lib.hid q1) (Lib.hid q2) (Lib.hid (lim_of b2 (by omega))) _ (Lib.hid rfl) (by rw [Int.natAbs_neg]; omega) _ (Lib.hid rfl) (lim_of r2 (by omega))
theorem Small_yes (v : Value) (x : Int) (w : World) (hX : RI w v x) (ax : x.natAbs < lim) (h : -9223372036854775808 ≤ x ∧ x ≤ 9223372036854775807) :
    Calls Tryz.prog 104 #[v] w fun e w' => e = .returned (.tuple #[.int .i64 x, .bool true]) ∧ Ext w w' := by
  have := Small_ok v x w hX ax
  rwa [smallS_yes h] at this
theorem Small_no (v : Value) (x : Int) (w : World) (hX : RI w v x) (ax : x.natAbs < lim) (h : ¬ (-9223372036854775808 ≤ x ∧ x ≤ 9223372036854775807)) :
    Calls Tryz.prog 104 #[v] w fun e w' => e = .returned (.tuple #[.int .i64 0, .bool false]) ∧ Ext w w' := by
  have := Small_ok v x w hX ax
  rwa [smallS_no h] at this

set_option maxRecDepth 100000 in
set_option maxHeartbeats 1600000 in
theorem xbounded_s (v0 : Value) (x0 : Int) (w : World) (hX0 : RI w v0 x0) (ax0 : x0.natAbs < lim) (H0 : Hid (-9223372036854775808 ≤ x0 ∧ x0 ≤ 9223372036854775807))
      :
    Calls Tryz.prog 74 #[v0] w fun e w' => e = .returned (.int .i64 (clamp x0)) ∧ Ext w w' := by
  have hS := St.start w
  obtain ⟨sx0, Ax0, nx0, cx0, rfl, hY0⟩ := hX0.opn
  replace hS := hS.addI hY0
  clear hX0 hY0
  have o1 : Own w w.heap.size := Own.of hS.ext (by simp)
  have hT1 := (St.al hS 24 #[.bool sx0, .slice Ax0 nx0 cx0] (g := w.heap.size) (by simp))
  have k_1 := (hT1.blk 0 rfl).cell
  go_enter Tryz.func74, Tryz.ntmps74
  go_wp2_with fail
  clear k_1
  clear hT1
  replace hS := (St.al hS 24 #[.bool sx0, .slice Ax0 nx0 cx0] (g := w.heap.size) (by simp))
  generalize (w.alloc (.cells #[.bool sx0, .slice Ax0 nx0 cx0] 24)) = w1 at hS ⊢
  generalize w.heap.size = g1 at hS o1 ⊢
  refine (Small_yes _ x0 _ (hS.num 0 rfl) ax0 H0.out).mono ?_
  rintro e w2 ⟨rfl, hx_⟩
  replace hS := hS.mv hx_
  clear hx_
  go_wp2
  go_ret
  exact ⟨ret_int (rfl), hS.ext⟩

set_option maxRecDepth 100000 in
set_option maxHeartbeats 1600000 in
theorem xbounded_n (v0 : Value) (x0 : Int) (w : World) (hX0 : RI w v0 x0) (ax0 : x0.natAbs < lim) (H0 : Hid (x0 < -9223372036854775808))
      :
    Calls Tryz.prog 74 #[v0] w fun e w' => e = .returned (.int .i64 (-4611686018427387904)) ∧ Ext w w' := by
  have hS := St.start w
  obtain ⟨sx0, Ax0, nx0, cx0, rfl, hY0⟩ := hX0.opn
  replace hS := hS.addI hY0
  clear hX0 hY0
  have t2 : sx0 = true := by rw [RI.sgn (hS.num 0 rfl)]; have := H0.out; simp; omega
  subst t2
  have o1 : Own w w.heap.size := Own.of hS.ext (by simp)
  have hT1 := (St.al hS 24 #[.bool true, .slice Ax0 nx0 cx0] (g := w.heap.size) (by simp))
  have k_1 := (hT1.blk 0 rfl).cell
  go_enter Tryz.func74, Tryz.ntmps74
  go_wp2_with fail
  clear k_1
  clear hT1
  replace hS := (St.al hS 24 #[.bool true, .slice Ax0 nx0 cx0] (g := w.heap.size) (by simp))
  generalize (w.alloc (.cells #[.bool true, .slice Ax0 nx0 cx0] 24)) = w1 at hS ⊢
  generalize w.heap.size = g1 at hS o1 ⊢
  refine (Small_no _ x0 _ (hS.num 0 rfl) ax0 (by have := H0.out; omega)).mono ?_
  rintro e w2 ⟨rfl, hx_⟩
  replace hS := hS.mv hx_
  clear hx_
  have k_2 := (hS.blk 0 rfl).cell
  go_wp2
  go_ret
  exact ⟨ret_int (rfl), hS.ext⟩

set_option maxRecDepth 100000 in
set_option maxHeartbeats 1600000 in
theorem xbounded_p (v0 : Value) (x0 : Int) (w : World) (hX0 : RI w v0 x0) (ax0 : x0.natAbs < lim) (H0 : Hid (9223372036854775807 < x0))
      :
    Calls Tryz.prog 74 #[v0] w fun e w' => e = .returned (.int .i64 (4611686018427387904)) ∧ Ext w w' := by
  have hS := St.start w
  obtain ⟨sx0, Ax0, nx0, cx0, rfl, hY0⟩ := hX0.opn
  replace hS := hS.addI hY0
  clear hX0 hY0
  have t2 : sx0 = false := by rw [RI.sgn (hS.num 0 rfl)]; have := H0.out; simp; omega
  subst t2
  have o1 : Own w w.heap.size := Own.of hS.ext (by simp)
  have hT1 := (St.al hS 24 #[.bool false, .slice Ax0 nx0 cx0] (g := w.heap.size) (by simp))
  have k_1 := (hT1.blk 0 rfl).cell
  go_enter Tryz.func74, Tryz.ntmps74
  go_wp2_with fail
  clear k_1
  clear hT1
  replace hS := (St.al hS 24 #[.bool false, .slice Ax0 nx0 cx0] (g := w.heap.size) (by simp))
  generalize (w.alloc (.cells #[.bool false, .slice Ax0 nx0 cx0] 24)) = w1 at hS ⊢
  generalize w.heap.size = g1 at hS o1 ⊢
  refine (Small_no _ x0 _ (hS.num 0 rfl) ax0 (by have := H0.out; omega)).mono ?_
  rintro e w2 ⟨rfl, hx_⟩
  replace hS := hS.mv hx_
  clear hx_
  have k_2 := (hS.blk 0 rfl).cell
  go_wp2
  go_ret
  exact ⟨ret_int (rfl), hS.ext⟩

theorem xbounded_ok (v : Value) (x : Int) (w : World) (hX : RI w v x) (ax : x.natAbs < lim) :
    Calls Tryz.prog 74 #[v] w fun e w' => e = .returned (.int .i64 (clamp x)) ∧ Ext w w' := by
  by_cases h1 : x < -9223372036854775808
  · have := xbounded_n v x w hX ax (Lib.hid h1)
    rwa [show (-4611686018427387904 : Int) = clamp x by unfold clamp; omega] at this
  · by_cases h2 : 9223372036854775807 < x
    · have := xbounded_p v x w hX ax (Lib.hid h2)
      rwa [show (4611686018427387904 : Int) = clamp x by unfold clamp; omega] at this
    · exact xbounded_s v x w hX ax (Lib.hid ⟨by omega, by omega⟩)
end Go.Proofs.YtjeijmnhbckjdaaGreatDoor

/- Rounding: the walk. -/
namespace Go.Proofs.YtjeijmnhbckjdaaGreatDoor
open Go.RowKit
set_option linter.unusedVariables false

set_option maxRecDepth 100000 in
set_option maxHeartbeats 12800000 in
theorem xRound_w (v0 : Value) (bw c7 an bx c8 aQ : Int) (m1 : Int) (qu qv : GQ) (n0 : Nat) (w : World) (hX0 : RP w v0 bw c7 an bx c8 aQ) (cf : bw.natAbs < lim) (ax0b : c7.natAbs < lim) (bh : an.natAbs < lim) (cg : bx.natAbs < lim) (ax0y : c8.natAbs < lim) (bA : aQ.natAbs < lim) (l1 : -9223372036854775808 ≤ m1) (u1 : m1 ≤ 9223372036854775807) (I0u : Is qu bw c7 an) (S0u : Sz n0 bw c7 an) (I0v : Is qv bx c8 aQ) (S0v : Sz n0 bx c8 aQ) (hn0 : n0 ≤ 12800) (h1 : 1 ≤ m1) (h2 : m1 ≤ 10000)
    (ao : Int) (E40 : Hid (ao = (gcdL [an, aQ] : Nat))) (cV : ao.natAbs < lim)
    (aL : Int) (E45 : Hid (aL = aQ / ao)) (cW : aL.natAbs < lim)
    (N45 : Hid (ao ≠ 0))
    (ch : Hid (ao ∣ aQ))
    (b9 : Int) (E50 : Hid (b9 = an / ao)) (A50 : b9.natAbs < lim)
    (N50 : Hid (ao ≠ 0))
    (ci : Hid (ao ∣ an))
    (bB : Int) (E55 : Hid (bB = an * aL)) (cX : bB.natAbs < lim)
    (bi : Int) (E57 : Hid (bi = bB * (m1))) (cj : bi.natAbs < lim)
    (aR : Int) (E62 : Hid (aR = bw * aL)) (cY : aR.natAbs < lim)
    (aS : Int) (E63 : Hid (aS = aR * (2))) (cZ : aS.natAbs < lim)
    (ba : Int) (E65 : Hid (ba = aS + bi)) (d0 : ba.natAbs < lim)
    (bC : Int) (E70 : Hid (bC = bx * b9)) (d1 : bC.natAbs < lim)
    (bz : Int) (E71 : Hid (bz = bC * (2))) (A71 : bz.natAbs < lim)
    (bD : Int) (E72 : Hid (IsFr bz bD)) (A72 : bD.natAbs < lim) (k72_ : Nat) (B72 : Hid (bz.natAbs < 2 ^ k72_)) (L72 : Hid (k72_ + k72_ + 3 ≤ 12800))
    (aT : Int) (E75 : Hid (aT = ba + bD)) (d2 : aT.natAbs < lim)
    (aM : Int) (E77 : Hid (aM = bi * (2))) (d3 : aM.natAbs < lim)
    (ap : Int) (ck : Hid (ap = aT / aM)) (cl : ap.natAbs < lim)
    (bE : Int) (cn : Hid (bE = aT % aM))
    (N86 : Hid (aM ≠ 0))  :
    Calls Tryz.prog 22 #[v0, .int .i64 m1] w fun e w' => e = .returned (.tuple #[.int .i64 (clamp ap), .int .i64 0]) ∧ Ext w w' := by
  have hS := St.start w
  obtain ⟨aq, ar, au, av, aw, ax, ay, az, a6, a7, a8, a9, aA, aB, aC, aD, aE, aF, aG, aH, aa, ab, ac, ad, rfl, bF, bG, bH, bI, bJ, bK⟩ := hX0
  replace hS := hS.addI bF
  clear bF
  replace hS := hS.addI bG
  clear bG
  replace hS := hS.addI bH
  clear bH
  replace hS := hS.addI bI
  clear bI
  replace hS := hS.addI bJ
  clear bJ
  replace hS := hS.addI bK
  clear bK
  have t1 : decide (m1 < 1) = false := by simp; omega
  have t2 : decide ((10000 : Int) < m1) = false := by simp; omega
  have o2 : Own w w.heap.size := Own.of hS.ext (by simp)
  have d4 := (St.al hS 37 #[.bool aq, .slice ar au av, .bool aw, .slice ax ay az, .bool a6, .slice a7 a8 a9, .bool aA, .slice aB aC aD, .bool aE, .slice aF aG aH, .bool aa, .slice ab ac ad] (g := w.heap.size) (by simp))
  have k_1 := (d4.blk 0 rfl).cell
  have o22 : Own w (w.heap.size + 1) := Own.of hS.ext (by simp)
  go_enter Tryz.func22, Tryz.ntmps22
  go_wp2_with fail
  clear k_1
  clear d4
  replace hS := (St.al (St.al hS 37 #[.bool aq, .slice ar au av, .bool aw, .slice ax ay az, .bool a6, .slice a7 a8 a9, .bool aA, .slice aB aC aD, .bool aE, .slice aF aG aH, .bool aa, .slice ab ac ad] (g := w.heap.size) (by simp)) 26 #[.bool aq, .slice ar au av, .bool aw, .slice ax ay az, .bool a6, .slice a7 a8 a9, .bool aA, .slice aB aC aD, .bool aE, .slice aF aG aH, .bool aa, .slice ab ac ad] (g := (w.heap.size + 1)) (by simp))
  generalize ((w.alloc (.cells #[.bool aq, .slice ar au av, .bool aw, .slice ax ay az, .bool a6, .slice a7 a8 a9, .bool aA, .slice aB aC aD, .bool aE, .slice aF aG aH, .bool aa, .slice ab ac ad] 37)).alloc (.cells #[.bool aq, .slice ar au av, .bool aw, .slice ax ay az, .bool a6, .slice a7 a8 a9, .bool aA, .slice aB aC aD, .bool aE, .slice aF aG aH, .bool aa, .slice ab ac ad] 26)) = w1 at hS ⊢
  generalize w.heap.size + 1 = g22 at hS o22 ⊢
  generalize w.heap.size = g2 at hS o2 ⊢
  refine (xvalid2_ok g22 qu qv n0 n0 _ (hS.blk 0 rfl) ⟨_, _, _, RG.mk (hS.num 5 rfl) (hS.num 4 rfl) (hS.num 3 rfl), I0u, S0u⟩ (by omega) ⟨_, _, _, RG.mk (hS.num 2 rfl) (hS.num 1 rfl) (hS.num 0 rfl), I0v, S0v⟩ (by omega)).mono ?_
  rintro e w2 ⟨rfl, hx_⟩
  replace hS := hS.mv hx_
  clear hx_
  have o6 : Own w w2.heap.size := Own.of hS.ext (by simp)
  have d5 := (St.al hS 66 #[.int .i64 0] (g := w2.heap.size) (by simp))
  have k_2 := (d5.blk 2 rfl).cell
  have o39 : Own w (w2.heap.size + 1) := Own.of hS.ext (by simp)
  go_wp2_with fail
  clear k_2
  clear d5
  replace hS := (St.al (St.al hS 66 #[.int .i64 0] (g := w2.heap.size) (by simp)) 24 #[.bool a6, .slice a7 a8 a9, .bool aa, .slice ab ac ad] (g := (w2.heap.size + 1)) (by simp))
  generalize ((w2.alloc (.cells #[.int .i64 0] 66)).alloc (.cells #[.bool a6, .slice a7 a8 a9, .bool aa, .slice ab ac ad] 24)) = w3 at hS ⊢
  generalize w2.heap.size + 1 = g39 at hS o39 ⊢
  generalize w2.heap.size = g6 at hS o6 ⊢
  refine (egcd2_ok g6 g39 an aQ ao _ (hS.blk 1 rfl) (hS.blk 0 rfl) (hS.num 3 rfl) (hS.num 0 rfl) bh bA E40).mono ?_
  rintro e w4 ⟨v_, rfl, hv_, hx_⟩
  replace hS := hS.mv hx_
  clear hx_
  obtain ⟨d6, bL, d7, d8, rfl, bb⟩ := RI.opn hv_
  clear hv_
  replace hS := hS.addI bb
  clear bb
  have o7 : Own w w4.heap.size := Own.of hS.ext (by simp)
  have co := (St.al hS 24 #[.bool false, .slice none 0 0] (g := w4.heap.size) (by simp))
  have k_3 := (co.blk 0 rfl).cell
  have k_4 := (co.blk 0 rfl).frozen
  go_wp2_with fail
  clear k_3 k_4
  clear co
  replace hS := (St.al hS 24 #[.bool d6, .slice bL d7 d8] (g := w4.heap.size) (by simp))
  generalize (w4.alloc (.cells #[.bool d6, .slice bL d7 d8] 24)) = w5 at hS ⊢
  generalize w4.heap.size = g7 at hS o7 ⊢
  have Y7 := ExtOf.blk (hS.blk 0 rfl)
  have Y2 := ExtOf.blk (hS.blk 4 rfl)
  have hE_ := hS.ext
  refine wp_region_tame 12 (hasF [(4, .any), (9, .any), (10, .any), (11, .any)]) (Fcs [(4, .ri (aL)), (9, .ri (b9)), (10, .box 24 #[.bool false, .slice none 0 0]), (11, .box 24 #[.bool false, .slice none 0 0])]) (Fcs_stab _) (by kernel_rfl) (by kernel_rfl) ?_
  simp only [tk1, tk0, dp1, dp0]
  refine wpT_quiet 4 (by rfl) (by kernel_rfl) ?_
  simp only [tk1, tk0, dp1, dp0]
  repeat (go_big_quiet_step (fail))
  refine wpQuiet_nil ?_
  refine wpT_eff (by rfl) (by rfl) (by rfl) ?_ ?_
  · intro W_ hK
    have hW := hK.1
    clear hK
    go_simp
    exact ⟨rfl, (ediv_ok g6 _ _ aQ ao aL _ (Blk.ext (hS.blk 2 rfl) hW) (RI.ext (hS.num 1 rfl) hW) (RI.ext (hS.num 0 rfl) hW) bA cV N45.out ch.out E45.out).mono fun e w' ⟨v, he, hR, hx⟩ => ⟨v, he, hx, hR⟩⟩
  intro v_ bM bN hr_
  obtain ⟨W_, hW_⟩ := hr_
  have hv_ : Fc.holds (.ri (aL)) bM bN v_ W_ := hW_.get
  clear hW_
  obtain ⟨ae, a0, af, ag, rfl, -⟩ := RI.opn hv_
  clear hv_
  clear W_
  try simp only [Act.put, sa0, sa1, sa2]
  refine wpT_quiet 4 (by rfl) (by kernel_rfl) ?_
  simp only [tk1, tk0, dp1, dp0]
  repeat (go_big_quiet_step (fail))
  refine wpQuiet_nil ?_
  refine wpT_eff (by rfl) (by rfl) (by rfl) ?_ ?_
  · intro W_ hK
    have hW := hK.1
    clear hK
    go_simp
    exact ⟨rfl, (ediv_ok g6 _ _ an ao b9 _ (Blk.ext (hS.blk 2 rfl) hW) (RI.ext (hS.num 4 rfl) hW) (RI.ext (hS.num 0 rfl) hW) bh cV N50.out ci.out E50.out).mono fun e w' ⟨v, he, hR, hx⟩ => ⟨v, he, hx, hR⟩⟩
  intro v_ bO bP hr_
  obtain ⟨W_, hW_⟩ := hr_
  have hv_ : Fc.holds (.ri (b9)) bO bP v_ W_ := hW_.get
  clear hW_
  obtain ⟨aU, a2, aV, aW, rfl, -⟩ := RI.opn hv_
  clear hv_
  clear W_
  try simp only [Act.put, sa0, sa1, sa2]
  refine wpT_eff (by rfl) (by rfl) (by rfl) ?_ ?_
  · intro W_ hK
    go_simp
    exact ⟨Ext.new _ _, rfl, by simp, Blk.new _ _ _⟩
  intro v_ g8 d9 hr_
  obtain ⟨W_, hW_⟩ := hr_
  obtain ⟨rfl, da, -⟩ : Fc.holds (.box 24 #[.bool false, .slice none 0 0]) g8 d9 v_ W_ := hW_.get
  clear hW_ W_
  try simp only [Act.put, sa0, sa1, sa2]
  refine wpT_eff (by rfl) (by rfl) (by rfl) ?_ ?_
  · intro W_ hK
    go_simp
    exact ⟨Ext.new _ _, rfl, by simp, Blk.new _ _ _⟩
  intro v_ g9 db hr_
  obtain ⟨W_, hW_⟩ := hr_
  obtain ⟨rfl, dc, -⟩ : Fc.holds (.box 24 #[.bool false, .slice none 0 0]) g9 db v_ W_ := hW_.get
  clear hW_ W_
  try simp only [Act.put, sa0, sa1, sa2]
  refine wpT_nil ?_
  intro w6 hK
  have hlt_ := hS.lt
  replace hS := hS.mv hK.ext
  replace hS := hS.addI (show RI w6 (iv ae a0 af ag) aL from hK.at_ 4 (e := ((iv ae a0 af ag), bM, bN)) (by rfl))
  replace hS := hS.addI (show RI w6 (iv aU a2 aV aW) b9 from hK.at_ 9 (e := ((iv aU a2 aV aW), bO, bP)) (by rfl))
  have cp : w5.heap.size ≤ g8 := hK.low 10 _ (by rfl)
  have o8 : Own w g8 := Own.of hE_ cp
  replace hS := hS.addB (show Blk w6 g8 24 #[.bool false, .slice none 0 0] from (hK.at_ 10 (by rfl)).2.2) (apart_of fun p hp => Nat.ne_of_lt (Nat.lt_of_lt_of_le (hlt_ p hp) cp))
  have cq : w5.heap.size ≤ g9 := hK.low 11 _ (by rfl)
  have o9 : Own w g9 := Own.of hE_ cq
  replace hS := hS.addB (show Blk w6 g9 24 #[.bool false, .slice none 0 0] from (hK.at_ 11 (by rfl)).2.2) ⟨tame_ne da dc (hK.disj 10 11 _ _ (by omega) (by rfl) (by rfl)), (apart_of fun p hp => Nat.ne_of_lt (Nat.lt_of_lt_of_le (hlt_ p hp) cq))⟩
  clear hK hlt_ hE_ Y7 Y2
  clear cp da d9
  clear cq dc db
  have k_5 := (hS.blk 1 rfl).cell
  have k_6 := (hS.blk 1 rfl).frozen
  have cr := (St.put (W' := ((w6.setCell ⟨g8, 0, none⟩ (.bool ae)).setCell ⟨g8, 1, none⟩ (.slice a0 af ag))) hS 1 0 [.bool ae, .slice a0 af ag] (cs' := #[.bool ae, .slice a0 af ag]) (bs' := _) rfl o8 rfl rfl (by kernel_rfl) rfl)
  have k_7 := (cr.blk 0 rfl).cell
  have k_8 := (cr.blk 0 rfl).frozen
  have cs := (St.put (W' := ((((w6.setCell ⟨g8, 0, none⟩ (.bool ae)).setCell ⟨g8, 1, none⟩ (.slice a0 af ag)).setCell ⟨g9, 0, none⟩ (.bool aU)).setCell ⟨g9, 1, none⟩ (.slice a2 aV aW))) (St.put (W' := ((w6.setCell ⟨g8, 0, none⟩ (.bool ae)).setCell ⟨g8, 1, none⟩ (.slice a0 af ag))) hS 1 0 [.bool ae, .slice a0 af ag] (cs' := #[.bool ae, .slice a0 af ag]) (bs' := _) rfl o8 rfl rfl (by kernel_rfl) rfl) 0 0 [.bool aU, .slice a2 aV aW] (cs' := #[.bool aU, .slice a2 aV aW]) (bs' := _) rfl o9 rfl rfl (by kernel_rfl) rfl)
  have k_9 := (cs.blk 6 rfl).cell
  have ct := (cs.blk 1 rfl).cell
  go_wp2_with fail
  clear k_5 k_6 k_7 k_8 k_9 ct
  clear cr cs
  replace hS := (St.put (W' := ((((w6.setCell ⟨g8, 0, none⟩ (.bool ae)).setCell ⟨g8, 1, none⟩ (.slice a0 af ag)).setCell ⟨g9, 0, none⟩ (.bool aU)).setCell ⟨g9, 1, none⟩ (.slice a2 aV aW))) (St.put (W' := ((w6.setCell ⟨g8, 0, none⟩ (.bool ae)).setCell ⟨g8, 1, none⟩ (.slice a0 af ag))) hS 1 0 [.bool ae, .slice a0 af ag] (cs' := #[.bool ae, .slice a0 af ag]) (bs' := _) rfl o8 rfl rfl (by kernel_rfl) rfl) 0 0 [.bool aU, .slice a2 aV aW] (cs' := #[.bool aU, .slice a2 aV aW]) (bs' := _) rfl o9 rfl rfl (by kernel_rfl) rfl)
  simp only [List.set_cons_zero, List.set_cons_succ] at hS
  generalize ((((w6.setCell ⟨g8, 0, none⟩ (.bool ae)).setCell ⟨g8, 1, none⟩ (.slice a0 af ag)).setCell ⟨g9, 0, none⟩ (.bool aU)).setCell ⟨g9, 1, none⟩ (.slice a2 aV aW)) = w7 at hS ⊢
  refine (emul_ok g6 _ _ an aL bB _ (hS.blk 4 rfl) (hS.num 6 rfl) (hS.num 1 rfl) bh cW E55.out cX).mono ?_
  rintro e w8 ⟨v_, rfl, hv_, hx_⟩
  replace hS := hS.mv hx_
  clear hx_
  obtain ⟨s55, A_55, n55, c55, rfl, bc⟩ := RI.opn hv_
  clear hv_
  replace hS := hS.addI bc
  clear bc
  go_wp2_with fail
  refine (escale_ok g6 _ bB (m1) _ (hS.blk 4 rfl) (hS.num 0 rfl) cX l1 u1 bi E57 cj).mono ?_
  rintro e w9 ⟨v_, rfl, hv_, hx_⟩
  replace hS := hS.mv hx_
  clear hx_
  obtain ⟨dd, bQ, de, df, rfl, bd⟩ := RI.opn hv_
  clear hv_
  replace hS := hS.addI bd
  clear bd
  have o10 : Own w w9.heap.size := Own.of hS.ext (by simp)
  have cu := (St.al hS 24 #[.bool false, .slice none 0 0] (g := w9.heap.size) (by simp))
  have cv := (cu.blk 0 rfl).cell
  have cw := (cu.blk 0 rfl).frozen
  go_wp2_with fail
  clear cv cw
  clear cu
  replace hS := (St.al hS 24 #[.bool dd, .slice bQ de df] (g := w9.heap.size) (by simp))
  generalize (w9.alloc (.cells #[.bool dd, .slice bQ de df] 24)) = w10 at hS ⊢
  generalize w9.heap.size = g10 at hS o10 ⊢
  have cx := ExtOf.blk (hS.blk 0 rfl)
  have Y8 := ExtOf.blk (hS.blk 2 rfl)
  have Y2 := ExtOf.blk (hS.blk 7 rfl)
  have hE_ := hS.ext
  refine wp_region_tame 9 (hasF [(4, .any), (5, .any), (7, .any), (8, .any)]) (Fcs [(4, .ri (aR)), (5, .ri (aS)), (7, .ri (ba)), (8, .box 24 #[.bool false, .slice none 0 0])]) (Fcs_stab _) (by kernel_rfl) (by kernel_rfl) ?_
  simp only [tk1, tk0, dp1, dp0]
  refine wpT_quiet 4 (by rfl) (by kernel_rfl) ?_
  simp only [tk1, tk0, dp1, dp0]
  repeat (go_big_quiet_step (fail))
  refine wpQuiet_nil ?_
  refine wpT_eff (by rfl) (by rfl) (by rfl) ?_ ?_
  · intro W_ hK
    have hW := hK.1
    clear hK
    go_simp
    exact ⟨rfl, (emul_ok g6 _ _ bw aL aR _ (Blk.ext (hS.blk 5 rfl) hW) (RI.ext (hS.num 10 rfl) hW) (RI.ext (hS.num 3 rfl) hW) cf cW E62.out cY).mono fun e w' ⟨v, he, hR, hx⟩ => ⟨v, he, hx, hR⟩⟩
  intro v_ bj bk hr_
  obtain ⟨W_, hW_⟩ := hr_
  have hv_ : Fc.holds (.ri (aR)) bj bk v_ W_ := hW_.get
  clear hW_
  obtain ⟨c9, aX, ca, cb, rfl, -⟩ := RI.opn hv_
  clear hv_
  clear W_
  try simp only [Act.put, sa0, sa1, sa2]
  refine wpT_eff (by rfl) (by rfl) (by rfl) ?_ ?_
  · intro W_ hK
    have hW := hK.1
    have bR : RI W_ (iv c9 aX ca cb) aR := hK.2 4 ((iv c9 aX ca cb), bj, bk) (by rfl) (by kernel_rfl)
    clear hK
    go_simp
    exact ⟨rfl, (escale_ok g6 _ aR (2) _ (Blk.ext (hS.blk 5 rfl) hW) bR cY (by omega) (by omega) aS E63 cZ).mono fun e w' ⟨v, he, hR, hx⟩ => ⟨v, he, hx, hR⟩⟩
  intro v_ bl bm hr_
  obtain ⟨W_, hW_⟩ := hr_
  have hv_ : Fc.holds (.ri (aS)) bl bm v_ W_ := hW_.get
  clear hW_
  obtain ⟨cc, aY, cd, ce, rfl, -⟩ := RI.opn hv_
  clear hv_
  clear W_
  try simp only [Act.put, sa0, sa1, sa2]
  refine wpT_quiet 1 (by rfl) (by kernel_rfl) ?_
  simp only [tk1, tk0, dp1, dp0]
  repeat (go_big_quiet_step (fail))
  refine wpQuiet_nil ?_
  refine wpT_eff (by rfl) (by rfl) (by rfl) ?_ ?_
  · intro W_ hK
    have hW := hK.1
    have bS : RI W_ (iv cc aY cd ce) aS := hK.2 5 ((iv cc aY cd ce), bl, bm) (by rfl) (by kernel_rfl)
    clear hK
    go_simp
    exact ⟨rfl, (eadd_ok g6 _ _ aS bi ba _ (Blk.ext (hS.blk 5 rfl) hW) bS (RI.ext (hS.num 0 rfl) hW) cZ cj E65.out d0).mono fun e w' ⟨v, he, hR, hx⟩ => ⟨v, he, hx, hR⟩⟩
  intro v_ bT bU hr_
  obtain ⟨W_, hW_⟩ := hr_
  have hv_ : Fc.holds (.ri (ba)) bT bU v_ W_ := hW_.get
  clear hW_
  obtain ⟨aZ, a3, b0, b1, rfl, -⟩ := RI.opn hv_
  clear hv_
  clear W_
  try simp only [Act.put, sa0, sa1, sa2]
  refine wpT_eff (by rfl) (by rfl) (by rfl) ?_ ?_
  · intro W_ hK
    go_simp
    exact ⟨Ext.new _ _, rfl, by simp, Blk.new _ _ _⟩
  intro v_ aN bV hr_
  obtain ⟨W_, hW_⟩ := hr_
  obtain ⟨rfl, cy, -⟩ : Fc.holds (.box 24 #[.bool false, .slice none 0 0]) aN bV v_ W_ := hW_.get
  clear hW_ W_
  try simp only [Act.put, sa0, sa1, sa2]
  refine wpT_nil ?_
  intro bn hK
  have hlt_ := hS.lt
  replace hS := hS.mv hK.ext
  replace hS := hS.addI (show RI bn (iv c9 aX ca cb) aR from hK.at_ 4 (e := ((iv c9 aX ca cb), bj, bk)) (by rfl))
  replace hS := hS.addI (show RI bn (iv cc aY cd ce) aS from hK.at_ 5 (e := ((iv cc aY cd ce), bl, bm)) (by rfl))
  replace hS := hS.addI (show RI bn (iv aZ a3 b0 b1) ba from hK.at_ 7 (e := ((iv aZ a3 b0 b1), bT, bU)) (by rfl))
  have bo : w10.heap.size ≤ aN := hK.low 8 _ (by rfl)
  have dg : Own w aN := Own.of hE_ bo
  replace hS := hS.addB (show Blk bn aN 24 #[.bool false, .slice none 0 0] from (hK.at_ 8 (by rfl)).2.2) (apart_of fun p hp => Nat.ne_of_lt (Nat.lt_of_lt_of_le (hlt_ p hp) bo))
  clear hK hlt_ hE_ cx Y8 Y2
  clear bo cy bV
  have cz := (hS.blk 0 rfl).cell
  have cA := (hS.blk 0 rfl).frozen
  have cB := (St.put (W' := ((bn.setCell ⟨aN, 0, none⟩ (.bool aZ)).setCell ⟨aN, 1, none⟩ (.slice a3 b0 b1))) hS 0 0 [.bool aZ, .slice a3 b0 b1] (cs' := #[.bool aZ, .slice a3 b0 b1]) (bs' := _) rfl dg rfl rfl (by kernel_rfl) rfl)
  have cC := (cB.blk 8 rfl).cell
  have cD := (cB.blk 2 rfl).cell
  go_wp2_with fail
  clear cz cA cC cD
  clear cB
  replace hS := (St.put (W' := ((bn.setCell ⟨aN, 0, none⟩ (.bool aZ)).setCell ⟨aN, 1, none⟩ (.slice a3 b0 b1))) hS 0 0 [.bool aZ, .slice a3 b0 b1] (cs' := #[.bool aZ, .slice a3 b0 b1]) (bs' := _) rfl dg rfl rfl (by kernel_rfl) rfl)
  simp only [List.set_cons_zero] at hS
  generalize ((bn.setCell ⟨aN, 0, none⟩ (.bool aZ)).setCell ⟨aN, 1, none⟩ (.slice a3 b0 b1)) = w12 at hS ⊢
  refine (emul_ok g6 _ _ bx b9 bC _ (hS.blk 6 rfl) (hS.num 10 rfl) (hS.num 5 rfl) cg A50 E70.out d1).mono ?_
  rintro e w13 ⟨v_, rfl, hv_, hx_⟩
  replace hS := hS.mv hx_
  clear hx_
  obtain ⟨s70, A_70, n70, c70, rfl, be⟩ := RI.opn hv_
  clear hv_
  replace hS := hS.addI be
  clear be
  go_wp2_with fail
  refine (escale_ok g6 _ bC (2) _ (hS.blk 6 rfl) (hS.num 0 rfl) d1 (by omega) (by omega) bz E71 A71).mono ?_
  rintro e w14 ⟨v_, rfl, hv_, hx_⟩
  replace hS := hS.mv hx_
  clear hx_
  obtain ⟨s71, A_71, n71, c71, rfl, bf⟩ := RI.opn hv_
  clear hv_
  replace hS := hS.addI bf
  clear bf
  go_wp2_with fail
  refine (efloorRoot_ok g6 _ bz bD _ (hS.blk 6 rfl) (hS.num 0 rfl) k72_ B72.out L72.out E72.out).mono ?_
  rintro e bW ⟨v_, rfl, hv_, hx_⟩
  replace hS := hS.mv hx_
  clear hx_
  obtain ⟨dh, bX, di, dj, rfl, bg⟩ := RI.opn hv_
  clear hv_
  replace hS := hS.addI bg
  clear bg
  have o12 : Own w bW.heap.size := Own.of hS.ext (by simp)
  have cE := (St.al hS 24 #[.bool false, .slice none 0 0] (g := bW.heap.size) (by simp))
  have cF := (cE.blk 0 rfl).cell
  have cG := (cE.blk 0 rfl).frozen
  go_wp2_with fail
  clear cF cG
  clear cE
  replace hS := (St.al hS 24 #[.bool dh, .slice bX di dj] (g := bW.heap.size) (by simp))
  generalize (bW.alloc (.cells #[.bool dh, .slice bX di dj] 24)) = dk at hS ⊢
  generalize bW.heap.size = g12 at hS o12 ⊢
  have Y12 := ExtOf.blk (hS.blk 0 rfl)
  have Y11 := ExtOf.blk (hS.blk 1 rfl)
  have cx := ExtOf.blk (hS.blk 2 rfl)
  have hE_ := hS.ext
  refine wp_region_tame 7 (hasF [(2, .any), (4, .any), (5, .any), (6, .any)]) (Fcs [(2, .ri (aT)), (4, .ri (aM)), (5, .box 24 #[.bool false, .slice none 0 0]), (6, .box 24 #[.bool false, .slice none 0 0])]) (Fcs_stab _) (by kernel_rfl) (by kernel_rfl) ?_
  simp only [tk1, tk0, dp1, dp0]
  refine wpT_quiet 2 (by rfl) (by kernel_rfl) ?_
  simp only [tk1, tk0, dp1, dp0]
  repeat (go_big_quiet_step (fail))
  refine wpQuiet_nil ?_
  refine wpT_eff (by rfl) (by rfl) (by rfl) ?_ ?_
  · intro W_ hK
    have hW := hK.1
    clear hK
    go_simp
    exact ⟨rfl, (eadd_ok g6 _ _ ba bD aT _ (Blk.ext (hS.blk 7 rfl) hW) (RI.ext (hS.num 3 rfl) hW) (RI.ext (hS.num 0 rfl) hW) d0 A72 E75.out d2).mono fun e w' ⟨v, he, hR, hx⟩ => ⟨v, he, hx, hR⟩⟩
  intro v_ bY bZ hr_
  obtain ⟨W_, hW_⟩ := hr_
  have hv_ : Fc.holds (.ri (aT)) bY bZ v_ W_ := hW_.get
  clear hW_
  obtain ⟨ah, a1, ai, aj, rfl, -⟩ := RI.opn hv_
  clear hv_
  clear W_
  try simp only [Act.put, sa0, sa1, sa2]
  refine wpT_quiet 1 (by rfl) (by kernel_rfl) ?_
  simp only [tk1, tk0, dp1, dp0]
  repeat (go_big_quiet_step (fail))
  refine wpQuiet_nil ?_
  refine wpT_eff (by rfl) (by rfl) (by rfl) ?_ ?_
  · intro W_ hK
    have hW := hK.1
    clear hK
    go_simp
    exact ⟨rfl, (escale_ok g6 _ bi (2) _ (Blk.ext (hS.blk 7 rfl) hW) (RI.ext (hS.num 6 rfl) hW) cj (by omega) (by omega) aM E77 d3).mono fun e w' ⟨v, he, hR, hx⟩ => ⟨v, he, hx, hR⟩⟩
  intro v_ c0 c1 hr_
  obtain ⟨W_, hW_⟩ := hr_
  have hv_ : Fc.holds (.ri (aM)) c0 c1 v_ W_ := hW_.get
  clear hW_
  obtain ⟨b2, a4, b3, b4, rfl, -⟩ := RI.opn hv_
  clear hv_
  clear W_
  try simp only [Act.put, sa0, sa1, sa2]
  refine wpT_eff (by rfl) (by rfl) (by rfl) ?_ ?_
  · intro W_ hK
    go_simp
    exact ⟨Ext.new _ _, rfl, by simp, Blk.new _ _ _⟩
  intro v_ a5 c2 hr_
  obtain ⟨W_, hW_⟩ := hr_
  obtain ⟨rfl, c3, -⟩ : Fc.holds (.box 24 #[.bool false, .slice none 0 0]) a5 c2 v_ W_ := hW_.get
  clear hW_ W_
  try simp only [Act.put, sa0, sa1, sa2]
  refine wpT_eff (by rfl) (by rfl) (by rfl) ?_ ?_
  · intro W_ hK
    go_simp
    exact ⟨Ext.new _ _, rfl, by simp, Blk.new _ _ _⟩
  intro v_ aO c4 hr_
  obtain ⟨W_, hW_⟩ := hr_
  obtain ⟨rfl, c5, -⟩ : Fc.holds (.box 24 #[.bool false, .slice none 0 0]) aO c4 v_ W_ := hW_.get
  clear hW_ W_
  try simp only [Act.put, sa0, sa1, sa2]
  refine wpT_nil ?_
  intro aP hK
  have hlt_ := hS.lt
  replace hS := hS.mv hK.ext
  replace hS := hS.addI (show RI aP (iv ah a1 ai aj) aT from hK.at_ 2 (e := ((iv ah a1 ai aj), bY, bZ)) (by rfl))
  replace hS := hS.addI (show RI aP (iv b2 a4 b3 b4) aM from hK.at_ 4 (e := ((iv b2 a4 b3 b4), c0, c1)) (by rfl))
  have bp : dk.heap.size ≤ a5 := hK.low 5 _ (by rfl)
  have cH : Own w a5 := Own.of hE_ bp
  replace hS := hS.addB (show Blk aP a5 24 #[.bool false, .slice none 0 0] from (hK.at_ 5 (by rfl)).2.2) (apart_of fun p hp => Nat.ne_of_lt (Nat.lt_of_lt_of_le (hlt_ p hp) bp))
  have bq : dk.heap.size ≤ aO := hK.low 6 _ (by rfl)
  have dl : Own w aO := Own.of hE_ bq
  replace hS := hS.addB (show Blk aP aO 24 #[.bool false, .slice none 0 0] from (hK.at_ 6 (by rfl)).2.2) ⟨tame_ne c3 c5 (hK.disj 5 6 _ _ (by omega) (by rfl) (by rfl)), (apart_of fun p hp => Nat.ne_of_lt (Nat.lt_of_lt_of_le (hlt_ p hp) bq))⟩
  clear hK hlt_ hE_ Y12 Y11 cx
  clear bp c3 c2
  clear bq c5 c4
  have cI := (hS.blk 1 rfl).cell
  have cJ := (hS.blk 1 rfl).frozen
  have cK := (St.put (W' := ((aP.setCell ⟨a5, 0, none⟩ (.bool ah)).setCell ⟨a5, 1, none⟩ (.slice a1 ai aj))) hS 1 0 [.bool ah, .slice a1 ai aj] (cs' := #[.bool ah, .slice a1 ai aj]) (bs' := _) rfl cH rfl rfl (by kernel_rfl) rfl)
  have cL := (cK.blk 0 rfl).cell
  have cM := (cK.blk 0 rfl).frozen
  have b5 := (St.put (W' := ((((aP.setCell ⟨a5, 0, none⟩ (.bool ah)).setCell ⟨a5, 1, none⟩ (.slice a1 ai aj)).setCell ⟨aO, 0, none⟩ (.bool b2)).setCell ⟨aO, 1, none⟩ (.slice a4 b3 b4))) (St.put (W' := ((aP.setCell ⟨a5, 0, none⟩ (.bool ah)).setCell ⟨a5, 1, none⟩ (.slice a1 ai aj))) hS 1 0 [.bool ah, .slice a1 ai aj] (cs' := #[.bool ah, .slice a1 ai aj]) (bs' := _) rfl cH rfl rfl (by kernel_rfl) rfl) 0 0 [.bool b2, .slice a4 b3 b4] (cs' := #[.bool b2, .slice a4 b3 b4]) (bs' := _) rfl dl rfl rfl (by kernel_rfl) rfl)
  have cN := (b5.blk 9 rfl).cell
  have cO := (b5.blk 1 rfl).cell
  have cP := (b5.blk 0 rfl).cell
  go_wp2_with fail
  clear cI cJ cL cM cN cO cP
  clear cK b5
  replace hS := (St.put (W' := ((((aP.setCell ⟨a5, 0, none⟩ (.bool ah)).setCell ⟨a5, 1, none⟩ (.slice a1 ai aj)).setCell ⟨aO, 0, none⟩ (.bool b2)).setCell ⟨aO, 1, none⟩ (.slice a4 b3 b4))) (St.put (W' := ((aP.setCell ⟨a5, 0, none⟩ (.bool ah)).setCell ⟨a5, 1, none⟩ (.slice a1 ai aj))) hS 1 0 [.bool ah, .slice a1 ai aj] (cs' := #[.bool ah, .slice a1 ai aj]) (bs' := _) rfl cH rfl rfl (by kernel_rfl) rfl) 0 0 [.bool b2, .slice a4 b3 b4] (cs' := #[.bool b2, .slice a4 b3 b4]) (bs' := _) rfl dl rfl rfl (by kernel_rfl) rfl)
  simp only [List.set_cons_zero, List.set_cons_succ] at hS
  generalize ((((aP.setCell ⟨a5, 0, none⟩ (.bool ah)).setCell ⟨a5, 1, none⟩ (.slice a1 ai aj)).setCell ⟨aO, 0, none⟩ (.bool b2)).setCell ⟨aO, 1, none⟩ (.slice a4 b3 b4)) = w18 at hS ⊢
  refine (Divide_in _ _ aT aM ap bE _ (hS.num 1 rfl) (hS.num 0 rfl) d2 d3 N86.out ck.out cn.out).mono ?_
  rintro e am ⟨v_, rfl, hv_, hx_⟩
  replace hS := hS.mv hx_
  clear hx_
  obtain ⟨_, _, rfl, hv1_, hv2_⟩ := hv_
  obtain ⟨b6, ak, b7, b8, rfl, aI⟩ := RI.opn hv1_
  obtain ⟨br, aJ, bs, bt, rfl, aK⟩ := RI.opn hv2_
  clear hv1_ hv2_
  replace hS := hS.addI aI
  clear aI
  replace hS := hS.addI aK
  clear aK
  have o15 : Own w am.heap.size := Own.of hS.ext (by simp)
  have o16 : Own w (am.heap.size + 1) := Own.of hS.ext (by simp)
  have bu := (St.al (St.al hS 24 #[.bool false, .slice none 0 0] (g := am.heap.size) (by simp)) 24 #[.bool false, .slice none 0 0] (g := (am.heap.size + 1)) (by simp))
  have cQ := (bu.blk 1 rfl).cell
  have cR := (bu.blk 1 rfl).frozen
  have bv := (St.al (St.al hS 24 #[.bool b6, .slice ak b7 b8] (g := am.heap.size) (by simp)) 24 #[.bool false, .slice none 0 0] (g := (am.heap.size + 1)) (by simp))
  have cS := (bv.blk 0 rfl).cell
  have cT := (bv.blk 0 rfl).frozen
  have c6 := (St.al (St.al hS 24 #[.bool b6, .slice ak b7 b8] (g := am.heap.size) (by simp)) 24 #[.bool br, .slice aJ bs bt] (g := (am.heap.size + 1)) (by simp))
  have cU := (c6.blk 1 rfl).cell
  go_wp2_with fail
  clear cQ cR cS cT cU
  clear bu bv c6
  replace hS := (St.al (St.al hS 24 #[.bool b6, .slice ak b7 b8] (g := am.heap.size) (by simp)) 24 #[.bool br, .slice aJ bs bt] (g := (am.heap.size + 1)) (by simp))
  generalize ((am.alloc (.cells #[.bool b6, .slice ak b7 b8] 24)).alloc (.cells #[.bool br, .slice aJ bs bt] 24)) = w20 at hS ⊢
  generalize am.heap.size + 1 = g16 at hS o16 ⊢
  generalize am.heap.size = g15 at hS o15 ⊢
  refine (xbounded_ok _ ap _ (hS.num 1 rfl) cl).mono ?_
  rintro e w21 ⟨rfl, hx_⟩
  replace hS := hS.mv hx_
  clear hx_
  go_wp2
  go_ret2
  exact ⟨rfl, hS.ext⟩

end Go.Proofs.YtjeijmnhbckjdaaGreatDoor

/- Rounding: what it says. -/
namespace Go.Proofs.YtjeijmnhbckjdaaGreatDoor
open Go.RowKit
set_option linter.unusedVariables false

/-- n is reached: n ≤ r / ratio + 1/2. -/
def RZ (a d b e r n : Int) : Prop := Le3 ((2 * n - 1) * r * (d * e) - 2 * (a * e)) (2 * (b * d))
theorem isFr_ex (x : Int) : ∃ t, IsFr x t ∧ t.natAbs ≤ 2 * x.natAbs + 1 := by
  obtain ⟨R, h1, h2⟩ := root_ex (3 * (x * x)).natAbs
  have hp : 0 ≤ 3 * (x * x) := by have := sq_nonneg' x; omega
  have i1 : (R : Int) * (R : Int) ≤ 3 * (x * x) := by
    have : ((R * R : Nat) : Int) ≤ ((3 * (x * x)).natAbs : Nat) := Int.ofNat_le.2 h1
    rw [Int.natCast_mul] at this
    omega
  have i2 : 3 * (x * x) < ((R : Int) + 1) * ((R : Int) + 1) := by
    have : ((3 * (x * x)).natAbs : Int) < (((R + 1) * (R + 1) : Nat) : Int) := Int.ofNat_lt.2 h2
    rw [Int.natCast_mul, Int.natCast_add] at this
    have e : (((3 * (x * x)).natAbs : Nat) : Int) = 3 * (x * x) := by omega
    rw [e] at this
    exact this
  have hb : (R : Int) ≤ 2 * (x.natAbs : Int) := by
    rcases Int.lt_or_le (2 * (x.natAbs : Int)) (R : Int) with h | h
    · have q := sq_lt (a := 2 * (x.natAbs : Int)) (b := (R : Int)) (by omega) h
      have e : 2 * (x.natAbs : Int) * (2 * (x.natAbs : Int)) = 4 * (x * x) := by
        have : (x.natAbs : Int) * (x.natAbs : Int) = x * x := by rw [← Int.natCast_mul, Int.natAbs_mul_self]
        grind
      have := sq_nonneg' x
      omega
    · exact h
  rcases Int.lt_trichotomy x 0 with h | h | h
  · exact ⟨-(R : Int) - 1, .inr (.inr ⟨h, R, by omega, rfl, i1, i2⟩), by omega⟩
  · exact ⟨0, .inl ⟨h, rfl⟩, by omega⟩
  · exact ⟨R, .inr (.inl ⟨h, by omega, i1, i2⟩), by omega⟩
theorem ediv_abs {a b : Int} (hb : 0 < b) : (a / b).natAbs ≤ a.natAbs := by
  rcases Int.lt_or_le a 0 with h | h
  · have h1 : a ≤ a / b := (Int.le_ediv_iff_mul_le hb).2 (by have := Int.mul_le_mul_of_nonpos_left (a := a) (b := b) (c := 1) (by omega) (by omega); omega)
    have h2 : a / b < 0 := Int.ediv_neg_of_neg_of_pos h hb
    omega
  · have h1 : a / b ≤ a := Int.ediv_le_self b h
    have h2 : 0 ≤ a / b := Int.ediv_nonneg h (by omega)
    omega
theorem round_iff {a d b e r g l t f n N : Int} (hg : 0 < g) (el : e = g * l) (et : d = g * t) (hr : 0 < r) (hd : 0 < d) (hl : 0 < l) (hf : IsFr (b * t * 2) f) (hN : N = (a * l * 2 + d * l * r + f) / (d * l * r * 2)) : RZ a d b e r n ↔ n ≤ N := by
  have hden : 0 < d * l * r := Int.mul_pos (Int.mul_pos hd hl) hr
  rw [hN, Int.le_ediv_iff_mul_le (by omega)]
  have e1 : n * (d * l * r * 2) ≤ a * l * 2 + d * l * r + f ↔ n * (d * l * r * 2) - a * l * 2 - d * l * r ≤ f := by omega
  rw [e1, le_fr hf, ← le3_scale hg]
  unfold RZ
  have e2 : (2 * n - 1) * r * (d * e) - 2 * (a * e) = g * (n * (d * l * r * 2) - a * l * 2 - d * l * r) := by rw [el]; grind
  have e3 : 2 * (b * d) = g * (b * t * 2) := by rw [et]; grind
  rw [e2, e3]
end Go.Proofs.YtjeijmnhbckjdaaGreatDoor

/- Rounding: the contract of Round. -/
namespace Go.Proofs.YtjeijmnhbckjdaaGreatDoor
open Go.RowKit
set_option linter.unusedVariables false

theorem xRound_ok (v : Value) (qu qv : GQ) (a b d a' b' d' r : Int) (n : Nat) (w : World) (hX : RP w v a b d a' b' d') (I : Is qu a b d) (S : Sz n a b d) (J : Is qv a' b' d') (T : Sz n a' b' d') (h1 : 1 ≤ r) (h2 : r ≤ 10000) (hn : 4 * n + 80 ≤ 12800) :
    ∃ N, (∀ k, RZ a d a' d' r k ↔ k ≤ N) ∧ Calls Tryz.prog 22 #[v, .int .i64 r] w fun e w' => e = .returned (.tuple #[.int .i64 (clamp N), .int .i64 0]) ∧ Ext w w' := by
  obtain ⟨g, t, l, hg, hg0, et, el⟩ := gcd2_facts (a := d) (b := d') J.dne
  have hgp : 0 < g := by rw [hg] at hg0 ⊢; omega
  have hd := I.low.1
  have hd' := J.low.1
  have hl : 0 < l := by
    rcases Int.lt_or_le 0 l with h | h
    · exact h
    · have := Int.mul_nonpos_of_nonneg_of_nonpos (a := g) (b := l) (by omega) h; omega
  obtain ⟨f, hf, hfb⟩ := isFr_ex (a' * t * 2)
  have bl := lt_div hg0 el T.d
  have bt := lt_div hg0 et S.d
  have bg := lt_fac I.dne et S.d
  have br : r.natAbs < 2 ^ 64 := lt64 (by omega) (by omega)
  have b2 : (2 : Int).natAbs < 2 ^ 2 := by decide
  have m1 := lt_mul S.d bl
  have m2 := lt_mul m1 br
  have m3 := lt_mul S.a bl
  have m4 := lt_mul m3 b2
  have m5 := lt_add (lt_up m4 (n := n + n + 64) (by omega)) m2
  have m6 := lt_mul T.a bt
  have m7 := lt_mul m6 b2
  have m8 : f.natAbs < 2 ^ (n + n + 65) := by
    have e1 : (2 : Nat) ^ (n + n + 4) = 2 ^ (n + n + 2) * 4 := by rw [show n + n + 4 = n + n + 2 + 2 by omega, Nat.pow_add]
    have e2 : (2 : Nat) ^ (n + n + 4) ≤ 2 ^ (n + n + 65) := Nat.pow_le_pow_right (by omega) (by omega)
    have e3 : 0 < (2 : Nat) ^ (n + n + 2) := Nat.pow_pos (by omega)
    omega
  have m9 := lt_add m5 m8
  have m10 := lt_mul m2 b2
  have hden : 0 < d * l * r * 2 := by have := Int.mul_pos (Int.mul_pos hd hl) (show 0 < r by omega); omega
  have m11 : ((a * l * 2 + d * l * r + f) / (d * l * r * 2)).natAbs < 2 ^ (n + n + 65 + 1) := Nat.lt_of_le_of_lt (ediv_abs hden) m9
  refine ⟨(a * l * 2 + d * l * r + f) / (d * l * r * 2), fun k => round_iff hgp el et (by omega) hd hl hf rfl, ?_⟩
  obtain ⟨s1, s2, s3⟩ := S.lims (by omega)
  obtain ⟨t1, t2, t3⟩ := T.lims (by omega)
  exact xRound_w v a b d a' b' d' r qu qv n w hX s1 s2 s3 t1 t2 t3 (by omega) (by omega) I S J T (by omega) h1 h2 g (Lib.hid hg) (lim_of bg (by omega)) l (Lib.hid (div_of hg0 el)) (lim_of bl (by omega)) (Lib.hid hg0) (Lib.hid ⟨_, el⟩) t (Lib.hid (div_of hg0 et)) (lim_of bt (by omega)) (Lib.hid hg0) (Lib.hid ⟨_, et⟩)
    _ (Lib.hid rfl) (lim_of m1 (by omega)) _ (Lib.hid rfl) (lim_of m2 (by omega)) _ (Lib.hid rfl) (lim_of m3 (by omega)) _ (Lib.hid rfl) (lim_of m4 (by omega)) _ (Lib.hid rfl) (lim_of m5 (by omega))
    _ (Lib.hid rfl) (lim_of m6 (by omega)) _ (Lib.hid rfl) (lim_of m7 (by omega)) f (Lib.hid hf) (lim_of m8 (by omega)) (n + n + 2) (Lib.hid m7) (Lib.hid (by omega)) _ (Lib.hid rfl) (lim_of m9 (by omega)) _ (Lib.hid rfl) (lim_of m10 (by omega))
    _ (Lib.hid rfl) (lim_of m11 (by omega)) _ (Lib.hid rfl) (Lib.hid (by omega))
end Go.Proofs.YtjeijmnhbckjdaaGreatDoor
