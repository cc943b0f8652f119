/- Words and contracts that the laws share, several texts in one. -/
import Derived.Test.YtclkkoiaaddllaaGreatQNAlpkn
import Derived.Test.YtclkkoiaaddllaaGreatQMBkbof
/- Contracts of the calculator: multiples, quotients. -/
namespace Go.Proofs.YtclkkoiaaddllaaGreat
open Go.RowKit
set_option linter.unusedVariables false

theorem one_yes (v : Value) (z : Int) (w : World) (hX : RI w v z) (h : z = 1) :
    Calls Tryz.prog 81 #[v] w fun e w' => e = .returned (.bool true) ∧ Ext w w' := by
  have := one_any v z w hX
  rwa [show decide (z = 1) = true by simpa using h] at this
theorem one_no (v : Value) (z : Int) (w : World) (hX : RI w v z) (h : z ≠ 1) :
    Calls Tryz.prog 81 #[v] w fun e w' => e = .returned (.bool false) ∧ Ext w w' := by
  have := one_any v z w hX
  rwa [show decide (z = 1) = false by simpa using h] at this
theorem Divide_in (v u : Value) (x y q r : Int) (w : World) (hX : RI w v x) (hY : RI w u y) (ax : x.natAbs < lim) (ay : y.natAbs < lim) (hy0 : y ≠ 0) (hq : q = x / y) (hr : r = x % y) :
    Calls Tryz.prog 93 #[v, u] w fun e w' => ∃ v, e = .returned v ∧ RetD q r 0 v w' ∧ Ext w w' := by
  subst hq hr
  exact Divide_ok v u x y w hX hY ax ay hy0

set_option maxRecDepth 100000 in
set_option maxHeartbeats 4000000 in
theorem escale_ok (gc : Nat) (v1 : Value) (x1 : Int) (m2 : Int) (w : World) (hc : Calm w gc) (hX1 : RI w v1 x1) (ax1 : x1.natAbs < lim) (l2 : -9223372036854775808 ≤ m2) (u2 : m2 ≤ 9223372036854775807)
    (a2 : Int) (E11 : Hid (a2 = x1 * (m2))) (A11 : a2.natAbs < lim)  :
    Calls Tryz.prog 89 #[.pointer (some ⟨gc, 0, none⟩), v1, .int .i64 m2] w fun e w' => ∃ v, e = .returned v ∧ RI w' v a2 ∧ Ext w w' := by
  have hS := St.start w
  obtain ⟨ae, af, ag, ah, rfl, hY1⟩ := hX1.opn
  replace hS := hS.addI hY1
  clear hX1 hY1
  replace hS := hS.addB hc trivial
  clear hc
  have o4 : Own w w.heap.size := Own.of hS.ext (by simp)
  have o6 : Own w (w.heap.size + 1) := Own.of hS.ext (by simp)
  go_enter Tryz.func89, Tryz.ntmps89
  go_wp2_with fail
  replace hS := (St.al (St.al hS 30 #[.bool ae, .slice af ag ah] (g := w.heap.size) (by simp)) 30 #[.bool false, .slice none 0 0] (g := (w.heap.size + 1)) (by simp))
  generalize ((w.alloc (.cells #[.bool ae, .slice af ag ah] 30)).alloc (.cells #[.bool false, .slice none 0 0] 30)) = w1 at hS ⊢
  generalize w.heap.size + 1 = g6 at hS o6 ⊢
  generalize w.heap.size = g4 at hS o4 ⊢
  have Y4 := ExtOf.blk (hS.blk 1 rfl)
  have hE_ := hS.ext
  refine wp_region_tame 5 (hasF [(3, .any), (4, .any)]) (Fcs [(3, .ri ((m2))), (4, .ri (a2))]) (Fcs_stab _) (by kernel_rfl) (by kernel_rfl) ?_
  simp only [tk1, tk0, dp1, dp0]
  refine wpT_quiet 3 (by rfl) (by kernel_rfl) ?_
  simp only [tk1, tk0, dp1, dp0]
  repeat (go_big_quiet_step (fail))
  refine wpQuiet_nil ?_
  refine wpT_eff (by rfl) (by rfl) (by rfl) ?_ ?_
  · intro W_ hK
    have hW := hK.1
    clear hK
    go_simp
    exact ⟨rfl, (Of_any (m2) _ l2 u2).mono fun e w' ⟨v, he, hR, hx⟩ => ⟨v, he, hx, hR⟩⟩
  intro v_ a3 a4 hr_
  obtain ⟨W_, hW_⟩ := hr_
  have hv_ : Fc.holds (.ri ((m2))) a3 a4 v_ W_ := hW_.get
  clear hW_
  obtain ⟨ab, a1, ac, ad, rfl, -⟩ := RI.opn hv_
  clear hv_
  clear W_
  try simp only [Act.put, sa0, sa1, sa2]
  refine wpT_eff (by rfl) (by rfl) (by rfl) ?_ ?_
  · intro W_ hK
    have hW := hK.1
    have a5 : RI W_ (iv ab a1 ac ad) (m2) := hK.2 3 ((iv ab a1 ac ad), a3, a4) (by rfl) (by kernel_rfl)
    clear hK
    go_simp
    exact ⟨rfl, (emul_ok gc _ _ x1 (m2) a2 _ (Blk.ext (hS.blk 2 rfl) hW) (RI.ext (hS.num 0 rfl) hW) a5 ax1 (lt_lim64 l2 u2) E11.out A11).mono fun e w' ⟨v, he, hR, hx⟩ => ⟨v, he, hx, hR⟩⟩
  intro v_ a6 a7 hr_
  obtain ⟨W_, hW_⟩ := hr_
  have hv_ : Fc.holds (.ri (a2)) a6 a7 v_ W_ := hW_.get
  clear hW_
  obtain ⟨a8, a0, a9, aa, rfl, -⟩ := RI.opn hv_
  clear hv_
  clear W_
  try simp only [Act.put, sa0, sa1, sa2]
  refine wpT_nil ?_
  intro w2 hK
  have hlt_ := hS.lt
  replace hS := hS.mv hK.ext
  replace hS := hS.addI (show RI w2 (iv ab a1 ac ad) (m2) from hK.at_ 3 (e := ((iv ab a1 ac ad), a3, a4)) (by rfl))
  replace hS := hS.addI (show RI w2 (iv a8 a0 a9 aa) a2 from hK.at_ 4 (e := ((iv a8 a0 a9 aa), a6, a7)) (by rfl))
  clear hK hlt_ hE_ Y4
  have k_1 := (hS.blk 0 rfl).cell
  have k_2 := (hS.blk 0 rfl).frozen
  go_wp2
  replace hS := (St.put (W' := ((w2.setCell ⟨g6, 0, none⟩ (.bool a8)).setCell ⟨g6, 1, none⟩ (.slice a0 a9 aa))) hS 0 0 [.bool a8, .slice a0 a9 aa] (cs' := #[.bool a8, .slice a0 a9 aa]) (bs' := _) rfl o6 rfl rfl rfl rfl)
  exact bp_int1 rfl rfl rfl (hS.blk 0 rfl) ⟨_, rfl, (hS.num 0 rfl), hS.ext⟩

set_option maxRecDepth 100000 in
set_option maxHeartbeats 4000000 in
theorem ediv_one (gc : Nat) (v1 : Value) (x1 : Int) (v2 : Value) (x2 : Int) (w : World) (hc : Calm w gc) (hX1 : RI w v1 x1) (ax1 : x1.natAbs < lim) (hX2 : RI w v2 x2) (ax2 : x2.natAbs < lim) (H1 : Hid (x2 = 1))
      :
    Calls Tryz.prog 88 #[.pointer (some ⟨gc, 0, none⟩), v1, v2] w fun e w' => ∃ v, e = .returned v ∧ RI w' v x1 ∧ Ext w w' := by
  have hS := St.start w
  obtain ⟨a2, a3, a4, a5, rfl, hY1⟩ := hX1.opn
  replace hS := hS.addI hY1
  clear hX1 hY1
  obtain ⟨a6, a7, a8, a9, rfl, hY2⟩ := hX2.opn
  replace hS := hS.addI hY2
  clear hX2 hY2
  replace hS := hS.addB hc trivial
  clear hc
  have o4 : Own w w.heap.size := Own.of hS.ext (by simp)
  have o5 : Own w (w.heap.size + 1) := Own.of hS.ext (by simp)
  have o6 : Own w (w.heap.size + 2) := Own.of hS.ext (by simp)
  have ad := (St.al (St.al (St.al hS 30 #[.bool a2, .slice a3 a4 a5] (g := w.heap.size) (by simp)) 30 #[.bool a6, .slice a7 a8 a9] (g := (w.heap.size + 1)) (by simp)) 30 #[.bool false, .slice none 0 0] (g := (w.heap.size + 2)) (by simp))
  have k_1 := (ad.blk 1 rfl).cell
  go_enter Tryz.func88, Tryz.ntmps88
  go_wp2_with fail
  clear k_1
  clear ad
  replace hS := (St.al (St.al (St.al hS 30 #[.bool a2, .slice a3 a4 a5] (g := w.heap.size) (by simp)) 30 #[.bool a6, .slice a7 a8 a9] (g := (w.heap.size + 1)) (by simp)) 30 #[.bool false, .slice none 0 0] (g := (w.heap.size + 2)) (by simp))
  generalize (((w.alloc (.cells #[.bool a2, .slice a3 a4 a5] 30)).alloc (.cells #[.bool a6, .slice a7 a8 a9] 30)).alloc (.cells #[.bool false, .slice none 0 0] 30)) = w1 at hS ⊢
  generalize w.heap.size + 2 = g6 at hS o6 ⊢
  generalize w.heap.size + 1 = g5 at hS o5 ⊢
  generalize w.heap.size = g4 at hS o4 ⊢
  refine (one_yes _ x2 _ (hS.num 0 rfl) H1.out).mono ?_
  rintro e w2 ⟨rfl, hx_⟩
  replace hS := hS.mv hx_
  clear hx_
  have k_2 := (hS.blk 2 rfl).cell
  go_wp2_with fail
  clear k_2
  refine (eclone_any _ x1 _ (hS.num 1 rfl) ax1).mono ?_
  rintro e w3 ⟨v_, rfl, hv_, hx_⟩
  replace hS := hS.mv hx_
  clear hx_
  obtain ⟨aa, a1, ab, ac, rfl, a0⟩ := RI.opn hv_
  clear hv_
  replace hS := hS.addI a0
  clear a0
  have k_3 := (hS.blk 0 rfl).cell
  have k_4 := (hS.blk 0 rfl).frozen
  go_wp2
  replace hS := (St.put (W' := ((w3.setCell ⟨g6, 0, none⟩ (.bool aa)).setCell ⟨g6, 1, none⟩ (.slice a1 ab ac))) hS 0 0 [.bool aa, .slice a1 ab ac] (cs' := #[.bool aa, .slice a1 ab ac]) (bs' := _) rfl o6 rfl rfl rfl rfl)
  exact bp_int1 rfl rfl rfl (hS.blk 0 rfl) ⟨_, rfl, (hS.num 0 rfl), hS.ext⟩

set_option maxRecDepth 100000 in
set_option maxHeartbeats 4000000 in
theorem ediv_ne (gc : Nat) (v1 : Value) (x1 : Int) (v2 : Value) (x2 : Int) (w : World) (hc : Calm w gc) (hX1 : RI w v1 x1) (ax1 : x1.natAbs < lim) (hX2 : RI w v2 x2) (ax2 : x2.natAbs < lim) (H1 : Hid (x2 ≠ 1))
    (a1 : Int) (ae : Hid (a1 = x1 / x2)) (A17q : a1.natAbs < lim)
    (ad : Int) (af : Hid (ad = x1 % x2))
    (N17 : Hid (x2 ≠ 0))  :
    Calls Tryz.prog 88 #[.pointer (some ⟨gc, 0, none⟩), v1, v2] w fun e w' => ∃ v, e = .returned v ∧ RI w' v a1 ∧ Ext w w' := by
  have hS := St.start w
  obtain ⟨ag, ah, ai, aj, rfl, hY1⟩ := hX1.opn
  replace hS := hS.addI hY1
  clear hX1 hY1
  obtain ⟨ak, am, an, ao, rfl, hY2⟩ := hX2.opn
  replace hS := hS.addI hY2
  clear hX2 hY2
  replace hS := hS.addB hc trivial
  clear hc
  have o4 : Own w w.heap.size := Own.of hS.ext (by simp)
  have o5 : Own w (w.heap.size + 1) := Own.of hS.ext (by simp)
  have o6 : Own w (w.heap.size + 2) := Own.of hS.ext (by simp)
  have aw := (St.al (St.al (St.al hS 30 #[.bool ag, .slice ah ai aj] (g := w.heap.size) (by simp)) 30 #[.bool ak, .slice am an ao] (g := (w.heap.size + 1)) (by simp)) 30 #[.bool false, .slice none 0 0] (g := (w.heap.size + 2)) (by simp))
  have k_1 := (aw.blk 1 rfl).cell
  go_enter Tryz.func88, Tryz.ntmps88
  go_wp2_with fail
  clear k_1
  clear aw
  replace hS := (St.al (St.al (St.al hS 30 #[.bool ag, .slice ah ai aj] (g := w.heap.size) (by simp)) 30 #[.bool ak, .slice am an ao] (g := (w.heap.size + 1)) (by simp)) 30 #[.bool false, .slice none 0 0] (g := (w.heap.size + 2)) (by simp))
  generalize (((w.alloc (.cells #[.bool ag, .slice ah ai aj] 30)).alloc (.cells #[.bool ak, .slice am an ao] 30)).alloc (.cells #[.bool false, .slice none 0 0] 30)) = w1 at hS ⊢
  generalize w.heap.size + 2 = g6 at hS o6 ⊢
  generalize w.heap.size + 1 = g5 at hS o5 ⊢
  generalize w.heap.size = g4 at hS o4 ⊢
  refine (one_no _ x2 _ (hS.num 0 rfl) H1.out).mono ?_
  rintro e w2 ⟨rfl, hx_⟩
  replace hS := hS.mv hx_
  clear hx_
  have k_2 := (hS.blk 2 rfl).cell
  have k_3 := (hS.blk 1 rfl).cell
  go_wp2_with fail
  clear k_2 k_3
  refine (Divide_in _ _ x1 x2 a1 ad _ (hS.num 1 rfl) (hS.num 0 rfl) ax1 ax2 N17.out ae.out af.out).mono ?_
  rintro e w3 ⟨v_, rfl, hv_, hx_⟩
  replace hS := hS.mv hx_
  clear hx_
  obtain ⟨_, _, rfl, hv1_, hv2_⟩ := hv_
  obtain ⟨a5, a0, a6, a7, rfl, a2⟩ := RI.opn hv1_
  obtain ⟨a9, a3, aa, ab, rfl, a4⟩ := RI.opn hv2_
  clear hv1_ hv2_
  replace hS := hS.addI a2
  clear a2
  replace hS := hS.addI a4
  clear a4
  have o7 : Own w w3.heap.size := Own.of hS.ext (by simp)
  have o8 : Own w (w3.heap.size + 1) := Own.of hS.ext (by simp)
  have ap := (St.al (St.al hS 30 #[.bool false, .slice none 0 0] (g := w3.heap.size) (by simp)) 30 #[.bool false, .slice none 0 0] (g := (w3.heap.size + 1)) (by simp))
  have k_4 := (ap.blk 1 rfl).cell
  have k_5 := (ap.blk 1 rfl).frozen
  have aq := (St.al (St.al hS 30 #[.bool a5, .slice a0 a6 a7] (g := w3.heap.size) (by simp)) 30 #[.bool false, .slice none 0 0] (g := (w3.heap.size + 1)) (by simp))
  have k_6 := (aq.blk 0 rfl).cell
  have k_7 := (aq.blk 0 rfl).frozen
  have ax := (St.al (St.al hS 30 #[.bool a5, .slice a0 a6 a7] (g := w3.heap.size) (by simp)) 30 #[.bool a9, .slice a3 aa ab] (g := (w3.heap.size + 1)) (by simp))
  have k_8 := (ax.blk 1 rfl).cell
  go_wp2_with fail
  clear k_4 k_5 k_6 k_7 k_8
  clear ap aq ax
  replace hS := (St.al (St.al hS 30 #[.bool a5, .slice a0 a6 a7] (g := w3.heap.size) (by simp)) 30 #[.bool a9, .slice a3 aa ab] (g := (w3.heap.size + 1)) (by simp))
  generalize ((w3.alloc (.cells #[.bool a5, .slice a0 a6 a7] 30)).alloc (.cells #[.bool a9, .slice a3 aa ab] 30)) = w4 at hS ⊢
  generalize w3.heap.size + 1 = g8 at hS o8 ⊢
  generalize w3.heap.size = g7 at hS o7 ⊢
  refine (keep_ok gc _ a1 _ (hS.blk 5 rfl) (hS.num 1 rfl)).mono ?_
  rintro e w5 ⟨v_, rfl, hv_, hx_⟩
  replace hS := hS.mv hx_
  clear hx_
  obtain ⟨ar, ac, au, av, rfl, a8⟩ := RI.opn hv_
  clear hv_
  replace hS := hS.addI a8
  clear a8
  have k_9 := (hS.blk 2 rfl).cell
  have k_10 := (hS.blk 2 rfl).frozen
  go_wp2
  replace hS := (St.put (W' := ((w5.setCell ⟨g6, 0, none⟩ (.bool ar)).setCell ⟨g6, 1, none⟩ (.slice ac au av))) hS 2 0 [.bool ar, .slice ac au av] (cs' := #[.bool ar, .slice ac au av]) (bs' := _) rfl o6 rfl rfl rfl rfl)
  exact bp_int1 rfl rfl rfl (hS.blk 2 rfl) ⟨_, rfl, (hS.num 0 rfl), hS.ext⟩

theorem div_abs {x y : Int} (ax : x.natAbs < lim) (hy : y ∣ x) : (x / y).natAbs < lim := by
  obtain ⟨k, rfl⟩ := hy
  by_cases h0 : y = 0
  · subst h0; simpa using lim_pos
  · rw [Int.mul_ediv_cancel_left _ h0]
    rw [Int.natAbs_mul] at ax
    exact Nat.lt_of_le_of_lt (Nat.le_mul_of_pos_left _ (by omega)) ax
theorem ediv_ok (gc : Nat) (a b : Value) (x y z : Int) (w : World) (hc : Calm w gc) (hX : RI w a x) (hY : RI w b y) (ax : x.natAbs < lim) (ay : y.natAbs < lim) (hy : y ≠ 0) (hd : y ∣ x) (hz : z = x / y) :
    Calls Tryz.prog 88 #[.pointer (some ⟨gc, 0, none⟩), a, b] w fun e w' => ∃ v, e = .returned v ∧ RI w' v z ∧ Ext w w' := by
  by_cases h1 : y = 1
  · have e : z = x := by rw [hz, h1]; omega
    rw [e]
    exact ediv_one gc a x b y w hc hX ax hY ay (Lib.hid h1)
  · subst hz
    exact ediv_ne gc a x b y w hc hX ax hY ay (Lib.hid h1) _ (Lib.hid rfl) (div_abs ax hd) _ (Lib.hid rfl) (Lib.hid hy)
end Go.Proofs.YtclkkoiaaddllaaGreat

/- Contracts of the calculator: lowest terms. -/
namespace Go.Proofs.YtclkkoiaaddllaaGreat
open Go.RowKit
set_option linter.unusedVariables false

theorem cmpZ_neg {x : Int} (h : x < 0) : cmpZ x 0 = -1 := by unfold cmpZ; rw [if_pos h]
theorem cmpZ_pos {x : Int} (h : 0 < x) : cmpZ x 0 = 1 := by unfold cmpZ; rw [if_neg (by omega), if_pos h]
theorem cmpZ_zero {x : Int} (h : x = 0) : cmpZ x 0 = 0 := by subst h; rfl

theorem Sign_at (v : Value) (x k : Int) (w : World) (hX : RI w v x) (ax : x.natAbs < lim) (h : cmpZ x 0 = k) :
    Calls Tryz.prog 80 #[v] w fun e w' => e = .returned (.int .i64 k) ∧ Ext w w' := by
  have := Sign_ok v x w hX ax
  rwa [h] at this
theorem rSign_at (v : Value) (x k : Int) (w : World) (hX : RI w v x) (ax : x.natAbs < lim) (h : cmpZ x 0 = k) :
    Calls Tryz.prog 51 #[v] w fun e w' => e = .returned (.int .i64 k) ∧ Ext w w' := by
  have := rSign_ok v x w hX ax
  rwa [h] at this
set_option maxRecDepth 100000 in
set_option maxHeartbeats 4000000 in
theorem ereduce_neg (gc : Nat) (v1 : Value) (x1 : Int) (v2 : Value) (x2 : Int) (v3 : Value) (x3 : Int) (w : World) (hc : Calm w gc) (hX1 : RI w v1 x1) (aU : x1.natAbs < lim) (hX2 : RI w v2 x2) (aV : x2.natAbs < lim) (hX3 : RI w v3 x3) (aK : x3.natAbs < lim) (H1 : Hid (x3 < 0))
    (ae : Int) (E15 : Hid (ae = (gcdL [x3, x1, x2] : Nat))) (A15 : ae.natAbs < lim)
    (a0 : Int) (E21 : Hid (a0 = -ae)) (aL : a0.natAbs < lim)
    (a7 : Int) (E31 : Hid (a7 = x1 / a0)) (A31 : a7.natAbs < lim)
    (N31 : Hid (a0 ≠ 0))
    (aM : Hid (a0 ∣ x1))
    (a8 : Int) (E35 : Hid (a8 = x2 / a0)) (A35 : a8.natAbs < lim)
    (N35 : Hid (a0 ≠ 0))
    (aN : Hid (a0 ∣ x2))
    (a9 : Int) (E39 : Hid (a9 = x3 / a0)) (A39 : a9.natAbs < lim)
    (N39 : Hid (a0 ≠ 0))
    (aO : Hid (a0 ∣ x3))  :
    Calls Tryz.prog 63 #[.pointer (some ⟨gc, 0, none⟩), v1, v2, v3] w fun e w' => ∃ v, e = .returned v ∧ RG w' v a7 a8 a9 ∧ Ext w w' := by
  have hS := St.start w
  obtain ⟨af, ag, ah, ai, rfl, hY1⟩ := hX1.opn
  replace hS := hS.addI hY1
  clear hX1 hY1
  obtain ⟨aj, ak, am, an, rfl, hY2⟩ := hX2.opn
  replace hS := hS.addI hY2
  clear hX2 hY2
  obtain ⟨ao, ap, aq, ar, rfl, hY3⟩ := hX3.opn
  replace hS := hS.addI hY3
  clear hX3 hY3
  replace hS := hS.addB hc trivial
  clear hc
  have o5 : Own w w.heap.size := Own.of hS.ext (by simp)
  have o6 : Own w (w.heap.size + 1) := Own.of hS.ext (by simp)
  have o7 : Own w (w.heap.size + 2) := Own.of hS.ext (by simp)
  have o8 : Own w (w.heap.size + 3) := Own.of hS.ext (by simp)
  have aJ := (St.al (St.al (St.al (St.al hS 30 #[.bool af, .slice ag ah ai] (g := w.heap.size) (by simp)) 30 #[.bool aj, .slice ak am an] (g := (w.heap.size + 1)) (by simp)) 30 #[.bool ao, .slice ap aq ar] (g := (w.heap.size + 2)) (by simp)) 32 #[.bool false, .slice none 0 0, .bool false, .slice none 0 0, .bool false, .slice none 0 0] (g := (w.heap.size + 3)) (by simp))
  have k_1 := (aJ.blk 1 rfl).cell
  have k_2 := (aJ.blk 3 rfl).cell
  have k_3 := (aJ.blk 2 rfl).cell
  have o14 : Own w (w.heap.size + 4) := Own.of hS.ext (by simp)
  go_enter Tryz.func63, Tryz.ntmps63
  go_wp2_with fail
  clear k_1 k_2 k_3
  clear aJ
  replace hS := (St.al (St.al (St.al (St.al (St.al hS 30 #[.bool af, .slice ag ah ai] (g := w.heap.size) (by simp)) 30 #[.bool aj, .slice ak am an] (g := (w.heap.size + 1)) (by simp)) 30 #[.bool ao, .slice ap aq ar] (g := (w.heap.size + 2)) (by simp)) 32 #[.bool false, .slice none 0 0, .bool false, .slice none 0 0, .bool false, .slice none 0 0] (g := (w.heap.size + 3)) (by simp)) 30 #[.bool ao, .slice ap aq ar, .bool af, .slice ag ah ai, .bool aj, .slice ak am an] (g := (w.heap.size + 4)) (by simp))
  generalize (((((w.alloc (.cells #[.bool af, .slice ag ah ai] 30)).alloc (.cells #[.bool aj, .slice ak am an] 30)).alloc (.cells #[.bool ao, .slice ap aq ar] 30)).alloc (.cells #[.bool false, .slice none 0 0, .bool false, .slice none 0 0, .bool false, .slice none 0 0] 32)).alloc (.cells #[.bool ao, .slice ap aq ar, .bool af, .slice ag ah ai, .bool aj, .slice ak am an] 30)) = w1 at hS ⊢
  generalize w.heap.size + 4 = g14 at hS o14 ⊢
  generalize w.heap.size + 3 = g8 at hS o8 ⊢
  generalize w.heap.size + 2 = g7 at hS o7 ⊢
  generalize w.heap.size + 1 = g6 at hS o6 ⊢
  generalize w.heap.size = g5 at hS o5 ⊢
  refine (egcd3_ok gc g14 x3 x1 x2 ae _ (hS.blk 5 rfl) (hS.blk 0 rfl) (hS.num 0 rfl) (hS.num 2 rfl) (hS.num 1 rfl) aK aU aV E15).mono ?_
  rintro e w2 ⟨v_, rfl, hv_, hx_⟩
  replace hS := hS.mv hx_
  clear hx_
  obtain ⟨aP, aa, aQ, aR, rfl, a5⟩ := RI.opn hv_
  clear hv_
  replace hS := hS.addI a5
  clear a5
  have o9 : Own w w2.heap.size := Own.of hS.ext (by simp)
  have aS := (St.al hS 30 #[.bool false, .slice none 0 0] (g := w2.heap.size) (by simp))
  have k_4 := (aS.blk 0 rfl).cell
  have k_5 := (aS.blk 0 rfl).frozen
  have aW := (St.al hS 30 #[.bool aP, .slice aa aQ aR] (g := w2.heap.size) (by simp))
  have k_6 := (aW.blk 3 rfl).cell
  go_wp2_with fail
  clear k_4 k_5 k_6
  clear aS aW
  replace hS := (St.al hS 30 #[.bool aP, .slice aa aQ aR] (g := w2.heap.size) (by simp))
  generalize (w2.alloc (.cells #[.bool aP, .slice aa aQ aR] 30)) = w3 at hS ⊢
  generalize w2.heap.size = g9 at hS o9 ⊢
  refine (Sign_at _ x3 (-1) _ (hS.num 1 rfl) aK (cmpZ_neg H1.out)).mono ?_
  rintro e w4 ⟨rfl, hx_⟩
  replace hS := hS.mv hx_
  clear hx_
  have k_7 := (hS.blk 0 rfl).cell
  go_wp2_with fail
  clear k_7
  refine (eneg_ok gc _ ae a0 _ (hS.blk 6 rfl) (hS.num 0 rfl) A15 E21.out).mono ?_
  rintro e w5 ⟨v_, rfl, hv_, hx_⟩
  replace hS := hS.mv hx_
  clear hx_
  obtain ⟨ab, a1, ac, ad, rfl, a6⟩ := RI.opn hv_
  clear hv_
  replace hS := hS.addI a6
  clear a6
  have k_8 := (hS.blk 0 rfl).cell
  have k_9 := (hS.blk 0 rfl).frozen
  have aX := (St.put (W' := ((w5.setCell ⟨g9, 0, none⟩ (.bool ab)).setCell ⟨g9, 1, none⟩ (.slice a1 ac ad))) hS 0 0 [.bool ab, .slice a1 ac ad] (cs' := #[.bool ab, .slice a1 ac ad]) (bs' := _) rfl o9 rfl rfl rfl rfl)
  have aT := (aX.blk 6 rfl).cell
  go_wp2_with fail
  clear k_8 k_9 aT
  clear aX
  replace hS := (St.put (W' := ((w5.setCell ⟨g9, 0, none⟩ (.bool ab)).setCell ⟨g9, 1, none⟩ (.slice a1 ac ad))) hS 0 0 [.bool ab, .slice a1 ac ad] (cs' := #[.bool ab, .slice a1 ac ad]) (bs' := _) rfl o9 rfl rfl rfl rfl)
  simp only [List.set_cons_zero] at hS
  generalize ((w5.setCell ⟨g9, 0, none⟩ (.bool ab)).setCell ⟨g9, 1, none⟩ (.slice a1 ac ad)) = w6 at hS ⊢
  have Y9 := ExtOf.blk (hS.blk 0 rfl)
  have Y7 := ExtOf.blk (hS.blk 3 rfl)
  have Y6 := ExtOf.blk (hS.blk 4 rfl)
  have Y5 := ExtOf.blk (hS.blk 5 rfl)
  have hE_ := hS.ext
  refine wp_region_tame 13 (hasF [(3, .any), (7, .any), (11, .any)]) (Fcs [(3, .ri (a7)), (7, .ri (a8)), (11, .ri (a9))]) (Fcs_stab _) (by kernel_rfl) (by kernel_rfl) ?_
  simp only [tk1, tk0, dp1, dp0]
  refine wpT_quiet 3 (by rfl) (by kernel_rfl) ?_
  simp only [tk1, tk0, dp1, dp0]
  repeat (go_big_quiet_step (fail))
  refine wpQuiet_nil ?_
  refine wpT_eff (by rfl) (by rfl) (by rfl) ?_ ?_
  · intro W_ hK
    have hW := hK.1
    clear hK
    go_simp
    exact ⟨rfl, (ediv_ok gc _ _ x1 a0 a7 _ (Blk.ext (hS.blk 6 rfl) hW) (RI.ext (hS.num 4 rfl) hW) (RI.ext (hS.num 0 rfl) hW) aU aL N31.out aM.out E31.out).mono fun e w' ⟨v, he, hR, hx⟩ => ⟨v, he, hx, hR⟩⟩
  intro v_ au av hr_
  obtain ⟨W_, hW_⟩ := hr_
  have hv_ : Fc.holds (.ri (a7)) au av v_ W_ := hW_.get
  clear hW_
  obtain ⟨aw, a2, ax, ay, rfl, -⟩ := RI.opn hv_
  clear hv_
  clear W_
  try simp only [Act.put, sa0, sa1, sa2]
  refine wpT_quiet 3 (by rfl) (by kernel_rfl) ?_
  simp only [tk1, tk0, dp1, dp0]
  repeat (go_big_quiet_step (fail))
  refine wpQuiet_nil ?_
  refine wpT_eff (by rfl) (by rfl) (by rfl) ?_ ?_
  · intro W_ hK
    have hW := hK.1
    clear hK
    go_simp
    exact ⟨rfl, (ediv_ok gc _ _ x2 a0 a8 _ (Blk.ext (hS.blk 6 rfl) hW) (RI.ext (hS.num 3 rfl) hW) (RI.ext (hS.num 0 rfl) hW) aV aL N35.out aN.out E35.out).mono fun e w' ⟨v, he, hR, hx⟩ => ⟨v, he, hx, hR⟩⟩
  intro v_ az aA hr_
  obtain ⟨W_, hW_⟩ := hr_
  have hv_ : Fc.holds (.ri (a8)) az aA v_ W_ := hW_.get
  clear hW_
  obtain ⟨aB, a3, aC, aD, rfl, -⟩ := RI.opn hv_
  clear hv_
  clear W_
  try simp only [Act.put, sa0, sa1, sa2]
  refine wpT_quiet 3 (by rfl) (by kernel_rfl) ?_
  simp only [tk1, tk0, dp1, dp0]
  repeat (go_big_quiet_step (fail))
  refine wpQuiet_nil ?_
  refine wpT_eff (by rfl) (by rfl) (by rfl) ?_ ?_
  · intro W_ hK
    have hW := hK.1
    clear hK
    go_simp
    exact ⟨rfl, (ediv_ok gc _ _ x3 a0 a9 _ (Blk.ext (hS.blk 6 rfl) hW) (RI.ext (hS.num 2 rfl) hW) (RI.ext (hS.num 0 rfl) hW) aK aL N39.out aO.out E39.out).mono fun e w' ⟨v, he, hR, hx⟩ => ⟨v, he, hx, hR⟩⟩
  intro v_ aE aF hr_
  obtain ⟨W_, hW_⟩ := hr_
  have hv_ : Fc.holds (.ri (a9)) aE aF v_ W_ := hW_.get
  clear hW_
  obtain ⟨aG, a4, aH, aI, rfl, -⟩ := RI.opn hv_
  clear hv_
  clear W_
  try simp only [Act.put, sa0, sa1, sa2]
  refine wpT_quiet 1 (by rfl) (by kernel_rfl) ?_
  simp only [tk1, tk0, dp1, dp0]
  repeat (go_big_quiet_step (fail))
  refine wpQuiet_nil ?_
  refine wpT_nil ?_
  intro w7 hK
  have hlt_ := hS.lt
  replace hS := hS.mv hK.ext
  replace hS := hS.addI (show RI w7 (iv aw a2 ax ay) a7 from hK.at_ 3 (e := ((iv aw a2 ax ay), au, av)) (by rfl))
  replace hS := hS.addI (show RI w7 (iv aB a3 aC aD) a8 from hK.at_ 7 (e := ((iv aB a3 aC aD), az, aA)) (by rfl))
  replace hS := hS.addI (show RI w7 (iv aG a4 aH aI) a9 from hK.at_ 11 (e := ((iv aG a4 aH aI), aE, aF)) (by rfl))
  clear hK hlt_ hE_ Y9 Y7 Y6 Y5
  have k_11 := (hS.blk 2 rfl).cell
  have k_12 := (hS.blk 2 rfl).frozen
  go_wp2
  replace hS := (St.put (W' := ((((((w7.setCell ⟨g8, 0, none⟩ (.bool aw)).setCell ⟨g8, 1, none⟩ (.slice a2 ax ay)).setCell ⟨g8, 2, none⟩ (.bool aB)).setCell ⟨g8, 3, none⟩ (.slice a3 aC aD)).setCell ⟨g8, 4, none⟩ (.bool aG)).setCell ⟨g8, 5, none⟩ (.slice a4 aH aI))) hS 2 0 [.bool aw, .slice a2 ax ay, .bool aB, .slice a3 aC aD, .bool aG, .slice a4 aH aI] (cs' := #[.bool aw, .slice a2 ax ay, .bool aB, .slice a3 aC aD, .bool aG, .slice a4 aH aI]) (bs' := _) rfl o8 rfl rfl rfl rfl)
  exact bp_gauss1 rfl rfl rfl (hS.blk 2 rfl) ⟨_, rfl, RG.mk (hS.num 2 rfl) (hS.num 1 rfl) (hS.num 0 rfl), hS.ext⟩

set_option maxRecDepth 100000 in
set_option maxHeartbeats 4000000 in
theorem ereduce_pos (gc : Nat) (v1 : Value) (x1 : Int) (v2 : Value) (x2 : Int) (v3 : Value) (x3 : Int) (w : World) (hc : Calm w gc) (hX1 : RI w v1 x1) (aN : x1.natAbs < lim) (hX2 : RI w v2 x2) (aO : x2.natAbs < lim) (hX3 : RI w v3 x3) (aE : x3.natAbs < lim) (H1 : Hid (0 < x3))
    (a0 : Int) (E15 : Hid (a0 = (gcdL [x3, x1, x2] : Nat))) (aF : a0.natAbs < lim)
    (a5 : Int) (E31 : Hid (a5 = x1 / a0)) (A31 : a5.natAbs < lim)
    (N31 : Hid (a0 ≠ 0))
    (aG : Hid (a0 ∣ x1))
    (a6 : Int) (E35 : Hid (a6 = x2 / a0)) (A35 : a6.natAbs < lim)
    (N35 : Hid (a0 ≠ 0))
    (aH : Hid (a0 ∣ x2))
    (a7 : Int) (E39 : Hid (a7 = x3 / a0)) (A39 : a7.natAbs < lim)
    (N39 : Hid (a0 ≠ 0))
    (aI : Hid (a0 ∣ x3))  :
    Calls Tryz.prog 63 #[.pointer (some ⟨gc, 0, none⟩), v1, v2, v3] w fun e w' => ∃ v, e = .returned v ∧ RG w' v a5 a6 a7 ∧ Ext w w' := by
  have hS := St.start w
  obtain ⟨a9, aa, ab, ac, rfl, hY1⟩ := hX1.opn
  replace hS := hS.addI hY1
  clear hX1 hY1
  obtain ⟨ad, ae, af, ag, rfl, hY2⟩ := hX2.opn
  replace hS := hS.addI hY2
  clear hX2 hY2
  obtain ⟨ah, ai, aj, ak, rfl, hY3⟩ := hX3.opn
  replace hS := hS.addI hY3
  clear hX3 hY3
  replace hS := hS.addB hc trivial
  clear hc
  have o5 : Own w w.heap.size := Own.of hS.ext (by simp)
  have o6 : Own w (w.heap.size + 1) := Own.of hS.ext (by simp)
  have o7 : Own w (w.heap.size + 2) := Own.of hS.ext (by simp)
  have o8 : Own w (w.heap.size + 3) := Own.of hS.ext (by simp)
  have aD := (St.al (St.al (St.al (St.al hS 30 #[.bool a9, .slice aa ab ac] (g := w.heap.size) (by simp)) 30 #[.bool ad, .slice ae af ag] (g := (w.heap.size + 1)) (by simp)) 30 #[.bool ah, .slice ai aj ak] (g := (w.heap.size + 2)) (by simp)) 32 #[.bool false, .slice none 0 0, .bool false, .slice none 0 0, .bool false, .slice none 0 0] (g := (w.heap.size + 3)) (by simp))
  have k_1 := (aD.blk 1 rfl).cell
  have k_2 := (aD.blk 3 rfl).cell
  have k_3 := (aD.blk 2 rfl).cell
  have o14 : Own w (w.heap.size + 4) := Own.of hS.ext (by simp)
  go_enter Tryz.func63, Tryz.ntmps63
  go_wp2_with fail
  clear k_1 k_2 k_3
  clear aD
  replace hS := (St.al (St.al (St.al (St.al (St.al hS 30 #[.bool a9, .slice aa ab ac] (g := w.heap.size) (by simp)) 30 #[.bool ad, .slice ae af ag] (g := (w.heap.size + 1)) (by simp)) 30 #[.bool ah, .slice ai aj ak] (g := (w.heap.size + 2)) (by simp)) 32 #[.bool false, .slice none 0 0, .bool false, .slice none 0 0, .bool false, .slice none 0 0] (g := (w.heap.size + 3)) (by simp)) 30 #[.bool ah, .slice ai aj ak, .bool a9, .slice aa ab ac, .bool ad, .slice ae af ag] (g := (w.heap.size + 4)) (by simp))
  generalize (((((w.alloc (.cells #[.bool a9, .slice aa ab ac] 30)).alloc (.cells #[.bool ad, .slice ae af ag] 30)).alloc (.cells #[.bool ah, .slice ai aj ak] 30)).alloc (.cells #[.bool false, .slice none 0 0, .bool false, .slice none 0 0, .bool false, .slice none 0 0] 32)).alloc (.cells #[.bool ah, .slice ai aj ak, .bool a9, .slice aa ab ac, .bool ad, .slice ae af ag] 30)) = w1 at hS ⊢
  generalize w.heap.size + 4 = g14 at hS o14 ⊢
  generalize w.heap.size + 3 = g8 at hS o8 ⊢
  generalize w.heap.size + 2 = g7 at hS o7 ⊢
  generalize w.heap.size + 1 = g6 at hS o6 ⊢
  generalize w.heap.size = g5 at hS o5 ⊢
  refine (egcd3_ok gc g14 x3 x1 x2 a0 _ (hS.blk 5 rfl) (hS.blk 0 rfl) (hS.num 0 rfl) (hS.num 2 rfl) (hS.num 1 rfl) aE aN aO E15).mono ?_
  rintro e w2 ⟨v_, rfl, hv_, hx_⟩
  replace hS := hS.mv hx_
  clear hx_
  obtain ⟨aJ, a8, aK, aL, rfl, a4⟩ := RI.opn hv_
  clear hv_
  replace hS := hS.addI a4
  clear a4
  have o9 : Own w w2.heap.size := Own.of hS.ext (by simp)
  have aM := (St.al hS 30 #[.bool false, .slice none 0 0] (g := w2.heap.size) (by simp))
  have k_4 := (aM.blk 0 rfl).cell
  have k_5 := (aM.blk 0 rfl).frozen
  have aP := (St.al hS 30 #[.bool aJ, .slice a8 aK aL] (g := w2.heap.size) (by simp))
  have k_6 := (aP.blk 3 rfl).cell
  go_wp2_with fail
  clear k_4 k_5 k_6
  clear aM aP
  replace hS := (St.al hS 30 #[.bool aJ, .slice a8 aK aL] (g := w2.heap.size) (by simp))
  generalize (w2.alloc (.cells #[.bool aJ, .slice a8 aK aL] 30)) = w3 at hS ⊢
  generalize w2.heap.size = g9 at hS o9 ⊢
  refine (Sign_at _ x3 (1) _ (hS.num 1 rfl) aE (cmpZ_pos H1.out)).mono ?_
  rintro e w4 ⟨rfl, hx_⟩
  replace hS := hS.mv hx_
  clear hx_
  have k_7 := (hS.blk 6 rfl).cell
  go_wp2_with fail
  clear k_7
  have Y9 := ExtOf.blk (hS.blk 0 rfl)
  have Y7 := ExtOf.blk (hS.blk 3 rfl)
  have Y6 := ExtOf.blk (hS.blk 4 rfl)
  have Y5 := ExtOf.blk (hS.blk 5 rfl)
  have hE_ := hS.ext
  refine wp_region_tame 13 (hasF [(3, .any), (7, .any), (11, .any)]) (Fcs [(3, .ri (a5)), (7, .ri (a6)), (11, .ri (a7))]) (Fcs_stab _) (by kernel_rfl) (by kernel_rfl) ?_
  simp only [tk1, tk0, dp1, dp0]
  refine wpT_quiet 3 (by rfl) (by kernel_rfl) ?_
  simp only [tk1, tk0, dp1, dp0]
  repeat (go_big_quiet_step (fail))
  refine wpQuiet_nil ?_
  refine wpT_eff (by rfl) (by rfl) (by rfl) ?_ ?_
  · intro W_ hK
    have hW := hK.1
    clear hK
    go_simp
    exact ⟨rfl, (ediv_ok gc _ _ x1 a0 a5 _ (Blk.ext (hS.blk 6 rfl) hW) (RI.ext (hS.num 3 rfl) hW) (RI.ext (hS.num 0 rfl) hW) aN aF N31.out aG.out E31.out).mono fun e w' ⟨v, he, hR, hx⟩ => ⟨v, he, hx, hR⟩⟩
  intro v_ am an hr_
  obtain ⟨W_, hW_⟩ := hr_
  have hv_ : Fc.holds (.ri (a5)) am an v_ W_ := hW_.get
  clear hW_
  obtain ⟨ao, a1, ap, aq, rfl, -⟩ := RI.opn hv_
  clear hv_
  clear W_
  try simp only [Act.put, sa0, sa1, sa2]
  refine wpT_quiet 3 (by rfl) (by kernel_rfl) ?_
  simp only [tk1, tk0, dp1, dp0]
  repeat (go_big_quiet_step (fail))
  refine wpQuiet_nil ?_
  refine wpT_eff (by rfl) (by rfl) (by rfl) ?_ ?_
  · intro W_ hK
    have hW := hK.1
    clear hK
    go_simp
    exact ⟨rfl, (ediv_ok gc _ _ x2 a0 a6 _ (Blk.ext (hS.blk 6 rfl) hW) (RI.ext (hS.num 2 rfl) hW) (RI.ext (hS.num 0 rfl) hW) aO aF N35.out aH.out E35.out).mono fun e w' ⟨v, he, hR, hx⟩ => ⟨v, he, hx, hR⟩⟩
  intro v_ ar au hr_
  obtain ⟨W_, hW_⟩ := hr_
  have hv_ : Fc.holds (.ri (a6)) ar au v_ W_ := hW_.get
  clear hW_
  obtain ⟨av, a2, aw, ax, rfl, -⟩ := RI.opn hv_
  clear hv_
  clear W_
  try simp only [Act.put, sa0, sa1, sa2]
  refine wpT_quiet 3 (by rfl) (by kernel_rfl) ?_
  simp only [tk1, tk0, dp1, dp0]
  repeat (go_big_quiet_step (fail))
  refine wpQuiet_nil ?_
  refine wpT_eff (by rfl) (by rfl) (by rfl) ?_ ?_
  · intro W_ hK
    have hW := hK.1
    clear hK
    go_simp
    exact ⟨rfl, (ediv_ok gc _ _ x3 a0 a7 _ (Blk.ext (hS.blk 6 rfl) hW) (RI.ext (hS.num 1 rfl) hW) (RI.ext (hS.num 0 rfl) hW) aE aF N39.out aI.out E39.out).mono fun e w' ⟨v, he, hR, hx⟩ => ⟨v, he, hx, hR⟩⟩
  intro v_ ay az hr_
  obtain ⟨W_, hW_⟩ := hr_
  have hv_ : Fc.holds (.ri (a7)) ay az v_ W_ := hW_.get
  clear hW_
  obtain ⟨aA, a3, aB, aC, rfl, -⟩ := RI.opn hv_
  clear hv_
  clear W_
  try simp only [Act.put, sa0, sa1, sa2]
  refine wpT_quiet 1 (by rfl) (by kernel_rfl) ?_
  simp only [tk1, tk0, dp1, dp0]
  repeat (go_big_quiet_step (fail))
  refine wpQuiet_nil ?_
  refine wpT_nil ?_
  intro w5 hK
  have hlt_ := hS.lt
  replace hS := hS.mv hK.ext
  replace hS := hS.addI (show RI w5 (iv ao a1 ap aq) a5 from hK.at_ 3 (e := ((iv ao a1 ap aq), am, an)) (by rfl))
  replace hS := hS.addI (show RI w5 (iv av a2 aw ax) a6 from hK.at_ 7 (e := ((iv av a2 aw ax), ar, au)) (by rfl))
  replace hS := hS.addI (show RI w5 (iv aA a3 aB aC) a7 from hK.at_ 11 (e := ((iv aA a3 aB aC), ay, az)) (by rfl))
  clear hK hlt_ hE_ Y9 Y7 Y6 Y5
  have k_8 := (hS.blk 2 rfl).cell
  have k_9 := (hS.blk 2 rfl).frozen
  go_wp2
  replace hS := (St.put (W' := ((((((w5.setCell ⟨g8, 0, none⟩ (.bool ao)).setCell ⟨g8, 1, none⟩ (.slice a1 ap aq)).setCell ⟨g8, 2, none⟩ (.bool av)).setCell ⟨g8, 3, none⟩ (.slice a2 aw ax)).setCell ⟨g8, 4, none⟩ (.bool aA)).setCell ⟨g8, 5, none⟩ (.slice a3 aB aC))) hS 2 0 [.bool ao, .slice a1 ap aq, .bool av, .slice a2 aw ax, .bool aA, .slice a3 aB aC] (cs' := #[.bool ao, .slice a1 ap aq, .bool av, .slice a2 aw ax, .bool aA, .slice a3 aB aC]) (bs' := _) rfl o8 rfl rfl rfl rfl)
  exact bp_gauss1 rfl rfl rfl (hS.blk 2 rfl) ⟨_, rfl, RG.mk (hS.num 2 rfl) (hS.num 1 rfl) (hS.num 0 rfl), hS.ext⟩

theorem gcdL_g3 (a b d : Int) : gcdL [d, a, b] = g3 a b d := by
  unfold gcdL g3
  simp [Nat.gcd_comm]
theorem g3_lt {a b d : Int} (ha : a.natAbs < lim) (hb : b.natAbs < lim) (hd : d.natAbs < lim) : g3 a b d < lim := by
  rw [← gcdL_g3]
  refine gcdL_lt (fun z hz => ?_)
  simp at hz
  rcases hz with rfl | rfl | rfl <;> assumption
theorem ereduce_ok (gc : Nat) (v1 v2 v3 : Value) (x1 x2 x3 a b d : Int) (w : World) (hc : Calm w gc) (h1 : RI w v1 x1) (h2 : RI w v2 x2) (h3 : RI w v3 x3) (a1 : x1.natAbs < lim) (a2 : x2.natAbs < lim) (a3 : x3.natAbs < lim) (hd : x3 ≠ 0) (E : (a, b, d) = nf x1 x2 x3) :
    Calls Tryz.prog 63 #[.pointer (some ⟨gc, 0, none⟩), v1, v2, v3] w fun e w' => ∃ v, e = .returned v ∧ RG w' v a b d ∧ Ext w w' := by
  obtain ⟨d1, d2, d3⟩ := g3_dvd x1 x2 x3
  have hg0 := g3_pos (a := x1) (b := x2) hd
  have hgl := g3_lt a1 a2 a3
  have hG : (gcdL [x3, x1, x2] : Int) = g3 x1 x2 x3 := by rw [gcdL_g3]
  unfold nf gZ sgZ at E
  by_cases hn : x3 < 0
  · rw [if_pos hn] at E
    have e1 : (-1 : Int) * (g3 x1 x2 x3 : Int) = -(g3 x1 x2 x3 : Int) := by omega
    rw [e1] at E
    injection E with ea E
    injection E with eb ed
    have n1 : -(g3 x1 x2 x3 : Int) ≠ 0 := by omega
    have q1 : -(g3 x1 x2 x3 : Int) ∣ x1 := Int.neg_dvd.2 d1
    have q2 : -(g3 x1 x2 x3 : Int) ∣ x2 := Int.neg_dvd.2 d2
    have q3 : -(g3 x1 x2 x3 : Int) ∣ x3 := Int.neg_dvd.2 d3
    exact ereduce_neg gc v1 x1 v2 x2 v3 x3 w hc h1 a1 h2 a2 h3 a3 (Lib.hid hn) _ (Lib.hid hG.symm) (by simpa using hgl) _ (Lib.hid rfl) (by simpa using hgl) a (Lib.hid ea) (by rw [ea]; exact div_abs a1 q1) (Lib.hid n1) (Lib.hid q1) b (Lib.hid eb) (by rw [eb]; exact div_abs a2 q2) (Lib.hid n1) (Lib.hid q2) d (Lib.hid ed) (by rw [ed]; exact div_abs a3 q3) (Lib.hid n1) (Lib.hid q3)
  · rw [if_neg hn, Int.one_mul] at E
    injection E with ea E
    injection E with eb ed
    have n1 : (g3 x1 x2 x3 : Int) ≠ 0 := by omega
    exact ereduce_pos gc v1 x1 v2 x2 v3 x3 w hc h1 a1 h2 a2 h3 a3 (Lib.hid (by omega)) _ (Lib.hid hG.symm) (by simpa using hgl) a (Lib.hid ea) (by rw [ea]; exact div_abs a1 d1) (Lib.hid n1) (Lib.hid d1) b (Lib.hid eb) (by rw [eb]; exact div_abs a2 d2) (Lib.hid n1) (Lib.hid d2) d (Lib.hid ed) (by rw [ed]; exact div_abs a3 d3) (Lib.hid n1) (Lib.hid d3)
end Go.Proofs.YtclkkoiaaddllaaGreat

/- Contracts of the calculator: sums of multiples. -/
namespace Go.Proofs.YtclkkoiaaddllaaGreat
open Go.RowKit
set_option linter.unusedVariables false

set_option maxRecDepth 100000 in
set_option maxHeartbeats 4000000 in
theorem eblend_w (gc : Nat) (v1 : Value) (cv cw av : Int) (m2 : Int) (v3 : Value) (cx cy am : Int) (m4 : Int) (m5 : Int) (w : World) (hc : Calm w gc) (hX1 : RG w v1 cv cw av) (cX : cv.natAbs < lim) (cY : cw.natAbs < lim) (aZ : av.natAbs < lim) (l2 : -9223372036854775808 ≤ m2) (u2 : m2 ≤ 9223372036854775807) (hX3 : RG w v3 cx cy am) (cZ : cx.natAbs < lim) (d0 : cy.natAbs < lim) (b0 : am.natAbs < lim) (l4 : -9223372036854775808 ≤ m4) (u4 : m4 ≤ 9223372036854775807) (l5 : -9223372036854775808 ≤ m5) (u5 : m5 ≤ 9223372036854775807)
    (a2 : Int) (E25 : Hid (a2 = (gcdL [av, am] : Nat))) (d1 : a2.natAbs < lim)
    (aw : Int) (E31 : Hid (aw = am / a2)) (A31 : aw.natAbs < lim)
    (N31 : Hid (a2 ≠ 0))
    (d2 : Hid (a2 ∣ am))
    (an : Int) (E33 : Hid (an = aw * (m2))) (d3 : an.natAbs < lim)
    (ax : Int) (E39 : Hid (ax = av / a2)) (A39 : ax.natAbs < lim)
    (N39 : Hid (a2 ≠ 0))
    (d4 : Hid (a2 ∣ av))
    (ao : Int) (E41 : Hid (ao = ax * (m4))) (d5 : ao.natAbs < lim)
    (ay : Int) (E47 : Hid (ay = cv * an)) (dq : ay.natAbs < lim)
    (az : Int) (E52 : Hid (az = cx * ao)) (dr : az.natAbs < lim)
    (aT : Int) (E53 : Hid (aT = ay + az)) (ds : aT.natAbs < lim)
    (aA : Int) (E59 : Hid (aA = cw * an)) (dt : aA.natAbs < lim)
    (aB : Int) (E64 : Hid (aB = cy * ao)) (du : aB.natAbs < lim)
    (aU : Int) (E65 : Hid (aU = aA + aB)) (dv : aU.natAbs < lim)
    (aC : Int) (E74 : Hid (aC = am / a2)) (A74 : aC.natAbs < lim)
    (N74 : Hid (a2 ≠ 0))
    (d6 : Hid (a2 ∣ am))
    (aD : Int) (E75 : Hid (aD = av * aC)) (dw : aD.natAbs < lim)
    (aE : Int) (E77 : Hid (aE = aD * (m5))) (dx : aE.natAbs < lim)
    (N88 : Hid (aE ≠ 0))
    (aF aG aH : Int) (E88 : Hid ((aF, aG, aH) = nf aT aU aE)) (A88a : aF.natAbs < lim) (A88b : aG.natAbs < lim) (A88d : aH.natAbs < lim)  :
    Calls Tryz.prog 85 #[.pointer (some ⟨gc, 0, none⟩), v1, .int .i64 m2, v3, .int .i64 m4, .int .i64 m5] w fun e w' => ∃ v, e = .returned v ∧ RG w' v aF aG aH ∧ Ext w w' := by
  have hS := St.start w
  obtain ⟨b1, b2, b3, b4, b5, b6, b7, b8, a7, a8, a9, aa, rfl, bX, bY, bZ⟩ := hX1
  replace hS := hS.addI bX
  clear bX
  replace hS := hS.addI bY
  clear bY
  replace hS := hS.addI bZ
  clear bZ
  obtain ⟨b9, ba, bb, bc, bd, be, bf, bg, ab, ac, ad, ae, rfl, c0, c1, c2⟩ := hX3
  replace hS := hS.addI c0
  clear c0
  replace hS := hS.addI c1
  clear c1
  replace hS := hS.addI c2
  clear c2
  replace hS := hS.addB hc trivial
  clear hc
  have o7 : Own w w.heap.size := Own.of hS.ext (by simp)
  have o9 : Own w (w.heap.size + 1) := Own.of hS.ext (by simp)
  have dy : Own w (w.heap.size + 2) := Own.of hS.ext (by simp)
  have d7 := (St.al (St.al (St.al hS 32 #[.bool b1, .slice b2 b3 b4, .bool b5, .slice b6 b7 b8, .bool a7, .slice a8 a9 aa] (g := w.heap.size) (by simp)) 32 #[.bool b9, .slice ba bb bc, .bool bd, .slice be bf bg, .bool ab, .slice ac ad ae] (g := (w.heap.size + 1)) (by simp)) 32 #[.bool false, .slice none 0 0, .bool false, .slice none 0 0, .bool false, .slice none 0 0] (g := (w.heap.size + 2)) (by simp))
  have k_1 := (d7.blk 2 rfl).cell
  have k_2 := (d7.blk 1 rfl).cell
  have o24 : Own w (w.heap.size + 3) := Own.of hS.ext (by simp)
  go_enter Tryz.func85, Tryz.ntmps85
  go_wp2_with fail
  clear k_1 k_2
  clear d7
  replace hS := (St.al (St.al (St.al (St.al hS 32 #[.bool b1, .slice b2 b3 b4, .bool b5, .slice b6 b7 b8, .bool a7, .slice a8 a9 aa] (g := w.heap.size) (by simp)) 32 #[.bool b9, .slice ba bb bc, .bool bd, .slice be bf bg, .bool ab, .slice ac ad ae] (g := (w.heap.size + 1)) (by simp)) 32 #[.bool false, .slice none 0 0, .bool false, .slice none 0 0, .bool false, .slice none 0 0] (g := (w.heap.size + 2)) (by simp)) 30 #[.bool a7, .slice a8 a9 aa, .bool ab, .slice ac ad ae] (g := (w.heap.size + 3)) (by simp))
  generalize ((((w.alloc (.cells #[.bool b1, .slice b2 b3 b4, .bool b5, .slice b6 b7 b8, .bool a7, .slice a8 a9 aa] 32)).alloc (.cells #[.bool b9, .slice ba bb bc, .bool bd, .slice be bf bg, .bool ab, .slice ac ad ae] 32)).alloc (.cells #[.bool false, .slice none 0 0, .bool false, .slice none 0 0, .bool false, .slice none 0 0] 32)).alloc (.cells #[.bool a7, .slice a8 a9 aa, .bool ab, .slice ac ad ae] 30)) = w1 at hS ⊢
  generalize w.heap.size + 3 = g24 at hS o24 ⊢
  generalize w.heap.size + 2 = bN at hS dy ⊢
  generalize w.heap.size + 1 = g9 at hS o9 ⊢
  generalize w.heap.size = g7 at hS o7 ⊢
  refine (egcd2_ok gc g24 av am a2 _ (hS.blk 4 rfl) (hS.blk 0 rfl) (hS.num 3 rfl) (hS.num 0 rfl) aZ b0 E25).mono ?_
  rintro e w2 ⟨v_, rfl, hv_, hx_⟩
  replace hS := hS.mv hx_
  clear hx_
  obtain ⟨dz, c3, dA, dB, rfl, aV⟩ := RI.opn hv_
  clear hv_
  replace hS := hS.addI aV
  clear aV
  have o13 : Own w w2.heap.size := Own.of hS.ext (by simp)
  have d8 := (St.al hS 30 #[.bool false, .slice none 0 0] (g := w2.heap.size) (by simp))
  have k_3 := (d8.blk 0 rfl).cell
  have k_4 := (d8.blk 0 rfl).frozen
  go_wp2_with fail
  clear k_3 k_4
  clear d8
  replace hS := (St.al hS 30 #[.bool dz, .slice c3 dA dB] (g := w2.heap.size) (by simp))
  generalize (w2.alloc (.cells #[.bool dz, .slice c3 dA dB] 30)) = w3 at hS ⊢
  generalize w2.heap.size = g13 at hS o13 ⊢
  have d9 := ExtOf.blk (hS.blk 0 rfl)
  have Y9 := ExtOf.blk (hS.blk 3 rfl)
  have Y7 := ExtOf.blk (hS.blk 4 rfl)
  have hE_ := hS.ext
  refine wp_region_tame 18 (hasF [(5, .any), (7, .any), (13, .any), (15, .any), (16, .any), (17, .any)]) (Fcs [(5, .ri (aw)), (7, .ri (an)), (13, .ri (ax)), (15, .ri (ao)), (16, .box 30 #[.bool false, .slice none 0 0]), (17, .box 30 #[.bool false, .slice none 0 0])]) (Fcs_stab _) (by kernel_rfl) (by kernel_rfl) ?_
  simp only [tk1, tk0, dp1, dp0]
  refine wpT_quiet 5 (by rfl) (by kernel_rfl) ?_
  simp only [tk1, tk0, dp1, dp0]
  repeat (go_big_quiet_step (fail))
  refine wpQuiet_nil ?_
  refine wpT_eff (by rfl) (by rfl) (by rfl) ?_ ?_
  · intro W_ hK
    have hW := hK.1
    clear hK
    go_simp
    exact ⟨rfl, (ediv_ok gc _ _ am a2 aw _ (Blk.ext (hS.blk 5 rfl) hW) (RI.ext (hS.num 1 rfl) hW) (RI.ext (hS.num 0 rfl) hW) b0 d1 N31.out d2.out E31.out).mono fun e w' ⟨v, he, hR, hx⟩ => ⟨v, he, hx, hR⟩⟩
  intro v_ bh bi hr_
  obtain ⟨W_, hW_⟩ := hr_
  have hv_ : Fc.holds (.ri (aw)) bh bi v_ W_ := hW_.get
  clear hW_
  obtain ⟨cz, aI, cA, cB, rfl, -⟩ := RI.opn hv_
  clear hv_
  clear W_
  try simp only [Act.put, sa0, sa1, sa2]
  refine wpT_quiet 1 (by rfl) (by kernel_rfl) ?_
  simp only [tk1, tk0, dp1, dp0]
  repeat (go_big_quiet_step (fail))
  refine wpQuiet_nil ?_
  refine wpT_eff (by rfl) (by rfl) (by rfl) ?_ ?_
  · intro W_ hK
    have hW := hK.1
    have c4 : RI W_ (iv cz aI cA cB) aw := hK.2 5 ((iv cz aI cA cB), bh, bi) (by rfl) (by kernel_rfl)
    clear hK
    go_simp
    exact ⟨rfl, (escale_ok gc _ aw (m2) _ (Blk.ext (hS.blk 5 rfl) hW) c4 A31 l2 u2 an E33 d3).mono fun e w' ⟨v, he, hR, hx⟩ => ⟨v, he, hx, hR⟩⟩
  intro v_ c5 c6 hr_
  obtain ⟨W_, hW_⟩ := hr_
  have hv_ : Fc.holds (.ri (an)) c5 c6 v_ W_ := hW_.get
  clear hW_
  obtain ⟨ap, a0, aq, ar, rfl, -⟩ := RI.opn hv_
  clear hv_
  clear W_
  try simp only [Act.put, sa0, sa1, sa2]
  refine wpT_quiet 5 (by rfl) (by kernel_rfl) ?_
  simp only [tk1, tk0, dp1, dp0]
  repeat (go_big_quiet_step (fail))
  refine wpQuiet_nil ?_
  refine wpT_eff (by rfl) (by rfl) (by rfl) ?_ ?_
  · intro W_ hK
    have hW := hK.1
    clear hK
    go_simp
    exact ⟨rfl, (ediv_ok gc _ _ av a2 ax _ (Blk.ext (hS.blk 5 rfl) hW) (RI.ext (hS.num 4 rfl) hW) (RI.ext (hS.num 0 rfl) hW) aZ d1 N39.out d4.out E39.out).mono fun e w' ⟨v, he, hR, hx⟩ => ⟨v, he, hx, hR⟩⟩
  intro v_ bj bk hr_
  obtain ⟨W_, hW_⟩ := hr_
  have hv_ : Fc.holds (.ri (ax)) bj bk v_ W_ := hW_.get
  clear hW_
  obtain ⟨cC, aJ, cD, cE, rfl, -⟩ := RI.opn hv_
  clear hv_
  clear W_
  try simp only [Act.put, sa0, sa1, sa2]
  refine wpT_quiet 1 (by rfl) (by kernel_rfl) ?_
  simp only [tk1, tk0, dp1, dp0]
  repeat (go_big_quiet_step (fail))
  refine wpQuiet_nil ?_
  refine wpT_eff (by rfl) (by rfl) (by rfl) ?_ ?_
  · intro W_ hK
    have hW := hK.1
    have c7 : RI W_ (iv cC aJ cD cE) ax := hK.2 13 ((iv cC aJ cD cE), bj, bk) (by rfl) (by kernel_rfl)
    clear hK
    go_simp
    exact ⟨rfl, (escale_ok gc _ ax (m4) _ (Blk.ext (hS.blk 5 rfl) hW) c7 A39 l4 u4 ao E41 d5).mono fun e w' ⟨v, he, hR, hx⟩ => ⟨v, he, hx, hR⟩⟩
  intro v_ c8 c9 hr_
  obtain ⟨W_, hW_⟩ := hr_
  have hv_ : Fc.holds (.ri (ao)) c8 c9 v_ W_ := hW_.get
  clear hW_
  obtain ⟨bO, a3, bP, bQ, rfl, -⟩ := RI.opn hv_
  clear hv_
  clear W_
  try simp only [Act.put, sa0, sa1, sa2]
  refine wpT_eff (by rfl) (by rfl) (by rfl) ?_ ?_
  · intro W_ hK
    go_simp
    exact ⟨Ext.new _ _, rfl, by simp, Blk.new _ _ _⟩
  intro v_ a6 ca hr_
  obtain ⟨W_, hW_⟩ := hr_
  obtain ⟨rfl, cb, -⟩ : Fc.holds (.box 30 #[.bool false, .slice none 0 0]) a6 ca v_ W_ := hW_.get
  clear hW_ W_
  try simp only [Act.put, sa0, sa1, sa2]
  refine wpT_eff (by rfl) (by rfl) (by rfl) ?_ ?_
  · intro W_ hK
    go_simp
    exact ⟨Ext.new _ _, rfl, by simp, Blk.new _ _ _⟩
  intro v_ aW cc hr_
  obtain ⟨W_, hW_⟩ := hr_
  obtain ⟨rfl, cd, -⟩ : Fc.holds (.box 30 #[.bool false, .slice none 0 0]) aW cc v_ W_ := hW_.get
  clear hW_ W_
  try simp only [Act.put, sa0, sa1, sa2]
  refine wpT_nil ?_
  intro w4 hK
  have hlt_ := hS.lt
  replace hS := hS.mv hK.ext
  replace hS := hS.addI (show RI w4 (iv cz aI cA cB) aw from hK.at_ 5 (e := ((iv cz aI cA cB), bh, bi)) (by rfl))
  replace hS := hS.addI (show RI w4 (iv ap a0 aq ar) an from hK.at_ 7 (e := ((iv ap a0 aq ar), c5, c6)) (by rfl))
  replace hS := hS.addI (show RI w4 (iv cC aJ cD cE) ax from hK.at_ 13 (e := ((iv cC aJ cD cE), bj, bk)) (by rfl))
  replace hS := hS.addI (show RI w4 (iv bO a3 bP bQ) ao from hK.at_ 15 (e := ((iv bO a3 bP bQ), c8, c9)) (by rfl))
  have bl : w3.heap.size ≤ a6 := hK.low 16 _ (by rfl)
  have dC : Own w a6 := Own.of hE_ bl
  replace hS := hS.addB (show Blk w4 a6 30 #[.bool false, .slice none 0 0] from (hK.at_ 16 (by rfl)).2.2) (apart_of fun p hp => Nat.ne_of_lt (Nat.lt_of_lt_of_le (hlt_ p hp) bl))
  have bm : w3.heap.size ≤ aW := hK.low 17 _ (by rfl)
  have o15 : Own w aW := Own.of hE_ bm
  replace hS := hS.addB (show Blk w4 aW 30 #[.bool false, .slice none 0 0] from (hK.at_ 17 (by rfl)).2.2) ⟨tame_ne cb cd (hK.disj 16 17 _ _ (by omega) (by rfl) (by rfl)), (apart_of fun p hp => Nat.ne_of_lt (Nat.lt_of_lt_of_le (hlt_ p hp) bm))⟩
  clear hK hlt_ hE_ d9 Y9 Y7
  clear bl cb ca
  clear bm cd cc
  have k_5 := (hS.blk 1 rfl).cell
  have k_6 := (hS.blk 1 rfl).frozen
  have da := (St.put (W' := ((w4.setCell ⟨a6, 0, none⟩ (.bool ap)).setCell ⟨a6, 1, none⟩ (.slice a0 aq ar))) hS 1 0 [.bool ap, .slice a0 aq ar] (cs' := #[.bool ap, .slice a0 aq ar]) (bs' := _) rfl dC rfl rfl rfl rfl)
  have k_7 := (da.blk 0 rfl).cell
  have k_8 := (da.blk 0 rfl).frozen
  go_wp2_with fail
  clear k_5 k_6 k_7 k_8
  clear da
  replace hS := (St.put (W' := ((((w4.setCell ⟨a6, 0, none⟩ (.bool ap)).setCell ⟨a6, 1, none⟩ (.slice a0 aq ar)).setCell ⟨aW, 0, none⟩ (.bool bO)).setCell ⟨aW, 1, none⟩ (.slice a3 bP bQ))) (St.put (W' := ((w4.setCell ⟨a6, 0, none⟩ (.bool ap)).setCell ⟨a6, 1, none⟩ (.slice a0 aq ar))) hS 1 0 [.bool ap, .slice a0 aq ar] (cs' := #[.bool ap, .slice a0 aq ar]) (bs' := _) rfl dC rfl rfl rfl rfl) 0 0 [.bool bO, .slice a3 bP bQ] (cs' := #[.bool bO, .slice a3 bP bQ]) (bs' := _) rfl o15 rfl rfl rfl rfl)
  simp only [List.set_cons_zero, List.set_cons_succ] at hS
  generalize ((((w4.setCell ⟨a6, 0, none⟩ (.bool ap)).setCell ⟨a6, 1, none⟩ (.slice a0 aq ar)).setCell ⟨aW, 0, none⟩ (.bool bO)).setCell ⟨aW, 1, none⟩ (.slice a3 bP bQ)) = w5 at hS ⊢
  have db := ExtOf.blk (hS.blk 0 rfl)
  have dc := ExtOf.blk (hS.blk 1 rfl)
  have Y9 := ExtOf.blk (hS.blk 5 rfl)
  have Y7 := ExtOf.blk (hS.blk 6 rfl)
  have hE_ := hS.ext
  refine wp_region_tame 13 (hasF [(5, .any), (10, .any), (11, .any), (12, .any)]) (Fcs [(5, .ri (ay)), (10, .ri (az)), (11, .ri (aT)), (12, .box 30 #[.bool false, .slice none 0 0])]) (Fcs_stab _) (by kernel_rfl) (by kernel_rfl) ?_
  simp only [tk1, tk0, dp1, dp0]
  refine wpT_quiet 5 (by rfl) (by kernel_rfl) ?_
  simp only [tk1, tk0, dp1, dp0]
  repeat (go_big_quiet_step (fail))
  refine wpQuiet_nil ?_
  refine wpT_eff (by rfl) (by rfl) (by rfl) ?_ ?_
  · intro W_ hK
    have hW := hK.1
    clear hK
    go_simp
    exact ⟨rfl, (emul_ok gc _ _ cv an ay _ (Blk.ext (hS.blk 7 rfl) hW) (RI.ext (hS.num 10 rfl) hW) (RI.ext (hS.num 2 rfl) hW) cX d3 E47.out dq).mono fun e w' ⟨v, he, hR, hx⟩ => ⟨v, he, hx, hR⟩⟩
  intro v_ bn bo hr_
  obtain ⟨W_, hW_⟩ := hr_
  have hv_ : Fc.holds (.ri (ay)) bn bo v_ W_ := hW_.get
  clear hW_
  obtain ⟨cF, aK, cG, cH, rfl, -⟩ := RI.opn hv_
  clear hv_
  clear W_
  try simp only [Act.put, sa0, sa1, sa2]
  refine wpT_quiet 4 (by rfl) (by kernel_rfl) ?_
  simp only [tk1, tk0, dp1, dp0]
  repeat (go_big_quiet_step (fail))
  refine wpQuiet_nil ?_
  refine wpT_eff (by rfl) (by rfl) (by rfl) ?_ ?_
  · intro W_ hK
    have hW := hK.1
    clear hK
    go_simp
    exact ⟨rfl, (emul_ok gc _ _ cx ao az _ (Blk.ext (hS.blk 7 rfl) hW) (RI.ext (hS.num 7 rfl) hW) (RI.ext (hS.num 0 rfl) hW) cZ d5 E52.out dr).mono fun e w' ⟨v, he, hR, hx⟩ => ⟨v, he, hx, hR⟩⟩
  intro v_ bp bq hr_
  obtain ⟨W_, hW_⟩ := hr_
  have hv_ : Fc.holds (.ri (az)) bp bq v_ W_ := hW_.get
  clear hW_
  obtain ⟨cI, aL, cJ, cK, rfl, -⟩ := RI.opn hv_
  clear hv_
  clear W_
  try simp only [Act.put, sa0, sa1, sa2]
  refine wpT_eff (by rfl) (by rfl) (by rfl) ?_ ?_
  · intro W_ hK
    have hW := hK.1
    have ce : RI W_ (iv cF aK cG cH) ay := hK.2 5 ((iv cF aK cG cH), bn, bo) (by rfl) (by kernel_rfl)
    have cf : RI W_ (iv cI aL cJ cK) az := hK.2 10 ((iv cI aL cJ cK), bp, bq) (by rfl) (by kernel_rfl)
    clear hK
    go_simp
    exact ⟨rfl, (eadd_ok gc _ _ ay az aT _ (Blk.ext (hS.blk 7 rfl) hW) ce cf dq dr E53.out ds).mono fun e w' ⟨v, he, hR, hx⟩ => ⟨v, he, hx, hR⟩⟩
  intro v_ cg ch hr_
  obtain ⟨W_, hW_⟩ := hr_
  have hv_ : Fc.holds (.ri (aT)) cg ch v_ W_ := hW_.get
  clear hW_
  obtain ⟨bR, a4, bS, bT, rfl, -⟩ := RI.opn hv_
  clear hv_
  clear W_
  try simp only [Act.put, sa0, sa1, sa2]
  refine wpT_eff (by rfl) (by rfl) (by rfl) ?_ ?_
  · intro W_ hK
    go_simp
    exact ⟨Ext.new _ _, rfl, by simp, Blk.new _ _ _⟩
  intro v_ aX ci hr_
  obtain ⟨W_, hW_⟩ := hr_
  obtain ⟨rfl, dd, -⟩ : Fc.holds (.box 30 #[.bool false, .slice none 0 0]) aX ci v_ W_ := hW_.get
  clear hW_ W_
  try simp only [Act.put, sa0, sa1, sa2]
  refine wpT_nil ?_
  intro w6 hK
  have hlt_ := hS.lt
  replace hS := hS.mv hK.ext
  replace hS := hS.addI (show RI w6 (iv cF aK cG cH) ay from hK.at_ 5 (e := ((iv cF aK cG cH), bn, bo)) (by rfl))
  replace hS := hS.addI (show RI w6 (iv cI aL cJ cK) az from hK.at_ 10 (e := ((iv cI aL cJ cK), bp, bq)) (by rfl))
  replace hS := hS.addI (show RI w6 (iv bR a4 bS bT) aT from hK.at_ 11 (e := ((iv bR a4 bS bT), cg, ch)) (by rfl))
  have br : w5.heap.size ≤ aX := hK.low 12 _ (by rfl)
  have o16 : Own w aX := Own.of hE_ br
  replace hS := hS.addB (show Blk w6 aX 30 #[.bool false, .slice none 0 0] from (hK.at_ 12 (by rfl)).2.2) (apart_of fun p hp => Nat.ne_of_lt (Nat.lt_of_lt_of_le (hlt_ p hp) br))
  clear hK hlt_ hE_ db dc Y9 Y7
  clear br dd ci
  have k_9 := (hS.blk 0 rfl).cell
  have de := (hS.blk 0 rfl).frozen
  go_wp2_with fail
  clear k_9 de
  replace hS := (St.put (W' := ((w6.setCell ⟨aX, 0, none⟩ (.bool bR)).setCell ⟨aX, 1, none⟩ (.slice a4 bS bT))) hS 0 0 [.bool bR, .slice a4 bS bT] (cs' := #[.bool bR, .slice a4 bS bT]) (bs' := _) rfl o16 rfl rfl rfl rfl)
  simp only [List.set_cons_zero] at hS
  generalize ((w6.setCell ⟨aX, 0, none⟩ (.bool bR)).setCell ⟨aX, 1, none⟩ (.slice a4 bS bT)) = w7 at hS ⊢
  have db := ExtOf.blk (hS.blk 1 rfl)
  have dc := ExtOf.blk (hS.blk 2 rfl)
  have Y9 := ExtOf.blk (hS.blk 6 rfl)
  have Y7 := ExtOf.blk (hS.blk 7 rfl)
  have hE_ := hS.ext
  refine wp_region_tame 13 (hasF [(5, .any), (10, .any), (11, .any), (12, .any)]) (Fcs [(5, .ri (aA)), (10, .ri (aB)), (11, .ri (aU)), (12, .box 30 #[.bool false, .slice none 0 0])]) (Fcs_stab _) (by kernel_rfl) (by kernel_rfl) ?_
  simp only [tk1, tk0, dp1, dp0]
  refine wpT_quiet 5 (by rfl) (by kernel_rfl) ?_
  simp only [tk1, tk0, dp1, dp0]
  repeat (go_big_quiet_step (fail))
  refine wpQuiet_nil ?_
  refine wpT_eff (by rfl) (by rfl) (by rfl) ?_ ?_
  · intro W_ hK
    have hW := hK.1
    clear hK
    go_simp
    exact ⟨rfl, (emul_ok gc _ _ cw an aA _ (Blk.ext (hS.blk 8 rfl) hW) (RI.ext (hS.num 12 rfl) hW) (RI.ext (hS.num 5 rfl) hW) cY d3 E59.out dt).mono fun e w' ⟨v, he, hR, hx⟩ => ⟨v, he, hx, hR⟩⟩
  intro v_ bs bt hr_
  obtain ⟨W_, hW_⟩ := hr_
  have hv_ : Fc.holds (.ri (aA)) bs bt v_ W_ := hW_.get
  clear hW_
  obtain ⟨cL, aM, cM, cN, rfl, -⟩ := RI.opn hv_
  clear hv_
  clear W_
  try simp only [Act.put, sa0, sa1, sa2]
  refine wpT_quiet 4 (by rfl) (by kernel_rfl) ?_
  simp only [tk1, tk0, dp1, dp0]
  repeat (go_big_quiet_step (fail))
  refine wpQuiet_nil ?_
  refine wpT_eff (by rfl) (by rfl) (by rfl) ?_ ?_
  · intro W_ hK
    have hW := hK.1
    clear hK
    go_simp
    exact ⟨rfl, (emul_ok gc _ _ cy ao aB _ (Blk.ext (hS.blk 8 rfl) hW) (RI.ext (hS.num 9 rfl) hW) (RI.ext (hS.num 3 rfl) hW) d0 d5 E64.out du).mono fun e w' ⟨v, he, hR, hx⟩ => ⟨v, he, hx, hR⟩⟩
  intro v_ bu bv hr_
  obtain ⟨W_, hW_⟩ := hr_
  have hv_ : Fc.holds (.ri (aB)) bu bv v_ W_ := hW_.get
  clear hW_
  obtain ⟨cO, aN, cP, cQ, rfl, -⟩ := RI.opn hv_
  clear hv_
  clear W_
  try simp only [Act.put, sa0, sa1, sa2]
  refine wpT_eff (by rfl) (by rfl) (by rfl) ?_ ?_
  · intro W_ hK
    have hW := hK.1
    have cj : RI W_ (iv cL aM cM cN) aA := hK.2 5 ((iv cL aM cM cN), bs, bt) (by rfl) (by kernel_rfl)
    have ck : RI W_ (iv cO aN cP cQ) aB := hK.2 10 ((iv cO aN cP cQ), bu, bv) (by rfl) (by kernel_rfl)
    clear hK
    go_simp
    exact ⟨rfl, (eadd_ok gc _ _ aA aB aU _ (Blk.ext (hS.blk 8 rfl) hW) cj ck dt du E65.out dv).mono fun e w' ⟨v, he, hR, hx⟩ => ⟨v, he, hx, hR⟩⟩
  intro v_ cl cn hr_
  obtain ⟨W_, hW_⟩ := hr_
  have hv_ : Fc.holds (.ri (aU)) cl cn v_ W_ := hW_.get
  clear hW_
  obtain ⟨bU, a5, bV, bW, rfl, -⟩ := RI.opn hv_
  clear hv_
  clear W_
  try simp only [Act.put, sa0, sa1, sa2]
  refine wpT_eff (by rfl) (by rfl) (by rfl) ?_ ?_
  · intro W_ hK
    go_simp
    exact ⟨Ext.new _ _, rfl, by simp, Blk.new _ _ _⟩
  intro v_ aY co hr_
  obtain ⟨W_, hW_⟩ := hr_
  obtain ⟨rfl, df, -⟩ : Fc.holds (.box 30 #[.bool false, .slice none 0 0]) aY co v_ W_ := hW_.get
  clear hW_ W_
  try simp only [Act.put, sa0, sa1, sa2]
  refine wpT_nil ?_
  intro w8 hK
  have hlt_ := hS.lt
  replace hS := hS.mv hK.ext
  replace hS := hS.addI (show RI w8 (iv cL aM cM cN) aA from hK.at_ 5 (e := ((iv cL aM cM cN), bs, bt)) (by rfl))
  replace hS := hS.addI (show RI w8 (iv cO aN cP cQ) aB from hK.at_ 10 (e := ((iv cO aN cP cQ), bu, bv)) (by rfl))
  replace hS := hS.addI (show RI w8 (iv bU a5 bV bW) aU from hK.at_ 11 (e := ((iv bU a5 bV bW), cl, cn)) (by rfl))
  have bw : w7.heap.size ≤ aY := hK.low 12 _ (by rfl)
  have o17 : Own w aY := Own.of hE_ bw
  replace hS := hS.addB (show Blk w8 aY 30 #[.bool false, .slice none 0 0] from (hK.at_ 12 (by rfl)).2.2) (apart_of fun p hp => Nat.ne_of_lt (Nat.lt_of_lt_of_le (hlt_ p hp) bw))
  clear hK hlt_ hE_ db dc Y9 Y7
  clear bw df co
  have dg := (hS.blk 0 rfl).cell
  have dh := (hS.blk 0 rfl).frozen
  go_wp2_with fail
  clear dg dh
  replace hS := (St.put (W' := ((w8.setCell ⟨aY, 0, none⟩ (.bool bU)).setCell ⟨aY, 1, none⟩ (.slice a5 bV bW))) hS 0 0 [.bool bU, .slice a5 bV bW] (cs' := #[.bool bU, .slice a5 bV bW]) (bs' := _) rfl o17 rfl rfl rfl rfl)
  simp only [List.set_cons_zero] at hS
  generalize ((w8.setCell ⟨aY, 0, none⟩ (.bool bU)).setCell ⟨aY, 1, none⟩ (.slice a5 bV bW)) = w9 at hS ⊢
  have d9 := ExtOf.blk (hS.blk 4 rfl)
  have Y9 := ExtOf.blk (hS.blk 7 rfl)
  have Y7 := ExtOf.blk (hS.blk 8 rfl)
  have hE_ := hS.ext
  refine wp_region_tame 13 (hasF [(8, .any), (9, .any), (11, .any), (12, .any)]) (Fcs [(8, .ri (aC)), (9, .ri (aD)), (11, .ri (aE)), (12, .box 30 #[.bool false, .slice none 0 0])]) (Fcs_stab _) (by kernel_rfl) (by kernel_rfl) ?_
  simp only [tk1, tk0, dp1, dp0]
  refine wpT_quiet 8 (by rfl) (by kernel_rfl) ?_
  simp only [tk1, tk0, dp1, dp0]
  repeat (go_big_quiet_step (fail))
  refine wpQuiet_nil ?_
  refine wpT_eff (by rfl) (by rfl) (by rfl) ?_ ?_
  · intro W_ hK
    have hW := hK.1
    clear hK
    go_simp
    exact ⟨rfl, (ediv_ok gc _ _ am a2 aC _ (Blk.ext (hS.blk 9 rfl) hW) (RI.ext (hS.num 11 rfl) hW) (RI.ext (hS.num 10 rfl) hW) b0 d1 N74.out d6.out E74.out).mono fun e w' ⟨v, he, hR, hx⟩ => ⟨v, he, hx, hR⟩⟩
  intro v_ bx bz hr_
  obtain ⟨W_, hW_⟩ := hr_
  have hv_ : Fc.holds (.ri (aC)) bx bz v_ W_ := hW_.get
  clear hW_
  obtain ⟨cR, aO, cS, cT, rfl, -⟩ := RI.opn hv_
  clear hv_
  clear W_
  try simp only [Act.put, sa0, sa1, sa2]
  refine wpT_eff (by rfl) (by rfl) (by rfl) ?_ ?_
  · intro W_ hK
    have hW := hK.1
    have cp : RI W_ (iv cR aO cS cT) aC := hK.2 8 ((iv cR aO cS cT), bx, bz) (by rfl) (by kernel_rfl)
    clear hK
    go_simp
    exact ⟨rfl, (emul_ok gc _ _ av aC aD _ (Blk.ext (hS.blk 9 rfl) hW) (RI.ext (hS.num 14 rfl) hW) cp aZ A74 E75.out dw).mono fun e w' ⟨v, he, hR, hx⟩ => ⟨v, he, hx, hR⟩⟩
  intro v_ bA bB hr_
  obtain ⟨W_, hW_⟩ := hr_
  have hv_ : Fc.holds (.ri (aD)) bA bB v_ W_ := hW_.get
  clear hW_
  obtain ⟨cU, aP, cV, cW, rfl, -⟩ := RI.opn hv_
  clear hv_
  clear W_
  try simp only [Act.put, sa0, sa1, sa2]
  refine wpT_quiet 1 (by rfl) (by kernel_rfl) ?_
  simp only [tk1, tk0, dp1, dp0]
  repeat (go_big_quiet_step (fail))
  refine wpQuiet_nil ?_
  refine wpT_eff (by rfl) (by rfl) (by rfl) ?_ ?_
  · intro W_ hK
    have hW := hK.1
    have cq : RI W_ (iv cU aP cV cW) aD := hK.2 9 ((iv cU aP cV cW), bA, bB) (by rfl) (by kernel_rfl)
    clear hK
    go_simp
    exact ⟨rfl, (escale_ok gc _ aD (m5) _ (Blk.ext (hS.blk 9 rfl) hW) cq dw l5 u5 aE E77 dx).mono fun e w' ⟨v, he, hR, hx⟩ => ⟨v, he, hx, hR⟩⟩
  intro v_ cr cs hr_
  obtain ⟨W_, hW_⟩ := hr_
  have hv_ : Fc.holds (.ri (aE)) cr cs v_ W_ := hW_.get
  clear hW_
  obtain ⟨aQ, a1, aR, aS, rfl, -⟩ := RI.opn hv_
  clear hv_
  clear W_
  try simp only [Act.put, sa0, sa1, sa2]
  refine wpT_eff (by rfl) (by rfl) (by rfl) ?_ ?_
  · intro W_ hK
    go_simp
    exact ⟨Ext.new _ _, rfl, by simp, Blk.new _ _ _⟩
  intro v_ au ct hr_
  obtain ⟨W_, hW_⟩ := hr_
  obtain ⟨rfl, di, -⟩ : Fc.holds (.box 30 #[.bool false, .slice none 0 0]) au ct v_ W_ := hW_.get
  clear hW_ W_
  try simp only [Act.put, sa0, sa1, sa2]
  refine wpT_nil ?_
  intro bC hK
  have hlt_ := hS.lt
  replace hS := hS.mv hK.ext
  replace hS := hS.addI (show RI bC (iv cR aO cS cT) aC from hK.at_ 8 (e := ((iv cR aO cS cT), bx, bz)) (by rfl))
  replace hS := hS.addI (show RI bC (iv cU aP cV cW) aD from hK.at_ 9 (e := ((iv cU aP cV cW), bA, bB)) (by rfl))
  replace hS := hS.addI (show RI bC (iv aQ a1 aR aS) aE from hK.at_ 11 (e := ((iv aQ a1 aR aS), cr, cs)) (by rfl))
  have bD : w9.heap.size ≤ au := hK.low 12 _ (by rfl)
  have dD : Own w au := Own.of hE_ bD
  replace hS := hS.addB (show Blk bC au 30 #[.bool false, .slice none 0 0] from (hK.at_ 12 (by rfl)).2.2) (apart_of fun p hp => Nat.ne_of_lt (Nat.lt_of_lt_of_le (hlt_ p hp) bD))
  clear hK hlt_ hE_ d9 Y9 Y7
  clear bD di ct
  have dj := (hS.blk 0 rfl).cell
  have dk := (hS.blk 0 rfl).frozen
  have cu := (St.put (W' := ((bC.setCell ⟨au, 0, none⟩ (.bool aQ)).setCell ⟨au, 1, none⟩ (.slice a1 aR aS))) hS 0 0 [.bool aQ, .slice a1 aR aS] (cs' := #[.bool aQ, .slice a1 aR aS]) (bs' := _) rfl dD rfl rfl rfl rfl)
  have dl := (cu.blk 10 rfl).cell
  have dm := (cu.blk 2 rfl).cell
  have dn := (cu.blk 1 rfl).cell
  have dp := (cu.blk 0 rfl).cell
  go_wp2_with fail
  clear dj dk dl dm dn dp
  clear cu
  replace hS := (St.put (W' := ((bC.setCell ⟨au, 0, none⟩ (.bool aQ)).setCell ⟨au, 1, none⟩ (.slice a1 aR aS))) hS 0 0 [.bool aQ, .slice a1 aR aS] (cs' := #[.bool aQ, .slice a1 aR aS]) (bs' := _) rfl dD rfl rfl rfl rfl)
  simp only [List.set_cons_zero] at hS
  generalize ((bC.setCell ⟨au, 0, none⟩ (.bool aQ)).setCell ⟨au, 1, none⟩ (.slice a1 aR aS)) = w11 at hS ⊢
  refine (ereduce_ok gc _ _ _ aT aU aE aF aG aH _ (hS.blk 10 rfl) (hS.num 6 rfl) (hS.num 3 rfl) (hS.num 0 rfl) ds dv dx N88.out E88.out).mono ?_
  rintro e w12 ⟨v_, rfl, hv_, hx_⟩
  replace hS := hS.mv hx_
  clear hx_
  obtain ⟨bE, af, bF, bG, bH, ag, bI, bJ, bK, ah, bL, bM, rfl, ai, aj, ak⟩ := hv_
  replace hS := hS.addI ai
  clear ai
  replace hS := hS.addI aj
  clear aj
  replace hS := hS.addI ak
  clear ak
  have k_19 := (hS.blk 7 rfl).cell
  have k_20 := (hS.blk 7 rfl).frozen
  go_wp2
  replace hS := (St.put (W' := ((((((w12.setCell ⟨bN, 0, none⟩ (.bool bE)).setCell ⟨bN, 1, none⟩ (.slice af bF bG)).setCell ⟨bN, 2, none⟩ (.bool bH)).setCell ⟨bN, 3, none⟩ (.slice ag bI bJ)).setCell ⟨bN, 4, none⟩ (.bool bK)).setCell ⟨bN, 5, none⟩ (.slice ah bL bM))) hS 7 0 [.bool bE, .slice af bF bG, .bool bH, .slice ag bI bJ, .bool bK, .slice ah bL bM] (cs' := #[.bool bE, .slice af bF bG, .bool bH, .slice ag bI bJ, .bool bK, .slice ah bL bM]) (bs' := _) rfl dy rfl rfl rfl rfl)
  exact bp_gauss1 rfl rfl rfl (hS.blk 7 rfl) ⟨_, rfl, RG.mk (hS.num 2 rfl) (hS.num 1 rfl) (hS.num 0 rfl), hS.ext⟩

end Go.Proofs.YtclkkoiaaddllaaGreat

/- Contracts of the calculator: sums of multiples, in lowest terms. -/
namespace Go.Proofs.YtclkkoiaaddllaaGreat
open Go.RowKit
set_option linter.unusedVariables false

theorem lim_of {z : Int} {n : Nat} (h : z.natAbs < 2 ^ n) (hn : n ≤ 12800) : z.natAbs < lim := by
  refine Nat.lt_of_lt_of_le h ?_
  have e : lim = 2 ^ (32 * limK) := by unfold lim; rw [Nat.pow_mul]
  rw [e]
  exact Nat.pow_le_pow_right (by omega) (by unfold limK; omega)
theorem lt_gcd {z a : Int} {n : Nat} (ha : a ≠ 0) (h : z ∣ a) (hn : a.natAbs < 2 ^ n) : z.natAbs < 2 ^ n :=
  Nat.lt_of_le_of_lt (Nat.le_of_dvd (by omega) (Int.natAbs_dvd_natAbs.2 h)) hn
theorem lt_div {a z q : Int} {n : Nat} (hz : z ≠ 0) (h : a = z * q) (hn : a.natAbs < 2 ^ n) : q.natAbs < 2 ^ n := by
  rw [h, Int.natAbs_mul] at hn
  exact Nat.lt_of_le_of_lt (Nat.le_mul_of_pos_left _ (by omega)) hn
theorem div_of {a z q : Int} (hz : z ≠ 0) (h : a = z * q) : q = a / z := by rw [h, Int.mul_ediv_cancel_left _ hz]
theorem gcd2_facts {a b : Int} (hb : b ≠ 0) : ∃ z p q : Int, z = (gcdL [a, b] : Nat) ∧ z ≠ 0 ∧ a = z * p ∧ b = z * q := by
  have e : gcdL [a, b] = Nat.gcd a.natAbs b.natAbs := by simp [gcdL]
  have d1 : ((gcdL [a, b] : Nat) : Int) ∣ a := by rw [e]; exact Int.ofNat_dvd_left.2 (Nat.gcd_dvd_left _ _)
  have d2 : ((gcdL [a, b] : Nat) : Int) ∣ b := by rw [e]; exact Int.ofNat_dvd_left.2 (Nat.gcd_dvd_right _ _)
  have h0 : 0 < gcdL [a, b] := by rw [e]; exact Nat.gcd_pos_of_pos_right _ (by omega)
  obtain ⟨p, hp⟩ := d1
  obtain ⟨q, hq⟩ := d2
  exact ⟨_, p, q, rfl, by omega, hp, hq⟩
theorem gcd3_facts {a b c : Int} (ha : a ≠ 0) : ∃ z p q r : Int, z = (gcdL [a, b, c] : Nat) ∧ z ≠ 0 ∧ a = z * p ∧ b = z * q ∧ c = z * r := by
  have e : gcdL [a, b, c] = Nat.gcd (Nat.gcd a.natAbs b.natAbs) c.natAbs := by simp [gcdL]
  have d1 : ((gcdL [a, b, c] : Nat) : Int) ∣ a := by rw [e]; exact Int.ofNat_dvd_left.2 (Nat.dvd_trans (Nat.gcd_dvd_left _ _) (Nat.gcd_dvd_left _ _))
  have d2 : ((gcdL [a, b, c] : Nat) : Int) ∣ b := by rw [e]; exact Int.ofNat_dvd_left.2 (Nat.dvd_trans (Nat.gcd_dvd_left _ _) (Nat.gcd_dvd_right _ _))
  have d3 : ((gcdL [a, b, c] : Nat) : Int) ∣ c := by rw [e]; exact Int.ofNat_dvd_left.2 (Nat.gcd_dvd_right _ _)
  have h0 : 0 < gcdL [a, b, c] := by rw [e]; exact Nat.gcd_pos_of_pos_left _ (Nat.gcd_pos_of_pos_left _ (by omega))
  obtain ⟨p, hp⟩ := d1
  obtain ⟨q, hq⟩ := d2
  obtain ⟨r, hr⟩ := d3
  exact ⟨_, p, q, r, rfl, by omega, hp, hq, hr⟩
theorem nf_size' {A B D a b d : Int} {n : Nat} (hD : D ≠ 0) (E : (a, b, d) = nf A B D) (ha : A.natAbs < 2 ^ n) (hb : B.natAbs < 2 ^ n) (hd : D.natAbs < 2 ^ n) : Sz n a b d := by
  have h := nf_size (a := A) (b := B) hD
  rw [← E] at h
  exact ⟨Nat.lt_of_le_of_lt h.1 ha, Nat.lt_of_le_of_lt h.2.1 hb, Nat.lt_of_le_of_lt h.2.2 hd⟩
theorem Sz.lims {n : Nat} {a b d : Int} (h : Sz n a b d) (hn : n ≤ 12800) : a.natAbs < lim ∧ b.natAbs < lim ∧ d.natAbs < lim := ⟨lim_of h.a hn, lim_of h.b hn, lim_of h.d hn⟩
theorem lt64 {m : Int} (h1 : -9223372036854775808 ≤ m) (h2 : m ≤ 9223372036854775807) : m.natAbs < 2 ^ 64 := by
  have : (2 : Nat) ^ 64 = 18446744073709551616 := by decide
  omega
theorem eblend_ok (gc : Nat) (v1 v3 : Value) (a b d j a' b' d' k m u v t : Int) (n : Nat) (w : World) (hc : Calm w gc) (hX : RG w v1 a b d) (hY : RG w v3 a' b' d') (sx : Sz n a b d) (sy : Sz n a' b' d') (hn : n + n + 65 ≤ 12800)
    (hd : d ≠ 0) (hd' : d' ≠ 0) (hm : m ≠ 0) (j1 : -9223372036854775808 ≤ j) (j2 : j ≤ 9223372036854775807) (k1 : -9223372036854775808 ≤ k) (k2 : k ≤ 9223372036854775807) (m1 : -9223372036854775808 ≤ m) (m2 : m ≤ 9223372036854775807)
    (E : (u, v, t) = nf (j * a * d' + k * a' * d) (j * b * d' + k * b' * d) (d * d' * m)) :
    Calls Tryz.prog 85 #[.pointer (some ⟨gc, 0, none⟩), v1, .int .i64 j, v3, .int .i64 k, .int .i64 m] w fun e w' => ∃ x, e = .returned x ∧ RG w' x u v t ∧ Ext w w' := by
  obtain ⟨g, r, p, hg, hg0, er, ep⟩ := gcd2_facts (a := d) (b := d') hd'
  have bp : p.natAbs < 2 ^ n := lt_div hg0 ep sy.d
  have br : r.natAbs < 2 ^ n := lt_div hg0 er sx.d
  have bg : g.natAbs < 2 ^ n := lt_gcd hd ⟨r, er⟩ sx.d
  have bj := lt64 j1 j2
  have bk := lt64 k1 k2
  have bm := lt64 m1 m2
  have b33 := lt_mul bp bj
  have b41 := lt_mul br bk
  have b47 := lt_up (lt_mul sx.a b33) (n := n + n + 64) (by omega)
  have b52 := lt_up (lt_mul sy.a b41) (n := n + n + 64) (by omega)
  have b59 := lt_up (lt_mul sx.b b33) (n := n + n + 64) (by omega)
  have b64 := lt_up (lt_mul sy.b b41) (n := n + n + 64) (by omega)
  have b53 := lt_add b47 b52
  have b65 := lt_add b59 b64
  have b75 := lt_mul sx.d bp
  have b77 := lt_mul b75 bm
  have h77 : d * p * m ≠ 0 := Int.mul_ne_zero (Int.mul_ne_zero hd (by intro h; rw [h] at ep; simp at ep; exact hd' ep)) hm
  have E' : (u, v, t) = nf (a * (p * j) + a' * (r * k)) (b * (p * j) + b' * (r * k)) (d * p * m) := by
    rw [E]
    refine nf_unique (Int.mul_ne_zero (Int.mul_ne_zero hd hd') hm) h77 ?_ ?_
    · rw [ep]; generalize hD : d = D at *; subst er; grind
    · rw [ep]; generalize hD : d = D at *; subst er; grind
  have sz := nf_size' (n := n + n + 65) h77 E' b53 b65 (lt_up b77 (by omega))
  obtain ⟨x1, x2, x3⟩ := sx.lims (by omega)
  obtain ⟨y1, y2, y3⟩ := sy.lims (by omega)
  obtain ⟨s1, s2, s3⟩ := sz.lims hn
  exact eblend_w gc v1 a b d j v3 a' b' d' k m w hc hX x1 x2 x3 j1 j2 hY y1 y2 y3 k1 k2 m1 m2 g (Lib.hid hg) (lim_of bg (by omega))
    p (Lib.hid (div_of hg0 ep)) (lim_of bp (by omega)) (Lib.hid hg0) (Lib.hid ⟨p, ep⟩) _ (Lib.hid rfl) (lim_of b33 (by omega))
    r (Lib.hid (div_of hg0 er)) (lim_of br (by omega)) (Lib.hid hg0) (Lib.hid ⟨r, er⟩) _ (Lib.hid rfl) (lim_of b41 (by omega))
    _ (Lib.hid rfl) (lim_of b47 (by omega)) _ (Lib.hid rfl) (lim_of b52 (by omega)) _ (Lib.hid rfl) (lim_of b53 (by omega))
    _ (Lib.hid rfl) (lim_of b59 (by omega)) _ (Lib.hid rfl) (lim_of b64 (by omega)) _ (Lib.hid rfl) (lim_of b65 (by omega))
    p (Lib.hid (div_of hg0 ep)) (lim_of bp (by omega)) (Lib.hid hg0) (Lib.hid ⟨p, ep⟩) _ (Lib.hid rfl) (lim_of b75 (by omega)) _ (Lib.hid rfl) (lim_of b77 (by omega)) (Lib.hid h77) u v t (Lib.hid E') s1 s2 s3
end Go.Proofs.YtclkkoiaaddllaaGreat
