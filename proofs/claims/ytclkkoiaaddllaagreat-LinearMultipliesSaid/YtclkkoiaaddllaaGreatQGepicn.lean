/- Zero, Same, Div: the program and its specification. -/
import Derived.Test.YtclkkoiaaddllaaGreatQGcgnpi
import Derived.Test.YtclkkoiaaddllaaGreatQNGcamk
import Derived.Test.YtclkkoiaaddllaaGreatQNJbkic
import Derived.Test.YtclkkoiaaddllaaGreatQNIcbam
namespace Go.Proofs.YtclkkoiaaddllaaGreat
open Go.RowKit
set_option linter.unusedVariables false

set_option maxRecDepth 100000 in
set_option maxHeartbeats 1600000 in
theorem xzero_any (s1 : Bool) (A1 : Option Addr) (n1 c1 : Nat) (s2 : Bool) (A2 : Option Addr) (n2 c2 : Nat) (s3 : Bool) (A3 : Option Addr) (n3 c3 : Nat) (w : World) :
    Calls Tryz.prog 83 #[gv s1 A1 n1 c1 s2 A2 n2 c2 s3 A3 n3 c3] w fun e w' => e = .returned (.bool (decide (n1 = 0) && decide (n2 = 0))) ∧ Ext w w' := by
  have b0 := Blk.new w 32 #[.bool s1, .slice A1 n1 c1, .bool s2, .slice A2 n2 c2, .bool s3, .slice A3 n3 c3]
  have k0 := b0.cell
  by_cases h1 : n1 = 0
  · have d1 : ((n1 : Int) == 0) = true := by simp; omega
    have H1 := Lib.hid h1; clear h1
    by_cases h2 : n2 = 0
    · have d2 : ((n2 : Int) == 0) = true := by simp; omega
      have H2 := Lib.hid h2; clear h2
      go_enter Tryz.func83, Tryz.ntmps83
      go_wp2
      go_ret
      exact ⟨ret_bool (by simp [H1.out, H2.out]), Ext.new _ _⟩
    · have d2 : ((n2 : Int) == 0) = false := by simp; omega
      have H2 := Lib.hid h2; clear h2
      go_enter Tryz.func83, Tryz.ntmps83
      go_wp2
      go_ret
      exact ⟨ret_bool (by simp [H2.out]), Ext.new _ _⟩
  · have d1 : ((n1 : Int) == 0) = false := by simp; omega
    have H1 := Lib.hid h1; clear h1
    go_enter Tryz.func83, Tryz.ntmps83
    go_wp2
    go_ret
    exact ⟨ret_bool (by simp [H1.out]), Ext.new _ _⟩
theorem xzero_at (s1 : Bool) (A1 : Option Addr) (n1 c1 : Nat) (s2 : Bool) (A2 : Option Addr) (n2 c2 : Nat) (s3 : Bool) (A3 : Option Addr) (n3 c3 : Nat) (r : Bool) (w : World) (h : (decide (n1 = 0) && decide (n2 = 0)) = r) :
    Calls Tryz.prog 83 #[gv s1 A1 n1 c1 s2 A2 n2 c2 s3 A3 n3 c3] w fun e w' => e = .returned (.bool r) ∧ Ext w w' := by
  have := xzero_any s1 A1 n1 c1 s2 A2 n2 c2 s3 A3 n3 c3 w
  rwa [h] at this
theorem RI.n0 {w : World} {s : Bool} {A : Option Addr} {n c : Nat} {z : Int} (h : RI w (iv s A n c) z) : decide (n = 0) = decide (z = 0) := by
  by_cases hz : z = 0
  · have := RI.len0 h hz
    simp at this
    simp [this, hz]
  · have := RI.lenne h hz
    simp at this
    simp [this, hz]
theorem Is.zero_iff {q : GQ} {a b d : Int} (h : Is q a b d) : q = GQ.i 0 0 ↔ a = 0 ∧ b = 0 := by
  have hd := cast_ne h.dne
  constructor
  · intro e
    have e1 := h.re
    have e2 := h.im
    rw [e] at e1 e2
    simp only [GQ.i_re, GQ.i_im] at e1 e2
    have f1 : (a : Rat) = 0 := by grind
    have f2 : (b : Rat) = 0 := by grind
    exact ⟨by exact_mod_cast f1, by exact_mod_cast f2⟩
  · rintro ⟨rfl, rfl⟩
    ext
    · rw [h.re]; simp only [GQ.i_re]; grind
    · rw [h.im]; simp only [GQ.i_im]; grind
/-- zero says whether the number is 0. -/
theorem GV.zero {w : World} {q : GQ} {n n1 c1 n2 c2 n3 c3 : Nat} {s1 s2 s3 : Bool} {A1 A2 A3 : Option Addr} (h : GV w (gv s1 A1 n1 c1 s2 A2 n2 c2 s3 A3 n3 c3) q n) : (decide (n1 = 0) && decide (n2 = 0)) = true ↔ q = GQ.i 0 0 := by
  obtain ⟨a, b, d, h1, h2, _⟩ := h
  obtain ⟨r1, r2, r3⟩ := RG.inj h1
  rw [RI.n0 r1, RI.n0 r2, h2.zero_iff]
  simp
theorem GV.opn {w : World} {v : Value} {q : GQ} {n : Nat} (h : GV w v q n) : ∃ s1 A1 n1 c1 s2 A2 n2 c2 s3 A3 n3 c3, v = gv s1 A1 n1 c1 s2 A2 n2 c2 s3 A3 n3 c3 := by
  obtain ⟨a, b, d, ⟨s1, A1, n1, c1, s2, A2, n2, c2, s3, A3, n3, c3, e, _⟩, _⟩ := h
  exact ⟨s1, A1, n1, c1, s2, A2, n2, c2, s3, A3, n3, c3, e⟩
theorem xzero_no (v : Value) (q : GQ) (n : Nat) (w : World) (hX : GV w v q n) (h : q ≠ GQ.i 0 0) :
    Calls Tryz.prog 83 #[v] w fun e w' => e = .returned (.bool false) ∧ Ext w w' := by
  obtain ⟨s1, A1, n1, c1, s2, A2, n2, c2, s3, A3, n3, c3, rfl⟩ := hX.opn
  exact xzero_at _ _ _ _ _ _ _ _ _ _ _ _ _ w (by rw [Bool.eq_false_iff]; intro e; exact h (hX.zero.1 e))
theorem Bd.div {x y : GQ} {n1 n2 : Nat} (hx : Bd x n1) (hy : Bd y n2) (h : y ≠ GQ.i 0 0) : Bd (x / y) (n1 + (n2 + n2 + 1)) := by
  obtain ⟨a, b, d, i1, s1⟩ := hx
  obtain ⟨a', b', d', i2, s2⟩ := hy
  obtain ⟨u, v, t, hh⟩ := is_ex (x / y)
  have h0 := i2.ne0 h
  have E := i1.div_nf i2 h0 hh
  have k1 := lt_mul (lt_add (lt_mul s1.a s2.a) (lt_mul s1.b s2.b)) s2.d
  have k2 := lt_mul (lt_sub (lt_mul s1.b s2.a) (lt_mul s1.a s2.b)) s2.d
  have k3 := lt_mul s1.d (lt_add (lt_mul s2.a s2.a) (lt_mul s2.b s2.b))
  exact ⟨u, v, t, hh, nf_size' (n := n1 + (n2 + n2 + 1)) (Int.mul_ne_zero i1.dne (norm_ne h0)) E (lt_up k1 (by omega)) (lt_up k2 (by omega)) k3⟩
set_option maxRecDepth 100000 in
set_option maxHeartbeats 800000 in
theorem xZero_y (s0a : Bool) (A0a : Option Addr) (n0a c0a : Nat) (s0b : Bool) (A0b : Option Addr) (n0b c0b : Nat) (s0d : Bool) (A0d : Option Addr) (n0d c0d : Nat) (b0 : Bool) (w : World) (hV0 : VB w (gv s0a A0a n0a c0a s0b A0b n0b c0b s0d A0d n0d c0d) b0) (H0 : Hid ((decide (n0a = 0) && decide (n0b = 0)) = true))
      :
    Calls Tryz.prog 53 #[gv s0a A0a n0a c0a s0b A0b n0b c0b s0d A0d n0d c0d] w fun e w' => e = .returned (.bool b0) ∧ Ext w w' := by
  have hS := St.start w
  have o1 : Own w w.heap.size := Own.of hS.ext (by simp)
  have hT1 := (St.al hS 32 #[.bool s0a, .slice A0a n0a c0a, .bool s0b, .slice A0b n0b c0b, .bool s0d, .slice A0d n0d c0d] (g := w.heap.size) (by simp))
  have k_1 := (hT1.blk 0 rfl).cell
  go_enter Tryz.func53, Tryz.ntmps53
  go_wp2_with fail
  clear k_1
  clear hT1
  replace hS := (St.al hS 32 #[.bool s0a, .slice A0a n0a c0a, .bool s0b, .slice A0b n0b c0b, .bool s0d, .slice A0d n0d c0d] (g := w.heap.size) (by simp))
  generalize (w.alloc (.cells #[.bool s0a, .slice A0a n0a c0a, .bool s0b, .slice A0b n0b c0b, .bool s0d, .slice A0d n0d c0d] 32)) = w1 at hS ⊢
  generalize w.heap.size = g1 at hS o1 ⊢
  refine (xzero_at s0a A0a n0a c0a s0b A0b n0b c0b s0d A0d n0d c0d true _ H0.out).mono ?_
  rintro e w2 ⟨rfl, hx_⟩
  replace hS := hS.mv hx_
  clear hx_
  have k_2 := (hS.blk 0 rfl).cell
  go_wp2_with fail
  clear k_2
  refine (VB.e (hV0.ext hS.ext)).mono ?_
  rintro e w3 ⟨rfl, hx_⟩
  replace hS := hS.mv hx_
  clear hx_
  go_wp2
  go_ret
  exact ⟨ret_bool (rfl), hS.ext⟩

set_option maxRecDepth 100000 in
set_option maxHeartbeats 800000 in
theorem xZero_n (s0a : Bool) (A0a : Option Addr) (n0a c0a : Nat) (s0b : Bool) (A0b : Option Addr) (n0b c0b : Nat) (s0d : Bool) (A0d : Option Addr) (n0d c0d : Nat) (b0 : Bool) (w : World) (hV0 : VB w (gv s0a A0a n0a c0a s0b A0b n0b c0b s0d A0d n0d c0d) b0) (H0 : Hid ((decide (n0a = 0) && decide (n0b = 0)) = false))
      :
    Calls Tryz.prog 53 #[gv s0a A0a n0a c0a s0b A0b n0b c0b s0d A0d n0d c0d] w fun e w' => e = .returned (.bool false) ∧ Ext w w' := by
  have hS := St.start w
  have o1 : Own w w.heap.size := Own.of hS.ext (by simp)
  have hT1 := (St.al hS 32 #[.bool s0a, .slice A0a n0a c0a, .bool s0b, .slice A0b n0b c0b, .bool s0d, .slice A0d n0d c0d] (g := w.heap.size) (by simp))
  have k_1 := (hT1.blk 0 rfl).cell
  go_enter Tryz.func53, Tryz.ntmps53
  go_wp2_with fail
  clear k_1
  clear hT1
  replace hS := (St.al hS 32 #[.bool s0a, .slice A0a n0a c0a, .bool s0b, .slice A0b n0b c0b, .bool s0d, .slice A0d n0d c0d] (g := w.heap.size) (by simp))
  generalize (w.alloc (.cells #[.bool s0a, .slice A0a n0a c0a, .bool s0b, .slice A0b n0b c0b, .bool s0d, .slice A0d n0d c0d] 32)) = w1 at hS ⊢
  generalize w.heap.size = g1 at hS o1 ⊢
  refine (xzero_at s0a A0a n0a c0a s0b A0b n0b c0b s0d A0d n0d c0d false _ H0.out).mono ?_
  rintro e w2 ⟨rfl, hx_⟩
  replace hS := hS.mv hx_
  clear hx_
  go_wp2
  go_ret
  exact ⟨ret_bool (rfl), hS.ext⟩

theorem xZero_yes (v : Value) (q : GQ) (n : Nat) (w : World) (hX : GV w v q n) (hn : n ≤ 12800) (h : q = GQ.i 0 0) :
    Calls Tryz.prog 53 #[v] w fun e w' => e = .returned (.bool true) ∧ Ext w w' := by
  obtain ⟨s1, A1, n1, c1, s2, A2, n2, c2, s3, A3, n3, c3, rfl⟩ := hX.opn
  exact xZero_y _ _ _ _ _ _ _ _ _ _ _ _ _ w (hX.vb hn) (Lib.hid (hX.zero.2 h))
theorem xZero_no (v : Value) (q : GQ) (n : Nat) (w : World) (hX : GV w v q n) (hn : n ≤ 12800) (h : q ≠ GQ.i 0 0) :
    Calls Tryz.prog 53 #[v] w fun e w' => e = .returned (.bool false) ∧ Ext w w' := by
  obtain ⟨s1, A1, n1, c1, s2, A2, n2, c2, s3, A3, n3, c3, rfl⟩ := hX.opn
  exact xZero_n _ _ _ _ _ _ _ _ _ _ _ _ _ w (hX.vb hn) (Lib.hid (by rw [Bool.eq_false_iff]; intro e; exact h (hX.zero.1 e)))

set_option maxRecDepth 100000 in
set_option maxHeartbeats 3200000 in
theorem xDiv_w (v0 : Value) (q0 : GQ) (n0 : Nat) (v1 : Value) (q1 : GQ) (n1 : Nat) (w : World) (hX0 : GV w v0 q0 n0) (hX1 : GV w v1 q1 n1) (H0 : Hid (q1 ≠ GQ.i 0 0))
     (hn : 4 * max n0 n1 + 3 ≤ 12800) :
    Calls Tryz.prog 117 #[v0, v1] w fun e w' => ∃ v, e = .returned v ∧ (∃ u, v = .tuple #[u, .int .i64 0] ∧ GV w' u (q0 / q1) (n0 + (n1 + n1 + 1))) ∧ Ext w w' := by
  have hS := St.start w
  obtain ⟨x0a, x0b, x0d, hX0, I0, S0⟩ := hX0
  obtain ⟨a0, a1, a2, a3, a4, a5, a6, a7, a8, a9, aa, ab, rfl, aJ, aK, aL⟩ := hX0
  replace hS := hS.addI aJ
  clear aJ
  replace hS := hS.addI aK
  clear aK
  replace hS := hS.addI aL
  clear aL
  obtain ⟨x1a, x1b, x1d, hX1, I1, S1⟩ := hX1
  obtain ⟨ac, ad, ae, af, ag, ah, ai, aj, ak, am, an, ao, rfl, aM, aN, aO⟩ := hX1
  replace hS := hS.addI aM
  clear aM
  replace hS := hS.addI aN
  clear aN
  replace hS := hS.addI aO
  clear aO
  have o2 : Own w w.heap.size := Own.of hS.ext (by simp)
  have o3 : Own w (w.heap.size + 1) := Own.of hS.ext (by simp)
  have o4 : Own w (w.heap.size + 2) := Own.of hS.ext (by simp)
  have aS := (St.al (St.al (St.al hS 32 #[.bool a0, .slice a1 a2 a3, .bool a4, .slice a5 a6 a7, .bool a8, .slice a9 aa ab] (g := w.heap.size) (by simp)) 32 #[.bool ac, .slice ad ae af, .bool ag, .slice ah ai aj, .bool ak, .slice am an ao] (g := (w.heap.size + 1)) (by simp)) 32 #[.bool false, .slice none 0 0, .bool false, .slice none 0 0, .bool false, .slice none 0 0] (g := (w.heap.size + 2)) (by simp))
  have k_1 := (aS.blk 2 rfl).cell
  have k_2 := (aS.blk 1 rfl).cell
  have o9 : Own w (w.heap.size + 3) := Own.of hS.ext (by simp)
  go_enter Tryz.func117, Tryz.ntmps117
  go_wp2_with fail
  clear k_1 k_2
  clear aS
  replace hS := (St.al (St.al (St.al (St.al hS 32 #[.bool a0, .slice a1 a2 a3, .bool a4, .slice a5 a6 a7, .bool a8, .slice a9 aa ab] (g := w.heap.size) (by simp)) 32 #[.bool ac, .slice ad ae af, .bool ag, .slice ah ai aj, .bool ak, .slice am an ao] (g := (w.heap.size + 1)) (by simp)) 32 #[.bool false, .slice none 0 0, .bool false, .slice none 0 0, .bool false, .slice none 0 0] (g := (w.heap.size + 2)) (by simp)) 32 #[.bool a0, .slice a1 a2 a3, .bool a4, .slice a5 a6 a7, .bool a8, .slice a9 aa ab, .bool ac, .slice ad ae af, .bool ag, .slice ah ai aj, .bool ak, .slice am an ao] (g := (w.heap.size + 3)) (by simp))
  generalize ((((w.alloc (.cells #[.bool a0, .slice a1 a2 a3, .bool a4, .slice a5 a6 a7, .bool a8, .slice a9 aa ab] 32)).alloc (.cells #[.bool ac, .slice ad ae af, .bool ag, .slice ah ai aj, .bool ak, .slice am an ao] 32)).alloc (.cells #[.bool false, .slice none 0 0, .bool false, .slice none 0 0, .bool false, .slice none 0 0] 32)).alloc (.cells #[.bool a0, .slice a1 a2 a3, .bool a4, .slice a5 a6 a7, .bool a8, .slice a9 aa ab, .bool ac, .slice ad ae af, .bool ag, .slice ah ai aj, .bool ak, .slice am an ao] 32)) = w1 at hS ⊢
  generalize w.heap.size + 3 = g9 at hS o9 ⊢
  generalize w.heap.size + 2 = g4 at hS o4 ⊢
  generalize w.heap.size + 1 = g3 at hS o3 ⊢
  generalize w.heap.size = g2 at hS o2 ⊢
  refine (xvalid2_ok g9 q0 q1 n0 n1 _ (hS.blk 0 rfl) ⟨_, _, _, RG.mk (hS.num 5 rfl) (hS.num 4 rfl) (hS.num 3 rfl), I0, S0⟩ (by omega) ⟨_, _, _, RG.mk (hS.num 2 rfl) (hS.num 1 rfl) (hS.num 0 rfl), I1, S1⟩ (by omega)).mono ?_
  rintro e w2 ⟨rfl, hx_⟩
  replace hS := hS.mv hx_
  clear hx_
  have k_3 := (hS.blk 2 rfl).cell
  go_wp2_with fail
  clear k_3
  refine (xzero_no _ q1 (n1) _ ⟨_, _, _, RG.mk (hS.num 2 rfl) (hS.num 1 rfl) (hS.num 0 rfl), I1, S1⟩ H0.out).mono ?_
  rintro e w3 ⟨rfl, hx_⟩
  replace hS := hS.mv hx_
  clear hx_
  have o6 : Own w w3.heap.size := Own.of hS.ext (by simp)
  have aT := (St.al hS 105 #[.int .i64 0] (g := w3.heap.size) (by simp))
  have k_4 := (aT.blk 4 rfl).cell
  have k_5 := (aT.blk 3 rfl).cell
  go_wp2_with fail
  clear k_4 k_5
  clear aT
  replace hS := (St.al hS 105 #[.int .i64 0] (g := w3.heap.size) (by simp))
  generalize (w3.alloc (.cells #[.int .i64 0] 105)) = w4 at hS ⊢
  generalize w3.heap.size = g6 at hS o6 ⊢
  obtain ⟨aP, aQ, aR, aU⟩ := is_ex (q0 / q1)
  have S18 : Sz (n0 + (n1 + n1 + 1)) aP aQ aR := (Bd.div ⟨_, _, _, I0, S0⟩ ⟨_, _, _, I1, S1⟩ H0.out).sz aU
  refine (toRG (equotient_q g6 _ _ q0 q1 _ _ _ (hS.blk 0 rfl) ⟨_, _, _, RG.mk (hS.num 5 rfl) (hS.num 4 rfl) (hS.num 3 rfl), I0, S0⟩ ⟨_, _, _, RG.mk (hS.num 2 rfl) (hS.num 1 rfl) (hS.num 0 rfl), I1, S1⟩ (by omega) H0.out) aU).mono ?_
  rintro e w5 ⟨v_, rfl, hv_, hx_⟩
  replace hS := hS.mv hx_
  clear hx_
  obtain ⟨s18a, aV, n18a, c18a, s18b, aW, n18b, c18b, s18d, aX, n18d, c18d, rfl, ap, aq, ar⟩ := hv_
  replace hS := hS.addI ap
  clear ap
  replace hS := hS.addI aq
  clear aq
  replace hS := hS.addI ar
  clear ar
  go_wp2_with fail
  refine (enumber_w g6 _ aP aQ aR _ (hS.blk 0 rfl) (RG.mk (hS.num 2 rfl) (hS.num 1 rfl) (hS.num 0 rfl))).mono ?_
  rintro e w6 ⟨v_, rfl, hv_, hx_⟩
  replace hS := hS.mv hx_
  clear hx_
  obtain ⟨_, rfl, aA, au, aB, aC, aD, av, aE, aF, aG, aw, aH, aI, rfl, ax, ay, az⟩ := hv_
  replace hS := hS.addI ax
  clear ax
  replace hS := hS.addI ay
  clear ay
  replace hS := hS.addI az
  clear az
  have k_6 := (hS.blk 2 rfl).cell
  have k_7 := (hS.blk 2 rfl).frozen
  go_wp2
  replace hS := (St.put (W' := ((((((w6.setCell ⟨g4, 0, none⟩ (.bool aA)).setCell ⟨g4, 1, none⟩ (.slice au aB aC)).setCell ⟨g4, 2, none⟩ (.bool aD)).setCell ⟨g4, 3, none⟩ (.slice av aE aF)).setCell ⟨g4, 4, none⟩ (.bool aG)).setCell ⟨g4, 5, none⟩ (.slice aw aH aI))) hS 2 0 [.bool aA, .slice au aB aC, .bool aD, .slice av aE aF, .bool aG, .slice aw aH aI] (cs' := #[.bool aA, .slice au aB aC, .bool aD, .slice av aE aF, .bool aG, .slice aw aH aI]) (bs' := _) rfl o4 rfl rfl (by kernel_rfl) rfl)
  exact bp_gauss2 rfl rfl rfl (hS.blk 2 rfl) ⟨_, rfl, ⟨_, rfl, ⟨_, _, _, RG.mk (hS.num 2 rfl) (hS.num 1 rfl) (hS.num 0 rfl), aU, S18⟩⟩, hS.ext⟩

end Go.Proofs.YtclkkoiaaddllaaGreat
