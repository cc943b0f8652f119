/- Zero, Same, Div: the program and its specification. -/
import Derived.Test.YtclkkoiaaddllaaGreatQGcglcp
import Derived.Test.YtclkkoiaaddllaaGreatQNGpcea
import Derived.Test.YtclkkoiaaddllaaGreatQNJmaak
import Derived.Test.YtclkkoiaaddllaaGreatQNIjenn

namespace Go.Proofs.YtclkkoiaaddllaaGreat
open Go.RowKit
set_option linter.unusedVariables false

set_option maxRecDepth 100000 in
set_option maxHeartbeats 1600000 in
theorem xzero_any (s1 : Bool) (A1 : Option Addr) (n1 c1 : Nat) (s2 : Bool) (A2 : Option Addr) (n2 c2 : Nat) (s3 : Bool) (A3 : Option Addr) (n3 c3 : Nat) (w : World) :
    Calls Tryz.prog 83 #[gv s1 A1 n1 c1 s2 A2 n2 c2 s3 A3 n3 c3] w fun e w' => e = .returned (.bool (decide (n1 = 0) && decide (n2 = 0))) ∧ Ext w w' := by
  have b0 := Blk.new w 32 #[.bool s1, .slice A1 n1 c1, .bool s2, .slice A2 n2 c2, .bool s3, .slice A3 n3 c3]
  have k0 := b0.cell
  by_cases h1 : n1 = 0
  · have d1 : ((n1 : Int) == 0) = true := by simp; omega
    have H1 := Lib.hid h1; clear h1
    by_cases h2 : n2 = 0
    · have d2 : ((n2 : Int) == 0) = true := by simp; omega
      have H2 := Lib.hid h2; clear h2
      go_enter Tryz.func83, Tryz.ntmps83
      go_wp2
      go_ret
      exact ⟨ret_bool (by simp [H1.out, H2.out]), Ext.new _ _⟩
    · have d2 : ((n2 : Int) == 0) = false := by simp; omega
      have H2 := Lib.hid h2; clear h2
      go_enter Tryz.func83, Tryz.ntmps83
      go_wp2
      go_ret
      exact ⟨ret_bool (by simp [H2.out]), Ext.new _ _⟩
  · have d1 : ((n1 : Int) == 0) = false := by simp; omega
    have H1 := Lib.hid h1; clear h1
    go_enter Tryz.func83, Tryz.ntmps83
    go_wp2
    go_ret
    exact ⟨ret_bool (by simp [H1.out]), Ext.new _ _⟩
theorem xzero_at (s1 : Bool) (A1 : Option Addr) (n1 c1 : Nat) (s2 : Bool) (A2 : Option Addr) (n2 c2 : Nat) (s3 : Bool) (A3 : Option Addr) (n3 c3 : Nat) (r : Bool) (w : World) (h : (decide (n1 = 0) && decide (n2 = 0)) = r) :
    Calls Tryz.prog 83 #[gv s1 A1 n1 c1 s2 A2 n2 c2 s3 A3 n3 c3] w fun e w' => e = .returned (.bool r) ∧ Ext w w' := by
  have := xzero_any s1 A1 n1 c1 s2 A2 n2 c2 s3 A3 n3 c3 w
  rwa [h] at this
theorem RI.n0 {w : World} {s : Bool} {A : Option Addr} {n c : Nat} {z : Int} (h : RI w (iv s A n c) z) : decide (n = 0) = decide (z = 0) := by
  by_cases hz : z = 0
  · have := RI.len0 h hz
    simp at this
    simp [this, hz]
  · have := RI.lenne h hz
    simp at this
    simp [this, hz]
theorem Is.zero_iff {q : GQ} {a b d : Int} (h : Is q a b d) : q = GQ.i 0 0 ↔ a = 0 ∧ b = 0 := by
  have hd := cast_ne h.dne
  constructor
  · intro e
    have e1 := h.re
    have e2 := h.im
    rw [e] at e1 e2
    simp only [GQ.i_re, GQ.i_im] at e1 e2
    have f1 : (a : Rat) = 0 := by grind
    have f2 : (b : Rat) = 0 := by grind
    exact ⟨by exact_mod_cast f1, by exact_mod_cast f2⟩
  · rintro ⟨rfl, rfl⟩
    ext
    · rw [h.re]; simp only [GQ.i_re]; grind
    · rw [h.im]; simp only [GQ.i_im]; grind
/-- zero says whether the number is 0. -/
theorem GV.zero {w : World} {q : GQ} {n n1 c1 n2 c2 n3 c3 : Nat} {s1 s2 s3 : Bool} {A1 A2 A3 : Option Addr} (h : GV w (gv s1 A1 n1 c1 s2 A2 n2 c2 s3 A3 n3 c3) q n) : (decide (n1 = 0) && decide (n2 = 0)) = true ↔ q = GQ.i 0 0 := by
  obtain ⟨a, b, d, h1, h2, _⟩ := h
  obtain ⟨r1, r2, r3⟩ := RG.inj h1
  rw [RI.n0 r1, RI.n0 r2, h2.zero_iff]
  simp
theorem GV.opn {w : World} {v : Value} {q : GQ} {n : Nat} (h : GV w v q n) : ∃ s1 A1 n1 c1 s2 A2 n2 c2 s3 A3 n3 c3, v = gv s1 A1 n1 c1 s2 A2 n2 c2 s3 A3 n3 c3 := by
  obtain ⟨a, b, d, ⟨s1, A1, n1, c1, s2, A2, n2, c2, s3, A3, n3, c3, e, _⟩, _⟩ := h
  exact ⟨s1, A1, n1, c1, s2, A2, n2, c2, s3, A3, n3, c3, e⟩
theorem xzero_no (v : Value) (q : GQ) (n : Nat) (w : World) (hX : GV w v q n) (h : q ≠ GQ.i 0 0) :
    Calls Tryz.prog 83 #[v] w fun e w' => e = .returned (.bool false) ∧ Ext w w' := by
  obtain ⟨s1, A1, n1, c1, s2, A2, n2, c2, s3, A3, n3, c3, rfl⟩ := hX.opn
  exact xzero_at _ _ _ _ _ _ _ _ _ _ _ _ _ w (by rw [Bool.eq_false_iff]; intro e; exact h (hX.zero.1 e))
theorem Bd.div {x y : GQ} {n1 n2 : Nat} (hx : Bd x n1) (hy : Bd y n2) (h : y ≠ GQ.i 0 0) : Bd (x / y) (n1 + (n2 + n2 + 1)) := by
  obtain ⟨a, b, d, i1, s1⟩ := hx
  obtain ⟨a', b', d', i2, s2⟩ := hy
  obtain ⟨u, v, t, hh⟩ := is_ex (x / y)
  have h0 := i2.ne0 h
  have E := i1.div_nf i2 h0 hh
  have k1 := lt_mul (lt_add (lt_mul s1.a s2.a) (lt_mul s1.b s2.b)) s2.d
  have k2 := lt_mul (lt_sub (lt_mul s1.b s2.a) (lt_mul s1.a s2.b)) s2.d
  have k3 := lt_mul s1.d (lt_add (lt_mul s2.a s2.a) (lt_mul s2.b s2.b))
  exact ⟨u, v, t, hh, nf_size' (n := n1 + (n2 + n2 + 1)) (Int.mul_ne_zero i1.dne (norm_ne h0)) E (lt_up k1 (by omega)) (lt_up k2 (by omega)) k3⟩
set_option maxRecDepth 100000 in
set_option maxHeartbeats 800000 in
theorem xZero_y (s0a : Bool) (A0a : Option Addr) (n0a c0a : Nat) (s0b : Bool) (A0b : Option Addr) (n0b c0b : Nat) (s0d : Bool) (A0d : Option Addr) (n0d c0d : Nat) (b0 : Bool) (w : World) (hV0 : VB w (gv s0a A0a n0a c0a s0b A0b n0b c0b s0d A0d n0d c0d) b0) (H0 : Hid ((decide (n0a = 0) && decide (n0b = 0)) = true))
      :
    Calls Tryz.prog 53 #[gv s0a A0a n0a c0a s0b A0b n0b c0b s0d A0d n0d c0d] w fun e w' => e = .returned (.bool b0) ∧ Ext w w' := by
  have hS := St.start w
  have o1 : Own w w.heap.size := Own.of hS.ext (by simp)
  have hT1 := (St.al hS 32 #[.bool s0a, .slice A0a n0a c0a, .bool s0b, .slice A0b n0b c0b, .bool s0d, .slice A0d n0d c0d] (g := w.heap.size) (by simp))
  have k_1 := (hT1.blk 0 rfl).cell
  go_enter Tryz.func53, Tryz.ntmps53
  go_wp2_with fail
  clear k_1
  clear hT1
  replace hS := (St.al hS 32 #[.bool s0a, .slice A0a n0a c0a, .bool s0b, .slice A0b n0b c0b, .bool s0d, .slice A0d n0d c0d] (g := w.heap.size) (by simp))
  generalize (w.alloc (.cells #[.bool s0a, .slice A0a n0a c0a, .bool s0b, .slice A0b n0b c0b, .bool s0d, .slice A0d n0d c0d] 32)) = w1 at hS ⊢
  generalize w.heap.size = g1 at hS o1 ⊢
  refine (xzero_at s0a A0a n0a c0a s0b A0b n0b c0b s0d A0d n0d c0d true _ H0.out).mono ?_
  rintro e w2 ⟨rfl, hx_⟩
  replace hS := hS.mv hx_
  clear hx_
  have k_2 := (hS.blk 0 rfl).cell
  go_wp2_with fail
  clear k_2
  refine (VB.e (hV0.ext hS.ext)).mono ?_
  rintro e w3 ⟨rfl, hx_⟩
  replace hS := hS.mv hx_
  clear hx_
  go_wp2
  go_ret
  exact ⟨ret_bool (rfl), hS.ext⟩

set_option maxRecDepth 100000 in
set_option maxHeartbeats 800000 in
theorem xZero_n (s0a : Bool) (A0a : Option Addr) (n0a c0a : Nat) (s0b : Bool) (A0b : Option Addr) (n0b c0b : Nat) (s0d : Bool) (A0d : Option Addr) (n0d c0d : Nat) (b0 : Bool) (w : World) (hV0 : VB w (gv s0a A0a n0a c0a s0b A0b n0b c0b s0d A0d n0d c0d) b0) (H0 : Hid ((decide (n0a = 0) && decide (n0b = 0)) = false))
      :
    Calls Tryz.prog 53 #[gv s0a A0a n0a c0a s0b A0b n0b c0b s0d A0d n0d c0d] w fun e w' => e = .returned (.bool false) ∧ Ext w w' := by
  have hS := St.start w
  have o1 : Own w w.heap.size := Own.of hS.ext (by simp)
  have hT1 := (St.al hS 32 #[.bool s0a, .slice A0a n0a c0a, .bool s0b, .slice A0b n0b c0b, .bool s0d, .slice A0d n0d c0d] (g := w.heap.size) (by simp))
  have k_1 := (hT1.blk 0 rfl).cell
  go_enter Tryz.func53, Tryz.ntmps53
  go_wp2_with fail
  clear k_1
  clear hT1
  replace hS := (St.al hS 32 #[.bool s0a, .slice A0a n0a c0a, .bool s0b, .slice A0b n0b c0b, .bool s0d, .slice A0d n0d c0d] (g := w.heap.size) (by simp))
  generalize (w.alloc (.cells #[.bool s0a, .slice A0a n0a c0a, .bool s0b, .slice A0b n0b c0b, .bool s0d, .slice A0d n0d c0d] 32)) = w1 at hS ⊢
  generalize w.heap.size = g1 at hS o1 ⊢
  refine (xzero_at s0a A0a n0a c0a s0b A0b n0b c0b s0d A0d n0d c0d false _ H0.out).mono ?_
  rintro e w2 ⟨rfl, hx_⟩
  replace hS := hS.mv hx_
  clear hx_
  go_wp2
  go_ret
  exact ⟨ret_bool (rfl), hS.ext⟩

theorem xZero_yes (v : Value) (q : GQ) (n : Nat) (w : World) (hX : GV w v q n) (hn : n ≤ 12800) (h : q = GQ.i 0 0) :
    Calls Tryz.prog 53 #[v] w fun e w' => e = .returned (.bool true) ∧ Ext w w' := by
  obtain ⟨s1, A1, n1, c1, s2, A2, n2, c2, s3, A3, n3, c3, rfl⟩ := hX.opn
  exact xZero_y _ _ _ _ _ _ _ _ _ _ _ _ _ w (hX.vb hn) (Lib.hid (hX.zero.2 h))
theorem xZero_no (v : Value) (q : GQ) (n : Nat) (w : World) (hX : GV w v q n) (hn : n ≤ 12800) (h : q ≠ GQ.i 0 0) :
    Calls Tryz.prog 53 #[v] w fun e w' => e = .returned (.bool false) ∧ Ext w w' := by
  obtain ⟨s1, A1, n1, c1, s2, A2, n2, c2, s3, A3, n3, c3, rfl⟩ := hX.opn
  exact xZero_n _ _ _ _ _ _ _ _ _ _ _ _ _ w (hX.vb hn) (Lib.hid (by rw [Bool.eq_false_iff]; intro e; exact h (hX.zero.1 e)))

set_option maxRecDepth 100000 in
set_option maxHeartbeats 800000 in
theorem qZero_z (v0 : Value) (x0a x0b x0d : Int) (w : World) (hX0 : RG w v0 x0a x0b x0d) (ax0a : x0a.natAbs < lim) (ax0b : x0b.natAbs < lim) (ax0d : x0d.natAbs < lim) (H0 : Hid (x0a = 0)) (H1 : Hid (x0b = 0))
      :
    Calls Tryz.prog 21 #[v0] w fun e w' => e = .returned (.bool true) ∧ Ext w w' := by
  have hS := St.start w
  obtain ⟨sx0a, Ax0a, nx0a, cx0a, sx0b, Ax0b, nx0b, cx0b, sx0d, Ax0d, nx0d, cx0d, rfl, hx0a, hx0b, hx0d⟩ := hX0
  replace hS := hS.addI hx0a
  clear hx0a
  replace hS := hS.addI hx0b
  clear hx0b
  replace hS := hS.addI hx0d
  clear hx0d
  have o1 : Own w w.heap.size := Own.of hS.ext (by simp)
  have hT1 := (St.al hS 32 #[.bool sx0a, .slice Ax0a nx0a cx0a, .bool sx0b, .slice Ax0b nx0b cx0b, .bool sx0d, .slice Ax0d nx0d cx0d] (g := w.heap.size) (by simp))
  have k_1 := (hT1.blk 0 rfl).cell
  go_enter Tryz.func21, Tryz.ntmps21
  go_wp2_with fail
  clear k_1
  clear hT1
  replace hS := (St.al hS 32 #[.bool sx0a, .slice Ax0a nx0a cx0a, .bool sx0b, .slice Ax0b nx0b cx0b, .bool sx0d, .slice Ax0d nx0d cx0d] (g := w.heap.size) (by simp))
  generalize (w.alloc (.cells #[.bool sx0a, .slice Ax0a nx0a cx0a, .bool sx0b, .slice Ax0b nx0b cx0b, .bool sx0d, .slice Ax0d nx0d cx0d] 32)) = w1 at hS ⊢
  generalize w.heap.size = g1 at hS o1 ⊢
  refine (rSign_at _ x0a (0) _ (hS.num 2 rfl) ax0a (cmpZ_zero H0.out)).mono ?_
  rintro e w2 ⟨rfl, hx_⟩
  replace hS := hS.mv hx_
  clear hx_
  have k_2 := (hS.blk 0 rfl).cell
  go_wp2_with fail
  clear k_2
  refine (rSign_at _ x0b (0) _ (hS.num 1 rfl) ax0b (cmpZ_zero H1.out)).mono ?_
  rintro e w3 ⟨rfl, hx_⟩
  replace hS := hS.mv hx_
  clear hx_
  go_wp2
  go_ret
  exact ⟨ret_bool (rfl), hS.ext⟩

set_option maxRecDepth 100000 in
set_option maxHeartbeats 800000 in
theorem qZero_bp (v0 : Value) (x0a x0b x0d : Int) (w : World) (hX0 : RG w v0 x0a x0b x0d) (ax0a : x0a.natAbs < lim) (ax0b : x0b.natAbs < lim) (ax0d : x0d.natAbs < lim) (H0 : Hid (x0a = 0)) (H1 : Hid (0 < x0b))
      :
    Calls Tryz.prog 21 #[v0] w fun e w' => e = .returned (.bool false) ∧ Ext w w' := by
  have hS := St.start w
  obtain ⟨sx0a, Ax0a, nx0a, cx0a, sx0b, Ax0b, nx0b, cx0b, sx0d, Ax0d, nx0d, cx0d, rfl, hx0a, hx0b, hx0d⟩ := hX0
  replace hS := hS.addI hx0a
  clear hx0a
  replace hS := hS.addI hx0b
  clear hx0b
  replace hS := hS.addI hx0d
  clear hx0d
  have o1 : Own w w.heap.size := Own.of hS.ext (by simp)
  have hT1 := (St.al hS 32 #[.bool sx0a, .slice Ax0a nx0a cx0a, .bool sx0b, .slice Ax0b nx0b cx0b, .bool sx0d, .slice Ax0d nx0d cx0d] (g := w.heap.size) (by simp))
  have k_1 := (hT1.blk 0 rfl).cell
  go_enter Tryz.func21, Tryz.ntmps21
  go_wp2_with fail
  clear k_1
  clear hT1
  replace hS := (St.al hS 32 #[.bool sx0a, .slice Ax0a nx0a cx0a, .bool sx0b, .slice Ax0b nx0b cx0b, .bool sx0d, .slice Ax0d nx0d cx0d] (g := w.heap.size) (by simp))
  generalize (w.alloc (.cells #[.bool sx0a, .slice Ax0a nx0a cx0a, .bool sx0b, .slice Ax0b nx0b cx0b, .bool sx0d, .slice Ax0d nx0d cx0d] 32)) = w1 at hS ⊢
  generalize w.heap.size = g1 at hS o1 ⊢
  refine (rSign_at _ x0a (0) _ (hS.num 2 rfl) ax0a (cmpZ_zero H0.out)).mono ?_
  rintro e w2 ⟨rfl, hx_⟩
  replace hS := hS.mv hx_
  clear hx_
  have k_2 := (hS.blk 0 rfl).cell
  go_wp2_with fail
  clear k_2
  refine (rSign_at _ x0b (1) _ (hS.num 1 rfl) ax0b (cmpZ_pos H1.out)).mono ?_
  rintro e w3 ⟨rfl, hx_⟩
  replace hS := hS.mv hx_
  clear hx_
  go_wp2
  go_ret
  exact ⟨ret_bool (rfl), hS.ext⟩

set_option maxRecDepth 100000 in
set_option maxHeartbeats 800000 in
theorem qZero_bn (v0 : Value) (x0a x0b x0d : Int) (w : World) (hX0 : RG w v0 x0a x0b x0d) (ax0a : x0a.natAbs < lim) (ax0b : x0b.natAbs < lim) (ax0d : x0d.natAbs < lim) (H0 : Hid (x0a = 0)) (H1 : Hid (x0b < 0))
      :
    Calls Tryz.prog 21 #[v0] w fun e w' => e = .returned (.bool false) ∧ Ext w w' := by
  have hS := St.start w
  obtain ⟨sx0a, Ax0a, nx0a, cx0a, sx0b, Ax0b, nx0b, cx0b, sx0d, Ax0d, nx0d, cx0d, rfl, hx0a, hx0b, hx0d⟩ := hX0
  replace hS := hS.addI hx0a
  clear hx0a
  replace hS := hS.addI hx0b
  clear hx0b
  replace hS := hS.addI hx0d
  clear hx0d
  have o1 : Own w w.heap.size := Own.of hS.ext (by simp)
  have hT1 := (St.al hS 32 #[.bool sx0a, .slice Ax0a nx0a cx0a, .bool sx0b, .slice Ax0b nx0b cx0b, .bool sx0d, .slice Ax0d nx0d cx0d] (g := w.heap.size) (by simp))
  have k_1 := (hT1.blk 0 rfl).cell
  go_enter Tryz.func21, Tryz.ntmps21
  go_wp2_with fail
  clear k_1
  clear hT1
  replace hS := (St.al hS 32 #[.bool sx0a, .slice Ax0a nx0a cx0a, .bool sx0b, .slice Ax0b nx0b cx0b, .bool sx0d, .slice Ax0d nx0d cx0d] (g := w.heap.size) (by simp))
  generalize (w.alloc (.cells #[.bool sx0a, .slice Ax0a nx0a cx0a, .bool sx0b, .slice Ax0b nx0b cx0b, .bool sx0d, .slice Ax0d nx0d cx0d] 32)) = w1 at hS ⊢
  generalize w.heap.size = g1 at hS o1 ⊢
  refine (rSign_at _ x0a (0) _ (hS.num 2 rfl) ax0a (cmpZ_zero H0.out)).mono ?_
  rintro e w2 ⟨rfl, hx_⟩
  replace hS := hS.mv hx_
  clear hx_
  have k_2 := (hS.blk 0 rfl).cell
  go_wp2_with fail
  clear k_2
  refine (rSign_at _ x0b (-1) _ (hS.num 1 rfl) ax0b (cmpZ_neg H1.out)).mono ?_
  rintro e w3 ⟨rfl, hx_⟩
  replace hS := hS.mv hx_
  clear hx_
  go_wp2
  go_ret
  exact ⟨ret_bool (rfl), hS.ext⟩

set_option maxRecDepth 100000 in
set_option maxHeartbeats 800000 in
theorem qZero_ap (v0 : Value) (x0a x0b x0d : Int) (w : World) (hX0 : RG w v0 x0a x0b x0d) (ax0a : x0a.natAbs < lim) (ax0b : x0b.natAbs < lim) (ax0d : x0d.natAbs < lim) (H0 : Hid (0 < x0a))
      :
    Calls Tryz.prog 21 #[v0] w fun e w' => e = .returned (.bool false) ∧ Ext w w' := by
  have hS := St.start w
  obtain ⟨sx0a, Ax0a, nx0a, cx0a, sx0b, Ax0b, nx0b, cx0b, sx0d, Ax0d, nx0d, cx0d, rfl, hx0a, hx0b, hx0d⟩ := hX0
  replace hS := hS.addI hx0a
  clear hx0a
  replace hS := hS.addI hx0b
  clear hx0b
  replace hS := hS.addI hx0d
  clear hx0d
  have o1 : Own w w.heap.size := Own.of hS.ext (by simp)
  have hT1 := (St.al hS 32 #[.bool sx0a, .slice Ax0a nx0a cx0a, .bool sx0b, .slice Ax0b nx0b cx0b, .bool sx0d, .slice Ax0d nx0d cx0d] (g := w.heap.size) (by simp))
  have k_1 := (hT1.blk 0 rfl).cell
  go_enter Tryz.func21, Tryz.ntmps21
  go_wp2_with fail
  clear k_1
  clear hT1
  replace hS := (St.al hS 32 #[.bool sx0a, .slice Ax0a nx0a cx0a, .bool sx0b, .slice Ax0b nx0b cx0b, .bool sx0d, .slice Ax0d nx0d cx0d] (g := w.heap.size) (by simp))
  generalize (w.alloc (.cells #[.bool sx0a, .slice Ax0a nx0a cx0a, .bool sx0b, .slice Ax0b nx0b cx0b, .bool sx0d, .slice Ax0d nx0d cx0d] 32)) = w1 at hS ⊢
  generalize w.heap.size = g1 at hS o1 ⊢
  refine (rSign_at _ x0a (1) _ (hS.num 2 rfl) ax0a (cmpZ_pos H0.out)).mono ?_
  rintro e w2 ⟨rfl, hx_⟩
  replace hS := hS.mv hx_
  clear hx_
  go_wp2
  go_ret
  exact ⟨ret_bool (rfl), hS.ext⟩

set_option maxRecDepth 100000 in
set_option maxHeartbeats 800000 in
theorem qZero_an (v0 : Value) (x0a x0b x0d : Int) (w : World) (hX0 : RG w v0 x0a x0b x0d) (ax0a : x0a.natAbs < lim) (ax0b : x0b.natAbs < lim) (ax0d : x0d.natAbs < lim) (H0 : Hid (x0a < 0))
      :
    Calls Tryz.prog 21 #[v0] w fun e w' => e = .returned (.bool false) ∧ Ext w w' := by
  have hS := St.start w
  obtain ⟨sx0a, Ax0a, nx0a, cx0a, sx0b, Ax0b, nx0b, cx0b, sx0d, Ax0d, nx0d, cx0d, rfl, hx0a, hx0b, hx0d⟩ := hX0
  replace hS := hS.addI hx0a
  clear hx0a
  replace hS := hS.addI hx0b
  clear hx0b
  replace hS := hS.addI hx0d
  clear hx0d
  have o1 : Own w w.heap.size := Own.of hS.ext (by simp)
  have hT1 := (St.al hS 32 #[.bool sx0a, .slice Ax0a nx0a cx0a, .bool sx0b, .slice Ax0b nx0b cx0b, .bool sx0d, .slice Ax0d nx0d cx0d] (g := w.heap.size) (by simp))
  have k_1 := (hT1.blk 0 rfl).cell
  go_enter Tryz.func21, Tryz.ntmps21
  go_wp2_with fail
  clear k_1
  clear hT1
  replace hS := (St.al hS 32 #[.bool sx0a, .slice Ax0a nx0a cx0a, .bool sx0b, .slice Ax0b nx0b cx0b, .bool sx0d, .slice Ax0d nx0d cx0d] (g := w.heap.size) (by simp))
  generalize (w.alloc (.cells #[.bool sx0a, .slice Ax0a nx0a cx0a, .bool sx0b, .slice Ax0b nx0b cx0b, .bool sx0d, .slice Ax0d nx0d cx0d] 32)) = w1 at hS ⊢
  generalize w.heap.size = g1 at hS o1 ⊢
  refine (rSign_at _ x0a (-1) _ (hS.num 2 rfl) ax0a (cmpZ_neg H0.out)).mono ?_
  rintro e w2 ⟨rfl, hx_⟩
  replace hS := hS.mv hx_
  clear hx_
  go_wp2
  go_ret
  exact ⟨ret_bool (rfl), hS.ext⟩

theorem qZero_yes (v : Value) (q : GQ) (n : Nat) (w : World) (hX : GV w v q n) (hn : n ≤ 12800) (h : q = GQ.i 0 0) :
    Calls Tryz.prog 21 #[v] w fun e w' => e = .returned (.bool true) ∧ Ext w w' := by
  obtain ⟨a, b, d, h1, h2, h3⟩ := hX
  obtain ⟨l1, l2, l3⟩ := h3.lims hn
  obtain ⟨e1, e2⟩ := h2.zero_iff.1 h
  exact qZero_z v a b d w h1 l1 l2 l3 (Lib.hid e1) (Lib.hid e2)
theorem qZero_no (v : Value) (q : GQ) (n : Nat) (w : World) (hX : GV w v q n) (hn : n ≤ 12800) (h : q ≠ GQ.i 0 0) :
    Calls Tryz.prog 21 #[v] w fun e w' => e = .returned (.bool false) ∧ Ext w w' := by
  obtain ⟨a, b, d, h1, h2, h3⟩ := hX
  obtain ⟨l1, l2, l3⟩ := h3.lims hn
  rcases Int.lt_trichotomy a 0 with k | k | k
  · exact qZero_an v a b d w h1 l1 l2 l3 (Lib.hid k)
  · rcases Int.lt_trichotomy b 0 with j | j | j
    · exact qZero_bn v a b d w h1 l1 l2 l3 (Lib.hid k) (Lib.hid j)
    · exact absurd (h2.zero_iff.2 ⟨k, j⟩) h
    · exact qZero_bp v a b d w h1 l1 l2 l3 (Lib.hid k) (Lib.hid j)
  · exact qZero_ap v a b d w h1 l1 l2 l3 (Lib.hid k)

set_option maxRecDepth 100000 in
set_option maxHeartbeats 3200000 in
theorem xDiv_w (v0 : Value) (q0 : GQ) (n0 : Nat) (v1 : Value) (q1 : GQ) (n1 : Nat) (w : World) (hX0 : GV w v0 q0 n0) (hX1 : GV w v1 q1 n1) (H0 : Hid (q1 ≠ GQ.i 0 0))
     (hn : 4 * max n0 n1 + 3 ≤ 12800) :
    Calls Tryz.prog 117 #[v0, v1] w fun e w' => ∃ v, e = .returned v ∧ (∃ u, v = .tuple #[u, .int .i64 0] ∧ GV w' u (q0 / q1) (n0 + (n1 + n1 + 1))) ∧ Ext w w' := by
  have hS := St.start w
  obtain ⟨x0a, x0b, x0d, hX0, I0, S0⟩ := hX0
  obtain ⟨a0, a1, a2, a3, a4, a5, a6, a7, a8, a9, aa, ab, rfl, aJ, aK, aL⟩ := hX0
  replace hS := hS.addI aJ
  clear aJ
  replace hS := hS.addI aK
  clear aK
  replace hS := hS.addI aL
  clear aL
  obtain ⟨x1a, x1b, x1d, hX1, I1, S1⟩ := hX1
  obtain ⟨ac, ad, ae, af, ag, ah, ai, aj, ak, am, an, ao, rfl, aM, aN, aO⟩ := hX1
  replace hS := hS.addI aM
  clear aM
  replace hS := hS.addI aN
  clear aN
  replace hS := hS.addI aO
  clear aO
  have o2 : Own w w.heap.size := Own.of hS.ext (by simp)
  have o3 : Own w (w.heap.size + 1) := Own.of hS.ext (by simp)
  have o4 : Own w (w.heap.size + 2) := Own.of hS.ext (by simp)
  have aS := (St.al (St.al (St.al hS 32 #[.bool a0, .slice a1 a2 a3, .bool a4, .slice a5 a6 a7, .bool a8, .slice a9 aa ab] (g := w.heap.size) (by simp)) 32 #[.bool ac, .slice ad ae af, .bool ag, .slice ah ai aj, .bool ak, .slice am an ao] (g := (w.heap.size + 1)) (by simp)) 32 #[.bool false, .slice none 0 0, .bool false, .slice none 0 0, .bool false, .slice none 0 0] (g := (w.heap.size + 2)) (by simp))
  have k_1 := (aS.blk 2 rfl).cell
  have k_2 := (aS.blk 1 rfl).cell
  have o9 : Own w (w.heap.size + 3) := Own.of hS.ext (by simp)
  go_enter Tryz.func117, Tryz.ntmps117
  go_wp2_with fail
  clear k_1 k_2
  clear aS
  replace hS := (St.al (St.al (St.al (St.al hS 32 #[.bool a0, .slice a1 a2 a3, .bool a4, .slice a5 a6 a7, .bool a8, .slice a9 aa ab] (g := w.heap.size) (by simp)) 32 #[.bool ac, .slice ad ae af, .bool ag, .slice ah ai aj, .bool ak, .slice am an ao] (g := (w.heap.size + 1)) (by simp)) 32 #[.bool false, .slice none 0 0, .bool false, .slice none 0 0, .bool false, .slice none 0 0] (g := (w.heap.size + 2)) (by simp)) 32 #[.bool a0, .slice a1 a2 a3, .bool a4, .slice a5 a6 a7, .bool a8, .slice a9 aa ab, .bool ac, .slice ad ae af, .bool ag, .slice ah ai aj, .bool ak, .slice am an ao] (g := (w.heap.size + 3)) (by simp))
  generalize ((((w.alloc (.cells #[.bool a0, .slice a1 a2 a3, .bool a4, .slice a5 a6 a7, .bool a8, .slice a9 aa ab] 32)).alloc (.cells #[.bool ac, .slice ad ae af, .bool ag, .slice ah ai aj, .bool ak, .slice am an ao] 32)).alloc (.cells #[.bool false, .slice none 0 0, .bool false, .slice none 0 0, .bool false, .slice none 0 0] 32)).alloc (.cells #[.bool a0, .slice a1 a2 a3, .bool a4, .slice a5 a6 a7, .bool a8, .slice a9 aa ab, .bool ac, .slice ad ae af, .bool ag, .slice ah ai aj, .bool ak, .slice am an ao] 32)) = w1 at hS ⊢
  generalize w.heap.size + 3 = g9 at hS o9 ⊢
  generalize w.heap.size + 2 = g4 at hS o4 ⊢
  generalize w.heap.size + 1 = g3 at hS o3 ⊢
  generalize w.heap.size = g2 at hS o2 ⊢
  refine (xvalid2_ok g9 q0 q1 n0 n1 _ (hS.blk 0 rfl) ⟨_, _, _, RG.mk (hS.num 5 rfl) (hS.num 4 rfl) (hS.num 3 rfl), I0, S0⟩ (by omega) ⟨_, _, _, RG.mk (hS.num 2 rfl) (hS.num 1 rfl) (hS.num 0 rfl), I1, S1⟩ (by omega)).mono ?_
  rintro e w2 ⟨rfl, hx_⟩
  replace hS := hS.mv hx_
  clear hx_
  have k_3 := (hS.blk 2 rfl).cell
  go_wp2_with fail
  clear k_3
  refine (xzero_no _ q1 (n1) _ ⟨_, _, _, RG.mk (hS.num 2 rfl) (hS.num 1 rfl) (hS.num 0 rfl), I1, S1⟩ H0.out).mono ?_
  rintro e w3 ⟨rfl, hx_⟩
  replace hS := hS.mv hx_
  clear hx_
  have o6 : Own w w3.heap.size := Own.of hS.ext (by simp)
  have aT := (St.al hS 105 #[.int .i64 0] (g := w3.heap.size) (by simp))
  have k_4 := (aT.blk 4 rfl).cell
  have k_5 := (aT.blk 3 rfl).cell
  go_wp2_with fail
  clear k_4 k_5
  clear aT
  replace hS := (St.al hS 105 #[.int .i64 0] (g := w3.heap.size) (by simp))
  generalize (w3.alloc (.cells #[.int .i64 0] 105)) = w4 at hS ⊢
  generalize w3.heap.size = g6 at hS o6 ⊢
  obtain ⟨aP, aQ, aR, aU⟩ := is_ex (q0 / q1)
  have S18 : Sz (n0 + (n1 + n1 + 1)) aP aQ aR := (Bd.div ⟨_, _, _, I0, S0⟩ ⟨_, _, _, I1, S1⟩ H0.out).sz aU
  refine (toRG (equotient_q g6 _ _ q0 q1 _ _ _ (hS.blk 0 rfl) ⟨_, _, _, RG.mk (hS.num 5 rfl) (hS.num 4 rfl) (hS.num 3 rfl), I0, S0⟩ ⟨_, _, _, RG.mk (hS.num 2 rfl) (hS.num 1 rfl) (hS.num 0 rfl), I1, S1⟩ (by omega) H0.out) aU).mono ?_
  rintro e w5 ⟨v_, rfl, hv_, hx_⟩
  replace hS := hS.mv hx_
  clear hx_
  obtain ⟨s18a, aV, n18a, c18a, s18b, aW, n18b, c18b, s18d, aX, n18d, c18d, rfl, ap, aq, ar⟩ := hv_
  replace hS := hS.addI ap
  clear ap
  replace hS := hS.addI aq
  clear aq
  replace hS := hS.addI ar
  clear ar
  go_wp2_with fail
  refine (enumber_w g6 _ aP aQ aR _ (hS.blk 0 rfl) (RG.mk (hS.num 2 rfl) (hS.num 1 rfl) (hS.num 0 rfl))).mono ?_
  rintro e w6 ⟨v_, rfl, hv_, hx_⟩
  replace hS := hS.mv hx_
  clear hx_
  obtain ⟨_, rfl, aA, au, aB, aC, aD, av, aE, aF, aG, aw, aH, aI, rfl, ax, ay, az⟩ := hv_
  replace hS := hS.addI ax
  clear ax
  replace hS := hS.addI ay
  clear ay
  replace hS := hS.addI az
  clear az
  have k_6 := (hS.blk 2 rfl).cell
  have k_7 := (hS.blk 2 rfl).frozen
  go_wp2
  replace hS := (St.put (W' := ((((((w6.setCell ⟨g4, 0, none⟩ (.bool aA)).setCell ⟨g4, 1, none⟩ (.slice au aB aC)).setCell ⟨g4, 2, none⟩ (.bool aD)).setCell ⟨g4, 3, none⟩ (.slice av aE aF)).setCell ⟨g4, 4, none⟩ (.bool aG)).setCell ⟨g4, 5, none⟩ (.slice aw aH aI))) hS 2 0 [.bool aA, .slice au aB aC, .bool aD, .slice av aE aF, .bool aG, .slice aw aH aI] (cs' := #[.bool aA, .slice au aB aC, .bool aD, .slice av aE aF, .bool aG, .slice aw aH aI]) (bs' := _) rfl o4 rfl rfl (by kernel_rfl) rfl)
  exact bp_gauss2 rfl rfl rfl (hS.blk 2 rfl) ⟨_, rfl, ⟨_, rfl, ⟨_, _, _, RG.mk (hS.num 2 rfl) (hS.num 1 rfl) (hS.num 0 rfl), aU, S18⟩⟩, hS.ext⟩

end Go.Proofs.YtclkkoiaaddllaaGreat

namespace Go.Proofs.YtclkkoiaaddllaaGreat
open Go.RowKit
set_option linter.unusedVariables false

/-- Only new blocks and the blocks in S differ. -/
structure Mod (S : Nat → Prop) (w w' : World) : Prop where
  os : w'.os = w.os
  tape : w'.tape = w.tape
  output : w'.output = w.output
  size : w.heap.size ≤ w'.heap.size
  block : ∀ k, k < w.heap.size → ¬ S k → w'.heap[k]? = w.heap[k]?
section
variable {S T : Nat → Prop} {w w' w'' : World}
theorem Mod.refl (S : Nat → Prop) (w : World) : Mod S w w := ⟨rfl, rfl, rfl, Nat.le_refl _, fun _ _ _ => rfl⟩
theorem Mod.trans (h : Mod S w w') (k : Mod S w' w'') : Mod S w w'' :=
  ⟨k.os.trans h.os, k.tape.trans h.tape, k.output.trans h.output, Nat.le_trans h.size k.size, fun i hi hs => (k.block i (Nat.lt_of_lt_of_le hi h.size) hs).trans (h.block i hi hs)⟩
theorem Mod.of (h : Ext w w') : Mod S w w' := ⟨h.os, h.tape, h.output, h.size, fun k hk _ => h.block k hk⟩
theorem Mod.mono (h : Mod S w w') (hs : ∀ k, S k → T k) : Mod T w w' := ⟨h.os, h.tape, h.output, h.size, fun k hk hn => h.block k hk (fun e => hn (hs k e))⟩
theorem Mod.ext (h : Mod S w w') (hs : ∀ k, k < w.heap.size → ¬ S k) : Ext w w' := ⟨h.os, h.tape, h.output, h.size, fun k hk => h.block k hk (hs k hk)⟩
theorem Mod.only {g : Nat} (h : Only g w w') (hg : S g) : Mod S w w' :=
  ⟨h.os, h.tape, h.output, h.size, fun k hk hn => h.block k hk (fun e => hn (by first | (injection e with e; exact e ▸ hg) | exact e ▸ hg))⟩
theorem Blk.mod {g : Nat} {t : TypeId} {cs : Array Value} (h : Blk w g t cs) (m : Mod S w w') (hg : ¬ S g) : Blk w' g t cs := (m.block g h.lt hg).trans h
/-- The blocks that may change hold no digits. -/
def Far (S : Nat → Prop) (w : World) : Prop := ∀ g, S g → g < w.heap.size → ∃ t cs, Blk w g t cs ∧ noIntB cs = true
theorem RM.mod {A : Option Addr} {n c : Nat} {l : List Nat} (h : RM w A n c l) (m : Mod S w w') (hS : Far S w) : RM w' A n c l := by
  refine ⟨⟨h.rd.1, fun hn => ?_⟩, h.dg, h.nc, h.cm⟩
  obtain ⟨b, o, rfl, hlt, hc⟩ := h.rd.plain hn
  obtain ⟨ad, x, e, _, hx, _, _⟩ := h.at_ hn
  have hne : ¬ S b := by
    intro hs
    obtain ⟨t, cs, hb, hcs⟩ := hS b hs hlt
    have := hc 0 _ (mg_get hx)
    rw [hb.cell] at this
    exact noIntB_spec hcs _ _ _ this
  refine ⟨_, rfl, Nat.lt_of_lt_of_le hlt m.size, fun j u hu => ?_⟩
  rw [add_plain]
  have h1 := hc j u hu
  unfold World.cell? at h1 ⊢
  have e2 := m.block b hlt hne
  simp only [e2]
  exact h1
theorem RI.mod {v : Value} {z : Int} (h : RI w v z) (m : Mod S w w') (hS : Far S w) : RI w' v z := by
  obtain ⟨A, n, c, e, h⟩ := h
  exact ⟨A, n, c, e, h.mod m hS⟩
theorem GV.mod {v : Value} {q : GQ} {n : Nat} (h : GV w v q n) (m : Mod S w w') (hS : Far S w) : GV w' v q n := by
  obtain ⟨a, b, d, ⟨s1, A1, n1, c1, s2, A2, n2, c2, s3, A3, n3, c3, e, h1, h2, h3⟩, I, Z⟩ := h
  exact ⟨a, b, d, ⟨s1, A1, n1, c1, s2, A2, n2, c2, s3, A3, n3, c3, e, h1.mod m hS, h2.mod m hS, h3.mod m hS⟩, I, Z⟩
end
theorem GV.to {w : World} {v : Value} {q : GQ} {m n : Nat} (h : GV w v q m) (hb : Bd q n) : GV w v q n := by
  obtain ⟨a, b, d, h1, I, Z⟩ := h
  exact ⟨a, b, d, h1, I, hb.sz I⟩
theorem GV.up {w : World} {v : Value} {q : GQ} {m n : Nat} (h : GV w v q m) (hn : m ≤ n) : GV w v q n := by
  obtain ⟨a, b, d, h1, I, Z⟩ := h
  exact ⟨a, b, d, h1, I, Z.mono hn⟩
/-- What a number is in memory. -/
structure En where
  s1 : Bool
  A1 : Option Addr
  n1 : Nat
  c1 : Nat
  s2 : Bool
  A2 : Option Addr
  n2 : Nat
  c2 : Nat
  s3 : Bool
  A3 : Option Addr
  n3 : Nat
  c3 : Nat
def En.v (e : En) : Value := gv e.s1 e.A1 e.n1 e.c1 e.s2 e.A2 e.n2 e.c2 e.s3 e.A3 e.n3 e.c3
def En.cells (e : En) : List Value := [.bool e.s1, .slice e.A1 e.n1 e.c1, .bool e.s2, .slice e.A2 e.n2 e.c2, .bool e.s3, .slice e.A3 e.n3 e.c3]
/-- The cells of a row. -/
def rowc (n : Nat) (f : Nat → En) : List Value := (List.range n).flatMap fun j => (f j).cells
theorem rowc_succ (n : Nat) (f : Nat → En) : rowc (n + 1) f = rowc n f ++ (f n).cells := by
  unfold rowc
  rw [List.range_succ, List.flatMap_append]
  simp
theorem rowc_len : ∀ (n : Nat) (f : Nat → En), (rowc n f).length = n * 6
  | 0, _ => rfl
  | n + 1, f => by
    rw [rowc_succ, List.length_append, rowc_len n f]
    simp [En.cells]; omega
theorem rowc_at {f : Nat → En} {j t : Nat} (ht : t < 6) : ∀ {n : Nat}, j < n → (rowc n f)[j * 6 + t]? = (f j).cells[t]?
  | 0, h => by omega
  | n + 1, h => by
    rw [rowc_succ]
    by_cases e : j = n
    · subst e
      rw [List.getElem?_append_right (by rw [rowc_len]; omega), rowc_len]
      congr 1; omega
    · rw [List.getElem?_append_left (by rw [rowc_len]; omega)]
      exact rowc_at ht (by omega)
/-- One entry set. -/
def upd {α : Type} (f : Nat → α) (j : Nat) (e : α) : Nat → α := fun i => if i = j then e else f i
theorem upd_same {α : Type} (f : Nat → α) (j : Nat) (e : α) : upd f j e j = e := by unfold upd; rw [if_pos rfl]
theorem upd_ne {α : Type} {f : Nat → α} {i j : Nat} {e : α} (h : i ≠ j) : upd f j e i = f i := by unfold upd; rw [if_neg h]
theorem setsA_list : ∀ (vs : List Value) (l : List Value) (k : Nat), setsA l.toArray k vs = ((l.take k) ++ (vs.take (l.length - k)) ++ l.drop (k + vs.length)).toArray
  | [], l, k => by simp [setsA]
  | v :: vs, l, k => by
    show setsA (l.toArray.setIfInBounds k v) (k + 1) vs = _
    rw [List.setIfInBounds_toArray, setsA_list vs]
    congr 1
    by_cases h : k < l.length
    · rw [List.length_set, List.take_set, List.drop_set_of_lt (by omega)]
      have e1 : ((l.take (k + 1)).set k v) = l.take k ++ [v] := by
        rw [List.take_succ_eq_append_getElem h, List.set_append_right _ _ (by simp; omega)]
        simp [Nat.min_eq_left (Nat.le_of_lt h)]
      rw [e1]
      have e2 : (v :: vs).take (l.length - k) = v :: vs.take (l.length - (k + 1)) := by
        rw [show l.length - k = (l.length - (k + 1)) + 1 by omega, List.take_succ_cons]
      rw [e2]
      simp only [List.length_cons, List.append_assoc, List.cons_append, List.nil_append]
      rw [show k + 1 + vs.length = k + (vs.length + 1) by omega]
    · rw [List.set_eq_of_length_le (by omega)]
      rw [List.take_of_length_le (i := k + 1) (by omega), List.take_of_length_le (i := k) (by omega), show l.length - k = 0 by omega, show l.length - (k + 1) = 0 by omega]
      simp only [List.take_zero, List.append_nil]
      rw [List.drop_eq_nil_of_le (by omega), List.drop_eq_nil_of_le (by simp only [List.length_cons]; omega)]
theorem rowc_set {f : Nat → En} {j n : Nat} (e : En) (hj : j < n) : setsA (rowc n f).toArray (j * 6) e.cells = (rowc n (upd f j e)).toArray := by
  rw [setsA_list]
  congr 1
  apply List.ext_getElem?
  intro t
  have hlen : e.cells.length = 6 := rfl
  rw [rowc_len, hlen, List.take_of_length_le (l := e.cells) (by rw [hlen]; omega)]
  have hl1 : ((rowc n f).take (j * 6)).length = j * 6 := by rw [List.length_take, rowc_len]; omega
  by_cases h1 : t < j * 6
  · rw [List.append_assoc, List.getElem?_append_left (by rw [hl1]; exact h1), List.getElem?_take_of_lt h1]
    have h2 : t = (t / 6) * 6 + t % 6 := by omega
    rw [h2, rowc_at (Nat.mod_lt _ (by omega)) (by omega), rowc_at (Nat.mod_lt _ (by omega)) (by omega), upd_ne (by omega)]
  · by_cases h2 : t < j * 6 + 6
    · rw [List.append_assoc, List.getElem?_append_right (by rw [hl1]; omega), hl1, List.getElem?_append_left (by rw [hlen]; omega)]
      have h3 : t = j * 6 + (t - j * 6) := by omega
      conv => rhs; rw [h3]
      rw [rowc_at (by omega) hj, upd_same]
    · rw [List.getElem?_append_right (by rw [List.length_append, hl1, hlen]; omega), List.length_append, hl1, hlen, List.getElem?_drop]
      rw [show j * 6 + 6 + (t - (j * 6 + 6)) = t by omega]
      by_cases h3 : t < n * 6
      · have h4 : t = (t / 6) * 6 + t % 6 := by omega
        rw [h4, rowc_at (Nat.mod_lt _ (by omega)) (by omega), rowc_at (Nat.mod_lt _ (by omega)) (by omega), upd_ne (by omega)]
      · rw [List.getElem?_eq_none (by rw [rowc_len]; omega), List.getElem?_eq_none (by rw [rowc_len]; omega)]
theorem rowc_noint (n : Nat) (f : Nat → En) : noIntB (rowc n f).toArray = true := by
  unfold noIntB
  simp only [List.all_eq_true]
  intro v hv
  unfold rowc at hv
  obtain ⟨j, _, hv⟩ := List.mem_flatMap.1 hv
  unfold En.cells at hv
  simp only [List.mem_cons, List.not_mem_nil, or_false] at hv
  rcases hv with rfl | rfl | rfl | rfl | rfl | rfl <;> rfl
/-- A block holds n numbers. -/
def RowIs (w : World) (g n : Nat) (x : Nat → GQ) : Prop := ∃ f : Nat → En, Blk w g 32 (rowc n f).toArray ∧ ∀ j, j < n → GV w (f j).v (x j) 12800
theorem RowIs.ext {w w' : World} {g n : Nat} {x : Nat → GQ} (h : RowIs w g n x) (e : Ext w w') : RowIs w' g n x := by
  obtain ⟨f, h1, h2⟩ := h
  exact ⟨f, h1.ext e, fun j hj => (h2 j hj).ext e⟩
theorem RowIs.mod {S : Nat → Prop} {w w' : World} {g n : Nat} {x : Nat → GQ} (h : RowIs w g n x) (m : Mod S w w') (hS : Far S w) (hg : ¬ S g) : RowIs w' g n x := by
  obtain ⟨f, h1, h2⟩ := h
  exact ⟨f, h1.mod m hg, fun j hj => (h2 j hj).mod m hS⟩
theorem RowIs.congr {w : World} {g n : Nat} {x y : Nat → GQ} (h : RowIs w g n x) (e : ∀ j, j < n → x j = y j) : RowIs w g n y := by
  obtain ⟨f, h1, h2⟩ := h
  exact ⟨f, h1, fun j hj => e j hj ▸ h2 j hj⟩
/-- One number of a row stored. -/
theorem RowIs.put {w : World} {g n j : Nat} {f : Nat → En} {x : Nat → GQ} {e : En} {q : GQ} (hb : Blk w g 32 (rowc n f).toArray) (hx : ∀ j, j < n → GV w (f j).v (x j) 12800) (hj : j < n) (he : GV w e.v q 12800) :
    RowIs (puts w g (j * 6) e.cells) g n (upd x j q) ∧ Mod (fun k => k = g) w (puts w g (j * 6) e.cells) := by
  have hm : Mod (fun k => k = g) w (puts w g (j * 6) e.cells) := Mod.only (puts_only _ _ _ _) rfl
  have hS : Far (fun k => k = g) w := fun k hk _ => by subst hk; exact ⟨_, _, hb, rowc_noint _ _⟩
  refine ⟨⟨upd f j e, ?_, fun i hi => ?_⟩, hm⟩
  · rw [← rowc_set e hj]
    exact puts_blk _ _ hb
  · by_cases h : i = j
    · subst h; rw [upd_same, upd_same]; exact he.mod hm hS
    · rw [upd_ne h, upd_ne h]; exact (hx i hi).mod hm hS
end Go.Proofs.YtclkkoiaaddllaaGreat

