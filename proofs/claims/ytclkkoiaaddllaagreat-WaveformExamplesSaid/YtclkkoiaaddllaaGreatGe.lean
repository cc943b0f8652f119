/- Zero, Same, Div: the program and its specification. -/
import Derived.Test.YtclkkoiaaddllaaGreatGc
import Derived.Test.YtclkkoiaaddllaaGreatNG
import Derived.Test.YtclkkoiaaddllaaGreatNJ
import Derived.Test.YtclkkoiaaddllaaGreatNI
namespace Go.Proofs.YtclkkoiaaddllaaGreat
open Go.RowKit
set_option linter.unusedVariables false

set_option maxRecDepth 100000 in
set_option maxHeartbeats 1600000 in
theorem xzero_any (s1 : Bool) (A1 : Option Addr) (n1 c1 : Nat) (s2 : Bool) (A2 : Option Addr) (n2 c2 : Nat) (s3 : Bool) (A3 : Option Addr) (n3 c3 : Nat) (w : World) :
    Calls Tryz.prog 83 #[gv s1 A1 n1 c1 s2 A2 n2 c2 s3 A3 n3 c3] w fun e w' => e = .returned (.bool (decide (n1 = 0) && decide (n2 = 0))) ∧ Ext w w' := by
  have b0 := Blk.new w 32 #[.bool s1, .slice A1 n1 c1, .bool s2, .slice A2 n2 c2, .bool s3, .slice A3 n3 c3]
  have k0 := b0.cell
  by_cases h1 : n1 = 0
  · have d1 : ((n1 : Int) == 0) = true := by simp; omega
    have H1 := Lib.hid h1; clear h1
    by_cases h2 : n2 = 0
    · have d2 : ((n2 : Int) == 0) = true := by simp; omega
      have H2 := Lib.hid h2; clear h2
      go_enter Tryz.func83, Tryz.ntmps83
      go_wp2
      go_ret
      exact ⟨ret_bool (by simp [H1.out, H2.out]), Ext.new _ _⟩
    · have d2 : ((n2 : Int) == 0) = false := by simp; omega
      have H2 := Lib.hid h2; clear h2
      go_enter Tryz.func83, Tryz.ntmps83
      go_wp2
      go_ret
      exact ⟨ret_bool (by simp [H2.out]), Ext.new _ _⟩
  · have d1 : ((n1 : Int) == 0) = false := by simp; omega
    have H1 := Lib.hid h1; clear h1
    go_enter Tryz.func83, Tryz.ntmps83
    go_wp2
    go_ret
    exact ⟨ret_bool (by simp [H1.out]), Ext.new _ _⟩
theorem xzero_at (s1 : Bool) (A1 : Option Addr) (n1 c1 : Nat) (s2 : Bool) (A2 : Option Addr) (n2 c2 : Nat) (s3 : Bool) (A3 : Option Addr) (n3 c3 : Nat) (r : Bool) (w : World) (h : (decide (n1 = 0) && decide (n2 = 0)) = r) :
    Calls Tryz.prog 83 #[gv s1 A1 n1 c1 s2 A2 n2 c2 s3 A3 n3 c3] w fun e w' => e = .returned (.bool r) ∧ Ext w w' := by
  have := xzero_any s1 A1 n1 c1 s2 A2 n2 c2 s3 A3 n3 c3 w
  rwa [h] at this
theorem RI.n0 {w : World} {s : Bool} {A : Option Addr} {n c : Nat} {z : Int} (h : RI w (iv s A n c) z) : decide (n = 0) = decide (z = 0) := by
  by_cases hz : z = 0
  · have := RI.len0 h hz
    simp at this
    simp [this, hz]
  · have := RI.lenne h hz
    simp at this
    simp [this, hz]
theorem Is.zero_iff {q : GQ} {a b d : Int} (h : Is q a b d) : q = GQ.i 0 0 ↔ a = 0 ∧ b = 0 := by
  have hd := cast_ne h.dne
  constructor
  · intro e
    have e1 := h.re
    have e2 := h.im
    rw [e] at e1 e2
    simp only [GQ.i_re, GQ.i_im] at e1 e2
    have f1 : (a : Rat) = 0 := by grind
    have f2 : (b : Rat) = 0 := by grind
    exact ⟨by exact_mod_cast f1, by exact_mod_cast f2⟩
  · rintro ⟨rfl, rfl⟩
    ext
    · rw [h.re]; simp only [GQ.i_re]; grind
    · rw [h.im]; simp only [GQ.i_im]; grind
/-- zero says whether the number is 0. -/
theorem GV.zero {w : World} {q : GQ} {n n1 c1 n2 c2 n3 c3 : Nat} {s1 s2 s3 : Bool} {A1 A2 A3 : Option Addr} (h : GV w (gv s1 A1 n1 c1 s2 A2 n2 c2 s3 A3 n3 c3) q n) : (decide (n1 = 0) && decide (n2 = 0)) = true ↔ q = GQ.i 0 0 := by
  obtain ⟨a, b, d, h1, h2, _⟩ := h
  obtain ⟨r1, r2, r3⟩ := RG.inj h1
  rw [RI.n0 r1, RI.n0 r2, h2.zero_iff]
  simp
theorem GV.opn {w : World} {v : Value} {q : GQ} {n : Nat} (h : GV w v q n) : ∃ s1 A1 n1 c1 s2 A2 n2 c2 s3 A3 n3 c3, v = gv s1 A1 n1 c1 s2 A2 n2 c2 s3 A3 n3 c3 := by
  obtain ⟨a, b, d, ⟨s1, A1, n1, c1, s2, A2, n2, c2, s3, A3, n3, c3, e, _⟩, _⟩ := h
  exact ⟨s1, A1, n1, c1, s2, A2, n2, c2, s3, A3, n3, c3, e⟩
theorem xzero_yes (v : Value) (q : GQ) (n : Nat) (w : World) (hX : GV w v q n) (h : q = GQ.i 0 0) :
    Calls Tryz.prog 83 #[v] w fun e w' => e = .returned (.bool true) ∧ Ext w w' := by
  obtain ⟨s1, A1, n1, c1, s2, A2, n2, c2, s3, A3, n3, c3, rfl⟩ := hX.opn
  exact xzero_at _ _ _ _ _ _ _ _ _ _ _ _ _ w (hX.zero.2 h)
theorem xzero_no (v : Value) (q : GQ) (n : Nat) (w : World) (hX : GV w v q n) (h : q ≠ GQ.i 0 0) :
    Calls Tryz.prog 83 #[v] w fun e w' => e = .returned (.bool false) ∧ Ext w w' := by
  obtain ⟨s1, A1, n1, c1, s2, A2, n2, c2, s3, A3, n3, c3, rfl⟩ := hX.opn
  exact xzero_at _ _ _ _ _ _ _ _ _ _ _ _ _ w (by rw [Bool.eq_false_iff]; intro e; exact h (hX.zero.1 e))
theorem Bd.div {x y : GQ} {n1 n2 : Nat} (hx : Bd x n1) (hy : Bd y n2) (h : y ≠ GQ.i 0 0) : Bd (x / y) (n1 + (n2 + n2 + 1)) := by
  obtain ⟨a, b, d, i1, s1⟩ := hx
  obtain ⟨a', b', d', i2, s2⟩ := hy
  obtain ⟨u, v, t, hh⟩ := is_ex (x / y)
  have h0 := i2.ne0 h
  have E := i1.div_nf i2 h0 hh
  have k1 := lt_mul (lt_add (lt_mul s1.a s2.a) (lt_mul s1.b s2.b)) s2.d
  have k2 := lt_mul (lt_sub (lt_mul s1.b s2.a) (lt_mul s1.a s2.b)) s2.d
  have k3 := lt_mul s1.d (lt_add (lt_mul s2.a s2.a) (lt_mul s2.b s2.b))
  exact ⟨u, v, t, hh, nf_size' (n := n1 + (n2 + n2 + 1)) (Int.mul_ne_zero i1.dne (norm_ne h0)) E (lt_up k1 (by omega)) (lt_up k2 (by omega)) k3⟩
theorem qDiv_ok (v0 v1 : Value) (x y : GQ) (n1 n2 : Nat) (w : World) (hX : GV w v0 x n1) (hY : GV w v1 y n2) (hn : n1 + (n2 + n2 + 1) + 1 ≤ 12800) (hy : y ≠ GQ.i 0 0) :
    Calls Tryz.prog 61 #[v0, v1] w fun e w' => ∃ v, e = .returned v ∧ GV w' v (x / y) (n1 + (n2 + n2 + 1) + 1) ∧ Ext w w' := by
  obtain ⟨a, b, d, h1, i1, s1⟩ := hX
  obtain ⟨a', b', d', h2, i2, s2⟩ := hY
  obtain ⟨p, q, r, ic⟩ := is_ex (GQ.i 1 0 / y)
  obtain ⟨u, v, t, h⟩ := is_ex (x / y)
  have h0 := i2.ne0 hy
  have hN := norm_ne h0
  have hNq := GQ.nrm_ne hy
  have e : x / y = x * (GQ.i 1 0 / y) := by
    ext <;> simp only [GQ.mul_re, GQ.mul_im, GQ.div_re, GQ.div_im, GQ.i_re, GQ.i_im] <;> grind
  have E : (p, q, r) = nf (a' * d') (0 - b' * d') (a' * a' + b' * b') := by
    have h3 := cast_ne i2.dne
    have h4 := cast_ne hN
    refine (ic.nf_eq hN ?_ ?_).symm
    · rw [GQ.div_re, GQ.nrm, i2.re, i2.im]; simp only [GQ.i_re, GQ.i_im, Rat.intCast_mul, Rat.intCast_add] at h4 ⊢; grind
    · rw [GQ.div_im, GQ.nrm, i2.re, i2.im]; simp only [GQ.i_re, GQ.i_im, Rat.intCast_mul, Rat.intCast_add, Rat.intCast_sub] at h4 ⊢; grind
  have m1 := lt_mul s2.a s2.a
  have m2 := lt_mul s2.b s2.b
  have m3 := lt_add m1 m2
  have m4 := lt_mul s2.a s2.d
  have m5 := lt_mul s2.b s2.d
  have m6 := lt_sub (show (0 : Int).natAbs < 2 ^ (n2 + n2) from Nat.pow_pos (by omega)) m5
  have sz := nf_size' (n := n2 + n2 + 1) hN E (lt_up m4 (by omega)) m6 m3
  rw [e] at h
  have K := MulOk.of i1 s1 ic sz h (by omega)
  obtain ⟨x1, x2, x3⟩ := s1.lims (by omega)
  obtain ⟨y1, y2, y3⟩ := s2.lims (by omega)
  obtain ⟨z1, z2, z3⟩ := sz.lims (by omega)
  rw [e]
  exact (qDiv_w v0 a b d v1 a' b' d' w h1 x1 x2 x3 h2 y1 y2 y3 _ (Lib.hid rfl) (lim_of m1 (by omega)) _ (Lib.hid rfl) (lim_of m2 (by omega)) _ (Lib.hid rfl) (lim_of m3 (by omega)) _ (Lib.hid rfl) (lim_of m4 (by omega)) _ (Lib.hid rfl) (lim_of m5 (by omega)) _ (Lib.hid rfl) (lim_of m6 (by omega)) (Lib.hid hN) p q r (Lib.hid E) z1 z2 z3 u v t n1 (n2 + n2 + 1) (Lib.hid K)).mono fun _ _ ⟨z, he, hR, hx⟩ => ⟨z, he, ⟨u, v, t, hR, h, K.size⟩, hx⟩
theorem cmpZ_eq {x y : Int} (h : x = y) : cmpZ x y = 0 := by subst h; unfold cmpZ; rw [if_neg (by omega), if_neg (by omega)]

set_option maxRecDepth 100000 in
set_option maxHeartbeats 800000 in
theorem xZero_y (s0a : Bool) (A0a : Option Addr) (n0a c0a : Nat) (s0b : Bool) (A0b : Option Addr) (n0b c0b : Nat) (s0d : Bool) (A0d : Option Addr) (n0d c0d : Nat) (b0 : Bool) (w : World) (hV0 : VB w (gv s0a A0a n0a c0a s0b A0b n0b c0b s0d A0d n0d c0d) b0) (H0 : Hid ((decide (n0a = 0) && decide (n0b = 0)) = true))
      :
    Calls Tryz.prog 53 #[gv s0a A0a n0a c0a s0b A0b n0b c0b s0d A0d n0d c0d] w fun e w' => e = .returned (.bool b0) ∧ Ext w w' := by
  have hS := St.start w
  have o1 : Own w w.heap.size := Own.of hS.ext (by simp)
  have hT1 := (St.al hS 32 #[.bool s0a, .slice A0a n0a c0a, .bool s0b, .slice A0b n0b c0b, .bool s0d, .slice A0d n0d c0d] (g := w.heap.size) (by simp))
  have k_1 := (hT1.blk 0 rfl).cell
  go_enter Tryz.func53, Tryz.ntmps53
  go_wp2_with fail
  clear k_1
  clear hT1
  replace hS := (St.al hS 32 #[.bool s0a, .slice A0a n0a c0a, .bool s0b, .slice A0b n0b c0b, .bool s0d, .slice A0d n0d c0d] (g := w.heap.size) (by simp))
  generalize (w.alloc (.cells #[.bool s0a, .slice A0a n0a c0a, .bool s0b, .slice A0b n0b c0b, .bool s0d, .slice A0d n0d c0d] 32)) = w1 at hS ⊢
  generalize w.heap.size = g1 at hS o1 ⊢
  refine (xzero_at s0a A0a n0a c0a s0b A0b n0b c0b s0d A0d n0d c0d true _ H0.out).mono ?_
  rintro e w2 ⟨rfl, hx_⟩
  replace hS := hS.mv hx_
  clear hx_
  have k_2 := (hS.blk 0 rfl).cell
  go_wp2_with fail
  clear k_2
  refine (VB.e (hV0.ext hS.ext)).mono ?_
  rintro e w3 ⟨rfl, hx_⟩
  replace hS := hS.mv hx_
  clear hx_
  go_wp2
  go_ret
  exact ⟨ret_bool (rfl), hS.ext⟩

set_option maxRecDepth 100000 in
set_option maxHeartbeats 800000 in
theorem xZero_n (s0a : Bool) (A0a : Option Addr) (n0a c0a : Nat) (s0b : Bool) (A0b : Option Addr) (n0b c0b : Nat) (s0d : Bool) (A0d : Option Addr) (n0d c0d : Nat) (b0 : Bool) (w : World) (hV0 : VB w (gv s0a A0a n0a c0a s0b A0b n0b c0b s0d A0d n0d c0d) b0) (H0 : Hid ((decide (n0a = 0) && decide (n0b = 0)) = false))
      :
    Calls Tryz.prog 53 #[gv s0a A0a n0a c0a s0b A0b n0b c0b s0d A0d n0d c0d] w fun e w' => e = .returned (.bool false) ∧ Ext w w' := by
  have hS := St.start w
  have o1 : Own w w.heap.size := Own.of hS.ext (by simp)
  have hT1 := (St.al hS 32 #[.bool s0a, .slice A0a n0a c0a, .bool s0b, .slice A0b n0b c0b, .bool s0d, .slice A0d n0d c0d] (g := w.heap.size) (by simp))
  have k_1 := (hT1.blk 0 rfl).cell
  go_enter Tryz.func53, Tryz.ntmps53
  go_wp2_with fail
  clear k_1
  clear hT1
  replace hS := (St.al hS 32 #[.bool s0a, .slice A0a n0a c0a, .bool s0b, .slice A0b n0b c0b, .bool s0d, .slice A0d n0d c0d] (g := w.heap.size) (by simp))
  generalize (w.alloc (.cells #[.bool s0a, .slice A0a n0a c0a, .bool s0b, .slice A0b n0b c0b, .bool s0d, .slice A0d n0d c0d] 32)) = w1 at hS ⊢
  generalize w.heap.size = g1 at hS o1 ⊢
  refine (xzero_at s0a A0a n0a c0a s0b A0b n0b c0b s0d A0d n0d c0d false _ H0.out).mono ?_
  rintro e w2 ⟨rfl, hx_⟩
  replace hS := hS.mv hx_
  clear hx_
  go_wp2
  go_ret
  exact ⟨ret_bool (rfl), hS.ext⟩

theorem xZero_bad (s0a : Bool) (A0a : Option Addr) (n0a c0a : Nat) (s0b : Bool) (A0b : Option Addr) (n0b c0b : Nat) (s0d : Bool) (A0d : Option Addr) (n0d c0d : Nat) (w : World) (hV0 : VB w (gv s0a A0a n0a c0a s0b A0b n0b c0b s0d A0d n0d c0d) false) :
    Calls Tryz.prog 53 #[gv s0a A0a n0a c0a s0b A0b n0b c0b s0d A0d n0d c0d] w fun e w' => e = .returned (.bool false) ∧ Ext w w' := by
  cases h : (decide (n0a = 0) && decide (n0b = 0))
  · exact xZero_n _ _ _ _ _ _ _ _ _ _ _ _ _ w hV0 (Lib.hid h)
  · exact xZero_y _ _ _ _ _ _ _ _ _ _ _ _ _ w hV0 (Lib.hid h)
theorem xZero_yes (v : Value) (q : GQ) (n : Nat) (w : World) (hX : GV w v q n) (hn : n ≤ 12800) (h : q = GQ.i 0 0) :
    Calls Tryz.prog 53 #[v] w fun e w' => e = .returned (.bool true) ∧ Ext w w' := by
  obtain ⟨s1, A1, n1, c1, s2, A2, n2, c2, s3, A3, n3, c3, rfl⟩ := hX.opn
  exact xZero_y _ _ _ _ _ _ _ _ _ _ _ _ _ w (hX.vb hn) (Lib.hid (hX.zero.2 h))
theorem xZero_no (v : Value) (q : GQ) (n : Nat) (w : World) (hX : GV w v q n) (hn : n ≤ 12800) (h : q ≠ GQ.i 0 0) :
    Calls Tryz.prog 53 #[v] w fun e w' => e = .returned (.bool false) ∧ Ext w w' := by
  obtain ⟨s1, A1, n1, c1, s2, A2, n2, c2, s3, A3, n3, c3, rfl⟩ := hX.opn
  exact xZero_n _ _ _ _ _ _ _ _ _ _ _ _ _ w (hX.vb hn) (Lib.hid (by rw [Bool.eq_false_iff]; intro e; exact h (hX.zero.1 e)))

set_option maxRecDepth 100000 in
set_option maxHeartbeats 800000 in
theorem qZero_z (v0 : Value) (x0a x0b x0d : Int) (w : World) (hX0 : RG w v0 x0a x0b x0d) (ax0a : x0a.natAbs < lim) (ax0b : x0b.natAbs < lim) (ax0d : x0d.natAbs < lim) (H0 : Hid (x0a = 0)) (H1 : Hid (x0b = 0))
      :
    Calls Tryz.prog 21 #[v0] w fun e w' => e = .returned (.bool true) ∧ Ext w w' := by
  have hS := St.start w
  obtain ⟨sx0a, Ax0a, nx0a, cx0a, sx0b, Ax0b, nx0b, cx0b, sx0d, Ax0d, nx0d, cx0d, rfl, hx0a, hx0b, hx0d⟩ := hX0
  replace hS := hS.addI hx0a
  clear hx0a
  replace hS := hS.addI hx0b
  clear hx0b
  replace hS := hS.addI hx0d
  clear hx0d
  have o1 : Own w w.heap.size := Own.of hS.ext (by simp)
  have hT1 := (St.al hS 32 #[.bool sx0a, .slice Ax0a nx0a cx0a, .bool sx0b, .slice Ax0b nx0b cx0b, .bool sx0d, .slice Ax0d nx0d cx0d] (g := w.heap.size) (by simp))
  have k_1 := (hT1.blk 0 rfl).cell
  go_enter Tryz.func21, Tryz.ntmps21
  go_wp2_with fail
  clear k_1
  clear hT1
  replace hS := (St.al hS 32 #[.bool sx0a, .slice Ax0a nx0a cx0a, .bool sx0b, .slice Ax0b nx0b cx0b, .bool sx0d, .slice Ax0d nx0d cx0d] (g := w.heap.size) (by simp))
  generalize (w.alloc (.cells #[.bool sx0a, .slice Ax0a nx0a cx0a, .bool sx0b, .slice Ax0b nx0b cx0b, .bool sx0d, .slice Ax0d nx0d cx0d] 32)) = w1 at hS ⊢
  generalize w.heap.size = g1 at hS o1 ⊢
  refine (rSign_at _ x0a (0) _ (hS.num 2 rfl) ax0a (cmpZ_zero H0.out)).mono ?_
  rintro e w2 ⟨rfl, hx_⟩
  replace hS := hS.mv hx_
  clear hx_
  have k_2 := (hS.blk 0 rfl).cell
  go_wp2_with fail
  clear k_2
  refine (rSign_at _ x0b (0) _ (hS.num 1 rfl) ax0b (cmpZ_zero H1.out)).mono ?_
  rintro e w3 ⟨rfl, hx_⟩
  replace hS := hS.mv hx_
  clear hx_
  go_wp2
  go_ret
  exact ⟨ret_bool (rfl), hS.ext⟩

set_option maxRecDepth 100000 in
set_option maxHeartbeats 800000 in
theorem qZero_bp (v0 : Value) (x0a x0b x0d : Int) (w : World) (hX0 : RG w v0 x0a x0b x0d) (ax0a : x0a.natAbs < lim) (ax0b : x0b.natAbs < lim) (ax0d : x0d.natAbs < lim) (H0 : Hid (x0a = 0)) (H1 : Hid (0 < x0b))
      :
    Calls Tryz.prog 21 #[v0] w fun e w' => e = .returned (.bool false) ∧ Ext w w' := by
  have hS := St.start w
  obtain ⟨sx0a, Ax0a, nx0a, cx0a, sx0b, Ax0b, nx0b, cx0b, sx0d, Ax0d, nx0d, cx0d, rfl, hx0a, hx0b, hx0d⟩ := hX0
  replace hS := hS.addI hx0a
  clear hx0a
  replace hS := hS.addI hx0b
  clear hx0b
  replace hS := hS.addI hx0d
  clear hx0d
  have o1 : Own w w.heap.size := Own.of hS.ext (by simp)
  have hT1 := (St.al hS 32 #[.bool sx0a, .slice Ax0a nx0a cx0a, .bool sx0b, .slice Ax0b nx0b cx0b, .bool sx0d, .slice Ax0d nx0d cx0d] (g := w.heap.size) (by simp))
  have k_1 := (hT1.blk 0 rfl).cell
  go_enter Tryz.func21, Tryz.ntmps21
  go_wp2_with fail
  clear k_1
  clear hT1
  replace hS := (St.al hS 32 #[.bool sx0a, .slice Ax0a nx0a cx0a, .bool sx0b, .slice Ax0b nx0b cx0b, .bool sx0d, .slice Ax0d nx0d cx0d] (g := w.heap.size) (by simp))
  generalize (w.alloc (.cells #[.bool sx0a, .slice Ax0a nx0a cx0a, .bool sx0b, .slice Ax0b nx0b cx0b, .bool sx0d, .slice Ax0d nx0d cx0d] 32)) = w1 at hS ⊢
  generalize w.heap.size = g1 at hS o1 ⊢
  refine (rSign_at _ x0a (0) _ (hS.num 2 rfl) ax0a (cmpZ_zero H0.out)).mono ?_
  rintro e w2 ⟨rfl, hx_⟩
  replace hS := hS.mv hx_
  clear hx_
  have k_2 := (hS.blk 0 rfl).cell
  go_wp2_with fail
  clear k_2
  refine (rSign_at _ x0b (1) _ (hS.num 1 rfl) ax0b (cmpZ_pos H1.out)).mono ?_
  rintro e w3 ⟨rfl, hx_⟩
  replace hS := hS.mv hx_
  clear hx_
  go_wp2
  go_ret
  exact ⟨ret_bool (rfl), hS.ext⟩

set_option maxRecDepth 100000 in
set_option maxHeartbeats 800000 in
theorem qZero_bn (v0 : Value) (x0a x0b x0d : Int) (w : World) (hX0 : RG w v0 x0a x0b x0d) (ax0a : x0a.natAbs < lim) (ax0b : x0b.natAbs < lim) (ax0d : x0d.natAbs < lim) (H0 : Hid (x0a = 0)) (H1 : Hid (x0b < 0))
      :
    Calls Tryz.prog 21 #[v0] w fun e w' => e = .returned (.bool false) ∧ Ext w w' := by
  have hS := St.start w
  obtain ⟨sx0a, Ax0a, nx0a, cx0a, sx0b, Ax0b, nx0b, cx0b, sx0d, Ax0d, nx0d, cx0d, rfl, hx0a, hx0b, hx0d⟩ := hX0
  replace hS := hS.addI hx0a
  clear hx0a
  replace hS := hS.addI hx0b
  clear hx0b
  replace hS := hS.addI hx0d
  clear hx0d
  have o1 : Own w w.heap.size := Own.of hS.ext (by simp)
  have hT1 := (St.al hS 32 #[.bool sx0a, .slice Ax0a nx0a cx0a, .bool sx0b, .slice Ax0b nx0b cx0b, .bool sx0d, .slice Ax0d nx0d cx0d] (g := w.heap.size) (by simp))
  have k_1 := (hT1.blk 0 rfl).cell
  go_enter Tryz.func21, Tryz.ntmps21
  go_wp2_with fail
  clear k_1
  clear hT1
  replace hS := (St.al hS 32 #[.bool sx0a, .slice Ax0a nx0a cx0a, .bool sx0b, .slice Ax0b nx0b cx0b, .bool sx0d, .slice Ax0d nx0d cx0d] (g := w.heap.size) (by simp))
  generalize (w.alloc (.cells #[.bool sx0a, .slice Ax0a nx0a cx0a, .bool sx0b, .slice Ax0b nx0b cx0b, .bool sx0d, .slice Ax0d nx0d cx0d] 32)) = w1 at hS ⊢
  generalize w.heap.size = g1 at hS o1 ⊢
  refine (rSign_at _ x0a (0) _ (hS.num 2 rfl) ax0a (cmpZ_zero H0.out)).mono ?_
  rintro e w2 ⟨rfl, hx_⟩
  replace hS := hS.mv hx_
  clear hx_
  have k_2 := (hS.blk 0 rfl).cell
  go_wp2_with fail
  clear k_2
  refine (rSign_at _ x0b (-1) _ (hS.num 1 rfl) ax0b (cmpZ_neg H1.out)).mono ?_
  rintro e w3 ⟨rfl, hx_⟩
  replace hS := hS.mv hx_
  clear hx_
  go_wp2
  go_ret
  exact ⟨ret_bool (rfl), hS.ext⟩

set_option maxRecDepth 100000 in
set_option maxHeartbeats 800000 in
theorem qZero_ap (v0 : Value) (x0a x0b x0d : Int) (w : World) (hX0 : RG w v0 x0a x0b x0d) (ax0a : x0a.natAbs < lim) (ax0b : x0b.natAbs < lim) (ax0d : x0d.natAbs < lim) (H0 : Hid (0 < x0a))
      :
    Calls Tryz.prog 21 #[v0] w fun e w' => e = .returned (.bool false) ∧ Ext w w' := by
  have hS := St.start w
  obtain ⟨sx0a, Ax0a, nx0a, cx0a, sx0b, Ax0b, nx0b, cx0b, sx0d, Ax0d, nx0d, cx0d, rfl, hx0a, hx0b, hx0d⟩ := hX0
  replace hS := hS.addI hx0a
  clear hx0a
  replace hS := hS.addI hx0b
  clear hx0b
  replace hS := hS.addI hx0d
  clear hx0d
  have o1 : Own w w.heap.size := Own.of hS.ext (by simp)
  have hT1 := (St.al hS 32 #[.bool sx0a, .slice Ax0a nx0a cx0a, .bool sx0b, .slice Ax0b nx0b cx0b, .bool sx0d, .slice Ax0d nx0d cx0d] (g := w.heap.size) (by simp))
  have k_1 := (hT1.blk 0 rfl).cell
  go_enter Tryz.func21, Tryz.ntmps21
  go_wp2_with fail
  clear k_1
  clear hT1
  replace hS := (St.al hS 32 #[.bool sx0a, .slice Ax0a nx0a cx0a, .bool sx0b, .slice Ax0b nx0b cx0b, .bool sx0d, .slice Ax0d nx0d cx0d] (g := w.heap.size) (by simp))
  generalize (w.alloc (.cells #[.bool sx0a, .slice Ax0a nx0a cx0a, .bool sx0b, .slice Ax0b nx0b cx0b, .bool sx0d, .slice Ax0d nx0d cx0d] 32)) = w1 at hS ⊢
  generalize w.heap.size = g1 at hS o1 ⊢
  refine (rSign_at _ x0a (1) _ (hS.num 2 rfl) ax0a (cmpZ_pos H0.out)).mono ?_
  rintro e w2 ⟨rfl, hx_⟩
  replace hS := hS.mv hx_
  clear hx_
  go_wp2
  go_ret
  exact ⟨ret_bool (rfl), hS.ext⟩

set_option maxRecDepth 100000 in
set_option maxHeartbeats 800000 in
theorem qZero_an (v0 : Value) (x0a x0b x0d : Int) (w : World) (hX0 : RG w v0 x0a x0b x0d) (ax0a : x0a.natAbs < lim) (ax0b : x0b.natAbs < lim) (ax0d : x0d.natAbs < lim) (H0 : Hid (x0a < 0))
      :
    Calls Tryz.prog 21 #[v0] w fun e w' => e = .returned (.bool false) ∧ Ext w w' := by
  have hS := St.start w
  obtain ⟨sx0a, Ax0a, nx0a, cx0a, sx0b, Ax0b, nx0b, cx0b, sx0d, Ax0d, nx0d, cx0d, rfl, hx0a, hx0b, hx0d⟩ := hX0
  replace hS := hS.addI hx0a
  clear hx0a
  replace hS := hS.addI hx0b
  clear hx0b
  replace hS := hS.addI hx0d
  clear hx0d
  have o1 : Own w w.heap.size := Own.of hS.ext (by simp)
  have hT1 := (St.al hS 32 #[.bool sx0a, .slice Ax0a nx0a cx0a, .bool sx0b, .slice Ax0b nx0b cx0b, .bool sx0d, .slice Ax0d nx0d cx0d] (g := w.heap.size) (by simp))
  have k_1 := (hT1.blk 0 rfl).cell
  go_enter Tryz.func21, Tryz.ntmps21
  go_wp2_with fail
  clear k_1
  clear hT1
  replace hS := (St.al hS 32 #[.bool sx0a, .slice Ax0a nx0a cx0a, .bool sx0b, .slice Ax0b nx0b cx0b, .bool sx0d, .slice Ax0d nx0d cx0d] (g := w.heap.size) (by simp))
  generalize (w.alloc (.cells #[.bool sx0a, .slice Ax0a nx0a cx0a, .bool sx0b, .slice Ax0b nx0b cx0b, .bool sx0d, .slice Ax0d nx0d cx0d] 32)) = w1 at hS ⊢
  generalize w.heap.size = g1 at hS o1 ⊢
  refine (rSign_at _ x0a (-1) _ (hS.num 2 rfl) ax0a (cmpZ_neg H0.out)).mono ?_
  rintro e w2 ⟨rfl, hx_⟩
  replace hS := hS.mv hx_
  clear hx_
  go_wp2
  go_ret
  exact ⟨ret_bool (rfl), hS.ext⟩

theorem qZero_yes (v : Value) (q : GQ) (n : Nat) (w : World) (hX : GV w v q n) (hn : n ≤ 12800) (h : q = GQ.i 0 0) :
    Calls Tryz.prog 21 #[v] w fun e w' => e = .returned (.bool true) ∧ Ext w w' := by
  obtain ⟨a, b, d, h1, h2, h3⟩ := hX
  obtain ⟨l1, l2, l3⟩ := h3.lims hn
  obtain ⟨e1, e2⟩ := h2.zero_iff.1 h
  exact qZero_z v a b d w h1 l1 l2 l3 (Lib.hid e1) (Lib.hid e2)
theorem qZero_no (v : Value) (q : GQ) (n : Nat) (w : World) (hX : GV w v q n) (hn : n ≤ 12800) (h : q ≠ GQ.i 0 0) :
    Calls Tryz.prog 21 #[v] w fun e w' => e = .returned (.bool false) ∧ Ext w w' := by
  obtain ⟨a, b, d, h1, h2, h3⟩ := hX
  obtain ⟨l1, l2, l3⟩ := h3.lims hn
  rcases Int.lt_trichotomy a 0 with k | k | k
  · exact qZero_an v a b d w h1 l1 l2 l3 (Lib.hid k)
  · rcases Int.lt_trichotomy b 0 with j | j | j
    · exact qZero_bn v a b d w h1 l1 l2 l3 (Lib.hid k) (Lib.hid j)
    · exact absurd (h2.zero_iff.2 ⟨k, j⟩) h
    · exact qZero_bp v a b d w h1 l1 l2 l3 (Lib.hid k) (Lib.hid j)
  · exact qZero_ap v a b d w h1 l1 l2 l3 (Lib.hid k)

theorem cmpZ_cases (x y : Int) : (cmpZ x y = -1 ∧ x ≠ y) ∨ (cmpZ x y = 0 ∧ x = y) ∨ (cmpZ x y = 1 ∧ x ≠ y) := by
  unfold cmpZ
  rcases Int.lt_trichotomy x y with h | h | h
  · rw [if_pos h]; exact .inl ⟨rfl, by omega⟩
  · rw [if_neg (by omega), if_neg (by omega)]; exact .inr (.inl ⟨rfl, h⟩)
  · rw [if_neg (by omega), if_pos h]; exact .inr (.inr ⟨rfl, by omega⟩)
theorem Is.eq_of {q q' : GQ} {a b d : Int} (h : Is q a b d) (h' : Is q' a b d) : q = q' := by
  ext
  · rw [h.re, h'.re]
  · rw [h.im, h'.im]
theorem qSame_ne (v u : Value) (q q' : GQ) (m n : Nat) (w : World) (hX : GV w v q m) (hY : GV w u q' n) (hq : q ≠ q') :
    Calls Tryz.prog 14 #[v, u] w fun e w' => e = .returned (.bool false) ∧ Ext w w' := by
  obtain ⟨a, b, d, h1, i1, s1⟩ := hX
  obtain ⟨a', b', d', h2, i2, s2⟩ := hY
  exact qSame_no v u a b d a' b' d' w h1 h2 (fun ⟨e1, e2, e3⟩ => by subst e1 e2 e3; exact hq (i1.eq_of i2))

set_option maxRecDepth 100000 in
set_option maxHeartbeats 3200000 in
theorem xDiv_w (v0 : Value) (q0 : GQ) (n0 : Nat) (v1 : Value) (q1 : GQ) (n1 : Nat) (w : World) (hX0 : GV w v0 q0 n0) (hX1 : GV w v1 q1 n1) (H0 : Hid (q1 ≠ GQ.i 0 0))
     (hn : 4 * max n0 n1 + 3 ≤ 12800) :
    Calls Tryz.prog 117 #[v0, v1] w fun e w' => ∃ v, e = .returned v ∧ (∃ u, v = .tuple #[u, .int .i64 0] ∧ GV w' u (q0 / q1) (n0 + (n1 + n1 + 1))) ∧ Ext w w' := by
  have hS := St.start w
  obtain ⟨x0a, x0b, x0d, hX0, I0, S0⟩ := hX0
  obtain ⟨sx0a, Ax0a, nx0a, cx0a, sx0b, Ax0b, nx0b, cx0b, sx0d, Ax0d, nx0d, cx0d, rfl, hx0a, hx0b, hx0d⟩ := hX0
  replace hS := hS.addI hx0a
  clear hx0a
  replace hS := hS.addI hx0b
  clear hx0b
  replace hS := hS.addI hx0d
  clear hx0d
  obtain ⟨x1a, x1b, x1d, hX1, I1, S1⟩ := hX1
  obtain ⟨sx1a, Ax1a, nx1a, cx1a, sx1b, Ax1b, nx1b, cx1b, sx1d, Ax1d, nx1d, cx1d, rfl, hx1a, hx1b, hx1d⟩ := hX1
  replace hS := hS.addI hx1a
  clear hx1a
  replace hS := hS.addI hx1b
  clear hx1b
  replace hS := hS.addI hx1d
  clear hx1d
  have o2 : Own w w.heap.size := Own.of hS.ext (by simp)
  have o3 : Own w (w.heap.size + 1) := Own.of hS.ext (by simp)
  have o4 : Own w (w.heap.size + 2) := Own.of hS.ext (by simp)
  have hT1 := (St.al (St.al (St.al hS 32 #[.bool sx0a, .slice Ax0a nx0a cx0a, .bool sx0b, .slice Ax0b nx0b cx0b, .bool sx0d, .slice Ax0d nx0d cx0d] (g := w.heap.size) (by simp)) 32 #[.bool sx1a, .slice Ax1a nx1a cx1a, .bool sx1b, .slice Ax1b nx1b cx1b, .bool sx1d, .slice Ax1d nx1d cx1d] (g := (w.heap.size + 1)) (by simp)) 32 #[.bool false, .slice none 0 0, .bool false, .slice none 0 0, .bool false, .slice none 0 0] (g := (w.heap.size + 2)) (by simp))
  have k_1 := (hT1.blk 2 rfl).cell
  have k_2 := (hT1.blk 1 rfl).cell
  have o9 : Own w (w.heap.size + 3) := Own.of hS.ext (by simp)
  go_enter Tryz.func117, Tryz.ntmps117
  go_wp2_with fail
  clear k_1 k_2
  clear hT1
  replace hS := (St.al (St.al (St.al (St.al hS 32 #[.bool sx0a, .slice Ax0a nx0a cx0a, .bool sx0b, .slice Ax0b nx0b cx0b, .bool sx0d, .slice Ax0d nx0d cx0d] (g := w.heap.size) (by simp)) 32 #[.bool sx1a, .slice Ax1a nx1a cx1a, .bool sx1b, .slice Ax1b nx1b cx1b, .bool sx1d, .slice Ax1d nx1d cx1d] (g := (w.heap.size + 1)) (by simp)) 32 #[.bool false, .slice none 0 0, .bool false, .slice none 0 0, .bool false, .slice none 0 0] (g := (w.heap.size + 2)) (by simp)) 32 #[.bool sx0a, .slice Ax0a nx0a cx0a, .bool sx0b, .slice Ax0b nx0b cx0b, .bool sx0d, .slice Ax0d nx0d cx0d, .bool sx1a, .slice Ax1a nx1a cx1a, .bool sx1b, .slice Ax1b nx1b cx1b, .bool sx1d, .slice Ax1d nx1d cx1d] (g := (w.heap.size + 3)) (by simp))
  generalize ((((w.alloc (.cells #[.bool sx0a, .slice Ax0a nx0a cx0a, .bool sx0b, .slice Ax0b nx0b cx0b, .bool sx0d, .slice Ax0d nx0d cx0d] 32)).alloc (.cells #[.bool sx1a, .slice Ax1a nx1a cx1a, .bool sx1b, .slice Ax1b nx1b cx1b, .bool sx1d, .slice Ax1d nx1d cx1d] 32)).alloc (.cells #[.bool false, .slice none 0 0, .bool false, .slice none 0 0, .bool false, .slice none 0 0] 32)).alloc (.cells #[.bool sx0a, .slice Ax0a nx0a cx0a, .bool sx0b, .slice Ax0b nx0b cx0b, .bool sx0d, .slice Ax0d nx0d cx0d, .bool sx1a, .slice Ax1a nx1a cx1a, .bool sx1b, .slice Ax1b nx1b cx1b, .bool sx1d, .slice Ax1d nx1d cx1d] 32)) = w1 at hS ⊢
  generalize w.heap.size + 3 = g9 at hS o9 ⊢
  generalize w.heap.size + 2 = g4 at hS o4 ⊢
  generalize w.heap.size + 1 = g3 at hS o3 ⊢
  generalize w.heap.size = g2 at hS o2 ⊢
  refine (xvalid2_ok g9 q0 q1 n0 n1 _ (hS.blk 0 rfl) ⟨_, _, _, RG.mk (hS.num 5 rfl) (hS.num 4 rfl) (hS.num 3 rfl), I0, S0⟩ (by omega) ⟨_, _, _, RG.mk (hS.num 2 rfl) (hS.num 1 rfl) (hS.num 0 rfl), I1, S1⟩ (by omega)).mono ?_
  rintro e w2 ⟨rfl, hx_⟩
  replace hS := hS.mv hx_
  clear hx_
  have k_3 := (hS.blk 2 rfl).cell
  go_wp2_with fail
  clear k_3
  refine (xzero_no _ q1 (n1) _ ⟨_, _, _, RG.mk (hS.num 2 rfl) (hS.num 1 rfl) (hS.num 0 rfl), I1, S1⟩ H0.out).mono ?_
  rintro e w3 ⟨rfl, hx_⟩
  replace hS := hS.mv hx_
  clear hx_
  have o6 : Own w w3.heap.size := Own.of hS.ext (by simp)
  have hT2 := (St.al hS 105 #[.int .i64 0] (g := w3.heap.size) (by simp))
  have k_4 := (hT2.blk 4 rfl).cell
  have k_5 := (hT2.blk 3 rfl).cell
  go_wp2_with fail
  clear k_4 k_5
  clear hT2
  replace hS := (St.al hS 105 #[.int .i64 0] (g := w3.heap.size) (by simp))
  generalize (w3.alloc (.cells #[.int .i64 0] 105)) = w4 at hS ⊢
  generalize w3.heap.size = g6 at hS o6 ⊢
  obtain ⟨z18a, z18b, z18d, I18⟩ := is_ex (q0 / q1)
  have S18 : Sz (n0 + (n1 + n1 + 1)) z18a z18b z18d := (Bd.div ⟨_, _, _, I0, S0⟩ ⟨_, _, _, I1, S1⟩ H0.out).sz I18
  refine (toRG (equotient_q g6 _ _ q0 q1 _ _ _ (hS.blk 0 rfl) ⟨_, _, _, RG.mk (hS.num 5 rfl) (hS.num 4 rfl) (hS.num 3 rfl), I0, S0⟩ ⟨_, _, _, RG.mk (hS.num 2 rfl) (hS.num 1 rfl) (hS.num 0 rfl), I1, S1⟩ (by omega) H0.out) I18).mono ?_
  rintro e w5 ⟨v_, rfl, hv_, hx_⟩
  replace hS := hS.mv hx_
  clear hx_
  obtain ⟨s18a, A_18a, n18a, c18a, s18b, A_18b, n18b, c18b, s18d, A_18d, n18d, c18d, rfl, f_s18a, f_s18b, f_s18d⟩ := hv_
  replace hS := hS.addI f_s18a
  clear f_s18a
  replace hS := hS.addI f_s18b
  clear f_s18b
  replace hS := hS.addI f_s18d
  clear f_s18d
  go_wp2_with fail
  refine (enumber_w g6 _ z18a z18b z18d _ (hS.blk 0 rfl) (RG.mk (hS.num 2 rfl) (hS.num 1 rfl) (hS.num 0 rfl))).mono ?_
  rintro e w6 ⟨v_, rfl, hv_, hx_⟩
  replace hS := hS.mv hx_
  clear hx_
  obtain ⟨_, rfl, s19a, A_19a, n19a, c19a, s19b, A_19b, n19b, c19b, s19d, A_19d, n19d, c19d, rfl, f_s19a, f_s19b, f_s19d⟩ := hv_
  replace hS := hS.addI f_s19a
  clear f_s19a
  replace hS := hS.addI f_s19b
  clear f_s19b
  replace hS := hS.addI f_s19d
  clear f_s19d
  have k_6 := (hS.blk 2 rfl).cell
  have k_7 := (hS.blk 2 rfl).frozen
  go_wp2
  replace hS := (St.put (W' := ((((((w6.setCell ⟨g4, 0, none⟩ (.bool s19a)).setCell ⟨g4, 1, none⟩ (.slice A_19a n19a c19a)).setCell ⟨g4, 2, none⟩ (.bool s19b)).setCell ⟨g4, 3, none⟩ (.slice A_19b n19b c19b)).setCell ⟨g4, 4, none⟩ (.bool s19d)).setCell ⟨g4, 5, none⟩ (.slice A_19d n19d c19d))) hS 2 0 [.bool s19a, .slice A_19a n19a c19a, .bool s19b, .slice A_19b n19b c19b, .bool s19d, .slice A_19d n19d c19d] (cs' := #[.bool s19a, .slice A_19a n19a c19a, .bool s19b, .slice A_19b n19b c19b, .bool s19d, .slice A_19d n19d c19d]) (bs' := _) rfl o4 rfl rfl (by kernel_rfl) rfl)
  exact bp_gauss2 rfl rfl rfl (hS.blk 2 rfl) ⟨_, rfl, ⟨_, rfl, ⟨_, _, _, RG.mk (hS.num 2 rfl) (hS.num 1 rfl) (hS.num 0 rfl), I18, S18⟩⟩, hS.ext⟩

set_option maxRecDepth 100000 in
set_option maxHeartbeats 1600000 in
theorem xDiv_z (v0 : Value) (q0 : GQ) (n0 : Nat) (v1 : Value) (q1 : GQ) (n1 : Nat) (w : World) (hX0 : GV w v0 q0 n0) (hX1 : GV w v1 q1 n1) (H0 : Hid (q1 = GQ.i 0 0))
     (hn : 4 * (n0 + n1) + 3 ≤ 12800) :
    Calls Tryz.prog 117 #[v0, v1] w fun e w' => ∃ v, e = .returned v ∧ (∃ u, v = .tuple #[u, .int .i64 21] ∧ RG w' u 0 0 0) ∧ Ext w w' := by
  have hS := St.start w
  obtain ⟨x0a, x0b, x0d, hX0, I0, S0⟩ := hX0
  obtain ⟨sx0a, Ax0a, nx0a, cx0a, sx0b, Ax0b, nx0b, cx0b, sx0d, Ax0d, nx0d, cx0d, rfl, hx0a, hx0b, hx0d⟩ := hX0
  replace hS := hS.addI hx0a
  clear hx0a
  replace hS := hS.addI hx0b
  clear hx0b
  replace hS := hS.addI hx0d
  clear hx0d
  obtain ⟨x1a, x1b, x1d, hX1, I1, S1⟩ := hX1
  obtain ⟨sx1a, Ax1a, nx1a, cx1a, sx1b, Ax1b, nx1b, cx1b, sx1d, Ax1d, nx1d, cx1d, rfl, hx1a, hx1b, hx1d⟩ := hX1
  replace hS := hS.addI hx1a
  clear hx1a
  replace hS := hS.addI hx1b
  clear hx1b
  replace hS := hS.addI hx1d
  clear hx1d
  have o2 : Own w w.heap.size := Own.of hS.ext (by simp)
  have o3 : Own w (w.heap.size + 1) := Own.of hS.ext (by simp)
  have o4 : Own w (w.heap.size + 2) := Own.of hS.ext (by simp)
  have hT1 := (St.al (St.al (St.al hS 32 #[.bool sx0a, .slice Ax0a nx0a cx0a, .bool sx0b, .slice Ax0b nx0b cx0b, .bool sx0d, .slice Ax0d nx0d cx0d] (g := w.heap.size) (by simp)) 32 #[.bool sx1a, .slice Ax1a nx1a cx1a, .bool sx1b, .slice Ax1b nx1b cx1b, .bool sx1d, .slice Ax1d nx1d cx1d] (g := (w.heap.size + 1)) (by simp)) 32 #[.bool false, .slice none 0 0, .bool false, .slice none 0 0, .bool false, .slice none 0 0] (g := (w.heap.size + 2)) (by simp))
  have k_1 := (hT1.blk 2 rfl).cell
  have k_2 := (hT1.blk 1 rfl).cell
  have o9 : Own w (w.heap.size + 3) := Own.of hS.ext (by simp)
  go_enter Tryz.func117, Tryz.ntmps117
  go_wp2_with fail
  clear k_1 k_2
  clear hT1
  replace hS := (St.al (St.al (St.al (St.al hS 32 #[.bool sx0a, .slice Ax0a nx0a cx0a, .bool sx0b, .slice Ax0b nx0b cx0b, .bool sx0d, .slice Ax0d nx0d cx0d] (g := w.heap.size) (by simp)) 32 #[.bool sx1a, .slice Ax1a nx1a cx1a, .bool sx1b, .slice Ax1b nx1b cx1b, .bool sx1d, .slice Ax1d nx1d cx1d] (g := (w.heap.size + 1)) (by simp)) 32 #[.bool false, .slice none 0 0, .bool false, .slice none 0 0, .bool false, .slice none 0 0] (g := (w.heap.size + 2)) (by simp)) 32 #[.bool sx0a, .slice Ax0a nx0a cx0a, .bool sx0b, .slice Ax0b nx0b cx0b, .bool sx0d, .slice Ax0d nx0d cx0d, .bool sx1a, .slice Ax1a nx1a cx1a, .bool sx1b, .slice Ax1b nx1b cx1b, .bool sx1d, .slice Ax1d nx1d cx1d] (g := (w.heap.size + 3)) (by simp))
  generalize ((((w.alloc (.cells #[.bool sx0a, .slice Ax0a nx0a cx0a, .bool sx0b, .slice Ax0b nx0b cx0b, .bool sx0d, .slice Ax0d nx0d cx0d] 32)).alloc (.cells #[.bool sx1a, .slice Ax1a nx1a cx1a, .bool sx1b, .slice Ax1b nx1b cx1b, .bool sx1d, .slice Ax1d nx1d cx1d] 32)).alloc (.cells #[.bool false, .slice none 0 0, .bool false, .slice none 0 0, .bool false, .slice none 0 0] 32)).alloc (.cells #[.bool sx0a, .slice Ax0a nx0a cx0a, .bool sx0b, .slice Ax0b nx0b cx0b, .bool sx0d, .slice Ax0d nx0d cx0d, .bool sx1a, .slice Ax1a nx1a cx1a, .bool sx1b, .slice Ax1b nx1b cx1b, .bool sx1d, .slice Ax1d nx1d cx1d] 32)) = w1 at hS ⊢
  generalize w.heap.size + 3 = g9 at hS o9 ⊢
  generalize w.heap.size + 2 = g4 at hS o4 ⊢
  generalize w.heap.size + 1 = g3 at hS o3 ⊢
  generalize w.heap.size = g2 at hS o2 ⊢
  refine (xvalid2_ok g9 q0 q1 n0 n1 _ (hS.blk 0 rfl) ⟨_, _, _, RG.mk (hS.num 5 rfl) (hS.num 4 rfl) (hS.num 3 rfl), I0, S0⟩ (by omega) ⟨_, _, _, RG.mk (hS.num 2 rfl) (hS.num 1 rfl) (hS.num 0 rfl), I1, S1⟩ (by omega)).mono ?_
  rintro e w2 ⟨rfl, hx_⟩
  replace hS := hS.mv hx_
  clear hx_
  have k_3 := (hS.blk 2 rfl).cell
  go_wp2_with fail
  clear k_3
  refine (xzero_yes _ q1 (n1) _ ⟨_, _, _, RG.mk (hS.num 2 rfl) (hS.num 1 rfl) (hS.num 0 rfl), I1, S1⟩ H0.out).mono ?_
  rintro e w3 ⟨rfl, hx_⟩
  replace hS := hS.mv hx_
  clear hx_
  have k_4 := (hS.blk 1 rfl).cell
  have k_5 := (hS.blk 1 rfl).frozen
  go_wp2
  replace hS := (St.put (W' := ((((((w3.setCell ⟨g4, 0, none⟩ (.bool false)).setCell ⟨g4, 1, none⟩ (.slice none 0 0)).setCell ⟨g4, 2, none⟩ (.bool false)).setCell ⟨g4, 3, none⟩ (.slice none 0 0)).setCell ⟨g4, 4, none⟩ (.bool false)).setCell ⟨g4, 5, none⟩ (.slice none 0 0))) hS 1 0 [.bool false, .slice none 0 0, .bool false, .slice none 0 0, .bool false, .slice none 0 0] (cs' := #[.bool false, .slice none 0 0, .bool false, .slice none 0 0, .bool false, .slice none 0 0]) (bs' := _) rfl o4 rfl rfl (by kernel_rfl) rfl)
  exact bp_gauss2 rfl rfl rfl (hS.blk 1 rfl) ⟨_, rfl, ⟨_, rfl, RG.mk (RI.zero _) (RI.zero _) (RI.zero _)⟩, hS.ext⟩

end Go.Proofs.YtclkkoiaaddllaaGreat
