/- Zero, Same, Div: the program and its specification. -/
import Derived.Test.YtjeijmnhbckjdaaGc
import Derived.Test.YtjeijmnhbckjdaaNG
import Derived.Test.YtjeijmnhbckjdaaNJ
import Derived.Test.YtjeijmnhbckjdaaNI
namespace Go.Proofs.Ytjeijmnhbckjdaa
open Go.RowKit
set_option linter.unusedVariables false

set_option maxRecDepth 100000 in
set_option maxHeartbeats 1600000 in
theorem xzero_any (s1 : Bool) (A1 : Option Addr) (n1 c1 : Nat) (s2 : Bool) (A2 : Option Addr) (n2 c2 : Nat) (s3 : Bool) (A3 : Option Addr) (n3 c3 : Nat) (w : World) :
    Calls Try.prog 34 #[gv s1 A1 n1 c1 s2 A2 n2 c2 s3 A3 n3 c3] w fun e w' => e = .returned (.bool (decide (n1 = 0) && decide (n2 = 0))) ∧ Ext w w' := by
  have b0 := Blk.new w 26 #[.bool s1, .slice A1 n1 c1, .bool s2, .slice A2 n2 c2, .bool s3, .slice A3 n3 c3]
  have k0 := b0.cell
  by_cases h1 : n1 = 0
  · have d1 : ((n1 : Int) == 0) = true := by simp; omega
    have H1 := Lib.hid h1; clear h1
    by_cases h2 : n2 = 0
    · have d2 : ((n2 : Int) == 0) = true := by simp; omega
      have H2 := Lib.hid h2; clear h2
      go_enter Try.func34, Try.ntmps34
      go_wp2
      go_ret
      exact ⟨ret_bool (by simp [H1.out, H2.out]), Ext.new _ _⟩
    · have d2 : ((n2 : Int) == 0) = false := by simp; omega
      have H2 := Lib.hid h2; clear h2
      go_enter Try.func34, Try.ntmps34
      go_wp2
      go_ret
      exact ⟨ret_bool (by simp [H2.out]), Ext.new _ _⟩
  · have d1 : ((n1 : Int) == 0) = false := by simp; omega
    have H1 := Lib.hid h1; clear h1
    go_enter Try.func34, Try.ntmps34
    go_wp2
    go_ret
    exact ⟨ret_bool (by simp [H1.out]), Ext.new _ _⟩
theorem xzero_at (s1 : Bool) (A1 : Option Addr) (n1 c1 : Nat) (s2 : Bool) (A2 : Option Addr) (n2 c2 : Nat) (s3 : Bool) (A3 : Option Addr) (n3 c3 : Nat) (r : Bool) (w : World) (h : (decide (n1 = 0) && decide (n2 = 0)) = r) :
    Calls Try.prog 34 #[gv s1 A1 n1 c1 s2 A2 n2 c2 s3 A3 n3 c3] w fun e w' => e = .returned (.bool r) ∧ Ext w w' := by
  have := xzero_any s1 A1 n1 c1 s2 A2 n2 c2 s3 A3 n3 c3 w
  rwa [h] at this
theorem RI.n0 {w : World} {s : Bool} {A : Option Addr} {n c : Nat} {z : Int} (h : RI w (iv s A n c) z) : decide (n = 0) = decide (z = 0) := by
  by_cases hz : z = 0
  · have := RI.len0 h hz
    simp at this
    simp [this, hz]
  · have := RI.lenne h hz
    simp at this
    simp [this, hz]
theorem Is.zero_iff {q : GQ} {a b d : Int} (h : Is q a b d) : q = GQ.i 0 0 ↔ a = 0 ∧ b = 0 := by
  have hd := cast_ne h.dne
  constructor
  · intro e
    have e1 := h.re
    have e2 := h.im
    rw [e] at e1 e2
    simp only [GQ.i_re, GQ.i_im] at e1 e2
    have f1 : (a : Rat) = 0 := by grind
    have f2 : (b : Rat) = 0 := by grind
    exact ⟨by exact_mod_cast f1, by exact_mod_cast f2⟩
  · rintro ⟨rfl, rfl⟩
    ext
    · rw [h.re]; simp only [GQ.i_re]; grind
    · rw [h.im]; simp only [GQ.i_im]; grind
/-- zero says whether the number is 0. -/
theorem GV.zero {w : World} {q : GQ} {n n1 c1 n2 c2 n3 c3 : Nat} {s1 s2 s3 : Bool} {A1 A2 A3 : Option Addr} (h : GV w (gv s1 A1 n1 c1 s2 A2 n2 c2 s3 A3 n3 c3) q n) : (decide (n1 = 0) && decide (n2 = 0)) = true ↔ q = GQ.i 0 0 := by
  obtain ⟨a, b, d, h1, h2, _⟩ := h
  obtain ⟨r1, r2, r3⟩ := RG.inj h1
  rw [RI.n0 r1, RI.n0 r2, h2.zero_iff]
  simp
theorem GV.opn {w : World} {v : Value} {q : GQ} {n : Nat} (h : GV w v q n) : ∃ s1 A1 n1 c1 s2 A2 n2 c2 s3 A3 n3 c3, v = gv s1 A1 n1 c1 s2 A2 n2 c2 s3 A3 n3 c3 := by
  obtain ⟨a, b, d, ⟨s1, A1, n1, c1, s2, A2, n2, c2, s3, A3, n3, c3, e, _⟩, _⟩ := h
  exact ⟨s1, A1, n1, c1, s2, A2, n2, c2, s3, A3, n3, c3, e⟩
theorem xzero_yes (v : Value) (q : GQ) (n : Nat) (w : World) (hX : GV w v q n) (h : q = GQ.i 0 0) :
    Calls Try.prog 34 #[v] w fun e w' => e = .returned (.bool true) ∧ Ext w w' := by
  obtain ⟨s1, A1, n1, c1, s2, A2, n2, c2, s3, A3, n3, c3, rfl⟩ := hX.opn
  exact xzero_at _ _ _ _ _ _ _ _ _ _ _ _ _ w (hX.zero.2 h)
theorem xzero_no (v : Value) (q : GQ) (n : Nat) (w : World) (hX : GV w v q n) (h : q ≠ GQ.i 0 0) :
    Calls Try.prog 34 #[v] w fun e w' => e = .returned (.bool false) ∧ Ext w w' := by
  obtain ⟨s1, A1, n1, c1, s2, A2, n2, c2, s3, A3, n3, c3, rfl⟩ := hX.opn
  exact xzero_at _ _ _ _ _ _ _ _ _ _ _ _ _ w (by rw [Bool.eq_false_iff]; intro e; exact h (hX.zero.1 e))
theorem Bd.div {x y : GQ} {n1 n2 : Nat} (hx : Bd x n1) (hy : Bd y n2) (h : y ≠ GQ.i 0 0) : Bd (x / y) (n1 + (n2 + n2 + 1)) := by
  obtain ⟨a, b, d, i1, s1⟩ := hx
  obtain ⟨a', b', d', i2, s2⟩ := hy
  obtain ⟨u, v, t, hh⟩ := is_ex (x / y)
  have h0 := i2.ne0 h
  have E := i1.div_nf i2 h0 hh
  have k1 := lt_mul (lt_add (lt_mul s1.a s2.a) (lt_mul s1.b s2.b)) s2.d
  have k2 := lt_mul (lt_sub (lt_mul s1.b s2.a) (lt_mul s1.a s2.b)) s2.d
  have k3 := lt_mul s1.d (lt_add (lt_mul s2.a s2.a) (lt_mul s2.b s2.b))
  exact ⟨u, v, t, hh, nf_size' (n := n1 + (n2 + n2 + 1)) (Int.mul_ne_zero i1.dne (norm_ne h0)) E (lt_up k1 (by omega)) (lt_up k2 (by omega)) k3⟩
theorem cmpZ_eq {x y : Int} (h : x = y) : cmpZ x y = 0 := by subst h; unfold cmpZ; rw [if_neg (by omega), if_neg (by omega)]

set_option maxRecDepth 100000 in
set_option maxHeartbeats 800000 in
theorem xZero_y (s0a : Bool) (A0a : Option Addr) (n0a c0a : Nat) (s0b : Bool) (A0b : Option Addr) (n0b c0b : Nat) (s0d : Bool) (A0d : Option Addr) (n0d c0d : Nat) (b0 : Bool) (w : World) (hV0 : VB w (gv s0a A0a n0a c0a s0b A0b n0b c0b s0d A0d n0d c0d) b0) (H0 : Hid ((decide (n0a = 0) && decide (n0b = 0)) = true))
      :
    Calls Try.prog 18 #[gv s0a A0a n0a c0a s0b A0b n0b c0b s0d A0d n0d c0d] w fun e w' => e = .returned (.bool b0) ∧ Ext w w' := by
  have hS := St.start w
  have o1 : Own w w.heap.size := Own.of hS.ext (by simp)
  have hT1 := (St.al hS 26 #[.bool s0a, .slice A0a n0a c0a, .bool s0b, .slice A0b n0b c0b, .bool s0d, .slice A0d n0d c0d] (g := w.heap.size) (by simp))
  have k_1 := (hT1.blk 0 rfl).cell
  go_enter Try.func18, Try.ntmps18
  go_wp2_with fail
  clear k_1
  clear hT1
  replace hS := (St.al hS 26 #[.bool s0a, .slice A0a n0a c0a, .bool s0b, .slice A0b n0b c0b, .bool s0d, .slice A0d n0d c0d] (g := w.heap.size) (by simp))
  generalize (w.alloc (.cells #[.bool s0a, .slice A0a n0a c0a, .bool s0b, .slice A0b n0b c0b, .bool s0d, .slice A0d n0d c0d] 26)) = w1 at hS ⊢
  generalize w.heap.size = g1 at hS o1 ⊢
  refine (xzero_at s0a A0a n0a c0a s0b A0b n0b c0b s0d A0d n0d c0d true _ H0.out).mono ?_
  rintro e w2 ⟨rfl, hx_⟩
  replace hS := hS.mv hx_
  clear hx_
  have k_2 := (hS.blk 0 rfl).cell
  go_wp2_with fail
  clear k_2
  refine (VB.e (hV0.ext hS.ext)).mono ?_
  rintro e w3 ⟨rfl, hx_⟩
  replace hS := hS.mv hx_
  clear hx_
  go_wp2
  go_ret
  exact ⟨ret_bool (rfl), hS.ext⟩

set_option maxRecDepth 100000 in
set_option maxHeartbeats 800000 in
theorem xZero_n (s0a : Bool) (A0a : Option Addr) (n0a c0a : Nat) (s0b : Bool) (A0b : Option Addr) (n0b c0b : Nat) (s0d : Bool) (A0d : Option Addr) (n0d c0d : Nat) (b0 : Bool) (w : World) (hV0 : VB w (gv s0a A0a n0a c0a s0b A0b n0b c0b s0d A0d n0d c0d) b0) (H0 : Hid ((decide (n0a = 0) && decide (n0b = 0)) = false))
      :
    Calls Try.prog 18 #[gv s0a A0a n0a c0a s0b A0b n0b c0b s0d A0d n0d c0d] w fun e w' => e = .returned (.bool false) ∧ Ext w w' := by
  have hS := St.start w
  have o1 : Own w w.heap.size := Own.of hS.ext (by simp)
  have hT1 := (St.al hS 26 #[.bool s0a, .slice A0a n0a c0a, .bool s0b, .slice A0b n0b c0b, .bool s0d, .slice A0d n0d c0d] (g := w.heap.size) (by simp))
  have k_1 := (hT1.blk 0 rfl).cell
  go_enter Try.func18, Try.ntmps18
  go_wp2_with fail
  clear k_1
  clear hT1
  replace hS := (St.al hS 26 #[.bool s0a, .slice A0a n0a c0a, .bool s0b, .slice A0b n0b c0b, .bool s0d, .slice A0d n0d c0d] (g := w.heap.size) (by simp))
  generalize (w.alloc (.cells #[.bool s0a, .slice A0a n0a c0a, .bool s0b, .slice A0b n0b c0b, .bool s0d, .slice A0d n0d c0d] 26)) = w1 at hS ⊢
  generalize w.heap.size = g1 at hS o1 ⊢
  refine (xzero_at s0a A0a n0a c0a s0b A0b n0b c0b s0d A0d n0d c0d false _ H0.out).mono ?_
  rintro e w2 ⟨rfl, hx_⟩
  replace hS := hS.mv hx_
  clear hx_
  go_wp2
  go_ret
  exact ⟨ret_bool (rfl), hS.ext⟩

theorem xZero_bad (s0a : Bool) (A0a : Option Addr) (n0a c0a : Nat) (s0b : Bool) (A0b : Option Addr) (n0b c0b : Nat) (s0d : Bool) (A0d : Option Addr) (n0d c0d : Nat) (w : World) (hV0 : VB w (gv s0a A0a n0a c0a s0b A0b n0b c0b s0d A0d n0d c0d) false) :
    Calls Try.prog 18 #[gv s0a A0a n0a c0a s0b A0b n0b c0b s0d A0d n0d c0d] w fun e w' => e = .returned (.bool false) ∧ Ext w w' := by
  cases h : (decide (n0a = 0) && decide (n0b = 0))
  · exact xZero_n _ _ _ _ _ _ _ _ _ _ _ _ _ w hV0 (Lib.hid h)
  · exact xZero_y _ _ _ _ _ _ _ _ _ _ _ _ _ w hV0 (Lib.hid h)
theorem xZero_yes (v : Value) (q : GQ) (n : Nat) (w : World) (hX : GV w v q n) (hn : n ≤ 12800) (h : q = GQ.i 0 0) :
    Calls Try.prog 18 #[v] w fun e w' => e = .returned (.bool true) ∧ Ext w w' := by
  obtain ⟨s1, A1, n1, c1, s2, A2, n2, c2, s3, A3, n3, c3, rfl⟩ := hX.opn
  exact xZero_y _ _ _ _ _ _ _ _ _ _ _ _ _ w (hX.vb hn) (Lib.hid (hX.zero.2 h))
theorem xZero_no (v : Value) (q : GQ) (n : Nat) (w : World) (hX : GV w v q n) (hn : n ≤ 12800) (h : q ≠ GQ.i 0 0) :
    Calls Try.prog 18 #[v] w fun e w' => e = .returned (.bool false) ∧ Ext w w' := by
  obtain ⟨s1, A1, n1, c1, s2, A2, n2, c2, s3, A3, n3, c3, rfl⟩ := hX.opn
  exact xZero_n _ _ _ _ _ _ _ _ _ _ _ _ _ w (hX.vb hn) (Lib.hid (by rw [Bool.eq_false_iff]; intro e; exact h (hX.zero.1 e)))

theorem cmpZ_cases (x y : Int) : (cmpZ x y = -1 ∧ x ≠ y) ∨ (cmpZ x y = 0 ∧ x = y) ∨ (cmpZ x y = 1 ∧ x ≠ y) := by
  unfold cmpZ
  rcases Int.lt_trichotomy x y with h | h | h
  · rw [if_pos h]; exact .inl ⟨rfl, by omega⟩
  · rw [if_neg (by omega), if_neg (by omega)]; exact .inr (.inl ⟨rfl, h⟩)
  · rw [if_neg (by omega), if_pos h]; exact .inr (.inr ⟨rfl, by omega⟩)
theorem Is.eq_of {q q' : GQ} {a b d : Int} (h : Is q a b d) (h' : Is q' a b d) : q = q' := by
  ext
  · rw [h.re, h'.re]
  · rw [h.im, h'.im]
end Go.Proofs.Ytjeijmnhbckjdaa
