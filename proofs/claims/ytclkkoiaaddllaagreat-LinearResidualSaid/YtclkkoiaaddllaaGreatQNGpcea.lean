/- Words and contracts that the laws share, several texts in one. -/
import Derived.Test.YtclkkoiaaddllaaGreatQNDeooe
import Derived.Test.YtclkkoiaaddllaaGreatQNFidmb
/- A row of numbers, all of them valid. -/
namespace Go.Proofs.YtclkkoiaaddllaaGreat
open Go.RowKit
set_option linter.unusedVariables false

set_option maxRecDepth 100000 in
set_option maxHeartbeats 1600000 in
theorem xvalid_any (gs L : Nat) (Bs : List Bool) (cs : Array Value) (w : World) (hb : Blk w gs 32 cs) (hL : Bs.length = L) (hL2 : L ≤ 100)
    (hz : ∀ j b, Bs[j]? = some b → ∃ s1 A1 n1 c1 s2 A2 n2 c2 s3 A3 n3 c3, cs[j * 6]? = some (.bool s1) ∧ cs[j * 6 + 1]? = some (.slice A1 n1 c1) ∧ cs[j * 6 + 2]? = some (.bool s2) ∧ cs[j * 6 + 3]? = some (.slice A2 n2 c2) ∧ cs[j * 6 + 4]? = some (.bool s3) ∧ cs[j * 6 + 5]? = some (.slice A3 n3 c3) ∧ ∀ w', Ext w w' → Calls Tryz.prog 52 #[gv s1 A1 n1 c1 s2 A2 n2 c2 s3 A3 n3 c3] w' fun e w'' => e = .returned (.bool b) ∧ Ext w' w'') :
    Calls Tryz.prog 84 #[.slice (some ⟨gs, 0, none⟩) L L] w fun e w' => e = .returned (.bool (Bs.all id)) ∧ Ext w w' := by
  have HL := Lib.hid hL; have HZ := Lib.hid hz; clear hL hz
  go_enter Tryz.func84, Tryz.ntmps84
  go_wp2_with fail
  go_loopw [7] (fun i wr => ∃ k : Nat, k ≤ L ∧ i = .int .i64 (k : Int) ∧ (Bs.take k).all id = true ∧ Ext w wr) (fun i _ => L - (intOf i).toNat)
  case atStart => exact ⟨0, by omega, rfl, by simp, Ext.refl w⟩
  case round =>
    obtain ⟨k, hk, rfl, ht, hex⟩ := hrel
    have HT := Lib.hid ht; clear ht
    by_cases hkL : k < L
    · have hq := List.getElem?_eq_getElem (l := Bs) (i := k) (by rw [HL.out]; exact hkL)
      obtain ⟨b, hz⟩ : ∃ b, Bs[k]? = some b := ⟨_, hq⟩
      clear hq
      obtain ⟨s1, A1, n1, c1, s2, A2, n2, c2, s3, A3, n3, c3, r0, r1, r2, r3, r4, r5, hV⟩ := HZ.out k b hz
      have hcell := (hb.ext hex).cell
      have hk0 := (hcell (k * 6)).trans r0
      have hk1 := (hcell (k * 6 + 1)).trans r1
      have hk2 := (hcell (k * 6 + 2)).trans r2
      have hk3 := (hcell (k * 6 + 3)).trans r3
      have hk4 := (hcell (k * 6 + 4)).trans r4
      have hk5 := (hcell (k * 6 + 5)).trans r5
      clear hcell r0 r1 r2 r3 r4 r5
      have HQ := Lib.hid hz; clear hz
      have HV := Lib.hid hV; clear hV
      have e1 : ((k : Int) * 6).toNat = k * 6 := by omega
      have b0 := Blk.new wr 32 #[.bool false, .slice none 0 0, .bool false, .slice none 0 0, .bool false, .slice none 0 0]
      have k1 := b0.cell
      have k2 := b0.frozen
      have b1 := Blk.new wr 32 #[.bool s1, .slice A1 n1 c1, .bool s2, .slice A2 n2 c2, .bool s3, .slice A3 n3 c3]
      have k3 := b1.cell
      clear b0 b1
      go_wp2_with fail
      clear k1 k2 k3 hk0 hk1 hk2 hk3 hk4 hk5
      refine (HV.out _ (hex.alloc _)).mono ?_
      rintro e w2 ⟨rfl, hx2⟩
      have hex2 := (hex.alloc _).trans hx2
      clear hx2
      cases b
      · go_wp2
        go_ret
        refine ⟨ret_bool ?_, hex2⟩
        symm
        rw [Bool.eq_false_iff]
        intro h
        have := List.all_eq_true.1 h false (List.mem_of_getElem? HQ.out)
        simp at this
      · go_wp2
        go_roundw
        case rel =>
          refine ⟨k + 1, by omega, by go_num, ?_, hex2⟩
          rw [List.take_add_one, HQ.out, List.all_append, HT.out]
          rfl
        case measure => simp [intOf] <;> omega
    · obtain rfl : k = L := by omega
      go_wp2
      go_ret
      refine ⟨ret_bool ?_, hex⟩
      rw [← HT.out, List.take_of_length_le (by rw [HL.out]; exact Nat.le_refl _)]
end Go.Proofs.YtclkkoiaaddllaaGreat

/- Valid numbers, as numbers. -/
namespace Go.Proofs.YtclkkoiaaddllaaGreat
open Go.RowKit
set_option linter.unusedVariables false

theorem lim1' : (1 : Int).natAbs < lim := lt_lim64 (by omega) (by omega)
theorem eValid_gv (v : Value) (q : GQ) (n : Nat) (w : World) (hX : GV w v q n) (hn : n ≤ 12800) :
    Calls Tryz.prog 52 #[v] w fun e w' => e = .returned (.bool true) ∧ Ext w w' := by
  obtain ⟨a, b, d, h1, h2, h3⟩ := hX
  obtain ⟨l1, l2, l3⟩ := h3.lims hn
  have e : ((gcdL [d, a, b] : Nat) : Int) = 1 := by rw [gcdL_g3, h2.low.2]; rfl
  exact eValid_E v a b d w h1 l1 l2 l3 (Lib.hid h2.low.1) 1 (Lib.hid e.symm) lim1' (Lib.hid rfl)
theorem xvalid2_ok (gs : Nat) (q0 q1 : GQ) (m0 m1 : Nat) (w : World) {s00 : Bool} {A00 : Option Addr} {n00 c00 : Nat} {s01 : Bool} {A01 : Option Addr} {n01 c01 : Nat} {s02 : Bool} {A02 : Option Addr} {n02 c02 : Nat} {s10 : Bool} {A10 : Option Addr} {n10 c10 : Nat} {s11 : Bool} {A11 : Option Addr} {n11 c11 : Nat} {s12 : Bool} {A12 : Option Addr} {n12 c12 : Nat} (hb : Blk w gs 32 #[.bool s00, .slice A00 n00 c00, .bool s01, .slice A01 n01 c01, .bool s02, .slice A02 n02 c02, .bool s10, .slice A10 n10 c10, .bool s11, .slice A11 n11 c11, .bool s12, .slice A12 n12 c12]) (h0 : GV w (gv s00 A00 n00 c00 s01 A01 n01 c01 s02 A02 n02 c02) q0 m0) (l0 : m0 ≤ 12800) (h1 : GV w (gv s10 A10 n10 c10 s11 A11 n11 c11 s12 A12 n12 c12) q1 m1) (l1 : m1 ≤ 12800) :
    Calls Tryz.prog 84 #[.slice (some ⟨gs, 0, none⟩) 2 2] w fun e w' => e = .returned (.bool true) ∧ Ext w w' := by
  refine xvalid_any gs 2 [true, true] _ w hb rfl (by omega) (fun j b hj => ?_)
  match j, hj with
  | 0, hj => injection hj with hj; subst hj; exact ⟨_, _, _, _, _, _, _, _, _, _, _, _, rfl, rfl, rfl, rfl, rfl, rfl, fun w' hx => eValid_gv _ q0 m0 w' (h0.ext hx) l0⟩
  | 1, hj => injection hj with hj; subst hj; exact ⟨_, _, _, _, _, _, _, _, _, _, _, _, rfl, rfl, rfl, rfl, rfl, rfl, fun w' hx => eValid_gv _ q1 m1 w' (h1.ext hx) l1⟩
end Go.Proofs.YtclkkoiaaddllaaGreat

/- The calculator over numbers. -/
namespace Go.Proofs.YtclkkoiaaddllaaGreat
open Go.RowKit
set_option linter.unusedVariables false

/-- (j x + k y) / m. -/
def GQ.blend (j : Int) (x : GQ) (k : Int) (y : GQ) (m : Int) : GQ := ⟨((j : Rat) * x.re + (k : Rat) * y.re) / (m : Rat), ((j : Rat) * x.im + (k : Rat) * y.im) / (m : Rat)⟩
theorem Is.blend_nf {x y : GQ} {a b d a' b' d' u v t j k m : Int} (hx : Is x a b d) (hy : Is y a' b' d') (hm : m ≠ 0) (h : Is (GQ.blend j x k y m) u v t) : (u, v, t) = nf (j * a * d' + k * a' * d) (j * b * d' + k * b' * d) (d * d' * m) := by
  have h1 := cast_ne hx.dne
  have h2 := cast_ne hy.dne
  have h3 := cast_ne hm
  refine (h.nf_eq (Int.mul_ne_zero (Int.mul_ne_zero hx.dne hy.dne) hm) ?_ ?_).symm
  · show ((j : Rat) * x.re + (k : Rat) * y.re) / (m : Rat) = _
    rw [hx.re, hy.re]; simp only [Rat.intCast_mul, Rat.intCast_add]; grind
  · show ((j : Rat) * x.im + (k : Rat) * y.im) / (m : Rat) = _
    rw [hx.im, hy.im]; simp only [Rat.intCast_mul, Rat.intCast_add]; grind
theorem Bd.blend {x y : GQ} {n1 n2 : Nat} {j k m : Int} (hx : Bd x n1) (hy : Bd y n2) (hm : m ≠ 0) (j1 : -9223372036854775808 ≤ j) (j2 : j ≤ 9223372036854775807) (k1 : -9223372036854775808 ≤ k) (k2 : k ≤ 9223372036854775807) (m1 : -9223372036854775808 ≤ m) (m2 : m ≤ 9223372036854775807) : Bd (GQ.blend j x k y m) (n1 + n2 + 65) := by
  obtain ⟨a, b, d, hx, sx⟩ := hx
  obtain ⟨a', b', d', hy, sy⟩ := hy
  obtain ⟨u, v, t, h⟩ := is_ex (GQ.blend j x k y m)
  have bj := lt64 j1 j2
  have bk := lt64 k1 k2
  have bm := lt64 m1 m2
  have E := hx.blend_nf hy hm h
  refine ⟨u, v, t, h, nf_size' (Int.mul_ne_zero (Int.mul_ne_zero hx.dne hy.dne) hm) E ?_ ?_ ?_⟩
  · exact lt_add (m := n1 + n2 + 64) (lt_up (lt_mul (lt_mul bj sx.a) sy.d) (by omega)) (lt_up (lt_mul (lt_mul bk sy.a) sx.d) (by omega))
  · exact lt_add (m := n1 + n2 + 64) (lt_up (lt_mul (lt_mul bj sx.b) sy.d) (by omega)) (lt_up (lt_mul (lt_mul bk sy.b) sx.d) (by omega))
  · exact lt_up (lt_mul (lt_mul sx.d sy.d) bm) (by omega)
theorem eblend_q (gc : Nat) (v1 v3 : Value) (x y : GQ) (j k m : Int) (n1 n2 : Nat) (w : World) (hc : Calm w gc) (hX : GV w v1 x n1) (hY : GV w v3 y n2) (hn : 2 * max n1 n2 + 65 ≤ 12800) (hm : m ≠ 0)
    (j1 : -9223372036854775808 ≤ j) (j2 : j ≤ 9223372036854775807) (k1 : -9223372036854775808 ≤ k) (k2 : k ≤ 9223372036854775807) (m1 : -9223372036854775808 ≤ m) (m2 : m ≤ 9223372036854775807) :
    Calls Tryz.prog 85 #[.pointer (some ⟨gc, 0, none⟩), v1, .int .i64 j, v3, .int .i64 k, .int .i64 m] w fun e w' => ∃ v, e = .returned v ∧ GV w' v (GQ.blend j x k y m) (n1 + n2 + 65) ∧ Ext w w' := by
  obtain ⟨a, b, d, h1, i1, s1⟩ := hX
  obtain ⟨a', b', d', h2, i2, s2⟩ := hY
  obtain ⟨u, v, t, h⟩ := is_ex (GQ.blend j x k y m)
  have sz := (Bd.blend (m := m) ⟨_, _, _, i1, s1⟩ ⟨_, _, _, i2, s2⟩ hm j1 j2 k1 k2 m1 m2).sz h
  exact (eblend_ok gc v1 v3 a b d j a' b' d' k m u v t (max n1 n2) w hc h1 h2 (s1.mono (by omega)) (s2.mono (by omega)) (by omega) i1.dne i2.dne hm j1 j2 k1 k2 m1 m2 (i1.blend_nf i2 hm h)).mono fun e w' ⟨z, he, hR, hx⟩ => ⟨z, he, ⟨u, v, t, hR, h, sz⟩, hx⟩
theorem eproduct_q (gc : Nat) (v1 v3 : Value) (x y : GQ) (n1 n2 : Nat) (w : World) (hc : Calm w gc) (hX : GV w v1 x n1) (hY : GV w v3 y n2) (hn : 2 * max n1 n2 + 1 ≤ 12800) :
    Calls Tryz.prog 107 #[.pointer (some ⟨gc, 0, none⟩), v1, v3] w fun e w' => ∃ v, e = .returned v ∧ GV w' v (x * y) (n1 + n2 + 1) ∧ Ext w w' := by
  obtain ⟨a, b, d, h1, i1, s1⟩ := hX
  obtain ⟨a', b', d', h2, i2, s2⟩ := hY
  obtain ⟨u, v, t, h⟩ := is_ex (x * y)
  have K := MulOk.of i1 s1 i2 s2 h (by omega)
  exact (eproduct_ok gc v1 v3 a b d a' b' d' u v t (max n1 n2) w hc h1 h2 (s1.mono (by omega)) (s2.mono (by omega)) (by omega) i1.dne i2.dne K.E).mono fun e w' ⟨z, he, hR, hx⟩ => ⟨z, he, ⟨u, v, t, hR, h, K.size⟩, hx⟩
theorem Is.div_nf {x y : GQ} {a b d a' b' d' u v t : Int} (hx : Is x a b d) (hy : Is y a' b' d') (h0 : a' ≠ 0 ∨ b' ≠ 0) (h : Is (x / y) u v t) : (u, v, t) = nf ((a * a' + b * b') * d') ((b * a' - a * b') * d') (d * (a' * a' + b' * b')) := by
  have h1 := cast_ne hx.dne
  have h2 := cast_ne hy.dne
  have h3 := cast_ne (norm_ne h0)
  simp only [Rat.intCast_mul, Rat.intCast_add] at h3
  refine (h.nf_eq (Int.mul_ne_zero hx.dne (norm_ne h0)) ?_ ?_).symm
  · rw [GQ.div_re, GQ.nrm, hx.re, hy.re, hx.im, hy.im]; simp only [Rat.intCast_mul, Rat.intCast_add]; grind
  · rw [GQ.div_im, GQ.nrm, hx.re, hy.re, hx.im, hy.im]; simp only [Rat.intCast_mul, Rat.intCast_add, Rat.intCast_sub]; grind
theorem Is.ne0 {y : GQ} {a b d : Int} (h : Is y a b d) (hy : y ≠ GQ.i 0 0) : a ≠ 0 ∨ b ≠ 0 := by
  by_cases ha : a = 0
  · by_cases hb : b = 0
    · exfalso
      apply hy
      ext
      · rw [h.re, ha]; simp only [GQ.i_re]; grind
      · rw [h.im, hb]; simp only [GQ.i_im]; grind
    · exact .inr hb
  · exact .inl ha
theorem equotient_q (gc : Nat) (v1 v3 : Value) (x y : GQ) (n1 n2 : Nat) (w : World) (hc : Calm w gc) (hX : GV w v1 x n1) (hY : GV w v3 y n2) (hn : 4 * max n1 n2 + 3 ≤ 12800) (hy : y ≠ GQ.i 0 0) :
    Calls Tryz.prog 140 #[.pointer (some ⟨gc, 0, none⟩), v1, v3] w fun e w' => ∃ v, e = .returned v ∧ GV w' v (x / y) (n1 + (n2 + n2 + 1)) ∧ Ext w w' := by
  obtain ⟨a, b, d, h1, i1, s1⟩ := hX
  obtain ⟨a', b', d', h2, i2, s2⟩ := hY
  obtain ⟨u, v, t, h⟩ := is_ex (x / y)
  have h0 := i2.ne0 hy
  have E := i1.div_nf i2 h0 h
  have k1 := lt_mul (lt_add (lt_mul s1.a s2.a) (lt_mul s1.b s2.b)) s2.d
  have k2 := lt_mul (lt_sub (lt_mul s1.b s2.a) (lt_mul s1.a s2.b)) s2.d
  have k3 := lt_mul s1.d (lt_add (lt_mul s2.a s2.a) (lt_mul s2.b s2.b))
  have sz := nf_size' (n := n1 + (n2 + n2 + 1)) (Int.mul_ne_zero i1.dne (norm_ne h0)) E (lt_up k1 (by omega)) (lt_up k2 (by omega)) k3
  exact (equotient_ok gc v1 v3 a b d a' b' d' u v t (max n1 n2) w hc h1 h2 (s1.mono (by omega)) (s2.mono (by omega)) hn i1.dne i2.dne h0 E).mono fun e w' ⟨z, he, hR, hx⟩ => ⟨z, he, ⟨u, v, t, hR, h, sz⟩, hx⟩
end Go.Proofs.YtclkkoiaaddllaaGreat

/- The program over numbers: sums, products. -/
namespace Go.Proofs.YtclkkoiaaddllaaGreat
open Go.RowKit
set_option linter.unusedVariables false

set_option maxRecDepth 100000 in
set_option maxHeartbeats 800000 in
theorem enumber_w (gc : Nat) (v1 : Value) (x1a x1b x1d : Int) (w : World) (hc : Calm w gc) (hX1 : RG w v1 x1a x1b x1d)
      :
    Calls Tryz.prog 62 #[.pointer (some ⟨gc, 0, none⟩), v1] w fun e w' => ∃ v, e = .returned v ∧ (∃ u, v = .tuple #[u, .int .i64 0] ∧ RG w' u x1a x1b x1d) ∧ Ext w w' := by
  have hS := St.start w
  obtain ⟨sx1a, Ax1a, nx1a, cx1a, sx1b, Ax1b, nx1b, cx1b, sx1d, Ax1d, nx1d, cx1d, rfl, hx1a, hx1b, hx1d⟩ := hX1
  replace hS := hS.addI hx1a
  clear hx1a
  replace hS := hS.addI hx1b
  clear hx1b
  replace hS := hS.addI hx1d
  clear hx1d
  replace hS := hS.addB hc trivial
  clear hc
  have o3 : Own w w.heap.size := Own.of hS.ext (by simp)
  have o4 : Own w (w.heap.size + 1) := Own.of hS.ext (by simp)
  have hT1 := (St.al (St.al hS 32 #[.bool sx1a, .slice Ax1a nx1a cx1a, .bool sx1b, .slice Ax1b nx1b cx1b, .bool sx1d, .slice Ax1d nx1d cx1d] (g := w.heap.size) (by simp)) 32 #[.bool false, .slice none 0 0, .bool false, .slice none 0 0, .bool false, .slice none 0 0] (g := (w.heap.size + 1)) (by simp))
  have k_1 := (hT1.blk 2 rfl).cell
  have k_2 := (hT1.blk 1 rfl).cell
  have k_3 := (hT1.blk 0 rfl).cell
  have k_4 := (hT1.blk 0 rfl).frozen
  go_enter Tryz.func62, Tryz.ntmps62
  go_wp2
  replace hS := (St.al (St.al hS 32 #[.bool sx1a, .slice Ax1a nx1a cx1a, .bool sx1b, .slice Ax1b nx1b cx1b, .bool sx1d, .slice Ax1d nx1d cx1d] (g := w.heap.size) (by simp)) 32 #[.bool sx1a, .slice Ax1a nx1a cx1a, .bool sx1b, .slice Ax1b nx1b cx1b, .bool sx1d, .slice Ax1d nx1d cx1d] (g := (w.heap.size + 1)) (by simp))
  exact bp_gauss2 rfl rfl rfl (hS.blk 0 rfl) ⟨_, rfl, ⟨_, rfl, RG.mk (hS.num 2 rfl) (hS.num 1 rfl) (hS.num 0 rfl)⟩, hS.ext⟩

set_option maxRecDepth 100000 in
set_option maxHeartbeats 3200000 in
theorem xAdd_w (v0 : Value) (q0 : GQ) (n0 : Nat) (v1 : Value) (q1 : GQ) (n1 : Nat) (w : World) (hX0 : GV w v0 q0 n0) (hX1 : GV w v1 q1 n1)
     (hn : 2 * max n0 n1 + 65 ≤ 12800) :
    Calls Tryz.prog 71 #[v0, v1] w fun e w' => ∃ v, e = .returned v ∧ (∃ u, v = .tuple #[u, .int .i64 0] ∧ GV w' u (GQ.blend 1 q0 1 q1 1) (n0 + n1 + 65)) ∧ Ext w w' := by
  have hS := St.start w
  obtain ⟨x0a, x0b, x0d, hX0, I0, S0⟩ := hX0
  obtain ⟨a0, a1, a2, a3, a4, a5, a6, a7, a8, a9, aa, ab, rfl, aJ, aK, aL⟩ := hX0
  replace hS := hS.addI aJ
  clear aJ
  replace hS := hS.addI aK
  clear aK
  replace hS := hS.addI aL
  clear aL
  obtain ⟨x1a, x1b, x1d, hX1, I1, S1⟩ := hX1
  obtain ⟨ac, ad, ae, af, ag, ah, ai, aj, ak, am, an, ao, rfl, aM, aN, aO⟩ := hX1
  replace hS := hS.addI aM
  clear aM
  replace hS := hS.addI aN
  clear aN
  replace hS := hS.addI aO
  clear aO
  have o2 : Own w w.heap.size := Own.of hS.ext (by simp)
  have o3 : Own w (w.heap.size + 1) := Own.of hS.ext (by simp)
  have o4 : Own w (w.heap.size + 2) := Own.of hS.ext (by simp)
  have aS := (St.al (St.al (St.al hS 32 #[.bool a0, .slice a1 a2 a3, .bool a4, .slice a5 a6 a7, .bool a8, .slice a9 aa ab] (g := w.heap.size) (by simp)) 32 #[.bool ac, .slice ad ae af, .bool ag, .slice ah ai aj, .bool ak, .slice am an ao] (g := (w.heap.size + 1)) (by simp)) 32 #[.bool false, .slice none 0 0, .bool false, .slice none 0 0, .bool false, .slice none 0 0] (g := (w.heap.size + 2)) (by simp))
  have k_1 := (aS.blk 2 rfl).cell
  have k_2 := (aS.blk 1 rfl).cell
  have o9 : Own w (w.heap.size + 3) := Own.of hS.ext (by simp)
  go_enter Tryz.func71, Tryz.ntmps71
  go_wp2_with fail
  clear k_1 k_2
  clear aS
  replace hS := (St.al (St.al (St.al (St.al hS 32 #[.bool a0, .slice a1 a2 a3, .bool a4, .slice a5 a6 a7, .bool a8, .slice a9 aa ab] (g := w.heap.size) (by simp)) 32 #[.bool ac, .slice ad ae af, .bool ag, .slice ah ai aj, .bool ak, .slice am an ao] (g := (w.heap.size + 1)) (by simp)) 32 #[.bool false, .slice none 0 0, .bool false, .slice none 0 0, .bool false, .slice none 0 0] (g := (w.heap.size + 2)) (by simp)) 32 #[.bool a0, .slice a1 a2 a3, .bool a4, .slice a5 a6 a7, .bool a8, .slice a9 aa ab, .bool ac, .slice ad ae af, .bool ag, .slice ah ai aj, .bool ak, .slice am an ao] (g := (w.heap.size + 3)) (by simp))
  generalize ((((w.alloc (.cells #[.bool a0, .slice a1 a2 a3, .bool a4, .slice a5 a6 a7, .bool a8, .slice a9 aa ab] 32)).alloc (.cells #[.bool ac, .slice ad ae af, .bool ag, .slice ah ai aj, .bool ak, .slice am an ao] 32)).alloc (.cells #[.bool false, .slice none 0 0, .bool false, .slice none 0 0, .bool false, .slice none 0 0] 32)).alloc (.cells #[.bool a0, .slice a1 a2 a3, .bool a4, .slice a5 a6 a7, .bool a8, .slice a9 aa ab, .bool ac, .slice ad ae af, .bool ag, .slice ah ai aj, .bool ak, .slice am an ao] 32)) = w1 at hS ⊢
  generalize w.heap.size + 3 = g9 at hS o9 ⊢
  generalize w.heap.size + 2 = g4 at hS o4 ⊢
  generalize w.heap.size + 1 = g3 at hS o3 ⊢
  generalize w.heap.size = g2 at hS o2 ⊢
  refine (xvalid2_ok g9 q0 q1 n0 n1 _ (hS.blk 0 rfl) ⟨_, _, _, RG.mk (hS.num 5 rfl) (hS.num 4 rfl) (hS.num 3 rfl), I0, S0⟩ (by omega) ⟨_, _, _, RG.mk (hS.num 2 rfl) (hS.num 1 rfl) (hS.num 0 rfl), I1, S1⟩ (by omega)).mono ?_
  rintro e w2 ⟨rfl, hx_⟩
  replace hS := hS.mv hx_
  clear hx_
  have o6 : Own w w2.heap.size := Own.of hS.ext (by simp)
  have aT := (St.al hS 105 #[.int .i64 0] (g := w2.heap.size) (by simp))
  have k_3 := (aT.blk 4 rfl).cell
  have k_4 := (aT.blk 3 rfl).cell
  go_wp2_with fail
  clear k_3 k_4
  clear aT
  replace hS := (St.al hS 105 #[.int .i64 0] (g := w2.heap.size) (by simp))
  generalize (w2.alloc (.cells #[.int .i64 0] 105)) = w3 at hS ⊢
  generalize w2.heap.size = g6 at hS o6 ⊢
  obtain ⟨aP, aQ, aR, aU⟩ := is_ex (GQ.blend (1) q0 (1) q1 (1))
  have S15 : Sz (n0 + n1 + 65) aP aQ aR := (Bd.blend (m := 1) ⟨_, _, _, I0, S0⟩ ⟨_, _, _, I1, S1⟩ (by omega) (by omega) (by omega) (by omega) (by omega) (by omega) (by omega)).sz aU
  refine (toRG (eblend_q g6 _ _ q0 q1 (1) (1) (1) _ _ _ (hS.blk 0 rfl) ⟨_, _, _, RG.mk (hS.num 5 rfl) (hS.num 4 rfl) (hS.num 3 rfl), I0, S0⟩ ⟨_, _, _, RG.mk (hS.num 2 rfl) (hS.num 1 rfl) (hS.num 0 rfl), I1, S1⟩ (by omega) (by omega) (by omega) (by omega) (by omega) (by omega) (by omega) (by omega)) aU).mono ?_
  rintro e w4 ⟨v_, rfl, hv_, hx_⟩
  replace hS := hS.mv hx_
  clear hx_
  obtain ⟨s15a, aV, n15a, c15a, s15b, aW, n15b, c15b, s15d, aX, n15d, c15d, rfl, ap, aq, ar⟩ := hv_
  replace hS := hS.addI ap
  clear ap
  replace hS := hS.addI aq
  clear aq
  replace hS := hS.addI ar
  clear ar
  go_wp2_with fail
  refine (enumber_w g6 _ aP aQ aR _ (hS.blk 0 rfl) (RG.mk (hS.num 2 rfl) (hS.num 1 rfl) (hS.num 0 rfl))).mono ?_
  rintro e w5 ⟨v_, rfl, hv_, hx_⟩
  replace hS := hS.mv hx_
  clear hx_
  obtain ⟨_, rfl, aA, au, aB, aC, aD, av, aE, aF, aG, aw, aH, aI, rfl, ax, ay, az⟩ := hv_
  replace hS := hS.addI ax
  clear ax
  replace hS := hS.addI ay
  clear ay
  replace hS := hS.addI az
  clear az
  have k_5 := (hS.blk 2 rfl).cell
  have k_6 := (hS.blk 2 rfl).frozen
  go_wp2
  replace hS := (St.put (W' := ((((((w5.setCell ⟨g4, 0, none⟩ (.bool aA)).setCell ⟨g4, 1, none⟩ (.slice au aB aC)).setCell ⟨g4, 2, none⟩ (.bool aD)).setCell ⟨g4, 3, none⟩ (.slice av aE aF)).setCell ⟨g4, 4, none⟩ (.bool aG)).setCell ⟨g4, 5, none⟩ (.slice aw aH aI))) hS 2 0 [.bool aA, .slice au aB aC, .bool aD, .slice av aE aF, .bool aG, .slice aw aH aI] (cs' := #[.bool aA, .slice au aB aC, .bool aD, .slice av aE aF, .bool aG, .slice aw aH aI]) (bs' := _) rfl o4 rfl rfl (by kernel_rfl) rfl)
  exact bp_gauss2 rfl rfl rfl (hS.blk 2 rfl) ⟨_, rfl, ⟨_, rfl, ⟨_, _, _, RG.mk (hS.num 2 rfl) (hS.num 1 rfl) (hS.num 0 rfl), aU, S15⟩⟩, hS.ext⟩

set_option maxRecDepth 100000 in
set_option maxHeartbeats 3200000 in
theorem xSub_w (v0 : Value) (q0 : GQ) (n0 : Nat) (v1 : Value) (q1 : GQ) (n1 : Nat) (w : World) (hX0 : GV w v0 q0 n0) (hX1 : GV w v1 q1 n1)
     (hn : 2 * max n0 n1 + 65 ≤ 12800) :
    Calls Tryz.prog 66 #[v0, v1] w fun e w' => ∃ v, e = .returned v ∧ (∃ u, v = .tuple #[u, .int .i64 0] ∧ GV w' u (GQ.blend 1 q0 (-1) q1 1) (n0 + n1 + 65)) ∧ Ext w w' := by
  have hS := St.start w
  obtain ⟨x0a, x0b, x0d, hX0, I0, S0⟩ := hX0
  obtain ⟨a0, a1, a2, a3, a4, a5, a6, a7, a8, a9, aa, ab, rfl, aJ, aK, aL⟩ := hX0
  replace hS := hS.addI aJ
  clear aJ
  replace hS := hS.addI aK
  clear aK
  replace hS := hS.addI aL
  clear aL
  obtain ⟨x1a, x1b, x1d, hX1, I1, S1⟩ := hX1
  obtain ⟨ac, ad, ae, af, ag, ah, ai, aj, ak, am, an, ao, rfl, aM, aN, aO⟩ := hX1
  replace hS := hS.addI aM
  clear aM
  replace hS := hS.addI aN
  clear aN
  replace hS := hS.addI aO
  clear aO
  have o2 : Own w w.heap.size := Own.of hS.ext (by simp)
  have o3 : Own w (w.heap.size + 1) := Own.of hS.ext (by simp)
  have o4 : Own w (w.heap.size + 2) := Own.of hS.ext (by simp)
  have aS := (St.al (St.al (St.al hS 32 #[.bool a0, .slice a1 a2 a3, .bool a4, .slice a5 a6 a7, .bool a8, .slice a9 aa ab] (g := w.heap.size) (by simp)) 32 #[.bool ac, .slice ad ae af, .bool ag, .slice ah ai aj, .bool ak, .slice am an ao] (g := (w.heap.size + 1)) (by simp)) 32 #[.bool false, .slice none 0 0, .bool false, .slice none 0 0, .bool false, .slice none 0 0] (g := (w.heap.size + 2)) (by simp))
  have k_1 := (aS.blk 2 rfl).cell
  have k_2 := (aS.blk 1 rfl).cell
  have o9 : Own w (w.heap.size + 3) := Own.of hS.ext (by simp)
  go_enter Tryz.func66, Tryz.ntmps66
  go_wp2_with fail
  clear k_1 k_2
  clear aS
  replace hS := (St.al (St.al (St.al (St.al hS 32 #[.bool a0, .slice a1 a2 a3, .bool a4, .slice a5 a6 a7, .bool a8, .slice a9 aa ab] (g := w.heap.size) (by simp)) 32 #[.bool ac, .slice ad ae af, .bool ag, .slice ah ai aj, .bool ak, .slice am an ao] (g := (w.heap.size + 1)) (by simp)) 32 #[.bool false, .slice none 0 0, .bool false, .slice none 0 0, .bool false, .slice none 0 0] (g := (w.heap.size + 2)) (by simp)) 32 #[.bool a0, .slice a1 a2 a3, .bool a4, .slice a5 a6 a7, .bool a8, .slice a9 aa ab, .bool ac, .slice ad ae af, .bool ag, .slice ah ai aj, .bool ak, .slice am an ao] (g := (w.heap.size + 3)) (by simp))
  generalize ((((w.alloc (.cells #[.bool a0, .slice a1 a2 a3, .bool a4, .slice a5 a6 a7, .bool a8, .slice a9 aa ab] 32)).alloc (.cells #[.bool ac, .slice ad ae af, .bool ag, .slice ah ai aj, .bool ak, .slice am an ao] 32)).alloc (.cells #[.bool false, .slice none 0 0, .bool false, .slice none 0 0, .bool false, .slice none 0 0] 32)).alloc (.cells #[.bool a0, .slice a1 a2 a3, .bool a4, .slice a5 a6 a7, .bool a8, .slice a9 aa ab, .bool ac, .slice ad ae af, .bool ag, .slice ah ai aj, .bool ak, .slice am an ao] 32)) = w1 at hS ⊢
  generalize w.heap.size + 3 = g9 at hS o9 ⊢
  generalize w.heap.size + 2 = g4 at hS o4 ⊢
  generalize w.heap.size + 1 = g3 at hS o3 ⊢
  generalize w.heap.size = g2 at hS o2 ⊢
  refine (xvalid2_ok g9 q0 q1 n0 n1 _ (hS.blk 0 rfl) ⟨_, _, _, RG.mk (hS.num 5 rfl) (hS.num 4 rfl) (hS.num 3 rfl), I0, S0⟩ (by omega) ⟨_, _, _, RG.mk (hS.num 2 rfl) (hS.num 1 rfl) (hS.num 0 rfl), I1, S1⟩ (by omega)).mono ?_
  rintro e w2 ⟨rfl, hx_⟩
  replace hS := hS.mv hx_
  clear hx_
  have o6 : Own w w2.heap.size := Own.of hS.ext (by simp)
  have aT := (St.al hS 105 #[.int .i64 0] (g := w2.heap.size) (by simp))
  have k_3 := (aT.blk 4 rfl).cell
  have k_4 := (aT.blk 3 rfl).cell
  go_wp2_with fail
  clear k_3 k_4
  clear aT
  replace hS := (St.al hS 105 #[.int .i64 0] (g := w2.heap.size) (by simp))
  generalize (w2.alloc (.cells #[.int .i64 0] 105)) = w3 at hS ⊢
  generalize w2.heap.size = g6 at hS o6 ⊢
  obtain ⟨aP, aQ, aR, aU⟩ := is_ex (GQ.blend (1) q0 (-1) q1 (1))
  have S15 : Sz (n0 + n1 + 65) aP aQ aR := (Bd.blend (m := 1) ⟨_, _, _, I0, S0⟩ ⟨_, _, _, I1, S1⟩ (by omega) (by omega) (by omega) (by omega) (by omega) (by omega) (by omega)).sz aU
  refine (toRG (eblend_q g6 _ _ q0 q1 (1) (-1) (1) _ _ _ (hS.blk 0 rfl) ⟨_, _, _, RG.mk (hS.num 5 rfl) (hS.num 4 rfl) (hS.num 3 rfl), I0, S0⟩ ⟨_, _, _, RG.mk (hS.num 2 rfl) (hS.num 1 rfl) (hS.num 0 rfl), I1, S1⟩ (by omega) (by omega) (by omega) (by omega) (by omega) (by omega) (by omega) (by omega)) aU).mono ?_
  rintro e w4 ⟨v_, rfl, hv_, hx_⟩
  replace hS := hS.mv hx_
  clear hx_
  obtain ⟨s15a, aV, n15a, c15a, s15b, aW, n15b, c15b, s15d, aX, n15d, c15d, rfl, ap, aq, ar⟩ := hv_
  replace hS := hS.addI ap
  clear ap
  replace hS := hS.addI aq
  clear aq
  replace hS := hS.addI ar
  clear ar
  go_wp2_with fail
  refine (enumber_w g6 _ aP aQ aR _ (hS.blk 0 rfl) (RG.mk (hS.num 2 rfl) (hS.num 1 rfl) (hS.num 0 rfl))).mono ?_
  rintro e w5 ⟨v_, rfl, hv_, hx_⟩
  replace hS := hS.mv hx_
  clear hx_
  obtain ⟨_, rfl, aA, au, aB, aC, aD, av, aE, aF, aG, aw, aH, aI, rfl, ax, ay, az⟩ := hv_
  replace hS := hS.addI ax
  clear ax
  replace hS := hS.addI ay
  clear ay
  replace hS := hS.addI az
  clear az
  have k_5 := (hS.blk 2 rfl).cell
  have k_6 := (hS.blk 2 rfl).frozen
  go_wp2
  replace hS := (St.put (W' := ((((((w5.setCell ⟨g4, 0, none⟩ (.bool aA)).setCell ⟨g4, 1, none⟩ (.slice au aB aC)).setCell ⟨g4, 2, none⟩ (.bool aD)).setCell ⟨g4, 3, none⟩ (.slice av aE aF)).setCell ⟨g4, 4, none⟩ (.bool aG)).setCell ⟨g4, 5, none⟩ (.slice aw aH aI))) hS 2 0 [.bool aA, .slice au aB aC, .bool aD, .slice av aE aF, .bool aG, .slice aw aH aI] (cs' := #[.bool aA, .slice au aB aC, .bool aD, .slice av aE aF, .bool aG, .slice aw aH aI]) (bs' := _) rfl o4 rfl rfl (by kernel_rfl) rfl)
  exact bp_gauss2 rfl rfl rfl (hS.blk 2 rfl) ⟨_, rfl, ⟨_, rfl, ⟨_, _, _, RG.mk (hS.num 2 rfl) (hS.num 1 rfl) (hS.num 0 rfl), aU, S15⟩⟩, hS.ext⟩

set_option maxRecDepth 100000 in
set_option maxHeartbeats 3200000 in
theorem xMul_w (v0 : Value) (q0 : GQ) (n0 : Nat) (v1 : Value) (q1 : GQ) (n1 : Nat) (w : World) (hX0 : GV w v0 q0 n0) (hX1 : GV w v1 q1 n1)
     (hn : 2 * max n0 n1 + 1 ≤ 12800) :
    Calls Tryz.prog 65 #[v0, v1] w fun e w' => ∃ v, e = .returned v ∧ (∃ u, v = .tuple #[u, .int .i64 0] ∧ GV w' u (q0 * q1) (n0 + n1 + 1)) ∧ Ext w w' := by
  have hS := St.start w
  obtain ⟨x0a, x0b, x0d, hX0, I0, S0⟩ := hX0
  obtain ⟨a0, a1, a2, a3, a4, a5, a6, a7, a8, a9, aa, ab, rfl, aJ, aK, aL⟩ := hX0
  replace hS := hS.addI aJ
  clear aJ
  replace hS := hS.addI aK
  clear aK
  replace hS := hS.addI aL
  clear aL
  obtain ⟨x1a, x1b, x1d, hX1, I1, S1⟩ := hX1
  obtain ⟨ac, ad, ae, af, ag, ah, ai, aj, ak, am, an, ao, rfl, aM, aN, aO⟩ := hX1
  replace hS := hS.addI aM
  clear aM
  replace hS := hS.addI aN
  clear aN
  replace hS := hS.addI aO
  clear aO
  have o2 : Own w w.heap.size := Own.of hS.ext (by simp)
  have o3 : Own w (w.heap.size + 1) := Own.of hS.ext (by simp)
  have o4 : Own w (w.heap.size + 2) := Own.of hS.ext (by simp)
  have aS := (St.al (St.al (St.al hS 32 #[.bool a0, .slice a1 a2 a3, .bool a4, .slice a5 a6 a7, .bool a8, .slice a9 aa ab] (g := w.heap.size) (by simp)) 32 #[.bool ac, .slice ad ae af, .bool ag, .slice ah ai aj, .bool ak, .slice am an ao] (g := (w.heap.size + 1)) (by simp)) 32 #[.bool false, .slice none 0 0, .bool false, .slice none 0 0, .bool false, .slice none 0 0] (g := (w.heap.size + 2)) (by simp))
  have k_1 := (aS.blk 2 rfl).cell
  have k_2 := (aS.blk 1 rfl).cell
  have o9 : Own w (w.heap.size + 3) := Own.of hS.ext (by simp)
  go_enter Tryz.func65, Tryz.ntmps65
  go_wp2_with fail
  clear k_1 k_2
  clear aS
  replace hS := (St.al (St.al (St.al (St.al hS 32 #[.bool a0, .slice a1 a2 a3, .bool a4, .slice a5 a6 a7, .bool a8, .slice a9 aa ab] (g := w.heap.size) (by simp)) 32 #[.bool ac, .slice ad ae af, .bool ag, .slice ah ai aj, .bool ak, .slice am an ao] (g := (w.heap.size + 1)) (by simp)) 32 #[.bool false, .slice none 0 0, .bool false, .slice none 0 0, .bool false, .slice none 0 0] (g := (w.heap.size + 2)) (by simp)) 32 #[.bool a0, .slice a1 a2 a3, .bool a4, .slice a5 a6 a7, .bool a8, .slice a9 aa ab, .bool ac, .slice ad ae af, .bool ag, .slice ah ai aj, .bool ak, .slice am an ao] (g := (w.heap.size + 3)) (by simp))
  generalize ((((w.alloc (.cells #[.bool a0, .slice a1 a2 a3, .bool a4, .slice a5 a6 a7, .bool a8, .slice a9 aa ab] 32)).alloc (.cells #[.bool ac, .slice ad ae af, .bool ag, .slice ah ai aj, .bool ak, .slice am an ao] 32)).alloc (.cells #[.bool false, .slice none 0 0, .bool false, .slice none 0 0, .bool false, .slice none 0 0] 32)).alloc (.cells #[.bool a0, .slice a1 a2 a3, .bool a4, .slice a5 a6 a7, .bool a8, .slice a9 aa ab, .bool ac, .slice ad ae af, .bool ag, .slice ah ai aj, .bool ak, .slice am an ao] 32)) = w1 at hS ⊢
  generalize w.heap.size + 3 = g9 at hS o9 ⊢
  generalize w.heap.size + 2 = g4 at hS o4 ⊢
  generalize w.heap.size + 1 = g3 at hS o3 ⊢
  generalize w.heap.size = g2 at hS o2 ⊢
  refine (xvalid2_ok g9 q0 q1 n0 n1 _ (hS.blk 0 rfl) ⟨_, _, _, RG.mk (hS.num 5 rfl) (hS.num 4 rfl) (hS.num 3 rfl), I0, S0⟩ (by omega) ⟨_, _, _, RG.mk (hS.num 2 rfl) (hS.num 1 rfl) (hS.num 0 rfl), I1, S1⟩ (by omega)).mono ?_
  rintro e w2 ⟨rfl, hx_⟩
  replace hS := hS.mv hx_
  clear hx_
  have o6 : Own w w2.heap.size := Own.of hS.ext (by simp)
  have aT := (St.al hS 105 #[.int .i64 0] (g := w2.heap.size) (by simp))
  have k_3 := (aT.blk 4 rfl).cell
  have k_4 := (aT.blk 3 rfl).cell
  go_wp2_with fail
  clear k_3 k_4
  clear aT
  replace hS := (St.al hS 105 #[.int .i64 0] (g := w2.heap.size) (by simp))
  generalize (w2.alloc (.cells #[.int .i64 0] 105)) = w3 at hS ⊢
  generalize w2.heap.size = g6 at hS o6 ⊢
  obtain ⟨aP, aQ, aR, aU⟩ := is_ex (q0 * q1)
  have S15 : Sz (n0 + n1 + 1) aP aQ aR := (Bd.mul ⟨_, _, _, I0, S0⟩ ⟨_, _, _, I1, S1⟩).sz aU
  refine (toRG (eproduct_q g6 _ _ q0 q1 _ _ _ (hS.blk 0 rfl) ⟨_, _, _, RG.mk (hS.num 5 rfl) (hS.num 4 rfl) (hS.num 3 rfl), I0, S0⟩ ⟨_, _, _, RG.mk (hS.num 2 rfl) (hS.num 1 rfl) (hS.num 0 rfl), I1, S1⟩ (by omega)) aU).mono ?_
  rintro e w4 ⟨v_, rfl, hv_, hx_⟩
  replace hS := hS.mv hx_
  clear hx_
  obtain ⟨s15a, aV, n15a, c15a, s15b, aW, n15b, c15b, s15d, aX, n15d, c15d, rfl, ap, aq, ar⟩ := hv_
  replace hS := hS.addI ap
  clear ap
  replace hS := hS.addI aq
  clear aq
  replace hS := hS.addI ar
  clear ar
  go_wp2_with fail
  refine (enumber_w g6 _ aP aQ aR _ (hS.blk 0 rfl) (RG.mk (hS.num 2 rfl) (hS.num 1 rfl) (hS.num 0 rfl))).mono ?_
  rintro e w5 ⟨v_, rfl, hv_, hx_⟩
  replace hS := hS.mv hx_
  clear hx_
  obtain ⟨_, rfl, aA, au, aB, aC, aD, av, aE, aF, aG, aw, aH, aI, rfl, ax, ay, az⟩ := hv_
  replace hS := hS.addI ax
  clear ax
  replace hS := hS.addI ay
  clear ay
  replace hS := hS.addI az
  clear az
  have k_5 := (hS.blk 2 rfl).cell
  have k_6 := (hS.blk 2 rfl).frozen
  go_wp2
  replace hS := (St.put (W' := ((((((w5.setCell ⟨g4, 0, none⟩ (.bool aA)).setCell ⟨g4, 1, none⟩ (.slice au aB aC)).setCell ⟨g4, 2, none⟩ (.bool aD)).setCell ⟨g4, 3, none⟩ (.slice av aE aF)).setCell ⟨g4, 4, none⟩ (.bool aG)).setCell ⟨g4, 5, none⟩ (.slice aw aH aI))) hS 2 0 [.bool aA, .slice au aB aC, .bool aD, .slice av aE aF, .bool aG, .slice aw aH aI] (cs' := #[.bool aA, .slice au aB aC, .bool aD, .slice av aE aF, .bool aG, .slice aw aH aI]) (bs' := _) rfl o4 rfl rfl (by kernel_rfl) rfl)
  exact bp_gauss2 rfl rfl rfl (hS.blk 2 rfl) ⟨_, rfl, ⟨_, rfl, ⟨_, _, _, RG.mk (hS.num 2 rfl) (hS.num 1 rfl) (hS.num 0 rfl), aU, S15⟩⟩, hS.ext⟩

end Go.Proofs.YtclkkoiaaddllaaGreat
