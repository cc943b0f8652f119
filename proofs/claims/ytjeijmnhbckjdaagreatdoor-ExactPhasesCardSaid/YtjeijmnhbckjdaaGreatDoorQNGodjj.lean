/- Words and contracts that the laws share, several texts in one. -/
import Derived.Test.YtjeijmnhbckjdaaGreatDoorQNDdhli
import Derived.Test.YtjeijmnhbckjdaaGreatDoorQNFpjen
/- A row of numbers, all of them valid. -/
namespace Go.Proofs.YtjeijmnhbckjdaaGreatDoor
open Go.RowKit
set_option linter.unusedVariables false

set_option maxRecDepth 100000 in
set_option maxHeartbeats 1600000 in
theorem xvalid_any (gs L : Nat) (Bs : List Bool) (cs : Array Value) (w : World) (hb : Blk w gs 26 cs) (hL : Bs.length = L) (hL2 : L ≤ 100)
    (hz : ∀ j b, Bs[j]? = some b → ∃ s1 A1 n1 c1 s2 A2 n2 c2 s3 A3 n3 c3, cs[j * 6]? = some (.bool s1) ∧ cs[j * 6 + 1]? = some (.slice A1 n1 c1) ∧ cs[j * 6 + 2]? = some (.bool s2) ∧ cs[j * 6 + 3]? = some (.slice A2 n2 c2) ∧ cs[j * 6 + 4]? = some (.bool s3) ∧ cs[j * 6 + 5]? = some (.slice A3 n3 c3) ∧ ∀ w', Ext w w' → Calls Tryz.prog 16 #[gv s1 A1 n1 c1 s2 A2 n2 c2 s3 A3 n3 c3] w' fun e w'' => e = .returned (.bool b) ∧ Ext w' w'') :
    Calls Tryz.prog 62 #[.slice (some ⟨gs, 0, none⟩) L L] w fun e w' => e = .returned (.bool (Bs.all id)) ∧ Ext w w' := by
  have HL := Lib.hid hL; have HZ := Lib.hid hz; clear hL hz
  go_enter Tryz.func62, Tryz.ntmps62
  go_wp2_with fail
  go_loopw [7] (fun i wr => ∃ k : Nat, k ≤ L ∧ i = .int .i64 (k : Int) ∧ (Bs.take k).all id = true ∧ Ext w wr) (fun i _ => L - (intOf i).toNat)
  case atStart => exact ⟨0, by omega, rfl, by simp, Ext.refl w⟩
  case round =>
    obtain ⟨k, hk, rfl, ht, hex⟩ := hrel
    have HT := Lib.hid ht; clear ht
    by_cases hkL : k < L
    · have hq := List.getElem?_eq_getElem (l := Bs) (i := k) (by rw [HL.out]; exact hkL)
      obtain ⟨b, hz⟩ : ∃ b, Bs[k]? = some b := ⟨_, hq⟩
      clear hq
      obtain ⟨s1, A1, n1, c1, s2, A2, n2, c2, s3, A3, n3, c3, r0, r1, r2, r3, r4, r5, hV⟩ := HZ.out k b hz
      have hcell := (hb.ext hex).cell
      have hk0 := (hcell (k * 6)).trans r0
      have hk1 := (hcell (k * 6 + 1)).trans r1
      have hk2 := (hcell (k * 6 + 2)).trans r2
      have hk3 := (hcell (k * 6 + 3)).trans r3
      have hk4 := (hcell (k * 6 + 4)).trans r4
      have hk5 := (hcell (k * 6 + 5)).trans r5
      clear hcell r0 r1 r2 r3 r4 r5
      have HQ := Lib.hid hz; clear hz
      have HV := Lib.hid hV; clear hV
      have e1 : ((k : Int) * 6).toNat = k * 6 := by omega
      have b0 := Blk.new wr 26 #[.bool false, .slice none 0 0, .bool false, .slice none 0 0, .bool false, .slice none 0 0]
      have k1 := b0.cell
      have k2 := b0.frozen
      have b1 := Blk.new wr 26 #[.bool s1, .slice A1 n1 c1, .bool s2, .slice A2 n2 c2, .bool s3, .slice A3 n3 c3]
      have k3 := b1.cell
      clear b0 b1
      go_wp2_with fail
      clear k1 k2 k3 hk0 hk1 hk2 hk3 hk4 hk5
      refine (HV.out _ (hex.alloc _)).mono ?_
      rintro e w2 ⟨rfl, hx2⟩
      have hex2 := (hex.alloc _).trans hx2
      clear hx2
      cases b
      · go_wp2
        go_ret
        refine ⟨ret_bool ?_, hex2⟩
        symm
        rw [Bool.eq_false_iff]
        intro h
        have := List.all_eq_true.1 h false (List.mem_of_getElem? HQ.out)
        simp at this
      · go_wp2
        go_roundw
        case rel =>
          refine ⟨k + 1, by omega, by go_num, ?_, hex2⟩
          rw [List.take_add_one, HQ.out, List.all_append, HT.out]
          rfl
        case measure => simp [intOf] <;> omega
    · obtain rfl : k = L := by omega
      go_wp2
      go_ret
      refine ⟨ret_bool ?_, hex⟩
      rw [← HT.out, List.take_of_length_le (by rw [HL.out]; exact Nat.le_refl _)]
end Go.Proofs.YtjeijmnhbckjdaaGreatDoor

/- Valid numbers, as numbers. -/
namespace Go.Proofs.YtjeijmnhbckjdaaGreatDoor
open Go.RowKit
set_option linter.unusedVariables false

theorem lim1' : (1 : Int).natAbs < lim := lt_lim64 (by omega) (by omega)
theorem eValid_gv (v : Value) (q : GQ) (n : Nat) (w : World) (hX : GV w v q n) (hn : n ≤ 12800) :
    Calls Tryz.prog 16 #[v] w fun e w' => e = .returned (.bool true) ∧ Ext w w' := by
  obtain ⟨a, b, d, h1, h2, h3⟩ := hX
  obtain ⟨l1, l2, l3⟩ := h3.lims hn
  have e : ((gcdL [d, a, b] : Nat) : Int) = 1 := by rw [gcdL_g3, h2.low.2]; rfl
  exact eValid_E v a b d w h1 l1 l2 l3 (Lib.hid h2.low.1) 1 (Lib.hid e.symm) lim1' (Lib.hid rfl)
theorem xvalid2_ok (gs : Nat) (q0 q1 : GQ) (m0 m1 : Nat) (w : World) {s00 : Bool} {A00 : Option Addr} {n00 c00 : Nat} {s01 : Bool} {A01 : Option Addr} {n01 c01 : Nat} {s02 : Bool} {A02 : Option Addr} {n02 c02 : Nat} {s10 : Bool} {A10 : Option Addr} {n10 c10 : Nat} {s11 : Bool} {A11 : Option Addr} {n11 c11 : Nat} {s12 : Bool} {A12 : Option Addr} {n12 c12 : Nat} (hb : Blk w gs 26 #[.bool s00, .slice A00 n00 c00, .bool s01, .slice A01 n01 c01, .bool s02, .slice A02 n02 c02, .bool s10, .slice A10 n10 c10, .bool s11, .slice A11 n11 c11, .bool s12, .slice A12 n12 c12]) (h0 : GV w (gv s00 A00 n00 c00 s01 A01 n01 c01 s02 A02 n02 c02) q0 m0) (l0 : m0 ≤ 12800) (h1 : GV w (gv s10 A10 n10 c10 s11 A11 n11 c11 s12 A12 n12 c12) q1 m1) (l1 : m1 ≤ 12800) :
    Calls Tryz.prog 62 #[.slice (some ⟨gs, 0, none⟩) 2 2] w fun e w' => e = .returned (.bool true) ∧ Ext w w' := by
  refine xvalid_any gs 2 [true, true] _ w hb rfl (by omega) (fun j b hj => ?_)
  match j, hj with
  | 0, hj => injection hj with hj; subst hj; exact ⟨_, _, _, _, _, _, _, _, _, _, _, _, rfl, rfl, rfl, rfl, rfl, rfl, fun w' hx => eValid_gv _ q0 m0 w' (h0.ext hx) l0⟩
  | 1, hj => injection hj with hj; subst hj; exact ⟨_, _, _, _, _, _, _, _, _, _, _, _, rfl, rfl, rfl, rfl, rfl, rfl, fun w' hx => eValid_gv _ q1 m1 w' (h1.ext hx) l1⟩
theorem xvalid3_ok (gs : Nat) (q0 q1 q2 : GQ) (m0 m1 m2 : Nat) (w : World) {s00 : Bool} {A00 : Option Addr} {n00 c00 : Nat} {s01 : Bool} {A01 : Option Addr} {n01 c01 : Nat} {s02 : Bool} {A02 : Option Addr} {n02 c02 : Nat} {s10 : Bool} {A10 : Option Addr} {n10 c10 : Nat} {s11 : Bool} {A11 : Option Addr} {n11 c11 : Nat} {s12 : Bool} {A12 : Option Addr} {n12 c12 : Nat} {s20 : Bool} {A20 : Option Addr} {n20 c20 : Nat} {s21 : Bool} {A21 : Option Addr} {n21 c21 : Nat} {s22 : Bool} {A22 : Option Addr} {n22 c22 : Nat} (hb : Blk w gs 26 #[.bool s00, .slice A00 n00 c00, .bool s01, .slice A01 n01 c01, .bool s02, .slice A02 n02 c02, .bool s10, .slice A10 n10 c10, .bool s11, .slice A11 n11 c11, .bool s12, .slice A12 n12 c12, .bool s20, .slice A20 n20 c20, .bool s21, .slice A21 n21 c21, .bool s22, .slice A22 n22 c22]) (h0 : GV w (gv s00 A00 n00 c00 s01 A01 n01 c01 s02 A02 n02 c02) q0 m0) (l0 : m0 ≤ 12800) (h1 : GV w (gv s10 A10 n10 c10 s11 A11 n11 c11 s12 A12 n12 c12) q1 m1) (l1 : m1 ≤ 12800) (h2 : GV w (gv s20 A20 n20 c20 s21 A21 n21 c21 s22 A22 n22 c22) q2 m2) (l2 : m2 ≤ 12800) :
    Calls Tryz.prog 62 #[.slice (some ⟨gs, 0, none⟩) 3 3] w fun e w' => e = .returned (.bool true) ∧ Ext w w' := by
  refine xvalid_any gs 3 [true, true, true] _ w hb rfl (by omega) (fun j b hj => ?_)
  match j, hj with
  | 0, hj => injection hj with hj; subst hj; exact ⟨_, _, _, _, _, _, _, _, _, _, _, _, rfl, rfl, rfl, rfl, rfl, rfl, fun w' hx => eValid_gv _ q0 m0 w' (h0.ext hx) l0⟩
  | 1, hj => injection hj with hj; subst hj; exact ⟨_, _, _, _, _, _, _, _, _, _, _, _, rfl, rfl, rfl, rfl, rfl, rfl, fun w' hx => eValid_gv _ q1 m1 w' (h1.ext hx) l1⟩
  | 2, hj => injection hj with hj; subst hj; exact ⟨_, _, _, _, _, _, _, _, _, _, _, _, rfl, rfl, rfl, rfl, rfl, rfl, fun w' hx => eValid_gv _ q2 m2 w' (h2.ext hx) l2⟩
end Go.Proofs.YtjeijmnhbckjdaaGreatDoor

/- The calculator over numbers. -/
namespace Go.Proofs.YtjeijmnhbckjdaaGreatDoor
open Go.RowKit
set_option linter.unusedVariables false

/-- (j x + k y) / m. -/
def GQ.blend (j : Int) (x : GQ) (k : Int) (y : GQ) (m : Int) : GQ := ⟨((j : Rat) * x.re + (k : Rat) * y.re) / (m : Rat), ((j : Rat) * x.im + (k : Rat) * y.im) / (m : Rat)⟩
theorem Is.blend_nf {x y : GQ} {a b d a' b' d' u v t j k m : Int} (hx : Is x a b d) (hy : Is y a' b' d') (hm : m ≠ 0) (h : Is (GQ.blend j x k y m) u v t) : (u, v, t) = nf (j * a * d' + k * a' * d) (j * b * d' + k * b' * d) (d * d' * m) := by
  have h1 := cast_ne hx.dne
  have h2 := cast_ne hy.dne
  have h3 := cast_ne hm
  refine (h.nf_eq (Int.mul_ne_zero (Int.mul_ne_zero hx.dne hy.dne) hm) ?_ ?_).symm
  · show ((j : Rat) * x.re + (k : Rat) * y.re) / (m : Rat) = _
    rw [hx.re, hy.re]; simp only [Rat.intCast_mul, Rat.intCast_add]; grind
  · show ((j : Rat) * x.im + (k : Rat) * y.im) / (m : Rat) = _
    rw [hx.im, hy.im]; simp only [Rat.intCast_mul, Rat.intCast_add]; grind
theorem Bd.blend {x y : GQ} {n1 n2 : Nat} {j k m : Int} (hx : Bd x n1) (hy : Bd y n2) (hm : m ≠ 0) (j1 : -9223372036854775808 ≤ j) (j2 : j ≤ 9223372036854775807) (k1 : -9223372036854775808 ≤ k) (k2 : k ≤ 9223372036854775807) (m1 : -9223372036854775808 ≤ m) (m2 : m ≤ 9223372036854775807) : Bd (GQ.blend j x k y m) (n1 + n2 + 65) := by
  obtain ⟨a, b, d, hx, sx⟩ := hx
  obtain ⟨a', b', d', hy, sy⟩ := hy
  obtain ⟨u, v, t, h⟩ := is_ex (GQ.blend j x k y m)
  have bj := lt64 j1 j2
  have bk := lt64 k1 k2
  have bm := lt64 m1 m2
  have E := hx.blend_nf hy hm h
  refine ⟨u, v, t, h, nf_size' (Int.mul_ne_zero (Int.mul_ne_zero hx.dne hy.dne) hm) E ?_ ?_ ?_⟩
  · exact lt_add (m := n1 + n2 + 64) (lt_up (lt_mul (lt_mul bj sx.a) sy.d) (by omega)) (lt_up (lt_mul (lt_mul bk sy.a) sx.d) (by omega))
  · exact lt_add (m := n1 + n2 + 64) (lt_up (lt_mul (lt_mul bj sx.b) sy.d) (by omega)) (lt_up (lt_mul (lt_mul bk sy.b) sx.d) (by omega))
  · exact lt_up (lt_mul (lt_mul sx.d sy.d) bm) (by omega)
theorem eblend_q (gc : Nat) (v1 v3 : Value) (x y : GQ) (j k m : Int) (n1 n2 : Nat) (w : World) (hc : Calm w gc) (hX : GV w v1 x n1) (hY : GV w v3 y n2) (hn : 2 * max n1 n2 + 65 ≤ 12800) (hm : m ≠ 0)
    (j1 : -9223372036854775808 ≤ j) (j2 : j ≤ 9223372036854775807) (k1 : -9223372036854775808 ≤ k) (k2 : k ≤ 9223372036854775807) (m1 : -9223372036854775808 ≤ m) (m2 : m ≤ 9223372036854775807) :
    Calls Tryz.prog 63 #[.pointer (some ⟨gc, 0, none⟩), v1, .int .i64 j, v3, .int .i64 k, .int .i64 m] w fun e w' => ∃ v, e = .returned v ∧ GV w' v (GQ.blend j x k y m) (n1 + n2 + 65) ∧ Ext w w' := by
  obtain ⟨a, b, d, h1, i1, s1⟩ := hX
  obtain ⟨a', b', d', h2, i2, s2⟩ := hY
  obtain ⟨u, v, t, h⟩ := is_ex (GQ.blend j x k y m)
  have sz := (Bd.blend (m := m) ⟨_, _, _, i1, s1⟩ ⟨_, _, _, i2, s2⟩ hm j1 j2 k1 k2 m1 m2).sz h
  exact (eblend_ok gc v1 v3 a b d j a' b' d' k m u v t (max n1 n2) w hc h1 h2 (s1.mono (by omega)) (s2.mono (by omega)) (by omega) i1.dne i2.dne hm j1 j2 k1 k2 m1 m2 (i1.blend_nf i2 hm h)).mono fun e w' ⟨z, he, hR, hx⟩ => ⟨z, he, ⟨u, v, t, hR, h, sz⟩, hx⟩
theorem Bd.rot {q : GQ} {n : Nat} (h : Bd q n) : ∀ K, Bd (q * GQ.ip K) n
  | 0 => by rw [show GQ.ip 0 = GQ.i 1 0 from rfl, GQ.mul_i1]; exact h
  | K + 1 => by
    obtain ⟨a, b, d, h1, h2⟩ := Bd.rot h K
    exact ⟨_, _, _, h1.turn, h2.turn⟩
theorem erotate_at (gc : Nat) (v1 : Value) (q1 : GQ) (n1 K : Nat) (k : Int) (w : World) (hk : k = (K : Int)) (hc : Calm w gc) (hX1 : GV w v1 q1 n1) (hn : n1 ≤ 12800) (hK : K ≤ 100) :
    Calls Tryz.prog 64 #[.pointer (some ⟨gc, 0, none⟩), v1, .int .i64 k] w fun e w' => ∃ v, e = .returned v ∧ GV w' v (q1 * GQ.ip K) n1 ∧ Ext w w' := by
  subst hk
  exact erotate_ok gc v1 q1 n1 K w hc hX1 hn hK
end Go.Proofs.YtjeijmnhbckjdaaGreatDoor

/- The program over numbers: sums, products. -/
namespace Go.Proofs.YtjeijmnhbckjdaaGreatDoor
open Go.RowKit
set_option linter.unusedVariables false

set_option maxRecDepth 100000 in
set_option maxHeartbeats 800000 in
theorem enumber_w (gc : Nat) (v1 : Value) (x1a x1b x1d : Int) (w : World) (hc : Calm w gc) (hX1 : RG w v1 x1a x1b x1d)
      :
    Calls Tryz.prog 47 #[.pointer (some ⟨gc, 0, none⟩), v1] w fun e w' => ∃ v, e = .returned v ∧ (∃ u, v = .tuple #[u, .int .i64 0] ∧ RG w' u x1a x1b x1d) ∧ Ext w w' := by
  have hS := St.start w
  obtain ⟨sx1a, Ax1a, nx1a, cx1a, sx1b, Ax1b, nx1b, cx1b, sx1d, Ax1d, nx1d, cx1d, rfl, hx1a, hx1b, hx1d⟩ := hX1
  replace hS := hS.addI hx1a
  clear hx1a
  replace hS := hS.addI hx1b
  clear hx1b
  replace hS := hS.addI hx1d
  clear hx1d
  replace hS := hS.addB hc trivial
  clear hc
  have o3 : Own w w.heap.size := Own.of hS.ext (by simp)
  have o4 : Own w (w.heap.size + 1) := Own.of hS.ext (by simp)
  have hT1 := (St.al (St.al hS 26 #[.bool sx1a, .slice Ax1a nx1a cx1a, .bool sx1b, .slice Ax1b nx1b cx1b, .bool sx1d, .slice Ax1d nx1d cx1d] (g := w.heap.size) (by simp)) 26 #[.bool false, .slice none 0 0, .bool false, .slice none 0 0, .bool false, .slice none 0 0] (g := (w.heap.size + 1)) (by simp))
  have k_1 := (hT1.blk 2 rfl).cell
  have k_2 := (hT1.blk 1 rfl).cell
  have k_3 := (hT1.blk 0 rfl).cell
  have k_4 := (hT1.blk 0 rfl).frozen
  go_enter Tryz.func47, Tryz.ntmps47
  go_wp2
  replace hS := (St.al (St.al hS 26 #[.bool sx1a, .slice Ax1a nx1a cx1a, .bool sx1b, .slice Ax1b nx1b cx1b, .bool sx1d, .slice Ax1d nx1d cx1d] (g := w.heap.size) (by simp)) 26 #[.bool sx1a, .slice Ax1a nx1a cx1a, .bool sx1b, .slice Ax1b nx1b cx1b, .bool sx1d, .slice Ax1d nx1d cx1d] (g := (w.heap.size + 1)) (by simp))
  exact bp_gauss2 rfl rfl rfl (hS.blk 0 rfl) ⟨_, rfl, ⟨_, rfl, RG.mk (hS.num 2 rfl) (hS.num 1 rfl) (hS.num 0 rfl)⟩, hS.ext⟩

set_option maxRecDepth 100000 in
set_option maxHeartbeats 1600000 in
theorem ephasor_w (gc : Nat) (v1 : Value) (ay az aA : Int) (v2 : Value) (aB aC aD : Int) (w : World) (hc : Calm w gc) (hX1 : RG w v1 ay az aA) (hX2 : RG w v2 aB aC aD)
      :
    Calls Tryz.prog 65 #[.pointer (some ⟨gc, 0, none⟩), v1, v2] w fun e w' => ∃ v, e = .returned v ∧ (∃ u, v = .tuple #[u, .int .i64 0] ∧ RP w' u ay az aA aB aC aD) ∧ Ext w w' := by
  have hS := St.start w
  obtain ⟨a0, a1, a2, a3, a4, a5, a6, a7, a8, a9, aa, ab, rfl, ap, aq, ar⟩ := hX1
  replace hS := hS.addI ap
  clear ap
  replace hS := hS.addI aq
  clear aq
  replace hS := hS.addI ar
  clear ar
  obtain ⟨ac, ad, ae, af, ag, ah, ai, aj, ak, am, an, ao, rfl, au, av, aw⟩ := hX2
  replace hS := hS.addI au
  clear au
  replace hS := hS.addI av
  clear av
  replace hS := hS.addI aw
  clear aw
  replace hS := hS.addB hc trivial
  clear hc
  have o4 : Own w w.heap.size := Own.of hS.ext (by simp)
  have o5 : Own w (w.heap.size + 1) := Own.of hS.ext (by simp)
  have o6 : Own w (w.heap.size + 2) := Own.of hS.ext (by simp)
  have ax := (St.al (St.al (St.al hS 26 #[.bool a0, .slice a1 a2 a3, .bool a4, .slice a5 a6 a7, .bool a8, .slice a9 aa ab] (g := w.heap.size) (by simp)) 26 #[.bool ac, .slice ad ae af, .bool ag, .slice ah ai aj, .bool ak, .slice am an ao] (g := (w.heap.size + 1)) (by simp)) 37 #[.bool false, .slice none 0 0, .bool false, .slice none 0 0, .bool false, .slice none 0 0, .bool false, .slice none 0 0, .bool false, .slice none 0 0, .bool false, .slice none 0 0] (g := (w.heap.size + 2)) (by simp))
  have k_1 := (ax.blk 3 rfl).cell
  have k_2 := (ax.blk 2 rfl).cell
  have k_3 := (ax.blk 1 rfl).cell
  have k_4 := (ax.blk 0 rfl).cell
  have k_5 := (ax.blk 0 rfl).frozen
  go_enter Tryz.func65, Tryz.ntmps65
  go_wp2
  replace hS := (St.al (St.al (St.al hS 26 #[.bool a0, .slice a1 a2 a3, .bool a4, .slice a5 a6 a7, .bool a8, .slice a9 aa ab] (g := w.heap.size) (by simp)) 26 #[.bool ac, .slice ad ae af, .bool ag, .slice ah ai aj, .bool ak, .slice am an ao] (g := (w.heap.size + 1)) (by simp)) 37 #[.bool a0, .slice a1 a2 a3, .bool a4, .slice a5 a6 a7, .bool a8, .slice a9 aa ab, .bool ac, .slice ad ae af, .bool ag, .slice ah ai aj, .bool ak, .slice am an ao] (g := (w.heap.size + 2)) (by simp))
  exact bp_phasor2 rfl rfl rfl (hS.blk 0 rfl) ⟨_, rfl, ⟨_, rfl, RP.mk (hS.num 5 rfl) (hS.num 4 rfl) (hS.num 3 rfl) (hS.num 2 rfl) (hS.num 1 rfl) (hS.num 0 rfl)⟩, hS.ext⟩

set_option maxRecDepth 100000 in
set_option maxHeartbeats 800000 in
theorem xnothing_w  (w : World) 
      :
    Calls Tryz.prog 76 #[] w fun e w' => ∃ v, e = .returned v ∧ RG w' v 0 0 1 ∧ Ext w w' := by
  have hS := St.start w
  have o0 : Own w w.heap.size := Own.of hS.ext (by simp)
  go_enter Tryz.func76, Tryz.ntmps76
  go_wp2_with fail
  replace hS := (St.al hS 26 #[.bool false, .slice none 0 0, .bool false, .slice none 0 0, .bool false, .slice none 0 0] (g := w.heap.size) (by simp))
  generalize (w.alloc (.cells #[.bool false, .slice none 0 0, .bool false, .slice none 0 0, .bool false, .slice none 0 0] 26)) = w1 at hS ⊢
  generalize w.heap.size = g0 at hS o0 ⊢
  refine (Of_any (1) _ (by omega) (by omega)).mono ?_
  rintro e w2 ⟨v_, rfl, hv_, hx_⟩
  replace hS := hS.mv hx_
  clear hx_
  obtain ⟨s1, A_1, n1, c1, rfl, f_s1⟩ := RI.opn hv_
  clear hv_
  replace hS := hS.addI f_s1
  clear f_s1
  have k_1 := (hS.blk 0 rfl).cell
  have k_2 := (hS.blk 0 rfl).frozen
  go_wp2
  replace hS := (St.put (W' := ((((((w2.setCell ⟨g0, 0, none⟩ (.bool false)).setCell ⟨g0, 1, none⟩ (.slice none 0 0)).setCell ⟨g0, 2, none⟩ (.bool false)).setCell ⟨g0, 3, none⟩ (.slice none 0 0)).setCell ⟨g0, 4, none⟩ (.bool s1)).setCell ⟨g0, 5, none⟩ (.slice A_1 n1 c1))) hS 0 0 [.bool false, .slice none 0 0, .bool false, .slice none 0 0, .bool s1, .slice A_1 n1 c1] (cs' := #[.bool false, .slice none 0 0, .bool false, .slice none 0 0, .bool s1, .slice A_1 n1 c1]) (bs' := _) rfl o0 rfl rfl (by kernel_rfl) rfl)
  exact bp_gauss1 rfl rfl rfl (hS.blk 0 rfl) ⟨_, rfl, RG.mk (RI.zero _) (RI.zero _) (hS.num 0 rfl), hS.ext⟩

set_option maxRecDepth 100000 in
set_option maxHeartbeats 3200000 in
theorem xPlain_w (v0 : Value) (q0 : GQ) (n0 : Nat) (w : World) (hX0 : GV w v0 q0 n0)
     (hn1 : 1 ≤ n0) (hn : n0 ≤ 12800) :
    Calls Tryz.prog 33 #[v0] w fun e w' => ∃ v, e = .returned v ∧ (∃ u, v = .tuple #[u, .int .i64 0] ∧ PV w' u (PQ.plain q0) (n0)) ∧ Ext w w' := by
  have hS := St.start w
  obtain ⟨x0a, x0b, x0d, hX0, I0, S0⟩ := hX0
  obtain ⟨ai, aj, ak, am, an, ao, ap, aq, ar, au, av, aw, rfl, aP, aQ, aR⟩ := hX0
  replace hS := hS.addI aP
  clear aP
  replace hS := hS.addI aQ
  clear aQ
  replace hS := hS.addI aR
  clear aR
  have o1 : Own w w.heap.size := Own.of hS.ext (by simp)
  have o2 : Own w (w.heap.size + 1) := Own.of hS.ext (by simp)
  have aW := (St.al (St.al hS 26 #[.bool ai, .slice aj ak am, .bool an, .slice ao ap aq, .bool ar, .slice au av aw] (g := w.heap.size) (by simp)) 37 #[.bool false, .slice none 0 0, .bool false, .slice none 0 0, .bool false, .slice none 0 0, .bool false, .slice none 0 0, .bool false, .slice none 0 0, .bool false, .slice none 0 0] (g := (w.heap.size + 1)) (by simp))
  have k_1 := (aW.blk 1 rfl).cell
  go_enter Tryz.func33, Tryz.ntmps33
  go_wp2_with fail
  clear k_1
  clear aW
  replace hS := (St.al (St.al hS 26 #[.bool ai, .slice aj ak am, .bool an, .slice ao ap aq, .bool ar, .slice au av aw] (g := w.heap.size) (by simp)) 37 #[.bool false, .slice none 0 0, .bool false, .slice none 0 0, .bool false, .slice none 0 0, .bool false, .slice none 0 0, .bool false, .slice none 0 0, .bool false, .slice none 0 0] (g := (w.heap.size + 1)) (by simp))
  generalize ((w.alloc (.cells #[.bool ai, .slice aj ak am, .bool an, .slice ao ap aq, .bool ar, .slice au av aw] 26)).alloc (.cells #[.bool false, .slice none 0 0, .bool false, .slice none 0 0, .bool false, .slice none 0 0, .bool false, .slice none 0 0, .bool false, .slice none 0 0, .bool false, .slice none 0 0] 37)) = w1 at hS ⊢
  generalize w.heap.size + 1 = g2 at hS o2 ⊢
  generalize w.heap.size = g1 at hS o1 ⊢
  refine (eValid_gv _ q0 (n0) _ ⟨_, _, _, RG.mk (hS.num 2 rfl) (hS.num 1 rfl) (hS.num 0 rfl), I0, S0⟩ (by omega)).mono ?_
  rintro e w2 ⟨rfl, hx_⟩
  replace hS := hS.mv hx_
  clear hx_
  have o4 : Own w w2.heap.size := Own.of hS.ext (by simp)
  have aX := (St.al hS 66 #[.int .i64 0] (g := w2.heap.size) (by simp))
  have k_2 := (aX.blk 2 rfl).cell
  go_wp2_with fail
  clear k_2
  clear aX
  replace hS := (St.al hS 66 #[.int .i64 0] (g := w2.heap.size) (by simp))
  generalize (w2.alloc (.cells #[.int .i64 0] 66)) = w3 at hS ⊢
  generalize w2.heap.size = g4 at hS o4 ⊢
  obtain ⟨aS, aT, aU, aV⟩ := is_ex (q0 * GQ.ip 0)
  have S10 : Sz (n0) aS aT aU := (Bd.rot ⟨_, _, _, I0, S0⟩ 0).sz aV
  refine (toRG (erotate_at g4 _ q0 (n0) 0 (0) _ rfl (hS.blk 0 rfl) ⟨_, _, _, RG.mk (hS.num 2 rfl) (hS.num 1 rfl) (hS.num 0 rfl), I0, S0⟩ (by omega) (by omega)) aV).mono ?_
  rintro e w4 ⟨v_, rfl, hv_, hx_⟩
  replace hS := hS.mv hx_
  clear hx_
  obtain ⟨s10a, aY, n10a, c10a, s10b, aZ, n10b, c10b, s10d, b0, n10d, c10d, rfl, a0, a1, a2⟩ := hv_
  replace hS := hS.addI a0
  clear a0
  replace hS := hS.addI a1
  clear a1
  replace hS := hS.addI a2
  clear a2
  go_wp2_with fail
  refine (xnothing_w _).mono ?_
  rintro e w5 ⟨v_, rfl, hv_, hx_⟩
  replace hS := hS.mv hx_
  clear hx_
  obtain ⟨s11a, b1, n11a, c11a, s11b, b2, n11b, c11b, s11d, b3, n11d, c11d, rfl, a3, a4, a5⟩ := hv_
  replace hS := hS.addI a3
  clear a3
  replace hS := hS.addI a4
  clear a4
  replace hS := hS.addI a5
  clear a5
  go_wp2_with fail
  refine (ephasor_w g4 _ aS aT aU _ (0 : Int) (0 : Int) (1 : Int) _ (hS.blk 0 rfl) (RG.mk (hS.num 5 rfl) (hS.num 4 rfl) (hS.num 3 rfl)) (RG.mk (hS.num 2 rfl) (hS.num 1 rfl) (hS.num 0 rfl))).mono ?_
  rintro e w6 ⟨v_, rfl, hv_, hx_⟩
  replace hS := hS.mv hx_
  clear hx_
  obtain ⟨_, rfl, ax, a6, ay, az, aA, a7, aB, aC, aD, a8, aE, aF, aG, a9, aH, aI, aJ, aa, aK, aL, aM, ab, aN, aO, rfl, ac, ad, ae, af, ag, ah⟩ := hv_
  replace hS := hS.addI ac
  clear ac
  replace hS := hS.addI ad
  clear ad
  replace hS := hS.addI ae
  clear ae
  replace hS := hS.addI af
  clear af
  replace hS := hS.addI ag
  clear ag
  replace hS := hS.addI ah
  clear ah
  have k_3 := (hS.blk 1 rfl).cell
  have k_4 := (hS.blk 1 rfl).frozen
  go_wp2
  replace hS := (St.put (W' := ((((((((((((w6.setCell ⟨g2, 0, none⟩ (.bool ax)).setCell ⟨g2, 1, none⟩ (.slice a6 ay az)).setCell ⟨g2, 2, none⟩ (.bool aA)).setCell ⟨g2, 3, none⟩ (.slice a7 aB aC)).setCell ⟨g2, 4, none⟩ (.bool aD)).setCell ⟨g2, 5, none⟩ (.slice a8 aE aF)).setCell ⟨g2, 6, none⟩ (.bool aG)).setCell ⟨g2, 7, none⟩ (.slice a9 aH aI)).setCell ⟨g2, 8, none⟩ (.bool aJ)).setCell ⟨g2, 9, none⟩ (.slice aa aK aL)).setCell ⟨g2, 10, none⟩ (.bool aM)).setCell ⟨g2, 11, none⟩ (.slice ab aN aO))) hS 1 0 [.bool ax, .slice a6 ay az, .bool aA, .slice a7 aB aC, .bool aD, .slice a8 aE aF, .bool aG, .slice a9 aH aI, .bool aJ, .slice aa aK aL, .bool aM, .slice ab aN aO] (cs' := #[.bool ax, .slice a6 ay az, .bool aA, .slice a7 aB aC, .bool aD, .slice a8 aE aF, .bool aG, .slice a9 aH aI, .bool aJ, .slice aa aK aL, .bool aM, .slice ab aN aO]) (bs' := _) rfl o2 rfl rfl (by kernel_rfl) rfl)
  exact bp_phasor2 rfl rfl rfl (hS.blk 1 rfl) ⟨_, rfl, ⟨_, rfl, ⟨_, _, _, _, _, _, RP.mk (hS.num 5 rfl) (hS.num 4 rfl) (hS.num 3 rfl) (hS.num 2 rfl) (hS.num 1 rfl) (hS.num 0 rfl), (show Is (PQ.plain q0).u _ _ _ from by rw [show (PQ.plain q0).u = q0 * GQ.ip 0 from (GQ.mul_i1 q0).symm]; exact aV), S10, (is_i 0 0), (sz_0 hn1)⟩⟩, hS.ext⟩

end Go.Proofs.YtjeijmnhbckjdaaGreatDoor
