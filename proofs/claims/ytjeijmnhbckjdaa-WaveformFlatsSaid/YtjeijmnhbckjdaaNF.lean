/- Words and contracts that the laws share, several texts in one. -/
import Derived.Test.YtjeijmnhbckjdaaNE
import Derived.Test.YtjeijmnhbckjdaaND
/- The specification of numbers: differences, phasors. -/
namespace Go.Proofs.Ytjeijmnhbckjdaa
open Go.RowKit
set_option linter.unusedVariables false

theorem is_ex (q : GQ) : ∃ a b d : Int, Is q a b d := by
  have h1 : ((q.re.den : Nat) : Int) ≠ 0 := by have := q.re.den_nz; omega
  have h2 : ((q.im.den : Nat) : Int) ≠ 0 := by have := q.im.den_nz; omega
  have e1 : q.re = ((q.re.num : Int) : Rat) / (((q.re.den : Nat) : Int) : Rat) := by
    rw [← Rat.divInt_eq_div]
    exact (Rat.num_divInt_den q.re).symm
  have e2 : q.im = ((q.im.num : Int) : Rat) / (((q.im.den : Nat) : Int) : Rat) := by
    rw [← Rat.divInt_eq_div]
    exact (Rat.num_divInt_den q.im).symm
  generalize q.re.num = a at *
  generalize ((q.re.den : Nat) : Int) = d at *
  generalize q.im.num = b at *
  generalize ((q.im.den : Nat) : Int) = f at *
  have k1 := cast_ne h1
  have k2 := cast_ne h2
  have h := is_nf (a := a * f) (b := b * d) (d := d * f) (Int.mul_ne_zero h1 h2)
  refine ⟨_, _, _, ⟨h.low, ?_, ?_⟩⟩
  · rw [← h.re, e1]; simp only [Rat.intCast_mul]; grind
  · rw [← h.im, e2]; simp only [Rat.intCast_mul]; grind
theorem sz_i {a b : Int} (l1 : -9223372036854775808 ≤ a) (u1 : a ≤ 9223372036854775807) (l2 : -9223372036854775808 ≤ b) (u2 : b ≤ 9223372036854775807) : Sz 64 a b 1 := ⟨lt64 l1 u1, lt64 l2 u2, by decide⟩
/-- A value that holds the number q, in lowest terms, of at most n bits each. -/
def GV (w : World) (v : Value) (q : GQ) (n : Nat) : Prop := ∃ a b d : Int, RG w v a b d ∧ Is q a b d ∧ Sz n a b d
theorem GV.ext {w w' : World} {v : Value} {q : GQ} {n : Nat} (h : GV w v q n) (x : Ext w w') : GV w' v q n := by
  obtain ⟨a, b, d, h1, h2, h3⟩ := h
  exact ⟨a, b, d, h1.ext x, h2, h3⟩
/-- A value that holds a phasor. -/
def PV (w : World) (v : Value) (p : PQ) (n : Nat) : Prop := ∃ a b d x y z : Int, RP w v a b d x y z ∧ Is p.u a b d ∧ Sz n a b d ∧ Is p.v x y z ∧ Sz n x y z
theorem PV.ext {w w' : World} {v : Value} {p : PQ} {n : Nat} (h : PV w v p n) (e : Ext w w') : PV w' v p n := by
  obtain ⟨a, b, d, x, y, z, h1, h2⟩ := h
  exact ⟨a, b, d, x, y, z, h1.ext e, h2⟩
theorem sz_0 {n : Nat} (hn : 1 ≤ n) : Sz n 0 0 1 := Sz.mono (m := 1) ⟨by decide, by decide, by decide⟩ hn

set_option maxRecDepth 100000 in
set_option maxHeartbeats 1600000 in
theorem qPlain_ok (v0 : Value) (q0 : GQ) (n0 : Nat) (w : World) (hX0 : GV w v0 q0 n0)
     (hn : 1 ≤ n0) :
    Calls Try.prog 15 #[v0] w fun e w' => ∃ v, e = .returned v ∧ PV w' v (PQ.plain q0) (n0) ∧ Ext w w' := by
  have hS := St.start w
  obtain ⟨x0a, x0b, x0d, hX0, I0, S0⟩ := hX0
  obtain ⟨sx0a, Ax0a, nx0a, cx0a, sx0b, Ax0b, nx0b, cx0b, sx0d, Ax0d, nx0d, cx0d, rfl, hx0a, hx0b, hx0d⟩ := hX0
  replace hS := hS.addI hx0a
  clear hx0a
  replace hS := hS.addI hx0b
  clear hx0b
  replace hS := hS.addI hx0d
  clear hx0d
  have o1 : Own w w.heap.size := Own.of hS.ext (by simp)
  have o2 : Own w (w.heap.size + 1) := Own.of hS.ext (by simp)
  go_enter Try.func15, Try.ntmps15
  go_wp2_with fail
  replace hS := (St.al (St.al hS 26 #[.bool sx0a, .slice Ax0a nx0a cx0a, .bool sx0b, .slice Ax0b nx0b cx0b, .bool sx0d, .slice Ax0d nx0d cx0d] (g := w.heap.size) (by simp)) 28 #[.bool false, .slice none 0 0, .bool false, .slice none 0 0, .bool false, .slice none 0 0, .bool false, .slice none 0 0, .bool false, .slice none 0 0, .bool false, .slice none 0 0] (g := (w.heap.size + 1)) (by simp))
  generalize ((w.alloc (.cells #[.bool sx0a, .slice Ax0a nx0a cx0a, .bool sx0b, .slice Ax0b nx0b cx0b, .bool sx0d, .slice Ax0d nx0d cx0d] 26)).alloc (.cells #[.bool false, .slice none 0 0, .bool false, .slice none 0 0, .bool false, .slice none 0 0, .bool false, .slice none 0 0, .bool false, .slice none 0 0, .bool false, .slice none 0 0] 28)) = w1 at hS ⊢
  generalize w.heap.size + 1 = g2 at hS o2 ⊢
  generalize w.heap.size = g1 at hS o1 ⊢
  have Y1 := ExtOf.blk (hS.blk 1 rfl)
  have hE_ := hS.ext
  refine wp_region_tame 3 (hasF [(1, .any)]) (Fcs [(1, .rg ((0 : Int)) ((0 : Int)) ((1 : Int)))]) (Fcs_stab _) (by kernel_rfl) (by kernel_rfl) ?_
  simp only [List.take_succ_cons, List.take_zero, List.drop_succ_cons, List.drop_zero]
  refine wpT_quiet 1 (by rfl) (by kernel_rfl) ?_
  simp only [List.take_succ_cons, List.take_zero, List.drop_succ_cons, List.drop_zero]
  repeat (go_big_quiet_step (fail))
  refine wpQuiet_nil ?_
  refine wpT_eff (by rfl) (by rfl) (by rfl) ?_ ?_
  · intro W_ hK
    have hW := hK.1
    clear hK
    go_simp
    exact ⟨rfl, (qInt_ok (0) (0) _ (by omega) (by omega) (by omega) (by omega)).mono fun e w' ⟨v, he, hR, hx⟩ => ⟨v, he, hx, hR⟩⟩
  intro v_ lo4 hi4 hr_
  obtain ⟨W_, hW_⟩ := hr_
  have hv_ : Fc.holds (.rg ((0 : Int)) ((0 : Int)) ((1 : Int))) lo4 hi4 v_ W_ := hW_.get
  clear hW_
  obtain ⟨s4a, A_4a, n4a, c4a, s4b, A_4b, n4b, c4b, s4d, A_4d, n4d, c4d, rfl, -, -, -⟩ := hv_
  clear W_
  try simp only [Act.put, List.setIfInBounds_toArray, List.set_cons_succ, List.set_cons_zero]
  refine wpT_quiet 1 (by rfl) (by kernel_rfl) ?_
  simp only [List.take_succ_cons, List.take_zero, List.drop_succ_cons, List.drop_zero]
  repeat (go_big_quiet_step (fail))
  refine wpQuiet_nil ?_
  refine wpT_nil ?_
  intro w2 hK
  have hlt_ := hS.lt
  replace hS := hS.mv hK.ext
  replace hS := hS.addI (show RI w2 (iv s4a A_4a n4a c4a) (0 : Int) from RG.at1 (hK.at_ 1 (e := ((gv s4a A_4a n4a c4a s4b A_4b n4b c4b s4d A_4d n4d c4d), lo4, hi4)) (by rfl)))
  replace hS := hS.addI (show RI w2 (iv s4b A_4b n4b c4b) (0 : Int) from RG.at2 (hK.at_ 1 (e := ((gv s4a A_4a n4a c4a s4b A_4b n4b c4b s4d A_4d n4d c4d), lo4, hi4)) (by rfl)))
  replace hS := hS.addI (show RI w2 (iv s4d A_4d n4d c4d) (1 : Int) from RG.at3 (hK.at_ 1 (e := ((gv s4a A_4a n4a c4a s4b A_4b n4b c4b s4d A_4d n4d c4d), lo4, hi4)) (by rfl)))
  clear hK hlt_ hE_ Y1
  have k_1 := (hS.blk 0 rfl).cell
  have k_2 := (hS.blk 0 rfl).frozen
  go_wp2
  replace hS := (St.put (W' := ((((((((((((w2.setCell ⟨g2, 0, none⟩ (.bool sx0a)).setCell ⟨g2, 1, none⟩ (.slice Ax0a nx0a cx0a)).setCell ⟨g2, 2, none⟩ (.bool sx0b)).setCell ⟨g2, 3, none⟩ (.slice Ax0b nx0b cx0b)).setCell ⟨g2, 4, none⟩ (.bool sx0d)).setCell ⟨g2, 5, none⟩ (.slice Ax0d nx0d cx0d)).setCell ⟨g2, 6, none⟩ (.bool s4a)).setCell ⟨g2, 7, none⟩ (.slice A_4a n4a c4a)).setCell ⟨g2, 8, none⟩ (.bool s4b)).setCell ⟨g2, 9, none⟩ (.slice A_4b n4b c4b)).setCell ⟨g2, 10, none⟩ (.bool s4d)).setCell ⟨g2, 11, none⟩ (.slice A_4d n4d c4d))) hS 0 0 [.bool sx0a, .slice Ax0a nx0a cx0a, .bool sx0b, .slice Ax0b nx0b cx0b, .bool sx0d, .slice Ax0d nx0d cx0d, .bool s4a, .slice A_4a n4a c4a, .bool s4b, .slice A_4b n4b c4b, .bool s4d, .slice A_4d n4d c4d] (cs' := #[.bool sx0a, .slice Ax0a nx0a cx0a, .bool sx0b, .slice Ax0b nx0b cx0b, .bool sx0d, .slice Ax0d nx0d cx0d, .bool s4a, .slice A_4a n4a c4a, .bool s4b, .slice A_4b n4b c4b, .bool s4d, .slice A_4d n4d c4d]) (bs' := _) rfl o2 rfl rfl (by kernel_rfl) rfl)
  exact bp_phasor1 rfl rfl rfl (hS.blk 0 rfl) ⟨_, rfl, ⟨_, _, _, _, _, _, RP.mk (hS.num 5 rfl) (hS.num 4 rfl) (hS.num 3 rfl) (hS.num 2 rfl) (hS.num 1 rfl) (hS.num 0 rfl), I0, S0, (is_i 0 0), (sz_0 hn)⟩, hS.ext⟩

set_option maxRecDepth 100000 in
set_option maxHeartbeats 6400000 in
theorem qProduct_w (v0 : Value) (q0 : PQ) (n0 : Nat) (v1 : Value) (q1 : PQ) (n1 : Nat) (w : World) (hX0 : PV w v0 q0 n0) (hX1 : PV w v1 q1 n1)
     (hn : 2 * (n0 + n1) + 69 ≤ 12800) :
    Calls Try.prog 27 #[v0, v1] w fun e w' => ∃ v, e = .returned v ∧ PV w' v (q0 * q1) (2 * (n0 + n1) + 69) ∧ Ext w w' := by
  have hS := St.start w
  obtain ⟨x0a, x0b, x0d, x0x, x0y, x0z, hX0, I0u, S0u, I0v, S0v⟩ := hX0
  obtain ⟨sx0a, Ax0a, nx0a, cx0a, sx0b, Ax0b, nx0b, cx0b, sx0d, Ax0d, nx0d, cx0d, sx0x, Ax0x, nx0x, cx0x, sx0y, Ax0y, nx0y, cx0y, sx0z, Ax0z, nx0z, cx0z, rfl, hx0a, hx0b, hx0d, hx0x, hx0y, hx0z⟩ := hX0
  replace hS := hS.addI hx0a
  clear hx0a
  replace hS := hS.addI hx0b
  clear hx0b
  replace hS := hS.addI hx0d
  clear hx0d
  replace hS := hS.addI hx0x
  clear hx0x
  replace hS := hS.addI hx0y
  clear hx0y
  replace hS := hS.addI hx0z
  clear hx0z
  obtain ⟨x1a, x1b, x1d, x1x, x1y, x1z, hX1, I1u, S1u, I1v, S1v⟩ := hX1
  obtain ⟨sx1a, Ax1a, nx1a, cx1a, sx1b, Ax1b, nx1b, cx1b, sx1d, Ax1d, nx1d, cx1d, sx1x, Ax1x, nx1x, cx1x, sx1y, Ax1y, nx1y, cx1y, sx1z, Ax1z, nx1z, cx1z, rfl, hx1a, hx1b, hx1d, hx1x, hx1y, hx1z⟩ := hX1
  replace hS := hS.addI hx1a
  clear hx1a
  replace hS := hS.addI hx1b
  clear hx1b
  replace hS := hS.addI hx1d
  clear hx1d
  replace hS := hS.addI hx1x
  clear hx1x
  replace hS := hS.addI hx1y
  clear hx1y
  replace hS := hS.addI hx1z
  clear hx1z
  have o2 : Own w w.heap.size := Own.of hS.ext (by simp)
  have o3 : Own w (w.heap.size + 1) := Own.of hS.ext (by simp)
  have o4 : Own w (w.heap.size + 2) := Own.of hS.ext (by simp)
  go_enter Try.func27, Try.ntmps27
  go_wp2_with fail
  replace hS := (St.al (St.al (St.al hS 28 #[.bool sx0a, .slice Ax0a nx0a cx0a, .bool sx0b, .slice Ax0b nx0b cx0b, .bool sx0d, .slice Ax0d nx0d cx0d, .bool sx0x, .slice Ax0x nx0x cx0x, .bool sx0y, .slice Ax0y nx0y cx0y, .bool sx0z, .slice Ax0z nx0z cx0z] (g := w.heap.size) (by simp)) 28 #[.bool sx1a, .slice Ax1a nx1a cx1a, .bool sx1b, .slice Ax1b nx1b cx1b, .bool sx1d, .slice Ax1d nx1d cx1d, .bool sx1x, .slice Ax1x nx1x cx1x, .bool sx1y, .slice Ax1y nx1y cx1y, .bool sx1z, .slice Ax1z nx1z cx1z] (g := (w.heap.size + 1)) (by simp)) 28 #[.bool false, .slice none 0 0, .bool false, .slice none 0 0, .bool false, .slice none 0 0, .bool false, .slice none 0 0, .bool false, .slice none 0 0, .bool false, .slice none 0 0] (g := (w.heap.size + 2)) (by simp))
  generalize (((w.alloc (.cells #[.bool sx0a, .slice Ax0a nx0a cx0a, .bool sx0b, .slice Ax0b nx0b cx0b, .bool sx0d, .slice Ax0d nx0d cx0d, .bool sx0x, .slice Ax0x nx0x cx0x, .bool sx0y, .slice Ax0y nx0y cx0y, .bool sx0z, .slice Ax0z nx0z cx0z] 28)).alloc (.cells #[.bool sx1a, .slice Ax1a nx1a cx1a, .bool sx1b, .slice Ax1b nx1b cx1b, .bool sx1d, .slice Ax1d nx1d cx1d, .bool sx1x, .slice Ax1x nx1x cx1x, .bool sx1y, .slice Ax1y nx1y cx1y, .bool sx1z, .slice Ax1z nx1z cx1z] 28)).alloc (.cells #[.bool false, .slice none 0 0, .bool false, .slice none 0 0, .bool false, .slice none 0 0, .bool false, .slice none 0 0, .bool false, .slice none 0 0, .bool false, .slice none 0 0] 28)) = w1 at hS ⊢
  generalize w.heap.size + 2 = g4 at hS o4 ⊢
  generalize w.heap.size + 1 = g3 at hS o3 ⊢
  generalize w.heap.size = g2 at hS o2 ⊢
  obtain ⟨z9a, z9b, z9d, I9⟩ := is_ex (q0.u * q1.u)
  have K9 := MulOk.of I0u S0u I1u S1u I9 (by omega)
  have S9 := K9.size
  obtain ⟨z15a, z15b, z15d, I15⟩ := is_ex (q0.v * q1.v)
  have K15 := MulOk.of I0v S0v I1v S1v I15 (by omega)
  have S15 := K15.size
  obtain ⟨z16a, z16b, z16d, I16⟩ := is_ex ((GQ.i (3) (0)) * (q0.v * q1.v))
  have K16 := MulOk.of (is_i (3) (0)) (sz_i (by omega) (by omega) (by omega) (by omega)) I15 S15 I16 (by omega)
  have S16 := K16.size
  obtain ⟨z17a, z17b, z17d, I17⟩ := is_ex ((q0.u * q1.u) + (GQ.i (3) (0)) * (q0.v * q1.v))
  have K17 := AddOk.of I9 S9 I16 S16 I17 (by omega)
  have S17 := K17.size
  obtain ⟨z22a, z22b, z22d, I22⟩ := is_ex (q0.u * q1.v)
  have K22 := MulOk.of I0u S0u I1v S1v I22 (by omega)
  have S22 := K22.size
  obtain ⟨z27a, z27b, z27d, I27⟩ := is_ex (q0.v * q1.u)
  have K27 := MulOk.of I0v S0v I1u S1u I27 (by omega)
  have S27 := K27.size
  obtain ⟨z28a, z28b, z28d, I28⟩ := is_ex ((q0.u * q1.v) + (q0.v * q1.u))
  have K28 := AddOk.of I22 S22 I27 S27 I28 (by omega)
  have S28 := K28.size
  have Y3 := ExtOf.blk (hS.blk 1 rfl)
  have Y2 := ExtOf.blk (hS.blk 2 rfl)
  have hE_ := hS.ext
  refine wp_region_tame 25 (hasF [(4, .any), (5, .any), (10, .any), (11, .any), (12, .any), (17, .any), (22, .any), (23, .any)]) (Fcs [(4, .rg (z9a) (z9b) (z9d)), (5, .rg ((3 : Int)) ((0 : Int)) ((1 : Int))), (10, .rg (z15a) (z15b) (z15d)), (11, .rg (z16a) (z16b) (z16d)), (12, .rg (z17a) (z17b) (z17d)), (17, .rg (z22a) (z22b) (z22d)), (22, .rg (z27a) (z27b) (z27d)), (23, .rg (z28a) (z28b) (z28d))]) (Fcs_stab _) (by kernel_rfl) (by kernel_rfl) ?_
  simp only [List.take_succ_cons, List.take_zero, List.drop_succ_cons, List.drop_zero]
  refine wpT_quiet 4 (by rfl) (by kernel_rfl) ?_
  simp only [List.take_succ_cons, List.take_zero, List.drop_succ_cons, List.drop_zero]
  repeat (go_big_quiet_step (fail))
  refine wpQuiet_nil ?_
  refine wpT_eff (by rfl) (by rfl) (by rfl) ?_ ?_
  · intro W_ hK
    have hW := hK.1
    clear hK
    go_simp
    exact ⟨rfl, (qMul_ok _ _ x0a x0b x0d x1a x1b x1d z9a z9b z9d _ _ _ (RG.mk (RI.ext (hS.num 11 rfl) hW) (RI.ext (hS.num 10 rfl) hW) (RI.ext (hS.num 9 rfl) hW)) (RG.mk (RI.ext (hS.num 5 rfl) hW) (RI.ext (hS.num 4 rfl) hW) (RI.ext (hS.num 3 rfl) hW)) K9).mono fun e w' ⟨v, he, hR, hx⟩ => ⟨v, he, hx, hR⟩⟩
  intro v_ lo9 hi9 hr_
  obtain ⟨W_, hW_⟩ := hr_
  have hv_ : Fc.holds (.rg (z9a) (z9b) (z9d)) lo9 hi9 v_ W_ := hW_.get
  clear hW_
  obtain ⟨s9a, A_9a, n9a, c9a, s9b, A_9b, n9b, c9b, s9d, A_9d, n9d, c9d, rfl, -, -, -⟩ := hv_
  clear W_
  try simp only [Act.put, List.setIfInBounds_toArray, List.set_cons_succ, List.set_cons_zero]
  refine wpT_eff (by rfl) (by rfl) (by rfl) ?_ ?_
  · intro W_ hK
    have hW := hK.1
    clear hK
    go_simp
    exact ⟨rfl, (qInt_ok (3) (0) _ (by omega) (by omega) (by omega) (by omega)).mono fun e w' ⟨v, he, hR, hx⟩ => ⟨v, he, hx, hR⟩⟩
  intro v_ lo10 hi10 hr_
  obtain ⟨W_, hW_⟩ := hr_
  have hv_ : Fc.holds (.rg ((3 : Int)) ((0 : Int)) ((1 : Int))) lo10 hi10 v_ W_ := hW_.get
  clear hW_
  obtain ⟨s10a, A_10a, n10a, c10a, s10b, A_10b, n10b, c10b, s10d, A_10d, n10d, c10d, rfl, -, -, -⟩ := hv_
  clear W_
  try simp only [Act.put, List.setIfInBounds_toArray, List.set_cons_succ, List.set_cons_zero]
  refine wpT_quiet 4 (by rfl) (by kernel_rfl) ?_
  simp only [List.take_succ_cons, List.take_zero, List.drop_succ_cons, List.drop_zero]
  repeat (go_big_quiet_step (fail))
  refine wpQuiet_nil ?_
  refine wpT_eff (by rfl) (by rfl) (by rfl) ?_ ?_
  · intro W_ hK
    have hW := hK.1
    clear hK
    go_simp
    exact ⟨rfl, (qMul_ok _ _ x0x x0y x0z x1x x1y x1z z15a z15b z15d _ _ _ (RG.mk (RI.ext (hS.num 8 rfl) hW) (RI.ext (hS.num 7 rfl) hW) (RI.ext (hS.num 6 rfl) hW)) (RG.mk (RI.ext (hS.num 2 rfl) hW) (RI.ext (hS.num 1 rfl) hW) (RI.ext (hS.num 0 rfl) hW)) K15).mono fun e w' ⟨v, he, hR, hx⟩ => ⟨v, he, hx, hR⟩⟩
  intro v_ lo15 hi15 hr_
  obtain ⟨W_, hW_⟩ := hr_
  have hv_ : Fc.holds (.rg (z15a) (z15b) (z15d)) lo15 hi15 v_ W_ := hW_.get
  clear hW_
  obtain ⟨s15a, A_15a, n15a, c15a, s15b, A_15b, n15b, c15b, s15d, A_15d, n15d, c15d, rfl, -, -, -⟩ := hv_
  clear W_
  try simp only [Act.put, List.setIfInBounds_toArray, List.set_cons_succ, List.set_cons_zero]
  refine wpT_eff (by rfl) (by rfl) (by rfl) ?_ ?_
  · intro W_ hK
    have hW := hK.1
    have F_s10a : RI W_ (iv s10a A_10a n10a c10a) (3 : Int) := RG.at1 (hK.2 5 ((gv s10a A_10a n10a c10a s10b A_10b n10b c10b s10d A_10d n10d c10d), lo10, hi10) (by rfl) (by kernel_rfl))
    have F_s10b : RI W_ (iv s10b A_10b n10b c10b) (0 : Int) := RG.at2 (hK.2 5 ((gv s10a A_10a n10a c10a s10b A_10b n10b c10b s10d A_10d n10d c10d), lo10, hi10) (by rfl) (by kernel_rfl))
    have F_s10d : RI W_ (iv s10d A_10d n10d c10d) (1 : Int) := RG.at3 (hK.2 5 ((gv s10a A_10a n10a c10a s10b A_10b n10b c10b s10d A_10d n10d c10d), lo10, hi10) (by rfl) (by kernel_rfl))
    have F_s15a : RI W_ (iv s15a A_15a n15a c15a) z15a := RG.at1 (hK.2 10 ((gv s15a A_15a n15a c15a s15b A_15b n15b c15b s15d A_15d n15d c15d), lo15, hi15) (by rfl) (by kernel_rfl))
    have F_s15b : RI W_ (iv s15b A_15b n15b c15b) z15b := RG.at2 (hK.2 10 ((gv s15a A_15a n15a c15a s15b A_15b n15b c15b s15d A_15d n15d c15d), lo15, hi15) (by rfl) (by kernel_rfl))
    have F_s15d : RI W_ (iv s15d A_15d n15d c15d) z15d := RG.at3 (hK.2 10 ((gv s15a A_15a n15a c15a s15b A_15b n15b c15b s15d A_15d n15d c15d), lo15, hi15) (by rfl) (by kernel_rfl))
    clear hK
    go_simp
    exact ⟨rfl, (qMul_ok _ _ (3 : Int) (0 : Int) (1 : Int) z15a z15b z15d z16a z16b z16d _ _ _ (RG.mk F_s10a F_s10b F_s10d) (RG.mk F_s15a F_s15b F_s15d) K16).mono fun e w' ⟨v, he, hR, hx⟩ => ⟨v, he, hx, hR⟩⟩
  intro v_ lo16 hi16 hr_
  obtain ⟨W_, hW_⟩ := hr_
  have hv_ : Fc.holds (.rg (z16a) (z16b) (z16d)) lo16 hi16 v_ W_ := hW_.get
  clear hW_
  obtain ⟨s16a, A_16a, n16a, c16a, s16b, A_16b, n16b, c16b, s16d, A_16d, n16d, c16d, rfl, -, -, -⟩ := hv_
  clear W_
  try simp only [Act.put, List.setIfInBounds_toArray, List.set_cons_succ, List.set_cons_zero]
  refine wpT_eff (by rfl) (by rfl) (by rfl) ?_ ?_
  · intro W_ hK
    have hW := hK.1
    have F_s9a : RI W_ (iv s9a A_9a n9a c9a) z9a := RG.at1 (hK.2 4 ((gv s9a A_9a n9a c9a s9b A_9b n9b c9b s9d A_9d n9d c9d), lo9, hi9) (by rfl) (by kernel_rfl))
    have F_s9b : RI W_ (iv s9b A_9b n9b c9b) z9b := RG.at2 (hK.2 4 ((gv s9a A_9a n9a c9a s9b A_9b n9b c9b s9d A_9d n9d c9d), lo9, hi9) (by rfl) (by kernel_rfl))
    have F_s9d : RI W_ (iv s9d A_9d n9d c9d) z9d := RG.at3 (hK.2 4 ((gv s9a A_9a n9a c9a s9b A_9b n9b c9b s9d A_9d n9d c9d), lo9, hi9) (by rfl) (by kernel_rfl))
    have F_s16a : RI W_ (iv s16a A_16a n16a c16a) z16a := RG.at1 (hK.2 11 ((gv s16a A_16a n16a c16a s16b A_16b n16b c16b s16d A_16d n16d c16d), lo16, hi16) (by rfl) (by kernel_rfl))
    have F_s16b : RI W_ (iv s16b A_16b n16b c16b) z16b := RG.at2 (hK.2 11 ((gv s16a A_16a n16a c16a s16b A_16b n16b c16b s16d A_16d n16d c16d), lo16, hi16) (by rfl) (by kernel_rfl))
    have F_s16d : RI W_ (iv s16d A_16d n16d c16d) z16d := RG.at3 (hK.2 11 ((gv s16a A_16a n16a c16a s16b A_16b n16b c16b s16d A_16d n16d c16d), lo16, hi16) (by rfl) (by kernel_rfl))
    clear hK
    go_simp
    exact ⟨rfl, (qAdd_ok _ _ z9a z9b z9d z16a z16b z16d z17a z17b z17d _ _ _ (RG.mk F_s9a F_s9b F_s9d) (RG.mk F_s16a F_s16b F_s16d) K17).mono fun e w' ⟨v, he, hR, hx⟩ => ⟨v, he, hx, hR⟩⟩
  intro v_ lo17 hi17 hr_
  obtain ⟨W_, hW_⟩ := hr_
  have hv_ : Fc.holds (.rg (z17a) (z17b) (z17d)) lo17 hi17 v_ W_ := hW_.get
  clear hW_
  obtain ⟨s17a, A_17a, n17a, c17a, s17b, A_17b, n17b, c17b, s17d, A_17d, n17d, c17d, rfl, -, -, -⟩ := hv_
  clear W_
  try simp only [Act.put, List.setIfInBounds_toArray, List.set_cons_succ, List.set_cons_zero]
  refine wpT_quiet 4 (by rfl) (by kernel_rfl) ?_
  simp only [List.take_succ_cons, List.take_zero, List.drop_succ_cons, List.drop_zero]
  repeat (go_big_quiet_step (fail))
  refine wpQuiet_nil ?_
  refine wpT_eff (by rfl) (by rfl) (by rfl) ?_ ?_
  · intro W_ hK
    have hW := hK.1
    clear hK
    go_simp
    exact ⟨rfl, (qMul_ok _ _ x0a x0b x0d x1x x1y x1z z22a z22b z22d _ _ _ (RG.mk (RI.ext (hS.num 11 rfl) hW) (RI.ext (hS.num 10 rfl) hW) (RI.ext (hS.num 9 rfl) hW)) (RG.mk (RI.ext (hS.num 2 rfl) hW) (RI.ext (hS.num 1 rfl) hW) (RI.ext (hS.num 0 rfl) hW)) K22).mono fun e w' ⟨v, he, hR, hx⟩ => ⟨v, he, hx, hR⟩⟩
  intro v_ lo22 hi22 hr_
  obtain ⟨W_, hW_⟩ := hr_
  have hv_ : Fc.holds (.rg (z22a) (z22b) (z22d)) lo22 hi22 v_ W_ := hW_.get
  clear hW_
  obtain ⟨s22a, A_22a, n22a, c22a, s22b, A_22b, n22b, c22b, s22d, A_22d, n22d, c22d, rfl, -, -, -⟩ := hv_
  clear W_
  try simp only [Act.put, List.setIfInBounds_toArray, List.set_cons_succ, List.set_cons_zero]
  refine wpT_quiet 4 (by rfl) (by kernel_rfl) ?_
  simp only [List.take_succ_cons, List.take_zero, List.drop_succ_cons, List.drop_zero]
  repeat (go_big_quiet_step (fail))
  refine wpQuiet_nil ?_
  refine wpT_eff (by rfl) (by rfl) (by rfl) ?_ ?_
  · intro W_ hK
    have hW := hK.1
    clear hK
    go_simp
    exact ⟨rfl, (qMul_ok _ _ x0x x0y x0z x1a x1b x1d z27a z27b z27d _ _ _ (RG.mk (RI.ext (hS.num 8 rfl) hW) (RI.ext (hS.num 7 rfl) hW) (RI.ext (hS.num 6 rfl) hW)) (RG.mk (RI.ext (hS.num 5 rfl) hW) (RI.ext (hS.num 4 rfl) hW) (RI.ext (hS.num 3 rfl) hW)) K27).mono fun e w' ⟨v, he, hR, hx⟩ => ⟨v, he, hx, hR⟩⟩
  intro v_ lo27 hi27 hr_
  obtain ⟨W_, hW_⟩ := hr_
  have hv_ : Fc.holds (.rg (z27a) (z27b) (z27d)) lo27 hi27 v_ W_ := hW_.get
  clear hW_
  obtain ⟨s27a, A_27a, n27a, c27a, s27b, A_27b, n27b, c27b, s27d, A_27d, n27d, c27d, rfl, -, -, -⟩ := hv_
  clear W_
  try simp only [Act.put, List.setIfInBounds_toArray, List.set_cons_succ, List.set_cons_zero]
  refine wpT_eff (by rfl) (by rfl) (by rfl) ?_ ?_
  · intro W_ hK
    have hW := hK.1
    have F_s22a : RI W_ (iv s22a A_22a n22a c22a) z22a := RG.at1 (hK.2 17 ((gv s22a A_22a n22a c22a s22b A_22b n22b c22b s22d A_22d n22d c22d), lo22, hi22) (by rfl) (by kernel_rfl))
    have F_s22b : RI W_ (iv s22b A_22b n22b c22b) z22b := RG.at2 (hK.2 17 ((gv s22a A_22a n22a c22a s22b A_22b n22b c22b s22d A_22d n22d c22d), lo22, hi22) (by rfl) (by kernel_rfl))
    have F_s22d : RI W_ (iv s22d A_22d n22d c22d) z22d := RG.at3 (hK.2 17 ((gv s22a A_22a n22a c22a s22b A_22b n22b c22b s22d A_22d n22d c22d), lo22, hi22) (by rfl) (by kernel_rfl))
    have F_s27a : RI W_ (iv s27a A_27a n27a c27a) z27a := RG.at1 (hK.2 22 ((gv s27a A_27a n27a c27a s27b A_27b n27b c27b s27d A_27d n27d c27d), lo27, hi27) (by rfl) (by kernel_rfl))
    have F_s27b : RI W_ (iv s27b A_27b n27b c27b) z27b := RG.at2 (hK.2 22 ((gv s27a A_27a n27a c27a s27b A_27b n27b c27b s27d A_27d n27d c27d), lo27, hi27) (by rfl) (by kernel_rfl))
    have F_s27d : RI W_ (iv s27d A_27d n27d c27d) z27d := RG.at3 (hK.2 22 ((gv s27a A_27a n27a c27a s27b A_27b n27b c27b s27d A_27d n27d c27d), lo27, hi27) (by rfl) (by kernel_rfl))
    clear hK
    go_simp
    exact ⟨rfl, (qAdd_ok _ _ z22a z22b z22d z27a z27b z27d z28a z28b z28d _ _ _ (RG.mk F_s22a F_s22b F_s22d) (RG.mk F_s27a F_s27b F_s27d) K28).mono fun e w' ⟨v, he, hR, hx⟩ => ⟨v, he, hx, hR⟩⟩
  intro v_ lo28 hi28 hr_
  obtain ⟨W_, hW_⟩ := hr_
  have hv_ : Fc.holds (.rg (z28a) (z28b) (z28d)) lo28 hi28 v_ W_ := hW_.get
  clear hW_
  obtain ⟨s28a, A_28a, n28a, c28a, s28b, A_28b, n28b, c28b, s28d, A_28d, n28d, c28d, rfl, -, -, -⟩ := hv_
  clear W_
  try simp only [Act.put, List.setIfInBounds_toArray, List.set_cons_succ, List.set_cons_zero]
  refine wpT_quiet 1 (by rfl) (by kernel_rfl) ?_
  simp only [List.take_succ_cons, List.take_zero, List.drop_succ_cons, List.drop_zero]
  repeat (go_big_quiet_step (fail))
  refine wpQuiet_nil ?_
  refine wpT_nil ?_
  intro w2 hK
  have hlt_ := hS.lt
  replace hS := hS.mv hK.ext
  replace hS := hS.addI (show RI w2 (iv s9a A_9a n9a c9a) z9a from RG.at1 (hK.at_ 4 (e := ((gv s9a A_9a n9a c9a s9b A_9b n9b c9b s9d A_9d n9d c9d), lo9, hi9)) (by rfl)))
  replace hS := hS.addI (show RI w2 (iv s9b A_9b n9b c9b) z9b from RG.at2 (hK.at_ 4 (e := ((gv s9a A_9a n9a c9a s9b A_9b n9b c9b s9d A_9d n9d c9d), lo9, hi9)) (by rfl)))
  replace hS := hS.addI (show RI w2 (iv s9d A_9d n9d c9d) z9d from RG.at3 (hK.at_ 4 (e := ((gv s9a A_9a n9a c9a s9b A_9b n9b c9b s9d A_9d n9d c9d), lo9, hi9)) (by rfl)))
  replace hS := hS.addI (show RI w2 (iv s10a A_10a n10a c10a) (3 : Int) from RG.at1 (hK.at_ 5 (e := ((gv s10a A_10a n10a c10a s10b A_10b n10b c10b s10d A_10d n10d c10d), lo10, hi10)) (by rfl)))
  replace hS := hS.addI (show RI w2 (iv s10b A_10b n10b c10b) (0 : Int) from RG.at2 (hK.at_ 5 (e := ((gv s10a A_10a n10a c10a s10b A_10b n10b c10b s10d A_10d n10d c10d), lo10, hi10)) (by rfl)))
  replace hS := hS.addI (show RI w2 (iv s10d A_10d n10d c10d) (1 : Int) from RG.at3 (hK.at_ 5 (e := ((gv s10a A_10a n10a c10a s10b A_10b n10b c10b s10d A_10d n10d c10d), lo10, hi10)) (by rfl)))
  replace hS := hS.addI (show RI w2 (iv s15a A_15a n15a c15a) z15a from RG.at1 (hK.at_ 10 (e := ((gv s15a A_15a n15a c15a s15b A_15b n15b c15b s15d A_15d n15d c15d), lo15, hi15)) (by rfl)))
  replace hS := hS.addI (show RI w2 (iv s15b A_15b n15b c15b) z15b from RG.at2 (hK.at_ 10 (e := ((gv s15a A_15a n15a c15a s15b A_15b n15b c15b s15d A_15d n15d c15d), lo15, hi15)) (by rfl)))
  replace hS := hS.addI (show RI w2 (iv s15d A_15d n15d c15d) z15d from RG.at3 (hK.at_ 10 (e := ((gv s15a A_15a n15a c15a s15b A_15b n15b c15b s15d A_15d n15d c15d), lo15, hi15)) (by rfl)))
  replace hS := hS.addI (show RI w2 (iv s16a A_16a n16a c16a) z16a from RG.at1 (hK.at_ 11 (e := ((gv s16a A_16a n16a c16a s16b A_16b n16b c16b s16d A_16d n16d c16d), lo16, hi16)) (by rfl)))
  replace hS := hS.addI (show RI w2 (iv s16b A_16b n16b c16b) z16b from RG.at2 (hK.at_ 11 (e := ((gv s16a A_16a n16a c16a s16b A_16b n16b c16b s16d A_16d n16d c16d), lo16, hi16)) (by rfl)))
  replace hS := hS.addI (show RI w2 (iv s16d A_16d n16d c16d) z16d from RG.at3 (hK.at_ 11 (e := ((gv s16a A_16a n16a c16a s16b A_16b n16b c16b s16d A_16d n16d c16d), lo16, hi16)) (by rfl)))
  replace hS := hS.addI (show RI w2 (iv s17a A_17a n17a c17a) z17a from RG.at1 (hK.at_ 12 (e := ((gv s17a A_17a n17a c17a s17b A_17b n17b c17b s17d A_17d n17d c17d), lo17, hi17)) (by rfl)))
  replace hS := hS.addI (show RI w2 (iv s17b A_17b n17b c17b) z17b from RG.at2 (hK.at_ 12 (e := ((gv s17a A_17a n17a c17a s17b A_17b n17b c17b s17d A_17d n17d c17d), lo17, hi17)) (by rfl)))
  replace hS := hS.addI (show RI w2 (iv s17d A_17d n17d c17d) z17d from RG.at3 (hK.at_ 12 (e := ((gv s17a A_17a n17a c17a s17b A_17b n17b c17b s17d A_17d n17d c17d), lo17, hi17)) (by rfl)))
  replace hS := hS.addI (show RI w2 (iv s22a A_22a n22a c22a) z22a from RG.at1 (hK.at_ 17 (e := ((gv s22a A_22a n22a c22a s22b A_22b n22b c22b s22d A_22d n22d c22d), lo22, hi22)) (by rfl)))
  replace hS := hS.addI (show RI w2 (iv s22b A_22b n22b c22b) z22b from RG.at2 (hK.at_ 17 (e := ((gv s22a A_22a n22a c22a s22b A_22b n22b c22b s22d A_22d n22d c22d), lo22, hi22)) (by rfl)))
  replace hS := hS.addI (show RI w2 (iv s22d A_22d n22d c22d) z22d from RG.at3 (hK.at_ 17 (e := ((gv s22a A_22a n22a c22a s22b A_22b n22b c22b s22d A_22d n22d c22d), lo22, hi22)) (by rfl)))
  replace hS := hS.addI (show RI w2 (iv s27a A_27a n27a c27a) z27a from RG.at1 (hK.at_ 22 (e := ((gv s27a A_27a n27a c27a s27b A_27b n27b c27b s27d A_27d n27d c27d), lo27, hi27)) (by rfl)))
  replace hS := hS.addI (show RI w2 (iv s27b A_27b n27b c27b) z27b from RG.at2 (hK.at_ 22 (e := ((gv s27a A_27a n27a c27a s27b A_27b n27b c27b s27d A_27d n27d c27d), lo27, hi27)) (by rfl)))
  replace hS := hS.addI (show RI w2 (iv s27d A_27d n27d c27d) z27d from RG.at3 (hK.at_ 22 (e := ((gv s27a A_27a n27a c27a s27b A_27b n27b c27b s27d A_27d n27d c27d), lo27, hi27)) (by rfl)))
  replace hS := hS.addI (show RI w2 (iv s28a A_28a n28a c28a) z28a from RG.at1 (hK.at_ 23 (e := ((gv s28a A_28a n28a c28a s28b A_28b n28b c28b s28d A_28d n28d c28d), lo28, hi28)) (by rfl)))
  replace hS := hS.addI (show RI w2 (iv s28b A_28b n28b c28b) z28b from RG.at2 (hK.at_ 23 (e := ((gv s28a A_28a n28a c28a s28b A_28b n28b c28b s28d A_28d n28d c28d), lo28, hi28)) (by rfl)))
  replace hS := hS.addI (show RI w2 (iv s28d A_28d n28d c28d) z28d from RG.at3 (hK.at_ 23 (e := ((gv s28a A_28a n28a c28a s28b A_28b n28b c28b s28d A_28d n28d c28d), lo28, hi28)) (by rfl)))
  clear hK hlt_ hE_ Y3 Y2
  have k_1 := (hS.blk 0 rfl).cell
  have k_2 := (hS.blk 0 rfl).frozen
  go_wp2
  replace hS := (St.put (W' := ((((((((((((w2.setCell ⟨g4, 0, none⟩ (.bool s17a)).setCell ⟨g4, 1, none⟩ (.slice A_17a n17a c17a)).setCell ⟨g4, 2, none⟩ (.bool s17b)).setCell ⟨g4, 3, none⟩ (.slice A_17b n17b c17b)).setCell ⟨g4, 4, none⟩ (.bool s17d)).setCell ⟨g4, 5, none⟩ (.slice A_17d n17d c17d)).setCell ⟨g4, 6, none⟩ (.bool s28a)).setCell ⟨g4, 7, none⟩ (.slice A_28a n28a c28a)).setCell ⟨g4, 8, none⟩ (.bool s28b)).setCell ⟨g4, 9, none⟩ (.slice A_28b n28b c28b)).setCell ⟨g4, 10, none⟩ (.bool s28d)).setCell ⟨g4, 11, none⟩ (.slice A_28d n28d c28d))) hS 0 0 [.bool s17a, .slice A_17a n17a c17a, .bool s17b, .slice A_17b n17b c17b, .bool s17d, .slice A_17d n17d c17d, .bool s28a, .slice A_28a n28a c28a, .bool s28b, .slice A_28b n28b c28b, .bool s28d, .slice A_28d n28d c28d] (cs' := #[.bool s17a, .slice A_17a n17a c17a, .bool s17b, .slice A_17b n17b c17b, .bool s17d, .slice A_17d n17d c17d, .bool s28a, .slice A_28a n28a c28a, .bool s28b, .slice A_28b n28b c28b, .bool s28d, .slice A_28d n28d c28d]) (bs' := _) rfl o4 rfl rfl (by kernel_rfl) rfl)
  exact bp_phasor1 rfl rfl rfl (hS.blk 0 rfl) ⟨_, rfl, ⟨_, _, _, _, _, _, RP.mk (hS.num 11 rfl) (hS.num 10 rfl) (hS.num 9 rfl) (hS.num 2 rfl) (hS.num 1 rfl) (hS.num 0 rfl), I17, (S17.mono (by omega)), I28, (S28.mono (by omega))⟩, hS.ext⟩

end Go.Proofs.Ytjeijmnhbckjdaa

/- The size of numbers. -/
namespace Go.Proofs.Ytjeijmnhbckjdaa
open Go.RowKit
set_option linter.unusedVariables false

theorem GV.at_ {w : World} {v : Value} {q : GQ} {n : Nat} {a b d : Int} (h : GV w v q n) (I : Is q a b d) : RG w v a b d := by
  obtain ⟨a1, b1, d1, h1, h2, _⟩ := h
  obtain ⟨rfl, rfl, rfl⟩ := h2.unique I
  exact h1
theorem PV.at_ {w : World} {v : Value} {p : PQ} {n : Nat} {a b d x y z : Int} (h : PV w v p n) (I : Is p.u a b d) (J : Is p.v x y z) : RP w v a b d x y z := by
  obtain ⟨a1, b1, d1, x1, y1, z1, h1, h2, _, h3, _⟩ := h
  obtain ⟨rfl, rfl, rfl⟩ := h2.unique I
  obtain ⟨rfl, rfl, rfl⟩ := h3.unique J
  exact h1
/-- The number's parts have at most n bits. -/
def Bd (q : GQ) (n : Nat) : Prop := ∃ a b d : Int, Is q a b d ∧ Sz n a b d
theorem Bd.sz {q : GQ} {n : Nat} {a b d : Int} (h : Bd q n) (I : Is q a b d) : Sz n a b d := by
  obtain ⟨a1, b1, d1, h1, h2⟩ := h
  obtain ⟨rfl, rfl, rfl⟩ := h1.unique I
  exact h2
theorem Bd.mono {q : GQ} {m n : Nat} (h : Bd q m) (hmn : m ≤ n) : Bd q n := by
  obtain ⟨a, b, d, h1, h2⟩ := h
  exact ⟨a, b, d, h1, h2.mono hmn⟩
theorem Bd.add {x y : GQ} {m n : Nat} (hx : Bd x m) (hy : Bd y n) : Bd (x + y) (m + n + 1) := by
  obtain ⟨a, b, d, h1, h2⟩ := hx
  obtain ⟨a', b', d', h3, h4⟩ := hy
  obtain ⟨u, v, t, h5⟩ := is_ex (x + y)
  exact ⟨u, v, t, h5, h1.size_add h2 h3 h4 h5⟩
theorem Bd.sub {x y : GQ} {m n : Nat} (hx : Bd x m) (hy : Bd y n) : Bd (x - y) (m + n + 1) := by
  obtain ⟨a, b, d, h1, h2⟩ := hx
  obtain ⟨a', b', d', h3, h4⟩ := hy
  obtain ⟨u, v, t, h5⟩ := is_ex (x - y)
  exact ⟨u, v, t, h5, h1.size_sub h2 h3 h4 h5⟩
theorem Bd.mul {x y : GQ} {m n : Nat} (hx : Bd x m) (hy : Bd y n) : Bd (x * y) (m + n + 1) := by
  obtain ⟨a, b, d, h1, h2⟩ := hx
  obtain ⟨a', b', d', h3, h4⟩ := hy
  obtain ⟨u, v, t, h5⟩ := is_ex (x * y)
  exact ⟨u, v, t, h5, h1.size_mul h2 h3 h4 h5⟩
theorem Bd.i {a b : Int} (l1 : -9223372036854775808 ≤ a) (u1 : a ≤ 9223372036854775807) (l2 : -9223372036854775808 ≤ b) (u2 : b ≤ 9223372036854775807) : Bd (GQ.i a b) 64 := ⟨_, _, _, is_i a b, sz_i l1 u1 l2 u2⟩
theorem Bd.three : Bd (GQ.i 3 0) 2 := ⟨_, _, _, is_i 3 0, ⟨by decide, by decide, by decide⟩⟩
theorem Bd.of {q : GQ} {a b d : Int} {n : Nat} (hd : d ≠ 0) (hr : q.re = (a : Rat) / (d : Rat)) (hi : q.im = (b : Rat) / (d : Rat)) (s : Sz n a b d) : Bd q n := by
  obtain ⟨u, v, t, h⟩ := is_ex q
  exact ⟨u, v, t, h, h.size hd hr hi s⟩
theorem Bd.produ {p q : PQ} {m n : Nat} (h1 : Bd p.u m) (h2 : Bd p.v m) (h3 : Bd q.u n) (h4 : Bd q.v n) : Bd (p * q).u (2 * (m + n) + 69) := ((h1.mul h3).add (Bd.three.mul (h2.mul h4))).mono (by omega)
theorem Bd.prodv {p q : PQ} {m n : Nat} (h1 : Bd p.u m) (h2 : Bd p.v m) (h3 : Bd q.u n) (h4 : Bd q.v n) : Bd (p * q).v (2 * (m + n) + 69) := ((h1.mul h4).add (h2.mul h3)).mono (by omega)
theorem rat_half (a : Int) : (a : Rat) / ((2 : Int) : Rat) = (a : Rat) / 2 := by simp
theorem Bd.mk2 {q : GQ} {a b : Int} (hr : q.re = (a : Rat) / 2) (hi : q.im = (b : Rat) / 2) (ha : a.natAbs ≤ 3) (hb : b.natAbs ≤ 3) : Bd q 2 :=
  Bd.of (a := a) (b := b) (d := 2) (by omega) (by rw [hr, rat_half]) (by rw [hi, rat_half]) ⟨by omega, by omega, by decide⟩
/-- The powers of z are small. -/
theorem Bd.zp {k : Nat} (hk : k < 12) : Bd (PQ.zp k).u 2 ∧ Bd (PQ.zp k).v 2 := by
  have key : ∀ a b c d : Int, a.natAbs ≤ 3 → b.natAbs ≤ 3 → c.natAbs ≤ 3 → d.natAbs ≤ 3 → PQ.zp k = PQ.mk4 ((a : Rat) / 2) ((b : Rat) / 2) ((c : Rat) / 2) ((d : Rat) / 2) → Bd (PQ.zp k).u 2 ∧ Bd (PQ.zp k).v 2 := by
    intro a b c d ha hb hc hd e
    rw [e]
    exact ⟨Bd.mk2 rfl rfl ha hb, Bd.mk2 rfl rfl hc hd⟩
  have go : ∀ {a b c d : Rat} {a' b' c' d' : Int}, a = (a' : Rat) / 2 → b = (b' : Rat) / 2 → c = (c' : Rat) / 2 → d = (d' : Rat) / 2 → PQ.mk4 a b c d = PQ.mk4 ((a' : Rat) / 2) ((b' : Rat) / 2) ((c' : Rat) / 2) ((d' : Rat) / 2) := by
    intro a b c d a' b' c' d' h1 h2 h3 h4
    rw [h1, h2, h3, h4]
  match k, hk with
  | 0, _ => exact key 2 0 0 0 (by decide) (by decide) (by decide) (by decide) (PQ.zp0.trans (go (by grind) (by grind) (by grind) (by grind)))
  | 1, _ => exact key 0 1 1 0 (by decide) (by decide) (by decide) (by decide) (PQ.zp1.trans (go (by grind) (by grind) (by grind) (by grind)))
  | 2, _ => exact key 1 0 0 1 (by decide) (by decide) (by decide) (by decide) (PQ.zp2.trans (go (by grind) (by grind) (by grind) (by grind)))
  | 3, _ => exact key 0 2 0 0 (by decide) (by decide) (by decide) (by decide) (PQ.zp3.trans (go (by grind) (by grind) (by grind) (by grind)))
  | 4, _ => exact key (-1) 0 0 1 (by decide) (by decide) (by decide) (by decide) (PQ.zp4.trans (go (by grind) (by grind) (by grind) (by grind)))
  | 5, _ => exact key 0 1 (-1) 0 (by decide) (by decide) (by decide) (by decide) (PQ.zp5.trans (go (by grind) (by grind) (by grind) (by grind)))
  | 6, _ => exact key (-2) 0 0 0 (by decide) (by decide) (by decide) (by decide) (PQ.zp6.trans (go (by grind) (by grind) (by grind) (by grind)))
  | 7, _ => exact key 0 (-1) (-1) 0 (by decide) (by decide) (by decide) (by decide) (PQ.zp7.trans (go (by grind) (by grind) (by grind) (by grind)))
  | 8, _ => exact key (-1) 0 0 (-1) (by decide) (by decide) (by decide) (by decide) (PQ.zp8.trans (go (by grind) (by grind) (by grind) (by grind)))
  | 9, _ => exact key 0 (-2) 0 0 (by decide) (by decide) (by decide) (by decide) (PQ.zp9.trans (go (by grind) (by grind) (by grind) (by grind)))
  | 10, _ => exact key 1 0 0 (-1) (by decide) (by decide) (by decide) (by decide) (PQ.zp10.trans (go (by grind) (by grind) (by grind) (by grind)))
  | 11, _ => exact key 0 (-1) 1 0 (by decide) (by decide) (by decide) (by decide) (PQ.zp11.trans (go (by grind) (by grind) (by grind) (by grind)))
end Go.Proofs.Ytjeijmnhbckjdaa

/- Contracts of the calculator: turning by powers of i. -/
namespace Go.Proofs.Ytjeijmnhbckjdaa
open Go.RowKit
set_option linter.unusedVariables false

theorem neg_lim {z : Int} (h : z.natAbs < lim) : (-z).natAbs < lim := by rwa [Int.natAbs_neg]
/-- Powers of i. -/
def GQ.ip : Nat → GQ
  | 0 => GQ.i 1 0
  | n + 1 => GQ.ip n * GQ.i 0 1
theorem GQ.mul_i1 (q : GQ) : q * GQ.i 1 0 = q := by
  ext <;> simp only [GQ.mul_re, GQ.mul_im, GQ.i_re, GQ.i_im] <;> grind
theorem Is.turn {q : GQ} {a b d : Int} {k : Nat} (h : Is (q * GQ.ip k) a b d) : Is (q * GQ.ip (k + 1)) (-b) a d := by
  have e : q * GQ.ip (k + 1) = (q * GQ.ip k) * GQ.i 0 1 := (GQ.mul_assoc' q (GQ.ip k) (GQ.i 0 1)).symm
  rw [e]
  have hd := cast_ne h.dne
  refine ⟨⟨h.low.1, ?_⟩, ?_, ?_⟩
  · have := h.low.2
    unfold g3 at *
    rw [Int.natAbs_neg, Nat.gcd_assoc, Nat.gcd_comm b.natAbs, ← Nat.gcd_assoc]
    exact this
  · rw [GQ.mul_re, h.re, h.im]; simp only [GQ.i_re, GQ.i_im, Rat.intCast_neg]; grind
  · rw [GQ.mul_im, h.re, h.im]; simp only [GQ.i_re, GQ.i_im]; grind
theorem Sz.turn {n : Nat} {a b d : Int} (h : Sz n a b d) : Sz n (-b) a d := ⟨by rw [Int.natAbs_neg]; exact h.b, h.a, h.d⟩

set_option maxRecDepth 100000 in
set_option maxHeartbeats 3200000 in
theorem erotate_w (gc : Nat) (v1 : Value) (q1 : GQ) (n1 : Nat) (K : Nat) (w : World) (hc : Calm w gc) (hX1 : GV w v1 q1 n1)
     (hn : n1 ≤ 12800) (hK : K ≤ 100) :
    Calls Try.prog 37 #[.pointer (some ⟨gc, 0, none⟩), v1, .int .i64 ((K : Int))] w fun e w' => ∃ v, e = .returned v ∧ GV w' v (q1 * GQ.ip K) (n1) ∧ Ext w w' := by
  have hS := St.start w
  obtain ⟨x1a, x1b, x1d, hX1, I1, S1⟩ := hX1
  obtain ⟨sx1a, Ax1a, nx1a, cx1a, sx1b, Ax1b, nx1b, cx1b, sx1d, Ax1d, nx1d, cx1d, rfl, hx1a, hx1b, hx1d⟩ := hX1
  replace hS := hS.addI hx1a
  clear hx1a
  replace hS := hS.addI hx1b
  clear hx1b
  replace hS := hS.addI hx1d
  clear hx1d
  replace hS := hS.addB hc trivial
  clear hc
  have o4 : Own w w.heap.size := Own.of hS.ext (by simp)
  have o6 : Own w (w.heap.size + 1) := Own.of hS.ext (by simp)
  go_enter Try.func37, Try.ntmps37
  go_wp2_with fail
  replace hS := (St.al (St.al hS 26 #[.bool sx1a, .slice Ax1a nx1a cx1a, .bool sx1b, .slice Ax1b nx1b cx1b, .bool sx1d, .slice Ax1d nx1d cx1d] (g := w.heap.size) (by simp)) 26 #[.bool false, .slice none 0 0, .bool false, .slice none 0 0, .bool false, .slice none 0 0] (g := (w.heap.size + 1)) (by simp))
  generalize ((w.alloc (.cells #[.bool sx1a, .slice Ax1a nx1a cx1a, .bool sx1b, .slice Ax1b nx1b cx1b, .bool sx1d, .slice Ax1d nx1d cx1d] 26)).alloc (.cells #[.bool false, .slice none 0 0, .bool false, .slice none 0 0, .bool false, .slice none 0 0] 26)) = w1 at hS ⊢
  generalize w.heap.size + 1 = g6 at hS o6 ⊢
  generalize w.heap.size = g4 at hS o4 ⊢
  have Y4 := ExtOf.blk (hS.blk 1 rfl)
  have hE_ := hS.ext
  refine wp_region_tame 8 (hasF [(2, .any), (5, .any), (6, .any), (7, .any)]) (Fcs [(2, .ri (x1a)), (5, .ri (x1b)), (6, .box 24 #[.bool false, .slice none 0 0]), (7, .box 24 #[.bool false, .slice none 0 0])]) (Fcs_stab _) (by kernel_rfl) (by kernel_rfl) ?_
  simp only [List.take_succ_cons, List.take_zero, List.drop_succ_cons, List.drop_zero]
  refine wpT_quiet 2 (by rfl) (by kernel_rfl) ?_
  simp only [List.take_succ_cons, List.take_zero, List.drop_succ_cons, List.drop_zero]
  repeat (go_big_quiet_step (fail))
  refine wpQuiet_nil ?_
  refine wpT_eff (by rfl) (by rfl) (by rfl) ?_ ?_
  · intro W_ hK
    have hW := hK.1
    clear hK
    go_simp
    exact ⟨rfl, (eclone_any _ x1a _ (RI.ext (hS.num 2 rfl) hW) (lim_of S1.a (by omega))).mono fun e w' ⟨v, he, hR, hx⟩ => ⟨v, he, hx, hR⟩⟩
  intro v_ lo11 hi11 hr_
  obtain ⟨W_, hW_⟩ := hr_
  have hv_ : Fc.holds (.ri (x1a)) lo11 hi11 v_ W_ := hW_.get
  clear hW_
  obtain ⟨s11, A_11, n11, c11, rfl, -⟩ := RI.opn hv_
  clear hv_
  clear W_
  try simp only [Act.put, List.setIfInBounds_toArray, List.set_cons_succ, List.set_cons_zero]
  refine wpT_quiet 2 (by rfl) (by kernel_rfl) ?_
  simp only [List.take_succ_cons, List.take_zero, List.drop_succ_cons, List.drop_zero]
  repeat (go_big_quiet_step (fail))
  refine wpQuiet_nil ?_
  refine wpT_eff (by rfl) (by rfl) (by rfl) ?_ ?_
  · intro W_ hK
    have hW := hK.1
    clear hK
    go_simp
    exact ⟨rfl, (eclone_any _ x1b _ (RI.ext (hS.num 1 rfl) hW) (lim_of S1.b (by omega))).mono fun e w' ⟨v, he, hR, hx⟩ => ⟨v, he, hx, hR⟩⟩
  intro v_ lo14 hi14 hr_
  obtain ⟨W_, hW_⟩ := hr_
  have hv_ : Fc.holds (.ri (x1b)) lo14 hi14 v_ W_ := hW_.get
  clear hW_
  obtain ⟨s14, A_14, n14, c14, rfl, -⟩ := RI.opn hv_
  clear hv_
  clear W_
  try simp only [Act.put, List.setIfInBounds_toArray, List.set_cons_succ, List.set_cons_zero]
  refine wpT_eff (by rfl) (by rfl) (by rfl) ?_ ?_
  · intro W_ hK
    go_simp
    exact ⟨Ext.new _ _, rfl, by simp, Blk.new _ _ _⟩
  intro v_ g7 hi7 hr_
  obtain ⟨W_, hW_⟩ := hr_
  obtain ⟨rfl, hl7, -⟩ : Fc.holds (.box 24 #[.bool false, .slice none 0 0]) g7 hi7 v_ W_ := hW_.get
  clear hW_ W_
  try simp only [Act.put, List.setIfInBounds_toArray, List.set_cons_succ, List.set_cons_zero]
  refine wpT_eff (by rfl) (by rfl) (by rfl) ?_ ?_
  · intro W_ hK
    go_simp
    exact ⟨Ext.new _ _, rfl, by simp, Blk.new _ _ _⟩
  intro v_ g8 hi8 hr_
  obtain ⟨W_, hW_⟩ := hr_
  obtain ⟨rfl, hl8, -⟩ : Fc.holds (.box 24 #[.bool false, .slice none 0 0]) g8 hi8 v_ W_ := hW_.get
  clear hW_ W_
  try simp only [Act.put, List.setIfInBounds_toArray, List.set_cons_succ, List.set_cons_zero]
  refine wpT_nil ?_
  intro w2 hK
  have hlt_ := hS.lt
  replace hS := hS.mv hK.ext
  replace hS := hS.addI (show RI w2 (iv s11 A_11 n11 c11) x1a from hK.at_ 2 (e := ((iv s11 A_11 n11 c11), lo11, hi11)) (by rfl))
  replace hS := hS.addI (show RI w2 (iv s14 A_14 n14 c14) x1b from hK.at_ 5 (e := ((iv s14 A_14 n14 c14), lo14, hi14)) (by rfl))
  have lw7 : w1.heap.size ≤ g7 := hK.low 6 _ (by rfl)
  have o7 : Own w g7 := Own.of hE_ lw7
  replace hS := hS.addB (show Blk w2 g7 24 #[.bool false, .slice none 0 0] from (hK.at_ 6 (by rfl)).2.2) (apart_of fun p hp => Nat.ne_of_lt (Nat.lt_of_lt_of_le (hlt_ p hp) lw7))
  have lw8 : w1.heap.size ≤ g8 := hK.low 7 _ (by rfl)
  have o8 : Own w g8 := Own.of hE_ lw8
  replace hS := hS.addB (show Blk w2 g8 24 #[.bool false, .slice none 0 0] from (hK.at_ 7 (by rfl)).2.2) ⟨tame_ne hl7 hl8 (hK.disj 6 7 _ _ (by omega) (by rfl) (by rfl)), (apart_of fun p hp => Nat.ne_of_lt (Nat.lt_of_lt_of_le (hlt_ p hp) lw8))⟩
  clear hK hlt_ hE_ Y4
  clear lw7 hl7 hi7
  clear lw8 hl8 hi8
  have k_1 := (hS.blk 1 rfl).cell
  have k_2 := (hS.blk 1 rfl).frozen
  have hT1 := (St.put (W' := ((w2.setCell ⟨g7, 0, none⟩ (.bool s11)).setCell ⟨g7, 1, none⟩ (.slice A_11 n11 c11))) hS 1 0 [.bool s11, .slice A_11 n11 c11] (cs' := #[.bool s11, .slice A_11 n11 c11]) (bs' := _) rfl o7 rfl rfl (by kernel_rfl) rfl)
  have k_3 := (hT1.blk 0 rfl).cell
  have k_4 := (hT1.blk 0 rfl).frozen
  go_wp2_with fail
  clear k_1 k_2 k_3 k_4
  clear hT1
  replace hS := (St.put (W' := ((((w2.setCell ⟨g7, 0, none⟩ (.bool s11)).setCell ⟨g7, 1, none⟩ (.slice A_11 n11 c11)).setCell ⟨g8, 0, none⟩ (.bool s14)).setCell ⟨g8, 1, none⟩ (.slice A_14 n14 c14))) (St.put (W' := ((w2.setCell ⟨g7, 0, none⟩ (.bool s11)).setCell ⟨g7, 1, none⟩ (.slice A_11 n11 c11))) hS 1 0 [.bool s11, .slice A_11 n11 c11] (cs' := #[.bool s11, .slice A_11 n11 c11]) (bs' := _) rfl o7 rfl rfl (by kernel_rfl) rfl) 0 0 [.bool s14, .slice A_14 n14 c14] (cs' := #[.bool s14, .slice A_14 n14 c14]) (bs' := _) rfl o8 rfl rfl (by kernel_rfl) rfl)
  simp only [List.set_cons_zero, List.set_cons_succ] at hS
  generalize ((((w2.setCell ⟨g7, 0, none⟩ (.bool s11)).setCell ⟨g7, 1, none⟩ (.slice A_11 n11 c11)).setCell ⟨g8, 0, none⟩ (.bool s14)).setCell ⟨g8, 1, none⟩ (.slice A_14 n14 c14)) = w3 at hS ⊢
  go_loopw [16] (fun i wr => ∃ k : Nat, k ≤ K ∧ i = .int .i64 (k : Int) ∧ ∃ (y7_a y8_a : Int) (s7_a s8_a : Bool) (A_7_a A_8_a : Option Addr) (n7_a c7_a n8_a c8_a : Nat), (Is (q1 * GQ.ip k) y7_a y8_a x1d ∧ Sz n1 y7_a y8_a x1d) ∧ St w wr [(g8, 24, #[.bool s8_a, .slice A_8_a n8_a c8_a]), (g7, 24, #[.bool s7_a, .slice A_7_a n7_a c7_a]), (g6, 26, #[.bool false, .slice none 0 0, .bool false, .slice none 0 0, .bool false, .slice none 0 0]), (g4, 26, #[.bool sx1a, .slice Ax1a nx1a cx1a, .bool sx1b, .slice Ax1b nx1b cx1b, .bool sx1d, .slice Ax1d nx1d cx1d]), (gc, 59, #[.int .i64 0])] [nz (iv s7_a A_7_a n7_a c7_a) (y7_a), nz (iv s8_a A_8_a n8_a c8_a) (y8_a), nz (iv sx1a Ax1a nx1a cx1a) (x1a), nz (iv sx1b Ax1b nx1b cx1b) (x1b), nz (iv sx1d Ax1d nx1d cx1d) (x1d)]) (fun i _ => K - (intOf i).toNat)
  case atStart => exact ⟨0, by omega, rfl, x1a, x1b, s11, s14, A_11, A_14, n11, c11, n14, c14, ⟨by rw [show GQ.ip 0 = GQ.i 1 0 from rfl, GQ.mul_i1]; exact I1, S1⟩, hS.sel [1, 0, 4, 3, 2] rfl⟩
  case round =>
    clear hS
    obtain ⟨k, hk, rfl, y7_a, y8_a, s7_a, s8_a, A_7_a, A_8_a, n7_a, c7_a, n8_a, c8_a, hpure, hS⟩ := hrel
    by_cases hkL : k < K
    · skip
      go_wp2_with fail
      have Y8 := ExtOf.blk (hS.blk 0 rfl)
      have Y7 := ExtOf.blk (hS.blk 1 rfl)
      have hE_ := hS.ext
      refine wp_region_tame 4 (hasF [(2, .any)]) (Fcs [(2, .ri ((-y8_a)))]) (Fcs_stab _) (by kernel_rfl) (by kernel_rfl) ?_
      simp only [List.take_succ_cons, List.take_zero, List.drop_succ_cons, List.drop_zero]
      refine wpT_quiet 2 (by rfl) (by kernel_rfl) ?_
      simp only [List.take_succ_cons, List.take_zero, List.drop_succ_cons, List.drop_zero]
      repeat (go_big_quiet_step (fail))
      refine wpQuiet_nil ?_
      refine wpT_eff (by rfl) (by rfl) (by rfl) ?_ ?_
      · intro W_ hK
        have hW := hK.1
        clear hK
        go_simp
        exact ⟨rfl, (eneg_ok gc _ y8_a (-y8_a) _ (Blk.ext (hS.blk 4 rfl) hW) (RI.ext (hS.num 1 rfl) hW) (lim_of hpure.2.b (by omega)) rfl).mono fun e w' ⟨v, he, hR, hx⟩ => ⟨v, he, hx, hR⟩⟩
      intro v_ lo20 hi20 hr_
      obtain ⟨W_, hW_⟩ := hr_
      have hv_ : Fc.holds (.ri ((-y8_a))) lo20 hi20 v_ W_ := hW_.get
      clear hW_
      obtain ⟨s20, A_20, n20, c20, rfl, -⟩ := RI.opn hv_
      clear hv_
      clear W_
      try simp only [Act.put, List.setIfInBounds_toArray, List.set_cons_succ, List.set_cons_zero]
      refine wpT_quiet 1 (by rfl) (by kernel_rfl) ?_
      simp only [List.take_succ_cons, List.take_zero, List.drop_succ_cons, List.drop_zero]
      repeat (go_big_quiet_step (fail))
      refine wpQuiet_nil ?_
      refine wpT_nil ?_
      intro w4 hK
      have hlt_ := hS.lt
      replace hS := hS.mv hK.ext
      replace hS := hS.addI (show RI w4 (iv s20 A_20 n20 c20) (-y8_a) from hK.at_ 2 (e := ((iv s20 A_20 n20 c20), lo20, hi20)) (by rfl))
      clear hK hlt_ hE_ Y8 Y7
      have k_5 := (hS.blk 1 rfl).cell
      have k_6 := (hS.blk 1 rfl).frozen
      have hT2 := (St.put (W' := ((w4.setCell ⟨g7, 0, none⟩ (.bool s20)).setCell ⟨g7, 1, none⟩ (.slice A_20 n20 c20))) hS 1 0 [.bool s20, .slice A_20 n20 c20] (cs' := #[.bool s20, .slice A_20 n20 c20]) (bs' := _) rfl o7 rfl rfl (by kernel_rfl) rfl)
      have k_7 := (hT2.blk 0 rfl).cell
      have k_8 := (hT2.blk 0 rfl).frozen
      go_wp2
      replace hS := (St.put (W' := ((((w4.setCell ⟨g7, 0, none⟩ (.bool s20)).setCell ⟨g7, 1, none⟩ (.slice A_20 n20 c20)).setCell ⟨g8, 0, none⟩ (.bool s7_a)).setCell ⟨g8, 1, none⟩ (.slice A_7_a n7_a c7_a))) (St.put (W' := ((w4.setCell ⟨g7, 0, none⟩ (.bool s20)).setCell ⟨g7, 1, none⟩ (.slice A_20 n20 c20))) hS 1 0 [.bool s20, .slice A_20 n20 c20] (cs' := #[.bool s20, .slice A_20 n20 c20]) (bs' := _) rfl o7 rfl rfl (by kernel_rfl) rfl) 0 0 [.bool s7_a, .slice A_7_a n7_a c7_a] (cs' := #[.bool s7_a, .slice A_7_a n7_a c7_a]) (bs' := _) rfl o8 rfl rfl (by kernel_rfl) rfl)
      go_roundw
      case rel => exact ⟨k + 1, by omega, by go_num, (-y8_a), y7_a, s20, s7_a, A_20, A_7_a, n20, c20, n7_a, c7_a, ⟨hpure.1.turn, hpure.2.turn⟩, St.sel hS [0, 1, 3, 4, 5] rfl⟩
      case measure => simp [intOf] <;> omega
    · obtain rfl : k = K := by omega
      go_wp2_with fail
      have Y8 := ExtOf.blk (hS.blk 0 rfl)
      have Y7 := ExtOf.blk (hS.blk 1 rfl)
      have Y4 := ExtOf.blk (hS.blk 3 rfl)
      have hE_ := hS.ext
      refine wp_region_tame 6 (hasF [(4, .any)]) (Fcs [(4, .ri (x1d))]) (Fcs_stab _) (by kernel_rfl) (by kernel_rfl) ?_
      simp only [List.take_succ_cons, List.take_zero, List.drop_succ_cons, List.drop_zero]
      refine wpT_quiet 4 (by rfl) (by kernel_rfl) ?_
      simp only [List.take_succ_cons, List.take_zero, List.drop_succ_cons, List.drop_zero]
      repeat (go_big_quiet_step (fail))
      refine wpQuiet_nil ?_
      refine wpT_eff (by rfl) (by rfl) (by rfl) ?_ ?_
      · intro W_ hK
        have hW := hK.1
        clear hK
        go_simp
        exact ⟨rfl, (eclone_any _ x1d _ (RI.ext (hS.num 4 rfl) hW) (lim_of S1.d (by omega))).mono fun e w' ⟨v, he, hR, hx⟩ => ⟨v, he, hx, hR⟩⟩
      intro v_ lo27 hi27 hr_
      obtain ⟨W_, hW_⟩ := hr_
      have hv_ : Fc.holds (.ri (x1d)) lo27 hi27 v_ W_ := hW_.get
      clear hW_
      obtain ⟨s27, A_27, n27, c27, rfl, -⟩ := RI.opn hv_
      clear hv_
      clear W_
      try simp only [Act.put, List.setIfInBounds_toArray, List.set_cons_succ, List.set_cons_zero]
      refine wpT_quiet 1 (by rfl) (by kernel_rfl) ?_
      simp only [List.take_succ_cons, List.take_zero, List.drop_succ_cons, List.drop_zero]
      repeat (go_big_quiet_step (fail))
      refine wpQuiet_nil ?_
      refine wpT_nil ?_
      intro w5 hK
      have hlt_ := hS.lt
      replace hS := hS.mv hK.ext
      replace hS := hS.addI (show RI w5 (iv s27 A_27 n27 c27) x1d from hK.at_ 4 (e := ((iv s27 A_27 n27 c27), lo27, hi27)) (by rfl))
      clear hK hlt_ hE_ Y8 Y7 Y4
      have k_9 := (hS.blk 2 rfl).cell
      have k_10 := (hS.blk 2 rfl).frozen
      go_wp2
      replace hS := (St.put (W' := ((((((w5.setCell ⟨g6, 0, none⟩ (.bool s7_a)).setCell ⟨g6, 1, none⟩ (.slice A_7_a n7_a c7_a)).setCell ⟨g6, 2, none⟩ (.bool s8_a)).setCell ⟨g6, 3, none⟩ (.slice A_8_a n8_a c8_a)).setCell ⟨g6, 4, none⟩ (.bool s27)).setCell ⟨g6, 5, none⟩ (.slice A_27 n27 c27))) hS 2 0 [.bool s7_a, .slice A_7_a n7_a c7_a, .bool s8_a, .slice A_8_a n8_a c8_a, .bool s27, .slice A_27 n27 c27] (cs' := #[.bool s7_a, .slice A_7_a n7_a c7_a, .bool s8_a, .slice A_8_a n8_a c8_a, .bool s27, .slice A_27 n27 c27]) (bs' := _) rfl o6 rfl rfl (by kernel_rfl) rfl)
      exact bp_gauss1 rfl rfl rfl (hS.blk 2 rfl) ⟨_, rfl, ⟨_, _, _, RG.mk (hS.num 1 rfl) (hS.num 2 rfl) (hS.num 0 rfl), hpure.1, hpure.2⟩, hS.ext⟩

theorem erotate_ok (gc : Nat) (v1 : Value) (q1 : GQ) (n1 K : Nat) (w : World) (hc : Calm w gc) (hX1 : GV w v1 q1 n1) (hn : n1 ≤ 12800) (hK : K ≤ 100) :
    Calls Try.prog 37 #[.pointer (some ⟨gc, 0, none⟩), v1, .int .i64 (K : Int)] w fun e w' => ∃ v, e = .returned v ∧ GV w' v (q1 * GQ.ip K) n1 ∧ Ext w w' := erotate_w gc v1 q1 n1 K w hc hX1 hn hK
end Go.Proofs.Ytjeijmnhbckjdaa

/- The specification of numbers: powers of z. -/
namespace Go.Proofs.Ytjeijmnhbckjdaa
open Go.RowKit
set_option linter.unusedVariables false

theorem toRP {f : FuncId} {args : Array Value} {w : World} {p : PQ} {n : Nat} {a b d x y z : Int} (h : Calls Try.prog f args w fun e w' => ∃ v, e = .returned v ∧ PV w' v p n ∧ Ext w w') (I : Is p.u a b d) (J : Is p.v x y z) :
    Calls Try.prog f args w fun e w' => ∃ v, e = .returned v ∧ RP w' v a b d x y z ∧ Ext w w' := h.mono fun e w' ⟨v, he, hR, hx⟩ => ⟨v, he, hR.at_ I J, hx⟩
theorem toRG {f : FuncId} {args : Array Value} {w : World} {q : GQ} {n : Nat} {a b d : Int} (h : Calls Try.prog f args w fun e w' => ∃ v, e = .returned v ∧ GV w' v q n ∧ Ext w w') (I : Is q a b d) :
    Calls Try.prog f args w fun e w' => ∃ v, e = .returned v ∧ RG w' v a b d ∧ Ext w w' := h.mono fun e w' ⟨v, he, hR, hx⟩ => ⟨v, he, hR.at_ I, hx⟩
theorem toTP {f : FuncId} {args : Array Value} {w : World} {p : PQ} {n : Nat} {a b d x y z e0 : Int} (h : Calls Try.prog f args w fun e w' => ∃ v, e = .returned v ∧ (∃ u, v = .tuple #[u, .int .i64 e0] ∧ PV w' u p n) ∧ Ext w w') (I : Is p.u a b d) (J : Is p.v x y z) :
    Calls Try.prog f args w fun e w' => ∃ v, e = .returned v ∧ (∃ u, v = .tuple #[u, .int .i64 e0] ∧ RP w' u a b d x y z) ∧ Ext w w' := h.mono fun e w' ⟨v, he, ⟨u, hu, hR⟩, hx⟩ => ⟨v, he, ⟨u, hu, hR.at_ I J⟩, hx⟩
theorem toTG {f : FuncId} {args : Array Value} {w : World} {q : GQ} {n : Nat} {a b d e0 : Int} (h : Calls Try.prog f args w fun e w' => ∃ v, e = .returned v ∧ (∃ u, v = .tuple #[u, .int .i64 e0] ∧ GV w' u q n) ∧ Ext w w') (I : Is q a b d) :
    Calls Try.prog f args w fun e w' => ∃ v, e = .returned v ∧ (∃ u, v = .tuple #[u, .int .i64 e0] ∧ RG w' u a b d) ∧ Ext w w' := h.mono fun e w' ⟨v, he, ⟨u, hu, hR⟩, hx⟩ => ⟨v, he, ⟨u, hu, hR.at_ I⟩, hx⟩
theorem mod12 {m : Int} {K : Nat} (h : m % 12 = (K : Int)) : (m.tmod 12 + 12).tmod 12 = (K : Int) := by
  have h1 : -12 < m.tmod 12 ∧ m.tmod 12 < 12 := ⟨by have := Int.lt_tmod_of_pos m (b := 12) (by omega); omega, Int.tmod_lt_of_pos m (by omega)⟩
  have h2 : m.tmod 12 % 12 = m % 12 := by
    have := Int.mul_tdiv_add_tmod m 12
    omega
  rw [Int.tmod_eq_emod_of_nonneg (by omega)]
  omega
theorem mod12w {m : Int} {K : Nat} (h : m % 12 = (K : Int)) : (wrap64 (m.tmod 12 + 12)).tmod 12 = (K : Int) := by
  have h1 : -12 < m.tmod 12 ∧ m.tmod 12 < 12 := ⟨by have := Int.lt_tmod_of_pos m (b := 12) (by omega); omega, Int.tmod_lt_of_pos m (by omega)⟩
  have e : wrap64 (m.tmod 12 + 12) = m.tmod 12 + 12 := by
    generalize m.tmod 12 = t at *
    first | (unfold wrap64; omega) | go_num | (simp [wrap64]; omega)
  rw [e]
  exact mod12 h
theorem nf_half : ((1 : Int), (0 : Int), (2 : Int)) = nf 1 0 2 := by decide
theorem is_half : Is PQ.half 1 0 2 := by
  have := is_nf (a := 1) (b := 0) (d := 2) (by omega)
  rw [← nf_half] at this
  refine ⟨this.low, ?_, ?_⟩
  · show (1 / 2 : Rat) = ((1 : Int) : Rat) / ((2 : Int) : Rat); grind
  · show (0 : Rat) = ((0 : Int) : Rat) / ((2 : Int) : Rat); grind
theorem sz_half : Sz 2 1 0 2 := ⟨by decide, by decide, by decide⟩
theorem bd_half : Bd PQ.half 2 := ⟨_, _, _, is_half, sz_half⟩
theorem is_z : ∃ a b d : Int, Is PQ.z.u a b d ∧ Sz 69 a b d := by
  obtain ⟨a, b, d, h⟩ := is_ex PQ.z.u
  exact ⟨a, b, d, h, ((bd_half.mul (Bd.i (a := 0) (b := 1) (by omega) (by omega) (by omega) (by omega))).mono (by omega)).sz h⟩

set_option maxRecDepth 100000 in
set_option maxHeartbeats 6400000 in
theorem qRoot_w (m0 : Int) (K : Nat) (w : World) (l0 : -9223372036854775808 ≤ m0) (u0 : m0 ≤ 9223372036854775807)
     (HK : Hid (m0 % 12 = (K : Int))) (hK : K < 12) :
    Calls Try.prog 28 #[.int .i64 m0] w fun e w' => ∃ v, e = .returned v ∧ PV w' v (PQ.zp K) (2) ∧ Ext w w' := by
  have hS := St.start w
  have e12 := mod12w HK.out
  have o2 : Own w w.heap.size := Own.of hS.ext (by simp)
  go_enter Try.func28, Try.ntmps28
  go_wp2_with fail
  replace hS := (St.al hS 28 #[.bool false, .slice none 0 0, .bool false, .slice none 0 0, .bool false, .slice none 0 0, .bool false, .slice none 0 0, .bool false, .slice none 0 0, .bool false, .slice none 0 0] (g := w.heap.size) (by simp))
  generalize (w.alloc (.cells #[.bool false, .slice none 0 0, .bool false, .slice none 0 0, .bool false, .slice none 0 0, .bool false, .slice none 0 0, .bool false, .slice none 0 0, .bool false, .slice none 0 0] 28)) = w1 at hS ⊢
  generalize w.heap.size = g2 at hS o2 ⊢
  refine (qOf_ok (1) _ (by omega) (by omega)).mono ?_
  rintro e w2 ⟨v_, rfl, hv_, hx_⟩
  replace hS := hS.mv hx_
  clear hx_
  obtain ⟨s11, A_11, n11, c11, rfl, f_s11⟩ := RI.opn hv_
  clear hv_
  replace hS := hS.addI f_s11
  clear f_s11
  go_wp2_with fail
  refine (qOf_ok (0) _ (by omega) (by omega)).mono ?_
  rintro e w3 ⟨v_, rfl, hv_, hx_⟩
  replace hS := hS.mv hx_
  clear hx_
  obtain ⟨s12, A_12, n12, c12, rfl, f_s12⟩ := RI.opn hv_
  clear hv_
  replace hS := hS.addI f_s12
  clear f_s12
  go_wp2_with fail
  refine (qOf_ok (2) _ (by omega) (by omega)).mono ?_
  rintro e w4 ⟨v_, rfl, hv_, hx_⟩
  replace hS := hS.mv hx_
  clear hx_
  obtain ⟨s13, A_13, n13, c13, rfl, f_s13⟩ := RI.opn hv_
  clear hv_
  replace hS := hS.addI f_s13
  clear f_s13
  go_wp2_with fail
  refine (qMake_ok _ _ _ (1 : Int) (0 : Int) (2 : Int) (1 : Int) (0 : Int) (2 : Int) _ (hS.num 2 rfl) (hS.num 1 rfl) (hS.num 0 rfl) (lt_lim64 (by omega) (by omega)) (lt_lim64 (by omega) (by omega)) (lt_lim64 (by omega) (by omega)) (by omega) nf_half).mono ?_
  rintro e w5 ⟨v_, rfl, hv_, hx_⟩
  replace hS := hS.mv hx_
  clear hx_
  obtain ⟨s14a, A_14a, n14a, c14a, s14b, A_14b, n14b, c14b, s14d, A_14d, n14d, c14d, rfl, f_s14a, f_s14b, f_s14d⟩ := hv_
  replace hS := hS.addI f_s14a
  clear f_s14a
  replace hS := hS.addI f_s14b
  clear f_s14b
  replace hS := hS.addI f_s14d
  clear f_s14d
  have o3 : Own w w5.heap.size := Own.of hS.ext (by simp)
  have hT1 := (St.al hS 26 #[.bool false, .slice none 0 0, .bool false, .slice none 0 0, .bool false, .slice none 0 0] (g := w5.heap.size) (by simp))
  have k_1 := (hT1.blk 0 rfl).cell
  have k_2 := (hT1.blk 0 rfl).frozen
  go_wp2_with fail
  clear k_1 k_2
  clear hT1
  replace hS := (St.al hS 26 #[.bool s14a, .slice A_14a n14a c14a, .bool s14b, .slice A_14b n14b c14b, .bool s14d, .slice A_14d n14d c14d] (g := w5.heap.size) (by simp))
  generalize (w5.alloc (.cells #[.bool s14a, .slice A_14a n14a c14a, .bool s14b, .slice A_14b n14b c14b, .bool s14d, .slice A_14d n14d c14d] 26)) = w6 at hS ⊢
  generalize w5.heap.size = g3 at hS o3 ⊢
  obtain ⟨z17a, z17b, z17d, I17⟩ := is_ex (PQ.half * (GQ.i (0) (1)))
  have K17 := MulOk.of is_half sz_half (is_i (0) (1)) (sz_i (by omega) (by omega) (by omega) (by omega)) I17 (by omega)
  have S17 := K17.size
  have Y3 := ExtOf.blk (hS.blk 0 rfl)
  have hE_ := hS.ext
  refine wp_region_tame 6 (hasF [(1, .any), (2, .any), (5, .any)]) (Fcs [(1, .rg ((0 : Int)) ((1 : Int)) ((1 : Int))), (2, .rg (z17a) (z17b) (z17d)), (5, .box 28 #[.bool false, .slice none 0 0, .bool false, .slice none 0 0, .bool false, .slice none 0 0, .bool false, .slice none 0 0, .bool false, .slice none 0 0, .bool false, .slice none 0 0])]) (Fcs_stab _) (by kernel_rfl) (by kernel_rfl) ?_
  simp only [List.take_succ_cons, List.take_zero, List.drop_succ_cons, List.drop_zero]
  refine wpT_quiet 1 (by rfl) (by kernel_rfl) ?_
  simp only [List.take_succ_cons, List.take_zero, List.drop_succ_cons, List.drop_zero]
  repeat (go_big_quiet_step (fail))
  refine wpQuiet_nil ?_
  refine wpT_eff (by rfl) (by rfl) (by rfl) ?_ ?_
  · intro W_ hK
    have hW := hK.1
    clear hK
    go_simp
    exact ⟨rfl, (qInt_ok (0) (1) _ (by omega) (by omega) (by omega) (by omega)).mono fun e w' ⟨v, he, hR, hx⟩ => ⟨v, he, hx, hR⟩⟩
  intro v_ lo16 hi16 hr_
  obtain ⟨W_, hW_⟩ := hr_
  have hv_ : Fc.holds (.rg ((0 : Int)) ((1 : Int)) ((1 : Int))) lo16 hi16 v_ W_ := hW_.get
  clear hW_
  obtain ⟨s16a, A_16a, n16a, c16a, s16b, A_16b, n16b, c16b, s16d, A_16d, n16d, c16d, rfl, -, -, -⟩ := hv_
  clear W_
  try simp only [Act.put, List.setIfInBounds_toArray, List.set_cons_succ, List.set_cons_zero]
  refine wpT_eff (by rfl) (by rfl) (by rfl) ?_ ?_
  · intro W_ hK
    have hW := hK.1
    have F_s16a : RI W_ (iv s16a A_16a n16a c16a) (0 : Int) := RG.at1 (hK.2 1 ((gv s16a A_16a n16a c16a s16b A_16b n16b c16b s16d A_16d n16d c16d), lo16, hi16) (by rfl) (by kernel_rfl))
    have F_s16b : RI W_ (iv s16b A_16b n16b c16b) (1 : Int) := RG.at2 (hK.2 1 ((gv s16a A_16a n16a c16a s16b A_16b n16b c16b s16d A_16d n16d c16d), lo16, hi16) (by rfl) (by kernel_rfl))
    have F_s16d : RI W_ (iv s16d A_16d n16d c16d) (1 : Int) := RG.at3 (hK.2 1 ((gv s16a A_16a n16a c16a s16b A_16b n16b c16b s16d A_16d n16d c16d), lo16, hi16) (by rfl) (by kernel_rfl))
    clear hK
    go_simp
    exact ⟨rfl, (qMul_ok _ _ (1 : Int) (0 : Int) (2 : Int) (0 : Int) (1 : Int) (1 : Int) z17a z17b z17d _ _ _ (RG.mk (RI.ext (hS.num 2 rfl) hW) (RI.ext (hS.num 1 rfl) hW) (RI.ext (hS.num 0 rfl) hW)) (RG.mk F_s16a F_s16b F_s16d) K17).mono fun e w' ⟨v, he, hR, hx⟩ => ⟨v, he, hx, hR⟩⟩
  intro v_ lo17 hi17 hr_
  obtain ⟨W_, hW_⟩ := hr_
  have hv_ : Fc.holds (.rg (z17a) (z17b) (z17d)) lo17 hi17 v_ W_ := hW_.get
  clear hW_
  obtain ⟨s17a, A_17a, n17a, c17a, s17b, A_17b, n17b, c17b, s17d, A_17d, n17d, c17d, rfl, -, -, -⟩ := hv_
  clear W_
  try simp only [Act.put, List.setIfInBounds_toArray, List.set_cons_succ, List.set_cons_zero]
  refine wpT_quiet 2 (by rfl) (by kernel_rfl) ?_
  simp only [List.take_succ_cons, List.take_zero, List.drop_succ_cons, List.drop_zero]
  repeat (go_big_quiet_step (fail))
  refine wpQuiet_nil ?_
  refine wpT_eff (by rfl) (by rfl) (by rfl) ?_ ?_
  · intro W_ hK
    go_simp
    exact ⟨Ext.new _ _, rfl, by simp, Blk.new _ _ _⟩
  intro v_ g4 hi4 hr_
  obtain ⟨W_, hW_⟩ := hr_
  obtain ⟨rfl, hl4, -⟩ : Fc.holds (.box 28 #[.bool false, .slice none 0 0, .bool false, .slice none 0 0, .bool false, .slice none 0 0, .bool false, .slice none 0 0, .bool false, .slice none 0 0, .bool false, .slice none 0 0]) g4 hi4 v_ W_ := hW_.get
  clear hW_ W_
  try simp only [Act.put, List.setIfInBounds_toArray, List.set_cons_succ, List.set_cons_zero]
  refine wpT_nil ?_
  intro w7 hK
  have hlt_ := hS.lt
  replace hS := hS.mv hK.ext
  replace hS := hS.addI (show RI w7 (iv s16a A_16a n16a c16a) (0 : Int) from RG.at1 (hK.at_ 1 (e := ((gv s16a A_16a n16a c16a s16b A_16b n16b c16b s16d A_16d n16d c16d), lo16, hi16)) (by rfl)))
  replace hS := hS.addI (show RI w7 (iv s16b A_16b n16b c16b) (1 : Int) from RG.at2 (hK.at_ 1 (e := ((gv s16a A_16a n16a c16a s16b A_16b n16b c16b s16d A_16d n16d c16d), lo16, hi16)) (by rfl)))
  replace hS := hS.addI (show RI w7 (iv s16d A_16d n16d c16d) (1 : Int) from RG.at3 (hK.at_ 1 (e := ((gv s16a A_16a n16a c16a s16b A_16b n16b c16b s16d A_16d n16d c16d), lo16, hi16)) (by rfl)))
  replace hS := hS.addI (show RI w7 (iv s17a A_17a n17a c17a) z17a from RG.at1 (hK.at_ 2 (e := ((gv s17a A_17a n17a c17a s17b A_17b n17b c17b s17d A_17d n17d c17d), lo17, hi17)) (by rfl)))
  replace hS := hS.addI (show RI w7 (iv s17b A_17b n17b c17b) z17b from RG.at2 (hK.at_ 2 (e := ((gv s17a A_17a n17a c17a s17b A_17b n17b c17b s17d A_17d n17d c17d), lo17, hi17)) (by rfl)))
  replace hS := hS.addI (show RI w7 (iv s17d A_17d n17d c17d) z17d from RG.at3 (hK.at_ 2 (e := ((gv s17a A_17a n17a c17a s17b A_17b n17b c17b s17d A_17d n17d c17d), lo17, hi17)) (by rfl)))
  have lw4 : w6.heap.size ≤ g4 := hK.low 5 _ (by rfl)
  have o4 : Own w g4 := Own.of hE_ lw4
  replace hS := hS.addB (show Blk w7 g4 28 #[.bool false, .slice none 0 0, .bool false, .slice none 0 0, .bool false, .slice none 0 0, .bool false, .slice none 0 0, .bool false, .slice none 0 0, .bool false, .slice none 0 0] from (hK.at_ 5 (by rfl)).2.2) (apart_of fun p hp => Nat.ne_of_lt (Nat.lt_of_lt_of_le (hlt_ p hp) lw4))
  clear hK hlt_ hE_ Y3
  clear lw4 hl4 hi4
  have k_3 := (hS.blk 0 rfl).cell
  have k_4 := (hS.blk 0 rfl).frozen
  go_wp2_with fail
  clear k_3 k_4
  replace hS := (St.put (W' := ((((((((((((w7.setCell ⟨g4, 0, none⟩ (.bool s17a)).setCell ⟨g4, 1, none⟩ (.slice A_17a n17a c17a)).setCell ⟨g4, 2, none⟩ (.bool s17b)).setCell ⟨g4, 3, none⟩ (.slice A_17b n17b c17b)).setCell ⟨g4, 4, none⟩ (.bool s17d)).setCell ⟨g4, 5, none⟩ (.slice A_17d n17d c17d)).setCell ⟨g4, 6, none⟩ (.bool s14a)).setCell ⟨g4, 7, none⟩ (.slice A_14a n14a c14a)).setCell ⟨g4, 8, none⟩ (.bool s14b)).setCell ⟨g4, 9, none⟩ (.slice A_14b n14b c14b)).setCell ⟨g4, 10, none⟩ (.bool s14d)).setCell ⟨g4, 11, none⟩ (.slice A_14d n14d c14d))) hS 0 0 [.bool s17a, .slice A_17a n17a c17a, .bool s17b, .slice A_17b n17b c17b, .bool s17d, .slice A_17d n17d c17d, .bool s14a, .slice A_14a n14a c14a, .bool s14b, .slice A_14b n14b c14b, .bool s14d, .slice A_14d n14d c14d] (cs' := #[.bool s17a, .slice A_17a n17a c17a, .bool s17b, .slice A_17b n17b c17b, .bool s17d, .slice A_17d n17d c17d, .bool s14a, .slice A_14a n14a c14a, .bool s14b, .slice A_14b n14b c14b, .bool s14d, .slice A_14d n14d c14d]) (bs' := _) rfl o4 rfl rfl (by kernel_rfl) rfl)
  simp only [List.set_cons_zero] at hS
  generalize ((((((((((((w7.setCell ⟨g4, 0, none⟩ (.bool s17a)).setCell ⟨g4, 1, none⟩ (.slice A_17a n17a c17a)).setCell ⟨g4, 2, none⟩ (.bool s17b)).setCell ⟨g4, 3, none⟩ (.slice A_17b n17b c17b)).setCell ⟨g4, 4, none⟩ (.bool s17d)).setCell ⟨g4, 5, none⟩ (.slice A_17d n17d c17d)).setCell ⟨g4, 6, none⟩ (.bool s14a)).setCell ⟨g4, 7, none⟩ (.slice A_14a n14a c14a)).setCell ⟨g4, 8, none⟩ (.bool s14b)).setCell ⟨g4, 9, none⟩ (.slice A_14b n14b c14b)).setCell ⟨g4, 10, none⟩ (.bool s14d)).setCell ⟨g4, 11, none⟩ (.slice A_14d n14d c14d)) = w8 at hS ⊢
  refine (qInt_ok (1) (0) _ (by omega) (by omega) (by omega) (by omega)).mono ?_
  rintro e w9 ⟨v_, rfl, hv_, hx_⟩
  replace hS := hS.mv hx_
  clear hx_
  obtain ⟨s20a, A_20a, n20a, c20a, s20b, A_20b, n20b, c20b, s20d, A_20d, n20d, c20d, rfl, f_s20a, f_s20b, f_s20d⟩ := hv_
  replace hS := hS.addI f_s20a
  clear f_s20a
  replace hS := hS.addI f_s20b
  clear f_s20b
  replace hS := hS.addI f_s20d
  clear f_s20d
  go_wp2_with fail
  refine (toRP (qPlain_ok _ (GQ.i (1) (0)) (64) _ ⟨_, _, _, RG.mk (hS.num 2 rfl) (hS.num 1 rfl) (hS.num 0 rfl), (is_i (1) (0)), (sz_i (by omega) (by omega) (by omega) (by omega))⟩ (by omega)) (is_i (1) (0)) (is_i 0 0)).mono ?_
  rintro e w10 ⟨v_, rfl, hv_, hx_⟩
  replace hS := hS.mv hx_
  clear hx_
  obtain ⟨s21a, A_21a, n21a, c21a, s21b, A_21b, n21b, c21b, s21d, A_21d, n21d, c21d, s21x, A_21x, n21x, c21x, s21y, A_21y, n21y, c21y, s21z, A_21z, n21z, c21z, rfl, f_s21a, f_s21b, f_s21d, f_s21x, f_s21y, f_s21z⟩ := hv_
  replace hS := hS.addI f_s21a
  clear f_s21a
  replace hS := hS.addI f_s21b
  clear f_s21b
  replace hS := hS.addI f_s21d
  clear f_s21d
  replace hS := hS.addI f_s21x
  clear f_s21x
  replace hS := hS.addI f_s21y
  clear f_s21y
  replace hS := hS.addI f_s21z
  clear f_s21z
  have o5 : Own w w10.heap.size := Own.of hS.ext (by simp)
  have hT2 := (St.al hS 28 #[.bool false, .slice none 0 0, .bool false, .slice none 0 0, .bool false, .slice none 0 0, .bool false, .slice none 0 0, .bool false, .slice none 0 0, .bool false, .slice none 0 0] (g := w10.heap.size) (by simp))
  have k_5 := (hT2.blk 0 rfl).cell
  have k_6 := (hT2.blk 0 rfl).frozen
  go_wp2_with fail
  clear k_5 k_6
  clear hT2
  replace hS := (St.al hS 28 #[.bool s21a, .slice A_21a n21a c21a, .bool s21b, .slice A_21b n21b c21b, .bool s21d, .slice A_21d n21d c21d, .bool s21x, .slice A_21x n21x c21x, .bool s21y, .slice A_21y n21y c21y, .bool s21z, .slice A_21z n21z c21z] (g := w10.heap.size) (by simp))
  generalize (w10.alloc (.cells #[.bool s21a, .slice A_21a n21a c21a, .bool s21b, .slice A_21b n21b c21b, .bool s21d, .slice A_21d n21d c21d, .bool s21x, .slice A_21x n21x c21x, .bool s21y, .slice A_21y n21y c21y, .bool s21z, .slice A_21z n21z c21z] 28)) = w11 at hS ⊢
  generalize w10.heap.size = g5 at hS o5 ⊢
  go_loopw [6] (fun i wr => ∃ k : Nat, k ≤ K ∧ i = .int .i64 (k : Int) ∧ ∃ (y5_a y5_b y5_d y5_x y5_y y5_z : Int) (s5_a s5_b s5_d s5_x s5_y s5_z : Bool) (A_5_a A_5_b A_5_d A_5_x A_5_y A_5_z : Option Addr) (n5_a c5_a n5_b c5_b n5_d c5_d n5_x c5_x n5_y c5_y n5_z c5_z : Nat), (Is (PQ.zp k).u y5_a y5_b y5_d ∧ Sz 2 y5_a y5_b y5_d ∧ Is (PQ.zp k).v y5_x y5_y y5_z ∧ Sz 2 y5_x y5_y y5_z) ∧ St w wr [(g5, 28, #[.bool s5_a, .slice A_5_a n5_a c5_a, .bool s5_b, .slice A_5_b n5_b c5_b, .bool s5_d, .slice A_5_d n5_d c5_d, .bool s5_x, .slice A_5_x n5_x c5_x, .bool s5_y, .slice A_5_y n5_y c5_y, .bool s5_z, .slice A_5_z n5_z c5_z]), (g4, 28, #[.bool s17a, .slice A_17a n17a c17a, .bool s17b, .slice A_17b n17b c17b, .bool s17d, .slice A_17d n17d c17d, .bool s14a, .slice A_14a n14a c14a, .bool s14b, .slice A_14b n14b c14b, .bool s14d, .slice A_14d n14d c14d]), (g3, 26, #[.bool s14a, .slice A_14a n14a c14a, .bool s14b, .slice A_14b n14b c14b, .bool s14d, .slice A_14d n14d c14d]), (g2, 28, #[.bool false, .slice none 0 0, .bool false, .slice none 0 0, .bool false, .slice none 0 0, .bool false, .slice none 0 0, .bool false, .slice none 0 0, .bool false, .slice none 0 0])] [nz (iv s5_a A_5_a n5_a c5_a) (y5_a), nz (iv s5_b A_5_b n5_b c5_b) (y5_b), nz (iv s5_d A_5_d n5_d c5_d) (y5_d), nz (iv s5_x A_5_x n5_x c5_x) (y5_x), nz (iv s5_y A_5_y n5_y c5_y) (y5_y), nz (iv s5_z A_5_z n5_z c5_z) (y5_z), nz (iv s17a A_17a n17a c17a) (z17a), nz (iv s17b A_17b n17b c17b) (z17b), nz (iv s17d A_17d n17d c17d) (z17d), nz (iv s14a A_14a n14a c14a) ((1 : Int)), nz (iv s14b A_14b n14b c14b) ((0 : Int)), nz (iv s14d A_14d n14d c14d) ((2 : Int))]) (fun i _ => K - (intOf i).toNat)
  case atStart => exact ⟨0, by omega, rfl, (1 : Int), (0 : Int), (1 : Int), (0 : Int), (0 : Int), (1 : Int), s21a, s21b, s21d, s21x, s21y, s21z, A_21a, A_21b, A_21d, A_21x, A_21y, A_21z, n21a, c21a, n21b, c21b, n21d, c21d, n21x, c21x, n21y, c21y, n21z, c21z, ⟨is_i 1 0, ⟨by decide, by decide, by decide⟩, is_i 0 0, ⟨by decide, by decide, by decide⟩⟩, hS.sel [5, 4, 3, 2, 1, 0, 11, 10, 9, 17, 16, 15] rfl⟩
  case round =>
    clear hS
    obtain ⟨k, hk, rfl, y5_a, y5_b, y5_d, y5_x, y5_y, y5_z, s5_a, s5_b, s5_d, s5_x, s5_y, s5_z, A_5_a, A_5_b, A_5_d, A_5_x, A_5_y, A_5_z, n5_a, c5_a, n5_b, c5_b, n5_d, c5_d, n5_x, c5_x, n5_y, c5_y, n5_z, c5_z, hpure, hS⟩ := hrel
    by_cases hkL : k < K
    · skip
      have k_7 := (hS.blk 0 rfl).cell
      have k_8 := (hS.blk 1 rfl).cell
      go_wp2_with fail
      clear k_7 k_8
      obtain ⟨z29a, z29b, z29d, I29u⟩ := is_ex ((PQ.zp k) * PQ.z).u
      obtain ⟨z29x, z29y, z29z, I29v⟩ := is_ex ((PQ.zp k) * PQ.z).v
      have S29u : Sz (2 * (2 + 69) + 69) z29a z29b z29d := (Bd.produ (p := (PQ.zp k)) (q := PQ.z) (m := 2) (n := 69) ⟨_, _, _, hpure.1, hpure.2.1⟩ ⟨_, _, _, hpure.2.2.1, hpure.2.2.2⟩ ⟨_, _, _, I17, (Sz.mono S17 (by omega))⟩ ⟨_, _, _, is_half, (Sz.mono sz_half (by omega))⟩).sz I29u
      have S29v : Sz (2 * (2 + 69) + 69) z29x z29y z29z := (Bd.prodv (p := (PQ.zp k)) (q := PQ.z) (m := 2) (n := 69) ⟨_, _, _, hpure.1, hpure.2.1⟩ ⟨_, _, _, hpure.2.2.1, hpure.2.2.2⟩ ⟨_, _, _, I17, (Sz.mono S17 (by omega))⟩ ⟨_, _, _, is_half, (Sz.mono sz_half (by omega))⟩).sz I29v
      refine (toRP (qProduct_w _ (PQ.zp k) (2) _ PQ.z (69) _ ⟨_, _, _, _, _, _, RP.mk (hS.num 0 rfl) (hS.num 1 rfl) (hS.num 2 rfl) (hS.num 3 rfl) (hS.num 4 rfl) (hS.num 5 rfl), hpure.1, hpure.2.1, hpure.2.2.1, hpure.2.2.2⟩ ⟨_, _, _, _, _, _, RP.mk (hS.num 6 rfl) (hS.num 7 rfl) (hS.num 8 rfl) (hS.num 9 rfl) (hS.num 10 rfl) (hS.num 11 rfl), I17, (Sz.mono S17 (by omega)), is_half, (Sz.mono sz_half (by omega))⟩ (by omega)) I29u I29v).mono ?_
      rintro e w12 ⟨v_, rfl, hv_, hx_⟩
      replace hS := hS.mv hx_
      clear hx_
      obtain ⟨s29a, A_29a, n29a, c29a, s29b, A_29b, n29b, c29b, s29d, A_29d, n29d, c29d, s29x, A_29x, n29x, c29x, s29y, A_29y, n29y, c29y, s29z, A_29z, n29z, c29z, rfl, f_s29a, f_s29b, f_s29d, f_s29x, f_s29y, f_s29z⟩ := hv_
      replace hS := hS.addI f_s29a
      clear f_s29a
      replace hS := hS.addI f_s29b
      clear f_s29b
      replace hS := hS.addI f_s29d
      clear f_s29d
      replace hS := hS.addI f_s29x
      clear f_s29x
      replace hS := hS.addI f_s29y
      clear f_s29y
      replace hS := hS.addI f_s29z
      clear f_s29z
      have k_9 := (hS.blk 0 rfl).cell
      have k_10 := (hS.blk 0 rfl).frozen
      go_wp2
      replace hS := (St.put (W' := ((((((((((((w12.setCell ⟨g5, 0, none⟩ (.bool s29a)).setCell ⟨g5, 1, none⟩ (.slice A_29a n29a c29a)).setCell ⟨g5, 2, none⟩ (.bool s29b)).setCell ⟨g5, 3, none⟩ (.slice A_29b n29b c29b)).setCell ⟨g5, 4, none⟩ (.bool s29d)).setCell ⟨g5, 5, none⟩ (.slice A_29d n29d c29d)).setCell ⟨g5, 6, none⟩ (.bool s29x)).setCell ⟨g5, 7, none⟩ (.slice A_29x n29x c29x)).setCell ⟨g5, 8, none⟩ (.bool s29y)).setCell ⟨g5, 9, none⟩ (.slice A_29y n29y c29y)).setCell ⟨g5, 10, none⟩ (.bool s29z)).setCell ⟨g5, 11, none⟩ (.slice A_29z n29z c29z))) hS 0 0 [.bool s29a, .slice A_29a n29a c29a, .bool s29b, .slice A_29b n29b c29b, .bool s29d, .slice A_29d n29d c29d, .bool s29x, .slice A_29x n29x c29x, .bool s29y, .slice A_29y n29y c29y, .bool s29z, .slice A_29z n29z c29z] (cs' := #[.bool s29a, .slice A_29a n29a c29a, .bool s29b, .slice A_29b n29b c29b, .bool s29d, .slice A_29d n29d c29d, .bool s29x, .slice A_29x n29x c29x, .bool s29y, .slice A_29y n29y c29y, .bool s29z, .slice A_29z n29z c29z]) (bs' := _) rfl o5 rfl rfl (by kernel_rfl) rfl)
      go_roundw
      case rel => exact ⟨k + 1, by omega, by go_num, z29a, z29b, z29d, z29x, z29y, z29z, s29a, s29b, s29d, s29x, s29y, s29z, A_29a, A_29b, A_29d, A_29x, A_29y, A_29z, n29a, c29a, n29b, c29b, n29d, c29d, n29x, c29x, n29y, c29y, n29z, c29z, ⟨I29u, (Bd.zp (k := k + 1) (by omega)).1.sz I29u, I29v, (Bd.zp (k := k + 1) (by omega)).2.sz I29v⟩, St.sel hS [5, 4, 3, 2, 1, 0, 12, 13, 14, 15, 16, 17] rfl⟩
      case measure => simp [intOf] <;> omega
    · obtain rfl : k = K := by omega
      have k_11 := (hS.blk 0 rfl).cell
      have k_12 := (hS.blk 3 rfl).cell
      have k_13 := (hS.blk 3 rfl).frozen
      go_wp2
      replace hS := (St.put (W' := ((((((((((((wr.setCell ⟨g2, 0, none⟩ (.bool s5_a)).setCell ⟨g2, 1, none⟩ (.slice A_5_a n5_a c5_a)).setCell ⟨g2, 2, none⟩ (.bool s5_b)).setCell ⟨g2, 3, none⟩ (.slice A_5_b n5_b c5_b)).setCell ⟨g2, 4, none⟩ (.bool s5_d)).setCell ⟨g2, 5, none⟩ (.slice A_5_d n5_d c5_d)).setCell ⟨g2, 6, none⟩ (.bool s5_x)).setCell ⟨g2, 7, none⟩ (.slice A_5_x n5_x c5_x)).setCell ⟨g2, 8, none⟩ (.bool s5_y)).setCell ⟨g2, 9, none⟩ (.slice A_5_y n5_y c5_y)).setCell ⟨g2, 10, none⟩ (.bool s5_z)).setCell ⟨g2, 11, none⟩ (.slice A_5_z n5_z c5_z))) hS 3 0 [.bool s5_a, .slice A_5_a n5_a c5_a, .bool s5_b, .slice A_5_b n5_b c5_b, .bool s5_d, .slice A_5_d n5_d c5_d, .bool s5_x, .slice A_5_x n5_x c5_x, .bool s5_y, .slice A_5_y n5_y c5_y, .bool s5_z, .slice A_5_z n5_z c5_z] (cs' := #[.bool s5_a, .slice A_5_a n5_a c5_a, .bool s5_b, .slice A_5_b n5_b c5_b, .bool s5_d, .slice A_5_d n5_d c5_d, .bool s5_x, .slice A_5_x n5_x c5_x, .bool s5_y, .slice A_5_y n5_y c5_y, .bool s5_z, .slice A_5_z n5_z c5_z]) (bs' := _) rfl o2 rfl rfl (by kernel_rfl) rfl)
      exact bp_phasor1 rfl rfl rfl (hS.blk 3 rfl) ⟨_, rfl, ⟨_, _, _, _, _, _, RP.mk (hS.num 0 rfl) (hS.num 1 rfl) (hS.num 2 rfl) (hS.num 3 rfl) (hS.num 4 rfl) (hS.num 5 rfl), hpure.1, hpure.2.1, hpure.2.2.1, hpure.2.2.2⟩, hS.ext⟩

end Go.Proofs.Ytjeijmnhbckjdaa

/- The specification of numbers: turning, sameness, quotients. -/
namespace Go.Proofs.Ytjeijmnhbckjdaa
open Go.RowKit
set_option linter.unusedVariables false
set_option maxRecDepth 100000 in
set_option maxHeartbeats 3200000 in
theorem qTurn_w (v0 : Value) (q0 : PQ) (n0 : Nat) (m1 : Int) (K : Nat) (w : World) (hX0 : PV w v0 q0 n0) (l1 : -9223372036854775808 ≤ m1) (u1 : m1 ≤ 9223372036854775807) (HK : Hid (m1 % 12 = (K : Int))) (hK : K < 12)
     (hn : 2 * (n0 + 2) + 69 ≤ 12800) :
    Calls Try.prog 12 #[v0, .int .i64 m1] w fun e w' => ∃ v, e = .returned v ∧ PV w' v (q0 * PQ.zp K) (2 * (n0 + 2) + 69) ∧ Ext w w' := by
  have hS := St.start w
  obtain ⟨x0a, x0b, x0d, x0x, x0y, x0z, hX0, I0u, S0u, I0v, S0v⟩ := hX0
  obtain ⟨sx0a, Ax0a, nx0a, cx0a, sx0b, Ax0b, nx0b, cx0b, sx0d, Ax0d, nx0d, cx0d, sx0x, Ax0x, nx0x, cx0x, sx0y, Ax0y, nx0y, cx0y, sx0z, Ax0z, nx0z, cx0z, rfl, hx0a, hx0b, hx0d, hx0x, hx0y, hx0z⟩ := hX0
  replace hS := hS.addI hx0a
  clear hx0a
  replace hS := hS.addI hx0b
  clear hx0b
  replace hS := hS.addI hx0d
  clear hx0d
  replace hS := hS.addI hx0x
  clear hx0x
  replace hS := hS.addI hx0y
  clear hx0y
  replace hS := hS.addI hx0z
  clear hx0z
  have o2 : Own w w.heap.size := Own.of hS.ext (by simp)
  have o4 : Own w (w.heap.size + 1) := Own.of hS.ext (by simp)
  go_enter Try.func12, Try.ntmps12
  go_wp2_with fail
  replace hS := (St.al (St.al hS 28 #[.bool sx0a, .slice Ax0a nx0a cx0a, .bool sx0b, .slice Ax0b nx0b cx0b, .bool sx0d, .slice Ax0d nx0d cx0d, .bool sx0x, .slice Ax0x nx0x cx0x, .bool sx0y, .slice Ax0y nx0y cx0y, .bool sx0z, .slice Ax0z nx0z cx0z] (g := w.heap.size) (by simp)) 28 #[.bool false, .slice none 0 0, .bool false, .slice none 0 0, .bool false, .slice none 0 0, .bool false, .slice none 0 0, .bool false, .slice none 0 0, .bool false, .slice none 0 0] (g := (w.heap.size + 1)) (by simp))
  generalize ((w.alloc (.cells #[.bool sx0a, .slice Ax0a nx0a cx0a, .bool sx0b, .slice Ax0b nx0b cx0b, .bool sx0d, .slice Ax0d nx0d cx0d, .bool sx0x, .slice Ax0x nx0x cx0x, .bool sx0y, .slice Ax0y nx0y cx0y, .bool sx0z, .slice Ax0z nx0z cx0z] 28)).alloc (.cells #[.bool false, .slice none 0 0, .bool false, .slice none 0 0, .bool false, .slice none 0 0, .bool false, .slice none 0 0, .bool false, .slice none 0 0, .bool false, .slice none 0 0] 28)) = w1 at hS ⊢
  generalize w.heap.size + 1 = g4 at hS o4 ⊢
  generalize w.heap.size = g2 at hS o2 ⊢
  obtain ⟨z7a, z7b, z7d, I7u⟩ := is_ex (PQ.zp K).u
  obtain ⟨z7x, z7y, z7z, I7v⟩ := is_ex (PQ.zp K).v
  have S7u : Sz (2) z7a z7b z7d := ((Bd.zp hK).1).sz I7u
  have S7v : Sz (2) z7x z7y z7z := ((Bd.zp hK).2).sz I7v
  obtain ⟨z8a, z8b, z8d, I8u⟩ := is_ex (q0 * (PQ.zp K)).u
  obtain ⟨z8x, z8y, z8z, I8v⟩ := is_ex (q0 * (PQ.zp K)).v
  have S8u : Sz (2 * (n0 + 2) + 69) z8a z8b z8d := (Bd.produ (p := q0) (q := (PQ.zp K)) (m := n0) (n := 2) ⟨_, _, _, I0u, S0u⟩ ⟨_, _, _, I0v, S0v⟩ ⟨_, _, _, I7u, S7u⟩ ⟨_, _, _, I7v, S7v⟩).sz I8u
  have S8v : Sz (2 * (n0 + 2) + 69) z8x z8y z8z := (Bd.prodv (p := q0) (q := (PQ.zp K)) (m := n0) (n := 2) ⟨_, _, _, I0u, S0u⟩ ⟨_, _, _, I0v, S0v⟩ ⟨_, _, _, I7u, S7u⟩ ⟨_, _, _, I7v, S7v⟩).sz I8v
  have Y2 := ExtOf.blk (hS.blk 1 rfl)
  have hE_ := hS.ext
  refine wp_region_tame 4 (hasF [(2, .any), (3, .any)]) (Fcs [(2, .rp (z7a) (z7b) (z7d) (z7x) (z7y) (z7z)), (3, .rp (z8a) (z8b) (z8d) (z8x) (z8y) (z8z))]) (Fcs_stab _) (by kernel_rfl) (by kernel_rfl) ?_
  simp only [List.take_succ_cons, List.take_zero, List.drop_succ_cons, List.drop_zero]
  refine wpT_quiet 2 (by rfl) (by kernel_rfl) ?_
  simp only [List.take_succ_cons, List.take_zero, List.drop_succ_cons, List.drop_zero]
  repeat (go_big_quiet_step (fail))
  refine wpQuiet_nil ?_
  refine wpT_eff (by rfl) (by rfl) (by rfl) ?_ ?_
  · intro W_ hK
    have hW := hK.1
    clear hK
    go_simp
    exact ⟨rfl, (toRP (qRoot_w (m1) K _ l1 u1 HK hK) I7u I7v).mono fun e w' ⟨v, he, hR, hx⟩ => ⟨v, he, hx, hR⟩⟩
  intro v_ lo7 hi7 hr_
  obtain ⟨W_, hW_⟩ := hr_
  have hv_ : Fc.holds (.rp (z7a) (z7b) (z7d) (z7x) (z7y) (z7z)) lo7 hi7 v_ W_ := hW_.get
  clear hW_
  obtain ⟨s7a, A_7a, n7a, c7a, s7b, A_7b, n7b, c7b, s7d, A_7d, n7d, c7d, s7x, A_7x, n7x, c7x, s7y, A_7y, n7y, c7y, s7z, A_7z, n7z, c7z, rfl, -, -, -, -, -, -⟩ := hv_
  clear W_
  try simp only [Act.put, List.setIfInBounds_toArray, List.set_cons_succ, List.set_cons_zero]
  refine wpT_eff (by rfl) (by rfl) (by rfl) ?_ ?_
  · intro W_ hK
    have hW := hK.1
    have F_s7a : RI W_ (iv s7a A_7a n7a c7a) z7a := RP.at1 (hK.2 2 ((pv s7a A_7a n7a c7a s7b A_7b n7b c7b s7d A_7d n7d c7d s7x A_7x n7x c7x s7y A_7y n7y c7y s7z A_7z n7z c7z), lo7, hi7) (by rfl) (by kernel_rfl))
    have F_s7b : RI W_ (iv s7b A_7b n7b c7b) z7b := RP.at2 (hK.2 2 ((pv s7a A_7a n7a c7a s7b A_7b n7b c7b s7d A_7d n7d c7d s7x A_7x n7x c7x s7y A_7y n7y c7y s7z A_7z n7z c7z), lo7, hi7) (by rfl) (by kernel_rfl))
    have F_s7d : RI W_ (iv s7d A_7d n7d c7d) z7d := RP.at3 (hK.2 2 ((pv s7a A_7a n7a c7a s7b A_7b n7b c7b s7d A_7d n7d c7d s7x A_7x n7x c7x s7y A_7y n7y c7y s7z A_7z n7z c7z), lo7, hi7) (by rfl) (by kernel_rfl))
    have F_s7x : RI W_ (iv s7x A_7x n7x c7x) z7x := RP.at4 (hK.2 2 ((pv s7a A_7a n7a c7a s7b A_7b n7b c7b s7d A_7d n7d c7d s7x A_7x n7x c7x s7y A_7y n7y c7y s7z A_7z n7z c7z), lo7, hi7) (by rfl) (by kernel_rfl))
    have F_s7y : RI W_ (iv s7y A_7y n7y c7y) z7y := RP.at5 (hK.2 2 ((pv s7a A_7a n7a c7a s7b A_7b n7b c7b s7d A_7d n7d c7d s7x A_7x n7x c7x s7y A_7y n7y c7y s7z A_7z n7z c7z), lo7, hi7) (by rfl) (by kernel_rfl))
    have F_s7z : RI W_ (iv s7z A_7z n7z c7z) z7z := RP.at6 (hK.2 2 ((pv s7a A_7a n7a c7a s7b A_7b n7b c7b s7d A_7d n7d c7d s7x A_7x n7x c7x s7y A_7y n7y c7y s7z A_7z n7z c7z), lo7, hi7) (by rfl) (by kernel_rfl))
    clear hK
    go_simp
    exact ⟨rfl, (toRP (qProduct_w _ q0 (n0) _ (PQ.zp K) (2) _ ⟨_, _, _, _, _, _, RP.mk (RI.ext (hS.num 5 rfl) hW) (RI.ext (hS.num 4 rfl) hW) (RI.ext (hS.num 3 rfl) hW) (RI.ext (hS.num 2 rfl) hW) (RI.ext (hS.num 1 rfl) hW) (RI.ext (hS.num 0 rfl) hW), I0u, S0u, I0v, S0v⟩ ⟨_, _, _, _, _, _, RP.mk F_s7a F_s7b F_s7d F_s7x F_s7y F_s7z, I7u, S7u, I7v, S7v⟩ (by omega)) I8u I8v).mono fun e w' ⟨v, he, hR, hx⟩ => ⟨v, he, hx, hR⟩⟩
  intro v_ lo8 hi8 hr_
  obtain ⟨W_, hW_⟩ := hr_
  have hv_ : Fc.holds (.rp (z8a) (z8b) (z8d) (z8x) (z8y) (z8z)) lo8 hi8 v_ W_ := hW_.get
  clear hW_
  obtain ⟨s8a, A_8a, n8a, c8a, s8b, A_8b, n8b, c8b, s8d, A_8d, n8d, c8d, s8x, A_8x, n8x, c8x, s8y, A_8y, n8y, c8y, s8z, A_8z, n8z, c8z, rfl, -, -, -, -, -, -⟩ := hv_
  clear W_
  try simp only [Act.put, List.setIfInBounds_toArray, List.set_cons_succ, List.set_cons_zero]
  refine wpT_nil ?_
  intro w2 hK
  have hlt_ := hS.lt
  replace hS := hS.mv hK.ext
  replace hS := hS.addI (show RI w2 (iv s7a A_7a n7a c7a) z7a from RP.at1 (hK.at_ 2 (e := ((pv s7a A_7a n7a c7a s7b A_7b n7b c7b s7d A_7d n7d c7d s7x A_7x n7x c7x s7y A_7y n7y c7y s7z A_7z n7z c7z), lo7, hi7)) (by rfl)))
  replace hS := hS.addI (show RI w2 (iv s7b A_7b n7b c7b) z7b from RP.at2 (hK.at_ 2 (e := ((pv s7a A_7a n7a c7a s7b A_7b n7b c7b s7d A_7d n7d c7d s7x A_7x n7x c7x s7y A_7y n7y c7y s7z A_7z n7z c7z), lo7, hi7)) (by rfl)))
  replace hS := hS.addI (show RI w2 (iv s7d A_7d n7d c7d) z7d from RP.at3 (hK.at_ 2 (e := ((pv s7a A_7a n7a c7a s7b A_7b n7b c7b s7d A_7d n7d c7d s7x A_7x n7x c7x s7y A_7y n7y c7y s7z A_7z n7z c7z), lo7, hi7)) (by rfl)))
  replace hS := hS.addI (show RI w2 (iv s7x A_7x n7x c7x) z7x from RP.at4 (hK.at_ 2 (e := ((pv s7a A_7a n7a c7a s7b A_7b n7b c7b s7d A_7d n7d c7d s7x A_7x n7x c7x s7y A_7y n7y c7y s7z A_7z n7z c7z), lo7, hi7)) (by rfl)))
  replace hS := hS.addI (show RI w2 (iv s7y A_7y n7y c7y) z7y from RP.at5 (hK.at_ 2 (e := ((pv s7a A_7a n7a c7a s7b A_7b n7b c7b s7d A_7d n7d c7d s7x A_7x n7x c7x s7y A_7y n7y c7y s7z A_7z n7z c7z), lo7, hi7)) (by rfl)))
  replace hS := hS.addI (show RI w2 (iv s7z A_7z n7z c7z) z7z from RP.at6 (hK.at_ 2 (e := ((pv s7a A_7a n7a c7a s7b A_7b n7b c7b s7d A_7d n7d c7d s7x A_7x n7x c7x s7y A_7y n7y c7y s7z A_7z n7z c7z), lo7, hi7)) (by rfl)))
  replace hS := hS.addI (show RI w2 (iv s8a A_8a n8a c8a) z8a from RP.at1 (hK.at_ 3 (e := ((pv s8a A_8a n8a c8a s8b A_8b n8b c8b s8d A_8d n8d c8d s8x A_8x n8x c8x s8y A_8y n8y c8y s8z A_8z n8z c8z), lo8, hi8)) (by rfl)))
  replace hS := hS.addI (show RI w2 (iv s8b A_8b n8b c8b) z8b from RP.at2 (hK.at_ 3 (e := ((pv s8a A_8a n8a c8a s8b A_8b n8b c8b s8d A_8d n8d c8d s8x A_8x n8x c8x s8y A_8y n8y c8y s8z A_8z n8z c8z), lo8, hi8)) (by rfl)))
  replace hS := hS.addI (show RI w2 (iv s8d A_8d n8d c8d) z8d from RP.at3 (hK.at_ 3 (e := ((pv s8a A_8a n8a c8a s8b A_8b n8b c8b s8d A_8d n8d c8d s8x A_8x n8x c8x s8y A_8y n8y c8y s8z A_8z n8z c8z), lo8, hi8)) (by rfl)))
  replace hS := hS.addI (show RI w2 (iv s8x A_8x n8x c8x) z8x from RP.at4 (hK.at_ 3 (e := ((pv s8a A_8a n8a c8a s8b A_8b n8b c8b s8d A_8d n8d c8d s8x A_8x n8x c8x s8y A_8y n8y c8y s8z A_8z n8z c8z), lo8, hi8)) (by rfl)))
  replace hS := hS.addI (show RI w2 (iv s8y A_8y n8y c8y) z8y from RP.at5 (hK.at_ 3 (e := ((pv s8a A_8a n8a c8a s8b A_8b n8b c8b s8d A_8d n8d c8d s8x A_8x n8x c8x s8y A_8y n8y c8y s8z A_8z n8z c8z), lo8, hi8)) (by rfl)))
  replace hS := hS.addI (show RI w2 (iv s8z A_8z n8z c8z) z8z from RP.at6 (hK.at_ 3 (e := ((pv s8a A_8a n8a c8a s8b A_8b n8b c8b s8d A_8d n8d c8d s8x A_8x n8x c8x s8y A_8y n8y c8y s8z A_8z n8z c8z), lo8, hi8)) (by rfl)))
  clear hK hlt_ hE_ Y2
  have k_1 := (hS.blk 0 rfl).cell
  have k_2 := (hS.blk 0 rfl).frozen
  go_wp2
  replace hS := (St.put (W' := ((((((((((((w2.setCell ⟨g4, 0, none⟩ (.bool s8a)).setCell ⟨g4, 1, none⟩ (.slice A_8a n8a c8a)).setCell ⟨g4, 2, none⟩ (.bool s8b)).setCell ⟨g4, 3, none⟩ (.slice A_8b n8b c8b)).setCell ⟨g4, 4, none⟩ (.bool s8d)).setCell ⟨g4, 5, none⟩ (.slice A_8d n8d c8d)).setCell ⟨g4, 6, none⟩ (.bool s8x)).setCell ⟨g4, 7, none⟩ (.slice A_8x n8x c8x)).setCell ⟨g4, 8, none⟩ (.bool s8y)).setCell ⟨g4, 9, none⟩ (.slice A_8y n8y c8y)).setCell ⟨g4, 10, none⟩ (.bool s8z)).setCell ⟨g4, 11, none⟩ (.slice A_8z n8z c8z))) hS 0 0 [.bool s8a, .slice A_8a n8a c8a, .bool s8b, .slice A_8b n8b c8b, .bool s8d, .slice A_8d n8d c8d, .bool s8x, .slice A_8x n8x c8x, .bool s8y, .slice A_8y n8y c8y, .bool s8z, .slice A_8z n8z c8z] (cs' := #[.bool s8a, .slice A_8a n8a c8a, .bool s8b, .slice A_8b n8b c8b, .bool s8d, .slice A_8d n8d c8d, .bool s8x, .slice A_8x n8x c8x, .bool s8y, .slice A_8y n8y c8y, .bool s8z, .slice A_8z n8z c8z]) (bs' := _) rfl o4 rfl rfl (by kernel_rfl) rfl)
  exact bp_phasor1 rfl rfl rfl (hS.blk 0 rfl) ⟨_, rfl, ⟨_, _, _, _, _, _, RP.mk (hS.num 5 rfl) (hS.num 4 rfl) (hS.num 3 rfl) (hS.num 2 rfl) (hS.num 1 rfl) (hS.num 0 rfl), I8u, S8u, I8v, S8v⟩, hS.ext⟩

end Go.Proofs.Ytjeijmnhbckjdaa
