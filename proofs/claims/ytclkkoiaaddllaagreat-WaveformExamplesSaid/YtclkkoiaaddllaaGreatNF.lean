/- Words and contracts that the laws share, several texts in one. -/
import Derived.Test.YtclkkoiaaddllaaGreatNE
import Derived.Test.YtclkkoiaaddllaaGreatND
/- The specification of numbers: differences, phasors. -/
namespace Go.Proofs.YtclkkoiaaddllaaGreat
open Go.RowKit
set_option linter.unusedVariables false

theorem is_ex (q : GQ) : ∃ a b d : Int, Is q a b d := by
  have h1 : ((q.re.den : Nat) : Int) ≠ 0 := by have := q.re.den_nz; omega
  have h2 : ((q.im.den : Nat) : Int) ≠ 0 := by have := q.im.den_nz; omega
  have e1 : q.re = ((q.re.num : Int) : Rat) / (((q.re.den : Nat) : Int) : Rat) := by
    rw [← Rat.divInt_eq_div]
    exact (Rat.num_divInt_den q.re).symm
  have e2 : q.im = ((q.im.num : Int) : Rat) / (((q.im.den : Nat) : Int) : Rat) := by
    rw [← Rat.divInt_eq_div]
    exact (Rat.num_divInt_den q.im).symm
  generalize q.re.num = a at *
  generalize ((q.re.den : Nat) : Int) = d at *
  generalize q.im.num = b at *
  generalize ((q.im.den : Nat) : Int) = f at *
  have k1 := cast_ne h1
  have k2 := cast_ne h2
  have h := is_nf (a := a * f) (b := b * d) (d := d * f) (Int.mul_ne_zero h1 h2)
  refine ⟨_, _, _, ⟨h.low, ?_, ?_⟩⟩
  · rw [← h.re, e1]; simp only [Rat.intCast_mul]; grind
  · rw [← h.im, e2]; simp only [Rat.intCast_mul]; grind
theorem sz_i {a b : Int} (l1 : -9223372036854775808 ≤ a) (u1 : a ≤ 9223372036854775807) (l2 : -9223372036854775808 ≤ b) (u2 : b ≤ 9223372036854775807) : Sz 64 a b 1 := ⟨lt64 l1 u1, lt64 l2 u2, by decide⟩
/-- A value that holds the number q, in lowest terms, of at most n bits each. -/
def GV (w : World) (v : Value) (q : GQ) (n : Nat) : Prop := ∃ a b d : Int, RG w v a b d ∧ Is q a b d ∧ Sz n a b d
theorem GV.ext {w w' : World} {v : Value} {q : GQ} {n : Nat} (h : GV w v q n) (x : Ext w w') : GV w' v q n := by
  obtain ⟨a, b, d, h1, h2, h3⟩ := h
  exact ⟨a, b, d, h1.ext x, h2, h3⟩
/-- A value that holds a phasor. -/
def PV (w : World) (v : Value) (p : PQ) (n : Nat) : Prop := ∃ a b d x y z : Int, RP w v a b d x y z ∧ Is p.u a b d ∧ Sz n a b d ∧ Is p.v x y z ∧ Sz n x y z
theorem PV.ext {w w' : World} {v : Value} {p : PQ} {n : Nat} (h : PV w v p n) (e : Ext w w') : PV w' v p n := by
  obtain ⟨a, b, d, x, y, z, h1, h2⟩ := h
  exact ⟨a, b, d, x, y, z, h1.ext e, h2⟩
theorem sz_0 {n : Nat} (hn : 1 ≤ n) : Sz n 0 0 1 := Sz.mono (m := 1) ⟨by decide, by decide, by decide⟩ hn

set_option maxRecDepth 100000 in
set_option maxHeartbeats 1600000 in
theorem qSub_w (v0 : Value) (q0 : GQ) (n0 : Nat) (v1 : Value) (q1 : GQ) (n1 : Nat) (w : World) (hX0 : GV w v0 q0 n0) (hX1 : GV w v1 q1 n1)
     (hn : n0 + n1 + 66 ≤ 12800) :
    Calls Tryz.prog 18 #[v0, v1] w fun e w' => ∃ v, e = .returned v ∧ GV w' v (q0 + q1 * GQ.i (-1) 0) (n0 + (n1 + 64 + 1) + 1) ∧ Ext w w' := by
  have hS := St.start w
  obtain ⟨x0a, x0b, x0d, hX0, I0, S0⟩ := hX0
  obtain ⟨sx0a, Ax0a, nx0a, cx0a, sx0b, Ax0b, nx0b, cx0b, sx0d, Ax0d, nx0d, cx0d, rfl, hx0a, hx0b, hx0d⟩ := hX0
  replace hS := hS.addI hx0a
  clear hx0a
  replace hS := hS.addI hx0b
  clear hx0b
  replace hS := hS.addI hx0d
  clear hx0d
  obtain ⟨x1a, x1b, x1d, hX1, I1, S1⟩ := hX1
  obtain ⟨sx1a, Ax1a, nx1a, cx1a, sx1b, Ax1b, nx1b, cx1b, sx1d, Ax1d, nx1d, cx1d, rfl, hx1a, hx1b, hx1d⟩ := hX1
  replace hS := hS.addI hx1a
  clear hx1a
  replace hS := hS.addI hx1b
  clear hx1b
  replace hS := hS.addI hx1d
  clear hx1d
  have o2 : Own w w.heap.size := Own.of hS.ext (by simp)
  have o3 : Own w (w.heap.size + 1) := Own.of hS.ext (by simp)
  have o4 : Own w (w.heap.size + 2) := Own.of hS.ext (by simp)
  go_enter Tryz.func18, Tryz.ntmps18
  go_wp2_with fail
  replace hS := (St.al (St.al (St.al hS 32 #[.bool sx0a, .slice Ax0a nx0a cx0a, .bool sx0b, .slice Ax0b nx0b cx0b, .bool sx0d, .slice Ax0d nx0d cx0d] (g := w.heap.size) (by simp)) 32 #[.bool sx1a, .slice Ax1a nx1a cx1a, .bool sx1b, .slice Ax1b nx1b cx1b, .bool sx1d, .slice Ax1d nx1d cx1d] (g := (w.heap.size + 1)) (by simp)) 32 #[.bool false, .slice none 0 0, .bool false, .slice none 0 0, .bool false, .slice none 0 0] (g := (w.heap.size + 2)) (by simp))
  generalize (((w.alloc (.cells #[.bool sx0a, .slice Ax0a nx0a cx0a, .bool sx0b, .slice Ax0b nx0b cx0b, .bool sx0d, .slice Ax0d nx0d cx0d] 32)).alloc (.cells #[.bool sx1a, .slice Ax1a nx1a cx1a, .bool sx1b, .slice Ax1b nx1b cx1b, .bool sx1d, .slice Ax1d nx1d cx1d] 32)).alloc (.cells #[.bool false, .slice none 0 0, .bool false, .slice none 0 0, .bool false, .slice none 0 0] 32)) = w1 at hS ⊢
  generalize w.heap.size + 2 = g4 at hS o4 ⊢
  generalize w.heap.size + 1 = g3 at hS o3 ⊢
  generalize w.heap.size = g2 at hS o2 ⊢
  obtain ⟨z8a, z8b, z8d, I8⟩ := is_ex (q1 * (GQ.i (-1) (0)))
  have K8 := MulOk.of I1 S1 (is_i (-1) (0)) (sz_i (by omega) (by omega) (by omega) (by omega)) I8 (by omega)
  have S8 := K8.size
  obtain ⟨z9a, z9b, z9d, I9⟩ := is_ex (q0 + (q1 * (GQ.i (-1) (0))))
  have K9 := AddOk.of I0 S0 I8 S8 I9 (by omega)
  have S9 := K9.size
  have Y3 := ExtOf.blk (hS.blk 1 rfl)
  have Y2 := ExtOf.blk (hS.blk 2 rfl)
  have hE_ := hS.ext
  refine wp_region_tame 5 (hasF [(2, .any), (3, .any), (4, .any)]) (Fcs [(2, .rg ((-1 : Int)) ((0 : Int)) ((1 : Int))), (3, .rg (z8a) (z8b) (z8d)), (4, .rg (z9a) (z9b) (z9d))]) (Fcs_stab _) (by kernel_rfl) (by kernel_rfl) ?_
  simp only [List.take_succ_cons, List.take_zero, List.drop_succ_cons, List.drop_zero]
  refine wpT_quiet 2 (by rfl) (by kernel_rfl) ?_
  simp only [List.take_succ_cons, List.take_zero, List.drop_succ_cons, List.drop_zero]
  repeat (go_big_quiet_step (fail))
  refine wpQuiet_nil ?_
  refine wpT_eff (by rfl) (by rfl) (by rfl) ?_ ?_
  · intro W_ hK
    have hW := hK.1
    clear hK
    go_simp
    exact ⟨rfl, (qInt_ok (-1) (0) _ (by omega) (by omega) (by omega) (by omega)).mono fun e w' ⟨v, he, hR, hx⟩ => ⟨v, he, hx, hR⟩⟩
  intro v_ lo7 hi7 hr_
  obtain ⟨W_, hW_⟩ := hr_
  have hv_ : Fc.holds (.rg ((-1 : Int)) ((0 : Int)) ((1 : Int))) lo7 hi7 v_ W_ := hW_.get
  clear hW_
  obtain ⟨s7a, A_7a, n7a, c7a, s7b, A_7b, n7b, c7b, s7d, A_7d, n7d, c7d, rfl, -, -, -⟩ := hv_
  clear W_
  try simp only [Act.put, List.setIfInBounds_toArray, List.set_cons_succ, List.set_cons_zero]
  refine wpT_eff (by rfl) (by rfl) (by rfl) ?_ ?_
  · intro W_ hK
    have hW := hK.1
    have F_s7a : RI W_ (iv s7a A_7a n7a c7a) (-1 : Int) := RG.at1 (hK.2 2 ((gv s7a A_7a n7a c7a s7b A_7b n7b c7b s7d A_7d n7d c7d), lo7, hi7) (by rfl) (by kernel_rfl))
    have F_s7b : RI W_ (iv s7b A_7b n7b c7b) (0 : Int) := RG.at2 (hK.2 2 ((gv s7a A_7a n7a c7a s7b A_7b n7b c7b s7d A_7d n7d c7d), lo7, hi7) (by rfl) (by kernel_rfl))
    have F_s7d : RI W_ (iv s7d A_7d n7d c7d) (1 : Int) := RG.at3 (hK.2 2 ((gv s7a A_7a n7a c7a s7b A_7b n7b c7b s7d A_7d n7d c7d), lo7, hi7) (by rfl) (by kernel_rfl))
    clear hK
    go_simp
    exact ⟨rfl, (qMul_ok _ _ x1a x1b x1d (-1 : Int) (0 : Int) (1 : Int) z8a z8b z8d _ _ _ (RG.mk (RI.ext (hS.num 2 rfl) hW) (RI.ext (hS.num 1 rfl) hW) (RI.ext (hS.num 0 rfl) hW)) (RG.mk F_s7a F_s7b F_s7d) K8).mono fun e w' ⟨v, he, hR, hx⟩ => ⟨v, he, hx, hR⟩⟩
  intro v_ lo8 hi8 hr_
  obtain ⟨W_, hW_⟩ := hr_
  have hv_ : Fc.holds (.rg (z8a) (z8b) (z8d)) lo8 hi8 v_ W_ := hW_.get
  clear hW_
  obtain ⟨s8a, A_8a, n8a, c8a, s8b, A_8b, n8b, c8b, s8d, A_8d, n8d, c8d, rfl, -, -, -⟩ := hv_
  clear W_
  try simp only [Act.put, List.setIfInBounds_toArray, List.set_cons_succ, List.set_cons_zero]
  refine wpT_eff (by rfl) (by rfl) (by rfl) ?_ ?_
  · intro W_ hK
    have hW := hK.1
    have F_s8a : RI W_ (iv s8a A_8a n8a c8a) z8a := RG.at1 (hK.2 3 ((gv s8a A_8a n8a c8a s8b A_8b n8b c8b s8d A_8d n8d c8d), lo8, hi8) (by rfl) (by kernel_rfl))
    have F_s8b : RI W_ (iv s8b A_8b n8b c8b) z8b := RG.at2 (hK.2 3 ((gv s8a A_8a n8a c8a s8b A_8b n8b c8b s8d A_8d n8d c8d), lo8, hi8) (by rfl) (by kernel_rfl))
    have F_s8d : RI W_ (iv s8d A_8d n8d c8d) z8d := RG.at3 (hK.2 3 ((gv s8a A_8a n8a c8a s8b A_8b n8b c8b s8d A_8d n8d c8d), lo8, hi8) (by rfl) (by kernel_rfl))
    clear hK
    go_simp
    exact ⟨rfl, (qAdd_ok _ _ x0a x0b x0d z8a z8b z8d z9a z9b z9d _ _ _ (RG.mk (RI.ext (hS.num 5 rfl) hW) (RI.ext (hS.num 4 rfl) hW) (RI.ext (hS.num 3 rfl) hW)) (RG.mk F_s8a F_s8b F_s8d) K9).mono fun e w' ⟨v, he, hR, hx⟩ => ⟨v, he, hx, hR⟩⟩
  intro v_ lo9 hi9 hr_
  obtain ⟨W_, hW_⟩ := hr_
  have hv_ : Fc.holds (.rg (z9a) (z9b) (z9d)) lo9 hi9 v_ W_ := hW_.get
  clear hW_
  obtain ⟨s9a, A_9a, n9a, c9a, s9b, A_9b, n9b, c9b, s9d, A_9d, n9d, c9d, rfl, -, -, -⟩ := hv_
  clear W_
  try simp only [Act.put, List.setIfInBounds_toArray, List.set_cons_succ, List.set_cons_zero]
  refine wpT_nil ?_
  intro w2 hK
  have hlt_ := hS.lt
  replace hS := hS.mv hK.ext
  replace hS := hS.addI (show RI w2 (iv s7a A_7a n7a c7a) (-1 : Int) from RG.at1 (hK.at_ 2 (e := ((gv s7a A_7a n7a c7a s7b A_7b n7b c7b s7d A_7d n7d c7d), lo7, hi7)) (by rfl)))
  replace hS := hS.addI (show RI w2 (iv s7b A_7b n7b c7b) (0 : Int) from RG.at2 (hK.at_ 2 (e := ((gv s7a A_7a n7a c7a s7b A_7b n7b c7b s7d A_7d n7d c7d), lo7, hi7)) (by rfl)))
  replace hS := hS.addI (show RI w2 (iv s7d A_7d n7d c7d) (1 : Int) from RG.at3 (hK.at_ 2 (e := ((gv s7a A_7a n7a c7a s7b A_7b n7b c7b s7d A_7d n7d c7d), lo7, hi7)) (by rfl)))
  replace hS := hS.addI (show RI w2 (iv s8a A_8a n8a c8a) z8a from RG.at1 (hK.at_ 3 (e := ((gv s8a A_8a n8a c8a s8b A_8b n8b c8b s8d A_8d n8d c8d), lo8, hi8)) (by rfl)))
  replace hS := hS.addI (show RI w2 (iv s8b A_8b n8b c8b) z8b from RG.at2 (hK.at_ 3 (e := ((gv s8a A_8a n8a c8a s8b A_8b n8b c8b s8d A_8d n8d c8d), lo8, hi8)) (by rfl)))
  replace hS := hS.addI (show RI w2 (iv s8d A_8d n8d c8d) z8d from RG.at3 (hK.at_ 3 (e := ((gv s8a A_8a n8a c8a s8b A_8b n8b c8b s8d A_8d n8d c8d), lo8, hi8)) (by rfl)))
  replace hS := hS.addI (show RI w2 (iv s9a A_9a n9a c9a) z9a from RG.at1 (hK.at_ 4 (e := ((gv s9a A_9a n9a c9a s9b A_9b n9b c9b s9d A_9d n9d c9d), lo9, hi9)) (by rfl)))
  replace hS := hS.addI (show RI w2 (iv s9b A_9b n9b c9b) z9b from RG.at2 (hK.at_ 4 (e := ((gv s9a A_9a n9a c9a s9b A_9b n9b c9b s9d A_9d n9d c9d), lo9, hi9)) (by rfl)))
  replace hS := hS.addI (show RI w2 (iv s9d A_9d n9d c9d) z9d from RG.at3 (hK.at_ 4 (e := ((gv s9a A_9a n9a c9a s9b A_9b n9b c9b s9d A_9d n9d c9d), lo9, hi9)) (by rfl)))
  clear hK hlt_ hE_ Y3 Y2
  have k_1 := (hS.blk 0 rfl).cell
  have k_2 := (hS.blk 0 rfl).frozen
  go_wp2
  replace hS := (St.put (W' := ((((((w2.setCell ⟨g4, 0, none⟩ (.bool s9a)).setCell ⟨g4, 1, none⟩ (.slice A_9a n9a c9a)).setCell ⟨g4, 2, none⟩ (.bool s9b)).setCell ⟨g4, 3, none⟩ (.slice A_9b n9b c9b)).setCell ⟨g4, 4, none⟩ (.bool s9d)).setCell ⟨g4, 5, none⟩ (.slice A_9d n9d c9d))) hS 0 0 [.bool s9a, .slice A_9a n9a c9a, .bool s9b, .slice A_9b n9b c9b, .bool s9d, .slice A_9d n9d c9d] (cs' := #[.bool s9a, .slice A_9a n9a c9a, .bool s9b, .slice A_9b n9b c9b, .bool s9d, .slice A_9d n9d c9d]) (bs' := _) rfl o4 rfl rfl (by kernel_rfl) rfl)
  exact bp_gauss1 rfl rfl rfl (hS.blk 0 rfl) ⟨_, rfl, ⟨_, _, _, RG.mk (hS.num 2 rfl) (hS.num 1 rfl) (hS.num 0 rfl), I9, S9⟩, hS.ext⟩

theorem qSub_ok (v0 v1 : Value) (q0 q1 : GQ) (n0 n1 : Nat) (w : World) (hX : GV w v0 q0 n0) (hY : GV w v1 q1 n1) (hn : n0 + n1 + 66 ≤ 12800) :
    Calls Tryz.prog 18 #[v0, v1] w fun e w' => ∃ v, e = .returned v ∧ GV w' v (q0 - q1) (n0 + n1 + 66) ∧ Ext w w' := by
  have e : q0 - q1 = q0 + q1 * GQ.i (-1) 0 := by
    ext <;> simp only [GQ.add_re, GQ.add_im, GQ.sub_re, GQ.sub_im, GQ.mul_re, GQ.mul_im, GQ.i_re, GQ.i_im] <;> grind
  rw [e, show n0 + n1 + 66 = n0 + (n1 + 64 + 1) + 1 by omega]
  exact qSub_w v0 q0 n0 v1 q1 n1 w hX hY hn
set_option maxRecDepth 100000 in
set_option maxHeartbeats 1600000 in
theorem qPlain_ok (v0 : Value) (q0 : GQ) (n0 : Nat) (w : World) (hX0 : GV w v0 q0 n0)
     (hn : 1 ≤ n0) :
    Calls Tryz.prog 23 #[v0] w fun e w' => ∃ v, e = .returned v ∧ PV w' v (PQ.plain q0) (n0) ∧ Ext w w' := by
  have hS := St.start w
  obtain ⟨x0a, x0b, x0d, hX0, I0, S0⟩ := hX0
  obtain ⟨sx0a, Ax0a, nx0a, cx0a, sx0b, Ax0b, nx0b, cx0b, sx0d, Ax0d, nx0d, cx0d, rfl, hx0a, hx0b, hx0d⟩ := hX0
  replace hS := hS.addI hx0a
  clear hx0a
  replace hS := hS.addI hx0b
  clear hx0b
  replace hS := hS.addI hx0d
  clear hx0d
  have o1 : Own w w.heap.size := Own.of hS.ext (by simp)
  have o2 : Own w (w.heap.size + 1) := Own.of hS.ext (by simp)
  go_enter Tryz.func23, Tryz.ntmps23
  go_wp2_with fail
  replace hS := (St.al (St.al hS 32 #[.bool sx0a, .slice Ax0a nx0a cx0a, .bool sx0b, .slice Ax0b nx0b cx0b, .bool sx0d, .slice Ax0d nx0d cx0d] (g := w.heap.size) (by simp)) 46 #[.bool false, .slice none 0 0, .bool false, .slice none 0 0, .bool false, .slice none 0 0, .bool false, .slice none 0 0, .bool false, .slice none 0 0, .bool false, .slice none 0 0] (g := (w.heap.size + 1)) (by simp))
  generalize ((w.alloc (.cells #[.bool sx0a, .slice Ax0a nx0a cx0a, .bool sx0b, .slice Ax0b nx0b cx0b, .bool sx0d, .slice Ax0d nx0d cx0d] 32)).alloc (.cells #[.bool false, .slice none 0 0, .bool false, .slice none 0 0, .bool false, .slice none 0 0, .bool false, .slice none 0 0, .bool false, .slice none 0 0, .bool false, .slice none 0 0] 46)) = w1 at hS ⊢
  generalize w.heap.size + 1 = g2 at hS o2 ⊢
  generalize w.heap.size = g1 at hS o1 ⊢
  have Y1 := ExtOf.blk (hS.blk 1 rfl)
  have hE_ := hS.ext
  refine wp_region_tame 3 (hasF [(1, .any)]) (Fcs [(1, .rg ((0 : Int)) ((0 : Int)) ((1 : Int)))]) (Fcs_stab _) (by kernel_rfl) (by kernel_rfl) ?_
  simp only [List.take_succ_cons, List.take_zero, List.drop_succ_cons, List.drop_zero]
  refine wpT_quiet 1 (by rfl) (by kernel_rfl) ?_
  simp only [List.take_succ_cons, List.take_zero, List.drop_succ_cons, List.drop_zero]
  repeat (go_big_quiet_step (fail))
  refine wpQuiet_nil ?_
  refine wpT_eff (by rfl) (by rfl) (by rfl) ?_ ?_
  · intro W_ hK
    have hW := hK.1
    clear hK
    go_simp
    exact ⟨rfl, (qInt_ok (0) (0) _ (by omega) (by omega) (by omega) (by omega)).mono fun e w' ⟨v, he, hR, hx⟩ => ⟨v, he, hx, hR⟩⟩
  intro v_ lo4 hi4 hr_
  obtain ⟨W_, hW_⟩ := hr_
  have hv_ : Fc.holds (.rg ((0 : Int)) ((0 : Int)) ((1 : Int))) lo4 hi4 v_ W_ := hW_.get
  clear hW_
  obtain ⟨s4a, A_4a, n4a, c4a, s4b, A_4b, n4b, c4b, s4d, A_4d, n4d, c4d, rfl, -, -, -⟩ := hv_
  clear W_
  try simp only [Act.put, List.setIfInBounds_toArray, List.set_cons_succ, List.set_cons_zero]
  refine wpT_quiet 1 (by rfl) (by kernel_rfl) ?_
  simp only [List.take_succ_cons, List.take_zero, List.drop_succ_cons, List.drop_zero]
  repeat (go_big_quiet_step (fail))
  refine wpQuiet_nil ?_
  refine wpT_nil ?_
  intro w2 hK
  have hlt_ := hS.lt
  replace hS := hS.mv hK.ext
  replace hS := hS.addI (show RI w2 (iv s4a A_4a n4a c4a) (0 : Int) from RG.at1 (hK.at_ 1 (e := ((gv s4a A_4a n4a c4a s4b A_4b n4b c4b s4d A_4d n4d c4d), lo4, hi4)) (by rfl)))
  replace hS := hS.addI (show RI w2 (iv s4b A_4b n4b c4b) (0 : Int) from RG.at2 (hK.at_ 1 (e := ((gv s4a A_4a n4a c4a s4b A_4b n4b c4b s4d A_4d n4d c4d), lo4, hi4)) (by rfl)))
  replace hS := hS.addI (show RI w2 (iv s4d A_4d n4d c4d) (1 : Int) from RG.at3 (hK.at_ 1 (e := ((gv s4a A_4a n4a c4a s4b A_4b n4b c4b s4d A_4d n4d c4d), lo4, hi4)) (by rfl)))
  clear hK hlt_ hE_ Y1
  have k_1 := (hS.blk 0 rfl).cell
  have k_2 := (hS.blk 0 rfl).frozen
  go_wp2
  replace hS := (St.put (W' := ((((((((((((w2.setCell ⟨g2, 0, none⟩ (.bool sx0a)).setCell ⟨g2, 1, none⟩ (.slice Ax0a nx0a cx0a)).setCell ⟨g2, 2, none⟩ (.bool sx0b)).setCell ⟨g2, 3, none⟩ (.slice Ax0b nx0b cx0b)).setCell ⟨g2, 4, none⟩ (.bool sx0d)).setCell ⟨g2, 5, none⟩ (.slice Ax0d nx0d cx0d)).setCell ⟨g2, 6, none⟩ (.bool s4a)).setCell ⟨g2, 7, none⟩ (.slice A_4a n4a c4a)).setCell ⟨g2, 8, none⟩ (.bool s4b)).setCell ⟨g2, 9, none⟩ (.slice A_4b n4b c4b)).setCell ⟨g2, 10, none⟩ (.bool s4d)).setCell ⟨g2, 11, none⟩ (.slice A_4d n4d c4d))) hS 0 0 [.bool sx0a, .slice Ax0a nx0a cx0a, .bool sx0b, .slice Ax0b nx0b cx0b, .bool sx0d, .slice Ax0d nx0d cx0d, .bool s4a, .slice A_4a n4a c4a, .bool s4b, .slice A_4b n4b c4b, .bool s4d, .slice A_4d n4d c4d] (cs' := #[.bool sx0a, .slice Ax0a nx0a cx0a, .bool sx0b, .slice Ax0b nx0b cx0b, .bool sx0d, .slice Ax0d nx0d cx0d, .bool s4a, .slice A_4a n4a c4a, .bool s4b, .slice A_4b n4b c4b, .bool s4d, .slice A_4d n4d c4d]) (bs' := _) rfl o2 rfl rfl (by kernel_rfl) rfl)
  exact bp_phasor1 rfl rfl rfl (hS.blk 0 rfl) ⟨_, rfl, ⟨_, _, _, _, _, _, RP.mk (hS.num 5 rfl) (hS.num 4 rfl) (hS.num 3 rfl) (hS.num 2 rfl) (hS.num 1 rfl) (hS.num 0 rfl), I0, S0, (is_i 0 0), (sz_0 hn)⟩, hS.ext⟩

end Go.Proofs.YtclkkoiaaddllaaGreat

/- The size of numbers. -/
namespace Go.Proofs.YtclkkoiaaddllaaGreat
open Go.RowKit
set_option linter.unusedVariables false

theorem GV.at_ {w : World} {v : Value} {q : GQ} {n : Nat} {a b d : Int} (h : GV w v q n) (I : Is q a b d) : RG w v a b d := by
  obtain ⟨a1, b1, d1, h1, h2, _⟩ := h
  obtain ⟨rfl, rfl, rfl⟩ := h2.unique I
  exact h1
theorem PV.at_ {w : World} {v : Value} {p : PQ} {n : Nat} {a b d x y z : Int} (h : PV w v p n) (I : Is p.u a b d) (J : Is p.v x y z) : RP w v a b d x y z := by
  obtain ⟨a1, b1, d1, x1, y1, z1, h1, h2, _, h3, _⟩ := h
  obtain ⟨rfl, rfl, rfl⟩ := h2.unique I
  obtain ⟨rfl, rfl, rfl⟩ := h3.unique J
  exact h1
/-- The number's parts have at most n bits. -/
def Bd (q : GQ) (n : Nat) : Prop := ∃ a b d : Int, Is q a b d ∧ Sz n a b d
theorem Bd.sz {q : GQ} {n : Nat} {a b d : Int} (h : Bd q n) (I : Is q a b d) : Sz n a b d := by
  obtain ⟨a1, b1, d1, h1, h2⟩ := h
  obtain ⟨rfl, rfl, rfl⟩ := h1.unique I
  exact h2
theorem Bd.mono {q : GQ} {m n : Nat} (h : Bd q m) (hmn : m ≤ n) : Bd q n := by
  obtain ⟨a, b, d, h1, h2⟩ := h
  exact ⟨a, b, d, h1, h2.mono hmn⟩
theorem Bd.add {x y : GQ} {m n : Nat} (hx : Bd x m) (hy : Bd y n) : Bd (x + y) (m + n + 1) := by
  obtain ⟨a, b, d, h1, h2⟩ := hx
  obtain ⟨a', b', d', h3, h4⟩ := hy
  obtain ⟨u, v, t, h5⟩ := is_ex (x + y)
  exact ⟨u, v, t, h5, h1.size_add h2 h3 h4 h5⟩
theorem Bd.sub {x y : GQ} {m n : Nat} (hx : Bd x m) (hy : Bd y n) : Bd (x - y) (m + n + 1) := by
  obtain ⟨a, b, d, h1, h2⟩ := hx
  obtain ⟨a', b', d', h3, h4⟩ := hy
  obtain ⟨u, v, t, h5⟩ := is_ex (x - y)
  exact ⟨u, v, t, h5, h1.size_sub h2 h3 h4 h5⟩
theorem Bd.mul {x y : GQ} {m n : Nat} (hx : Bd x m) (hy : Bd y n) : Bd (x * y) (m + n + 1) := by
  obtain ⟨a, b, d, h1, h2⟩ := hx
  obtain ⟨a', b', d', h3, h4⟩ := hy
  obtain ⟨u, v, t, h5⟩ := is_ex (x * y)
  exact ⟨u, v, t, h5, h1.size_mul h2 h3 h4 h5⟩
theorem Bd.i {a b : Int} (l1 : -9223372036854775808 ≤ a) (u1 : a ≤ 9223372036854775807) (l2 : -9223372036854775808 ≤ b) (u2 : b ≤ 9223372036854775807) : Bd (GQ.i a b) 64 := ⟨_, _, _, is_i a b, sz_i l1 u1 l2 u2⟩
theorem Bd.three : Bd (GQ.i 3 0) 2 := ⟨_, _, _, is_i 3 0, ⟨by decide, by decide, by decide⟩⟩
theorem Bd.of {q : GQ} {a b d : Int} {n : Nat} (hd : d ≠ 0) (hr : q.re = (a : Rat) / (d : Rat)) (hi : q.im = (b : Rat) / (d : Rat)) (s : Sz n a b d) : Bd q n := by
  obtain ⟨u, v, t, h⟩ := is_ex q
  exact ⟨u, v, t, h, h.size hd hr hi s⟩
theorem Bd.produ {p q : PQ} {m n : Nat} (h1 : Bd p.u m) (h2 : Bd p.v m) (h3 : Bd q.u n) (h4 : Bd q.v n) : Bd (p * q).u (2 * (m + n) + 69) := ((h1.mul h3).add (Bd.three.mul (h2.mul h4))).mono (by omega)
theorem Bd.prodv {p q : PQ} {m n : Nat} (h1 : Bd p.u m) (h2 : Bd p.v m) (h3 : Bd q.u n) (h4 : Bd q.v n) : Bd (p * q).v (2 * (m + n) + 69) := ((h1.mul h4).add (h2.mul h3)).mono (by omega)
theorem rat_half (a : Int) : (a : Rat) / ((2 : Int) : Rat) = (a : Rat) / 2 := by simp
theorem Bd.mk2 {q : GQ} {a b : Int} (hr : q.re = (a : Rat) / 2) (hi : q.im = (b : Rat) / 2) (ha : a.natAbs ≤ 3) (hb : b.natAbs ≤ 3) : Bd q 2 :=
  Bd.of (a := a) (b := b) (d := 2) (by omega) (by rw [hr, rat_half]) (by rw [hi, rat_half]) ⟨by omega, by omega, by decide⟩
/-- The powers of z are small. -/
theorem Bd.zp {k : Nat} (hk : k < 12) : Bd (PQ.zp k).u 2 ∧ Bd (PQ.zp k).v 2 := by
  have key : ∀ a b c d : Int, a.natAbs ≤ 3 → b.natAbs ≤ 3 → c.natAbs ≤ 3 → d.natAbs ≤ 3 → PQ.zp k = PQ.mk4 ((a : Rat) / 2) ((b : Rat) / 2) ((c : Rat) / 2) ((d : Rat) / 2) → Bd (PQ.zp k).u 2 ∧ Bd (PQ.zp k).v 2 := by
    intro a b c d ha hb hc hd e
    rw [e]
    exact ⟨Bd.mk2 rfl rfl ha hb, Bd.mk2 rfl rfl hc hd⟩
  have go : ∀ {a b c d : Rat} {a' b' c' d' : Int}, a = (a' : Rat) / 2 → b = (b' : Rat) / 2 → c = (c' : Rat) / 2 → d = (d' : Rat) / 2 → PQ.mk4 a b c d = PQ.mk4 ((a' : Rat) / 2) ((b' : Rat) / 2) ((c' : Rat) / 2) ((d' : Rat) / 2) := by
    intro a b c d a' b' c' d' h1 h2 h3 h4
    rw [h1, h2, h3, h4]
  match k, hk with
  | 0, _ => exact key 2 0 0 0 (by decide) (by decide) (by decide) (by decide) (PQ.zp0.trans (go (by grind) (by grind) (by grind) (by grind)))
  | 1, _ => exact key 0 1 1 0 (by decide) (by decide) (by decide) (by decide) (PQ.zp1.trans (go (by grind) (by grind) (by grind) (by grind)))
  | 2, _ => exact key 1 0 0 1 (by decide) (by decide) (by decide) (by decide) (PQ.zp2.trans (go (by grind) (by grind) (by grind) (by grind)))
  | 3, _ => exact key 0 2 0 0 (by decide) (by decide) (by decide) (by decide) (PQ.zp3.trans (go (by grind) (by grind) (by grind) (by grind)))
  | 4, _ => exact key (-1) 0 0 1 (by decide) (by decide) (by decide) (by decide) (PQ.zp4.trans (go (by grind) (by grind) (by grind) (by grind)))
  | 5, _ => exact key 0 1 (-1) 0 (by decide) (by decide) (by decide) (by decide) (PQ.zp5.trans (go (by grind) (by grind) (by grind) (by grind)))
  | 6, _ => exact key (-2) 0 0 0 (by decide) (by decide) (by decide) (by decide) (PQ.zp6.trans (go (by grind) (by grind) (by grind) (by grind)))
  | 7, _ => exact key 0 (-1) (-1) 0 (by decide) (by decide) (by decide) (by decide) (PQ.zp7.trans (go (by grind) (by grind) (by grind) (by grind)))
  | 8, _ => exact key (-1) 0 0 (-1) (by decide) (by decide) (by decide) (by decide) (PQ.zp8.trans (go (by grind) (by grind) (by grind) (by grind)))
  | 9, _ => exact key 0 (-2) 0 0 (by decide) (by decide) (by decide) (by decide) (PQ.zp9.trans (go (by grind) (by grind) (by grind) (by grind)))
  | 10, _ => exact key 1 0 0 (-1) (by decide) (by decide) (by decide) (by decide) (PQ.zp10.trans (go (by grind) (by grind) (by grind) (by grind)))
  | 11, _ => exact key 0 (-1) 1 0 (by decide) (by decide) (by decide) (by decide) (PQ.zp11.trans (go (by grind) (by grind) (by grind) (by grind)))
end Go.Proofs.YtclkkoiaaddllaaGreat

/- Contracts of the calculator: turning by powers of i. -/
namespace Go.Proofs.YtclkkoiaaddllaaGreat
open Go.RowKit
set_option linter.unusedVariables false

theorem neg_lim {z : Int} (h : z.natAbs < lim) : (-z).natAbs < lim := by rwa [Int.natAbs_neg]
/-- Powers of i. -/
def GQ.ip : Nat → GQ
  | 0 => GQ.i 1 0
  | n + 1 => GQ.ip n * GQ.i 0 1
theorem GQ.mul_i1 (q : GQ) : q * GQ.i 1 0 = q := by
  ext <;> simp only [GQ.mul_re, GQ.mul_im, GQ.i_re, GQ.i_im] <;> grind
theorem Is.turn {q : GQ} {a b d : Int} {k : Nat} (h : Is (q * GQ.ip k) a b d) : Is (q * GQ.ip (k + 1)) (-b) a d := by
  have e : q * GQ.ip (k + 1) = (q * GQ.ip k) * GQ.i 0 1 := (GQ.mul_assoc' q (GQ.ip k) (GQ.i 0 1)).symm
  rw [e]
  have hd := cast_ne h.dne
  refine ⟨⟨h.low.1, ?_⟩, ?_, ?_⟩
  · have := h.low.2
    unfold g3 at *
    rw [Int.natAbs_neg, Nat.gcd_assoc, Nat.gcd_comm b.natAbs, ← Nat.gcd_assoc]
    exact this
  · rw [GQ.mul_re, h.re, h.im]; simp only [GQ.i_re, GQ.i_im, Rat.intCast_neg]; grind
  · rw [GQ.mul_im, h.re, h.im]; simp only [GQ.i_re, GQ.i_im]; grind
theorem Sz.turn {n : Nat} {a b d : Int} (h : Sz n a b d) : Sz n (-b) a d := ⟨by rw [Int.natAbs_neg]; exact h.b, h.a, h.d⟩

set_option maxRecDepth 100000 in
set_option maxHeartbeats 3200000 in
theorem erotate_w (gc : Nat) (v1 : Value) (q1 : GQ) (n1 : Nat) (K : Nat) (w : World) (hc : Calm w gc) (hX1 : GV w v1 q1 n1)
     (hn : n1 ≤ 12800) (hK : K ≤ 100) :
    Calls Tryz.prog 86 #[.pointer (some ⟨gc, 0, none⟩), v1, .int .i64 ((K : Int))] w fun e w' => ∃ v, e = .returned v ∧ GV w' v (q1 * GQ.ip K) (n1) ∧ Ext w w' := by
  have hS := St.start w
  obtain ⟨x1a, x1b, x1d, hX1, I1, S1⟩ := hX1
  obtain ⟨sx1a, Ax1a, nx1a, cx1a, sx1b, Ax1b, nx1b, cx1b, sx1d, Ax1d, nx1d, cx1d, rfl, hx1a, hx1b, hx1d⟩ := hX1
  replace hS := hS.addI hx1a
  clear hx1a
  replace hS := hS.addI hx1b
  clear hx1b
  replace hS := hS.addI hx1d
  clear hx1d
  replace hS := hS.addB hc trivial
  clear hc
  have o4 : Own w w.heap.size := Own.of hS.ext (by simp)
  have o6 : Own w (w.heap.size + 1) := Own.of hS.ext (by simp)
  go_enter Tryz.func86, Tryz.ntmps86
  go_wp2_with fail
  replace hS := (St.al (St.al hS 32 #[.bool sx1a, .slice Ax1a nx1a cx1a, .bool sx1b, .slice Ax1b nx1b cx1b, .bool sx1d, .slice Ax1d nx1d cx1d] (g := w.heap.size) (by simp)) 32 #[.bool false, .slice none 0 0, .bool false, .slice none 0 0, .bool false, .slice none 0 0] (g := (w.heap.size + 1)) (by simp))
  generalize ((w.alloc (.cells #[.bool sx1a, .slice Ax1a nx1a cx1a, .bool sx1b, .slice Ax1b nx1b cx1b, .bool sx1d, .slice Ax1d nx1d cx1d] 32)).alloc (.cells #[.bool false, .slice none 0 0, .bool false, .slice none 0 0, .bool false, .slice none 0 0] 32)) = w1 at hS ⊢
  generalize w.heap.size + 1 = g6 at hS o6 ⊢
  generalize w.heap.size = g4 at hS o4 ⊢
  have Y4 := ExtOf.blk (hS.blk 1 rfl)
  have hE_ := hS.ext
  refine wp_region_tame 8 (hasF [(2, .any), (5, .any), (6, .any), (7, .any)]) (Fcs [(2, .ri (x1a)), (5, .ri (x1b)), (6, .box 30 #[.bool false, .slice none 0 0]), (7, .box 30 #[.bool false, .slice none 0 0])]) (Fcs_stab _) (by kernel_rfl) (by kernel_rfl) ?_
  simp only [List.take_succ_cons, List.take_zero, List.drop_succ_cons, List.drop_zero]
  refine wpT_quiet 2 (by rfl) (by kernel_rfl) ?_
  simp only [List.take_succ_cons, List.take_zero, List.drop_succ_cons, List.drop_zero]
  repeat (go_big_quiet_step (fail))
  refine wpQuiet_nil ?_
  refine wpT_eff (by rfl) (by rfl) (by rfl) ?_ ?_
  · intro W_ hK
    have hW := hK.1
    clear hK
    go_simp
    exact ⟨rfl, (eclone_any _ x1a _ (RI.ext (hS.num 2 rfl) hW) (lim_of S1.a (by omega))).mono fun e w' ⟨v, he, hR, hx⟩ => ⟨v, he, hx, hR⟩⟩
  intro v_ lo11 hi11 hr_
  obtain ⟨W_, hW_⟩ := hr_
  have hv_ : Fc.holds (.ri (x1a)) lo11 hi11 v_ W_ := hW_.get
  clear hW_
  obtain ⟨s11, A_11, n11, c11, rfl, -⟩ := RI.opn hv_
  clear hv_
  clear W_
  try simp only [Act.put, List.setIfInBounds_toArray, List.set_cons_succ, List.set_cons_zero]
  refine wpT_quiet 2 (by rfl) (by kernel_rfl) ?_
  simp only [List.take_succ_cons, List.take_zero, List.drop_succ_cons, List.drop_zero]
  repeat (go_big_quiet_step (fail))
  refine wpQuiet_nil ?_
  refine wpT_eff (by rfl) (by rfl) (by rfl) ?_ ?_
  · intro W_ hK
    have hW := hK.1
    clear hK
    go_simp
    exact ⟨rfl, (eclone_any _ x1b _ (RI.ext (hS.num 1 rfl) hW) (lim_of S1.b (by omega))).mono fun e w' ⟨v, he, hR, hx⟩ => ⟨v, he, hx, hR⟩⟩
  intro v_ lo14 hi14 hr_
  obtain ⟨W_, hW_⟩ := hr_
  have hv_ : Fc.holds (.ri (x1b)) lo14 hi14 v_ W_ := hW_.get
  clear hW_
  obtain ⟨s14, A_14, n14, c14, rfl, -⟩ := RI.opn hv_
  clear hv_
  clear W_
  try simp only [Act.put, List.setIfInBounds_toArray, List.set_cons_succ, List.set_cons_zero]
  refine wpT_eff (by rfl) (by rfl) (by rfl) ?_ ?_
  · intro W_ hK
    go_simp
    exact ⟨Ext.new _ _, rfl, by simp, Blk.new _ _ _⟩
  intro v_ g7 hi7 hr_
  obtain ⟨W_, hW_⟩ := hr_
  obtain ⟨rfl, hl7, -⟩ : Fc.holds (.box 30 #[.bool false, .slice none 0 0]) g7 hi7 v_ W_ := hW_.get
  clear hW_ W_
  try simp only [Act.put, List.setIfInBounds_toArray, List.set_cons_succ, List.set_cons_zero]
  refine wpT_eff (by rfl) (by rfl) (by rfl) ?_ ?_
  · intro W_ hK
    go_simp
    exact ⟨Ext.new _ _, rfl, by simp, Blk.new _ _ _⟩
  intro v_ g8 hi8 hr_
  obtain ⟨W_, hW_⟩ := hr_
  obtain ⟨rfl, hl8, -⟩ : Fc.holds (.box 30 #[.bool false, .slice none 0 0]) g8 hi8 v_ W_ := hW_.get
  clear hW_ W_
  try simp only [Act.put, List.setIfInBounds_toArray, List.set_cons_succ, List.set_cons_zero]
  refine wpT_nil ?_
  intro w2 hK
  have hlt_ := hS.lt
  replace hS := hS.mv hK.ext
  replace hS := hS.addI (show RI w2 (iv s11 A_11 n11 c11) x1a from hK.at_ 2 (e := ((iv s11 A_11 n11 c11), lo11, hi11)) (by rfl))
  replace hS := hS.addI (show RI w2 (iv s14 A_14 n14 c14) x1b from hK.at_ 5 (e := ((iv s14 A_14 n14 c14), lo14, hi14)) (by rfl))
  have lw7 : w1.heap.size ≤ g7 := hK.low 6 _ (by rfl)
  have o7 : Own w g7 := Own.of hE_ lw7
  replace hS := hS.addB (show Blk w2 g7 30 #[.bool false, .slice none 0 0] from (hK.at_ 6 (by rfl)).2.2) (apart_of fun p hp => Nat.ne_of_lt (Nat.lt_of_lt_of_le (hlt_ p hp) lw7))
  have lw8 : w1.heap.size ≤ g8 := hK.low 7 _ (by rfl)
  have o8 : Own w g8 := Own.of hE_ lw8
  replace hS := hS.addB (show Blk w2 g8 30 #[.bool false, .slice none 0 0] from (hK.at_ 7 (by rfl)).2.2) ⟨tame_ne hl7 hl8 (hK.disj 6 7 _ _ (by omega) (by rfl) (by rfl)), (apart_of fun p hp => Nat.ne_of_lt (Nat.lt_of_lt_of_le (hlt_ p hp) lw8))⟩
  clear hK hlt_ hE_ Y4
  clear lw7 hl7 hi7
  clear lw8 hl8 hi8
  have k_1 := (hS.blk 1 rfl).cell
  have k_2 := (hS.blk 1 rfl).frozen
  have hT1 := (St.put (W' := ((w2.setCell ⟨g7, 0, none⟩ (.bool s11)).setCell ⟨g7, 1, none⟩ (.slice A_11 n11 c11))) hS 1 0 [.bool s11, .slice A_11 n11 c11] (cs' := #[.bool s11, .slice A_11 n11 c11]) (bs' := _) rfl o7 rfl rfl (by kernel_rfl) rfl)
  have k_3 := (hT1.blk 0 rfl).cell
  have k_4 := (hT1.blk 0 rfl).frozen
  go_wp2_with fail
  clear k_1 k_2 k_3 k_4
  clear hT1
  replace hS := (St.put (W' := ((((w2.setCell ⟨g7, 0, none⟩ (.bool s11)).setCell ⟨g7, 1, none⟩ (.slice A_11 n11 c11)).setCell ⟨g8, 0, none⟩ (.bool s14)).setCell ⟨g8, 1, none⟩ (.slice A_14 n14 c14))) (St.put (W' := ((w2.setCell ⟨g7, 0, none⟩ (.bool s11)).setCell ⟨g7, 1, none⟩ (.slice A_11 n11 c11))) hS 1 0 [.bool s11, .slice A_11 n11 c11] (cs' := #[.bool s11, .slice A_11 n11 c11]) (bs' := _) rfl o7 rfl rfl (by kernel_rfl) rfl) 0 0 [.bool s14, .slice A_14 n14 c14] (cs' := #[.bool s14, .slice A_14 n14 c14]) (bs' := _) rfl o8 rfl rfl (by kernel_rfl) rfl)
  simp only [List.set_cons_zero, List.set_cons_succ] at hS
  generalize ((((w2.setCell ⟨g7, 0, none⟩ (.bool s11)).setCell ⟨g7, 1, none⟩ (.slice A_11 n11 c11)).setCell ⟨g8, 0, none⟩ (.bool s14)).setCell ⟨g8, 1, none⟩ (.slice A_14 n14 c14)) = w3 at hS ⊢
  go_loopw [16] (fun i wr => ∃ k : Nat, k ≤ K ∧ i = .int .i64 (k : Int) ∧ ∃ (y7_a y8_a : Int) (s7_a s8_a : Bool) (A_7_a A_8_a : Option Addr) (n7_a c7_a n8_a c8_a : Nat), (Is (q1 * GQ.ip k) y7_a y8_a x1d ∧ Sz n1 y7_a y8_a x1d) ∧ St w wr [(g8, 30, #[.bool s8_a, .slice A_8_a n8_a c8_a]), (g7, 30, #[.bool s7_a, .slice A_7_a n7_a c7_a]), (g6, 32, #[.bool false, .slice none 0 0, .bool false, .slice none 0 0, .bool false, .slice none 0 0]), (g4, 32, #[.bool sx1a, .slice Ax1a nx1a cx1a, .bool sx1b, .slice Ax1b nx1b cx1b, .bool sx1d, .slice Ax1d nx1d cx1d]), (gc, 105, #[.int .i64 0])] [nz (iv s7_a A_7_a n7_a c7_a) (y7_a), nz (iv s8_a A_8_a n8_a c8_a) (y8_a), nz (iv sx1a Ax1a nx1a cx1a) (x1a), nz (iv sx1b Ax1b nx1b cx1b) (x1b), nz (iv sx1d Ax1d nx1d cx1d) (x1d)]) (fun i _ => K - (intOf i).toNat)
  case atStart => exact ⟨0, by omega, rfl, x1a, x1b, s11, s14, A_11, A_14, n11, c11, n14, c14, ⟨by rw [show GQ.ip 0 = GQ.i 1 0 from rfl, GQ.mul_i1]; exact I1, S1⟩, hS.sel [1, 0, 4, 3, 2] rfl⟩
  case round =>
    clear hS
    obtain ⟨k, hk, rfl, y7_a, y8_a, s7_a, s8_a, A_7_a, A_8_a, n7_a, c7_a, n8_a, c8_a, hpure, hS⟩ := hrel
    by_cases hkL : k < K
    · skip
      go_wp2_with fail
      have Y8 := ExtOf.blk (hS.blk 0 rfl)
      have Y7 := ExtOf.blk (hS.blk 1 rfl)
      have hE_ := hS.ext
      refine wp_region_tame 4 (hasF [(2, .any)]) (Fcs [(2, .ri ((-y8_a)))]) (Fcs_stab _) (by kernel_rfl) (by kernel_rfl) ?_
      simp only [List.take_succ_cons, List.take_zero, List.drop_succ_cons, List.drop_zero]
      refine wpT_quiet 2 (by rfl) (by kernel_rfl) ?_
      simp only [List.take_succ_cons, List.take_zero, List.drop_succ_cons, List.drop_zero]
      repeat (go_big_quiet_step (fail))
      refine wpQuiet_nil ?_
      refine wpT_eff (by rfl) (by rfl) (by rfl) ?_ ?_
      · intro W_ hK
        have hW := hK.1
        clear hK
        go_simp
        exact ⟨rfl, (eneg_ok gc _ y8_a (-y8_a) _ (Blk.ext (hS.blk 4 rfl) hW) (RI.ext (hS.num 1 rfl) hW) (lim_of hpure.2.b (by omega)) rfl).mono fun e w' ⟨v, he, hR, hx⟩ => ⟨v, he, hx, hR⟩⟩
      intro v_ lo20 hi20 hr_
      obtain ⟨W_, hW_⟩ := hr_
      have hv_ : Fc.holds (.ri ((-y8_a))) lo20 hi20 v_ W_ := hW_.get
      clear hW_
      obtain ⟨s20, A_20, n20, c20, rfl, -⟩ := RI.opn hv_
      clear hv_
      clear W_
      try simp only [Act.put, List.setIfInBounds_toArray, List.set_cons_succ, List.set_cons_zero]
      refine wpT_quiet 1 (by rfl) (by kernel_rfl) ?_
      simp only [List.take_succ_cons, List.take_zero, List.drop_succ_cons, List.drop_zero]
      repeat (go_big_quiet_step (fail))
      refine wpQuiet_nil ?_
      refine wpT_nil ?_
      intro w4 hK
      have hlt_ := hS.lt
      replace hS := hS.mv hK.ext
      replace hS := hS.addI (show RI w4 (iv s20 A_20 n20 c20) (-y8_a) from hK.at_ 2 (e := ((iv s20 A_20 n20 c20), lo20, hi20)) (by rfl))
      clear hK hlt_ hE_ Y8 Y7
      have k_5 := (hS.blk 1 rfl).cell
      have k_6 := (hS.blk 1 rfl).frozen
      have hT2 := (St.put (W' := ((w4.setCell ⟨g7, 0, none⟩ (.bool s20)).setCell ⟨g7, 1, none⟩ (.slice A_20 n20 c20))) hS 1 0 [.bool s20, .slice A_20 n20 c20] (cs' := #[.bool s20, .slice A_20 n20 c20]) (bs' := _) rfl o7 rfl rfl (by kernel_rfl) rfl)
      have k_7 := (hT2.blk 0 rfl).cell
      have k_8 := (hT2.blk 0 rfl).frozen
      go_wp2
      replace hS := (St.put (W' := ((((w4.setCell ⟨g7, 0, none⟩ (.bool s20)).setCell ⟨g7, 1, none⟩ (.slice A_20 n20 c20)).setCell ⟨g8, 0, none⟩ (.bool s7_a)).setCell ⟨g8, 1, none⟩ (.slice A_7_a n7_a c7_a))) (St.put (W' := ((w4.setCell ⟨g7, 0, none⟩ (.bool s20)).setCell ⟨g7, 1, none⟩ (.slice A_20 n20 c20))) hS 1 0 [.bool s20, .slice A_20 n20 c20] (cs' := #[.bool s20, .slice A_20 n20 c20]) (bs' := _) rfl o7 rfl rfl (by kernel_rfl) rfl) 0 0 [.bool s7_a, .slice A_7_a n7_a c7_a] (cs' := #[.bool s7_a, .slice A_7_a n7_a c7_a]) (bs' := _) rfl o8 rfl rfl (by kernel_rfl) rfl)
      go_roundw
      case rel => exact ⟨k + 1, by omega, by go_num, (-y8_a), y7_a, s20, s7_a, A_20, A_7_a, n20, c20, n7_a, c7_a, ⟨hpure.1.turn, hpure.2.turn⟩, St.sel hS [0, 1, 3, 4, 5] rfl⟩
      case measure => simp [intOf] <;> omega
    · obtain rfl : k = K := by omega
      go_wp2_with fail
      have Y8 := ExtOf.blk (hS.blk 0 rfl)
      have Y7 := ExtOf.blk (hS.blk 1 rfl)
      have Y4 := ExtOf.blk (hS.blk 3 rfl)
      have hE_ := hS.ext
      refine wp_region_tame 6 (hasF [(4, .any)]) (Fcs [(4, .ri (x1d))]) (Fcs_stab _) (by kernel_rfl) (by kernel_rfl) ?_
      simp only [List.take_succ_cons, List.take_zero, List.drop_succ_cons, List.drop_zero]
      refine wpT_quiet 4 (by rfl) (by kernel_rfl) ?_
      simp only [List.take_succ_cons, List.take_zero, List.drop_succ_cons, List.drop_zero]
      repeat (go_big_quiet_step (fail))
      refine wpQuiet_nil ?_
      refine wpT_eff (by rfl) (by rfl) (by rfl) ?_ ?_
      · intro W_ hK
        have hW := hK.1
        clear hK
        go_simp
        exact ⟨rfl, (eclone_any _ x1d _ (RI.ext (hS.num 4 rfl) hW) (lim_of S1.d (by omega))).mono fun e w' ⟨v, he, hR, hx⟩ => ⟨v, he, hx, hR⟩⟩
      intro v_ lo27 hi27 hr_
      obtain ⟨W_, hW_⟩ := hr_
      have hv_ : Fc.holds (.ri (x1d)) lo27 hi27 v_ W_ := hW_.get
      clear hW_
      obtain ⟨s27, A_27, n27, c27, rfl, -⟩ := RI.opn hv_
      clear hv_
      clear W_
      try simp only [Act.put, List.setIfInBounds_toArray, List.set_cons_succ, List.set_cons_zero]
      refine wpT_quiet 1 (by rfl) (by kernel_rfl) ?_
      simp only [List.take_succ_cons, List.take_zero, List.drop_succ_cons, List.drop_zero]
      repeat (go_big_quiet_step (fail))
      refine wpQuiet_nil ?_
      refine wpT_nil ?_
      intro w5 hK
      have hlt_ := hS.lt
      replace hS := hS.mv hK.ext
      replace hS := hS.addI (show RI w5 (iv s27 A_27 n27 c27) x1d from hK.at_ 4 (e := ((iv s27 A_27 n27 c27), lo27, hi27)) (by rfl))
      clear hK hlt_ hE_ Y8 Y7 Y4
      have k_9 := (hS.blk 2 rfl).cell
      have k_10 := (hS.blk 2 rfl).frozen
      go_wp2
      replace hS := (St.put (W' := ((((((w5.setCell ⟨g6, 0, none⟩ (.bool s7_a)).setCell ⟨g6, 1, none⟩ (.slice A_7_a n7_a c7_a)).setCell ⟨g6, 2, none⟩ (.bool s8_a)).setCell ⟨g6, 3, none⟩ (.slice A_8_a n8_a c8_a)).setCell ⟨g6, 4, none⟩ (.bool s27)).setCell ⟨g6, 5, none⟩ (.slice A_27 n27 c27))) hS 2 0 [.bool s7_a, .slice A_7_a n7_a c7_a, .bool s8_a, .slice A_8_a n8_a c8_a, .bool s27, .slice A_27 n27 c27] (cs' := #[.bool s7_a, .slice A_7_a n7_a c7_a, .bool s8_a, .slice A_8_a n8_a c8_a, .bool s27, .slice A_27 n27 c27]) (bs' := _) rfl o6 rfl rfl (by kernel_rfl) rfl)
      exact bp_gauss1 rfl rfl rfl (hS.blk 2 rfl) ⟨_, rfl, ⟨_, _, _, RG.mk (hS.num 1 rfl) (hS.num 2 rfl) (hS.num 0 rfl), hpure.1, hpure.2⟩, hS.ext⟩

theorem erotate_ok (gc : Nat) (v1 : Value) (q1 : GQ) (n1 K : Nat) (w : World) (hc : Calm w gc) (hX1 : GV w v1 q1 n1) (hn : n1 ≤ 12800) (hK : K ≤ 100) :
    Calls Tryz.prog 86 #[.pointer (some ⟨gc, 0, none⟩), v1, .int .i64 (K : Int)] w fun e w' => ∃ v, e = .returned v ∧ GV w' v (q1 * GQ.ip K) n1 ∧ Ext w w' := erotate_w gc v1 q1 n1 K w hc hX1 hn hK
end Go.Proofs.YtclkkoiaaddllaaGreat

/- The specification of numbers: powers of z. -/
namespace Go.Proofs.YtclkkoiaaddllaaGreat
open Go.RowKit
set_option linter.unusedVariables false

theorem toRP {f : FuncId} {args : Array Value} {w : World} {p : PQ} {n : Nat} {a b d x y z : Int} (h : Calls Tryz.prog f args w fun e w' => ∃ v, e = .returned v ∧ PV w' v p n ∧ Ext w w') (I : Is p.u a b d) (J : Is p.v x y z) :
    Calls Tryz.prog f args w fun e w' => ∃ v, e = .returned v ∧ RP w' v a b d x y z ∧ Ext w w' := h.mono fun e w' ⟨v, he, hR, hx⟩ => ⟨v, he, hR.at_ I J, hx⟩
theorem toRG {f : FuncId} {args : Array Value} {w : World} {q : GQ} {n : Nat} {a b d : Int} (h : Calls Tryz.prog f args w fun e w' => ∃ v, e = .returned v ∧ GV w' v q n ∧ Ext w w') (I : Is q a b d) :
    Calls Tryz.prog f args w fun e w' => ∃ v, e = .returned v ∧ RG w' v a b d ∧ Ext w w' := h.mono fun e w' ⟨v, he, hR, hx⟩ => ⟨v, he, hR.at_ I, hx⟩
theorem toTP {f : FuncId} {args : Array Value} {w : World} {p : PQ} {n : Nat} {a b d x y z e0 : Int} (h : Calls Tryz.prog f args w fun e w' => ∃ v, e = .returned v ∧ (∃ u, v = .tuple #[u, .int .i64 e0] ∧ PV w' u p n) ∧ Ext w w') (I : Is p.u a b d) (J : Is p.v x y z) :
    Calls Tryz.prog f args w fun e w' => ∃ v, e = .returned v ∧ (∃ u, v = .tuple #[u, .int .i64 e0] ∧ RP w' u a b d x y z) ∧ Ext w w' := h.mono fun e w' ⟨v, he, ⟨u, hu, hR⟩, hx⟩ => ⟨v, he, ⟨u, hu, hR.at_ I J⟩, hx⟩
theorem toTG {f : FuncId} {args : Array Value} {w : World} {q : GQ} {n : Nat} {a b d e0 : Int} (h : Calls Tryz.prog f args w fun e w' => ∃ v, e = .returned v ∧ (∃ u, v = .tuple #[u, .int .i64 e0] ∧ GV w' u q n) ∧ Ext w w') (I : Is q a b d) :
    Calls Tryz.prog f args w fun e w' => ∃ v, e = .returned v ∧ (∃ u, v = .tuple #[u, .int .i64 e0] ∧ RG w' u a b d) ∧ Ext w w' := h.mono fun e w' ⟨v, he, ⟨u, hu, hR⟩, hx⟩ => ⟨v, he, ⟨u, hu, hR.at_ I⟩, hx⟩
theorem mod12 {m : Int} {K : Nat} (h : m % 12 = (K : Int)) : (m.tmod 12 + 12).tmod 12 = (K : Int) := by
  have h1 : -12 < m.tmod 12 ∧ m.tmod 12 < 12 := ⟨by have := Int.lt_tmod_of_pos m (b := 12) (by omega); omega, Int.tmod_lt_of_pos m (by omega)⟩
  have h2 : m.tmod 12 % 12 = m % 12 := by
    have := Int.mul_tdiv_add_tmod m 12
    omega
  rw [Int.tmod_eq_emod_of_nonneg (by omega)]
  omega
theorem mod12w {m : Int} {K : Nat} (h : m % 12 = (K : Int)) : (wrap64 (m.tmod 12 + 12)).tmod 12 = (K : Int) := by
  have h1 : -12 < m.tmod 12 ∧ m.tmod 12 < 12 := ⟨by have := Int.lt_tmod_of_pos m (b := 12) (by omega); omega, Int.tmod_lt_of_pos m (by omega)⟩
  have e : wrap64 (m.tmod 12 + 12) = m.tmod 12 + 12 := by
    generalize m.tmod 12 = t at *
    first | (unfold wrap64; omega) | go_num | (simp [wrap64]; omega)
  rw [e]
  exact mod12 h
theorem nf_half : ((1 : Int), (0 : Int), (2 : Int)) = nf 1 0 2 := by decide
theorem is_half : Is PQ.half 1 0 2 := by
  have := is_nf (a := 1) (b := 0) (d := 2) (by omega)
  rw [← nf_half] at this
  refine ⟨this.low, ?_, ?_⟩
  · show (1 / 2 : Rat) = ((1 : Int) : Rat) / ((2 : Int) : Rat); grind
  · show (0 : Rat) = ((0 : Int) : Rat) / ((2 : Int) : Rat); grind
theorem sz_half : Sz 2 1 0 2 := ⟨by decide, by decide, by decide⟩
theorem bd_half : Bd PQ.half 2 := ⟨_, _, _, is_half, sz_half⟩
theorem is_z : ∃ a b d : Int, Is PQ.z.u a b d ∧ Sz 69 a b d := by
  obtain ⟨a, b, d, h⟩ := is_ex PQ.z.u
  exact ⟨a, b, d, h, ((bd_half.mul (Bd.i (a := 0) (b := 1) (by omega) (by omega) (by omega) (by omega))).mono (by omega)).sz h⟩

end Go.Proofs.YtclkkoiaaddllaaGreat

/- The specification of numbers: turning, sameness, quotients. -/
namespace Go.Proofs.YtclkkoiaaddllaaGreat
open Go.RowKit
set_option linter.unusedVariables false

theorem rSame_yes (v u : Value) (x y : Int) (w : World) (hX : RI w v x) (hY : RI w u y) (h : x = y) :
    Calls Tryz.prog 41 #[v, u] w fun e w' => e = .returned (.bool true) ∧ Ext w w' := by
  have := rSame_any v u x y w hX hY
  rwa [show decide (x = y) = true by simpa using h] at this
theorem rSame_no (v u : Value) (x y : Int) (w : World) (hX : RI w v x) (hY : RI w u y) (h : x ≠ y) :
    Calls Tryz.prog 41 #[v, u] w fun e w' => e = .returned (.bool false) ∧ Ext w w' := by
  have := rSame_any v u x y w hX hY
  rwa [show decide (x = y) = false by simpa using h] at this

set_option maxRecDepth 100000 in
set_option maxHeartbeats 1600000 in
theorem qSame_y (v0 : Value) (x0a x0b x0d : Int) (v1 : Value) (x1a x1b x1d : Int) (w : World) (hX0 : RG w v0 x0a x0b x0d) (hX1 : RG w v1 x1a x1b x1d) (Ha : Hid (x0a = x1a)) (Hb : Hid (x0b = x1b)) (Hd : Hid (x0d = x1d))
      :
    Calls Tryz.prog 14 #[v0, v1] w fun e w' => e = .returned (.bool true) ∧ Ext w w' := by
  have hS := St.start w
  obtain ⟨sx0a, Ax0a, nx0a, cx0a, sx0b, Ax0b, nx0b, cx0b, sx0d, Ax0d, nx0d, cx0d, rfl, hx0a, hx0b, hx0d⟩ := hX0
  replace hS := hS.addI hx0a
  clear hx0a
  replace hS := hS.addI hx0b
  clear hx0b
  replace hS := hS.addI hx0d
  clear hx0d
  obtain ⟨sx1a, Ax1a, nx1a, cx1a, sx1b, Ax1b, nx1b, cx1b, sx1d, Ax1d, nx1d, cx1d, rfl, hx1a, hx1b, hx1d⟩ := hX1
  replace hS := hS.addI hx1a
  clear hx1a
  replace hS := hS.addI hx1b
  clear hx1b
  replace hS := hS.addI hx1d
  clear hx1d
  have o2 : Own w w.heap.size := Own.of hS.ext (by simp)
  have o3 : Own w (w.heap.size + 1) := Own.of hS.ext (by simp)
  have hT1 := (St.al (St.al hS 32 #[.bool sx0a, .slice Ax0a nx0a cx0a, .bool sx0b, .slice Ax0b nx0b cx0b, .bool sx0d, .slice Ax0d nx0d cx0d] (g := w.heap.size) (by simp)) 32 #[.bool sx1a, .slice Ax1a nx1a cx1a, .bool sx1b, .slice Ax1b nx1b cx1b, .bool sx1d, .slice Ax1d nx1d cx1d] (g := (w.heap.size + 1)) (by simp))
  have k_1 := (hT1.blk 1 rfl).cell
  have k_2 := (hT1.blk 0 rfl).cell
  go_enter Tryz.func14, Tryz.ntmps14
  go_wp2_with fail
  clear k_1 k_2
  clear hT1
  replace hS := (St.al (St.al hS 32 #[.bool sx0a, .slice Ax0a nx0a cx0a, .bool sx0b, .slice Ax0b nx0b cx0b, .bool sx0d, .slice Ax0d nx0d cx0d] (g := w.heap.size) (by simp)) 32 #[.bool sx1a, .slice Ax1a nx1a cx1a, .bool sx1b, .slice Ax1b nx1b cx1b, .bool sx1d, .slice Ax1d nx1d cx1d] (g := (w.heap.size + 1)) (by simp))
  generalize ((w.alloc (.cells #[.bool sx0a, .slice Ax0a nx0a cx0a, .bool sx0b, .slice Ax0b nx0b cx0b, .bool sx0d, .slice Ax0d nx0d cx0d] 32)).alloc (.cells #[.bool sx1a, .slice Ax1a nx1a cx1a, .bool sx1b, .slice Ax1b nx1b cx1b, .bool sx1d, .slice Ax1d nx1d cx1d] 32)) = w1 at hS ⊢
  generalize w.heap.size + 1 = g3 at hS o3 ⊢
  generalize w.heap.size = g2 at hS o2 ⊢
  refine (rSame_yes _ _ x0a x1a _ (hS.num 5 rfl) (hS.num 2 rfl) Ha.out).mono ?_
  rintro e w2 ⟨rfl, hx_⟩
  replace hS := hS.mv hx_
  clear hx_
  have k_3 := (hS.blk 1 rfl).cell
  have k_4 := (hS.blk 0 rfl).cell
  go_wp2_with fail
  clear k_3 k_4
  refine (rSame_yes _ _ x0b x1b _ (hS.num 4 rfl) (hS.num 1 rfl) Hb.out).mono ?_
  rintro e w3 ⟨rfl, hx_⟩
  replace hS := hS.mv hx_
  clear hx_
  have k_5 := (hS.blk 1 rfl).cell
  have k_6 := (hS.blk 0 rfl).cell
  go_wp2_with fail
  clear k_5 k_6
  refine (rSame_yes _ _ x0d x1d _ (hS.num 3 rfl) (hS.num 0 rfl) Hd.out).mono ?_
  rintro e w4 ⟨rfl, hx_⟩
  replace hS := hS.mv hx_
  clear hx_
  go_wp2
  go_ret
  exact ⟨ret_bool (rfl), hS.ext⟩

set_option maxRecDepth 100000 in
set_option maxHeartbeats 1600000 in
theorem qSame_a (v0 : Value) (x0a x0b x0d : Int) (v1 : Value) (x1a x1b x1d : Int) (w : World) (hX0 : RG w v0 x0a x0b x0d) (hX1 : RG w v1 x1a x1b x1d) (Ha : Hid (x0a ≠ x1a))
      :
    Calls Tryz.prog 14 #[v0, v1] w fun e w' => e = .returned (.bool false) ∧ Ext w w' := by
  have hS := St.start w
  obtain ⟨sx0a, Ax0a, nx0a, cx0a, sx0b, Ax0b, nx0b, cx0b, sx0d, Ax0d, nx0d, cx0d, rfl, hx0a, hx0b, hx0d⟩ := hX0
  replace hS := hS.addI hx0a
  clear hx0a
  replace hS := hS.addI hx0b
  clear hx0b
  replace hS := hS.addI hx0d
  clear hx0d
  obtain ⟨sx1a, Ax1a, nx1a, cx1a, sx1b, Ax1b, nx1b, cx1b, sx1d, Ax1d, nx1d, cx1d, rfl, hx1a, hx1b, hx1d⟩ := hX1
  replace hS := hS.addI hx1a
  clear hx1a
  replace hS := hS.addI hx1b
  clear hx1b
  replace hS := hS.addI hx1d
  clear hx1d
  have o2 : Own w w.heap.size := Own.of hS.ext (by simp)
  have o3 : Own w (w.heap.size + 1) := Own.of hS.ext (by simp)
  have hT1 := (St.al (St.al hS 32 #[.bool sx0a, .slice Ax0a nx0a cx0a, .bool sx0b, .slice Ax0b nx0b cx0b, .bool sx0d, .slice Ax0d nx0d cx0d] (g := w.heap.size) (by simp)) 32 #[.bool sx1a, .slice Ax1a nx1a cx1a, .bool sx1b, .slice Ax1b nx1b cx1b, .bool sx1d, .slice Ax1d nx1d cx1d] (g := (w.heap.size + 1)) (by simp))
  have k_1 := (hT1.blk 1 rfl).cell
  have k_2 := (hT1.blk 0 rfl).cell
  go_enter Tryz.func14, Tryz.ntmps14
  go_wp2_with fail
  clear k_1 k_2
  clear hT1
  replace hS := (St.al (St.al hS 32 #[.bool sx0a, .slice Ax0a nx0a cx0a, .bool sx0b, .slice Ax0b nx0b cx0b, .bool sx0d, .slice Ax0d nx0d cx0d] (g := w.heap.size) (by simp)) 32 #[.bool sx1a, .slice Ax1a nx1a cx1a, .bool sx1b, .slice Ax1b nx1b cx1b, .bool sx1d, .slice Ax1d nx1d cx1d] (g := (w.heap.size + 1)) (by simp))
  generalize ((w.alloc (.cells #[.bool sx0a, .slice Ax0a nx0a cx0a, .bool sx0b, .slice Ax0b nx0b cx0b, .bool sx0d, .slice Ax0d nx0d cx0d] 32)).alloc (.cells #[.bool sx1a, .slice Ax1a nx1a cx1a, .bool sx1b, .slice Ax1b nx1b cx1b, .bool sx1d, .slice Ax1d nx1d cx1d] 32)) = w1 at hS ⊢
  generalize w.heap.size + 1 = g3 at hS o3 ⊢
  generalize w.heap.size = g2 at hS o2 ⊢
  refine (rSame_no _ _ x0a x1a _ (hS.num 5 rfl) (hS.num 2 rfl) Ha.out).mono ?_
  rintro e w2 ⟨rfl, hx_⟩
  replace hS := hS.mv hx_
  clear hx_
  go_wp2
  go_ret
  exact ⟨ret_bool (rfl), hS.ext⟩

set_option maxRecDepth 100000 in
set_option maxHeartbeats 1600000 in
theorem qSame_b (v0 : Value) (x0a x0b x0d : Int) (v1 : Value) (x1a x1b x1d : Int) (w : World) (hX0 : RG w v0 x0a x0b x0d) (hX1 : RG w v1 x1a x1b x1d) (Ha : Hid (x0a = x1a)) (Hb : Hid (x0b ≠ x1b))
      :
    Calls Tryz.prog 14 #[v0, v1] w fun e w' => e = .returned (.bool false) ∧ Ext w w' := by
  have hS := St.start w
  obtain ⟨sx0a, Ax0a, nx0a, cx0a, sx0b, Ax0b, nx0b, cx0b, sx0d, Ax0d, nx0d, cx0d, rfl, hx0a, hx0b, hx0d⟩ := hX0
  replace hS := hS.addI hx0a
  clear hx0a
  replace hS := hS.addI hx0b
  clear hx0b
  replace hS := hS.addI hx0d
  clear hx0d
  obtain ⟨sx1a, Ax1a, nx1a, cx1a, sx1b, Ax1b, nx1b, cx1b, sx1d, Ax1d, nx1d, cx1d, rfl, hx1a, hx1b, hx1d⟩ := hX1
  replace hS := hS.addI hx1a
  clear hx1a
  replace hS := hS.addI hx1b
  clear hx1b
  replace hS := hS.addI hx1d
  clear hx1d
  have o2 : Own w w.heap.size := Own.of hS.ext (by simp)
  have o3 : Own w (w.heap.size + 1) := Own.of hS.ext (by simp)
  have hT1 := (St.al (St.al hS 32 #[.bool sx0a, .slice Ax0a nx0a cx0a, .bool sx0b, .slice Ax0b nx0b cx0b, .bool sx0d, .slice Ax0d nx0d cx0d] (g := w.heap.size) (by simp)) 32 #[.bool sx1a, .slice Ax1a nx1a cx1a, .bool sx1b, .slice Ax1b nx1b cx1b, .bool sx1d, .slice Ax1d nx1d cx1d] (g := (w.heap.size + 1)) (by simp))
  have k_1 := (hT1.blk 1 rfl).cell
  have k_2 := (hT1.blk 0 rfl).cell
  go_enter Tryz.func14, Tryz.ntmps14
  go_wp2_with fail
  clear k_1 k_2
  clear hT1
  replace hS := (St.al (St.al hS 32 #[.bool sx0a, .slice Ax0a nx0a cx0a, .bool sx0b, .slice Ax0b nx0b cx0b, .bool sx0d, .slice Ax0d nx0d cx0d] (g := w.heap.size) (by simp)) 32 #[.bool sx1a, .slice Ax1a nx1a cx1a, .bool sx1b, .slice Ax1b nx1b cx1b, .bool sx1d, .slice Ax1d nx1d cx1d] (g := (w.heap.size + 1)) (by simp))
  generalize ((w.alloc (.cells #[.bool sx0a, .slice Ax0a nx0a cx0a, .bool sx0b, .slice Ax0b nx0b cx0b, .bool sx0d, .slice Ax0d nx0d cx0d] 32)).alloc (.cells #[.bool sx1a, .slice Ax1a nx1a cx1a, .bool sx1b, .slice Ax1b nx1b cx1b, .bool sx1d, .slice Ax1d nx1d cx1d] 32)) = w1 at hS ⊢
  generalize w.heap.size + 1 = g3 at hS o3 ⊢
  generalize w.heap.size = g2 at hS o2 ⊢
  refine (rSame_yes _ _ x0a x1a _ (hS.num 5 rfl) (hS.num 2 rfl) Ha.out).mono ?_
  rintro e w2 ⟨rfl, hx_⟩
  replace hS := hS.mv hx_
  clear hx_
  have k_3 := (hS.blk 1 rfl).cell
  have k_4 := (hS.blk 0 rfl).cell
  go_wp2_with fail
  clear k_3 k_4
  refine (rSame_no _ _ x0b x1b _ (hS.num 4 rfl) (hS.num 1 rfl) Hb.out).mono ?_
  rintro e w3 ⟨rfl, hx_⟩
  replace hS := hS.mv hx_
  clear hx_
  go_wp2
  go_ret
  exact ⟨ret_bool (rfl), hS.ext⟩

set_option maxRecDepth 100000 in
set_option maxHeartbeats 1600000 in
theorem qSame_d (v0 : Value) (x0a x0b x0d : Int) (v1 : Value) (x1a x1b x1d : Int) (w : World) (hX0 : RG w v0 x0a x0b x0d) (hX1 : RG w v1 x1a x1b x1d) (Ha : Hid (x0a = x1a)) (Hb : Hid (x0b = x1b)) (Hd : Hid (x0d ≠ x1d))
      :
    Calls Tryz.prog 14 #[v0, v1] w fun e w' => e = .returned (.bool false) ∧ Ext w w' := by
  have hS := St.start w
  obtain ⟨sx0a, Ax0a, nx0a, cx0a, sx0b, Ax0b, nx0b, cx0b, sx0d, Ax0d, nx0d, cx0d, rfl, hx0a, hx0b, hx0d⟩ := hX0
  replace hS := hS.addI hx0a
  clear hx0a
  replace hS := hS.addI hx0b
  clear hx0b
  replace hS := hS.addI hx0d
  clear hx0d
  obtain ⟨sx1a, Ax1a, nx1a, cx1a, sx1b, Ax1b, nx1b, cx1b, sx1d, Ax1d, nx1d, cx1d, rfl, hx1a, hx1b, hx1d⟩ := hX1
  replace hS := hS.addI hx1a
  clear hx1a
  replace hS := hS.addI hx1b
  clear hx1b
  replace hS := hS.addI hx1d
  clear hx1d
  have o2 : Own w w.heap.size := Own.of hS.ext (by simp)
  have o3 : Own w (w.heap.size + 1) := Own.of hS.ext (by simp)
  have hT1 := (St.al (St.al hS 32 #[.bool sx0a, .slice Ax0a nx0a cx0a, .bool sx0b, .slice Ax0b nx0b cx0b, .bool sx0d, .slice Ax0d nx0d cx0d] (g := w.heap.size) (by simp)) 32 #[.bool sx1a, .slice Ax1a nx1a cx1a, .bool sx1b, .slice Ax1b nx1b cx1b, .bool sx1d, .slice Ax1d nx1d cx1d] (g := (w.heap.size + 1)) (by simp))
  have k_1 := (hT1.blk 1 rfl).cell
  have k_2 := (hT1.blk 0 rfl).cell
  go_enter Tryz.func14, Tryz.ntmps14
  go_wp2_with fail
  clear k_1 k_2
  clear hT1
  replace hS := (St.al (St.al hS 32 #[.bool sx0a, .slice Ax0a nx0a cx0a, .bool sx0b, .slice Ax0b nx0b cx0b, .bool sx0d, .slice Ax0d nx0d cx0d] (g := w.heap.size) (by simp)) 32 #[.bool sx1a, .slice Ax1a nx1a cx1a, .bool sx1b, .slice Ax1b nx1b cx1b, .bool sx1d, .slice Ax1d nx1d cx1d] (g := (w.heap.size + 1)) (by simp))
  generalize ((w.alloc (.cells #[.bool sx0a, .slice Ax0a nx0a cx0a, .bool sx0b, .slice Ax0b nx0b cx0b, .bool sx0d, .slice Ax0d nx0d cx0d] 32)).alloc (.cells #[.bool sx1a, .slice Ax1a nx1a cx1a, .bool sx1b, .slice Ax1b nx1b cx1b, .bool sx1d, .slice Ax1d nx1d cx1d] 32)) = w1 at hS ⊢
  generalize w.heap.size + 1 = g3 at hS o3 ⊢
  generalize w.heap.size = g2 at hS o2 ⊢
  refine (rSame_yes _ _ x0a x1a _ (hS.num 5 rfl) (hS.num 2 rfl) Ha.out).mono ?_
  rintro e w2 ⟨rfl, hx_⟩
  replace hS := hS.mv hx_
  clear hx_
  have k_3 := (hS.blk 1 rfl).cell
  have k_4 := (hS.blk 0 rfl).cell
  go_wp2_with fail
  clear k_3 k_4
  refine (rSame_yes _ _ x0b x1b _ (hS.num 4 rfl) (hS.num 1 rfl) Hb.out).mono ?_
  rintro e w3 ⟨rfl, hx_⟩
  replace hS := hS.mv hx_
  clear hx_
  have k_5 := (hS.blk 1 rfl).cell
  have k_6 := (hS.blk 0 rfl).cell
  go_wp2_with fail
  clear k_5 k_6
  refine (rSame_no _ _ x0d x1d _ (hS.num 3 rfl) (hS.num 0 rfl) Hd.out).mono ?_
  rintro e w4 ⟨rfl, hx_⟩
  replace hS := hS.mv hx_
  clear hx_
  go_wp2
  go_ret
  exact ⟨ret_bool (rfl), hS.ext⟩

theorem qSame_yes (v u : Value) (a b d a' b' d' : Int) (w : World) (hX : RG w v a b d) (hY : RG w u a' b' d') (h : a = a' ∧ b = b' ∧ d = d') :
    Calls Tryz.prog 14 #[v, u] w fun e w' => e = .returned (.bool true) ∧ Ext w w' := qSame_y v a b d u a' b' d' w hX hY (Lib.hid h.1) (Lib.hid h.2.1) (Lib.hid h.2.2)
theorem qSame_no (v u : Value) (a b d a' b' d' : Int) (w : World) (hX : RG w v a b d) (hY : RG w u a' b' d') (h : ¬ (a = a' ∧ b = b' ∧ d = d')) :
    Calls Tryz.prog 14 #[v, u] w fun e w' => e = .returned (.bool false) ∧ Ext w w' := by
  by_cases h1 : a = a'
  · by_cases h2 : b = b'
    · by_cases h3 : d = d'
      · exact absurd ⟨h1, h2, h3⟩ h
      · exact qSame_d v a b d u a' b' d' w hX hY (Lib.hid h1) (Lib.hid h2) (Lib.hid h3)
    · exact qSame_b v a b d u a' b' d' w hX hY (Lib.hid h1) (Lib.hid h2)
  · exact qSame_a v a b d u a' b' d' w hX hY (Lib.hid h1)
theorem qSame_eq (v u : Value) (q : GQ) (m n : Nat) (w : World) (hX : GV w v q m) (hY : GV w u q n) :
    Calls Tryz.prog 14 #[v, u] w fun e w' => e = .returned (.bool true) ∧ Ext w w' := by
  obtain ⟨a, b, d, h1, h2, _⟩ := hX
  exact qSame_yes v u a b d a b d w h1 (hY.at_ h2) ⟨rfl, rfl, rfl⟩
set_option maxRecDepth 100000 in
set_option maxHeartbeats 6400000 in
theorem qDiv_w (v0 : Value) (x0a x0b x0d : Int) (v1 : Value) (x1a x1b x1d : Int) (w : World) (hX0 : RG w v0 x0a x0b x0d) (ax0a : x0a.natAbs < lim) (ax0b : x0b.natAbs < lim) (ax0d : x0d.natAbs < lim) (hX1 : RG w v1 x1a x1b x1d) (ax1a : x1a.natAbs < lim) (ax1b : x1b.natAbs < lim) (ax1d : x1d.natAbs < lim)
    (z11 : Int) (E11 : Hid (z11 = x1a * x1a)) (A11 : z11.natAbs < lim)
    (z16 : Int) (E16 : Hid (z16 = x1b * x1b)) (A16 : z16.natAbs < lim)
    (z17 : Int) (E17 : Hid (z17 = z11 + z16)) (A17 : z17.natAbs < lim)
    (z22 : Int) (E22 : Hid (z22 = x1a * x1d)) (A22 : z22.natAbs < lim)
    (z28 : Int) (E28 : Hid (z28 = x1b * x1d)) (A28 : z28.natAbs < lim)
    (z29 : Int) (E29 : Hid (z29 = (0 : Int) - z28)) (A29 : z29.natAbs < lim)
    (N31 : Hid (z17 ≠ 0))
    (z31a z31b z31d : Int) (E31 : Hid ((z31a, z31b, z31d) = nf z22 z29 z17)) (A31a : z31a.natAbs < lim) (A31b : z31b.natAbs < lim) (A31d : z31d.natAbs < lim)
    (z34a z34b z34d : Int) (m34_ n34_ : Nat) (K34 : Hid (MulOk m34_ n34_ x0a x0b x0d z31a z31b z31d z34a z34b z34d))  :
    Calls Tryz.prog 61 #[v0, v1] w fun e w' => ∃ v, e = .returned v ∧ RG w' v z34a z34b z34d ∧ Ext w w' := by
  have hS := St.start w
  obtain ⟨sx0a, Ax0a, nx0a, cx0a, sx0b, Ax0b, nx0b, cx0b, sx0d, Ax0d, nx0d, cx0d, rfl, hx0a, hx0b, hx0d⟩ := hX0
  replace hS := hS.addI hx0a
  clear hx0a
  replace hS := hS.addI hx0b
  clear hx0b
  replace hS := hS.addI hx0d
  clear hx0d
  obtain ⟨sx1a, Ax1a, nx1a, cx1a, sx1b, Ax1b, nx1b, cx1b, sx1d, Ax1d, nx1d, cx1d, rfl, hx1a, hx1b, hx1d⟩ := hX1
  replace hS := hS.addI hx1a
  clear hx1a
  replace hS := hS.addI hx1b
  clear hx1b
  replace hS := hS.addI hx1d
  clear hx1d
  have o2 : Own w w.heap.size := Own.of hS.ext (by simp)
  have o3 : Own w (w.heap.size + 1) := Own.of hS.ext (by simp)
  have o4 : Own w (w.heap.size + 2) := Own.of hS.ext (by simp)
  go_enter Tryz.func61, Tryz.ntmps61
  go_wp2_with fail
  replace hS := (St.al (St.al (St.al hS 32 #[.bool sx0a, .slice Ax0a nx0a cx0a, .bool sx0b, .slice Ax0b nx0b cx0b, .bool sx0d, .slice Ax0d nx0d cx0d] (g := w.heap.size) (by simp)) 32 #[.bool sx1a, .slice Ax1a nx1a cx1a, .bool sx1b, .slice Ax1b nx1b cx1b, .bool sx1d, .slice Ax1d nx1d cx1d] (g := (w.heap.size + 1)) (by simp)) 32 #[.bool false, .slice none 0 0, .bool false, .slice none 0 0, .bool false, .slice none 0 0] (g := (w.heap.size + 2)) (by simp))
  generalize (((w.alloc (.cells #[.bool sx0a, .slice Ax0a nx0a cx0a, .bool sx0b, .slice Ax0b nx0b cx0b, .bool sx0d, .slice Ax0d nx0d cx0d] 32)).alloc (.cells #[.bool sx1a, .slice Ax1a nx1a cx1a, .bool sx1b, .slice Ax1b nx1b cx1b, .bool sx1d, .slice Ax1d nx1d cx1d] 32)).alloc (.cells #[.bool false, .slice none 0 0, .bool false, .slice none 0 0, .bool false, .slice none 0 0] 32)) = w1 at hS ⊢
  generalize w.heap.size + 2 = g4 at hS o4 ⊢
  generalize w.heap.size + 1 = g3 at hS o3 ⊢
  generalize w.heap.size = g2 at hS o2 ⊢
  have Y3 := ExtOf.blk (hS.blk 1 rfl)
  have hE_ := hS.ext
  refine wp_region_tame 12 (hasF [(4, .any), (9, .any), (10, .any), (11, .any)]) (Fcs [(4, .ri (z11)), (9, .ri (z16)), (10, .ri (z17)), (11, .box 30 #[.bool false, .slice none 0 0])]) (Fcs_stab _) (by kernel_rfl) (by kernel_rfl) ?_
  simp only [List.take_succ_cons, List.take_zero, List.drop_succ_cons, List.drop_zero]
  refine wpT_quiet 4 (by rfl) (by kernel_rfl) ?_
  simp only [List.take_succ_cons, List.take_zero, List.drop_succ_cons, List.drop_zero]
  repeat (go_big_quiet_step (fail))
  refine wpQuiet_nil ?_
  refine wpT_eff (by rfl) (by rfl) (by rfl) ?_ ?_
  · intro W_ hK
    have hW := hK.1
    clear hK
    go_simp
    exact ⟨rfl, (qTimes_ok _ _ x1a x1a z11 _ (RI.ext (hS.num 2 rfl) hW) (RI.ext (hS.num 2 rfl) hW) ax1a ax1a E11.out A11).mono fun e w' ⟨v, he, hR, hx⟩ => ⟨v, he, hx, hR⟩⟩
  intro v_ lo11 hi11 hr_
  obtain ⟨W_, hW_⟩ := hr_
  have hv_ : Fc.holds (.ri (z11)) lo11 hi11 v_ W_ := hW_.get
  clear hW_
  obtain ⟨s11, A_11, n11, c11, rfl, -⟩ := RI.opn hv_
  clear hv_
  clear W_
  try simp only [Act.put, List.setIfInBounds_toArray, List.set_cons_succ, List.set_cons_zero]
  refine wpT_quiet 4 (by rfl) (by kernel_rfl) ?_
  simp only [List.take_succ_cons, List.take_zero, List.drop_succ_cons, List.drop_zero]
  repeat (go_big_quiet_step (fail))
  refine wpQuiet_nil ?_
  refine wpT_eff (by rfl) (by rfl) (by rfl) ?_ ?_
  · intro W_ hK
    have hW := hK.1
    clear hK
    go_simp
    exact ⟨rfl, (qTimes_ok _ _ x1b x1b z16 _ (RI.ext (hS.num 1 rfl) hW) (RI.ext (hS.num 1 rfl) hW) ax1b ax1b E16.out A16).mono fun e w' ⟨v, he, hR, hx⟩ => ⟨v, he, hx, hR⟩⟩
  intro v_ lo16 hi16 hr_
  obtain ⟨W_, hW_⟩ := hr_
  have hv_ : Fc.holds (.ri (z16)) lo16 hi16 v_ W_ := hW_.get
  clear hW_
  obtain ⟨s16, A_16, n16, c16, rfl, -⟩ := RI.opn hv_
  clear hv_
  clear W_
  try simp only [Act.put, List.setIfInBounds_toArray, List.set_cons_succ, List.set_cons_zero]
  refine wpT_eff (by rfl) (by rfl) (by rfl) ?_ ?_
  · intro W_ hK
    have hW := hK.1
    have F_s11 : RI W_ (iv s11 A_11 n11 c11) z11 := hK.2 4 ((iv s11 A_11 n11 c11), lo11, hi11) (by rfl) (by kernel_rfl)
    have F_s16 : RI W_ (iv s16 A_16 n16 c16) z16 := hK.2 9 ((iv s16 A_16 n16 c16), lo16, hi16) (by rfl) (by kernel_rfl)
    clear hK
    go_simp
    exact ⟨rfl, (qPlus_ok _ _ z11 z16 z17 _ F_s11 F_s16 A11 A16 E17.out A17).mono fun e w' ⟨v, he, hR, hx⟩ => ⟨v, he, hx, hR⟩⟩
  intro v_ lo17 hi17 hr_
  obtain ⟨W_, hW_⟩ := hr_
  have hv_ : Fc.holds (.ri (z17)) lo17 hi17 v_ W_ := hW_.get
  clear hW_
  obtain ⟨s17, A_17, n17, c17, rfl, -⟩ := RI.opn hv_
  clear hv_
  clear W_
  try simp only [Act.put, List.setIfInBounds_toArray, List.set_cons_succ, List.set_cons_zero]
  refine wpT_eff (by rfl) (by rfl) (by rfl) ?_ ?_
  · intro W_ hK
    go_simp
    exact ⟨Ext.new _ _, rfl, by simp, Blk.new _ _ _⟩
  intro v_ g5 hi5 hr_
  obtain ⟨W_, hW_⟩ := hr_
  obtain ⟨rfl, hl5, -⟩ : Fc.holds (.box 30 #[.bool false, .slice none 0 0]) g5 hi5 v_ W_ := hW_.get
  clear hW_ W_
  try simp only [Act.put, List.setIfInBounds_toArray, List.set_cons_succ, List.set_cons_zero]
  refine wpT_nil ?_
  intro w2 hK
  have hlt_ := hS.lt
  replace hS := hS.mv hK.ext
  replace hS := hS.addI (show RI w2 (iv s11 A_11 n11 c11) z11 from hK.at_ 4 (e := ((iv s11 A_11 n11 c11), lo11, hi11)) (by rfl))
  replace hS := hS.addI (show RI w2 (iv s16 A_16 n16 c16) z16 from hK.at_ 9 (e := ((iv s16 A_16 n16 c16), lo16, hi16)) (by rfl))
  replace hS := hS.addI (show RI w2 (iv s17 A_17 n17 c17) z17 from hK.at_ 10 (e := ((iv s17 A_17 n17 c17), lo17, hi17)) (by rfl))
  have lw5 : w1.heap.size ≤ g5 := hK.low 11 _ (by rfl)
  have o5 : Own w g5 := Own.of hE_ lw5
  replace hS := hS.addB (show Blk w2 g5 30 #[.bool false, .slice none 0 0] from (hK.at_ 11 (by rfl)).2.2) (apart_of fun p hp => Nat.ne_of_lt (Nat.lt_of_lt_of_le (hlt_ p hp) lw5))
  clear hK hlt_ hE_ Y3
  clear lw5 hl5 hi5
  have k_1 := (hS.blk 0 rfl).cell
  have k_2 := (hS.blk 0 rfl).frozen
  go_wp2_with fail
  clear k_1 k_2
  replace hS := (St.put (W' := ((w2.setCell ⟨g5, 0, none⟩ (.bool s17)).setCell ⟨g5, 1, none⟩ (.slice A_17 n17 c17))) hS 0 0 [.bool s17, .slice A_17 n17 c17] (cs' := #[.bool s17, .slice A_17 n17 c17]) (bs' := _) rfl o5 rfl rfl (by kernel_rfl) rfl)
  simp only [List.set_cons_zero] at hS
  generalize ((w2.setCell ⟨g5, 0, none⟩ (.bool s17)).setCell ⟨g5, 1, none⟩ (.slice A_17 n17 c17)) = w3 at hS ⊢
  have Y5 := ExtOf.blk (hS.blk 0 rfl)
  have Y3 := ExtOf.blk (hS.blk 2 rfl)
  have hE_ := hS.ext
  refine wp_region_tame 15 (hasF [(4, .any), (5, .any), (10, .any), (11, .any), (13, .any), (14, .any)]) (Fcs [(4, .ri (z22)), (5, .ri ((0 : Int))), (10, .ri (z28)), (11, .ri (z29)), (13, .rg (z31a) (z31b) (z31d)), (14, .box 32 #[.bool false, .slice none 0 0, .bool false, .slice none 0 0, .bool false, .slice none 0 0])]) (Fcs_stab _) (by kernel_rfl) (by kernel_rfl) ?_
  simp only [List.take_succ_cons, List.take_zero, List.drop_succ_cons, List.drop_zero]
  refine wpT_quiet 4 (by rfl) (by kernel_rfl) ?_
  simp only [List.take_succ_cons, List.take_zero, List.drop_succ_cons, List.drop_zero]
  repeat (go_big_quiet_step (fail))
  refine wpQuiet_nil ?_
  refine wpT_eff (by rfl) (by rfl) (by rfl) ?_ ?_
  · intro W_ hK
    have hW := hK.1
    clear hK
    go_simp
    exact ⟨rfl, (qTimes_ok _ _ x1a x1d z22 _ (RI.ext (hS.num 5 rfl) hW) (RI.ext (hS.num 3 rfl) hW) ax1a ax1d E22.out A22).mono fun e w' ⟨v, he, hR, hx⟩ => ⟨v, he, hx, hR⟩⟩
  intro v_ lo22 hi22 hr_
  obtain ⟨W_, hW_⟩ := hr_
  have hv_ : Fc.holds (.ri (z22)) lo22 hi22 v_ W_ := hW_.get
  clear hW_
  obtain ⟨s22, A_22, n22, c22, rfl, -⟩ := RI.opn hv_
  clear hv_
  clear W_
  try simp only [Act.put, List.setIfInBounds_toArray, List.set_cons_succ, List.set_cons_zero]
  refine wpT_eff (by rfl) (by rfl) (by rfl) ?_ ?_
  · intro W_ hK
    have hW := hK.1
    clear hK
    go_simp
    exact ⟨rfl, (qOf_ok (0) _ (by omega) (by omega)).mono fun e w' ⟨v, he, hR, hx⟩ => ⟨v, he, hx, hR⟩⟩
  intro v_ lo23 hi23 hr_
  obtain ⟨W_, hW_⟩ := hr_
  have hv_ : Fc.holds (.ri ((0 : Int))) lo23 hi23 v_ W_ := hW_.get
  clear hW_
  obtain ⟨s23, A_23, n23, c23, rfl, -⟩ := RI.opn hv_
  clear hv_
  clear W_
  try simp only [Act.put, List.setIfInBounds_toArray, List.set_cons_succ, List.set_cons_zero]
  refine wpT_quiet 4 (by rfl) (by kernel_rfl) ?_
  simp only [List.take_succ_cons, List.take_zero, List.drop_succ_cons, List.drop_zero]
  repeat (go_big_quiet_step (fail))
  refine wpQuiet_nil ?_
  refine wpT_eff (by rfl) (by rfl) (by rfl) ?_ ?_
  · intro W_ hK
    have hW := hK.1
    clear hK
    go_simp
    exact ⟨rfl, (qTimes_ok _ _ x1b x1d z28 _ (RI.ext (hS.num 4 rfl) hW) (RI.ext (hS.num 3 rfl) hW) ax1b ax1d E28.out A28).mono fun e w' ⟨v, he, hR, hx⟩ => ⟨v, he, hx, hR⟩⟩
  intro v_ lo28 hi28 hr_
  obtain ⟨W_, hW_⟩ := hr_
  have hv_ : Fc.holds (.ri (z28)) lo28 hi28 v_ W_ := hW_.get
  clear hW_
  obtain ⟨s28, A_28, n28, c28, rfl, -⟩ := RI.opn hv_
  clear hv_
  clear W_
  try simp only [Act.put, List.setIfInBounds_toArray, List.set_cons_succ, List.set_cons_zero]
  refine wpT_eff (by rfl) (by rfl) (by rfl) ?_ ?_
  · intro W_ hK
    have hW := hK.1
    have F_s23 : RI W_ (iv s23 A_23 n23 c23) (0 : Int) := hK.2 5 ((iv s23 A_23 n23 c23), lo23, hi23) (by rfl) (by kernel_rfl)
    have F_s28 : RI W_ (iv s28 A_28 n28 c28) z28 := hK.2 10 ((iv s28 A_28 n28 c28), lo28, hi28) (by rfl) (by kernel_rfl)
    clear hK
    go_simp
    exact ⟨rfl, (qMinus_ok _ _ (0 : Int) z28 z29 _ F_s23 F_s28 (lt_lim64 (by omega) (by omega)) A28 E29.out A29).mono fun e w' ⟨v, he, hR, hx⟩ => ⟨v, he, hx, hR⟩⟩
  intro v_ lo29 hi29 hr_
  obtain ⟨W_, hW_⟩ := hr_
  have hv_ : Fc.holds (.ri (z29)) lo29 hi29 v_ W_ := hW_.get
  clear hW_
  obtain ⟨s29, A_29, n29, c29, rfl, -⟩ := RI.opn hv_
  clear hv_
  clear W_
  try simp only [Act.put, List.setIfInBounds_toArray, List.set_cons_succ, List.set_cons_zero]
  refine wpT_quiet 1 (by rfl) (by kernel_rfl) ?_
  simp only [List.take_succ_cons, List.take_zero, List.drop_succ_cons, List.drop_zero]
  repeat (go_big_quiet_step (fail))
  refine wpQuiet_nil ?_
  refine wpT_eff (by rfl) (by rfl) (by rfl) ?_ ?_
  · intro W_ hK
    have hW := hK.1
    have F_s22 : RI W_ (iv s22 A_22 n22 c22) z22 := hK.2 4 ((iv s22 A_22 n22 c22), lo22, hi22) (by rfl) (by kernel_rfl)
    have F_s29 : RI W_ (iv s29 A_29 n29 c29) z29 := hK.2 11 ((iv s29 A_29 n29 c29), lo29, hi29) (by rfl) (by kernel_rfl)
    clear hK
    go_simp
    exact ⟨rfl, (qMake_ok _ _ _ z22 z29 z17 z31a z31b z31d _ F_s22 F_s29 (RI.ext (hS.num 0 rfl) hW) A22 A29 A17 N31.out E31.out).mono fun e w' ⟨v, he, hR, hx⟩ => ⟨v, he, hx, hR⟩⟩
  intro v_ lo31 hi31 hr_
  obtain ⟨W_, hW_⟩ := hr_
  have hv_ : Fc.holds (.rg (z31a) (z31b) (z31d)) lo31 hi31 v_ W_ := hW_.get
  clear hW_
  obtain ⟨s31a, A_31a, n31a, c31a, s31b, A_31b, n31b, c31b, s31d, A_31d, n31d, c31d, rfl, -, -, -⟩ := hv_
  clear W_
  try simp only [Act.put, List.setIfInBounds_toArray, List.set_cons_succ, List.set_cons_zero]
  refine wpT_eff (by rfl) (by rfl) (by rfl) ?_ ?_
  · intro W_ hK
    go_simp
    exact ⟨Ext.new _ _, rfl, by simp, Blk.new _ _ _⟩
  intro v_ g6 hi6 hr_
  obtain ⟨W_, hW_⟩ := hr_
  obtain ⟨rfl, hl6, -⟩ : Fc.holds (.box 32 #[.bool false, .slice none 0 0, .bool false, .slice none 0 0, .bool false, .slice none 0 0]) g6 hi6 v_ W_ := hW_.get
  clear hW_ W_
  try simp only [Act.put, List.setIfInBounds_toArray, List.set_cons_succ, List.set_cons_zero]
  refine wpT_nil ?_
  intro w4 hK
  have hlt_ := hS.lt
  replace hS := hS.mv hK.ext
  replace hS := hS.addI (show RI w4 (iv s22 A_22 n22 c22) z22 from hK.at_ 4 (e := ((iv s22 A_22 n22 c22), lo22, hi22)) (by rfl))
  replace hS := hS.addI (show RI w4 (iv s23 A_23 n23 c23) (0 : Int) from hK.at_ 5 (e := ((iv s23 A_23 n23 c23), lo23, hi23)) (by rfl))
  replace hS := hS.addI (show RI w4 (iv s28 A_28 n28 c28) z28 from hK.at_ 10 (e := ((iv s28 A_28 n28 c28), lo28, hi28)) (by rfl))
  replace hS := hS.addI (show RI w4 (iv s29 A_29 n29 c29) z29 from hK.at_ 11 (e := ((iv s29 A_29 n29 c29), lo29, hi29)) (by rfl))
  replace hS := hS.addI (show RI w4 (iv s31a A_31a n31a c31a) z31a from RG.at1 (hK.at_ 13 (e := ((gv s31a A_31a n31a c31a s31b A_31b n31b c31b s31d A_31d n31d c31d), lo31, hi31)) (by rfl)))
  replace hS := hS.addI (show RI w4 (iv s31b A_31b n31b c31b) z31b from RG.at2 (hK.at_ 13 (e := ((gv s31a A_31a n31a c31a s31b A_31b n31b c31b s31d A_31d n31d c31d), lo31, hi31)) (by rfl)))
  replace hS := hS.addI (show RI w4 (iv s31d A_31d n31d c31d) z31d from RG.at3 (hK.at_ 13 (e := ((gv s31a A_31a n31a c31a s31b A_31b n31b c31b s31d A_31d n31d c31d), lo31, hi31)) (by rfl)))
  have lw6 : w3.heap.size ≤ g6 := hK.low 14 _ (by rfl)
  have o6 : Own w g6 := Own.of hE_ lw6
  replace hS := hS.addB (show Blk w4 g6 32 #[.bool false, .slice none 0 0, .bool false, .slice none 0 0, .bool false, .slice none 0 0] from (hK.at_ 14 (by rfl)).2.2) (apart_of fun p hp => Nat.ne_of_lt (Nat.lt_of_lt_of_le (hlt_ p hp) lw6))
  clear hK hlt_ hE_ Y5 Y3
  clear lw6 hl6 hi6
  have k_3 := (hS.blk 0 rfl).cell
  have k_4 := (hS.blk 0 rfl).frozen
  have hT1 := (St.put (W' := ((((((w4.setCell ⟨g6, 0, none⟩ (.bool s31a)).setCell ⟨g6, 1, none⟩ (.slice A_31a n31a c31a)).setCell ⟨g6, 2, none⟩ (.bool s31b)).setCell ⟨g6, 3, none⟩ (.slice A_31b n31b c31b)).setCell ⟨g6, 4, none⟩ (.bool s31d)).setCell ⟨g6, 5, none⟩ (.slice A_31d n31d c31d))) hS 0 0 [.bool s31a, .slice A_31a n31a c31a, .bool s31b, .slice A_31b n31b c31b, .bool s31d, .slice A_31d n31d c31d] (cs' := #[.bool s31a, .slice A_31a n31a c31a, .bool s31b, .slice A_31b n31b c31b, .bool s31d, .slice A_31d n31d c31d]) (bs' := _) rfl o6 rfl rfl (by kernel_rfl) rfl)
  have k_5 := (hT1.blk 4 rfl).cell
  have k_6 := (hT1.blk 0 rfl).cell
  go_wp2_with fail
  clear k_3 k_4 k_5 k_6
  clear hT1
  replace hS := (St.put (W' := ((((((w4.setCell ⟨g6, 0, none⟩ (.bool s31a)).setCell ⟨g6, 1, none⟩ (.slice A_31a n31a c31a)).setCell ⟨g6, 2, none⟩ (.bool s31b)).setCell ⟨g6, 3, none⟩ (.slice A_31b n31b c31b)).setCell ⟨g6, 4, none⟩ (.bool s31d)).setCell ⟨g6, 5, none⟩ (.slice A_31d n31d c31d))) hS 0 0 [.bool s31a, .slice A_31a n31a c31a, .bool s31b, .slice A_31b n31b c31b, .bool s31d, .slice A_31d n31d c31d] (cs' := #[.bool s31a, .slice A_31a n31a c31a, .bool s31b, .slice A_31b n31b c31b, .bool s31d, .slice A_31d n31d c31d]) (bs' := _) rfl o6 rfl rfl (by kernel_rfl) rfl)
  simp only [List.set_cons_zero] at hS
  generalize ((((((w4.setCell ⟨g6, 0, none⟩ (.bool s31a)).setCell ⟨g6, 1, none⟩ (.slice A_31a n31a c31a)).setCell ⟨g6, 2, none⟩ (.bool s31b)).setCell ⟨g6, 3, none⟩ (.slice A_31b n31b c31b)).setCell ⟨g6, 4, none⟩ (.bool s31d)).setCell ⟨g6, 5, none⟩ (.slice A_31d n31d c31d)) = w5 at hS ⊢
  refine (qMul_ok _ _ x0a x0b x0d z31a z31b z31d z34a z34b z34d m34_ n34_ _ (RG.mk (hS.num 15 rfl) (hS.num 14 rfl) (hS.num 13 rfl)) (RG.mk (hS.num 2 rfl) (hS.num 1 rfl) (hS.num 0 rfl)) K34.out).mono ?_
  rintro e w6 ⟨v_, rfl, hv_, hx_⟩
  replace hS := hS.mv hx_
  clear hx_
  obtain ⟨s34a, A_34a, n34a, c34a, s34b, A_34b, n34b, c34b, s34d, A_34d, n34d, c34d, rfl, f_s34a, f_s34b, f_s34d⟩ := hv_
  replace hS := hS.addI f_s34a
  clear f_s34a
  replace hS := hS.addI f_s34b
  clear f_s34b
  replace hS := hS.addI f_s34d
  clear f_s34d
  have k_7 := (hS.blk 2 rfl).cell
  have k_8 := (hS.blk 2 rfl).frozen
  go_wp2
  replace hS := (St.put (W' := ((((((w6.setCell ⟨g4, 0, none⟩ (.bool s34a)).setCell ⟨g4, 1, none⟩ (.slice A_34a n34a c34a)).setCell ⟨g4, 2, none⟩ (.bool s34b)).setCell ⟨g4, 3, none⟩ (.slice A_34b n34b c34b)).setCell ⟨g4, 4, none⟩ (.bool s34d)).setCell ⟨g4, 5, none⟩ (.slice A_34d n34d c34d))) hS 2 0 [.bool s34a, .slice A_34a n34a c34a, .bool s34b, .slice A_34b n34b c34b, .bool s34d, .slice A_34d n34d c34d] (cs' := #[.bool s34a, .slice A_34a n34a c34a, .bool s34b, .slice A_34b n34b c34b, .bool s34d, .slice A_34d n34d c34d]) (bs' := _) rfl o4 rfl rfl (by kernel_rfl) rfl)
  exact bp_gauss1 rfl rfl rfl (hS.blk 2 rfl) ⟨_, rfl, RG.mk (hS.num 2 rfl) (hS.num 1 rfl) (hS.num 0 rfl), hS.ext⟩

end Go.Proofs.YtclkkoiaaddllaaGreat
