/- Words and contracts that the laws share, several texts in one. -/
import Derived.Test.YtjeijmnhbckjdaaGreatDoorQNEmjfj
import Derived.Test.YtjeijmnhbckjdaaGreatDoorQNDdhli
/- The specification of numbers: differences, phasors. -/
namespace Go.Proofs.YtjeijmnhbckjdaaGreatDoor
open Go.RowKit
set_option linter.unusedVariables false

theorem is_ex (q : GQ) : ∃ a b d : Int, Is q a b d := by
  have h1 : ((q.re.den : Nat) : Int) ≠ 0 := by have := q.re.den_nz; omega
  have h2 : ((q.im.den : Nat) : Int) ≠ 0 := by have := q.im.den_nz; omega
  have e1 : q.re = ((q.re.num : Int) : Rat) / (((q.re.den : Nat) : Int) : Rat) := by
    rw [← Rat.divInt_eq_div]
    exact (Rat.num_divInt_den q.re).symm
  have e2 : q.im = ((q.im.num : Int) : Rat) / (((q.im.den : Nat) : Int) : Rat) := by
    rw [← Rat.divInt_eq_div]
    exact (Rat.num_divInt_den q.im).symm
  generalize q.re.num = a at *
  generalize ((q.re.den : Nat) : Int) = d at *
  generalize q.im.num = b at *
  generalize ((q.im.den : Nat) : Int) = f at *
  have k1 := cast_ne h1
  have k2 := cast_ne h2
  have h := is_nf (a := a * f) (b := b * d) (d := d * f) (Int.mul_ne_zero h1 h2)
  refine ⟨_, _, _, ⟨h.low, ?_, ?_⟩⟩
  · rw [← h.re, e1]; simp only [Rat.intCast_mul]; grind
  · rw [← h.im, e2]; simp only [Rat.intCast_mul]; grind
theorem sz_i {a b : Int} (l1 : -9223372036854775808 ≤ a) (u1 : a ≤ 9223372036854775807) (l2 : -9223372036854775808 ≤ b) (u2 : b ≤ 9223372036854775807) : Sz 64 a b 1 := ⟨lt64 l1 u1, lt64 l2 u2, by decide⟩
/-- A value that holds the number q, in lowest terms, of at most n bits each. -/
def GV (w : World) (v : Value) (q : GQ) (n : Nat) : Prop := ∃ a b d : Int, RG w v a b d ∧ Is q a b d ∧ Sz n a b d
theorem GV.ext {w w' : World} {v : Value} {q : GQ} {n : Nat} (h : GV w v q n) (x : Ext w w') : GV w' v q n := by
  obtain ⟨a, b, d, h1, h2, h3⟩ := h
  exact ⟨a, b, d, h1.ext x, h2, h3⟩
/-- A value that holds a phasor. -/
def PV (w : World) (v : Value) (p : PQ) (n : Nat) : Prop := ∃ a b d x y z : Int, RP w v a b d x y z ∧ Is p.u a b d ∧ Sz n a b d ∧ Is p.v x y z ∧ Sz n x y z
theorem PV.ext {w w' : World} {v : Value} {p : PQ} {n : Nat} (h : PV w v p n) (e : Ext w w') : PV w' v p n := by
  obtain ⟨a, b, d, x, y, z, h1, h2⟩ := h
  exact ⟨a, b, d, x, y, z, h1.ext e, h2⟩
theorem sz_0 {n : Nat} (hn : 1 ≤ n) : Sz n 0 0 1 := Sz.mono (m := 1) ⟨by decide, by decide, by decide⟩ hn

set_option maxRecDepth 100000 in
set_option maxHeartbeats 1600000 in
theorem qPlain_ok (v0 : Value) (q0 : GQ) (n0 : Nat) (w : World) (hX0 : GV w v0 q0 n0)
     (hn : 1 ≤ n0) :
    Calls Tryz.prog 25 #[v0] w fun e w' => ∃ v, e = .returned v ∧ PV w' v (PQ.plain q0) (n0) ∧ Ext w w' := by
  have hS := St.start w
  obtain ⟨x0a, x0b, x0d, hX0, I0, S0⟩ := hX0
  obtain ⟨a3, a4, a5, a6, a7, a8, a9, aa, ab, ac, ad, ae, rfl, ap, aq, ar⟩ := hX0
  replace hS := hS.addI ap
  clear ap
  replace hS := hS.addI aq
  clear aq
  replace hS := hS.addI ar
  clear ar
  have o1 : Own w w.heap.size := Own.of hS.ext (by simp)
  have o2 : Own w (w.heap.size + 1) := Own.of hS.ext (by simp)
  go_enter Tryz.func25, Tryz.ntmps25
  go_wp2_with fail
  replace hS := (St.al (St.al hS 26 #[.bool a3, .slice a4 a5 a6, .bool a7, .slice a8 a9 aa, .bool ab, .slice ac ad ae] (g := w.heap.size) (by simp)) 37 #[.bool false, .slice none 0 0, .bool false, .slice none 0 0, .bool false, .slice none 0 0, .bool false, .slice none 0 0, .bool false, .slice none 0 0, .bool false, .slice none 0 0] (g := (w.heap.size + 1)) (by simp))
  generalize ((w.alloc (.cells #[.bool a3, .slice a4 a5 a6, .bool a7, .slice a8 a9 aa, .bool ab, .slice ac ad ae] 26)).alloc (.cells #[.bool false, .slice none 0 0, .bool false, .slice none 0 0, .bool false, .slice none 0 0, .bool false, .slice none 0 0, .bool false, .slice none 0 0, .bool false, .slice none 0 0] 37)) = w1 at hS ⊢
  generalize w.heap.size + 1 = g2 at hS o2 ⊢
  generalize w.heap.size = g1 at hS o1 ⊢
  have Y1 := ExtOf.blk (hS.blk 1 rfl)
  have hE_ := hS.ext
  refine wp_region_tame 3 (hasF [(1, .any)]) (Fcs [(1, .rg ((0 : Int)) ((0 : Int)) ((1 : Int)))]) (Fcs_stab _) (by kernel_rfl) (by kernel_rfl) ?_
  simp only [tk1, tk0, dp1, dp0]
  refine wpT_quiet 1 (by rfl) (by kernel_rfl) ?_
  simp only [tk1, tk0, dp1, dp0]
  repeat (go_big_quiet_step (fail))
  refine wpQuiet_nil ?_
  refine wpT_eff (by rfl) (by rfl) (by rfl) ?_ ?_
  · intro W_ hK
    have hW := hK.1
    clear hK
    go_simp
    exact ⟨rfl, (qInt_ok (0) (0) _ (by omega) (by omega) (by omega) (by omega)).mono fun e w' ⟨v, he, hR, hx⟩ => ⟨v, he, hx, hR⟩⟩
  intro v_ au av hr_
  obtain ⟨W_, hW_⟩ := hr_
  have hv_ : Fc.holds (.rg ((0 : Int)) ((0 : Int)) ((1 : Int))) au av v_ W_ := hW_.get
  clear hW_
  obtain ⟨af, a0, ag, ah, ai, a1, aj, ak, am, a2, an, ao, rfl, -, -, -⟩ := hv_
  clear W_
  try simp only [Act.put, sa0, sa1, sa2]
  refine wpT_quiet 1 (by rfl) (by kernel_rfl) ?_
  simp only [tk1, tk0, dp1, dp0]
  repeat (go_big_quiet_step (fail))
  refine wpQuiet_nil ?_
  refine wpT_nil ?_
  intro w2 hK
  have hlt_ := hS.lt
  replace hS := hS.mv hK.ext
  replace hS := hS.addI (show RI w2 (iv af a0 ag ah) (0 : Int) from RG.at1 (hK.at_ 1 (e := ((gv af a0 ag ah ai a1 aj ak am a2 an ao), au, av)) (by rfl)))
  replace hS := hS.addI (show RI w2 (iv ai a1 aj ak) (0 : Int) from RG.at2 (hK.at_ 1 (e := ((gv af a0 ag ah ai a1 aj ak am a2 an ao), au, av)) (by rfl)))
  replace hS := hS.addI (show RI w2 (iv am a2 an ao) (1 : Int) from RG.at3 (hK.at_ 1 (e := ((gv af a0 ag ah ai a1 aj ak am a2 an ao), au, av)) (by rfl)))
  clear hK hlt_ hE_ Y1
  have k_1 := (hS.blk 0 rfl).cell
  have k_2 := (hS.blk 0 rfl).frozen
  go_wp2
  replace hS := (St.put (W' := ((((((((((((w2.setCell ⟨g2, 0, none⟩ (.bool a3)).setCell ⟨g2, 1, none⟩ (.slice a4 a5 a6)).setCell ⟨g2, 2, none⟩ (.bool a7)).setCell ⟨g2, 3, none⟩ (.slice a8 a9 aa)).setCell ⟨g2, 4, none⟩ (.bool ab)).setCell ⟨g2, 5, none⟩ (.slice ac ad ae)).setCell ⟨g2, 6, none⟩ (.bool af)).setCell ⟨g2, 7, none⟩ (.slice a0 ag ah)).setCell ⟨g2, 8, none⟩ (.bool ai)).setCell ⟨g2, 9, none⟩ (.slice a1 aj ak)).setCell ⟨g2, 10, none⟩ (.bool am)).setCell ⟨g2, 11, none⟩ (.slice a2 an ao))) hS 0 0 [.bool a3, .slice a4 a5 a6, .bool a7, .slice a8 a9 aa, .bool ab, .slice ac ad ae, .bool af, .slice a0 ag ah, .bool ai, .slice a1 aj ak, .bool am, .slice a2 an ao] (cs' := #[.bool a3, .slice a4 a5 a6, .bool a7, .slice a8 a9 aa, .bool ab, .slice ac ad ae, .bool af, .slice a0 ag ah, .bool ai, .slice a1 aj ak, .bool am, .slice a2 an ao]) (bs' := _) rfl o2 rfl rfl (by kernel_rfl) rfl)
  exact bp_phasor1 rfl rfl rfl (hS.blk 0 rfl) ⟨_, rfl, ⟨_, _, _, _, _, _, RP.mk (hS.num 5 rfl) (hS.num 4 rfl) (hS.num 3 rfl) (hS.num 2 rfl) (hS.num 1 rfl) (hS.num 0 rfl), I0, S0, (is_i 0 0), (sz_0 hn)⟩, hS.ext⟩

set_option maxRecDepth 100000 in
set_option maxHeartbeats 3200000 in
theorem qSum_w (v0 : Value) (q0 : PQ) (n0 : Nat) (v1 : Value) (q1 : PQ) (n1 : Nat) (w : World) (hX0 : PV w v0 q0 n0) (hX1 : PV w v1 q1 n1)
     (hn : n0 + n1 + 1 ≤ 12800) :
    Calls Tryz.prog 24 #[v0, v1] w fun e w' => ∃ v, e = .returned v ∧ PV w' v (q0 + q1) (n0 + n1 + 1) ∧ Ext w w' := by
  have hS := St.start w
  obtain ⟨x0a, x0b, x0d, x0x, x0y, x0z, hX0, I0u, S0u, I0v, S0v⟩ := hX0
  obtain ⟨aw, ax, ay, az, aA, aB, aC, aD, aE, aF, aG, aH, aI, aJ, aK, aL, aM, aN, aO, aP, aQ, aR, aS, aT, rfl, aU, aV, aW, aX, aY, aZ⟩ := hX0
  replace hS := hS.addI aU
  clear aU
  replace hS := hS.addI aV
  clear aV
  replace hS := hS.addI aW
  clear aW
  replace hS := hS.addI aX
  clear aX
  replace hS := hS.addI aY
  clear aY
  replace hS := hS.addI aZ
  clear aZ
  obtain ⟨x1a, x1b, x1d, x1x, x1y, x1z, hX1, I1u, S1u, I1v, S1v⟩ := hX1
  obtain ⟨b0, b1, b2, b3, b4, b5, b6, b7, b8, b9, ba, bb, bc, bd, be, bf, bg, bh, bi, bj, bk, bl, bm, bn, rfl, bo, bp, bq, br, bs, bt⟩ := hX1
  replace hS := hS.addI bo
  clear bo
  replace hS := hS.addI bp
  clear bp
  replace hS := hS.addI bq
  clear bq
  replace hS := hS.addI br
  clear br
  replace hS := hS.addI bs
  clear bs
  replace hS := hS.addI bt
  clear bt
  have o2 : Own w w.heap.size := Own.of hS.ext (by simp)
  have o3 : Own w (w.heap.size + 1) := Own.of hS.ext (by simp)
  have o4 : Own w (w.heap.size + 2) := Own.of hS.ext (by simp)
  go_enter Tryz.func24, Tryz.ntmps24
  go_wp2_with fail
  replace hS := (St.al (St.al (St.al hS 37 #[.bool aw, .slice ax ay az, .bool aA, .slice aB aC aD, .bool aE, .slice aF aG aH, .bool aI, .slice aJ aK aL, .bool aM, .slice aN aO aP, .bool aQ, .slice aR aS aT] (g := w.heap.size) (by simp)) 37 #[.bool b0, .slice b1 b2 b3, .bool b4, .slice b5 b6 b7, .bool b8, .slice b9 ba bb, .bool bc, .slice bd be bf, .bool bg, .slice bh bi bj, .bool bk, .slice bl bm bn] (g := (w.heap.size + 1)) (by simp)) 37 #[.bool false, .slice none 0 0, .bool false, .slice none 0 0, .bool false, .slice none 0 0, .bool false, .slice none 0 0, .bool false, .slice none 0 0, .bool false, .slice none 0 0] (g := (w.heap.size + 2)) (by simp))
  generalize (((w.alloc (.cells #[.bool aw, .slice ax ay az, .bool aA, .slice aB aC aD, .bool aE, .slice aF aG aH, .bool aI, .slice aJ aK aL, .bool aM, .slice aN aO aP, .bool aQ, .slice aR aS aT] 37)).alloc (.cells #[.bool b0, .slice b1 b2 b3, .bool b4, .slice b5 b6 b7, .bool b8, .slice b9 ba bb, .bool bc, .slice bd be bf, .bool bg, .slice bh bi bj, .bool bk, .slice bl bm bn] 37)).alloc (.cells #[.bool false, .slice none 0 0, .bool false, .slice none 0 0, .bool false, .slice none 0 0, .bool false, .slice none 0 0, .bool false, .slice none 0 0, .bool false, .slice none 0 0] 37)) = w1 at hS ⊢
  generalize w.heap.size + 2 = g4 at hS o4 ⊢
  generalize w.heap.size + 1 = g3 at hS o3 ⊢
  generalize w.heap.size = g2 at hS o2 ⊢
  obtain ⟨bu, bv, bw, I9⟩ := is_ex (q0.u + q1.u)
  have K9 := AddOk.of I0u S0u I1u S1u I9 (by omega)
  have S9 := K9.size
  obtain ⟨af, ag, ah, bA⟩ := is_ex (q0.v + q1.v)
  have bB := AddOk.of I0v S0v I1v S1v bA (by omega)
  have S14 := bB.size
  have Y3 := ExtOf.blk (hS.blk 1 rfl)
  have Y2 := ExtOf.blk (hS.blk 2 rfl)
  have hE_ := hS.ext
  refine wp_region_tame 11 (hasF [(4, .any), (9, .any)]) (Fcs [(4, .rg (bu) (bv) (bw)), (9, .rg (af) (ag) (ah))]) (Fcs_stab _) (by kernel_rfl) (by kernel_rfl) ?_
  simp only [tk1, tk0, dp1, dp0]
  refine wpT_quiet 4 (by rfl) (by kernel_rfl) ?_
  simp only [tk1, tk0, dp1, dp0]
  repeat (go_big_quiet_step (fail))
  refine wpQuiet_nil ?_
  refine wpT_eff (by rfl) (by rfl) (by rfl) ?_ ?_
  · intro W_ hK
    have hW := hK.1
    clear hK
    go_simp
    exact ⟨rfl, (qAdd_ok _ _ x0a x0b x0d x1a x1b x1d bu bv bw _ _ _ (RG.mk (RI.ext (hS.num 11 rfl) hW) (RI.ext (hS.num 10 rfl) hW) (RI.ext (hS.num 9 rfl) hW)) (RG.mk (RI.ext (hS.num 5 rfl) hW) (RI.ext (hS.num 4 rfl) hW) (RI.ext (hS.num 3 rfl) hW)) K9).mono fun e w' ⟨v, he, hR, hx⟩ => ⟨v, he, hx, hR⟩⟩
  intro v_ bx bz hr_
  obtain ⟨W_, hW_⟩ := hr_
  have hv_ : Fc.holds (.rg (bu) (bv) (bw)) bx bz v_ W_ := hW_.get
  clear hW_
  obtain ⟨ak, a3, am, an, ao, a4, ap, aq, ar, a5, au, av, rfl, -, -, -⟩ := hv_
  clear W_
  try simp only [Act.put, sa0, sa1, sa2]
  refine wpT_quiet 4 (by rfl) (by kernel_rfl) ?_
  simp only [tk1, tk0, dp1, dp0]
  repeat (go_big_quiet_step (fail))
  refine wpQuiet_nil ?_
  refine wpT_eff (by rfl) (by rfl) (by rfl) ?_ ?_
  · intro W_ hK
    have hW := hK.1
    clear hK
    go_simp
    exact ⟨rfl, (qAdd_ok _ _ x0x x0y x0z x1x x1y x1z af ag ah _ _ _ (RG.mk (RI.ext (hS.num 8 rfl) hW) (RI.ext (hS.num 7 rfl) hW) (RI.ext (hS.num 6 rfl) hW)) (RG.mk (RI.ext (hS.num 2 rfl) hW) (RI.ext (hS.num 1 rfl) hW) (RI.ext (hS.num 0 rfl) hW)) bB).mono fun e w' ⟨v, he, hR, hx⟩ => ⟨v, he, hx, hR⟩⟩
  intro v_ ai aj hr_
  obtain ⟨W_, hW_⟩ := hr_
  have hv_ : Fc.holds (.rg (af) (ag) (ah)) ai aj v_ W_ := hW_.get
  clear hW_
  obtain ⟨a6, a0, a7, a8, a9, a1, aa, ab, ac, a2, ad, ae, rfl, -, -, -⟩ := hv_
  clear W_
  try simp only [Act.put, sa0, sa1, sa2]
  refine wpT_quiet 1 (by rfl) (by kernel_rfl) ?_
  simp only [tk1, tk0, dp1, dp0]
  repeat (go_big_quiet_step (fail))
  refine wpQuiet_nil ?_
  refine wpT_nil ?_
  intro w2 hK
  have hlt_ := hS.lt
  replace hS := hS.mv hK.ext
  replace hS := hS.addI (show RI w2 (iv ak a3 am an) bu from RG.at1 (hK.at_ 4 (e := ((gv ak a3 am an ao a4 ap aq ar a5 au av), bx, bz)) (by rfl)))
  replace hS := hS.addI (show RI w2 (iv ao a4 ap aq) bv from RG.at2 (hK.at_ 4 (e := ((gv ak a3 am an ao a4 ap aq ar a5 au av), bx, bz)) (by rfl)))
  replace hS := hS.addI (show RI w2 (iv ar a5 au av) bw from RG.at3 (hK.at_ 4 (e := ((gv ak a3 am an ao a4 ap aq ar a5 au av), bx, bz)) (by rfl)))
  replace hS := hS.addI (show RI w2 (iv a6 a0 a7 a8) af from RG.at1 (hK.at_ 9 (e := ((gv a6 a0 a7 a8 a9 a1 aa ab ac a2 ad ae), ai, aj)) (by rfl)))
  replace hS := hS.addI (show RI w2 (iv a9 a1 aa ab) ag from RG.at2 (hK.at_ 9 (e := ((gv a6 a0 a7 a8 a9 a1 aa ab ac a2 ad ae), ai, aj)) (by rfl)))
  replace hS := hS.addI (show RI w2 (iv ac a2 ad ae) ah from RG.at3 (hK.at_ 9 (e := ((gv a6 a0 a7 a8 a9 a1 aa ab ac a2 ad ae), ai, aj)) (by rfl)))
  clear hK hlt_ hE_ Y3 Y2
  have k_1 := (hS.blk 0 rfl).cell
  have k_2 := (hS.blk 0 rfl).frozen
  go_wp2
  replace hS := (St.put (W' := ((((((((((((w2.setCell ⟨g4, 0, none⟩ (.bool ak)).setCell ⟨g4, 1, none⟩ (.slice a3 am an)).setCell ⟨g4, 2, none⟩ (.bool ao)).setCell ⟨g4, 3, none⟩ (.slice a4 ap aq)).setCell ⟨g4, 4, none⟩ (.bool ar)).setCell ⟨g4, 5, none⟩ (.slice a5 au av)).setCell ⟨g4, 6, none⟩ (.bool a6)).setCell ⟨g4, 7, none⟩ (.slice a0 a7 a8)).setCell ⟨g4, 8, none⟩ (.bool a9)).setCell ⟨g4, 9, none⟩ (.slice a1 aa ab)).setCell ⟨g4, 10, none⟩ (.bool ac)).setCell ⟨g4, 11, none⟩ (.slice a2 ad ae))) hS 0 0 [.bool ak, .slice a3 am an, .bool ao, .slice a4 ap aq, .bool ar, .slice a5 au av, .bool a6, .slice a0 a7 a8, .bool a9, .slice a1 aa ab, .bool ac, .slice a2 ad ae] (cs' := #[.bool ak, .slice a3 am an, .bool ao, .slice a4 ap aq, .bool ar, .slice a5 au av, .bool a6, .slice a0 a7 a8, .bool a9, .slice a1 aa ab, .bool ac, .slice a2 ad ae]) (bs' := _) rfl o4 rfl rfl (by kernel_rfl) rfl)
  exact bp_phasor1 rfl rfl rfl (hS.blk 0 rfl) ⟨_, rfl, ⟨_, _, _, _, _, _, RP.mk (hS.num 5 rfl) (hS.num 4 rfl) (hS.num 3 rfl) (hS.num 2 rfl) (hS.num 1 rfl) (hS.num 0 rfl), I9, S9, bA, S14⟩, hS.ext⟩

set_option maxRecDepth 100000 in
set_option maxHeartbeats 6400000 in
theorem qProduct_w (v0 : Value) (q0 : PQ) (n0 : Nat) (v1 : Value) (q1 : PQ) (n1 : Nat) (w : World) (hX0 : PV w v0 q0 n0) (hX1 : PV w v1 q1 n1)
     (hn : 2 * (n0 + n1) + 69 ≤ 12800) :
    Calls Tryz.prog 66 #[v0, v1] w fun e w' => ∃ v, e = .returned v ∧ PV w' v (q0 * q1) (2 * (n0 + n1) + 69) ∧ Ext w w' := by
  have hS := St.start w
  obtain ⟨dv, dw, dx, dy, dz, dA, hX0, dB, dC, dD, dE⟩ := hX0
  obtain ⟨ct, cu, cv, cw, cx, cy, cz, cA, cB, cC, cD, cE, cF, cG, cH, cI, cJ, cK, cL, cM, cN, cO, cP, cQ, rfl, cR, cS, cT, cU, cV, cW⟩ := hX0
  replace hS := hS.addI cR
  clear cR
  replace hS := hS.addI cS
  clear cS
  replace hS := hS.addI cT
  clear cT
  replace hS := hS.addI cU
  clear cU
  replace hS := hS.addI cV
  clear cV
  replace hS := hS.addI cW
  clear cW
  obtain ⟨dF, dG, dH, dI, dJ, dK, hX1, dL, dM, dN, dO⟩ := hX1
  obtain ⟨cX, cY, cZ, d0, d1, d2, d3, d4, d5, d6, d7, d8, d9, da, db, dc, dd, de, df, dg, dh, di, dj, dk, rfl, dl, dm, dn, dp, dq, dr⟩ := hX1
  replace hS := hS.addI dl
  clear dl
  replace hS := hS.addI dm
  clear dm
  replace hS := hS.addI dn
  clear dn
  replace hS := hS.addI dp
  clear dp
  replace hS := hS.addI dq
  clear dq
  replace hS := hS.addI dr
  clear dr
  have o2 : Own w w.heap.size := Own.of hS.ext (by simp)
  have o3 : Own w (w.heap.size + 1) := Own.of hS.ext (by simp)
  have o4 : Own w (w.heap.size + 2) := Own.of hS.ext (by simp)
  go_enter Tryz.func66, Tryz.ntmps66
  go_wp2_with fail
  replace hS := (St.al (St.al (St.al hS 37 #[.bool ct, .slice cu cv cw, .bool cx, .slice cy cz cA, .bool cB, .slice cC cD cE, .bool cF, .slice cG cH cI, .bool cJ, .slice cK cL cM, .bool cN, .slice cO cP cQ] (g := w.heap.size) (by simp)) 37 #[.bool cX, .slice cY cZ d0, .bool d1, .slice d2 d3 d4, .bool d5, .slice d6 d7 d8, .bool d9, .slice da db dc, .bool dd, .slice de df dg, .bool dh, .slice di dj dk] (g := (w.heap.size + 1)) (by simp)) 37 #[.bool false, .slice none 0 0, .bool false, .slice none 0 0, .bool false, .slice none 0 0, .bool false, .slice none 0 0, .bool false, .slice none 0 0, .bool false, .slice none 0 0] (g := (w.heap.size + 2)) (by simp))
  generalize (((w.alloc (.cells #[.bool ct, .slice cu cv cw, .bool cx, .slice cy cz cA, .bool cB, .slice cC cD cE, .bool cF, .slice cG cH cI, .bool cJ, .slice cK cL cM, .bool cN, .slice cO cP cQ] 37)).alloc (.cells #[.bool cX, .slice cY cZ d0, .bool d1, .slice d2 d3 d4, .bool d5, .slice d6 d7 d8, .bool d9, .slice da db dc, .bool dd, .slice de df dg, .bool dh, .slice di dj dk] 37)).alloc (.cells #[.bool false, .slice none 0 0, .bool false, .slice none 0 0, .bool false, .slice none 0 0, .bool false, .slice none 0 0, .bool false, .slice none 0 0, .bool false, .slice none 0 0] 37)) = w1 at hS ⊢
  generalize w.heap.size + 2 = g4 at hS o4 ⊢
  generalize w.heap.size + 1 = g3 at hS o3 ⊢
  generalize w.heap.size = g2 at hS o2 ⊢
  obtain ⟨cq, cr, cs, I9⟩ := is_ex (q0.u * q1.u)
  have K9 := MulOk.of dB dC dL dM I9 (by omega)
  have S9 := K9.size
  obtain ⟨bD, bE, bF, dP⟩ := is_ex (q0.v * q1.v)
  have dQ := MulOk.of dD dE dN dO dP (by omega)
  have S15 := dQ.size
  obtain ⟨bG, bH, bI, dR⟩ := is_ex ((GQ.i (3) (0)) * (q0.v * q1.v))
  have dS := MulOk.of (is_i (3) (0)) (sz_i (by omega) (by omega) (by omega) (by omega)) dP S15 dR (by omega)
  have S16 := dS.size
  obtain ⟨bP, bQ, bR, dT⟩ := is_ex ((q0.u * q1.u) + (GQ.i (3) (0)) * (q0.v * q1.v))
  have dU := AddOk.of I9 S9 dR S16 dT (by omega)
  have S17 := dU.size
  obtain ⟨bJ, bK, bL, dV⟩ := is_ex (q0.u * q1.v)
  have dW := MulOk.of dB dC dN dO dV (by omega)
  have S22 := dW.size
  obtain ⟨bM, bN, bO, dX⟩ := is_ex (q0.v * q1.u)
  have dY := MulOk.of dD dE dL dM dX (by omega)
  have S27 := dY.size
  obtain ⟨bS, bT, bU, dZ⟩ := is_ex ((q0.u * q1.v) + (q0.v * q1.u))
  have e0 := AddOk.of dV S22 dX S27 dZ (by omega)
  have S28 := e0.size
  have Y3 := ExtOf.blk (hS.blk 1 rfl)
  have Y2 := ExtOf.blk (hS.blk 2 rfl)
  have hE_ := hS.ext
  refine wp_region_tame 25 (hasF [(4, .any), (5, .any), (10, .any), (11, .any), (12, .any), (17, .any), (22, .any), (23, .any)]) (Fcs [(4, .rg (cq) (cr) (cs)), (5, .rg ((3 : Int)) ((0 : Int)) ((1 : Int))), (10, .rg (bD) (bE) (bF)), (11, .rg (bG) (bH) (bI)), (12, .rg (bP) (bQ) (bR)), (17, .rg (bJ) (bK) (bL)), (22, .rg (bM) (bN) (bO)), (23, .rg (bS) (bT) (bU))]) (Fcs_stab _) (by kernel_rfl) (by kernel_rfl) ?_
  simp only [tk1, tk0, dp1, dp0]
  refine wpT_quiet 4 (by rfl) (by kernel_rfl) ?_
  simp only [tk1, tk0, dp1, dp0]
  repeat (go_big_quiet_step (fail))
  refine wpQuiet_nil ?_
  refine wpT_eff (by rfl) (by rfl) (by rfl) ?_ ?_
  · intro W_ hK
    have hW := hK.1
    clear hK
    go_simp
    exact ⟨rfl, (qMul_ok _ _ dv dw dx dF dG dH cq cr cs _ _ _ (RG.mk (RI.ext (hS.num 11 rfl) hW) (RI.ext (hS.num 10 rfl) hW) (RI.ext (hS.num 9 rfl) hW)) (RG.mk (RI.ext (hS.num 5 rfl) hW) (RI.ext (hS.num 4 rfl) hW) (RI.ext (hS.num 3 rfl) hW)) K9).mono fun e w' ⟨v, he, hR, hx⟩ => ⟨v, he, hx, hR⟩⟩
  intro v_ c8 c9 hr_
  obtain ⟨W_, hW_⟩ := hr_
  have hv_ : Fc.holds (.rg (cq) (cr) (cs)) c8 c9 v_ W_ := hW_.get
  clear hW_
  obtain ⟨bZ, am, c0, c1, c2, an, c3, c4, c5, ao, c6, c7, rfl, -, -, -⟩ := hv_
  clear W_
  try simp only [Act.put, sa0, sa1, sa2]
  refine wpT_eff (by rfl) (by rfl) (by rfl) ?_ ?_
  · intro W_ hK
    have hW := hK.1
    clear hK
    go_simp
    exact ⟨rfl, (qInt_ok (3) (0) _ (by omega) (by omega) (by omega) (by omega)).mono fun e w' ⟨v, he, hR, hx⟩ => ⟨v, he, hx, hR⟩⟩
  intro v_ ba bb hr_
  obtain ⟨W_, hW_⟩ := hr_
  have hv_ : Fc.holds (.rg ((3 : Int)) ((0 : Int)) ((1 : Int))) ba bb v_ W_ := hW_.get
  clear hW_
  obtain ⟨ap, a0, aq, ar, au, a1, av, aw, ax, a2, ay, az, rfl, -, -, -⟩ := hv_
  clear W_
  try simp only [Act.put, sa0, sa1, sa2]
  refine wpT_quiet 4 (by rfl) (by kernel_rfl) ?_
  simp only [tk1, tk0, dp1, dp0]
  repeat (go_big_quiet_step (fail))
  refine wpQuiet_nil ?_
  refine wpT_eff (by rfl) (by rfl) (by rfl) ?_ ?_
  · intro W_ hK
    have hW := hK.1
    clear hK
    go_simp
    exact ⟨rfl, (qMul_ok _ _ dy dz dA dI dJ dK bD bE bF _ _ _ (RG.mk (RI.ext (hS.num 8 rfl) hW) (RI.ext (hS.num 7 rfl) hW) (RI.ext (hS.num 6 rfl) hW)) (RG.mk (RI.ext (hS.num 2 rfl) hW) (RI.ext (hS.num 1 rfl) hW) (RI.ext (hS.num 0 rfl) hW)) dQ).mono fun e w' ⟨v, he, hR, hx⟩ => ⟨v, he, hx, hR⟩⟩
  intro v_ bc bd hr_
  obtain ⟨W_, hW_⟩ := hr_
  have hv_ : Fc.holds (.rg (bD) (bE) (bF)) bc bd v_ W_ := hW_.get
  clear hW_
  obtain ⟨aA, a3, aB, aC, aD, a4, aE, aF, aG, a5, aH, aI, rfl, -, -, -⟩ := hv_
  clear W_
  try simp only [Act.put, sa0, sa1, sa2]
  refine wpT_eff (by rfl) (by rfl) (by rfl) ?_ ?_
  · intro W_ hK
    have hW := hK.1
    have ca : RI W_ (iv ap a0 aq ar) (3 : Int) := RG.at1 (hK.2 5 ((gv ap a0 aq ar au a1 av aw ax a2 ay az), ba, bb) (by rfl) (by kernel_rfl))
    have cb : RI W_ (iv au a1 av aw) (0 : Int) := RG.at2 (hK.2 5 ((gv ap a0 aq ar au a1 av aw ax a2 ay az), ba, bb) (by rfl) (by kernel_rfl))
    have cc : RI W_ (iv ax a2 ay az) (1 : Int) := RG.at3 (hK.2 5 ((gv ap a0 aq ar au a1 av aw ax a2 ay az), ba, bb) (by rfl) (by kernel_rfl))
    have cd : RI W_ (iv aA a3 aB aC) bD := RG.at1 (hK.2 10 ((gv aA a3 aB aC aD a4 aE aF aG a5 aH aI), bc, bd) (by rfl) (by kernel_rfl))
    have ce : RI W_ (iv aD a4 aE aF) bE := RG.at2 (hK.2 10 ((gv aA a3 aB aC aD a4 aE aF aG a5 aH aI), bc, bd) (by rfl) (by kernel_rfl))
    have cf : RI W_ (iv aG a5 aH aI) bF := RG.at3 (hK.2 10 ((gv aA a3 aB aC aD a4 aE aF aG a5 aH aI), bc, bd) (by rfl) (by kernel_rfl))
    clear hK
    go_simp
    exact ⟨rfl, (qMul_ok _ _ (3 : Int) (0 : Int) (1 : Int) bD bE bF bG bH bI _ _ _ (RG.mk ca cb cc) (RG.mk cd ce cf) dS).mono fun e w' ⟨v, he, hR, hx⟩ => ⟨v, he, hx, hR⟩⟩
  intro v_ be bf hr_
  obtain ⟨W_, hW_⟩ := hr_
  have hv_ : Fc.holds (.rg (bG) (bH) (bI)) be bf v_ W_ := hW_.get
  clear hW_
  obtain ⟨aJ, a6, aK, aL, aM, a7, aN, aO, aP, a8, aQ, aR, rfl, -, -, -⟩ := hv_
  clear W_
  try simp only [Act.put, sa0, sa1, sa2]
  refine wpT_eff (by rfl) (by rfl) (by rfl) ?_ ?_
  · intro W_ hK
    have hW := hK.1
    have ds : RI W_ (iv bZ am c0 c1) cq := RG.at1 (hK.2 4 ((gv bZ am c0 c1 c2 an c3 c4 c5 ao c6 c7), c8, c9) (by rfl) (by kernel_rfl))
    have dt : RI W_ (iv c2 an c3 c4) cr := RG.at2 (hK.2 4 ((gv bZ am c0 c1 c2 an c3 c4 c5 ao c6 c7), c8, c9) (by rfl) (by kernel_rfl))
    have du : RI W_ (iv c5 ao c6 c7) cs := RG.at3 (hK.2 4 ((gv bZ am c0 c1 c2 an c3 c4 c5 ao c6 c7), c8, c9) (by rfl) (by kernel_rfl))
    have cg : RI W_ (iv aJ a6 aK aL) bG := RG.at1 (hK.2 11 ((gv aJ a6 aK aL aM a7 aN aO aP a8 aQ aR), be, bf) (by rfl) (by kernel_rfl))
    have ch : RI W_ (iv aM a7 aN aO) bH := RG.at2 (hK.2 11 ((gv aJ a6 aK aL aM a7 aN aO aP a8 aQ aR), be, bf) (by rfl) (by kernel_rfl))
    have ci : RI W_ (iv aP a8 aQ aR) bI := RG.at3 (hK.2 11 ((gv aJ a6 aK aL aM a7 aN aO aP a8 aQ aR), be, bf) (by rfl) (by kernel_rfl))
    clear hK
    go_simp
    exact ⟨rfl, (qAdd_ok _ _ cq cr cs bG bH bI bP bQ bR _ _ _ (RG.mk ds dt du) (RG.mk cg ch ci) dU).mono fun e w' ⟨v, he, hR, hx⟩ => ⟨v, he, hx, hR⟩⟩
  intro v_ bV bW hr_
  obtain ⟨W_, hW_⟩ := hr_
  have hv_ : Fc.holds (.rg (bP) (bQ) (bR)) bV bW v_ W_ := hW_.get
  clear hW_
  obtain ⟨bg, af, bh, bi, bj, ag, bk, bl, bm, ah, bn, bo, rfl, -, -, -⟩ := hv_
  clear W_
  try simp only [Act.put, sa0, sa1, sa2]
  refine wpT_quiet 4 (by rfl) (by kernel_rfl) ?_
  simp only [tk1, tk0, dp1, dp0]
  repeat (go_big_quiet_step (fail))
  refine wpQuiet_nil ?_
  refine wpT_eff (by rfl) (by rfl) (by rfl) ?_ ?_
  · intro W_ hK
    have hW := hK.1
    clear hK
    go_simp
    exact ⟨rfl, (qMul_ok _ _ dv dw dx dI dJ dK bJ bK bL _ _ _ (RG.mk (RI.ext (hS.num 11 rfl) hW) (RI.ext (hS.num 10 rfl) hW) (RI.ext (hS.num 9 rfl) hW)) (RG.mk (RI.ext (hS.num 2 rfl) hW) (RI.ext (hS.num 1 rfl) hW) (RI.ext (hS.num 0 rfl) hW)) dW).mono fun e w' ⟨v, he, hR, hx⟩ => ⟨v, he, hx, hR⟩⟩
  intro v_ bp bq hr_
  obtain ⟨W_, hW_⟩ := hr_
  have hv_ : Fc.holds (.rg (bJ) (bK) (bL)) bp bq v_ W_ := hW_.get
  clear hW_
  obtain ⟨aS, a9, aT, aU, aV, aa, aW, aX, aY, ab, aZ, b0, rfl, -, -, -⟩ := hv_
  clear W_
  try simp only [Act.put, sa0, sa1, sa2]
  refine wpT_quiet 4 (by rfl) (by kernel_rfl) ?_
  simp only [tk1, tk0, dp1, dp0]
  repeat (go_big_quiet_step (fail))
  refine wpQuiet_nil ?_
  refine wpT_eff (by rfl) (by rfl) (by rfl) ?_ ?_
  · intro W_ hK
    have hW := hK.1
    clear hK
    go_simp
    exact ⟨rfl, (qMul_ok _ _ dy dz dA dF dG dH bM bN bO _ _ _ (RG.mk (RI.ext (hS.num 8 rfl) hW) (RI.ext (hS.num 7 rfl) hW) (RI.ext (hS.num 6 rfl) hW)) (RG.mk (RI.ext (hS.num 5 rfl) hW) (RI.ext (hS.num 4 rfl) hW) (RI.ext (hS.num 3 rfl) hW)) dY).mono fun e w' ⟨v, he, hR, hx⟩ => ⟨v, he, hx, hR⟩⟩
  intro v_ br bs hr_
  obtain ⟨W_, hW_⟩ := hr_
  have hv_ : Fc.holds (.rg (bM) (bN) (bO)) br bs v_ W_ := hW_.get
  clear hW_
  obtain ⟨b1, ac, b2, b3, b4, ad, b5, b6, b7, ae, b8, b9, rfl, -, -, -⟩ := hv_
  clear W_
  try simp only [Act.put, sa0, sa1, sa2]
  refine wpT_eff (by rfl) (by rfl) (by rfl) ?_ ?_
  · intro W_ hK
    have hW := hK.1
    have cj : RI W_ (iv aS a9 aT aU) bJ := RG.at1 (hK.2 17 ((gv aS a9 aT aU aV aa aW aX aY ab aZ b0), bp, bq) (by rfl) (by kernel_rfl))
    have ck : RI W_ (iv aV aa aW aX) bK := RG.at2 (hK.2 17 ((gv aS a9 aT aU aV aa aW aX aY ab aZ b0), bp, bq) (by rfl) (by kernel_rfl))
    have cl : RI W_ (iv aY ab aZ b0) bL := RG.at3 (hK.2 17 ((gv aS a9 aT aU aV aa aW aX aY ab aZ b0), bp, bq) (by rfl) (by kernel_rfl))
    have cn : RI W_ (iv b1 ac b2 b3) bM := RG.at1 (hK.2 22 ((gv b1 ac b2 b3 b4 ad b5 b6 b7 ae b8 b9), br, bs) (by rfl) (by kernel_rfl))
    have co : RI W_ (iv b4 ad b5 b6) bN := RG.at2 (hK.2 22 ((gv b1 ac b2 b3 b4 ad b5 b6 b7 ae b8 b9), br, bs) (by rfl) (by kernel_rfl))
    have cp : RI W_ (iv b7 ae b8 b9) bO := RG.at3 (hK.2 22 ((gv b1 ac b2 b3 b4 ad b5 b6 b7 ae b8 b9), br, bs) (by rfl) (by kernel_rfl))
    clear hK
    go_simp
    exact ⟨rfl, (qAdd_ok _ _ bJ bK bL bM bN bO bS bT bU _ _ _ (RG.mk cj ck cl) (RG.mk cn co cp) e0).mono fun e w' ⟨v, he, hR, hx⟩ => ⟨v, he, hx, hR⟩⟩
  intro v_ bX bY hr_
  obtain ⟨W_, hW_⟩ := hr_
  have hv_ : Fc.holds (.rg (bS) (bT) (bU)) bX bY v_ W_ := hW_.get
  clear hW_
  obtain ⟨bt, ai, bu, bv, bw, aj, bx, bz, bA, ak, bB, bC, rfl, -, -, -⟩ := hv_
  clear W_
  try simp only [Act.put, sa0, sa1, sa2]
  refine wpT_quiet 1 (by rfl) (by kernel_rfl) ?_
  simp only [tk1, tk0, dp1, dp0]
  repeat (go_big_quiet_step (fail))
  refine wpQuiet_nil ?_
  refine wpT_nil ?_
  intro w2 hK
  have hlt_ := hS.lt
  replace hS := hS.mv hK.ext
  replace hS := hS.addI (show RI w2 (iv bZ am c0 c1) cq from RG.at1 (hK.at_ 4 (e := ((gv bZ am c0 c1 c2 an c3 c4 c5 ao c6 c7), c8, c9)) (by rfl)))
  replace hS := hS.addI (show RI w2 (iv c2 an c3 c4) cr from RG.at2 (hK.at_ 4 (e := ((gv bZ am c0 c1 c2 an c3 c4 c5 ao c6 c7), c8, c9)) (by rfl)))
  replace hS := hS.addI (show RI w2 (iv c5 ao c6 c7) cs from RG.at3 (hK.at_ 4 (e := ((gv bZ am c0 c1 c2 an c3 c4 c5 ao c6 c7), c8, c9)) (by rfl)))
  replace hS := hS.addI (show RI w2 (iv ap a0 aq ar) (3 : Int) from RG.at1 (hK.at_ 5 (e := ((gv ap a0 aq ar au a1 av aw ax a2 ay az), ba, bb)) (by rfl)))
  replace hS := hS.addI (show RI w2 (iv au a1 av aw) (0 : Int) from RG.at2 (hK.at_ 5 (e := ((gv ap a0 aq ar au a1 av aw ax a2 ay az), ba, bb)) (by rfl)))
  replace hS := hS.addI (show RI w2 (iv ax a2 ay az) (1 : Int) from RG.at3 (hK.at_ 5 (e := ((gv ap a0 aq ar au a1 av aw ax a2 ay az), ba, bb)) (by rfl)))
  replace hS := hS.addI (show RI w2 (iv aA a3 aB aC) bD from RG.at1 (hK.at_ 10 (e := ((gv aA a3 aB aC aD a4 aE aF aG a5 aH aI), bc, bd)) (by rfl)))
  replace hS := hS.addI (show RI w2 (iv aD a4 aE aF) bE from RG.at2 (hK.at_ 10 (e := ((gv aA a3 aB aC aD a4 aE aF aG a5 aH aI), bc, bd)) (by rfl)))
  replace hS := hS.addI (show RI w2 (iv aG a5 aH aI) bF from RG.at3 (hK.at_ 10 (e := ((gv aA a3 aB aC aD a4 aE aF aG a5 aH aI), bc, bd)) (by rfl)))
  replace hS := hS.addI (show RI w2 (iv aJ a6 aK aL) bG from RG.at1 (hK.at_ 11 (e := ((gv aJ a6 aK aL aM a7 aN aO aP a8 aQ aR), be, bf)) (by rfl)))
  replace hS := hS.addI (show RI w2 (iv aM a7 aN aO) bH from RG.at2 (hK.at_ 11 (e := ((gv aJ a6 aK aL aM a7 aN aO aP a8 aQ aR), be, bf)) (by rfl)))
  replace hS := hS.addI (show RI w2 (iv aP a8 aQ aR) bI from RG.at3 (hK.at_ 11 (e := ((gv aJ a6 aK aL aM a7 aN aO aP a8 aQ aR), be, bf)) (by rfl)))
  replace hS := hS.addI (show RI w2 (iv bg af bh bi) bP from RG.at1 (hK.at_ 12 (e := ((gv bg af bh bi bj ag bk bl bm ah bn bo), bV, bW)) (by rfl)))
  replace hS := hS.addI (show RI w2 (iv bj ag bk bl) bQ from RG.at2 (hK.at_ 12 (e := ((gv bg af bh bi bj ag bk bl bm ah bn bo), bV, bW)) (by rfl)))
  replace hS := hS.addI (show RI w2 (iv bm ah bn bo) bR from RG.at3 (hK.at_ 12 (e := ((gv bg af bh bi bj ag bk bl bm ah bn bo), bV, bW)) (by rfl)))
  replace hS := hS.addI (show RI w2 (iv aS a9 aT aU) bJ from RG.at1 (hK.at_ 17 (e := ((gv aS a9 aT aU aV aa aW aX aY ab aZ b0), bp, bq)) (by rfl)))
  replace hS := hS.addI (show RI w2 (iv aV aa aW aX) bK from RG.at2 (hK.at_ 17 (e := ((gv aS a9 aT aU aV aa aW aX aY ab aZ b0), bp, bq)) (by rfl)))
  replace hS := hS.addI (show RI w2 (iv aY ab aZ b0) bL from RG.at3 (hK.at_ 17 (e := ((gv aS a9 aT aU aV aa aW aX aY ab aZ b0), bp, bq)) (by rfl)))
  replace hS := hS.addI (show RI w2 (iv b1 ac b2 b3) bM from RG.at1 (hK.at_ 22 (e := ((gv b1 ac b2 b3 b4 ad b5 b6 b7 ae b8 b9), br, bs)) (by rfl)))
  replace hS := hS.addI (show RI w2 (iv b4 ad b5 b6) bN from RG.at2 (hK.at_ 22 (e := ((gv b1 ac b2 b3 b4 ad b5 b6 b7 ae b8 b9), br, bs)) (by rfl)))
  replace hS := hS.addI (show RI w2 (iv b7 ae b8 b9) bO from RG.at3 (hK.at_ 22 (e := ((gv b1 ac b2 b3 b4 ad b5 b6 b7 ae b8 b9), br, bs)) (by rfl)))
  replace hS := hS.addI (show RI w2 (iv bt ai bu bv) bS from RG.at1 (hK.at_ 23 (e := ((gv bt ai bu bv bw aj bx bz bA ak bB bC), bX, bY)) (by rfl)))
  replace hS := hS.addI (show RI w2 (iv bw aj bx bz) bT from RG.at2 (hK.at_ 23 (e := ((gv bt ai bu bv bw aj bx bz bA ak bB bC), bX, bY)) (by rfl)))
  replace hS := hS.addI (show RI w2 (iv bA ak bB bC) bU from RG.at3 (hK.at_ 23 (e := ((gv bt ai bu bv bw aj bx bz bA ak bB bC), bX, bY)) (by rfl)))
  clear hK hlt_ hE_ Y3 Y2
  have k_1 := (hS.blk 0 rfl).cell
  have k_2 := (hS.blk 0 rfl).frozen
  go_wp2
  replace hS := (St.put (W' := ((((((((((((w2.setCell ⟨g4, 0, none⟩ (.bool bg)).setCell ⟨g4, 1, none⟩ (.slice af bh bi)).setCell ⟨g4, 2, none⟩ (.bool bj)).setCell ⟨g4, 3, none⟩ (.slice ag bk bl)).setCell ⟨g4, 4, none⟩ (.bool bm)).setCell ⟨g4, 5, none⟩ (.slice ah bn bo)).setCell ⟨g4, 6, none⟩ (.bool bt)).setCell ⟨g4, 7, none⟩ (.slice ai bu bv)).setCell ⟨g4, 8, none⟩ (.bool bw)).setCell ⟨g4, 9, none⟩ (.slice aj bx bz)).setCell ⟨g4, 10, none⟩ (.bool bA)).setCell ⟨g4, 11, none⟩ (.slice ak bB bC))) hS 0 0 [.bool bg, .slice af bh bi, .bool bj, .slice ag bk bl, .bool bm, .slice ah bn bo, .bool bt, .slice ai bu bv, .bool bw, .slice aj bx bz, .bool bA, .slice ak bB bC] (cs' := #[.bool bg, .slice af bh bi, .bool bj, .slice ag bk bl, .bool bm, .slice ah bn bo, .bool bt, .slice ai bu bv, .bool bw, .slice aj bx bz, .bool bA, .slice ak bB bC]) (bs' := _) rfl o4 rfl rfl (by kernel_rfl) rfl)
  exact bp_phasor1 rfl rfl rfl (hS.blk 0 rfl) ⟨_, rfl, ⟨_, _, _, _, _, _, RP.mk (hS.num 11 rfl) (hS.num 10 rfl) (hS.num 9 rfl) (hS.num 2 rfl) (hS.num 1 rfl) (hS.num 0 rfl), dT, (S17.mono (by omega)), dZ, (S28.mono (by omega))⟩, hS.ext⟩

end Go.Proofs.YtjeijmnhbckjdaaGreatDoor

/- The size of numbers. -/
namespace Go.Proofs.YtjeijmnhbckjdaaGreatDoor
open Go.RowKit
set_option linter.unusedVariables false

theorem GV.at_ {w : World} {v : Value} {q : GQ} {n : Nat} {a b d : Int} (h : GV w v q n) (I : Is q a b d) : RG w v a b d := by
  obtain ⟨a1, b1, d1, h1, h2, _⟩ := h
  obtain ⟨rfl, rfl, rfl⟩ := h2.unique I
  exact h1
theorem PV.at_ {w : World} {v : Value} {p : PQ} {n : Nat} {a b d x y z : Int} (h : PV w v p n) (I : Is p.u a b d) (J : Is p.v x y z) : RP w v a b d x y z := by
  obtain ⟨a1, b1, d1, x1, y1, z1, h1, h2, _, h3, _⟩ := h
  obtain ⟨rfl, rfl, rfl⟩ := h2.unique I
  obtain ⟨rfl, rfl, rfl⟩ := h3.unique J
  exact h1
/-- The number's parts have at most n bits. -/
def Bd (q : GQ) (n : Nat) : Prop := ∃ a b d : Int, Is q a b d ∧ Sz n a b d
theorem Bd.sz {q : GQ} {n : Nat} {a b d : Int} (h : Bd q n) (I : Is q a b d) : Sz n a b d := by
  obtain ⟨a1, b1, d1, h1, h2⟩ := h
  obtain ⟨rfl, rfl, rfl⟩ := h1.unique I
  exact h2
theorem Bd.mono {q : GQ} {m n : Nat} (h : Bd q m) (hmn : m ≤ n) : Bd q n := by
  obtain ⟨a, b, d, h1, h2⟩ := h
  exact ⟨a, b, d, h1, h2.mono hmn⟩
theorem Bd.add {x y : GQ} {m n : Nat} (hx : Bd x m) (hy : Bd y n) : Bd (x + y) (m + n + 1) := by
  obtain ⟨a, b, d, h1, h2⟩ := hx
  obtain ⟨a', b', d', h3, h4⟩ := hy
  obtain ⟨u, v, t, h5⟩ := is_ex (x + y)
  exact ⟨u, v, t, h5, h1.size_add h2 h3 h4 h5⟩
theorem Bd.sub {x y : GQ} {m n : Nat} (hx : Bd x m) (hy : Bd y n) : Bd (x - y) (m + n + 1) := by
  obtain ⟨a, b, d, h1, h2⟩ := hx
  obtain ⟨a', b', d', h3, h4⟩ := hy
  obtain ⟨u, v, t, h5⟩ := is_ex (x - y)
  exact ⟨u, v, t, h5, h1.size_sub h2 h3 h4 h5⟩
theorem Bd.mul {x y : GQ} {m n : Nat} (hx : Bd x m) (hy : Bd y n) : Bd (x * y) (m + n + 1) := by
  obtain ⟨a, b, d, h1, h2⟩ := hx
  obtain ⟨a', b', d', h3, h4⟩ := hy
  obtain ⟨u, v, t, h5⟩ := is_ex (x * y)
  exact ⟨u, v, t, h5, h1.size_mul h2 h3 h4 h5⟩
theorem Bd.i {a b : Int} (l1 : -9223372036854775808 ≤ a) (u1 : a ≤ 9223372036854775807) (l2 : -9223372036854775808 ≤ b) (u2 : b ≤ 9223372036854775807) : Bd (GQ.i a b) 64 := ⟨_, _, _, is_i a b, sz_i l1 u1 l2 u2⟩
theorem Bd.three : Bd (GQ.i 3 0) 2 := ⟨_, _, _, is_i 3 0, ⟨by decide, by decide, by decide⟩⟩
theorem Bd.of {q : GQ} {a b d : Int} {n : Nat} (hd : d ≠ 0) (hr : q.re = (a : Rat) / (d : Rat)) (hi : q.im = (b : Rat) / (d : Rat)) (s : Sz n a b d) : Bd q n := by
  obtain ⟨u, v, t, h⟩ := is_ex q
  exact ⟨u, v, t, h, h.size hd hr hi s⟩
theorem Bd.produ {p q : PQ} {m n : Nat} (h1 : Bd p.u m) (h2 : Bd p.v m) (h3 : Bd q.u n) (h4 : Bd q.v n) : Bd (p * q).u (2 * (m + n) + 69) := ((h1.mul h3).add (Bd.three.mul (h2.mul h4))).mono (by omega)
theorem Bd.prodv {p q : PQ} {m n : Nat} (h1 : Bd p.u m) (h2 : Bd p.v m) (h3 : Bd q.u n) (h4 : Bd q.v n) : Bd (p * q).v (2 * (m + n) + 69) := ((h1.mul h4).add (h2.mul h3)).mono (by omega)
theorem rat_half (a : Int) : (a : Rat) / ((2 : Int) : Rat) = (a : Rat) / 2 := by simp
theorem Bd.mk2 {q : GQ} {a b : Int} (hr : q.re = (a : Rat) / 2) (hi : q.im = (b : Rat) / 2) (ha : a.natAbs ≤ 3) (hb : b.natAbs ≤ 3) : Bd q 2 :=
  Bd.of (a := a) (b := b) (d := 2) (by omega) (by rw [hr, rat_half]) (by rw [hi, rat_half]) ⟨by omega, by omega, by decide⟩
/-- The powers of z are small. -/
theorem Bd.zp {k : Nat} (hk : k < 12) : Bd (PQ.zp k).u 2 ∧ Bd (PQ.zp k).v 2 := by
  have key : ∀ a b c d : Int, a.natAbs ≤ 3 → b.natAbs ≤ 3 → c.natAbs ≤ 3 → d.natAbs ≤ 3 → PQ.zp k = PQ.mk4 ((a : Rat) / 2) ((b : Rat) / 2) ((c : Rat) / 2) ((d : Rat) / 2) → Bd (PQ.zp k).u 2 ∧ Bd (PQ.zp k).v 2 := by
    intro a b c d ha hb hc hd e
    rw [e]
    exact ⟨Bd.mk2 rfl rfl ha hb, Bd.mk2 rfl rfl hc hd⟩
  have go : ∀ {a b c d : Rat} {a' b' c' d' : Int}, a = (a' : Rat) / 2 → b = (b' : Rat) / 2 → c = (c' : Rat) / 2 → d = (d' : Rat) / 2 → PQ.mk4 a b c d = PQ.mk4 ((a' : Rat) / 2) ((b' : Rat) / 2) ((c' : Rat) / 2) ((d' : Rat) / 2) := by
    intro a b c d a' b' c' d' h1 h2 h3 h4
    rw [h1, h2, h3, h4]
  match k, hk with
  | 0, _ => exact key 2 0 0 0 (by decide) (by decide) (by decide) (by decide) (PQ.zp0.trans (go (by grind) (by grind) (by grind) (by grind)))
  | 1, _ => exact key 0 1 1 0 (by decide) (by decide) (by decide) (by decide) (PQ.zp1.trans (go (by grind) (by grind) (by grind) (by grind)))
  | 2, _ => exact key 1 0 0 1 (by decide) (by decide) (by decide) (by decide) (PQ.zp2.trans (go (by grind) (by grind) (by grind) (by grind)))
  | 3, _ => exact key 0 2 0 0 (by decide) (by decide) (by decide) (by decide) (PQ.zp3.trans (go (by grind) (by grind) (by grind) (by grind)))
  | 4, _ => exact key (-1) 0 0 1 (by decide) (by decide) (by decide) (by decide) (PQ.zp4.trans (go (by grind) (by grind) (by grind) (by grind)))
  | 5, _ => exact key 0 1 (-1) 0 (by decide) (by decide) (by decide) (by decide) (PQ.zp5.trans (go (by grind) (by grind) (by grind) (by grind)))
  | 6, _ => exact key (-2) 0 0 0 (by decide) (by decide) (by decide) (by decide) (PQ.zp6.trans (go (by grind) (by grind) (by grind) (by grind)))
  | 7, _ => exact key 0 (-1) (-1) 0 (by decide) (by decide) (by decide) (by decide) (PQ.zp7.trans (go (by grind) (by grind) (by grind) (by grind)))
  | 8, _ => exact key (-1) 0 0 (-1) (by decide) (by decide) (by decide) (by decide) (PQ.zp8.trans (go (by grind) (by grind) (by grind) (by grind)))
  | 9, _ => exact key 0 (-2) 0 0 (by decide) (by decide) (by decide) (by decide) (PQ.zp9.trans (go (by grind) (by grind) (by grind) (by grind)))
  | 10, _ => exact key 1 0 0 (-1) (by decide) (by decide) (by decide) (by decide) (PQ.zp10.trans (go (by grind) (by grind) (by grind) (by grind)))
  | 11, _ => exact key 0 (-1) 1 0 (by decide) (by decide) (by decide) (by decide) (PQ.zp11.trans (go (by grind) (by grind) (by grind) (by grind)))
end Go.Proofs.YtjeijmnhbckjdaaGreatDoor

/- Contracts of the calculator: turning by powers of i. -/
namespace Go.Proofs.YtjeijmnhbckjdaaGreatDoor
open Go.RowKit
set_option linter.unusedVariables false

/-- Powers of i. -/
def GQ.ip : Nat → GQ
  | 0 => GQ.i 1 0
  | n + 1 => GQ.ip n * GQ.i 0 1
theorem GQ.mul_i1 (q : GQ) : q * GQ.i 1 0 = q := by
  ext <;> simp only [GQ.mul_re, GQ.mul_im, GQ.i_re, GQ.i_im] <;> grind
theorem Is.turn {q : GQ} {a b d : Int} {k : Nat} (h : Is (q * GQ.ip k) a b d) : Is (q * GQ.ip (k + 1)) (-b) a d := by
  have e : q * GQ.ip (k + 1) = (q * GQ.ip k) * GQ.i 0 1 := (GQ.mul_assoc' q (GQ.ip k) (GQ.i 0 1)).symm
  rw [e]
  have hd := cast_ne h.dne
  refine ⟨⟨h.low.1, ?_⟩, ?_, ?_⟩
  · have := h.low.2
    unfold g3 at *
    rw [Int.natAbs_neg, Nat.gcd_assoc, Nat.gcd_comm b.natAbs, ← Nat.gcd_assoc]
    exact this
  · rw [GQ.mul_re, h.re, h.im]; simp only [GQ.i_re, GQ.i_im, Rat.intCast_neg]; grind
  · rw [GQ.mul_im, h.re, h.im]; simp only [GQ.i_re, GQ.i_im]; grind
theorem Sz.turn {n : Nat} {a b d : Int} (h : Sz n a b d) : Sz n (-b) a d := ⟨by rw [Int.natAbs_neg]; exact h.b, h.a, h.d⟩

set_option maxRecDepth 100000 in
set_option maxHeartbeats 3200000 in
theorem erotate_w (gc : Nat) (v1 : Value) (q1 : GQ) (n1 : Nat) (K : Nat) (w : World) (hc : Calm w gc) (hX1 : GV w v1 q1 n1)
     (hn : n1 ≤ 12800) (hK : K ≤ 100) :
    Calls Tryz.prog 64 #[.pointer (some ⟨gc, 0, none⟩), v1, .int .i64 ((K : Int))] w fun e w' => ∃ v, e = .returned v ∧ GV w' v (q1 * GQ.ip K) (n1) ∧ Ext w w' := by
  have hS := St.start w
  obtain ⟨aD, aE, az, hX1, I1, S1⟩ := hX1
  obtain ⟨ak, am, an, ao, ap, aq, ar, au, av, aw, ax, ay, rfl, aF, aG, aH⟩ := hX1
  replace hS := hS.addI aF
  clear aF
  replace hS := hS.addI aG
  clear aG
  replace hS := hS.addI aH
  clear aH
  replace hS := hS.addB hc trivial
  clear hc
  have o4 : Own w w.heap.size := Own.of hS.ext (by simp)
  have o6 : Own w (w.heap.size + 1) := Own.of hS.ext (by simp)
  go_enter Tryz.func64, Tryz.ntmps64
  go_wp2_with fail
  replace hS := (St.al (St.al hS 26 #[.bool ak, .slice am an ao, .bool ap, .slice aq ar au, .bool av, .slice aw ax ay] (g := w.heap.size) (by simp)) 26 #[.bool false, .slice none 0 0, .bool false, .slice none 0 0, .bool false, .slice none 0 0] (g := (w.heap.size + 1)) (by simp))
  generalize ((w.alloc (.cells #[.bool ak, .slice am an ao, .bool ap, .slice aq ar au, .bool av, .slice aw ax ay] 26)).alloc (.cells #[.bool false, .slice none 0 0, .bool false, .slice none 0 0, .bool false, .slice none 0 0] 26)) = w1 at hS ⊢
  generalize w.heap.size + 1 = g6 at hS o6 ⊢
  generalize w.heap.size = g4 at hS o4 ⊢
  have Y4 := ExtOf.blk (hS.blk 1 rfl)
  have hE_ := hS.ext
  refine wp_region_tame 8 (hasF [(2, .any), (5, .any), (6, .any), (7, .any)]) (Fcs [(2, .ri (aD)), (5, .ri (aE)), (6, .box 24 #[.bool false, .slice none 0 0]), (7, .box 24 #[.bool false, .slice none 0 0])]) (Fcs_stab _) (by kernel_rfl) (by kernel_rfl) ?_
  simp only [tk1, tk0, dp1, dp0]
  refine wpT_quiet 2 (by rfl) (by kernel_rfl) ?_
  simp only [tk1, tk0, dp1, dp0]
  repeat (go_big_quiet_step (fail))
  refine wpQuiet_nil ?_
  refine wpT_eff (by rfl) (by rfl) (by rfl) ?_ ?_
  · intro W_ hK
    have hW := hK.1
    clear hK
    go_simp
    exact ⟨rfl, (eclone_any _ aD _ (RI.ext (hS.num 2 rfl) hW) (lim_of S1.a (by omega))).mono fun e w' ⟨v, he, hR, hx⟩ => ⟨v, he, hx, hR⟩⟩
  intro v_ aI aJ hr_
  obtain ⟨W_, hW_⟩ := hr_
  have hv_ : Fc.holds (.ri (aD)) aI aJ v_ W_ := hW_.get
  clear hW_
  obtain ⟨ac, a1, ad, ae, rfl, -⟩ := RI.opn hv_
  clear hv_
  clear W_
  try simp only [Act.put, sa0, sa1, sa2]
  refine wpT_quiet 2 (by rfl) (by kernel_rfl) ?_
  simp only [tk1, tk0, dp1, dp0]
  repeat (go_big_quiet_step (fail))
  refine wpQuiet_nil ?_
  refine wpT_eff (by rfl) (by rfl) (by rfl) ?_ ?_
  · intro W_ hK
    have hW := hK.1
    clear hK
    go_simp
    exact ⟨rfl, (eclone_any _ aE _ (RI.ext (hS.num 1 rfl) hW) (lim_of S1.b (by omega))).mono fun e w' ⟨v, he, hR, hx⟩ => ⟨v, he, hx, hR⟩⟩
  intro v_ aK aL hr_
  obtain ⟨W_, hW_⟩ := hr_
  have hv_ : Fc.holds (.ri (aE)) aK aL v_ W_ := hW_.get
  clear hW_
  obtain ⟨aA, a8, aB, aC, rfl, -⟩ := RI.opn hv_
  clear hv_
  clear W_
  try simp only [Act.put, sa0, sa1, sa2]
  refine wpT_eff (by rfl) (by rfl) (by rfl) ?_ ?_
  · intro W_ hK
    go_simp
    exact ⟨Ext.new _ _, rfl, by simp, Blk.new _ _ _⟩
  intro v_ g7 aW hr_
  obtain ⟨W_, hW_⟩ := hr_
  obtain ⟨rfl, aX, -⟩ : Fc.holds (.box 24 #[.bool false, .slice none 0 0]) g7 aW v_ W_ := hW_.get
  clear hW_ W_
  try simp only [Act.put, sa0, sa1, sa2]
  refine wpT_eff (by rfl) (by rfl) (by rfl) ?_ ?_
  · intro W_ hK
    go_simp
    exact ⟨Ext.new _ _, rfl, by simp, Blk.new _ _ _⟩
  intro v_ g8 aY hr_
  obtain ⟨W_, hW_⟩ := hr_
  obtain ⟨rfl, aZ, -⟩ : Fc.holds (.box 24 #[.bool false, .slice none 0 0]) g8 aY v_ W_ := hW_.get
  clear hW_ W_
  try simp only [Act.put, sa0, sa1, sa2]
  refine wpT_nil ?_
  intro w2 hK
  have hlt_ := hS.lt
  replace hS := hS.mv hK.ext
  replace hS := hS.addI (show RI w2 (iv ac a1 ad ae) aD from hK.at_ 2 (e := ((iv ac a1 ad ae), aI, aJ)) (by rfl))
  replace hS := hS.addI (show RI w2 (iv aA a8 aB aC) aE from hK.at_ 5 (e := ((iv aA a8 aB aC), aK, aL)) (by rfl))
  have aT : w1.heap.size ≤ g7 := hK.low 6 _ (by rfl)
  have o7 : Own w g7 := Own.of hE_ aT
  replace hS := hS.addB (show Blk w2 g7 24 #[.bool false, .slice none 0 0] from (hK.at_ 6 (by rfl)).2.2) (apart_of fun p hp => Nat.ne_of_lt (Nat.lt_of_lt_of_le (hlt_ p hp) aT))
  have aU : w1.heap.size ≤ g8 := hK.low 7 _ (by rfl)
  have o8 : Own w g8 := Own.of hE_ aU
  replace hS := hS.addB (show Blk w2 g8 24 #[.bool false, .slice none 0 0] from (hK.at_ 7 (by rfl)).2.2) ⟨tame_ne aX aZ (hK.disj 6 7 _ _ (by omega) (by rfl) (by rfl)), (apart_of fun p hp => Nat.ne_of_lt (Nat.lt_of_lt_of_le (hlt_ p hp) aU))⟩
  clear hK hlt_ hE_ Y4
  clear aT aX aW
  clear aU aZ aY
  have k_1 := (hS.blk 1 rfl).cell
  have k_2 := (hS.blk 1 rfl).frozen
  have aV := (St.put (W' := ((w2.setCell ⟨g7, 0, none⟩ (.bool ac)).setCell ⟨g7, 1, none⟩ (.slice a1 ad ae))) hS 1 0 [.bool ac, .slice a1 ad ae] (cs' := #[.bool ac, .slice a1 ad ae]) (bs' := _) rfl o7 rfl rfl (by kernel_rfl) rfl)
  have k_3 := (aV.blk 0 rfl).cell
  have k_4 := (aV.blk 0 rfl).frozen
  go_wp2_with fail
  clear k_1 k_2 k_3 k_4
  clear aV
  replace hS := (St.put (W' := ((((w2.setCell ⟨g7, 0, none⟩ (.bool ac)).setCell ⟨g7, 1, none⟩ (.slice a1 ad ae)).setCell ⟨g8, 0, none⟩ (.bool aA)).setCell ⟨g8, 1, none⟩ (.slice a8 aB aC))) (St.put (W' := ((w2.setCell ⟨g7, 0, none⟩ (.bool ac)).setCell ⟨g7, 1, none⟩ (.slice a1 ad ae))) hS 1 0 [.bool ac, .slice a1 ad ae] (cs' := #[.bool ac, .slice a1 ad ae]) (bs' := _) rfl o7 rfl rfl (by kernel_rfl) rfl) 0 0 [.bool aA, .slice a8 aB aC] (cs' := #[.bool aA, .slice a8 aB aC]) (bs' := _) rfl o8 rfl rfl (by kernel_rfl) rfl)
  simp only [List.set_cons_zero, List.set_cons_succ] at hS
  generalize ((((w2.setCell ⟨g7, 0, none⟩ (.bool ac)).setCell ⟨g7, 1, none⟩ (.slice a1 ad ae)).setCell ⟨g8, 0, none⟩ (.bool aA)).setCell ⟨g8, 1, none⟩ (.slice a8 aB aC)) = w3 at hS ⊢
  go_loopw [16] (fun i wr => ∃ k : Nat, k ≤ K ∧ i = .int .i64 (k : Int) ∧ ∃ (af a2 : Int) (a3 a9 : Bool) (a0 a7 : Option Addr) (a4 a5 aa ab : Nat), (Is (q1 * GQ.ip k) af a2 az ∧ Sz n1 af a2 az) ∧ St w wr [(g8, 24, #[.bool a9, .slice a7 aa ab]), (g7, 24, #[.bool a3, .slice a0 a4 a5]), (g6, 26, #[.bool false, .slice none 0 0, .bool false, .slice none 0 0, .bool false, .slice none 0 0]), (g4, 26, #[.bool ak, .slice am an ao, .bool ap, .slice aq ar au, .bool av, .slice aw ax ay]), (gc, 66, #[.int .i64 0])] [nz (iv a3 a0 a4 a5) (af), nz (iv a9 a7 aa ab) (a2), nz (iv ak am an ao) (aD), nz (iv ap aq ar au) (aE), nz (iv av aw ax ay) (az)]) (fun i _ => K - (intOf i).toNat)
  case atStart => exact ⟨0, by omega, rfl, aD, aE, ac, aA, a1, a8, ad, ae, aB, aC, ⟨by rw [show GQ.ip 0 = GQ.i 1 0 from rfl, GQ.mul_i1]; exact I1, S1⟩, hS.sel [1, 0, 4, 3, 2] rfl⟩
  case round =>
    clear hS
    obtain ⟨k, hk, rfl, af, a2, a3, a9, a0, a7, a4, a5, aa, ab, hpure, hS⟩ := hrel
    by_cases hkL : k < K
    · skip
      go_wp2_with fail
      have Y8 := ExtOf.blk (hS.blk 0 rfl)
      have Y7 := ExtOf.blk (hS.blk 1 rfl)
      have hE_ := hS.ext
      refine wp_region_tame 4 (hasF [(2, .any)]) (Fcs [(2, .ri ((-a2)))]) (Fcs_stab _) (by kernel_rfl) (by kernel_rfl) ?_
      simp only [tk1, tk0, dp1, dp0]
      refine wpT_quiet 2 (by rfl) (by kernel_rfl) ?_
      simp only [tk1, tk0, dp1, dp0]
      repeat (go_big_quiet_step (fail))
      refine wpQuiet_nil ?_
      refine wpT_eff (by rfl) (by rfl) (by rfl) ?_ ?_
      · intro W_ hK
        have hW := hK.1
        clear hK
        go_simp
        exact ⟨rfl, (eneg_ok gc _ a2 (-a2) _ (Blk.ext (hS.blk 4 rfl) hW) (RI.ext (hS.num 1 rfl) hW) (lim_of hpure.2.b (by omega)) rfl).mono fun e w' ⟨v, he, hR, hx⟩ => ⟨v, he, hx, hR⟩⟩
      intro v_ aM aN hr_
      obtain ⟨W_, hW_⟩ := hr_
      have hv_ : Fc.holds (.ri ((-a2))) aM aN v_ W_ := hW_.get
      clear hW_
      obtain ⟨ah, a6, ai, aj, rfl, -⟩ := RI.opn hv_
      clear hv_
      clear W_
      try simp only [Act.put, sa0, sa1, sa2]
      refine wpT_quiet 1 (by rfl) (by kernel_rfl) ?_
      simp only [tk1, tk0, dp1, dp0]
      repeat (go_big_quiet_step (fail))
      refine wpQuiet_nil ?_
      refine wpT_nil ?_
      intro w4 hK
      have hlt_ := hS.lt
      replace hS := hS.mv hK.ext
      replace hS := hS.addI (show RI w4 (iv ah a6 ai aj) (-a2) from hK.at_ 2 (e := ((iv ah a6 ai aj), aM, aN)) (by rfl))
      clear hK hlt_ hE_ Y8 Y7
      have k_5 := (hS.blk 1 rfl).cell
      have k_6 := (hS.blk 1 rfl).frozen
      have b0 := (St.put (W' := ((w4.setCell ⟨g7, 0, none⟩ (.bool ah)).setCell ⟨g7, 1, none⟩ (.slice a6 ai aj))) hS 1 0 [.bool ah, .slice a6 ai aj] (cs' := #[.bool ah, .slice a6 ai aj]) (bs' := _) rfl o7 rfl rfl (by kernel_rfl) rfl)
      have k_7 := (b0.blk 0 rfl).cell
      have k_8 := (b0.blk 0 rfl).frozen
      go_wp2
      replace hS := (St.put (W' := ((((w4.setCell ⟨g7, 0, none⟩ (.bool ah)).setCell ⟨g7, 1, none⟩ (.slice a6 ai aj)).setCell ⟨g8, 0, none⟩ (.bool a3)).setCell ⟨g8, 1, none⟩ (.slice a0 a4 a5))) (St.put (W' := ((w4.setCell ⟨g7, 0, none⟩ (.bool ah)).setCell ⟨g7, 1, none⟩ (.slice a6 ai aj))) hS 1 0 [.bool ah, .slice a6 ai aj] (cs' := #[.bool ah, .slice a6 ai aj]) (bs' := _) rfl o7 rfl rfl (by kernel_rfl) rfl) 0 0 [.bool a3, .slice a0 a4 a5] (cs' := #[.bool a3, .slice a0 a4 a5]) (bs' := _) rfl o8 rfl rfl (by kernel_rfl) rfl)
      go_roundw
      case rel => exact ⟨k + 1, by omega, by go_num, (-a2), af, ah, a3, a6, a0, ai, aj, a4, a5, ⟨hpure.1.turn, hpure.2.turn⟩, St.sel hS [0, 1, 3, 4, 5] rfl⟩
      case measure => simp [intOf] <;> omega
    · obtain rfl : k = K := by omega
      go_wp2_with fail
      have Y8 := ExtOf.blk (hS.blk 0 rfl)
      have Y7 := ExtOf.blk (hS.blk 1 rfl)
      have Y4 := ExtOf.blk (hS.blk 3 rfl)
      have hE_ := hS.ext
      refine wp_region_tame 6 (hasF [(4, .any)]) (Fcs [(4, .ri (az))]) (Fcs_stab _) (by kernel_rfl) (by kernel_rfl) ?_
      simp only [tk1, tk0, dp1, dp0]
      refine wpT_quiet 4 (by rfl) (by kernel_rfl) ?_
      simp only [tk1, tk0, dp1, dp0]
      repeat (go_big_quiet_step (fail))
      refine wpQuiet_nil ?_
      refine wpT_eff (by rfl) (by rfl) (by rfl) ?_ ?_
      · intro W_ hK
        have hW := hK.1
        clear hK
        go_simp
        exact ⟨rfl, (eclone_any _ az _ (RI.ext (hS.num 4 rfl) hW) (lim_of S1.d (by omega))).mono fun e w' ⟨v, he, hR, hx⟩ => ⟨v, he, hx, hR⟩⟩
      intro v_ aO aP hr_
      obtain ⟨W_, hW_⟩ := hr_
      have hv_ : Fc.holds (.ri (az)) aO aP v_ W_ := hW_.get
      clear hW_
      obtain ⟨aQ, ag, aR, aS, rfl, -⟩ := RI.opn hv_
      clear hv_
      clear W_
      try simp only [Act.put, sa0, sa1, sa2]
      refine wpT_quiet 1 (by rfl) (by kernel_rfl) ?_
      simp only [tk1, tk0, dp1, dp0]
      repeat (go_big_quiet_step (fail))
      refine wpQuiet_nil ?_
      refine wpT_nil ?_
      intro w5 hK
      have hlt_ := hS.lt
      replace hS := hS.mv hK.ext
      replace hS := hS.addI (show RI w5 (iv aQ ag aR aS) az from hK.at_ 4 (e := ((iv aQ ag aR aS), aO, aP)) (by rfl))
      clear hK hlt_ hE_ Y8 Y7 Y4
      have k_9 := (hS.blk 2 rfl).cell
      have k_10 := (hS.blk 2 rfl).frozen
      go_wp2
      replace hS := (St.put (W' := ((((((w5.setCell ⟨g6, 0, none⟩ (.bool a3)).setCell ⟨g6, 1, none⟩ (.slice a0 a4 a5)).setCell ⟨g6, 2, none⟩ (.bool a9)).setCell ⟨g6, 3, none⟩ (.slice a7 aa ab)).setCell ⟨g6, 4, none⟩ (.bool aQ)).setCell ⟨g6, 5, none⟩ (.slice ag aR aS))) hS 2 0 [.bool a3, .slice a0 a4 a5, .bool a9, .slice a7 aa ab, .bool aQ, .slice ag aR aS] (cs' := #[.bool a3, .slice a0 a4 a5, .bool a9, .slice a7 aa ab, .bool aQ, .slice ag aR aS]) (bs' := _) rfl o6 rfl rfl (by kernel_rfl) rfl)
      exact bp_gauss1 rfl rfl rfl (hS.blk 2 rfl) ⟨_, rfl, ⟨_, _, _, RG.mk (hS.num 1 rfl) (hS.num 2 rfl) (hS.num 0 rfl), hpure.1, hpure.2⟩, hS.ext⟩

theorem erotate_ok (gc : Nat) (v1 : Value) (q1 : GQ) (n1 K : Nat) (w : World) (hc : Calm w gc) (hX1 : GV w v1 q1 n1) (hn : n1 ≤ 12800) (hK : K ≤ 100) :
    Calls Tryz.prog 64 #[.pointer (some ⟨gc, 0, none⟩), v1, .int .i64 (K : Int)] w fun e w' => ∃ v, e = .returned v ∧ GV w' v (q1 * GQ.ip K) n1 ∧ Ext w w' := erotate_w gc v1 q1 n1 K w hc hX1 hn hK
end Go.Proofs.YtjeijmnhbckjdaaGreatDoor

/- The specification of numbers: powers of z. -/
namespace Go.Proofs.YtjeijmnhbckjdaaGreatDoor
open Go.RowKit
set_option linter.unusedVariables false

theorem toRP {f : FuncId} {args : Array Value} {w : World} {p : PQ} {n : Nat} {a b d x y z : Int} (h : Calls Tryz.prog f args w fun e w' => ∃ v, e = .returned v ∧ PV w' v p n ∧ Ext w w') (I : Is p.u a b d) (J : Is p.v x y z) :
    Calls Tryz.prog f args w fun e w' => ∃ v, e = .returned v ∧ RP w' v a b d x y z ∧ Ext w w' := h.mono fun e w' ⟨v, he, hR, hx⟩ => ⟨v, he, hR.at_ I J, hx⟩
theorem toRG {f : FuncId} {args : Array Value} {w : World} {q : GQ} {n : Nat} {a b d : Int} (h : Calls Tryz.prog f args w fun e w' => ∃ v, e = .returned v ∧ GV w' v q n ∧ Ext w w') (I : Is q a b d) :
    Calls Tryz.prog f args w fun e w' => ∃ v, e = .returned v ∧ RG w' v a b d ∧ Ext w w' := h.mono fun e w' ⟨v, he, hR, hx⟩ => ⟨v, he, hR.at_ I, hx⟩
theorem toTP {f : FuncId} {args : Array Value} {w : World} {p : PQ} {n : Nat} {a b d x y z e0 : Int} (h : Calls Tryz.prog f args w fun e w' => ∃ v, e = .returned v ∧ (∃ u, v = .tuple #[u, .int .i64 e0] ∧ PV w' u p n) ∧ Ext w w') (I : Is p.u a b d) (J : Is p.v x y z) :
    Calls Tryz.prog f args w fun e w' => ∃ v, e = .returned v ∧ (∃ u, v = .tuple #[u, .int .i64 e0] ∧ RP w' u a b d x y z) ∧ Ext w w' := h.mono fun e w' ⟨v, he, ⟨u, hu, hR⟩, hx⟩ => ⟨v, he, ⟨u, hu, hR.at_ I J⟩, hx⟩
theorem toTG {f : FuncId} {args : Array Value} {w : World} {q : GQ} {n : Nat} {a b d e0 : Int} (h : Calls Tryz.prog f args w fun e w' => ∃ v, e = .returned v ∧ (∃ u, v = .tuple #[u, .int .i64 e0] ∧ GV w' u q n) ∧ Ext w w') (I : Is q a b d) :
    Calls Tryz.prog f args w fun e w' => ∃ v, e = .returned v ∧ (∃ u, v = .tuple #[u, .int .i64 e0] ∧ RG w' u a b d) ∧ Ext w w' := h.mono fun e w' ⟨v, he, ⟨u, hu, hR⟩, hx⟩ => ⟨v, he, ⟨u, hu, hR.at_ I⟩, hx⟩
theorem mod12 {m : Int} {K : Nat} (h : m % 12 = (K : Int)) : (m.tmod 12 + 12).tmod 12 = (K : Int) := by
  have h1 : -12 < m.tmod 12 ∧ m.tmod 12 < 12 := ⟨by have := Int.lt_tmod_of_pos m (b := 12) (by omega); omega, Int.tmod_lt_of_pos m (by omega)⟩
  have h2 : m.tmod 12 % 12 = m % 12 := by
    have := Int.mul_tdiv_add_tmod m 12
    omega
  rw [Int.tmod_eq_emod_of_nonneg (by omega)]
  omega
theorem mod12w {m : Int} {K : Nat} (h : m % 12 = (K : Int)) : (wrap64 (m.tmod 12 + 12)).tmod 12 = (K : Int) := by
  have h1 : -12 < m.tmod 12 ∧ m.tmod 12 < 12 := ⟨by have := Int.lt_tmod_of_pos m (b := 12) (by omega); omega, Int.tmod_lt_of_pos m (by omega)⟩
  have e : wrap64 (m.tmod 12 + 12) = m.tmod 12 + 12 := by
    generalize m.tmod 12 = t at *
    first | (unfold wrap64; omega) | go_num | (simp [wrap64]; omega)
  rw [e]
  exact mod12 h
theorem nf_half : ((1 : Int), (0 : Int), (2 : Int)) = nf 1 0 2 := by decide
theorem is_half : Is PQ.half 1 0 2 := by
  have := is_nf (a := 1) (b := 0) (d := 2) (by omega)
  rw [← nf_half] at this
  refine ⟨this.low, ?_, ?_⟩
  · show (1 / 2 : Rat) = ((1 : Int) : Rat) / ((2 : Int) : Rat); grind
  · show (0 : Rat) = ((0 : Int) : Rat) / ((2 : Int) : Rat); grind
theorem sz_half : Sz 2 1 0 2 := ⟨by decide, by decide, by decide⟩
set_option maxRecDepth 100000 in
set_option maxHeartbeats 6400000 in
theorem qRoot_w (m0 : Int) (K : Nat) (w : World) (l0 : -9223372036854775808 ≤ m0) (u0 : m0 ≤ 9223372036854775807)
     (HK : Hid (m0 % 12 = (K : Int))) (hK : K < 12) :
    Calls Tryz.prog 67 #[.int .i64 m0] w fun e w' => ∃ v, e = .returned v ∧ PV w' v (PQ.zp K) (2) ∧ Ext w w' := by
  have hS := St.start w
  have e12 := mod12w HK.out
  have o2 : Own w w.heap.size := Own.of hS.ext (by simp)
  go_enter Tryz.func67, Tryz.ntmps67
  go_wp2_with fail
  replace hS := (St.al hS 37 #[.bool false, .slice none 0 0, .bool false, .slice none 0 0, .bool false, .slice none 0 0, .bool false, .slice none 0 0, .bool false, .slice none 0 0, .bool false, .slice none 0 0] (g := w.heap.size) (by simp))
  generalize (w.alloc (.cells #[.bool false, .slice none 0 0, .bool false, .slice none 0 0, .bool false, .slice none 0 0, .bool false, .slice none 0 0, .bool false, .slice none 0 0, .bool false, .slice none 0 0] 37)) = w1 at hS ⊢
  generalize w.heap.size = g2 at hS o2 ⊢
  refine (qOf_ok (1) _ (by omega) (by omega)).mono ?_
  rintro e w2 ⟨v_, rfl, hv_, hx_⟩
  replace hS := hS.mv hx_
  clear hx_
  obtain ⟨s11, A_11, n11, c11, rfl, c3⟩ := RI.opn hv_
  clear hv_
  replace hS := hS.addI c3
  clear c3
  go_wp2_with fail
  refine (qOf_ok (0) _ (by omega) (by omega)).mono ?_
  rintro e w3 ⟨v_, rfl, hv_, hx_⟩
  replace hS := hS.mv hx_
  clear hx_
  obtain ⟨s12, A_12, n12, c12, rfl, c4⟩ := RI.opn hv_
  clear hv_
  replace hS := hS.addI c4
  clear c4
  go_wp2_with fail
  refine (qOf_ok (2) _ (by omega) (by omega)).mono ?_
  rintro e w4 ⟨v_, rfl, hv_, hx_⟩
  replace hS := hS.mv hx_
  clear hx_
  obtain ⟨s13, A_13, n13, c13, rfl, c5⟩ := RI.opn hv_
  clear hv_
  replace hS := hS.addI c5
  clear c5
  go_wp2_with fail
  refine (qMake_ok _ _ _ (1 : Int) (0 : Int) (2 : Int) (1 : Int) (0 : Int) (2 : Int) _ (hS.num 2 rfl) (hS.num 1 rfl) (hS.num 0 rfl) (lt_lim64 (by omega) (by omega)) (lt_lim64 (by omega) (by omega)) (lt_lim64 (by omega) (by omega)) (by omega) nf_half).mono ?_
  rintro e w5 ⟨v_, rfl, hv_, hx_⟩
  replace hS := hS.mv hx_
  clear hx_
  obtain ⟨ap, a3, aq, ar, au, a4, av, aw, ax, a5, ay, az, rfl, b9, ba, bb⟩ := hv_
  replace hS := hS.addI b9
  clear b9
  replace hS := hS.addI ba
  clear ba
  replace hS := hS.addI bb
  clear bb
  have o3 : Own w w5.heap.size := Own.of hS.ext (by simp)
  have cA := (St.al hS 26 #[.bool false, .slice none 0 0, .bool false, .slice none 0 0, .bool false, .slice none 0 0] (g := w5.heap.size) (by simp))
  have k_1 := (cA.blk 0 rfl).cell
  have k_2 := (cA.blk 0 rfl).frozen
  go_wp2_with fail
  clear k_1 k_2
  clear cA
  replace hS := (St.al hS 26 #[.bool ap, .slice a3 aq ar, .bool au, .slice a4 av aw, .bool ax, .slice a5 ay az] (g := w5.heap.size) (by simp))
  generalize (w5.alloc (.cells #[.bool ap, .slice a3 aq ar, .bool au, .slice a4 av aw, .bool ax, .slice a5 ay az] 26)) = w6 at hS ⊢
  generalize w5.heap.size = g3 at hS o3 ⊢
  obtain ⟨bc, bd, be, cz⟩ := is_ex (PQ.half * (GQ.i (0) (1)))
  have cE := MulOk.of is_half sz_half (is_i (0) (1)) (sz_i (by omega) (by omega) (by omega) (by omega)) cz (by omega)
  have cB := cE.size
  have Y3 := ExtOf.blk (hS.blk 0 rfl)
  have hE_ := hS.ext
  refine wp_region_tame 6 (hasF [(1, .any), (2, .any), (5, .any)]) (Fcs [(1, .rg ((0 : Int)) ((1 : Int)) ((1 : Int))), (2, .rg (bc) (bd) (be)), (5, .box 37 #[.bool false, .slice none 0 0, .bool false, .slice none 0 0, .bool false, .slice none 0 0, .bool false, .slice none 0 0, .bool false, .slice none 0 0, .bool false, .slice none 0 0])]) (Fcs_stab _) (by kernel_rfl) (by kernel_rfl) ?_
  simp only [tk1, tk0, dp1, dp0]
  refine wpT_quiet 1 (by rfl) (by kernel_rfl) ?_
  simp only [tk1, tk0, dp1, dp0]
  repeat (go_big_quiet_step (fail))
  refine wpQuiet_nil ?_
  refine wpT_eff (by rfl) (by rfl) (by rfl) ?_ ?_
  · intro W_ hK
    have hW := hK.1
    clear hK
    go_simp
    exact ⟨rfl, (qInt_ok (0) (1) _ (by omega) (by omega) (by omega) (by omega)).mono fun e w' ⟨v, he, hR, hx⟩ => ⟨v, he, hx, hR⟩⟩
  intro v_ aJ aK hr_
  obtain ⟨W_, hW_⟩ := hr_
  have hv_ : Fc.holds (.rg ((0 : Int)) ((1 : Int)) ((1 : Int))) aJ aK v_ W_ := hW_.get
  clear hW_
  obtain ⟨aA, a6, aB, aC, aD, a7, aE, aF, aG, a8, aH, aI, rfl, -, -, -⟩ := hv_
  clear W_
  try simp only [Act.put, sa0, sa1, sa2]
  refine wpT_eff (by rfl) (by rfl) (by rfl) ?_ ?_
  · intro W_ hK
    have hW := hK.1
    have c6 : RI W_ (iv aA a6 aB aC) (0 : Int) := RG.at1 (hK.2 1 ((gv aA a6 aB aC aD a7 aE aF aG a8 aH aI), aJ, aK) (by rfl) (by kernel_rfl))
    have c7 : RI W_ (iv aD a7 aE aF) (1 : Int) := RG.at2 (hK.2 1 ((gv aA a6 aB aC aD a7 aE aF aG a8 aH aI), aJ, aK) (by rfl) (by kernel_rfl))
    have c8 : RI W_ (iv aG a8 aH aI) (1 : Int) := RG.at3 (hK.2 1 ((gv aA a6 aB aC aD a7 aE aF aG a8 aH aI), aJ, aK) (by rfl) (by kernel_rfl))
    clear hK
    go_simp
    exact ⟨rfl, (qMul_ok _ _ (1 : Int) (0 : Int) (2 : Int) (0 : Int) (1 : Int) (1 : Int) bc bd be _ _ _ (RG.mk (RI.ext (hS.num 2 rfl) hW) (RI.ext (hS.num 1 rfl) hW) (RI.ext (hS.num 0 rfl) hW)) (RG.mk c6 c7 c8) cE).mono fun e w' ⟨v, he, hR, hx⟩ => ⟨v, he, hx, hR⟩⟩
  intro v_ bB bC hr_
  obtain ⟨W_, hW_⟩ := hr_
  have hv_ : Fc.holds (.rg (bc) (bd) (be)) bB bC v_ W_ := hW_.get
  clear hW_
  obtain ⟨a9, a0, aa, ab, ac, a1, ad, ae, af, a2, ag, ah, rfl, -, -, -⟩ := hv_
  clear W_
  try simp only [Act.put, sa0, sa1, sa2]
  refine wpT_quiet 2 (by rfl) (by kernel_rfl) ?_
  simp only [tk1, tk0, dp1, dp0]
  repeat (go_big_quiet_step (fail))
  refine wpQuiet_nil ?_
  refine wpT_eff (by rfl) (by rfl) (by rfl) ?_ ?_
  · intro W_ hK
    go_simp
    exact ⟨Ext.new _ _, rfl, by simp, Blk.new _ _ _⟩
  intro v_ g4 cF hr_
  obtain ⟨W_, hW_⟩ := hr_
  obtain ⟨rfl, hl4, -⟩ : Fc.holds (.box 37 #[.bool false, .slice none 0 0, .bool false, .slice none 0 0, .bool false, .slice none 0 0, .bool false, .slice none 0 0, .bool false, .slice none 0 0, .bool false, .slice none 0 0]) g4 cF v_ W_ := hW_.get
  clear hW_ W_
  try simp only [Act.put, sa0, sa1, sa2]
  refine wpT_nil ?_
  intro w7 hK
  have hlt_ := hS.lt
  replace hS := hS.mv hK.ext
  replace hS := hS.addI (show RI w7 (iv aA a6 aB aC) (0 : Int) from RG.at1 (hK.at_ 1 (e := ((gv aA a6 aB aC aD a7 aE aF aG a8 aH aI), aJ, aK)) (by rfl)))
  replace hS := hS.addI (show RI w7 (iv aD a7 aE aF) (1 : Int) from RG.at2 (hK.at_ 1 (e := ((gv aA a6 aB aC aD a7 aE aF aG a8 aH aI), aJ, aK)) (by rfl)))
  replace hS := hS.addI (show RI w7 (iv aG a8 aH aI) (1 : Int) from RG.at3 (hK.at_ 1 (e := ((gv aA a6 aB aC aD a7 aE aF aG a8 aH aI), aJ, aK)) (by rfl)))
  replace hS := hS.addI (show RI w7 (iv a9 a0 aa ab) bc from RG.at1 (hK.at_ 2 (e := ((gv a9 a0 aa ab ac a1 ad ae af a2 ag ah), bB, bC)) (by rfl)))
  replace hS := hS.addI (show RI w7 (iv ac a1 ad ae) bd from RG.at2 (hK.at_ 2 (e := ((gv a9 a0 aa ab ac a1 ad ae af a2 ag ah), bB, bC)) (by rfl)))
  replace hS := hS.addI (show RI w7 (iv af a2 ag ah) be from RG.at3 (hK.at_ 2 (e := ((gv a9 a0 aa ab ac a1 ad ae af a2 ag ah), bB, bC)) (by rfl)))
  have cC : w6.heap.size ≤ g4 := hK.low 5 _ (by rfl)
  have o4 : Own w g4 := Own.of hE_ cC
  replace hS := hS.addB (show Blk w7 g4 37 #[.bool false, .slice none 0 0, .bool false, .slice none 0 0, .bool false, .slice none 0 0, .bool false, .slice none 0 0, .bool false, .slice none 0 0, .bool false, .slice none 0 0] from (hK.at_ 5 (by rfl)).2.2) (apart_of fun p hp => Nat.ne_of_lt (Nat.lt_of_lt_of_le (hlt_ p hp) cC))
  clear hK hlt_ hE_ Y3
  clear cC hl4 cF
  have k_3 := (hS.blk 0 rfl).cell
  have k_4 := (hS.blk 0 rfl).frozen
  go_wp2_with fail
  clear k_3 k_4
  replace hS := (St.put (W' := ((((((((((((w7.setCell ⟨g4, 0, none⟩ (.bool a9)).setCell ⟨g4, 1, none⟩ (.slice a0 aa ab)).setCell ⟨g4, 2, none⟩ (.bool ac)).setCell ⟨g4, 3, none⟩ (.slice a1 ad ae)).setCell ⟨g4, 4, none⟩ (.bool af)).setCell ⟨g4, 5, none⟩ (.slice a2 ag ah)).setCell ⟨g4, 6, none⟩ (.bool ap)).setCell ⟨g4, 7, none⟩ (.slice a3 aq ar)).setCell ⟨g4, 8, none⟩ (.bool au)).setCell ⟨g4, 9, none⟩ (.slice a4 av aw)).setCell ⟨g4, 10, none⟩ (.bool ax)).setCell ⟨g4, 11, none⟩ (.slice a5 ay az))) hS 0 0 [.bool a9, .slice a0 aa ab, .bool ac, .slice a1 ad ae, .bool af, .slice a2 ag ah, .bool ap, .slice a3 aq ar, .bool au, .slice a4 av aw, .bool ax, .slice a5 ay az] (cs' := #[.bool a9, .slice a0 aa ab, .bool ac, .slice a1 ad ae, .bool af, .slice a2 ag ah, .bool ap, .slice a3 aq ar, .bool au, .slice a4 av aw, .bool ax, .slice a5 ay az]) (bs' := _) rfl o4 rfl rfl (by kernel_rfl) rfl)
  simp only [List.set_cons_zero] at hS
  generalize ((((((((((((w7.setCell ⟨g4, 0, none⟩ (.bool a9)).setCell ⟨g4, 1, none⟩ (.slice a0 aa ab)).setCell ⟨g4, 2, none⟩ (.bool ac)).setCell ⟨g4, 3, none⟩ (.slice a1 ad ae)).setCell ⟨g4, 4, none⟩ (.bool af)).setCell ⟨g4, 5, none⟩ (.slice a2 ag ah)).setCell ⟨g4, 6, none⟩ (.bool ap)).setCell ⟨g4, 7, none⟩ (.slice a3 aq ar)).setCell ⟨g4, 8, none⟩ (.bool au)).setCell ⟨g4, 9, none⟩ (.slice a4 av aw)).setCell ⟨g4, 10, none⟩ (.bool ax)).setCell ⟨g4, 11, none⟩ (.slice a5 ay az)) = w8 at hS ⊢
  refine (qInt_ok (1) (0) _ (by omega) (by omega) (by omega) (by omega)).mono ?_
  rintro e w9 ⟨v_, rfl, hv_, hx_⟩
  replace hS := hS.mv hx_
  clear hx_
  obtain ⟨s20a, cG, n20a, c20a, s20b, cH, n20b, c20b, s20d, cI, n20d, c20d, rfl, bf, bg, bh⟩ := hv_
  replace hS := hS.addI bf
  clear bf
  replace hS := hS.addI bg
  clear bg
  replace hS := hS.addI bh
  clear bh
  go_wp2_with fail
  refine (toRP (qPlain_ok _ (GQ.i (1) (0)) (64) _ ⟨_, _, _, RG.mk (hS.num 2 rfl) (hS.num 1 rfl) (hS.num 0 rfl), (is_i (1) (0)), (sz_i (by omega) (by omega) (by omega) (by omega))⟩ (by omega)) (is_i (1) (0)) (is_i 0 0)).mono ?_
  rintro e cs ⟨v_, rfl, hv_, hx_⟩
  replace hS := hS.mv hx_
  clear hx_
  obtain ⟨c9, bi, ca, cb, cc, bj, cd, ce, cf, bk, cg, ch, ci, bl, cj, ck, cl, bm, cn, co, cp, bn, cq, cr, rfl, bo, bp, bq, br, bs, bt⟩ := hv_
  replace hS := hS.addI bo
  clear bo
  replace hS := hS.addI bp
  clear bp
  replace hS := hS.addI bq
  clear bq
  replace hS := hS.addI br
  clear br
  replace hS := hS.addI bs
  clear bs
  replace hS := hS.addI bt
  clear bt
  have o5 : Own w cs.heap.size := Own.of hS.ext (by simp)
  have cD := (St.al hS 37 #[.bool false, .slice none 0 0, .bool false, .slice none 0 0, .bool false, .slice none 0 0, .bool false, .slice none 0 0, .bool false, .slice none 0 0, .bool false, .slice none 0 0] (g := cs.heap.size) (by simp))
  have k_5 := (cD.blk 0 rfl).cell
  have k_6 := (cD.blk 0 rfl).frozen
  go_wp2_with fail
  clear k_5 k_6
  clear cD
  replace hS := (St.al hS 37 #[.bool c9, .slice bi ca cb, .bool cc, .slice bj cd ce, .bool cf, .slice bk cg ch, .bool ci, .slice bl cj ck, .bool cl, .slice bm cn co, .bool cp, .slice bn cq cr] (g := cs.heap.size) (by simp))
  generalize (cs.alloc (.cells #[.bool c9, .slice bi ca cb, .bool cc, .slice bj cd ce, .bool cf, .slice bk cg ch, .bool ci, .slice bl cj ck, .bool cl, .slice bm cn co, .bool cp, .slice bn cq cr] 37)) = w11 at hS ⊢
  generalize cs.heap.size = g5 at hS o5 ⊢
  go_loopw [6] (fun i wr => ∃ k : Nat, k ≤ K ∧ i = .int .i64 (k : Int) ∧ ∃ (bD bE bF bG bH bI : Int) (aR aS aT aU aV aW : Bool) (ai aj ak am an ao : Option Addr) (aX aY aZ b0 b1 b2 b3 b4 b5 b6 b7 b8 : Nat), (Is (PQ.zp k).u bD bE bF ∧ Sz 2 bD bE bF ∧ Is (PQ.zp k).v bG bH bI ∧ Sz 2 bG bH bI) ∧ St w wr [(g5, 37, #[.bool aR, .slice ai aX aY, .bool aS, .slice aj aZ b0, .bool aT, .slice ak b1 b2, .bool aU, .slice am b3 b4, .bool aV, .slice an b5 b6, .bool aW, .slice ao b7 b8]), (g4, 37, #[.bool a9, .slice a0 aa ab, .bool ac, .slice a1 ad ae, .bool af, .slice a2 ag ah, .bool ap, .slice a3 aq ar, .bool au, .slice a4 av aw, .bool ax, .slice a5 ay az]), (g3, 26, #[.bool ap, .slice a3 aq ar, .bool au, .slice a4 av aw, .bool ax, .slice a5 ay az]), (g2, 37, #[.bool false, .slice none 0 0, .bool false, .slice none 0 0, .bool false, .slice none 0 0, .bool false, .slice none 0 0, .bool false, .slice none 0 0, .bool false, .slice none 0 0])] [nz (iv aR ai aX aY) (bD), nz (iv aS aj aZ b0) (bE), nz (iv aT ak b1 b2) (bF), nz (iv aU am b3 b4) (bG), nz (iv aV an b5 b6) (bH), nz (iv aW ao b7 b8) (bI), nz (iv a9 a0 aa ab) (bc), nz (iv ac a1 ad ae) (bd), nz (iv af a2 ag ah) (be), nz (iv ap a3 aq ar) ((1 : Int)), nz (iv au a4 av aw) ((0 : Int)), nz (iv ax a5 ay az) ((2 : Int))]) (fun i _ => K - (intOf i).toNat)
  case atStart => exact ⟨0, by omega, rfl, (1 : Int), (0 : Int), (1 : Int), (0 : Int), (0 : Int), (1 : Int), c9, cc, cf, ci, cl, cp, bi, bj, bk, bl, bm, bn, ca, cb, cd, ce, cg, ch, cj, ck, cn, co, cq, cr, ⟨is_i 1 0, ⟨by decide, by decide, by decide⟩, is_i 0 0, ⟨by decide, by decide, by decide⟩⟩, hS.sel [5, 4, 3, 2, 1, 0, 11, 10, 9, 17, 16, 15] rfl⟩
  case round =>
    clear hS
    obtain ⟨k, hk, rfl, bD, bE, bF, bG, bH, bI, aR, aS, aT, aU, aV, aW, ai, aj, ak, am, an, ao, aX, aY, aZ, b0, b1, b2, b3, b4, b5, b6, b7, b8, hpure, hS⟩ := hrel
    by_cases hkL : k < K
    · skip
      have k_7 := (hS.blk 0 rfl).cell
      have k_8 := (hS.blk 1 rfl).cell
      go_wp2_with fail
      clear k_7 k_8
      obtain ⟨ct, cu, cv, bJ⟩ := is_ex ((PQ.zp k) * PQ.z).u
      obtain ⟨cw, cx, cy, bK⟩ := is_ex ((PQ.zp k) * PQ.z).v
      have S29u : Sz (2 * (2 + 69) + 69) ct cu cv := (Bd.produ (p := (PQ.zp k)) (q := PQ.z) (m := 2) (n := 69) ⟨_, _, _, hpure.1, hpure.2.1⟩ ⟨_, _, _, hpure.2.2.1, hpure.2.2.2⟩ ⟨_, _, _, cz, (Sz.mono cB (by omega))⟩ ⟨_, _, _, is_half, (Sz.mono sz_half (by omega))⟩).sz bJ
      have S29v : Sz (2 * (2 + 69) + 69) cw cx cy := (Bd.prodv (p := (PQ.zp k)) (q := PQ.z) (m := 2) (n := 69) ⟨_, _, _, hpure.1, hpure.2.1⟩ ⟨_, _, _, hpure.2.2.1, hpure.2.2.2⟩ ⟨_, _, _, cz, (Sz.mono cB (by omega))⟩ ⟨_, _, _, is_half, (Sz.mono sz_half (by omega))⟩).sz bK
      refine (toRP (qProduct_w _ (PQ.zp k) (2) _ PQ.z (69) _ ⟨_, _, _, _, _, _, RP.mk (hS.num 0 rfl) (hS.num 1 rfl) (hS.num 2 rfl) (hS.num 3 rfl) (hS.num 4 rfl) (hS.num 5 rfl), hpure.1, hpure.2.1, hpure.2.2.1, hpure.2.2.2⟩ ⟨_, _, _, _, _, _, RP.mk (hS.num 6 rfl) (hS.num 7 rfl) (hS.num 8 rfl) (hS.num 9 rfl) (hS.num 10 rfl) (hS.num 11 rfl), cz, (Sz.mono cB (by omega)), is_half, (Sz.mono sz_half (by omega))⟩ (by omega)) bJ bK).mono ?_
      rintro e w12 ⟨v_, rfl, hv_, hx_⟩
      replace hS := hS.mv hx_
      clear hx_
      obtain ⟨bL, aL, bM, bN, bO, aM, bP, bQ, bR, aN, bS, bT, bU, aO, bV, bW, bX, aP, bY, bZ, c0, aQ, c1, c2, rfl, bu, bv, bw, bx, bz, bA⟩ := hv_
      replace hS := hS.addI bu
      clear bu
      replace hS := hS.addI bv
      clear bv
      replace hS := hS.addI bw
      clear bw
      replace hS := hS.addI bx
      clear bx
      replace hS := hS.addI bz
      clear bz
      replace hS := hS.addI bA
      clear bA
      have k_9 := (hS.blk 0 rfl).cell
      have k_10 := (hS.blk 0 rfl).frozen
      go_wp2
      replace hS := (St.put (W' := ((((((((((((w12.setCell ⟨g5, 0, none⟩ (.bool bL)).setCell ⟨g5, 1, none⟩ (.slice aL bM bN)).setCell ⟨g5, 2, none⟩ (.bool bO)).setCell ⟨g5, 3, none⟩ (.slice aM bP bQ)).setCell ⟨g5, 4, none⟩ (.bool bR)).setCell ⟨g5, 5, none⟩ (.slice aN bS bT)).setCell ⟨g5, 6, none⟩ (.bool bU)).setCell ⟨g5, 7, none⟩ (.slice aO bV bW)).setCell ⟨g5, 8, none⟩ (.bool bX)).setCell ⟨g5, 9, none⟩ (.slice aP bY bZ)).setCell ⟨g5, 10, none⟩ (.bool c0)).setCell ⟨g5, 11, none⟩ (.slice aQ c1 c2))) hS 0 0 [.bool bL, .slice aL bM bN, .bool bO, .slice aM bP bQ, .bool bR, .slice aN bS bT, .bool bU, .slice aO bV bW, .bool bX, .slice aP bY bZ, .bool c0, .slice aQ c1 c2] (cs' := #[.bool bL, .slice aL bM bN, .bool bO, .slice aM bP bQ, .bool bR, .slice aN bS bT, .bool bU, .slice aO bV bW, .bool bX, .slice aP bY bZ, .bool c0, .slice aQ c1 c2]) (bs' := _) rfl o5 rfl rfl (by kernel_rfl) rfl)
      go_roundw
      case rel => exact ⟨k + 1, by omega, by go_num, ct, cu, cv, cw, cx, cy, bL, bO, bR, bU, bX, c0, aL, aM, aN, aO, aP, aQ, bM, bN, bP, bQ, bS, bT, bV, bW, bY, bZ, c1, c2, ⟨bJ, (Bd.zp (k := k + 1) (by omega)).1.sz bJ, bK, (Bd.zp (k := k + 1) (by omega)).2.sz bK⟩, St.sel hS [5, 4, 3, 2, 1, 0, 12, 13, 14, 15, 16, 17] rfl⟩
      case measure => simp [intOf] <;> omega
    · obtain rfl : k = K := by omega
      have k_11 := (hS.blk 0 rfl).cell
      have k_12 := (hS.blk 3 rfl).cell
      have k_13 := (hS.blk 3 rfl).frozen
      go_wp2
      replace hS := (St.put (W' := ((((((((((((wr.setCell ⟨g2, 0, none⟩ (.bool aR)).setCell ⟨g2, 1, none⟩ (.slice ai aX aY)).setCell ⟨g2, 2, none⟩ (.bool aS)).setCell ⟨g2, 3, none⟩ (.slice aj aZ b0)).setCell ⟨g2, 4, none⟩ (.bool aT)).setCell ⟨g2, 5, none⟩ (.slice ak b1 b2)).setCell ⟨g2, 6, none⟩ (.bool aU)).setCell ⟨g2, 7, none⟩ (.slice am b3 b4)).setCell ⟨g2, 8, none⟩ (.bool aV)).setCell ⟨g2, 9, none⟩ (.slice an b5 b6)).setCell ⟨g2, 10, none⟩ (.bool aW)).setCell ⟨g2, 11, none⟩ (.slice ao b7 b8))) hS 3 0 [.bool aR, .slice ai aX aY, .bool aS, .slice aj aZ b0, .bool aT, .slice ak b1 b2, .bool aU, .slice am b3 b4, .bool aV, .slice an b5 b6, .bool aW, .slice ao b7 b8] (cs' := #[.bool aR, .slice ai aX aY, .bool aS, .slice aj aZ b0, .bool aT, .slice ak b1 b2, .bool aU, .slice am b3 b4, .bool aV, .slice an b5 b6, .bool aW, .slice ao b7 b8]) (bs' := _) rfl o2 rfl rfl (by kernel_rfl) rfl)
      exact bp_phasor1 rfl rfl rfl (hS.blk 3 rfl) ⟨_, rfl, ⟨_, _, _, _, _, _, RP.mk (hS.num 0 rfl) (hS.num 1 rfl) (hS.num 2 rfl) (hS.num 3 rfl) (hS.num 4 rfl) (hS.num 5 rfl), hpure.1, hpure.2.1, hpure.2.2.1, hpure.2.2.2⟩, hS.ext⟩

end Go.Proofs.YtjeijmnhbckjdaaGreatDoor

/- The specification of numbers: turning, sameness, quotients. -/
namespace Go.Proofs.YtjeijmnhbckjdaaGreatDoor
open Go.RowKit
set_option linter.unusedVariables false

theorem rSame_yes (v u : Value) (x y : Int) (w : World) (hX : RI w v x) (hY : RI w u y) (h : x = y) :
    Calls Tryz.prog 50 #[v, u] w fun e w' => e = .returned (.bool true) ∧ Ext w w' := by
  have := rSame_any v u x y w hX hY
  rwa [show decide (x = y) = true by simpa using h] at this
set_option maxRecDepth 100000 in
set_option maxHeartbeats 3200000 in
theorem qTurn_w (v0 : Value) (q0 : PQ) (n0 : Nat) (m1 : Int) (K : Nat) (w : World) (hX0 : PV w v0 q0 n0) (l1 : -9223372036854775808 ≤ m1) (u1 : m1 ≤ 9223372036854775807) (HK : Hid (m1 % 12 = (K : Int))) (hK : K < 12)
     (hn : 2 * (n0 + 2) + 69 ≤ 12800) :
    Calls Tryz.prog 21 #[v0, .int .i64 m1] w fun e w' => ∃ v, e = .returned v ∧ PV w' v (q0 * PQ.zp K) (2 * (n0 + 2) + 69) ∧ Ext w w' := by
  have hS := St.start w
  obtain ⟨x0a, x0b, x0d, x0x, x0y, x0z, hX0, bI, bJ, bK, bL⟩ := hX0
  obtain ⟨aT, aU, aV, aW, aX, aY, aZ, b0, b1, b2, b3, b4, b5, b6, b7, b8, b9, ba, bb, bc, bd, be, bf, bg, rfl, bh, bi, bj, bk, bl, bm⟩ := hX0
  replace hS := hS.addI bh
  clear bh
  replace hS := hS.addI bi
  clear bi
  replace hS := hS.addI bj
  clear bj
  replace hS := hS.addI bk
  clear bk
  replace hS := hS.addI bl
  clear bl
  replace hS := hS.addI bm
  clear bm
  have o2 : Own w w.heap.size := Own.of hS.ext (by simp)
  have o4 : Own w (w.heap.size + 1) := Own.of hS.ext (by simp)
  go_enter Tryz.func21, Tryz.ntmps21
  go_wp2_with fail
  replace hS := (St.al (St.al hS 37 #[.bool aT, .slice aU aV aW, .bool aX, .slice aY aZ b0, .bool b1, .slice b2 b3 b4, .bool b5, .slice b6 b7 b8, .bool b9, .slice ba bb bc, .bool bd, .slice be bf bg] (g := w.heap.size) (by simp)) 37 #[.bool false, .slice none 0 0, .bool false, .slice none 0 0, .bool false, .slice none 0 0, .bool false, .slice none 0 0, .bool false, .slice none 0 0, .bool false, .slice none 0 0] (g := (w.heap.size + 1)) (by simp))
  generalize ((w.alloc (.cells #[.bool aT, .slice aU aV aW, .bool aX, .slice aY aZ b0, .bool b1, .slice b2 b3 b4, .bool b5, .slice b6 b7 b8, .bool b9, .slice ba bb bc, .bool bd, .slice be bf bg] 37)).alloc (.cells #[.bool false, .slice none 0 0, .bool false, .slice none 0 0, .bool false, .slice none 0 0, .bool false, .slice none 0 0, .bool false, .slice none 0 0, .bool false, .slice none 0 0] 37)) = w1 at hS ⊢
  generalize w.heap.size + 1 = g4 at hS o4 ⊢
  generalize w.heap.size = g2 at hS o2 ⊢
  obtain ⟨bn, bo, bp, bq⟩ := is_ex (PQ.zp K).u
  obtain ⟨br, bs, bt, bu⟩ := is_ex (PQ.zp K).v
  have bM : Sz (2) bn bo bp := ((Bd.zp hK).1).sz bq
  have bN : Sz (2) br bs bt := ((Bd.zp hK).2).sz bu
  obtain ⟨bC, bD, bE, bO⟩ := is_ex (q0 * (PQ.zp K)).u
  obtain ⟨bF, bG, bH, bP⟩ := is_ex (q0 * (PQ.zp K)).v
  have S8u : Sz (2 * (n0 + 2) + 69) bC bD bE := (Bd.produ (p := q0) (q := (PQ.zp K)) (m := n0) (n := 2) ⟨_, _, _, bI, bJ⟩ ⟨_, _, _, bK, bL⟩ ⟨_, _, _, bq, bM⟩ ⟨_, _, _, bu, bN⟩).sz bO
  have S8v : Sz (2 * (n0 + 2) + 69) bF bG bH := (Bd.prodv (p := q0) (q := (PQ.zp K)) (m := n0) (n := 2) ⟨_, _, _, bI, bJ⟩ ⟨_, _, _, bK, bL⟩ ⟨_, _, _, bq, bM⟩ ⟨_, _, _, bu, bN⟩).sz bP
  have Y2 := ExtOf.blk (hS.blk 1 rfl)
  have hE_ := hS.ext
  refine wp_region_tame 4 (hasF [(2, .any), (3, .any)]) (Fcs [(2, .rp (bn) (bo) (bp) (br) (bs) (bt)), (3, .rp (bC) (bD) (bE) (bF) (bG) (bH))]) (Fcs_stab _) (by kernel_rfl) (by kernel_rfl) ?_
  simp only [tk1, tk0, dp1, dp0]
  refine wpT_quiet 2 (by rfl) (by kernel_rfl) ?_
  simp only [tk1, tk0, dp1, dp0]
  repeat (go_big_quiet_step (fail))
  refine wpQuiet_nil ?_
  refine wpT_eff (by rfl) (by rfl) (by rfl) ?_ ?_
  · intro W_ hK
    have hW := hK.1
    clear hK
    go_simp
    exact ⟨rfl, (toRP (qRoot_w (m1) K _ l1 u1 HK hK) bq bu).mono fun e w' ⟨v, he, hR, hx⟩ => ⟨v, he, hx, hR⟩⟩
  intro v_ ax ay hr_
  obtain ⟨W_, hW_⟩ := hr_
  have hv_ : Fc.holds (.rp (bn) (bo) (bp) (br) (bs) (bt)) ax ay v_ W_ := hW_.get
  clear hW_
  obtain ⟨ac, a0, ad, ae, af, a1, ag, ah, ai, a2, aj, ak, am, a3, an, ao, ap, a4, aq, ar, au, a5, av, aw, rfl, -, -, -, -, -, -⟩ := hv_
  clear W_
  try simp only [Act.put, sa0, sa1, sa2]
  refine wpT_eff (by rfl) (by rfl) (by rfl) ?_ ?_
  · intro W_ hK
    have hW := hK.1
    have bv : RI W_ (iv ac a0 ad ae) bn := RP.at1 (hK.2 2 ((pv ac a0 ad ae af a1 ag ah ai a2 aj ak am a3 an ao ap a4 aq ar au a5 av aw), ax, ay) (by rfl) (by kernel_rfl))
    have bw : RI W_ (iv af a1 ag ah) bo := RP.at2 (hK.2 2 ((pv ac a0 ad ae af a1 ag ah ai a2 aj ak am a3 an ao ap a4 aq ar au a5 av aw), ax, ay) (by rfl) (by kernel_rfl))
    have bx : RI W_ (iv ai a2 aj ak) bp := RP.at3 (hK.2 2 ((pv ac a0 ad ae af a1 ag ah ai a2 aj ak am a3 an ao ap a4 aq ar au a5 av aw), ax, ay) (by rfl) (by kernel_rfl))
    have bz : RI W_ (iv am a3 an ao) br := RP.at4 (hK.2 2 ((pv ac a0 ad ae af a1 ag ah ai a2 aj ak am a3 an ao ap a4 aq ar au a5 av aw), ax, ay) (by rfl) (by kernel_rfl))
    have bA : RI W_ (iv ap a4 aq ar) bs := RP.at5 (hK.2 2 ((pv ac a0 ad ae af a1 ag ah ai a2 aj ak am a3 an ao ap a4 aq ar au a5 av aw), ax, ay) (by rfl) (by kernel_rfl))
    have bB : RI W_ (iv au a5 av aw) bt := RP.at6 (hK.2 2 ((pv ac a0 ad ae af a1 ag ah ai a2 aj ak am a3 an ao ap a4 aq ar au a5 av aw), ax, ay) (by rfl) (by kernel_rfl))
    clear hK
    go_simp
    exact ⟨rfl, (toRP (qProduct_w _ q0 (n0) _ (PQ.zp K) (2) _ ⟨_, _, _, _, _, _, RP.mk (RI.ext (hS.num 5 rfl) hW) (RI.ext (hS.num 4 rfl) hW) (RI.ext (hS.num 3 rfl) hW) (RI.ext (hS.num 2 rfl) hW) (RI.ext (hS.num 1 rfl) hW) (RI.ext (hS.num 0 rfl) hW), bI, bJ, bK, bL⟩ ⟨_, _, _, _, _, _, RP.mk bv bw bx bz bA bB, bq, bM, bu, bN⟩ (by omega)) bO bP).mono fun e w' ⟨v, he, hR, hx⟩ => ⟨v, he, hx, hR⟩⟩
  intro v_ aR aS hr_
  obtain ⟨W_, hW_⟩ := hr_
  have hv_ : Fc.holds (.rp (bC) (bD) (bE) (bF) (bG) (bH)) aR aS v_ W_ := hW_.get
  clear hW_
  obtain ⟨az, a6, aA, aB, aC, a7, aD, aE, aF, a8, aG, aH, aI, a9, aJ, aK, aL, aa, aM, aN, aO, ab, aP, aQ, rfl, -, -, -, -, -, -⟩ := hv_
  clear W_
  try simp only [Act.put, sa0, sa1, sa2]
  refine wpT_nil ?_
  intro w2 hK
  have hlt_ := hS.lt
  replace hS := hS.mv hK.ext
  replace hS := hS.addI (show RI w2 (iv ac a0 ad ae) bn from RP.at1 (hK.at_ 2 (e := ((pv ac a0 ad ae af a1 ag ah ai a2 aj ak am a3 an ao ap a4 aq ar au a5 av aw), ax, ay)) (by rfl)))
  replace hS := hS.addI (show RI w2 (iv af a1 ag ah) bo from RP.at2 (hK.at_ 2 (e := ((pv ac a0 ad ae af a1 ag ah ai a2 aj ak am a3 an ao ap a4 aq ar au a5 av aw), ax, ay)) (by rfl)))
  replace hS := hS.addI (show RI w2 (iv ai a2 aj ak) bp from RP.at3 (hK.at_ 2 (e := ((pv ac a0 ad ae af a1 ag ah ai a2 aj ak am a3 an ao ap a4 aq ar au a5 av aw), ax, ay)) (by rfl)))
  replace hS := hS.addI (show RI w2 (iv am a3 an ao) br from RP.at4 (hK.at_ 2 (e := ((pv ac a0 ad ae af a1 ag ah ai a2 aj ak am a3 an ao ap a4 aq ar au a5 av aw), ax, ay)) (by rfl)))
  replace hS := hS.addI (show RI w2 (iv ap a4 aq ar) bs from RP.at5 (hK.at_ 2 (e := ((pv ac a0 ad ae af a1 ag ah ai a2 aj ak am a3 an ao ap a4 aq ar au a5 av aw), ax, ay)) (by rfl)))
  replace hS := hS.addI (show RI w2 (iv au a5 av aw) bt from RP.at6 (hK.at_ 2 (e := ((pv ac a0 ad ae af a1 ag ah ai a2 aj ak am a3 an ao ap a4 aq ar au a5 av aw), ax, ay)) (by rfl)))
  replace hS := hS.addI (show RI w2 (iv az a6 aA aB) bC from RP.at1 (hK.at_ 3 (e := ((pv az a6 aA aB aC a7 aD aE aF a8 aG aH aI a9 aJ aK aL aa aM aN aO ab aP aQ), aR, aS)) (by rfl)))
  replace hS := hS.addI (show RI w2 (iv aC a7 aD aE) bD from RP.at2 (hK.at_ 3 (e := ((pv az a6 aA aB aC a7 aD aE aF a8 aG aH aI a9 aJ aK aL aa aM aN aO ab aP aQ), aR, aS)) (by rfl)))
  replace hS := hS.addI (show RI w2 (iv aF a8 aG aH) bE from RP.at3 (hK.at_ 3 (e := ((pv az a6 aA aB aC a7 aD aE aF a8 aG aH aI a9 aJ aK aL aa aM aN aO ab aP aQ), aR, aS)) (by rfl)))
  replace hS := hS.addI (show RI w2 (iv aI a9 aJ aK) bF from RP.at4 (hK.at_ 3 (e := ((pv az a6 aA aB aC a7 aD aE aF a8 aG aH aI a9 aJ aK aL aa aM aN aO ab aP aQ), aR, aS)) (by rfl)))
  replace hS := hS.addI (show RI w2 (iv aL aa aM aN) bG from RP.at5 (hK.at_ 3 (e := ((pv az a6 aA aB aC a7 aD aE aF a8 aG aH aI a9 aJ aK aL aa aM aN aO ab aP aQ), aR, aS)) (by rfl)))
  replace hS := hS.addI (show RI w2 (iv aO ab aP aQ) bH from RP.at6 (hK.at_ 3 (e := ((pv az a6 aA aB aC a7 aD aE aF a8 aG aH aI a9 aJ aK aL aa aM aN aO ab aP aQ), aR, aS)) (by rfl)))
  clear hK hlt_ hE_ Y2
  have k_1 := (hS.blk 0 rfl).cell
  have k_2 := (hS.blk 0 rfl).frozen
  go_wp2
  replace hS := (St.put (W' := ((((((((((((w2.setCell ⟨g4, 0, none⟩ (.bool az)).setCell ⟨g4, 1, none⟩ (.slice a6 aA aB)).setCell ⟨g4, 2, none⟩ (.bool aC)).setCell ⟨g4, 3, none⟩ (.slice a7 aD aE)).setCell ⟨g4, 4, none⟩ (.bool aF)).setCell ⟨g4, 5, none⟩ (.slice a8 aG aH)).setCell ⟨g4, 6, none⟩ (.bool aI)).setCell ⟨g4, 7, none⟩ (.slice a9 aJ aK)).setCell ⟨g4, 8, none⟩ (.bool aL)).setCell ⟨g4, 9, none⟩ (.slice aa aM aN)).setCell ⟨g4, 10, none⟩ (.bool aO)).setCell ⟨g4, 11, none⟩ (.slice ab aP aQ))) hS 0 0 [.bool az, .slice a6 aA aB, .bool aC, .slice a7 aD aE, .bool aF, .slice a8 aG aH, .bool aI, .slice a9 aJ aK, .bool aL, .slice aa aM aN, .bool aO, .slice ab aP aQ] (cs' := #[.bool az, .slice a6 aA aB, .bool aC, .slice a7 aD aE, .bool aF, .slice a8 aG aH, .bool aI, .slice a9 aJ aK, .bool aL, .slice aa aM aN, .bool aO, .slice ab aP aQ]) (bs' := _) rfl o4 rfl rfl (by kernel_rfl) rfl)
  exact bp_phasor1 rfl rfl rfl (hS.blk 0 rfl) ⟨_, rfl, ⟨_, _, _, _, _, _, RP.mk (hS.num 5 rfl) (hS.num 4 rfl) (hS.num 3 rfl) (hS.num 2 rfl) (hS.num 1 rfl) (hS.num 0 rfl), bO, S8u, bP, S8v⟩, hS.ext⟩

set_option maxRecDepth 100000 in
set_option maxHeartbeats 1600000 in
theorem qSame_y (v0 : Value) (ax ay az : Int) (v1 : Value) (aA aB aC : Int) (w : World) (hX0 : RG w v0 ax ay az) (hX1 : RG w v1 aA aB aC) (Ha : Hid (ax = aA)) (Hb : Hid (ay = aB)) (Hd : Hid (az = aC))
      :
    Calls Tryz.prog 13 #[v0, v1] w fun e w' => e = .returned (.bool true) ∧ Ext w w' := by
  have hS := St.start w
  obtain ⟨a0, a1, a2, a3, a4, a5, a6, a7, a8, a9, aa, ab, rfl, ap, aq, ar⟩ := hX0
  replace hS := hS.addI ap
  clear ap
  replace hS := hS.addI aq
  clear aq
  replace hS := hS.addI ar
  clear ar
  obtain ⟨ac, ad, ae, af, ag, ah, ai, aj, ak, am, an, ao, rfl, au, av, aw⟩ := hX1
  replace hS := hS.addI au
  clear au
  replace hS := hS.addI av
  clear av
  replace hS := hS.addI aw
  clear aw
  have o2 : Own w w.heap.size := Own.of hS.ext (by simp)
  have o3 : Own w (w.heap.size + 1) := Own.of hS.ext (by simp)
  have aD := (St.al (St.al hS 26 #[.bool a0, .slice a1 a2 a3, .bool a4, .slice a5 a6 a7, .bool a8, .slice a9 aa ab] (g := w.heap.size) (by simp)) 26 #[.bool ac, .slice ad ae af, .bool ag, .slice ah ai aj, .bool ak, .slice am an ao] (g := (w.heap.size + 1)) (by simp))
  have k_1 := (aD.blk 1 rfl).cell
  have k_2 := (aD.blk 0 rfl).cell
  go_enter Tryz.func13, Tryz.ntmps13
  go_wp2_with fail
  clear k_1 k_2
  clear aD
  replace hS := (St.al (St.al hS 26 #[.bool a0, .slice a1 a2 a3, .bool a4, .slice a5 a6 a7, .bool a8, .slice a9 aa ab] (g := w.heap.size) (by simp)) 26 #[.bool ac, .slice ad ae af, .bool ag, .slice ah ai aj, .bool ak, .slice am an ao] (g := (w.heap.size + 1)) (by simp))
  generalize ((w.alloc (.cells #[.bool a0, .slice a1 a2 a3, .bool a4, .slice a5 a6 a7, .bool a8, .slice a9 aa ab] 26)).alloc (.cells #[.bool ac, .slice ad ae af, .bool ag, .slice ah ai aj, .bool ak, .slice am an ao] 26)) = w1 at hS ⊢
  generalize w.heap.size + 1 = g3 at hS o3 ⊢
  generalize w.heap.size = g2 at hS o2 ⊢
  refine (rSame_yes _ _ ax aA _ (hS.num 5 rfl) (hS.num 2 rfl) Ha.out).mono ?_
  rintro e w2 ⟨rfl, hx_⟩
  replace hS := hS.mv hx_
  clear hx_
  have k_3 := (hS.blk 1 rfl).cell
  have k_4 := (hS.blk 0 rfl).cell
  go_wp2_with fail
  clear k_3 k_4
  refine (rSame_yes _ _ ay aB _ (hS.num 4 rfl) (hS.num 1 rfl) Hb.out).mono ?_
  rintro e w3 ⟨rfl, hx_⟩
  replace hS := hS.mv hx_
  clear hx_
  have k_5 := (hS.blk 1 rfl).cell
  have k_6 := (hS.blk 0 rfl).cell
  go_wp2_with fail
  clear k_5 k_6
  refine (rSame_yes _ _ az aC _ (hS.num 3 rfl) (hS.num 0 rfl) Hd.out).mono ?_
  rintro e w4 ⟨rfl, hx_⟩
  replace hS := hS.mv hx_
  clear hx_
  go_wp2
  go_ret
  exact ⟨ret_bool (rfl), hS.ext⟩

theorem qSame_yes (v u : Value) (a b d a' b' d' : Int) (w : World) (hX : RG w v a b d) (hY : RG w u a' b' d') (h : a = a' ∧ b = b' ∧ d = d') :
    Calls Tryz.prog 13 #[v, u] w fun e w' => e = .returned (.bool true) ∧ Ext w w' := qSame_y v a b d u a' b' d' w hX hY (Lib.hid h.1) (Lib.hid h.2.1) (Lib.hid h.2.2)
set_option maxRecDepth 100000 in
set_option maxHeartbeats 1600000 in
theorem qSamePhasor_y (v0 : Value) (b1 b2 b3 b4 b5 b6 : Int) (v1 : Value) (b7 b8 b9 ba bb bc : Int) (w : World) (hX0 : RP w v0 b1 b2 b3 b4 b5 b6) (hX1 : RP w v1 b7 b8 b9 ba bb bc) (Hu : Hid (b1 = b7 ∧ b2 = b8 ∧ b3 = b9)) (Hv : Hid (b4 = ba ∧ b5 = bb ∧ b6 = bc))
      :
    Calls Tryz.prog 20 #[v0, v1] w fun e w' => e = .returned (.bool true) ∧ Ext w w' := by
  have hS := St.start w
  obtain ⟨a0, a1, a2, a3, a4, a5, a6, a7, a8, a9, aa, ab, ac, ad, ae, af, ag, ah, ai, aj, ak, am, an, ao, rfl, aP, aQ, aR, aS, aT, aU⟩ := hX0
  replace hS := hS.addI aP
  clear aP
  replace hS := hS.addI aQ
  clear aQ
  replace hS := hS.addI aR
  clear aR
  replace hS := hS.addI aS
  clear aS
  replace hS := hS.addI aT
  clear aT
  replace hS := hS.addI aU
  clear aU
  obtain ⟨ap, aq, ar, au, av, aw, ax, ay, az, aA, aB, aC, aD, aE, aF, aG, aH, aI, aJ, aK, aL, aM, aN, aO, rfl, aV, aW, aX, aY, aZ, b0⟩ := hX1
  replace hS := hS.addI aV
  clear aV
  replace hS := hS.addI aW
  clear aW
  replace hS := hS.addI aX
  clear aX
  replace hS := hS.addI aY
  clear aY
  replace hS := hS.addI aZ
  clear aZ
  replace hS := hS.addI b0
  clear b0
  have o2 : Own w w.heap.size := Own.of hS.ext (by simp)
  have o3 : Own w (w.heap.size + 1) := Own.of hS.ext (by simp)
  have bd := (St.al (St.al hS 37 #[.bool a0, .slice a1 a2 a3, .bool a4, .slice a5 a6 a7, .bool a8, .slice a9 aa ab, .bool ac, .slice ad ae af, .bool ag, .slice ah ai aj, .bool ak, .slice am an ao] (g := w.heap.size) (by simp)) 37 #[.bool ap, .slice aq ar au, .bool av, .slice aw ax ay, .bool az, .slice aA aB aC, .bool aD, .slice aE aF aG, .bool aH, .slice aI aJ aK, .bool aL, .slice aM aN aO] (g := (w.heap.size + 1)) (by simp))
  have k_1 := (bd.blk 1 rfl).cell
  have k_2 := (bd.blk 0 rfl).cell
  go_enter Tryz.func20, Tryz.ntmps20
  go_wp2_with fail
  clear k_1 k_2
  clear bd
  replace hS := (St.al (St.al hS 37 #[.bool a0, .slice a1 a2 a3, .bool a4, .slice a5 a6 a7, .bool a8, .slice a9 aa ab, .bool ac, .slice ad ae af, .bool ag, .slice ah ai aj, .bool ak, .slice am an ao] (g := w.heap.size) (by simp)) 37 #[.bool ap, .slice aq ar au, .bool av, .slice aw ax ay, .bool az, .slice aA aB aC, .bool aD, .slice aE aF aG, .bool aH, .slice aI aJ aK, .bool aL, .slice aM aN aO] (g := (w.heap.size + 1)) (by simp))
  generalize ((w.alloc (.cells #[.bool a0, .slice a1 a2 a3, .bool a4, .slice a5 a6 a7, .bool a8, .slice a9 aa ab, .bool ac, .slice ad ae af, .bool ag, .slice ah ai aj, .bool ak, .slice am an ao] 37)).alloc (.cells #[.bool ap, .slice aq ar au, .bool av, .slice aw ax ay, .bool az, .slice aA aB aC, .bool aD, .slice aE aF aG, .bool aH, .slice aI aJ aK, .bool aL, .slice aM aN aO] 37)) = w1 at hS ⊢
  generalize w.heap.size + 1 = g3 at hS o3 ⊢
  generalize w.heap.size = g2 at hS o2 ⊢
  refine (qSame_yes _ _ b1 b2 b3 b7 b8 b9 _ (RG.mk (hS.num 11 rfl) (hS.num 10 rfl) (hS.num 9 rfl)) (RG.mk (hS.num 5 rfl) (hS.num 4 rfl) (hS.num 3 rfl)) Hu.out).mono ?_
  rintro e w2 ⟨rfl, hx_⟩
  replace hS := hS.mv hx_
  clear hx_
  have k_3 := (hS.blk 1 rfl).cell
  have k_4 := (hS.blk 0 rfl).cell
  go_wp2_with fail
  clear k_3 k_4
  refine (qSame_yes _ _ b4 b5 b6 ba bb bc _ (RG.mk (hS.num 8 rfl) (hS.num 7 rfl) (hS.num 6 rfl)) (RG.mk (hS.num 2 rfl) (hS.num 1 rfl) (hS.num 0 rfl)) Hv.out).mono ?_
  rintro e w3 ⟨rfl, hx_⟩
  replace hS := hS.mv hx_
  clear hx_
  go_wp2
  go_ret
  exact ⟨ret_bool (rfl), hS.ext⟩

theorem qSame_eq (v u : Value) (q : GQ) (m n : Nat) (w : World) (hX : GV w v q m) (hY : GV w u q n) :
    Calls Tryz.prog 13 #[v, u] w fun e w' => e = .returned (.bool true) ∧ Ext w w' := by
  obtain ⟨a, b, d, h1, h2, _⟩ := hX
  exact qSame_yes v u a b d a b d w h1 (hY.at_ h2) ⟨rfl, rfl, rfl⟩
theorem qSamePhasor_eq (v u : Value) (p : PQ) (m n : Nat) (w : World) (hX : PV w v p m) (hY : PV w u p n) :
    Calls Tryz.prog 20 #[v, u] w fun e w' => e = .returned (.bool true) ∧ Ext w w' := by
  obtain ⟨a, b, d, x, y, z, h1, h2, _, h3, _⟩ := hX
  exact qSamePhasor_y v a b d x y z u a b d x y z w h1 (hY.at_ h2 h3) (Lib.hid ⟨rfl, rfl, rfl⟩) (Lib.hid ⟨rfl, rfl, rfl⟩)
end Go.Proofs.YtjeijmnhbckjdaaGreatDoor
