/- Words and contracts that the laws share, several texts in one. -/
import Derived.Test.YtclkkoiaaddllaaGreatQNEince
import Derived.Test.YtclkkoiaaddllaaGreatQNDeooe
/- The specification of numbers: differences, phasors. -/
namespace Go.Proofs.YtclkkoiaaddllaaGreat
open Go.RowKit
set_option linter.unusedVariables false

theorem is_ex (q : GQ) : ∃ a b d : Int, Is q a b d := by
  have h1 : ((q.re.den : Nat) : Int) ≠ 0 := by have := q.re.den_nz; omega
  have h2 : ((q.im.den : Nat) : Int) ≠ 0 := by have := q.im.den_nz; omega
  have e1 : q.re = ((q.re.num : Int) : Rat) / (((q.re.den : Nat) : Int) : Rat) := by
    rw [← Rat.divInt_eq_div]
    exact (Rat.num_divInt_den q.re).symm
  have e2 : q.im = ((q.im.num : Int) : Rat) / (((q.im.den : Nat) : Int) : Rat) := by
    rw [← Rat.divInt_eq_div]
    exact (Rat.num_divInt_den q.im).symm
  generalize q.re.num = a at *
  generalize ((q.re.den : Nat) : Int) = d at *
  generalize q.im.num = b at *
  generalize ((q.im.den : Nat) : Int) = f at *
  have k1 := cast_ne h1
  have k2 := cast_ne h2
  have h := is_nf (a := a * f) (b := b * d) (d := d * f) (Int.mul_ne_zero h1 h2)
  refine ⟨_, _, _, ⟨h.low, ?_, ?_⟩⟩
  · rw [← h.re, e1]; simp only [Rat.intCast_mul]; grind
  · rw [← h.im, e2]; simp only [Rat.intCast_mul]; grind
theorem sz_i {a b : Int} (l1 : -9223372036854775808 ≤ a) (u1 : a ≤ 9223372036854775807) (l2 : -9223372036854775808 ≤ b) (u2 : b ≤ 9223372036854775807) : Sz 64 a b 1 := ⟨lt64 l1 u1, lt64 l2 u2, by decide⟩
/-- A value that holds the number q, in lowest terms, of at most n bits each. -/
def GV (w : World) (v : Value) (q : GQ) (n : Nat) : Prop := ∃ a b d : Int, RG w v a b d ∧ Is q a b d ∧ Sz n a b d
theorem GV.ext {w w' : World} {v : Value} {q : GQ} {n : Nat} (h : GV w v q n) (x : Ext w w') : GV w' v q n := by
  obtain ⟨a, b, d, h1, h2, h3⟩ := h
  exact ⟨a, b, d, h1.ext x, h2, h3⟩
/-- A value that holds a phasor. -/
def PV (w : World) (v : Value) (p : PQ) (n : Nat) : Prop := ∃ a b d x y z : Int, RP w v a b d x y z ∧ Is p.u a b d ∧ Sz n a b d ∧ Is p.v x y z ∧ Sz n x y z
theorem PV.ext {w w' : World} {v : Value} {p : PQ} {n : Nat} (h : PV w v p n) (e : Ext w w') : PV w' v p n := by
  obtain ⟨a, b, d, x, y, z, h1, h2⟩ := h
  exact ⟨a, b, d, x, y, z, h1.ext e, h2⟩
set_option maxRecDepth 100000 in
set_option maxHeartbeats 1600000 in
theorem qSub_w (v0 : Value) (q0 : GQ) (n0 : Nat) (v1 : Value) (q1 : GQ) (n1 : Nat) (w : World) (hX0 : GV w v0 q0 n0) (hX1 : GV w v1 q1 n1)
     (hn : n0 + n1 + 66 ≤ 12800) :
    Calls Tryz.prog 18 #[v0, v1] w fun e w' => ∃ v, e = .returned v ∧ GV w' v (q0 + q1 * GQ.i (-1) 0) (n0 + (n1 + 64 + 1) + 1) ∧ Ext w w' := by
  have hS := St.start w
  obtain ⟨x0a, x0b, x0d, hX0, I0, S0⟩ := hX0
  obtain ⟨aK, aL, aM, aN, aO, aP, aQ, aR, aS, aT, aU, aV, rfl, aW, aX, aY⟩ := hX0
  replace hS := hS.addI aW
  clear aW
  replace hS := hS.addI aX
  clear aX
  replace hS := hS.addI aY
  clear aY
  obtain ⟨x1a, x1b, x1d, hX1, I1, S1⟩ := hX1
  obtain ⟨aZ, b0, b1, b2, b3, b4, b5, b6, b7, b8, b9, ba, rfl, bb, bc, bd⟩ := hX1
  replace hS := hS.addI bb
  clear bb
  replace hS := hS.addI bc
  clear bc
  replace hS := hS.addI bd
  clear bd
  have o2 : Own w w.heap.size := Own.of hS.ext (by simp)
  have o3 : Own w (w.heap.size + 1) := Own.of hS.ext (by simp)
  have o4 : Own w (w.heap.size + 2) := Own.of hS.ext (by simp)
  go_enter Tryz.func18, Tryz.ntmps18
  go_wp2_with fail
  replace hS := (St.al (St.al (St.al hS 32 #[.bool aK, .slice aL aM aN, .bool aO, .slice aP aQ aR, .bool aS, .slice aT aU aV] (g := w.heap.size) (by simp)) 32 #[.bool aZ, .slice b0 b1 b2, .bool b3, .slice b4 b5 b6, .bool b7, .slice b8 b9 ba] (g := (w.heap.size + 1)) (by simp)) 32 #[.bool false, .slice none 0 0, .bool false, .slice none 0 0, .bool false, .slice none 0 0] (g := (w.heap.size + 2)) (by simp))
  generalize (((w.alloc (.cells #[.bool aK, .slice aL aM aN, .bool aO, .slice aP aQ aR, .bool aS, .slice aT aU aV] 32)).alloc (.cells #[.bool aZ, .slice b0 b1 b2, .bool b3, .slice b4 b5 b6, .bool b7, .slice b8 b9 ba] 32)).alloc (.cells #[.bool false, .slice none 0 0, .bool false, .slice none 0 0, .bool false, .slice none 0 0] 32)) = w1 at hS ⊢
  generalize w.heap.size + 2 = g4 at hS o4 ⊢
  generalize w.heap.size + 1 = g3 at hS o3 ⊢
  generalize w.heap.size = g2 at hS o2 ⊢
  obtain ⟨aH, aI, aJ, I8⟩ := is_ex (q1 * (GQ.i (-1) (0)))
  have K8 := MulOk.of I1 S1 (is_i (-1) (0)) (sz_i (by omega) (by omega) (by omega) (by omega)) I8 (by omega)
  have S8 := K8.size
  obtain ⟨bk, bl, bm, I9⟩ := is_ex (q0 + (q1 * (GQ.i (-1) (0))))
  have K9 := AddOk.of I0 S0 I8 S8 I9 (by omega)
  have S9 := K9.size
  have Y3 := ExtOf.blk (hS.blk 1 rfl)
  have Y2 := ExtOf.blk (hS.blk 2 rfl)
  have hE_ := hS.ext
  refine wp_region_tame 5 (hasF [(2, .any), (3, .any), (4, .any)]) (Fcs [(2, .rg ((-1 : Int)) ((0 : Int)) ((1 : Int))), (3, .rg (aH) (aI) (aJ)), (4, .rg (bk) (bl) (bm))]) (Fcs_stab _) (by kernel_rfl) (by kernel_rfl) ?_
  simp only [tk1, tk0, dp1, dp0]
  refine wpT_quiet 2 (by rfl) (by kernel_rfl) ?_
  simp only [tk1, tk0, dp1, dp0]
  repeat (go_big_quiet_step (fail))
  refine wpQuiet_nil ?_
  refine wpT_eff (by rfl) (by rfl) (by rfl) ?_ ?_
  · intro W_ hK
    have hW := hK.1
    clear hK
    go_simp
    exact ⟨rfl, (qInt_ok (-1) (0) _ (by omega) (by omega) (by omega) (by omega)).mono fun e w' ⟨v, he, hR, hx⟩ => ⟨v, he, hx, hR⟩⟩
  intro v_ au av hr_
  obtain ⟨W_, hW_⟩ := hr_
  have hv_ : Fc.holds (.rg ((-1 : Int)) ((0 : Int)) ((1 : Int))) au av v_ W_ := hW_.get
  clear hW_
  obtain ⟨a9, a0, aa, ab, ac, a1, ad, ae, af, a2, ag, ah, rfl, -, -, -⟩ := hv_
  clear W_
  try simp only [Act.put, sa0, sa1, sa2]
  refine wpT_eff (by rfl) (by rfl) (by rfl) ?_ ?_
  · intro W_ hK
    have hW := hK.1
    have be : RI W_ (iv a9 a0 aa ab) (-1 : Int) := RG.at1 (hK.2 2 ((gv a9 a0 aa ab ac a1 ad ae af a2 ag ah), au, av) (by rfl) (by kernel_rfl))
    have bf : RI W_ (iv ac a1 ad ae) (0 : Int) := RG.at2 (hK.2 2 ((gv a9 a0 aa ab ac a1 ad ae af a2 ag ah), au, av) (by rfl) (by kernel_rfl))
    have bg : RI W_ (iv af a2 ag ah) (1 : Int) := RG.at3 (hK.2 2 ((gv a9 a0 aa ab ac a1 ad ae af a2 ag ah), au, av) (by rfl) (by kernel_rfl))
    clear hK
    go_simp
    exact ⟨rfl, (qMul_ok _ _ x1a x1b x1d (-1 : Int) (0 : Int) (1 : Int) aH aI aJ _ _ _ (RG.mk (RI.ext (hS.num 2 rfl) hW) (RI.ext (hS.num 1 rfl) hW) (RI.ext (hS.num 0 rfl) hW)) (RG.mk be bf bg) K8).mono fun e w' ⟨v, he, hR, hx⟩ => ⟨v, he, hx, hR⟩⟩
  intro v_ aw ax hr_
  obtain ⟨W_, hW_⟩ := hr_
  have hv_ : Fc.holds (.rg (aH) (aI) (aJ)) aw ax v_ W_ := hW_.get
  clear hW_
  obtain ⟨ai, a3, aj, ak, am, a4, an, ao, ap, a5, aq, ar, rfl, -, -, -⟩ := hv_
  clear W_
  try simp only [Act.put, sa0, sa1, sa2]
  refine wpT_eff (by rfl) (by rfl) (by rfl) ?_ ?_
  · intro W_ hK
    have hW := hK.1
    have bh : RI W_ (iv ai a3 aj ak) aH := RG.at1 (hK.2 3 ((gv ai a3 aj ak am a4 an ao ap a5 aq ar), aw, ax) (by rfl) (by kernel_rfl))
    have bi : RI W_ (iv am a4 an ao) aI := RG.at2 (hK.2 3 ((gv ai a3 aj ak am a4 an ao ap a5 aq ar), aw, ax) (by rfl) (by kernel_rfl))
    have bj : RI W_ (iv ap a5 aq ar) aJ := RG.at3 (hK.2 3 ((gv ai a3 aj ak am a4 an ao ap a5 aq ar), aw, ax) (by rfl) (by kernel_rfl))
    clear hK
    go_simp
    exact ⟨rfl, (qAdd_ok _ _ x0a x0b x0d aH aI aJ bk bl bm _ _ _ (RG.mk (RI.ext (hS.num 5 rfl) hW) (RI.ext (hS.num 4 rfl) hW) (RI.ext (hS.num 3 rfl) hW)) (RG.mk bh bi bj) K9).mono fun e w' ⟨v, he, hR, hx⟩ => ⟨v, he, hx, hR⟩⟩
  intro v_ bn bo hr_
  obtain ⟨W_, hW_⟩ := hr_
  have hv_ : Fc.holds (.rg (bk) (bl) (bm)) bn bo v_ W_ := hW_.get
  clear hW_
  obtain ⟨ay, a6, az, aA, aB, a7, aC, aD, aE, a8, aF, aG, rfl, -, -, -⟩ := hv_
  clear W_
  try simp only [Act.put, sa0, sa1, sa2]
  refine wpT_nil ?_
  intro w2 hK
  have hlt_ := hS.lt
  replace hS := hS.mv hK.ext
  replace hS := hS.addI (show RI w2 (iv a9 a0 aa ab) (-1 : Int) from RG.at1 (hK.at_ 2 (e := ((gv a9 a0 aa ab ac a1 ad ae af a2 ag ah), au, av)) (by rfl)))
  replace hS := hS.addI (show RI w2 (iv ac a1 ad ae) (0 : Int) from RG.at2 (hK.at_ 2 (e := ((gv a9 a0 aa ab ac a1 ad ae af a2 ag ah), au, av)) (by rfl)))
  replace hS := hS.addI (show RI w2 (iv af a2 ag ah) (1 : Int) from RG.at3 (hK.at_ 2 (e := ((gv a9 a0 aa ab ac a1 ad ae af a2 ag ah), au, av)) (by rfl)))
  replace hS := hS.addI (show RI w2 (iv ai a3 aj ak) aH from RG.at1 (hK.at_ 3 (e := ((gv ai a3 aj ak am a4 an ao ap a5 aq ar), aw, ax)) (by rfl)))
  replace hS := hS.addI (show RI w2 (iv am a4 an ao) aI from RG.at2 (hK.at_ 3 (e := ((gv ai a3 aj ak am a4 an ao ap a5 aq ar), aw, ax)) (by rfl)))
  replace hS := hS.addI (show RI w2 (iv ap a5 aq ar) aJ from RG.at3 (hK.at_ 3 (e := ((gv ai a3 aj ak am a4 an ao ap a5 aq ar), aw, ax)) (by rfl)))
  replace hS := hS.addI (show RI w2 (iv ay a6 az aA) bk from RG.at1 (hK.at_ 4 (e := ((gv ay a6 az aA aB a7 aC aD aE a8 aF aG), bn, bo)) (by rfl)))
  replace hS := hS.addI (show RI w2 (iv aB a7 aC aD) bl from RG.at2 (hK.at_ 4 (e := ((gv ay a6 az aA aB a7 aC aD aE a8 aF aG), bn, bo)) (by rfl)))
  replace hS := hS.addI (show RI w2 (iv aE a8 aF aG) bm from RG.at3 (hK.at_ 4 (e := ((gv ay a6 az aA aB a7 aC aD aE a8 aF aG), bn, bo)) (by rfl)))
  clear hK hlt_ hE_ Y3 Y2
  have k_1 := (hS.blk 0 rfl).cell
  have k_2 := (hS.blk 0 rfl).frozen
  go_wp2
  replace hS := (St.put (W' := ((((((w2.setCell ⟨g4, 0, none⟩ (.bool ay)).setCell ⟨g4, 1, none⟩ (.slice a6 az aA)).setCell ⟨g4, 2, none⟩ (.bool aB)).setCell ⟨g4, 3, none⟩ (.slice a7 aC aD)).setCell ⟨g4, 4, none⟩ (.bool aE)).setCell ⟨g4, 5, none⟩ (.slice a8 aF aG))) hS 0 0 [.bool ay, .slice a6 az aA, .bool aB, .slice a7 aC aD, .bool aE, .slice a8 aF aG] (cs' := #[.bool ay, .slice a6 az aA, .bool aB, .slice a7 aC aD, .bool aE, .slice a8 aF aG]) (bs' := _) rfl o4 rfl rfl (by kernel_rfl) rfl)
  exact bp_gauss1 rfl rfl rfl (hS.blk 0 rfl) ⟨_, rfl, ⟨_, _, _, RG.mk (hS.num 2 rfl) (hS.num 1 rfl) (hS.num 0 rfl), I9, S9⟩, hS.ext⟩

theorem qSub_ok (v0 v1 : Value) (q0 q1 : GQ) (n0 n1 : Nat) (w : World) (hX : GV w v0 q0 n0) (hY : GV w v1 q1 n1) (hn : n0 + n1 + 66 ≤ 12800) :
    Calls Tryz.prog 18 #[v0, v1] w fun e w' => ∃ v, e = .returned v ∧ GV w' v (q0 - q1) (n0 + n1 + 66) ∧ Ext w w' := by
  have e : q0 - q1 = q0 + q1 * GQ.i (-1) 0 := by
    ext <;> simp only [GQ.add_re, GQ.add_im, GQ.sub_re, GQ.sub_im, GQ.mul_re, GQ.mul_im, GQ.i_re, GQ.i_im] <;> grind
  rw [e, show n0 + n1 + 66 = n0 + (n1 + 64 + 1) + 1 by omega]
  exact qSub_w v0 q0 n0 v1 q1 n1 w hX hY hn
end Go.Proofs.YtclkkoiaaddllaaGreat

/- The size of numbers. -/
namespace Go.Proofs.YtclkkoiaaddllaaGreat
open Go.RowKit
set_option linter.unusedVariables false

theorem GV.at_ {w : World} {v : Value} {q : GQ} {n : Nat} {a b d : Int} (h : GV w v q n) (I : Is q a b d) : RG w v a b d := by
  obtain ⟨a1, b1, d1, h1, h2, _⟩ := h
  obtain ⟨rfl, rfl, rfl⟩ := h2.unique I
  exact h1
theorem PV.at_ {w : World} {v : Value} {p : PQ} {n : Nat} {a b d x y z : Int} (h : PV w v p n) (I : Is p.u a b d) (J : Is p.v x y z) : RP w v a b d x y z := by
  obtain ⟨a1, b1, d1, x1, y1, z1, h1, h2, _, h3, _⟩ := h
  obtain ⟨rfl, rfl, rfl⟩ := h2.unique I
  obtain ⟨rfl, rfl, rfl⟩ := h3.unique J
  exact h1
/-- The number's parts have at most n bits. -/
def Bd (q : GQ) (n : Nat) : Prop := ∃ a b d : Int, Is q a b d ∧ Sz n a b d
theorem Bd.sz {q : GQ} {n : Nat} {a b d : Int} (h : Bd q n) (I : Is q a b d) : Sz n a b d := by
  obtain ⟨a1, b1, d1, h1, h2⟩ := h
  obtain ⟨rfl, rfl, rfl⟩ := h1.unique I
  exact h2
theorem Bd.mono {q : GQ} {m n : Nat} (h : Bd q m) (hmn : m ≤ n) : Bd q n := by
  obtain ⟨a, b, d, h1, h2⟩ := h
  exact ⟨a, b, d, h1, h2.mono hmn⟩
theorem Bd.add {x y : GQ} {m n : Nat} (hx : Bd x m) (hy : Bd y n) : Bd (x + y) (m + n + 1) := by
  obtain ⟨a, b, d, h1, h2⟩ := hx
  obtain ⟨a', b', d', h3, h4⟩ := hy
  obtain ⟨u, v, t, h5⟩ := is_ex (x + y)
  exact ⟨u, v, t, h5, h1.size_add h2 h3 h4 h5⟩
theorem Bd.sub {x y : GQ} {m n : Nat} (hx : Bd x m) (hy : Bd y n) : Bd (x - y) (m + n + 1) := by
  obtain ⟨a, b, d, h1, h2⟩ := hx
  obtain ⟨a', b', d', h3, h4⟩ := hy
  obtain ⟨u, v, t, h5⟩ := is_ex (x - y)
  exact ⟨u, v, t, h5, h1.size_sub h2 h3 h4 h5⟩
theorem Bd.mul {x y : GQ} {m n : Nat} (hx : Bd x m) (hy : Bd y n) : Bd (x * y) (m + n + 1) := by
  obtain ⟨a, b, d, h1, h2⟩ := hx
  obtain ⟨a', b', d', h3, h4⟩ := hy
  obtain ⟨u, v, t, h5⟩ := is_ex (x * y)
  exact ⟨u, v, t, h5, h1.size_mul h2 h3 h4 h5⟩
theorem Bd.i {a b : Int} (l1 : -9223372036854775808 ≤ a) (u1 : a ≤ 9223372036854775807) (l2 : -9223372036854775808 ≤ b) (u2 : b ≤ 9223372036854775807) : Bd (GQ.i a b) 64 := ⟨_, _, _, is_i a b, sz_i l1 u1 l2 u2⟩
theorem Bd.three : Bd (GQ.i 3 0) 2 := ⟨_, _, _, is_i 3 0, ⟨by decide, by decide, by decide⟩⟩
theorem Bd.of {q : GQ} {a b d : Int} {n : Nat} (hd : d ≠ 0) (hr : q.re = (a : Rat) / (d : Rat)) (hi : q.im = (b : Rat) / (d : Rat)) (s : Sz n a b d) : Bd q n := by
  obtain ⟨u, v, t, h⟩ := is_ex q
  exact ⟨u, v, t, h, h.size hd hr hi s⟩
end Go.Proofs.YtclkkoiaaddllaaGreat

/- Contracts of the calculator: turning by powers of i. -/
namespace Go.Proofs.YtclkkoiaaddllaaGreat
open Go.RowKit
set_option linter.unusedVariables false

/-- Powers of i. -/
def GQ.ip : Nat → GQ
  | 0 => GQ.i 1 0
  | n + 1 => GQ.ip n * GQ.i 0 1
theorem Is.turn {q : GQ} {a b d : Int} {k : Nat} (h : Is (q * GQ.ip k) a b d) : Is (q * GQ.ip (k + 1)) (-b) a d := by
  have e : q * GQ.ip (k + 1) = (q * GQ.ip k) * GQ.i 0 1 := (GQ.mul_assoc' q (GQ.ip k) (GQ.i 0 1)).symm
  rw [e]
  have hd := cast_ne h.dne
  refine ⟨⟨h.low.1, ?_⟩, ?_, ?_⟩
  · have := h.low.2
    unfold g3 at *
    rw [Int.natAbs_neg, Nat.gcd_assoc, Nat.gcd_comm b.natAbs, ← Nat.gcd_assoc]
    exact this
  · rw [GQ.mul_re, h.re, h.im]; simp only [GQ.i_re, GQ.i_im, Rat.intCast_neg]; grind
  · rw [GQ.mul_im, h.re, h.im]; simp only [GQ.i_re, GQ.i_im]; grind
theorem Sz.turn {n : Nat} {a b d : Int} (h : Sz n a b d) : Sz n (-b) a d := ⟨by rw [Int.natAbs_neg]; exact h.b, h.a, h.d⟩

end Go.Proofs.YtclkkoiaaddllaaGreat

/- The specification of numbers: powers of z. -/
namespace Go.Proofs.YtclkkoiaaddllaaGreat
open Go.RowKit
set_option linter.unusedVariables false

theorem toRG {f : FuncId} {args : Array Value} {w : World} {q : GQ} {n : Nat} {a b d : Int} (h : Calls Tryz.prog f args w fun e w' => ∃ v, e = .returned v ∧ GV w' v q n ∧ Ext w w') (I : Is q a b d) :
    Calls Tryz.prog f args w fun e w' => ∃ v, e = .returned v ∧ RG w' v a b d ∧ Ext w w' := h.mono fun e w' ⟨v, he, hR, hx⟩ => ⟨v, he, hR.at_ I, hx⟩
end Go.Proofs.YtclkkoiaaddllaaGreat

/- The specification of numbers: turning, sameness, quotients. -/
namespace Go.Proofs.YtclkkoiaaddllaaGreat
open Go.RowKit
set_option linter.unusedVariables false

theorem rSame_yes (v u : Value) (x y : Int) (w : World) (hX : RI w v x) (hY : RI w u y) (h : x = y) :
    Calls Tryz.prog 41 #[v, u] w fun e w' => e = .returned (.bool true) ∧ Ext w w' := by
  have := rSame_any v u x y w hX hY
  rwa [show decide (x = y) = true by simpa using h] at this
set_option maxRecDepth 100000 in
set_option maxHeartbeats 1600000 in
theorem qSame_y (v0 : Value) (ax ay az : Int) (v1 : Value) (aA aB aC : Int) (w : World) (hX0 : RG w v0 ax ay az) (hX1 : RG w v1 aA aB aC) (Ha : Hid (ax = aA)) (Hb : Hid (ay = aB)) (Hd : Hid (az = aC))
      :
    Calls Tryz.prog 14 #[v0, v1] w fun e w' => e = .returned (.bool true) ∧ Ext w w' := by
  have hS := St.start w
  obtain ⟨a0, a1, a2, a3, a4, a5, a6, a7, a8, a9, aa, ab, rfl, ap, aq, ar⟩ := hX0
  replace hS := hS.addI ap
  clear ap
  replace hS := hS.addI aq
  clear aq
  replace hS := hS.addI ar
  clear ar
  obtain ⟨ac, ad, ae, af, ag, ah, ai, aj, ak, am, an, ao, rfl, au, av, aw⟩ := hX1
  replace hS := hS.addI au
  clear au
  replace hS := hS.addI av
  clear av
  replace hS := hS.addI aw
  clear aw
  have o2 : Own w w.heap.size := Own.of hS.ext (by simp)
  have o3 : Own w (w.heap.size + 1) := Own.of hS.ext (by simp)
  have aD := (St.al (St.al hS 32 #[.bool a0, .slice a1 a2 a3, .bool a4, .slice a5 a6 a7, .bool a8, .slice a9 aa ab] (g := w.heap.size) (by simp)) 32 #[.bool ac, .slice ad ae af, .bool ag, .slice ah ai aj, .bool ak, .slice am an ao] (g := (w.heap.size + 1)) (by simp))
  have k_1 := (aD.blk 1 rfl).cell
  have k_2 := (aD.blk 0 rfl).cell
  go_enter Tryz.func14, Tryz.ntmps14
  go_wp2_with fail
  clear k_1 k_2
  clear aD
  replace hS := (St.al (St.al hS 32 #[.bool a0, .slice a1 a2 a3, .bool a4, .slice a5 a6 a7, .bool a8, .slice a9 aa ab] (g := w.heap.size) (by simp)) 32 #[.bool ac, .slice ad ae af, .bool ag, .slice ah ai aj, .bool ak, .slice am an ao] (g := (w.heap.size + 1)) (by simp))
  generalize ((w.alloc (.cells #[.bool a0, .slice a1 a2 a3, .bool a4, .slice a5 a6 a7, .bool a8, .slice a9 aa ab] 32)).alloc (.cells #[.bool ac, .slice ad ae af, .bool ag, .slice ah ai aj, .bool ak, .slice am an ao] 32)) = w1 at hS ⊢
  generalize w.heap.size + 1 = g3 at hS o3 ⊢
  generalize w.heap.size = g2 at hS o2 ⊢
  refine (rSame_yes _ _ ax aA _ (hS.num 5 rfl) (hS.num 2 rfl) Ha.out).mono ?_
  rintro e w2 ⟨rfl, hx_⟩
  replace hS := hS.mv hx_
  clear hx_
  have k_3 := (hS.blk 1 rfl).cell
  have k_4 := (hS.blk 0 rfl).cell
  go_wp2_with fail
  clear k_3 k_4
  refine (rSame_yes _ _ ay aB _ (hS.num 4 rfl) (hS.num 1 rfl) Hb.out).mono ?_
  rintro e w3 ⟨rfl, hx_⟩
  replace hS := hS.mv hx_
  clear hx_
  have k_5 := (hS.blk 1 rfl).cell
  have k_6 := (hS.blk 0 rfl).cell
  go_wp2_with fail
  clear k_5 k_6
  refine (rSame_yes _ _ az aC _ (hS.num 3 rfl) (hS.num 0 rfl) Hd.out).mono ?_
  rintro e w4 ⟨rfl, hx_⟩
  replace hS := hS.mv hx_
  clear hx_
  go_wp2
  go_ret
  exact ⟨ret_bool (rfl), hS.ext⟩

theorem qSame_yes (v u : Value) (a b d a' b' d' : Int) (w : World) (hX : RG w v a b d) (hY : RG w u a' b' d') (h : a = a' ∧ b = b' ∧ d = d') :
    Calls Tryz.prog 14 #[v, u] w fun e w' => e = .returned (.bool true) ∧ Ext w w' := qSame_y v a b d u a' b' d' w hX hY (Lib.hid h.1) (Lib.hid h.2.1) (Lib.hid h.2.2)
theorem qSame_eq (v u : Value) (q : GQ) (m n : Nat) (w : World) (hX : GV w v q m) (hY : GV w u q n) :
    Calls Tryz.prog 14 #[v, u] w fun e w' => e = .returned (.bool true) ∧ Ext w w' := by
  obtain ⟨a, b, d, h1, h2, _⟩ := hX
  exact qSame_yes v u a b d a b d w h1 (hY.at_ h2) ⟨rfl, rfl, rfl⟩
set_option maxRecDepth 100000 in
set_option maxHeartbeats 6400000 in
theorem qDiv_w (v0 : Value) (bP bQ bR : Int) (v1 : Value) (aD aE b5 : Int) (w : World) (hX0 : RG w v0 bP bQ bR) (ax0a : bP.natAbs < lim) (ax0b : bQ.natAbs < lim) (ax0d : bR.natAbs < lim) (hX1 : RG w v1 aD aE b5) (aF : aD.natAbs < lim) (aG : aE.natAbs < lim) (b9 : b5.natAbs < lim)
    (an : Int) (E11 : Hid (an = aD * aD)) (cd : an.natAbs < lim)
    (ao : Int) (E16 : Hid (ao = aE * aE)) (ce : ao.natAbs < lim)
    (ap : Int) (E17 : Hid (ap = an + ao)) (cf : ap.natAbs < lim)
    (aq : Int) (E22 : Hid (aq = aD * b5)) (cg : aq.natAbs < lim)
    (ar : Int) (E28 : Hid (ar = aE * b5)) (ch : ar.natAbs < lim)
    (au : Int) (E29 : Hid (au = (0 : Int) - ar)) (ci : au.natAbs < lim)
    (N31 : Hid (ap ≠ 0))
    (ac ad ae : Int) (E31 : Hid ((ac, ad, ae) = nf aq au ap)) (A31a : ac.natAbs < lim) (A31b : ad.natAbs < lim) (A31d : ae.natAbs < lim)
    (aH aI aJ : Int) (ba bb : Nat) (K34 : Hid (MulOk ba bb bP bQ bR ac ad ae aH aI aJ))  :
    Calls Tryz.prog 61 #[v0, v1] w fun e w' => ∃ v, e = .returned v ∧ RG w' v aH aI aJ ∧ Ext w w' := by
  have hS := St.start w
  obtain ⟨bc, bd, be, bf, bg, bh, bi, bj, bk, bl, bm, bn, rfl, bo, bp, bq⟩ := hX0
  replace hS := hS.addI bo
  clear bo
  replace hS := hS.addI bp
  clear bp
  replace hS := hS.addI bq
  clear bq
  obtain ⟨br, bs, bt, bu, bv, bw, bx, bz, bA, bB, bC, bD, rfl, bE, bF, bG⟩ := hX1
  replace hS := hS.addI bE
  clear bE
  replace hS := hS.addI bF
  clear bF
  replace hS := hS.addI bG
  clear bG
  have o2 : Own w w.heap.size := Own.of hS.ext (by simp)
  have o3 : Own w (w.heap.size + 1) := Own.of hS.ext (by simp)
  have o4 : Own w (w.heap.size + 2) := Own.of hS.ext (by simp)
  go_enter Tryz.func61, Tryz.ntmps61
  go_wp2_with fail
  replace hS := (St.al (St.al (St.al hS 32 #[.bool bc, .slice bd be bf, .bool bg, .slice bh bi bj, .bool bk, .slice bl bm bn] (g := w.heap.size) (by simp)) 32 #[.bool br, .slice bs bt bu, .bool bv, .slice bw bx bz, .bool bA, .slice bB bC bD] (g := (w.heap.size + 1)) (by simp)) 32 #[.bool false, .slice none 0 0, .bool false, .slice none 0 0, .bool false, .slice none 0 0] (g := (w.heap.size + 2)) (by simp))
  generalize (((w.alloc (.cells #[.bool bc, .slice bd be bf, .bool bg, .slice bh bi bj, .bool bk, .slice bl bm bn] 32)).alloc (.cells #[.bool br, .slice bs bt bu, .bool bv, .slice bw bx bz, .bool bA, .slice bB bC bD] 32)).alloc (.cells #[.bool false, .slice none 0 0, .bool false, .slice none 0 0, .bool false, .slice none 0 0] 32)) = w1 at hS ⊢
  generalize w.heap.size + 2 = g4 at hS o4 ⊢
  generalize w.heap.size + 1 = g3 at hS o3 ⊢
  generalize w.heap.size = g2 at hS o2 ⊢
  have Y3 := ExtOf.blk (hS.blk 1 rfl)
  have hE_ := hS.ext
  refine wp_region_tame 12 (hasF [(4, .any), (9, .any), (10, .any), (11, .any)]) (Fcs [(4, .ri (an)), (9, .ri (ao)), (10, .ri (ap)), (11, .box 30 #[.bool false, .slice none 0 0])]) (Fcs_stab _) (by kernel_rfl) (by kernel_rfl) ?_
  simp only [tk1, tk0, dp1, dp0]
  refine wpT_quiet 4 (by rfl) (by kernel_rfl) ?_
  simp only [tk1, tk0, dp1, dp0]
  repeat (go_big_quiet_step (fail))
  refine wpQuiet_nil ?_
  refine wpT_eff (by rfl) (by rfl) (by rfl) ?_ ?_
  · intro W_ hK
    have hW := hK.1
    clear hK
    go_simp
    exact ⟨rfl, (qTimes_ok _ _ aD aD an _ (RI.ext (hS.num 2 rfl) hW) (RI.ext (hS.num 2 rfl) hW) aF aF E11.out cd).mono fun e w' ⟨v, he, hR, hx⟩ => ⟨v, he, hx, hR⟩⟩
  intro v_ aK aL hr_
  obtain ⟨W_, hW_⟩ := hr_
  have hv_ : Fc.holds (.ri (an)) aK aL v_ W_ := hW_.get
  clear hW_
  obtain ⟨bS, av, bT, bU, rfl, -⟩ := RI.opn hv_
  clear hv_
  clear W_
  try simp only [Act.put, sa0, sa1, sa2]
  refine wpT_quiet 4 (by rfl) (by kernel_rfl) ?_
  simp only [tk1, tk0, dp1, dp0]
  repeat (go_big_quiet_step (fail))
  refine wpQuiet_nil ?_
  refine wpT_eff (by rfl) (by rfl) (by rfl) ?_ ?_
  · intro W_ hK
    have hW := hK.1
    clear hK
    go_simp
    exact ⟨rfl, (qTimes_ok _ _ aE aE ao _ (RI.ext (hS.num 1 rfl) hW) (RI.ext (hS.num 1 rfl) hW) aG aG E16.out ce).mono fun e w' ⟨v, he, hR, hx⟩ => ⟨v, he, hx, hR⟩⟩
  intro v_ aM aN hr_
  obtain ⟨W_, hW_⟩ := hr_
  have hv_ : Fc.holds (.ri (ao)) aM aN v_ W_ := hW_.get
  clear hW_
  obtain ⟨bV, aw, bW, bX, rfl, -⟩ := RI.opn hv_
  clear hv_
  clear W_
  try simp only [Act.put, sa0, sa1, sa2]
  refine wpT_eff (by rfl) (by rfl) (by rfl) ?_ ?_
  · intro W_ hK
    have hW := hK.1
    have bH : RI W_ (iv bS av bT bU) an := hK.2 4 ((iv bS av bT bU), aK, aL) (by rfl) (by kernel_rfl)
    have bI : RI W_ (iv bV aw bW bX) ao := hK.2 9 ((iv bV aw bW bX), aM, aN) (by rfl) (by kernel_rfl)
    clear hK
    go_simp
    exact ⟨rfl, (qPlus_ok _ _ an ao ap _ bH bI cd ce E17.out cf).mono fun e w' ⟨v, he, hR, hx⟩ => ⟨v, he, hx, hR⟩⟩
  intro v_ bJ bK hr_
  obtain ⟨W_, hW_⟩ := hr_
  have hv_ : Fc.holds (.ri (ap)) bJ bK v_ W_ := hW_.get
  clear hW_
  obtain ⟨b6, af, b7, b8, rfl, -⟩ := RI.opn hv_
  clear hv_
  clear W_
  try simp only [Act.put, sa0, sa1, sa2]
  refine wpT_eff (by rfl) (by rfl) (by rfl) ?_ ?_
  · intro W_ hK
    go_simp
    exact ⟨Ext.new _ _, rfl, by simp, Blk.new _ _ _⟩
  intro v_ g5 cj hr_
  obtain ⟨W_, hW_⟩ := hr_
  obtain ⟨rfl, hl5, -⟩ : Fc.holds (.box 30 #[.bool false, .slice none 0 0]) g5 cj v_ W_ := hW_.get
  clear hW_ W_
  try simp only [Act.put, sa0, sa1, sa2]
  refine wpT_nil ?_
  intro w2 hK
  have hlt_ := hS.lt
  replace hS := hS.mv hK.ext
  replace hS := hS.addI (show RI w2 (iv bS av bT bU) an from hK.at_ 4 (e := ((iv bS av bT bU), aK, aL)) (by rfl))
  replace hS := hS.addI (show RI w2 (iv bV aw bW bX) ao from hK.at_ 9 (e := ((iv bV aw bW bX), aM, aN)) (by rfl))
  replace hS := hS.addI (show RI w2 (iv b6 af b7 b8) ap from hK.at_ 10 (e := ((iv b6 af b7 b8), bJ, bK)) (by rfl))
  have ca : w1.heap.size ≤ g5 := hK.low 11 _ (by rfl)
  have o5 : Own w g5 := Own.of hE_ ca
  replace hS := hS.addB (show Blk w2 g5 30 #[.bool false, .slice none 0 0] from (hK.at_ 11 (by rfl)).2.2) (apart_of fun p hp => Nat.ne_of_lt (Nat.lt_of_lt_of_le (hlt_ p hp) ca))
  clear hK hlt_ hE_ Y3
  clear ca hl5 cj
  have k_1 := (hS.blk 0 rfl).cell
  have k_2 := (hS.blk 0 rfl).frozen
  go_wp2_with fail
  clear k_1 k_2
  replace hS := (St.put (W' := ((w2.setCell ⟨g5, 0, none⟩ (.bool b6)).setCell ⟨g5, 1, none⟩ (.slice af b7 b8))) hS 0 0 [.bool b6, .slice af b7 b8] (cs' := #[.bool b6, .slice af b7 b8]) (bs' := _) rfl o5 rfl rfl (by kernel_rfl) rfl)
  simp only [List.set_cons_zero] at hS
  generalize ((w2.setCell ⟨g5, 0, none⟩ (.bool b6)).setCell ⟨g5, 1, none⟩ (.slice af b7 b8)) = w3 at hS ⊢
  have Y5 := ExtOf.blk (hS.blk 0 rfl)
  have Y3 := ExtOf.blk (hS.blk 2 rfl)
  have hE_ := hS.ext
  refine wp_region_tame 15 (hasF [(4, .any), (5, .any), (10, .any), (11, .any), (13, .any), (14, .any)]) (Fcs [(4, .ri (aq)), (5, .ri ((0 : Int))), (10, .ri (ar)), (11, .ri (au)), (13, .rg (ac) (ad) (ae)), (14, .box 32 #[.bool false, .slice none 0 0, .bool false, .slice none 0 0, .bool false, .slice none 0 0])]) (Fcs_stab _) (by kernel_rfl) (by kernel_rfl) ?_
  simp only [tk1, tk0, dp1, dp0]
  refine wpT_quiet 4 (by rfl) (by kernel_rfl) ?_
  simp only [tk1, tk0, dp1, dp0]
  repeat (go_big_quiet_step (fail))
  refine wpQuiet_nil ?_
  refine wpT_eff (by rfl) (by rfl) (by rfl) ?_ ?_
  · intro W_ hK
    have hW := hK.1
    clear hK
    go_simp
    exact ⟨rfl, (qTimes_ok _ _ aD b5 aq _ (RI.ext (hS.num 5 rfl) hW) (RI.ext (hS.num 3 rfl) hW) aF b9 E22.out cg).mono fun e w' ⟨v, he, hR, hx⟩ => ⟨v, he, hx, hR⟩⟩
  intro v_ aO aP hr_
  obtain ⟨W_, hW_⟩ := hr_
  have hv_ : Fc.holds (.ri (aq)) aO aP v_ W_ := hW_.get
  clear hW_
  obtain ⟨bY, ax, bZ, c0, rfl, -⟩ := RI.opn hv_
  clear hv_
  clear W_
  try simp only [Act.put, sa0, sa1, sa2]
  refine wpT_eff (by rfl) (by rfl) (by rfl) ?_ ?_
  · intro W_ hK
    have hW := hK.1
    clear hK
    go_simp
    exact ⟨rfl, (qOf_ok (0) _ (by omega) (by omega)).mono fun e w' ⟨v, he, hR, hx⟩ => ⟨v, he, hx, hR⟩⟩
  intro v_ aQ aR hr_
  obtain ⟨W_, hW_⟩ := hr_
  have hv_ : Fc.holds (.ri ((0 : Int))) aQ aR v_ W_ := hW_.get
  clear hW_
  obtain ⟨c1, ay, c2, c3, rfl, -⟩ := RI.opn hv_
  clear hv_
  clear W_
  try simp only [Act.put, sa0, sa1, sa2]
  refine wpT_quiet 4 (by rfl) (by kernel_rfl) ?_
  simp only [tk1, tk0, dp1, dp0]
  repeat (go_big_quiet_step (fail))
  refine wpQuiet_nil ?_
  refine wpT_eff (by rfl) (by rfl) (by rfl) ?_ ?_
  · intro W_ hK
    have hW := hK.1
    clear hK
    go_simp
    exact ⟨rfl, (qTimes_ok _ _ aE b5 ar _ (RI.ext (hS.num 4 rfl) hW) (RI.ext (hS.num 3 rfl) hW) aG b9 E28.out ch).mono fun e w' ⟨v, he, hR, hx⟩ => ⟨v, he, hx, hR⟩⟩
  intro v_ aS aT hr_
  obtain ⟨W_, hW_⟩ := hr_
  have hv_ : Fc.holds (.ri (ar)) aS aT v_ W_ := hW_.get
  clear hW_
  obtain ⟨c4, az, c5, c6, rfl, -⟩ := RI.opn hv_
  clear hv_
  clear W_
  try simp only [Act.put, sa0, sa1, sa2]
  refine wpT_eff (by rfl) (by rfl) (by rfl) ?_ ?_
  · intro W_ hK
    have hW := hK.1
    have bL : RI W_ (iv c1 ay c2 c3) (0 : Int) := hK.2 5 ((iv c1 ay c2 c3), aQ, aR) (by rfl) (by kernel_rfl)
    have bM : RI W_ (iv c4 az c5 c6) ar := hK.2 10 ((iv c4 az c5 c6), aS, aT) (by rfl) (by kernel_rfl)
    clear hK
    go_simp
    exact ⟨rfl, (qMinus_ok _ _ (0 : Int) ar au _ bL bM (lt_lim64 (by omega) (by omega)) ch E29.out ci).mono fun e w' ⟨v, he, hR, hx⟩ => ⟨v, he, hx, hR⟩⟩
  intro v_ aU aV hr_
  obtain ⟨W_, hW_⟩ := hr_
  have hv_ : Fc.holds (.ri (au)) aU aV v_ W_ := hW_.get
  clear hW_
  obtain ⟨c7, aA, c8, c9, rfl, -⟩ := RI.opn hv_
  clear hv_
  clear W_
  try simp only [Act.put, sa0, sa1, sa2]
  refine wpT_quiet 1 (by rfl) (by kernel_rfl) ?_
  simp only [tk1, tk0, dp1, dp0]
  repeat (go_big_quiet_step (fail))
  refine wpQuiet_nil ?_
  refine wpT_eff (by rfl) (by rfl) (by rfl) ?_ ?_
  · intro W_ hK
    have hW := hK.1
    have bN : RI W_ (iv bY ax bZ c0) aq := hK.2 4 ((iv bY ax bZ c0), aO, aP) (by rfl) (by kernel_rfl)
    have bO : RI W_ (iv c7 aA c8 c9) au := hK.2 11 ((iv c7 aA c8 c9), aU, aV) (by rfl) (by kernel_rfl)
    clear hK
    go_simp
    exact ⟨rfl, (qMake_ok _ _ _ aq au ap ac ad ae _ bN bO (RI.ext (hS.num 0 rfl) hW) cg ci cf N31.out E31.out).mono fun e w' ⟨v, he, hR, hx⟩ => ⟨v, he, hx, hR⟩⟩
  intro v_ aB aC hr_
  obtain ⟨W_, hW_⟩ := hr_
  have hv_ : Fc.holds (.rg (ac) (ad) (ae)) aB aC v_ W_ := hW_.get
  clear hW_
  obtain ⟨a3, a0, a4, a5, a6, a1, a7, a8, a9, a2, aa, ab, rfl, -, -, -⟩ := hv_
  clear W_
  try simp only [Act.put, sa0, sa1, sa2]
  refine wpT_eff (by rfl) (by rfl) (by rfl) ?_ ?_
  · intro W_ hK
    go_simp
    exact ⟨Ext.new _ _, rfl, by simp, Blk.new _ _ _⟩
  intro v_ g6 ck hr_
  obtain ⟨W_, hW_⟩ := hr_
  obtain ⟨rfl, hl6, -⟩ : Fc.holds (.box 32 #[.bool false, .slice none 0 0, .bool false, .slice none 0 0, .bool false, .slice none 0 0]) g6 ck v_ W_ := hW_.get
  clear hW_ W_
  try simp only [Act.put, sa0, sa1, sa2]
  refine wpT_nil ?_
  intro w4 hK
  have hlt_ := hS.lt
  replace hS := hS.mv hK.ext
  replace hS := hS.addI (show RI w4 (iv bY ax bZ c0) aq from hK.at_ 4 (e := ((iv bY ax bZ c0), aO, aP)) (by rfl))
  replace hS := hS.addI (show RI w4 (iv c1 ay c2 c3) (0 : Int) from hK.at_ 5 (e := ((iv c1 ay c2 c3), aQ, aR)) (by rfl))
  replace hS := hS.addI (show RI w4 (iv c4 az c5 c6) ar from hK.at_ 10 (e := ((iv c4 az c5 c6), aS, aT)) (by rfl))
  replace hS := hS.addI (show RI w4 (iv c7 aA c8 c9) au from hK.at_ 11 (e := ((iv c7 aA c8 c9), aU, aV)) (by rfl))
  replace hS := hS.addI (show RI w4 (iv a3 a0 a4 a5) ac from RG.at1 (hK.at_ 13 (e := ((gv a3 a0 a4 a5 a6 a1 a7 a8 a9 a2 aa ab), aB, aC)) (by rfl)))
  replace hS := hS.addI (show RI w4 (iv a6 a1 a7 a8) ad from RG.at2 (hK.at_ 13 (e := ((gv a3 a0 a4 a5 a6 a1 a7 a8 a9 a2 aa ab), aB, aC)) (by rfl)))
  replace hS := hS.addI (show RI w4 (iv a9 a2 aa ab) ae from RG.at3 (hK.at_ 13 (e := ((gv a3 a0 a4 a5 a6 a1 a7 a8 a9 a2 aa ab), aB, aC)) (by rfl)))
  have cb : w3.heap.size ≤ g6 := hK.low 14 _ (by rfl)
  have o6 : Own w g6 := Own.of hE_ cb
  replace hS := hS.addB (show Blk w4 g6 32 #[.bool false, .slice none 0 0, .bool false, .slice none 0 0, .bool false, .slice none 0 0] from (hK.at_ 14 (by rfl)).2.2) (apart_of fun p hp => Nat.ne_of_lt (Nat.lt_of_lt_of_le (hlt_ p hp) cb))
  clear hK hlt_ hE_ Y5 Y3
  clear cb hl6 ck
  have k_3 := (hS.blk 0 rfl).cell
  have k_4 := (hS.blk 0 rfl).frozen
  have cc := (St.put (W' := ((((((w4.setCell ⟨g6, 0, none⟩ (.bool a3)).setCell ⟨g6, 1, none⟩ (.slice a0 a4 a5)).setCell ⟨g6, 2, none⟩ (.bool a6)).setCell ⟨g6, 3, none⟩ (.slice a1 a7 a8)).setCell ⟨g6, 4, none⟩ (.bool a9)).setCell ⟨g6, 5, none⟩ (.slice a2 aa ab))) hS 0 0 [.bool a3, .slice a0 a4 a5, .bool a6, .slice a1 a7 a8, .bool a9, .slice a2 aa ab] (cs' := #[.bool a3, .slice a0 a4 a5, .bool a6, .slice a1 a7 a8, .bool a9, .slice a2 aa ab]) (bs' := _) rfl o6 rfl rfl (by kernel_rfl) rfl)
  have k_5 := (cc.blk 4 rfl).cell
  have k_6 := (cc.blk 0 rfl).cell
  go_wp2_with fail
  clear k_3 k_4 k_5 k_6
  clear cc
  replace hS := (St.put (W' := ((((((w4.setCell ⟨g6, 0, none⟩ (.bool a3)).setCell ⟨g6, 1, none⟩ (.slice a0 a4 a5)).setCell ⟨g6, 2, none⟩ (.bool a6)).setCell ⟨g6, 3, none⟩ (.slice a1 a7 a8)).setCell ⟨g6, 4, none⟩ (.bool a9)).setCell ⟨g6, 5, none⟩ (.slice a2 aa ab))) hS 0 0 [.bool a3, .slice a0 a4 a5, .bool a6, .slice a1 a7 a8, .bool a9, .slice a2 aa ab] (cs' := #[.bool a3, .slice a0 a4 a5, .bool a6, .slice a1 a7 a8, .bool a9, .slice a2 aa ab]) (bs' := _) rfl o6 rfl rfl (by kernel_rfl) rfl)
  simp only [List.set_cons_zero] at hS
  generalize ((((((w4.setCell ⟨g6, 0, none⟩ (.bool a3)).setCell ⟨g6, 1, none⟩ (.slice a0 a4 a5)).setCell ⟨g6, 2, none⟩ (.bool a6)).setCell ⟨g6, 3, none⟩ (.slice a1 a7 a8)).setCell ⟨g6, 4, none⟩ (.bool a9)).setCell ⟨g6, 5, none⟩ (.slice a2 aa ab)) = w5 at hS ⊢
  refine (qMul_ok _ _ bP bQ bR ac ad ae aH aI aJ ba bb _ (RG.mk (hS.num 15 rfl) (hS.num 14 rfl) (hS.num 13 rfl)) (RG.mk (hS.num 2 rfl) (hS.num 1 rfl) (hS.num 0 rfl)) K34.out).mono ?_
  rintro e w6 ⟨v_, rfl, hv_, hx_⟩
  replace hS := hS.mv hx_
  clear hx_
  obtain ⟨aW, ag, aX, aY, aZ, ah, b0, b1, b2, ai, b3, b4, rfl, aj, ak, am⟩ := hv_
  replace hS := hS.addI aj
  clear aj
  replace hS := hS.addI ak
  clear ak
  replace hS := hS.addI am
  clear am
  have k_7 := (hS.blk 2 rfl).cell
  have k_8 := (hS.blk 2 rfl).frozen
  go_wp2
  replace hS := (St.put (W' := ((((((w6.setCell ⟨g4, 0, none⟩ (.bool aW)).setCell ⟨g4, 1, none⟩ (.slice ag aX aY)).setCell ⟨g4, 2, none⟩ (.bool aZ)).setCell ⟨g4, 3, none⟩ (.slice ah b0 b1)).setCell ⟨g4, 4, none⟩ (.bool b2)).setCell ⟨g4, 5, none⟩ (.slice ai b3 b4))) hS 2 0 [.bool aW, .slice ag aX aY, .bool aZ, .slice ah b0 b1, .bool b2, .slice ai b3 b4] (cs' := #[.bool aW, .slice ag aX aY, .bool aZ, .slice ah b0 b1, .bool b2, .slice ai b3 b4]) (bs' := _) rfl o4 rfl rfl (by kernel_rfl) rfl)
  exact bp_gauss1 rfl rfl rfl (hS.blk 2 rfl) ⟨_, rfl, RG.mk (hS.num 2 rfl) (hS.num 1 rfl) (hS.num 0 rfl), hS.ext⟩

end Go.Proofs.YtclkkoiaaddllaaGreat
