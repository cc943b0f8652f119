/- Words and contracts that the laws share, several texts in one. -/
import Derived.Test.YtjeijmnhbckjdaaGreatDoorQNEjafl
import Derived.Test.YtjeijmnhbckjdaaGreatDoorQNDpflp
/- The specification of numbers: differences, phasors. -/
namespace Go.Proofs.YtjeijmnhbckjdaaGreatDoor
open Go.RowKit
set_option linter.unusedVariables false

theorem is_ex (q : GQ) : ∃ a b d : Int, Is q a b d := by
  have h1 : ((q.re.den : Nat) : Int) ≠ 0 := by have := q.re.den_nz; omega
  have h2 : ((q.im.den : Nat) : Int) ≠ 0 := by have := q.im.den_nz; omega
  have e1 : q.re = ((q.re.num : Int) : Rat) / (((q.re.den : Nat) : Int) : Rat) := by
    rw [← Rat.divInt_eq_div]
    exact (Rat.num_divInt_den q.re).symm
  have e2 : q.im = ((q.im.num : Int) : Rat) / (((q.im.den : Nat) : Int) : Rat) := by
    rw [← Rat.divInt_eq_div]
    exact (Rat.num_divInt_den q.im).symm
  generalize q.re.num = a at *
  generalize ((q.re.den : Nat) : Int) = d at *
  generalize q.im.num = b at *
  generalize ((q.im.den : Nat) : Int) = f at *
  have k1 := cast_ne h1
  have k2 := cast_ne h2
  have h := is_nf (a := a * f) (b := b * d) (d := d * f) (Int.mul_ne_zero h1 h2)
  refine ⟨_, _, _, ⟨h.low, ?_, ?_⟩⟩
  · rw [← h.re, e1]; simp only [Rat.intCast_mul]; grind
  · rw [← h.im, e2]; simp only [Rat.intCast_mul]; grind
theorem sz_i {a b : Int} (l1 : -9223372036854775808 ≤ a) (u1 : a ≤ 9223372036854775807) (l2 : -9223372036854775808 ≤ b) (u2 : b ≤ 9223372036854775807) : Sz 64 a b 1 := ⟨lt64 l1 u1, lt64 l2 u2, by decide⟩
/-- A value that holds the number q, in lowest terms, of at most n bits each. -/
def GV (w : World) (v : Value) (q : GQ) (n : Nat) : Prop := ∃ a b d : Int, RG w v a b d ∧ Is q a b d ∧ Sz n a b d
theorem GV.ext {w w' : World} {v : Value} {q : GQ} {n : Nat} (h : GV w v q n) (x : Ext w w') : GV w' v q n := by
  obtain ⟨a, b, d, h1, h2, h3⟩ := h
  exact ⟨a, b, d, h1.ext x, h2, h3⟩
/-- A value that holds a phasor. -/
def PV (w : World) (v : Value) (p : PQ) (n : Nat) : Prop := ∃ a b d x y z : Int, RP w v a b d x y z ∧ Is p.u a b d ∧ Sz n a b d ∧ Is p.v x y z ∧ Sz n x y z
theorem PV.ext {w w' : World} {v : Value} {p : PQ} {n : Nat} (h : PV w v p n) (e : Ext w w') : PV w' v p n := by
  obtain ⟨a, b, d, x, y, z, h1, h2⟩ := h
  exact ⟨a, b, d, x, y, z, h1.ext e, h2⟩
theorem sz_0 {n : Nat} (hn : 1 ≤ n) : Sz n 0 0 1 := Sz.mono (m := 1) ⟨by decide, by decide, by decide⟩ hn

set_option maxRecDepth 100000 in
set_option maxHeartbeats 1600000 in
theorem qSub_w (v0 : Value) (q0 : GQ) (n0 : Nat) (v1 : Value) (q1 : GQ) (n1 : Nat) (w : World) (hX0 : GV w v0 q0 n0) (hX1 : GV w v1 q1 n1)
     (hn : n0 + n1 + 66 ≤ 12800) :
    Calls Tryz.prog 45 #[v0, v1] w fun e w' => ∃ v, e = .returned v ∧ GV w' v (q0 + q1 * GQ.i (-1) 0) (n0 + (n1 + 64 + 1) + 1) ∧ Ext w w' := by
  have hS := St.start w
  obtain ⟨x0a, x0b, x0d, hX0, I0, S0⟩ := hX0
  obtain ⟨aK, aL, aM, aN, aO, aP, aQ, aR, aS, aT, aU, aV, rfl, aW, aX, aY⟩ := hX0
  replace hS := hS.addI aW
  clear aW
  replace hS := hS.addI aX
  clear aX
  replace hS := hS.addI aY
  clear aY
  obtain ⟨x1a, x1b, x1d, hX1, I1, S1⟩ := hX1
  obtain ⟨aZ, b0, b1, b2, b3, b4, b5, b6, b7, b8, b9, ba, rfl, bb, bc, bd⟩ := hX1
  replace hS := hS.addI bb
  clear bb
  replace hS := hS.addI bc
  clear bc
  replace hS := hS.addI bd
  clear bd
  have o2 : Own w w.heap.size := Own.of hS.ext (by simp)
  have o3 : Own w (w.heap.size + 1) := Own.of hS.ext (by simp)
  have o4 : Own w (w.heap.size + 2) := Own.of hS.ext (by simp)
  go_enter Tryz.func45, Tryz.ntmps45
  go_wp2_with fail
  replace hS := (St.al (St.al (St.al hS 26 #[.bool aK, .slice aL aM aN, .bool aO, .slice aP aQ aR, .bool aS, .slice aT aU aV] (g := w.heap.size) (by simp)) 26 #[.bool aZ, .slice b0 b1 b2, .bool b3, .slice b4 b5 b6, .bool b7, .slice b8 b9 ba] (g := (w.heap.size + 1)) (by simp)) 26 #[.bool false, .slice none 0 0, .bool false, .slice none 0 0, .bool false, .slice none 0 0] (g := (w.heap.size + 2)) (by simp))
  generalize (((w.alloc (.cells #[.bool aK, .slice aL aM aN, .bool aO, .slice aP aQ aR, .bool aS, .slice aT aU aV] 26)).alloc (.cells #[.bool aZ, .slice b0 b1 b2, .bool b3, .slice b4 b5 b6, .bool b7, .slice b8 b9 ba] 26)).alloc (.cells #[.bool false, .slice none 0 0, .bool false, .slice none 0 0, .bool false, .slice none 0 0] 26)) = w1 at hS ⊢
  generalize w.heap.size + 2 = g4 at hS o4 ⊢
  generalize w.heap.size + 1 = g3 at hS o3 ⊢
  generalize w.heap.size = g2 at hS o2 ⊢
  obtain ⟨aH, aI, aJ, I8⟩ := is_ex (q1 * (GQ.i (-1) (0)))
  have K8 := MulOk.of I1 S1 (is_i (-1) (0)) (sz_i (by omega) (by omega) (by omega) (by omega)) I8 (by omega)
  have S8 := K8.size
  obtain ⟨bk, bl, bm, I9⟩ := is_ex (q0 + (q1 * (GQ.i (-1) (0))))
  have K9 := AddOk.of I0 S0 I8 S8 I9 (by omega)
  have S9 := K9.size
  have Y3 := ExtOf.blk (hS.blk 1 rfl)
  have Y2 := ExtOf.blk (hS.blk 2 rfl)
  have hE_ := hS.ext
  refine wp_region_tame 5 (hasF [(2, .any), (3, .any), (4, .any)]) (Fcs [(2, .rg ((-1 : Int)) ((0 : Int)) ((1 : Int))), (3, .rg (aH) (aI) (aJ)), (4, .rg (bk) (bl) (bm))]) (Fcs_stab _) (by kernel_rfl) (by kernel_rfl) ?_
  simp only [tk1, tk0, dp1, dp0]
  refine wpT_quiet 2 (by rfl) (by kernel_rfl) ?_
  simp only [tk1, tk0, dp1, dp0]
  repeat (go_big_quiet_step (fail))
  refine wpQuiet_nil ?_
  refine wpT_eff (by rfl) (by rfl) (by rfl) ?_ ?_
  · intro W_ hK
    have hW := hK.1
    clear hK
    go_simp
    exact ⟨rfl, (qInt_ok (-1) (0) _ (by omega) (by omega) (by omega) (by omega)).mono fun e w' ⟨v, he, hR, hx⟩ => ⟨v, he, hx, hR⟩⟩
  intro v_ au av hr_
  obtain ⟨W_, hW_⟩ := hr_
  have hv_ : Fc.holds (.rg ((-1 : Int)) ((0 : Int)) ((1 : Int))) au av v_ W_ := hW_.get
  clear hW_
  obtain ⟨a9, a0, aa, ab, ac, a1, ad, ae, af, a2, ag, ah, rfl, -, -, -⟩ := hv_
  clear W_
  try simp only [Act.put, sa0, sa1, sa2]
  refine wpT_eff (by rfl) (by rfl) (by rfl) ?_ ?_
  · intro W_ hK
    have hW := hK.1
    have be : RI W_ (iv a9 a0 aa ab) (-1 : Int) := RG.at1 (hK.2 2 ((gv a9 a0 aa ab ac a1 ad ae af a2 ag ah), au, av) (by rfl) (by kernel_rfl))
    have bf : RI W_ (iv ac a1 ad ae) (0 : Int) := RG.at2 (hK.2 2 ((gv a9 a0 aa ab ac a1 ad ae af a2 ag ah), au, av) (by rfl) (by kernel_rfl))
    have bg : RI W_ (iv af a2 ag ah) (1 : Int) := RG.at3 (hK.2 2 ((gv a9 a0 aa ab ac a1 ad ae af a2 ag ah), au, av) (by rfl) (by kernel_rfl))
    clear hK
    go_simp
    exact ⟨rfl, (qMul_ok _ _ x1a x1b x1d (-1 : Int) (0 : Int) (1 : Int) aH aI aJ _ _ _ (RG.mk (RI.ext (hS.num 2 rfl) hW) (RI.ext (hS.num 1 rfl) hW) (RI.ext (hS.num 0 rfl) hW)) (RG.mk be bf bg) K8).mono fun e w' ⟨v, he, hR, hx⟩ => ⟨v, he, hx, hR⟩⟩
  intro v_ aw ax hr_
  obtain ⟨W_, hW_⟩ := hr_
  have hv_ : Fc.holds (.rg (aH) (aI) (aJ)) aw ax v_ W_ := hW_.get
  clear hW_
  obtain ⟨ai, a3, aj, ak, am, a4, an, ao, ap, a5, aq, ar, rfl, -, -, -⟩ := hv_
  clear W_
  try simp only [Act.put, sa0, sa1, sa2]
  refine wpT_eff (by rfl) (by rfl) (by rfl) ?_ ?_
  · intro W_ hK
    have hW := hK.1
    have bh : RI W_ (iv ai a3 aj ak) aH := RG.at1 (hK.2 3 ((gv ai a3 aj ak am a4 an ao ap a5 aq ar), aw, ax) (by rfl) (by kernel_rfl))
    have bi : RI W_ (iv am a4 an ao) aI := RG.at2 (hK.2 3 ((gv ai a3 aj ak am a4 an ao ap a5 aq ar), aw, ax) (by rfl) (by kernel_rfl))
    have bj : RI W_ (iv ap a5 aq ar) aJ := RG.at3 (hK.2 3 ((gv ai a3 aj ak am a4 an ao ap a5 aq ar), aw, ax) (by rfl) (by kernel_rfl))
    clear hK
    go_simp
    exact ⟨rfl, (qAdd_ok _ _ x0a x0b x0d aH aI aJ bk bl bm _ _ _ (RG.mk (RI.ext (hS.num 5 rfl) hW) (RI.ext (hS.num 4 rfl) hW) (RI.ext (hS.num 3 rfl) hW)) (RG.mk bh bi bj) K9).mono fun e w' ⟨v, he, hR, hx⟩ => ⟨v, he, hx, hR⟩⟩
  intro v_ bn bo hr_
  obtain ⟨W_, hW_⟩ := hr_
  have hv_ : Fc.holds (.rg (bk) (bl) (bm)) bn bo v_ W_ := hW_.get
  clear hW_
  obtain ⟨ay, a6, az, aA, aB, a7, aC, aD, aE, a8, aF, aG, rfl, -, -, -⟩ := hv_
  clear W_
  try simp only [Act.put, sa0, sa1, sa2]
  refine wpT_nil ?_
  intro w2 hK
  have hlt_ := hS.lt
  replace hS := hS.mv hK.ext
  replace hS := hS.addI (show RI w2 (iv a9 a0 aa ab) (-1 : Int) from RG.at1 (hK.at_ 2 (e := ((gv a9 a0 aa ab ac a1 ad ae af a2 ag ah), au, av)) (by rfl)))
  replace hS := hS.addI (show RI w2 (iv ac a1 ad ae) (0 : Int) from RG.at2 (hK.at_ 2 (e := ((gv a9 a0 aa ab ac a1 ad ae af a2 ag ah), au, av)) (by rfl)))
  replace hS := hS.addI (show RI w2 (iv af a2 ag ah) (1 : Int) from RG.at3 (hK.at_ 2 (e := ((gv a9 a0 aa ab ac a1 ad ae af a2 ag ah), au, av)) (by rfl)))
  replace hS := hS.addI (show RI w2 (iv ai a3 aj ak) aH from RG.at1 (hK.at_ 3 (e := ((gv ai a3 aj ak am a4 an ao ap a5 aq ar), aw, ax)) (by rfl)))
  replace hS := hS.addI (show RI w2 (iv am a4 an ao) aI from RG.at2 (hK.at_ 3 (e := ((gv ai a3 aj ak am a4 an ao ap a5 aq ar), aw, ax)) (by rfl)))
  replace hS := hS.addI (show RI w2 (iv ap a5 aq ar) aJ from RG.at3 (hK.at_ 3 (e := ((gv ai a3 aj ak am a4 an ao ap a5 aq ar), aw, ax)) (by rfl)))
  replace hS := hS.addI (show RI w2 (iv ay a6 az aA) bk from RG.at1 (hK.at_ 4 (e := ((gv ay a6 az aA aB a7 aC aD aE a8 aF aG), bn, bo)) (by rfl)))
  replace hS := hS.addI (show RI w2 (iv aB a7 aC aD) bl from RG.at2 (hK.at_ 4 (e := ((gv ay a6 az aA aB a7 aC aD aE a8 aF aG), bn, bo)) (by rfl)))
  replace hS := hS.addI (show RI w2 (iv aE a8 aF aG) bm from RG.at3 (hK.at_ 4 (e := ((gv ay a6 az aA aB a7 aC aD aE a8 aF aG), bn, bo)) (by rfl)))
  clear hK hlt_ hE_ Y3 Y2
  have k_1 := (hS.blk 0 rfl).cell
  have k_2 := (hS.blk 0 rfl).frozen
  go_wp2
  replace hS := (St.put (W' := ((((((w2.setCell ⟨g4, 0, none⟩ (.bool ay)).setCell ⟨g4, 1, none⟩ (.slice a6 az aA)).setCell ⟨g4, 2, none⟩ (.bool aB)).setCell ⟨g4, 3, none⟩ (.slice a7 aC aD)).setCell ⟨g4, 4, none⟩ (.bool aE)).setCell ⟨g4, 5, none⟩ (.slice a8 aF aG))) hS 0 0 [.bool ay, .slice a6 az aA, .bool aB, .slice a7 aC aD, .bool aE, .slice a8 aF aG] (cs' := #[.bool ay, .slice a6 az aA, .bool aB, .slice a7 aC aD, .bool aE, .slice a8 aF aG]) (bs' := _) rfl o4 rfl rfl (by kernel_rfl) rfl)
  exact bp_gauss1 rfl rfl rfl (hS.blk 0 rfl) ⟨_, rfl, ⟨_, _, _, RG.mk (hS.num 2 rfl) (hS.num 1 rfl) (hS.num 0 rfl), I9, S9⟩, hS.ext⟩

theorem qSub_ok (v0 v1 : Value) (q0 q1 : GQ) (n0 n1 : Nat) (w : World) (hX : GV w v0 q0 n0) (hY : GV w v1 q1 n1) (hn : n0 + n1 + 66 ≤ 12800) :
    Calls Tryz.prog 45 #[v0, v1] w fun e w' => ∃ v, e = .returned v ∧ GV w' v (q0 - q1) (n0 + n1 + 66) ∧ Ext w w' := by
  have e : q0 - q1 = q0 + q1 * GQ.i (-1) 0 := by
    ext <;> simp only [GQ.add_re, GQ.add_im, GQ.sub_re, GQ.sub_im, GQ.mul_re, GQ.mul_im, GQ.i_re, GQ.i_im] <;> grind
  rw [e, show n0 + n1 + 66 = n0 + (n1 + 64 + 1) + 1 by omega]
  exact qSub_w v0 q0 n0 v1 q1 n1 w hX hY hn
end Go.Proofs.YtjeijmnhbckjdaaGreatDoor

/- The size of numbers. -/
namespace Go.Proofs.YtjeijmnhbckjdaaGreatDoor
open Go.RowKit
set_option linter.unusedVariables false

theorem GV.at_ {w : World} {v : Value} {q : GQ} {n : Nat} {a b d : Int} (h : GV w v q n) (I : Is q a b d) : RG w v a b d := by
  obtain ⟨a1, b1, d1, h1, h2, _⟩ := h
  obtain ⟨rfl, rfl, rfl⟩ := h2.unique I
  exact h1
theorem PV.at_ {w : World} {v : Value} {p : PQ} {n : Nat} {a b d x y z : Int} (h : PV w v p n) (I : Is p.u a b d) (J : Is p.v x y z) : RP w v a b d x y z := by
  obtain ⟨a1, b1, d1, x1, y1, z1, h1, h2, _, h3, _⟩ := h
  obtain ⟨rfl, rfl, rfl⟩ := h2.unique I
  obtain ⟨rfl, rfl, rfl⟩ := h3.unique J
  exact h1
/-- The number's parts have at most n bits. -/
def Bd (q : GQ) (n : Nat) : Prop := ∃ a b d : Int, Is q a b d ∧ Sz n a b d
theorem Bd.sz {q : GQ} {n : Nat} {a b d : Int} (h : Bd q n) (I : Is q a b d) : Sz n a b d := by
  obtain ⟨a1, b1, d1, h1, h2⟩ := h
  obtain ⟨rfl, rfl, rfl⟩ := h1.unique I
  exact h2
theorem Bd.mono {q : GQ} {m n : Nat} (h : Bd q m) (hmn : m ≤ n) : Bd q n := by
  obtain ⟨a, b, d, h1, h2⟩ := h
  exact ⟨a, b, d, h1, h2.mono hmn⟩
theorem Bd.add {x y : GQ} {m n : Nat} (hx : Bd x m) (hy : Bd y n) : Bd (x + y) (m + n + 1) := by
  obtain ⟨a, b, d, h1, h2⟩ := hx
  obtain ⟨a', b', d', h3, h4⟩ := hy
  obtain ⟨u, v, t, h5⟩ := is_ex (x + y)
  exact ⟨u, v, t, h5, h1.size_add h2 h3 h4 h5⟩
theorem Bd.sub {x y : GQ} {m n : Nat} (hx : Bd x m) (hy : Bd y n) : Bd (x - y) (m + n + 1) := by
  obtain ⟨a, b, d, h1, h2⟩ := hx
  obtain ⟨a', b', d', h3, h4⟩ := hy
  obtain ⟨u, v, t, h5⟩ := is_ex (x - y)
  exact ⟨u, v, t, h5, h1.size_sub h2 h3 h4 h5⟩
theorem Bd.mul {x y : GQ} {m n : Nat} (hx : Bd x m) (hy : Bd y n) : Bd (x * y) (m + n + 1) := by
  obtain ⟨a, b, d, h1, h2⟩ := hx
  obtain ⟨a', b', d', h3, h4⟩ := hy
  obtain ⟨u, v, t, h5⟩ := is_ex (x * y)
  exact ⟨u, v, t, h5, h1.size_mul h2 h3 h4 h5⟩
theorem Bd.i {a b : Int} (l1 : -9223372036854775808 ≤ a) (u1 : a ≤ 9223372036854775807) (l2 : -9223372036854775808 ≤ b) (u2 : b ≤ 9223372036854775807) : Bd (GQ.i a b) 64 := ⟨_, _, _, is_i a b, sz_i l1 u1 l2 u2⟩
theorem Bd.three : Bd (GQ.i 3 0) 2 := ⟨_, _, _, is_i 3 0, ⟨by decide, by decide, by decide⟩⟩
theorem Bd.of {q : GQ} {a b d : Int} {n : Nat} (hd : d ≠ 0) (hr : q.re = (a : Rat) / (d : Rat)) (hi : q.im = (b : Rat) / (d : Rat)) (s : Sz n a b d) : Bd q n := by
  obtain ⟨u, v, t, h⟩ := is_ex q
  exact ⟨u, v, t, h, h.size hd hr hi s⟩
theorem Bd.produ {p q : PQ} {m n : Nat} (h1 : Bd p.u m) (h2 : Bd p.v m) (h3 : Bd q.u n) (h4 : Bd q.v n) : Bd (p * q).u (2 * (m + n) + 69) := ((h1.mul h3).add (Bd.three.mul (h2.mul h4))).mono (by omega)
theorem Bd.prodv {p q : PQ} {m n : Nat} (h1 : Bd p.u m) (h2 : Bd p.v m) (h3 : Bd q.u n) (h4 : Bd q.v n) : Bd (p * q).v (2 * (m + n) + 69) := ((h1.mul h4).add (h2.mul h3)).mono (by omega)
theorem rat_half (a : Int) : (a : Rat) / ((2 : Int) : Rat) = (a : Rat) / 2 := by simp
theorem Bd.mk2 {q : GQ} {a b : Int} (hr : q.re = (a : Rat) / 2) (hi : q.im = (b : Rat) / 2) (ha : a.natAbs ≤ 3) (hb : b.natAbs ≤ 3) : Bd q 2 :=
  Bd.of (a := a) (b := b) (d := 2) (by omega) (by rw [hr, rat_half]) (by rw [hi, rat_half]) ⟨by omega, by omega, by decide⟩
/-- The powers of z are small. -/
theorem Bd.zp {k : Nat} (hk : k < 12) : Bd (PQ.zp k).u 2 ∧ Bd (PQ.zp k).v 2 := by
  have key : ∀ a b c d : Int, a.natAbs ≤ 3 → b.natAbs ≤ 3 → c.natAbs ≤ 3 → d.natAbs ≤ 3 → PQ.zp k = PQ.mk4 ((a : Rat) / 2) ((b : Rat) / 2) ((c : Rat) / 2) ((d : Rat) / 2) → Bd (PQ.zp k).u 2 ∧ Bd (PQ.zp k).v 2 := by
    intro a b c d ha hb hc hd e
    rw [e]
    exact ⟨Bd.mk2 rfl rfl ha hb, Bd.mk2 rfl rfl hc hd⟩
  have go : ∀ {a b c d : Rat} {a' b' c' d' : Int}, a = (a' : Rat) / 2 → b = (b' : Rat) / 2 → c = (c' : Rat) / 2 → d = (d' : Rat) / 2 → PQ.mk4 a b c d = PQ.mk4 ((a' : Rat) / 2) ((b' : Rat) / 2) ((c' : Rat) / 2) ((d' : Rat) / 2) := by
    intro a b c d a' b' c' d' h1 h2 h3 h4
    rw [h1, h2, h3, h4]
  match k, hk with
  | 0, _ => exact key 2 0 0 0 (by decide) (by decide) (by decide) (by decide) (PQ.zp0.trans (go (by grind) (by grind) (by grind) (by grind)))
  | 1, _ => exact key 0 1 1 0 (by decide) (by decide) (by decide) (by decide) (PQ.zp1.trans (go (by grind) (by grind) (by grind) (by grind)))
  | 2, _ => exact key 1 0 0 1 (by decide) (by decide) (by decide) (by decide) (PQ.zp2.trans (go (by grind) (by grind) (by grind) (by grind)))
  | 3, _ => exact key 0 2 0 0 (by decide) (by decide) (by decide) (by decide) (PQ.zp3.trans (go (by grind) (by grind) (by grind) (by grind)))
  | 4, _ => exact key (-1) 0 0 1 (by decide) (by decide) (by decide) (by decide) (PQ.zp4.trans (go (by grind) (by grind) (by grind) (by grind)))
  | 5, _ => exact key 0 1 (-1) 0 (by decide) (by decide) (by decide) (by decide) (PQ.zp5.trans (go (by grind) (by grind) (by grind) (by grind)))
  | 6, _ => exact key (-2) 0 0 0 (by decide) (by decide) (by decide) (by decide) (PQ.zp6.trans (go (by grind) (by grind) (by grind) (by grind)))
  | 7, _ => exact key 0 (-1) (-1) 0 (by decide) (by decide) (by decide) (by decide) (PQ.zp7.trans (go (by grind) (by grind) (by grind) (by grind)))
  | 8, _ => exact key (-1) 0 0 (-1) (by decide) (by decide) (by decide) (by decide) (PQ.zp8.trans (go (by grind) (by grind) (by grind) (by grind)))
  | 9, _ => exact key 0 (-2) 0 0 (by decide) (by decide) (by decide) (by decide) (PQ.zp9.trans (go (by grind) (by grind) (by grind) (by grind)))
  | 10, _ => exact key 1 0 0 (-1) (by decide) (by decide) (by decide) (by decide) (PQ.zp10.trans (go (by grind) (by grind) (by grind) (by grind)))
  | 11, _ => exact key 0 (-1) 1 0 (by decide) (by decide) (by decide) (by decide) (PQ.zp11.trans (go (by grind) (by grind) (by grind) (by grind)))
end Go.Proofs.YtjeijmnhbckjdaaGreatDoor

/- Contracts of the calculator: turning by powers of i. -/
namespace Go.Proofs.YtjeijmnhbckjdaaGreatDoor
open Go.RowKit
set_option linter.unusedVariables false

/-- Powers of i. -/
def GQ.ip : Nat → GQ
  | 0 => GQ.i 1 0
  | n + 1 => GQ.ip n * GQ.i 0 1
theorem GQ.mul_i1 (q : GQ) : q * GQ.i 1 0 = q := by
  ext <;> simp only [GQ.mul_re, GQ.mul_im, GQ.i_re, GQ.i_im] <;> grind
theorem Is.turn {q : GQ} {a b d : Int} {k : Nat} (h : Is (q * GQ.ip k) a b d) : Is (q * GQ.ip (k + 1)) (-b) a d := by
  have e : q * GQ.ip (k + 1) = (q * GQ.ip k) * GQ.i 0 1 := (GQ.mul_assoc' q (GQ.ip k) (GQ.i 0 1)).symm
  rw [e]
  have hd := cast_ne h.dne
  refine ⟨⟨h.low.1, ?_⟩, ?_, ?_⟩
  · have := h.low.2
    unfold g3 at *
    rw [Int.natAbs_neg, Nat.gcd_assoc, Nat.gcd_comm b.natAbs, ← Nat.gcd_assoc]
    exact this
  · rw [GQ.mul_re, h.re, h.im]; simp only [GQ.i_re, GQ.i_im, Rat.intCast_neg]; grind
  · rw [GQ.mul_im, h.re, h.im]; simp only [GQ.i_re, GQ.i_im]; grind
theorem Sz.turn {n : Nat} {a b d : Int} (h : Sz n a b d) : Sz n (-b) a d := ⟨by rw [Int.natAbs_neg]; exact h.b, h.a, h.d⟩

set_option maxRecDepth 100000 in
set_option maxHeartbeats 3200000 in
theorem erotate_w (gc : Nat) (v1 : Value) (q1 : GQ) (n1 : Nat) (K : Nat) (w : World) (hc : Calm w gc) (hX1 : GV w v1 q1 n1)
     (hn : n1 ≤ 12800) (hK : K ≤ 100) :
    Calls Tryz.prog 64 #[.pointer (some ⟨gc, 0, none⟩), v1, .int .i64 ((K : Int))] w fun e w' => ∃ v, e = .returned v ∧ GV w' v (q1 * GQ.ip K) (n1) ∧ Ext w w' := by
  have hS := St.start w
  obtain ⟨aD, aE, az, hX1, I1, S1⟩ := hX1
  obtain ⟨ak, am, an, ao, ap, aq, ar, au, av, aw, ax, ay, rfl, aF, aG, aH⟩ := hX1
  replace hS := hS.addI aF
  clear aF
  replace hS := hS.addI aG
  clear aG
  replace hS := hS.addI aH
  clear aH
  replace hS := hS.addB hc trivial
  clear hc
  have o4 : Own w w.heap.size := Own.of hS.ext (by simp)
  have o6 : Own w (w.heap.size + 1) := Own.of hS.ext (by simp)
  go_enter Tryz.func64, Tryz.ntmps64
  go_wp2_with fail
  replace hS := (St.al (St.al hS 26 #[.bool ak, .slice am an ao, .bool ap, .slice aq ar au, .bool av, .slice aw ax ay] (g := w.heap.size) (by simp)) 26 #[.bool false, .slice none 0 0, .bool false, .slice none 0 0, .bool false, .slice none 0 0] (g := (w.heap.size + 1)) (by simp))
  generalize ((w.alloc (.cells #[.bool ak, .slice am an ao, .bool ap, .slice aq ar au, .bool av, .slice aw ax ay] 26)).alloc (.cells #[.bool false, .slice none 0 0, .bool false, .slice none 0 0, .bool false, .slice none 0 0] 26)) = w1 at hS ⊢
  generalize w.heap.size + 1 = g6 at hS o6 ⊢
  generalize w.heap.size = g4 at hS o4 ⊢
  have Y4 := ExtOf.blk (hS.blk 1 rfl)
  have hE_ := hS.ext
  refine wp_region_tame 8 (hasF [(2, .any), (5, .any), (6, .any), (7, .any)]) (Fcs [(2, .ri (aD)), (5, .ri (aE)), (6, .box 24 #[.bool false, .slice none 0 0]), (7, .box 24 #[.bool false, .slice none 0 0])]) (Fcs_stab _) (by kernel_rfl) (by kernel_rfl) ?_
  simp only [tk1, tk0, dp1, dp0]
  refine wpT_quiet 2 (by rfl) (by kernel_rfl) ?_
  simp only [tk1, tk0, dp1, dp0]
  repeat (go_big_quiet_step (fail))
  refine wpQuiet_nil ?_
  refine wpT_eff (by rfl) (by rfl) (by rfl) ?_ ?_
  · intro W_ hK
    have hW := hK.1
    clear hK
    go_simp
    exact ⟨rfl, (eclone_any _ aD _ (RI.ext (hS.num 2 rfl) hW) (lim_of S1.a (by omega))).mono fun e w' ⟨v, he, hR, hx⟩ => ⟨v, he, hx, hR⟩⟩
  intro v_ aI aJ hr_
  obtain ⟨W_, hW_⟩ := hr_
  have hv_ : Fc.holds (.ri (aD)) aI aJ v_ W_ := hW_.get
  clear hW_
  obtain ⟨ac, a1, ad, ae, rfl, -⟩ := RI.opn hv_
  clear hv_
  clear W_
  try simp only [Act.put, sa0, sa1, sa2]
  refine wpT_quiet 2 (by rfl) (by kernel_rfl) ?_
  simp only [tk1, tk0, dp1, dp0]
  repeat (go_big_quiet_step (fail))
  refine wpQuiet_nil ?_
  refine wpT_eff (by rfl) (by rfl) (by rfl) ?_ ?_
  · intro W_ hK
    have hW := hK.1
    clear hK
    go_simp
    exact ⟨rfl, (eclone_any _ aE _ (RI.ext (hS.num 1 rfl) hW) (lim_of S1.b (by omega))).mono fun e w' ⟨v, he, hR, hx⟩ => ⟨v, he, hx, hR⟩⟩
  intro v_ aK aL hr_
  obtain ⟨W_, hW_⟩ := hr_
  have hv_ : Fc.holds (.ri (aE)) aK aL v_ W_ := hW_.get
  clear hW_
  obtain ⟨aA, a8, aB, aC, rfl, -⟩ := RI.opn hv_
  clear hv_
  clear W_
  try simp only [Act.put, sa0, sa1, sa2]
  refine wpT_eff (by rfl) (by rfl) (by rfl) ?_ ?_
  · intro W_ hK
    go_simp
    exact ⟨Ext.new _ _, rfl, by simp, Blk.new _ _ _⟩
  intro v_ g7 aW hr_
  obtain ⟨W_, hW_⟩ := hr_
  obtain ⟨rfl, aX, -⟩ : Fc.holds (.box 24 #[.bool false, .slice none 0 0]) g7 aW v_ W_ := hW_.get
  clear hW_ W_
  try simp only [Act.put, sa0, sa1, sa2]
  refine wpT_eff (by rfl) (by rfl) (by rfl) ?_ ?_
  · intro W_ hK
    go_simp
    exact ⟨Ext.new _ _, rfl, by simp, Blk.new _ _ _⟩
  intro v_ g8 aY hr_
  obtain ⟨W_, hW_⟩ := hr_
  obtain ⟨rfl, aZ, -⟩ : Fc.holds (.box 24 #[.bool false, .slice none 0 0]) g8 aY v_ W_ := hW_.get
  clear hW_ W_
  try simp only [Act.put, sa0, sa1, sa2]
  refine wpT_nil ?_
  intro w2 hK
  have hlt_ := hS.lt
  replace hS := hS.mv hK.ext
  replace hS := hS.addI (show RI w2 (iv ac a1 ad ae) aD from hK.at_ 2 (e := ((iv ac a1 ad ae), aI, aJ)) (by rfl))
  replace hS := hS.addI (show RI w2 (iv aA a8 aB aC) aE from hK.at_ 5 (e := ((iv aA a8 aB aC), aK, aL)) (by rfl))
  have aT : w1.heap.size ≤ g7 := hK.low 6 _ (by rfl)
  have o7 : Own w g7 := Own.of hE_ aT
  replace hS := hS.addB (show Blk w2 g7 24 #[.bool false, .slice none 0 0] from (hK.at_ 6 (by rfl)).2.2) (apart_of fun p hp => Nat.ne_of_lt (Nat.lt_of_lt_of_le (hlt_ p hp) aT))
  have aU : w1.heap.size ≤ g8 := hK.low 7 _ (by rfl)
  have o8 : Own w g8 := Own.of hE_ aU
  replace hS := hS.addB (show Blk w2 g8 24 #[.bool false, .slice none 0 0] from (hK.at_ 7 (by rfl)).2.2) ⟨tame_ne aX aZ (hK.disj 6 7 _ _ (by omega) (by rfl) (by rfl)), (apart_of fun p hp => Nat.ne_of_lt (Nat.lt_of_lt_of_le (hlt_ p hp) aU))⟩
  clear hK hlt_ hE_ Y4
  clear aT aX aW
  clear aU aZ aY
  have k_1 := (hS.blk 1 rfl).cell
  have k_2 := (hS.blk 1 rfl).frozen
  have aV := (St.put (W' := ((w2.setCell ⟨g7, 0, none⟩ (.bool ac)).setCell ⟨g7, 1, none⟩ (.slice a1 ad ae))) hS 1 0 [.bool ac, .slice a1 ad ae] (cs' := #[.bool ac, .slice a1 ad ae]) (bs' := _) rfl o7 rfl rfl (by kernel_rfl) rfl)
  have k_3 := (aV.blk 0 rfl).cell
  have k_4 := (aV.blk 0 rfl).frozen
  go_wp2_with fail
  clear k_1 k_2 k_3 k_4
  clear aV
  replace hS := (St.put (W' := ((((w2.setCell ⟨g7, 0, none⟩ (.bool ac)).setCell ⟨g7, 1, none⟩ (.slice a1 ad ae)).setCell ⟨g8, 0, none⟩ (.bool aA)).setCell ⟨g8, 1, none⟩ (.slice a8 aB aC))) (St.put (W' := ((w2.setCell ⟨g7, 0, none⟩ (.bool ac)).setCell ⟨g7, 1, none⟩ (.slice a1 ad ae))) hS 1 0 [.bool ac, .slice a1 ad ae] (cs' := #[.bool ac, .slice a1 ad ae]) (bs' := _) rfl o7 rfl rfl (by kernel_rfl) rfl) 0 0 [.bool aA, .slice a8 aB aC] (cs' := #[.bool aA, .slice a8 aB aC]) (bs' := _) rfl o8 rfl rfl (by kernel_rfl) rfl)
  simp only [List.set_cons_zero, List.set_cons_succ] at hS
  generalize ((((w2.setCell ⟨g7, 0, none⟩ (.bool ac)).setCell ⟨g7, 1, none⟩ (.slice a1 ad ae)).setCell ⟨g8, 0, none⟩ (.bool aA)).setCell ⟨g8, 1, none⟩ (.slice a8 aB aC)) = w3 at hS ⊢
  go_loopw [16] (fun i wr => ∃ k : Nat, k ≤ K ∧ i = .int .i64 (k : Int) ∧ ∃ (af a2 : Int) (a3 a9 : Bool) (a0 a7 : Option Addr) (a4 a5 aa ab : Nat), (Is (q1 * GQ.ip k) af a2 az ∧ Sz n1 af a2 az) ∧ St w wr [(g8, 24, #[.bool a9, .slice a7 aa ab]), (g7, 24, #[.bool a3, .slice a0 a4 a5]), (g6, 26, #[.bool false, .slice none 0 0, .bool false, .slice none 0 0, .bool false, .slice none 0 0]), (g4, 26, #[.bool ak, .slice am an ao, .bool ap, .slice aq ar au, .bool av, .slice aw ax ay]), (gc, 66, #[.int .i64 0])] [nz (iv a3 a0 a4 a5) (af), nz (iv a9 a7 aa ab) (a2), nz (iv ak am an ao) (aD), nz (iv ap aq ar au) (aE), nz (iv av aw ax ay) (az)]) (fun i _ => K - (intOf i).toNat)
  case atStart => exact ⟨0, by omega, rfl, aD, aE, ac, aA, a1, a8, ad, ae, aB, aC, ⟨by rw [show GQ.ip 0 = GQ.i 1 0 from rfl, GQ.mul_i1]; exact I1, S1⟩, hS.sel [1, 0, 4, 3, 2] rfl⟩
  case round =>
    clear hS
    obtain ⟨k, hk, rfl, af, a2, a3, a9, a0, a7, a4, a5, aa, ab, hpure, hS⟩ := hrel
    by_cases hkL : k < K
    · skip
      go_wp2_with fail
      have Y8 := ExtOf.blk (hS.blk 0 rfl)
      have Y7 := ExtOf.blk (hS.blk 1 rfl)
      have hE_ := hS.ext
      refine wp_region_tame 4 (hasF [(2, .any)]) (Fcs [(2, .ri ((-a2)))]) (Fcs_stab _) (by kernel_rfl) (by kernel_rfl) ?_
      simp only [tk1, tk0, dp1, dp0]
      refine wpT_quiet 2 (by rfl) (by kernel_rfl) ?_
      simp only [tk1, tk0, dp1, dp0]
      repeat (go_big_quiet_step (fail))
      refine wpQuiet_nil ?_
      refine wpT_eff (by rfl) (by rfl) (by rfl) ?_ ?_
      · intro W_ hK
        have hW := hK.1
        clear hK
        go_simp
        exact ⟨rfl, (eneg_ok gc _ a2 (-a2) _ (Blk.ext (hS.blk 4 rfl) hW) (RI.ext (hS.num 1 rfl) hW) (lim_of hpure.2.b (by omega)) rfl).mono fun e w' ⟨v, he, hR, hx⟩ => ⟨v, he, hx, hR⟩⟩
      intro v_ aM aN hr_
      obtain ⟨W_, hW_⟩ := hr_
      have hv_ : Fc.holds (.ri ((-a2))) aM aN v_ W_ := hW_.get
      clear hW_
      obtain ⟨ah, a6, ai, aj, rfl, -⟩ := RI.opn hv_
      clear hv_
      clear W_
      try simp only [Act.put, sa0, sa1, sa2]
      refine wpT_quiet 1 (by rfl) (by kernel_rfl) ?_
      simp only [tk1, tk0, dp1, dp0]
      repeat (go_big_quiet_step (fail))
      refine wpQuiet_nil ?_
      refine wpT_nil ?_
      intro w4 hK
      have hlt_ := hS.lt
      replace hS := hS.mv hK.ext
      replace hS := hS.addI (show RI w4 (iv ah a6 ai aj) (-a2) from hK.at_ 2 (e := ((iv ah a6 ai aj), aM, aN)) (by rfl))
      clear hK hlt_ hE_ Y8 Y7
      have k_5 := (hS.blk 1 rfl).cell
      have k_6 := (hS.blk 1 rfl).frozen
      have b0 := (St.put (W' := ((w4.setCell ⟨g7, 0, none⟩ (.bool ah)).setCell ⟨g7, 1, none⟩ (.slice a6 ai aj))) hS 1 0 [.bool ah, .slice a6 ai aj] (cs' := #[.bool ah, .slice a6 ai aj]) (bs' := _) rfl o7 rfl rfl (by kernel_rfl) rfl)
      have k_7 := (b0.blk 0 rfl).cell
      have k_8 := (b0.blk 0 rfl).frozen
      go_wp2
      replace hS := (St.put (W' := ((((w4.setCell ⟨g7, 0, none⟩ (.bool ah)).setCell ⟨g7, 1, none⟩ (.slice a6 ai aj)).setCell ⟨g8, 0, none⟩ (.bool a3)).setCell ⟨g8, 1, none⟩ (.slice a0 a4 a5))) (St.put (W' := ((w4.setCell ⟨g7, 0, none⟩ (.bool ah)).setCell ⟨g7, 1, none⟩ (.slice a6 ai aj))) hS 1 0 [.bool ah, .slice a6 ai aj] (cs' := #[.bool ah, .slice a6 ai aj]) (bs' := _) rfl o7 rfl rfl (by kernel_rfl) rfl) 0 0 [.bool a3, .slice a0 a4 a5] (cs' := #[.bool a3, .slice a0 a4 a5]) (bs' := _) rfl o8 rfl rfl (by kernel_rfl) rfl)
      go_roundw
      case rel => exact ⟨k + 1, by omega, by go_num, (-a2), af, ah, a3, a6, a0, ai, aj, a4, a5, ⟨hpure.1.turn, hpure.2.turn⟩, St.sel hS [0, 1, 3, 4, 5] rfl⟩
      case measure => simp [intOf] <;> omega
    · obtain rfl : k = K := by omega
      go_wp2_with fail
      have Y8 := ExtOf.blk (hS.blk 0 rfl)
      have Y7 := ExtOf.blk (hS.blk 1 rfl)
      have Y4 := ExtOf.blk (hS.blk 3 rfl)
      have hE_ := hS.ext
      refine wp_region_tame 6 (hasF [(4, .any)]) (Fcs [(4, .ri (az))]) (Fcs_stab _) (by kernel_rfl) (by kernel_rfl) ?_
      simp only [tk1, tk0, dp1, dp0]
      refine wpT_quiet 4 (by rfl) (by kernel_rfl) ?_
      simp only [tk1, tk0, dp1, dp0]
      repeat (go_big_quiet_step (fail))
      refine wpQuiet_nil ?_
      refine wpT_eff (by rfl) (by rfl) (by rfl) ?_ ?_
      · intro W_ hK
        have hW := hK.1
        clear hK
        go_simp
        exact ⟨rfl, (eclone_any _ az _ (RI.ext (hS.num 4 rfl) hW) (lim_of S1.d (by omega))).mono fun e w' ⟨v, he, hR, hx⟩ => ⟨v, he, hx, hR⟩⟩
      intro v_ aO aP hr_
      obtain ⟨W_, hW_⟩ := hr_
      have hv_ : Fc.holds (.ri (az)) aO aP v_ W_ := hW_.get
      clear hW_
      obtain ⟨aQ, ag, aR, aS, rfl, -⟩ := RI.opn hv_
      clear hv_
      clear W_
      try simp only [Act.put, sa0, sa1, sa2]
      refine wpT_quiet 1 (by rfl) (by kernel_rfl) ?_
      simp only [tk1, tk0, dp1, dp0]
      repeat (go_big_quiet_step (fail))
      refine wpQuiet_nil ?_
      refine wpT_nil ?_
      intro w5 hK
      have hlt_ := hS.lt
      replace hS := hS.mv hK.ext
      replace hS := hS.addI (show RI w5 (iv aQ ag aR aS) az from hK.at_ 4 (e := ((iv aQ ag aR aS), aO, aP)) (by rfl))
      clear hK hlt_ hE_ Y8 Y7 Y4
      have k_9 := (hS.blk 2 rfl).cell
      have k_10 := (hS.blk 2 rfl).frozen
      go_wp2
      replace hS := (St.put (W' := ((((((w5.setCell ⟨g6, 0, none⟩ (.bool a3)).setCell ⟨g6, 1, none⟩ (.slice a0 a4 a5)).setCell ⟨g6, 2, none⟩ (.bool a9)).setCell ⟨g6, 3, none⟩ (.slice a7 aa ab)).setCell ⟨g6, 4, none⟩ (.bool aQ)).setCell ⟨g6, 5, none⟩ (.slice ag aR aS))) hS 2 0 [.bool a3, .slice a0 a4 a5, .bool a9, .slice a7 aa ab, .bool aQ, .slice ag aR aS] (cs' := #[.bool a3, .slice a0 a4 a5, .bool a9, .slice a7 aa ab, .bool aQ, .slice ag aR aS]) (bs' := _) rfl o6 rfl rfl (by kernel_rfl) rfl)
      exact bp_gauss1 rfl rfl rfl (hS.blk 2 rfl) ⟨_, rfl, ⟨_, _, _, RG.mk (hS.num 1 rfl) (hS.num 2 rfl) (hS.num 0 rfl), hpure.1, hpure.2⟩, hS.ext⟩

theorem erotate_ok (gc : Nat) (v1 : Value) (q1 : GQ) (n1 K : Nat) (w : World) (hc : Calm w gc) (hX1 : GV w v1 q1 n1) (hn : n1 ≤ 12800) (hK : K ≤ 100) :
    Calls Tryz.prog 64 #[.pointer (some ⟨gc, 0, none⟩), v1, .int .i64 (K : Int)] w fun e w' => ∃ v, e = .returned v ∧ GV w' v (q1 * GQ.ip K) n1 ∧ Ext w w' := erotate_w gc v1 q1 n1 K w hc hX1 hn hK
end Go.Proofs.YtjeijmnhbckjdaaGreatDoor

/- The specification of numbers: powers of z. -/
namespace Go.Proofs.YtjeijmnhbckjdaaGreatDoor
open Go.RowKit
set_option linter.unusedVariables false

theorem toRG {f : FuncId} {args : Array Value} {w : World} {q : GQ} {n : Nat} {a b d : Int} (h : Calls Tryz.prog f args w fun e w' => ∃ v, e = .returned v ∧ GV w' v q n ∧ Ext w w') (I : Is q a b d) :
    Calls Tryz.prog f args w fun e w' => ∃ v, e = .returned v ∧ RG w' v a b d ∧ Ext w w' := h.mono fun e w' ⟨v, he, hR, hx⟩ => ⟨v, he, hR.at_ I, hx⟩
theorem toTP {f : FuncId} {args : Array Value} {w : World} {p : PQ} {n : Nat} {a b d x y z e0 : Int} (h : Calls Tryz.prog f args w fun e w' => ∃ v, e = .returned v ∧ (∃ u, v = .tuple #[u, .int .i64 e0] ∧ PV w' u p n) ∧ Ext w w') (I : Is p.u a b d) (J : Is p.v x y z) :
    Calls Tryz.prog f args w fun e w' => ∃ v, e = .returned v ∧ (∃ u, v = .tuple #[u, .int .i64 e0] ∧ RP w' u a b d x y z) ∧ Ext w w' := h.mono fun e w' ⟨v, he, ⟨u, hu, hR⟩, hx⟩ => ⟨v, he, ⟨u, hu, hR.at_ I J⟩, hx⟩
theorem toTG {f : FuncId} {args : Array Value} {w : World} {q : GQ} {n : Nat} {a b d e0 : Int} (h : Calls Tryz.prog f args w fun e w' => ∃ v, e = .returned v ∧ (∃ u, v = .tuple #[u, .int .i64 e0] ∧ GV w' u q n) ∧ Ext w w') (I : Is q a b d) :
    Calls Tryz.prog f args w fun e w' => ∃ v, e = .returned v ∧ (∃ u, v = .tuple #[u, .int .i64 e0] ∧ RG w' u a b d) ∧ Ext w w' := h.mono fun e w' ⟨v, he, ⟨u, hu, hR⟩, hx⟩ => ⟨v, he, ⟨u, hu, hR.at_ I⟩, hx⟩
theorem mod12 {m : Int} {K : Nat} (h : m % 12 = (K : Int)) : (m.tmod 12 + 12).tmod 12 = (K : Int) := by
  have h1 : -12 < m.tmod 12 ∧ m.tmod 12 < 12 := ⟨by have := Int.lt_tmod_of_pos m (b := 12) (by omega); omega, Int.tmod_lt_of_pos m (by omega)⟩
  have h2 : m.tmod 12 % 12 = m % 12 := by
    have := Int.mul_tdiv_add_tmod m 12
    omega
  rw [Int.tmod_eq_emod_of_nonneg (by omega)]
  omega
theorem mod12w {m : Int} {K : Nat} (h : m % 12 = (K : Int)) : (wrap64 (m.tmod 12 + 12)).tmod 12 = (K : Int) := by
  have h1 : -12 < m.tmod 12 ∧ m.tmod 12 < 12 := ⟨by have := Int.lt_tmod_of_pos m (b := 12) (by omega); omega, Int.tmod_lt_of_pos m (by omega)⟩
  have e : wrap64 (m.tmod 12 + 12) = m.tmod 12 + 12 := by
    generalize m.tmod 12 = t at *
    first | (unfold wrap64; omega) | go_num | (simp [wrap64]; omega)
  rw [e]
  exact mod12 h
end Go.Proofs.YtjeijmnhbckjdaaGreatDoor

/- The specification of numbers: turning, sameness, quotients. -/
namespace Go.Proofs.YtjeijmnhbckjdaaGreatDoor
open Go.RowKit
set_option linter.unusedVariables false

theorem rSame_yes (v u : Value) (x y : Int) (w : World) (hX : RI w v x) (hY : RI w u y) (h : x = y) :
    Calls Tryz.prog 50 #[v, u] w fun e w' => e = .returned (.bool true) ∧ Ext w w' := by
  have := rSame_any v u x y w hX hY
  rwa [show decide (x = y) = true by simpa using h] at this
theorem rSame_no (v u : Value) (x y : Int) (w : World) (hX : RI w v x) (hY : RI w u y) (h : x ≠ y) :
    Calls Tryz.prog 50 #[v, u] w fun e w' => e = .returned (.bool false) ∧ Ext w w' := by
  have := rSame_any v u x y w hX hY
  rwa [show decide (x = y) = false by simpa using h] at this

set_option maxRecDepth 100000 in
set_option maxHeartbeats 1600000 in
theorem qSame_y (v0 : Value) (ax ay az : Int) (v1 : Value) (aA aB aC : Int) (w : World) (hX0 : RG w v0 ax ay az) (hX1 : RG w v1 aA aB aC) (Ha : Hid (ax = aA)) (Hb : Hid (ay = aB)) (Hd : Hid (az = aC))
      :
    Calls Tryz.prog 13 #[v0, v1] w fun e w' => e = .returned (.bool true) ∧ Ext w w' := by
  have hS := St.start w
  obtain ⟨a0, a1, a2, a3, a4, a5, a6, a7, a8, a9, aa, ab, rfl, ap, aq, ar⟩ := hX0
  replace hS := hS.addI ap
  clear ap
  replace hS := hS.addI aq
  clear aq
  replace hS := hS.addI ar
  clear ar
  obtain ⟨ac, ad, ae, af, ag, ah, ai, aj, ak, am, an, ao, rfl, au, av, aw⟩ := hX1
  replace hS := hS.addI au
  clear au
  replace hS := hS.addI av
  clear av
  replace hS := hS.addI aw
  clear aw
  have o2 : Own w w.heap.size := Own.of hS.ext (by simp)
  have o3 : Own w (w.heap.size + 1) := Own.of hS.ext (by simp)
  have aD := (St.al (St.al hS 26 #[.bool a0, .slice a1 a2 a3, .bool a4, .slice a5 a6 a7, .bool a8, .slice a9 aa ab] (g := w.heap.size) (by simp)) 26 #[.bool ac, .slice ad ae af, .bool ag, .slice ah ai aj, .bool ak, .slice am an ao] (g := (w.heap.size + 1)) (by simp))
  have k_1 := (aD.blk 1 rfl).cell
  have k_2 := (aD.blk 0 rfl).cell
  go_enter Tryz.func13, Tryz.ntmps13
  go_wp2_with fail
  clear k_1 k_2
  clear aD
  replace hS := (St.al (St.al hS 26 #[.bool a0, .slice a1 a2 a3, .bool a4, .slice a5 a6 a7, .bool a8, .slice a9 aa ab] (g := w.heap.size) (by simp)) 26 #[.bool ac, .slice ad ae af, .bool ag, .slice ah ai aj, .bool ak, .slice am an ao] (g := (w.heap.size + 1)) (by simp))
  generalize ((w.alloc (.cells #[.bool a0, .slice a1 a2 a3, .bool a4, .slice a5 a6 a7, .bool a8, .slice a9 aa ab] 26)).alloc (.cells #[.bool ac, .slice ad ae af, .bool ag, .slice ah ai aj, .bool ak, .slice am an ao] 26)) = w1 at hS ⊢
  generalize w.heap.size + 1 = g3 at hS o3 ⊢
  generalize w.heap.size = g2 at hS o2 ⊢
  refine (rSame_yes _ _ ax aA _ (hS.num 5 rfl) (hS.num 2 rfl) Ha.out).mono ?_
  rintro e w2 ⟨rfl, hx_⟩
  replace hS := hS.mv hx_
  clear hx_
  have k_3 := (hS.blk 1 rfl).cell
  have k_4 := (hS.blk 0 rfl).cell
  go_wp2_with fail
  clear k_3 k_4
  refine (rSame_yes _ _ ay aB _ (hS.num 4 rfl) (hS.num 1 rfl) Hb.out).mono ?_
  rintro e w3 ⟨rfl, hx_⟩
  replace hS := hS.mv hx_
  clear hx_
  have k_5 := (hS.blk 1 rfl).cell
  have k_6 := (hS.blk 0 rfl).cell
  go_wp2_with fail
  clear k_5 k_6
  refine (rSame_yes _ _ az aC _ (hS.num 3 rfl) (hS.num 0 rfl) Hd.out).mono ?_
  rintro e w4 ⟨rfl, hx_⟩
  replace hS := hS.mv hx_
  clear hx_
  go_wp2
  go_ret
  exact ⟨ret_bool (rfl), hS.ext⟩

set_option maxRecDepth 100000 in
set_option maxHeartbeats 1600000 in
theorem qSame_a (v0 : Value) (x0a x0b x0d : Int) (v1 : Value) (x1a x1b x1d : Int) (w : World) (hX0 : RG w v0 x0a x0b x0d) (hX1 : RG w v1 x1a x1b x1d) (Ha : Hid (x0a ≠ x1a))
      :
    Calls Tryz.prog 13 #[v0, v1] w fun e w' => e = .returned (.bool false) ∧ Ext w w' := by
  have hS := St.start w
  obtain ⟨sx0a, Ax0a, nx0a, cx0a, sx0b, Ax0b, nx0b, cx0b, sx0d, Ax0d, nx0d, cx0d, rfl, hx0a, hx0b, hx0d⟩ := hX0
  replace hS := hS.addI hx0a
  clear hx0a
  replace hS := hS.addI hx0b
  clear hx0b
  replace hS := hS.addI hx0d
  clear hx0d
  obtain ⟨sx1a, Ax1a, nx1a, cx1a, sx1b, Ax1b, nx1b, cx1b, sx1d, Ax1d, nx1d, cx1d, rfl, hx1a, hx1b, hx1d⟩ := hX1
  replace hS := hS.addI hx1a
  clear hx1a
  replace hS := hS.addI hx1b
  clear hx1b
  replace hS := hS.addI hx1d
  clear hx1d
  have o2 : Own w w.heap.size := Own.of hS.ext (by simp)
  have o3 : Own w (w.heap.size + 1) := Own.of hS.ext (by simp)
  have hT1 := (St.al (St.al hS 26 #[.bool sx0a, .slice Ax0a nx0a cx0a, .bool sx0b, .slice Ax0b nx0b cx0b, .bool sx0d, .slice Ax0d nx0d cx0d] (g := w.heap.size) (by simp)) 26 #[.bool sx1a, .slice Ax1a nx1a cx1a, .bool sx1b, .slice Ax1b nx1b cx1b, .bool sx1d, .slice Ax1d nx1d cx1d] (g := (w.heap.size + 1)) (by simp))
  have k_1 := (hT1.blk 1 rfl).cell
  have k_2 := (hT1.blk 0 rfl).cell
  go_enter Tryz.func13, Tryz.ntmps13
  go_wp2_with fail
  clear k_1 k_2
  clear hT1
  replace hS := (St.al (St.al hS 26 #[.bool sx0a, .slice Ax0a nx0a cx0a, .bool sx0b, .slice Ax0b nx0b cx0b, .bool sx0d, .slice Ax0d nx0d cx0d] (g := w.heap.size) (by simp)) 26 #[.bool sx1a, .slice Ax1a nx1a cx1a, .bool sx1b, .slice Ax1b nx1b cx1b, .bool sx1d, .slice Ax1d nx1d cx1d] (g := (w.heap.size + 1)) (by simp))
  generalize ((w.alloc (.cells #[.bool sx0a, .slice Ax0a nx0a cx0a, .bool sx0b, .slice Ax0b nx0b cx0b, .bool sx0d, .slice Ax0d nx0d cx0d] 26)).alloc (.cells #[.bool sx1a, .slice Ax1a nx1a cx1a, .bool sx1b, .slice Ax1b nx1b cx1b, .bool sx1d, .slice Ax1d nx1d cx1d] 26)) = w1 at hS ⊢
  generalize w.heap.size + 1 = g3 at hS o3 ⊢
  generalize w.heap.size = g2 at hS o2 ⊢
  refine (rSame_no _ _ x0a x1a _ (hS.num 5 rfl) (hS.num 2 rfl) Ha.out).mono ?_
  rintro e w2 ⟨rfl, hx_⟩
  replace hS := hS.mv hx_
  clear hx_
  go_wp2
  go_ret
  exact ⟨ret_bool (rfl), hS.ext⟩

set_option maxRecDepth 100000 in
set_option maxHeartbeats 1600000 in
theorem qSame_b (v0 : Value) (ax ay x0d : Int) (v1 : Value) (az aA x1d : Int) (w : World) (hX0 : RG w v0 ax ay x0d) (hX1 : RG w v1 az aA x1d) (Ha : Hid (ax = az)) (Hb : Hid (ay ≠ aA))
      :
    Calls Tryz.prog 13 #[v0, v1] w fun e w' => e = .returned (.bool false) ∧ Ext w w' := by
  have hS := St.start w
  obtain ⟨a0, a1, a2, a3, a4, a5, a6, a7, a8, a9, aa, ab, rfl, ap, aq, ar⟩ := hX0
  replace hS := hS.addI ap
  clear ap
  replace hS := hS.addI aq
  clear aq
  replace hS := hS.addI ar
  clear ar
  obtain ⟨ac, ad, ae, af, ag, ah, ai, aj, ak, am, an, ao, rfl, au, av, aw⟩ := hX1
  replace hS := hS.addI au
  clear au
  replace hS := hS.addI av
  clear av
  replace hS := hS.addI aw
  clear aw
  have o2 : Own w w.heap.size := Own.of hS.ext (by simp)
  have o3 : Own w (w.heap.size + 1) := Own.of hS.ext (by simp)
  have aB := (St.al (St.al hS 26 #[.bool a0, .slice a1 a2 a3, .bool a4, .slice a5 a6 a7, .bool a8, .slice a9 aa ab] (g := w.heap.size) (by simp)) 26 #[.bool ac, .slice ad ae af, .bool ag, .slice ah ai aj, .bool ak, .slice am an ao] (g := (w.heap.size + 1)) (by simp))
  have k_1 := (aB.blk 1 rfl).cell
  have k_2 := (aB.blk 0 rfl).cell
  go_enter Tryz.func13, Tryz.ntmps13
  go_wp2_with fail
  clear k_1 k_2
  clear aB
  replace hS := (St.al (St.al hS 26 #[.bool a0, .slice a1 a2 a3, .bool a4, .slice a5 a6 a7, .bool a8, .slice a9 aa ab] (g := w.heap.size) (by simp)) 26 #[.bool ac, .slice ad ae af, .bool ag, .slice ah ai aj, .bool ak, .slice am an ao] (g := (w.heap.size + 1)) (by simp))
  generalize ((w.alloc (.cells #[.bool a0, .slice a1 a2 a3, .bool a4, .slice a5 a6 a7, .bool a8, .slice a9 aa ab] 26)).alloc (.cells #[.bool ac, .slice ad ae af, .bool ag, .slice ah ai aj, .bool ak, .slice am an ao] 26)) = w1 at hS ⊢
  generalize w.heap.size + 1 = g3 at hS o3 ⊢
  generalize w.heap.size = g2 at hS o2 ⊢
  refine (rSame_yes _ _ ax az _ (hS.num 5 rfl) (hS.num 2 rfl) Ha.out).mono ?_
  rintro e w2 ⟨rfl, hx_⟩
  replace hS := hS.mv hx_
  clear hx_
  have k_3 := (hS.blk 1 rfl).cell
  have k_4 := (hS.blk 0 rfl).cell
  go_wp2_with fail
  clear k_3 k_4
  refine (rSame_no _ _ ay aA _ (hS.num 4 rfl) (hS.num 1 rfl) Hb.out).mono ?_
  rintro e w3 ⟨rfl, hx_⟩
  replace hS := hS.mv hx_
  clear hx_
  go_wp2
  go_ret
  exact ⟨ret_bool (rfl), hS.ext⟩

set_option maxRecDepth 100000 in
set_option maxHeartbeats 1600000 in
theorem qSame_d (v0 : Value) (ax ay az : Int) (v1 : Value) (aA aB aC : Int) (w : World) (hX0 : RG w v0 ax ay az) (hX1 : RG w v1 aA aB aC) (Ha : Hid (ax = aA)) (Hb : Hid (ay = aB)) (Hd : Hid (az ≠ aC))
      :
    Calls Tryz.prog 13 #[v0, v1] w fun e w' => e = .returned (.bool false) ∧ Ext w w' := by
  have hS := St.start w
  obtain ⟨a0, a1, a2, a3, a4, a5, a6, a7, a8, a9, aa, ab, rfl, ap, aq, ar⟩ := hX0
  replace hS := hS.addI ap
  clear ap
  replace hS := hS.addI aq
  clear aq
  replace hS := hS.addI ar
  clear ar
  obtain ⟨ac, ad, ae, af, ag, ah, ai, aj, ak, am, an, ao, rfl, au, av, aw⟩ := hX1
  replace hS := hS.addI au
  clear au
  replace hS := hS.addI av
  clear av
  replace hS := hS.addI aw
  clear aw
  have o2 : Own w w.heap.size := Own.of hS.ext (by simp)
  have o3 : Own w (w.heap.size + 1) := Own.of hS.ext (by simp)
  have aD := (St.al (St.al hS 26 #[.bool a0, .slice a1 a2 a3, .bool a4, .slice a5 a6 a7, .bool a8, .slice a9 aa ab] (g := w.heap.size) (by simp)) 26 #[.bool ac, .slice ad ae af, .bool ag, .slice ah ai aj, .bool ak, .slice am an ao] (g := (w.heap.size + 1)) (by simp))
  have k_1 := (aD.blk 1 rfl).cell
  have k_2 := (aD.blk 0 rfl).cell
  go_enter Tryz.func13, Tryz.ntmps13
  go_wp2_with fail
  clear k_1 k_2
  clear aD
  replace hS := (St.al (St.al hS 26 #[.bool a0, .slice a1 a2 a3, .bool a4, .slice a5 a6 a7, .bool a8, .slice a9 aa ab] (g := w.heap.size) (by simp)) 26 #[.bool ac, .slice ad ae af, .bool ag, .slice ah ai aj, .bool ak, .slice am an ao] (g := (w.heap.size + 1)) (by simp))
  generalize ((w.alloc (.cells #[.bool a0, .slice a1 a2 a3, .bool a4, .slice a5 a6 a7, .bool a8, .slice a9 aa ab] 26)).alloc (.cells #[.bool ac, .slice ad ae af, .bool ag, .slice ah ai aj, .bool ak, .slice am an ao] 26)) = w1 at hS ⊢
  generalize w.heap.size + 1 = g3 at hS o3 ⊢
  generalize w.heap.size = g2 at hS o2 ⊢
  refine (rSame_yes _ _ ax aA _ (hS.num 5 rfl) (hS.num 2 rfl) Ha.out).mono ?_
  rintro e w2 ⟨rfl, hx_⟩
  replace hS := hS.mv hx_
  clear hx_
  have k_3 := (hS.blk 1 rfl).cell
  have k_4 := (hS.blk 0 rfl).cell
  go_wp2_with fail
  clear k_3 k_4
  refine (rSame_yes _ _ ay aB _ (hS.num 4 rfl) (hS.num 1 rfl) Hb.out).mono ?_
  rintro e w3 ⟨rfl, hx_⟩
  replace hS := hS.mv hx_
  clear hx_
  have k_5 := (hS.blk 1 rfl).cell
  have k_6 := (hS.blk 0 rfl).cell
  go_wp2_with fail
  clear k_5 k_6
  refine (rSame_no _ _ az aC _ (hS.num 3 rfl) (hS.num 0 rfl) Hd.out).mono ?_
  rintro e w4 ⟨rfl, hx_⟩
  replace hS := hS.mv hx_
  clear hx_
  go_wp2
  go_ret
  exact ⟨ret_bool (rfl), hS.ext⟩

theorem qSame_yes (v u : Value) (a b d a' b' d' : Int) (w : World) (hX : RG w v a b d) (hY : RG w u a' b' d') (h : a = a' ∧ b = b' ∧ d = d') :
    Calls Tryz.prog 13 #[v, u] w fun e w' => e = .returned (.bool true) ∧ Ext w w' := qSame_y v a b d u a' b' d' w hX hY (Lib.hid h.1) (Lib.hid h.2.1) (Lib.hid h.2.2)
theorem qSame_no (v u : Value) (a b d a' b' d' : Int) (w : World) (hX : RG w v a b d) (hY : RG w u a' b' d') (h : ¬ (a = a' ∧ b = b' ∧ d = d')) :
    Calls Tryz.prog 13 #[v, u] w fun e w' => e = .returned (.bool false) ∧ Ext w w' := by
  by_cases h1 : a = a'
  · by_cases h2 : b = b'
    · by_cases h3 : d = d'
      · exact absurd ⟨h1, h2, h3⟩ h
      · exact qSame_d v a b d u a' b' d' w hX hY (Lib.hid h1) (Lib.hid h2) (Lib.hid h3)
    · exact qSame_b v a b d u a' b' d' w hX hY (Lib.hid h1) (Lib.hid h2)
  · exact qSame_a v a b d u a' b' d' w hX hY (Lib.hid h1)
theorem qSame_eq (v u : Value) (q : GQ) (m n : Nat) (w : World) (hX : GV w v q m) (hY : GV w u q n) :
    Calls Tryz.prog 13 #[v, u] w fun e w' => e = .returned (.bool true) ∧ Ext w w' := by
  obtain ⟨a, b, d, h1, h2, _⟩ := hX
  exact qSame_yes v u a b d a b d w h1 (hY.at_ h2) ⟨rfl, rfl, rfl⟩
set_option maxRecDepth 100000 in
set_option maxHeartbeats 6400000 in
theorem qDiv_w (v0 : Value) (bP bQ bR : Int) (v1 : Value) (aD aE b5 : Int) (w : World) (hX0 : RG w v0 bP bQ bR) (ax0a : bP.natAbs < lim) (ax0b : bQ.natAbs < lim) (ax0d : bR.natAbs < lim) (hX1 : RG w v1 aD aE b5) (aF : aD.natAbs < lim) (aG : aE.natAbs < lim) (b9 : b5.natAbs < lim)
    (an : Int) (E11 : Hid (an = aD * aD)) (cd : an.natAbs < lim)
    (ao : Int) (E16 : Hid (ao = aE * aE)) (ce : ao.natAbs < lim)
    (ap : Int) (E17 : Hid (ap = an + ao)) (cf : ap.natAbs < lim)
    (aq : Int) (E22 : Hid (aq = aD * b5)) (cg : aq.natAbs < lim)
    (ar : Int) (E28 : Hid (ar = aE * b5)) (ch : ar.natAbs < lim)
    (au : Int) (E29 : Hid (au = (0 : Int) - ar)) (ci : au.natAbs < lim)
    (N31 : Hid (ap ≠ 0))
    (ac ad ae : Int) (E31 : Hid ((ac, ad, ae) = nf aq au ap)) (A31a : ac.natAbs < lim) (A31b : ad.natAbs < lim) (A31d : ae.natAbs < lim)
    (aH aI aJ : Int) (ba bb : Nat) (K34 : Hid (MulOk ba bb bP bQ bR ac ad ae aH aI aJ))  :
    Calls Tryz.prog 46 #[v0, v1] w fun e w' => ∃ v, e = .returned v ∧ RG w' v aH aI aJ ∧ Ext w w' := by
  have hS := St.start w
  obtain ⟨bc, bd, be, bf, bg, bh, bi, bj, bk, bl, bm, bn, rfl, bo, bp, bq⟩ := hX0
  replace hS := hS.addI bo
  clear bo
  replace hS := hS.addI bp
  clear bp
  replace hS := hS.addI bq
  clear bq
  obtain ⟨br, bs, bt, bu, bv, bw, bx, bz, bA, bB, bC, bD, rfl, bE, bF, bG⟩ := hX1
  replace hS := hS.addI bE
  clear bE
  replace hS := hS.addI bF
  clear bF
  replace hS := hS.addI bG
  clear bG
  have o2 : Own w w.heap.size := Own.of hS.ext (by simp)
  have o3 : Own w (w.heap.size + 1) := Own.of hS.ext (by simp)
  have o4 : Own w (w.heap.size + 2) := Own.of hS.ext (by simp)
  go_enter Tryz.func46, Tryz.ntmps46
  go_wp2_with fail
  replace hS := (St.al (St.al (St.al hS 26 #[.bool bc, .slice bd be bf, .bool bg, .slice bh bi bj, .bool bk, .slice bl bm bn] (g := w.heap.size) (by simp)) 26 #[.bool br, .slice bs bt bu, .bool bv, .slice bw bx bz, .bool bA, .slice bB bC bD] (g := (w.heap.size + 1)) (by simp)) 26 #[.bool false, .slice none 0 0, .bool false, .slice none 0 0, .bool false, .slice none 0 0] (g := (w.heap.size + 2)) (by simp))
  generalize (((w.alloc (.cells #[.bool bc, .slice bd be bf, .bool bg, .slice bh bi bj, .bool bk, .slice bl bm bn] 26)).alloc (.cells #[.bool br, .slice bs bt bu, .bool bv, .slice bw bx bz, .bool bA, .slice bB bC bD] 26)).alloc (.cells #[.bool false, .slice none 0 0, .bool false, .slice none 0 0, .bool false, .slice none 0 0] 26)) = w1 at hS ⊢
  generalize w.heap.size + 2 = g4 at hS o4 ⊢
  generalize w.heap.size + 1 = g3 at hS o3 ⊢
  generalize w.heap.size = g2 at hS o2 ⊢
  have Y3 := ExtOf.blk (hS.blk 1 rfl)
  have hE_ := hS.ext
  refine wp_region_tame 12 (hasF [(4, .any), (9, .any), (10, .any), (11, .any)]) (Fcs [(4, .ri (an)), (9, .ri (ao)), (10, .ri (ap)), (11, .box 24 #[.bool false, .slice none 0 0])]) (Fcs_stab _) (by kernel_rfl) (by kernel_rfl) ?_
  simp only [tk1, tk0, dp1, dp0]
  refine wpT_quiet 4 (by rfl) (by kernel_rfl) ?_
  simp only [tk1, tk0, dp1, dp0]
  repeat (go_big_quiet_step (fail))
  refine wpQuiet_nil ?_
  refine wpT_eff (by rfl) (by rfl) (by rfl) ?_ ?_
  · intro W_ hK
    have hW := hK.1
    clear hK
    go_simp
    exact ⟨rfl, (qTimes_ok _ _ aD aD an _ (RI.ext (hS.num 2 rfl) hW) (RI.ext (hS.num 2 rfl) hW) aF aF E11.out cd).mono fun e w' ⟨v, he, hR, hx⟩ => ⟨v, he, hx, hR⟩⟩
  intro v_ aK aL hr_
  obtain ⟨W_, hW_⟩ := hr_
  have hv_ : Fc.holds (.ri (an)) aK aL v_ W_ := hW_.get
  clear hW_
  obtain ⟨bS, av, bT, bU, rfl, -⟩ := RI.opn hv_
  clear hv_
  clear W_
  try simp only [Act.put, sa0, sa1, sa2]
  refine wpT_quiet 4 (by rfl) (by kernel_rfl) ?_
  simp only [tk1, tk0, dp1, dp0]
  repeat (go_big_quiet_step (fail))
  refine wpQuiet_nil ?_
  refine wpT_eff (by rfl) (by rfl) (by rfl) ?_ ?_
  · intro W_ hK
    have hW := hK.1
    clear hK
    go_simp
    exact ⟨rfl, (qTimes_ok _ _ aE aE ao _ (RI.ext (hS.num 1 rfl) hW) (RI.ext (hS.num 1 rfl) hW) aG aG E16.out ce).mono fun e w' ⟨v, he, hR, hx⟩ => ⟨v, he, hx, hR⟩⟩
  intro v_ aM aN hr_
  obtain ⟨W_, hW_⟩ := hr_
  have hv_ : Fc.holds (.ri (ao)) aM aN v_ W_ := hW_.get
  clear hW_
  obtain ⟨bV, aw, bW, bX, rfl, -⟩ := RI.opn hv_
  clear hv_
  clear W_
  try simp only [Act.put, sa0, sa1, sa2]
  refine wpT_eff (by rfl) (by rfl) (by rfl) ?_ ?_
  · intro W_ hK
    have hW := hK.1
    have bH : RI W_ (iv bS av bT bU) an := hK.2 4 ((iv bS av bT bU), aK, aL) (by rfl) (by kernel_rfl)
    have bI : RI W_ (iv bV aw bW bX) ao := hK.2 9 ((iv bV aw bW bX), aM, aN) (by rfl) (by kernel_rfl)
    clear hK
    go_simp
    exact ⟨rfl, (qPlus_ok _ _ an ao ap _ bH bI cd ce E17.out cf).mono fun e w' ⟨v, he, hR, hx⟩ => ⟨v, he, hx, hR⟩⟩
  intro v_ bJ bK hr_
  obtain ⟨W_, hW_⟩ := hr_
  have hv_ : Fc.holds (.ri (ap)) bJ bK v_ W_ := hW_.get
  clear hW_
  obtain ⟨b6, af, b7, b8, rfl, -⟩ := RI.opn hv_
  clear hv_
  clear W_
  try simp only [Act.put, sa0, sa1, sa2]
  refine wpT_eff (by rfl) (by rfl) (by rfl) ?_ ?_
  · intro W_ hK
    go_simp
    exact ⟨Ext.new _ _, rfl, by simp, Blk.new _ _ _⟩
  intro v_ g5 cj hr_
  obtain ⟨W_, hW_⟩ := hr_
  obtain ⟨rfl, hl5, -⟩ : Fc.holds (.box 24 #[.bool false, .slice none 0 0]) g5 cj v_ W_ := hW_.get
  clear hW_ W_
  try simp only [Act.put, sa0, sa1, sa2]
  refine wpT_nil ?_
  intro w2 hK
  have hlt_ := hS.lt
  replace hS := hS.mv hK.ext
  replace hS := hS.addI (show RI w2 (iv bS av bT bU) an from hK.at_ 4 (e := ((iv bS av bT bU), aK, aL)) (by rfl))
  replace hS := hS.addI (show RI w2 (iv bV aw bW bX) ao from hK.at_ 9 (e := ((iv bV aw bW bX), aM, aN)) (by rfl))
  replace hS := hS.addI (show RI w2 (iv b6 af b7 b8) ap from hK.at_ 10 (e := ((iv b6 af b7 b8), bJ, bK)) (by rfl))
  have ca : w1.heap.size ≤ g5 := hK.low 11 _ (by rfl)
  have o5 : Own w g5 := Own.of hE_ ca
  replace hS := hS.addB (show Blk w2 g5 24 #[.bool false, .slice none 0 0] from (hK.at_ 11 (by rfl)).2.2) (apart_of fun p hp => Nat.ne_of_lt (Nat.lt_of_lt_of_le (hlt_ p hp) ca))
  clear hK hlt_ hE_ Y3
  clear ca hl5 cj
  have k_1 := (hS.blk 0 rfl).cell
  have k_2 := (hS.blk 0 rfl).frozen
  go_wp2_with fail
  clear k_1 k_2
  replace hS := (St.put (W' := ((w2.setCell ⟨g5, 0, none⟩ (.bool b6)).setCell ⟨g5, 1, none⟩ (.slice af b7 b8))) hS 0 0 [.bool b6, .slice af b7 b8] (cs' := #[.bool b6, .slice af b7 b8]) (bs' := _) rfl o5 rfl rfl (by kernel_rfl) rfl)
  simp only [List.set_cons_zero] at hS
  generalize ((w2.setCell ⟨g5, 0, none⟩ (.bool b6)).setCell ⟨g5, 1, none⟩ (.slice af b7 b8)) = w3 at hS ⊢
  have Y5 := ExtOf.blk (hS.blk 0 rfl)
  have Y3 := ExtOf.blk (hS.blk 2 rfl)
  have hE_ := hS.ext
  refine wp_region_tame 15 (hasF [(4, .any), (5, .any), (10, .any), (11, .any), (13, .any), (14, .any)]) (Fcs [(4, .ri (aq)), (5, .ri ((0 : Int))), (10, .ri (ar)), (11, .ri (au)), (13, .rg (ac) (ad) (ae)), (14, .box 26 #[.bool false, .slice none 0 0, .bool false, .slice none 0 0, .bool false, .slice none 0 0])]) (Fcs_stab _) (by kernel_rfl) (by kernel_rfl) ?_
  simp only [tk1, tk0, dp1, dp0]
  refine wpT_quiet 4 (by rfl) (by kernel_rfl) ?_
  simp only [tk1, tk0, dp1, dp0]
  repeat (go_big_quiet_step (fail))
  refine wpQuiet_nil ?_
  refine wpT_eff (by rfl) (by rfl) (by rfl) ?_ ?_
  · intro W_ hK
    have hW := hK.1
    clear hK
    go_simp
    exact ⟨rfl, (qTimes_ok _ _ aD b5 aq _ (RI.ext (hS.num 5 rfl) hW) (RI.ext (hS.num 3 rfl) hW) aF b9 E22.out cg).mono fun e w' ⟨v, he, hR, hx⟩ => ⟨v, he, hx, hR⟩⟩
  intro v_ aO aP hr_
  obtain ⟨W_, hW_⟩ := hr_
  have hv_ : Fc.holds (.ri (aq)) aO aP v_ W_ := hW_.get
  clear hW_
  obtain ⟨bY, ax, bZ, c0, rfl, -⟩ := RI.opn hv_
  clear hv_
  clear W_
  try simp only [Act.put, sa0, sa1, sa2]
  refine wpT_eff (by rfl) (by rfl) (by rfl) ?_ ?_
  · intro W_ hK
    have hW := hK.1
    clear hK
    go_simp
    exact ⟨rfl, (qOf_ok (0) _ (by omega) (by omega)).mono fun e w' ⟨v, he, hR, hx⟩ => ⟨v, he, hx, hR⟩⟩
  intro v_ aQ aR hr_
  obtain ⟨W_, hW_⟩ := hr_
  have hv_ : Fc.holds (.ri ((0 : Int))) aQ aR v_ W_ := hW_.get
  clear hW_
  obtain ⟨c1, ay, c2, c3, rfl, -⟩ := RI.opn hv_
  clear hv_
  clear W_
  try simp only [Act.put, sa0, sa1, sa2]
  refine wpT_quiet 4 (by rfl) (by kernel_rfl) ?_
  simp only [tk1, tk0, dp1, dp0]
  repeat (go_big_quiet_step (fail))
  refine wpQuiet_nil ?_
  refine wpT_eff (by rfl) (by rfl) (by rfl) ?_ ?_
  · intro W_ hK
    have hW := hK.1
    clear hK
    go_simp
    exact ⟨rfl, (qTimes_ok _ _ aE b5 ar _ (RI.ext (hS.num 4 rfl) hW) (RI.ext (hS.num 3 rfl) hW) aG b9 E28.out ch).mono fun e w' ⟨v, he, hR, hx⟩ => ⟨v, he, hx, hR⟩⟩
  intro v_ aS aT hr_
  obtain ⟨W_, hW_⟩ := hr_
  have hv_ : Fc.holds (.ri (ar)) aS aT v_ W_ := hW_.get
  clear hW_
  obtain ⟨c4, az, c5, c6, rfl, -⟩ := RI.opn hv_
  clear hv_
  clear W_
  try simp only [Act.put, sa0, sa1, sa2]
  refine wpT_eff (by rfl) (by rfl) (by rfl) ?_ ?_
  · intro W_ hK
    have hW := hK.1
    have bL : RI W_ (iv c1 ay c2 c3) (0 : Int) := hK.2 5 ((iv c1 ay c2 c3), aQ, aR) (by rfl) (by kernel_rfl)
    have bM : RI W_ (iv c4 az c5 c6) ar := hK.2 10 ((iv c4 az c5 c6), aS, aT) (by rfl) (by kernel_rfl)
    clear hK
    go_simp
    exact ⟨rfl, (qMinus_ok _ _ (0 : Int) ar au _ bL bM (lt_lim64 (by omega) (by omega)) ch E29.out ci).mono fun e w' ⟨v, he, hR, hx⟩ => ⟨v, he, hx, hR⟩⟩
  intro v_ aU aV hr_
  obtain ⟨W_, hW_⟩ := hr_
  have hv_ : Fc.holds (.ri (au)) aU aV v_ W_ := hW_.get
  clear hW_
  obtain ⟨c7, aA, c8, c9, rfl, -⟩ := RI.opn hv_
  clear hv_
  clear W_
  try simp only [Act.put, sa0, sa1, sa2]
  refine wpT_quiet 1 (by rfl) (by kernel_rfl) ?_
  simp only [tk1, tk0, dp1, dp0]
  repeat (go_big_quiet_step (fail))
  refine wpQuiet_nil ?_
  refine wpT_eff (by rfl) (by rfl) (by rfl) ?_ ?_
  · intro W_ hK
    have hW := hK.1
    have bN : RI W_ (iv bY ax bZ c0) aq := hK.2 4 ((iv bY ax bZ c0), aO, aP) (by rfl) (by kernel_rfl)
    have bO : RI W_ (iv c7 aA c8 c9) au := hK.2 11 ((iv c7 aA c8 c9), aU, aV) (by rfl) (by kernel_rfl)
    clear hK
    go_simp
    exact ⟨rfl, (qMake_ok _ _ _ aq au ap ac ad ae _ bN bO (RI.ext (hS.num 0 rfl) hW) cg ci cf N31.out E31.out).mono fun e w' ⟨v, he, hR, hx⟩ => ⟨v, he, hx, hR⟩⟩
  intro v_ aB aC hr_
  obtain ⟨W_, hW_⟩ := hr_
  have hv_ : Fc.holds (.rg (ac) (ad) (ae)) aB aC v_ W_ := hW_.get
  clear hW_
  obtain ⟨a3, a0, a4, a5, a6, a1, a7, a8, a9, a2, aa, ab, rfl, -, -, -⟩ := hv_
  clear W_
  try simp only [Act.put, sa0, sa1, sa2]
  refine wpT_eff (by rfl) (by rfl) (by rfl) ?_ ?_
  · intro W_ hK
    go_simp
    exact ⟨Ext.new _ _, rfl, by simp, Blk.new _ _ _⟩
  intro v_ g6 ck hr_
  obtain ⟨W_, hW_⟩ := hr_
  obtain ⟨rfl, hl6, -⟩ : Fc.holds (.box 26 #[.bool false, .slice none 0 0, .bool false, .slice none 0 0, .bool false, .slice none 0 0]) g6 ck v_ W_ := hW_.get
  clear hW_ W_
  try simp only [Act.put, sa0, sa1, sa2]
  refine wpT_nil ?_
  intro w4 hK
  have hlt_ := hS.lt
  replace hS := hS.mv hK.ext
  replace hS := hS.addI (show RI w4 (iv bY ax bZ c0) aq from hK.at_ 4 (e := ((iv bY ax bZ c0), aO, aP)) (by rfl))
  replace hS := hS.addI (show RI w4 (iv c1 ay c2 c3) (0 : Int) from hK.at_ 5 (e := ((iv c1 ay c2 c3), aQ, aR)) (by rfl))
  replace hS := hS.addI (show RI w4 (iv c4 az c5 c6) ar from hK.at_ 10 (e := ((iv c4 az c5 c6), aS, aT)) (by rfl))
  replace hS := hS.addI (show RI w4 (iv c7 aA c8 c9) au from hK.at_ 11 (e := ((iv c7 aA c8 c9), aU, aV)) (by rfl))
  replace hS := hS.addI (show RI w4 (iv a3 a0 a4 a5) ac from RG.at1 (hK.at_ 13 (e := ((gv a3 a0 a4 a5 a6 a1 a7 a8 a9 a2 aa ab), aB, aC)) (by rfl)))
  replace hS := hS.addI (show RI w4 (iv a6 a1 a7 a8) ad from RG.at2 (hK.at_ 13 (e := ((gv a3 a0 a4 a5 a6 a1 a7 a8 a9 a2 aa ab), aB, aC)) (by rfl)))
  replace hS := hS.addI (show RI w4 (iv a9 a2 aa ab) ae from RG.at3 (hK.at_ 13 (e := ((gv a3 a0 a4 a5 a6 a1 a7 a8 a9 a2 aa ab), aB, aC)) (by rfl)))
  have cb : w3.heap.size ≤ g6 := hK.low 14 _ (by rfl)
  have o6 : Own w g6 := Own.of hE_ cb
  replace hS := hS.addB (show Blk w4 g6 26 #[.bool false, .slice none 0 0, .bool false, .slice none 0 0, .bool false, .slice none 0 0] from (hK.at_ 14 (by rfl)).2.2) (apart_of fun p hp => Nat.ne_of_lt (Nat.lt_of_lt_of_le (hlt_ p hp) cb))
  clear hK hlt_ hE_ Y5 Y3
  clear cb hl6 ck
  have k_3 := (hS.blk 0 rfl).cell
  have k_4 := (hS.blk 0 rfl).frozen
  have cc := (St.put (W' := ((((((w4.setCell ⟨g6, 0, none⟩ (.bool a3)).setCell ⟨g6, 1, none⟩ (.slice a0 a4 a5)).setCell ⟨g6, 2, none⟩ (.bool a6)).setCell ⟨g6, 3, none⟩ (.slice a1 a7 a8)).setCell ⟨g6, 4, none⟩ (.bool a9)).setCell ⟨g6, 5, none⟩ (.slice a2 aa ab))) hS 0 0 [.bool a3, .slice a0 a4 a5, .bool a6, .slice a1 a7 a8, .bool a9, .slice a2 aa ab] (cs' := #[.bool a3, .slice a0 a4 a5, .bool a6, .slice a1 a7 a8, .bool a9, .slice a2 aa ab]) (bs' := _) rfl o6 rfl rfl (by kernel_rfl) rfl)
  have k_5 := (cc.blk 4 rfl).cell
  have k_6 := (cc.blk 0 rfl).cell
  go_wp2_with fail
  clear k_3 k_4 k_5 k_6
  clear cc
  replace hS := (St.put (W' := ((((((w4.setCell ⟨g6, 0, none⟩ (.bool a3)).setCell ⟨g6, 1, none⟩ (.slice a0 a4 a5)).setCell ⟨g6, 2, none⟩ (.bool a6)).setCell ⟨g6, 3, none⟩ (.slice a1 a7 a8)).setCell ⟨g6, 4, none⟩ (.bool a9)).setCell ⟨g6, 5, none⟩ (.slice a2 aa ab))) hS 0 0 [.bool a3, .slice a0 a4 a5, .bool a6, .slice a1 a7 a8, .bool a9, .slice a2 aa ab] (cs' := #[.bool a3, .slice a0 a4 a5, .bool a6, .slice a1 a7 a8, .bool a9, .slice a2 aa ab]) (bs' := _) rfl o6 rfl rfl (by kernel_rfl) rfl)
  simp only [List.set_cons_zero] at hS
  generalize ((((((w4.setCell ⟨g6, 0, none⟩ (.bool a3)).setCell ⟨g6, 1, none⟩ (.slice a0 a4 a5)).setCell ⟨g6, 2, none⟩ (.bool a6)).setCell ⟨g6, 3, none⟩ (.slice a1 a7 a8)).setCell ⟨g6, 4, none⟩ (.bool a9)).setCell ⟨g6, 5, none⟩ (.slice a2 aa ab)) = w5 at hS ⊢
  refine (qMul_ok _ _ bP bQ bR ac ad ae aH aI aJ ba bb _ (RG.mk (hS.num 15 rfl) (hS.num 14 rfl) (hS.num 13 rfl)) (RG.mk (hS.num 2 rfl) (hS.num 1 rfl) (hS.num 0 rfl)) K34.out).mono ?_
  rintro e w6 ⟨v_, rfl, hv_, hx_⟩
  replace hS := hS.mv hx_
  clear hx_
  obtain ⟨aW, ag, aX, aY, aZ, ah, b0, b1, b2, ai, b3, b4, rfl, aj, ak, am⟩ := hv_
  replace hS := hS.addI aj
  clear aj
  replace hS := hS.addI ak
  clear ak
  replace hS := hS.addI am
  clear am
  have k_7 := (hS.blk 2 rfl).cell
  have k_8 := (hS.blk 2 rfl).frozen
  go_wp2
  replace hS := (St.put (W' := ((((((w6.setCell ⟨g4, 0, none⟩ (.bool aW)).setCell ⟨g4, 1, none⟩ (.slice ag aX aY)).setCell ⟨g4, 2, none⟩ (.bool aZ)).setCell ⟨g4, 3, none⟩ (.slice ah b0 b1)).setCell ⟨g4, 4, none⟩ (.bool b2)).setCell ⟨g4, 5, none⟩ (.slice ai b3 b4))) hS 2 0 [.bool aW, .slice ag aX aY, .bool aZ, .slice ah b0 b1, .bool b2, .slice ai b3 b4] (cs' := #[.bool aW, .slice ag aX aY, .bool aZ, .slice ah b0 b1, .bool b2, .slice ai b3 b4]) (bs' := _) rfl o4 rfl rfl (by kernel_rfl) rfl)
  exact bp_gauss1 rfl rfl rfl (hS.blk 2 rfl) ⟨_, rfl, RG.mk (hS.num 2 rfl) (hS.num 1 rfl) (hS.num 0 rfl), hS.ext⟩

end Go.Proofs.YtjeijmnhbckjdaaGreatDoor
