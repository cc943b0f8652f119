/- Words and contracts that the laws share, several texts in one. -/
import Derived.Test.YtclkkoiaaddllaaGreatQNEkihd
import Derived.Test.YtclkkoiaaddllaaGreatQNDeooe
/- The specification of numbers: differences, phasors. -/
namespace Go.Proofs.YtclkkoiaaddllaaGreat
open Go.RowKit
set_option linter.unusedVariables false

theorem is_ex (q : GQ) : ∃ a b d : Int, Is q a b d := by
  have h1 : ((q.re.den : Nat) : Int) ≠ 0 := by have := q.re.den_nz; omega
  have h2 : ((q.im.den : Nat) : Int) ≠ 0 := by have := q.im.den_nz; omega
  have e1 : q.re = ((q.re.num : Int) : Rat) / (((q.re.den : Nat) : Int) : Rat) := by
    rw [← Rat.divInt_eq_div]
    exact (Rat.num_divInt_den q.re).symm
  have e2 : q.im = ((q.im.num : Int) : Rat) / (((q.im.den : Nat) : Int) : Rat) := by
    rw [← Rat.divInt_eq_div]
    exact (Rat.num_divInt_den q.im).symm
  generalize q.re.num = a at *
  generalize ((q.re.den : Nat) : Int) = d at *
  generalize q.im.num = b at *
  generalize ((q.im.den : Nat) : Int) = f at *
  have k1 := cast_ne h1
  have k2 := cast_ne h2
  have h := is_nf (a := a * f) (b := b * d) (d := d * f) (Int.mul_ne_zero h1 h2)
  refine ⟨_, _, _, ⟨h.low, ?_, ?_⟩⟩
  · rw [← h.re, e1]; simp only [Rat.intCast_mul]; grind
  · rw [← h.im, e2]; simp only [Rat.intCast_mul]; grind
theorem sz_i {a b : Int} (l1 : -9223372036854775808 ≤ a) (u1 : a ≤ 9223372036854775807) (l2 : -9223372036854775808 ≤ b) (u2 : b ≤ 9223372036854775807) : Sz 64 a b 1 := ⟨lt64 l1 u1, lt64 l2 u2, by decide⟩
/-- A value that holds the number q, in lowest terms, of at most n bits each. -/
def GV (w : World) (v : Value) (q : GQ) (n : Nat) : Prop := ∃ a b d : Int, RG w v a b d ∧ Is q a b d ∧ Sz n a b d
theorem GV.ext {w w' : World} {v : Value} {q : GQ} {n : Nat} (h : GV w v q n) (x : Ext w w') : GV w' v q n := by
  obtain ⟨a, b, d, h1, h2, h3⟩ := h
  exact ⟨a, b, d, h1.ext x, h2, h3⟩
/-- A value that holds a phasor. -/
def PV (w : World) (v : Value) (p : PQ) (n : Nat) : Prop := ∃ a b d x y z : Int, RP w v a b d x y z ∧ Is p.u a b d ∧ Sz n a b d ∧ Is p.v x y z ∧ Sz n x y z
theorem PV.ext {w w' : World} {v : Value} {p : PQ} {n : Nat} (h : PV w v p n) (e : Ext w w') : PV w' v p n := by
  obtain ⟨a, b, d, x, y, z, h1, h2⟩ := h
  exact ⟨a, b, d, x, y, z, h1.ext e, h2⟩
end Go.Proofs.YtclkkoiaaddllaaGreat

/- The size of numbers. -/
namespace Go.Proofs.YtclkkoiaaddllaaGreat
open Go.RowKit
set_option linter.unusedVariables false

theorem GV.at_ {w : World} {v : Value} {q : GQ} {n : Nat} {a b d : Int} (h : GV w v q n) (I : Is q a b d) : RG w v a b d := by
  obtain ⟨a1, b1, d1, h1, h2, _⟩ := h
  obtain ⟨rfl, rfl, rfl⟩ := h2.unique I
  exact h1
theorem PV.at_ {w : World} {v : Value} {p : PQ} {n : Nat} {a b d x y z : Int} (h : PV w v p n) (I : Is p.u a b d) (J : Is p.v x y z) : RP w v a b d x y z := by
  obtain ⟨a1, b1, d1, x1, y1, z1, h1, h2, _, h3, _⟩ := h
  obtain ⟨rfl, rfl, rfl⟩ := h2.unique I
  obtain ⟨rfl, rfl, rfl⟩ := h3.unique J
  exact h1
/-- The number's parts have at most n bits. -/
def Bd (q : GQ) (n : Nat) : Prop := ∃ a b d : Int, Is q a b d ∧ Sz n a b d
theorem Bd.sz {q : GQ} {n : Nat} {a b d : Int} (h : Bd q n) (I : Is q a b d) : Sz n a b d := by
  obtain ⟨a1, b1, d1, h1, h2⟩ := h
  obtain ⟨rfl, rfl, rfl⟩ := h1.unique I
  exact h2
theorem Bd.mono {q : GQ} {m n : Nat} (h : Bd q m) (hmn : m ≤ n) : Bd q n := by
  obtain ⟨a, b, d, h1, h2⟩ := h
  exact ⟨a, b, d, h1, h2.mono hmn⟩
theorem Bd.add {x y : GQ} {m n : Nat} (hx : Bd x m) (hy : Bd y n) : Bd (x + y) (m + n + 1) := by
  obtain ⟨a, b, d, h1, h2⟩ := hx
  obtain ⟨a', b', d', h3, h4⟩ := hy
  obtain ⟨u, v, t, h5⟩ := is_ex (x + y)
  exact ⟨u, v, t, h5, h1.size_add h2 h3 h4 h5⟩
theorem Bd.sub {x y : GQ} {m n : Nat} (hx : Bd x m) (hy : Bd y n) : Bd (x - y) (m + n + 1) := by
  obtain ⟨a, b, d, h1, h2⟩ := hx
  obtain ⟨a', b', d', h3, h4⟩ := hy
  obtain ⟨u, v, t, h5⟩ := is_ex (x - y)
  exact ⟨u, v, t, h5, h1.size_sub h2 h3 h4 h5⟩
theorem Bd.mul {x y : GQ} {m n : Nat} (hx : Bd x m) (hy : Bd y n) : Bd (x * y) (m + n + 1) := by
  obtain ⟨a, b, d, h1, h2⟩ := hx
  obtain ⟨a', b', d', h3, h4⟩ := hy
  obtain ⟨u, v, t, h5⟩ := is_ex (x * y)
  exact ⟨u, v, t, h5, h1.size_mul h2 h3 h4 h5⟩
theorem Bd.i {a b : Int} (l1 : -9223372036854775808 ≤ a) (u1 : a ≤ 9223372036854775807) (l2 : -9223372036854775808 ≤ b) (u2 : b ≤ 9223372036854775807) : Bd (GQ.i a b) 64 := ⟨_, _, _, is_i a b, sz_i l1 u1 l2 u2⟩
theorem Bd.three : Bd (GQ.i 3 0) 2 := ⟨_, _, _, is_i 3 0, ⟨by decide, by decide, by decide⟩⟩
theorem Bd.of {q : GQ} {a b d : Int} {n : Nat} (hd : d ≠ 0) (hr : q.re = (a : Rat) / (d : Rat)) (hi : q.im = (b : Rat) / (d : Rat)) (s : Sz n a b d) : Bd q n := by
  obtain ⟨u, v, t, h⟩ := is_ex q
  exact ⟨u, v, t, h, h.size hd hr hi s⟩
end Go.Proofs.YtclkkoiaaddllaaGreat

/- Contracts of the calculator: turning by powers of i. -/
namespace Go.Proofs.YtclkkoiaaddllaaGreat
open Go.RowKit
set_option linter.unusedVariables false

/-- Powers of i. -/
def GQ.ip : Nat → GQ
  | 0 => GQ.i 1 0
  | n + 1 => GQ.ip n * GQ.i 0 1
theorem Is.turn {q : GQ} {a b d : Int} {k : Nat} (h : Is (q * GQ.ip k) a b d) : Is (q * GQ.ip (k + 1)) (-b) a d := by
  have e : q * GQ.ip (k + 1) = (q * GQ.ip k) * GQ.i 0 1 := (GQ.mul_assoc' q (GQ.ip k) (GQ.i 0 1)).symm
  rw [e]
  have hd := cast_ne h.dne
  refine ⟨⟨h.low.1, ?_⟩, ?_, ?_⟩
  · have := h.low.2
    unfold g3 at *
    rw [Int.natAbs_neg, Nat.gcd_assoc, Nat.gcd_comm b.natAbs, ← Nat.gcd_assoc]
    exact this
  · rw [GQ.mul_re, h.re, h.im]; simp only [GQ.i_re, GQ.i_im, Rat.intCast_neg]; grind
  · rw [GQ.mul_im, h.re, h.im]; simp only [GQ.i_re, GQ.i_im]; grind
theorem Sz.turn {n : Nat} {a b d : Int} (h : Sz n a b d) : Sz n (-b) a d := ⟨by rw [Int.natAbs_neg]; exact h.b, h.a, h.d⟩

end Go.Proofs.YtclkkoiaaddllaaGreat

/- The specification of numbers: powers of z. -/
namespace Go.Proofs.YtclkkoiaaddllaaGreat
open Go.RowKit
set_option linter.unusedVariables false

theorem toRG {f : FuncId} {args : Array Value} {w : World} {q : GQ} {n : Nat} {a b d : Int} (h : Calls Tryz.prog f args w fun e w' => ∃ v, e = .returned v ∧ GV w' v q n ∧ Ext w w') (I : Is q a b d) :
    Calls Tryz.prog f args w fun e w' => ∃ v, e = .returned v ∧ RG w' v a b d ∧ Ext w w' := h.mono fun e w' ⟨v, he, hR, hx⟩ => ⟨v, he, hR.at_ I, hx⟩
end Go.Proofs.YtclkkoiaaddllaaGreat

/- The specification of numbers: turning, sameness, quotients. -/
namespace Go.Proofs.YtclkkoiaaddllaaGreat
open Go.RowKit
set_option linter.unusedVariables false

theorem rSame_yes (v u : Value) (x y : Int) (w : World) (hX : RI w v x) (hY : RI w u y) (h : x = y) :
    Calls Tryz.prog 41 #[v, u] w fun e w' => e = .returned (.bool true) ∧ Ext w w' := by
  have := rSame_any v u x y w hX hY
  rwa [show decide (x = y) = true by simpa using h] at this
set_option maxRecDepth 100000 in
set_option maxHeartbeats 1600000 in
theorem qSame_y (v0 : Value) (ax ay az : Int) (v1 : Value) (aA aB aC : Int) (w : World) (hX0 : RG w v0 ax ay az) (hX1 : RG w v1 aA aB aC) (Ha : Hid (ax = aA)) (Hb : Hid (ay = aB)) (Hd : Hid (az = aC))
      :
    Calls Tryz.prog 14 #[v0, v1] w fun e w' => e = .returned (.bool true) ∧ Ext w w' := by
  have hS := St.start w
  obtain ⟨a0, a1, a2, a3, a4, a5, a6, a7, a8, a9, aa, ab, rfl, ap, aq, ar⟩ := hX0
  replace hS := hS.addI ap
  clear ap
  replace hS := hS.addI aq
  clear aq
  replace hS := hS.addI ar
  clear ar
  obtain ⟨ac, ad, ae, af, ag, ah, ai, aj, ak, am, an, ao, rfl, au, av, aw⟩ := hX1
  replace hS := hS.addI au
  clear au
  replace hS := hS.addI av
  clear av
  replace hS := hS.addI aw
  clear aw
  have o2 : Own w w.heap.size := Own.of hS.ext (by simp)
  have o3 : Own w (w.heap.size + 1) := Own.of hS.ext (by simp)
  have aD := (St.al (St.al hS 32 #[.bool a0, .slice a1 a2 a3, .bool a4, .slice a5 a6 a7, .bool a8, .slice a9 aa ab] (g := w.heap.size) (by simp)) 32 #[.bool ac, .slice ad ae af, .bool ag, .slice ah ai aj, .bool ak, .slice am an ao] (g := (w.heap.size + 1)) (by simp))
  have k_1 := (aD.blk 1 rfl).cell
  have k_2 := (aD.blk 0 rfl).cell
  go_enter Tryz.func14, Tryz.ntmps14
  go_wp2_with fail
  clear k_1 k_2
  clear aD
  replace hS := (St.al (St.al hS 32 #[.bool a0, .slice a1 a2 a3, .bool a4, .slice a5 a6 a7, .bool a8, .slice a9 aa ab] (g := w.heap.size) (by simp)) 32 #[.bool ac, .slice ad ae af, .bool ag, .slice ah ai aj, .bool ak, .slice am an ao] (g := (w.heap.size + 1)) (by simp))
  generalize ((w.alloc (.cells #[.bool a0, .slice a1 a2 a3, .bool a4, .slice a5 a6 a7, .bool a8, .slice a9 aa ab] 32)).alloc (.cells #[.bool ac, .slice ad ae af, .bool ag, .slice ah ai aj, .bool ak, .slice am an ao] 32)) = w1 at hS ⊢
  generalize w.heap.size + 1 = g3 at hS o3 ⊢
  generalize w.heap.size = g2 at hS o2 ⊢
  refine (rSame_yes _ _ ax aA _ (hS.num 5 rfl) (hS.num 2 rfl) Ha.out).mono ?_
  rintro e w2 ⟨rfl, hx_⟩
  replace hS := hS.mv hx_
  clear hx_
  have k_3 := (hS.blk 1 rfl).cell
  have k_4 := (hS.blk 0 rfl).cell
  go_wp2_with fail
  clear k_3 k_4
  refine (rSame_yes _ _ ay aB _ (hS.num 4 rfl) (hS.num 1 rfl) Hb.out).mono ?_
  rintro e w3 ⟨rfl, hx_⟩
  replace hS := hS.mv hx_
  clear hx_
  have k_5 := (hS.blk 1 rfl).cell
  have k_6 := (hS.blk 0 rfl).cell
  go_wp2_with fail
  clear k_5 k_6
  refine (rSame_yes _ _ az aC _ (hS.num 3 rfl) (hS.num 0 rfl) Hd.out).mono ?_
  rintro e w4 ⟨rfl, hx_⟩
  replace hS := hS.mv hx_
  clear hx_
  go_wp2
  go_ret
  exact ⟨ret_bool (rfl), hS.ext⟩

theorem qSame_yes (v u : Value) (a b d a' b' d' : Int) (w : World) (hX : RG w v a b d) (hY : RG w u a' b' d') (h : a = a' ∧ b = b' ∧ d = d') :
    Calls Tryz.prog 14 #[v, u] w fun e w' => e = .returned (.bool true) ∧ Ext w w' := qSame_y v a b d u a' b' d' w hX hY (Lib.hid h.1) (Lib.hid h.2.1) (Lib.hid h.2.2)
theorem qSame_eq (v u : Value) (q : GQ) (m n : Nat) (w : World) (hX : GV w v q m) (hY : GV w u q n) :
    Calls Tryz.prog 14 #[v, u] w fun e w' => e = .returned (.bool true) ∧ Ext w w' := by
  obtain ⟨a, b, d, h1, h2, _⟩ := hX
  exact qSame_yes v u a b d a b d w h1 (hY.at_ h2) ⟨rfl, rfl, rfl⟩
end Go.Proofs.YtclkkoiaaddllaaGreat
