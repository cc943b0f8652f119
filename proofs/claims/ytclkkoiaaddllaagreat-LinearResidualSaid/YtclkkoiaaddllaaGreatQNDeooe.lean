/- Words and contracts that the laws share, several texts in one. -/
import Derived.Test.YtclkkoiaaddllaaGreatQMBkbof
import Derived.Test.YtclkkoiaaddllaaGreatQNChohn
/- Rounding with the root of 3: plain laws. -/
namespace Go.Proofs.YtclkkoiaaddllaaGreat
set_option linter.unusedVariables false
/-- k is at most y times the root of 3. -/
def Le3 (k y : Int) : Prop := if 0 ≤ y then (k ≤ 0 ∨ k * k ≤ 3 * (y * y)) else (k < 0 ∧ 3 * (y * y) ≤ k * k)
instance (k y : Int) : Decidable (Le3 k y) := by unfold Le3; infer_instance
theorem sq_nonneg' (x : Int) : 0 ≤ x * x := by
  rcases Int.le_total 0 x with h | h
  · exact Int.mul_nonneg h h
  · have := Int.mul_nonneg (a := -x) (b := -x) (by omega) (by omega); grind
theorem sq_pos' {x : Int} (h : x ≠ 0) : 0 < x * x := by
  have h1 := sq_nonneg' x
  have h2 : x * x ≠ 0 := Int.mul_ne_zero h h
  omega
theorem sq_le {a b : Int} (ha : 0 ≤ a) (hab : a ≤ b) : a * a ≤ b * b := Int.mul_le_mul hab hab ha (by omega)
theorem le3_down {k k' y : Int} (h : Le3 k y) (hk : k' ≤ k) : Le3 k' y := by
  unfold Le3 at h ⊢
  by_cases hy : 0 ≤ y
  · rw [if_pos hy] at h ⊢
    rcases Int.le_total k' 0 with h0 | h0
    · exact .inl h0
    · rcases h with h | h
      · exact .inl (by omega)
      · exact .inr (Int.le_trans (sq_le h0 hk) h)
  · rw [if_neg hy] at h ⊢
    have := sq_le (a := -k) (b := -k') (by omega) (by omega)
    refine ⟨by omega, ?_⟩
    have e : -k * -k = k * k := by grind
    have e' : -k' * -k' = k' * k' := by grind
    omega
def cm (x y : Int) : Int := if x < y then -1 else if y < x then 1 else 0
/-- The search of the specification: greatest number that reaches. -/
def Top (p : Int → Prop) (t : Int) : Prop := -4611686018427387904 ≤ t ∧ t ≤ 4611686018427387904 ∧ ∀ n, -4611686018427387904 < n → n ≤ 4611686018427387904 → (p n ↔ n ≤ t)
theorem Top.unique {p : Int → Prop} {s t : Int} (h : Top p s) (k : Top p t) : s = t := by
  rcases Int.lt_trichotomy s t with h1 | h1 | h1
  · have h2 := (h.2.2 t (by have := h.1; omega) k.2.1).1 ((k.2.2 t (by have := h.1; omega) k.2.1).2 (Int.le_refl _))
    omega
  · exact h1
  · have h2 := (k.2.2 s (by have := k.1; omega) h.2.1).1 ((h.2.2 s (by have := k.1; omega) h.2.1).2 (Int.le_refl _))
    omega
end Go.Proofs.YtclkkoiaaddllaaGreat

/- Contracts of the calculator: quotients. -/
namespace Go.Proofs.YtclkkoiaaddllaaGreat
open Go.RowKit
set_option linter.unusedVariables false

theorem gcd4_facts {a b c e : Int} (h : c ≠ 0 ∨ e ≠ 0) : ∃ z p q r s : Int, z = (gcdL [a, b, c, e] : Nat) ∧ z ≠ 0 ∧ a = z * p ∧ b = z * q ∧ c = z * r ∧ e = z * s := by
  have eq : gcdL [a, b, c, e] = Nat.gcd (Nat.gcd (Nat.gcd a.natAbs b.natAbs) c.natAbs) e.natAbs := by simp [gcdL]
  have d1 : ((gcdL [a, b, c, e] : Nat) : Int) ∣ a := by rw [eq]; exact Int.ofNat_dvd_left.2 (Nat.dvd_trans (Nat.gcd_dvd_left _ _) (Nat.dvd_trans (Nat.gcd_dvd_left _ _) (Nat.gcd_dvd_left _ _)))
  have d2 : ((gcdL [a, b, c, e] : Nat) : Int) ∣ b := by rw [eq]; exact Int.ofNat_dvd_left.2 (Nat.dvd_trans (Nat.gcd_dvd_left _ _) (Nat.dvd_trans (Nat.gcd_dvd_left _ _) (Nat.gcd_dvd_right _ _)))
  have d3 : ((gcdL [a, b, c, e] : Nat) : Int) ∣ c := by rw [eq]; exact Int.ofNat_dvd_left.2 (Nat.dvd_trans (Nat.gcd_dvd_left _ _) (Nat.gcd_dvd_right _ _))
  have d4 : ((gcdL [a, b, c, e] : Nat) : Int) ∣ e := by rw [eq]; exact Int.ofNat_dvd_left.2 (Nat.gcd_dvd_right _ _)
  have h0 : ((gcdL [a, b, c, e] : Nat) : Int) ≠ 0 := by
    intro hz
    rw [hz] at d3 d4
    have := Int.zero_dvd.1 d3
    have := Int.zero_dvd.1 d4
    omega
  obtain ⟨p, hp⟩ := d1
  obtain ⟨q, hq⟩ := d2
  obtain ⟨r, hr⟩ := d3
  obtain ⟨s, hs⟩ := d4
  exact ⟨_, p, q, r, s, rfl, h0, hp, hq, hr, hs⟩
theorem gcd2_facts' {a b : Int} (h : a ≠ 0 ∨ b ≠ 0) : ∃ z p q : Int, z = (gcdL [a, b] : Nat) ∧ z ≠ 0 ∧ a = z * p ∧ b = z * q := by
  by_cases hb : b = 0
  · have e : gcdL [a, b] = Nat.gcd a.natAbs b.natAbs := by simp [gcdL]
    subst hb
    have e2 : gcdL [a, 0] = a.natAbs := by rw [e]; simp
    rw [e2]
    rcases Int.natAbs_eq a with h1 | h1
    · exact ⟨_, 1, 0, rfl, by omega, by omega, by simp⟩
    · exact ⟨_, -1, 0, rfl, by omega, by omega, by simp⟩
  · exact gcd2_facts hb
theorem lt_fac {a z q : Int} {n : Nat} (hq : a ≠ 0) (h : a = z * q) (hn : a.natAbs < 2 ^ n) : z.natAbs < 2 ^ n := lt_gcd hq ⟨q, h⟩ hn
theorem norm_ne {p q : Int} (h : p ≠ 0 ∨ q ≠ 0) : p * p + q * q ≠ 0 := by
  have h1 := sq_nonneg' p
  have h2 := sq_nonneg' q
  rcases h with h | h
  · have := sq_pos' h; omega
  · have := sq_pos' h; omega
theorem quot_cross {a b d a' b' d' g a1 b1 p q i p1 q1 h o c1 G fa fb fd H sa sd : Int} (ea : a = g * a1) (eb : b = g * b1) (ea' : a' = g * p) (eb' : b' = g * q) (ep : p = i * p1) (eq : q = i * q1) (eo : d' = h * o) (ec : d = h * c1)
    (e1 : a1 * p1 + b1 * q1 = G * fa) (e2 : b1 * p1 - a1 * q1 = G * fb) (e3 : p1 * p1 + q1 * q1 = G * fd) (e4 : o = H * sa) (e5 : i * c1 = H * sd) :
    ((a * a' + b * b') * d') * (fd * sd) = (fa * sa) * (d * (a' * a' + b' * b')) ∧ ((b * a' - a * b') * d') * (fd * sd) = (fb * sa) * (d * (a' * a' + b' * b')) := by
  subst ea eb ea' eb' eo ec e4 ep eq
  have n1 : g * (i * p1) * (g * (i * p1)) + g * (i * q1) * (g * (i * q1)) = g * g * i * i * (G * fd) := by rw [← e3]; grind
  have n2 : g * a1 * (g * (i * p1)) + g * b1 * (g * (i * q1)) = g * g * i * (G * fa) := by rw [← e1]; grind
  have n3 : g * b1 * (g * (i * p1)) - g * a1 * (g * (i * q1)) = g * g * i * (G * fb) := by rw [← e2]; grind
  rw [n1, n2, n3]
  constructor
  · have l : g * g * i * (G * fa) * (h * (H * sa)) * (fd * sd) = g * g * i * G * fa * h * sa * fd * (H * sd) := by grind
    rw [l, ← e5]
    grind
  · have l : g * g * i * (G * fb) * (h * (H * sa)) * (fd * sd) = g * g * i * G * fb * h * sa * fd * (H * sd) := by grind
    rw [l, ← e5]
    grind
theorem nf_get {A B D a b d : Int} (hD : D ≠ 0) (E : (a, b, d) = nf A B D) : ∃ G : Int, G ≠ 0 ∧ A = G * a ∧ B = G * b ∧ D = G * d ∧ 0 < d := by
  obtain ⟨a0, b0, d0, e0, ea, eb, ed, hp, hg⟩ := nf_spec (a := A) (b := B) hD
  rw [e0] at E
  injection E with e1 E
  injection E with e2 e3
  subst e1 e2 e3
  exact ⟨_, gZ_ne hD, ea, eb, ed, hp⟩
theorem nf_ex (A B D : Int) : ∃ a b d : Int, (a, b, d) = nf A B D := ⟨_, _, _, rfl⟩
theorem equotient_ok (gc : Nat) (v1 v2 : Value) (a b d a' b' d' u v t : Int) (n : Nat) (w : World) (hc : Calm w gc) (hX : RG w v1 a b d) (hY : RG w v2 a' b' d') (sx : Sz n a b d) (sy : Sz n a' b' d') (hn : 4 * n + 3 ≤ 12800)
    (hd : d ≠ 0) (hd' : d' ≠ 0) (hy : a' ≠ 0 ∨ b' ≠ 0) (E : (u, v, t) = nf ((a * a' + b * b') * d') ((b * a' - a * b') * d') (d * (a' * a' + b' * b'))) :
    Calls Tryz.prog 140 #[.pointer (some ⟨gc, 0, none⟩), v1, v2] w fun e w' => ∃ x, e = .returned x ∧ RG w' x u v t ∧ Ext w w' := by
  obtain ⟨g, a1, b1, p, q, hg, hg0, ea, eb, ea', eb'⟩ := gcd4_facts (a := a) (b := b) hy
  have hpq : p ≠ 0 ∨ q ≠ 0 := by
    rcases hy with h | h
    · left; intro e; rw [e] at ea'; simp at ea'; exact h ea'
    · right; intro e; rw [e] at eb'; simp at eb'; exact h eb'
  obtain ⟨h, c1, o, hh, hh0, ec, eo⟩ := gcd2_facts (a := d) (b := d') hd'
  obtain ⟨i, p1, q1, hi, hi0, ep, eq⟩ := gcd2_facts' hpq
  have hpq1 : p1 ≠ 0 ∨ q1 ≠ 0 := by
    rcases hpq with h | h
    · left; intro e; rw [e] at ep; simp at ep; exact h ep
    · right; intro e; rw [e] at eq; simp at eq; exact h eq
  have bg : g.natAbs < 2 ^ n := by
    rcases hy with h | h
    · exact lt_fac h ea' sy.a
    · exact lt_fac h eb' sy.b
  have ba1 := lt_div hg0 ea sx.a
  have bb1 := lt_div hg0 eb sx.b
  have bp := lt_div hg0 ea' sy.a
  have bq := lt_div hg0 eb' sy.b
  have bi : i.natAbs < 2 ^ n := by
    rcases hpq with h | h
    · exact lt_fac h ep bp
    · exact lt_fac h eq bq
  have bp1 := lt_div hi0 ep bp
  have bq1 := lt_div hi0 eq bq
  have bh := lt_fac hd ec sx.d
  have bc1 := lt_div hh0 ec sx.d
  have bo := lt_div hh0 eo sy.d
  have m1 := lt_mul ba1 bp1
  have m2 := lt_mul bb1 bq1
  have m3 := lt_mul bb1 bp1
  have m4 := lt_mul ba1 bq1
  have m5 := lt_mul bp1 bp1
  have m6 := lt_mul bq1 bq1
  have m7 := lt_add m1 m2
  have m8 := lt_sub m3 m4
  have m9 := lt_add m5 m6
  have m10 := lt_mul bi bc1
  have hN := norm_ne hpq1
  have hc10 : i * c1 ≠ 0 := Int.mul_ne_zero hi0 (by intro e; rw [e] at ec; simp at ec; exact hd ec)
  obtain ⟨fa, fb, fd, Ef⟩ := nf_ex (a1 * p1 + b1 * q1) (b1 * p1 - a1 * q1) (p1 * p1 + q1 * q1)
  obtain ⟨sa, sb, sd, Es⟩ := nf_ex o 0 (i * c1)
  obtain ⟨G, hG0, e1, e2, e3, hfd⟩ := nf_get hN Ef
  obtain ⟨H, hH0, e4, e6, e5, hsd⟩ := nf_get hc10 Es
  have hsb : sb = 0 := by
    have := e6.symm
    rcases Int.mul_eq_zero.1 this with h | h
    · exact absurd h hH0
    · exact h
  subst hsb
  have sf := nf_size' (n := n + n + 1) hN Ef m7 m8 m9
  have ss := nf_size' (n := n + n + 1) hc10 Es (lt_up bo (by omega)) (show (0 : Int).natAbs < 2 ^ (n + n + 1) from Nat.pow_pos (by omega)) (lt_up m10 (by omega))
  have hDD : d * (a' * a' + b' * b') ≠ 0 := Int.mul_ne_zero hd (norm_ne hy)
  have hFS : fd * sd ≠ 0 := Int.mul_ne_zero (by omega) (by omega)
  obtain ⟨c1', c2'⟩ := quot_cross ea eb ea' eb' ep eq eo ec e1 e2 e3 e4 e5
  have E' : (u, v, t) = nf (fa * sa - fb * 0) (fa * 0 + fb * sa) (fd * sd) := by
    rw [E]
    refine nf_unique hDD hFS ?_ ?_
    · rw [c1']; grind
    · rw [c2']; grind
  have k1 := lt_mul (lt_add (lt_mul sx.a sy.a) (lt_mul sx.b sy.b)) sy.d
  have k2 := lt_mul (lt_sub (lt_mul sx.b sy.a) (lt_mul sx.a sy.b)) sy.d
  have k3 := lt_mul sx.d (lt_add (lt_mul sy.a sy.a) (lt_mul sy.b sy.b))
  have sz := nf_size' (n := n + (n + n + 1)) hDD E (lt_up k1 (by omega)) (lt_up k2 (by omega)) k3
  obtain ⟨x1, x2, x3⟩ := sx.lims (by omega)
  obtain ⟨y1, y2, y3⟩ := sy.lims (by omega)
  obtain ⟨f1, f2, f3⟩ := sf.lims (by omega)
  obtain ⟨t1, t2, t3⟩ := ss.lims (by omega)
  obtain ⟨s1, s2, s3⟩ := sz.lims (by omega)
  exact equotient_w gc v1 a b d v2 a' b' d' w hc hX x1 x2 x3 hY y1 y2 y3 g (Lib.hid hg) (lim_of bg (by omega)) h (Lib.hid hh) (lim_of bh (by omega))
    a1 (Lib.hid (div_of hg0 ea)) (lim_of ba1 (by omega)) (Lib.hid hg0) (Lib.hid ⟨_, ea⟩) b1 (Lib.hid (div_of hg0 eb)) (lim_of bb1 (by omega)) (Lib.hid hg0) (Lib.hid ⟨_, eb⟩)
    p (Lib.hid (div_of hg0 ea')) (lim_of bp (by omega)) (Lib.hid hg0) (Lib.hid ⟨_, ea'⟩) q (Lib.hid (div_of hg0 eb')) (lim_of bq (by omega)) (Lib.hid hg0) (Lib.hid ⟨_, eb'⟩)
    i (Lib.hid hi) (lim_of bi (by omega)) p1 (Lib.hid (div_of hi0 ep)) (lim_of bp1 (by omega)) (Lib.hid hi0) (Lib.hid ⟨_, ep⟩) q1 (Lib.hid (div_of hi0 eq)) (lim_of bq1 (by omega)) (Lib.hid hi0) (Lib.hid ⟨_, eq⟩)
    _ (Lib.hid rfl) (lim_of m1 (by omega)) _ (Lib.hid rfl) (lim_of m2 (by omega)) _ (Lib.hid rfl) (lim_of m7 (by omega))
    _ (Lib.hid rfl) (lim_of m3 (by omega)) _ (Lib.hid rfl) (lim_of m4 (by omega)) _ (Lib.hid rfl) (lim_of m8 (by omega))
    _ (Lib.hid rfl) (lim_of m5 (by omega)) _ (Lib.hid rfl) (lim_of m6 (by omega)) _ (Lib.hid rfl) (lim_of m9 (by omega)) (Lib.hid hN)
    fa fb fd (Lib.hid Ef) f1 f2 f3 o (Lib.hid (div_of hh0 eo)) (lim_of bo (by omega)) (Lib.hid hh0) (Lib.hid ⟨_, eo⟩)
    c1 (Lib.hid (div_of hh0 ec)) (lim_of bc1 (by omega)) (Lib.hid hh0) (Lib.hid ⟨_, ec⟩) _ (Lib.hid rfl) (lim_of m10 (by omega)) (Lib.hid hc10)
    sa 0 sd (Lib.hid Es) t1 t2 t3 (n + n + 1) (Lib.hid sf) (Lib.hid ss) (Lib.hid (by omega)) (Lib.hid (by omega)) (Lib.hid (by omega)) u v t (Lib.hid E') s1 s2 s3
end Go.Proofs.YtclkkoiaaddllaaGreat

/- Valid numbers. -/
namespace Go.Proofs.YtclkkoiaaddllaaGreat
open Go.RowKit
set_option linter.unusedVariables false

theorem Valid_at (v : Value) (s : Bool) (l : List Nat) (b : Bool) (w : World) (hX : RX w v s l) (h : validB s l = b) :
    Calls Tryz.prog 79 #[v] w fun e w' => e = .returned (.bool b) ∧ Ext w w' := by
  obtain ⟨A, n, c, rfl, hx⟩ := hX
  have := Valid_any s A n c l w hx
  rwa [h] at this
theorem Valid_yes (v : Value) (z : Int) (w : World) (hX : RI w v z) (az : z.natAbs < lim) :
    Calls Tryz.prog 79 #[v] w fun e w' => e = .returned (.bool true) ∧ Ext w w' := Valid_at v _ _ true w hX (RI.valid hX az)

theorem rValid_at (v : Value) (s : Bool) (l : List Nat) (b : Bool) (w : World) (hX : RX w v s l) (h : validB s l = b) :
    Calls Tryz.prog 68 #[v] w fun e w' => e = .returned (.bool b) ∧ Ext w w' := by
  obtain ⟨A, n, c, rfl, hx⟩ := hX
  have := rValid_any s A n c l w hx
  rwa [h] at this
theorem rValid_yes (v : Value) (z : Int) (w : World) (hX : RI w v z) (az : z.natAbs < lim) :
    Calls Tryz.prog 68 #[v] w fun e w' => e = .returned (.bool true) ∧ Ext w w' := rValid_at v _ _ true w hX (RI.valid hX az)

set_option maxRecDepth 100000 in
set_option maxHeartbeats 800000 in
theorem eValid_A (s0a : Bool) (A0a : Option Addr) (n0a c0a : Nat) (l0a : List Nat) (s0b : Bool) (A0b : Option Addr) (n0b c0b : Nat) (l0b : List Nat) (s0d : Bool) (A0d : Option Addr) (n0d c0d : Nat) (l0d : List Nat) (w : World) (hr0a : RX w (iv s0a A0a n0a c0a) s0a l0a) (hr0b : RX w (iv s0b A0b n0b c0b) s0b l0b) (hr0d : RX w (iv s0d A0d n0d c0d) s0d l0d) (H1 : Hid (validB s0a l0a = false))
      :
    Calls Tryz.prog 52 #[gv s0a A0a n0a c0a s0b A0b n0b c0b s0d A0d n0d c0d] w fun e w' => e = .returned (.bool false) ∧ Ext w w' := by
  have hS := St.start w
  replace hS := hS.addN hr0a
  clear hr0a
  replace hS := hS.addN hr0b
  clear hr0b
  replace hS := hS.addN hr0d
  clear hr0d
  have o1 : Own w w.heap.size := Own.of hS.ext (by simp)
  have hT1 := (St.al hS 32 #[.bool s0a, .slice A0a n0a c0a, .bool s0b, .slice A0b n0b c0b, .bool s0d, .slice A0d n0d c0d] (g := w.heap.size) (by simp))
  have k_1 := (hT1.blk 0 rfl).cell
  go_enter Tryz.func52, Tryz.ntmps52
  go_wp2_with fail
  clear k_1
  clear hT1
  replace hS := (St.al hS 32 #[.bool s0a, .slice A0a n0a c0a, .bool s0b, .slice A0b n0b c0b, .bool s0d, .slice A0d n0d c0d] (g := w.heap.size) (by simp))
  generalize (w.alloc (.cells #[.bool s0a, .slice A0a n0a c0a, .bool s0b, .slice A0b n0b c0b, .bool s0d, .slice A0d n0d c0d] 32)) = w1 at hS ⊢
  generalize w.heap.size = g1 at hS o1 ⊢
  refine (Valid_at _ s0a l0a false _ (hS.num 2 rfl) H1.out).mono ?_
  rintro e w2 ⟨rfl, hx_⟩
  replace hS := hS.mv hx_
  clear hx_
  go_wp2
  go_ret
  exact ⟨ret_bool (rfl), hS.ext⟩

set_option maxRecDepth 100000 in
set_option maxHeartbeats 800000 in
theorem eValid_B (s0a : Bool) (A0a : Option Addr) (n0a c0a : Nat) (l0a : List Nat) (s0b : Bool) (A0b : Option Addr) (n0b c0b : Nat) (l0b : List Nat) (s0d : Bool) (A0d : Option Addr) (n0d c0d : Nat) (l0d : List Nat) (w : World) (hr0a : RX w (iv s0a A0a n0a c0a) s0a l0a) (hr0b : RX w (iv s0b A0b n0b c0b) s0b l0b) (hr0d : RX w (iv s0d A0d n0d c0d) s0d l0d) (H1 : Hid (validB s0a l0a = true)) (H2 : Hid (validB s0b l0b = false))
      :
    Calls Tryz.prog 52 #[gv s0a A0a n0a c0a s0b A0b n0b c0b s0d A0d n0d c0d] w fun e w' => e = .returned (.bool false) ∧ Ext w w' := by
  have hS := St.start w
  replace hS := hS.addN hr0a
  clear hr0a
  replace hS := hS.addN hr0b
  clear hr0b
  replace hS := hS.addN hr0d
  clear hr0d
  have o1 : Own w w.heap.size := Own.of hS.ext (by simp)
  have hT1 := (St.al hS 32 #[.bool s0a, .slice A0a n0a c0a, .bool s0b, .slice A0b n0b c0b, .bool s0d, .slice A0d n0d c0d] (g := w.heap.size) (by simp))
  have k_1 := (hT1.blk 0 rfl).cell
  go_enter Tryz.func52, Tryz.ntmps52
  go_wp2_with fail
  clear k_1
  clear hT1
  replace hS := (St.al hS 32 #[.bool s0a, .slice A0a n0a c0a, .bool s0b, .slice A0b n0b c0b, .bool s0d, .slice A0d n0d c0d] (g := w.heap.size) (by simp))
  generalize (w.alloc (.cells #[.bool s0a, .slice A0a n0a c0a, .bool s0b, .slice A0b n0b c0b, .bool s0d, .slice A0d n0d c0d] 32)) = w1 at hS ⊢
  generalize w.heap.size = g1 at hS o1 ⊢
  refine (Valid_at _ s0a l0a true _ (hS.num 2 rfl) H1.out).mono ?_
  rintro e w2 ⟨rfl, hx_⟩
  replace hS := hS.mv hx_
  clear hx_
  have k_2 := (hS.blk 0 rfl).cell
  go_wp2_with fail
  clear k_2
  refine (Valid_at _ s0b l0b false _ (hS.num 1 rfl) H2.out).mono ?_
  rintro e w3 ⟨rfl, hx_⟩
  replace hS := hS.mv hx_
  clear hx_
  go_wp2
  go_ret
  exact ⟨ret_bool (rfl), hS.ext⟩

set_option maxRecDepth 100000 in
set_option maxHeartbeats 800000 in
theorem eValid_C (s0a : Bool) (A0a : Option Addr) (n0a c0a : Nat) (l0a : List Nat) (s0b : Bool) (A0b : Option Addr) (n0b c0b : Nat) (l0b : List Nat) (s0d : Bool) (A0d : Option Addr) (n0d c0d : Nat) (l0d : List Nat) (w : World) (hr0a : RX w (iv s0a A0a n0a c0a) s0a l0a) (hr0b : RX w (iv s0b A0b n0b c0b) s0b l0b) (hr0d : RX w (iv s0d A0d n0d c0d) s0d l0d) (H1 : Hid (validB s0a l0a = true)) (H2 : Hid (validB s0b l0b = true)) (H3 : Hid (validB s0d l0d = false))
      :
    Calls Tryz.prog 52 #[gv s0a A0a n0a c0a s0b A0b n0b c0b s0d A0d n0d c0d] w fun e w' => e = .returned (.bool false) ∧ Ext w w' := by
  have hS := St.start w
  replace hS := hS.addN hr0a
  clear hr0a
  replace hS := hS.addN hr0b
  clear hr0b
  replace hS := hS.addN hr0d
  clear hr0d
  have o1 : Own w w.heap.size := Own.of hS.ext (by simp)
  have hT1 := (St.al hS 32 #[.bool s0a, .slice A0a n0a c0a, .bool s0b, .slice A0b n0b c0b, .bool s0d, .slice A0d n0d c0d] (g := w.heap.size) (by simp))
  have k_1 := (hT1.blk 0 rfl).cell
  go_enter Tryz.func52, Tryz.ntmps52
  go_wp2_with fail
  clear k_1
  clear hT1
  replace hS := (St.al hS 32 #[.bool s0a, .slice A0a n0a c0a, .bool s0b, .slice A0b n0b c0b, .bool s0d, .slice A0d n0d c0d] (g := w.heap.size) (by simp))
  generalize (w.alloc (.cells #[.bool s0a, .slice A0a n0a c0a, .bool s0b, .slice A0b n0b c0b, .bool s0d, .slice A0d n0d c0d] 32)) = w1 at hS ⊢
  generalize w.heap.size = g1 at hS o1 ⊢
  refine (Valid_at _ s0a l0a true _ (hS.num 2 rfl) H1.out).mono ?_
  rintro e w2 ⟨rfl, hx_⟩
  replace hS := hS.mv hx_
  clear hx_
  have k_2 := (hS.blk 0 rfl).cell
  go_wp2_with fail
  clear k_2
  refine (Valid_at _ s0b l0b true _ (hS.num 1 rfl) H2.out).mono ?_
  rintro e w3 ⟨rfl, hx_⟩
  replace hS := hS.mv hx_
  clear hx_
  have k_3 := (hS.blk 0 rfl).cell
  go_wp2_with fail
  clear k_3
  refine (Valid_at _ s0d l0d false _ (hS.num 0 rfl) H3.out).mono ?_
  rintro e w4 ⟨rfl, hx_⟩
  replace hS := hS.mv hx_
  clear hx_
  go_wp2
  go_ret
  exact ⟨ret_bool (rfl), hS.ext⟩

set_option maxRecDepth 100000 in
set_option maxHeartbeats 800000 in
theorem eValid_D (v0 : Value) (x0a x0b x0d : Int) (w : World) (hX0 : RG w v0 x0a x0b x0d) (ax0a : x0a.natAbs < lim) (ax0b : x0b.natAbs < lim) (ax0d : x0d.natAbs < lim) (H1 : Hid (x0d < 0))
      :
    Calls Tryz.prog 52 #[v0] w fun e w' => e = .returned (.bool false) ∧ Ext w w' := by
  have hS := St.start w
  obtain ⟨sx0a, Ax0a, nx0a, cx0a, sx0b, Ax0b, nx0b, cx0b, sx0d, Ax0d, nx0d, cx0d, rfl, hx0a, hx0b, hx0d⟩ := hX0
  replace hS := hS.addI hx0a
  clear hx0a
  replace hS := hS.addI hx0b
  clear hx0b
  replace hS := hS.addI hx0d
  clear hx0d
  have o1 : Own w w.heap.size := Own.of hS.ext (by simp)
  have hT1 := (St.al hS 32 #[.bool sx0a, .slice Ax0a nx0a cx0a, .bool sx0b, .slice Ax0b nx0b cx0b, .bool sx0d, .slice Ax0d nx0d cx0d] (g := w.heap.size) (by simp))
  have k_1 := (hT1.blk 0 rfl).cell
  go_enter Tryz.func52, Tryz.ntmps52
  go_wp2_with fail
  clear k_1
  clear hT1
  replace hS := (St.al hS 32 #[.bool sx0a, .slice Ax0a nx0a cx0a, .bool sx0b, .slice Ax0b nx0b cx0b, .bool sx0d, .slice Ax0d nx0d cx0d] (g := w.heap.size) (by simp))
  generalize (w.alloc (.cells #[.bool sx0a, .slice Ax0a nx0a cx0a, .bool sx0b, .slice Ax0b nx0b cx0b, .bool sx0d, .slice Ax0d nx0d cx0d] 32)) = w1 at hS ⊢
  generalize w.heap.size = g1 at hS o1 ⊢
  refine (Valid_yes _ x0a _ (hS.num 2 rfl) ax0a).mono ?_
  rintro e w2 ⟨rfl, hx_⟩
  replace hS := hS.mv hx_
  clear hx_
  have k_2 := (hS.blk 0 rfl).cell
  go_wp2_with fail
  clear k_2
  refine (Valid_yes _ x0b _ (hS.num 1 rfl) ax0b).mono ?_
  rintro e w3 ⟨rfl, hx_⟩
  replace hS := hS.mv hx_
  clear hx_
  have k_3 := (hS.blk 0 rfl).cell
  go_wp2_with fail
  clear k_3
  refine (Valid_yes _ x0d _ (hS.num 0 rfl) ax0d).mono ?_
  rintro e w4 ⟨rfl, hx_⟩
  replace hS := hS.mv hx_
  clear hx_
  have k_4 := (hS.blk 0 rfl).cell
  go_wp2_with fail
  clear k_4
  refine (Sign_at _ x0d (-1) _ (hS.num 0 rfl) ax0d (cmpZ_neg H1.out)).mono ?_
  rintro e w5 ⟨rfl, hx_⟩
  replace hS := hS.mv hx_
  clear hx_
  go_wp2
  go_ret
  exact ⟨ret_bool (rfl), hS.ext⟩

set_option maxRecDepth 100000 in
set_option maxHeartbeats 800000 in
theorem eValid_Z (v0 : Value) (x0a x0b x0d : Int) (w : World) (hX0 : RG w v0 x0a x0b x0d) (ax0a : x0a.natAbs < lim) (ax0b : x0b.natAbs < lim) (ax0d : x0d.natAbs < lim) (H1 : Hid (x0d = 0))
      :
    Calls Tryz.prog 52 #[v0] w fun e w' => e = .returned (.bool false) ∧ Ext w w' := by
  have hS := St.start w
  obtain ⟨sx0a, Ax0a, nx0a, cx0a, sx0b, Ax0b, nx0b, cx0b, sx0d, Ax0d, nx0d, cx0d, rfl, hx0a, hx0b, hx0d⟩ := hX0
  replace hS := hS.addI hx0a
  clear hx0a
  replace hS := hS.addI hx0b
  clear hx0b
  replace hS := hS.addI hx0d
  clear hx0d
  have o1 : Own w w.heap.size := Own.of hS.ext (by simp)
  have hT1 := (St.al hS 32 #[.bool sx0a, .slice Ax0a nx0a cx0a, .bool sx0b, .slice Ax0b nx0b cx0b, .bool sx0d, .slice Ax0d nx0d cx0d] (g := w.heap.size) (by simp))
  have k_1 := (hT1.blk 0 rfl).cell
  go_enter Tryz.func52, Tryz.ntmps52
  go_wp2_with fail
  clear k_1
  clear hT1
  replace hS := (St.al hS 32 #[.bool sx0a, .slice Ax0a nx0a cx0a, .bool sx0b, .slice Ax0b nx0b cx0b, .bool sx0d, .slice Ax0d nx0d cx0d] (g := w.heap.size) (by simp))
  generalize (w.alloc (.cells #[.bool sx0a, .slice Ax0a nx0a cx0a, .bool sx0b, .slice Ax0b nx0b cx0b, .bool sx0d, .slice Ax0d nx0d cx0d] 32)) = w1 at hS ⊢
  generalize w.heap.size = g1 at hS o1 ⊢
  refine (Valid_yes _ x0a _ (hS.num 2 rfl) ax0a).mono ?_
  rintro e w2 ⟨rfl, hx_⟩
  replace hS := hS.mv hx_
  clear hx_
  have k_2 := (hS.blk 0 rfl).cell
  go_wp2_with fail
  clear k_2
  refine (Valid_yes _ x0b _ (hS.num 1 rfl) ax0b).mono ?_
  rintro e w3 ⟨rfl, hx_⟩
  replace hS := hS.mv hx_
  clear hx_
  have k_3 := (hS.blk 0 rfl).cell
  go_wp2_with fail
  clear k_3
  refine (Valid_yes _ x0d _ (hS.num 0 rfl) ax0d).mono ?_
  rintro e w4 ⟨rfl, hx_⟩
  replace hS := hS.mv hx_
  clear hx_
  have k_4 := (hS.blk 0 rfl).cell
  go_wp2_with fail
  clear k_4
  refine (Sign_at _ x0d (0) _ (hS.num 0 rfl) ax0d (cmpZ_zero H1.out)).mono ?_
  rintro e w5 ⟨rfl, hx_⟩
  replace hS := hS.mv hx_
  clear hx_
  go_wp2
  go_ret
  exact ⟨ret_bool (rfl), hS.ext⟩

set_option maxRecDepth 100000 in
set_option maxHeartbeats 800000 in
theorem eValid_E (v0 : Value) (af ag ad : Int) (w : World) (hX0 : RG w v0 af ag ad) (ah : af.natAbs < lim) (ai : ag.natAbs < lim) (ae : ad.natAbs < lim) (H1 : Hid (0 < ad))
    (aj : Int) (E31 : Hid (aj = (gcdL [ad, af, ag] : Nat))) (A31 : aj.natAbs < lim) (H2 : Hid (aj = 1)) :
    Calls Tryz.prog 52 #[v0] w fun e w' => e = .returned (.bool true) ∧ Ext w w' := by
  have hS := St.start w
  obtain ⟨a0, a1, a2, a3, a4, a5, a6, a7, a8, a9, aa, ab, rfl, ak, am, an⟩ := hX0
  replace hS := hS.addI ak
  clear ak
  replace hS := hS.addI am
  clear am
  replace hS := hS.addI an
  clear an
  have o1 : Own w w.heap.size := Own.of hS.ext (by simp)
  have ao := (St.al hS 32 #[.bool a0, .slice a1 a2 a3, .bool a4, .slice a5 a6 a7, .bool a8, .slice a9 aa ab] (g := w.heap.size) (by simp))
  have k_1 := (ao.blk 0 rfl).cell
  go_enter Tryz.func52, Tryz.ntmps52
  go_wp2_with fail
  clear k_1
  clear ao
  replace hS := (St.al hS 32 #[.bool a0, .slice a1 a2 a3, .bool a4, .slice a5 a6 a7, .bool a8, .slice a9 aa ab] (g := w.heap.size) (by simp))
  generalize (w.alloc (.cells #[.bool a0, .slice a1 a2 a3, .bool a4, .slice a5 a6 a7, .bool a8, .slice a9 aa ab] 32)) = w1 at hS ⊢
  generalize w.heap.size = g1 at hS o1 ⊢
  refine (Valid_yes _ af _ (hS.num 2 rfl) ah).mono ?_
  rintro e w2 ⟨rfl, hx_⟩
  replace hS := hS.mv hx_
  clear hx_
  have k_2 := (hS.blk 0 rfl).cell
  go_wp2_with fail
  clear k_2
  refine (Valid_yes _ ag _ (hS.num 1 rfl) ai).mono ?_
  rintro e w3 ⟨rfl, hx_⟩
  replace hS := hS.mv hx_
  clear hx_
  have k_3 := (hS.blk 0 rfl).cell
  go_wp2_with fail
  clear k_3
  refine (Valid_yes _ ad _ (hS.num 0 rfl) ae).mono ?_
  rintro e w4 ⟨rfl, hx_⟩
  replace hS := hS.mv hx_
  clear hx_
  have k_4 := (hS.blk 0 rfl).cell
  go_wp2_with fail
  clear k_4
  refine (Sign_at _ ad (1) _ (hS.num 0 rfl) ae (cmpZ_pos H1.out)).mono ?_
  rintro e w5 ⟨rfl, hx_⟩
  replace hS := hS.mv hx_
  clear hx_
  have o3 : Own w w5.heap.size := Own.of hS.ext (by simp)
  have ap := (St.al hS 105 #[.int .i64 0] (g := w5.heap.size) (by simp))
  have k_5 := (ap.blk 1 rfl).cell
  have o30 : Own w (w5.heap.size + 1) := Own.of hS.ext (by simp)
  go_wp2_with fail
  clear k_5
  clear ap
  replace hS := (St.al (St.al hS 105 #[.int .i64 0] (g := w5.heap.size) (by simp)) 30 #[.bool a8, .slice a9 aa ab, .bool a0, .slice a1 a2 a3, .bool a4, .slice a5 a6 a7] (g := (w5.heap.size + 1)) (by simp))
  generalize ((w5.alloc (.cells #[.int .i64 0] 105)).alloc (.cells #[.bool a8, .slice a9 aa ab, .bool a0, .slice a1 a2 a3, .bool a4, .slice a5 a6 a7] 30)) = w6 at hS ⊢
  generalize w5.heap.size + 1 = g30 at hS o30 ⊢
  generalize w5.heap.size = g3 at hS o3 ⊢
  refine (egcd3_ok g3 g30 ad af ag aj _ (hS.blk 1 rfl) (hS.blk 0 rfl) (hS.num 0 rfl) (hS.num 2 rfl) (hS.num 1 rfl) ae ah ai E31).mono ?_
  rintro e w7 ⟨v_, rfl, hv_, hx_⟩
  replace hS := hS.mv hx_
  clear hx_
  obtain ⟨s31, A_31, n31, c31, rfl, ac⟩ := RI.opn hv_
  clear hv_
  replace hS := hS.addI ac
  clear ac
  go_wp2_with fail
  refine (one_yes _ aj _ (hS.num 0 rfl) H2.out).mono ?_
  rintro e w8 ⟨rfl, hx_⟩
  replace hS := hS.mv hx_
  clear hx_
  go_wp2
  go_ret
  exact ⟨ret_bool (rfl), hS.ext⟩

set_option maxRecDepth 100000 in
set_option maxHeartbeats 800000 in
theorem eValid_F (v0 : Value) (af ag ad : Int) (w : World) (hX0 : RG w v0 af ag ad) (ah : af.natAbs < lim) (ai : ag.natAbs < lim) (ae : ad.natAbs < lim) (H1 : Hid (0 < ad))
    (aj : Int) (E31 : Hid (aj = (gcdL [ad, af, ag] : Nat))) (A31 : aj.natAbs < lim) (H2 : Hid (aj ≠ 1)) :
    Calls Tryz.prog 52 #[v0] w fun e w' => e = .returned (.bool false) ∧ Ext w w' := by
  have hS := St.start w
  obtain ⟨a0, a1, a2, a3, a4, a5, a6, a7, a8, a9, aa, ab, rfl, ak, am, an⟩ := hX0
  replace hS := hS.addI ak
  clear ak
  replace hS := hS.addI am
  clear am
  replace hS := hS.addI an
  clear an
  have o1 : Own w w.heap.size := Own.of hS.ext (by simp)
  have ao := (St.al hS 32 #[.bool a0, .slice a1 a2 a3, .bool a4, .slice a5 a6 a7, .bool a8, .slice a9 aa ab] (g := w.heap.size) (by simp))
  have k_1 := (ao.blk 0 rfl).cell
  go_enter Tryz.func52, Tryz.ntmps52
  go_wp2_with fail
  clear k_1
  clear ao
  replace hS := (St.al hS 32 #[.bool a0, .slice a1 a2 a3, .bool a4, .slice a5 a6 a7, .bool a8, .slice a9 aa ab] (g := w.heap.size) (by simp))
  generalize (w.alloc (.cells #[.bool a0, .slice a1 a2 a3, .bool a4, .slice a5 a6 a7, .bool a8, .slice a9 aa ab] 32)) = w1 at hS ⊢
  generalize w.heap.size = g1 at hS o1 ⊢
  refine (Valid_yes _ af _ (hS.num 2 rfl) ah).mono ?_
  rintro e w2 ⟨rfl, hx_⟩
  replace hS := hS.mv hx_
  clear hx_
  have k_2 := (hS.blk 0 rfl).cell
  go_wp2_with fail
  clear k_2
  refine (Valid_yes _ ag _ (hS.num 1 rfl) ai).mono ?_
  rintro e w3 ⟨rfl, hx_⟩
  replace hS := hS.mv hx_
  clear hx_
  have k_3 := (hS.blk 0 rfl).cell
  go_wp2_with fail
  clear k_3
  refine (Valid_yes _ ad _ (hS.num 0 rfl) ae).mono ?_
  rintro e w4 ⟨rfl, hx_⟩
  replace hS := hS.mv hx_
  clear hx_
  have k_4 := (hS.blk 0 rfl).cell
  go_wp2_with fail
  clear k_4
  refine (Sign_at _ ad (1) _ (hS.num 0 rfl) ae (cmpZ_pos H1.out)).mono ?_
  rintro e w5 ⟨rfl, hx_⟩
  replace hS := hS.mv hx_
  clear hx_
  have o3 : Own w w5.heap.size := Own.of hS.ext (by simp)
  have ap := (St.al hS 105 #[.int .i64 0] (g := w5.heap.size) (by simp))
  have k_5 := (ap.blk 1 rfl).cell
  have o30 : Own w (w5.heap.size + 1) := Own.of hS.ext (by simp)
  go_wp2_with fail
  clear k_5
  clear ap
  replace hS := (St.al (St.al hS 105 #[.int .i64 0] (g := w5.heap.size) (by simp)) 30 #[.bool a8, .slice a9 aa ab, .bool a0, .slice a1 a2 a3, .bool a4, .slice a5 a6 a7] (g := (w5.heap.size + 1)) (by simp))
  generalize ((w5.alloc (.cells #[.int .i64 0] 105)).alloc (.cells #[.bool a8, .slice a9 aa ab, .bool a0, .slice a1 a2 a3, .bool a4, .slice a5 a6 a7] 30)) = w6 at hS ⊢
  generalize w5.heap.size + 1 = g30 at hS o30 ⊢
  generalize w5.heap.size = g3 at hS o3 ⊢
  refine (egcd3_ok g3 g30 ad af ag aj _ (hS.blk 1 rfl) (hS.blk 0 rfl) (hS.num 0 rfl) (hS.num 2 rfl) (hS.num 1 rfl) ae ah ai E31).mono ?_
  rintro e w7 ⟨v_, rfl, hv_, hx_⟩
  replace hS := hS.mv hx_
  clear hx_
  obtain ⟨s31, A_31, n31, c31, rfl, ac⟩ := RI.opn hv_
  clear hv_
  replace hS := hS.addI ac
  clear ac
  go_wp2_with fail
  refine (one_no _ aj _ (hS.num 0 rfl) H2.out).mono ?_
  rintro e w8 ⟨rfl, hx_⟩
  replace hS := hS.mv hx_
  clear hx_
  go_wp2
  go_ret
  exact ⟨ret_bool (rfl), hS.ext⟩

end Go.Proofs.YtclkkoiaaddllaaGreat
