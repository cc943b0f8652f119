/- Words and contracts that the laws share, several texts in one. -/
import Derived.Test.YtjeijmnhbckjdaaGreatDoorQMBgdjf
import Derived.Test.YtjeijmnhbckjdaaGreatDoorQNCjbhf
/- Rounding with the root of 3: plain laws. -/
namespace Go.Proofs.YtjeijmnhbckjdaaGreatDoor
set_option linter.unusedVariables false
/-- k is at most y times the root of 3. -/
def Le3 (k y : Int) : Prop := if 0 ≤ y then (k ≤ 0 ∨ k * k ≤ 3 * (y * y)) else (k < 0 ∧ 3 * (y * y) ≤ k * k)
instance (k y : Int) : Decidable (Le3 k y) := by unfold Le3; infer_instance
theorem sq_nonneg' (x : Int) : 0 ≤ x * x := by
  rcases Int.le_total 0 x with h | h
  · exact Int.mul_nonneg h h
  · have := Int.mul_nonneg (a := -x) (b := -x) (by omega) (by omega); grind
theorem sq_pos' {x : Int} (h : x ≠ 0) : 0 < x * x := by
  have h1 := sq_nonneg' x
  have h2 : x * x ≠ 0 := Int.mul_ne_zero h h
  omega
theorem sq_le {a b : Int} (ha : 0 ≤ a) (hab : a ≤ b) : a * a ≤ b * b := Int.mul_le_mul hab hab ha (by omega)
theorem sq_lt {a b : Int} (ha : 0 ≤ a) (hab : a < b) : a * a < b * b := by
  have h1 := sq_le (a := a + 1) (b := b) (by omega) (by omega)
  grind
/-- 3 is no square of a ratio. -/
theorem no_root3 : ∀ (n : Nat) (k y : Nat), y ≤ n → k * k = 3 * (y * y) → y = 0
  | 0, k, y, h, _ => by omega
  | n + 1, k, y, h, e => by
    rcases Nat.eq_zero_or_pos y with h0 | h0
    · exact h0
    · have hk : k % 3 = 0 := by
        have : (k * k) % 3 = 0 := by omega
        rw [Nat.mul_mod] at this
        have h3 : k % 3 = 0 ∨ k % 3 = 1 ∨ k % 3 = 2 := by omega
        rcases h3 with h | h | h <;> simp [h] at this ⊢
      obtain ⟨j, rfl⟩ : ∃ j, k = 3 * j := ⟨k / 3, by omega⟩
      have e2 : y * y = 3 * (j * j) := by grind
      have hj : j < y := by
        rcases Nat.lt_or_ge j y with h | h
        · exact h
        · have h7 := Nat.mul_le_mul h h
          have h8 := Nat.mul_pos h0 h0
          generalize y * y = Y at *
          generalize j * j = J at *
          clear hk e h
          omega
      have := no_root3 n y j (by omega) e2
      subst this
      have h8 := Nat.mul_pos h0 h0
      omega
theorem ne_root3 {k y : Int} (hy : y ≠ 0) : k * k ≠ 3 * (y * y) := by
  intro e
  have h : k.natAbs * k.natAbs = 3 * (y.natAbs * y.natAbs) := by
    have h1 := congrArg Int.natAbs e
    rw [Int.natAbs_mul, Int.natAbs_mul, Int.natAbs_mul] at h1
    exact h1
  have := no_root3 _ _ _ (Nat.le_refl _) h
  omega
/-- t is y times the root of 3, rounded down. -/
def IsFr (y t : Int) : Prop := (y = 0 ∧ t = 0) ∨ (0 < y ∧ 0 ≤ t ∧ t * t ≤ 3 * (y * y) ∧ 3 * (y * y) < (t + 1) * (t + 1)) ∨ (y < 0 ∧ ∃ R, 0 ≤ R ∧ t = -R - 1 ∧ R * R ≤ 3 * (y * y) ∧ 3 * (y * y) < (R + 1) * (R + 1))
theorem le_fr {y t k : Int} (h : IsFr y t) : k ≤ t ↔ Le3 k y := by
  unfold Le3
  rcases h with ⟨rfl, rfl⟩ | ⟨hy, ht, h1, h2⟩ | ⟨hy, R, hR, rfl, h1, h2⟩
  · rw [if_pos (by omega)]
    constructor
    · intro h; exact .inl h
    · rintro (h | h)
      · exact h
      · rcases Int.lt_trichotomy k 0 with h3 | h3 | h3
        · omega
        · omega
        · have := sq_pos' (x := k) (by omega); omega
  · rw [if_pos (by omega)]
    constructor
    · intro h
      rcases Int.le_total k 0 with h3 | h3
      · exact .inl h3
      · exact .inr (Int.le_trans (sq_le h3 h) h1)
    · rintro (h | h)
      · omega
      · rcases Int.lt_or_le t k with h3 | h3
        · have := sq_le (a := t + 1) (b := k) (by omega) (by omega); omega
        · exact h3
  · rw [if_neg (by omega)]
    constructor
    · intro h
      have := sq_le (a := R + 1) (b := -k) (by omega) (by omega)
      refine ⟨by omega, ?_⟩
      have e : -k * -k = k * k := by grind
      omega
    · rintro ⟨h3, h4⟩
      rcases Int.lt_or_le (-R - 1) k with h5 | h5
      · have h6 := sq_le (a := -k) (b := R) (by omega) (by omega)
        have e : -k * -k = k * k := by grind
        exact absurd (by omega : k * k = 3 * (y * y)) (ne_root3 (by omega))
      · exact h5
theorem le3_scale {g k y : Int} (hg : 0 < g) : Le3 (g * k) (g * y) ↔ Le3 k y := by
  have hgg : 0 < g * g := Int.mul_pos hg hg
  have e1 : g * k * (g * k) = g * g * (k * k) := by grind
  have e2 : 3 * (g * y * (g * y)) = g * g * (3 * (y * y)) := by grind
  have c1 : ∀ a b : Int, g * g * a ≤ g * g * b ↔ a ≤ b := fun a b => ⟨fun h => Int.le_of_mul_le_mul_left h hgg, fun h => Int.mul_le_mul_of_nonneg_left h (by omega)⟩
  have c2 : (0 ≤ g * y) ↔ 0 ≤ y := by
    constructor
    · intro h
      rcases Int.lt_or_le y 0 with h2 | h2
      · have := Int.mul_neg_of_pos_of_neg hg h2; omega
      · exact h2
    · intro h; exact Int.mul_nonneg (by omega) h
  have c3 : (g * k ≤ 0) ↔ k ≤ 0 := by
    constructor
    · intro h
      rcases Int.lt_or_le 0 k with h2 | h2
      · have := Int.mul_pos hg h2; omega
      · exact h2
    · intro h; exact Int.mul_nonpos_of_nonneg_of_nonpos (by omega) h
  have c4 : (g * k < 0) ↔ k < 0 := by
    constructor
    · intro h
      rcases Int.lt_or_le k 0 with h2 | h2
      · exact h2
      · have := Int.mul_nonneg (a := g) (b := k) (by omega) h2; omega
    · intro h; exact Int.mul_neg_of_pos_of_neg hg h
  unfold Le3
  by_cases hy : 0 ≤ y
  · rw [if_pos hy, if_pos (c2.2 hy), c3, e1, e2, c1]
  · rw [if_neg hy, if_neg (fun h => hy (c2.1 h)), c4, e1, e2, c1]
theorem le3_down {k k' y : Int} (h : Le3 k y) (hk : k' ≤ k) : Le3 k' y := by
  unfold Le3 at h ⊢
  by_cases hy : 0 ≤ y
  · rw [if_pos hy] at h ⊢
    rcases Int.le_total k' 0 with h0 | h0
    · exact .inl h0
    · rcases h with h | h
      · exact .inl (by omega)
      · exact .inr (Int.le_trans (sq_le h0 hk) h)
  · rw [if_neg hy] at h ⊢
    have := sq_le (a := -k) (b := -k') (by omega) (by omega)
    refine ⟨by omega, ?_⟩
    have e : -k * -k = k * k := by grind
    have e' : -k' * -k' = k' * k' := by grind
    omega
def sg (z : Int) : Int := if z < 0 then -1 else if 0 < z then 1 else 0
def cm (x y : Int) : Int := if x < y then -1 else if y < x then 1 else 0
/-- The search of the specification: greatest number that reaches. -/
def Top (p : Int → Prop) (t : Int) : Prop := -4611686018427387904 ≤ t ∧ t ≤ 4611686018427387904 ∧ ∀ n, -4611686018427387904 < n → n ≤ 4611686018427387904 → (p n ↔ n ≤ t)
theorem Top.unique {p : Int → Prop} {s t : Int} (h : Top p s) (k : Top p t) : s = t := by
  rcases Int.lt_trichotomy s t with h1 | h1 | h1
  · have h2 := (h.2.2 t (by have := h.1; omega) k.2.1).1 ((k.2.2 t (by have := h.1; omega) k.2.1).2 (Int.le_refl _))
    omega
  · exact h1
  · have h2 := (k.2.2 s (by have := k.1; omega) h.2.1).1 ((h.2.2 s (by have := k.1; omega) h.2.1).2 (Int.le_refl _))
    omega
def clamp (n : Int) : Int := min (max n (-4611686018427387904)) 4611686018427387904
end Go.Proofs.YtjeijmnhbckjdaaGreatDoor

/- Contracts of the calculator: quotients. -/
namespace Go.Proofs.YtjeijmnhbckjdaaGreatDoor
open Go.RowKit
set_option linter.unusedVariables false

theorem lt_fac {a z q : Int} {n : Nat} (hq : a ≠ 0) (h : a = z * q) (hn : a.natAbs < 2 ^ n) : z.natAbs < 2 ^ n := lt_gcd hq ⟨q, h⟩ hn
theorem nf_ex (A B D : Int) : ∃ a b d : Int, (a, b, d) = nf A B D := ⟨_, _, _, rfl⟩
end Go.Proofs.YtjeijmnhbckjdaaGreatDoor

/- Valid numbers. -/
namespace Go.Proofs.YtjeijmnhbckjdaaGreatDoor
open Go.RowKit
set_option linter.unusedVariables false

theorem Valid_at (v : Value) (s : Bool) (l : List Nat) (b : Bool) (w : World) (hX : RX w v s l) (h : validB s l = b) :
    Calls Tryz.prog 55 #[v] w fun e w' => e = .returned (.bool b) ∧ Ext w w' := by
  obtain ⟨A, n, c, rfl, hx⟩ := hX
  have := Valid_any s A n c l w hx
  rwa [h] at this
theorem Valid_yes (v : Value) (z : Int) (w : World) (hX : RI w v z) (az : z.natAbs < lim) :
    Calls Tryz.prog 55 #[v] w fun e w' => e = .returned (.bool true) ∧ Ext w w' := Valid_at v _ _ true w hX (RI.valid hX az)

theorem rValid_at (v : Value) (s : Bool) (l : List Nat) (b : Bool) (w : World) (hX : RX w v s l) (h : validB s l = b) :
    Calls Tryz.prog 60 #[v] w fun e w' => e = .returned (.bool b) ∧ Ext w w' := by
  obtain ⟨A, n, c, rfl, hx⟩ := hX
  have := rValid_any s A n c l w hx
  rwa [h] at this
theorem rValid_yes (v : Value) (z : Int) (w : World) (hX : RI w v z) (az : z.natAbs < lim) :
    Calls Tryz.prog 60 #[v] w fun e w' => e = .returned (.bool true) ∧ Ext w w' := rValid_at v _ _ true w hX (RI.valid hX az)

set_option maxRecDepth 100000 in
set_option maxHeartbeats 800000 in
theorem eValid_A (s0a : Bool) (A0a : Option Addr) (n0a c0a : Nat) (l0a : List Nat) (s0b : Bool) (A0b : Option Addr) (n0b c0b : Nat) (l0b : List Nat) (s0d : Bool) (A0d : Option Addr) (n0d c0d : Nat) (l0d : List Nat) (w : World) (hr0a : RX w (iv s0a A0a n0a c0a) s0a l0a) (hr0b : RX w (iv s0b A0b n0b c0b) s0b l0b) (hr0d : RX w (iv s0d A0d n0d c0d) s0d l0d) (H1 : Hid (validB s0a l0a = false))
      :
    Calls Tryz.prog 16 #[gv s0a A0a n0a c0a s0b A0b n0b c0b s0d A0d n0d c0d] w fun e w' => e = .returned (.bool false) ∧ Ext w w' := by
  have hS := St.start w
  replace hS := hS.addN hr0a
  clear hr0a
  replace hS := hS.addN hr0b
  clear hr0b
  replace hS := hS.addN hr0d
  clear hr0d
  have o1 : Own w w.heap.size := Own.of hS.ext (by simp)
  have hT1 := (St.al hS 26 #[.bool s0a, .slice A0a n0a c0a, .bool s0b, .slice A0b n0b c0b, .bool s0d, .slice A0d n0d c0d] (g := w.heap.size) (by simp))
  have k_1 := (hT1.blk 0 rfl).cell
  go_enter Tryz.func16, Tryz.ntmps16
  go_wp2_with fail
  clear k_1
  clear hT1
  replace hS := (St.al hS 26 #[.bool s0a, .slice A0a n0a c0a, .bool s0b, .slice A0b n0b c0b, .bool s0d, .slice A0d n0d c0d] (g := w.heap.size) (by simp))
  generalize (w.alloc (.cells #[.bool s0a, .slice A0a n0a c0a, .bool s0b, .slice A0b n0b c0b, .bool s0d, .slice A0d n0d c0d] 26)) = w1 at hS ⊢
  generalize w.heap.size = g1 at hS o1 ⊢
  refine (Valid_at _ s0a l0a false _ (hS.num 2 rfl) H1.out).mono ?_
  rintro e w2 ⟨rfl, hx_⟩
  replace hS := hS.mv hx_
  clear hx_
  go_wp2
  go_ret
  exact ⟨ret_bool (rfl), hS.ext⟩

set_option maxRecDepth 100000 in
set_option maxHeartbeats 800000 in
theorem eValid_B (s0a : Bool) (A0a : Option Addr) (n0a c0a : Nat) (l0a : List Nat) (s0b : Bool) (A0b : Option Addr) (n0b c0b : Nat) (l0b : List Nat) (s0d : Bool) (A0d : Option Addr) (n0d c0d : Nat) (l0d : List Nat) (w : World) (hr0a : RX w (iv s0a A0a n0a c0a) s0a l0a) (hr0b : RX w (iv s0b A0b n0b c0b) s0b l0b) (hr0d : RX w (iv s0d A0d n0d c0d) s0d l0d) (H1 : Hid (validB s0a l0a = true)) (H2 : Hid (validB s0b l0b = false))
      :
    Calls Tryz.prog 16 #[gv s0a A0a n0a c0a s0b A0b n0b c0b s0d A0d n0d c0d] w fun e w' => e = .returned (.bool false) ∧ Ext w w' := by
  have hS := St.start w
  replace hS := hS.addN hr0a
  clear hr0a
  replace hS := hS.addN hr0b
  clear hr0b
  replace hS := hS.addN hr0d
  clear hr0d
  have o1 : Own w w.heap.size := Own.of hS.ext (by simp)
  have hT1 := (St.al hS 26 #[.bool s0a, .slice A0a n0a c0a, .bool s0b, .slice A0b n0b c0b, .bool s0d, .slice A0d n0d c0d] (g := w.heap.size) (by simp))
  have k_1 := (hT1.blk 0 rfl).cell
  go_enter Tryz.func16, Tryz.ntmps16
  go_wp2_with fail
  clear k_1
  clear hT1
  replace hS := (St.al hS 26 #[.bool s0a, .slice A0a n0a c0a, .bool s0b, .slice A0b n0b c0b, .bool s0d, .slice A0d n0d c0d] (g := w.heap.size) (by simp))
  generalize (w.alloc (.cells #[.bool s0a, .slice A0a n0a c0a, .bool s0b, .slice A0b n0b c0b, .bool s0d, .slice A0d n0d c0d] 26)) = w1 at hS ⊢
  generalize w.heap.size = g1 at hS o1 ⊢
  refine (Valid_at _ s0a l0a true _ (hS.num 2 rfl) H1.out).mono ?_
  rintro e w2 ⟨rfl, hx_⟩
  replace hS := hS.mv hx_
  clear hx_
  have k_2 := (hS.blk 0 rfl).cell
  go_wp2_with fail
  clear k_2
  refine (Valid_at _ s0b l0b false _ (hS.num 1 rfl) H2.out).mono ?_
  rintro e w3 ⟨rfl, hx_⟩
  replace hS := hS.mv hx_
  clear hx_
  go_wp2
  go_ret
  exact ⟨ret_bool (rfl), hS.ext⟩

set_option maxRecDepth 100000 in
set_option maxHeartbeats 800000 in
theorem eValid_C (s0a : Bool) (A0a : Option Addr) (n0a c0a : Nat) (l0a : List Nat) (s0b : Bool) (A0b : Option Addr) (n0b c0b : Nat) (l0b : List Nat) (s0d : Bool) (A0d : Option Addr) (n0d c0d : Nat) (l0d : List Nat) (w : World) (hr0a : RX w (iv s0a A0a n0a c0a) s0a l0a) (hr0b : RX w (iv s0b A0b n0b c0b) s0b l0b) (hr0d : RX w (iv s0d A0d n0d c0d) s0d l0d) (H1 : Hid (validB s0a l0a = true)) (H2 : Hid (validB s0b l0b = true)) (H3 : Hid (validB s0d l0d = false))
      :
    Calls Tryz.prog 16 #[gv s0a A0a n0a c0a s0b A0b n0b c0b s0d A0d n0d c0d] w fun e w' => e = .returned (.bool false) ∧ Ext w w' := by
  have hS := St.start w
  replace hS := hS.addN hr0a
  clear hr0a
  replace hS := hS.addN hr0b
  clear hr0b
  replace hS := hS.addN hr0d
  clear hr0d
  have o1 : Own w w.heap.size := Own.of hS.ext (by simp)
  have hT1 := (St.al hS 26 #[.bool s0a, .slice A0a n0a c0a, .bool s0b, .slice A0b n0b c0b, .bool s0d, .slice A0d n0d c0d] (g := w.heap.size) (by simp))
  have k_1 := (hT1.blk 0 rfl).cell
  go_enter Tryz.func16, Tryz.ntmps16
  go_wp2_with fail
  clear k_1
  clear hT1
  replace hS := (St.al hS 26 #[.bool s0a, .slice A0a n0a c0a, .bool s0b, .slice A0b n0b c0b, .bool s0d, .slice A0d n0d c0d] (g := w.heap.size) (by simp))
  generalize (w.alloc (.cells #[.bool s0a, .slice A0a n0a c0a, .bool s0b, .slice A0b n0b c0b, .bool s0d, .slice A0d n0d c0d] 26)) = w1 at hS ⊢
  generalize w.heap.size = g1 at hS o1 ⊢
  refine (Valid_at _ s0a l0a true _ (hS.num 2 rfl) H1.out).mono ?_
  rintro e w2 ⟨rfl, hx_⟩
  replace hS := hS.mv hx_
  clear hx_
  have k_2 := (hS.blk 0 rfl).cell
  go_wp2_with fail
  clear k_2
  refine (Valid_at _ s0b l0b true _ (hS.num 1 rfl) H2.out).mono ?_
  rintro e w3 ⟨rfl, hx_⟩
  replace hS := hS.mv hx_
  clear hx_
  have k_3 := (hS.blk 0 rfl).cell
  go_wp2_with fail
  clear k_3
  refine (Valid_at _ s0d l0d false _ (hS.num 0 rfl) H3.out).mono ?_
  rintro e w4 ⟨rfl, hx_⟩
  replace hS := hS.mv hx_
  clear hx_
  go_wp2
  go_ret
  exact ⟨ret_bool (rfl), hS.ext⟩

set_option maxRecDepth 100000 in
set_option maxHeartbeats 800000 in
theorem eValid_D (v0 : Value) (x0a x0b x0d : Int) (w : World) (hX0 : RG w v0 x0a x0b x0d) (ax0a : x0a.natAbs < lim) (ax0b : x0b.natAbs < lim) (ax0d : x0d.natAbs < lim) (H1 : Hid (x0d < 0))
      :
    Calls Tryz.prog 16 #[v0] w fun e w' => e = .returned (.bool false) ∧ Ext w w' := by
  have hS := St.start w
  obtain ⟨sx0a, Ax0a, nx0a, cx0a, sx0b, Ax0b, nx0b, cx0b, sx0d, Ax0d, nx0d, cx0d, rfl, hx0a, hx0b, hx0d⟩ := hX0
  replace hS := hS.addI hx0a
  clear hx0a
  replace hS := hS.addI hx0b
  clear hx0b
  replace hS := hS.addI hx0d
  clear hx0d
  have o1 : Own w w.heap.size := Own.of hS.ext (by simp)
  have hT1 := (St.al hS 26 #[.bool sx0a, .slice Ax0a nx0a cx0a, .bool sx0b, .slice Ax0b nx0b cx0b, .bool sx0d, .slice Ax0d nx0d cx0d] (g := w.heap.size) (by simp))
  have k_1 := (hT1.blk 0 rfl).cell
  go_enter Tryz.func16, Tryz.ntmps16
  go_wp2_with fail
  clear k_1
  clear hT1
  replace hS := (St.al hS 26 #[.bool sx0a, .slice Ax0a nx0a cx0a, .bool sx0b, .slice Ax0b nx0b cx0b, .bool sx0d, .slice Ax0d nx0d cx0d] (g := w.heap.size) (by simp))
  generalize (w.alloc (.cells #[.bool sx0a, .slice Ax0a nx0a cx0a, .bool sx0b, .slice Ax0b nx0b cx0b, .bool sx0d, .slice Ax0d nx0d cx0d] 26)) = w1 at hS ⊢
  generalize w.heap.size = g1 at hS o1 ⊢
  refine (Valid_yes _ x0a _ (hS.num 2 rfl) ax0a).mono ?_
  rintro e w2 ⟨rfl, hx_⟩
  replace hS := hS.mv hx_
  clear hx_
  have k_2 := (hS.blk 0 rfl).cell
  go_wp2_with fail
  clear k_2
  refine (Valid_yes _ x0b _ (hS.num 1 rfl) ax0b).mono ?_
  rintro e w3 ⟨rfl, hx_⟩
  replace hS := hS.mv hx_
  clear hx_
  have k_3 := (hS.blk 0 rfl).cell
  go_wp2_with fail
  clear k_3
  refine (Valid_yes _ x0d _ (hS.num 0 rfl) ax0d).mono ?_
  rintro e w4 ⟨rfl, hx_⟩
  replace hS := hS.mv hx_
  clear hx_
  have k_4 := (hS.blk 0 rfl).cell
  go_wp2_with fail
  clear k_4
  refine (Sign_at _ x0d (-1) _ (hS.num 0 rfl) ax0d (cmpZ_neg H1.out)).mono ?_
  rintro e w5 ⟨rfl, hx_⟩
  replace hS := hS.mv hx_
  clear hx_
  go_wp2
  go_ret
  exact ⟨ret_bool (rfl), hS.ext⟩

set_option maxRecDepth 100000 in
set_option maxHeartbeats 800000 in
theorem eValid_Z (v0 : Value) (x0a x0b x0d : Int) (w : World) (hX0 : RG w v0 x0a x0b x0d) (ax0a : x0a.natAbs < lim) (ax0b : x0b.natAbs < lim) (ax0d : x0d.natAbs < lim) (H1 : Hid (x0d = 0))
      :
    Calls Tryz.prog 16 #[v0] w fun e w' => e = .returned (.bool false) ∧ Ext w w' := by
  have hS := St.start w
  obtain ⟨sx0a, Ax0a, nx0a, cx0a, sx0b, Ax0b, nx0b, cx0b, sx0d, Ax0d, nx0d, cx0d, rfl, hx0a, hx0b, hx0d⟩ := hX0
  replace hS := hS.addI hx0a
  clear hx0a
  replace hS := hS.addI hx0b
  clear hx0b
  replace hS := hS.addI hx0d
  clear hx0d
  have o1 : Own w w.heap.size := Own.of hS.ext (by simp)
  have hT1 := (St.al hS 26 #[.bool sx0a, .slice Ax0a nx0a cx0a, .bool sx0b, .slice Ax0b nx0b cx0b, .bool sx0d, .slice Ax0d nx0d cx0d] (g := w.heap.size) (by simp))
  have k_1 := (hT1.blk 0 rfl).cell
  go_enter Tryz.func16, Tryz.ntmps16
  go_wp2_with fail
  clear k_1
  clear hT1
  replace hS := (St.al hS 26 #[.bool sx0a, .slice Ax0a nx0a cx0a, .bool sx0b, .slice Ax0b nx0b cx0b, .bool sx0d, .slice Ax0d nx0d cx0d] (g := w.heap.size) (by simp))
  generalize (w.alloc (.cells #[.bool sx0a, .slice Ax0a nx0a cx0a, .bool sx0b, .slice Ax0b nx0b cx0b, .bool sx0d, .slice Ax0d nx0d cx0d] 26)) = w1 at hS ⊢
  generalize w.heap.size = g1 at hS o1 ⊢
  refine (Valid_yes _ x0a _ (hS.num 2 rfl) ax0a).mono ?_
  rintro e w2 ⟨rfl, hx_⟩
  replace hS := hS.mv hx_
  clear hx_
  have k_2 := (hS.blk 0 rfl).cell
  go_wp2_with fail
  clear k_2
  refine (Valid_yes _ x0b _ (hS.num 1 rfl) ax0b).mono ?_
  rintro e w3 ⟨rfl, hx_⟩
  replace hS := hS.mv hx_
  clear hx_
  have k_3 := (hS.blk 0 rfl).cell
  go_wp2_with fail
  clear k_3
  refine (Valid_yes _ x0d _ (hS.num 0 rfl) ax0d).mono ?_
  rintro e w4 ⟨rfl, hx_⟩
  replace hS := hS.mv hx_
  clear hx_
  have k_4 := (hS.blk 0 rfl).cell
  go_wp2_with fail
  clear k_4
  refine (Sign_at _ x0d (0) _ (hS.num 0 rfl) ax0d (cmpZ_zero H1.out)).mono ?_
  rintro e w5 ⟨rfl, hx_⟩
  replace hS := hS.mv hx_
  clear hx_
  go_wp2
  go_ret
  exact ⟨ret_bool (rfl), hS.ext⟩

set_option maxRecDepth 100000 in
set_option maxHeartbeats 800000 in
theorem eValid_E (v0 : Value) (af ag ad : Int) (w : World) (hX0 : RG w v0 af ag ad) (ah : af.natAbs < lim) (ai : ag.natAbs < lim) (ae : ad.natAbs < lim) (H1 : Hid (0 < ad))
    (aj : Int) (E31 : Hid (aj = (gcdL [ad, af, ag] : Nat))) (A31 : aj.natAbs < lim) (H2 : Hid (aj = 1)) :
    Calls Tryz.prog 16 #[v0] w fun e w' => e = .returned (.bool true) ∧ Ext w w' := by
  have hS := St.start w
  obtain ⟨a0, a1, a2, a3, a4, a5, a6, a7, a8, a9, aa, ab, rfl, ak, am, an⟩ := hX0
  replace hS := hS.addI ak
  clear ak
  replace hS := hS.addI am
  clear am
  replace hS := hS.addI an
  clear an
  have o1 : Own w w.heap.size := Own.of hS.ext (by simp)
  have ao := (St.al hS 26 #[.bool a0, .slice a1 a2 a3, .bool a4, .slice a5 a6 a7, .bool a8, .slice a9 aa ab] (g := w.heap.size) (by simp))
  have k_1 := (ao.blk 0 rfl).cell
  go_enter Tryz.func16, Tryz.ntmps16
  go_wp2_with fail
  clear k_1
  clear ao
  replace hS := (St.al hS 26 #[.bool a0, .slice a1 a2 a3, .bool a4, .slice a5 a6 a7, .bool a8, .slice a9 aa ab] (g := w.heap.size) (by simp))
  generalize (w.alloc (.cells #[.bool a0, .slice a1 a2 a3, .bool a4, .slice a5 a6 a7, .bool a8, .slice a9 aa ab] 26)) = w1 at hS ⊢
  generalize w.heap.size = g1 at hS o1 ⊢
  refine (Valid_yes _ af _ (hS.num 2 rfl) ah).mono ?_
  rintro e w2 ⟨rfl, hx_⟩
  replace hS := hS.mv hx_
  clear hx_
  have k_2 := (hS.blk 0 rfl).cell
  go_wp2_with fail
  clear k_2
  refine (Valid_yes _ ag _ (hS.num 1 rfl) ai).mono ?_
  rintro e w3 ⟨rfl, hx_⟩
  replace hS := hS.mv hx_
  clear hx_
  have k_3 := (hS.blk 0 rfl).cell
  go_wp2_with fail
  clear k_3
  refine (Valid_yes _ ad _ (hS.num 0 rfl) ae).mono ?_
  rintro e w4 ⟨rfl, hx_⟩
  replace hS := hS.mv hx_
  clear hx_
  have k_4 := (hS.blk 0 rfl).cell
  go_wp2_with fail
  clear k_4
  refine (Sign_at _ ad (1) _ (hS.num 0 rfl) ae (cmpZ_pos H1.out)).mono ?_
  rintro e w5 ⟨rfl, hx_⟩
  replace hS := hS.mv hx_
  clear hx_
  have o3 : Own w w5.heap.size := Own.of hS.ext (by simp)
  have ap := (St.al hS 66 #[.int .i64 0] (g := w5.heap.size) (by simp))
  have k_5 := (ap.blk 1 rfl).cell
  have o30 : Own w (w5.heap.size + 1) := Own.of hS.ext (by simp)
  go_wp2_with fail
  clear k_5
  clear ap
  replace hS := (St.al (St.al hS 66 #[.int .i64 0] (g := w5.heap.size) (by simp)) 24 #[.bool a8, .slice a9 aa ab, .bool a0, .slice a1 a2 a3, .bool a4, .slice a5 a6 a7] (g := (w5.heap.size + 1)) (by simp))
  generalize ((w5.alloc (.cells #[.int .i64 0] 66)).alloc (.cells #[.bool a8, .slice a9 aa ab, .bool a0, .slice a1 a2 a3, .bool a4, .slice a5 a6 a7] 24)) = w6 at hS ⊢
  generalize w5.heap.size + 1 = g30 at hS o30 ⊢
  generalize w5.heap.size = g3 at hS o3 ⊢
  refine (egcd3_ok g3 g30 ad af ag aj _ (hS.blk 1 rfl) (hS.blk 0 rfl) (hS.num 0 rfl) (hS.num 2 rfl) (hS.num 1 rfl) ae ah ai E31).mono ?_
  rintro e w7 ⟨v_, rfl, hv_, hx_⟩
  replace hS := hS.mv hx_
  clear hx_
  obtain ⟨s31, A_31, n31, c31, rfl, ac⟩ := RI.opn hv_
  clear hv_
  replace hS := hS.addI ac
  clear ac
  go_wp2_with fail
  refine (one_yes _ aj _ (hS.num 0 rfl) H2.out).mono ?_
  rintro e w8 ⟨rfl, hx_⟩
  replace hS := hS.mv hx_
  clear hx_
  go_wp2
  go_ret
  exact ⟨ret_bool (rfl), hS.ext⟩

set_option maxRecDepth 100000 in
set_option maxHeartbeats 800000 in
theorem eValid_F (v0 : Value) (af ag ad : Int) (w : World) (hX0 : RG w v0 af ag ad) (ah : af.natAbs < lim) (ai : ag.natAbs < lim) (ae : ad.natAbs < lim) (H1 : Hid (0 < ad))
    (aj : Int) (E31 : Hid (aj = (gcdL [ad, af, ag] : Nat))) (A31 : aj.natAbs < lim) (H2 : Hid (aj ≠ 1)) :
    Calls Tryz.prog 16 #[v0] w fun e w' => e = .returned (.bool false) ∧ Ext w w' := by
  have hS := St.start w
  obtain ⟨a0, a1, a2, a3, a4, a5, a6, a7, a8, a9, aa, ab, rfl, ak, am, an⟩ := hX0
  replace hS := hS.addI ak
  clear ak
  replace hS := hS.addI am
  clear am
  replace hS := hS.addI an
  clear an
  have o1 : Own w w.heap.size := Own.of hS.ext (by simp)
  have ao := (St.al hS 26 #[.bool a0, .slice a1 a2 a3, .bool a4, .slice a5 a6 a7, .bool a8, .slice a9 aa ab] (g := w.heap.size) (by simp))
  have k_1 := (ao.blk 0 rfl).cell
  go_enter Tryz.func16, Tryz.ntmps16
  go_wp2_with fail
  clear k_1
  clear ao
  replace hS := (St.al hS 26 #[.bool a0, .slice a1 a2 a3, .bool a4, .slice a5 a6 a7, .bool a8, .slice a9 aa ab] (g := w.heap.size) (by simp))
  generalize (w.alloc (.cells #[.bool a0, .slice a1 a2 a3, .bool a4, .slice a5 a6 a7, .bool a8, .slice a9 aa ab] 26)) = w1 at hS ⊢
  generalize w.heap.size = g1 at hS o1 ⊢
  refine (Valid_yes _ af _ (hS.num 2 rfl) ah).mono ?_
  rintro e w2 ⟨rfl, hx_⟩
  replace hS := hS.mv hx_
  clear hx_
  have k_2 := (hS.blk 0 rfl).cell
  go_wp2_with fail
  clear k_2
  refine (Valid_yes _ ag _ (hS.num 1 rfl) ai).mono ?_
  rintro e w3 ⟨rfl, hx_⟩
  replace hS := hS.mv hx_
  clear hx_
  have k_3 := (hS.blk 0 rfl).cell
  go_wp2_with fail
  clear k_3
  refine (Valid_yes _ ad _ (hS.num 0 rfl) ae).mono ?_
  rintro e w4 ⟨rfl, hx_⟩
  replace hS := hS.mv hx_
  clear hx_
  have k_4 := (hS.blk 0 rfl).cell
  go_wp2_with fail
  clear k_4
  refine (Sign_at _ ad (1) _ (hS.num 0 rfl) ae (cmpZ_pos H1.out)).mono ?_
  rintro e w5 ⟨rfl, hx_⟩
  replace hS := hS.mv hx_
  clear hx_
  have o3 : Own w w5.heap.size := Own.of hS.ext (by simp)
  have ap := (St.al hS 66 #[.int .i64 0] (g := w5.heap.size) (by simp))
  have k_5 := (ap.blk 1 rfl).cell
  have o30 : Own w (w5.heap.size + 1) := Own.of hS.ext (by simp)
  go_wp2_with fail
  clear k_5
  clear ap
  replace hS := (St.al (St.al hS 66 #[.int .i64 0] (g := w5.heap.size) (by simp)) 24 #[.bool a8, .slice a9 aa ab, .bool a0, .slice a1 a2 a3, .bool a4, .slice a5 a6 a7] (g := (w5.heap.size + 1)) (by simp))
  generalize ((w5.alloc (.cells #[.int .i64 0] 66)).alloc (.cells #[.bool a8, .slice a9 aa ab, .bool a0, .slice a1 a2 a3, .bool a4, .slice a5 a6 a7] 24)) = w6 at hS ⊢
  generalize w5.heap.size + 1 = g30 at hS o30 ⊢
  generalize w5.heap.size = g3 at hS o3 ⊢
  refine (egcd3_ok g3 g30 ad af ag aj _ (hS.blk 1 rfl) (hS.blk 0 rfl) (hS.num 0 rfl) (hS.num 2 rfl) (hS.num 1 rfl) ae ah ai E31).mono ?_
  rintro e w7 ⟨v_, rfl, hv_, hx_⟩
  replace hS := hS.mv hx_
  clear hx_
  obtain ⟨s31, A_31, n31, c31, rfl, ac⟩ := RI.opn hv_
  clear hv_
  replace hS := hS.addI ac
  clear ac
  go_wp2_with fail
  refine (one_no _ aj _ (hS.num 0 rfl) H2.out).mono ?_
  rintro e w8 ⟨rfl, hx_⟩
  replace hS := hS.mv hx_
  clear hx_
  go_wp2
  go_ret
  exact ⟨ret_bool (rfl), hS.ext⟩

end Go.Proofs.YtjeijmnhbckjdaaGreatDoor
