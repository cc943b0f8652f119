/- How large an entry may grow under elimination: it is a quotient of two determinants of the first matrix. -/
import Derived.Test.YtclkkoiaaddllaaGreatQYaoihl
import Derived.Test.YtclkkoiaaddllaaGreatQNHkoha
namespace Go.Proofs.YtclkkoiaaddllaaGreat
set_option linter.unusedVariables false

theorem i_mul (a b c d : Int) : GQ.i a b * GQ.i c d = GQ.i (a * c - b * d) (a * d + b * c) := by
  ext <;> simp only [GQ.mul_re, GQ.mul_im, GQ.i_re, GQ.i_im, Rat.intCast_sub, Rat.intCast_add, Rat.intCast_mul]
theorem i_ne {D : Int} (h : D ≠ 0) : GQ.i D 0 ≠ GQ.i 0 0 := by
  intro e
  have := congrArg GQ.re e
  simp only [GQ.i_re] at this
  exact cast_ne h (by simpa using this)
theorem wh_real {D : Int} {B : Nat} (h : D.natAbs ≤ B) : Wh (GQ.i D 0) B := ⟨D, 0, rfl, by simpa using h⟩
/-- A quotient of whole numbers. -/
theorem quot_bd {x N M : GQ} {B1 B2 n : Nat} (hN : Wh N B1) (hM : Wh M B2) (h0 : M ≠ GQ.i 0 0) (hx : x * M = N) (h1 : B1 * B2 < 2 ^ n) (h2 : B2 * B2 < 2 ^ n) : Bd x n := by
  obtain ⟨a, b, rfl, hab⟩ := hN
  obtain ⟨c, d, rfl, hcd⟩ := hM
  have hD : c * c + d * d ≠ 0 := by
    intro e
    apply h0
    have h3 : 0 ≤ c * c := sq_nonneg' c
    have h4 : 0 ≤ d * d := sq_nonneg' d
    have e1 : c * c = 0 := by omega
    have e2 : d * d = 0 := by omega
    rw [(Int.mul_eq_zero.1 e1).elim id id, (Int.mul_eq_zero.1 e2).elim id id]
  have hDq : ((c : Rat) * c + d * d) ≠ 0 := by
    have := cast_ne hD
    simpa only [Rat.intCast_add, Rat.intCast_mul] using this
  have r1 := congrArg GQ.re hx
  have r2 := congrArg GQ.im hx
  simp only [GQ.mul_re, GQ.mul_im, GQ.i_re, GQ.i_im] at r1 r2
  have le1 : (a.natAbs + b.natAbs) * (c.natAbs + d.natAbs) ≤ B1 * B2 := Nat.mul_le_mul hab hcd
  have le2 : (c.natAbs + d.natAbs) * (c.natAbs + d.natAbs) ≤ B2 * B2 := Nat.mul_le_mul hcd hcd
  have ex1 : (a.natAbs + b.natAbs) * (c.natAbs + d.natAbs) = a.natAbs * c.natAbs + b.natAbs * d.natAbs + (a.natAbs * d.natAbs + b.natAbs * c.natAbs) := by
    rw [Nat.add_mul, Nat.mul_add, Nat.mul_add]; omega
  have ex2 : (c.natAbs + d.natAbs) * (c.natAbs + d.natAbs) = c.natAbs * c.natAbs + d.natAbs * d.natAbs + (c.natAbs * d.natAbs + d.natAbs * c.natAbs) := by
    rw [Nat.add_mul, Nat.mul_add, Nat.mul_add]; omega
  refine Bd.of (a := a * c + b * d) (b := b * c - a * d) (d := c * c + d * d) hD ?_ ?_ ⟨?_, ?_, ?_⟩
  · simp only [Rat.intCast_add, Rat.intCast_mul]; grind
  · simp only [Rat.intCast_add, Rat.intCast_sub, Rat.intCast_mul]; grind
  · have := Int.natAbs_add_le (a * c) (b * d)
    rw [Int.natAbs_mul, Int.natAbs_mul] at this
    omega
  · have := Int.natAbs_sub_le (b * c) (a * d)
    rw [Int.natAbs_mul, Int.natAbs_mul] at this
    omega
  · have := Int.natAbs_add_le (c * c) (d * d)
    rw [Int.natAbs_mul, Int.natAbs_mul] at this
    omega
/-- A row times a whole number is whole. -/
theorem row_whole (v : Nat → GQ) (b : Nat) : ∀ (cs : List Nat), (∀ c ∈ cs, Bd (v c) b) → ∃ D : Int, D ≠ 0 ∧ D.natAbs ≤ 2 ^ (b * cs.length) ∧ ∀ c ∈ cs, Wh (GQ.i D 0 * v c) (2 ^ (b * cs.length + 1))
  | [], _ => ⟨1, by omega, by simp, by simp⟩
  | c :: cs, h => by
    obtain ⟨D, h0, h1, h2⟩ := row_whole v b cs (fun d hd => h d (List.mem_cons_of_mem _ hd))
    obtain ⟨x, y, z, I, S⟩ := h c (List.mem_cons_self)
    have hz := I.dne
    have sz := S.d
    have e1 : 2 ^ (b * (c :: cs).length) = 2 ^ b * 2 ^ (b * cs.length) := by rw [List.length_cons, Nat.mul_succ, Nat.add_comm, Nat.pow_add]
    have e2 : 2 ^ (b * (c :: cs).length + 1) = 2 ^ b * 2 ^ (b * cs.length + 1) := by rw [Nat.pow_succ, e1, Nat.pow_succ, Nat.mul_assoc]
    refine ⟨z * D, Int.mul_ne_zero hz h0, ?_, fun d hd => ?_⟩
    · rw [Int.natAbs_mul, e1]; exact Nat.mul_le_mul (by omega) h1
    · have es : GQ.i (z * D) 0 = GQ.i D 0 * GQ.i z 0 := by rw [i_mul]; congr 1 <;> (simp; try rw [Int.mul_comm])
      rcases List.mem_cons.1 hd with rfl | hd
      · have hv : GQ.i z 0 * v d = GQ.i x y := by
          have hzq := cast_ne hz
          ext <;> simp only [GQ.mul_re, GQ.mul_im, GQ.i_re, GQ.i_im, I.re, I.im] <;> grind
        rw [es, GQ.mul_assoc', hv]
        have hw : Wh (GQ.i x y) (2 ^ (b + 1)) := ⟨x, y, rfl, by rw [Nat.pow_succ]; have := S.a; have := S.b; omega⟩
        refine ((wh_real h1).mul hw).mono ?_
        rw [e2, Nat.pow_succ 2 b, Nat.pow_succ 2 (b * cs.length), Nat.mul_left_comm, Nat.mul_comm (2 ^ (b * cs.length)) 2]
        exact Nat.le_of_eq (by ac_rfl)
      · rw [es, GQ.mul_comm' (GQ.i D 0), GQ.mul_assoc']
        refine ((wh_real (B := 2 ^ b) (by omega)).mul (h2 d hd)).mono ?_
        rw [e2]; exact Nat.le_refl _
/-- Rows times whole numbers. -/
theorem rows_whole (b : Nat) (cs : List Nat) : ∀ (R : List (Nat → GQ)), (∀ r ∈ R, ∀ c ∈ cs, Bd (r c) b) → ∃ (R' : List (Nat → GQ)) (E : Int), E ≠ 0 ∧ R'.length = R.length ∧ (∀ l, det R' l = GQ.i E 0 * det R l) ∧ ∀ r ∈ R', ∀ c ∈ cs, Wh (r c) (2 ^ (b * cs.length + 1))
  | [], _ => ⟨[], 1, by omega, rfl, fun l => (GQ.one_mul' _).symm, by simp⟩
  | v :: R, h => by
    obtain ⟨R', E, h0, hl, hd, hw⟩ := rows_whole b cs R (fun r hr => h r (List.mem_cons_of_mem _ hr))
    obtain ⟨D, d0, d1, d2⟩ := row_whole v b cs (h v (List.mem_cons_self))
    refine ⟨(fun c => GQ.i D 0 * v c) :: R', D * E, Int.mul_ne_zero d0 h0, by simp [hl], fun l => ?_, ?_⟩
    · have e : det R' = fun l => GQ.i E 0 * det R l := funext hd
      show dsum (fun c => GQ.i D 0 * v c) (det R') l = GQ.i (D * E) 0 * dsum v (det R) l
      rw [dsum_scale, e, dsum_scaleD, ← GQ.mul_assoc', i_mul]
      congr 2 <;> simp
    · intro r hr
      rcases List.mem_cons.1 hr with rfl | hr
      · exact d2
      · exact hw r hr
/-- How large an entry is that stands for a quotient of two determinants. -/
def room (b k : Nat) : Nat := fct (k + 1) * (2 ^ (b * (k + 1) + 1)) ^ (k + 1) * (2 ^ (b * (k + 1)) * (fct k * (2 ^ (b * (k + 1) + 1)) ^ k))
theorem entry_bd {x : GQ} {a : Nat → GQ} {P : List (Nat → GQ)} {q : List Nat} {j b k n : Nat} (hP : P.length = k) (hq : q.length = k) (hb : ∀ r ∈ a :: P, ∀ c ∈ j :: q, Bd (r c) b) (h0 : det P q ≠ GQ.i 0 0) (hx : det (a :: P) (j :: q) = x * det P q) (hn : room b k < 2 ^ n) : Bd x n := by
  obtain ⟨R, E, hE, hl, hd, hw⟩ := rows_whole b (j :: q) P (fun r hr => hb r (List.mem_cons_of_mem _ hr))
  obtain ⟨D, d0, d1, d2⟩ := row_whole a b (j :: q) (hb a (List.mem_cons_self))
  simp only [List.length_cons, hq] at hw d1 d2
  have hN := det_wh (B := 2 ^ (b * (k + 1) + 1)) ((fun c => GQ.i D 0 * a c) :: R) (j :: q) (by simp [hl, hP, hq]) (fun r hr => by
    rcases List.mem_cons.1 hr with rfl | hr
    · exact d2
    · exact hw r hr)
  have hM0 := det_wh (B := 2 ^ (b * (k + 1) + 1)) R q (by simp [hl, hP, hq]) (fun r hr c hc => hw r hr c (List.mem_cons_of_mem _ hc))
  simp only [List.length_cons, hq] at hN hM0
  have hM := (wh_real d1).mul hM0
  have eN : det ((fun c => GQ.i D 0 * a c) :: R) (j :: q) = x * (GQ.i D 0 * det R q) := by
    have e : det R = fun l => GQ.i E 0 * det P l := funext hd
    show dsum (fun c => GQ.i D 0 * a c) (det R) (j :: q) = _
    have hx' : dsum a (det P) (j :: q) = x * det P q := hx
    rw [dsum_scale, e, dsum_scaleD, hx']
    ext <;> simp only [GQ.mul_re, GQ.mul_im, GQ.i_re, GQ.i_im] <;> grind
  have hne : GQ.i D 0 * det R q ≠ GQ.i 0 0 := by
    rw [hd]
    exact GQ.mul_ne (i_ne d0) (GQ.mul_ne (i_ne hE) h0)
  refine quot_bd hN hM hne eN.symm hn (Nat.lt_of_le_of_lt ?_ hn)
  unfold room
  refine Nat.mul_le_mul ?_ (Nat.le_refl _)
  have h1 : 2 ^ (b * (k + 1)) ≤ 2 ^ (b * (k + 1) + 1) := Nat.pow_le_pow_right (by omega) (by omega)
  rw [Nat.pow_succ (2 ^ (b * (k + 1) + 1))]
  have h2 : fct k ≤ fct (k + 1) := by
    show fct k ≤ (k + 1) * fct k
    exact Nat.le_mul_of_pos_left _ (by omega)
  calc 2 ^ (b * (k + 1)) * (fct k * (2 ^ (b * (k + 1) + 1)) ^ k) ≤ 2 ^ (b * (k + 1) + 1) * (fct (k + 1) * (2 ^ (b * (k + 1) + 1)) ^ k) := Nat.mul_le_mul h1 (Nat.mul_le_mul h2 (Nat.le_refl _))
    _ = fct (k + 1) * ((2 ^ (b * (k + 1) + 1)) ^ k * 2 ^ (b * (k + 1) + 1)) := by ac_rfl
end Go.Proofs.YtclkkoiaaddllaaGreat
