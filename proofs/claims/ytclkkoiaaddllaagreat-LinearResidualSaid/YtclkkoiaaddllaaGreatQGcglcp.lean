/- How large an entry may grow under elimination: it is a quotient of two determinants of the first matrix. -/
import Derived.Test.YtclkkoiaaddllaaGreatQYaioof
import Derived.Test.YtclkkoiaaddllaaGreatQNHnbbg
import Derived.Test.YtclkkoiaaddllaaGreatQNGpcea

namespace Go.Proofs.YtclkkoiaaddllaaGreat
set_option linter.unusedVariables false

theorem i_mul (a b c d : Int) : GQ.i a b * GQ.i c d = GQ.i (a * c - b * d) (a * d + b * c) := by
  ext <;> simp only [GQ.mul_re, GQ.mul_im, GQ.i_re, GQ.i_im, Rat.intCast_sub, Rat.intCast_add, Rat.intCast_mul]
theorem i_ne {D : Int} (h : D ≠ 0) : GQ.i D 0 ≠ GQ.i 0 0 := by
  intro e
  have := congrArg GQ.re e
  simp only [GQ.i_re] at this
  exact cast_ne h (by simpa using this)
theorem wh_real {D : Int} {B : Nat} (h : D.natAbs ≤ B) : Wh (GQ.i D 0) B := ⟨D, 0, rfl, by simpa using h⟩
/-- A quotient of whole numbers. -/
theorem quot_bd {x N M : GQ} {B1 B2 n : Nat} (hN : Wh N B1) (hM : Wh M B2) (h0 : M ≠ GQ.i 0 0) (hx : x * M = N) (h1 : B1 * B2 < 2 ^ n) (h2 : B2 * B2 < 2 ^ n) : Bd x n := by
  obtain ⟨a, b, rfl, hab⟩ := hN
  obtain ⟨c, d, rfl, hcd⟩ := hM
  have hD : c * c + d * d ≠ 0 := by
    intro e
    apply h0
    have h3 : 0 ≤ c * c := sq_nonneg' c
    have h4 : 0 ≤ d * d := sq_nonneg' d
    have e1 : c * c = 0 := by omega
    have e2 : d * d = 0 := by omega
    rw [(Int.mul_eq_zero.1 e1).elim id id, (Int.mul_eq_zero.1 e2).elim id id]
  have hDq : ((c : Rat) * c + d * d) ≠ 0 := by
    have := cast_ne hD
    simpa only [Rat.intCast_add, Rat.intCast_mul] using this
  have r1 := congrArg GQ.re hx
  have r2 := congrArg GQ.im hx
  simp only [GQ.mul_re, GQ.mul_im, GQ.i_re, GQ.i_im] at r1 r2
  have le1 : (a.natAbs + b.natAbs) * (c.natAbs + d.natAbs) ≤ B1 * B2 := Nat.mul_le_mul hab hcd
  have le2 : (c.natAbs + d.natAbs) * (c.natAbs + d.natAbs) ≤ B2 * B2 := Nat.mul_le_mul hcd hcd
  have ex1 : (a.natAbs + b.natAbs) * (c.natAbs + d.natAbs) = a.natAbs * c.natAbs + b.natAbs * d.natAbs + (a.natAbs * d.natAbs + b.natAbs * c.natAbs) := by
    rw [Nat.add_mul, Nat.mul_add, Nat.mul_add]; omega
  have ex2 : (c.natAbs + d.natAbs) * (c.natAbs + d.natAbs) = c.natAbs * c.natAbs + d.natAbs * d.natAbs + (c.natAbs * d.natAbs + d.natAbs * c.natAbs) := by
    rw [Nat.add_mul, Nat.mul_add, Nat.mul_add]; omega
  refine Bd.of (a := a * c + b * d) (b := b * c - a * d) (d := c * c + d * d) hD ?_ ?_ ⟨?_, ?_, ?_⟩
  · simp only [Rat.intCast_add, Rat.intCast_mul]; grind
  · simp only [Rat.intCast_add, Rat.intCast_sub, Rat.intCast_mul]; grind
  · have := Int.natAbs_add_le (a * c) (b * d)
    rw [Int.natAbs_mul, Int.natAbs_mul] at this
    omega
  · have := Int.natAbs_sub_le (b * c) (a * d)
    rw [Int.natAbs_mul, Int.natAbs_mul] at this
    omega
  · have := Int.natAbs_add_le (c * c) (d * d)
    rw [Int.natAbs_mul, Int.natAbs_mul] at this
    omega
/-- A row times a whole number is whole. -/
theorem row_whole (v : Nat → GQ) (b : Nat) : ∀ (cs : List Nat), (∀ c ∈ cs, Bd (v c) b) → ∃ D : Int, D ≠ 0 ∧ D.natAbs ≤ 2 ^ (b * cs.length) ∧ ∀ c ∈ cs, Wh (GQ.i D 0 * v c) (2 ^ (b * cs.length + 1))
  | [], _ => ⟨1, by omega, by simp, by simp⟩
  | c :: cs, h => by
    obtain ⟨D, h0, h1, h2⟩ := row_whole v b cs (fun d hd => h d (List.mem_cons_of_mem _ hd))
    obtain ⟨x, y, z, I, S⟩ := h c (List.mem_cons_self)
    have hz := I.dne
    have sz := S.d
    have e1 : 2 ^ (b * (c :: cs).length) = 2 ^ b * 2 ^ (b * cs.length) := by rw [List.length_cons, Nat.mul_succ, Nat.add_comm, Nat.pow_add]
    have e2 : 2 ^ (b * (c :: cs).length + 1) = 2 ^ b * 2 ^ (b * cs.length + 1) := by rw [Nat.pow_succ, e1, Nat.pow_succ, Nat.mul_assoc]
    refine ⟨z * D, Int.mul_ne_zero hz h0, ?_, fun d hd => ?_⟩
    · rw [Int.natAbs_mul, e1]; exact Nat.mul_le_mul (by omega) h1
    · have es : GQ.i (z * D) 0 = GQ.i D 0 * GQ.i z 0 := by rw [i_mul]; congr 1 <;> (simp; try rw [Int.mul_comm])
      rcases List.mem_cons.1 hd with rfl | hd
      · have hv : GQ.i z 0 * v d = GQ.i x y := by
          have hzq := cast_ne hz
          ext <;> simp only [GQ.mul_re, GQ.mul_im, GQ.i_re, GQ.i_im, I.re, I.im] <;> grind
        rw [es, GQ.mul_assoc', hv]
        have hw : Wh (GQ.i x y) (2 ^ (b + 1)) := ⟨x, y, rfl, by rw [Nat.pow_succ]; have := S.a; have := S.b; omega⟩
        refine ((wh_real h1).mul hw).mono ?_
        rw [e2, Nat.pow_succ 2 b, Nat.pow_succ 2 (b * cs.length), Nat.mul_left_comm, Nat.mul_comm (2 ^ (b * cs.length)) 2]
        exact Nat.le_of_eq (by ac_rfl)
      · rw [es, GQ.mul_comm' (GQ.i D 0), GQ.mul_assoc']
        refine ((wh_real (B := 2 ^ b) (by omega)).mul (h2 d hd)).mono ?_
        rw [e2]; exact Nat.le_refl _
/-- Rows times whole numbers. -/
theorem rows_whole (b : Nat) (cs : List Nat) : ∀ (R : List (Nat → GQ)), (∀ r ∈ R, ∀ c ∈ cs, Bd (r c) b) → ∃ (R' : List (Nat → GQ)) (E : Int), E ≠ 0 ∧ R'.length = R.length ∧ (∀ l, det R' l = GQ.i E 0 * det R l) ∧ ∀ r ∈ R', ∀ c ∈ cs, Wh (r c) (2 ^ (b * cs.length + 1))
  | [], _ => ⟨[], 1, by omega, rfl, fun l => (GQ.one_mul' _).symm, by simp⟩
  | v :: R, h => by
    obtain ⟨R', E, h0, hl, hd, hw⟩ := rows_whole b cs R (fun r hr => h r (List.mem_cons_of_mem _ hr))
    obtain ⟨D, d0, d1, d2⟩ := row_whole v b cs (h v (List.mem_cons_self))
    refine ⟨(fun c => GQ.i D 0 * v c) :: R', D * E, Int.mul_ne_zero d0 h0, by simp [hl], fun l => ?_, ?_⟩
    · have e : det R' = fun l => GQ.i E 0 * det R l := funext hd
      show dsum (fun c => GQ.i D 0 * v c) (det R') l = GQ.i (D * E) 0 * dsum v (det R) l
      rw [dsum_scale, e, dsum_scaleD, ← GQ.mul_assoc', i_mul]
      congr 2 <;> simp
    · intro r hr
      rcases List.mem_cons.1 hr with rfl | hr
      · exact d2
      · exact hw r hr
/-- How large an entry is that stands for a quotient of two determinants. -/
def room (b k : Nat) : Nat := fct (k + 1) * (2 ^ (b * (k + 1) + 1)) ^ (k + 1) * (2 ^ (b * (k + 1)) * (fct k * (2 ^ (b * (k + 1) + 1)) ^ k))
theorem fct_pos : ∀ n, 1 ≤ fct n
  | 0 => Nat.le_refl _
  | n + 1 => Nat.mul_pos (by omega) (fct_pos n)
theorem entry_bd {x : GQ} {a : Nat → GQ} {P : List (Nat → GQ)} {q : List Nat} {j b k n : Nat} (hP : P.length = k) (hq : q.length = k) (hb : ∀ r ∈ a :: P, ∀ c ∈ j :: q, Bd (r c) b) (h0 : det P q ≠ GQ.i 0 0) (hx : det (a :: P) (j :: q) = x * det P q) (hn : room b k < 2 ^ n) : Bd x n := by
  obtain ⟨R, E, hE, hl, hd, hw⟩ := rows_whole b (j :: q) P (fun r hr => hb r (List.mem_cons_of_mem _ hr))
  obtain ⟨D, d0, d1, d2⟩ := row_whole a b (j :: q) (hb a (List.mem_cons_self))
  simp only [List.length_cons, hq] at hw d1 d2
  have hN := det_wh (B := 2 ^ (b * (k + 1) + 1)) ((fun c => GQ.i D 0 * a c) :: R) (j :: q) (by simp [hl, hP, hq]) (fun r hr => by
    rcases List.mem_cons.1 hr with rfl | hr
    · exact d2
    · exact hw r hr)
  have hM0 := det_wh (B := 2 ^ (b * (k + 1) + 1)) R q (by simp [hl, hP, hq]) (fun r hr c hc => hw r hr c (List.mem_cons_of_mem _ hc))
  simp only [List.length_cons, hq] at hN hM0
  have hM := (wh_real d1).mul hM0
  have eN : det ((fun c => GQ.i D 0 * a c) :: R) (j :: q) = x * (GQ.i D 0 * det R q) := by
    have e : det R = fun l => GQ.i E 0 * det P l := funext hd
    show dsum (fun c => GQ.i D 0 * a c) (det R) (j :: q) = _
    have hx' : dsum a (det P) (j :: q) = x * det P q := hx
    rw [dsum_scale, e, dsum_scaleD, hx']
    ext <;> simp only [GQ.mul_re, GQ.mul_im, GQ.i_re, GQ.i_im] <;> grind
  have hne : GQ.i D 0 * det R q ≠ GQ.i 0 0 := by
    rw [hd]
    exact GQ.mul_ne (i_ne d0) (GQ.mul_ne (i_ne hE) h0)
  refine quot_bd hN hM hne eN.symm hn (Nat.lt_of_le_of_lt ?_ hn)
  unfold room
  refine Nat.mul_le_mul ?_ (Nat.le_refl _)
  have h1 : 2 ^ (b * (k + 1)) ≤ 2 ^ (b * (k + 1) + 1) := Nat.pow_le_pow_right (by omega) (by omega)
  rw [Nat.pow_succ (2 ^ (b * (k + 1) + 1))]
  have h2 : fct k ≤ fct (k + 1) := by
    show fct k ≤ (k + 1) * fct k
    exact Nat.le_mul_of_pos_left _ (by omega)
  calc 2 ^ (b * (k + 1)) * (fct k * (2 ^ (b * (k + 1) + 1)) ^ k) ≤ 2 ^ (b * (k + 1) + 1) * (fct (k + 1) * (2 ^ (b * (k + 1) + 1)) ^ k) := Nat.mul_le_mul h1 (Nat.mul_le_mul h2 (Nat.le_refl _))
    _ = fct (k + 1) * ((2 ^ (b * (k + 1) + 1)) ^ k * 2 ^ (b * (k + 1) + 1)) := by ac_rfl
end Go.Proofs.YtclkkoiaaddllaaGreat

namespace Go.Proofs.YtclkkoiaaddllaaGreat
set_option linter.unusedVariables false

instance : DecidableEq GQ := fun x y => decidable_of_iff (x.re = y.re ∧ x.im = y.im) ⟨fun h => GQ.ext h.1 h.2, fun h => by rw [h]; exact ⟨rfl, rfl⟩⟩
theorem GQ.div_cancel' {x y : GQ} (h : y ≠ GQ.i 0 0) : x / y * y = x := by
  have h1 := GQ.nrm_ne h
  unfold GQ.nrm at h1
  ext <;> simp only [GQ.mul_re, GQ.mul_im, GQ.div_re, GQ.div_im, GQ.nrm] <;> grind
theorem GQ.zero_div' (y : GQ) : GQ.i 0 0 / y = GQ.i 0 0 := by
  ext <;> simp only [GQ.div_re, GQ.div_im, GQ.i_re, GQ.i_im] <;> grind
/-- The first row from k on, n rows long, with an entry that is not 0. -/
def fp (X : Nat → Nat → GQ) (c : Nat) : Nat → Nat → Option Nat
  | 0, _ => none
  | n + 1, k => if X k c = GQ.i 0 0 then fp X c n (k + 1) else some k
theorem fp_some {X : Nat → Nat → GQ} {c p : Nat} : ∀ {n k : Nat}, k ≤ p → p < k + n → (∀ i, k ≤ i → i < p → X i c = GQ.i 0 0) → X p c ≠ GQ.i 0 0 → fp X c n k = some p
  | 0, k, h1, h2, _, _ => by omega
  | n + 1, k, h1, h2, h, h0 => by
    unfold fp
    by_cases e : k = p
    · subst e; rw [if_neg h0]
    · rw [if_pos (h k (Nat.le_refl _) (by omega))]
      exact fp_some (by omega) (by omega) (fun i hi => h i (by omega)) h0
theorem fp_none {X : Nat → Nat → GQ} {c : Nat} : ∀ {n k : Nat}, (∀ i, k ≤ i → i < k + n → X i c = GQ.i 0 0) → fp X c n k = none
  | 0, _, _ => rfl
  | n + 1, k, h => by
    unfold fp
    rw [if_pos (h k (Nat.le_refl _) (by omega))]
    exact fp_none (fun i h1 h2 => h i (by omega) (by omega))
theorem of_fp_none {X : Nat → Nat → GQ} {c : Nat} : ∀ {n k : Nat}, fp X c n k = none → ∀ i, k ≤ i → i < k + n → X i c = GQ.i 0 0
  | 0, k, _, i, h1, h2 => by omega
  | n + 1, k, h, i, h1, h2 => by
    unfold fp at h
    by_cases e : X k c = GQ.i 0 0
    · rw [if_pos e] at h
      by_cases e2 : i = k
      · subst e2; exact e
      · exact of_fp_none h i (by omega) (by omega)
    · rw [if_neg e] at h; cases h
theorem of_fp_some {X : Nat → Nat → GQ} {c p : Nat} : ∀ {n k : Nat}, fp X c n k = some p → k ≤ p ∧ p < k + n ∧ X p c ≠ GQ.i 0 0 ∧ ∀ i, k ≤ i → i < p → X i c = GQ.i 0 0
  | 0, k, h => by cases h
  | n + 1, k, h => by
    unfold fp at h
    by_cases e : X k c = GQ.i 0 0
    · rw [if_pos e] at h
      obtain ⟨h1, h2, h3, h4⟩ := of_fp_some h
      refine ⟨by omega, by omega, h3, fun i hi hp => ?_⟩
      by_cases e2 : i = k
      · subst e2; exact e
      · exact h4 i (by omega) hp
    · rw [if_neg e] at h; cases h
      exact ⟨Nat.le_refl _, by omega, e, fun i h1 h2 => by omega⟩
/-- Two rows exchanged. -/
def swp (k r i : Nat) : Nat := if i = k then r else if i = r then k else i
theorem swp_self (k i : Nat) : swp k k i = i := by unfold swp; split <;> omega
theorem swp_r (k r : Nat) : swp k r r = k := by unfold swp; split <;> simp_all
theorem swp_k (k r : Nat) : swp k r k = r := by unfold swp; simp
theorem swp_ne {k r i : Nat} (h1 : i ≠ k) (h2 : i ≠ r) : swp k r i = i := by unfold swp; rw [if_neg h1, if_neg h2]
theorem swp_lt {k r i m : Nat} (hk : k < m) (hr : r < m) (hi : i < m) : swp k r i < m := by unfold swp; split <;> (try split) <;> omega
theorem swp_inv (k r i : Nat) : swp k r (swp k r i) = i := by unfold swp; split <;> (try split) <;> (try split) <;> (try split) <;> omega
/-- The multiples of row r that leave 0 in column c below it, subtracted. -/
def clr (X : Nat → Nat → GQ) (r c : Nat) : Nat → Nat → GQ := fun i j => if r < i then X i j - X i c / X r c * X r j else X i j
/-- Elimination's state: the rank so far, the rows, whether the number of exchanges is odd, the pivots' columns (the last one first). -/
structure Ec where
  r : Nat
  X : Nat → Nat → GQ
  odd : Bool
  q : List Nat
def estep (m c : Nat) (s : Ec) : Ec :=
  match fp s.X c (m - s.r) s.r with
  | none => s
  | some k => ⟨s.r + 1, clr (fun i => s.X (swp k s.r i)) s.r c, s.odd ^^ decide (k ≠ s.r), c :: s.q⟩
def ech (m : Nat) (X : Nat → Nat → GQ) : Nat → Ec
  | 0 => ⟨0, X, false, []⟩
  | c + 1 => estep m c (ech m X c)
theorem estep_none {m c : Nat} {s : Ec} (h : fp s.X c (m - s.r) s.r = none) : estep m c s = s := by unfold estep; rw [h]
theorem estep_some {m c k : Nat} {s : Ec} (h : fp s.X c (m - s.r) s.r = some k) : estep m c s = ⟨s.r + 1, clr (fun i => s.X (swp k s.r i)) s.r c, s.odd ^^ decide (k ≠ s.r), c :: s.q⟩ := by unfold estep; rw [h]
/-- What elimination keeps: the rows below the pivots say the same as the first rows did. -/
structure Inv (m : Nat) (X0 : Nat → Nat → GQ) (c : Nat) (s : Ec) (o : Nat → Nat) (P : List (Nat → GQ)) : Prop where
  rm : s.r ≤ m
  pl : P.length = s.r
  ql : s.q.length = s.r
  ne : det P s.q ≠ GQ.i 0 0
  qc : ∀ d ∈ s.q, d < c
  pm : ∀ p ∈ P, ∃ i, i < m ∧ p = X0 i
  om : ∀ i, i < m → o i < m
  sy : ∀ i, s.r ≤ i → i < m → Says (s.X i) (X0 (o i)) P
  z : ∀ i j, s.r ≤ i → i < m → j < c → s.X i j = GQ.i 0 0
theorem Inv.start (m : Nat) (X0 : Nat → Nat → GQ) : Inv m X0 0 (ech m X0 0) (fun i => i) [] :=
  ⟨by simp [ech], rfl, rfl, by show GQ.i 1 0 ≠ _; decide, by simp [ech], by simp, fun i h => h, fun i _ _ => Says.refl _ _, by intros; omega⟩
theorem Inv.step {m c : Nat} {X0 : Nat → Nat → GQ} {s : Ec} {o : Nat → Nat} {P : List (Nat → GQ)} (h : Inv m X0 c s o P) : ∃ o' P', Inv m X0 (c + 1) (estep m c s) o' P' := by
  have hrm := h.rm
  cases hf : fp s.X c (m - s.r) s.r with
  | none =>
    rw [estep_none hf]
    refine ⟨o, P, h.rm, h.pl, h.ql, h.ne, fun d hd => Nat.lt_succ_of_lt (h.qc d hd), h.pm, h.om, h.sy, fun i j h1 h2 h3 => ?_⟩
    by_cases e : j = c
    · subst e; exact of_fp_none hf i h1 (by omega)
    · exact h.z i j h1 h2 (by omega)
  | some k =>
    obtain ⟨k1, k2, k3, k4⟩ := of_fp_some hf
    rw [estep_some hf]
    have hks : swp k s.r s.r = k := swp_r _ _
    have hen := (h.sy k k1 (by omega)).entry (fun d hd => h.z k d k1 (by omega) (h.qc d hd)) c
    refine ⟨fun i => o (swp k s.r i), X0 (o k) :: P, by show s.r + 1 ≤ m; omega, by simp [h.pl], by simp [h.ql], ?_, ?_, ?_, ?_, ?_, ?_⟩
    · show det (X0 (o k) :: P) (c :: s.q) ≠ _
      rw [hen]; exact GQ.mul_ne k3 h.ne
    · intro d hd
      rcases List.mem_cons.1 hd with rfl | hd
      · omega
      · exact Nat.lt_succ_of_lt (h.qc d hd)
    · intro p hp
      rcases List.mem_cons.1 hp with rfl | hp
      · exact ⟨o k, h.om k (by omega), rfl⟩
      · exact h.pm p hp
    · intro i hi
      exact h.om _ (swp_lt (by omega) (by omega) hi)
    · intro i h1 h2
      have h1' : s.r < i := h1
      have e : (clr (fun i => s.X (swp k s.r i)) s.r c) i = fun j => s.X (swp k s.r i) j - (s.X (swp k s.r i) c / s.X k c) * s.X k j := by
        funext j; unfold clr; rw [if_pos h1']; simp only [hks]
      show Says ((clr (fun i => s.X (swp k s.r i)) s.r c) i) _ _
      rw [e]
      have hsr : s.r ≤ swp k s.r i := by unfold swp; split <;> (try split) <;> omega
      exact Says.step (h.sy _ hsr (swp_lt (by omega) (by omega) h2)) (h.sy k k1 (by omega)) _
    · intro i j h1 h2 h3
      have h1' : s.r < i := h1
      have hsr : s.r ≤ swp k s.r i := by unfold swp; split <;> (try split) <;> omega
      have hsm := swp_lt (k := k) (r := s.r) (i := i) (m := m) (by omega) (by omega) h2
      show (clr (fun i => s.X (swp k s.r i)) s.r c) i j = _
      unfold clr; rw [if_pos h1']; simp only [hks]
      by_cases e : j = c
      · subst e; rw [GQ.div_cancel' k3, GQ.sub_self']
      · rw [h.z _ j hsr hsm (by omega), h.z k j k1 (by omega) (by omega), GQ.mul_zero', GQ.sub_zero']
theorem ech_inv (m : Nat) (X0 : Nat → Nat → GQ) : ∀ c, ∃ o P, Inv m X0 c (ech m X0 c) o P
  | 0 => ⟨_, _, Inv.start m X0⟩
  | c + 1 => by
    obtain ⟨o, P, h⟩ := ech_inv m X0 c
    exact h.step
theorem Inv.bd {m c b N W : Nat} {X0 : Nat → Nat → GQ} {s : Ec} {o : Nat → Nat} {P : List (Nat → GQ)} (h : Inv m X0 c s o P) (hb : ∀ i j, i < m → j < W → Bd (X0 i j) b) (hc : c ≤ W) (hN : room b s.r < 2 ^ N) : ∀ i j, s.r ≤ i → i < m → j < W → Bd (s.X i j) N := by
  intro i j h1 h2 h3
  refine entry_bd h.pl h.ql ?_ h.ne ((h.sy i h1 h2).entry (fun d hd => h.z i d h1 h2 (h.qc d hd)) j) hN
  intro r hr d hd
  have hdW : d < W := by
    rcases List.mem_cons.1 hd with rfl | hd
    · exact h3
    · have := h.qc d hd; omega
  rcases List.mem_cons.1 hr with rfl | hr
  · exact hb _ _ (h.om i h2) hdW
  · obtain ⟨k, hk, rfl⟩ := h.pm r hr
    exact hb _ _ hk hdW
/-- How large a factor is: a quotient of two determinants. -/
def roomf (b k : Nat) : Nat := (2 ^ (b * (k + 1)) * (fct (k + 1) * (2 ^ (b * (k + 1) + 1)) ^ (k + 1))) * (2 ^ (b * (k + 1)) * (fct (k + 1) * (2 ^ (b * (k + 1) + 1)) ^ (k + 1)))
theorem fac_bd {x y : GQ} {a e : Nat → GQ} {P : List (Nat → GQ)} {q : List Nat} {c b k n : Nat} (hP : P.length = k) (hq : q.length = k) (hb : ∀ r ∈ a :: e :: P, ∀ d ∈ c :: q, Bd (r d) b) (h0 : det P q ≠ GQ.i 0 0) (hy : y ≠ GQ.i 0 0)
    (hx : det (a :: P) (c :: q) = x * det P q) (he : det (e :: P) (c :: q) = y * det P q) (hn : roomf b k < 2 ^ n) : Bd (x / y) n := by
  obtain ⟨R, E, hE, hl, hd, hw⟩ := rows_whole b (c :: q) P (fun r hr => hb r (List.mem_cons_of_mem _ (List.mem_cons_of_mem _ hr)))
  obtain ⟨D, d0, d1, d2⟩ := row_whole a b (c :: q) (hb a (List.mem_cons_self))
  obtain ⟨F, f0, f1, f2⟩ := row_whole e b (c :: q) (hb e (List.mem_cons_of_mem _ (List.mem_cons_self)))
  simp only [List.length_cons, hq] at hw d1 d2 f1 f2
  have hN := det_wh (B := 2 ^ (b * (k + 1) + 1)) ((fun c => GQ.i D 0 * a c) :: R) (c :: q) (by simp [hl, hP, hq]) (fun r hr => by
    rcases List.mem_cons.1 hr with rfl | hr
    · exact d2
    · exact hw r hr)
  have hM := det_wh (B := 2 ^ (b * (k + 1) + 1)) ((fun c => GQ.i F 0 * e c) :: R) (c :: q) (by simp [hl, hP, hq]) (fun r hr => by
    rcases List.mem_cons.1 hr with rfl | hr
    · exact f2
    · exact hw r hr)
  simp only [List.length_cons, hq] at hN hM
  have eE : det R = fun l => GQ.i E 0 * det P l := funext hd
  have eN : det ((fun c => GQ.i D 0 * a c) :: R) (c :: q) = GQ.i D 0 * (GQ.i E 0 * (x * det P q)) := by
    show dsum (fun c => GQ.i D 0 * a c) (det R) (c :: q) = _
    have hx' : dsum a (det P) (c :: q) = x * det P q := hx
    rw [dsum_scale, eE, dsum_scaleD, hx']
  have eM : det ((fun c => GQ.i F 0 * e c) :: R) (c :: q) = GQ.i F 0 * (GQ.i E 0 * (y * det P q)) := by
    show dsum (fun c => GQ.i F 0 * e c) (det R) (c :: q) = _
    have he' : dsum e (det P) (c :: q) = y * det P q := he
    rw [dsum_scale, eE, dsum_scaleD, he']
  rw [eN] at hN
  rw [eM] at hM
  have h1 := (wh_real f1).mul hN
  have h2 := (wh_real d1).mul hM
  refine quot_bd h1 h2 ?_ ?_ hn hn
  · exact GQ.mul_ne (i_ne d0) (GQ.mul_ne (i_ne f0) (GQ.mul_ne (i_ne hE) (GQ.mul_ne hy h0)))
  · have := GQ.div_cancel' (x := x) hy
    generalize x / y = f at this ⊢
    subst this
    generalize det P q = d
    rw [GQ.mul_comm' (GQ.i D 0) (GQ.i F 0 * _), GQ.mul_comm' (GQ.i D 0) (GQ.i E 0 * _)]
    simp only [GQ.mul_assoc']
    rw [GQ.mul_comm' f, GQ.mul_comm' f]
    simp only [GQ.mul_assoc']
theorem Inv.fac {m c b N W k i : Nat} {X0 : Nat → Nat → GQ} {s : Ec} {o : Nat → Nat} {P : List (Nat → GQ)} (h : Inv m X0 c s o P) (hb : ∀ i j, i < m → j < W → Bd (X0 i j) b) (hc : c < W) (hN : roomf b s.r < 2 ^ N) (h1 : s.r ≤ i) (h2 : i < m) (k1 : s.r ≤ k) (k2 : k < m) (h0 : s.X k c ≠ GQ.i 0 0) : Bd (s.X i c / s.X k c) N := by
  refine fac_bd h.pl h.ql ?_ h.ne h0 ((h.sy i h1 h2).entry (fun d hd => h.z i d h1 h2 (h.qc d hd)) c) ((h.sy k k1 k2).entry (fun d hd => h.z k d k1 k2 (h.qc d hd)) c) hN
  intro r hr d hd
  have hdW : d < W := by
    rcases List.mem_cons.1 hd with rfl | hd
    · exact hc
    · have := h.qc d hd; omega
  rcases List.mem_cons.1 hr with rfl | hr
  · exact hb _ _ (h.om i h2) hdW
  · rcases List.mem_cons.1 hr with rfl | hr
    · exact hb _ _ (h.om k k2) hdW
    · obtain ⟨k, hk, rfl⟩ := h.pm r hr
      exact hb _ _ hk hdW
end Go.Proofs.YtclkkoiaaddllaaGreat

namespace Go.Proofs.YtclkkoiaaddllaaGreat
open Go.RowKit
set_option linter.unusedVariables false

set_option maxRecDepth 100000 in
set_option maxHeartbeats 1600000 in
theorem qSmall_any (s1 : Bool) (A1 : Option Addr) (n1 c1 : Nat) (s2 : Bool) (A2 : Option Addr) (n2 c2 : Nat) (s3 : Bool) (A3 : Option Addr) (n3 c3 : Nat) (k : Nat) (w : World) :
    Calls Tryz.prog 28 #[gv s1 A1 n1 c1 s2 A2 n2 c2 s3 A3 n3 c3, .int .i64 (k : Int)] w fun e w' => e = .returned (.bool (decide (n1 ≤ k) && decide (n2 ≤ k) && decide (n3 ≤ k))) ∧ Ext w w' := by
  have b0 := Blk.new w 32 #[.bool s1, .slice A1 n1 c1, .bool s2, .slice A2 n2 c2, .bool s3, .slice A3 n3 c3]
  have k0 := b0.cell
  by_cases h1 : n1 ≤ k
  · have d1 : decide ((n1 : Int) ≤ (k : Int)) = true := by simp; omega
    have d1' : decide (n1 ≤ k) = true := by simp; omega
    by_cases h2 : n2 ≤ k
    · have d2 : decide ((n2 : Int) ≤ (k : Int)) = true := by simp; omega
      have d2' : decide (n2 ≤ k) = true := by simp; omega
      by_cases h3 : n3 ≤ k
      · have d3 : decide ((n3 : Int) ≤ (k : Int)) = true := by simp; omega
        have d3' : decide (n3 ≤ k) = true := by simp; omega
        go_enter Tryz.func28, Tryz.ntmps28
        go_wp2
        go_ret
        exact ⟨ret_bool (by simp [h1, h2, h3]), Ext.new _ _⟩
      · have d3 : decide ((n3 : Int) ≤ (k : Int)) = false := by simp; omega
        have d3' : decide (n3 ≤ k) = false := by simp; omega
        go_enter Tryz.func28, Tryz.ntmps28
        go_wp2
        go_ret
        exact ⟨ret_bool (by simp [h3]), Ext.new _ _⟩
    · have d2 : decide ((n2 : Int) ≤ (k : Int)) = false := by simp; omega
      have d2' : decide (n2 ≤ k) = false := by simp; omega
      go_enter Tryz.func28, Tryz.ntmps28
      go_wp2
      go_ret
      exact ⟨ret_bool (by simp [h2]), Ext.new _ _⟩
  · have d1 : decide ((n1 : Int) ≤ (k : Int)) = false := by simp; omega
    have d1' : decide (n1 ≤ k) = false := by simp; omega
    go_enter Tryz.func28, Tryz.ntmps28
    go_wp2
    go_ret
    exact ⟨ret_bool (by simp [h1]), Ext.new _ _⟩

end Go.Proofs.YtclkkoiaaddllaaGreat

