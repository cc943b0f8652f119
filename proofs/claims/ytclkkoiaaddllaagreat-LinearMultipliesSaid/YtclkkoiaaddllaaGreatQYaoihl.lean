/- Determinants of complex rationals: rows as functions, expansion along the first row; what elimination says of an entry. -/
import Derived.Test.YtclkkoiaaddllaaGreatQNDilab
namespace Go.Proofs.YtclkkoiaaddllaaGreat
set_option linter.unusedVariables false

namespace GQ
theorem mul_sub' (x y z : GQ) : x * (y - z) = x * y - x * z := by ext <;> simp only [sub_re, sub_im, mul_re, mul_im] <;> grind
theorem zero_mul' (x : GQ) : i 0 0 * x = i 0 0 := by ext <;> simp only [i_re, i_im, mul_re, mul_im] <;> grind
theorem mul_zero' (x : GQ) : x * i 0 0 = i 0 0 := by ext <;> simp only [i_re, i_im, mul_re, mul_im] <;> grind
theorem one_mul' (x : GQ) : i 1 0 * x = x := by ext <;> simp only [i_re, i_im, mul_re, mul_im] <;> grind
theorem sub_zero' (x : GQ) : x - i 0 0 = x := by ext <;> simp only [i_re, i_im, sub_re, sub_im] <;> grind
theorem sub_self' (x : GQ) : x - x = i 0 0 := by ext <;> simp only [i_re, i_im, sub_re, sub_im] <;> grind
theorem add_zero' (x : GQ) : x + i 0 0 = x := by ext <;> simp only [i_re, i_im, add_re, add_im] <;> grind
theorem neg_of_add {x y : GQ} (h : x + y = i 0 0) : x = -y := by
  have h1 := congrArg GQ.re h
  have h2 := congrArg GQ.im h
  simp only [add_re, add_im, i_re, i_im] at h1 h2
  ext <;> simp only [neg_re, neg_im] <;> grind
theorem zero_of_dbl {x : GQ} (h : x + x = i 0 0) : x = i 0 0 := by
  have h1 := congrArg GQ.re h
  have h2 := congrArg GQ.im h
  simp only [add_re, add_im, i_re, i_im] at h1 h2
  ext <;> simp only [i_re, i_im] <;> grind
theorem nrm_mul (x y : GQ) : (x * y).nrm = x.nrm * y.nrm := by unfold nrm; simp only [mul_re, mul_im]; grind
theorem mul_ne {x y : GQ} (hx : x ≠ i 0 0) (hy : y ≠ i 0 0) : x * y ≠ i 0 0 := by
  intro h
  have h1 := nrm_mul x y
  rw [h] at h1
  have h2 : (i 0 0).nrm = 0 := by unfold nrm; simp only [i_re, i_im]; grind
  rw [h2] at h1
  rcases Rat.mul_eq_zero.1 h1.symm with h | h
  · exact nrm_ne hx h
  · exact nrm_ne hy h
end GQ

/-- v times the minors of D, with alternating signs. -/
def dsum (v : Nat → GQ) (D : List Nat → GQ) : List Nat → GQ
  | [] => GQ.i 0 0
  | c :: cs => v c * D cs - dsum v (fun l => D (c :: l)) cs
/-- The determinant of rows over columns. -/
def det : List (Nat → GQ) → List Nat → GQ
  | [], _ => GQ.i 1 0
  | v :: R, cs => dsum v (det R) cs

theorem dsum_sub (v : Nat → GQ) (a : GQ) : ∀ (cs : List Nat) (D E : List Nat → GQ), dsum v (fun l => a * D l - E l) cs = a * dsum v D cs - dsum v E cs
  | [], D, E => by simp only [dsum, GQ.mul_zero', GQ.sub_zero']
  | c :: cs, D, E => by
    simp only [dsum, dsum_sub v a cs]
    ext <;> simp only [GQ.sub_re, GQ.sub_im, GQ.mul_re, GQ.mul_im] <;> grind
theorem dsum_row (v u : Nat → GQ) (f : GQ) : ∀ (cs : List Nat) (D : List Nat → GQ), dsum (fun c => v c - f * u c) D cs = dsum v D cs - f * dsum u D cs
  | [], D => by simp only [dsum, GQ.mul_zero', GQ.sub_zero']
  | c :: cs, D => by
    simp only [dsum, dsum_row v u f cs]
    ext <;> simp only [GQ.sub_re, GQ.sub_im, GQ.mul_re, GQ.mul_im] <;> grind
theorem dsum_none (v : Nat → GQ) : ∀ (cs : List Nat), dsum v (fun _ => GQ.i 0 0) cs = GQ.i 0 0
  | [] => rfl
  | c :: cs => by simp only [dsum, dsum_none v cs, GQ.mul_zero', GQ.sub_zero']
theorem dsum_swap (v u : Nat → GQ) : ∀ (cs : List Nat) (D : List Nat → GQ), dsum v (dsum u D) cs + dsum u (dsum v D) cs = GQ.i 0 0
  | [], D => by simp only [dsum, GQ.add_zero']
  | c :: cs, D => by
    have ih := dsum_swap v u cs (fun l => D (c :: l))
    have h1 : dsum v (fun l => dsum u D (c :: l)) cs = u c * dsum v D cs - dsum v (dsum u (fun l => D (c :: l))) cs := by
      rw [← dsum_sub]; rfl
    have h2 : dsum u (fun l => dsum v D (c :: l)) cs = v c * dsum u D cs - dsum u (dsum v (fun l => D (c :: l))) cs := by
      rw [← dsum_sub]; rfl
    have e1 : dsum v (dsum u D) (c :: cs) = v c * dsum u D cs - dsum v (fun l => dsum u D (c :: l)) cs := rfl
    have e2 : dsum u (dsum v D) (c :: cs) = u c * dsum v D cs - dsum u (fun l => dsum v D (c :: l)) cs := rfl
    rw [e1, e2, h1, h2]
    have i1 := congrArg GQ.re ih
    have i2 := congrArg GQ.im ih
    simp only [GQ.add_re, GQ.add_im, GQ.i_re, GQ.i_im] at i1 i2
    ext <;> simp only [GQ.add_re, GQ.add_im, GQ.sub_re, GQ.sub_im, GQ.mul_re, GQ.mul_im, GQ.i_re, GQ.i_im] <;> grind
theorem det_swap (v u : Nat → GQ) (R : List (Nat → GQ)) (cs : List Nat) : det (v :: u :: R) cs = -det (u :: v :: R) cs := by
  have h := dsum_swap v u cs (det R)
  exact GQ.neg_of_add h
theorem det_same (v : Nat → GQ) : ∀ (R : List (Nat → GQ)) (cs : List Nat), v ∈ R → det (v :: R) cs = GQ.i 0 0
  | [], _, h => by cases h
  | u :: R, cs, h => by
    by_cases e : v = u
    · subst e
      apply GQ.zero_of_dbl
      exact dsum_swap v v cs (det R)
    · have hm : v ∈ R := by
        rcases List.mem_cons.1 h with h | h
        · exact absurd h e
        · exact h
      rw [det_swap]
      have h0 : det (v :: R) = fun _ => GQ.i 0 0 := funext fun l => det_same v R l hm
      show -dsum u (det (v :: R)) cs = _
      rw [h0, dsum_none]
      ext <;> simp only [GQ.neg_re, GQ.neg_im, GQ.i_re, GQ.i_im] <;> grind
/-- What a row has become says the same as the row did, beside the rows P. -/
def Says (x a : Nat → GQ) (P : List (Nat → GQ)) : Prop := ∀ cs, det (x :: P) cs = det (a :: P) cs
theorem Says.refl (a : Nat → GQ) (P : List (Nat → GQ)) : Says a a P := fun _ => rfl
theorem Says.more {x a b : Nat → GQ} {P : List (Nat → GQ)} (h : Says x a P) : Says x a (b :: P) := by
  intro cs
  rw [det_swap, det_swap a]
  have : det (x :: P) = det (a :: P) := funext h
  show -dsum b (det (x :: P)) cs = -dsum b (det (a :: P)) cs
  rw [this]
/-- One step of elimination: f times the pivot row is subtracted. -/
theorem Says.step {x y a b : Nat → GQ} {P : List (Nat → GQ)} (hx : Says x a P) (hy : Says y b P) (f : GQ) : Says (fun c => x c - f * y c) a (b :: P) := by
  intro cs
  have h1 : det ((fun c => x c - f * y c) :: b :: P) cs = det (x :: b :: P) cs - f * det (y :: b :: P) cs := dsum_row x y f cs (det (b :: P))
  rw [h1, hx.more cs, hy.more cs, det_same b (b :: P) cs (List.mem_cons_self), GQ.mul_zero', GQ.sub_zero']
theorem dsum_only {x : Nat → GQ} : ∀ (cs : List Nat) (D : List Nat → GQ), (∀ c ∈ cs, x c = GQ.i 0 0) → dsum x D cs = GQ.i 0 0
  | [], _, _ => rfl
  | c :: cs, D, h => by
    show x c * D cs - dsum x (fun l => D (c :: l)) cs = _
    rw [h c (List.mem_cons_self), dsum_only cs _ (fun d hd => h d (List.mem_cons_of_mem _ hd)), GQ.zero_mul', GQ.sub_zero']
/-- An entry of a row with zeros at the pivots' columns. -/
theorem Says.entry {x a : Nat → GQ} {P : List (Nat → GQ)} {q : List Nat} (h : Says x a P) (hz : ∀ c ∈ q, x c = GQ.i 0 0) (j : Nat) : det (a :: P) (j :: q) = x j * det P q := by
  rw [← h]
  show x j * det P q - dsum x _ q = _
  rw [dsum_only q _ hz, GQ.sub_zero']

/-! Whole numbers and their sizes. -/
/-- A whole complex number, its parts' magnitudes together at most B. -/
def Wh (x : GQ) (B : Nat) : Prop := ∃ a b : Int, x = GQ.i a b ∧ a.natAbs + b.natAbs ≤ B
theorem Wh.mono {x : GQ} {B C : Nat} (h : Wh x B) (hBC : B ≤ C) : Wh x C := by
  obtain ⟨a, b, e, h⟩ := h
  exact ⟨a, b, e, by omega⟩
theorem Wh.mul {x y : GQ} {B C : Nat} (hx : Wh x B) (hy : Wh y C) : Wh (x * y) (B * C) := by
  obtain ⟨a, b, rfl, h⟩ := hx
  obtain ⟨c, d, rfl, k⟩ := hy
  refine ⟨a * c - b * d, a * d + b * c, ?_, ?_⟩
  · ext <;> simp only [GQ.mul_re, GQ.mul_im, GQ.i_re, GQ.i_im, Rat.intCast_sub, Rat.intCast_add, Rat.intCast_mul]
  · have h1 := Int.natAbs_sub_le (a * c) (b * d)
    have h2 := Int.natAbs_add_le (a * d) (b * c)
    have h3 : (a.natAbs + b.natAbs) * (c.natAbs + d.natAbs) ≤ B * C := Nat.mul_le_mul h k
    have h4 : (a.natAbs + b.natAbs) * (c.natAbs + d.natAbs) = a.natAbs * c.natAbs + b.natAbs * d.natAbs + (a.natAbs * d.natAbs + b.natAbs * c.natAbs) := by
      rw [Nat.add_mul, Nat.mul_add, Nat.mul_add]; omega
    rw [Int.natAbs_mul, Int.natAbs_mul] at h1 h2
    omega
theorem Wh.sub {x y : GQ} {B C : Nat} (hx : Wh x B) (hy : Wh y C) : Wh (x - y) (B + C) := by
  obtain ⟨a, b, rfl, h⟩ := hx
  obtain ⟨c, d, rfl, k⟩ := hy
  refine ⟨a - c, b - d, ?_, ?_⟩
  · ext <;> simp only [GQ.sub_re, GQ.sub_im, GQ.i_re, GQ.i_im, Rat.intCast_sub]
  · have h1 := Int.natAbs_sub_le a c
    have h2 := Int.natAbs_sub_le b d
    omega
theorem wh_one : Wh (GQ.i 1 0) 1 := ⟨1, 0, rfl, by simp⟩
theorem wh_zero (B : Nat) : Wh (GQ.i 0 0) B := ⟨0, 0, rfl, by simp⟩
theorem dsum_wh {x : Nat → GQ} {B M : Nat} : ∀ (cs : List Nat) (D : List Nat → GQ), (∀ c ∈ cs, Wh (x c) B) → (∀ l, l.Sublist cs → l.length + 1 = cs.length → Wh (D l) M) → Wh (dsum x D cs) (cs.length * (B * M))
  | [], _, _, _ => wh_zero _
  | c :: cs, D, h, k => by
    have h1 := (h c (List.mem_cons_self)).mul (k cs (List.sublist_cons_self c cs) rfl)
    have h2 := dsum_wh cs (fun l => D (c :: l)) (fun d hd => h d (List.mem_cons_of_mem _ hd)) (fun l hl hn => k (c :: l) (hl.cons_cons c) (by simp; omega))
    refine (h1.sub h2).mono ?_
    simp only [List.length_cons, Nat.add_mul]
    omega
def fct : Nat → Nat
  | 0 => 1
  | n + 1 => (n + 1) * fct n
theorem det_wh {B : Nat} : ∀ (R : List (Nat → GQ)) (cs : List Nat), R.length = cs.length → (∀ r ∈ R, ∀ c ∈ cs, Wh (r c) B) → Wh (det R cs) (fct cs.length * B ^ cs.length)
  | [], cs, hl, _ => by
    have : cs = [] := List.eq_nil_of_length_eq_zero hl.symm
    subst this
    exact wh_one
  | v :: R, cs, hl, h => by
    match cs, hl with
    | c :: cs, hl =>
      have := dsum_wh (x := v) (B := B) (M := fct cs.length * B ^ cs.length) (c :: cs) (det R) (h v (List.mem_cons_self)) (fun l hs hn => by
        have e : l.length = cs.length := by simpa using hn
        rw [← e]
        exact det_wh R l (by simp at hl; omega) (fun r hr d hd => h r (List.mem_cons_of_mem _ hr) d (hs.subset hd)))
      refine this.mono ?_
      simp only [List.length_cons, fct, Nat.pow_succ]
      have : (cs.length + 1) * (B * (fct cs.length * B ^ cs.length)) = (cs.length + 1) * fct cs.length * (B ^ cs.length * B) := by
        rw [Nat.mul_comm B, Nat.mul_assoc (fct cs.length), ← Nat.mul_assoc]
      omega
theorem dsum_scale {x : Nat → GQ} (s : GQ) : ∀ (cs : List Nat) (D : List Nat → GQ), dsum (fun c => s * x c) D cs = s * dsum x D cs
  | [], _ => (GQ.mul_zero' s).symm
  | c :: cs, D => by
    show s * x c * D cs - dsum (fun c => s * x c) (fun l => D (c :: l)) cs = s * (x c * D cs - dsum x (fun l => D (c :: l)) cs)
    rw [dsum_scale s cs, GQ.mul_sub', GQ.mul_assoc']
theorem dsum_scaleD {x : Nat → GQ} (s : GQ) : ∀ (cs : List Nat) (D : List Nat → GQ), dsum x (fun l => s * D l) cs = s * dsum x D cs
  | [], _ => (GQ.mul_zero' s).symm
  | c :: cs, D => by
    show x c * (s * D cs) - dsum x (fun l => s * D (c :: l)) cs = s * (x c * D cs - dsum x (fun l => D (c :: l)) cs)
    rw [dsum_scaleD s cs, GQ.mul_sub', ← GQ.mul_assoc', GQ.mul_comm' (x c) s, GQ.mul_assoc']
end Go.Proofs.YtclkkoiaaddllaaGreat
