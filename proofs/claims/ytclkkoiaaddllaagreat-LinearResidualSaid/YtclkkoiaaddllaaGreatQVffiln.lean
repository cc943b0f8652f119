/- Linear: the solution of a system of full rank: what it is, that it solves the system, how large what computes it grows. -/
import Derived.Test.YtclkkoiaaddllaaGreatQVladgb
import Derived.Test.YtclkkoiaaddllaaGreatQYskjdd
import Derived.Test.YtclkkoiaaddllaaGreatQYdkifc

namespace Go.Proofs.YtclkkoiaaddllaaGreat
set_option linter.unusedVariables false
set_option linter.unusedSimpArgs false

theorem GQ.assoc4 (d e x y : GQ) : d * (e * y) * x = d * (e * (x * y)) := by
  ext <;> simp only [GQ.mul_re, GQ.mul_im] <;> grind
theorem fp_congr {A B : Nat → Nat → GQ} {c : Nat} {n k : Nat} (h : ∀ i, k ≤ i → i < k + n → A i c = B i c) : fp A c n k = fp B c n k := by
  cases hf : fp B c n k with
  | none => exact fp_none fun i h1 h2 => by rw [h i h1 h2]; exact of_fp_none hf i h1 h2
  | some p =>
    obtain ⟨k1, k2, k3, k4⟩ := of_fp_some hf
    exact fp_some k1 k2 (fun i h1 h2 => by rw [h i h1 (by omega)]; exact k4 i h1 h2) (by rw [h p k1 k2]; exact k3)
/-- Elimination of the first columns does not see the others. -/
theorem ech_congr {m n : Nat} {A B : Nat → Nat → GQ} (h : ∀ i j, i < m → j < n → A i j = B i j) : ∀ c, c ≤ n → (ech m A c).r = (ech m B c).r ∧ (ech m A c).odd = (ech m B c).odd ∧ ∀ i j, i < m → j < n → (ech m A c).X i j = (ech m B c).X i j
  | 0, _ => ⟨rfl, rfl, h⟩
  | c + 1, hc => by
    obtain ⟨h1, h2, h3⟩ := ech_congr h c (by omega)
    have ea : ech m A (c + 1) = estep m c (ech m A c) := rfl
    have eb : ech m B (c + 1) = estep m c (ech m B c) := rfl
    obtain ⟨o, P, hI⟩ := ech_inv m B c
    have hrm := hI.rm
    have hfp : fp (ech m A c).X c (m - (ech m A c).r) (ech m A c).r = fp (ech m B c).X c (m - (ech m B c).r) (ech m B c).r := by
      rw [h1]; exact fp_congr fun i _ hi => h3 i c (by omega) (by omega)
    rw [ea, eb]
    cases hf : fp (ech m B c).X c (m - (ech m B c).r) (ech m B c).r with
    | none => rw [estep_none (hfp.trans hf), estep_none hf]; exact ⟨h1, h2, h3⟩
    | some k =>
      obtain ⟨k1, k2, k3, k4⟩ := of_fp_some hf
      rw [estep_some (hfp.trans hf), estep_some hf]
      refine ⟨by show _ + 1 = _ + 1; rw [h1], by show (_ ^^ _) = (_ ^^ _); rw [h1, h2], fun i j hi hj => ?_⟩
      show clr (fun i => (ech m A c).X (swp k (ech m A c).r i)) (ech m A c).r c i j = clr (fun i => (ech m B c).X (swp k (ech m B c).r i)) (ech m B c).r c i j
      rw [h1]
      have hs : ∀ i, i < m → swp k (ech m B c).r i < m := fun i hi => swp_lt (by omega) (by omega) hi
      unfold clr
      by_cases e : (ech m B c).r < i
      · rw [if_pos e, if_pos e]
        simp only []
        rw [h3 _ j (hs i hi) hj, h3 _ c (hs i hi) (by omega), h3 _ c (hs _ (by omega)) (by omega), h3 _ j (hs _ (by omega)) hj]
      · rw [if_neg e, if_neg e]
        exact h3 _ j (hs i hi) hj
theorem side_congr {m : Nat} {X Y : Nat → Nat → GQ} : ∀ c, c ≤ m → (ech m (side m X Y) c).r = (ech m X c).r ∧ (ech m (side m X Y) c).odd = (ech m X c).odd ∧ ∀ i j, i < m → j < m → (ech m (side m X Y) c).X i j = (ech m X c).X i j :=
  ech_congr fun i j _ hj => side_a hj
/-- What elimination keeps besides: all first rows are among the pivot rows or still below; the pivot rows span the rows above. -/
structure RInv2 (m : Nat) (X0 : Nat → Nat → GQ) (c : Nat) (s : Ec) (t : Rc) (o : Nat → Nat) (P : List (Nat → GQ)) : Prop where
  r : RInv m X0 c s t o P
  cov : ∀ p, p < m → X0 p ∈ P ∨ ∃ i, s.r ≤ i ∧ i < m ∧ o i = p
  sp : ∀ i, i < s.r → Spn (s.X i) P
  qd : s.r = c → ∀ k, k < c → s.q[k]? = some (c - 1 - k)
theorem rech_inv2 (m : Nat) (X0 : Nat → Nat → GQ) : ∀ c, ∃ o P, RInv2 m X0 c (ech m X0 c) (rech m X0 c) o P
  | 0 => ⟨_, _, RInv.start m X0, fun p hp => .inr ⟨p, Nat.zero_le _, hp, rfl⟩, fun i hi => absurd hi (Nat.not_lt_zero i), fun _ k hk => absurd hk (Nat.not_lt_zero k)⟩
  | c + 1 => by
    obtain ⟨o, P, h⟩ := rech_inv2 m X0 c
    have hle := ech_le' m X0 c
    have es : ech m X0 (c + 1) = estep m c (ech m X0 c) := rfl
    rcases h.r.step hle with ⟨hf, h1⟩ | ⟨k, hf, h1⟩
    · refine ⟨o, P, h1, ?_, ?_, ?_⟩
      · rw [es, estep_none hf]; exact h.cov
      · rw [es, estep_none hf]; exact h.sp
      · rw [es, estep_none hf]; intro e; omega
    · obtain ⟨k1, k2, k3, k4⟩ := of_fp_some hf
      have hrm := h.r.inv.rm
      refine ⟨_, _, h1, ?_, ?_, ?_⟩
      · rw [es, estep_some hf]
        intro p hp
        rcases h.cov p hp with hc | ⟨i, h2, h3, h4⟩
        · exact .inl (List.mem_cons_of_mem _ hc)
        · by_cases e : i = k
          · subst e; subst h4; exact .inl List.mem_cons_self
          · right
            refine ⟨swp k (ech m X0 c).r i, ?_, swp_lt (by omega) (by omega) h3, by simp only [swp_inv]; exact h4⟩
            show (ech m X0 c).r + 1 ≤ _
            by_cases e2 : i = (ech m X0 c).r
            · rw [e2, swp_r]; omega
            · rw [swp_ne e e2]; omega
      · rw [es, estep_some hf]
        intro i hi
        have hi' : i < (ech m X0 c).r + 1 := hi
        by_cases e : i = (ech m X0 c).r
        · have e2 : clr (fun i => (ech m X0 c).X (swp k (ech m X0 c).r i)) (ech m X0 c).r c i = (ech m X0 c).X k := by
            funext j; unfold clr; rw [if_neg (by omega)]; simp only []; rw [e, swp_r]
          show Spn (clr (fun i => (ech m X0 c).X (swp k (ech m X0 c).r i)) (ech m X0 c).r c i) _
          rw [e2]
          exact Spn.of_says (h.r.inv.sy k k1 (by omega))
        · have e2 : clr (fun i => (ech m X0 c).X (swp k (ech m X0 c).r i)) (ech m X0 c).r c i = (ech m X0 c).X i := by
            funext j; unfold clr; rw [if_neg (by omega)]; simp only []; rw [swp_ne (by omega) e]
          show Spn (clr (fun i => (ech m X0 c).X (swp k (ech m X0 c).r i)) (ech m X0 c).r c i) _
          rw [e2]
          exact (h.sp i (by omega)).more
      · rw [es, estep_some hf]
        intro e k' hk'
        have e2 : (ech m X0 c).r = c := by have : (ech m X0 c).r + 1 = c + 1 := e; omega
        show (c :: (ech m X0 c).q)[k']? = _
        match k' with
        | 0 => rw [show c + 1 - 1 - 0 = c by omega]; rfl
        | k' + 1 =>
          have := h.qd e2 k' (by omega)
          rw [show c + 1 - 1 - (k' + 1) = c - 1 - k' by omega]
          exact this
/-- A row of the span that is zero at the pivots' columns is zero. -/
theorem Spn.zero {v : Nat → GQ} {P : List (Nat → GQ)} {q : List Nat} (h : Spn v P) (h0 : det P q ≠ GQ.i 0 0) (hz : ∀ c ∈ q, v c = GQ.i 0 0) (j : Nat) : v j = GQ.i 0 0 := by
  have e : v j * det P q = dsum v (fun l => det P (j :: l)) q := GQ.eq_of_sub (h (j :: q))
  rw [dsum_only q _ hz] at e
  rcases Classical.em (v j = GQ.i 0 0) with h1 | h1
  · exact h1
  · exact absurd e (GQ.mul_ne h1 h0)
/-- The first s products of a row with the solution, taken from the row. -/
def rest (v : Nat → GQ) (T : Nat → Nat → GQ) : Nat → Nat → GQ
  | 0 => v
  | s + 1 => fun c => rest v T s c - v s * T s c
theorem rest_spn {v : Nat → GQ} {T : Nat → Nat → GQ} {P : List (Nat → GQ)} (hv : Spn v P) : ∀ s, (∀ l, l < s → Spn (T l) P) → Spn (rest v T s) P
  | 0, _ => hv
  | s + 1, h => (rest_spn hv s (fun l hl => h l (by omega))).comb (h s (by omega)) (v s)
theorem rest_at {v : Nat → GQ} {T : Nat → Nat → GQ} {m c : Nat} (hT : ∀ l, l < m → T l c = if l = c then GQ.i 1 0 else GQ.i 0 0) : ∀ s, s ≤ m → rest v T s c = if c < s then GQ.i 0 0 else v c
  | 0, _ => by rw [if_neg (by omega)]; rfl
  | s + 1, hs => by
    show rest v T s c - v s * T s c = _
    rw [rest_at hT s (by omega), hT s (by omega)]
    by_cases e : s = c
    · subst e; rw [if_neg (by omega), if_pos rfl, if_pos (by omega), GQ.mul_one', GQ.sub_self']
    · rw [if_neg e, GQ.mul_zero', GQ.sub_zero']
      by_cases h : c < s
      · rw [if_pos h, if_pos (by omega)]
      · rw [if_neg h, if_neg (by omega)]
theorem rest_sum {v : Nat → GQ} {T : Nat → Nat → GQ} {c : Nat} : ∀ s, rest v T s c = v c - psum (fun _ l => v l) (fun l _ => T l c) 0 0 s
  | 0 => by show v c = v c - GQ.i 0 0; rw [GQ.sub_zero']
  | s + 1 => by
    show rest v T s c - v s * T s c = v c - (psum (fun _ l => v l) (fun l _ => T l c) 0 0 s + v s * T s c)
    rw [rest_sum s]
    generalize psum (fun _ l => v l) (fun l _ => T l c) 0 0 s = y
    ext <;> simp only [GQ.sub_re, GQ.sub_im, GQ.add_re, GQ.add_im] <;> grind
theorem psum_congr {X Y X' Y' : Nat → Nat → GQ} {i j i' j' : Nat} : ∀ s, (∀ l, l < s → X i l = X' i' l ∧ Y l j = Y' l j') → psum X Y i j s = psum X' Y' i' j' s
  | 0, _ => rfl
  | s + 1, h => by
    show psum X Y i j s + X i s * Y s j = psum X' Y' i' j' s + X' i' s * Y' s j'
    rw [psum_congr s (fun l hl => h l (by omega)), (h s (by omega)).1, (h s (by omega)).2]
section
variable {m nb : Nat} {Z0 : Nat → Nat → GQ}
/-- A row of the span is the sum of its numbers times the rows of the reduced form. -/
theorem span_sum {v : Nat → GQ} {o : Nat → Nat} {P : List (Nat → GQ)} (h : RInv2 m Z0 m (ech m Z0 m) (rech m Z0 m) o P) (hr : (ech m Z0 m).r = m) (hv : Spn v P) (j : Nat) : v j = psum (fun _ l => v l) (rech m Z0 m).X 0 j m := by
  have hT : ∀ c, c < m → ∀ l, l < m → (rech m Z0 m).X l c = if l = c then GQ.i 1 0 else GQ.i 0 0 := fun c hc l hl => by
    have hq := h.qd hr (m - 1 - c) (by omega)
    rw [show m - 1 - (m - 1 - c) = c by omega] at hq
    rw [h.r.un l (by omega) _ _ hq, hr]
    by_cases e : l = c
    · rw [if_pos e, if_pos (by omega)]
    · rw [if_neg e, if_neg (by omega)]
  have hz := Spn.zero (rest_spn (T := (rech m Z0 m).X) hv m fun l hl => h.r.sp l (by omega)) h.r.inv.ne (fun c hc => by
    have hcm := h.r.inv.qc c hc
    rw [rest_at (hT c hcm) m (Nat.le_refl _), if_pos hcm]) j
  rw [rest_sum] at hz
  have := GQ.eq_of_sub hz
  rw [this]
  exact psum_congr m fun l _ => ⟨rfl, rfl⟩
theorem bsol_is {o : Nat → Nat} {P : List (Nat → GQ)} (h : RInv2 m Z0 m (ech m Z0 m) (rech m Z0 m) o P) (hr : (ech m Z0 m).r = m) (j : Nat) : ∀ k, k ≤ m → ∀ i, m - k ≤ i → i < m → bsol (ech m Z0 m).X m k i j = (rech m Z0 m).X i (m + j)
  | 0, _, i, h1, h2 => by omega
  | k + 1, hk, i, h1, h2 => by
    have ih := bsol_is h hr j k (by omega)
    by_cases e : i = m - 1 - k
    · have hs : ∀ s, s ≤ k → bps (ech m Z0 m).X (bsol (ech m Z0 m).X m k) m i j s = (ech m Z0 m).X i (m + j) - psum (fun _ l => (ech m Z0 m).X i (i + 1 + l)) (fun l _ => (rech m Z0 m).X (i + 1 + l) (m + j)) 0 0 s := by
        intro s
        induction s with
        | zero => intro _; show (ech m Z0 m).X i (m + j) = _ - GQ.i 0 0; rw [GQ.sub_zero']
        | succ s ihs =>
          intro hs
          show bps _ _ m i j s - (ech m Z0 m).X i (i + 1 + s) * bsol (ech m Z0 m).X m k (i + 1 + s) j = (ech m Z0 m).X i (m + j) - (psum _ _ 0 0 s + (ech m Z0 m).X i (i + 1 + s) * (rech m Z0 m).X (i + 1 + s) (m + j))
          rw [ihs (by omega), ih (i + 1 + s) (by omega) (by omega)]
          generalize psum _ _ 0 0 s = y
          ext <;> simp only [GQ.sub_re, GQ.sub_im, GQ.add_re, GQ.add_im] <;> grind
      have hsum := span_sum h hr (h.sp i (by omega)) (m + j)
      have hsplit : ∀ t, i + 1 + t ≤ m → psum (fun _ l => (ech m Z0 m).X i l) (rech m Z0 m).X 0 (m + j) (i + 1 + t) = (ech m Z0 m).X i i * (rech m Z0 m).X i (m + j) + psum (fun _ l => (ech m Z0 m).X i (i + 1 + l)) (fun l _ => (rech m Z0 m).X (i + 1 + l) (m + j)) 0 0 t := by
        have h0 : ∀ t, t ≤ i → psum (fun _ l => (ech m Z0 m).X i l) (rech m Z0 m).X 0 (m + j) t = GQ.i 0 0 := by
          intro t
          induction t with
          | zero => intro _; rfl
          | succ t iht =>
            intro ht
            show psum _ _ 0 (m + j) t + (ech m Z0 m).X i t * _ = _
            rw [iht (by omega), ech_low m Z0 m hr i t h2 (by omega) (by omega), GQ.zero_mul', GQ.add_zero']
        intro t
        induction t with
        | zero =>
          intro _
          show psum _ _ 0 (m + j) i + (ech m Z0 m).X i i * _ = _ + GQ.i 0 0
          rw [h0 i (Nat.le_refl _), GQ.add_comm']
        | succ t iht =>
          intro ht
          show psum _ _ 0 (m + j) (i + 1 + t) + (ech m Z0 m).X i (i + 1 + t) * (rech m Z0 m).X (i + 1 + t) (m + j) = _ + (psum _ _ 0 0 t + (ech m Z0 m).X i (i + 1 + t) * (rech m Z0 m).X (i + 1 + t) (m + j))
          rw [iht (by omega), GQ.add_assoc']
      have hm := hsplit k (by omega)
      rw [show i + 1 + k = m by omega, ← hsum] at hm
      have hk2 := hs k (Nat.le_refl _)
      rw [hm] at hk2
      have hd := ech_diag m Z0 m hr i (by omega)
      have e5 : bsol (ech m Z0 m).X m (k + 1) i j = bps (ech m Z0 m).X (bsol (ech m Z0 m).X m k) m i j k / (ech m Z0 m).X i i := by
        show (upd (bsol (ech m Z0 m).X m k) (m - 1 - k) (fun j => bps (ech m Z0 m).X (bsol (ech m Z0 m).X m k) m (m - 1 - k) j k / (ech m Z0 m).X (m - 1 - k) (m - 1 - k))) i j = _
        rw [← e, upd_same]
      rw [e5, hk2]
      generalize psum (fun _ l => (ech m Z0 m).X i (i + 1 + l)) (fun l _ => (rech m Z0 m).X (i + 1 + l) (m + j)) 0 0 k = y
      generalize (rech m Z0 m).X i (m + j) = x
      have e6 : (ech m Z0 m).X i i * x + y - y = x * (ech m Z0 m).X i i := by
        ext <;> simp only [GQ.sub_re, GQ.sub_im, GQ.add_re, GQ.add_im, GQ.mul_re, GQ.mul_im] <;> grind
      rw [e6, GQ.div_mul hd]
    · rw [bsol_keep (ech m Z0 m).X (by omega) (by omega)]
      exact ih i (by omega) h2
theorem Spn.of_mem {v : Nat → GQ} {P : List (Nat → GQ)} (h : v ∈ P) : Spn v P := fun cs => det_same v P cs h
theorem sol_whole {b W j' : Nat} {o : Nat → Nat} {P : List (Nat → GQ)} (h : RInv2 m Z0 m (ech m Z0 m) (rech m Z0 m) o P) (hr : (ech m Z0 m).r = m) (hb : ∀ i c, i < m → c < W → Bd (Z0 i c) b) (hmW : m ≤ W) (hj : j' < W) :
    ∃ M, M ≠ GQ.i 0 0 ∧ Wh M (fct m * (2 ^ (b * (m + 1) + 1)) ^ m) ∧ ∀ l, l < m → Wh (M * (rech m Z0 m).X l j') (fct m * (2 ^ (b * (m + 1) + 1)) ^ m) := by
  have hP : P.length = m := h.r.inv.pl.trans hr
  have hq : (ech m Z0 m).q.length = m := h.r.inv.ql.trans hr
  obtain ⟨R, E, hE, hl, hd, hw⟩ := rows_whole b (j' :: (ech m Z0 m).q) P (fun r hr' c hc => by
    obtain ⟨k, hk, rfl⟩ := h.r.inv.pm r hr'
    refine hb _ _ hk ?_
    rcases List.mem_cons.1 hc with rfl | hc
    · exact hj
    · have := h.r.inv.qc c hc; omega)
  simp only [List.length_cons, hq] at hw
  have hM := det_wh (B := 2 ^ (b * (m + 1) + 1)) R (ech m Z0 m).q (by simp [hl, hP, hq]) (fun r hr c hc => hw r hr c (List.mem_cons_of_mem _ hc))
  rw [hq] at hM
  refine ⟨det R (ech m Z0 m).q, by rw [hd]; exact GQ.mul_ne (i_ne hE) h.r.inv.ne, hM, fun l hl' => ?_⟩
  have hlen : (j' :: (ech m Z0 m).q.eraseIdx (m - 1 - l)).length = m := by
    rw [List.length_cons, List.length_eraseIdx, if_pos (by omega)]; omega
  have hN := det_wh (B := 2 ^ (b * (m + 1) + 1)) R (j' :: (ech m Z0 m).q.eraseIdx (m - 1 - l)) (by rw [hlen, hl, hP]) (fun r hr c hc => hw r hr c (by
    rcases List.mem_cons.1 hc with rfl | hc
    · exact List.mem_cons_self
    · exact List.mem_cons_of_mem _ (List.mem_of_mem_eraseIdx hc)))
  rw [hlen] at hN
  have hx := (h.r.sp l (by omega)).entry (k := m - 1 - l) (q := (ech m Z0 m).q) (by omega) (fun n d hnd => by
    rw [h.r.un l (by omega) n d hnd, hr]
    have : n < (ech m Z0 m).q.length := (List.getElem?_eq_some_iff.1 hnd).1
    by_cases e : n = m - 1 - l
    · rw [if_pos e, if_pos (by omega)]
    · rw [if_neg e, if_neg (by omega)]) j'
  have e : det R (ech m Z0 m).q * (rech m Z0 m).X l j' = det R (j' :: (ech m Z0 m).q.eraseIdx (m - 1 - l)) ∨ det R (ech m Z0 m).q * (rech m Z0 m).X l j' = -det R (j' :: (ech m Z0 m).q.eraseIdx (m - 1 - l)) := by
    rw [GQ.mul_comm', hd, hd, ← GQ.mul_assoc', GQ.mul_comm' ((rech m Z0 m).X l j'), GQ.mul_assoc']
    rcases hx with hx | hx
    · left; rw [hx]
    · right; rw [hx]
      ext <;> simp only [GQ.mul_re, GQ.mul_im, GQ.neg_re, GQ.neg_im] <;> grind
  rcases e with e | e
  · rw [e]; exact hN
  · rw [e]; exact hN.neg
theorem row_frac {b W i j' : Nat} (hr : (ech m Z0 m).r = m) (hi : i < m) (hb : ∀ i c, i < m → c < W → Bd (Z0 i c) b) (hmW : m ≤ W) (hj : j' < W) :
    ∃ D, D ≠ GQ.i 0 0 ∧ Wh D (2 ^ (b * (m + 1)) * (fct i * (2 ^ (b * (m + 1) + 1)) ^ i)) ∧ ∀ l, l < m ∨ l = j' → Wh (D * (ech m Z0 m).X i l) (fct (i + 1) * (2 ^ (b * (m + 1) + 1)) ^ (i + 1)) := by
  have hri := ech_full_at (X := Z0) (m := m) (by omega) (show i ≤ m by omega)
  have hri1 := ech_full_at (X := Z0) (m := m) (by omega) (show i + 1 ≤ m by omega)
  obtain ⟨o, P, h⟩ := ech_inv m Z0 i
  have es : ech m Z0 (i + 1) = estep m i (ech m Z0 i) := rfl
  cases hf : fp (ech m Z0 i).X i (m - (ech m Z0 i).r) (ech m Z0 i).r with
  | none => rw [es, estep_none hf] at hri1; omega
  | some k =>
    obtain ⟨k1, k2, k3, k4⟩ := of_fp_some hf
    have hrow : (ech m Z0 m).X i = (ech m Z0 i).X k := by
      rw [(ech_keep m Z0 (i + 1) m (by omega) i (by omega)).1, es, estep_some hf]
      funext j
      show clr (fun t => (ech m Z0 i).X (swp k (ech m Z0 i).r t)) (ech m Z0 i).r i i j = _
      unfold clr
      rw [if_neg (by omega)]
      show (ech m Z0 i).X (swp k (ech m Z0 i).r i) j = _
      rw [hri, swp_r]
    have hP : P.length = i := h.pl.trans hri
    have hq : (ech m Z0 i).q.length = i := h.ql.trans hri
    have hcs : ∀ c, c ∈ j' :: List.range m → c < W := fun c hc => by
      rcases List.mem_cons.1 hc with rfl | hc
      · exact hj
      · have := List.mem_range.1 hc; omega
    obtain ⟨R, E, hE, hl, hd, hw⟩ := rows_whole b (j' :: List.range m) P (fun r hr' c hc => by
      obtain ⟨t, ht, rfl⟩ := h.pm r hr'
      exact hb _ _ ht (hcs c hc))
    obtain ⟨D, d0, d1, d2⟩ := row_whole (Z0 (o k)) b (j' :: List.range m) (fun c hc => hb _ _ (h.om k (by omega)) (hcs c hc))
    simp only [List.length_cons, List.length_range] at hw d1 d2
    have hqc : ∀ c ∈ (ech m Z0 i).q, c ∈ j' :: List.range m := fun c hc => List.mem_cons_of_mem _ (List.mem_range.2 (by have := h.qc c hc; omega))
    have hM := det_wh (B := 2 ^ (b * (m + 1) + 1)) R (ech m Z0 i).q (by simp [hl, hP, hq]) (fun r hr c hc => hw r hr c (hqc c hc))
    rw [hq] at hM
    refine ⟨GQ.i D 0 * det R (ech m Z0 i).q, GQ.mul_ne (i_ne d0) (by rw [hd]; exact GQ.mul_ne (i_ne hE) h.ne), (wh_real d1).mul hM, fun l hl' => ?_⟩
    have hlc : l ∈ j' :: List.range m := by
      rcases hl' with h1 | rfl
      · exact List.mem_cons_of_mem _ (List.mem_range.2 h1)
      · exact List.mem_cons_self
    have hN := det_wh (B := 2 ^ (b * (m + 1) + 1)) ((fun c => GQ.i D 0 * Z0 (o k) c) :: R) (l :: (ech m Z0 i).q) (by simp [hl, hP, hq]) (fun r hr c hc => by
      have hc' : c ∈ j' :: List.range m := by
        rcases List.mem_cons.1 hc with rfl | hc
        · exact hlc
        · exact hqc c hc
      rcases List.mem_cons.1 hr with rfl | hr
      · exact d2 c hc'
      · exact hw r hr c hc')
    rw [List.length_cons, hq] at hN
    have hen := (h.sy k k1 (by omega)).entry (fun d hd' => h.z k d k1 (by omega) (h.qc d hd')) l
    have e : GQ.i D 0 * det R (ech m Z0 i).q * (ech m Z0 m).X i l = det ((fun c => GQ.i D 0 * Z0 (o k) c) :: R) (l :: (ech m Z0 i).q) := by
      have eE : det R = fun l => GQ.i E 0 * det P l := funext hd
      have hen' : dsum (Z0 (o k)) (det P) (l :: (ech m Z0 i).q) = (ech m Z0 i).X k l * det P (ech m Z0 i).q := hen
      have h1 : dsum (fun c => GQ.i D 0 * Z0 (o k) c) (det R) (l :: (ech m Z0 i).q) = GQ.i D 0 * (GQ.i E 0 * ((ech m Z0 i).X k l * det P (ech m Z0 i).q)) := by
        rw [dsum_scale, eE, dsum_scaleD, hen']
      show _ = dsum (fun c => GQ.i D 0 * Z0 (o k) c) (det R) (l :: (ech m Z0 i).q)
      rw [h1, hd, hrow]
      exact GQ.assoc4 _ _ _ _
    rw [e]; exact hN
end
/-- A number less products. -/
def usum (e0 : GQ) (e x : Nat → GQ) : Nat → GQ
  | 0 => e0
  | s + 1 => usum e0 e x s - e s * x s
theorem usum_wh {De M e0 : GQ} {e x : Nat → GQ} {Bm Ee Ex : Nat} (w2 : Wh M Bm) (we0 : Wh (De * e0) Ee) : ∀ s, (∀ t, t < s → Wh (De * e t) Ee) → (∀ t, t < s → Wh (M * x t) Ex) → Wh (De * M * usum e0 e x s) (Ee * Bm + s * (Ee * Ex))
  | 0, _, _ => by
    have h := we0.mul w2
    have e : De * M * usum e0 e x 0 = De * e0 * M := by
      show De * M * e0 = _
      ext <;> simp only [GQ.mul_re, GQ.mul_im] <;> grind
    rw [e]; simpa using h
  | s + 1, we, wx => by
    have h1 := usum_wh w2 we0 s (fun t ht => we t (by omega)) (fun t ht => wx t (by omega))
    have h2 := (we s (by omega)).mul (wx s (by omega))
    have e : De * M * usum e0 e x (s + 1) = De * M * usum e0 e x s - De * e s * (M * x s) := by
      show De * M * (usum e0 e x s - e s * x s) = _
      ext <;> simp only [GQ.mul_re, GQ.mul_im, GQ.sub_re, GQ.sub_im] <;> grind
    rw [e]
    refine (h1.sub h2).mono ?_
    rw [Nat.add_mul, Nat.one_mul]; omega
theorem usum_bd {De M e0 : GQ} {e x : Nat → GQ} {Be Bm Ee Ex n s : Nat} (hDe : De ≠ GQ.i 0 0) (hM : M ≠ GQ.i 0 0) (w1 : Wh De Be) (w2 : Wh M Bm) (we0 : Wh (De * e0) Ee) (we : ∀ t, t < s → Wh (De * e t) Ee) (wx : ∀ t, t < s → Wh (M * x t) Ex)
    (n1 : (Ee * Bm + s * (Ee * Ex)) * (Be * Bm) < 2 ^ n) (n2 : Be * Bm * (Be * Bm) < 2 ^ n) : Bd (usum e0 e x s) n :=
  quot_bd (usum_wh w2 we0 s we wx) (w1.mul w2) (GQ.mul_ne hDe hM) (GQ.mul_comm' _ _) n1 n2
theorem bps_usum (Z xx : Nat → Nat → GQ) (m i j : Nat) : ∀ s, bps Z xx m i j s = usum (Z i (m + j)) (fun t => Z i (i + 1 + t)) (fun t => xx (i + 1 + t) j) s
  | 0 => rfl
  | s + 1 => by
    show bps Z xx m i j s - _ = usum _ _ _ s - _
    rw [bps_usum Z xx m i j s]
theorem usum_congr {e0 : GQ} {e x x' : Nat → GQ} : ∀ s, (∀ t, t < s → x t = x' t) → usum e0 e x s = usum e0 e x' s
  | 0, _ => rfl
  | s + 1, h => by
    show usum e0 e x s - e s * x s = usum e0 e x' s - e s * x' s
    rw [usum_congr s (fun t ht => h t (by omega)), h s (by omega)]
theorem psum_usum (X Y : Nat → Nat → GQ) (i j : Nat) : ∀ s, psum X Y i j s = -usum (GQ.i 0 0) (fun t => X i t) (fun t => Y t j) s
  | 0 => GQ.neg_zero'.symm
  | s + 1 => by
    show psum X Y i j s + X i s * Y s j = -(usum _ _ _ s - X i s * Y s j)
    rw [psum_usum X Y i j s]
    ext <;> simp only [GQ.sub_re, GQ.sub_im, GQ.add_re, GQ.add_im, GQ.neg_re, GQ.neg_im] <;> grind
end Go.Proofs.YtclkkoiaaddllaaGreat

namespace Go.Proofs.YtclkkoiaaddllaaGreat
open Go.RowKit
set_option linter.unusedVariables false

theorem cop_nat {A B C S T g h A1 B1 C1 S1 T1 : Nat} (hf : Nat.gcd (Nat.gcd C A) B = 1) (hs : Nat.gcd T S = 1) (hg : g = Nat.gcd (Nat.gcd T A) B) (hh : h = Nat.gcd C S) (g0 : 0 < g) (h0 : 0 < h)
    (eT : T = g * T1) (eA : A = g * A1) (eB : B = g * B1) (eC : C = h * C1) (eS : S = h * S1) : Nat.gcd (Nat.gcd (C1 * T1) (A1 * S1)) (B1 * S1) = 1 := by
  have c1 : Nat.gcd (Nat.gcd T1 A1) B1 = 1 := by
    have e : Nat.gcd (Nat.gcd T A) B = g * Nat.gcd (Nat.gcd T1 A1) B1 := by rw [eT, eA, eB, Nat.gcd_mul_left, Nat.gcd_mul_left]
    rw [e] at hg
    exact Nat.eq_of_mul_eq_mul_left g0 (by omega)
  have c2 : Nat.gcd C1 S1 = 1 := by
    have e : Nat.gcd C S = h * Nat.gcd C1 S1 := by rw [eC, eS, Nat.gcd_mul_left]
    rw [e] at hh
    exact Nat.eq_of_mul_eq_mul_left h0 (by omega)
  have a1 : Nat.Coprime (Nat.gcd A1 B1) T1 := by
    show Nat.gcd (Nat.gcd A1 B1) T1 = 1
    rw [Nat.gcd_comm, ← Nat.gcd_assoc]; exact c1
  have a2 : Nat.Coprime (Nat.gcd A1 B1) C1 := by
    have h1 : Nat.gcd (Nat.gcd A1 B1) C1 ∣ Nat.gcd (Nat.gcd C A) B := by
      refine Nat.dvd_gcd (Nat.dvd_gcd ?_ ?_) ?_
      · rw [eC]; exact Nat.dvd_trans (Nat.gcd_dvd_right _ _) ⟨h, Nat.mul_comm _ _⟩
      · rw [eA]; exact Nat.dvd_trans (Nat.dvd_trans (Nat.gcd_dvd_left _ _) (Nat.gcd_dvd_left _ _)) ⟨g, Nat.mul_comm _ _⟩
      · rw [eB]; exact Nat.dvd_trans (Nat.dvd_trans (Nat.gcd_dvd_left _ _) (Nat.gcd_dvd_right _ _)) ⟨g, Nat.mul_comm _ _⟩
    rw [hf] at h1
    exact Nat.dvd_one.1 h1
  have a3 : Nat.Coprime S1 C1 := by show Nat.gcd S1 C1 = 1; rw [Nat.gcd_comm]; exact c2
  have a4 : Nat.Coprime S1 T1 := by
    have h1 : Nat.gcd S1 T1 ∣ Nat.gcd T S := by
      refine Nat.dvd_gcd ?_ ?_
      · rw [eT]; exact Nat.dvd_trans (Nat.gcd_dvd_right _ _) ⟨g, Nat.mul_comm _ _⟩
      · rw [eS]; exact Nat.dvd_trans (Nat.gcd_dvd_left _ _) ⟨h, Nat.mul_comm _ _⟩
    rw [hs] at h1
    exact Nat.dvd_one.1 h1
  have k : Nat.Coprime (Nat.gcd A1 B1 * S1) (C1 * T1) := Nat.Coprime.mul_left (Nat.Coprime.mul_right a2 a1) (Nat.Coprime.mul_right a3 a4)
  rw [Nat.gcd_assoc, Nat.gcd_mul_right, Nat.gcd_comm]
  exact k
theorem nat_eq {x y z : Int} (h : x = y * z) : x.natAbs = y.natAbs * z.natAbs := by rw [h, Int.natAbs_mul]
theorem pos_fac {x y z : Int} (h : x = y * z) (hx : 0 < x) (hy : 0 < y) : 0 < z := by
  rcases Int.lt_trichotomy z 0 with hz | hz | hz
  · have := Int.mul_neg_of_pos_of_neg hy hz; omega
  · subst hz; simp at h; omega
  · exact hz
theorem eproduct_f (gc : Nat) (v1 v2 : Value) (fa fb fd sa sd u v t : Int) (K : Nat) (hK : K ≤ 12800) (w : World) (hc : Calm w gc) (hX : RG w v1 fa fb fd) (hY : RG w v2 sa 0 sd) (lf : Low fa fb fd) (ls : Low sa 0 sd) (sx : Sz K fa fb fd) (sy : Sz K sa 0 sd)
    (E : (u, v, t) = nf (fa * sa) (fb * sa) (fd * sd)) (sz : Sz K u v t) :
    Calls Tryz.prog 107 #[.pointer (some ⟨gc, 0, none⟩), v1, v2] w fun e w' => ∃ x, e = .returned x ∧ RG w' x u v t ∧ Ext w w' := by
  have hd : fd ≠ 0 := by have := lf.1; omega
  have hd' : sd ≠ 0 := by have := ls.1; omega
  obtain ⟨g, t1, a1, b1, hg, hg0, es, ea, eb⟩ := gcd3_facts (a := sd) (b := fa) (c := fb) hd'
  obtain ⟨h, d1, s1, z1, hh, hh0, ed, eS, ez⟩ := gcd3_facts (a := fd) (b := sa) (c := 0) hd
  have hz1 : z1 = 0 := by
    rcases Int.mul_eq_zero.1 ez.symm with h | h
    · exact absurd h hh0
    · exact h
  subst hz1
  have hgn : g.natAbs = Nat.gcd (Nat.gcd sd.natAbs fa.natAbs) fb.natAbs := by rw [hg]; simp [gcdL]
  have hhn : h.natAbs = Nat.gcd fd.natAbs sa.natAbs := by rw [hh]; simp [gcdL]
  have hgp : 0 < g := by have : 0 ≤ g := by rw [hg]; omega
                         omega
  have hhp : 0 < h := by have : 0 ≤ h := by rw [hh]; omega
                         omega
  have lf2 : Nat.gcd (Nat.gcd fd.natAbs fa.natAbs) fb.natAbs = 1 := lf.2
  have ls2 : Nat.gcd sd.natAbs sa.natAbs = 1 := by have := ls.2; unfold g3 at this; simpa using this
  have hcop := cop_nat lf2 ls2 hgn hhn (by omega) (by omega) (nat_eq es) (nat_eq ea) (nat_eq eb) (nat_eq ed) (nat_eq eS)
  have hd1 := pos_fac ed lf.1 hhp
  have ht1 := pos_fac es ls.1 hgp
  have hlow : Low (a1 * s1) (b1 * s1) (d1 * t1) := ⟨Int.mul_pos hd1 ht1, by unfold g3; rw [Int.natAbs_mul, Int.natAbs_mul, Int.natAbs_mul]; exact hcop⟩
  have hD : d1 * t1 ≠ 0 := by have := hlow.1; omega
  have E2 : nf (fa * sa) (fb * sa) (fd * sd) = nf (a1 * s1) (b1 * s1) (d1 * t1) := by
    refine nf_unique (Int.mul_ne_zero hd hd') hD ?_ ?_
    · rw [ea, es, ed, eS]; grind
    · rw [eb, es, ed, eS]; grind
  rw [E2, nf_low hlow] at E
  injection E with e1 E
  injection E with e2 e3
  obtain ⟨x1, x2, x3⟩ := sx.lims hK
  obtain ⟨y1, y2, y3⟩ := sy.lims hK
  obtain ⟨z1, z2, z3⟩ := sz.lims hK
  have ba1 := lt_div hg0 ea sx.a
  have bb1 := lt_div hg0 eb sx.b
  have bt1 := lt_div hg0 es sy.d
  have bs1 := lt_div hh0 eS sy.a
  have bd1 := lt_div hh0 ed sx.d
  have bg : g.natAbs < 2 ^ K := lt_gcd hd' ⟨_, es⟩ sy.d
  have bh : h.natAbs < 2 ^ K := lt_gcd hd ⟨_, ed⟩ sx.d
  have l0 : (0 : Int).natAbs < lim := y2
  exact eproduct_w gc v1 fa fb fd v2 sa 0 sd w hc hX x1 x2 x3 hY y1 y2 y3 g (Lib.hid hg) (lim_of bg (by omega)) h (Lib.hid hh) (lim_of bh (by omega))
    a1 (Lib.hid (div_of hg0 ea)) (lim_of ba1 (by omega)) (Lib.hid hg0) (Lib.hid ⟨_, ea⟩) b1 (Lib.hid (div_of hg0 eb)) (lim_of bb1 (by omega)) (Lib.hid hg0) (Lib.hid ⟨_, eb⟩)
    s1 (Lib.hid (div_of hh0 eS)) (lim_of bs1 (by omega)) (Lib.hid hh0) (Lib.hid ⟨_, eS⟩) 0 (Lib.hid (by simp)) l0 (Lib.hid hh0) (Lib.hid ⟨0, by simp⟩)
    u (Lib.hid e1) z1 0 (Lib.hid (by simp)) l0 u (Lib.hid (by simp)) z1
    0 (Lib.hid (by simp)) l0 v (Lib.hid e2) z2 v (Lib.hid (by simp)) z2
    d1 (Lib.hid (div_of hh0 ed)) (lim_of bd1 (by omega)) (Lib.hid hh0) (Lib.hid ⟨_, ed⟩) t1 (Lib.hid (div_of hg0 es)) (lim_of bt1 (by omega)) (Lib.hid hg0) (Lib.hid ⟨_, es⟩)
    t (Lib.hid e3) z3 (Lib.hid (by rw [e3]; exact hD)) u v t (Lib.hid (by rw [e1, e2, e3, nf_low hlow])) z1 z2 z3
end Go.Proofs.YtclkkoiaaddllaaGreat

