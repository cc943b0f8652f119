/- Elimination as a plain function: what it keeps, and how large its entries are. -/
import Derived.Test.YtclkkoiaaddllaaGreatQYbcimp
namespace Go.Proofs.YtclkkoiaaddllaaGreat
set_option linter.unusedVariables false

instance : DecidableEq GQ := fun x y => decidable_of_iff (x.re = y.re ∧ x.im = y.im) ⟨fun h => GQ.ext h.1 h.2, fun h => by rw [h]; exact ⟨rfl, rfl⟩⟩
theorem GQ.div_cancel' {x y : GQ} (h : y ≠ GQ.i 0 0) : x / y * y = x := by
  have h1 := GQ.nrm_ne h
  unfold GQ.nrm at h1
  ext <;> simp only [GQ.mul_re, GQ.mul_im, GQ.div_re, GQ.div_im, GQ.nrm] <;> grind
theorem GQ.zero_div' (y : GQ) : GQ.i 0 0 / y = GQ.i 0 0 := by
  ext <;> simp only [GQ.div_re, GQ.div_im, GQ.i_re, GQ.i_im] <;> grind
/-- The first row from k on, n rows long, with an entry that is not 0. -/
def fp (X : Nat → Nat → GQ) (c : Nat) : Nat → Nat → Option Nat
  | 0, _ => none
  | n + 1, k => if X k c = GQ.i 0 0 then fp X c n (k + 1) else some k
theorem fp_some {X : Nat → Nat → GQ} {c p : Nat} : ∀ {n k : Nat}, k ≤ p → p < k + n → (∀ i, k ≤ i → i < p → X i c = GQ.i 0 0) → X p c ≠ GQ.i 0 0 → fp X c n k = some p
  | 0, k, h1, h2, _, _ => by omega
  | n + 1, k, h1, h2, h, h0 => by
    unfold fp
    by_cases e : k = p
    · subst e; rw [if_neg h0]
    · rw [if_pos (h k (Nat.le_refl _) (by omega))]
      exact fp_some (by omega) (by omega) (fun i hi => h i (by omega)) h0
theorem fp_none {X : Nat → Nat → GQ} {c : Nat} : ∀ {n k : Nat}, (∀ i, k ≤ i → i < k + n → X i c = GQ.i 0 0) → fp X c n k = none
  | 0, _, _ => rfl
  | n + 1, k, h => by
    unfold fp
    rw [if_pos (h k (Nat.le_refl _) (by omega))]
    exact fp_none (fun i h1 h2 => h i (by omega) (by omega))
theorem of_fp_none {X : Nat → Nat → GQ} {c : Nat} : ∀ {n k : Nat}, fp X c n k = none → ∀ i, k ≤ i → i < k + n → X i c = GQ.i 0 0
  | 0, k, _, i, h1, h2 => by omega
  | n + 1, k, h, i, h1, h2 => by
    unfold fp at h
    by_cases e : X k c = GQ.i 0 0
    · rw [if_pos e] at h
      by_cases e2 : i = k
      · subst e2; exact e
      · exact of_fp_none h i (by omega) (by omega)
    · rw [if_neg e] at h; cases h
theorem of_fp_some {X : Nat → Nat → GQ} {c p : Nat} : ∀ {n k : Nat}, fp X c n k = some p → k ≤ p ∧ p < k + n ∧ X p c ≠ GQ.i 0 0 ∧ ∀ i, k ≤ i → i < p → X i c = GQ.i 0 0
  | 0, k, h => by cases h
  | n + 1, k, h => by
    unfold fp at h
    by_cases e : X k c = GQ.i 0 0
    · rw [if_pos e] at h
      obtain ⟨h1, h2, h3, h4⟩ := of_fp_some h
      refine ⟨by omega, by omega, h3, fun i hi hp => ?_⟩
      by_cases e2 : i = k
      · subst e2; exact e
      · exact h4 i (by omega) hp
    · rw [if_neg e] at h; cases h
      exact ⟨Nat.le_refl _, by omega, e, fun i h1 h2 => by omega⟩
/-- Two rows exchanged. -/
def swp (k r i : Nat) : Nat := if i = k then r else if i = r then k else i
theorem swp_self (k i : Nat) : swp k k i = i := by unfold swp; split <;> omega
theorem swp_r (k r : Nat) : swp k r r = k := by unfold swp; split <;> simp_all
theorem swp_k (k r : Nat) : swp k r k = r := by unfold swp; simp
theorem swp_ne {k r i : Nat} (h1 : i ≠ k) (h2 : i ≠ r) : swp k r i = i := by unfold swp; rw [if_neg h1, if_neg h2]
theorem swp_lt {k r i m : Nat} (hk : k < m) (hr : r < m) (hi : i < m) : swp k r i < m := by unfold swp; split <;> (try split) <;> omega
theorem swp_inv (k r i : Nat) : swp k r (swp k r i) = i := by unfold swp; split <;> (try split) <;> (try split) <;> (try split) <;> omega
/-- The multiples of row r that leave 0 in column c below it, subtracted. -/
def clr (X : Nat → Nat → GQ) (r c : Nat) : Nat → Nat → GQ := fun i j => if r < i then X i j - X i c / X r c * X r j else X i j
/-- Elimination's state: the rank so far, the rows, whether the number of exchanges is odd, the pivots' columns (the last one first). -/
structure Ec where
  r : Nat
  X : Nat → Nat → GQ
  odd : Bool
  q : List Nat
def estep (m c : Nat) (s : Ec) : Ec :=
  match fp s.X c (m - s.r) s.r with
  | none => s
  | some k => ⟨s.r + 1, clr (fun i => s.X (swp k s.r i)) s.r c, s.odd ^^ decide (k ≠ s.r), c :: s.q⟩
def ech (m : Nat) (X : Nat → Nat → GQ) : Nat → Ec
  | 0 => ⟨0, X, false, []⟩
  | c + 1 => estep m c (ech m X c)
theorem estep_none {m c : Nat} {s : Ec} (h : fp s.X c (m - s.r) s.r = none) : estep m c s = s := by unfold estep; rw [h]
theorem estep_some {m c k : Nat} {s : Ec} (h : fp s.X c (m - s.r) s.r = some k) : estep m c s = ⟨s.r + 1, clr (fun i => s.X (swp k s.r i)) s.r c, s.odd ^^ decide (k ≠ s.r), c :: s.q⟩ := by unfold estep; rw [h]
/-- What elimination keeps: the rows below the pivots say the same as the first rows did. -/
structure Inv (m : Nat) (X0 : Nat → Nat → GQ) (c : Nat) (s : Ec) (o : Nat → Nat) (P : List (Nat → GQ)) : Prop where
  rm : s.r ≤ m
  pl : P.length = s.r
  ql : s.q.length = s.r
  ne : det P s.q ≠ GQ.i 0 0
  qc : ∀ d ∈ s.q, d < c
  pm : ∀ p ∈ P, ∃ i, i < m ∧ p = X0 i
  om : ∀ i, i < m → o i < m
  sy : ∀ i, s.r ≤ i → i < m → Says (s.X i) (X0 (o i)) P
  z : ∀ i j, s.r ≤ i → i < m → j < c → s.X i j = GQ.i 0 0
theorem Inv.start (m : Nat) (X0 : Nat → Nat → GQ) : Inv m X0 0 (ech m X0 0) (fun i => i) [] :=
  ⟨by simp [ech], rfl, rfl, by show GQ.i 1 0 ≠ _; decide, by simp [ech], by simp, fun i h => h, fun i _ _ => Says.refl _ _, by intros; omega⟩
theorem Inv.step {m c : Nat} {X0 : Nat → Nat → GQ} {s : Ec} {o : Nat → Nat} {P : List (Nat → GQ)} (h : Inv m X0 c s o P) : ∃ o' P', Inv m X0 (c + 1) (estep m c s) o' P' := by
  have hrm := h.rm
  cases hf : fp s.X c (m - s.r) s.r with
  | none =>
    rw [estep_none hf]
    refine ⟨o, P, h.rm, h.pl, h.ql, h.ne, fun d hd => Nat.lt_succ_of_lt (h.qc d hd), h.pm, h.om, h.sy, fun i j h1 h2 h3 => ?_⟩
    by_cases e : j = c
    · subst e; exact of_fp_none hf i h1 (by omega)
    · exact h.z i j h1 h2 (by omega)
  | some k =>
    obtain ⟨k1, k2, k3, k4⟩ := of_fp_some hf
    rw [estep_some hf]
    have hks : swp k s.r s.r = k := swp_r _ _
    have hen := (h.sy k k1 (by omega)).entry (fun d hd => h.z k d k1 (by omega) (h.qc d hd)) c
    refine ⟨fun i => o (swp k s.r i), X0 (o k) :: P, by show s.r + 1 ≤ m; omega, by simp [h.pl], by simp [h.ql], ?_, ?_, ?_, ?_, ?_, ?_⟩
    · show det (X0 (o k) :: P) (c :: s.q) ≠ _
      rw [hen]; exact GQ.mul_ne k3 h.ne
    · intro d hd
      rcases List.mem_cons.1 hd with rfl | hd
      · omega
      · exact Nat.lt_succ_of_lt (h.qc d hd)
    · intro p hp
      rcases List.mem_cons.1 hp with rfl | hp
      · exact ⟨o k, h.om k (by omega), rfl⟩
      · exact h.pm p hp
    · intro i hi
      exact h.om _ (swp_lt (by omega) (by omega) hi)
    · intro i h1 h2
      have h1' : s.r < i := h1
      have e : (clr (fun i => s.X (swp k s.r i)) s.r c) i = fun j => s.X (swp k s.r i) j - (s.X (swp k s.r i) c / s.X k c) * s.X k j := by
        funext j; unfold clr; rw [if_pos h1']; simp only [hks]
      show Says ((clr (fun i => s.X (swp k s.r i)) s.r c) i) _ _
      rw [e]
      have hsr : s.r ≤ swp k s.r i := by unfold swp; split <;> (try split) <;> omega
      exact Says.step (h.sy _ hsr (swp_lt (by omega) (by omega) h2)) (h.sy k k1 (by omega)) _
    · intro i j h1 h2 h3
      have h1' : s.r < i := h1
      have hsr : s.r ≤ swp k s.r i := by unfold swp; split <;> (try split) <;> omega
      have hsm := swp_lt (k := k) (r := s.r) (i := i) (m := m) (by omega) (by omega) h2
      show (clr (fun i => s.X (swp k s.r i)) s.r c) i j = _
      unfold clr; rw [if_pos h1']; simp only [hks]
      by_cases e : j = c
      · subst e; rw [GQ.div_cancel' k3, GQ.sub_self']
      · rw [h.z _ j hsr hsm (by omega), h.z k j k1 (by omega) (by omega), GQ.mul_zero', GQ.sub_zero']
theorem ech_inv (m : Nat) (X0 : Nat → Nat → GQ) : ∀ c, ∃ o P, Inv m X0 c (ech m X0 c) o P
  | 0 => ⟨_, _, Inv.start m X0⟩
  | c + 1 => by
    obtain ⟨o, P, h⟩ := ech_inv m X0 c
    exact h.step
theorem Inv.bd {m c b N W : Nat} {X0 : Nat → Nat → GQ} {s : Ec} {o : Nat → Nat} {P : List (Nat → GQ)} (h : Inv m X0 c s o P) (hb : ∀ i j, i < m → j < W → Bd (X0 i j) b) (hc : c ≤ W) (hN : room b s.r < 2 ^ N) : ∀ i j, s.r ≤ i → i < m → j < W → Bd (s.X i j) N := by
  intro i j h1 h2 h3
  refine entry_bd h.pl h.ql ?_ h.ne ((h.sy i h1 h2).entry (fun d hd => h.z i d h1 h2 (h.qc d hd)) j) hN
  intro r hr d hd
  have hdW : d < W := by
    rcases List.mem_cons.1 hd with rfl | hd
    · exact h3
    · have := h.qc d hd; omega
  rcases List.mem_cons.1 hr with rfl | hr
  · exact hb _ _ (h.om i h2) hdW
  · obtain ⟨k, hk, rfl⟩ := h.pm r hr
    exact hb _ _ hk hdW
/-- How large a factor is: a quotient of two determinants. -/
def roomf (b k : Nat) : Nat := (2 ^ (b * (k + 1)) * (fct (k + 1) * (2 ^ (b * (k + 1) + 1)) ^ (k + 1))) * (2 ^ (b * (k + 1)) * (fct (k + 1) * (2 ^ (b * (k + 1) + 1)) ^ (k + 1)))
theorem fac_bd {x y : GQ} {a e : Nat → GQ} {P : List (Nat → GQ)} {q : List Nat} {c b k n : Nat} (hP : P.length = k) (hq : q.length = k) (hb : ∀ r ∈ a :: e :: P, ∀ d ∈ c :: q, Bd (r d) b) (h0 : det P q ≠ GQ.i 0 0) (hy : y ≠ GQ.i 0 0)
    (hx : det (a :: P) (c :: q) = x * det P q) (he : det (e :: P) (c :: q) = y * det P q) (hn : roomf b k < 2 ^ n) : Bd (x / y) n := by
  obtain ⟨R, E, hE, hl, hd, hw⟩ := rows_whole b (c :: q) P (fun r hr => hb r (List.mem_cons_of_mem _ (List.mem_cons_of_mem _ hr)))
  obtain ⟨D, d0, d1, d2⟩ := row_whole a b (c :: q) (hb a (List.mem_cons_self))
  obtain ⟨F, f0, f1, f2⟩ := row_whole e b (c :: q) (hb e (List.mem_cons_of_mem _ (List.mem_cons_self)))
  simp only [List.length_cons, hq] at hw d1 d2 f1 f2
  have hN := det_wh (B := 2 ^ (b * (k + 1) + 1)) ((fun c => GQ.i D 0 * a c) :: R) (c :: q) (by simp [hl, hP, hq]) (fun r hr => by
    rcases List.mem_cons.1 hr with rfl | hr
    · exact d2
    · exact hw r hr)
  have hM := det_wh (B := 2 ^ (b * (k + 1) + 1)) ((fun c => GQ.i F 0 * e c) :: R) (c :: q) (by simp [hl, hP, hq]) (fun r hr => by
    rcases List.mem_cons.1 hr with rfl | hr
    · exact f2
    · exact hw r hr)
  simp only [List.length_cons, hq] at hN hM
  have eE : det R = fun l => GQ.i E 0 * det P l := funext hd
  have eN : det ((fun c => GQ.i D 0 * a c) :: R) (c :: q) = GQ.i D 0 * (GQ.i E 0 * (x * det P q)) := by
    show dsum (fun c => GQ.i D 0 * a c) (det R) (c :: q) = _
    have hx' : dsum a (det P) (c :: q) = x * det P q := hx
    rw [dsum_scale, eE, dsum_scaleD, hx']
  have eM : det ((fun c => GQ.i F 0 * e c) :: R) (c :: q) = GQ.i F 0 * (GQ.i E 0 * (y * det P q)) := by
    show dsum (fun c => GQ.i F 0 * e c) (det R) (c :: q) = _
    have he' : dsum e (det P) (c :: q) = y * det P q := he
    rw [dsum_scale, eE, dsum_scaleD, he']
  rw [eN] at hN
  rw [eM] at hM
  have h1 := (wh_real f1).mul hN
  have h2 := (wh_real d1).mul hM
  refine quot_bd h1 h2 ?_ ?_ hn hn
  · exact GQ.mul_ne (i_ne d0) (GQ.mul_ne (i_ne f0) (GQ.mul_ne (i_ne hE) (GQ.mul_ne hy h0)))
  · have := GQ.div_cancel' (x := x) hy
    generalize x / y = f at this ⊢
    subst this
    generalize det P q = d
    rw [GQ.mul_comm' (GQ.i D 0) (GQ.i F 0 * _), GQ.mul_comm' (GQ.i D 0) (GQ.i E 0 * _)]
    simp only [GQ.mul_assoc']
    rw [GQ.mul_comm' f, GQ.mul_comm' f]
    simp only [GQ.mul_assoc']
theorem Inv.fac {m c b N W k i : Nat} {X0 : Nat → Nat → GQ} {s : Ec} {o : Nat → Nat} {P : List (Nat → GQ)} (h : Inv m X0 c s o P) (hb : ∀ i j, i < m → j < W → Bd (X0 i j) b) (hc : c < W) (hN : roomf b s.r < 2 ^ N) (h1 : s.r ≤ i) (h2 : i < m) (k1 : s.r ≤ k) (k2 : k < m) (h0 : s.X k c ≠ GQ.i 0 0) : Bd (s.X i c / s.X k c) N := by
  refine fac_bd h.pl h.ql ?_ h.ne h0 ((h.sy i h1 h2).entry (fun d hd => h.z i d h1 h2 (h.qc d hd)) c) ((h.sy k k1 k2).entry (fun d hd => h.z k d k1 k2 (h.qc d hd)) c) hN
  intro r hr d hd
  have hdW : d < W := by
    rcases List.mem_cons.1 hd with rfl | hd
    · exact hc
    · have := h.qc d hd; omega
  rcases List.mem_cons.1 hr with rfl | hr
  · exact hb _ _ (h.om i h2) hdW
  · rcases List.mem_cons.1 hr with rfl | hr
    · exact hb _ _ (h.om k k2) hdW
    · obtain ⟨k, hk, rfl⟩ := h.pm r hr
      exact hb _ _ hk hdW
end Go.Proofs.YtclkkoiaaddllaaGreat
