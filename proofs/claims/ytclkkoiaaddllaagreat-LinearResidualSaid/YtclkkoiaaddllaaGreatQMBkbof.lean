/- Words and contracts that the laws share, several texts in one. -/

/- Lists of digits to the base 2^32, the least one first: their values, and the digits of a number. Plain mathematics. -/
namespace Go.Proofs.YtclkkoiaaddllaaGreat

/-- The value of digits to the base 2^32. -/
def val : List Nat → Nat
  | [] => 0
  | d :: l => d + 4294967296 * val l
def Dig (l : List Nat) : Prop := ∀ d ∈ l, d < 4294967296

theorem Dig.nil : Dig [] := by intro d h; cases h
theorem Dig.cons {d : Nat} {l : List Nat} (hd : d < 4294967296) (hl : Dig l) : Dig (d :: l) := by
  intro x hx
  cases hx with
  | head => exact hd
  | tail _ h => exact hl x h
theorem Dig.head {d : Nat} {l : List Nat} (h : Dig (d :: l)) : d < 4294967296 := h d (by simp)
theorem Dig.tail {d : Nat} {l : List Nat} (h : Dig (d :: l)) : Dig l := fun x hx => h x (by simp [hx])
theorem Dig.append {a b : List Nat} (ha : Dig a) (hb : Dig b) : Dig (a ++ b) := by
  intro x hx
  rcases List.mem_append.1 hx with h | h
  · exact ha x h
  · exact hb x h
theorem Dig.one {d : Nat} (h : d < 4294967296) : Dig [d] := Dig.cons h Dig.nil
theorem Dig.take {l : List Nat} (h : Dig l) (k : Nat) : Dig (l.take k) := fun x hx => h x (List.mem_of_mem_take hx)
theorem Dig.drop {l : List Nat} (h : Dig l) (k : Nat) : Dig (l.drop k) := fun x hx => h x (List.mem_of_mem_drop hx)
theorem Dig.at_ {l : List Nat} (h : Dig l) {k x : Nat} (hx : l[k]? = some x) : x < 4294967296 := h x (List.mem_of_getElem? hx)
theorem Dig.replicate (k : Nat) : Dig (List.replicate k 0) := by
  intro x hx
  rw [List.mem_replicate] at hx
  omega
theorem Dig.set {l : List Nat} (h : Dig l) (k : Nat) {x : Nat} (hx : x < 4294967296) : Dig (l.set k x) := by
  intro y hy
  rcases List.mem_or_eq_of_mem_set hy with h1 | h1
  · exact h y h1
  · omega

theorem val_append (a b : List Nat) : val (a ++ b) = val a + 4294967296 ^ a.length * val b := by
  induction a with
  | nil => simp [val]
  | cons d l ih => simp only [List.cons_append, val, ih, List.length_cons, Nat.pow_succ, Nat.mul_add]; rw [Nat.mul_comm (4294967296 ^ l.length) 4294967296, Nat.mul_assoc]; omega
theorem val_replicate (k : Nat) : val (List.replicate k 0) = 0 := by
  induction k with
  | zero => rfl
  | succ k ih => simp [List.replicate_succ, val, ih]
theorem val_snoc (a : List Nat) (x : Nat) : val (a ++ [x]) = val a + 4294967296 ^ a.length * x := by rw [val_append]; simp [val]
theorem val_take_succ {l : List Nat} {k x : Nat} (hx : l[k]? = some x) : val (l.take (k + 1)) = val (l.take k) + 4294967296 ^ k * x := by
  obtain ⟨hk, rfl⟩ := List.getElem?_eq_some_iff.1 hx
  rw [List.take_succ_eq_append_getElem hk, val_snoc]
  simp [Nat.min_eq_left (Nat.le_of_lt hk)]
theorem val_take_all {l : List Nat} {k : Nat} (h : l.length ≤ k) : val (l.take k) = val l := by rw [List.take_of_length_le h]
theorem val_take_over {l : List Nat} {k : Nat} (h : l.length ≤ k) : val (l.take (k + 1)) = val (l.take k) := by rw [val_take_all h, val_take_all (by omega)]
theorem val_split (l : List Nat) (k : Nat) (hk : k ≤ l.length) : val l = val (l.take k) + 4294967296 ^ k * val (l.drop k) := by
  have := val_append (l.take k) (l.drop k)
  rw [List.take_append_drop] at this
  rw [this]
  simp [Nat.min_eq_left hk]
theorem val_lt {l : List Nat} (h : Dig l) : val l < 4294967296 ^ l.length := by
  induction l with
  | nil => simp [val]
  | cons d l ih =>
    have h1 := ih h.tail
    have h2 := h.head
    simp only [val, List.length_cons, Nat.pow_succ]
    omega
theorem val_set {l : List Nat} {k x y : Nat} (hx : l[k]? = some x) : val (l.set k y) + 4294967296 ^ k * x = val l + 4294967296 ^ k * y := by
  induction l generalizing k with
  | nil => simp at hx
  | cons d l ih =>
    cases k with
    | zero => simp at hx; subst hx; simp [val]; omega
    | succ k =>
      have := ih (k := k) (by simpa using hx)
      simp only [List.set_cons_succ, val, Nat.pow_succ]
      have e : ∀ z, 4294967296 ^ k * 4294967296 * z = 4294967296 * (4294967296 ^ k * z) := fun z => by rw [Nat.mul_comm (4294967296 ^ k) 4294967296, Nat.mul_assoc]
      rw [e, e]; omega

/-- No leading zeros. -/
def Canon (l : List Nat) : Prop := ∀ x, l.getLast? = some x → x ≠ 0
theorem Canon.nil : Canon [] := by intro x h; simp at h
theorem canon_tail {d : Nat} {l : List Nat} (h : Canon (d :: l)) : Canon l := by
  intro x hx
  cases l with
  | nil => simp at hx
  | cons e m => exact h x (by rw [List.getLast?_cons_cons]; exact hx)
theorem val_pos {l : List Nat} (h : Canon l) (hl : l ≠ []) : 0 < val l := by
  induction l with
  | nil => exact absurd rfl hl
  | cons d l ih =>
    cases l with
    | nil => have := h d (by simp); simp [val]; omega
    | cons e m =>
      have := ih (canon_tail h) (by simp)
      simp only [val] at this ⊢
      omega
theorem val_ge {l : List Nat} (h : Canon l) (hl : l ≠ []) : 4294967296 ^ (l.length - 1) ≤ val l := by
  induction l with
  | nil => exact absurd rfl hl
  | cons d l ih =>
    cases l with
    | nil => have := h d (by simp); simp [val]; omega
    | cons e m =>
      have := ih (canon_tail h) (by simp)
      simp only [val, List.length_cons, Nat.add_sub_cancel] at this ⊢
      rw [Nat.pow_succ]
      omega
/-- Digits without leading zeros are told by their value. -/
theorem val_inj {a b : List Nat} (ha : Dig a) (hb : Dig b) (ca : Canon a) (cb : Canon b) (h : val a = val b) : a = b := by
  induction a generalizing b with
  | nil =>
    cases b with
    | nil => rfl
    | cons d l => have := val_pos cb (by simp); rw [← h] at this; simp [val] at this
  | cons d l ih =>
    cases b with
    | nil => have := val_pos ca (by simp); rw [h] at this; simp [val] at this
    | cons e m =>
      simp only [val] at h
      have h1 := ha.head
      have h2 := hb.head
      have h3 : d = e := by omega
      have h4 : val l = val m := by omega
      rw [h3, ih ha.tail hb.tail (canon_tail ca) (canon_tail cb) h4]

/-- The digits of a number. -/
def digs (n : Nat) : List Nat := if h : n = 0 then [] else n % 4294967296 :: digs (n / 4294967296)
termination_by n
decreasing_by omega
theorem digs_zero : digs 0 = [] := by rw [digs]; simp
theorem digs_pos {n : Nat} (h : n ≠ 0) : digs n = n % 4294967296 :: digs (n / 4294967296) := by rw [digs]; simp [h]
theorem val_digs (n : Nat) : val (digs n) = n := by
  induction n using Nat.strongRecOn with
  | _ n ih =>
    by_cases h : n = 0
    · subst h; rw [digs_zero]; rfl
    · rw [digs_pos h]
      have := ih (n / 4294967296) (by omega)
      simp only [val, this]
      omega
theorem dig_digs (n : Nat) : Dig (digs n) := by
  induction n using Nat.strongRecOn with
  | _ n ih =>
    by_cases h : n = 0
    · subst h; rw [digs_zero]; exact Dig.nil
    · rw [digs_pos h]
      exact Dig.cons (by omega) (ih (n / 4294967296) (by omega))
theorem canon_cons {d : Nat} {l : List Nat} (h : Canon l) (hd : l = [] → d ≠ 0) : Canon (d :: l) := by
  intro x hx
  cases l with
  | nil => simp at hx; subst hx; exact hd rfl
  | cons e m => rw [List.getLast?_cons_cons] at hx; exact h x hx
theorem digs_nil {n : Nat} : digs n = [] ↔ n = 0 := by
  constructor
  · intro h
    by_cases h0 : n = 0
    · exact h0
    · rw [digs_pos h0] at h; cases h
  · rintro rfl; exact digs_zero
theorem canon_digs (n : Nat) : Canon (digs n) := by
  induction n using Nat.strongRecOn with
  | _ n ih =>
    by_cases h : n = 0
    · subst h; rw [digs_zero]; exact Canon.nil
    · rw [digs_pos h]
      refine canon_cons (ih (n / 4294967296) (by omega)) fun h1 => ?_
      have := digs_nil.1 h1
      omega
theorem digs_val {l : List Nat} (h : Dig l) (c : Canon l) : digs (val l) = l := val_inj (dig_digs _) h (canon_digs _) c (val_digs _)
/-- Where the leading zeros begin. -/
def trimN (l : List Nat) : Nat → Nat
  | 0 => 0
  | k + 1 => if l.getD k 0 = 0 then trimN l k else k + 1
theorem trimN_le (l : List Nat) (k : Nat) : trimN l k ≤ k := by
  induction k with
  | zero => simp [trimN]
  | succ k ih => unfold trimN; split <;> omega
theorem trimN_zeros (l : List Nat) (k : Nat) : ∀ j, trimN l k ≤ j → j < k → l.getD j 0 = 0 := by
  induction k with
  | zero => intro j _ h; omega
  | succ k ih =>
    intro j h1 h2
    unfold trimN at h1
    split at h1
    · rename_i h0
      by_cases hj : j = k
      · subst hj; exact h0
      · exact ih j h1 (by omega)
    · omega
theorem trimN_last (l : List Nat) (k : Nat) (h : 0 < trimN l k) : l.getD (trimN l k - 1) 0 ≠ 0 := by
  induction k with
  | zero => simp [trimN] at h
  | succ k ih =>
    unfold trimN at h ⊢
    split
    · rename_i h0
      rw [if_pos h0] at h
      exact ih h
    · rename_i h0
      simpa using h0
theorem zeros_eq {l : List Nat} (h : ∀ j, j < l.length → l.getD j 0 = 0) : l = List.replicate l.length 0 := by
  apply List.ext_getElem?
  intro i
  by_cases hi : i < l.length
  · have := h i hi
    simp [hi] at this ⊢
    exact this
  · simp [Nat.not_lt.1 hi]
/-- Digits without their leading zeros. -/
theorem trim_eq {l : List Nat} (h : Dig l) : l.take (trimN l l.length) = digs (val l) := by
  have hle := trimN_le l l.length
  have hz : l.drop (trimN l l.length) = List.replicate (l.length - trimN l l.length) 0 := by
    have := zeros_eq (l := l.drop (trimN l l.length)) (fun j hj => by
      have := trimN_zeros l l.length (trimN l l.length + j) (by omega) (by simp at hj; omega)
      simpa using this)
    simpa using this
  have hv : val l = val (l.take (trimN l l.length)) := by
    have := val_split l _ hle
    rw [this, hz, val_replicate]; simp
  rw [hv]
  refine (digs_val (h.take _) fun x hx => ?_).symm
  by_cases h0 : trimN l l.length = 0
  · rw [h0] at hx; simp at hx
  · have := trimN_last l l.length (by omega)
    rw [List.getLast?_eq_getElem?, List.length_take, Nat.min_eq_left hle] at hx
    rw [List.getElem?_take_of_lt (by omega)] at hx
    simpa [List.getD, hx] using this
theorem digs_len_le {n k : Nat} (h : n < 4294967296 ^ k) : (digs n).length ≤ k := by
  by_cases h0 : digs n = []
  · simp [h0]
  · have := val_ge (canon_digs n) h0
    rw [val_digs] at this
    rcases Nat.lt_or_ge ((digs n).length - 1) k with h1 | h1
    · omega
    · have := Nat.pow_le_pow_right (n := 4294967296) (by omega) h1
      omega
theorem lt_of_digs_len {n k : Nat} (h : (digs n).length ≤ k) : n < 4294967296 ^ k := by
  have := val_lt (dig_digs n)
  rw [val_digs] at this
  exact Nat.lt_of_lt_of_le this (Nat.pow_le_pow_right (by omega) h)
end Go.Proofs.YtclkkoiaaddllaaGreat

/- Division of digits, one digit of the quotient after the other: plain mathematics. -/
namespace Go.Proofs.YtclkkoiaaddllaaGreat

/-- The three top digits of a number of n + 3 digits. -/
theorem top3 {l : List Nat} {n a b c : Nat} (hd : Dig l) (hlt : val l < 4294967296 ^ (n + 3)) (ha : l[n + 2]? = some a) (hb : l[n + 1]? = some b) (hc : l[n]? = some c) :
    ∃ r, r < 4294967296 ^ n ∧ val l = (a * (4294967296 * 4294967296) + b * 4294967296 + c) * 4294967296 ^ n + r := by
  have hn : n + 2 < l.length := (List.getElem?_eq_some_iff.1 ha).1
  have h0 := val_split l (n + 3) (by omega)
  have hz : val (l.drop (n + 3)) = 0 := by
    rcases Nat.eq_zero_or_pos (val (l.drop (n + 3))) with h | h
    · exact h
    · have : 4294967296 ^ (n + 3) * 1 ≤ 4294967296 ^ (n + 3) * val (l.drop (n + 3)) := Nat.mul_le_mul_left _ h
      omega
  rw [hz, Nat.mul_zero, Nat.add_zero, val_take_succ ha, val_take_succ hb, val_take_succ hc] at h0
  refine ⟨val (l.take n), ?_, ?_⟩
  · have := val_lt (hd.take n)
    rwa [List.length_take, Nat.min_eq_left (by omega)] at this
  · rw [h0]
    have e1 : 4294967296 ^ (n + 2) = 4294967296 ^ n * (4294967296 * 4294967296) := by rw [Nat.pow_add]
    have e2 : 4294967296 ^ (n + 1) = 4294967296 ^ n * 4294967296 := by rw [Nat.pow_succ]
    rw [e1, e2, Nat.add_mul, Nat.add_mul, Nat.mul_comm (a * (4294967296 * 4294967296)), Nat.mul_comm (b * 4294967296), Nat.mul_comm c, Nat.mul_assoc, Nat.mul_assoc, Nat.mul_comm a, Nat.mul_comm b]
    omega
theorem top2 {l : List Nat} {n b c : Nat} (hd : Dig l) (hl : l.length = n + 2) (hb : l[n + 1]? = some b) (hc : l[n]? = some c) :
    ∃ r, r < 4294967296 ^ n ∧ val l = (b * 4294967296 + c) * 4294967296 ^ n + r := by
  have h0 := val_take_all (l := l) (k := n + 2) (by omega)
  rw [val_take_succ hb, val_take_succ hc] at h0
  refine ⟨val (l.take n), ?_, ?_⟩
  · have := val_lt (hd.take n)
    rwa [List.length_take, Nat.min_eq_left (by omega)] at this
  · rw [← h0, Nat.pow_succ, Nat.add_mul, Nat.mul_comm (b * 4294967296), Nat.mul_comm c, Nat.mul_assoc, Nat.mul_comm b]
    omega

section
variable {S V P u2 u1 u0 v1 v0 r s g rest : Nat}
/-- What the guess of a digit stands on: S by its three top digits, V by its two top digits, the head of both. -/
structure Tops (S V P u2 u1 u0 v1 v0 : Nat) : Prop where
  pos : 0 < P
  hS : ∃ r, r < P ∧ S = (u2 * (4294967296 * 4294967296) + u1 * 4294967296 + u0) * P + r
  hV : ∃ s, s < P ∧ V = (v1 * 4294967296 + v0) * P + s
  top : 2147483648 ≤ v1
  l1 : v1 < 4294967296
  l0 : v0 < 4294967296
  m2 : u2 < 4294967296
  m1 : u1 < 4294967296
  m0 : u0 < 4294967296
  fits : S < 4294967296 * V
theorem Tops.vpos (t : Tops S V P u2 u1 u0 v1 v0) : 0 < V := by
  rcases Nat.eq_zero_or_pos V with h | h
  · have := t.fits; rw [h] at this; omega
  · exact h
theorem Tops.q_lt (t : Tops S V P u2 u1 u0 v1 v0) : S / V < 4294967296 := by
  rw [Nat.div_lt_iff_lt_mul t.vpos]; exact t.fits
/-- The head is not above B * v1 + B - 1. -/
theorem Tops.head_lt (t : Tops S V P u2 u1 u0 v1 v0) : u2 * 4294967296 + u1 < 4294967296 * (v1 + 1) := by
  obtain ⟨r, hr, hS⟩ := t.hS
  obtain ⟨s, hs, hV⟩ := t.hV
  have hf := t.fits
  have h0 := t.l0
  rcases Nat.lt_or_ge (u2 * 4294967296 + u1) (4294967296 * (v1 + 1)) with h | h
  · exact h
  · exfalso
    have h1 : 4294967296 * (v1 + 1) * (4294967296 * P) ≤ (u2 * 4294967296 + u1) * (4294967296 * P) := Nat.mul_le_mul_right _ h
    have h2 : (u2 * 4294967296 + u1) * (4294967296 * P) ≤ S := by
      rw [hS]
      have : (u2 * 4294967296 + u1) * (4294967296 * P) = (u2 * (4294967296 * 4294967296) + u1 * 4294967296) * P := by rw [← Nat.mul_assoc, Nat.add_mul (u2 * 4294967296) u1 4294967296, Nat.mul_assoc u2]
      rw [this]
      have : (u2 * (4294967296 * 4294967296) + u1 * 4294967296) * P ≤ (u2 * (4294967296 * 4294967296) + u1 * 4294967296 + u0) * P := Nat.mul_le_mul_right _ (by omega)
      omega
    have h3 : V ≤ (v1 + 1) * (4294967296 * P) := by
      rw [hV]
      have e : (v1 + 1) * (4294967296 * P) = (v1 * 4294967296 + 4294967296) * P := by rw [← Nat.mul_assoc, Nat.add_mul v1 1, Nat.one_mul]
      rw [e]
      have : (v1 * 4294967296 + v0 + 1) * P ≤ (v1 * 4294967296 + 4294967296) * P := Nat.mul_le_mul_right _ (by omega)
      rw [Nat.add_mul _ 1, Nat.one_mul] at this
      omega
    have h4 : 4294967296 * V ≤ 4294967296 * ((v1 + 1) * (4294967296 * P)) := Nat.mul_le_mul_left _ h3
    rw [← Nat.mul_assoc] at h4
    omega
/-- A guess with g * (v1 v0) above the three top digits is too great. -/
theorem Tops.above (t : Tops S V P u2 u1 u0 v1 v0) (h : u2 * (4294967296 * 4294967296) + u1 * 4294967296 + u0 < g * (v1 * 4294967296 + v0)) : S / V < g := by
  obtain ⟨r, hr, hS⟩ := t.hS
  obtain ⟨s, hs, hV⟩ := t.hV
  rw [Nat.div_lt_iff_lt_mul t.vpos]
  have h1 : (u2 * (4294967296 * 4294967296) + u1 * 4294967296 + u0 + 1) * P ≤ g * (v1 * 4294967296 + v0) * P := Nat.mul_le_mul_right _ h
  rw [Nat.add_mul _ 1, Nat.one_mul] at h1
  have h2 : g * (v1 * 4294967296 + v0) * P ≤ g * V := by
    rw [Nat.mul_assoc]
    exact Nat.mul_le_mul_left _ (by rw [hV]; omega)
  omega
/-- The first guess is not too small. -/
theorem Tops.first (t : Tops S V P u2 u1 u0 v1 v0) : S / V ≤ (u2 * 4294967296 + u1) / v1 := by
  obtain ⟨r, hr, hS⟩ := t.hS
  obtain ⟨s, hs, hV⟩ := t.hV
  have hv := t.top
  have hm := t.m0
  rw [Nat.le_div_iff_mul_le (by omega)]
  have h1 : S / V * V ≤ S := Nat.div_mul_le_self S V
  have h2 : S / V * (v1 * (4294967296 * P)) ≤ S / V * V := by
    refine Nat.mul_le_mul_left _ ?_
    rw [hV]
    have e : v1 * (4294967296 * P) = v1 * 4294967296 * P := by rw [Nat.mul_assoc]
    have : v1 * 4294967296 * P ≤ (v1 * 4294967296 + v0) * P := Nat.mul_le_mul_right _ (by omega)
    omega
  have h3 : S < (u2 * 4294967296 + u1 + 1) * (4294967296 * P) := by
    rw [hS]
    have e : (u2 * 4294967296 + u1 + 1) * (4294967296 * P) = (u2 * (4294967296 * 4294967296) + u1 * 4294967296 + 4294967296) * P := by rw [← Nat.mul_assoc, Nat.add_mul (u2 * 4294967296 + u1) 1 4294967296, Nat.add_mul (u2 * 4294967296) u1 4294967296, Nat.mul_assoc u2, Nat.one_mul]
    rw [e]
    have : (u2 * (4294967296 * 4294967296) + u1 * 4294967296 + u0 + 1) * P ≤ (u2 * (4294967296 * 4294967296) + u1 * 4294967296 + 4294967296) * P := Nat.mul_le_mul_right _ (by omega)
    rw [Nat.add_mul _ 1, Nat.one_mul] at this
    omega
  have h4 : S / V * v1 * (4294967296 * P) < (u2 * 4294967296 + u1 + 1) * (4294967296 * P) := by
    rw [Nat.mul_assoc]; omega
  have := Nat.lt_of_mul_lt_mul_right h4
  omega
/-- A guess that passes the test is at most one too great. -/
theorem Tops.close (t : Tops S V P u2 u1 u0 v1 v0) (hg : g < 4294967296) (h : g * (v1 * 4294967296 + v0) ≤ u2 * (4294967296 * 4294967296) + u1 * 4294967296 + u0) : g ≤ S / V + 1 := by
  obtain ⟨r, hr, hS⟩ := t.hS
  obtain ⟨s, hs, hV⟩ := t.hV
  have hv := t.top
  have h1 : g * V ≤ (u2 * (4294967296 * 4294967296) + u1 * 4294967296 + u0) * P + g * P := by
    rw [hV, Nat.mul_add, ← Nat.mul_assoc]
    have a1 : g * (v1 * 4294967296 + v0) * P ≤ (u2 * (4294967296 * 4294967296) + u1 * 4294967296 + u0) * P := Nat.mul_le_mul_right _ h
    have a2 : g * s ≤ g * P := Nat.mul_le_mul_left _ (Nat.le_of_lt hs)
    omega
  have h2 : g * P < V := by
    rw [hV]
    have a1 : g * P < 4294967296 * P := Nat.mul_lt_mul_of_pos_right hg t.pos
    have a2 : 4294967296 * P ≤ (v1 * 4294967296 + v0) * P := Nat.mul_le_mul_right _ (by omega)
    omega
  have h3 : g * V < S + V := by omega
  rcases Nat.lt_or_ge (S / V + 1) g with hc | hc
  · exfalso
    have a1 : (S / V + 2) * V ≤ g * V := Nat.mul_le_mul_right _ hc
    have a2 := Nat.lt_div_mul_add (a := S) (b := V) t.vpos
    have a3 : (S / V + 2) * V = S / V * V + V + V := by rw [Nat.add_mul]; omega
    omega
  · exact hc
end

theorem gt_aux {A C D R u0 X : Nat} (e : X = C + D) (e2 : A = C + R) : D > R + u0 ↔ A + u0 < X := by
  subst e e2
  constructor
  · intro h1; omega
  · intro h1; omega
/-- One test and its step: 'head' is g * v1 + rest. -/
theorem guess_test {u2 u1 u0 v1 v0 g rest : Nat} (h : g * v1 + rest = u2 * 4294967296 + u1) : g * v0 > rest * 4294967296 + u0 ↔ u2 * (4294967296 * 4294967296) + u1 * 4294967296 + u0 < g * (v1 * 4294967296 + v0) :=
  gt_aux (C := g * v1 * 4294967296) (by rw [Nat.mul_add, ← Nat.mul_assoc]) (by omega)
end Go.Proofs.YtclkkoiaaddllaaGreat

/- Complex rationals in lowest terms: plain laws. -/
namespace Go.Proofs.YtclkkoiaaddllaaGreat
set_option linter.unusedVariables false

/-- The greatest common divisor of three integers. -/
def g3 (a b d : Int) : Nat := Nat.gcd (Nat.gcd d.natAbs a.natAbs) b.natAbs
def sgZ (d : Int) : Int := if d < 0 then -1 else 1
def gZ (a b d : Int) : Int := sgZ d * (g3 a b d : Int)
/-- (a + i b) / d in lowest terms. -/
def nf (a b d : Int) : Int × Int × Int := (a / gZ a b d, b / gZ a b d, d / gZ a b d)

theorem g3_pos {a b d : Int} (hd : d ≠ 0) : 0 < g3 a b d := by
  unfold g3
  exact Nat.gcd_pos_of_pos_left _ (Nat.gcd_pos_of_pos_left _ (by omega))
theorem g3_dvd (a b d : Int) : (g3 a b d : Int) ∣ a ∧ (g3 a b d : Int) ∣ b ∧ (g3 a b d : Int) ∣ d := by
  unfold g3
  refine ⟨?_, ?_, ?_⟩
  · exact Int.ofNat_dvd_left.2 (Nat.dvd_trans (Nat.gcd_dvd_left _ _) (Nat.gcd_dvd_right _ _))
  · exact Int.ofNat_dvd_left.2 (Nat.gcd_dvd_right _ _)
  · exact Int.ofNat_dvd_left.2 (Nat.dvd_trans (Nat.gcd_dvd_left _ _) (Nat.gcd_dvd_left _ _))
theorem g3_ref (a b d : Int) : Nat.gcd (Nat.gcd a.natAbs b.natAbs) d.natAbs = g3 a b d := by
  unfold g3
  rw [Nat.gcd_comm, ← Nat.gcd_assoc]
theorem gZ_ne {a b d : Int} (hd : d ≠ 0) : gZ a b d ≠ 0 := by
  unfold gZ sgZ
  have := g3_pos (a := a) (b := b) hd
  split <;> omega
/-- What lowest terms are: three factors and their common divisor 1. -/
theorem nf_spec {a b d : Int} (hd : d ≠ 0) : ∃ a0 b0 d0 : Int, nf a b d = (a0, b0, d0) ∧ a = gZ a b d * a0 ∧ b = gZ a b d * b0 ∧ d = gZ a b d * d0 ∧ 0 < d0 ∧ g3 a0 b0 d0 = 1 := by
  have hne := gZ_ne (a := a) (b := b) hd
  obtain ⟨⟨a1, ha⟩, ⟨b1, hb⟩, ⟨d1, hd1⟩⟩ := g3_dvd a b d
  have hgp := g3_pos (a := a) (b := b) hd
  have hss : sgZ d * sgZ d = 1 := by unfold sgZ; split <;> rfl
  have fac : ∀ {x x1 : Int}, x = (g3 a b d : Int) * x1 → x = gZ a b d * (sgZ d * x1) := by
    intro x x1 h
    unfold gZ
    rw [h, Int.mul_assoc, Int.mul_left_comm (g3 a b d : Int), ← Int.mul_assoc, hss, Int.one_mul]
  have fa := fac ha
  have fb := fac hb
  have fd := fac hd1
  refine ⟨sgZ d * a1, sgZ d * b1, sgZ d * d1, ?_, fa, fb, fd, ?_, ?_⟩
  · unfold nf
    have e1 : a / gZ a b d = sgZ d * a1 := by rw [Int.ediv_eq_iff_eq_mul_right hne ⟨_, fa⟩]; exact fa
    have e2 : b / gZ a b d = sgZ d * b1 := by rw [Int.ediv_eq_iff_eq_mul_right hne ⟨_, fb⟩]; exact fb
    have e3 : d / gZ a b d = sgZ d * d1 := by rw [Int.ediv_eq_iff_eq_mul_right hne ⟨_, fd⟩]; exact fd
    rw [e1, e2, e3]
  · have hpos : (0 : Int) < (g3 a b d : Int) := by omega
    unfold sgZ
    by_cases hn : d < 0
    · rw [if_pos hn]
      have : d1 < 0 := by
        rcases Int.lt_trichotomy d1 0 with h | h | h
        · exact h
        · rw [h] at hd1; simp at hd1; exact absurd hd1 hd
        · have := Int.mul_pos hpos h; omega
      omega
    · rw [if_neg hn]
      have : 0 < d1 := by
        rcases Int.lt_trichotomy d1 0 with h | h | h
        · have := Int.mul_neg_of_pos_of_neg hpos h; omega
        · rw [h] at hd1; simp at hd1; exact absurd hd1 hd
        · exact h
      omega
  · have hna : ∀ x : Int, (sgZ d * x).natAbs = x.natAbs := by
      intro x
      rw [Int.natAbs_mul]
      unfold sgZ
      split <;> simp
    have h1 : g3 (sgZ d * a1) (sgZ d * b1) (sgZ d * d1) = g3 a1 b1 d1 := by unfold g3; rw [hna, hna, hna]
    rw [h1]
    have h2 : g3 a b d = g3 a b d * g3 a1 b1 d1 := by
      have e1 : a.natAbs = g3 a b d * a1.natAbs := by
        have := congrArg Int.natAbs ha
        rw [Int.natAbs_mul, Int.natAbs_natCast] at this
        exact this
      have e2 : b.natAbs = g3 a b d * b1.natAbs := by
        have := congrArg Int.natAbs hb
        rw [Int.natAbs_mul, Int.natAbs_natCast] at this
        exact this
      have e3 : d.natAbs = g3 a b d * d1.natAbs := by
        have := congrArg Int.natAbs hd1
        rw [Int.natAbs_mul, Int.natAbs_natCast] at this
        exact this
      have e4 : g3 a b d = Nat.gcd (Nat.gcd d.natAbs a.natAbs) b.natAbs := rfl
      generalize g3 a b d = G at *
      have e5 : Nat.gcd (Nat.gcd d.natAbs a.natAbs) b.natAbs = G * g3 a1 b1 d1 := by
        rw [e1, e2, e3, Nat.gcd_mul_left, Nat.gcd_mul_left]
        rfl
      exact e4.trans e5
    have h3 : g3 a b d * 1 = g3 a b d * g3 a1 b1 d1 := by rw [Nat.mul_one]; exact h2
    exact (Nat.eq_of_mul_eq_mul_left hgp h3).symm
theorem dvd_of_cross {a b d a' b' d' : Int} (h1 : a * d' = a' * d) (h2 : b * d' = b' * d) (hg : g3 a b d = 1) : d ∣ d' := by
  have h : (g3 (a * d') (b * d') (d * d') : Nat) = d'.natAbs := by
    unfold g3
    rw [Int.natAbs_mul, Int.natAbs_mul, Int.natAbs_mul, Nat.gcd_mul_right, Nat.gcd_mul_right]
    have : Nat.gcd (Nat.gcd d.natAbs a.natAbs) b.natAbs = 1 := hg
    rw [this, Nat.one_mul]
  have ha : d.natAbs ∣ (a * d').natAbs := by rw [h1, Int.natAbs_mul]; exact Nat.dvd_mul_left _ _
  have hb : d.natAbs ∣ (b * d').natAbs := by rw [h2, Int.natAbs_mul]; exact Nat.dvd_mul_left _ _
  have hc : d.natAbs ∣ (d * d').natAbs := by rw [Int.natAbs_mul]; exact Nat.dvd_mul_right _ _
  have h3 : d.natAbs ∣ d'.natAbs := by
    rw [← h]
    unfold g3
    exact Nat.dvd_gcd (Nat.dvd_gcd hc ha) hb
  exact Int.natAbs_dvd_natAbs.1 h3
/-- Lowest terms are unique. -/
theorem nf_unique {a b d a' b' d' : Int} (hd : d ≠ 0) (hd' : d' ≠ 0) (h1 : a * d' = a' * d) (h2 : b * d' = b' * d) : nf a b d = nf a' b' d' := by
  obtain ⟨a0, b0, d0, e0, ea, eb, ed, hp, hg⟩ := nf_spec (a := a) (b := b) hd
  obtain ⟨a1, b1, d1, e1, ea', eb', ed', hp', hg'⟩ := nf_spec (a := a') (b := b') hd'
  have hG := gZ_ne (a := a) (b := b) hd
  have hG' := gZ_ne (a := a') (b := b') hd'
  generalize gZ a b d = G at *
  generalize gZ a' b' d' = H at *
  have hGH : G * H ≠ 0 := Int.mul_ne_zero hG hG'
  have c1 : a0 * d1 = a1 * d0 := by
    rw [ea, ed', ea', ed] at h1
    have : (G * H) * (a0 * d1) = (G * H) * (a1 * d0) := by
      calc (G * H) * (a0 * d1) = G * a0 * (H * d1) := by rw [Int.mul_assoc, Int.mul_assoc, Int.mul_left_comm H a0 d1]
        _ = H * a1 * (G * d0) := h1
        _ = (G * H) * (a1 * d0) := by rw [Int.mul_comm G H, Int.mul_assoc, Int.mul_assoc, Int.mul_left_comm G a1 d0]
    exact Int.eq_of_mul_eq_mul_left hGH this
  have c2 : b0 * d1 = b1 * d0 := by
    rw [eb, ed', eb', ed] at h2
    have : (G * H) * (b0 * d1) = (G * H) * (b1 * d0) := by
      calc (G * H) * (b0 * d1) = G * b0 * (H * d1) := by rw [Int.mul_assoc, Int.mul_assoc, Int.mul_left_comm H b0 d1]
        _ = H * b1 * (G * d0) := h2
        _ = (G * H) * (b1 * d0) := by rw [Int.mul_comm G H, Int.mul_assoc, Int.mul_assoc, Int.mul_left_comm G b1 d0]
    exact Int.eq_of_mul_eq_mul_left hGH this
  have k1 : d0 ∣ d1 := dvd_of_cross c1 c2 hg
  have k2 : d1 ∣ d0 := dvd_of_cross c1.symm c2.symm hg'
  have hdd : d0 = d1 := Int.le_antisymm (Int.le_of_dvd hp' k1) (Int.le_of_dvd hp k2)
  subst hdd
  have hne : d0 ≠ 0 := by omega
  have ha : a0 = a1 := Int.eq_of_mul_eq_mul_right hne c1
  have hb : b0 = b1 := Int.eq_of_mul_eq_mul_right hne c2
  rw [e0, e1, ha, hb]
/-- A number in lowest terms. -/
def Low (a b d : Int) : Prop := 0 < d ∧ g3 a b d = 1
theorem nf_low {a b d : Int} (h : Low a b d) : nf a b d = (a, b, d) := by
  obtain ⟨h1, h2⟩ := h
  unfold nf gZ sgZ
  rw [h2, if_neg (by omega)]
  simp
theorem low_nf {a b d : Int} (hd : d ≠ 0) : Low (nf a b d).1 (nf a b d).2.1 (nf a b d).2.2 := by
  obtain ⟨a0, b0, d0, e0, _, _, _, hp, hg⟩ := nf_spec (a := a) (b := b) hd
  rw [e0]
  exact ⟨hp, hg⟩
end Go.Proofs.YtclkkoiaaddllaaGreat

/- Complex rationals and phasors as numbers: what lowest terms say of them. -/
namespace Go.Proofs.YtclkkoiaaddllaaGreat
set_option linter.unusedVariables false

/-! Numbers: complex rationals. -/
@[ext] structure GQ where
  re : Rat
  im : Rat
namespace GQ
instance : Add GQ := ⟨fun x y => ⟨x.re + y.re, x.im + y.im⟩⟩
instance : Sub GQ := ⟨fun x y => ⟨x.re - y.re, x.im - y.im⟩⟩
instance : Neg GQ := ⟨fun x => ⟨-x.re, -x.im⟩⟩
instance : Mul GQ := ⟨fun x y => ⟨x.re * y.re - x.im * y.im, x.re * y.im + x.im * y.re⟩⟩
def nrm (y : GQ) : Rat := y.re * y.re + y.im * y.im
instance : Div GQ := ⟨fun x y => ⟨(x.re * y.re + x.im * y.im) / y.nrm, (x.im * y.re - x.re * y.im) / y.nrm⟩⟩
/-- A whole number. -/
def i (a b : Int) : GQ := ⟨a, b⟩
theorem add_re (x y : GQ) : (x + y).re = x.re + y.re := rfl
theorem add_im (x y : GQ) : (x + y).im = x.im + y.im := rfl
theorem sub_re (x y : GQ) : (x - y).re = x.re - y.re := rfl
theorem sub_im (x y : GQ) : (x - y).im = x.im - y.im := rfl
theorem neg_re (x : GQ) : (-x).re = -x.re := rfl
theorem neg_im (x : GQ) : (-x).im = -x.im := rfl
theorem mul_re (x y : GQ) : (x * y).re = x.re * y.re - x.im * y.im := rfl
theorem mul_im (x y : GQ) : (x * y).im = x.re * y.im + x.im * y.re := rfl
theorem div_re (x y : GQ) : (x / y).re = (x.re * y.re + x.im * y.im) / y.nrm := rfl
theorem div_im (x y : GQ) : (x / y).im = (x.im * y.re - x.re * y.im) / y.nrm := rfl
theorem i_re (a b : Int) : (i a b).re = a := rfl
theorem i_im (a b : Int) : (i a b).im = b := rfl
theorem mul_comm' (x y : GQ) : x * y = y * x := by ext <;> simp only [mul_re, mul_im] <;> grind
theorem mul_assoc' (x y z : GQ) : x * y * z = x * (y * z) := by ext <;> simp only [mul_re, mul_im] <;> grind
theorem nrm_ne {y : GQ} (h : y ≠ i 0 0) : y.nrm ≠ 0 := by
  intro e
  apply h
  have h1 : 0 ≤ y.re * y.re := by
    rcases Rat.le_total (a := 0) (b := y.re) with h | h
    · exact Rat.mul_nonneg h h
    · have := Rat.mul_nonneg (a := -y.re) (b := -y.re) (by grind) (by grind)
      grind
  have h2 : 0 ≤ y.im * y.im := by
    rcases Rat.le_total (a := 0) (b := y.im) with h | h
    · exact Rat.mul_nonneg h h
    · have := Rat.mul_nonneg (a := -y.im) (b := -y.im) (by grind) (by grind)
      grind
  unfold nrm at e
  have e1 : y.re * y.re = 0 := by grind
  have e2 : y.im * y.im = 0 := by grind
  ext <;> simp only [i_re, i_im]
  · rcases Rat.mul_eq_zero.1 e1 with h | h <;> simpa using h
  · rcases Rat.mul_eq_zero.1 e2 with h | h <;> simpa using h
theorem div_mul {x y : GQ} (h : y ≠ i 0 0) : x * y / y = x := by
  have hn := nrm_ne h
  unfold nrm at hn
  ext <;> simp only [mul_re, mul_im, div_re, div_im, nrm] <;> grind
end GQ

/-- The triple a, b, d is the number q in lowest terms. -/
structure Is (q : GQ) (a b d : Int) : Prop where
  low : Low a b d
  re : q.re = (a : Rat) / (d : Rat)
  im : q.im = (b : Rat) / (d : Rat)
theorem cast_ne {d : Int} (h : d ≠ 0) : (d : Rat) ≠ 0 := by exact_mod_cast h
theorem nf_size {a b d : Int} (hd : d ≠ 0) : (nf a b d).1.natAbs ≤ a.natAbs ∧ (nf a b d).2.1.natAbs ≤ b.natAbs ∧ (nf a b d).2.2.natAbs ≤ d.natAbs := by
  obtain ⟨a0, b0, d0, e0, ea, eb, ed, hp, hg⟩ := nf_spec (a := a) (b := b) hd
  have hG := gZ_ne (a := a) (b := b) hd
  rw [e0]
  generalize gZ a b d = G at *
  have key : ∀ x y : Int, x = G * y → y.natAbs ≤ x.natAbs := by
    intro x y h
    rw [h, Int.natAbs_mul]
    exact Nat.le_mul_of_pos_left _ (by omega)
  exact ⟨key _ _ ea, key _ _ eb, key _ _ ed⟩
theorem is_nf {a b d : Int} (hd : d ≠ 0) : Is ⟨(a : Rat) / (d : Rat), (b : Rat) / (d : Rat)⟩ (nf a b d).1 (nf a b d).2.1 (nf a b d).2.2 := by
  refine ⟨low_nf hd, ?_, ?_⟩
  all_goals
    obtain ⟨a0, b0, d0, e0, ea, eb, ed, hp, hg⟩ := nf_spec (a := a) (b := b) hd
    have hG := cast_ne (gZ_ne (a := a) (b := b) hd)
    have hd0 : (d0 : Rat) ≠ 0 := cast_ne (by omega)
    rw [e0]
    generalize gZ a b d = G at *
    subst ea eb ed
    simp only [Rat.intCast_mul]
    grind
theorem Is.nf_eq {q : GQ} {a b d a' b' d' : Int} (h : Is q a' b' d') (hd : d ≠ 0) (hr : q.re = (a : Rat) / (d : Rat)) (hi : q.im = (b : Rat) / (d : Rat)) : nf a b d = (a', b', d') := by
  have hd' : d' ≠ 0 := by have := h.low.1; omega
  rw [← nf_low h.low]
  have h1 := cast_ne hd
  have h2 := cast_ne hd'
  have e1 := h.re
  have e2 := h.im
  apply nf_unique hd hd'
  · have : (a : Rat) * d' = a' * d := by grind
    exact_mod_cast this
  · have : (b : Rat) * d' = b' * d := by grind
    exact_mod_cast this
theorem Is.unique {q : GQ} {a b d a' b' d' : Int} (h : Is q a b d) (h' : Is q a' b' d') : a = a' ∧ b = b' ∧ d = d' := by
  have e := h'.nf_eq (by have := h.low.1; omega) h.re h.im
  rw [nf_low h.low] at e
  simpa using e

/-- All three are below a power of 2. -/
structure Sz (n : Nat) (a b d : Int) : Prop where
  a : a.natAbs < 2 ^ n
  b : b.natAbs < 2 ^ n
  d : d.natAbs < 2 ^ n
theorem Sz.mono {m n : Nat} {a b d : Int} (h : Sz m a b d) (hmn : m ≤ n) : Sz n a b d :=
  ⟨Nat.lt_of_lt_of_le h.a (Nat.pow_le_pow_right (by omega) hmn), Nat.lt_of_lt_of_le h.b (Nat.pow_le_pow_right (by omega) hmn), Nat.lt_of_lt_of_le h.d (Nat.pow_le_pow_right (by omega) hmn)⟩
theorem Is.size {q : GQ} {a b d A B D : Int} {n : Nat} (h : Is q a b d) (hD : D ≠ 0) (hr : q.re = (A : Rat) / (D : Rat)) (hi : q.im = (B : Rat) / (D : Rat)) (hs : Sz n A B D) : Sz n a b d := by
  have e := h.nf_eq hD hr hi
  have hh := nf_size (a := A) (b := B) hD
  rw [e] at hh
  exact ⟨Nat.lt_of_le_of_lt hh.1 hs.a, Nat.lt_of_le_of_lt hh.2.1 hs.b, Nat.lt_of_le_of_lt hh.2.2 hs.d⟩
theorem lt_mul {x y : Int} {m n : Nat} (hx : x.natAbs < 2 ^ m) (hy : y.natAbs < 2 ^ n) : (x * y).natAbs < 2 ^ (m + n) := by
  rw [Int.natAbs_mul, Nat.pow_add]
  exact Nat.mul_lt_mul'' hx hy
theorem lt_add {x y : Int} {m : Nat} (hx : x.natAbs < 2 ^ m) (hy : y.natAbs < 2 ^ m) : (x + y).natAbs < 2 ^ (m + 1) := by
  have := Int.natAbs_add_le x y
  rw [Nat.pow_succ]
  omega
theorem lt_sub {x y : Int} {m : Nat} (hx : x.natAbs < 2 ^ m) (hy : y.natAbs < 2 ^ m) : (x - y).natAbs < 2 ^ (m + 1) := by
  have := Int.natAbs_sub_le x y
  rw [Nat.pow_succ]
  omega
theorem lt_up {x : Int} {m n : Nat} (hx : x.natAbs < 2 ^ m) (h : m ≤ n) : x.natAbs < 2 ^ n := Nat.lt_of_lt_of_le hx (Nat.pow_le_pow_right (by omega) h)
theorem Is.dne {q : GQ} {a b d : Int} (h : Is q a b d) : d ≠ 0 := by have := h.low.1; omega
section
variable {x y q : GQ} {a b d a' b' d' u v t : Int} {m n : Nat}
theorem Is.size_add (hx : Is x a b d) (sx : Sz m a b d) (hy : Is y a' b' d') (sy : Sz n a' b' d') (h : Is (x + y) u v t) : Sz (m + n + 1) u v t := by
  have h1 := cast_ne hx.dne
  have h2 := cast_ne hy.dne
  refine h.size (A := a * d' + a' * d) (B := b * d' + b' * d) (D := d * d') (Int.mul_ne_zero hx.dne hy.dne) ?_ ?_ ⟨lt_add (lt_mul sx.a sy.d) ?_, lt_add (lt_mul sx.b sy.d) ?_, lt_up (lt_mul sx.d sy.d) (by omega)⟩
  · rw [GQ.add_re, hx.re, hy.re]; simp only [Rat.intCast_mul, Rat.intCast_add]; grind
  · rw [GQ.add_im, hx.im, hy.im]; simp only [Rat.intCast_mul, Rat.intCast_add]; grind
  · rw [Nat.add_comm]; exact lt_mul sy.a sx.d
  · rw [Nat.add_comm]; exact lt_mul sy.b sx.d
theorem Is.size_sub (hx : Is x a b d) (sx : Sz m a b d) (hy : Is y a' b' d') (sy : Sz n a' b' d') (h : Is (x - y) u v t) : Sz (m + n + 1) u v t := by
  have h1 := cast_ne hx.dne
  have h2 := cast_ne hy.dne
  refine h.size (A := a * d' - a' * d) (B := b * d' - b' * d) (D := d * d') (Int.mul_ne_zero hx.dne hy.dne) ?_ ?_ ⟨lt_sub (lt_mul sx.a sy.d) ?_, lt_sub (lt_mul sx.b sy.d) ?_, lt_up (lt_mul sx.d sy.d) (by omega)⟩
  · rw [GQ.sub_re, hx.re, hy.re]; simp only [Rat.intCast_mul, Rat.intCast_sub]; grind
  · rw [GQ.sub_im, hx.im, hy.im]; simp only [Rat.intCast_mul, Rat.intCast_sub]; grind
  · rw [Nat.add_comm]; exact lt_mul sy.a sx.d
  · rw [Nat.add_comm]; exact lt_mul sy.b sx.d
theorem Is.size_mul (hx : Is x a b d) (sx : Sz m a b d) (hy : Is y a' b' d') (sy : Sz n a' b' d') (h : Is (x * y) u v t) : Sz (m + n + 1) u v t := by
  have h1 := cast_ne hx.dne
  have h2 := cast_ne hy.dne
  refine h.size (A := a * a' - b * b') (B := a * b' + b * a') (D := d * d') (Int.mul_ne_zero hx.dne hy.dne) ?_ ?_ ⟨lt_sub (lt_mul sx.a sy.a) (lt_mul sx.b sy.b), lt_add (lt_mul sx.a sy.b) (lt_mul sx.b sy.a), lt_up (lt_mul sx.d sy.d) (by omega)⟩
  · rw [GQ.mul_re, hx.re, hy.re, hx.im, hy.im]; simp only [Rat.intCast_mul, Rat.intCast_sub]; grind
  · rw [GQ.mul_im, hx.re, hy.re, hx.im, hy.im]; simp only [Rat.intCast_mul, Rat.intCast_add]; grind
end
theorem is_i (a b : Int) : Is (GQ.i a b) a b 1 := by
  refine ⟨⟨by omega, ?_⟩, ?_, ?_⟩
  · unfold g3; simp
  · simp only [GQ.i_re]; grind
  · simp only [GQ.i_im]; grind
/-! Phasors: u + v * sqrt(3). -/
@[ext] structure PQ where
  u : GQ
  v : GQ
namespace PQ
instance : Add PQ := ⟨fun x y => ⟨x.u + y.u, x.v + y.v⟩⟩
instance : Mul PQ := ⟨fun x y => ⟨x.u * y.u + GQ.i 3 0 * (x.v * y.v), x.u * y.v + x.v * y.u⟩⟩
def plain (x : GQ) : PQ := ⟨x, GQ.i 0 0⟩
def one : PQ := plain (GQ.i 1 0)
def half : GQ := ⟨1 / 2, 0⟩
def z : PQ := ⟨half * GQ.i 0 1, half⟩
theorem mul_u (x y : PQ) : (x * y).u = x.u * y.u + GQ.i 3 0 * (x.v * y.v) := rfl
theorem mul_v (x y : PQ) : (x * y).v = x.u * y.v + x.v * y.u := rfl
theorem mul_assoc' (x y z : PQ) : x * y * z = x * (y * z) := by
  ext <;> simp only [mul_u, mul_v, GQ.mul_re, GQ.mul_im, GQ.add_re, GQ.add_im, GQ.i_re, GQ.i_im] <;> grind
theorem mul_comm' (x y : PQ) : x * y = y * x := by
  ext <;> simp only [mul_u, mul_v, GQ.mul_re, GQ.mul_im, GQ.add_re, GQ.add_im, GQ.i_re, GQ.i_im] <;> grind
theorem mul_one' (x : PQ) : x * one = x := by
  ext <;> simp only [mul_u, mul_v, one, plain, GQ.mul_re, GQ.mul_im, GQ.add_re, GQ.add_im, GQ.i_re, GQ.i_im] <;> grind
end PQ
end Go.Proofs.YtclkkoiaaddllaaGreat
