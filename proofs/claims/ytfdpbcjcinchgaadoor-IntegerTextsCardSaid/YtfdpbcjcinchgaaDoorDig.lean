/- Lists of digits to the base 2^32, the least one first: their values, and the digits of a number. Plain mathematics. -/
namespace Go.Proofs.YtfdpbcjcinchgaaDoor

/-- The value of digits to the base 2^32. -/
def val : List Nat → Nat
  | [] => 0
  | d :: l => d + 4294967296 * val l
def Dig (l : List Nat) : Prop := ∀ d ∈ l, d < 4294967296

theorem Dig.nil : Dig [] := by intro d h; cases h
theorem Dig.cons {d : Nat} {l : List Nat} (hd : d < 4294967296) (hl : Dig l) : Dig (d :: l) := by
  intro x hx
  cases hx with
  | head => exact hd
  | tail _ h => exact hl x h
theorem Dig.head {d : Nat} {l : List Nat} (h : Dig (d :: l)) : d < 4294967296 := h d (by simp)
theorem Dig.tail {d : Nat} {l : List Nat} (h : Dig (d :: l)) : Dig l := fun x hx => h x (by simp [hx])
theorem Dig.append {a b : List Nat} (ha : Dig a) (hb : Dig b) : Dig (a ++ b) := by
  intro x hx
  rcases List.mem_append.1 hx with h | h
  · exact ha x h
  · exact hb x h
theorem Dig.one {d : Nat} (h : d < 4294967296) : Dig [d] := Dig.cons h Dig.nil
theorem Dig.take {l : List Nat} (h : Dig l) (k : Nat) : Dig (l.take k) := fun x hx => h x (List.mem_of_mem_take hx)
theorem Dig.drop {l : List Nat} (h : Dig l) (k : Nat) : Dig (l.drop k) := fun x hx => h x (List.mem_of_mem_drop hx)
theorem Dig.at_ {l : List Nat} (h : Dig l) {k x : Nat} (hx : l[k]? = some x) : x < 4294967296 := h x (List.mem_of_getElem? hx)
theorem Dig.replicate (k : Nat) : Dig (List.replicate k 0) := by
  intro x hx
  rw [List.mem_replicate] at hx
  omega
theorem Dig.set {l : List Nat} (h : Dig l) (k : Nat) {x : Nat} (hx : x < 4294967296) : Dig (l.set k x) := by
  intro y hy
  rcases List.mem_or_eq_of_mem_set hy with h1 | h1
  · exact h y h1
  · omega

theorem val_append (a b : List Nat) : val (a ++ b) = val a + 4294967296 ^ a.length * val b := by
  induction a with
  | nil => simp [val]
  | cons d l ih => simp only [List.cons_append, val, ih, List.length_cons, Nat.pow_succ, Nat.mul_add]; rw [Nat.mul_comm (4294967296 ^ l.length) 4294967296, Nat.mul_assoc]; omega
theorem val_replicate (k : Nat) : val (List.replicate k 0) = 0 := by
  induction k with
  | zero => rfl
  | succ k ih => simp [List.replicate_succ, val, ih]
theorem val_zeros (a : List Nat) (k : Nat) : val (a ++ List.replicate k 0) = val a := by rw [val_append, val_replicate]; simp
theorem val_snoc (a : List Nat) (x : Nat) : val (a ++ [x]) = val a + 4294967296 ^ a.length * x := by rw [val_append]; simp [val]
theorem val_take_succ {l : List Nat} {k x : Nat} (hx : l[k]? = some x) : val (l.take (k + 1)) = val (l.take k) + 4294967296 ^ k * x := by
  obtain ⟨hk, rfl⟩ := List.getElem?_eq_some_iff.1 hx
  rw [List.take_succ_eq_append_getElem hk, val_snoc]
  simp [Nat.min_eq_left (Nat.le_of_lt hk)]
theorem val_take_all {l : List Nat} {k : Nat} (h : l.length ≤ k) : val (l.take k) = val l := by rw [List.take_of_length_le h]
theorem val_take_over {l : List Nat} {k : Nat} (h : l.length ≤ k) : val (l.take (k + 1)) = val (l.take k) := by rw [val_take_all h, val_take_all (by omega)]
theorem val_split (l : List Nat) (k : Nat) (hk : k ≤ l.length) : val l = val (l.take k) + 4294967296 ^ k * val (l.drop k) := by
  have := val_append (l.take k) (l.drop k)
  rw [List.take_append_drop] at this
  rw [this]
  simp [Nat.min_eq_left hk]
theorem val_lt {l : List Nat} (h : Dig l) : val l < 4294967296 ^ l.length := by
  induction l with
  | nil => simp [val]
  | cons d l ih =>
    have h1 := ih h.tail
    have h2 := h.head
    simp only [val, List.length_cons, Nat.pow_succ]
    omega
theorem val_set {l : List Nat} {k x y : Nat} (hx : l[k]? = some x) : val (l.set k y) + 4294967296 ^ k * x = val l + 4294967296 ^ k * y := by
  induction l generalizing k with
  | nil => simp at hx
  | cons d l ih =>
    cases k with
    | zero => simp at hx; subst hx; simp [val]; omega
    | succ k =>
      have := ih (k := k) (by simpa using hx)
      simp only [List.set_cons_succ, val, Nat.pow_succ]
      have e : ∀ z, 4294967296 ^ k * 4294967296 * z = 4294967296 * (4294967296 ^ k * z) := fun z => by rw [Nat.mul_comm (4294967296 ^ k) 4294967296, Nat.mul_assoc]
      rw [e, e]; omega

/-- No leading zeros. -/
def Canon (l : List Nat) : Prop := ∀ x, l.getLast? = some x → x ≠ 0
theorem Canon.nil : Canon [] := by intro x h; simp at h
theorem canon_tail {d : Nat} {l : List Nat} (h : Canon (d :: l)) : Canon l := by
  intro x hx
  cases l with
  | nil => simp at hx
  | cons e m => exact h x (by rw [List.getLast?_cons_cons]; exact hx)
theorem val_pos {l : List Nat} (h : Canon l) (hl : l ≠ []) : 0 < val l := by
  induction l with
  | nil => exact absurd rfl hl
  | cons d l ih =>
    cases l with
    | nil => have := h d (by simp); simp [val]; omega
    | cons e m =>
      have := ih (canon_tail h) (by simp)
      simp only [val] at this ⊢
      omega
theorem val_ge {l : List Nat} (h : Canon l) (hl : l ≠ []) : 4294967296 ^ (l.length - 1) ≤ val l := by
  induction l with
  | nil => exact absurd rfl hl
  | cons d l ih =>
    cases l with
    | nil => have := h d (by simp); simp [val]; omega
    | cons e m =>
      have := ih (canon_tail h) (by simp)
      simp only [val, List.length_cons, Nat.add_sub_cancel] at this ⊢
      rw [Nat.pow_succ]
      omega
/-- Digits without leading zeros are told by their value. -/
theorem val_inj {a b : List Nat} (ha : Dig a) (hb : Dig b) (ca : Canon a) (cb : Canon b) (h : val a = val b) : a = b := by
  induction a generalizing b with
  | nil =>
    cases b with
    | nil => rfl
    | cons d l => have := val_pos cb (by simp); rw [← h] at this; simp [val] at this
  | cons d l ih =>
    cases b with
    | nil => have := val_pos ca (by simp); rw [h] at this; simp [val] at this
    | cons e m =>
      simp only [val] at h
      have h1 := ha.head
      have h2 := hb.head
      have h3 : d = e := by omega
      have h4 : val l = val m := by omega
      rw [h3, ih ha.tail hb.tail (canon_tail ca) (canon_tail cb) h4]

/-- The digits of a number. -/
def digs (n : Nat) : List Nat := if h : n = 0 then [] else n % 4294967296 :: digs (n / 4294967296)
termination_by n
decreasing_by omega
theorem digs_zero : digs 0 = [] := by rw [digs]; simp
theorem digs_pos {n : Nat} (h : n ≠ 0) : digs n = n % 4294967296 :: digs (n / 4294967296) := by rw [digs]; simp [h]
theorem val_digs (n : Nat) : val (digs n) = n := by
  induction n using Nat.strongRecOn with
  | _ n ih =>
    by_cases h : n = 0
    · subst h; rw [digs_zero]; rfl
    · rw [digs_pos h]
      have := ih (n / 4294967296) (by omega)
      simp only [val, this]
      omega
theorem dig_digs (n : Nat) : Dig (digs n) := by
  induction n using Nat.strongRecOn with
  | _ n ih =>
    by_cases h : n = 0
    · subst h; rw [digs_zero]; exact Dig.nil
    · rw [digs_pos h]
      exact Dig.cons (by omega) (ih (n / 4294967296) (by omega))
theorem canon_cons {d : Nat} {l : List Nat} (h : Canon l) (hd : l = [] → d ≠ 0) : Canon (d :: l) := by
  intro x hx
  cases l with
  | nil => simp at hx; subst hx; exact hd rfl
  | cons e m => rw [List.getLast?_cons_cons] at hx; exact h x hx
theorem digs_nil {n : Nat} : digs n = [] ↔ n = 0 := by
  constructor
  · intro h
    by_cases h0 : n = 0
    · exact h0
    · rw [digs_pos h0] at h; cases h
  · rintro rfl; exact digs_zero
theorem canon_digs (n : Nat) : Canon (digs n) := by
  induction n using Nat.strongRecOn with
  | _ n ih =>
    by_cases h : n = 0
    · subst h; rw [digs_zero]; exact Canon.nil
    · rw [digs_pos h]
      refine canon_cons (ih (n / 4294967296) (by omega)) fun h1 => ?_
      have := digs_nil.1 h1
      omega
theorem digs_val {l : List Nat} (h : Dig l) (c : Canon l) : digs (val l) = l := val_inj (dig_digs _) h (canon_digs _) c (val_digs _)
theorem digs_inj {a b : Nat} (h : digs a = digs b) : a = b := by rw [← val_digs a, ← val_digs b, h]

/-- Where the leading zeros begin. -/
def trimN (l : List Nat) : Nat → Nat
  | 0 => 0
  | k + 1 => if l.getD k 0 = 0 then trimN l k else k + 1
theorem trimN_le (l : List Nat) (k : Nat) : trimN l k ≤ k := by
  induction k with
  | zero => simp [trimN]
  | succ k ih => unfold trimN; split <;> omega
theorem trimN_zeros (l : List Nat) (k : Nat) : ∀ j, trimN l k ≤ j → j < k → l.getD j 0 = 0 := by
  induction k with
  | zero => intro j _ h; omega
  | succ k ih =>
    intro j h1 h2
    unfold trimN at h1
    split at h1
    · rename_i h0
      by_cases hj : j = k
      · subst hj; exact h0
      · exact ih j h1 (by omega)
    · omega
theorem trimN_last (l : List Nat) (k : Nat) (h : 0 < trimN l k) : l.getD (trimN l k - 1) 0 ≠ 0 := by
  induction k with
  | zero => simp [trimN] at h
  | succ k ih =>
    unfold trimN at h ⊢
    split
    · rename_i h0
      rw [if_pos h0] at h
      exact ih h
    · rename_i h0
      simpa using h0
theorem zeros_eq {l : List Nat} (h : ∀ j, j < l.length → l.getD j 0 = 0) : l = List.replicate l.length 0 := by
  apply List.ext_getElem?
  intro i
  by_cases hi : i < l.length
  · have := h i hi
    simp [hi] at this ⊢
    exact this
  · simp [Nat.not_lt.1 hi]
/-- Digits without their leading zeros. -/
theorem trim_eq {l : List Nat} (h : Dig l) : l.take (trimN l l.length) = digs (val l) := by
  have hle := trimN_le l l.length
  have hz : l.drop (trimN l l.length) = List.replicate (l.length - trimN l l.length) 0 := by
    have := zeros_eq (l := l.drop (trimN l l.length)) (fun j hj => by
      have := trimN_zeros l l.length (trimN l l.length + j) (by omega) (by simp at hj; omega)
      simpa using this)
    simpa using this
  have hv : val l = val (l.take (trimN l l.length)) := by
    have := val_split l _ hle
    rw [this, hz, val_replicate]; simp
  rw [hv]
  refine (digs_val (h.take _) fun x hx => ?_).symm
  by_cases h0 : trimN l l.length = 0
  · rw [h0] at hx; simp at hx
  · have := trimN_last l l.length (by omega)
    rw [List.getLast?_eq_getElem?, List.length_take, Nat.min_eq_left hle] at hx
    rw [List.getElem?_take_of_lt (by omega)] at hx
    simpa [List.getD, hx] using this
theorem digs_len_le {n k : Nat} (h : n < 4294967296 ^ k) : (digs n).length ≤ k := by
  by_cases h0 : digs n = []
  · simp [h0]
  · have := val_ge (canon_digs n) h0
    rw [val_digs] at this
    rcases Nat.lt_or_ge ((digs n).length - 1) k with h1 | h1
    · omega
    · have := Nat.pow_le_pow_right (n := 4294967296) (by omega) h1
      omega
theorem lt_of_digs_len {n k : Nat} (h : (digs n).length ≤ k) : n < 4294967296 ^ k := by
  have := val_lt (dig_digs n)
  rw [val_digs] at this
  exact Nat.lt_of_lt_of_le this (Nat.pow_le_pow_right (by omega) h)
theorem digs_len_iff {n k : Nat} : (digs n).length ≤ k ↔ n < 4294967296 ^ k := ⟨lt_of_digs_len, digs_len_le⟩
end Go.Proofs.YtfdpbcjcinchgaaDoor
