/- Ring: the plain laws: no cut, one cut, symmetry, parts. -/
import Derived.Test.YtnicgmgihmfjbaaRn
namespace Go.Proofs.Ytnicgmgihmfjbaa
open Rg (nodeAt link wl way Arr dist)

theorem nodup_len {l m : List Arr} (hl : l.Nodup) (hm : m.Nodup) (h : ∀ x, x ∈ l ↔ x ∈ m) : l.length = m.length := by
  have e : Rg.isort l = Rg.isort m := Rg.srt_ext (Rg.isort_srt hl) (Rg.isort_srt hm) fun x => by rw [(Rg.isort_perm l).mem_iff, (Rg.isort_perm m).mem_iff, h]
  rw [← (Rg.isort_perm l).length_eq, e, (Rg.isort_perm m).length_eq]
theorem lst_init (l : List Arr) : ∀ m0 : Int, m0 ≤ l.foldl (fun m y => max m y.a) m0 := by
  induction l with
  | nil => intro m0; exact Int.le_refl _
  | cons x l ih => intro m0; have := ih (max m0 x.a); simp only [List.foldl_cons]; omega
theorem lst_ge (l : List Arr) : ∀ m0 : Int, ∀ y ∈ l, y.a ≤ l.foldl (fun m y => max m y.a) m0 := by
  induction l with
  | nil => intro m0 y hy; simp at hy
  | cons x l ih =>
    intro m0 y hy
    simp only [List.foldl_cons]
    rcases List.mem_cons.1 hy with rfl | hy
    · have := lst_init l (max m0 y.a); omega
    · exact ih _ y hy
theorem lst_le (l : List Arr) : ∀ m0 b : Int, m0 ≤ b → (∀ y ∈ l, y.a ≤ b) → l.foldl (fun m y => max m y.a) m0 ≤ b := by
  induction l with
  | nil => intro m0 b h _; exact h
  | cons x l ih =>
    intro m0 b h hb
    simp only [List.foldl_cons]
    exact ih _ b (by have := hb x (by simp); omega) fun y hy => hb y (by simp [hy])
theorem lstL_ge {l : List Arr} {t : Int} {y : Arr} (hy : y ∈ l) (ht : y.n = t) : y.a ≤ lstL l t := lst_ge _ 0 y (by simp [hy, ht])
theorem lstL_le {l : List Arr} {t b : Int} (hb : 0 ≤ b) (h : ∀ y ∈ l, y.n = t → y.a ≤ b) : lstL l t ≤ b := lst_le _ 0 b hb fun y hy => by simp at hy; exact h y hy.1 hy.2

/-! ### one frame -/
theorem items_one (cut : List Bool) (f : Nat) : Rg.items cut [((f : Int), 0)] = Rg.one cut 0 ((f : Int), 0) := by
  simp [Rg.items, Rg.itemsUpto]
section
variable {cut : List Bool} {f t : Nat}
theorem ok_one (h3 : 3 ≤ cut.length) (h4 : cut.length ≤ 40) (hf : f < cut.length) : Rg.okFrame cut ((f : Int), 0) = true := by simp [Rg.okFrame, h3, h4, hf]
theorem run_mem (h3 : 3 ≤ cut.length) (h4 : cut.length ≤ 40) (hf : f < cut.length) {y : Arr} : y ∈ Rg.run cut [((f : Int), 0)] ↔ y ∈ Rg.oneWay cut 0 ((f : Int), 0) 0 ∨ y ∈ Rg.oneWay cut 0 ((f : Int), 0) 1 := by
  rw [(Rg.run_perm _ _).mem_iff, items_one, one_mem (ok_one h3 h4 hf)]
theorem run_at (h3 : 3 ≤ cut.length) (h4 : cut.length ≤ 40) (hf : f < cut.length) (ht : t < cut.length) {y : Arr} : (y ∈ Rg.run cut [((f : Int), 0)] ∧ y.n = t) ↔ y ∈ Rg.refOne cut 0 ((f : Int), 0) 0 t ++ Rg.refOne cut 0 ((f : Int), 0) 1 t := by
  have hok := ok_one h3 h4 hf
  rw [run_mem h3 h4 hf, List.mem_append, Rg.refOne_mem hok ht, Rg.refOne_mem hok ht]
  constructor
  · rintro ⟨h | h, e⟩
    · exact .inl ⟨h, e⟩
    · exact .inr ⟨h, e⟩
  · rintro (⟨h, e⟩ | ⟨h, e⟩)
    · exact ⟨.inl h, e⟩
    · exact ⟨.inr h, e⟩
theorem run_nodup : (Rg.run cut [((f : Int), 0)]).Nodup := (Rg.run_perm _ _).nodup_iff.2 (Rg.itemsUpto_nodup ..)
theorem ref_nodup : (Rg.refOne cut 0 ((f : Int), 0) 0 t ++ Rg.refOne cut 0 ((f : Int), 0) 1 t).Nodup := by
  unfold Rg.refOne
  split <;> split <;> simp [Rg.arr]
theorem run_len (h3 : 3 ≤ cut.length) (h4 : cut.length ≤ 40) (hf : f < cut.length) : (Rg.run cut [((f : Int), 0)]).length = wl cut 0 f + wl cut 1 f := by
  rw [(Rg.run_perm _ _).length_eq, items_one]
  unfold Rg.one
  rw [if_pos (ok_one h3 h4 hf), List.length_append, Rg.oneWay_length, Rg.oneWay_length]; rfl
theorem cnt_run (h3 : 3 ≤ cut.length) (h4 : cut.length ≤ 40) (hf : f < cut.length) (ht : t < cut.length) : cntL (Rg.run cut [((f : Int), 0)]) t = (Rg.hops cut 0 f t).isSome.toNat + (Rg.hops cut 1 f t).isSome.toNat := by
  unfold cntL
  rw [nodup_len (m := Rg.refOne cut 0 ((f : Int), 0) 0 t ++ Rg.refOne cut 0 ((f : Int), 0) 1 t) (List.Pairwise.filter _ run_nodup) ref_nodup fun y => by rw [← run_at h3 h4 hf ht]; simp, List.length_append]
  unfold Rg.refOne
  simp only [Int.toNat_natCast]
  cases Rg.hops cut 0 f t <;> cases Rg.hops cut 1 f t <;> rfl
theorem lst_run {b : Int} (h3 : 3 ≤ cut.length) (h4 : cut.length ≤ 40) (hf : f < cut.length) (ht : t < cut.length) (hb : 0 ≤ b) (h : ∀ d h', d = 0 ∨ d = 1 → Rg.hops cut d f t = some h' → (h' : Int) ≤ b) : lstL (Rg.run cut [((f : Int), 0)]) t ≤ b := by
  refine lstL_le hb fun y hy e => ?_
  have h1 := (run_at h3 h4 hf ht).1 ⟨hy, e⟩
  unfold Rg.refOne at h1
  simp only [Int.toNat_natCast] at h1
  rcases List.mem_append.1 h1 with h1 | h1
  · split at h1
    · rename_i q hq
      simp at h1; subst h1
      have := h 0 q (.inl rfl) hq
      simp [Rg.arr]; exact this
    · simp at h1
  · split at h1
    · rename_i q hq
      simp at h1; subst h1
      have := h 1 q (.inr rfl) hq
      simp [Rg.arr]; exact this
    · simp at h1
theorem lst_run_ge {d q : Nat} (h3 : 3 ≤ cut.length) (h4 : cut.length ≤ 40) (hf : f < cut.length) (ht : t < cut.length) (hd : d = 0 ∨ d = 1) (h : Rg.hops cut d f t = some q) : (q : Int) ≤ lstL (Rg.run cut [((f : Int), 0)]) t := by
  have key : Rg.arr 0 0 d (t, q) ∈ Rg.run cut [((f : Int), 0)] ∧ (Rg.arr 0 0 d (t, q)).n = t := by
    rw [run_at h3 h4 hf ht]
    unfold Rg.refOne
    simp only [Int.toNat_natCast]
    rcases hd with rfl | rfl
    · rw [h]; simp
    · rw [h]; simp
  have := lstL_ge key.1 key.2
  simpa [Rg.arr] using this
end

/-! ### no cut -/
section
variable {n f t : Nat}
theorem wl_free {d : Nat} : wl (List.replicate n false) d f = n - 1 := by
  refine Rg.wl_of (by simp) (fun j _ => ?_) (fun h => by simp at h)
  rw [List.getD_eq_getElem?_getD, List.getElem?_replicate]; split <;> rfl
theorem hops_free {d : Nat} (_hf : f < n) (ht : t < n) (hne : f ≠ t) : Rg.hops (List.replicate n false) d f t = some (dist d n f t) := by
  have := Rg.dist_lt (d := d) (n := n) (f := f) (t := t) (by omega)
  unfold Rg.hops
  rw [wl_free]; simp only [List.length_replicate]
  rw [if_pos ⟨hne, by omega⟩]
theorem hops_none_self {cut : List Bool} {d : Nat} : Rg.hops cut d f f = none := by unfold Rg.hops; simp
theorem twice_at (h3 : 3 ≤ n) (h4 : n ≤ 40) (hf : f < n) (ht : t < n) (hne : f ≠ t) : cntL (Rg.run (List.replicate n false) [((f : Int), 0)]) t = 2 ∧ lstL (Rg.run (List.replicate n false) [((f : Int), 0)]) t = max (dist 0 n f t : Nat) (dist 1 n f t : Nat) := by
  have h0 := hops_free (d := 0) hf ht hne
  have h1 := hops_free (d := 1) hf ht hne
  refine ⟨?_, Int.le_antisymm ?_ ?_⟩
  · rw [cnt_run (by simpa) (by simpa) (by simpa) (by simpa), h0, h1]; rfl
  · refine lst_run (by simpa) (by simpa) (by simpa) (by simpa) (by omega) fun d h' hd hq => ?_
    rcases hd with rfl | rfl
    · rw [h0] at hq; injection hq with hq; omega
    · rw [h1] at hq; injection hq with hq; omega
  · have a := lst_run_ge (by simpa) (by simpa) (by simpa) (by simpa) (.inl rfl) h0
    have b := lst_run_ge (by simpa) (by simpa) (by simpa) (by simpa) (.inr rfl) h1
    omega
theorem twice_self (h3 : 3 ≤ n) (h4 : n ≤ 40) (hf : f < n) : cntL (Rg.run (List.replicate n false) [((f : Int), 0)]) f = 0 := by
  rw [cnt_run (by simpa) (by simpa) (by simpa) (by simpa), hops_none_self, hops_none_self]; rfl
theorem twice_len (h3 : 3 ≤ n) (h4 : n ≤ 40) (hf : f < n) : (Rg.run (List.replicate n false) [((f : Int), 0)]).length = 2 * (n - 1) := by
  rw [run_len (by simpa) (by simpa) (by simpa), wl_free, wl_free]; omega

/-! ### one cut -/
variable {c : Nat}
abbrev cut1 (n c : Nat) : List Bool := (List.replicate n false).set c true
theorem cut1_len : (cut1 n c).length = n := by simp
theorem cut1_at {j : Nat} (hc : c < n) : (cut1 n c).getD j false = decide (j = c) := by
  rw [List.getD_eq_getElem?_getD, List.getElem?_set]
  split
  · rename_i h; subst h; simp [hc]
  · rename_i h
    rw [List.getElem?_replicate]
    split <;> simp [Ne.symm h]
theorem wl_cut0 (hf : f < n) (hc : c < n) : wl (cut1 n c) 0 f = dist 0 n f c := by
  have h1 := Rg.dist_lt (d := 0) (n := n) (f := f) (t := c) (by omega)
  refine Rg.wl_of (by rw [cut1_len]; omega) (fun j hj => ?_) (fun _ => ?_)
  · rw [cut1_at hc, cut1_len, Rg.link0]
    simp only [decide_eq_false_iff_not]
    intro e
    have := (Rg.nodeAt_iff hf hc (by omega)).1 e
    omega
  · rw [cut1_at hc, cut1_len, Rg.link0]
    simp only [decide_eq_true_eq]
    exact (Rg.nodeAt_iff hf hc h1).2 rfl
theorem wl_cut1 (h3 : 3 ≤ n) (hf : f < n) (hc : c < n) : wl (cut1 n c) 1 f = n - 1 - dist 0 n f c := by
  have h1 := Rg.dist_lt (d := 0) (n := n) (f := f) (t := c) (by omega)
  have hs : f ≠ c → dist 0 n f c + dist 1 n f c = n := fun h => Rg.dist_sum hf hc h
  have hz : f = c → dist 0 n f c = 0 ∧ dist 1 n f c = 0 := fun h => by subst h; exact ⟨Rg.dist_self hf, Rg.dist_self hf⟩
  refine Rg.wl_of (by rw [cut1_len]; omega) (fun j hj => ?_) (fun hk => ?_)
  · rw [cut1_at hc, cut1_len, Rg.link1]
    simp only [decide_eq_false_iff_not]
    intro e
    have := (Rg.nodeAt_iff hf hc (by omega)).1 e
    by_cases hfc : f = c
    · have := hz hfc; omega
    · have := hs hfc; omega
  · rw [cut1_len] at hk
    rw [cut1_at hc, cut1_len, Rg.link1]
    simp only [decide_eq_true_eq]
    have hfc : f ≠ c := fun h => by have := hz h; omega
    have := hs hfc
    refine (Rg.nodeAt_iff hf hc (by omega)).2 ?_
    omega
theorem survives_len (h3 : 3 ≤ n) (h4 : n ≤ 40) (hf : f < n) (hc : c < n) : (Rg.run (cut1 n c) [((f : Int), 0)]).length = n - 1 := by
  have h1 := Rg.dist_lt (d := 0) (n := n) (f := f) (t := c) (by omega)
  rw [run_len (by rw [cut1_len]; omega) (by rw [cut1_len]; omega) (by rw [cut1_len]; omega), wl_cut0 hf hc, wl_cut1 h3 hf hc]; omega
theorem cut_hops {d : Nat} (hne : f ≠ t) : Rg.hops (cut1 n c) d f t = if dist d n f t ≤ wl (cut1 n c) d f then some (dist d n f t) else none := by
  unfold Rg.hops; rw [cut1_len]; simp [hne]
theorem survives_at (h3 : 3 ≤ n) (h4 : n ≤ 40) (hf : f < n) (hc : c < n) (ht : t < n) (hne : f ≠ t) : cntL (Rg.run (cut1 n c) [((f : Int), 0)]) t = 1 ∧ lstL (Rg.run (cut1 n c) [((f : Int), 0)]) t ≤ (n : Int) - 1 ∧ reachB (cut1 n c) f t = true := by
  have l := cut1_len (n := n) (c := c)
  have h0 := cut_hops (n := n) (c := c) (d := 0) hne
  have h1 := cut_hops (n := n) (c := c) (d := 1) hne
  rw [wl_cut0 hf hc] at h0
  rw [wl_cut1 h3 hf hc] at h1
  have hs := Rg.dist_sum hf ht hne
  have hd := Rg.dist_lt (d := 0) (n := n) (f := f) (t := c) (by omega)
  have hd0 := Rg.dist_lt (d := 0) (n := n) (f := f) (t := t) (by omega)
  have hd1 := Rg.dist_lt (d := 1) (n := n) (f := f) (t := t) (by omega)
  refine ⟨?_, ?_, ?_⟩
  · rw [cnt_run (by omega) (by omega) (by omega) (by omega), h0, h1]
    by_cases h : dist 0 n f t ≤ dist 0 n f c
    · rw [if_pos h, if_neg (by omega)]; rfl
    · rw [if_neg h, if_pos (by omega)]; rfl
  · refine lst_run (by omega) (by omega) (by omega) (by omega) (by omega) fun d h' hd' hq => ?_
    rcases hd' with rfl | rfl
    · rw [h0] at hq; split at hq
      · injection hq with hq; omega
      · cases hq
    · rw [h1] at hq; split at hq
      · injection hq with hq; omega
      · cases hq
  · unfold reachB
    rw [h0, h1]
    by_cases h : dist 0 n f t ≤ dist 0 n f c
    · rw [if_pos h]; simp
    · rw [if_neg h, if_pos (by omega)]; simp
theorem reach_self {cut : List Bool} : reachB cut f f = true := by simp [reachB]
end

/-! ### symmetry -/
section
variable {cut : List Bool}
theorem wl_ge {d f m : Nat} (hm : m ≤ cut.length - 1) : m ≤ wl cut d f ↔ ∀ j, j < m → cut.getD (link d cut.length f j) false = false := by
  constructor
  · intro h j hj; exact Rg.wl_open (by omega)
  · intro h
    rcases Nat.lt_or_ge (wl cut d f) m with h1 | h1
    · have := Rg.wl_shut (cut := cut) (d := d) (f := f) (by omega)
      rw [h _ h1] at this; cases this
    · exact h1
theorem link_back {n i k j : Nat} (hi : i < n) (hk : k < n) (hj : j < dist 0 n i k) : link 1 n k j = link 0 n i (dist 0 n i k - 1 - j) := by
  rw [Rg.link1, Rg.link0]
  have hd := Rg.dist_lt (d := 0) (n := n) (f := i) (t := k) (by omega)
  unfold nodeAt dist at *
  simp only [if_true, Nat.one_ne_zero, if_false] at *
  rw [Rg.mod_small (a := k + n - i) (by omega)] at *
  split at hd <;> rename_i h1
  · rw [if_pos h1] at hj ⊢
    rw [Rg.mod_small (by omega), Rg.mod_small (by omega)]
    split <;> split <;> omega
  · rw [if_neg h1] at hj ⊢
    rw [Rg.mod_small (by omega), Rg.mod_small (by omega)]
    split <;> split <;> omega
theorem hops_back {i k : Nat} (hi : i < cut.length) (hk : k < cut.length) : Rg.hops cut 0 i k = Rg.hops cut 1 k i := by
  have hd := Rg.dist_lt (d := 0) (n := cut.length) (f := i) (t := k) (by omega)
  have he := Rg.dist_back (n := cut.length) (f := i) (t := k)
  unfold Rg.hops
  rw [← he]
  have key : dist 0 cut.length i k ≤ wl cut 0 i ↔ dist 0 cut.length i k ≤ wl cut 1 k := by
    rw [wl_ge (by omega), wl_ge (by omega)]
    constructor
    · intro h j hj; rw [link_back hi hk hj]; exact h _ (by omega)
    · intro h j hj
      have := h (dist 0 cut.length i k - 1 - j) (by omega)
      rw [link_back hi hk (by omega), show dist 0 cut.length i k - 1 - (dist 0 cut.length i k - 1 - j) = j by omega] at this
      exact this
  by_cases h1 : i = k
  · subst h1; simp
  · by_cases h2 : dist 0 cut.length i k ≤ wl cut 0 i
    · rw [if_pos ⟨h1, h2⟩, if_pos ⟨Ne.symm h1, key.1 h2⟩]
    · rw [if_neg (fun h => h2 h.2), if_neg (fun h => h2 (key.2 h.2))]
theorem reach_sym {i k : Nat} (hi : i < cut.length) (hk : k < cut.length) : reachB cut i k = reachB cut k i := by
  unfold reachB
  rw [hops_back hi hk, ← hops_back hk hi, show decide (k = i) = decide (i = k) by simp [eq_comm]]
  cases decide (i = k) <;> cases (Rg.hops cut 1 k i).isSome <;> cases (Rg.hops cut 0 k i).isSome <;> rfl

/-! ### parts -/
def firstB (cut : List Bool) (i : Nat) : Bool := (List.range i).all fun k => !reachB cut i k
def partsL (cut : List Bool) (m : Nat) : Nat := ((List.range m).filter (firstB cut)).length
def cutsL (l : List Bool) : Nat := (l.filter id).length
theorem not_reach_some {i k : Nat} (h : reachB cut i k = false) : Rg.hops cut 0 i k = none ∧ Rg.hops cut 1 i k = none := by
  unfold reachB at h
  simp only [Bool.or_eq_false_iff] at h
  refine ⟨?_, ?_⟩
  · have := h.1.2; simpa using this
  · have := h.2; simpa using this
theorem first_iff {i : Nat} (h3 : 3 ≤ cut.length) (hi : i + 1 < cut.length) : firstB cut (i + 1) = (cut.getD i false && (cut.drop (i + 1)).any id) := by
  rw [Bool.eq_iff_iff, Bool.and_eq_true]
  unfold firstB
  rw [List.all_eq_true]
  constructor
  · intro h
    constructor
    · cases hc : cut.getD i false with
      | true => rfl
      | false =>
        exfalso
        have h1 := h i (by simp)
        simp only [Bool.not_eq_true'] at h1
        have h2 := (not_reach_some h1).2
        have hd : dist 1 cut.length (i + 1) i = 1 := by
          unfold dist; simp only [Nat.one_ne_zero, if_false]
          rw [Rg.mod_small (by omega), if_neg (by omega)]; omega
        unfold Rg.hops at h2
        rw [hd, if_pos ⟨by omega, (wl_ge (by omega)).2 fun j hj => by
          obtain rfl : j = 0 := by omega
          have : link 1 cut.length (i + 1) 0 = i := by
            unfold link; simp only [Nat.one_ne_zero, if_false]
            rw [Rg.mod_small (by omega), if_neg (by omega)]; omega
          rw [this]; exact hc⟩] at h2
        cases h2
    · cases hc : (cut.drop (i + 1)).any id with
      | true => rfl
      | false =>
        exfalso
        have h1 := h 0 (by simp)
        simp only [Bool.not_eq_true'] at h1
        have h2 := (not_reach_some h1).1
        have hd : dist 0 cut.length (i + 1) 0 = cut.length - (i + 1) := by
          unfold dist; simp only [if_true]
          rw [Rg.mod_small (by omega), if_pos (by omega)]; omega
        unfold Rg.hops at h2
        rw [hd, if_pos ⟨by omega, (wl_ge (by omega)).2 fun j hj => by
          have : link 0 cut.length (i + 1) j = i + 1 + j := by
            unfold link; simp only [if_true]
            rw [Rg.mod_small (by omega), if_pos (by omega)]
          rw [this, List.getD_eq_getElem?_getD]
          have hl : i + 1 + j < cut.length := by omega
          rw [List.getElem?_eq_getElem hl]
          rw [List.any_eq_false] at hc
          have h4 := hc cut[i + 1 + j] (by rw [List.mem_iff_getElem]; exact ⟨j, by simp; omega, by simp⟩)
          simpa using h4⟩] at h2
        cases h2
  · rintro ⟨hc, ha⟩ k hk
    have hk' : k < i + 1 := List.mem_range.1 hk
    simp only [Bool.not_eq_true']
    have hw1 : wl cut 1 (i + 1) = 0 := by
      refine Rg.wl_of (Nat.zero_le _) (fun j hj => absurd hj (by omega)) (fun _ => ?_)
      have : link 1 cut.length (i + 1) 0 = i := by
        unfold link; simp only [Nat.one_ne_zero, if_false]
        rw [Rg.mod_small (by omega), if_neg (by omega)]; omega
      rw [this]; exact hc
    obtain ⟨b, hb, hb'⟩ := List.any_eq_true.1 ha
    obtain ⟨j, hj, hbj⟩ := List.mem_iff_getElem.1 hb
    simp only [List.length_drop] at hj
    have hcut : cut.getD (i + 1 + j) false = true := by
      rw [List.getD_eq_getElem?_getD, List.getElem?_eq_getElem (by omega)]
      rw [List.getElem_drop] at hbj
      simp only [id] at hb'
      rw [Option.getD_some, hbj, hb']
    have hw0 : wl cut 0 (i + 1) ≤ j := by
      rcases Nat.lt_or_ge j (wl cut 0 (i + 1)) with h | h
      · have h5 := Rg.wl_open h
        have : link 0 cut.length (i + 1) j = i + 1 + j := by
          unfold link; simp only [if_true]
          rw [Rg.mod_small (by omega), if_pos (by omega)]
        rw [this, hcut] at h5; cases h5
      · exact h
    unfold reachB
    have e1 : Rg.hops cut 1 (i + 1) k = none := by
      unfold Rg.hops
      have := Rg.dist_pos (d := 1) (n := cut.length) (f := i + 1) (t := k) hi (by omega) (by omega)
      rw [if_neg (by omega)]
    have e0 : Rg.hops cut 0 (i + 1) k = none := by
      unfold Rg.hops
      have hd : dist 0 cut.length (i + 1) k = k + cut.length - (i + 1) := by
        unfold dist; simp only [if_true]
        rw [Rg.mod_small (by omega), if_pos (by omega)]
      rw [if_neg (by omega)]
    rw [e0, e1]
    simp; omega
theorem nonlast (l : List Bool) : ((List.range l.length).filter fun p => l.getD p false && (l.drop (p + 1)).any id).length = cutsL l - 1 := by
  induction l with
  | nil => rfl
  | cons b l ih =>
    rw [List.length_cons, List.range_succ_eq_map, List.filter_cons]
    have e : ((List.map Nat.succ (List.range l.length)).filter fun p => (b :: l).getD p false && ((b :: l).drop (p + 1)).any id).length = ((List.range l.length).filter fun p => l.getD p false && (l.drop (p + 1)).any id).length := by
      rw [List.filter_map, List.length_map]
      rfl
    have ha : l.any id = true ↔ 1 ≤ cutsL l := by
      rw [List.any_eq_true]
      unfold cutsL
      rw [Nat.succ_le_iff, List.length_pos_iff_exists_mem]
      simp only [List.mem_filter]
    have hb : cutsL (b :: l) = (if b then 1 else 0) + cutsL l := by
      unfold cutsL; rw [List.filter_cons]
      cases b <;> simp; omega
    rw [hb]
    split
    · rename_i hc
      rw [List.length_cons, e, ih]
      have hb1 : b = true ∧ l.any id = true := by
        rw [Bool.and_eq_true] at hc
        exact ⟨hc.1, hc.2⟩
      have := ha.1 hb1.2
      rw [hb1.1]; simp only [if_true]; omega
    · rename_i hc
      rw [e, ih]
      cases b
      · simp only [Bool.false_eq_true, if_false]; omega
      · have : ¬ 1 ≤ cutsL l := fun h' => hc (by rw [Bool.and_eq_true]; exact ⟨rfl, ha.2 h'⟩)
        simp only [if_true]; omega
theorem parts_eq (h3 : 3 ≤ cut.length) : partsL cut cut.length = max (cutsL cut) 1 := by
  have h := nonlast cut
  obtain ⟨n, hn⟩ : ∃ n, cut.length = n + 1 := ⟨cut.length - 1, by omega⟩
  rw [hn, List.range_succ, List.filter_append, List.length_append] at h
  have hz : (List.filter (fun p => cut.getD p false && (cut.drop (p + 1)).any id) [n]).length = 0 := by
    rw [List.filter_cons, List.drop_eq_nil_of_le (by omega)]; simp
  rw [hz] at h
  unfold partsL
  rw [hn, List.range_succ_eq_map, List.filter_cons, if_pos (show firstB cut 0 = true from rfl), List.length_cons, List.filter_map, List.length_map]
  have e : ((List.range n).filter (firstB cut ∘ Nat.succ)) = (List.range n).filter fun p => cut.getD p false && (cut.drop (p + 1)).any id := by
    refine List.filter_congr fun p hp => ?_
    have := List.mem_range.1 hp
    exact first_iff h3 (by omega)
  rw [e]; omega
end
end Go.Proofs.Ytnicgmgihmfjbaa
