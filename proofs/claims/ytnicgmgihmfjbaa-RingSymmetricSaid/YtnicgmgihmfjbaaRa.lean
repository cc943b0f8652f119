/- Ring: the plain model: ways, distances, arrivals, sorted lists. -/
namespace Go.Proofs.Ytnicgmgihmfjbaa
namespace Rg

/-- The node after k hops from f in direction d. -/
def nodeAt (d n f k : Nat) : Nat := if d = 0 then (f + k) % n else (f + n - k) % n
/-- The link of hop j + 1. -/
def link (d n f j : Nat) : Nat := if d = 0 then (f + j) % n else (f + n - (j + 1)) % n
/-- How many hops are open. -/
def wl (cut : List Bool) (d f : Nat) : Nat := (List.range (cut.length - 1)).findIdx fun j => cut.getD (link d cut.length f j) false
/-- The nodes that are reached, with their hops. -/
def way (cut : List Bool) (d f : Nat) : List (Nat × Nat) := (List.range (wl cut d f)).map fun j => (nodeAt d cut.length f (j + 1), j + 1)
def dist (d n f t : Nat) : Nat := if d = 0 then (t + n - f) % n else (f + n - t) % n
def hops (cut : List Bool) (d f t : Nat) : Option Nat := if f ≠ t ∧ dist d cut.length f t ≤ wl cut d f then some (dist d cut.length f t) else none

theorem mod_small {a n : Nat} (h : a < 2 * n) : a % n = if a < n then a else a - n := by
  split
  · exact Nat.mod_eq_of_lt ‹_›
  · rw [Nat.mod_eq_sub_mod (by omega)]; exact Nat.mod_eq_of_lt (by omega)

theorem nodeAt_lt {d n f k : Nat} (hn : 0 < n) : nodeAt d n f k < n := by unfold nodeAt; split <;> exact Nat.mod_lt _ hn
theorem link_lt {d n f k : Nat} (hn : 0 < n) : link d n f k < n := by unfold link; split <;> exact Nat.mod_lt _ hn
theorem dist_lt {d n f t : Nat} (hn : 0 < n) : dist d n f t < n := by unfold dist; split <;> exact Nat.mod_lt _ hn
theorem nodeAt_zero {d n f : Nat} (h : f < n) : nodeAt d n f 0 = f := by
  unfold nodeAt
  split
  · exact Nat.mod_eq_of_lt (by omega)
  · rw [mod_small (by omega)]; split <;> omega
theorem nodeAt_succ0 {n f k : Nat} (h : f < n) (hk : k < n) : (nodeAt 0 n f k + 1) % n = nodeAt 0 n f (k + 1) := by
  unfold nodeAt; simp only [if_true]
  rw [mod_small (a := f + k) (by omega), mod_small (a := f + (k + 1)) (by omega)]
  by_cases h1 : f + k < n
  · rw [if_pos h1, mod_small (by omega)]; rfl
  · rw [if_neg h1, if_neg (by omega), mod_small (by omega), if_pos (by omega)]; omega
theorem nodeAt_succ1 {n f k : Nat} (h : f < n) (hk : k < n) : (nodeAt 1 n f k + n - 1) % n = nodeAt 1 n f (k + 1) := by
  unfold nodeAt; simp only [Nat.one_ne_zero, if_false]
  rw [mod_small (a := f + n - k) (by omega), mod_small (a := f + n - (k + 1)) (by omega)]
  by_cases h1 : f + n - k < n
  · rw [if_pos h1, if_pos (by omega), mod_small (by omega), if_neg (by omega)]; omega
  · rw [if_neg h1, mod_small (by omega)]; split <;> split <;> omega
theorem link0 {n f j : Nat} : link 0 n f j = nodeAt 0 n f j := rfl
theorem link1 {n f j : Nat} : link 1 n f j = nodeAt 1 n f (j + 1) := rfl
theorem dist_self {d n f : Nat} (h : f < n) : dist d n f f = 0 := by
  unfold dist; split <;> (rw [mod_small (by omega)]; split <;> omega)
theorem dist_pos {d n f t : Nat} (h : f < n) (ht : t < n) (hne : f ≠ t) : 0 < dist d n f t := by
  unfold dist; split <;> (rw [mod_small (by omega)]; split <;> omega)
theorem nodeAt_iff {d n f t k : Nat} (h : f < n) (ht : t < n) (hk : k < n) : nodeAt d n f k = t ↔ k = dist d n f t := by
  unfold nodeAt dist
  split
  · rw [mod_small (a := f + k) (by omega), mod_small (a := t + n - f) (by omega)]; split <;> split <;> omega
  · rw [mod_small (a := f + n - k) (by omega), mod_small (a := f + n - t) (by omega)]; split <;> split <;> omega
theorem dist_sum {n f t : Nat} (h : f < n) (ht : t < n) (hne : f ≠ t) : dist 0 n f t + dist 1 n f t = n := by
  unfold dist; simp only [if_true, Nat.one_ne_zero, if_false]
  rw [mod_small (a := t + n - f) (by omega), mod_small (a := f + n - t) (by omega)]; split <;> split <;> omega
theorem dist_back {n f t : Nat} : dist 0 n f t = dist 1 n t f := by
  unfold dist; simp

theorem wl_le (cut : List Bool) (d f : Nat) : wl cut d f ≤ cut.length - 1 := by
  have := List.findIdx_le_length (xs := List.range (cut.length - 1)) (p := fun j => cut.getD (link d cut.length f j) false)
  simpa [wl] using this
theorem wl_open {cut : List Bool} {d f j : Nat} (h : j < wl cut d f) : cut.getD (link d cut.length f j) false = false := by
  have := List.not_of_lt_findIdx (xs := List.range (cut.length - 1)) (p := fun j => cut.getD (link d cut.length f j) false) h
  simpa using this
theorem wl_shut {cut : List Bool} {d f : Nat} (h : wl cut d f < cut.length - 1) : cut.getD (link d cut.length f (wl cut d f)) false = true := by
  have h' : (List.range (cut.length - 1)).findIdx (fun j => cut.getD (link d cut.length f j) false) < (List.range (cut.length - 1)).length := by simpa [wl] using h
  have := List.findIdx_getElem (w := h')
  simpa [wl] using this
theorem wl_of {cut : List Bool} {d f k : Nat} (hk : k ≤ cut.length - 1) (h : ∀ j, j < k → cut.getD (link d cut.length f j) false = false)
    (he : k < cut.length - 1 → cut.getD (link d cut.length f k) false = true) : wl cut d f = k := by
  have h1 := wl_le cut d f
  rcases Nat.lt_trichotomy (wl cut d f) k with h2 | h2 | h2
  · have h3 := wl_shut (cut := cut) (d := d) (f := f) (by omega); rw [h _ h2] at h3; simp at h3
  · exact h2
  · have h3 := wl_open h2; rw [he (by omega)] at h3; simp at h3
theorem wl_more {cut : List Bool} {d f k : Nat} (h : k + 1 < cut.length) (hk : k ≤ wl cut d f) (hc : cut.getD (link d cut.length f k) false = false) : k + 1 ≤ wl cut d f := by
  rcases Nat.lt_or_ge k (wl cut d f) with h1 | h1
  · omega
  · obtain rfl : k = wl cut d f := by omega
    rw [wl_shut (by omega)] at hc; cases hc
theorem way_length (cut : List Bool) (d f : Nat) : (way cut d f).length = wl cut d f := by simp [way]
theorem way_mem {cut : List Bool} {d f t h : Nat} (hf : f < cut.length) (ht : t < cut.length) : (t, h) ∈ way cut d f ↔ hops cut d f t = some h := by
  have hl := wl_le cut d f
  unfold way hops
  simp only [List.mem_map, List.mem_range, Prod.mk.injEq]
  constructor
  · rintro ⟨j, hj, h1, rfl⟩
    have h2 := (nodeAt_iff hf ht (by omega)).1 h1
    have hne : f ≠ t := by rintro rfl; rw [dist_self hf] at h2; omega
    rw [if_pos ⟨hne, by omega⟩, h2]
  · intro h1
    split at h1
    · rename_i h2
      have := dist_pos (d := d) hf ht h2.1
      injection h1 with h1
      refine ⟨h - 1, by omega, ?_, by omega⟩
      exact (nodeAt_iff hf ht (by omega)).2 (by omega)
    · simp at h1
theorem way_node_lt {cut : List Bool} {d f : Nat} {x : Nat × Nat} (hn : 0 < cut.length) (h : x ∈ way cut d f) : x.1 < cut.length ∧ 1 ≤ x.2 ∧ x.2 ≤ cut.length - 1 := by
  have hl := wl_le cut d f
  unfold way at h
  simp only [List.mem_map, List.mem_range] at h
  obtain ⟨j, hj, rfl⟩ := h
  exact ⟨nodeAt_lt hn, by omega, by show j + 1 ≤ _; omega⟩

/-! arrivals -/
structure Arr where
  f : Int
  n : Int
  a : Int
  d : Int
deriving DecidableEq

def lt (x y : Arr) : Bool := if x.a ≠ y.a then decide (x.a < y.a) else if x.n ≠ y.n then decide (x.n < y.n) else if x.f ≠ y.f then decide (x.f < y.f) else decide (x.d < y.d)
theorem lt_irrefl (x : Arr) : lt x x = false := by simp [lt]
theorem lt_trans {x y z : Arr} (h1 : lt x y = true) (h2 : lt y z = true) : lt x z = true := by
  unfold lt at *
  split at h1 <;> split at h2 <;> split <;> (try split at h1) <;> (try split at h2) <;> (try split) <;> (try split at h1) <;> (try split at h2) <;> (try split) <;> simp_all <;> omega
theorem lt_total {x y : Arr} (h1 : lt x y = false) (h2 : lt y x = false) : x = y := by
  obtain ⟨f, n, a, d⟩ := x
  obtain ⟨f', n', a', d'⟩ := y
  unfold lt at *
  simp only [Arr.mk.injEq]
  split at h1 <;> split at h2 <;> (try split at h1) <;> (try split at h2) <;> (try split at h1) <;> (try split at h2) <;> simp_all <;> omega
theorem lt_of_ne {x y : Arr} (hne : x ≠ y) (h : lt y x = false) : lt x y = true := by
  cases h1 : lt x y
  · exact absurd (lt_total h1 h) hne
  · rfl
theorem lt_asymm {x y : Arr} (h : lt x y = true) : lt y x = false := by
  cases h1 : lt y x
  · rfl
  · have := lt_trans h h1; rw [lt_irrefl] at this; cases this

abbrev Srt (l : List Arr) : Prop := l.Pairwise fun x y => lt x y = true
/-- Two sorted lists of the same elements are one. -/
theorem srt_ext : ∀ {l m : List Arr}, Srt l → Srt m → (∀ x, x ∈ l ↔ x ∈ m) → l = m
  | [], [], _, _, _ => rfl
  | [], y :: m, _, _, h => by have := (h y).2 (by simp); simp at this
  | x :: l, [], _, _, h => by have := (h x).1 (by simp); simp at this
  | x :: l, y :: m, hl, hm, h => by
    rw [Srt, List.pairwise_cons] at hl hm
    have hxy : x = y := by
      have h1 := (h x).1 (by simp)
      have h2 := (h y).2 (by simp)
      rw [List.mem_cons] at h1 h2
      rcases h1 with h1 | h1
      · exact h1
      · rcases h2 with h2 | h2
        · exact h2.symm
        · have a := hm.1 x h1; have b := hl.1 y h2
          rw [lt_asymm a] at b; cases b
    subst hxy
    congr 1
    refine srt_ext hl.2 hm.2 fun z => ⟨fun hz => ?_, fun hz => ?_⟩
    · have := (h z).1 (by simp [hz])
      rcases List.mem_cons.1 this with rfl | h'
      · have := hl.1 _ hz; rw [lt_irrefl] at this; cases this
      · exact h'
    · have := (h z).2 (by simp [hz])
      rcases List.mem_cons.1 this with rfl | h'
      · have := hm.1 _ hz; rw [lt_irrefl] at this; cases this
      · exact h'

def ins (x : Arr) : List Arr → List Arr
  | [] => [x]
  | y :: l => if lt x y then x :: y :: l else y :: ins x l
def isort : List Arr → List Arr
  | [] => []
  | x :: l => ins x (isort l)
theorem ins_perm (x : Arr) : ∀ l, (ins x l).Perm (x :: l)
  | [] => .refl _
  | y :: l => by
    unfold ins; split
    · exact .refl _
    · exact ((ins_perm x l).cons y).trans (List.Perm.swap ..)
theorem isort_perm : ∀ l, (isort l).Perm l
  | [] => .refl _
  | x :: l => (ins_perm x _).trans ((isort_perm l).cons x)
theorem ins_srt {x : Arr} : ∀ {l : List Arr}, Srt l → x ∉ l → Srt (ins x l)
  | [], _, _ => by simp [ins]
  | y :: l, h, hx => by
    have h' := h
    rw [Srt, List.pairwise_cons] at h
    unfold ins; split
    · rename_i hlt
      refine List.pairwise_cons.2 ⟨fun z hz => ?_, h'⟩
      rcases List.mem_cons.1 hz with rfl | hz
      · exact hlt
      · exact lt_trans hlt (h.1 z hz)
    · rename_i hlt
      refine List.pairwise_cons.2 ⟨fun z hz => ?_, ins_srt h.2 (fun hh => hx (by simp [hh]))⟩
      rcases List.mem_cons.1 ((ins_perm x l).mem_iff.1 hz) with rfl | hz
      · exact lt_of_ne (fun e => hx (by simp [e])) (by simpa using hlt)
      · exact h.1 z hz
theorem isort_srt : ∀ {l : List Arr}, l.Nodup → Srt (isort l)
  | [], _ => List.Pairwise.nil
  | x :: l, h => by
    rw [List.nodup_cons] at h
    exact ins_srt (isort_srt h.2) (fun hh => h.1 ((isort_perm l).mem_iff.1 hh))

/-- A frame from a node at a time. -/
def okFrame (cut : List Bool) (x : Int × Int) : Bool := decide (3 ≤ cut.length ∧ cut.length ≤ 40) && decide (0 ≤ x.1 ∧ x.1 < cut.length) && decide (0 ≤ x.2 ∧ x.2 ≤ 1000000)
def arr (k : Nat) (at0 : Int) (d : Nat) (x : Nat × Nat) : Arr := ⟨k, x.1, at0 + x.2, d⟩
def oneWay (cut : List Bool) (k : Nat) (x : Int × Int) (d : Nat) : List Arr := (way cut d x.1.toNat).map (arr k x.2 d)
def one (cut : List Bool) (k : Nat) (x : Int × Int) : List Arr := if okFrame cut x then oneWay cut k x 0 ++ oneWay cut k x 1 else []
/-- What the first m frames cause. -/
def itemsUpto (cut : List Bool) (fr : List (Int × Int)) (m : Nat) : List Arr := (List.range m).flatMap fun k => one cut k (fr.getD k (0, 0))
def items (cut : List Bool) (fr : List (Int × Int)) : List Arr := itemsUpto cut fr (min fr.length 100)
def run (cut : List Bool) (fr : List (Int × Int)) : List Arr := isort (items cut fr)

theorem itemsUpto_succ (cut : List Bool) (fr : List (Int × Int)) (m : Nat) : itemsUpto cut fr (m + 1) = itemsUpto cut fr m ++ one cut m (fr.getD m (0, 0)) := by
  simp [itemsUpto, List.range_succ, List.flatMap_append]
theorem oneWay_length (cut : List Bool) (k : Nat) (x : Int × Int) (d : Nat) : (oneWay cut k x d).length = wl cut d x.1.toNat := by simp [oneWay, way_length]
theorem one_length (cut : List Bool) (k : Nat) (x : Int × Int) : (one cut k x).length ≤ 78 := by
  unfold one
  split
  · rename_i h
    simp only [okFrame, Bool.and_eq_true, decide_eq_true_eq] at h
    have := wl_le cut 0 x.1.toNat
    have := wl_le cut 1 x.1.toNat
    simp only [List.length_append, oneWay_length]; omega
  · simp
theorem itemsUpto_length (cut : List Bool) (fr : List (Int × Int)) : ∀ m, (itemsUpto cut fr m).length ≤ 78 * m
  | 0 => by simp [itemsUpto]
  | m + 1 => by
    have h1 := itemsUpto_length cut fr m
    have h2 := one_length cut m (fr.getD m (0, 0))
    rw [itemsUpto_succ, List.length_append]; omega
theorem oneWay_nodup (cut : List Bool) (k : Nat) (x : Int × Int) (d : Nat) : (oneWay cut k x d).Nodup := by
  unfold oneWay way
  rw [List.map_map]
  refine List.Pairwise.map _ (R := fun a b : Nat => a ≠ b) ?_ List.nodup_range
  intro a b hab h
  simp only [Function.comp_apply, arr, Arr.mk.injEq] at h
  omega
theorem oneWay_d {cut : List Bool} {k : Nat} {x : Int × Int} {d : Nat} {y : Arr} (h : y ∈ oneWay cut k x d) : y.d = d ∧ y.f = k := by
  simp only [oneWay, List.mem_map] at h
  obtain ⟨z, _, rfl⟩ := h
  exact ⟨rfl, rfl⟩
theorem one_f {cut : List Bool} {k : Nat} {x : Int × Int} {y : Arr} (h : y ∈ one cut k x) : y.f = k := by
  unfold one at h
  split at h
  · rcases List.mem_append.1 h with h | h <;> exact (oneWay_d h).2
  · simp at h
theorem one_nodup (cut : List Bool) (k : Nat) (x : Int × Int) : (one cut k x).Nodup := by
  unfold one
  split
  · refine List.nodup_append.2 ⟨oneWay_nodup .., oneWay_nodup .., fun a ha b hb e => ?_⟩
    have h1 := (oneWay_d ha).1
    have h2 := (oneWay_d hb).1
    subst e; rw [h1] at h2; simp at h2
  · exact List.Pairwise.nil
theorem itemsUpto_f {cut : List Bool} {fr : List (Int × Int)} {m : Nat} {y : Arr} (h : y ∈ itemsUpto cut fr m) : ∃ k, k < m ∧ y ∈ one cut k (fr.getD k (0, 0)) := by
  simp only [itemsUpto, List.mem_flatMap, List.mem_range] at h
  exact h
theorem itemsUpto_nodup (cut : List Bool) (fr : List (Int × Int)) : ∀ m, (itemsUpto cut fr m).Nodup
  | 0 => List.Pairwise.nil
  | m + 1 => by
    rw [itemsUpto_succ]
    refine List.nodup_append.2 ⟨itemsUpto_nodup cut fr m, one_nodup .., fun a ha b hb e => ?_⟩
    subst e
    obtain ⟨k, hk, h1⟩ := itemsUpto_f ha
    have h2 := one_f h1
    have h3 := one_f hb
    omega
theorem run_srt (cut : List Bool) (fr : List (Int × Int)) : Srt (run cut fr) := isort_srt (itemsUpto_nodup ..)
theorem run_perm (cut : List Bool) (fr : List (Int × Int)) : (run cut fr).Perm (items cut fr) := isort_perm _
theorem run_of {cut : List Bool} {fr : List (Int × Int)} {l : List Arr} (h : Srt l) (hm : ∀ x, x ∈ l ↔ x ∈ items cut fr) : l = run cut fr :=
  srt_ext h (run_srt cut fr) fun x => (hm x).trans (run_perm cut fr).mem_iff.symm
theorem run_length (cut : List Bool) (fr : List (Int × Int)) : (run cut fr).length ≤ 7800 := by
  rw [(run_perm cut fr).length_eq]
  have := itemsUpto_length cut fr (min fr.length 100)
  unfold items; omega

/-- What the specification puts in, for frame k and the first t nodes. -/
def refOne (cut : List Bool) (k : Nat) (x : Int × Int) (d t : Nat) : List Arr := match hops cut d x.1.toNat t with | some h => [arr k x.2 d (t, h)] | none => []
theorem refOne_mem {cut : List Bool} {k : Nat} {x : Int × Int} {d t : Nat} {y : Arr} (hok : okFrame cut x = true) (ht : t < cut.length) : y ∈ refOne cut k x d t ↔ y ∈ oneWay cut k x d ∧ y.n = t := by
  simp only [okFrame, Bool.and_eq_true, decide_eq_true_eq] at hok
  have hf : x.1.toNat < cut.length := by omega
  unfold refOne oneWay
  constructor
  · intro h
    split at h
    · rename_i h' he
      simp only [List.mem_singleton] at h
      subst h
      exact ⟨List.mem_map.2 ⟨(t, h'), (way_mem hf ht).2 he, rfl⟩, rfl⟩
    · simp at h
  · rintro ⟨h, hn⟩
    obtain ⟨⟨t', h'⟩, hz, rfl⟩ := List.mem_map.1 h
    have : t' = t := by simp only [arr] at hn; omega
    subst this
    rw [(way_mem hf ht).1 hz]; simp
theorem oneWay_n {cut : List Bool} {k : Nat} {x : Int × Int} {d : Nat} {y : Arr} (hn : 0 < cut.length) (h : y ∈ oneWay cut k x d) : ∃ t : Nat, t < cut.length ∧ y.n = t := by
  obtain ⟨z, hz, rfl⟩ := List.mem_map.1 h
  exact ⟨z.1, (way_node_lt hn hz).1, rfl⟩
end Rg
end Go.Proofs.Ytnicgmgihmfjbaa
