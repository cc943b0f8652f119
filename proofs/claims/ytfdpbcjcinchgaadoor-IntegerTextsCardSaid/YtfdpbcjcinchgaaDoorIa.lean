/- Slices of 32-bit digits in memory; the contracts of both trims and of both comparisons. -/
import Derived.Test.YtfdpbcjcinchgaaDoorProg
import Derived.Test.YtfdpbcjcinchgaaDoorDig
import Derived.Test.YtfdpbcjcinchgaaDoorOrd
namespace Go.Proofs.YtfdpbcjcinchgaaDoor
open Go.RowKit

/-- Digits as cells. -/
def mg (l : List Nat) : List Value := l.map fun (d : Nat) => .int .u32 (d : Int)
theorem mg_len (l : List Nat) : (mg l).length = l.length := by simp [mg]
theorem mg_get {l : List Nat} {k x : Nat} (h : l[k]? = some x) : (mg l)[k]? = some (.int .u32 (x : Int)) := by simp [mg, h]
theorem mg_one {l : List Nat} : ∀ u ∈ mg l, u.oneCell' = true := by
  intro u hu
  simp only [mg, List.mem_map] at hu
  obtain ⟨d, _, rfl⟩ := hu
  rfl
theorem mg_append (a b : List Nat) : mg (a ++ b) = mg a ++ mg b := by simp [mg]
theorem mg_set (l : List Nat) (k x : Nat) : (mg l).set k (.int .u32 (x : Int)) = mg (l.set k x) := by simp [mg, List.map_set]
theorem mg_replicate (n : Nat) : mg (List.replicate n 0) = List.replicate n (.int .u32 0) := by simp [mg]

/-- The slice '.slice A n c' holds the digits l. -/
structure RM (w : World) (A : Option Addr) (n c : Nat) (l : List Nat) : Prop where
  rd : Reads w w.heap.size 1 A n (mg l)
  dg : Dig l
  nc : n ≤ c
  cm : c ≤ 9223372036854775807
section
variable {w w' : World} {A : Option Addr} {n c : Nat} {l : List Nat}
theorem RM.ext (h : RM w A n c l) (e : Ext w w') : RM w' A n c l := ⟨h.rd.ext e, h.dg, h.nc, h.cm⟩
theorem RM.len (h : RM w A n c l) : l.length = n := by have := h.rd.1; rw [mg_len] at this; omega
theorem RM.at_ {k : Nat} (h : RM w A n c l) (hk : k < n) : ∃ ad x, A = some ad ∧ ad.block < w.heap.size ∧ l[k]? = some x ∧ x < 4294967296 ∧ w.cell? (ad.add k) = some (.int .u32 (x : Int)) := by
  obtain ⟨ad, u, e, hb, hu, hc⟩ := h.rd.at_ hk
  simp only [mg, List.getElem?_map, Option.map_eq_some_iff] at hu
  obtain ⟨x, hx, rfl⟩ := hu
  exact ⟨ad, x, e, hb, hx, h.dg.at_ hx, hc⟩
theorem RM.nil : RM w none 0 0 [] := ⟨Reads.none_, Dig.nil, Nat.le_refl _, by omega⟩
theorem RM.empty (h : RM w A 0 c l) : l = [] := List.eq_nil_of_length_eq_zero h.len
/-- A part from the head. -/
theorem RM.take {k c' : Nat} (h : RM w A n c l) (hk : k ≤ n) (hc : k ≤ c') (hc' : c' ≤ 9223372036854775807) : RM w A k c' (l.take k) := by
  have hl := h.len
  refine ⟨⟨?_, fun h0 => ?_⟩, h.dg.take k, hc, hc'⟩
  · rw [mg_len, List.length_take]; omega
  · obtain ⟨ad, e, hb, hcell⟩ := h.rd.2 (by omega)
    refine ⟨ad, e, hb, fun j u hu => hcell j u ?_⟩
    simp only [mg, List.getElem?_map, Option.map_eq_some_iff] at hu ⊢
    obtain ⟨x, hx, rfl⟩ := hu
    refine ⟨x, ?_, rfl⟩
    rw [List.getElem?_take] at hx
    split at hx
    · exact hx
    · cases hx
end
theorem getD_of {l : List Nat} {k x : Nat} (h : l[k]? = some x) : l.getD k 0 = x := by simp [List.getD, h]
theorem trimN_zero {l : List Nat} {k : Nat} (h : l[k]? = some 0) : trimN l (k + 1) = trimN l k := by simp [trimN, h]
theorem trimN_stop {l : List Nat} {k x : Nat} (h : l[k]? = some x) (hx : x ≠ 0) : trimN l (k + 1) = k + 1 := by simp [trimN, h, hx]

/-- A result that is a slice of digits. -/
def SlM (l : List Nat) (v : Value) (w : World) : Prop := ∃ A n c, v = .slice A n c ∧ RM w A n c l

set_option maxHeartbeats 400000 in
theorem trim_any (A : Option Addr) (n c : Nat) (l : List Nat) (w : World) (h : RM w A n c l) :
    Calls Tryd.prog 53 #[.slice A n c] w fun e w' => (∃ v, e = .returned v ∧ SlM (digs (val l)) v w) ∧ w = w' := by
  have hn : n ≤ 9223372036854775807 := Nat.le_trans h.nc h.cm
  have hnc := h.nc
  have hcm := h.cm
  have HL := Lib.hid h.len
  have HT := Lib.hid (trim_eq h.dg)
  go_enter Tryd.func53, Tryd.ntmps53
  go_wp2
  go_loop [3] (fun i => ∃ k : Nat, k ≤ n ∧ i = .int .i64 k ∧ trimN l n = trimN l k) (fun i => (intOf i).toNat)
  case atStart => exact ⟨n, Nat.le_refl _, rfl, rfl⟩
  case round =>
    obtain ⟨k, hk, rfl, ht⟩ := hrel
    have HK := Lib.hid ht; clear ht
    by_cases h0 : k = 0
    · subst h0
      go_wp2
      go_ret
      refine ⟨⟨_, rfl, none, 0, 0, rfl, ?_⟩, rfl⟩
      rw [← HT.out, HL.out, HK.out]
      exact RM.nil
    · obtain ⟨j, rfl⟩ : ∃ j, k = j + 1 := ⟨k - 1, by omega⟩
      obtain ⟨ad, x, rfl, hb, hx, hx32, hcx⟩ := h.at_ (k := j) (by omega)
      have HX := Lib.hid hx; clear hx
      by_cases hx0 : x = 0
      · subst hx0
        go_wp2
        go_round
        case rel => exact ⟨j, by omega, by go_num, by rw [HK.out, trimN_zero HX.out]⟩
        case measure => simp [intOf] <;> omega
      · have hne : ((x : Int) == 0) = false := by simp; omega
        go_wp2
        go_ret
        refine ⟨⟨_, rfl, _, _, _, rfl, ?_⟩, rfl⟩
        rw [← HT.out, HL.out, HK.out, trimN_stop HX.out hx0]
        exact h.take (by omega) (by omega) (by omega)

/-- How two numbers compare. -/
def cmpN (a b : Nat) : Int := if a < b then -1 else if b < a then 1 else 0
theorem cmp_len {a b : List Nat} (ha : Dig a) (cb : Canon b) (h : a.length < b.length) : val a < val b := by
  have h1 := val_lt ha
  have h2 := val_ge cb (by intro e; simp [e] at h)
  have h3 := Nat.pow_le_pow_right (n := 4294967296) (by omega) (show a.length ≤ b.length - 1 by omega)
  omega
theorem cmp_digit {a b : List Nat} {k x y : Nat} (ha : Dig a) (hx : a[k]? = some x) (hy : b[k]? = some y) (h : a.drop (k + 1) = b.drop (k + 1)) (hxy : x < y) : val a < val b := by
  obtain ⟨h1, rfl⟩ := List.getElem?_eq_some_iff.1 hx
  obtain ⟨h2, rfl⟩ := List.getElem?_eq_some_iff.1 hy
  have e1 := val_split a (k + 1) (by omega)
  have e2 := val_split b (k + 1) (by omega)
  rw [val_take_succ hx] at e1
  rw [val_take_succ hy, ← h] at e2
  have h3 := val_lt (ha.take k)
  rw [List.length_take, Nat.min_eq_left (by omega)] at h3
  have h4 : 4294967296 ^ k * (a[k] + 1) ≤ 4294967296 ^ k * b[k] := Nat.mul_le_mul_left _ hxy
  rw [Nat.mul_add, Nat.mul_one] at h4
  omega
theorem drop_same {a b : List Nat} {k x : Nat} (hx : a[k]? = some x) (hy : b[k]? = some x) (h : a.drop (k + 1) = b.drop (k + 1)) : a.drop k = b.drop k := by
  obtain ⟨h1, e1⟩ := List.getElem?_eq_some_iff.1 hx
  obtain ⟨h2, e2⟩ := List.getElem?_eq_some_iff.1 hy
  rw [List.drop_eq_getElem_cons h1, List.drop_eq_getElem_cons h2, e1, e2, h]
theorem cmpN_lt {a b : Nat} (h : a < b) : -1 = cmpN a b := by simp [cmpN, h]
theorem cmpN_gt {a b : Nat} (h : b < a) : 1 = cmpN a b := by simp [cmpN, h]; omega
theorem cmpN_eq {a b : Nat} (h : a = b) : 0 = cmpN a b := by simp [cmpN, h]

set_option maxHeartbeats 400000 in
theorem compareMag_any (A B : Option Addr) (n m c d : Nat) (a b : List Nat) (w : World) (hA : RM w A n c a) (hB : RM w B m d b) (ca : Canon a) (cb : Canon b) :
    Calls Tryd.prog 50 #[.slice A n c, .slice B m d] w fun e w' => e = .returned (.int .i64 (cmpN (val a) (val b))) ∧ Ext w w' := by
  have hn : n ≤ 9223372036854775807 := Nat.le_trans hA.nc hA.cm
  have hm : m ≤ 9223372036854775807 := Nat.le_trans hB.nc hB.cm
  have HA := Lib.hid hA.len
  have HB := Lib.hid hB.len
  rcases Nat.lt_trichotomy n m with hlt | heq | hgt
  · have h1 : ((n : Int) != (m : Int)) = true := by simp; omega
    go_enter Tryd.func50, Tryd.ntmps50
    go_wp2
    go_ret
    exact ⟨ret_int (cmpN_lt (cmp_len hA.dg cb (by rw [HA.out, HB.out]; exact hlt))), Ext.refl _⟩
  · subst heq
    go_enter Tryd.func50, Tryd.ntmps50
    go_wp2
    go_loopw [5] (fun i wr => ∃ k : Nat, k ≤ n ∧ i = .int .i64 ((k : Int) - 1) ∧ a.drop k = b.drop k ∧ Ext w wr) (fun i _ => (intOf i + 1).toNat)
    case atStart => exact ⟨n, Nat.le_refl _, rfl, by rw [List.drop_eq_nil_of_le (by rw [HA.out]; omega), List.drop_eq_nil_of_le (by rw [HB.out]; omega)], Ext.refl _⟩
    case round =>
      obtain ⟨k, hk, rfl, hd, hex⟩ := hrel
      have HD := Lib.hid hd; clear hd
      by_cases h0 : k = 0
      · subst h0
        go_wp2
        go_ret
        exact ⟨ret_int (cmpN_eq (by have := HD.out; simp at this; rw [this])), hex⟩
      · obtain ⟨j, rfl⟩ : ∃ j, k = j + 1 := ⟨k - 1, by omega⟩
        obtain ⟨ad, x, rfl, hb, hx, hx32, hcx⟩ := (hA.ext hex).at_ (k := j) (by omega)
        obtain ⟨bd, y, rfl, hb', hy, hy32, hcy⟩ := (hB.ext hex).at_ (k := j) (by omega)
        have HX := Lib.hid hx; clear hx
        have HY := Lib.hid hy; clear hy
        have q1 : (0 : Int) ≤ (j : Int) := by omega
        have q2 : (j : Int) < (n : Int) := by omega
        rcases Nat.lt_trichotomy x y with h1 | h1 | h1
        · go_wp2
          go_quiet (fail)
          go_wp2
          go_ret
          exact ⟨ret_int (cmpN_lt (cmp_digit hA.dg HX.out HY.out HD.out h1)), hex.drewN _⟩
        · subst h1
          go_wp2
          go_quiet (fail)
          go_wp2
          go_quiet (fail)
          go_wp2
          go_roundw
          case rel => exact ⟨j, by omega, by go_num, drop_same HX.out HY.out HD.out, by first | exact (hex.drewN _).drewN _ | exact hex.drewN _⟩
          case measure => simp [intOf] <;> omega
        · go_wp2
          go_quiet (fail)
          go_wp2
          go_quiet (fail)
          go_wp2
          go_ret
          exact ⟨ret_int (cmpN_gt (cmp_digit hB.dg HY.out HX.out HD.out.symm h1)), by first | exact (hex.drewN _).drewN _ | exact hex.drewN _⟩
  · have h1 : ((n : Int) != (m : Int)) = true := by simp; omega
    go_enter Tryd.func50, Tryd.ntmps50
    go_wp2
    go_ret
    exact ⟨ret_int (cmpN_gt (cmp_len hB.dg ca (by rw [HA.out, HB.out]; exact hgt))), Ext.refl _⟩
set_option maxHeartbeats 400000 in
theorem rcompare_any (A B : Option Addr) (n m c d : Nat) (a b : List Nat) (w : World) (hA : RM w A n c a) (hB : RM w B m d b) (ca : Canon a) (cb : Canon b) :
    Calls Tryd.prog 51 #[.slice A n c, .slice B m d] w fun e w' => e = .returned (.int .i64 (cmpN (val a) (val b))) ∧ Ext w w' := by
  have hn : n ≤ 9223372036854775807 := Nat.le_trans hA.nc hA.cm
  have hm : m ≤ 9223372036854775807 := Nat.le_trans hB.nc hB.cm
  have HA := Lib.hid hA.len
  have HB := Lib.hid hB.len
  rcases Nat.lt_trichotomy n m with hlt | heq | hgt
  · have h1 : ((n : Int) != (m : Int)) = true := by simp; omega
    go_enter Tryd.func51, Tryd.ntmps51
    go_wp2
    go_ret
    exact ⟨ret_int (cmpN_lt (cmp_len hA.dg cb (by rw [HA.out, HB.out]; exact hlt))), Ext.refl _⟩
  · subst heq
    go_enter Tryd.func51, Tryd.ntmps51
    go_wp2
    go_loopw [5] (fun i wr => ∃ k : Nat, k ≤ n ∧ i = .int .i64 ((k : Int) - 1) ∧ a.drop k = b.drop k ∧ Ext w wr) (fun i _ => (intOf i + 1).toNat)
    case atStart => exact ⟨n, Nat.le_refl _, rfl, by rw [List.drop_eq_nil_of_le (by rw [HA.out]; omega), List.drop_eq_nil_of_le (by rw [HB.out]; omega)], Ext.refl _⟩
    case round =>
      obtain ⟨k, hk, rfl, hd, hex⟩ := hrel
      have HD := Lib.hid hd; clear hd
      by_cases h0 : k = 0
      · subst h0
        go_wp2
        go_ret
        exact ⟨ret_int (cmpN_eq (by have := HD.out; simp at this; rw [this])), hex⟩
      · obtain ⟨j, rfl⟩ : ∃ j, k = j + 1 := ⟨k - 1, by omega⟩
        obtain ⟨ad, x, rfl, hb, hx, hx32, hcx⟩ := (hA.ext hex).at_ (k := j) (by omega)
        obtain ⟨bd, y, rfl, hb', hy, hy32, hcy⟩ := (hB.ext hex).at_ (k := j) (by omega)
        have HX := Lib.hid hx; clear hx
        have HY := Lib.hid hy; clear hy
        have q1 : (0 : Int) ≤ (j : Int) := by omega
        have q2 : (j : Int) < (n : Int) := by omega
        rcases Nat.lt_trichotomy x y with h1 | h1 | h1
        · go_wp2
          go_quiet (fail)
          go_wp2
          go_ret
          exact ⟨ret_int (cmpN_lt (cmp_digit hA.dg HX.out HY.out HD.out h1)), hex.drewN _⟩
        · subst h1
          go_wp2
          go_quiet (fail)
          go_wp2
          go_quiet (fail)
          go_wp2
          go_roundw
          case rel => exact ⟨j, by omega, by go_num, drop_same HX.out HY.out HD.out, by first | exact (hex.drewN _).drewN _ | exact hex.drewN _⟩
          case measure => simp [intOf] <;> omega
        · go_wp2
          go_quiet (fail)
          go_wp2
          go_quiet (fail)
          go_wp2
          go_ret
          exact ⟨ret_int (cmpN_gt (cmp_digit hB.dg HY.out HX.out HD.out.symm h1)), by first | exact (hex.drewN _).drewN _ | exact hex.drewN _⟩
  · have h1 : ((n : Int) != (m : Int)) = true := by simp; omega
    go_enter Tryd.func51, Tryd.ntmps51
    go_wp2
    go_ret
    exact ⟨ret_int (cmpN_gt (cmp_len hB.dg ca (by rw [HA.out, HB.out]; exact hgt))), Ext.refl _⟩
end Go.Proofs.YtfdpbcjcinchgaaDoor
