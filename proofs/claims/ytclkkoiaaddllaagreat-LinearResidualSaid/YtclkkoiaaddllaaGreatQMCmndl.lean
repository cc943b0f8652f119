/- Words and contracts that the laws share, several texts in one. -/
import Derived.Test.YtclkkoiaaddllaaGreatProg
import Derived.Test.YtclkkoiaaddllaaGreatQMBkbof
import Derived.Test.YtclkkoiaaddllaaGreatQMAlchc
/- Slices of 32-bit digits in memory; the contracts of both trims and of both comparisons. -/
namespace Go.Proofs.YtclkkoiaaddllaaGreat
open Go.RowKit

/-- Digits as cells. -/
def mg (l : List Nat) : List Value := l.map fun (d : Nat) => .int .u32 (d : Int)
theorem mg_len (l : List Nat) : (mg l).length = l.length := by simp [mg]
theorem mg_get {l : List Nat} {k x : Nat} (h : l[k]? = some x) : (mg l)[k]? = some (.int .u32 (x : Int)) := by simp [mg, h]
theorem mg_one {l : List Nat} : ∀ u ∈ mg l, u.oneCell' = true := by
  intro u hu
  simp only [mg, List.mem_map] at hu
  obtain ⟨d, _, rfl⟩ := hu
  rfl
theorem mg_append (a b : List Nat) : mg (a ++ b) = mg a ++ mg b := by simp [mg]
theorem mg_set (l : List Nat) (k x : Nat) : (mg l).set k (.int .u32 (x : Int)) = mg (l.set k x) := by simp [mg, List.map_set]
theorem mg_replicate (n : Nat) : mg (List.replicate n 0) = List.replicate n (.int .u32 0) := by simp [mg]

/-- The slice '.slice A n c' holds the digits l. -/
structure RM (w : World) (A : Option Addr) (n c : Nat) (l : List Nat) : Prop where
  rd : Reads w w.heap.size 1 A n (mg l)
  dg : Dig l
  nc : n ≤ c
  cm : c ≤ 9223372036854775807
section
variable {w w' : World} {A : Option Addr} {n c : Nat} {l : List Nat}
theorem RM.ext (h : RM w A n c l) (e : Ext w w') : RM w' A n c l := ⟨h.rd.ext e, h.dg, h.nc, h.cm⟩
theorem RM.len (h : RM w A n c l) : l.length = n := by have := h.rd.1; rw [mg_len] at this; omega
theorem RM.at_ {k : Nat} (h : RM w A n c l) (hk : k < n) : ∃ ad x, A = some ad ∧ ad.block < w.heap.size ∧ l[k]? = some x ∧ x < 4294967296 ∧ w.cell? (ad.add k) = some (.int .u32 (x : Int)) := by
  obtain ⟨ad, u, e, hb, hu, hc⟩ := h.rd.at_ hk
  simp only [mg, List.getElem?_map, Option.map_eq_some_iff] at hu
  obtain ⟨x, hx, rfl⟩ := hu
  exact ⟨ad, x, e, hb, hx, h.dg.at_ hx, hc⟩
theorem RM.nil : RM w none 0 0 [] := ⟨Reads.none_, Dig.nil, Nat.le_refl _, by omega⟩
theorem RM.empty (h : RM w A 0 c l) : l = [] := List.eq_nil_of_length_eq_zero h.len
/-- A part from the head. -/
theorem RM.take {k c' : Nat} (h : RM w A n c l) (hk : k ≤ n) (hc : k ≤ c') (hc' : c' ≤ 9223372036854775807) : RM w A k c' (l.take k) := by
  have hl := h.len
  refine ⟨⟨?_, fun h0 => ?_⟩, h.dg.take k, hc, hc'⟩
  · rw [mg_len, List.length_take]; omega
  · obtain ⟨ad, e, hb, hcell⟩ := h.rd.2 (by omega)
    refine ⟨ad, e, hb, fun j u hu => hcell j u ?_⟩
    simp only [mg, List.getElem?_map, Option.map_eq_some_iff] at hu ⊢
    obtain ⟨x, hx, rfl⟩ := hu
    refine ⟨x, ?_, rfl⟩
    rw [List.getElem?_take] at hx
    split at hx
    · exact hx
    · cases hx
end
theorem getD_of {l : List Nat} {k x : Nat} (h : l[k]? = some x) : l.getD k 0 = x := by simp [List.getD, h]
theorem trimN_zero {l : List Nat} {k : Nat} (h : l[k]? = some 0) : trimN l (k + 1) = trimN l k := by simp [trimN, h]
theorem trimN_stop {l : List Nat} {k x : Nat} (h : l[k]? = some x) (hx : x ≠ 0) : trimN l (k + 1) = k + 1 := by simp [trimN, h, hx]

/-- A result that is a slice of digits. -/
def SlM (l : List Nat) (v : Value) (w : World) : Prop := ∃ A n c, v = .slice A n c ∧ RM w A n c l

set_option maxHeartbeats 400000 in
theorem trim_any (A : Option Addr) (n c : Nat) (l : List Nat) (w : World) (h : RM w A n c l) :
    Calls Tryz.prog 106 #[.slice A n c] w fun e w' => (∃ v, e = .returned v ∧ SlM (digs (val l)) v w) ∧ w = w' := by
  have hn : n ≤ 9223372036854775807 := Nat.le_trans h.nc h.cm
  have hnc := h.nc
  have hcm := h.cm
  have HL := Lib.hid h.len
  have HT := Lib.hid (trim_eq h.dg)
  go_enter Tryz.func106, Tryz.ntmps106
  go_wp2
  go_loop [3] (fun i => ∃ k : Nat, k ≤ n ∧ i = .int .i64 k ∧ trimN l n = trimN l k) (fun i => (intOf i).toNat)
  case atStart => exact ⟨n, Nat.le_refl _, rfl, rfl⟩
  case round =>
    obtain ⟨k, hk, rfl, ht⟩ := hrel
    have HK := Lib.hid ht; clear ht
    by_cases h0 : k = 0
    · subst h0
      go_wp2
      go_ret
      refine ⟨⟨_, rfl, none, 0, 0, rfl, ?_⟩, rfl⟩
      rw [← HT.out, HL.out, HK.out]
      exact RM.nil
    · obtain ⟨j, rfl⟩ : ∃ j, k = j + 1 := ⟨k - 1, by omega⟩
      obtain ⟨ad, x, rfl, hb, hx, hx32, hcx⟩ := h.at_ (k := j) (by omega)
      have HX := Lib.hid hx; clear hx
      by_cases hx0 : x = 0
      · subst hx0
        go_wp2
        go_round
        case rel => exact ⟨j, by omega, by go_num, by rw [HK.out, trimN_zero HX.out]⟩
        case measure => simp [intOf] <;> omega
      · have hne : ((x : Int) == 0) = false := by simp; omega
        go_wp2
        go_ret
        refine ⟨⟨_, rfl, _, _, _, rfl, ?_⟩, rfl⟩
        rw [← HT.out, HL.out, HK.out, trimN_stop HX.out hx0]
        exact h.take (by omega) (by omega) (by omega)

/-- How two numbers compare. -/
def cmpN (a b : Nat) : Int := if a < b then -1 else if b < a then 1 else 0
theorem cmp_len {a b : List Nat} (ha : Dig a) (cb : Canon b) (h : a.length < b.length) : val a < val b := by
  have h1 := val_lt ha
  have h2 := val_ge cb (by intro e; simp [e] at h)
  have h3 := Nat.pow_le_pow_right (n := 4294967296) (by omega) (show a.length ≤ b.length - 1 by omega)
  omega
theorem cmp_digit {a b : List Nat} {k x y : Nat} (ha : Dig a) (hx : a[k]? = some x) (hy : b[k]? = some y) (h : a.drop (k + 1) = b.drop (k + 1)) (hxy : x < y) : val a < val b := by
  obtain ⟨h1, rfl⟩ := List.getElem?_eq_some_iff.1 hx
  obtain ⟨h2, rfl⟩ := List.getElem?_eq_some_iff.1 hy
  have e1 := val_split a (k + 1) (by omega)
  have e2 := val_split b (k + 1) (by omega)
  rw [val_take_succ hx] at e1
  rw [val_take_succ hy, ← h] at e2
  have h3 := val_lt (ha.take k)
  rw [List.length_take, Nat.min_eq_left (by omega)] at h3
  have h4 : 4294967296 ^ k * (a[k] + 1) ≤ 4294967296 ^ k * b[k] := Nat.mul_le_mul_left _ hxy
  rw [Nat.mul_add, Nat.mul_one] at h4
  omega
theorem drop_same {a b : List Nat} {k x : Nat} (hx : a[k]? = some x) (hy : b[k]? = some x) (h : a.drop (k + 1) = b.drop (k + 1)) : a.drop k = b.drop k := by
  obtain ⟨h1, e1⟩ := List.getElem?_eq_some_iff.1 hx
  obtain ⟨h2, e2⟩ := List.getElem?_eq_some_iff.1 hy
  rw [List.drop_eq_getElem_cons h1, List.drop_eq_getElem_cons h2, e1, e2, h]
theorem cmpN_lt {a b : Nat} (h : a < b) : -1 = cmpN a b := by simp [cmpN, h]
theorem cmpN_gt {a b : Nat} (h : b < a) : 1 = cmpN a b := by simp [cmpN, h]; omega
theorem cmpN_eq {a b : Nat} (h : a = b) : 0 = cmpN a b := by simp [cmpN, h]

set_option maxHeartbeats 400000 in
theorem compareMag_any (A B : Option Addr) (n m c d : Nat) (a b : List Nat) (w : World) (hA : RM w A n c a) (hB : RM w B m d b) (ca : Canon a) (cb : Canon b) :
    Calls Tryz.prog 141 #[.slice A n c, .slice B m d] w fun e w' => e = .returned (.int .i64 (cmpN (val a) (val b))) ∧ Ext w w' := by
  have hn : n ≤ 9223372036854775807 := Nat.le_trans hA.nc hA.cm
  have hm : m ≤ 9223372036854775807 := Nat.le_trans hB.nc hB.cm
  have HA := Lib.hid hA.len
  have HB := Lib.hid hB.len
  rcases Nat.lt_trichotomy n m with hlt | heq | hgt
  · have h1 : ((n : Int) != (m : Int)) = true := by simp; omega
    go_enter Tryz.func141, Tryz.ntmps141
    go_wp2
    go_ret
    exact ⟨ret_int (cmpN_lt (cmp_len hA.dg cb (by rw [HA.out, HB.out]; exact hlt))), Ext.refl _⟩
  · subst heq
    go_enter Tryz.func141, Tryz.ntmps141
    go_wp2
    go_loopw [5] (fun i wr => ∃ k : Nat, k ≤ n ∧ i = .int .i64 ((k : Int) - 1) ∧ a.drop k = b.drop k ∧ Ext w wr) (fun i _ => (intOf i + 1).toNat)
    case atStart => exact ⟨n, Nat.le_refl _, rfl, by rw [List.drop_eq_nil_of_le (by rw [HA.out]; omega), List.drop_eq_nil_of_le (by rw [HB.out]; omega)], Ext.refl _⟩
    case round =>
      obtain ⟨k, hk, rfl, hd, hex⟩ := hrel
      have HD := Lib.hid hd; clear hd
      by_cases h0 : k = 0
      · subst h0
        go_wp2
        go_ret
        exact ⟨ret_int (cmpN_eq (by have := HD.out; simp at this; rw [this])), hex⟩
      · obtain ⟨j, rfl⟩ : ∃ j, k = j + 1 := ⟨k - 1, by omega⟩
        obtain ⟨ad, x, rfl, hb, hx, hx32, hcx⟩ := (hA.ext hex).at_ (k := j) (by omega)
        obtain ⟨bd, y, rfl, hb', hy, hy32, hcy⟩ := (hB.ext hex).at_ (k := j) (by omega)
        have HX := Lib.hid hx; clear hx
        have HY := Lib.hid hy; clear hy
        have q1 : (0 : Int) ≤ (j : Int) := by omega
        have q2 : (j : Int) < (n : Int) := by omega
        rcases Nat.lt_trichotomy x y with h1 | h1 | h1
        · go_wp2
          go_quiet (fail)
          go_wp2
          go_ret
          exact ⟨ret_int (cmpN_lt (cmp_digit hA.dg HX.out HY.out HD.out h1)), hex.drewN _⟩
        · subst h1
          go_wp2
          go_quiet (fail)
          go_wp2
          go_quiet (fail)
          go_wp2
          go_roundw
          case rel => exact ⟨j, by omega, by go_num, drop_same HX.out HY.out HD.out, by first | exact (hex.drewN _).drewN _ | exact hex.drewN _⟩
          case measure => simp [intOf] <;> omega
        · go_wp2
          go_quiet (fail)
          go_wp2
          go_quiet (fail)
          go_wp2
          go_ret
          exact ⟨ret_int (cmpN_gt (cmp_digit hB.dg HY.out HX.out HD.out.symm h1)), by first | exact (hex.drewN _).drewN _ | exact hex.drewN _⟩
  · have h1 : ((n : Int) != (m : Int)) = true := by simp; omega
    go_enter Tryz.func141, Tryz.ntmps141
    go_wp2
    go_ret
    exact ⟨ret_int (cmpN_gt (cmp_len hB.dg ca (by rw [HA.out, HB.out]; exact hgt))), Ext.refl _⟩
set_option maxHeartbeats 400000 in
theorem rcompare_any (A B : Option Addr) (n m c d : Nat) (a b : List Nat) (w : World) (hA : RM w A n c a) (hB : RM w B m d b) (ca : Canon a) (cb : Canon b) :
    Calls Tryz.prog 67 #[.slice A n c, .slice B m d] w fun e w' => e = .returned (.int .i64 (cmpN (val a) (val b))) ∧ Ext w w' := by
  have hn : n ≤ 9223372036854775807 := Nat.le_trans hA.nc hA.cm
  have hm : m ≤ 9223372036854775807 := Nat.le_trans hB.nc hB.cm
  have HA := Lib.hid hA.len
  have HB := Lib.hid hB.len
  rcases Nat.lt_trichotomy n m with hlt | heq | hgt
  · have h1 : ((n : Int) != (m : Int)) = true := by simp; omega
    go_enter Tryz.func67, Tryz.ntmps67
    go_wp2
    go_ret
    exact ⟨ret_int (cmpN_lt (cmp_len hA.dg cb (by rw [HA.out, HB.out]; exact hlt))), Ext.refl _⟩
  · subst heq
    go_enter Tryz.func67, Tryz.ntmps67
    go_wp2
    go_loopw [5] (fun i wr => ∃ k : Nat, k ≤ n ∧ i = .int .i64 ((k : Int) - 1) ∧ a.drop k = b.drop k ∧ Ext w wr) (fun i _ => (intOf i + 1).toNat)
    case atStart => exact ⟨n, Nat.le_refl _, rfl, by rw [List.drop_eq_nil_of_le (by rw [HA.out]; omega), List.drop_eq_nil_of_le (by rw [HB.out]; omega)], Ext.refl _⟩
    case round =>
      obtain ⟨k, hk, rfl, hd, hex⟩ := hrel
      have HD := Lib.hid hd; clear hd
      by_cases h0 : k = 0
      · subst h0
        go_wp2
        go_ret
        exact ⟨ret_int (cmpN_eq (by have := HD.out; simp at this; rw [this])), hex⟩
      · obtain ⟨j, rfl⟩ : ∃ j, k = j + 1 := ⟨k - 1, by omega⟩
        obtain ⟨ad, x, rfl, hb, hx, hx32, hcx⟩ := (hA.ext hex).at_ (k := j) (by omega)
        obtain ⟨bd, y, rfl, hb', hy, hy32, hcy⟩ := (hB.ext hex).at_ (k := j) (by omega)
        have HX := Lib.hid hx; clear hx
        have HY := Lib.hid hy; clear hy
        have q1 : (0 : Int) ≤ (j : Int) := by omega
        have q2 : (j : Int) < (n : Int) := by omega
        rcases Nat.lt_trichotomy x y with h1 | h1 | h1
        · go_wp2
          go_quiet (fail)
          go_wp2
          go_ret
          exact ⟨ret_int (cmpN_lt (cmp_digit hA.dg HX.out HY.out HD.out h1)), hex.drewN _⟩
        · subst h1
          go_wp2
          go_quiet (fail)
          go_wp2
          go_quiet (fail)
          go_wp2
          go_roundw
          case rel => exact ⟨j, by omega, by go_num, drop_same HX.out HY.out HD.out, by first | exact (hex.drewN _).drewN _ | exact hex.drewN _⟩
          case measure => simp [intOf] <;> omega
        · go_wp2
          go_quiet (fail)
          go_wp2
          go_quiet (fail)
          go_wp2
          go_ret
          exact ⟨ret_int (cmpN_gt (cmp_digit hB.dg HY.out HX.out HD.out.symm h1)), by first | exact (hex.drewN _).drewN _ | exact hex.drewN _⟩
  · have h1 : ((n : Int) != (m : Int)) = true := by simp; omega
    go_enter Tryz.func67, Tryz.ntmps67
    go_wp2
    go_ret
    exact ⟨ret_int (cmpN_gt (cmp_len hB.dg ca (by rw [HA.out, HB.out]; exact hgt))), Ext.refl _⟩
end Go.Proofs.YtclkkoiaaddllaaGreat

/- Contracts: the reference's trim, made, digits; the checks of integers. -/
namespace Go.Proofs.YtclkkoiaaddllaaGreat
open Go.RowKit

theorem elem_u32 : Elem Tryz.prog 28 103 1 4 := Elem.of Tryz.underlying28 (z := .int .u32 0) (by kernel_rfl) rfl (by omega)

theorem RM.of_own {w : World} {base n : Nat} {v : Value} {l : List Nat} (h : w.ownsRow base 103 1 v n (mg l)) (hd : Dig l) : SlM l v w := by
  obtain ⟨A, c, rfl, h1, h2, h3⟩ := own_reads h
  exact ⟨A, n, c, rfl, h3, hd, h1, h2⟩
theorem SlM.ext {w w' : World} {l : List Nat} {v : Value} (h : SlM l v w) (e : Ext w w') : SlM l v w' := by
  obtain ⟨A, n, c, h1, h2⟩ := h
  exact ⟨A, n, c, h1, h2.ext e⟩

set_option maxHeartbeats 400000 in
theorem rtrim_fresh (A : Option Addr) (n c : Nat) (l : List Nat) (w : World) (h : RM w A n c l) (hn : n ≤ 1000000) :
    Calls Tryz.prog 137 #[.slice A n c] w fun e w' => ∃ v, e = .returned v ∧ (SlM (digs (val l)) v w' ∧ ∀ g, v.ownBlock = some g → w.heap.size ≤ g) ∧ Ext w w' := by
  have hnc := h.nc
  have hcm := h.cm
  have HL := Lib.hid h.len
  have HT := Lib.hid (trim_eq h.dg)
  go_enter Tryz.func137, Tryz.ntmps137
  go_wp2
  go_loop [3] (fun i => ∃ k : Nat, k ≤ n ∧ i = .int .i64 k ∧ trimN l n = trimN l k) (fun i => (intOf i).toNat)
  case atStart => exact ⟨n, Nat.le_refl _, rfl, rfl⟩
  case round =>
    obtain ⟨k, hk, rfl, ht⟩ := hrel
    have HK := Lib.hid ht; clear ht
    have fin : ∀ j, j ≤ n → trimN l j = j → trimN l k = trimN l j → RM w A j c (digs (val l)) := fun j hj h1 h2 => by
      have := h.take (k := j) (c' := c) hj (by omega) hcm
      rwa [← HT.out, HL.out, HK.out, h2, h1]
    by_cases h0 : k = 0
    · subst h0
      have HR := Lib.hid (fin 0 (by omega) rfl rfl)
      clear fin
      cases A
      all_goals
        go_wp2_with (at_builtin; refine wpList_appA elem_u32 rfl (.tmp 18) (.tmp 21) rfl w.heap.size _ 0 [] (by rfl) (World.ownsRow_lit _ _ _ (by omega) (by omega) (by simp)) _ 0 _ (mg (digs (val l))) (by rfl) (HR.out.ext (Ext.new w _)).rd mg_one (by omega) (by omega) (by simp) ?_)
        intro v1 w1 ho hg
        go_wp2
        go_ret
        exact ⟨_, rfl, ⟨RM.of_own ho (dig_digs _), fun g hg => (ho.lt g hg).1⟩, own_grown hg (Ext.new _ _) (by simp [Value.ownBlock])⟩
    · obtain ⟨j, rfl⟩ : ∃ j, k = j + 1 := ⟨k - 1, by omega⟩
      obtain ⟨ad, x, rfl, hb, hx, hx32, hcx⟩ := h.at_ (k := j) (by omega)
      have HX := Lib.hid hx; clear hx
      by_cases hx0 : x = 0
      · subst hx0
        clear fin
        go_wp2
        go_round
        case rel => exact ⟨j, by omega, by go_num, by rw [HK.out, trimN_zero HX.out]⟩
        case measure => simp [intOf] <;> omega
      · have hne : ((x : Int) == 0) = false := by simp; omega
        have HR := Lib.hid (fin (j + 1) hk (trimN_stop HX.out hx0) rfl)
        clear fin
        go_wp2_with (at_builtin; refine wpList_appA elem_u32 rfl (.tmp 18) (.tmp 21) rfl w.heap.size _ 0 [] (by rfl) (World.ownsRow_lit _ _ _ (by omega) (by omega) (by simp)) _ (j + 1) _ (mg (digs (val l))) (by rfl) (HR.out.ext (Ext.new w _)).rd mg_one (by omega) (by omega) (by simp) ?_)
        intro v1 w1 ho hg
        go_wp2
        go_ret
        exact ⟨_, rfl, ⟨RM.of_own ho (dig_digs _), fun g hg => (ho.lt g hg).1⟩, own_grown hg (Ext.new _ _) (by simp [Value.ownBlock])⟩
theorem rtrim_any (A : Option Addr) (n c : Nat) (l : List Nat) (w : World) (h : RM w A n c l) (hn : n ≤ 1000000) :
    Calls Tryz.prog 137 #[.slice A n c] w fun e w' => ∃ v, e = .returned v ∧ SlM (digs (val l)) v w' ∧ Ext w w' :=
  (rtrim_fresh A n c l w h hn).mono fun _ _ ⟨v, h1, h2, h3⟩ => ⟨v, h1, h2.1, h3⟩
end Go.Proofs.YtclkkoiaaddllaaGreat

/- Integers in memory; the contracts of Valid, made, digits, result, Of. -/
namespace Go.Proofs.YtclkkoiaaddllaaGreat
open Go.RowKit

/-- The value of an integer whose digits lie in a slice. -/
abbrev iv (neg : Bool) (A : Option Addr) (n c : Nat) : Value := .agg #[.bool neg, .slice A n c]
/-- A cell of the digits, seen behind up to three new blocks. -/
theorem RM.at3 {w : World} {A : Option Addr} {n c k : Nat} {l : List Nat} (h : RM w A n c l) (hk : k < n) :
    ∃ ad x, A = some ad ∧ l[k]? = some x ∧ x < 4294967296 ∧ w.cell? (ad.add k) = some (.int .u32 (x : Int)) ∧ (∀ o, (w.alloc o).cell? (ad.add k) = some (.int .u32 (x : Int))) ∧
      (∀ o o', ((w.alloc o).alloc o').cell? (ad.add k) = some (.int .u32 (x : Int))) ∧ (∀ o o' o'', (((w.alloc o).alloc o').alloc o'').cell? (ad.add k) = some (.int .u32 (x : Int))) := by
  obtain ⟨ad, x, e, hb, hx, hx32, hc⟩ := h.at_ hk
  exact ⟨ad, x, e, hx, hx32, hc, fun o => (Ext.new w o).cell_ hc, fun o o' => ((Ext.new w o).alloc o').cell_ hc, fun o o' o'' => (((Ext.new w o).alloc o').alloc o'').cell_ hc⟩

/-- Is an integer valid? -/
def validB (neg : Bool) (l : List Nat) : Bool := if l.length = 0 then !neg else decide (l.length ≤ 400) && l.getD (l.length - 1) 0 != 0
theorem validB_zero {neg : Bool} {l : List Nat} (h : l.length = 0) : validB neg l = !neg := by simp [validB, h]
theorem validB_long {neg : Bool} {l : List Nat} (h : 400 < l.length) : validB neg l = false := by
  have : ¬ l.length = 0 := by omega
  simp [validB, this]; omega
theorem validB_at {neg : Bool} {l : List Nat} {j x : Nat} (h : l.length = j + 1) (hj : j + 1 ≤ 400) (hx : l[j]? = some x) : validB neg l = (x != 0) := by
  have : ¬ l.length = 0 := by omega
  simp only [validB, h, Nat.add_sub_cancel, getD_of hx]
  simp [hj]

set_option maxRecDepth 100000 in
set_option maxHeartbeats 400000 in
theorem Valid_any (neg : Bool) (A : Option Addr) (n c : Nat) (l : List Nat) (w : World) (h : RM w A n c l) :
    Calls Tryz.prog 79 #[iv neg A n c] w fun e w' => e = .returned (.bool (validB neg l)) ∧ Ext w w' := by
  have hn : n ≤ 9223372036854775807 := Nat.le_trans h.nc h.cm
  have HL := Lib.hid h.len
  by_cases h0 : n = 0
  · subst h0
    cases neg
    all_goals
      go_enter Tryz.func79, Tryz.ntmps79
      go_wp2
      go_ret
      exact ⟨ret_bool (by rw [validB_zero HL.out]; rfl), Ext.new _ _⟩
  · obtain ⟨j, rfl⟩ : ∃ j, n = j + 1 := ⟨n - 1, by omega⟩
    have hne : (((j + 1 : Nat) : Int) == 0) = false := by simp; omega
    have hne' : ((j : Int) + 1 == 0) = false := by simp; omega
    by_cases h4 : j + 1 ≤ 400
    · obtain ⟨ad, x, rfl, hx, hx32, _, hc1, _, _⟩ := h.at3 (k := j) (by omega)
      have HX := Lib.hid hx; clear hx
      by_cases hx0 : x = 0
      · subst hx0
        have e1 : validB neg l = false := by rw [validB_at HL.out h4 HX.out]; rfl
        have HE := Lib.hid e1; clear e1
        go_enter Tryz.func79, Tryz.ntmps79
        go_wp2
        go_ret
        exact ⟨ret_bool (by rw [HE.out]), Ext.new _ _⟩
      · have hne2 : ((x : Int) != 0) = true := by simp; omega
        have e1 : validB neg l = true := by rw [validB_at HL.out h4 HX.out]; simp [hx0]
        have HE := Lib.hid e1; clear e1
        go_enter Tryz.func79, Tryz.ntmps79
        go_wp2
        go_ret
        exact ⟨ret_bool (by rw [HE.out]), Ext.new _ _⟩
    · have HE := Lib.hid (validB_long (neg := neg) (l := l) (by rw [HL.out]; omega))
      go_enter Tryz.func79, Tryz.ntmps79
      go_wp2
      go_ret
      exact ⟨ret_bool (by rw [HE.out]), Ext.new _ _⟩
set_option maxRecDepth 100000 in
set_option maxHeartbeats 400000 in
theorem rValid_any (neg : Bool) (A : Option Addr) (n c : Nat) (l : List Nat) (w : World) (h : RM w A n c l) :
    Calls Tryz.prog 68 #[iv neg A n c] w fun e w' => e = .returned (.bool (validB neg l)) ∧ Ext w w' := by
  have hn : n ≤ 9223372036854775807 := Nat.le_trans h.nc h.cm
  have HL := Lib.hid h.len
  by_cases h0 : n = 0
  · subst h0
    cases neg
    all_goals
      go_enter Tryz.func68, Tryz.ntmps68
      go_wp2
      go_ret
      exact ⟨ret_bool (by rw [validB_zero HL.out]; rfl), Ext.new _ _⟩
  · obtain ⟨j, rfl⟩ : ∃ j, n = j + 1 := ⟨n - 1, by omega⟩
    have hne : (((j + 1 : Nat) : Int) == 0) = false := by simp; omega
    have hne' : ((j : Int) + 1 == 0) = false := by simp; omega
    by_cases h4 : j + 1 ≤ 400
    · obtain ⟨ad, x, rfl, hx, hx32, _, hc1, _, _⟩ := h.at3 (k := j) (by omega)
      have HX := Lib.hid hx; clear hx
      by_cases hx0 : x = 0
      · subst hx0
        have e1 : validB neg l = false := by rw [validB_at HL.out h4 HX.out]; rfl
        have HE := Lib.hid e1; clear e1
        go_enter Tryz.func68, Tryz.ntmps68
        go_wp2
        go_ret
        exact ⟨ret_bool (by rw [HE.out]), Ext.new _ _⟩
      · have hne2 : ((x : Int) != 0) = true := by simp; omega
        have e1 : validB neg l = true := by rw [validB_at HL.out h4 HX.out]; simp [hx0]
        have HE := Lib.hid e1; clear e1
        go_enter Tryz.func68, Tryz.ntmps68
        go_wp2
        go_ret
        exact ⟨ret_bool (by rw [HE.out]), Ext.new _ _⟩
    · have HE := Lib.hid (validB_long (neg := neg) (l := l) (by rw [HL.out]; omega))
      go_enter Tryz.func68, Tryz.ntmps68
      go_wp2
      go_ret
      exact ⟨ret_bool (by rw [HE.out]), Ext.new _ _⟩

/-- An integer in memory, valid or not. -/
def RX (w : World) (v : Value) (neg : Bool) (l : List Nat) : Prop := ∃ A n c, v = iv neg A n c ∧ RM w A n c l
theorem RX.ext {w w' : World} {v : Value} {neg : Bool} {l : List Nat} (h : RX w v neg l) (e : Ext w w') : RX w' v neg l := by
  obtain ⟨A, n, c, h1, h2⟩ := h
  exact ⟨A, n, c, h1, h2.ext e⟩
/-- Integers have at most 400 digits. -/
def limK : Nat := 400
def lim : Nat := 4294967296 ^ limK
theorem lt_lim {m k : Nat} (h : m < 4294967296 ^ k) (hk : k ≤ 400) : m < lim := Nat.lt_of_lt_of_le h (Nat.pow_le_pow_right (by omega) (show k ≤ limK from hk))
theorem len_lim {m : Nat} (h : m < lim) : (digs m).length ≤ 400 := show (digs m).length ≤ limK from digs_len_le (k := limK) (by unfold lim at h; exact h)
/-- A valid integer in memory (but for its size). -/
def RI (w : World) (v : Value) (z : Int) : Prop := RX w v (decide (z < 0)) (digs z.natAbs)
theorem RI.ext {w w' : World} {v : Value} {z : Int} (h : RI w v z) (e : Ext w w') : RI w' v z := RX.ext h e
theorem RI.zero (w : World) : RI w (iv false none 0 0) 0 := ⟨none, 0, 0, rfl, by simpa [digs_zero] using RM.nil⟩

/-- The number of a sign and digits. -/
def zOf (neg : Bool) (m : Nat) : Int := if neg then -(m : Int) else m
theorem zOf_abs (neg : Bool) (m : Nat) : (zOf neg m).natAbs = m := by unfold zOf; split <;> omega
theorem zOf_neg (neg : Bool) (m : Nat) : decide (zOf neg m < 0) = (neg && decide (0 < m)) := by
  cases neg
  · simp [zOf]
  · simp [zOf]
theorem RX.made {w : World} {A : Option Addr} {n c m : Nat} (neg : Bool) (h : RM w A n c (digs m)) : RI w (iv (neg && decide (0 < n)) A n c) (zOf neg m) := by
  refine ⟨A, n, c, ?_, by rw [zOf_abs]; exact h⟩
  have hl := h.len
  rw [zOf_neg]
  have e : decide (0 < n) = decide (0 < m) := by
    by_cases h0 : m = 0
    · subst h0; rw [digs_zero] at hl; obtain rfl : n = 0 := by simpa using hl.symm
      rfl
    · have h1 : digs m ≠ [] := fun e => h0 (digs_nil.1 e)
      have h2 : 0 < n := by rw [← hl]; exact List.length_pos_iff.2 h1
      rw [decide_eq_true h2, decide_eq_true (by omega)]
  rw [e]
theorem RI.of_valid {w : World} {v : Value} {neg : Bool} {l : List Nat} (h : RX w v neg l) (hv : validB neg l = true) : RI w v (zOf neg (val l)) ∧ val l < lim := by
  obtain ⟨A, n, c, rfl, hm⟩ := h
  have hl := hm.len
  have hc : Canon l := by
    intro x hx
    unfold validB at hv
    rw [List.getLast?_eq_getElem?] at hx
    split at hv
    · rename_i h0
      rw [List.eq_nil_of_length_eq_zero h0] at hx; simp at hx
    · simp only [Bool.and_eq_true, decide_eq_true_eq, bne_iff_ne, getD_of hx] at hv
      exact hv.2
  have hle : l.length ≤ 400 := by
    unfold validB at hv
    split at hv
    · omega
    · simp only [Bool.and_eq_true, decide_eq_true_eq] at hv
      exact hv.1
  have hd := digs_val hm.dg hc
  have h1 := RX.made (w := w) (A := A) (n := n) (c := c) (m := val l) neg (by rw [hd]; exact hm)
  have h2 : (neg && decide (0 < n)) = neg := by
    cases neg
    · rfl
    · unfold validB at hv
      split at hv
      · simp at hv
      · simp; omega
  rw [h2] at h1
  exact ⟨h1, lt_lim (val_lt hm.dg) hle⟩
theorem RI.valid {w : World} {v : Value} {z : Int} (_h : RI w v z) (hz : z.natAbs < lim) : validB (decide (z < 0)) (digs z.natAbs) = true := by
  unfold validB
  have h1 : (digs z.natAbs).length ≤ 400 := len_lim hz
  split
  · rename_i h0
    have := digs_nil.1 (List.eq_nil_of_length_eq_zero h0)
    simp; omega
  · rename_i h0
    have h2 : (digs z.natAbs)[(digs z.natAbs).length - 1]? = some (digs z.natAbs)[(digs z.natAbs).length - 1] := List.getElem?_eq_getElem (by omega)
    have h3 := canon_digs z.natAbs _ (by rw [List.getLast?_eq_getElem?]; exact h2)
    simp only [Bool.and_eq_true, decide_eq_true_eq, bne_iff_ne, getD_of h2]
    exact ⟨h1, h3⟩

/-- The digits are elsewhere than a block without numbers. -/
theorem RM.only {w w' : World} {A : Option Addr} {n c g : Nat} {l : List Nat} {t : TypeId} {cs : Array Value} (h : RM w A n c l) (ho : Only g w w') (hb : Blk w g t cs) (hcs : ∀ (j : Nat) (k : IntKind) (x : Int), cs[j]? ≠ some (.int k x)) : RM w' A n c l := by
  refine ⟨⟨h.rd.1, fun hn => ?_⟩, h.dg, h.nc, h.cm⟩
  obtain ⟨b, o, rfl, hlt, hc⟩ := h.rd.plain hn
  obtain ⟨ad, x, e, _, hx, _, _⟩ := h.at_ hn
  have hne : b ≠ g := by
    rintro rfl
    have := hc 0 _ (mg_get hx)
    rw [hb.cell] at this
    exact hcs _ _ _ this
  refine ⟨_, rfl, Nat.lt_of_lt_of_le hlt ho.size, fun j u hu => ?_⟩
  rw [add_plain]
  exact ho.cell_ (hc j u hu) hne
theorem noInt2 {b : Bool} {A : Option Addr} {n c : Nat} : ∀ (j : Nat) (k : IntKind) (x : Int), #[Value.bool b, Value.slice A n c][j]? ≠ some (.int k x) := by
  intro j k x
  match j with
  | 0 => simp
  | 1 => simp
  | j + 2 => simp
/-- Two stores into a block of the call's own. -/
theorem put2 {w w' : World} {g : Nat} {b0 : Bool} {A0 : Option Addr} {n0 c0 : Nat} (hx : Ext w w') (hg : w.heap.size ≤ g) (hb : Blk w' g 30 #[.bool b0, .slice A0 n0 c0]) (b : Bool) (A : Option Addr) (n c : Nat) :
    Ext w ((w'.setCell ⟨g, 0, none⟩ (.bool b)).setCell ⟨g, 1, none⟩ (.slice A n c)) ∧ Blk ((w'.setCell ⟨g, 0, none⟩ (.bool b)).setCell ⟨g, 1, none⟩ (.slice A n c)) g 30 #[.bool b, .slice A n c] ∧
      ∀ A' n' c' l, RM w' A' n' c' l → RM ((w'.setCell ⟨g, 0, none⟩ (.bool b)).setCell ⟨g, 1, none⟩ (.slice A n c)) A' n' c' l :=
  ⟨(hx.setCell hg _).setCell hg _, (hb.set_ 0 _).set_ 1 _, fun _ _ _ _ h => h.only ((Only.set _ _ _ _).trans (Only.set _ _ _ _)) hb noInt2⟩

theorem load_int {w : World} {g : Nat} {b : Bool} {A : Option Addr} {n c : Nat} (hb : Blk w g 30 #[.bool b, .slice A n c]) : (loadVar 30 ⟨g, 0, none⟩).run Tryz.prog w = .ok (iv b A n c) w := by
  have hc := hb.cell
  simp [go_sem, hc]
section
variable {fn : Func} {R : Ending → World → Prop} {a : Act} {w : World} {t u x g g' : Nat} {b b' : Bool} {A A' : Option Addr} {n c n' c' : Nat}
theorem bp_int1 (hr : fn.results = #[.cell t 30]) (hd : a.defers = []) (hp : a.tmps[t]?.getD undef = .pointer (some ⟨g, 0, none⟩)) (hb : Blk w g 30 #[.bool b, .slice A n c])
    (hR : R (.returned (iv b A n c)) w) : bodyPost Tryz.prog fn R .ret a w := bodyPost_ret (by simp [results, hr, hp, asAddr, load_int hb]) hd hR
theorem bp_int2 (hr : fn.results = #[.cell t 30, .tmp u]) (hd : a.defers = []) (hp : a.tmps[t]?.getD undef = .pointer (some ⟨g, 0, none⟩)) (hb : Blk w g 30 #[.bool b, .slice A n c])
    (hR : R (.returned (.tuple #[iv b A n c, a.tmps.getD u undef])) w) : bodyPost Tryz.prog fn R .ret a w := bodyPost_ret (v := .tuple #[iv b A n c, a.tmps.getD u undef]) (by simp [results, hr, hp, asAddr, load_int hb]) hd hR
theorem bp_int3 (hr : fn.results = #[.cell t 30, .cell u 30, .tmp x]) (hd : a.defers = []) (hp : a.tmps[t]?.getD undef = .pointer (some ⟨g, 0, none⟩)) (hb : Blk w g 30 #[.bool b, .slice A n c])
    (hp' : a.tmps[u]?.getD undef = .pointer (some ⟨g', 0, none⟩)) (hb' : Blk w g' 30 #[.bool b', .slice A' n' c'])
    (hR : R (.returned (.tuple #[iv b A n c, iv b' A' n' c', a.tmps.getD x undef])) w) : bodyPost Tryz.prog fn R .ret a w :=
  bodyPost_ret (v := .tuple #[iv b A n c, iv b' A' n' c', a.tmps.getD x undef]) (by simp [results, hr, hp, hp', asAddr, load_int hb, load_int hb']) hd hR
end

set_option maxRecDepth 100000 in
set_option maxHeartbeats 400000 in
theorem rmade_any (neg : Bool) (A : Option Addr) (n c : Nat) (l : List Nat) (w : World) (h : RM w A n c l) (hn : n ≤ 1000000) :
    Calls Tryz.prog 112 #[.bool neg, .slice A n c] w fun e w' => ∃ v, e = .returned v ∧ RI w' v (zOf neg (val l)) ∧ Ext w w' := by
  go_enter Tryz.func112, Tryz.ntmps112
  go_wp2_with fail
  refine (rtrim_any A n c l _ (h.ext (Ext.new w _)) hn).mono ?_
  rintro e w1 ⟨v1, rfl, ⟨A1, n1, c1, rfl, hR⟩, hx1⟩
  have hn1 : n1 ≤ 9223372036854775807 := Nat.le_trans hR.nc hR.cm
  have hb := (Blk.new w 30 _).ext hx1
  have hc := hb.cell
  have hf := hb.frozen
  obtain ⟨k1, k2, k3⟩ := put2 ((Ext.new w _).trans hx1) (Nat.le_refl _) hb (neg && decide (0 < n1)) A1 n1 c1
  have K1 := Lib.hid k1; have K2 := Lib.hid k2; have K3 := Lib.hid (RX.made neg (k3 _ _ _ _ hR)); clear k1 k2 k3
  by_cases h0 : 0 < n1
  all_goals
    cases neg
    all_goals
      go_wp2
      first
        | simp only [Bool.true_and, Bool.false_and, decide_eq_false h0] at K1 K2 K3
        | simp only [Bool.true_and, Bool.false_and, decide_eq_true h0] at K1 K2 K3
      exact bp_int1 rfl rfl rfl K2.out ⟨_, rfl, K3.out, K1.out⟩
end Go.Proofs.YtclkkoiaaddllaaGreat

/- Contracts: results, small numbers. -/
namespace Go.Proofs.YtclkkoiaaddllaaGreat
open Go.RowKit

/-- A number, or 0 and the error 2 if it has too many digits. -/
def resS (z : Int) : Int × Int := if z.natAbs < lim then (z, 0) else (0, 2)
theorem resS_ok {z : Int} (h : z.natAbs < lim) : resS z = (z, 0) := by unfold resS; rw [if_pos h]
theorem resS_no {z : Int} (h : ¬ z.natAbs < lim) : resS z = (0, 2) := by unfold resS; rw [if_neg h]
/-- An integer and an error. -/
def RetI (p : Int × Int) (v : Value) (w : World) : Prop := ∃ u, v = .tuple #[u, .int .i64 p.2] ∧ RI w u p.1
theorem RetI.ext {w w' : World} {v : Value} {p : Int × Int} (h : RetI p v w) (e : Ext w w') : RetI p v w' := by
  obtain ⟨u, h1, h2⟩ := h
  exact ⟨u, h1, h2.ext e⟩
theorem lt_lim_iff {m n : Nat} (h : (digs m).length = n) : n ≤ 400 ↔ m < lim :=
  ⟨fun h1 => lt_lim (lt_of_digs_len (k := n) (by omega)) h1, fun h1 => by have := len_lim h1; omega⟩

theorem trim_ext (A : Option Addr) (n c : Nat) (l : List Nat) (w : World) (h : RM w A n c l) :
    Calls Tryz.prog 106 #[.slice A n c] w fun e w' => ∃ v, e = .returned v ∧ SlM (digs (val l)) v w' ∧ Ext w w' :=
  (trim_any A n c l w h).mono fun _ _ ⟨⟨v, h1, h2⟩, h3⟩ => ⟨v, h1, h3 ▸ h2, h3 ▸ Ext.refl _⟩

set_option maxRecDepth 100000 in
set_option maxHeartbeats 400000 in
theorem result_any (neg : Bool) (A : Option Addr) (n c : Nat) (l : List Nat) (w : World) (h : RM w A n c l) :
    Calls Tryz.prog 129 #[.bool neg, .slice A n c] w fun e w' => ∃ v, e = .returned v ∧ RetI (resS (zOf neg (val l))) v w' ∧ Ext w w' := by
  go_enter Tryz.func129, Tryz.ntmps129
  go_wp2_with fail
  refine (trim_ext A n c l _ (h.ext (Ext.new w _))).mono ?_
  rintro e w1 ⟨v1, rfl, ⟨A1, n1, c1, rfl, hR⟩, hx1⟩
  have hb := (Blk.new w 30 _).ext hx1
  have hc := hb.cell
  have hf := hb.frozen
  have hn1 : n1 ≤ 9223372036854775807 := Nat.le_trans hR.nc hR.cm
  have hlim := lt_lim_iff hR.len
  have habs := zOf_abs neg (val l)
  by_cases h4 : n1 ≤ 400
  · obtain ⟨k1, k2, k3⟩ := put2 ((Ext.new w _).trans hx1) (Nat.le_refl _) hb (neg && decide (0 < n1)) A1 n1 c1
    have K1 := Lib.hid k1; have K2 := Lib.hid k2; have K3 := Lib.hid (RX.made neg (k3 _ _ _ _ hR)); clear k1 k2 k3
    have HS := Lib.hid (resS_ok (z := zOf neg (val l)) (by rw [habs]; exact hlim.1 h4))
    clear hlim habs
    by_cases h0 : 0 < n1
    all_goals
      cases neg
      all_goals
        go_wp2
        first
          | simp only [Bool.true_and, Bool.false_and, decide_eq_false h0] at K1 K2 K3
          | simp only [Bool.true_and, Bool.false_and, decide_eq_true h0] at K1 K2 K3
        exact bp_int2 rfl rfl rfl K2.out ⟨_, rfl, ⟨_, by rw [HS.out]; rfl, by rw [HS.out]; exact K3.out⟩, K1.out⟩
  · have HS := Lib.hid (resS_no (z := zOf neg (val l)) (by rw [habs]; exact fun h => h4 (hlim.2 h)))
    clear hlim habs
    obtain ⟨k1, k2, _⟩ := put2 ((Ext.new w _).trans hx1) (Nat.le_refl _) hb false none 0 0
    have K1 := Lib.hid k1; have K2 := Lib.hid k2; clear k1 k2
    go_wp2
    exact bp_int2 rfl rfl rfl K2.out ⟨_, rfl, ⟨_, by rw [HS.out]; rfl, by rw [HS.out]; exact RI.zero _⟩, K1.out⟩
end Go.Proofs.YtclkkoiaaddllaaGreat

/- Contracts: digits of words, Of. -/
namespace Go.Proofs.YtclkkoiaaddllaaGreat
open Go.RowKit

set_option maxRecDepth 100000 in
set_option maxHeartbeats 400000 in
theorem rresult_any (v : Value) (z : Int) (w : World) (h : RI w v z) :
    Calls Tryz.prog 111 #[v] w fun e w' => ∃ v, e = .returned v ∧ RetI (resS z) v w' ∧ Ext w w' := by
  obtain ⟨A, n, c, rfl, hm⟩ := h
  have hn : n ≤ 9223372036854775807 := Nat.le_trans hm.nc hm.cm
  have hlim := lt_lim_iff hm.len
  by_cases h4 : n ≤ 400
  · have HS := Lib.hid (resS_ok (z := z) (hlim.1 h4))
    clear hlim
    go_enter Tryz.func111, Tryz.ntmps111
    go_wp2
    exact bp_int2 rfl rfl rfl (Blk.new' _ _ (by simp)) ⟨_, rfl, ⟨_, by rw [HS.out]; rfl, by rw [HS.out]; exact ⟨_, _, _, rfl, hm.ext ((Ext.new _ _).alloc _)⟩⟩, (Ext.new _ _).alloc _⟩
  · have HS := Lib.hid (resS_no (z := z) (fun h => h4 (hlim.2 h)))
    clear hlim
    go_enter Tryz.func111, Tryz.ntmps111
    go_wp2
    exact bp_int2 rfl rfl rfl (Blk.new' _ _ (by simp)) ⟨_, rfl, ⟨_, by rw [HS.out]; rfl, by rw [HS.out]; exact RI.zero _⟩, (Ext.new _ _).alloc _⟩

/-- A block of digits. -/
theorem RM.blk {w : World} {g n : Nat} {l : List Nat} (hb : Blk w g 103 (mg l).toArray) (hd : Dig l) (hn : l.length = n) (hm : n ≤ 9223372036854775807) : RM w (some ⟨g, 0, none⟩) n n l := by
  have := hb.reads (n := n) (size := 1) (by simp [mg_len, hn])
  exact ⟨by simpa using this, hd, Nat.le_refl _, hm⟩
theorem val_two (u : Nat) : val [u % 4294967296, u / 4294967296] = u := by simp only [val]; omega
theorem dig_two {u : Nat} (h : u < 18446744073709551616) : Dig [u % 4294967296, u / 4294967296] := Dig.cons (by omega) (Dig.one (by omega))
theorem u64_wrap (n : Int) : IntKind.u64.wrap n = n % 18446744073709551616 := by simp [IntKind.wrap, IntKind.signed, IntKind.bits]
theorem u64_neg {m : Nat} (h : m ≤ 9223372036854775808) : IntKind.u64.wrap (-IntKind.u64.wrap (-(m : Int))) = (m : Int) := by
  rw [u64_wrap, u64_wrap]; omega
theorem mg_two (u : Nat) : #[Value.int .u32 ((u : Int) % 4294967296), Value.int .u32 ((u : Int) / 4294967296)] = (mg [u % 4294967296, u / 4294967296]).toArray := by
  simp [mg]
theorem mg_two' {u : Nat} (h : u < 18446744073709551616) : #[Value.int .u32 ((u : Int) % 4294967296), Value.int .u32 ((u : Int) / 4294967296 % 4294967296)] = (mg [u % 4294967296, u / 4294967296]).toArray := by
  simp [mg]; omega

set_option maxRecDepth 100000 in
set_option maxHeartbeats 400000 in
theorem rdigits_any (u : Nat) (w : World) (hu : u < 18446744073709551616) :
    Calls Tryz.prog 116 #[.int .u64 (u : Int)] w fun e w' => ∃ v, e = .returned v ∧ SlM (digs u) v w' ∧ Ext w w' := by
  go_enter Tryz.func116, Tryz.ntmps116
  go_wp2_with fail
  rw [mg_two]
  refine (rtrim_any _ 2 2 _ _ (RM.blk (Blk.new _ _ _) (dig_two hu) rfl (by omega)) (by omega)).mono ?_
  rintro e w1 ⟨v1, rfl, hR, hx1⟩
  rw [val_two] at hR
  go_wp2
  go_ret
  exact ⟨_, rfl, hR, (Ext.new _ _).trans hx1⟩

theorem zOf_pos (m : Nat) : zOf false m = (m : Int) := rfl
theorem zOf_min (m : Nat) : zOf true m = -(m : Int) := rfl

set_option maxRecDepth 100000 in
set_option maxHeartbeats 400000 in
theorem Of_any (n : Int) (w : World) (h1 : -9223372036854775808 ≤ n) (h2 : n ≤ 9223372036854775807) :
    Calls Tryz.prog 64 #[.int .i64 n] w fun e w' => ∃ v, e = .returned v ∧ RI w' v n ∧ Ext w w' := by
  by_cases h0 : n < 0
  · obtain ⟨m, rfl⟩ : ∃ m : Nat, n = -(m : Int) := ⟨n.natAbs, by omega⟩
    go_enter Tryz.func64, Tryz.ntmps64
    go_wp2_with fail
    rw [u64_neg (by omega), mg_two' (by omega)]
    refine (trim_ext _ 2 2 _ _ (RM.blk (Blk.new' _ _ (by simp)) (dig_two (by omega)) rfl (by omega))).mono ?_
    rintro e w1 ⟨v1, rfl, ⟨A1, n1, c1, rfl, hR⟩, hx1⟩
    rw [val_two] at hR
    have hb := ((Blk.new w 30 _).alloc _).ext hx1
    have hc := hb.cell
    have hf := hb.frozen
    obtain ⟨k1, k2, k3⟩ := put2 (((Ext.new w _).alloc _).trans hx1) (Nat.le_refl _) hb true A1 n1 c1
    have K1 := Lib.hid k1; have K2 := Lib.hid k2; have K3 := Lib.hid (RX.made true (k3 _ _ _ _ hR)); clear k1 k2 k3
    have hn1 : 0 < n1 := by
      have := hR.len
      rw [← this]
      exact List.length_pos_iff.2 fun e => by have := digs_nil.1 e; omega
    rw [decide_eq_true hn1, Bool.true_and, zOf_min] at K3
    go_wp2
    exact bp_int1 rfl rfl rfl K2.out ⟨_, rfl, K3.out, K1.out⟩
  · obtain ⟨m, rfl⟩ : ∃ m : Nat, n = (m : Int) := ⟨n.natAbs, by omega⟩
    go_enter Tryz.func64, Tryz.ntmps64
    go_wp2_with fail
    rw [mg_two]
    refine (trim_ext _ 2 2 _ _ (RM.blk (Blk.new' _ _ (by simp)) (dig_two (by omega)) rfl (by omega))).mono ?_
    rintro e w1 ⟨v1, rfl, ⟨A1, n1, c1, rfl, hR⟩, hx1⟩
    rw [val_two] at hR
    have hb := ((Blk.new w 30 _).alloc _).ext hx1
    have hc := hb.cell
    have hf := hb.frozen
    obtain ⟨k1, k2, k3⟩ := put2 (((Ext.new w _).alloc _).trans hx1) (Nat.le_refl _) hb false A1 n1 c1
    have K1 := Lib.hid k1; have K2 := Lib.hid k2; have K3 := Lib.hid (RX.made false (k3 _ _ _ _ hR)); clear k1 k2 k3
    rw [Bool.false_and, zOf_pos] at K3
    go_wp2
    exact bp_int1 rfl rfl rfl K2.out ⟨_, rfl, K3.out, K1.out⟩
end Go.Proofs.YtclkkoiaaddllaaGreat

/- Contracts: sums and differences of digits. -/
namespace Go.Proofs.YtclkkoiaaddllaaGreat
open Go.RowKit
set_option linter.unusedVariables false

theorem u32_info : (Tryz.prog.info? 103).map (fun i => (i.zero, i.size, i.bytes)) = some (some (.int .u32 0), 1, 4) := by kernel_rfl
/-- New digits, all 0. -/
theorem make_u32 (x : Int) (k : Nat) (hx : x = k) (hk : k ≤ 10000000) (W : World) :
    (Instr.makeSlice 28 (.int .i64 x) (.int .i64 x)).run Tryz.prog W = .ok (.slice (some ⟨W.heap.size, 0, none⟩) k k) (W.alloc (.cells (mg (List.replicate k 0)).toArray 103)) := by
  obtain ⟨i0, hi0, hz0, hz1, hz2⟩ := info_parts u32_info
  have h := run_make (P := Tryz.prog) W 28 103 i0 (.int .u32 0) Tryz.underlying28 hi0 hz0 .i64 .i64 x x (by omega) (by omega) (by rw [hz2]; omega) (by omega)
  subst hx
  rw [h, mg_replicate]
  have e : madeCells (Value.int .u32 0).cells k = (List.replicate k (Value.int .u32 0)).toArray := madeCells_one _ _
  simp only [hz1, Nat.mul_one, Int.toNat_natCast, e]
theorem set_next {o : List Nat} {k N d : Nat} (ho : o.length = k) (hk : k < N) : (o ++ List.replicate (N - k) 0).set k d = (o ++ [d]) ++ List.replicate (N - (k + 1)) 0 := by
  subst ho
  rw [show N - o.length = (N - (o.length + 1)) + 1 by omega, List.replicate_succ]
  simp
theorem mg_set' {l : List Nat} {k d : Nat} {z : Int} (h : z = (d : Int)) : (mg l).set k (.int .u32 z) = mg (l.set k d) := by subst h; exact mg_set l k d
/-- One more digit of a row that is filled from its head. -/
theorem fill_next {w : World} {g k N d : Nat} {o : List Nat} {z : Int} (hb : Blk w g 103 (mg (o ++ List.replicate (N - k) 0)).toArray) (ho : o.length = k) (hk : k < N) (hz : z = (d : Int)) :
    Blk (w.setCell ⟨g, k, none⟩ (.int .u32 z)) g 103 (mg ((o ++ [d]) ++ List.replicate (N - (k + 1)) 0)).toArray := by
  have := hb.setL (i := k) (.int .u32 z)
  rwa [mg_set' hz, set_next ho hk] at this
theorem fill_cell {w : World} {g k N : Nat} {o : List Nat} (hb : Blk w g 103 (mg (o ++ List.replicate (N - k) 0)).toArray) (ho : o.length = k) (hk : k < N) : ∃ u, w.cell? ⟨g, k, none⟩ = some u := by
  exact hb.cell_some (by simp [mg_len, ho]; omega)

theorem add_step {o a b : List Nat} {k cy x y : Nat} (ho : o.length = k) (h : val o + 4294967296 ^ k * cy = val (a.take k) + val (b.take k)) (hx : a[k]? = some x)
    (hy : val (b.take (k + 1)) = val (b.take k) + 4294967296 ^ k * y) :
    val (o ++ [(x + cy + y) % 4294967296]) + 4294967296 ^ (k + 1) * ((x + cy + y) / 4294967296) = val (a.take (k + 1)) + val (b.take (k + 1)) := by
  rw [val_snoc, val_take_succ hx, hy, ho, Nat.pow_succ, Nat.mul_assoc]
  have e : 4294967296 ^ k * ((x + cy + y) % 4294967296) + 4294967296 ^ k * (4294967296 * ((x + cy + y) / 4294967296)) = 4294967296 ^ k * (x + cy + y) := by
    rw [← Nat.mul_add]; congr 1; omega
  have e2 : 4294967296 ^ k * (x + cy + y) = 4294967296 ^ k * x + 4294967296 ^ k * cy + 4294967296 ^ k * y := by rw [Nat.mul_add, Nat.mul_add]
  omega

theorem val_short {b : List Nat} {m k : Nat} (h : b.length = m) (hk : ¬ k < m) : val (b.take (k + 1)) = val (b.take k) + 4294967296 ^ k * 0 := by rw [val_take_over (by omega)]; rfl

set_option maxRecDepth 100000 in
set_option maxHeartbeats 800000 in
theorem addMag_ge (A B : Option Addr) (n m c d : Nat) (a b : List Nat) (w : World) (hA : RM w A n c a) (hB : RM w B m d b) (hn : n ≤ 1000000) (hm : m ≤ 1000000) (hnm : m ≤ n) :
    Calls Tryz.prog 127 #[.slice A n c, .slice B m d] w fun e w' => ∃ v, e = .returned v ∧ SlM (digs (val a + val b)) v w' ∧ Ext w w' := by
  have HA := Lib.hid hA.len
  have HB := Lib.hid hB.len
  have hmk := make_u32 ((n : Int) + 1) (n + 1) (by omega) (by omega)
  go_enter Tryz.func127, Tryz.ntmps127
  go_wp2
  clear hmk
  go_loopw [6, 22] (fun cv i wr => ∃ (k cy : Nat) (o : List Nat), k ≤ n ∧ i = .int .i64 k ∧ cv = .int .u64 (cy : Int) ∧ cy ≤ 1 ∧ o.length = k ∧ Dig o ∧ val o + 4294967296 ^ k * cy = val (a.take k) + val (b.take k) ∧
      Blk wr w.heap.size 103 (mg (o ++ List.replicate (n + 1 - k) 0)).toArray ∧ Ext w wr) (fun _ i _ => n - (intOf i).toNat)
  case atStart => exact ⟨0, 0, [], Nat.zero_le _, rfl, rfl, by omega, rfl, Dig.nil, by simp [val], by simpa using Blk.new w _ _, Ext.new _ _⟩
  case round =>
    obtain ⟨k, cy, o, hk, rfl, rfl, hcy, ho, hd, hv, hb, hex⟩ := hrel
    have HV := Lib.hid hv; clear hv
    have HO := Lib.hid ho
    have HD := Lib.hid hd; clear hd
    by_cases hlt : k < n
    · obtain ⟨ad, x, rfl, _, hx, hx32, hcx⟩ := (hA.ext hex).at_ hlt
      have HX := Lib.hid hx; clear hx
      obtain ⟨old, c7⟩ := fill_cell hb ho (by omega)
      have f7 := hb.frozen k
      clear ho
      have HBK := Lib.hid hb; clear hb
      by_cases hlm : k < m
      · obtain ⟨bd, y, rfl, _, hy, hy32, hcy'⟩ := (hB.ext hex).at_ hlm
        have HY := Lib.hid hy; clear hy
        go_wp2
        go_roundw
        case rel =>
          refine ⟨k + 1, (x + cy + y) / 4294967296, o ++ [(x + cy + y) % 4294967296], by omega, by go_num, by go_num, by omega, by simp [HO.out], HD.out.append (Dig.one (by omega)), add_step HO.out HV.out HX.out (val_take_succ HY.out), fill_next HBK.out HO.out (by omega) (by omega), hex.setCell (Nat.le_refl _) _⟩
        case measure => simp [intOf] <;> omega
      · go_wp2
        go_roundw
        case rel =>
          refine ⟨k + 1, (x + cy + 0) / 4294967296, o ++ [(x + cy + 0) % 4294967296], by omega, by go_num, by go_num, by omega, by simp [HO.out], HD.out.append (Dig.one (by omega)), add_step HO.out HV.out HX.out (val_short HB.out hlm), fill_next HBK.out HO.out (by omega) (by omega), hex.setCell (Nat.le_refl _) _⟩
        case measure => simp [intOf] <;> omega
    · obtain rfl : k = n := by omega
      obtain ⟨old, c7⟩ := fill_cell hb ho (by omega)
      have f7 := hb.frozen k
      clear ho
      have HBK := Lib.hid hb; clear hb
      go_wp2_with fail
      have hb1 := fill_next (d := cy) HBK.out HO.out (by omega) rfl
      have hex1 := hex.setCell (p := ⟨w.heap.size, k, none⟩) (Nat.le_refl _) (.int .u32 (cy : Int))
      simp only [Nat.sub_self, List.replicate_zero, List.append_nil] at hb1
      have hval : val (o ++ [cy]) = val a + val b := by
        have := HV.out
        rw [List.take_of_length_le (by rw [HA.out]; omega), List.take_of_length_le (by rw [HB.out]; omega)] at this
        rw [val_snoc, HO.out]; exact this
      refine (trim_ext _ (k + 1) (k + 1) (o ++ [cy]) _ (RM.blk hb1 (HD.out.append (Dig.one (by omega))) (by simp [HO.out]) (by omega))).mono ?_
      rintro e w1 ⟨v1, rfl, hR, hx1⟩
      rw [hval] at hR
      go_wp2
      go_ret
      exact ⟨_, rfl, hR, hex1.trans hx1⟩
set_option maxRecDepth 100000 in
set_option maxHeartbeats 800000 in
theorem addMag_lt (A B : Option Addr) (n m c d : Nat) (a b : List Nat) (w : World) (hA : RM w A n c a) (hB : RM w B m d b) (hn : n ≤ 1000000) (hm : m ≤ 1000000) (hnm : n < m) :
    Calls Tryz.prog 127 #[.slice A n c, .slice B m d] w fun e w' => ∃ v, e = .returned v ∧ SlM (digs (val b + val a)) v w' ∧ Ext w w' := by
  have HA := Lib.hid hB.len
  have HB := Lib.hid hA.len
  have hmk := make_u32 ((m : Int) + 1) (m + 1) (by omega) (by omega)
  go_enter Tryz.func127, Tryz.ntmps127
  go_wp2
  clear hmk
  go_loopw [6, 22] (fun cv i wr => ∃ (k cy : Nat) (o : List Nat), k ≤ m ∧ i = .int .i64 k ∧ cv = .int .u64 (cy : Int) ∧ cy ≤ 1 ∧ o.length = k ∧ Dig o ∧ val o + 4294967296 ^ k * cy = val (b.take k) + val (a.take k) ∧
      Blk wr w.heap.size 103 (mg (o ++ List.replicate (m + 1 - k) 0)).toArray ∧ Ext w wr) (fun _ i _ => m - (intOf i).toNat)
  case atStart => exact ⟨0, 0, [], Nat.zero_le _, rfl, rfl, by omega, rfl, Dig.nil, by simp [val], by simpa using Blk.new w _ _, Ext.new _ _⟩
  case round =>
    obtain ⟨k, cy, o, hk, rfl, rfl, hcy, ho, hd, hv, hb, hex⟩ := hrel
    have HV := Lib.hid hv; clear hv
    have HO := Lib.hid ho
    have HD := Lib.hid hd; clear hd
    by_cases hlt : k < m
    · obtain ⟨ad, x, rfl, _, hx, hx32, hcx⟩ := (hB.ext hex).at_ hlt
      have HX := Lib.hid hx; clear hx
      obtain ⟨old, c7⟩ := fill_cell hb ho (by omega)
      have f7 := hb.frozen k
      clear ho
      have HBK := Lib.hid hb; clear hb
      by_cases hlm : k < n
      · obtain ⟨bd, y, rfl, _, hy, hy32, hcy'⟩ := (hA.ext hex).at_ hlm
        have HY := Lib.hid hy; clear hy
        go_wp2
        go_roundw
        case rel =>
          refine ⟨k + 1, (x + cy + y) / 4294967296, o ++ [(x + cy + y) % 4294967296], by omega, by go_num, by go_num, by omega, by simp [HO.out], HD.out.append (Dig.one (by omega)), add_step HO.out HV.out HX.out (val_take_succ HY.out), fill_next HBK.out HO.out (by omega) (by omega), hex.setCell (Nat.le_refl _) _⟩
        case measure => simp [intOf] <;> omega
      · go_wp2
        go_roundw
        case rel =>
          refine ⟨k + 1, (x + cy + 0) / 4294967296, o ++ [(x + cy + 0) % 4294967296], by omega, by go_num, by go_num, by omega, by simp [HO.out], HD.out.append (Dig.one (by omega)), add_step HO.out HV.out HX.out (val_short HB.out hlm), fill_next HBK.out HO.out (by omega) (by omega), hex.setCell (Nat.le_refl _) _⟩
        case measure => simp [intOf] <;> omega
    · obtain rfl : k = m := by omega
      obtain ⟨old, c7⟩ := fill_cell hb ho (by omega)
      have f7 := hb.frozen k
      clear ho
      have HBK := Lib.hid hb; clear hb
      go_wp2_with fail
      have hb1 := fill_next (d := cy) HBK.out HO.out (by omega) rfl
      have hex1 := hex.setCell (p := ⟨w.heap.size, k, none⟩) (Nat.le_refl _) (.int .u32 (cy : Int))
      simp only [Nat.sub_self, List.replicate_zero, List.append_nil] at hb1
      have hval : val (o ++ [cy]) = val b + val a := by
        have := HV.out
        rw [List.take_of_length_le (by rw [HA.out]; omega), List.take_of_length_le (by rw [HB.out]; omega)] at this
        rw [val_snoc, HO.out]; exact this
      refine (trim_ext _ (k + 1) (k + 1) (o ++ [cy]) _ (RM.blk hb1 (HD.out.append (Dig.one (by omega))) (by simp [HO.out]) (by omega))).mono ?_
      rintro e w1 ⟨v1, rfl, hR, hx1⟩
      rw [hval] at hR
      go_wp2
      go_ret
      exact ⟨_, rfl, hR, hex1.trans hx1⟩
theorem addMag_any (A B : Option Addr) (n m c d : Nat) (a b : List Nat) (w : World) (hA : RM w A n c a) (hB : RM w B m d b) (hn : n ≤ 1000000) (hm : m ≤ 1000000) :
    Calls Tryz.prog 127 #[.slice A n c, .slice B m d] w fun e w' => ∃ v, e = .returned v ∧ SlM (digs (val a + val b)) v w' ∧ Ext w w' := by
  rcases Nat.lt_or_ge n m with h | h
  · rw [Nat.add_comm]; exact addMag_lt A B n m c d a b w hA hB hn hm h
  · exact addMag_ge A B n m c d a b w hA hB hn hm h

/-! Differences. -/
/-- A digit of a difference, and what is borrowed. -/
def sdig (t : Int) : Nat := (t % 4294967296).toNat
def sbor (t : Int) : Nat := if t < 0 then 1 else 0
theorem sdig_lt (t : Int) : sdig t < 4294967296 := by unfold sdig; omega
theorem sub_d1 {x bo : Nat} (hx : x < 4294967296) (hb : bo ≤ 1) : IntKind.u64.wrap ((x : Int) - bo) % 4294967296 = (sdig ((x : Int) - bo - (0 : Nat)) : Int) := by
  rw [u64_wrap]; unfold sdig; omega
theorem sub_b1 {x bo : Nat} (hx : x < 4294967296) (hb : bo ≤ 1) : IntKind.u64.wrap ((x : Int) - bo) / 9223372036854775808 = (sbor ((x : Int) - bo - (0 : Nat)) : Int) := by
  rw [u64_wrap]; unfold sbor; split <;> omega
theorem sub_d2 {x y bo : Nat} (hx : x < 4294967296) (hy : y < 4294967296) (hb : bo ≤ 1) : IntKind.u64.wrap (IntKind.u64.wrap ((x : Int) - bo) - y) % 4294967296 = (sdig ((x : Int) - bo - y) : Int) := by
  rw [u64_wrap, u64_wrap]; unfold sdig; omega
theorem sub_b2 {x y bo : Nat} (hx : x < 4294967296) (hy : y < 4294967296) (hb : bo ≤ 1) : IntKind.u64.wrap (IntKind.u64.wrap ((x : Int) - bo) - y) / 9223372036854775808 = (sbor ((x : Int) - bo - y) : Int) := by
  rw [u64_wrap, u64_wrap]; unfold sbor; split <;> omega
theorem sdig_eq {x y bo : Nat} (hx : x < 4294967296) (hy : y < 4294967296) (hb : bo ≤ 1) : x + 4294967296 * sbor ((x : Int) - bo - y) = y + bo + sdig ((x : Int) - bo - y) := by
  unfold sdig sbor; split <;> omega
theorem sub_step {o a b : List Nat} {k bo x y : Nat} (ho : o.length = k) (h : val (a.take k) + 4294967296 ^ k * bo = val (b.take k) + val o) (hx : a[k]? = some x) (hy : val (b.take (k + 1)) = val (b.take k) + 4294967296 ^ k * y)
    (hx32 : x < 4294967296) (hy32 : y < 4294967296) (hb : bo ≤ 1) :
    val (a.take (k + 1)) + 4294967296 ^ (k + 1) * sbor ((x : Int) - bo - y) = val (b.take (k + 1)) + val (o ++ [sdig ((x : Int) - bo - y)]) := by
  have h1 := sdig_eq hx32 hy32 hb
  rw [val_snoc, val_take_succ hx, hy, ho, Nat.pow_succ, Nat.mul_assoc]
  have e : 4294967296 ^ k * x + 4294967296 ^ k * (4294967296 * sbor ((x : Int) - bo - y)) = 4294967296 ^ k * y + 4294967296 ^ k * bo + 4294967296 ^ k * sdig ((x : Int) - bo - y) := by
    rw [← Nat.mul_add, h1, Nat.mul_add, Nat.mul_add]
  omega
theorem sub_end {o a b : List Nat} {k bo : Nat} (ho : o.length = k) (hd : Dig o) (ha : a.length = k) (hb : b.length ≤ k) (h : val (a.take k) + 4294967296 ^ k * bo = val (b.take k) + val o) (hab : val b ≤ val a) : val o = val a - val b := by
  rw [List.take_of_length_le (by omega), List.take_of_length_le hb] at h
  have h1 := val_lt hd
  rw [ho] at h1
  have h2 : bo = 0 := by
    rcases Nat.eq_zero_or_pos bo with h0 | h0
    · exact h0
    · have : 4294967296 ^ k * 1 ≤ 4294967296 ^ k * bo := Nat.mul_le_mul_left _ h0
      omega
  subst h2
  omega
theorem sbor_le (t : Int) : sbor t ≤ 1 := by unfold sbor; split <;> omega

set_option maxRecDepth 100000 in
set_option maxHeartbeats 800000 in
theorem subMag_any (A B : Option Addr) (n m c d : Nat) (a b : List Nat) (w : World) (hA : RM w A n c a) (hB : RM w B m d b) (hn : n ≤ 1000000) (hm : m ≤ n) (hab : val b ≤ val a) :
    Calls Tryz.prog 128 #[.slice A n c, .slice B m d] w fun e w' => ∃ v, e = .returned v ∧ SlM (digs (val a - val b)) v w' ∧ Ext w w' := by
  have HA := Lib.hid hA.len
  have HB := Lib.hid hB.len
  have hmk := make_u32 (n : Int) n rfl (by omega)
  go_enter Tryz.func128, Tryz.ntmps128
  go_wp2
  clear hmk
  go_loopw [6, 14] (fun cv i wr => ∃ (k bo : Nat) (o : List Nat), k ≤ n ∧ i = .int .i64 k ∧ cv = .int .u64 (bo : Int) ∧ bo ≤ 1 ∧ o.length = k ∧ Dig o ∧ val (a.take k) + 4294967296 ^ k * bo = val (b.take k) + val o ∧
      Blk wr w.heap.size 103 (mg (o ++ List.replicate (n - k) 0)).toArray ∧ Ext w wr) (fun _ i _ => n - (intOf i).toNat)
  case atStart => exact ⟨0, 0, [], Nat.zero_le _, rfl, rfl, by omega, rfl, Dig.nil, by simp [val], by simpa using Blk.new w _ _, Ext.new _ _⟩
  case round =>
    obtain ⟨k, bo, o, hk, rfl, rfl, hbo, ho, hd, hv, hb, hex⟩ := hrel
    have HV := Lib.hid hv; clear hv
    have HO := Lib.hid ho
    have HD := Lib.hid hd; clear hd
    by_cases hlt : k < n
    · obtain ⟨ad, x, rfl, _, hx, hx32, hcx⟩ := (hA.ext hex).at_ hlt
      have HX := Lib.hid hx; clear hx
      obtain ⟨old, c7⟩ := fill_cell hb ho (by omega)
      have f7 := hb.frozen k
      clear ho
      have HBK := Lib.hid hb; clear hb
      by_cases hlm : k < m
      · obtain ⟨bd, y, rfl, _, hy, hy32, hcy'⟩ := (hB.ext hex).at_ hlm
        have HY := Lib.hid hy; clear hy
        go_wp2
        go_roundw
        case rel =>
          exact ⟨k + 1, sbor ((x : Int) - bo - y), o ++ [sdig ((x : Int) - bo - y)], by omega, by go_num, by rw [sub_b2 hx32 hy32 hbo], sbor_le _, by simp [HO.out], HD.out.append (Dig.one (sdig_lt _)), sub_step HO.out HV.out HX.out (val_take_succ HY.out) hx32 hy32 hbo, fill_next HBK.out HO.out (by omega) (sub_d2 hx32 hy32 hbo), hex.setCell (Nat.le_refl _) _⟩
        case measure => simp [intOf] <;> omega
      · go_wp2
        go_roundw
        case rel =>
          exact ⟨k + 1, sbor ((x : Int) - bo - (0 : Nat)), o ++ [sdig ((x : Int) - bo - (0 : Nat))], by omega, by go_num, by rw [sub_b1 hx32 hbo], sbor_le _, by simp [HO.out], HD.out.append (Dig.one (sdig_lt _)), sub_step HO.out HV.out HX.out (val_short HB.out hlm) hx32 (by omega) hbo, fill_next HBK.out HO.out (by omega) (sub_d1 hx32 hbo), hex.setCell (Nat.le_refl _) _⟩
        case measure => simp [intOf] <;> omega
    · obtain rfl : k = n := by omega
      go_wp2_with fail
      simp only [Nat.sub_self, List.replicate_zero, List.append_nil] at hb
      have hval := sub_end HO.out HD.out HA.out (by rw [HB.out]; exact hm) HV.out hab
      refine (trim_ext _ k k o _ (RM.blk hb HD.out HO.out (by omega))).mono ?_
      rintro e w1 ⟨v1, rfl, hR, hx1⟩
      rw [hval] at hR
      go_wp2
      go_ret
      exact ⟨_, rfl, hR, hex.trans hx1⟩
end Go.Proofs.YtclkkoiaaddllaaGreat

/- Contracts: the reference's sums and differences of digits. -/
namespace Go.Proofs.YtclkkoiaaddllaaGreat
open Go.RowKit
set_option linter.unusedVariables false

theorem sum_step {o a b : List Nat} {k cy x y : Nat} (ho : o.length = k) (h : val o + 4294967296 ^ k * cy = val (a.take k) + val (b.take k)) (hx : val (a.take (k + 1)) = val (a.take k) + 4294967296 ^ k * x)
    (hy : val (b.take (k + 1)) = val (b.take k) + 4294967296 ^ k * y) :
    val (o ++ [(cy + x + y) % 4294967296]) + 4294967296 ^ (k + 1) * ((cy + x + y) / 4294967296) = val (a.take (k + 1)) + val (b.take (k + 1)) := by
  rw [val_snoc, hx, hy, ho, Nat.pow_succ, Nat.mul_assoc]
  have e : 4294967296 ^ k * ((cy + x + y) % 4294967296) + 4294967296 ^ k * (4294967296 * ((cy + x + y) / 4294967296)) = 4294967296 ^ k * (cy + x + y) := by
    rw [← Nat.mul_add]; congr 1; omega
  have e2 : 4294967296 ^ k * (cy + x + y) = 4294967296 ^ k * x + 4294967296 ^ k * cy + 4294967296 ^ k * y := by rw [Nat.mul_add, Nat.mul_add]; omega
  omega
theorem mg_snoc {o : List Nat} {d : Nat} {z : Int} (h : z = (d : Int)) : mg o ++ [.int .u32 z] = mg (o ++ [d]) := by subst h; simp [mg]

/-- Digits of a value, not more than k of them. -/
def SlV (k n : Nat) (v : Value) (w : World) : Prop := ∃ l, SlM l v w ∧ val l = n ∧ l.length ≤ k

set_option maxRecDepth 100000 in
set_option maxHeartbeats 1600000 in
theorem rplus_any (A B : Option Addr) (n m c d : Nat) (a b : List Nat) (w : World) (hA : RM w A n c a) (hB : RM w B m d b) (hn : n ≤ 1000000) (hm : m ≤ 1000000) :
    Calls Tryz.prog 114 #[.slice A n c, .slice B m d] w fun e w' => ∃ v, e = .returned v ∧ SlV (max n m + 1) (val a + val b) v w' ∧ Ext w w' := by
  have HA := Lib.hid hA.len
  have HB := Lib.hid hB.len
  go_enter Tryz.func114, Tryz.ntmps114
  go_wp2
  go_loopw [5, 6, 7] (fun ov cv i wr => ∃ (k cy : Nat) (o : List Nat), k ≤ max n m + 1 ∧ i = .int .i64 k ∧ cv = .int .u64 (cy : Int) ∧ cy ≤ 1 ∧ (max n m < k → cy = 0) ∧ o.length = k ∧ Dig o ∧ val o + 4294967296 ^ k * cy = val (a.take k) + val (b.take k) ∧
      wr.ownsRow w.heap.size 103 1 ov k (mg o) ∧ Ext w wr) (fun _ _ i _ => n + m + 2 - (intOf i).toNat)
  case atStart => exact ⟨0, 0, [], Nat.zero_le _, rfl, rfl, by omega, fun _ => rfl, rfl, Dig.nil, by simp [val], World.ownsRow_nil _ _ _ _, Ext.refl _⟩
  case round =>
    obtain ⟨k, cy, o, hk, rfl, rfl, hcy, hcz, ho, hd, hv, hown, hex⟩ := hrel
    have HV := Lib.hid hv; clear hv
    have HO := Lib.hid ho; clear ho
    have HD := Lib.hid hd; clear hd
    have HOW := Lib.hid hown; clear hown
    have hkb : k ≤ n + m + 1 := by omega
    by_cases hlt : k < n
    · obtain ⟨ad, x, rfl, _, hx, hx32, hcx⟩ := (hA.ext hex).at_ hlt
      have HX := Lib.hid (val_take_succ hx); clear hx
      clear hcz
      by_cases hlm : k < m
      · obtain ⟨bd, y, rfl, _, hy, hy32, hcy'⟩ := (hB.ext hex).at_ hlm
        have HY := Lib.hid (val_take_succ hy); clear hy
        go_wp2_with (at_builtin; refine wpList_app elem_u32 rfl (.tmp 46) (.tmp 49) rfl w.heap.size u5 k (mg o) (by rfl) (HOW.out.alloc _) wr.heap.size 1 1 [.int .u32 (((cy : Int) + x + y) % 4294967296)] (by rfl) (Blk.new _ _ _) rfl (by simp [Value.oneCell']) (by omega) (by omega) (by omega) (by have := hex.size; simp; omega) ?_)
        intro g1 cap1 w1 ho1 hg1 _ _
        have hex1 := own_grown hg1 (hex.alloc _) (fun g h => (HOW.out.lt g h).1)
        have HO1 := Lib.hid ho1; clear ho1 hg1
        go_wp2
        go_roundw
        case rel =>
          refine ⟨k + 1, (cy + x + y) / 4294967296, o ++ [(cy + x + y) % 4294967296], by omega, by go_num, by go_num, by omega, fun h => by omega, by simp [HO.out], HD.out.append (Dig.one (by omega)), sum_step HO.out HV.out HX.out HY.out, ?_, hex1⟩
          have := HO1.out
          rwa [mg_snoc (d := (cy + x + y) % 4294967296) (by omega)] at this
        case measure => simp [intOf] <;> omega
      · go_wp2_with (at_builtin; refine wpList_app elem_u32 rfl (.tmp 46) (.tmp 49) rfl w.heap.size u5 k (mg o) (by rfl) (HOW.out.alloc _) wr.heap.size 1 1 [.int .u32 (((cy : Int) + x) % 4294967296)] (by rfl) (Blk.new _ _ _) rfl (by simp [Value.oneCell']) (by omega) (by omega) (by omega) (by have := hex.size; simp; omega) ?_)
        intro g1 cap1 w1 ho1 hg1 _ _
        have hex1 := own_grown hg1 (hex.alloc _) (fun g h => (HOW.out.lt g h).1)
        have HO1 := Lib.hid ho1; clear ho1 hg1
        go_wp2
        go_roundw
        case rel =>
          refine ⟨k + 1, (cy + x + 0) / 4294967296, o ++ [(cy + x + 0) % 4294967296], by omega, by go_num, by go_num, by omega, fun h => by omega, by simp [HO.out], HD.out.append (Dig.one (by omega)), sum_step HO.out HV.out HX.out (val_short HB.out hlm), ?_, hex1⟩
          have := HO1.out
          rwa [mg_snoc (d := (cy + x + 0) % 4294967296) (by omega)] at this
        case measure => simp [intOf] <;> omega
    · by_cases hlm : k < m
      · obtain ⟨bd, y, rfl, _, hy, hy32, hcy'⟩ := (hB.ext hex).at_ hlm
        have HY := Lib.hid (val_take_succ hy); clear hy
        clear hcz
        go_wp2_with (at_builtin; refine wpList_app elem_u32 rfl (.tmp 46) (.tmp 49) rfl w.heap.size u5 k (mg o) (by rfl) (HOW.out.alloc _) wr.heap.size 1 1 [.int .u32 (((cy : Int) + y) % 4294967296)] (by rfl) (Blk.new _ _ _) rfl (by simp [Value.oneCell']) (by omega) (by omega) (by omega) (by have := hex.size; simp; omega) ?_)
        intro g1 cap1 w1 ho1 hg1 _ _
        have hex1 := own_grown hg1 (hex.alloc _) (fun g h => (HOW.out.lt g h).1)
        have HO1 := Lib.hid ho1; clear ho1 hg1
        go_wp2
        go_roundw
        case rel =>
          refine ⟨k + 1, (cy + 0 + y) / 4294967296, o ++ [(cy + 0 + y) % 4294967296], by omega, by go_num, by go_num, by omega, fun h => by omega, by simp [HO.out], HD.out.append (Dig.one (by omega)), sum_step HO.out HV.out (val_short HA.out hlt) HY.out, ?_, hex1⟩
          have := HO1.out
          rwa [mg_snoc (d := (cy + 0 + y) % 4294967296) (by omega)] at this
        case measure => simp [intOf] <;> omega
      · by_cases hc0 : 0 < cy
        · obtain rfl : cy = 1 := by omega
          have hkk : k ≤ max n m := by
            rcases Nat.lt_or_ge (max n m) k with h | h
            · exact absurd (hcz h) (by omega)
            · exact h
          clear hcz
          go_wp2_with (at_builtin; refine wpList_app elem_u32 rfl (.tmp 46) (.tmp 49) rfl w.heap.size u5 k (mg o) (by rfl) (HOW.out.alloc _) wr.heap.size 1 1 [.int .u32 (1)] (by rfl) (Blk.new _ _ _) rfl (by simp [Value.oneCell']) (by omega) (by omega) (by omega) (by have := hex.size; simp; omega) ?_)
          intro g1 cap1 w1 ho1 hg1 _ _
          have hex1 := own_grown hg1 (hex.alloc _) (fun g h => (HOW.out.lt g h).1)
          have HO1 := Lib.hid ho1; clear ho1 hg1
          go_wp2
          go_roundw
          case rel =>
            refine ⟨k + 1, (1 + 0 + 0) / 4294967296, o ++ [(1 + 0 + 0) % 4294967296], by omega, by go_num, by go_num, by omega, fun h => by omega, by simp [HO.out], HD.out.append (Dig.one (by omega)), sum_step HO.out HV.out (val_short HA.out hlt) (val_short HB.out hlm), ?_, hex1⟩
            have := HO1.out
            rwa [mg_snoc (d := (1 + 0 + 0) % 4294967296) (by omega)] at this
          case measure => simp [intOf] <;> omega
        · obtain rfl : cy = 0 := by omega
          clear hcz
          go_wp2
          go_ret
          refine ⟨_, rfl, ⟨o, RM.of_own HOW.out HD.out, ?_, by rw [HO.out]; exact hk⟩, hex⟩
          have := HV.out
          rw [List.take_of_length_le (by rw [HA.out]; omega), List.take_of_length_le (by rw [HB.out]; omega)] at this
          simpa using this

set_option maxRecDepth 100000 in
set_option maxHeartbeats 1600000 in
theorem rminus_fresh (A B : Option Addr) (n m c d : Nat) (a b : List Nat) (w : World) (hA : RM w A n c a) (hB : RM w B m d b) (hn : n ≤ 1000000) (hm : m ≤ n) (hab : val b ≤ val a) :
    Calls Tryz.prog 115 #[.slice A n c, .slice B m d] w fun e w' => ∃ v, e = .returned v ∧ (SlM (digs (val a - val b)) v w' ∧ ∀ g, v.ownBlock = some g → w.heap.size ≤ g) ∧ Ext w w' := by
  have HA := Lib.hid hA.len
  have HB := Lib.hid hB.len
  go_enter Tryz.func115, Tryz.ntmps115
  go_wp2
  go_loopw [5, 6, 7] (fun ov cv i wr => ∃ (k bo : Nat) (o : List Nat), k ≤ n ∧ i = .int .i64 k ∧ cv = .int .u64 (bo : Int) ∧ bo ≤ 1 ∧ o.length = k ∧ Dig o ∧ val (a.take k) + 4294967296 ^ k * bo = val (b.take k) + val o ∧
      wr.ownsRow w.heap.size 103 1 ov k (mg o) ∧ Ext w wr) (fun _ _ i _ => n - (intOf i).toNat)
  case atStart => exact ⟨0, 0, [], Nat.zero_le _, rfl, rfl, by omega, rfl, Dig.nil, by simp [val], World.ownsRow_nil _ _ _ _, Ext.refl _⟩
  case round =>
    obtain ⟨k, bo, o, hk, rfl, rfl, hbo, ho, hd, hv, hown, hex⟩ := hrel
    have HV := Lib.hid hv; clear hv
    have HO := Lib.hid ho; clear ho
    have HD := Lib.hid hd; clear hd
    have HOW := Lib.hid hown; clear hown
    by_cases hlt : k < n
    · obtain ⟨ad, x, rfl, _, hx, hx32, hcx⟩ := (hA.ext hex).at_ hlt
      have HX := Lib.hid hx; clear hx
      by_cases hlm : k < m
      · obtain ⟨bd, y, rfl, _, hy, hy32, hcy'⟩ := (hB.ext hex).at_ hlm
        have HY := Lib.hid hy; clear hy
        go_wp2_with (at_builtin; refine wpList_app elem_u32 rfl (.tmp 33) (.tmp 36) rfl w.heap.size u5 k (mg o) (by rfl) (HOW.out.alloc _) wr.heap.size 1 1 [.int .u32 (IntKind.u64.wrap (IntKind.u64.wrap ((x : Int) - bo) - y) % 4294967296)] (by rfl) (Blk.new _ _ _) rfl (by simp [Value.oneCell']) (by omega) (by omega) (by omega) (by have := hex.size; simp; omega) ?_)
        intro g1 cap1 w1 ho1 hg1 _ _
        have hex1 := own_grown hg1 (hex.alloc _) (fun g h => (HOW.out.lt g h).1)
        have HO1 := Lib.hid ho1; clear ho1 hg1
        go_wp2
        go_roundw
        case rel =>
          refine ⟨k + 1, sbor ((x : Int) - bo - y), o ++ [sdig ((x : Int) - bo - y)], by omega, by go_num, by rw [sub_b2 hx32 hy32 hbo], sbor_le _, by simp [HO.out], HD.out.append (Dig.one (sdig_lt _)), sub_step HO.out HV.out HX.out (val_take_succ HY.out) hx32 hy32 hbo, ?_, hex1⟩
          have := HO1.out
          rwa [mg_snoc (sub_d2 hx32 hy32 hbo)] at this
        case measure => simp [intOf] <;> omega
      · go_wp2_with (at_builtin; refine wpList_app elem_u32 rfl (.tmp 33) (.tmp 36) rfl w.heap.size u5 k (mg o) (by rfl) (HOW.out.alloc _) wr.heap.size 1 1 [.int .u32 (IntKind.u64.wrap ((x : Int) - bo) % 4294967296)] (by rfl) (Blk.new _ _ _) rfl (by simp [Value.oneCell']) (by omega) (by omega) (by omega) (by have := hex.size; simp; omega) ?_)
        intro g1 cap1 w1 ho1 hg1 _ _
        have hex1 := own_grown hg1 (hex.alloc _) (fun g h => (HOW.out.lt g h).1)
        have HO1 := Lib.hid ho1; clear ho1 hg1
        go_wp2
        go_roundw
        case rel =>
          refine ⟨k + 1, sbor ((x : Int) - bo - (0 : Nat)), o ++ [sdig ((x : Int) - bo - (0 : Nat))], by omega, by go_num, by rw [sub_b1 hx32 hbo], sbor_le _, by simp [HO.out], HD.out.append (Dig.one (sdig_lt _)), sub_step HO.out HV.out HX.out (val_short HB.out hlm) hx32 (by omega) hbo, ?_, hex1⟩
          have := HO1.out
          rwa [mg_snoc (sub_d1 hx32 hbo)] at this
        case measure => simp [intOf] <;> omega
    · obtain rfl : k = n := by omega
      obtain ⟨A1, n1, c1, rfl, hR⟩ := RM.of_own HOW.out HD.out
      have hl1 := hR.len
      obtain rfl : n1 = k := by rw [← hl1, HO.out]
      have hval := sub_end HO.out HD.out HA.out (by rw [HB.out]; exact hm) HV.out hab
      have HVAL := Lib.hid hval; clear hval hl1
      go_wp2_with fail
      refine (rtrim_fresh A1 n1 c1 o _ hR hn).mono ?_
      rintro e w1 ⟨v1, rfl, ⟨hR, hfr⟩, hx1⟩
      rw [HVAL.out] at hR
      have HF := Lib.hid hfr; clear hfr
      go_wp2
      go_ret
      exact ⟨_, rfl, ⟨hR, fun g hg => Nat.le_trans hex.size (HF.out g hg)⟩, hex.trans hx1⟩
theorem rminus_any (A B : Option Addr) (n m c d : Nat) (a b : List Nat) (w : World) (hA : RM w A n c a) (hB : RM w B m d b) (hn : n ≤ 1000000) (hm : m ≤ n) (hab : val b ≤ val a) :
    Calls Tryz.prog 115 #[.slice A n c, .slice B m d] w fun e w' => ∃ v, e = .returned v ∧ SlM (digs (val a - val b)) v w' ∧ Ext w w' :=
  (rminus_fresh A B n m c d a b w hA hB hn hm hab).mono fun _ _ ⟨v, h1, h2, h3⟩ => ⟨v, h1, h2.1, h3⟩
end Go.Proofs.YtclkkoiaaddllaaGreat

/- Contracts: products of digits. -/
namespace Go.Proofs.YtclkkoiaaddllaaGreat
open Go.RowKit
set_option linter.unusedVariables false

/-- Digits from k on are 0. -/
def ZeroFrom (p : List Nat) (k : Nat) : Prop := ∀ t z, k ≤ t → p[t]? = some z → z = 0
theorem ZeroFrom.mono {p : List Nat} {k k' : Nat} (h : ZeroFrom p k) (hk : k ≤ k') : ZeroFrom p k' := fun t z ht hz => h t z (by omega) hz
theorem ZeroFrom.set {p : List Nat} {k t d : Nat} (h : ZeroFrom p k) (ht : t < k) : ZeroFrom (p.set t d) k := by
  intro s z hs hz
  rw [List.getElem?_set_ne (by omega)] at hz
  exact h s z hs hz
theorem ZeroFrom.zeros (n k : Nat) : ZeroFrom (List.replicate n 0) k := by
  intro t z _ hz
  have := List.mem_of_getElem? hz
  exact List.eq_of_mem_replicate this
theorem ZeroFrom.at_ {p : List Nat} {k : Nat} (h : ZeroFrom p k) (hk : k < p.length) : p[k]? = some 0 := by
  have h1 : p[k]? = some p[k] := List.getElem?_eq_getElem hk
  rw [h k _ (Nat.le_refl _) h1] at h1
  exact h1
theorem prod_lt {x y : Nat} (hx : x < 4294967296) (hy : y < 4294967296) : x * y ≤ 18446744065119617025 := by
  have := Nat.mul_le_mul (show x ≤ 4294967295 by omega) (show y ≤ 4294967295 by omega)
  omega
theorem mul_step {p b : List Nat} {i j x y z cy s M : Nat} (hz : p[i + j]? = some z) (hy : b[j]? = some y) (hs : s = x * y + z + cy)
    (h : val p + 4294967296 ^ (i + j) * cy = M + 4294967296 ^ i * (x * val (b.take j))) :
    val (p.set (i + j) (s % 4294967296)) + 4294967296 ^ (i + (j + 1)) * (s / 4294967296) = M + 4294967296 ^ i * (x * val (b.take (j + 1))) := by
  have h1 := val_set (y := s % 4294967296) hz
  rw [val_take_succ hy, show i + (j + 1) = (i + j) + 1 by omega, Nat.pow_succ, Nat.mul_assoc]
  have e : 4294967296 ^ (i + j) * (s % 4294967296) + 4294967296 ^ (i + j) * (4294967296 * (s / 4294967296)) = 4294967296 ^ (i + j) * s := by
    rw [← Nat.mul_add]; congr 1; omega
  have e2 : 4294967296 ^ (i + j) * s = 4294967296 ^ (i + j) * (x * y) + 4294967296 ^ (i + j) * z + 4294967296 ^ (i + j) * cy := by rw [hs, Nat.mul_add, Nat.mul_add]
  have e3 : 4294967296 ^ i * (x * (val (b.take j) + 4294967296 ^ j * y)) = 4294967296 ^ i * (x * val (b.take j)) + 4294967296 ^ (i + j) * (x * y) := by
    rw [Nat.mul_add, Nat.mul_add, Nat.pow_add]
    congr 1
    rw [Nat.mul_left_comm x, Nat.mul_assoc]
  omega
theorem mul_end {p a b : List Nat} {i m x cy : Nat} (hz : p[i + m]? = some 0) (hx : a[i]? = some x) (hb : b.length = m)
    (h : val p + 4294967296 ^ (i + m) * cy = val (a.take i) * val b + 4294967296 ^ i * (x * val (b.take m))) : val (p.set (i + m) cy) = val (a.take (i + 1)) * val b := by
  have h1 := val_set (y := cy) hz
  have e0 : b.take m = b := List.take_of_length_le (by omega)
  rw [e0] at h
  rw [val_take_succ hx, Nat.add_mul]
  have e : 4294967296 ^ i * (x * val b) = 4294967296 ^ i * x * val b := by rw [Nat.mul_assoc]
  omega

/-- A row of digits in a block of its own. -/
def RowD (w : World) (g : Nat) (p : List Nat) : Prop := Blk w g 103 (mg p).toArray ∧ Dig p
theorem RowD.at_ {w : World} {g k : Nat} {p : List Nat} (h : RowD w g p) (hk : k < p.length) : ∃ z, p[k]? = some z ∧ z < 4294967296 ∧ w.cell? ⟨g, k, none⟩ = some (.int .u32 (z : Int)) ∧ w.frozen? ⟨g, k, none⟩ = false := by
  have h1 : p[k]? = some p[k] := List.getElem?_eq_getElem hk
  refine ⟨p[k], h1, h.2.at_ h1, ?_, h.1.frozen k⟩
  rw [h.1.cell]
  have := mg_get h1
  simpa using this
theorem RowD.set {w : World} {g k d : Nat} {p : List Nat} {z : Int} (h : RowD w g p) (hz : z = (d : Int)) (hd : d < 4294967296) : RowD (w.setCell ⟨g, k, none⟩ (.int .u32 z)) g (p.set k d) := by
  have := h.1.setL (i := k) (.int .u32 z)
  rw [mg_set' hz] at this
  exact ⟨this, h.2.set k hd⟩
theorem RowD.drewN {w : World} {g : Nat} {p : List Nat} (h : RowD w g p) (n : Nat) : RowD (w.drewN n) g p := ⟨h.1.drewN n, h.2⟩
theorem RowD.far {w w' : World} {g : Nat} {p : List Nat} (h : RowD w g p) (e : Ext w w') : RowD w' g p := ⟨h.1.ext e, h.2⟩
theorem RowD.rm {w : World} {g n : Nat} {p : List Nat} (h : RowD w g p) (hn : p.length = n) (hm : n ≤ 9223372036854775807) : RM w (some ⟨g, 0, none⟩) n n p := RM.blk h.1 h.2 hn hm

def mulMag_ok (n m : Nat) : Prop := 0 < n ∧ 0 < m
def rtimes_ok (n m : Nat) : Prop := True
theorem mulMag_ok1 {n m : Nat} (h : mulMag_ok n m) : ((n : Int) == 0) = false := by have := h.1; simp; omega
theorem mulMag_ok2 {n m : Nat} (h : mulMag_ok n m) : ((m : Int) == 0) = false := by have := h.2; simp; omega
theorem rtimes_ok1 {n m : Nat} (h : rtimes_ok n m) : True := trivial
theorem rtimes_ok2 {n m : Nat} (h : rtimes_ok n m) : True := trivial
set_option maxRecDepth 100000 in
set_option maxHeartbeats 1600000 in
theorem mulMag_pos (A B : Option Addr) (n m c d : Nat) (a b : List Nat) (w : World) (hA : RM w A n c a) (hB : RM w B m d b) (hn : n ≤ 100000) (hm : m ≤ 100000) (hpos : mulMag_ok n m) :
    Calls Tryz.prog 144 #[.slice A n c, .slice B m d] w fun e w' => ∃ v, e = .returned v ∧ SlM (digs (val a * val b)) v w' ∧ Ext w w' := by
  have hz1 := mulMag_ok1 hpos
  have hz2 := mulMag_ok2 hpos
  clear hpos
  have HA := Lib.hid hA.len
  have HB := Lib.hid hB.len
  have hmk := make_u32 ((n : Int) + m) (n + m) (by omega) (by omega)
  go_enter Tryz.func144, Tryz.ntmps144
  go_wp2
  clear hmk
  go_loopw [26] (fun i wr => ∃ (k : Nat) (p : List Nat), k ≤ n ∧ i = .int .i64 k ∧ p.length = n + m ∧ ZeroFrom p (k + m) ∧ val p = val (a.take k) * val b ∧ RowD wr w.heap.size p ∧ Ext w wr) (fun i _ => n - (intOf i).toNat)
  case atStart => exact ⟨0, List.replicate (n + m) 0, Nat.zero_le _, rfl, by simp, ZeroFrom.zeros _ _, by simp [val, val_replicate], ⟨Blk.new w _ _, Dig.replicate _⟩, Ext.new _ _⟩
  case round =>
    obtain ⟨k, p, hk, rfl, hl, hz, hv, hrow, hex⟩ := hrel
    have HL := Lib.hid hl; clear hl
    have HZ := Lib.hid hz; clear hz
    have HV := Lib.hid hv; clear hv
    have HR := Lib.hid hrow; clear hrow
    by_cases hlt : k < n
    · obtain ⟨ad, x, rfl, _, hx, hx32, hcx⟩ := (hA.ext hex).at_ hlt
      have HX := Lib.hid hx; clear hx hcx
      obtain ⟨wo, rfl⟩ : ∃ wo : World, wo = wr := ⟨_, rfl⟩
      go_wp2
      go_loopw [31, 7] (fun iv cv wr => ∃ (j cy : Nat) (p : List Nat), j ≤ m ∧ iv = .int .i64 j ∧ cv = .int .u64 (cy : Int) ∧ cy < 4294967296 ∧ p.length = n + m ∧ ZeroFrom p (k + m) ∧ val p + 4294967296 ^ (k + j) * cy = val (a.take k) * val b + 4294967296 ^ k * (x * val (b.take j)) ∧ RowD wr w.heap.size p ∧ Ext w wr) (fun iv _ _ => m - (intOf iv).toNat)
      case atStart => exact ⟨0, 0, p, Nat.zero_le _, rfl, rfl, by omega, HL.out, HZ.out, by have := HV.out; simp [val, this], HR.out, hex⟩
      case round =>
        clear HR HV HZ HL hex
        obtain ⟨j, cy, p, hj, rfl, rfl, hcy, hl, hz, hv, hrow, hex⟩ := hrel
        have HL := Lib.hid hl; clear hl
        have HZ := Lib.hid hz; clear hz
        have HV := Lib.hid hv; clear hv
        by_cases hlj : j < m
        · obtain ⟨bd, y, rfl, _, hy, hy32, hcy'⟩ := (hB.ext hex).at_ hlj
          obtain ⟨ad', x', e1, _, hx', _, hcx⟩ := (hA.ext hex).at_ hlt
          cases e1
          obtain rfl : x' = x := by have := HX.out; rw [hx'] at this; injection this
          have HY := Lib.hid hy; clear hy hx'
          obtain ⟨z, hz, hz32, hcz, hfz⟩ := hrow.at_ (k := k + j) (by rw [HL.out]; omega)
          have HZZ := Lib.hid hz; clear hz
          have HR := Lib.hid hrow; clear hrow
          obtain ⟨t, ht⟩ : ∃ t, t = x' * y := ⟨_, rfl⟩
          have htb : t ≤ 18446744065119617025 := by rw [ht]; exact prod_lt hx32 hy32
          have q1 : (0 : Int) ≤ (k : Int) := by omega
          have q2 : (k : Int) < (n : Int) := by omega
          have q3 : (0 : Int) ≤ (j : Int) := by omega
          have q4 : (j : Int) < (m : Int) := by omega
          have q5 : (0 : Int) ≤ (k : Int) + (j : Int) := by omega
          have q6 : (k : Int) + (j : Int) < (n : Int) + (m : Int) := by omega
          have q7 : (k : Int) + (j : Int) < ((n + m : Nat) : Int) := by omega
          have e1 : IntKind.u64.wrap ((x' : Int) * (y : Int)) = (t : Int) := by rw [IntWalk.u64_in _ (by rw [show ((x' : Int) * (y : Int)) = ((x' * y : Nat) : Int) by simp, ← ht]; omega), ht]; simp
          have e2 : IntKind.u64.wrap ((t : Int) + (z : Int)) = (t : Int) + z := IntWalk.u64_in _ (by omega)
          have e3 : IntKind.u64.wrap ((t : Int) + (z : Int) + (cy : Int)) = (t : Int) + z + cy := IntWalk.u64_in _ (by omega)
          have e4 : IntKind.i64.wrap ((k : Int) + (j : Int)) = (k : Int) + j := IntWalk.i64_in _ (by omega)
          have e5 : ((k : Int) + (j : Int)).toNat = k + j := by omega
          have HT := Lib.hid ht; clear ht
          go_wp2
          go_quiet (fail)
          clear e1 e2 e3 e4 e5
          go_wp2
          go_roundw
          case rel => exact ⟨j + 1, (t + z + cy) / 4294967296, p.set (k + j) ((t + z + cy) % 4294967296), by omega, by go_num, by go_num, by omega, by simp [HL.out], HZ.out.set (by omega), mul_step HZZ.out HY.out (by rw [HT.out]) HV.out, (HR.out.drewN _).set (by omega) (by omega), (hex.drewN _).setCell (Nat.le_refl _) _⟩
          case measure => simp [intOf] <;> omega
        · obtain rfl : j = m := by omega
          obtain ⟨z, hz, hz32, hcz, hfz⟩ := hrow.at_ (k := k + j) (by rw [HL.out]; omega)
          have hz0 := HZ.out.at_ (by rw [HL.out]; omega)
          have HZ0 := Lib.hid hz0; clear hz0 hz
          have HR := Lib.hid hrow; clear hrow
          go_wp2
          go_roundw
          case rel => exact ⟨k + 1, p.set (k + j) cy, by omega, by go_num, by simp [HL.out], (HZ.out.mono (by omega)).set (by omega), mul_end HZ0.out HX.out HB.out HV.out, HR.out.set rfl hcy, hex.setCell (Nat.le_refl _) _⟩
          case measure => simp [intOf] <;> omega
    · obtain rfl : k = n := by omega
      have hrow := HR.out
      have hl := HL.out
      go_wp2_with fail
      refine (trim_ext _ _ _ p _ (hrow.rm hl (by omega))).mono ?_
      rintro e w1 ⟨v1, rfl, hR, hx1⟩
      have hval : val p = val a * val b := by rw [HV.out, List.take_of_length_le (by rw [HA.out]; omega)]
      rw [hval] at hR
      go_wp2
      go_ret
      exact ⟨_, rfl, hR, hex.trans hx1⟩
set_option maxRecDepth 100000 in
set_option maxHeartbeats 1600000 in
theorem rtimes_pos (A B : Option Addr) (n m c d : Nat) (a b : List Nat) (w : World) (hA : RM w A n c a) (hB : RM w B m d b) (hn : n ≤ 100000) (hm : m ≤ 100000) (hpos : rtimes_ok n m) :
    Calls Tryz.prog 113 #[.slice A n c, .slice B m d] w fun e w' => ∃ v, e = .returned v ∧ SlM (digs (val a * val b)) v w' ∧ Ext w w' := by
  have hz1 := rtimes_ok1 hpos
  have hz2 := rtimes_ok2 hpos
  clear hpos
  have HA := Lib.hid hA.len
  have HB := Lib.hid hB.len
  have hmk := make_u32 ((n : Int) + m) (n + m) (by omega) (by omega)
  go_enter Tryz.func113, Tryz.ntmps113
  go_wp2
  clear hmk
  go_loopw [6] (fun i wr => ∃ (k : Nat) (p : List Nat), k ≤ n ∧ i = .int .i64 k ∧ p.length = n + m ∧ ZeroFrom p (k + m) ∧ val p = val (a.take k) * val b ∧ RowD wr w.heap.size p ∧ Ext w wr) (fun i _ => n - (intOf i).toNat)
  case atStart => exact ⟨0, List.replicate (n + m) 0, Nat.zero_le _, rfl, by simp, ZeroFrom.zeros _ _, by simp [val, val_replicate], ⟨Blk.new w _ _, Dig.replicate _⟩, Ext.new _ _⟩
  case round =>
    obtain ⟨k, p, hk, rfl, hl, hz, hv, hrow, hex⟩ := hrel
    have HL := Lib.hid hl; clear hl
    have HZ := Lib.hid hz; clear hz
    have HV := Lib.hid hv; clear hv
    have HR := Lib.hid hrow; clear hrow
    by_cases hlt : k < n
    · obtain ⟨ad, x, rfl, _, hx, hx32, hcx⟩ := (hA.ext hex).at_ hlt
      have HX := Lib.hid hx; clear hx hcx
      obtain ⟨wo, rfl⟩ : ∃ wo : World, wo = wr := ⟨_, rfl⟩
      go_wp2
      go_loopw [8, 7] (fun iv cv wr => ∃ (j cy : Nat) (p : List Nat), j ≤ m ∧ iv = .int .i64 j ∧ cv = .int .u64 (cy : Int) ∧ cy < 4294967296 ∧ p.length = n + m ∧ ZeroFrom p (k + m) ∧ val p + 4294967296 ^ (k + j) * cy = val (a.take k) * val b + 4294967296 ^ k * (x * val (b.take j)) ∧ RowD wr w.heap.size p ∧ Ext w wr) (fun iv _ _ => m - (intOf iv).toNat)
      case atStart => exact ⟨0, 0, p, Nat.zero_le _, rfl, rfl, by omega, HL.out, HZ.out, by have := HV.out; simp [val, this], HR.out, hex⟩
      case round =>
        clear HR HV HZ HL hex
        obtain ⟨j, cy, p, hj, rfl, rfl, hcy, hl, hz, hv, hrow, hex⟩ := hrel
        have HL := Lib.hid hl; clear hl
        have HZ := Lib.hid hz; clear hz
        have HV := Lib.hid hv; clear hv
        by_cases hlj : j < m
        · obtain ⟨bd, y, rfl, _, hy, hy32, hcy'⟩ := (hB.ext hex).at_ hlj
          obtain ⟨ad', x', e1, _, hx', _, hcx⟩ := (hA.ext hex).at_ hlt
          cases e1
          obtain rfl : x' = x := by have := HX.out; rw [hx'] at this; injection this
          have HY := Lib.hid hy; clear hy hx'
          obtain ⟨z, hz, hz32, hcz, hfz⟩ := hrow.at_ (k := k + j) (by rw [HL.out]; omega)
          have HZZ := Lib.hid hz; clear hz
          have HR := Lib.hid hrow; clear hrow
          obtain ⟨t, ht⟩ : ∃ t, t = x' * y := ⟨_, rfl⟩
          have htb : t ≤ 18446744065119617025 := by rw [ht]; exact prod_lt hx32 hy32
          have q1 : (0 : Int) ≤ (k : Int) := by omega
          have q2 : (k : Int) < (n : Int) := by omega
          have q3 : (0 : Int) ≤ (j : Int) := by omega
          have q4 : (j : Int) < (m : Int) := by omega
          have q5 : (0 : Int) ≤ (k : Int) + (j : Int) := by omega
          have q6 : (k : Int) + (j : Int) < (n : Int) + (m : Int) := by omega
          have q7 : (k : Int) + (j : Int) < ((n + m : Nat) : Int) := by omega
          have e1 : IntKind.u64.wrap ((x' : Int) * (y : Int)) = (t : Int) := by rw [IntWalk.u64_in _ (by rw [show ((x' : Int) * (y : Int)) = ((x' * y : Nat) : Int) by simp, ← ht]; omega), ht]; simp
          have e2 : IntKind.u64.wrap ((t : Int) + (z : Int)) = (t : Int) + z := IntWalk.u64_in _ (by omega)
          have e3 : IntKind.u64.wrap ((t : Int) + (z : Int) + (cy : Int)) = (t : Int) + z + cy := IntWalk.u64_in _ (by omega)
          have e4 : IntKind.i64.wrap ((k : Int) + (j : Int)) = (k : Int) + j := IntWalk.i64_in _ (by omega)
          have e5 : ((k : Int) + (j : Int)).toNat = k + j := by omega
          have HT := Lib.hid ht; clear ht
          go_wp2
          go_quiet (fail)
          clear e1 e2 e3 e4 e5
          go_wp2
          go_roundw
          case rel => exact ⟨j + 1, (t + z + cy) / 4294967296, p.set (k + j) ((t + z + cy) % 4294967296), by omega, by go_num, by go_num, by omega, by simp [HL.out], HZ.out.set (by omega), mul_step HZZ.out HY.out (by rw [HT.out]) HV.out, (HR.out.drewN _).set (by omega) (by omega), (hex.drewN _).setCell (Nat.le_refl _) _⟩
          case measure => simp [intOf] <;> omega
        · obtain rfl : j = m := by omega
          obtain ⟨z, hz, hz32, hcz, hfz⟩ := hrow.at_ (k := k + j) (by rw [HL.out]; omega)
          have hz0 := HZ.out.at_ (by rw [HL.out]; omega)
          have HZ0 := Lib.hid hz0; clear hz0 hz
          have HR := Lib.hid hrow; clear hrow
          go_wp2
          go_roundw
          case rel => exact ⟨k + 1, p.set (k + j) cy, by omega, by go_num, by simp [HL.out], (HZ.out.mono (by omega)).set (by omega), mul_end HZ0.out HX.out HB.out HV.out, HR.out.set rfl hcy, hex.setCell (Nat.le_refl _) _⟩
          case measure => simp [intOf] <;> omega
    · obtain rfl : k = n := by omega
      have hrow := HR.out
      have hl := HL.out
      go_wp2_with fail
      refine (rtrim_any _ _ _ p _ (hrow.rm hl (by omega)) (by omega)).mono ?_
      rintro e w1 ⟨v1, rfl, hR, hx1⟩
      have hval : val p = val a * val b := by rw [HV.out, List.take_of_length_le (by rw [HA.out]; omega)]
      rw [hval] at hR
      go_wp2
      go_ret
      exact ⟨_, rfl, hR, hex.trans hx1⟩

set_option maxRecDepth 100000 in
set_option maxHeartbeats 400000 in
theorem mulMag_any (A B : Option Addr) (n m c d : Nat) (a b : List Nat) (w : World) (hA : RM w A n c a) (hB : RM w B m d b) (hn : n ≤ 100000) (hm : m ≤ 100000) :
    Calls Tryz.prog 144 #[.slice A n c, .slice B m d] w fun e w' => ∃ v, e = .returned v ∧ SlM (digs (val a * val b)) v w' ∧ Ext w w' := by
  by_cases h1 : n = 0
  · subst h1
    obtain rfl := hA.empty
    go_enter Tryz.func144, Tryz.ntmps144
    go_wp2
    go_ret
    exact ⟨_, rfl, ⟨_, _, _, rfl, by simpa [val, digs_zero] using RM.nil⟩, Ext.refl _⟩
  · have h1' : ((n : Int) == 0) = false := by simp; omega
    by_cases h2 : m = 0
    · subst h2
      obtain rfl := hB.empty
      go_enter Tryz.func144, Tryz.ntmps144
      go_wp2
      go_ret
      exact ⟨_, rfl, ⟨_, _, _, rfl, by simpa [val, digs_zero] using RM.nil⟩, Ext.refl _⟩
    · exact mulMag_pos A B n m c d a b w hA hB hn hm ⟨by omega, by omega⟩
theorem rtimes_any (A B : Option Addr) (n m c d : Nat) (a b : List Nat) (w : World) (hA : RM w A n c a) (hB : RM w B m d b) (hn : n ≤ 100000) (hm : m ≤ 100000) :
    Calls Tryz.prog 113 #[.slice A n c, .slice B m d] w fun e w' => ∃ v, e = .returned v ∧ SlM (digs (val a * val b)) v w' ∧ Ext w w' := rtimes_pos A B n m c d a b w hA hB hn hm trivial
end Go.Proofs.YtclkkoiaaddllaaGreat
