/- Contracts of the small stream functions and of their references. -/
import Derived.Test.YtmlcmnbjioabiaaProg
import Derived.Test.YtmlcmnbjioabiaaPure
namespace Go.Proofs.Ytmlcmnbjioabiaa
open Go.RowKit

/-- A frame's value in memory. -/
def frV (f : Fr) (A B : Option Addr) (n m c d : Nat) : Value := .agg #[.int .i64 f.unit, .int .i64 f.count, .bool f.sy, .slice A n c, .slice B m d]
structure RFr (w : World) (f : Fr) (A B : Option Addr) (n m c d : Nat) : Prop where
  hS : Reads w w.heap.size 1 A n (f.S.map (.int .i64))
  hQ : Reads w w.heap.size 1 B m (f.Q.map (.int .i64))
  hn : n ≤ 9223372036854775807
  hm : m ≤ 9223372036854775807
theorem RFr.ext {w w' : World} {f : Fr} {A B : Option Addr} {n m c d : Nat} (h : RFr w f A B n m c d) (e : Ext w w') : RFr w' f A B n m c d :=
  ⟨h.hS.ext e, h.hQ.ext e, h.hn, h.hm⟩

set_option maxHeartbeats 400000 in
theorem between_any (x lo hi : Int) (w : World) :
    Calls Try.prog 26 #[.int .i64 x, .int .i64 lo, .int .i64 hi] w fun e w' => e = .returned (.bool (btw x lo hi)) ∧ w = w' := by
  go_enter Try.func26, Try.ntmps26
  go_wp2
  · go_ret; simp_all [btw]
  · go_ret; simp_all [btw]; omega

set_option maxHeartbeats 400000 in
theorem rbetween_any (x lo hi : Int) (w : World) :
    Calls Try.prog 27 #[.int .i64 x, .int .i64 lo, .int .i64 hi] w fun e w' => e = .returned (.bool (btw x lo hi)) ∧ w = w' := by
  go_enter Try.func27, Try.ntmps27
  go_wp2
  · go_ret; simp_all [btw]
  · go_ret; simp_all [btw]; omega

theorem cl_stop {S Q : List Int} {k : Nat} {x y : Int} (hx : S[k]? = some x) (hy : Q[k]? = some y) (h : (!btw x (-16383) 16383 || !btw y 0 255) = true) : checkList (S.drop k) (Q.drop k) = 2 := by
  obtain ⟨h1, rfl⟩ := List.getElem?_eq_some_iff.1 hx
  obtain ⟨h2, rfl⟩ := List.getElem?_eq_some_iff.1 hy
  rw [List.drop_eq_getElem_cons h1, List.drop_eq_getElem_cons h2, checkList, if_pos h]
theorem cl_on {S Q : List Int} {k : Nat} {x y : Int} (hx : S[k]? = some x) (hy : Q[k]? = some y) (h : (!btw x (-16383) 16383 || !btw y 0 255) = false) : checkList (S.drop k) (Q.drop k) = checkList (S.drop (k + 1)) (Q.drop (k + 1)) := by
  obtain ⟨h1, rfl⟩ := List.getElem?_eq_some_iff.1 hx
  obtain ⟨h2, rfl⟩ := List.getElem?_eq_some_iff.1 hy
  rw [List.drop_eq_getElem_cons h1, List.drop_eq_getElem_cons h2, checkList, if_neg (by rw [h]; simp)]
theorem cl_end {S Q : List Int} {k : Nat} (h : S.length ≤ k) : checkList (S.drop k) (Q.drop k) = 0 := by
  rw [List.drop_eq_nil_of_le h]; simp [checkList]

theorem cc1 {a b : Bool} (h1 : a = true) (h2 : b = false) : (!a || !b) = true := by simp_all
theorem cc2 {a b : Bool} (h1 : a = true) (h2 : b = true) : (!a || !b) = false := by simp_all
theorem cc3 {a b : Bool} (h1 : a = false) : (!a || !b) = true := by simp_all
section
variable {unit count : Int} {sy : Bool} {S Q : List Int} {n m : Nat}
theorem ck1 (h1 : btw unit 0 999 = true) (h2 : btw count 0 599 = false) : 2 = checkF ⟨unit, count, sy, S, Q⟩ := by simp [checkF, h1, h2]
theorem ck1' (h1 : btw unit 0 999 = false) : 2 = checkF ⟨unit, count, sy, S, Q⟩ := by simp [checkF, h1]
theorem ck2 (hS : S.length = n) (hQ : Q.length = m) (h1 : btw unit 0 999 = true) (h2 : btw count 0 599 = true) (h3 : btw n 1 8 = true) (h4 : ¬ m = n) : 3 = checkF ⟨unit, count, sy, S, Q⟩ := by
  subst hS hQ
  simp [checkF, h1, h2, h3, h4]
theorem ck2' (hS : S.length = n) (h1 : btw unit 0 999 = true) (h2 : btw count 0 599 = true) (h3 : btw n 1 8 = false) : 3 = checkF ⟨unit, count, sy, S, Q⟩ := by
  subst hS
  simp [checkF, h1, h2, h3]
theorem ck3 (hS : S.length = n) (hQ : Q.length = m) (h1 : btw unit 0 999 = true) (h2 : btw count 0 599 = true) (h3 : btw n 1 8 = true) (h4 : m = n) : checkF ⟨unit, count, sy, S, Q⟩ = checkList S Q := by
  subst h4
  subst hS
  simp [checkF, h1, h2, h3, hQ]
end

set_option maxHeartbeats 400000 in
theorem check_any (f : Fr) (A B : Option Addr) (n m c d : Nat) (w : World) (hf : RFr w f A B n m c d) :
    Calls Try.prog 9 #[frV f A B n m c d] w fun e w' => e = .returned (.int .i64 (checkF f)) ∧ Ext w w' := by
  obtain ⟨unit, count, sy, S, Q⟩ := f
  obtain ⟨hS, hQ, hn, hm⟩ := hf
  have HS := Lib.hid hS.len
  have HQ := Lib.hid hQ.len
  unfold frV
  dsimp only at *
  cases h1 : btw unit 0 999
  · go_enter Try.func9, Try.ntmps9
    go_wp2_with (go_at_call 26; refine (between_any _ _ _ _).mono ?_; rintro e w' ⟨rfl, rfl⟩)
    go_ret
    exact ⟨ret_int (ck1' h1), Ext.new _ _⟩
  cases h2 : btw count 0 599
  · go_enter Try.func9, Try.ntmps9
    go_wp2_with (go_at_call 26; refine (between_any _ _ _ _).mono ?_; rintro e w' ⟨rfl, rfl⟩)
    go_ret
    exact ⟨ret_int (ck1 h1 h2), Ext.new _ _⟩
  cases h3 : btw n 1 8
  · go_enter Try.func9, Try.ntmps9
    go_wp2_with (go_at_call 26; refine (between_any _ _ _ _).mono ?_; rintro e w' ⟨rfl, rfl⟩)
    go_ret
    exact ⟨ret_int (ck2' HS.out h1 h2 h3), Ext.new _ _⟩
  by_cases hmn : m = n
  · have HM := Lib.hid hmn
    have h4 : ((m : Int) != (n : Int)) = false := by subst hmn; simp
    have HCL := Lib.hid (ck3 (sy := sy) HS.out HQ.out h1 h2 h3 hmn)
    clear hmn
    go_enter Try.func9, Try.ntmps9
    go_wp2_with (go_at_call 26; refine (between_any _ _ _ _).mono ?_; rintro e w' ⟨rfl, rfl⟩)
    go_loop [31] (fun i => ∃ k : Nat, k ≤ n ∧ i = .int .i64 k ∧ checkList S Q = checkList (S.drop k) (Q.drop k)) (fun i => n - (intOf i).toNat)
    case atStart => exact ⟨0, Nat.zero_le _, rfl, rfl⟩
    case round =>
      obtain ⟨k, hk, rfl, hch⟩ := hrel
      have HC := Lib.hid hch; clear hch
      by_cases hlt : k < n
      · obtain ⟨ad, x, rfl, hb, hx, hcx⟩ := hS.int_at hlt
        obtain ⟨bd, y, rfl, hb', hy, hcy⟩ := hQ.int_at (k := k) (by have := HM.out; omega)
        have HX := Lib.hid hx; clear hx
        have HY := Lib.hid hy; clear hy
        have hx1 : ∀ o, (w.alloc o).cell? (ad.add k) = some (.int .i64 x) := fun o => (World.cell?_alloc_lt w o _ (by rw [block_of_add]; exact hb)).trans hcx
        have hy1 : ∀ o, (w.alloc o).cell? (bd.add k) = some (.int .i64 y) := fun o => (World.cell?_alloc_lt w o _ (by rw [block_of_add]; exact hb')).trans hcy
        have hkm : k < m := by have := HM.out; omega
        clear hcx hcy
        cases h5 : btw x (-16383) 16383
        · go_wp2_with (go_at_call 26; refine (between_any _ _ _ _).mono ?_; rintro e w' ⟨rfl, rfl⟩)
          go_ret
          exact ⟨ret_int (by rw [HCL.out, HC.out, cl_stop HX.out HY.out (cc3 h5)]), Ext.new _ _⟩
        cases h6 : btw y 0 255
        · go_wp2_with (go_at_call 26; refine (between_any _ _ _ _).mono ?_; rintro e w' ⟨rfl, rfl⟩)
          go_ret
          exact ⟨ret_int (by rw [HCL.out, HC.out, cl_stop HX.out HY.out (cc1 h5 h6)]), Ext.new _ _⟩
        · go_wp2_with (go_at_call 26; refine (between_any _ _ _ _).mono ?_; rintro e w' ⟨rfl, rfl⟩)
          go_round
          case rel => exact ⟨k + 1, by omega, by go_num, by rw [HC.out, cl_on HX.out HY.out (cc2 h5 h6)]⟩
          case measure => simp [intOf]; omega
      · go_wp2
        go_ret
        exact ⟨ret_int (by rw [HCL.out, HC.out, cl_end (by have := HS.out; omega)]), Ext.new _ _⟩
  · have h4 : ((m : Int) != (n : Int)) = true := by simp; omega
    go_enter Try.func9, Try.ntmps9
    go_wp2_with (go_at_call 26; refine (between_any _ _ _ _).mono ?_; rintro e w' ⟨rfl, rfl⟩)
    go_ret
    exact ⟨ret_int (ck2 HS.out HQ.out h1 h2 h3 hmn), Ext.new _ _⟩
end Go.Proofs.Ytmlcmnbjioabiaa
