/- Functions of StreamDelivers: within, good. -/
import Derived.Test.YtmlcmnbjioabiaaSj
import Derived.Test.YtmlcmnbjioabiaaStreamSplits
namespace Go.Proofs.Ytmlcmnbjioabiaa
open Go.RowKit

theorem tmod_emod {n m : Int} (hm : 0 < m) : n.tmod m < 0 → n.tmod m + m = n % m := by
  intro h
  rw [Int.tmod_eq_emod] at *
  have h1 := Int.emod_nonneg n (show m ≠ 0 by omega)
  have h2 := Int.emod_lt_of_pos n hm
  have h3 : (m.natAbs : Int) = m := by omega
  split at h <;> split <;> simp_all <;> omega
theorem tmod_emod' {n m : Int} (hm : 0 < m) : ¬ n.tmod m < 0 → n.tmod m = n % m := by
  intro h
  rw [Int.tmod_eq_emod] at *
  have h1 := Int.emod_nonneg n (show m ≠ 0 by omega)
  have h2 := Int.emod_lt_of_pos n hm
  have h3 : (m.natAbs : Int) = m := by omega
  split at h <;> split <;> simp_all <;> omega

set_option maxHeartbeats 400000 in
theorem within_any (n m : Int) (w : World) (hm : 0 < m) (hm' : m ≤ 9223372036854775807) :
    Calls Try.prog 22 #[.int .i64 n, .int .i64 m] w fun e w' => e = .returned (.int .i64 (n % m)) ∧ w = w' := by
  have m0 : m ≠ 0 := by omega
  have hA : n.tmod m < 0 → n.tmod m + m = n % m := tmod_emod hm
  have hB : ¬ n.tmod m < 0 → n.tmod m = n % m := tmod_emod' hm
  have h1 := Int.emod_nonneg n m0
  have h2 := Int.emod_lt_of_pos n hm
  by_cases h : n.tmod m < 0
  · have ht := hA h
    clear hA hB
    have lo : -9223372036854775808 ≤ n.tmod m := by omega
    have hi : n.tmod m ≤ 9223372036854775807 := by omega
    go_enter Try.func22, Try.ntmps22
    go_wp2_with fail
    go_ret
    exact ⟨ret_int rfl, rfl⟩
  · have ht := hB h
    clear hA hB
    have lo : -9223372036854775808 ≤ n.tmod m := by omega
    have hi : n.tmod m ≤ 9223372036854775807 := by omega
    go_enter Try.func22, Try.ntmps22
    go_wp2_with fail
    go_ret
    exact ⟨ret_int rfl, rfl⟩

def goodF (f : Fr) : Bool := f.sy && f.Q.all (· == 0)
theorem good_stop {Q : List Int} {k : Nat} {y : Int} (hy : Q[k]? = some y) (h : y ≠ 0) : (Q.drop k).all (· == 0) = false := by
  obtain ⟨h2, rfl⟩ := List.getElem?_eq_some_iff.1 hy
  rw [List.drop_eq_getElem_cons h2, List.all_cons]; simp [h]
theorem good_on {Q : List Int} {k : Nat} (hy : Q[k]? = some 0) : (Q.drop k).all (· == 0) = (Q.drop (k + 1)).all (· == 0) := by
  obtain ⟨h2, h3⟩ := List.getElem?_eq_some_iff.1 hy
  rw [List.drop_eq_getElem_cons h2, List.all_cons, h3]; simp

set_option maxHeartbeats 400000 in
theorem good_any (f : Fr) (A B : Option Addr) (n m c d : Nat) (w : World) (hf : RFr w f A B n m c d) :
    Calls Try.prog 34 #[frV f A B n m c d] w fun e w' => e = .returned (.bool (goodF f)) ∧ Ext w w' := by
  obtain ⟨unit, count, sy, S, Q⟩ := f
  obtain ⟨hS, hQ, hn, hm⟩ := hf
  have HQ := Lib.hid hQ.len
  unfold frV
  dsimp only at *
  cases sy
  · go_enter Try.func34, Try.ntmps34
    go_wp2_with fail
    go_ret
    exact ⟨ret_bool rfl, Ext.new _ _⟩
  · go_enter Try.func34, Try.ntmps34
    go_wp2_with fail
    go_loop [11] (fun i => ∃ k : Nat, k ≤ m ∧ i = .int .i64 k ∧ Q.all (· == 0) = (Q.drop k).all (· == 0)) (fun i => m - (intOf i).toNat)
    case atStart => exact ⟨0, Nat.zero_le _, rfl, rfl⟩
    case round =>
      obtain ⟨k, hk, rfl, hch⟩ := hrel
      have HC := Lib.hid hch; clear hch
      by_cases hlt : k < m
      · obtain ⟨bd, y, rfl, hb', hy, hcy⟩ := hQ.int_at (k := k) hlt
        have HY := Lib.hid hy; clear hy
        have hy1 : ∀ o, (w.alloc o).cell? (bd.add k) = some (.int .i64 y) := fun o => (World.cell?_alloc_lt w o _ (by rw [block_of_add]; exact hb')).trans hcy
        clear hcy
        by_cases h5 : y = 0
        · subst h5
          go_wp2_with fail
          go_round
          case rel => exact ⟨k + 1, by omega, by go_num, by rw [HC.out, good_on HY.out]⟩
          case measure => simp [intOf]; omega
        · have h6 : (y != 0) = true := by simp [h5]
          go_wp2_with fail
          go_ret
          exact ⟨ret_bool (by rw [goodF, HC.out, good_stop HY.out h5]; rfl), Ext.new _ _⟩
      · go_wp2_with fail
        go_ret
        exact ⟨ret_bool (by rw [goodF, HC.out, List.drop_eq_nil_of_le (by have := HQ.out; omega)]; rfl), Ext.new _ _⟩

set_option maxHeartbeats 400000 in
theorem samerows_self (A B : Option Addr) (n c d : Nat) (rows : List (List Int)) (w : World) (hA : RRows w A n rows) (hB : RRows w B n rows) (hn : n ≤ 9223372036854775807) :
    Calls Try.prog 25 #[.slice A n c, .slice B n d] w fun e w' => e = .returned (.bool true) ∧ Ext w w' := by
  have HA := Lib.hid hA; clear hA
  have HB := Lib.hid hB; clear hB
  go_enter Try.func25, Try.ntmps25
  go_wp2_with fail
  go_loopw [5] (fun i wr => ∃ k : Nat, k ≤ n ∧ i = .int .i64 k ∧ Ext w wr) (fun i _ => n - (intOf i).toNat)
  case atStart => exact ⟨0, Nat.zero_le _, rfl, Ext.refl _⟩
  case round =>
    obtain ⟨k, hk, rfl, hex⟩ := hrel
    by_cases hlt : k < n
    · obtain ⟨a, r, A1, n1, c1, rfl, hr, hc1, hR1, hn1⟩ := (HA.out.ext hex).at_ hlt
      obtain ⟨b, r', A2, n2, c2, rfl, hr', hc2, hR2, hn2⟩ := (HB.out.ext hex).at_ hlt
      obtain rfl : r = r' := by rw [hr] at hr'; injection hr'
      have R1 := Lib.hid hR1; clear hR1
      have R2 := Lib.hid hR2; clear hR2
      clear hr hr'
      have Y0 := ExtOf.cell hc1
      have Y1 := ExtOf.cell hc2
      have q1 : (0 : Int) ≤ (k : Int) := by omega
      have q2 : (k : Int) < (n : Int) := by omega
      have hself : (r == r) = true := by simp
      go_wp2_with fail
      refine wp_region_ext_lit (by kernel_rfl) (by kernel_rfl) ?_
      repeat (go_big_quiet_step (first | (go_at_call 35; exact Calls.ext_of (sameints6_any _ _ _ _ _ _ _ _ _ (R1.out.ext (ExtOf.ext _)) (R2.out.ext (ExtOf.ext _)) hn1 hn2))))
      refine wpQuiet_nil ?_
      intro W hW
      obtain ⟨x, rfl⟩ := hW
      go_wp2_with fail
      go_roundw
      case rel => exact ⟨k + 1, by omega, by go_num, hex.trans x.ext⟩
      case measure => simp [intOf]; omega
    · go_wp2_with fail
      go_ret
      exact ⟨rfl, hex⟩
end Go.Proofs.Ytmlcmnbjioabiaa
