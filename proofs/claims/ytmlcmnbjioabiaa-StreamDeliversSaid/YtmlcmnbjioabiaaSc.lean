/- The reference's Check; the bytes of a frame. -/
import Derived.Test.YtmlcmnbjioabiaaSb
namespace Go.Proofs.Ytmlcmnbjioabiaa
open Go.RowKit

set_option maxHeartbeats 400000 in
theorem rcheck_any (f : Fr) (A B : Option Addr) (n m c d : Nat) (w : World) (hf : RFr w f A B n m c d) :
    Calls Try.prog 10 #[frV f A B n m c d] w fun e w' => e = .returned (.int .i64 (checkF f)) ∧ Ext w w' := by
  obtain ⟨unit, count, sy, S, Q⟩ := f
  obtain ⟨hS, hQ, hn, hm⟩ := hf
  have HS := Lib.hid hS.len
  have HQ := Lib.hid hQ.len
  unfold frV
  dsimp only at *
  cases h1 : btw unit 0 999
  · go_enter Try.func10, Try.ntmps10
    go_wp2_with (go_at_call 27; refine (rbetween_any _ _ _ _).mono ?_; rintro e w' ⟨rfl, rfl⟩)
    go_ret
    exact ⟨ret_int (ck1' h1), Ext.new _ _⟩
  cases h2 : btw count 0 599
  · go_enter Try.func10, Try.ntmps10
    go_wp2_with (go_at_call 27; refine (rbetween_any _ _ _ _).mono ?_; rintro e w' ⟨rfl, rfl⟩)
    go_ret
    exact ⟨ret_int (ck1 h1 h2), Ext.new _ _⟩
  cases h3 : btw n 1 8
  · go_enter Try.func10, Try.ntmps10
    go_wp2_with (go_at_call 27; refine (rbetween_any _ _ _ _).mono ?_; rintro e w' ⟨rfl, rfl⟩)
    go_ret
    exact ⟨ret_int (ck2' HS.out h1 h2 h3), Ext.new _ _⟩
  by_cases hmn : m = n
  · have HM := Lib.hid hmn
    have h4 : ((m : Int) != (n : Int)) = false := by subst hmn; simp
    have HCL := Lib.hid (ck3 (sy := sy) HS.out HQ.out h1 h2 h3 hmn)
    clear hmn
    go_enter Try.func10, Try.ntmps10
    go_wp2_with (go_at_call 27; refine (rbetween_any _ _ _ _).mono ?_; rintro e w' ⟨rfl, rfl⟩)
    go_loop [3] (fun i => ∃ k : Nat, k ≤ n ∧ i = .int .i64 k ∧ checkList S Q = checkList (S.drop k) (Q.drop k)) (fun i => n - (intOf i).toNat)
    case atStart => exact ⟨0, Nat.zero_le _, rfl, rfl⟩
    case round =>
      obtain ⟨k, hk, rfl, hch⟩ := hrel
      have HC := Lib.hid hch; clear hch
      by_cases hlt : k < n
      · obtain ⟨ad, x, rfl, hb, hx, hcx⟩ := hS.int_at hlt
        obtain ⟨bd, y, rfl, hb', hy, hcy⟩ := hQ.int_at (k := k) (by have := HM.out; omega)
        have HX := Lib.hid hx; clear hx
        have HY := Lib.hid hy; clear hy
        have hx1 : ∀ o, (w.alloc o).cell? (ad.add k) = some (.int .i64 x) := fun o => (World.cell?_alloc_lt w o _ (by rw [block_of_add]; exact hb)).trans hcx
        have hy1 : ∀ o, (w.alloc o).cell? (bd.add k) = some (.int .i64 y) := fun o => (World.cell?_alloc_lt w o _ (by rw [block_of_add]; exact hb')).trans hcy
        have hkm : k < m := by have := HM.out; omega
        clear hcx hcy
        cases h5 : btw x (-16383) 16383
        · go_wp2_with (go_at_call 27; refine (rbetween_any _ _ _ _).mono ?_; rintro e w' ⟨rfl, rfl⟩)
          go_ret
          exact ⟨ret_int (by rw [HCL.out, HC.out, cl_stop HX.out HY.out (cc3 h5)]), Ext.new _ _⟩
        cases h6 : btw y 0 255
        · go_wp2_with (go_at_call 27; refine (rbetween_any _ _ _ _).mono ?_; rintro e w' ⟨rfl, rfl⟩)
          go_ret
          exact ⟨ret_int (by rw [HCL.out, HC.out, cl_stop HX.out HY.out (cc1 h5 h6)]), Ext.new _ _⟩
        · go_wp2_with (go_at_call 27; refine (rbetween_any _ _ _ _).mono ?_; rintro e w' ⟨rfl, rfl⟩)
          go_round
          case rel => exact ⟨k + 1, by omega, by go_num, by rw [HC.out, cl_on HX.out HY.out (cc2 h5 h6)]⟩
          case measure => simp [intOf]; omega
      · go_wp2
        go_ret
        exact ⟨ret_int (by rw [HCL.out, HC.out, cl_end (by have := HS.out; omega)]), Ext.new _ _⟩
  · have h4 : ((m : Int) != (n : Int)) = true := by simp; omega
    go_enter Try.func10, Try.ntmps10
    go_wp2_with (go_at_call 27; refine (rbetween_any _ _ _ _).mono ?_; rintro e w' ⟨rfl, rfl⟩)
    go_ret
    exact ⟨ret_int (ck2 HS.out HQ.out h1 h2 h3 hmn), Ext.new _ _⟩
end Go.Proofs.Ytmlcmnbjioabiaa
