/- Contracts: the laws' small helpers. -/
import Derived.Test.YtfdpbcjcinchgaaDoorTc
namespace Go.Proofs.YtfdpbcjcinchgaaDoor
open Go.RowKit
set_option linter.unusedVariables false

set_option maxRecDepth 100000 in
set_option maxHeartbeats 400000 in
theorem same_true (a b : Value) (e x : Int) (w : World) (hX : RI w a x) (hY : RI w b x) :
    Calls Tryd.prog 30 #[a, .int .i64 e, b, .int .i64 e] w fun e w' => e = .returned (.bool true) ∧ Ext w w' := by
  obtain ⟨sa, A, n, c, rfl, hX⟩ := hX.open_
  obtain ⟨sb, B, m, d, rfl, hY⟩ := hY.open_
  have hE : Ext w ((w.alloc (.cells #[.bool sa, .slice A n c] 24)).alloc (.cells #[.bool sb, .slice B m d] 24)) := (Ext.new w _).alloc _
  have he : (e == e) = true := by simp
  go_enter Tryd.func30, Tryd.ntmps30
  go_wp2_with fail
  refine (rSame_any _ _ x x _ (hX.ext hE) (hY.ext hE)).mono ?_
  rintro e w1 ⟨rfl, hx1⟩
  go_wp2
  go_ret
  exact ⟨ret_bool (by simp), hE.trans hx1⟩

set_option maxRecDepth 100000 in
set_option maxHeartbeats 400000 in
theorem lsum_ok (a b : Value) (x y z : Int) (w : World) (hX : RI w a x) (hY : RI w b y) (ax : x.natAbs < lim) (ay : y.natAbs < lim) (hz : z = (resS (x + y)).1) :
    Calls Tryd.prog 36 #[a, b] w fun e w' => ∃ v, e = .returned v ∧ RI w' v z ∧ Ext w w' := by
  obtain ⟨sa, A, n, c, rfl, hX⟩ := hX.open_
  obtain ⟨sb, B, m, d, rfl, hY⟩ := hY.open_
  have HZ := Lib.hid hz; clear hz
  have hE := ((Ext.new w (.cells #[.bool sa, .slice A n c] 24)).alloc (.cells #[.bool sb, .slice B m d] 24)).alloc (.cells #[.bool false, .slice none 0 0] 24)
  go_enter Tryd.func36, Tryd.ntmps36
  go_wp2_with fail
  refine (Add_ok _ _ x y _ (hX.ext hE) (hY.ext hE) ax ay).mono ?_
  rintro e w1 ⟨v1, rfl, ⟨u, rfl, hI⟩, hx1⟩
  rw [← HZ.out] at hI
  generalize (resS (x + y)).2 = er
  obtain ⟨s2, A2, n2, c2, rfl, hI⟩ := hI.open_
  have hx2 := hx1.alloc (.cells #[.bool s2, .slice A2 n2 c2] 24)
  have b0 := (Blk.new w1 24 #[.bool s2, .slice A2 n2 c2])
  have b4 := box3c hx2
  have c0 := b0.cell
  have c4 := b4.cell
  have f4 := b4.frozen
  obtain ⟨k1, k2, k3⟩ := put2 (box3 hx2) (by omega) b4 s2 A2 n2 c2
  obtain ⟨A3, n3, c3, h3, hI3⟩ := hI.ext (Ext.new w1 (.cells #[.bool s2, .slice A2 n2 c2] 24))
  have K1 := Lib.hid k1; have K2 := Lib.hid k2; have K3 := Lib.hid (k3 _ _ _ _ hI3); clear k1 k2 k3
  have H3 := Lib.hid h3; clear h3
  go_wp2
  exact bp_int1 rfl rfl rfl K2.out ⟨_, rfl, ⟨_, _, _, H3.out, K3.out⟩, K1.out⟩
set_option maxRecDepth 100000 in
set_option maxHeartbeats 400000 in
theorem lproduct_ok (a b : Value) (x y z : Int) (w : World) (hX : RI w a x) (hY : RI w b y) (ax : x.natAbs < lim) (ay : y.natAbs < lim) (hz : z = (resS (x * y)).1) :
    Calls Tryd.prog 46 #[a, b] w fun e w' => ∃ v, e = .returned v ∧ RI w' v z ∧ Ext w w' := by
  obtain ⟨sa, A, n, c, rfl, hX⟩ := hX.open_
  obtain ⟨sb, B, m, d, rfl, hY⟩ := hY.open_
  have HZ := Lib.hid hz; clear hz
  have hE := ((Ext.new w (.cells #[.bool sa, .slice A n c] 24)).alloc (.cells #[.bool sb, .slice B m d] 24)).alloc (.cells #[.bool false, .slice none 0 0] 24)
  go_enter Tryd.func46, Tryd.ntmps46
  go_wp2_with fail
  refine (Mul_ok _ _ x y _ (hX.ext hE) (hY.ext hE) ax ay).mono ?_
  rintro e w1 ⟨v1, rfl, ⟨u, rfl, hI⟩, hx1⟩
  rw [← HZ.out] at hI
  generalize (resS (x * y)).2 = er
  obtain ⟨s2, A2, n2, c2, rfl, hI⟩ := hI.open_
  have hx2 := hx1.alloc (.cells #[.bool s2, .slice A2 n2 c2] 24)
  have b0 := (Blk.new w1 24 #[.bool s2, .slice A2 n2 c2])
  have b4 := box3c hx2
  have c0 := b0.cell
  have c4 := b4.cell
  have f4 := b4.frozen
  obtain ⟨k1, k2, k3⟩ := put2 (box3 hx2) (by omega) b4 s2 A2 n2 c2
  obtain ⟨A3, n3, c3, h3, hI3⟩ := hI.ext (Ext.new w1 (.cells #[.bool s2, .slice A2 n2 c2] 24))
  have K1 := Lib.hid k1; have K2 := Lib.hid k2; have K3 := Lib.hid (k3 _ _ _ _ hI3); clear k1 k2 k3
  have H3 := Lib.hid h3; clear h3
  go_wp2
  exact bp_int1 rfl rfl rfl K2.out ⟨_, rfl, ⟨_, _, _, H3.out, K3.out⟩, K1.out⟩

set_option maxRecDepth 100000 in
theorem within_any (n : Int) (w : World) (h1 : -9223372036854775808 ≤ n) (h2 : n ≤ 9223372036854775807) :
    Calls Tryd.prog 25 #[.int .i64 n, .int .i64 12] w fun e w' => (∃ k : Nat, k < 12 ∧ e = .returned (.int .i64 (k : Int))) ∧ Ext w w' := by
  have hb : -12 < n.tmod 12 ∧ n.tmod 12 < 12 := by
    have := Int.tmod_lt_of_pos n (b := 12) (by omega)
    have := Int.lt_tmod_of_pos n (b := 12) (by omega)
    omega
  by_cases h0 : n.tmod 12 < 0
  · go_enter Tryd.func25, Tryd.ntmps25
    go_wp2
    go_ret
    exact ⟨⟨(n.tmod 12 + 12).toNat, by omega, ret_int (by omega)⟩, Ext.refl _⟩
  · go_enter Tryd.func25, Tryd.ntmps25
    go_wp2
    go_ret
    exact ⟨⟨(n.tmod 12).toNat, by omega, ret_int (by omega)⟩, Ext.refl _⟩

set_option maxRecDepth 100000 in
set_option maxHeartbeats 400000 in
theorem Large_any (g c : Nat) (ls : List (Option Addr × Nat × Nat)) (w : World) (hl : ls.length ≤ 100) (hb : ∀ j q, ls[j]? = some q → w.cell? ⟨g, j * 2 + 1, none⟩ = some (.slice q.1 q.2.1 q.2.2)) :
    Calls Tryd.prog 14 #[.slice (some ⟨g, 0, none⟩) ls.length c] w fun e w' => e = .returned (.bool (ls.any fun q => decide (40 < q.2.1))) ∧ Ext w w' := by
  obtain ⟨L, hL⟩ : ∃ L, ls.length = L := ⟨_, rfl⟩
  rw [hL]
  have HL := Lib.hid hL
  rw [hL] at hl
  clear hL
  have HB := Lib.hid hb; clear hb
  go_enter Tryd.func14, Tryd.ntmps14
  go_wp2_with fail
  go_loop [3] (fun i => ∃ k : Nat, k ≤ L ∧ i = .int .i64 (k : Int) ∧ (ls.take k).any (fun q => decide (40 < q.2.1)) = false) (fun i => (L : Int).toNat - (intOf i).toNat)
  case atStart => exact ⟨0, by omega, rfl, by simp⟩
  case round =>
    obtain ⟨k, hk, rfl, ht⟩ := hrel
    have HT := Lib.hid ht; clear ht
    by_cases hkL : k < L
    · have hq := List.getElem?_eq_getElem (l := ls) (i := k) (by rw [HL.out]; exact hkL)
      obtain ⟨q1, q2, q3, hqe⟩ : ∃ a b c, ls[k]? = some (a, b, c) := ⟨_, _, _, hq⟩
      have hc := HB.out k _ hqe
      have HQ := Lib.hid hqe; clear hq hqe
      have e1 : ((k : Int) * 2).toNat = k * 2 := by omega
      by_cases h40 : 40 < q2
      · have t1 : decide ((40 : Int) < (q2 : Int)) = true := by simp; omega
        go_wp2
        go_ret
        refine ⟨ret_bool ?_, Ext.refl _⟩
        symm
        rw [List.any_eq_true]
        exact ⟨_, List.mem_of_getElem? HQ.out, by simpa using h40⟩
      · have t1 : decide ((40 : Int) < (q2 : Int)) = false := by simp; omega
        go_wp2
        go_round
        case rel =>
          refine ⟨k + 1, by omega, by go_num, ?_⟩
          rw [List.take_add_one, HQ.out, List.any_append, HT.out]
          simpa using h40
        case measure => simp [intOf] <;> omega
    · obtain rfl : k = L := by omega
      go_wp2
      go_ret
      refine ⟨ret_bool ?_, Ext.refl _⟩
      rw [← HT.out, List.take_of_length_le (by rw [HL.out]; exact Nat.le_refl _)]
end Go.Proofs.YtfdpbcjcinchgaaDoor
