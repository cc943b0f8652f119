/- Rows of numbers, whatever they hold: valid, low. -/
import Derived.Test.YtjeijmnhbckjdaaGreatDoorQGamolh
import Derived.Test.YtjeijmnhbckjdaaGreatDoorQNGodjj
namespace Go.Proofs.YtjeijmnhbckjdaaGreatDoor
open Go.RowKit
set_option linter.unusedVariables false

theorem xvalid3_raw (gs : Nat) (b0 b1 b2 r : Bool) (w : World) {s00 : Bool} {A00 : Option Addr} {n00 c00 : Nat} {s01 : Bool} {A01 : Option Addr} {n01 c01 : Nat} {s02 : Bool} {A02 : Option Addr} {n02 c02 : Nat} {s10 : Bool} {A10 : Option Addr} {n10 c10 : Nat} {s11 : Bool} {A11 : Option Addr} {n11 c11 : Nat} {s12 : Bool} {A12 : Option Addr} {n12 c12 : Nat} {s20 : Bool} {A20 : Option Addr} {n20 c20 : Nat} {s21 : Bool} {A21 : Option Addr} {n21 c21 : Nat} {s22 : Bool} {A22 : Option Addr} {n22 c22 : Nat} (hb : Blk w gs 26 #[.bool s00, .slice A00 n00 c00, .bool s01, .slice A01 n01 c01, .bool s02, .slice A02 n02 c02, .bool s10, .slice A10 n10 c10, .bool s11, .slice A11 n11 c11, .bool s12, .slice A12 n12 c12, .bool s20, .slice A20 n20 c20, .bool s21, .slice A21 n21 c21, .bool s22, .slice A22 n22 c22]) (h0 : VB w (gv s00 A00 n00 c00 s01 A01 n01 c01 s02 A02 n02 c02) b0) (h1 : VB w (gv s10 A10 n10 c10 s11 A11 n11 c11 s12 A12 n12 c12) b1) (h2 : VB w (gv s20 A20 n20 c20 s21 A21 n21 c21 s22 A22 n22 c22) b2) (hr : [b0, b1, b2].all id = r) :
    Calls Tryz.prog 62 #[.slice (some ⟨gs, 0, none⟩) 3 3] w fun e w' => e = .returned (.bool r) ∧ Ext w w' := by
  subst hr
  refine xvalid_any gs 3 [b0, b1, b2] _ w hb rfl (by omega) (fun j b hj => ?_)
  match j, hj with
  | 0, hj => injection hj with hj; subst hj; exact ⟨_, _, _, _, _, _, _, _, _, _, _, _, rfl, rfl, rfl, rfl, rfl, rfl, fun w' hx => (h0 w' hx).1⟩
  | 1, hj => injection hj with hj; subst hj; exact ⟨_, _, _, _, _, _, _, _, _, _, _, _, rfl, rfl, rfl, rfl, rfl, rfl, fun w' hx => (h1 w' hx).1⟩
  | 2, hj => injection hj with hj; subst hj; exact ⟨_, _, _, _, _, _, _, _, _, _, _, _, rfl, rfl, rfl, rfl, rfl, rfl, fun w' hx => (h2 w' hx).1⟩
set_option maxRecDepth 100000 in
set_option maxHeartbeats 1600000 in
theorem qSmall_any (s1 : Bool) (A1 : Option Addr) (n1 c1 : Nat) (s2 : Bool) (A2 : Option Addr) (n2 c2 : Nat) (s3 : Bool) (A3 : Option Addr) (n3 c3 : Nat) (k : Nat) (w : World) :
    Calls Tryz.prog 59 #[gv s1 A1 n1 c1 s2 A2 n2 c2 s3 A3 n3 c3, .int .i64 (k : Int)] w fun e w' => e = .returned (.bool (decide (n1 ≤ k) && decide (n2 ≤ k) && decide (n3 ≤ k))) ∧ Ext w w' := by
  have b0 := Blk.new w 26 #[.bool s1, .slice A1 n1 c1, .bool s2, .slice A2 n2 c2, .bool s3, .slice A3 n3 c3]
  have k0 := b0.cell
  by_cases h1 : n1 ≤ k
  · have d1 : decide ((n1 : Int) ≤ (k : Int)) = true := by simp; omega
    have d1' : decide (n1 ≤ k) = true := by simp; omega
    by_cases h2 : n2 ≤ k
    · have d2 : decide ((n2 : Int) ≤ (k : Int)) = true := by simp; omega
      have d2' : decide (n2 ≤ k) = true := by simp; omega
      by_cases h3 : n3 ≤ k
      · have d3 : decide ((n3 : Int) ≤ (k : Int)) = true := by simp; omega
        have d3' : decide (n3 ≤ k) = true := by simp; omega
        go_enter Tryz.func59, Tryz.ntmps59
        go_wp2
        go_ret
        exact ⟨ret_bool (by simp [h1, h2, h3]), Ext.new _ _⟩
      · have d3 : decide ((n3 : Int) ≤ (k : Int)) = false := by simp; omega
        have d3' : decide (n3 ≤ k) = false := by simp; omega
        go_enter Tryz.func59, Tryz.ntmps59
        go_wp2
        go_ret
        exact ⟨ret_bool (by simp [h3]), Ext.new _ _⟩
    · have d2 : decide ((n2 : Int) ≤ (k : Int)) = false := by simp; omega
      have d2' : decide (n2 ≤ k) = false := by simp; omega
      go_enter Tryz.func59, Tryz.ntmps59
      go_wp2
      go_ret
      exact ⟨ret_bool (by simp [h2]), Ext.new _ _⟩
  · have d1 : decide ((n1 : Int) ≤ (k : Int)) = false := by simp; omega
    have d1' : decide (n1 ≤ k) = false := by simp; omega
    go_enter Tryz.func59, Tryz.ntmps59
    go_wp2
    go_ret
    exact ⟨ret_bool (by simp [h1]), Ext.new _ _⟩

set_option maxRecDepth 100000 in
set_option maxHeartbeats 1600000 in
theorem lxlow_any (gs L d : Nat) (Bs : List Bool) (cs : Array Value) (w : World) (hb : Blk w gs 26 cs) (hL : Bs.length = L) (hL2 : L ≤ 100)
    (hz : ∀ j b, Bs[j]? = some b → ∃ s1 A1 n1 c1 s2 A2 n2 c2 s3 A3 n3 c3, cs[j * 6]? = some (.bool s1) ∧ cs[j * 6 + 1]? = some (.slice A1 n1 c1) ∧ cs[j * 6 + 2]? = some (.bool s2) ∧ cs[j * 6 + 3]? = some (.slice A2 n2 c2) ∧ cs[j * 6 + 4]? = some (.bool s3) ∧ cs[j * 6 + 5]? = some (.slice A3 n3 c3) ∧ (decide (n1 ≤ d) && decide (n2 ≤ d) && decide (n3 ≤ d)) = b) :
    Calls Tryz.prog 17 #[.int .i64 (d : Int), .slice (some ⟨gs, 0, none⟩) L L] w fun e w' => e = .returned (.bool (Bs.all id)) ∧ Ext w w' := by
  have HL := Lib.hid hL; have HZ := Lib.hid hz; clear hL hz
  go_enter Tryz.func17, Tryz.ntmps17
  go_wp2_with fail
  go_loopw [9] (fun i wr => ∃ k : Nat, k ≤ L ∧ i = .int .i64 (k : Int) ∧ (Bs.take k).all id = true ∧ Ext w wr) (fun i _ => L - (intOf i).toNat)
  case atStart => exact ⟨0, by omega, rfl, by simp, Ext.refl w⟩
  case round =>
    obtain ⟨k, hk, rfl, ht, hex⟩ := hrel
    have HT := Lib.hid ht; clear ht
    by_cases hkL : k < L
    · have hq := List.getElem?_eq_getElem (l := Bs) (i := k) (by rw [HL.out]; exact hkL)
      obtain ⟨b, hz⟩ : ∃ b, Bs[k]? = some b := ⟨_, hq⟩
      clear hq
      obtain ⟨s1, A1, n1, c1, s2, A2, n2, c2, s3, A3, n3, c3, r0, r1, r2, r3, r4, r5, hV⟩ := HZ.out k b hz
      have hcell := (hb.ext hex).cell
      have hk0 := (hcell (k * 6)).trans r0
      have hk1 := (hcell (k * 6 + 1)).trans r1
      have hk2 := (hcell (k * 6 + 2)).trans r2
      have hk3 := (hcell (k * 6 + 3)).trans r3
      have hk4 := (hcell (k * 6 + 4)).trans r4
      have hk5 := (hcell (k * 6 + 5)).trans r5
      clear hcell r0 r1 r2 r3 r4 r5
      have HQ := Lib.hid hz; clear hz
      have HV := Lib.hid hV; clear hV
      have e1 : ((k : Int) * 6).toNat = k * 6 := by omega
      have b0 := Blk.new wr 26 #[.bool false, .slice none 0 0, .bool false, .slice none 0 0, .bool false, .slice none 0 0]
      have k1 := b0.cell
      have k2 := b0.frozen
      have b1 := Blk.new wr 26 #[.bool s1, .slice A1 n1 c1, .bool s2, .slice A2 n2 c2, .bool s3, .slice A3 n3 c3]
      have k3 := b1.cell
      clear b0 b1
      go_wp2_with fail
      clear k1 k2 k3 hk0 hk1 hk2 hk3 hk4 hk5
      refine (qSmall_any s1 A1 n1 c1 s2 A2 n2 c2 s3 A3 n3 c3 d _).mono ?_
      rintro e w2 ⟨rfl, hx2⟩
      rw [HV.out]
      have hex2 := (hex.alloc _).trans hx2
      clear hx2
      cases b
      · go_wp2
        go_ret
        refine ⟨ret_bool ?_, hex2⟩
        symm
        rw [Bool.eq_false_iff]
        intro h
        have := List.all_eq_true.1 h false (List.mem_of_getElem? HQ.out)
        simp at this
      · go_wp2
        go_roundw
        case rel =>
          refine ⟨k + 1, by omega, by go_num, ?_, hex2⟩
          rw [List.take_add_one, HQ.out, List.all_append, HT.out]
          rfl
        case measure => simp [intOf] <;> omega
    · obtain rfl : k = L := by omega
      go_wp2
      go_ret
      refine ⟨ret_bool ?_, hex⟩
      rw [← HT.out, List.take_of_length_le (by rw [HL.out]; exact Nat.le_refl _)]

theorem low3_raw (gs k : Nat) (r : Bool) (w : World) {s00 : Bool} {A00 : Option Addr} {n00 c00 : Nat} {s01 : Bool} {A01 : Option Addr} {n01 c01 : Nat} {s02 : Bool} {A02 : Option Addr} {n02 c02 : Nat} {s10 : Bool} {A10 : Option Addr} {n10 c10 : Nat} {s11 : Bool} {A11 : Option Addr} {n11 c11 : Nat} {s12 : Bool} {A12 : Option Addr} {n12 c12 : Nat} {s20 : Bool} {A20 : Option Addr} {n20 c20 : Nat} {s21 : Bool} {A21 : Option Addr} {n21 c21 : Nat} {s22 : Bool} {A22 : Option Addr} {n22 c22 : Nat} (hb : Blk w gs 26 #[.bool s00, .slice A00 n00 c00, .bool s01, .slice A01 n01 c01, .bool s02, .slice A02 n02 c02, .bool s10, .slice A10 n10 c10, .bool s11, .slice A11 n11 c11, .bool s12, .slice A12 n12 c12, .bool s20, .slice A20 n20 c20, .bool s21, .slice A21 n21 c21, .bool s22, .slice A22 n22 c22]) (hr : [n00, n01, n02, n10, n11, n12, n20, n21, n22].all (fun n => decide (n ≤ k)) = r) :
    Calls Tryz.prog 17 #[.int .i64 (k : Int), .slice (some ⟨gs, 0, none⟩) 3 3] w fun e w' => e = .returned (.bool r) ∧ Ext w w' := by
  have e : [(decide (n00 ≤ k) && decide (n01 ≤ k) && decide (n02 ≤ k)), (decide (n10 ≤ k) && decide (n11 ≤ k) && decide (n12 ≤ k)), (decide (n20 ≤ k) && decide (n21 ≤ k) && decide (n22 ≤ k))].all id = r := by rw [← hr]; simp [Bool.and_assoc]
  subst e
  refine lxlow_any gs 3 k [(decide (n00 ≤ k) && decide (n01 ≤ k) && decide (n02 ≤ k)), (decide (n10 ≤ k) && decide (n11 ≤ k) && decide (n12 ≤ k)), (decide (n20 ≤ k) && decide (n21 ≤ k) && decide (n22 ≤ k))] _ w hb rfl (by omega) (fun j b hj => ?_)
  match j, hj with
  | 0, hj => injection hj with hj; subst hj; exact ⟨_, _, _, _, _, _, _, _, _, _, _, _, rfl, rfl, rfl, rfl, rfl, rfl, rfl⟩
  | 1, hj => injection hj with hj; subst hj; exact ⟨_, _, _, _, _, _, _, _, _, _, _, _, rfl, rfl, rfl, rfl, rfl, rfl, rfl⟩
  | 2, hj => injection hj with hj; subst hj; exact ⟨_, _, _, _, _, _, _, _, _, _, _, _, rfl, rfl, rfl, rfl, rfl, rfl, rfl⟩
end Go.Proofs.YtjeijmnhbckjdaaGreatDoor
