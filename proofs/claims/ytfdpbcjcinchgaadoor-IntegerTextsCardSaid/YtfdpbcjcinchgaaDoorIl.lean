/- Contracts: signs, words, small numbers. -/
import Derived.Test.YtfdpbcjcinchgaaDoorIk
import Derived.Lib.EndianBits
namespace Go.Proofs.YtfdpbcjcinchgaaDoor
open Go.RowKit
set_option linter.unusedVariables false

set_option maxRecDepth 100000 in
set_option maxHeartbeats 400000 in
theorem Sign_ok (v : Value) (x : Int) (w : World) (hX : RI w v x) (ax : x.natAbs < lim) :
    Calls Tryd.prog 19 #[v] w fun e w' => e = .returned (.int .i64 (cmpZ x 0)) ∧ Ext w w' := by
  obtain ⟨A, n, c, rfl, hx⟩ := hX
  go_enter Tryd.func19, Tryd.ntmps19
  go_wp2_with fail
  refine (Compare_ok _ _ x 0 _ (show RI _ _ _ from ⟨_, _, _, rfl, hx.ext (Ext.new w _)⟩) (RI.zero _) ax (by unfold lim; exact Nat.pow_pos (by omega))).mono ?_
  rintro e w1 ⟨rfl, hx1⟩
  go_wp2
  go_ret
  exact ⟨rfl, (Ext.new w _).trans hx1⟩
set_option maxRecDepth 100000 in
set_option maxHeartbeats 400000 in
theorem Sign_bad (v : Value) (s : Bool) (l : List Nat) (w : World) (hX : RX w v s l) (hv : validB s l = false) :
    Calls Tryd.prog 19 #[v] w fun e w' => e = .returned (.int .i64 0) ∧ Ext w w' := by
  obtain ⟨A, n, c, rfl, hx⟩ := hX
  have HV := Lib.hid hv; clear hv
  go_enter Tryd.func19, Tryd.ntmps19
  go_wp2_with fail
  refine (Compare_bad _ _ s false l [] _ (show RX _ _ _ _ from ⟨_, _, _, rfl, hx.ext (Ext.new w _)⟩) (show RX _ _ _ _ from ⟨none, 0, 0, rfl, RM.nil⟩) (by rw [HV.out]; rfl)).mono ?_
  rintro e w1 ⟨rfl, hx1⟩
  go_wp2
  go_ret
  exact ⟨rfl, (Ext.new w _).trans hx1⟩
set_option maxRecDepth 100000 in
set_option maxHeartbeats 400000 in
theorem rSign_ok (v : Value) (x : Int) (w : World) (hX : RI w v x) (ax : x.natAbs < lim) :
    Calls Tryd.prog 20 #[v] w fun e w' => e = .returned (.int .i64 (cmpZ x 0)) ∧ Ext w w' := by
  obtain ⟨A, n, c, rfl, hx⟩ := hX
  go_enter Tryd.func20, Tryd.ntmps20
  go_wp2_with fail
  refine (rCompare_ok _ _ x 0 _ (show RI _ _ _ from ⟨_, _, _, rfl, hx.ext (Ext.new w _)⟩) (RI.zero _) ax (by unfold lim; exact Nat.pow_pos (by omega))).mono ?_
  rintro e w1 ⟨rfl, hx1⟩
  go_wp2
  go_ret
  exact ⟨rfl, (Ext.new w _).trans hx1⟩
set_option maxRecDepth 100000 in
set_option maxHeartbeats 400000 in
theorem rSign_bad (v : Value) (s : Bool) (l : List Nat) (w : World) (hX : RX w v s l) (hv : validB s l = false) :
    Calls Tryd.prog 20 #[v] w fun e w' => e = .returned (.int .i64 0) ∧ Ext w w' := by
  obtain ⟨A, n, c, rfl, hx⟩ := hX
  have HV := Lib.hid hv; clear hv
  go_enter Tryd.func20, Tryd.ntmps20
  go_wp2_with fail
  refine (rCompare_bad _ _ s false l [] _ (show RX _ _ _ _ from ⟨_, _, _, rfl, hx.ext (Ext.new w _)⟩) (show RX _ _ _ _ from ⟨none, 0, 0, rfl, RM.nil⟩) (by rw [HV.out]; rfl)).mono ?_
  rintro e w1 ⟨rfl, hx1⟩
  go_wp2
  go_ret
  exact ⟨rfl, (Ext.new w _).trans hx1⟩

theorem or_zero {x : Nat} (hx : x < 18446744073709551616) : bits .or .u64 ((0 : Nat) : Int) (x : Int) = (x : Int) := by
  rw [u64_or_nat 0 x (by omega) hx]; simp
theorem or_lo {a x : Nat} (ha : a < 4294967296) (hx : x < 4294967296) : bits .or .u64 (a : Int) ((x : Int) * 4294967296) = ((a + 4294967296 * x : Nat) : Int) := by
  rw [u64_or32 _ _ (by omega) (by omega) (by omega) (by omega) (by omega)]; omega
theorem or_hi {a x : Nat} (ha : a < 4294967296) (hx : x < 4294967296) : bits .or .u64 ((a : Int) * 4294967296) (x : Int) = ((x + 4294967296 * a : Nat) : Int) := by
  rw [bits_join .u64 64 (by decide) wraps_u64 32 _ _ (by omega) (by omega) (by omega) (by omega) (by omega) (by omega)]; omega

set_option maxRecDepth 100000 in
set_option maxHeartbeats 800000 in
theorem word_any (A : Option Addr) (n c : Nat) (l : List Nat) (w : World) (h : RM w A n c l) (hn : n ≤ 2) :
    Calls Tryd.prog 49 #[.slice A n c] w fun e w' => e = .returned (.int .u64 (val l : Int)) ∧ w = w' := by
  have HL := Lib.hid h.len
  go_enter Tryd.func49, Tryd.ntmps49
  go_wp2
  go_loop [3, 8] (fun wv i => ∃ k : Nat, k ≤ n ∧ i = .int .i64 k ∧ wv = .int .u64 (val (l.take k) : Int)) (fun _ i => n - (intOf i).toNat)
  case atStart => exact ⟨0, by omega, rfl, rfl⟩
  case round =>
    obtain ⟨k, hk, rfl, rfl⟩ := hrel
    by_cases hlt : k < n
    · obtain ⟨ad, x, rfl, _, hx, hx32, hcx⟩ := h.at_ hlt
      have HX := Lib.hid (val_take_succ hx)
      rcases (show k = 0 ∨ k = 1 by omega) with rfl | rfl
      · have e0 : val (l.take 0) = 0 := rfl
        have hc0 : w.cell? ad = some (.int .u32 (x : Int)) := hcx
        clear hx
        go_wp2
        go_round
        case rel => exact ⟨1, by omega, by go_num, congrArg (fun z : Int => Value.int .u64 z) (by rw [show bits .or .u64 ((val [] : Nat) : Int) (x : Int) = (x : Int) from or_zero (by omega), HX.out]; simp [val])⟩
        case measure => simp [intOf] <;> omega
      · have hb := val_lt (h.dg.take 1)
        rw [List.length_take] at hb
        have hb' : val (l.take 1) < 4294967296 := Nat.lt_of_lt_of_le hb (by have := HL.out; rw [Nat.min_eq_left (by omega)]; exact Nat.le_refl _)
        clear hb hx
        have hc0 : w.cell? ⟨ad.block, ad.off + 1, none⟩ = some (.int .u32 (x : Int)) := by simpa [Addr.add] using hcx
        go_wp2
        go_round
        case rel => exact ⟨2, by omega, by go_num, congrArg (fun z : Int => Value.int .u64 z) (by rw [or_lo hb' hx32, HX.out])⟩
        case measure => simp [intOf] <;> omega
    · go_wp2
      go_ret
      exact ⟨ret_int (by rw [List.take_of_length_le (by rw [HL.out]; omega)]), rfl⟩

/-- A small number, or none. -/
def smallS (z : Int) : Int × Bool := if -9223372036854775808 ≤ z ∧ z ≤ 9223372036854775807 then (z, true) else (0, false)
theorem smallS_yes {z : Int} (h : -9223372036854775808 ≤ z ∧ z ≤ 9223372036854775807) : smallS z = (z, true) := by unfold smallS; rw [if_pos h]
theorem smallS_no {z : Int} (h : ¬ (-9223372036854775808 ≤ z ∧ z ≤ 9223372036854775807)) : smallS z = (0, false) := by unfold smallS; rw [if_neg h]
theorem small_len {z : Int} {n : Nat} (hl : (digs z.natAbs).length = n) (hn : ¬ n ≤ 2) : ¬ (-9223372036854775808 ≤ z ∧ z ≤ 9223372036854775807) := by
  intro h
  have := digs_len_le (n := z.natAbs) (k := 2) (by omega)
  omega
theorem small_lt {z : Int} {n : Nat} (hl : (digs z.natAbs).length = n) (hn : n ≤ 2) : z.natAbs < 18446744073709551616 := by
  have := lt_of_digs_len (n := z.natAbs) (k := 2) (by omega)
  omega
theorem i64_of_neg {m : Nat} (h : m ≤ 9223372036854775808) : wrap64 (IntKind.u64.wrap (-(m : Int))) = -(m : Int) := by
  rw [u64_wrap]; unfold wrap64; omega
theorem xor_ones {m : Nat} (h : m < 18446744073709551616) : 18446744073709551615 ^^^ m = 18446744073709551615 - m := by
  have h1 : (BitVec.allOnes 64 ^^^ BitVec.ofNat 64 m).toNat = (BitVec.allOnes 64).toNat ^^^ (BitVec.ofNat 64 m).toNat := BitVec.toNat_xor _ _
  rw [BitVec.allOnes_xor, BitVec.toNat_not, BitVec.toNat_ofNat, BitVec.toNat_allOnes, Nat.mod_eq_of_lt (by omega)] at h1
  exact h1.symm
theorem u64_not {m : Nat} (h : m < 18446744073709551616) : bits .xor .u64 IntKind.u64.max (m : Int) = ((18446744073709551615 - m : Nat) : Int) := by
  rw [show IntKind.u64.max = ((18446744073709551615 : Nat) : Int) from rfl, u64_xor_nat _ _ (by omega) h, xor_ones h]
theorem i64_of_not {m : Nat} (h : m ≤ 9223372036854775808) : wrap64 (IntKind.u64.wrap (bits .xor .u64 IntKind.u64.max (m : Int) + 1)) = -(m : Int) := by
  rw [u64_not (by omega), u64_wrap]; unfold wrap64; omega
theorem ret_ib {a b : Int} {c d : Bool} (h1 : a = b) (h2 : c = d) : Ending.returned (.tuple #[.int .i64 a, .bool c]) = .returned (.tuple #[.int .i64 b, .bool d]) := by rw [h1, h2]

set_option maxRecDepth 100000 in
set_option maxHeartbeats 800000 in
theorem Small_ok (v : Value) (x : Int) (w : World) (hX : RI w v x) (ax : x.natAbs < lim) :
    Calls Tryd.prog 15 #[v] w fun e w' => e = .returned (.tuple #[.int .i64 (smallS x).1, .bool (smallS x).2]) ∧ Ext w w' := by
  have HV := Lib.hid (RI.valid hX ax)
  obtain ⟨A, n, c, rfl, hx⟩ := hX
  have HL := Lib.hid hx.len
  have hn := hx.le400 ax
  go_enter Tryd.func15, Tryd.ntmps15
  go_wp2_with fail
  refine (Valid_any _ A n c _ _ (hx.ext (Ext.new w _))).mono ?_
  rintro e w1 ⟨rfl, hx1⟩
  rw [HV.out]
  have c0 := ((Blk.new w 24 _).ext hx1).cell
  by_cases h2 : n ≤ 2
  · go_wp2_with fail
    refine (word_any A n c _ _ (hx.ext ((Ext.new w _).trans hx1)) h2).mono ?_
    rintro e w2 ⟨rfl, rfl⟩
    rw [val_digs]
    have hm := small_lt HL.out h2
    by_cases h0 : x < 0
    · have d0 : decide (x < 0) = true := decide_eq_true h0
      have hxm : x = -(x.natAbs : Int) := by omega
      clear HL HV hx ax
      generalize x.natAbs = m at *
      have HXM := Lib.hid hxm; clear hxm
      by_cases hb : (m : Int) ≤ 9223372036854775808
      · go_wp2
        go_ret2
        have hS := smallS_yes (z := x) (by have := HXM.out; omega)
        exact ⟨ret_ib (by rw [hS]; show _ = x; rw [i64_of_neg (by omega), ← HXM.out]) (by rw [hS]), (Ext.new w _).trans hx1⟩
      · go_wp2
        go_ret2
        have hS := smallS_no (z := x) (by have := HXM.out; omega)
        exact ⟨ret_ib (by rw [hS]) (by rw [hS]), (Ext.new w _).trans hx1⟩
    · have d0 : decide (x < 0) = false := decide_eq_false h0
      have hxm : x = (x.natAbs : Int) := by omega
      clear HL HV hx ax
      generalize x.natAbs = m at *
      have HXM := Lib.hid hxm; clear hxm
      by_cases hb : (m : Int) ≤ 9223372036854775807
      · go_wp2
        go_ret2
        have hS := smallS_yes (z := x) (by have := HXM.out; omega)
        exact ⟨ret_ib (by rw [hS]; exact HXM.out.symm) (by rw [hS]), (Ext.new w _).trans hx1⟩
      · go_wp2
        go_ret2
        have hS := smallS_no (z := x) (by have := HXM.out; omega)
        exact ⟨ret_ib (by rw [hS]) (by rw [hS]), (Ext.new w _).trans hx1⟩
  · have HS := Lib.hid (smallS_no (small_len HL.out h2))
    go_wp2
    go_ret2
    exact ⟨ret_ib (by rw [HS.out]) (by rw [HS.out]), (Ext.new w _).trans hx1⟩

set_option maxRecDepth 100000 in
set_option maxHeartbeats 400000 in
theorem Small_bad (v : Value) (s : Bool) (l : List Nat) (w : World) (hX : RX w v s l) (hv : validB s l = false) :
    Calls Tryd.prog 15 #[v] w fun e w' => e = .returned (.tuple #[.int .i64 0, .bool false]) ∧ Ext w w' := by
  obtain ⟨A, n, c, rfl, hx⟩ := hX
  have HV := Lib.hid hv; clear hv
  go_enter Tryd.func15, Tryd.ntmps15
  go_wp2_with fail
  refine (Valid_any _ A n c _ _ (hx.ext (Ext.new w _))).mono ?_
  rintro e w1 ⟨rfl, hx1⟩
  rw [HV.out]
  go_wp2
  go_ret2
  exact ⟨rfl, (Ext.new w _).trans hx1⟩
set_option maxRecDepth 100000 in
set_option maxHeartbeats 400000 in
theorem rSmall_bad (v : Value) (s : Bool) (l : List Nat) (w : World) (hX : RX w v s l) (hv : validB s l = false) :
    Calls Tryd.prog 16 #[v] w fun e w' => e = .returned (.tuple #[.int .i64 0, .bool false]) ∧ Ext w w' := by
  obtain ⟨A, n, c, rfl, hx⟩ := hX
  have HV := Lib.hid hv; clear hv
  go_enter Tryd.func16, Tryd.ntmps16
  go_wp2_with fail
  refine (rValid_any _ A n c _ _ (hx.ext (Ext.new w _))).mono ?_
  rintro e w1 ⟨rfl, hx1⟩
  rw [HV.out]
  go_wp2
  go_ret2
  exact ⟨rfl, (Ext.new w _).trans hx1⟩
theorem val_drop {l : List Nat} {k x : Nat} (h : l[k]? = some x) : val (l.drop k) = x + 4294967296 * val (l.drop (k + 1)) := by
  obtain ⟨h1, rfl⟩ := List.getElem?_eq_some_iff.1 h
  rw [List.drop_eq_getElem_cons h1, val]

set_option maxRecDepth 100000 in
set_option maxHeartbeats 800000 in
theorem rSmall_ok (v : Value) (x : Int) (w : World) (hX : RI w v x) (ax : x.natAbs < lim) :
    Calls Tryd.prog 16 #[v] w fun e w' => e = .returned (.tuple #[.int .i64 (smallS x).1, .bool (smallS x).2]) ∧ Ext w w' := by
  have HV := Lib.hid (RI.valid hX ax)
  obtain ⟨A, n, c, rfl, hx⟩ := hX
  have HL := Lib.hid hx.len
  have hn := hx.le400 ax
  go_enter Tryd.func16, Tryd.ntmps16
  go_wp2_with fail
  refine (rValid_any _ A n c _ _ (hx.ext (Ext.new w _))).mono ?_
  rintro e w1 ⟨rfl, hx1⟩
  rw [HV.out]
  have hx2 := hx.ext ((Ext.new w _).trans hx1)
  have c0 := ((Blk.new w 24 _).ext hx1).cell
  by_cases h2 : n ≤ 2
  · go_wp2
    go_loop [4, 5] (fun uv i => ∃ k : Nat, k ≤ n ∧ i = .int .i64 ((k : Int) - 1) ∧ uv = .int .u64 (val ((digs x.natAbs).drop k) : Int)) (fun _ i => (intOf i + 1).toNat)
    case atStart => exact ⟨n, Nat.le_refl _, rfl, by rw [List.drop_eq_nil_of_le (by rw [HL.out]; omega)]; rfl⟩
    case round =>
      obtain ⟨k, hk, rfl, rfl⟩ := hrel
      by_cases h0 : k = 0
      · subst h0
        have hm := small_lt HL.out h2
        simp only [List.drop_zero, val_digs]
        clear hx2
        by_cases h0 : x < 0
        · have d0 : decide (x < 0) = true := decide_eq_true h0
          have hxm : x = -(x.natAbs : Int) := by omega
          clear HL HV hx ax
          generalize x.natAbs = m at *
          have HXM := Lib.hid hxm; clear hxm
          by_cases hb : (m : Int) ≤ 9223372036854775808
          · go_wp2
            go_ret2
            have hS := smallS_yes (z := x) (by have := HXM.out; omega)
            exact ⟨ret_ib (by rw [hS]; show _ = x; rw [i64_of_not (by omega), ← HXM.out]) (by rw [hS]), (Ext.new w _).trans hx1⟩
          · go_wp2
            go_ret2
            have hS := smallS_no (z := x) (by have := HXM.out; omega)
            exact ⟨ret_ib (by rw [hS]) (by rw [hS]), (Ext.new w _).trans hx1⟩
        · have d0 : decide (x < 0) = false := decide_eq_false h0
          have hxm : x = (x.natAbs : Int) := by omega
          clear HL HV hx ax
          generalize x.natAbs = m at *
          have HXM := Lib.hid hxm; clear hxm
          by_cases hb : (9223372036854775808 : Int) ≤ (m : Int)
          · go_wp2
            go_ret2
            have hS := smallS_no (z := x) (by have := HXM.out; omega)
            exact ⟨ret_ib (by rw [hS]) (by rw [hS]), (Ext.new w _).trans hx1⟩
          · go_wp2
            go_ret2
            have hS := smallS_yes (z := x) (by have := HXM.out; omega)
            exact ⟨ret_ib (by rw [hS]; exact HXM.out.symm) (by rw [hS]), (Ext.new w _).trans hx1⟩
      · obtain ⟨j, rfl⟩ : ∃ j, k = j + 1 := ⟨k - 1, by omega⟩
        obtain ⟨ad, y, rfl, hb, hy, hy32, hcy⟩ := hx2.at_ (k := j) (by omega)
        have HY := Lib.hid (val_drop hy); clear hy
        have hb' : val ((digs x.natAbs).drop (j + 1)) < 4294967296 := by
          have h1 := val_lt ((dig_digs x.natAbs).drop (j + 1))
          have h2 := Nat.pow_le_pow_right (n := 4294967296) (by omega) (show ((digs x.natAbs).drop (j + 1)).length ≤ 1 by rw [List.length_drop, HL.out]; omega)
          omega
        generalize hg : val ((digs x.natAbs).drop (j + 1)) = g at *
        have HG := Lib.hid hg; clear hg
        go_wp2
        go_round
        case rel => exact ⟨j, by omega, by go_num, congrArg (fun z : Int => Value.int .u64 z) (by rw [or_hi hb' hy32, HY.out])⟩
        case measure => simp [intOf] <;> omega
  · have HS := Lib.hid (smallS_no (small_len HL.out h2))
    go_wp2
    go_ret2
    exact ⟨ret_ib (by rw [HS.out]) (by rw [HS.out]), (Ext.new w _).trans hx1⟩
end Go.Proofs.YtfdpbcjcinchgaaDoor
