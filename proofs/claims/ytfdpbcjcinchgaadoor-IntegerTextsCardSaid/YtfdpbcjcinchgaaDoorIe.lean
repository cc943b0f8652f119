/- Contracts: digits of words, Of. -/
import Derived.Test.YtfdpbcjcinchgaaDoorId
namespace Go.Proofs.YtfdpbcjcinchgaaDoor
open Go.RowKit

set_option maxRecDepth 100000 in
set_option maxHeartbeats 400000 in
theorem rresult_any (v : Value) (z : Int) (w : World) (h : RI w v z) :
    Calls Tryd.prog 63 #[v] w fun e w' => ∃ v, e = .returned v ∧ RetI (resS z) v w' ∧ Ext w w' := by
  obtain ⟨A, n, c, rfl, hm⟩ := h
  have hn : n ≤ 9223372036854775807 := Nat.le_trans hm.nc hm.cm
  have hlim := lt_lim_iff hm.len
  by_cases h4 : n ≤ 400
  · have HS := Lib.hid (resS_ok (z := z) (hlim.1 h4))
    clear hlim
    go_enter Tryd.func63, Tryd.ntmps63
    go_wp2
    exact bp_int2 rfl rfl rfl (Blk.new' _ _ (by simp)) ⟨_, rfl, ⟨_, by rw [HS.out]; rfl, by rw [HS.out]; exact ⟨_, _, _, rfl, hm.ext ((Ext.new _ _).alloc _)⟩⟩, (Ext.new _ _).alloc _⟩
  · have HS := Lib.hid (resS_no (z := z) (fun h => h4 (hlim.2 h)))
    clear hlim
    go_enter Tryd.func63, Tryd.ntmps63
    go_wp2
    exact bp_int2 rfl rfl rfl (Blk.new' _ _ (by simp)) ⟨_, rfl, ⟨_, by rw [HS.out]; rfl, by rw [HS.out]; exact RI.zero _⟩, (Ext.new _ _).alloc _⟩

/-- A block of digits. -/
theorem RM.blk {w : World} {g n : Nat} {l : List Nat} (hb : Blk w g 34 (mg l).toArray) (hd : Dig l) (hn : l.length = n) (hm : n ≤ 9223372036854775807) : RM w (some ⟨g, 0, none⟩) n n l := by
  have := hb.reads (n := n) (size := 1) (by simp [mg_len, hn])
  exact ⟨by simpa using this, hd, Nat.le_refl _, hm⟩
theorem val_two (u : Nat) : val [u % 4294967296, u / 4294967296] = u := by simp only [val]; omega
theorem dig_two {u : Nat} (h : u < 18446744073709551616) : Dig [u % 4294967296, u / 4294967296] := Dig.cons (by omega) (Dig.one (by omega))
theorem u64_wrap (n : Int) : IntKind.u64.wrap n = n % 18446744073709551616 := by simp [IntKind.wrap, IntKind.signed, IntKind.bits]
theorem u64_neg {m : Nat} (h : m ≤ 9223372036854775808) : IntKind.u64.wrap (-IntKind.u64.wrap (-(m : Int))) = (m : Int) := by
  rw [u64_wrap, u64_wrap]; omega
theorem mg_two (u : Nat) : #[Value.int .u32 ((u : Int) % 4294967296), Value.int .u32 ((u : Int) / 4294967296)] = (mg [u % 4294967296, u / 4294967296]).toArray := by
  simp [mg]
theorem mg_two' {u : Nat} (h : u < 18446744073709551616) : #[Value.int .u32 ((u : Int) % 4294967296), Value.int .u32 ((u : Int) / 4294967296 % 4294967296)] = (mg [u % 4294967296, u / 4294967296]).toArray := by
  simp [mg]; omega

set_option maxRecDepth 100000 in
set_option maxHeartbeats 400000 in
theorem rdigits_any (u : Nat) (w : World) (hu : u < 18446744073709551616) :
    Calls Tryd.prog 81 #[.int .u64 (u : Int)] w fun e w' => ∃ v, e = .returned v ∧ SlM (digs u) v w' ∧ Ext w w' := by
  go_enter Tryd.func81, Tryd.ntmps81
  go_wp2_with fail
  rw [mg_two]
  refine (rtrim_any _ 2 2 _ _ (RM.blk (Blk.new _ _ _) (dig_two hu) rfl (by omega)) (by omega)).mono ?_
  rintro e w1 ⟨v1, rfl, hR, hx1⟩
  rw [val_two] at hR
  go_wp2
  go_ret
  exact ⟨_, rfl, hR, (Ext.new _ _).trans hx1⟩

theorem zOf_pos (m : Nat) : zOf false m = (m : Int) := rfl
theorem zOf_min (m : Nat) : zOf true m = -(m : Int) := rfl

set_option maxRecDepth 100000 in
set_option maxHeartbeats 400000 in
theorem Of_any (n : Int) (w : World) (h1 : -9223372036854775808 ≤ n) (h2 : n ≤ 9223372036854775807) :
    Calls Tryd.prog 35 #[.int .i64 n] w fun e w' => ∃ v, e = .returned v ∧ RI w' v n ∧ Ext w w' := by
  by_cases h0 : n < 0
  · obtain ⟨m, rfl⟩ : ∃ m : Nat, n = -(m : Int) := ⟨n.natAbs, by omega⟩
    go_enter Tryd.func35, Tryd.ntmps35
    go_wp2_with fail
    rw [u64_neg (by omega), mg_two' (by omega)]
    refine (trim_ext _ 2 2 _ _ (RM.blk (Blk.new' _ _ (by simp)) (dig_two (by omega)) rfl (by omega))).mono ?_
    rintro e w1 ⟨v1, rfl, ⟨A1, n1, c1, rfl, hR⟩, hx1⟩
    rw [val_two] at hR
    have hb := ((Blk.new w 24 _).alloc _).ext hx1
    have hc := hb.cell
    have hf := hb.frozen
    obtain ⟨k1, k2, k3⟩ := put2 (((Ext.new w _).alloc _).trans hx1) (Nat.le_refl _) hb true A1 n1 c1
    have K1 := Lib.hid k1; have K2 := Lib.hid k2; have K3 := Lib.hid (RX.made true (k3 _ _ _ _ hR)); clear k1 k2 k3
    have hn1 : 0 < n1 := by
      have := hR.len
      rw [← this]
      exact List.length_pos_iff.2 fun e => by have := digs_nil.1 e; omega
    rw [decide_eq_true hn1, Bool.true_and, zOf_min] at K3
    go_wp2
    exact bp_int1 rfl rfl rfl K2.out ⟨_, rfl, K3.out, K1.out⟩
  · obtain ⟨m, rfl⟩ : ∃ m : Nat, n = (m : Int) := ⟨n.natAbs, by omega⟩
    go_enter Tryd.func35, Tryd.ntmps35
    go_wp2_with fail
    rw [mg_two]
    refine (trim_ext _ 2 2 _ _ (RM.blk (Blk.new' _ _ (by simp)) (dig_two (by omega)) rfl (by omega))).mono ?_
    rintro e w1 ⟨v1, rfl, ⟨A1, n1, c1, rfl, hR⟩, hx1⟩
    rw [val_two] at hR
    have hb := ((Blk.new w 24 _).alloc _).ext hx1
    have hc := hb.cell
    have hf := hb.frozen
    obtain ⟨k1, k2, k3⟩ := put2 (((Ext.new w _).alloc _).trans hx1) (Nat.le_refl _) hb false A1 n1 c1
    have K1 := Lib.hid k1; have K2 := Lib.hid k2; have K3 := Lib.hid (RX.made false (k3 _ _ _ _ hR)); clear k1 k2 k3
    rw [Bool.false_and, zOf_pos] at K3
    go_wp2
    exact bp_int1 rfl rfl rfl K2.out ⟨_, rfl, K3.out, K1.out⟩
end Go.Proofs.YtfdpbcjcinchgaaDoor
