/- Contracts: the reference's sums and differences of digits. -/
import Derived.Test.YtfdpbcjcinchgaaDoorIf
namespace Go.Proofs.YtfdpbcjcinchgaaDoor
open Go.RowKit
set_option linter.unusedVariables false

theorem sum_step {o a b : List Nat} {k cy x y : Nat} (ho : o.length = k) (h : val o + 4294967296 ^ k * cy = val (a.take k) + val (b.take k)) (hx : val (a.take (k + 1)) = val (a.take k) + 4294967296 ^ k * x)
    (hy : val (b.take (k + 1)) = val (b.take k) + 4294967296 ^ k * y) :
    val (o ++ [(cy + x + y) % 4294967296]) + 4294967296 ^ (k + 1) * ((cy + x + y) / 4294967296) = val (a.take (k + 1)) + val (b.take (k + 1)) := by
  rw [val_snoc, hx, hy, ho, Nat.pow_succ, Nat.mul_assoc]
  have e : 4294967296 ^ k * ((cy + x + y) % 4294967296) + 4294967296 ^ k * (4294967296 * ((cy + x + y) / 4294967296)) = 4294967296 ^ k * (cy + x + y) := by
    rw [← Nat.mul_add]; congr 1; omega
  have e2 : 4294967296 ^ k * (cy + x + y) = 4294967296 ^ k * x + 4294967296 ^ k * cy + 4294967296 ^ k * y := by rw [Nat.mul_add, Nat.mul_add]; omega
  omega
theorem mg_snoc {o : List Nat} {d : Nat} {z : Int} (h : z = (d : Int)) : mg o ++ [.int .u32 z] = mg (o ++ [d]) := by subst h; simp [mg]

/-- Digits of a value, not more than k of them. -/
def SlV (k n : Nat) (v : Value) (w : World) : Prop := ∃ l, SlM l v w ∧ val l = n ∧ l.length ≤ k

set_option maxRecDepth 100000 in
set_option maxHeartbeats 1600000 in
theorem rplus_any (A B : Option Addr) (n m c d : Nat) (a b : List Nat) (w : World) (hA : RM w A n c a) (hB : RM w B m d b) (hn : n ≤ 1000000) (hm : m ≤ 1000000) :
    Calls Tryd.prog 65 #[.slice A n c, .slice B m d] w fun e w' => ∃ v, e = .returned v ∧ SlV (max n m + 1) (val a + val b) v w' ∧ Ext w w' := by
  have HA := Lib.hid hA.len
  have HB := Lib.hid hB.len
  go_enter Tryd.func65, Tryd.ntmps65
  go_wp2
  go_loopw [5, 6, 7] (fun ov cv i wr => ∃ (k cy : Nat) (o : List Nat), k ≤ max n m + 1 ∧ i = .int .i64 k ∧ cv = .int .u64 (cy : Int) ∧ cy ≤ 1 ∧ (max n m < k → cy = 0) ∧ o.length = k ∧ Dig o ∧ val o + 4294967296 ^ k * cy = val (a.take k) + val (b.take k) ∧
      wr.ownsRow w.heap.size 34 1 ov k (mg o) ∧ Ext w wr) (fun _ _ i _ => n + m + 2 - (intOf i).toNat)
  case atStart => exact ⟨0, 0, [], Nat.zero_le _, rfl, rfl, by omega, fun _ => rfl, rfl, Dig.nil, by simp [val], World.ownsRow_nil _ _ _ _, Ext.refl _⟩
  case round =>
    obtain ⟨k, cy, o, hk, rfl, rfl, hcy, hcz, ho, hd, hv, hown, hex⟩ := hrel
    have HV := Lib.hid hv; clear hv
    have HO := Lib.hid ho; clear ho
    have HD := Lib.hid hd; clear hd
    have HOW := Lib.hid hown; clear hown
    have hkb : k ≤ n + m + 1 := by omega
    by_cases hlt : k < n
    · obtain ⟨ad, x, rfl, _, hx, hx32, hcx⟩ := (hA.ext hex).at_ hlt
      have HX := Lib.hid (val_take_succ hx); clear hx
      clear hcz
      by_cases hlm : k < m
      · obtain ⟨bd, y, rfl, _, hy, hy32, hcy'⟩ := (hB.ext hex).at_ hlm
        have HY := Lib.hid (val_take_succ hy); clear hy
        go_wp2_with (at_builtin; refine wpList_app elem_u32 rfl (.tmp 46) (.tmp 49) rfl w.heap.size u5 k (mg o) (by rfl) (HOW.out.alloc _) wr.heap.size 1 1 [.int .u32 (((cy : Int) + x + y) % 4294967296)] (by rfl) (Blk.new _ _ _) rfl (by simp [Value.oneCell']) (by omega) (by omega) (by omega) (by have := hex.size; simp; omega) ?_)
        intro g1 cap1 w1 ho1 hg1 _ _
        have hex1 := own_grown hg1 (hex.alloc _) (fun g h => (HOW.out.lt g h).1)
        have HO1 := Lib.hid ho1; clear ho1 hg1
        go_wp2
        go_roundw
        case rel =>
          refine ⟨k + 1, (cy + x + y) / 4294967296, o ++ [(cy + x + y) % 4294967296], by omega, by go_num, by go_num, by omega, fun h => by omega, by simp [HO.out], HD.out.append (Dig.one (by omega)), sum_step HO.out HV.out HX.out HY.out, ?_, hex1⟩
          have := HO1.out
          rwa [mg_snoc (d := (cy + x + y) % 4294967296) (by omega)] at this
        case measure => simp [intOf] <;> omega
      · go_wp2_with (at_builtin; refine wpList_app elem_u32 rfl (.tmp 46) (.tmp 49) rfl w.heap.size u5 k (mg o) (by rfl) (HOW.out.alloc _) wr.heap.size 1 1 [.int .u32 (((cy : Int) + x) % 4294967296)] (by rfl) (Blk.new _ _ _) rfl (by simp [Value.oneCell']) (by omega) (by omega) (by omega) (by have := hex.size; simp; omega) ?_)
        intro g1 cap1 w1 ho1 hg1 _ _
        have hex1 := own_grown hg1 (hex.alloc _) (fun g h => (HOW.out.lt g h).1)
        have HO1 := Lib.hid ho1; clear ho1 hg1
        go_wp2
        go_roundw
        case rel =>
          refine ⟨k + 1, (cy + x + 0) / 4294967296, o ++ [(cy + x + 0) % 4294967296], by omega, by go_num, by go_num, by omega, fun h => by omega, by simp [HO.out], HD.out.append (Dig.one (by omega)), sum_step HO.out HV.out HX.out (val_short HB.out hlm), ?_, hex1⟩
          have := HO1.out
          rwa [mg_snoc (d := (cy + x + 0) % 4294967296) (by omega)] at this
        case measure => simp [intOf] <;> omega
    · by_cases hlm : k < m
      · obtain ⟨bd, y, rfl, _, hy, hy32, hcy'⟩ := (hB.ext hex).at_ hlm
        have HY := Lib.hid (val_take_succ hy); clear hy
        clear hcz
        go_wp2_with (at_builtin; refine wpList_app elem_u32 rfl (.tmp 46) (.tmp 49) rfl w.heap.size u5 k (mg o) (by rfl) (HOW.out.alloc _) wr.heap.size 1 1 [.int .u32 (((cy : Int) + y) % 4294967296)] (by rfl) (Blk.new _ _ _) rfl (by simp [Value.oneCell']) (by omega) (by omega) (by omega) (by have := hex.size; simp; omega) ?_)
        intro g1 cap1 w1 ho1 hg1 _ _
        have hex1 := own_grown hg1 (hex.alloc _) (fun g h => (HOW.out.lt g h).1)
        have HO1 := Lib.hid ho1; clear ho1 hg1
        go_wp2
        go_roundw
        case rel =>
          refine ⟨k + 1, (cy + 0 + y) / 4294967296, o ++ [(cy + 0 + y) % 4294967296], by omega, by go_num, by go_num, by omega, fun h => by omega, by simp [HO.out], HD.out.append (Dig.one (by omega)), sum_step HO.out HV.out (val_short HA.out hlt) HY.out, ?_, hex1⟩
          have := HO1.out
          rwa [mg_snoc (d := (cy + 0 + y) % 4294967296) (by omega)] at this
        case measure => simp [intOf] <;> omega
      · by_cases hc0 : 0 < cy
        · obtain rfl : cy = 1 := by omega
          have hkk : k ≤ max n m := by
            rcases Nat.lt_or_ge (max n m) k with h | h
            · exact absurd (hcz h) (by omega)
            · exact h
          clear hcz
          go_wp2_with (at_builtin; refine wpList_app elem_u32 rfl (.tmp 46) (.tmp 49) rfl w.heap.size u5 k (mg o) (by rfl) (HOW.out.alloc _) wr.heap.size 1 1 [.int .u32 (1)] (by rfl) (Blk.new _ _ _) rfl (by simp [Value.oneCell']) (by omega) (by omega) (by omega) (by have := hex.size; simp; omega) ?_)
          intro g1 cap1 w1 ho1 hg1 _ _
          have hex1 := own_grown hg1 (hex.alloc _) (fun g h => (HOW.out.lt g h).1)
          have HO1 := Lib.hid ho1; clear ho1 hg1
          go_wp2
          go_roundw
          case rel =>
            refine ⟨k + 1, (1 + 0 + 0) / 4294967296, o ++ [(1 + 0 + 0) % 4294967296], by omega, by go_num, by go_num, by omega, fun h => by omega, by simp [HO.out], HD.out.append (Dig.one (by omega)), sum_step HO.out HV.out (val_short HA.out hlt) (val_short HB.out hlm), ?_, hex1⟩
            have := HO1.out
            rwa [mg_snoc (d := (1 + 0 + 0) % 4294967296) (by omega)] at this
          case measure => simp [intOf] <;> omega
        · obtain rfl : cy = 0 := by omega
          clear hcz
          go_wp2
          go_ret
          refine ⟨_, rfl, ⟨o, RM.of_own HOW.out HD.out, ?_, by rw [HO.out]; exact hk⟩, hex⟩
          have := HV.out
          rw [List.take_of_length_le (by rw [HA.out]; omega), List.take_of_length_le (by rw [HB.out]; omega)] at this
          simpa using this

set_option maxRecDepth 100000 in
set_option maxHeartbeats 1600000 in
theorem rminus_fresh (A B : Option Addr) (n m c d : Nat) (a b : List Nat) (w : World) (hA : RM w A n c a) (hB : RM w B m d b) (hn : n ≤ 1000000) (hm : m ≤ n) (hab : val b ≤ val a) :
    Calls Tryd.prog 66 #[.slice A n c, .slice B m d] w fun e w' => ∃ v, e = .returned v ∧ (SlM (digs (val a - val b)) v w' ∧ ∀ g, v.ownBlock = some g → w.heap.size ≤ g) ∧ Ext w w' := by
  have HA := Lib.hid hA.len
  have HB := Lib.hid hB.len
  go_enter Tryd.func66, Tryd.ntmps66
  go_wp2
  go_loopw [5, 6, 7] (fun ov cv i wr => ∃ (k bo : Nat) (o : List Nat), k ≤ n ∧ i = .int .i64 k ∧ cv = .int .u64 (bo : Int) ∧ bo ≤ 1 ∧ o.length = k ∧ Dig o ∧ val (a.take k) + 4294967296 ^ k * bo = val (b.take k) + val o ∧
      wr.ownsRow w.heap.size 34 1 ov k (mg o) ∧ Ext w wr) (fun _ _ i _ => n - (intOf i).toNat)
  case atStart => exact ⟨0, 0, [], Nat.zero_le _, rfl, rfl, by omega, rfl, Dig.nil, by simp [val], World.ownsRow_nil _ _ _ _, Ext.refl _⟩
  case round =>
    obtain ⟨k, bo, o, hk, rfl, rfl, hbo, ho, hd, hv, hown, hex⟩ := hrel
    have HV := Lib.hid hv; clear hv
    have HO := Lib.hid ho; clear ho
    have HD := Lib.hid hd; clear hd
    have HOW := Lib.hid hown; clear hown
    by_cases hlt : k < n
    · obtain ⟨ad, x, rfl, _, hx, hx32, hcx⟩ := (hA.ext hex).at_ hlt
      have HX := Lib.hid hx; clear hx
      by_cases hlm : k < m
      · obtain ⟨bd, y, rfl, _, hy, hy32, hcy'⟩ := (hB.ext hex).at_ hlm
        have HY := Lib.hid hy; clear hy
        go_wp2_with (at_builtin; refine wpList_app elem_u32 rfl (.tmp 33) (.tmp 36) rfl w.heap.size u5 k (mg o) (by rfl) (HOW.out.alloc _) wr.heap.size 1 1 [.int .u32 (IntKind.u64.wrap (IntKind.u64.wrap ((x : Int) - bo) - y) % 4294967296)] (by rfl) (Blk.new _ _ _) rfl (by simp [Value.oneCell']) (by omega) (by omega) (by omega) (by have := hex.size; simp; omega) ?_)
        intro g1 cap1 w1 ho1 hg1 _ _
        have hex1 := own_grown hg1 (hex.alloc _) (fun g h => (HOW.out.lt g h).1)
        have HO1 := Lib.hid ho1; clear ho1 hg1
        go_wp2
        go_roundw
        case rel =>
          refine ⟨k + 1, sbor ((x : Int) - bo - y), o ++ [sdig ((x : Int) - bo - y)], by omega, by go_num, by rw [sub_b2 hx32 hy32 hbo], sbor_le _, by simp [HO.out], HD.out.append (Dig.one (sdig_lt _)), sub_step HO.out HV.out HX.out (val_take_succ HY.out) hx32 hy32 hbo, ?_, hex1⟩
          have := HO1.out
          rwa [mg_snoc (sub_d2 hx32 hy32 hbo)] at this
        case measure => simp [intOf] <;> omega
      · go_wp2_with (at_builtin; refine wpList_app elem_u32 rfl (.tmp 33) (.tmp 36) rfl w.heap.size u5 k (mg o) (by rfl) (HOW.out.alloc _) wr.heap.size 1 1 [.int .u32 (IntKind.u64.wrap ((x : Int) - bo) % 4294967296)] (by rfl) (Blk.new _ _ _) rfl (by simp [Value.oneCell']) (by omega) (by omega) (by omega) (by have := hex.size; simp; omega) ?_)
        intro g1 cap1 w1 ho1 hg1 _ _
        have hex1 := own_grown hg1 (hex.alloc _) (fun g h => (HOW.out.lt g h).1)
        have HO1 := Lib.hid ho1; clear ho1 hg1
        go_wp2
        go_roundw
        case rel =>
          refine ⟨k + 1, sbor ((x : Int) - bo - (0 : Nat)), o ++ [sdig ((x : Int) - bo - (0 : Nat))], by omega, by go_num, by rw [sub_b1 hx32 hbo], sbor_le _, by simp [HO.out], HD.out.append (Dig.one (sdig_lt _)), sub_step HO.out HV.out HX.out (val_short HB.out hlm) hx32 (by omega) hbo, ?_, hex1⟩
          have := HO1.out
          rwa [mg_snoc (sub_d1 hx32 hbo)] at this
        case measure => simp [intOf] <;> omega
    · obtain rfl : k = n := by omega
      obtain ⟨A1, n1, c1, rfl, hR⟩ := RM.of_own HOW.out HD.out
      have hl1 := hR.len
      obtain rfl : n1 = k := by rw [← hl1, HO.out]
      have hval := sub_end HO.out HD.out HA.out (by rw [HB.out]; exact hm) HV.out hab
      have HVAL := Lib.hid hval; clear hval hl1
      go_wp2_with fail
      refine (rtrim_fresh A1 n1 c1 o _ hR hn).mono ?_
      rintro e w1 ⟨v1, rfl, ⟨hR, hfr⟩, hx1⟩
      rw [HVAL.out] at hR
      have HF := Lib.hid hfr; clear hfr
      go_wp2
      go_ret
      exact ⟨_, rfl, ⟨hR, fun g hg => Nat.le_trans hex.size (HF.out g hg)⟩, hex.trans hx1⟩
theorem rminus_any (A B : Option Addr) (n m c d : Nat) (a b : List Nat) (w : World) (hA : RM w A n c a) (hB : RM w B m d b) (hn : n ≤ 1000000) (hm : m ≤ n) (hab : val b ≤ val a) :
    Calls Tryd.prog 66 #[.slice A n c, .slice B m d] w fun e w' => ∃ v, e = .returned v ∧ SlM (digs (val a - val b)) v w' ∧ Ext w w' :=
  (rminus_fresh A B n m c d a b w hA hB hn hm hab).mono fun _ _ ⟨v, h1, h2, h3⟩ => ⟨v, h1, h2.1, h3⟩
end Go.Proofs.YtfdpbcjcinchgaaDoor
