/- Contracts: sums and differences of digits. -/
import Derived.Test.YtfdpbcjcinchgaaDoorIe
namespace Go.Proofs.YtfdpbcjcinchgaaDoor
open Go.RowKit
set_option linter.unusedVariables false

theorem u32_info : (Tryd.prog.info? 34).map (fun i => (i.zero, i.size, i.bytes)) = some (some (.int .u32 0), 1, 4) := by kernel_rfl
/-- New digits, all 0. -/
theorem make_u32 (x : Int) (k : Nat) (hx : x = k) (hk : k ≤ 10000000) (W : World) :
    (Instr.makeSlice 22 (.int .i64 x) (.int .i64 x)).run Tryd.prog W = .ok (.slice (some ⟨W.heap.size, 0, none⟩) k k) (W.alloc (.cells (mg (List.replicate k 0)).toArray 34)) := by
  obtain ⟨i0, hi0, hz0, hz1, hz2⟩ := info_parts u32_info
  have h := run_make (P := Tryd.prog) W 22 34 i0 (.int .u32 0) Tryd.underlying22 hi0 hz0 .i64 .i64 x x (by omega) (by omega) (by rw [hz2]; omega) (by omega)
  subst hx
  rw [h, mg_replicate]
  have e : madeCells (Value.int .u32 0).cells k = (List.replicate k (Value.int .u32 0)).toArray := madeCells_one _ _
  simp only [hz1, Nat.mul_one, Int.toNat_natCast, e]
theorem set_next {o : List Nat} {k N d : Nat} (ho : o.length = k) (hk : k < N) : (o ++ List.replicate (N - k) 0).set k d = (o ++ [d]) ++ List.replicate (N - (k + 1)) 0 := by
  subst ho
  rw [show N - o.length = (N - (o.length + 1)) + 1 by omega, List.replicate_succ]
  simp
theorem mg_set' {l : List Nat} {k d : Nat} {z : Int} (h : z = (d : Int)) : (mg l).set k (.int .u32 z) = mg (l.set k d) := by subst h; exact mg_set l k d
/-- One more digit of a row that is filled from its head. -/
theorem fill_next {w : World} {g k N d : Nat} {o : List Nat} {z : Int} (hb : Blk w g 34 (mg (o ++ List.replicate (N - k) 0)).toArray) (ho : o.length = k) (hk : k < N) (hz : z = (d : Int)) :
    Blk (w.setCell ⟨g, k, none⟩ (.int .u32 z)) g 34 (mg ((o ++ [d]) ++ List.replicate (N - (k + 1)) 0)).toArray := by
  have := hb.setL (i := k) (.int .u32 z)
  rwa [mg_set' hz, set_next ho hk] at this
theorem fill_cell {w : World} {g k N : Nat} {o : List Nat} (hb : Blk w g 34 (mg (o ++ List.replicate (N - k) 0)).toArray) (ho : o.length = k) (hk : k < N) : ∃ u, w.cell? ⟨g, k, none⟩ = some u := by
  exact hb.cell_some (by simp [mg_len, ho]; omega)

theorem add_step {o a b : List Nat} {k cy x y : Nat} (ho : o.length = k) (h : val o + 4294967296 ^ k * cy = val (a.take k) + val (b.take k)) (hx : a[k]? = some x)
    (hy : val (b.take (k + 1)) = val (b.take k) + 4294967296 ^ k * y) :
    val (o ++ [(x + cy + y) % 4294967296]) + 4294967296 ^ (k + 1) * ((x + cy + y) / 4294967296) = val (a.take (k + 1)) + val (b.take (k + 1)) := by
  rw [val_snoc, val_take_succ hx, hy, ho, Nat.pow_succ, Nat.mul_assoc]
  have e : 4294967296 ^ k * ((x + cy + y) % 4294967296) + 4294967296 ^ k * (4294967296 * ((x + cy + y) / 4294967296)) = 4294967296 ^ k * (x + cy + y) := by
    rw [← Nat.mul_add]; congr 1; omega
  have e2 : 4294967296 ^ k * (x + cy + y) = 4294967296 ^ k * x + 4294967296 ^ k * cy + 4294967296 ^ k * y := by rw [Nat.mul_add, Nat.mul_add]
  omega

theorem val_short {b : List Nat} {m k : Nat} (h : b.length = m) (hk : ¬ k < m) : val (b.take (k + 1)) = val (b.take k) + 4294967296 ^ k * 0 := by rw [val_take_over (by omega)]; rfl

set_option maxRecDepth 100000 in
set_option maxHeartbeats 800000 in
theorem addMag_ge (A B : Option Addr) (n m c d : Nat) (a b : List Nat) (w : World) (hA : RM w A n c a) (hB : RM w B m d b) (hn : n ≤ 1000000) (hm : m ≤ 1000000) (hnm : m ≤ n) :
    Calls Tryd.prog 71 #[.slice A n c, .slice B m d] w fun e w' => ∃ v, e = .returned v ∧ SlM (digs (val a + val b)) v w' ∧ Ext w w' := by
  have HA := Lib.hid hA.len
  have HB := Lib.hid hB.len
  have hmk := make_u32 ((n : Int) + 1) (n + 1) (by omega) (by omega)
  go_enter Tryd.func71, Tryd.ntmps71
  go_wp2
  clear hmk
  go_loopw [6, 22] (fun cv i wr => ∃ (k cy : Nat) (o : List Nat), k ≤ n ∧ i = .int .i64 k ∧ cv = .int .u64 (cy : Int) ∧ cy ≤ 1 ∧ o.length = k ∧ Dig o ∧ val o + 4294967296 ^ k * cy = val (a.take k) + val (b.take k) ∧
      Blk wr w.heap.size 34 (mg (o ++ List.replicate (n + 1 - k) 0)).toArray ∧ Ext w wr) (fun _ i _ => n - (intOf i).toNat)
  case atStart => exact ⟨0, 0, [], Nat.zero_le _, rfl, rfl, by omega, rfl, Dig.nil, by simp [val], by simpa using Blk.new w _ _, Ext.new _ _⟩
  case round =>
    obtain ⟨k, cy, o, hk, rfl, rfl, hcy, ho, hd, hv, hb, hex⟩ := hrel
    have HV := Lib.hid hv; clear hv
    have HO := Lib.hid ho
    have HD := Lib.hid hd; clear hd
    by_cases hlt : k < n
    · obtain ⟨ad, x, rfl, _, hx, hx32, hcx⟩ := (hA.ext hex).at_ hlt
      have HX := Lib.hid hx; clear hx
      obtain ⟨old, c7⟩ := fill_cell hb ho (by omega)
      have f7 := hb.frozen k
      clear ho
      have HBK := Lib.hid hb; clear hb
      by_cases hlm : k < m
      · obtain ⟨bd, y, rfl, _, hy, hy32, hcy'⟩ := (hB.ext hex).at_ hlm
        have HY := Lib.hid hy; clear hy
        go_wp2
        go_roundw
        case rel =>
          refine ⟨k + 1, (x + cy + y) / 4294967296, o ++ [(x + cy + y) % 4294967296], by omega, by go_num, by go_num, by omega, by simp [HO.out], HD.out.append (Dig.one (by omega)), add_step HO.out HV.out HX.out (val_take_succ HY.out), fill_next HBK.out HO.out (by omega) (by omega), hex.setCell (Nat.le_refl _) _⟩
        case measure => simp [intOf] <;> omega
      · go_wp2
        go_roundw
        case rel =>
          refine ⟨k + 1, (x + cy + 0) / 4294967296, o ++ [(x + cy + 0) % 4294967296], by omega, by go_num, by go_num, by omega, by simp [HO.out], HD.out.append (Dig.one (by omega)), add_step HO.out HV.out HX.out (val_short HB.out hlm), fill_next HBK.out HO.out (by omega) (by omega), hex.setCell (Nat.le_refl _) _⟩
        case measure => simp [intOf] <;> omega
    · obtain rfl : k = n := by omega
      obtain ⟨old, c7⟩ := fill_cell hb ho (by omega)
      have f7 := hb.frozen k
      clear ho
      have HBK := Lib.hid hb; clear hb
      go_wp2_with fail
      have hb1 := fill_next (d := cy) HBK.out HO.out (by omega) rfl
      have hex1 := hex.setCell (p := ⟨w.heap.size, k, none⟩) (Nat.le_refl _) (.int .u32 (cy : Int))
      simp only [Nat.sub_self, List.replicate_zero, List.append_nil] at hb1
      have hval : val (o ++ [cy]) = val a + val b := by
        have := HV.out
        rw [List.take_of_length_le (by rw [HA.out]; omega), List.take_of_length_le (by rw [HB.out]; omega)] at this
        rw [val_snoc, HO.out]; exact this
      refine (trim_ext _ (k + 1) (k + 1) (o ++ [cy]) _ (RM.blk hb1 (HD.out.append (Dig.one (by omega))) (by simp [HO.out]) (by omega))).mono ?_
      rintro e w1 ⟨v1, rfl, hR, hx1⟩
      rw [hval] at hR
      go_wp2
      go_ret
      exact ⟨_, rfl, hR, hex1.trans hx1⟩
set_option maxRecDepth 100000 in
set_option maxHeartbeats 800000 in
theorem addMag_lt (A B : Option Addr) (n m c d : Nat) (a b : List Nat) (w : World) (hA : RM w A n c a) (hB : RM w B m d b) (hn : n ≤ 1000000) (hm : m ≤ 1000000) (hnm : n < m) :
    Calls Tryd.prog 71 #[.slice A n c, .slice B m d] w fun e w' => ∃ v, e = .returned v ∧ SlM (digs (val b + val a)) v w' ∧ Ext w w' := by
  have HA := Lib.hid hB.len
  have HB := Lib.hid hA.len
  have hmk := make_u32 ((m : Int) + 1) (m + 1) (by omega) (by omega)
  go_enter Tryd.func71, Tryd.ntmps71
  go_wp2
  clear hmk
  go_loopw [6, 22] (fun cv i wr => ∃ (k cy : Nat) (o : List Nat), k ≤ m ∧ i = .int .i64 k ∧ cv = .int .u64 (cy : Int) ∧ cy ≤ 1 ∧ o.length = k ∧ Dig o ∧ val o + 4294967296 ^ k * cy = val (b.take k) + val (a.take k) ∧
      Blk wr w.heap.size 34 (mg (o ++ List.replicate (m + 1 - k) 0)).toArray ∧ Ext w wr) (fun _ i _ => m - (intOf i).toNat)
  case atStart => exact ⟨0, 0, [], Nat.zero_le _, rfl, rfl, by omega, rfl, Dig.nil, by simp [val], by simpa using Blk.new w _ _, Ext.new _ _⟩
  case round =>
    obtain ⟨k, cy, o, hk, rfl, rfl, hcy, ho, hd, hv, hb, hex⟩ := hrel
    have HV := Lib.hid hv; clear hv
    have HO := Lib.hid ho
    have HD := Lib.hid hd; clear hd
    by_cases hlt : k < m
    · obtain ⟨ad, x, rfl, _, hx, hx32, hcx⟩ := (hB.ext hex).at_ hlt
      have HX := Lib.hid hx; clear hx
      obtain ⟨old, c7⟩ := fill_cell hb ho (by omega)
      have f7 := hb.frozen k
      clear ho
      have HBK := Lib.hid hb; clear hb
      by_cases hlm : k < n
      · obtain ⟨bd, y, rfl, _, hy, hy32, hcy'⟩ := (hA.ext hex).at_ hlm
        have HY := Lib.hid hy; clear hy
        go_wp2
        go_roundw
        case rel =>
          refine ⟨k + 1, (x + cy + y) / 4294967296, o ++ [(x + cy + y) % 4294967296], by omega, by go_num, by go_num, by omega, by simp [HO.out], HD.out.append (Dig.one (by omega)), add_step HO.out HV.out HX.out (val_take_succ HY.out), fill_next HBK.out HO.out (by omega) (by omega), hex.setCell (Nat.le_refl _) _⟩
        case measure => simp [intOf] <;> omega
      · go_wp2
        go_roundw
        case rel =>
          refine ⟨k + 1, (x + cy + 0) / 4294967296, o ++ [(x + cy + 0) % 4294967296], by omega, by go_num, by go_num, by omega, by simp [HO.out], HD.out.append (Dig.one (by omega)), add_step HO.out HV.out HX.out (val_short HB.out hlm), fill_next HBK.out HO.out (by omega) (by omega), hex.setCell (Nat.le_refl _) _⟩
        case measure => simp [intOf] <;> omega
    · obtain rfl : k = m := by omega
      obtain ⟨old, c7⟩ := fill_cell hb ho (by omega)
      have f7 := hb.frozen k
      clear ho
      have HBK := Lib.hid hb; clear hb
      go_wp2_with fail
      have hb1 := fill_next (d := cy) HBK.out HO.out (by omega) rfl
      have hex1 := hex.setCell (p := ⟨w.heap.size, k, none⟩) (Nat.le_refl _) (.int .u32 (cy : Int))
      simp only [Nat.sub_self, List.replicate_zero, List.append_nil] at hb1
      have hval : val (o ++ [cy]) = val b + val a := by
        have := HV.out
        rw [List.take_of_length_le (by rw [HA.out]; omega), List.take_of_length_le (by rw [HB.out]; omega)] at this
        rw [val_snoc, HO.out]; exact this
      refine (trim_ext _ (k + 1) (k + 1) (o ++ [cy]) _ (RM.blk hb1 (HD.out.append (Dig.one (by omega))) (by simp [HO.out]) (by omega))).mono ?_
      rintro e w1 ⟨v1, rfl, hR, hx1⟩
      rw [hval] at hR
      go_wp2
      go_ret
      exact ⟨_, rfl, hR, hex1.trans hx1⟩
theorem addMag_any (A B : Option Addr) (n m c d : Nat) (a b : List Nat) (w : World) (hA : RM w A n c a) (hB : RM w B m d b) (hn : n ≤ 1000000) (hm : m ≤ 1000000) :
    Calls Tryd.prog 71 #[.slice A n c, .slice B m d] w fun e w' => ∃ v, e = .returned v ∧ SlM (digs (val a + val b)) v w' ∧ Ext w w' := by
  rcases Nat.lt_or_ge n m with h | h
  · rw [Nat.add_comm]; exact addMag_lt A B n m c d a b w hA hB hn hm h
  · exact addMag_ge A B n m c d a b w hA hB hn hm h

/-! Differences. -/
/-- A digit of a difference, and what is borrowed. -/
def sdig (t : Int) : Nat := (t % 4294967296).toNat
def sbor (t : Int) : Nat := if t < 0 then 1 else 0
theorem sdig_lt (t : Int) : sdig t < 4294967296 := by unfold sdig; omega
theorem sub_d1 {x bo : Nat} (hx : x < 4294967296) (hb : bo ≤ 1) : IntKind.u64.wrap ((x : Int) - bo) % 4294967296 = (sdig ((x : Int) - bo - (0 : Nat)) : Int) := by
  rw [u64_wrap]; unfold sdig; omega
theorem sub_b1 {x bo : Nat} (hx : x < 4294967296) (hb : bo ≤ 1) : IntKind.u64.wrap ((x : Int) - bo) / 9223372036854775808 = (sbor ((x : Int) - bo - (0 : Nat)) : Int) := by
  rw [u64_wrap]; unfold sbor; split <;> omega
theorem sub_d2 {x y bo : Nat} (hx : x < 4294967296) (hy : y < 4294967296) (hb : bo ≤ 1) : IntKind.u64.wrap (IntKind.u64.wrap ((x : Int) - bo) - y) % 4294967296 = (sdig ((x : Int) - bo - y) : Int) := by
  rw [u64_wrap, u64_wrap]; unfold sdig; omega
theorem sub_b2 {x y bo : Nat} (hx : x < 4294967296) (hy : y < 4294967296) (hb : bo ≤ 1) : IntKind.u64.wrap (IntKind.u64.wrap ((x : Int) - bo) - y) / 9223372036854775808 = (sbor ((x : Int) - bo - y) : Int) := by
  rw [u64_wrap, u64_wrap]; unfold sbor; split <;> omega
theorem sdig_eq {x y bo : Nat} (hx : x < 4294967296) (hy : y < 4294967296) (hb : bo ≤ 1) : x + 4294967296 * sbor ((x : Int) - bo - y) = y + bo + sdig ((x : Int) - bo - y) := by
  unfold sdig sbor; split <;> omega
theorem sub_step {o a b : List Nat} {k bo x y : Nat} (ho : o.length = k) (h : val (a.take k) + 4294967296 ^ k * bo = val (b.take k) + val o) (hx : a[k]? = some x) (hy : val (b.take (k + 1)) = val (b.take k) + 4294967296 ^ k * y)
    (hx32 : x < 4294967296) (hy32 : y < 4294967296) (hb : bo ≤ 1) :
    val (a.take (k + 1)) + 4294967296 ^ (k + 1) * sbor ((x : Int) - bo - y) = val (b.take (k + 1)) + val (o ++ [sdig ((x : Int) - bo - y)]) := by
  have h1 := sdig_eq hx32 hy32 hb
  rw [val_snoc, val_take_succ hx, hy, ho, Nat.pow_succ, Nat.mul_assoc]
  have e : 4294967296 ^ k * x + 4294967296 ^ k * (4294967296 * sbor ((x : Int) - bo - y)) = 4294967296 ^ k * y + 4294967296 ^ k * bo + 4294967296 ^ k * sdig ((x : Int) - bo - y) := by
    rw [← Nat.mul_add, h1, Nat.mul_add, Nat.mul_add]
  omega
theorem sub_end {o a b : List Nat} {k bo : Nat} (ho : o.length = k) (hd : Dig o) (ha : a.length = k) (hb : b.length ≤ k) (h : val (a.take k) + 4294967296 ^ k * bo = val (b.take k) + val o) (hab : val b ≤ val a) : val o = val a - val b := by
  rw [List.take_of_length_le (by omega), List.take_of_length_le hb] at h
  have h1 := val_lt hd
  rw [ho] at h1
  have h2 : bo = 0 := by
    rcases Nat.eq_zero_or_pos bo with h0 | h0
    · exact h0
    · have : 4294967296 ^ k * 1 ≤ 4294967296 ^ k * bo := Nat.mul_le_mul_left _ h0
      omega
  subst h2
  omega
theorem sbor_le (t : Int) : sbor t ≤ 1 := by unfold sbor; split <;> omega

set_option maxRecDepth 100000 in
set_option maxHeartbeats 800000 in
theorem subMag_any (A B : Option Addr) (n m c d : Nat) (a b : List Nat) (w : World) (hA : RM w A n c a) (hB : RM w B m d b) (hn : n ≤ 1000000) (hm : m ≤ n) (hab : val b ≤ val a) :
    Calls Tryd.prog 72 #[.slice A n c, .slice B m d] w fun e w' => ∃ v, e = .returned v ∧ SlM (digs (val a - val b)) v w' ∧ Ext w w' := by
  have HA := Lib.hid hA.len
  have HB := Lib.hid hB.len
  have hmk := make_u32 (n : Int) n rfl (by omega)
  go_enter Tryd.func72, Tryd.ntmps72
  go_wp2
  clear hmk
  go_loopw [6, 14] (fun cv i wr => ∃ (k bo : Nat) (o : List Nat), k ≤ n ∧ i = .int .i64 k ∧ cv = .int .u64 (bo : Int) ∧ bo ≤ 1 ∧ o.length = k ∧ Dig o ∧ val (a.take k) + 4294967296 ^ k * bo = val (b.take k) + val o ∧
      Blk wr w.heap.size 34 (mg (o ++ List.replicate (n - k) 0)).toArray ∧ Ext w wr) (fun _ i _ => n - (intOf i).toNat)
  case atStart => exact ⟨0, 0, [], Nat.zero_le _, rfl, rfl, by omega, rfl, Dig.nil, by simp [val], by simpa using Blk.new w _ _, Ext.new _ _⟩
  case round =>
    obtain ⟨k, bo, o, hk, rfl, rfl, hbo, ho, hd, hv, hb, hex⟩ := hrel
    have HV := Lib.hid hv; clear hv
    have HO := Lib.hid ho
    have HD := Lib.hid hd; clear hd
    by_cases hlt : k < n
    · obtain ⟨ad, x, rfl, _, hx, hx32, hcx⟩ := (hA.ext hex).at_ hlt
      have HX := Lib.hid hx; clear hx
      obtain ⟨old, c7⟩ := fill_cell hb ho (by omega)
      have f7 := hb.frozen k
      clear ho
      have HBK := Lib.hid hb; clear hb
      by_cases hlm : k < m
      · obtain ⟨bd, y, rfl, _, hy, hy32, hcy'⟩ := (hB.ext hex).at_ hlm
        have HY := Lib.hid hy; clear hy
        go_wp2
        go_roundw
        case rel =>
          exact ⟨k + 1, sbor ((x : Int) - bo - y), o ++ [sdig ((x : Int) - bo - y)], by omega, by go_num, by rw [sub_b2 hx32 hy32 hbo], sbor_le _, by simp [HO.out], HD.out.append (Dig.one (sdig_lt _)), sub_step HO.out HV.out HX.out (val_take_succ HY.out) hx32 hy32 hbo, fill_next HBK.out HO.out (by omega) (sub_d2 hx32 hy32 hbo), hex.setCell (Nat.le_refl _) _⟩
        case measure => simp [intOf] <;> omega
      · go_wp2
        go_roundw
        case rel =>
          exact ⟨k + 1, sbor ((x : Int) - bo - (0 : Nat)), o ++ [sdig ((x : Int) - bo - (0 : Nat))], by omega, by go_num, by rw [sub_b1 hx32 hbo], sbor_le _, by simp [HO.out], HD.out.append (Dig.one (sdig_lt _)), sub_step HO.out HV.out HX.out (val_short HB.out hlm) hx32 (by omega) hbo, fill_next HBK.out HO.out (by omega) (sub_d1 hx32 hbo), hex.setCell (Nat.le_refl _) _⟩
        case measure => simp [intOf] <;> omega
    · obtain rfl : k = n := by omega
      go_wp2_with fail
      simp only [Nat.sub_self, List.replicate_zero, List.append_nil] at hb
      have hval := sub_end HO.out HD.out HA.out (by rw [HB.out]; exact hm) HV.out hab
      refine (trim_ext _ k k o _ (RM.blk hb HD.out HO.out (by omega))).mono ?_
      rintro e w1 ⟨v1, rfl, hR, hx1⟩
      rw [hval] at hR
      go_wp2
      go_ret
      exact ⟨_, rfl, hR, hex.trans hx1⟩
end Go.Proofs.YtfdpbcjcinchgaaDoor
