/- Contracts: shifts of digits. -/
import Derived.Test.YtfdpbcjcinchgaaDoorIn
namespace Go.Proofs.YtfdpbcjcinchgaaDoor
open Go.RowKit
set_option linter.unusedVariables false

theorem pow32 {s : Nat} (hs : s ≤ 32) : 2 ^ s * 2 ^ (32 - s) = 4294967296 := by
  rw [← Nat.pow_add, show s + (32 - s) = 32 by omega]
theorem sh_lt {x s : Nat} (hx : x < 4294967296) (hs : s < 32) : x * 2 ^ s < 18446744073709551616 := by
  have h1 : 2 ^ s ≤ 2 ^ 31 := Nat.pow_le_pow_right (by omega) (by omega)
  have h2 : x * 2 ^ s ≤ x * 2 ^ 31 := Nat.mul_le_mul_left _ h1
  omega
theorem sh_wrap {x s : Nat} (hx : x < 4294967296) (hs : s < 32) : IntKind.u64.wrap ((x : Int) * 2 ^ s) = ((x * 2 ^ s : Nat) : Int) := by
  have h := sh_lt hx hs
  have e : ((x : Int) * 2 ^ s) = ((x * 2 ^ s : Nat) : Int) := by push_cast; rfl
  rw [e]
  exact IntWalk.u64_in _ (by omega)
theorem sh_dvd {x s : Nat} (hs : s ≤ 32) : 2 ^ s ∣ x * 2 ^ s % 4294967296 := by
  rw [Nat.dvd_mod_iff (show 2 ^ s ∣ 4294967296 from ⟨2 ^ (32 - s), (pow32 (by omega)).symm⟩)]
  exact Nat.dvd_mul_left _ _
theorem sh_sum {x s cy : Nat} (hs : s ≤ 32) (hc : cy < 2 ^ s) : cy + x * 2 ^ s % 4294967296 < 4294967296 := by
  obtain ⟨a, ha⟩ := sh_dvd (x := x) hs
  have hb := pow32 (show s ≤ 32 by omega)
  have hl : x * 2 ^ s % 4294967296 < 4294967296 := Nat.mod_lt _ (by omega)
  rw [ha] at hl ⊢
  have h1 : a < 2 ^ (32 - s) := by
    rw [← hb] at hl
    exact Nat.lt_of_mul_lt_mul_left hl
  have h2 : 2 ^ s * (a + 1) ≤ 2 ^ s * 2 ^ (32 - s) := Nat.mul_le_mul_left _ h1
  rw [hb, Nat.mul_add, Nat.mul_one] at h2
  omega
theorem sh_or {x s cy : Nat} (hx : x < 4294967296) (hs : s < 32) (hc : cy < 2 ^ s) : bits .or .u32 (cy : Int) (IntKind.u64.wrap ((x : Int) * 2 ^ s) % 4294967296) = ((cy + x * 2 ^ s % 4294967296 : Nat) : Int) := by
  have h1 := sh_sum (x := x) (Nat.le_of_lt hs) hc
  obtain ⟨a, ha⟩ := sh_dvd (x := x) (Nat.le_of_lt hs)
  rw [sh_wrap hx hs, show ((x * 2 ^ s : Nat) : Int) % 4294967296 = ((x * 2 ^ s % 4294967296 : Nat) : Int) from rfl]
  rw [bits_join_low .u32 32 (by decide) wraps_u32 s _ _ (by omega) (by exact_mod_cast hc) (by omega) (by omega) ?_ (by omega)]
  · omega
  · rw [ha]
    have : ((2 ^ s * a : Nat) : Int) % 2 ^ s = ((2 ^ s * a % 2 ^ s : Nat) : Int) := by push_cast; rfl
    rw [this, Nat.mul_mod_right]; rfl
theorem sh_carry {x s : Nat} (hx : x < 4294967296) : x * 2 ^ s / 4294967296 < 2 ^ s := by
  rw [Nat.div_lt_iff_lt_mul (by omega), Nat.mul_comm]
  exact Nat.mul_lt_mul_of_pos_left hx (Nat.pow_pos (by omega))
theorem sh_hi {x s : Nat} (hx : x < 4294967296) (hs : s < 32) : IntKind.u64.wrap ((x : Int) * 2 ^ s) / 4294967296 % 4294967296 = ((x * 2 ^ s / 4294967296 : Nat) : Int) := by
  have h := sh_lt hx hs
  rw [sh_wrap hx hs]; omega
theorem sh_list2 {o : List Nat} {k n a b cy : Nat} (ho : o.length = k) (hk : k < n) : ((o ++ cy :: List.replicate (n - k) 0).set k a).set (k + 1) b = (o ++ [a]) ++ b :: List.replicate (n - (k + 1)) 0 := by
  subst ho
  rw [show n - o.length = (n - (o.length + 1)) + 1 by omega, List.replicate_succ]
  simp
theorem sh_step {o p : List Nat} {k cy x s : Nat} (ho : o.length = k) (hx : p[k]? = some x) (h : val o + 4294967296 ^ k * cy = val (p.take k) * 2 ^ s) :
    val (o ++ [cy + x * 2 ^ s % 4294967296]) + 4294967296 ^ (k + 1) * (x * 2 ^ s / 4294967296) = val (p.take (k + 1)) * 2 ^ s := by
  rw [val_snoc, val_take_succ hx, ho, Nat.pow_succ, Nat.mul_assoc, Nat.add_mul, ← h, Nat.mul_add]
  have e : 4294967296 ^ k * (x * 2 ^ s % 4294967296) + 4294967296 ^ k * (4294967296 * (x * 2 ^ s / 4294967296)) = 4294967296 ^ k * (x * 2 ^ s) := by
    rw [← Nat.mul_add]; congr 1; omega
  rw [Nat.mul_assoc (4294967296 ^ k) x]
  omega

set_option maxRecDepth 100000 in
set_option maxHeartbeats 800000 in
theorem shiftLeft_any (A : Option Addr) (n c s : Nat) (p : List Nat) (w : World) (h : RM w A n c p) (hn : n ≤ 1000000) (hs : s < 32) :
    Calls Tryd.prog 89 #[.slice A n c, .int .i64 (s : Int)] w fun e w' => e = .returned (.slice (some ⟨w.heap.size, 0, none⟩) (n + 1) (n + 1)) ∧ ∃ q, RowD w' w.heap.size q ∧ q.length = n + 1 ∧ val q = val p * 2 ^ s ∧ Ext w w' := by
  have HL := Lib.hid h.len
  have hmk := make_u32 ((n : Int) + 1) (n + 1) (by omega) (by omega)
  go_enter Tryd.func89, Tryd.ntmps89
  go_wp2
  clear hmk
  go_loopw [15] (fun i wr => ∃ (k cy : Nat) (o : List Nat), k ≤ n ∧ i = .int .i64 k ∧ o.length = k ∧ cy < 2 ^ s ∧ val o + 4294967296 ^ k * cy = val (p.take k) * 2 ^ s ∧ RowD wr w.heap.size (o ++ cy :: List.replicate (n - k) 0) ∧ Ext w wr) (fun i _ => n - (intOf i).toNat)
  case atStart => exact ⟨0, 0, [], Nat.zero_le _, rfl, rfl, Nat.pow_pos (by omega), by simp [val], ⟨by simpa [List.replicate_succ] using Blk.new w 34 (mg (List.replicate (n + 1) 0)).toArray, by simpa [List.replicate_succ] using Dig.replicate (n + 1)⟩, Ext.new _ _⟩
  case round =>
    obtain ⟨k, cy, o, hk, rfl, ho, hcy, hv, hrow, hex⟩ := hrel
    have HV := Lib.hid hv; clear hv
    have HO := Lib.hid ho; clear ho
    by_cases hlt : k < n
    · obtain ⟨ad, x, rfl, _, hx, hx32, hcx⟩ := (h.ext hex).at_ hlt
      have HX := Lib.hid hx; clear hx
      obtain ⟨z, hz, hz32, hcz, hfz⟩ := hrow.at_ (k := k) (by simp [HO.out])
      obtain ⟨z1, hz1, hz132, hcz1, hfz1⟩ := hrow.at_ (k := k + 1) (by simp [HO.out]; omega)
      obtain rfl : z = cy := by
        rw [List.getElem?_append_right (by rw [HO.out]; exact Nat.le_refl _), HO.out, Nat.sub_self] at hz
        simpa using hz.symm
      have HR := Lib.hid hrow; clear hrow hz hz1
      go_wp2
      go_roundw
      case rel =>
        refine ⟨k + 1, x * 2 ^ s / 4294967296, o ++ [z + x * 2 ^ s % 4294967296], by omega, by go_num, by simp [HO.out], sh_carry hx32, sh_step HO.out HX.out HV.out, ?_, (hex.setCell (Nat.le_refl _) _).setCell (Nat.le_refl _) _⟩
        have h1 := (HR.out.set (k := k) (sh_or hx32 hs hcy) (sh_sum (Nat.le_of_lt hs) hcy)).set (k := k + 1) (sh_hi hx32 hs) (Nat.lt_of_lt_of_le (sh_carry hx32) (by rw [← pow32 (show s ≤ 32 by omega)]; exact Nat.le_mul_of_pos_right _ (Nat.pow_pos (by omega))))
        rwa [sh_list2 HO.out hlt] at h1
      case measure => simp [intOf] <;> omega
    · obtain rfl : k = n := by omega
      have HR := Lib.hid hrow; clear hrow
      go_wp2
      go_ret
      refine ⟨rfl, o ++ [cy], by simpa using HR.out, by simp [HO.out], ?_, hex⟩
      rw [val_snoc, HO.out, HV.out, List.take_of_length_le (by rw [HL.out]; omega)]
set_option maxRecDepth 100000 in
set_option maxHeartbeats 800000 in
theorem rshift_any (A : Option Addr) (n c s : Nat) (p : List Nat) (w : World) (h : RM w A n c p) (hn : n ≤ 1000000) (hs : s < 32) :
    Calls Tryd.prog 92 #[.slice A n c, .int .i64 (s : Int)] w fun e w' => e = .returned (.slice (some ⟨w.heap.size, 0, none⟩) (n + 1) (n + 1)) ∧ ∃ q, RowD w' w.heap.size q ∧ q.length = n + 1 ∧ val q = val p * 2 ^ s ∧ Ext w w' := by
  have HL := Lib.hid h.len
  have hmk := make_u32 ((n : Int) + 1) (n + 1) (by omega) (by omega)
  go_enter Tryd.func92, Tryd.ntmps92
  go_wp2
  clear hmk
  go_loopw [6] (fun i wr => ∃ (k cy : Nat) (o : List Nat), k ≤ n ∧ i = .int .i64 k ∧ o.length = k ∧ cy < 2 ^ s ∧ val o + 4294967296 ^ k * cy = val (p.take k) * 2 ^ s ∧ RowD wr w.heap.size (o ++ cy :: List.replicate (n - k) 0) ∧ Ext w wr) (fun i _ => n - (intOf i).toNat)
  case atStart => exact ⟨0, 0, [], Nat.zero_le _, rfl, rfl, Nat.pow_pos (by omega), by simp [val], ⟨by simpa [List.replicate_succ] using Blk.new w 34 (mg (List.replicate (n + 1) 0)).toArray, by simpa [List.replicate_succ] using Dig.replicate (n + 1)⟩, Ext.new _ _⟩
  case round =>
    obtain ⟨k, cy, o, hk, rfl, ho, hcy, hv, hrow, hex⟩ := hrel
    have HV := Lib.hid hv; clear hv
    have HO := Lib.hid ho; clear ho
    by_cases hlt : k < n
    · obtain ⟨ad, x, rfl, _, hx, hx32, hcx⟩ := (h.ext hex).at_ hlt
      have HX := Lib.hid hx; clear hx
      obtain ⟨z, hz, hz32, hcz, hfz⟩ := hrow.at_ (k := k) (by simp [HO.out])
      obtain ⟨z1, hz1, hz132, hcz1, hfz1⟩ := hrow.at_ (k := k + 1) (by simp [HO.out]; omega)
      obtain rfl : z = cy := by
        rw [List.getElem?_append_right (by rw [HO.out]; exact Nat.le_refl _), HO.out, Nat.sub_self] at hz
        simpa using hz.symm
      have HR := Lib.hid hrow; clear hrow hz hz1
      go_wp2
      go_roundw
      case rel =>
        refine ⟨k + 1, x * 2 ^ s / 4294967296, o ++ [z + x * 2 ^ s % 4294967296], by omega, by go_num, by simp [HO.out], sh_carry hx32, sh_step HO.out HX.out HV.out, ?_, (hex.setCell (Nat.le_refl _) _).setCell (Nat.le_refl _) _⟩
        have h1 := (HR.out.set (k := k) (sh_or hx32 hs hcy) (sh_sum (Nat.le_of_lt hs) hcy)).set (k := k + 1) (sh_hi hx32 hs) (Nat.lt_of_lt_of_le (sh_carry hx32) (by rw [← pow32 (show s ≤ 32 by omega)]; exact Nat.le_mul_of_pos_right _ (Nat.pow_pos (by omega))))
        rwa [sh_list2 HO.out hlt] at h1
      case measure => simp [intOf] <;> omega
    · obtain rfl : k = n := by omega
      have HR := Lib.hid hrow; clear hrow
      go_wp2
      go_ret
      refine ⟨rfl, o ++ [cy], by simpa using HR.out, by simp [HO.out], ?_, hex⟩
      rw [val_snoc, HO.out, HV.out, List.take_of_length_le (by rw [HL.out]; omega)]

theorem sr_w {x s : Nat} (hs : s ≤ 32) : x * 4294967296 / 2 ^ s = x * 2 ^ (32 - s) := by
  rw [← pow32 hs, Nat.mul_left_comm, Nat.mul_div_cancel_left _ (Nat.pow_pos (by omega))]
theorem sr_wi {x s : Nat} (hs : s ≤ 32) : (x : Int) * 4294967296 / 2 ^ s = ((x * 2 ^ (32 - s) : Nat) : Int) := by
  rw [← sr_w hs, Int.natCast_ediv, Int.natCast_mul, Int.natCast_pow]; rfl
theorem sr_hi_lt {x s : Nat} (hx : x < 4294967296) (hs : s ≤ 32) : x * 2 ^ (32 - s) / 4294967296 < 4294967296 := by
  have h1 := sh_carry (x := x) (s := 32 - s) hx
  have h2 : 2 ^ (32 - s) ≤ 2 ^ 32 := Nat.pow_le_pow_right (by omega) (by omega)
  omega
theorem or32_zero {y : Nat} (hy : y < 4294967296) : bits .or .u32 ((0 : Nat) : Int) (y : Int) = (y : Int) := by
  rw [bits_join_low .u32 32 (by decide) wraps_u32 0 _ _ (by omega) (by omega) (by omega) (by omega) (by omega) (by omega)]; omega
theorem sr_hi {x s : Nat} (hx : x < 4294967296) (hs : s ≤ 32) : bits .or .u32 ((0 : Nat) : Int) ((x : Int) * 4294967296 / 2 ^ s / 4294967296 % 4294967296) = ((x * 2 ^ (32 - s) / 4294967296 : Nat) : Int) := by
  have h := sr_hi_lt hx hs
  rw [sr_wi hs]
  have e : ((x * 2 ^ (32 - s) : Nat) : Int) / 4294967296 % 4294967296 = ((x * 2 ^ (32 - s) / 4294967296 : Nat) : Int) := by omega
  rw [e, or32_zero h]
theorem sr_lo {x s y : Nat} (hs : s ≤ 32) (hy : y < 2 ^ (32 - s)) : bits .or .u32 (y : Int) ((x : Int) * 4294967296 / 2 ^ s % 4294967296) = ((y + x * 2 ^ (32 - s) % 4294967296 : Nat) : Int) := by
  have h1 := sh_sum (x := x) (s := 32 - s) (by omega) hy
  obtain ⟨a, ha⟩ := sh_dvd (x := x) (s := 32 - s) (by omega)
  rw [sr_wi hs, show ((x * 2 ^ (32 - s) : Nat) : Int) % 4294967296 = ((x * 2 ^ (32 - s) % 4294967296 : Nat) : Int) from rfl]
  rw [bits_join_low .u32 32 (by decide) wraps_u32 (32 - s) _ _ (by omega) (by exact_mod_cast hy) (by omega) (by omega) ?_ (by omega)]
  · omega
  · rw [ha]
    have : ((2 ^ (32 - s) * a : Nat) : Int) % 2 ^ (32 - s) = ((2 ^ (32 - s) * a % 2 ^ (32 - s) : Nat) : Int) := by push_cast; rfl
    rw [this, Nat.mul_mod_right]; rfl
theorem sr_first {x s : Nat} (hs : s ≤ 32) : x * 2 ^ (32 - s) / 4294967296 = x / 2 ^ s := by
  rw [← pow32 hs, Nat.mul_div_mul_right _ _ (Nat.pow_pos (by omega))]
theorem sr_step {o p : List Nat} {j x y s : Nat} (hs : s ≤ 32) (ho : o.length = j + 1) (hy : o[j]? = some y) (hx : p[j + 1]? = some x) (h : val o = val (p.take (j + 1)) / 2 ^ s) :
    val (o.set j (y + x * 2 ^ (32 - s) % 4294967296) ++ [x * 2 ^ (32 - s) / 4294967296]) = val (p.take (j + 2)) / 2 ^ s := by
  have h1 := val_set (y := y + x * 2 ^ (32 - s) % 4294967296) hy
  rw [val_snoc, List.length_set, ho, val_take_succ hx]
  have e1 : 4294967296 ^ (j + 1) * x = 2 ^ s * (4294967296 ^ j * (x * 2 ^ (32 - s))) := by
    rw [Nat.pow_succ, ← Nat.mul_assoc, ← Nat.mul_assoc, Nat.mul_comm (2 ^ s * 4294967296 ^ j * x), ← Nat.mul_assoc, ← Nat.mul_assoc, Nat.mul_comm (2 ^ (32 - s)) (2 ^ s), pow32 hs, Nat.mul_comm 4294967296]
  rw [e1, Nat.add_mul_div_left _ _ (Nat.pow_pos (by omega)), ← h]
  have e2 : 4294967296 ^ j * (x * 2 ^ (32 - s) % 4294967296) + 4294967296 ^ (j + 1) * (x * 2 ^ (32 - s) / 4294967296) = 4294967296 ^ j * (x * 2 ^ (32 - s)) := by
    rw [Nat.pow_succ, Nat.mul_assoc, ← Nat.mul_add]; congr 1; omega
  rw [Nat.mul_add] at h1
  omega
theorem last_at {o : List Nat} {j y : Nat} (ho : o.length = j + 1) (hy : o[j]? = some y) : o.getLast? = some y := by
  rw [List.getLast?_eq_getElem?, ho]; exact hy

set_option maxRecDepth 100000 in
set_option maxHeartbeats 800000 in
theorem shiftRight_any (A : Option Addr) (n c s : Nat) (p : List Nat) (w : World) (h : RM w A n c p) (hn : n ≤ 1000000) (hs : s < 32) :
    Calls Tryd.prog 91 #[.slice A n c, .int .i64 (s : Int)] w fun e w' => ∃ v, e = .returned v ∧ SlM (digs (val p / 2 ^ s)) v w' ∧ Ext w w' := by
  have HL := Lib.hid h.len
  have hmk := make_u32 (n : Int) n rfl (by omega)
  go_enter Tryd.func91, Tryd.ntmps91
  go_wp2
  clear hmk
  go_loopw [14] (fun i wr => ∃ (k : Nat) (o : List Nat), k ≤ n ∧ i = .int .i64 k ∧ o.length = k ∧ (∀ y, o.getLast? = some y → y < 2 ^ (32 - s)) ∧ val o = val (p.take k) / 2 ^ s ∧ RowD wr w.heap.size (o ++ List.replicate (n - k) 0) ∧ Ext w wr) (fun i _ => n - (intOf i).toNat)
  case atStart => exact ⟨0, [], Nat.zero_le _, rfl, rfl, by simp, by simp [val], ⟨by simpa using Blk.new w _ _, by simpa using Dig.replicate n⟩, Ext.new _ _⟩
  case round =>
    obtain ⟨k, o, hk, rfl, ho, hy, hv, hrow, hex⟩ := hrel
    have HV := Lib.hid hv; clear hv
    have HO := Lib.hid ho; clear ho
    have HY := Lib.hid hy; clear hy
    by_cases hlt : k < n
    · obtain ⟨ad, x, rfl, _, hx, hx32, hcx⟩ := (h.ext hex).at_ hlt
      have HX := Lib.hid hx; clear hx
      obtain ⟨z, hz, hz32, hcz, hfz⟩ := hrow.at_ (k := k) (by simp [HO.out]; omega)
      by_cases h0 : k = 0
      · subst h0
        have hcx' : wr.cell? ad = some (.int .u32 (x : Int)) := hcx
        have hon : o = [] := List.eq_nil_of_length_eq_zero HO.out
        have hz0 : z = 0 := by
          have := List.mem_of_getElem? hz
          rw [hon] at this
          simpa using List.eq_of_mem_replicate this
        have HR := Lib.hid hrow; clear hrow hz
        have HON := Lib.hid hon; clear hon
        have HZ0 := Lib.hid hz0; clear hz0
        go_wp2
        go_roundw
        case rel =>
          refine ⟨1, [x * 2 ^ (32 - s) / 4294967296], by omega, by go_num, rfl, ?_, ?_, ?_, hex.setCell (Nat.le_refl _) _⟩
          · intro y hy
            simp at hy
            rw [← hy]
            exact sh_carry hx32
          · rw [val_take_succ (k := 0) HX.out, sr_first (by omega)]; simp [val]
          · have h1 := HR.out.set (k := 0) (d := x * 2 ^ (32 - s) / 4294967296) (z := bits .or .u32 (z : Int) ((x : Int) * 4294967296 / 2 ^ s / 4294967296 % 4294967296)) (by rw [HZ0.out]; exact sr_hi hx32 (by omega)) (sr_hi_lt hx32 (by omega))
            rwa [HON.out, set_next (o := []) (k := 0) rfl hlt] at h1
        case measure => simp [intOf] <;> omega
      · obtain ⟨j, rfl⟩ : ∃ j, k = j + 1 := ⟨k - 1, by omega⟩
        obtain ⟨z1, hz1, hz132, hcz1, hfz1⟩ := hrow.at_ (k := j) (by simp [HO.out]; omega)
        have hcx' : wr.cell? ⟨ad.block, ad.off + (j + 1), none⟩ = some (.int .u32 (x : Int)) := by simpa [Addr.add] using hcx
        have hz0 : z = 0 := by
          rw [List.getElem?_append_right (by rw [HO.out]; exact Nat.le_refl _), HO.out] at hz
          exact List.eq_of_mem_replicate (List.mem_of_getElem? hz)
        have hy1 : o[j]? = some z1 := by
          rw [List.getElem?_append_left (by rw [HO.out]; omega)] at hz1
          exact hz1
        have HR := Lib.hid hrow; clear hrow hz hz1
        have HZ0 := Lib.hid hz0; clear hz0
        have HY1 := Lib.hid hy1; clear hy1
        have hzy : z1 < 2 ^ (32 - s) := HY.out z1 (last_at HO.out HY1.out)
        go_wp2
        go_roundw
        case rel =>
          refine ⟨j + 2, o.set j (z1 + x * 2 ^ (32 - s) % 4294967296) ++ [x * 2 ^ (32 - s) / 4294967296], by omega, by go_num, by simp [HO.out], ?_, sr_step (by omega) HO.out HY1.out HX.out HV.out, ?_, (hex.setCell (Nat.le_refl _) _).setCell (Nat.le_refl _) _⟩
          · intro y hy
            simp at hy
            rw [← hy]
            exact sh_carry hx32
          · have h1 := (HR.out.set (k := j + 1) (d := x * 2 ^ (32 - s) / 4294967296) (z := bits .or .u32 (z : Int) ((x : Int) * 4294967296 / 2 ^ s / 4294967296 % 4294967296)) (by rw [HZ0.out]; exact sr_hi hx32 (by omega)) (sr_hi_lt hx32 (by omega))).set (k := j) (sr_lo (x := x) (by omega) hzy) (sh_sum (by omega) hzy)
            rw [set_next HO.out hlt, List.append_assoc, List.set_append_left _ _ (by rw [HO.out]; omega), ← List.append_assoc] at h1
            exact h1
        case measure => simp [intOf] <;> omega
    · obtain rfl : k = n := by omega
      simp only [Nat.sub_self, List.replicate_zero, List.append_nil] at hrow
      go_wp2_with fail
      refine (trim_ext _ _ _ o _ (hrow.rm HO.out (by omega))).mono ?_
      rintro e w1 ⟨v1, rfl, hR, hx1⟩
      rw [HV.out, List.take_of_length_le (by rw [HL.out]; omega)] at hR
      go_wp2
      go_ret
      exact ⟨_, rfl, hR, hex.trans hx1⟩
end Go.Proofs.YtfdpbcjcinchgaaDoor
