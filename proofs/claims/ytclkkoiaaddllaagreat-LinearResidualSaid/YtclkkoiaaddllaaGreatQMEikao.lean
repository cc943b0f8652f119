/- Words and contracts that the laws share, several texts in one. -/
import Derived.Test.YtclkkoiaaddllaaGreatQMDdegk
import Derived.Test.YtclkkoiaaddllaaGreatQMBkbof
/- Contracts: division by one digit. -/
namespace Go.Proofs.YtclkkoiaaddllaaGreat
open Go.RowKit
set_option linter.unusedVariables false

/-- Digits at the head of a block, and what lies behind them. -/
def RowX (w : World) (g : Nat) (p : List Nat) (r : List Value) : Prop := Blk w g 103 (mg p ++ r).toArray ∧ Dig p
section
variable {w w' : World} {g k d n c : Nat} {p : List Nat} {r : List Value} {z : Int}
theorem RowX.at_ (h : RowX w g p r) (hk : k < p.length) : ∃ z, p[k]? = some z ∧ z < 4294967296 ∧ w.cell? ⟨g, k, none⟩ = some (.int .u32 (z : Int)) ∧ w.frozen? ⟨g, k, none⟩ = false := by
  have h1 : p[k]? = some p[k] := List.getElem?_eq_getElem hk
  refine ⟨p[k], h1, h.2.at_ h1, ?_, h.1.frozen k⟩
  rw [h.1.cell]
  have := mg_get h1
  rw [List.getElem?_toArray, List.getElem?_append_left (by rw [mg_len]; exact hk)]
  exact this
theorem RowX.set (h : RowX w g p r) (hk : k < p.length) (hz : z = (d : Int)) (hd : d < 4294967296) : RowX (w.setCell ⟨g, k, none⟩ (.int .u32 z)) g (p.set k d) r := by
  have := h.1.setL (i := k) (.int .u32 z)
  rw [List.set_append_left _ _ (by rw [mg_len]; exact hk), mg_set' hz] at this
  exact ⟨this, h.2.set k hd⟩
theorem RowX.rm (h : RowX w g p r) (hn : p.length = n) (hc : n ≤ c) (hm : c ≤ 9223372036854775807) : RM w (some ⟨g, 0, none⟩) n c p := by
  refine ⟨⟨by rw [mg_len]; omega, fun _ => ⟨_, rfl, h.1.lt, fun j u hu => ?_⟩⟩, h.2, hc, hm⟩
  rw [add_head, h.1.cell, List.getElem?_toArray, List.getElem?_append_left]
  · exact hu
  · exact (List.getElem?_eq_some_iff.1 hu).1
theorem RowX.ext (h : RowX w g p r) (e : Ext w w') : RowX w' g p r := ⟨h.1.ext e, h.2⟩
theorem RowX.head (h : RowX w g p r) (k : Nat) : RowX w g (p.take k) (mg (p.drop k) ++ r) := by
  refine ⟨?_, h.2.take k⟩
  rw [← List.append_assoc, ← mg_append, List.take_append_drop]
  exact h.1
theorem RowX.of_own {base : Nat} {v : Value} (h : w.ownsRow base 103 1 v n (mg p)) (hd : Dig p) : (v = .slice none 0 0 ∧ n = 0 ∧ p = []) ∨ ∃ g cap r, v = .slice (some ⟨g, 0, none⟩) n cap ∧ base ≤ g ∧ RowX w g p r ∧ n ≤ cap ∧ cap ≤ 9223372036854775807 := by
  rcases h.2 with ⟨h1, h2⟩ | ⟨g, cap, cur, h1, h2, h3, h4, h5, h6, h7⟩
  · refine .inl ⟨h1, h2, ?_⟩
    have := h.1
    rw [mg_len, h2] at this
    exact List.eq_nil_of_length_eq_zero (by omega)
  · refine .inr ⟨g, cap, cur.toList.drop n, h1, h2, ⟨?_, hd⟩, h4, h5⟩
    rw [← h7, Nat.mul_one, List.take_append_drop]
    exact h3
end

theorem dw_list {p q : List Nat} {j y : Nat} (hj : j < p.length) : (p.take (j + 1) ++ q).set j y = p.take j ++ (y :: q) := by
  rw [List.take_succ_eq_append_getElem hj, List.append_assoc, List.set_append_right _ _ (by simp; omega)]
  simp [Nat.min_eq_left (Nat.le_of_lt hj)]
theorem dw_step {p q : List Nat} {j x d rest nn : Nat} (hx : p[j]? = some x) (hn : nn = x + 4294967296 * rest) (h : val (p.drop (j + 1)) = d * val q + rest) : val (p.drop j) = d * val (nn / d :: q) + nn % d := by
  rw [val_drop hx, h, val, Nat.mul_add, Nat.mul_add]
  have h1 := Nat.div_add_mod nn d
  have h2 : d * (4294967296 * val q) = 4294967296 * (d * val q) := Nat.mul_left_comm _ _ _
  omega
theorem dw_lt {x d rest nn : Nat} (hx : x < 4294967296) (hr : rest < d) (hn : nn = x + 4294967296 * rest) : nn / d < 4294967296 := by
  rw [Nat.div_lt_iff_lt_mul (by omega)]
  have : 4294967296 * (rest + 1) ≤ 4294967296 * d := Nat.mul_le_mul_left _ hr
  omega

set_option maxRecDepth 100000 in
set_option maxHeartbeats 800000 in
theorem divWord_any (g n c d : Nat) (p : List Nat) (r : List Value) (w : World) (h : RowX w g p r) (hl : p.length = n) (hn : n ≤ 1000000) (hd0 : 0 < d) (hd : d < 4294967296) :
    Calls Tryz.prog 148 #[.slice (some ⟨g, 0, none⟩) n c, .int .u32 (d : Int)] w fun e w' => e = .returned (.int .u32 ((val p % d : Nat) : Int)) ∧ ∃ q, RowX w' g q r ∧ q.length = n ∧ val q = val p / d ∧ Only g w w' := by
  have HL := Lib.hid hl; clear hl
  go_enter Tryz.func148, Tryz.ntmps148
  go_wp2
  go_loopw [5, 6] (fun rv i wr => ∃ (k rest : Nat) (q : List Nat), k ≤ n ∧ i = .int .i64 ((k : Int) - 1) ∧ rv = .int .u64 (rest : Int) ∧ rest < d ∧ k + q.length = n ∧ val (p.drop k) = d * val q + rest ∧ RowX wr g (p.take k ++ q) r ∧ Only g w wr) (fun _ i _ => (intOf i + 1).toNat)
  case atStart => exact ⟨n, 0, [], Nat.le_refl _, rfl, rfl, hd0, rfl, by rw [List.drop_eq_nil_of_le (by rw [HL.out]; omega)]; simp [val], by rw [List.take_of_length_le (by rw [HL.out]; omega)]; simpa using h, Only.refl _ _⟩
  case round =>
    obtain ⟨k, rest, q, hk, rfl, rfl, hr, hq, hv, hrow, hon⟩ := hrel
    have HV := Lib.hid hv; clear hv
    have HQ := Lib.hid hq; clear hq
    by_cases h0 : k = 0
    · subst h0
      go_wp2
      go_ret
      have hv := HV.out
      simp only [List.drop_zero] at hv
      refine ⟨ret_int ?_, q, by simpa using hrow, by have := HQ.out; omega, ?_, hon⟩
      · rw [hv, Nat.mul_add_mod, Nat.mod_eq_of_lt hr]
      · rw [hv, Nat.mul_add_div hd0, Nat.div_eq_of_lt hr, Nat.add_zero]
    · obtain ⟨j, rfl⟩ : ∃ j, k = j + 1 := ⟨k - 1, by omega⟩
      have hjl : j < (p.take (j + 1) ++ q).length := by rw [List.length_append, List.length_take, HL.out]; omega
      obtain ⟨x, hx, hx32, hcx, hfx⟩ := hrow.at_ hjl
      have hxp : p[j]? = some x := by
        rw [List.getElem?_append_left (by rw [List.length_take, HL.out]; omega), List.getElem?_take_of_lt (by omega)] at hx
        exact hx
      clear hx
      have HX := Lib.hid hxp; clear hxp
      have HR := Lib.hid hrow; clear hrow
      have HJ := Lib.hid hjl; clear hjl
      obtain ⟨nn, hnn⟩ : ∃ nn, nn = x + 4294967296 * rest := ⟨_, rfl⟩
      have hnb : nn < 18446744073709551616 := by omega
      have e1 : bits .or .u64 ((rest : Int) * 4294967296) (x : Int) = (nn : Int) := by rw [or_hi (by omega) hx32, hnn]
      have hq1 : nn / d < 4294967296 := dw_lt hx32 hr hnn
      have hq2 : (nn : Int) / (d : Int) < 4294967296 := by rw [← Int.natCast_ediv]; omega
      have hq3 : (0 : Int) ≤ (nn : Int) / (d : Int) := Int.ediv_nonneg (by omega) (by omega)
      have HN := Lib.hid hnn; clear hnn
      go_wp2
      go_roundw
      case rel =>
        refine ⟨j, nn % d, nn / d :: q, by omega, by go_num, rfl, Nat.mod_lt _ hd0, by have := HQ.out; simp; omega, dw_step HX.out HN.out HV.out, ?_, hon.trans (Only.set _ _ _ _)⟩
        have := HR.out.set (d := nn / d) HJ.out rfl hq1
        rwa [dw_list (by rw [HL.out]; omega)] at this
      case measure => simp [intOf] <;> omega

theorem sh_list {q : List Nat} {j y : Nat} : (List.replicate (j + 1) 0 ++ q).set j y = List.replicate j 0 ++ (y :: q) := by
  rw [List.replicate_succ', List.append_assoc, List.set_append_right _ _ (by simp)]
  simp

set_option maxRecDepth 100000 in
set_option maxHeartbeats 800000 in
theorem rshort_any (A : Option Addr) (n c d : Nat) (p : List Nat) (w : World) (h : RM w A n c p) (hn : n ≤ 1000000) (hd0 : 0 < d) (hd : d < 4294967296) :
    Calls Tryz.prog 153 #[.slice A n c, .int .u32 (d : Int)] w fun e w' => ∃ v, e = .returned (.tuple #[v, .int .u32 ((val p % d : Nat) : Int)]) ∧ SlM (digs (val p / d)) v w' ∧ Ext w w' := by
  have HL := Lib.hid h.len
  have hmk := make_u32 (n : Int) n rfl (by omega)
  go_enter Tryz.func153, Tryz.ntmps153
  go_wp2
  clear hmk
  go_loopw [7, 8] (fun rv i wr => ∃ (k rest : Nat) (q : List Nat), k ≤ n ∧ i = .int .i64 ((k : Int) - 1) ∧ rv = .int .u64 (rest : Int) ∧ rest < d ∧ k + q.length = n ∧ val (p.drop k) = d * val q + rest ∧ RowD wr w.heap.size (List.replicate k 0 ++ q) ∧ Ext w wr) (fun _ i _ => (intOf i + 1).toNat)
  case atStart => exact ⟨n, 0, [], Nat.le_refl _, rfl, rfl, hd0, rfl, by rw [List.drop_eq_nil_of_le (by rw [HL.out]; omega)]; simp [val], by rw [List.append_nil]; exact ⟨Blk.new w _ _, Dig.replicate _⟩, Ext.new _ _⟩
  case round =>
    obtain ⟨k, rest, q, hk, rfl, rfl, hr, hq, hv, hrow, hex⟩ := hrel
    have HV := Lib.hid hv; clear hv
    have HQ := Lib.hid hq; clear hq
    by_cases h0 : k = 0
    · subst h0
      go_wp2_with fail
      simp only [List.replicate_zero, List.nil_append] at hrow
      refine (rtrim_any _ n n q _ (hrow.rm (by have := HQ.out; omega) (by omega)) hn).mono ?_
      rintro e w1 ⟨v1, rfl, hR, hx1⟩
      have hv := HV.out
      simp only [List.drop_zero] at hv
      have e1 : val p / d = val q := by rw [hv, Nat.mul_add_div hd0, Nat.div_eq_of_lt hr, Nat.add_zero]
      have e2 : rest = val p % d := by rw [hv, Nat.mul_add_mod, Nat.mod_eq_of_lt hr]
      have E1 := Lib.hid e1; have E2 := Lib.hid e2; clear e1 e2 hv
      go_wp2
      go_ret2
      refine ⟨v1, ?_, by rw [E1.out]; exact hR, hex.trans hx1⟩
      rw [← E2.out]; rfl
    · obtain ⟨j, rfl⟩ : ∃ j, k = j + 1 := ⟨k - 1, by omega⟩
      obtain ⟨ad, x, rfl, hb, hx, hx32, hcx⟩ := (h.ext hex).at_ (k := j) (by omega)
      have HX := Lib.hid hx; clear hx
      have hjl : j < (List.replicate (j + 1) 0 ++ q).length := by simp; omega
      obtain ⟨z, _, _, hcz, hfz⟩ := hrow.at_ hjl
      have HR := Lib.hid hrow; clear hrow hjl
      obtain ⟨nn, hnn⟩ : ∃ nn, nn = x + 4294967296 * rest := ⟨_, rfl⟩
      have hnb : nn < 18446744073709551616 := by omega
      have e1 : bits .or .u64 ((rest : Int) * 4294967296) (x : Int) = (nn : Int) := by rw [or_hi (by omega) hx32, hnn]
      have hq1 : nn / d < 4294967296 := dw_lt hx32 hr hnn
      have hq2 : (nn : Int) / (d : Int) < 4294967296 := by rw [← Int.natCast_ediv]; omega
      have hq3 : (0 : Int) ≤ (nn : Int) / (d : Int) := Int.ediv_nonneg (by omega) (by omega)
      have HN := Lib.hid hnn; clear hnn
      go_wp2
      go_roundw
      case rel =>
        refine ⟨j, nn % d, nn / d :: q, by omega, by go_num, rfl, Nat.mod_lt _ hd0, by have := HQ.out; simp; omega, dw_step HX.out HN.out HV.out, ?_, hex.setCell (Nat.le_refl _) _⟩
        have := HR.out.set (k := j) (d := nn / d) rfl hq1
        rwa [sh_list] at this
      case measure => simp [intOf] <;> omega
end Go.Proofs.YtclkkoiaaddllaaGreat

/- Contracts: shifts of digits. -/
namespace Go.Proofs.YtclkkoiaaddllaaGreat
open Go.RowKit
set_option linter.unusedVariables false

theorem pow32 {s : Nat} (hs : s ≤ 32) : 2 ^ s * 2 ^ (32 - s) = 4294967296 := by
  rw [← Nat.pow_add, show s + (32 - s) = 32 by omega]
theorem sh_lt {x s : Nat} (hx : x < 4294967296) (hs : s < 32) : x * 2 ^ s < 18446744073709551616 := by
  have h1 : 2 ^ s ≤ 2 ^ 31 := Nat.pow_le_pow_right (by omega) (by omega)
  have h2 : x * 2 ^ s ≤ x * 2 ^ 31 := Nat.mul_le_mul_left _ h1
  omega
theorem sh_wrap {x s : Nat} (hx : x < 4294967296) (hs : s < 32) : IntKind.u64.wrap ((x : Int) * 2 ^ s) = ((x * 2 ^ s : Nat) : Int) := by
  have h := sh_lt hx hs
  have e : ((x : Int) * 2 ^ s) = ((x * 2 ^ s : Nat) : Int) := by push_cast; rfl
  rw [e]
  exact IntWalk.u64_in _ (by omega)
theorem sh_dvd {x s : Nat} (hs : s ≤ 32) : 2 ^ s ∣ x * 2 ^ s % 4294967296 := by
  rw [Nat.dvd_mod_iff (show 2 ^ s ∣ 4294967296 from ⟨2 ^ (32 - s), (pow32 (by omega)).symm⟩)]
  exact Nat.dvd_mul_left _ _
theorem sh_sum {x s cy : Nat} (hs : s ≤ 32) (hc : cy < 2 ^ s) : cy + x * 2 ^ s % 4294967296 < 4294967296 := by
  obtain ⟨a, ha⟩ := sh_dvd (x := x) hs
  have hb := pow32 (show s ≤ 32 by omega)
  have hl : x * 2 ^ s % 4294967296 < 4294967296 := Nat.mod_lt _ (by omega)
  rw [ha] at hl ⊢
  have h1 : a < 2 ^ (32 - s) := by
    rw [← hb] at hl
    exact Nat.lt_of_mul_lt_mul_left hl
  have h2 : 2 ^ s * (a + 1) ≤ 2 ^ s * 2 ^ (32 - s) := Nat.mul_le_mul_left _ h1
  rw [hb, Nat.mul_add, Nat.mul_one] at h2
  omega
theorem sh_or {x s cy : Nat} (hx : x < 4294967296) (hs : s < 32) (hc : cy < 2 ^ s) : bits .or .u32 (cy : Int) (IntKind.u64.wrap ((x : Int) * 2 ^ s) % 4294967296) = ((cy + x * 2 ^ s % 4294967296 : Nat) : Int) := by
  have h1 := sh_sum (x := x) (Nat.le_of_lt hs) hc
  obtain ⟨a, ha⟩ := sh_dvd (x := x) (Nat.le_of_lt hs)
  rw [sh_wrap hx hs, show ((x * 2 ^ s : Nat) : Int) % 4294967296 = ((x * 2 ^ s % 4294967296 : Nat) : Int) from rfl]
  rw [bits_join_low .u32 32 (by decide) wraps_u32 s _ _ (by omega) (by exact_mod_cast hc) (by omega) (by omega) ?_ (by omega)]
  · omega
  · rw [ha]
    have : ((2 ^ s * a : Nat) : Int) % 2 ^ s = ((2 ^ s * a % 2 ^ s : Nat) : Int) := by push_cast; rfl
    rw [this, Nat.mul_mod_right]; rfl
theorem sh_carry {x s : Nat} (hx : x < 4294967296) : x * 2 ^ s / 4294967296 < 2 ^ s := by
  rw [Nat.div_lt_iff_lt_mul (by omega), Nat.mul_comm]
  exact Nat.mul_lt_mul_of_pos_left hx (Nat.pow_pos (by omega))
theorem sh_hi {x s : Nat} (hx : x < 4294967296) (hs : s < 32) : IntKind.u64.wrap ((x : Int) * 2 ^ s) / 4294967296 % 4294967296 = ((x * 2 ^ s / 4294967296 : Nat) : Int) := by
  have h := sh_lt hx hs
  rw [sh_wrap hx hs]; omega
theorem sh_list2 {o : List Nat} {k n a b cy : Nat} (ho : o.length = k) (hk : k < n) : ((o ++ cy :: List.replicate (n - k) 0).set k a).set (k + 1) b = (o ++ [a]) ++ b :: List.replicate (n - (k + 1)) 0 := by
  subst ho
  rw [show n - o.length = (n - (o.length + 1)) + 1 by omega, List.replicate_succ]
  simp
theorem sh_step {o p : List Nat} {k cy x s : Nat} (ho : o.length = k) (hx : p[k]? = some x) (h : val o + 4294967296 ^ k * cy = val (p.take k) * 2 ^ s) :
    val (o ++ [cy + x * 2 ^ s % 4294967296]) + 4294967296 ^ (k + 1) * (x * 2 ^ s / 4294967296) = val (p.take (k + 1)) * 2 ^ s := by
  rw [val_snoc, val_take_succ hx, ho, Nat.pow_succ, Nat.mul_assoc, Nat.add_mul, ← h, Nat.mul_add]
  have e : 4294967296 ^ k * (x * 2 ^ s % 4294967296) + 4294967296 ^ k * (4294967296 * (x * 2 ^ s / 4294967296)) = 4294967296 ^ k * (x * 2 ^ s) := by
    rw [← Nat.mul_add]; congr 1; omega
  rw [Nat.mul_assoc (4294967296 ^ k) x]
  omega

set_option maxRecDepth 100000 in
set_option maxHeartbeats 800000 in
theorem shiftLeft_any (A : Option Addr) (n c s : Nat) (p : List Nat) (w : World) (h : RM w A n c p) (hn : n ≤ 1000000) (hs : s < 32) :
    Calls Tryz.prog 150 #[.slice A n c, .int .i64 (s : Int)] w fun e w' => e = .returned (.slice (some ⟨w.heap.size, 0, none⟩) (n + 1) (n + 1)) ∧ ∃ q, RowD w' w.heap.size q ∧ q.length = n + 1 ∧ val q = val p * 2 ^ s ∧ Ext w w' := by
  have HL := Lib.hid h.len
  have hmk := make_u32 ((n : Int) + 1) (n + 1) (by omega) (by omega)
  go_enter Tryz.func150, Tryz.ntmps150
  go_wp2
  clear hmk
  go_loopw [15] (fun i wr => ∃ (k cy : Nat) (o : List Nat), k ≤ n ∧ i = .int .i64 k ∧ o.length = k ∧ cy < 2 ^ s ∧ val o + 4294967296 ^ k * cy = val (p.take k) * 2 ^ s ∧ RowD wr w.heap.size (o ++ cy :: List.replicate (n - k) 0) ∧ Ext w wr) (fun i _ => n - (intOf i).toNat)
  case atStart => exact ⟨0, 0, [], Nat.zero_le _, rfl, rfl, Nat.pow_pos (by omega), by simp [val], ⟨by simpa [List.replicate_succ] using Blk.new w 103 (mg (List.replicate (n + 1) 0)).toArray, by simpa [List.replicate_succ] using Dig.replicate (n + 1)⟩, Ext.new _ _⟩
  case round =>
    obtain ⟨k, cy, o, hk, rfl, ho, hcy, hv, hrow, hex⟩ := hrel
    have HV := Lib.hid hv; clear hv
    have HO := Lib.hid ho; clear ho
    by_cases hlt : k < n
    · obtain ⟨ad, x, rfl, _, hx, hx32, hcx⟩ := (h.ext hex).at_ hlt
      have HX := Lib.hid hx; clear hx
      obtain ⟨z, hz, hz32, hcz, hfz⟩ := hrow.at_ (k := k) (by simp [HO.out])
      obtain ⟨z1, hz1, hz132, hcz1, hfz1⟩ := hrow.at_ (k := k + 1) (by simp [HO.out]; omega)
      obtain rfl : z = cy := by
        rw [List.getElem?_append_right (by rw [HO.out]; exact Nat.le_refl _), HO.out, Nat.sub_self] at hz
        simpa using hz.symm
      have HR := Lib.hid hrow; clear hrow hz hz1
      go_wp2
      go_roundw
      case rel =>
        refine ⟨k + 1, x * 2 ^ s / 4294967296, o ++ [z + x * 2 ^ s % 4294967296], by omega, by go_num, by simp [HO.out], sh_carry hx32, sh_step HO.out HX.out HV.out, ?_, (hex.setCell (Nat.le_refl _) _).setCell (Nat.le_refl _) _⟩
        have h1 := (HR.out.set (k := k) (sh_or hx32 hs hcy) (sh_sum (Nat.le_of_lt hs) hcy)).set (k := k + 1) (sh_hi hx32 hs) (Nat.lt_of_lt_of_le (sh_carry hx32) (by rw [← pow32 (show s ≤ 32 by omega)]; exact Nat.le_mul_of_pos_right _ (Nat.pow_pos (by omega))))
        rwa [sh_list2 HO.out hlt] at h1
      case measure => simp [intOf] <;> omega
    · obtain rfl : k = n := by omega
      have HR := Lib.hid hrow; clear hrow
      go_wp2
      go_ret
      refine ⟨rfl, o ++ [cy], by simpa using HR.out, by simp [HO.out], ?_, hex⟩
      rw [val_snoc, HO.out, HV.out, List.take_of_length_le (by rw [HL.out]; omega)]
set_option maxRecDepth 100000 in
set_option maxHeartbeats 800000 in
theorem rshift_any (A : Option Addr) (n c s : Nat) (p : List Nat) (w : World) (h : RM w A n c p) (hn : n ≤ 1000000) (hs : s < 32) :
    Calls Tryz.prog 154 #[.slice A n c, .int .i64 (s : Int)] w fun e w' => e = .returned (.slice (some ⟨w.heap.size, 0, none⟩) (n + 1) (n + 1)) ∧ ∃ q, RowD w' w.heap.size q ∧ q.length = n + 1 ∧ val q = val p * 2 ^ s ∧ Ext w w' := by
  have HL := Lib.hid h.len
  have hmk := make_u32 ((n : Int) + 1) (n + 1) (by omega) (by omega)
  go_enter Tryz.func154, Tryz.ntmps154
  go_wp2
  clear hmk
  go_loopw [6] (fun i wr => ∃ (k cy : Nat) (o : List Nat), k ≤ n ∧ i = .int .i64 k ∧ o.length = k ∧ cy < 2 ^ s ∧ val o + 4294967296 ^ k * cy = val (p.take k) * 2 ^ s ∧ RowD wr w.heap.size (o ++ cy :: List.replicate (n - k) 0) ∧ Ext w wr) (fun i _ => n - (intOf i).toNat)
  case atStart => exact ⟨0, 0, [], Nat.zero_le _, rfl, rfl, Nat.pow_pos (by omega), by simp [val], ⟨by simpa [List.replicate_succ] using Blk.new w 103 (mg (List.replicate (n + 1) 0)).toArray, by simpa [List.replicate_succ] using Dig.replicate (n + 1)⟩, Ext.new _ _⟩
  case round =>
    obtain ⟨k, cy, o, hk, rfl, ho, hcy, hv, hrow, hex⟩ := hrel
    have HV := Lib.hid hv; clear hv
    have HO := Lib.hid ho; clear ho
    by_cases hlt : k < n
    · obtain ⟨ad, x, rfl, _, hx, hx32, hcx⟩ := (h.ext hex).at_ hlt
      have HX := Lib.hid hx; clear hx
      obtain ⟨z, hz, hz32, hcz, hfz⟩ := hrow.at_ (k := k) (by simp [HO.out])
      obtain ⟨z1, hz1, hz132, hcz1, hfz1⟩ := hrow.at_ (k := k + 1) (by simp [HO.out]; omega)
      obtain rfl : z = cy := by
        rw [List.getElem?_append_right (by rw [HO.out]; exact Nat.le_refl _), HO.out, Nat.sub_self] at hz
        simpa using hz.symm
      have HR := Lib.hid hrow; clear hrow hz hz1
      go_wp2
      go_roundw
      case rel =>
        refine ⟨k + 1, x * 2 ^ s / 4294967296, o ++ [z + x * 2 ^ s % 4294967296], by omega, by go_num, by simp [HO.out], sh_carry hx32, sh_step HO.out HX.out HV.out, ?_, (hex.setCell (Nat.le_refl _) _).setCell (Nat.le_refl _) _⟩
        have h1 := (HR.out.set (k := k) (sh_or hx32 hs hcy) (sh_sum (Nat.le_of_lt hs) hcy)).set (k := k + 1) (sh_hi hx32 hs) (Nat.lt_of_lt_of_le (sh_carry hx32) (by rw [← pow32 (show s ≤ 32 by omega)]; exact Nat.le_mul_of_pos_right _ (Nat.pow_pos (by omega))))
        rwa [sh_list2 HO.out hlt] at h1
      case measure => simp [intOf] <;> omega
    · obtain rfl : k = n := by omega
      have HR := Lib.hid hrow; clear hrow
      go_wp2
      go_ret
      refine ⟨rfl, o ++ [cy], by simpa using HR.out, by simp [HO.out], ?_, hex⟩
      rw [val_snoc, HO.out, HV.out, List.take_of_length_le (by rw [HL.out]; omega)]

theorem sr_w {x s : Nat} (hs : s ≤ 32) : x * 4294967296 / 2 ^ s = x * 2 ^ (32 - s) := by
  rw [← pow32 hs, Nat.mul_left_comm, Nat.mul_div_cancel_left _ (Nat.pow_pos (by omega))]
theorem sr_wi {x s : Nat} (hs : s ≤ 32) : (x : Int) * 4294967296 / 2 ^ s = ((x * 2 ^ (32 - s) : Nat) : Int) := by
  rw [← sr_w hs, Int.natCast_ediv, Int.natCast_mul, Int.natCast_pow]; rfl
theorem sr_hi_lt {x s : Nat} (hx : x < 4294967296) (hs : s ≤ 32) : x * 2 ^ (32 - s) / 4294967296 < 4294967296 := by
  have h1 := sh_carry (x := x) (s := 32 - s) hx
  have h2 : 2 ^ (32 - s) ≤ 2 ^ 32 := Nat.pow_le_pow_right (by omega) (by omega)
  omega
theorem or32_zero {y : Nat} (hy : y < 4294967296) : bits .or .u32 ((0 : Nat) : Int) (y : Int) = (y : Int) := by
  rw [bits_join_low .u32 32 (by decide) wraps_u32 0 _ _ (by omega) (by omega) (by omega) (by omega) (by omega) (by omega)]; omega
theorem sr_hi {x s : Nat} (hx : x < 4294967296) (hs : s ≤ 32) : bits .or .u32 ((0 : Nat) : Int) ((x : Int) * 4294967296 / 2 ^ s / 4294967296 % 4294967296) = ((x * 2 ^ (32 - s) / 4294967296 : Nat) : Int) := by
  have h := sr_hi_lt hx hs
  rw [sr_wi hs]
  have e : ((x * 2 ^ (32 - s) : Nat) : Int) / 4294967296 % 4294967296 = ((x * 2 ^ (32 - s) / 4294967296 : Nat) : Int) := by omega
  rw [e, or32_zero h]
theorem sr_lo {x s y : Nat} (hs : s ≤ 32) (hy : y < 2 ^ (32 - s)) : bits .or .u32 (y : Int) ((x : Int) * 4294967296 / 2 ^ s % 4294967296) = ((y + x * 2 ^ (32 - s) % 4294967296 : Nat) : Int) := by
  have h1 := sh_sum (x := x) (s := 32 - s) (by omega) hy
  obtain ⟨a, ha⟩ := sh_dvd (x := x) (s := 32 - s) (by omega)
  rw [sr_wi hs, show ((x * 2 ^ (32 - s) : Nat) : Int) % 4294967296 = ((x * 2 ^ (32 - s) % 4294967296 : Nat) : Int) from rfl]
  rw [bits_join_low .u32 32 (by decide) wraps_u32 (32 - s) _ _ (by omega) (by exact_mod_cast hy) (by omega) (by omega) ?_ (by omega)]
  · omega
  · rw [ha]
    have : ((2 ^ (32 - s) * a : Nat) : Int) % 2 ^ (32 - s) = ((2 ^ (32 - s) * a % 2 ^ (32 - s) : Nat) : Int) := by push_cast; rfl
    rw [this, Nat.mul_mod_right]; rfl
theorem sr_first {x s : Nat} (hs : s ≤ 32) : x * 2 ^ (32 - s) / 4294967296 = x / 2 ^ s := by
  rw [← pow32 hs, Nat.mul_div_mul_right _ _ (Nat.pow_pos (by omega))]
theorem sr_step {o p : List Nat} {j x y s : Nat} (hs : s ≤ 32) (ho : o.length = j + 1) (hy : o[j]? = some y) (hx : p[j + 1]? = some x) (h : val o = val (p.take (j + 1)) / 2 ^ s) :
    val (o.set j (y + x * 2 ^ (32 - s) % 4294967296) ++ [x * 2 ^ (32 - s) / 4294967296]) = val (p.take (j + 2)) / 2 ^ s := by
  have h1 := val_set (y := y + x * 2 ^ (32 - s) % 4294967296) hy
  rw [val_snoc, List.length_set, ho, val_take_succ hx]
  have e1 : 4294967296 ^ (j + 1) * x = 2 ^ s * (4294967296 ^ j * (x * 2 ^ (32 - s))) := by
    rw [Nat.pow_succ, ← Nat.mul_assoc, ← Nat.mul_assoc, Nat.mul_comm (2 ^ s * 4294967296 ^ j * x), ← Nat.mul_assoc, ← Nat.mul_assoc, Nat.mul_comm (2 ^ (32 - s)) (2 ^ s), pow32 hs, Nat.mul_comm 4294967296]
  rw [e1, Nat.add_mul_div_left _ _ (Nat.pow_pos (by omega)), ← h]
  have e2 : 4294967296 ^ j * (x * 2 ^ (32 - s) % 4294967296) + 4294967296 ^ (j + 1) * (x * 2 ^ (32 - s) / 4294967296) = 4294967296 ^ j * (x * 2 ^ (32 - s)) := by
    rw [Nat.pow_succ, Nat.mul_assoc, ← Nat.mul_add]; congr 1; omega
  rw [Nat.mul_add] at h1
  omega
theorem last_at {o : List Nat} {j y : Nat} (ho : o.length = j + 1) (hy : o[j]? = some y) : o.getLast? = some y := by
  rw [List.getLast?_eq_getElem?, ho]; exact hy

set_option maxRecDepth 100000 in
set_option maxHeartbeats 800000 in
theorem shiftRight_any (A : Option Addr) (n c s : Nat) (p : List Nat) (w : World) (h : RM w A n c p) (hn : n ≤ 1000000) (hs : s < 32) :
    Calls Tryz.prog 152 #[.slice A n c, .int .i64 (s : Int)] w fun e w' => ∃ v, e = .returned v ∧ SlM (digs (val p / 2 ^ s)) v w' ∧ Ext w w' := by
  have HL := Lib.hid h.len
  have hmk := make_u32 (n : Int) n rfl (by omega)
  go_enter Tryz.func152, Tryz.ntmps152
  go_wp2
  clear hmk
  go_loopw [14] (fun i wr => ∃ (k : Nat) (o : List Nat), k ≤ n ∧ i = .int .i64 k ∧ o.length = k ∧ (∀ y, o.getLast? = some y → y < 2 ^ (32 - s)) ∧ val o = val (p.take k) / 2 ^ s ∧ RowD wr w.heap.size (o ++ List.replicate (n - k) 0) ∧ Ext w wr) (fun i _ => n - (intOf i).toNat)
  case atStart => exact ⟨0, [], Nat.zero_le _, rfl, rfl, by simp, by simp [val], ⟨by simpa using Blk.new w _ _, by simpa using Dig.replicate n⟩, Ext.new _ _⟩
  case round =>
    obtain ⟨k, o, hk, rfl, ho, hy, hv, hrow, hex⟩ := hrel
    have HV := Lib.hid hv; clear hv
    have HO := Lib.hid ho; clear ho
    have HY := Lib.hid hy; clear hy
    by_cases hlt : k < n
    · obtain ⟨ad, x, rfl, _, hx, hx32, hcx⟩ := (h.ext hex).at_ hlt
      have HX := Lib.hid hx; clear hx
      obtain ⟨z, hz, hz32, hcz, hfz⟩ := hrow.at_ (k := k) (by simp [HO.out]; omega)
      by_cases h0 : k = 0
      · subst h0
        have hcx' : wr.cell? ad = some (.int .u32 (x : Int)) := hcx
        have hon : o = [] := List.eq_nil_of_length_eq_zero HO.out
        have hz0 : z = 0 := by
          have := List.mem_of_getElem? hz
          rw [hon] at this
          simpa using List.eq_of_mem_replicate this
        have HR := Lib.hid hrow; clear hrow hz
        have HON := Lib.hid hon; clear hon
        have HZ0 := Lib.hid hz0; clear hz0
        go_wp2
        go_roundw
        case rel =>
          refine ⟨1, [x * 2 ^ (32 - s) / 4294967296], by omega, by go_num, rfl, ?_, ?_, ?_, hex.setCell (Nat.le_refl _) _⟩
          · intro y hy
            simp at hy
            rw [← hy]
            exact sh_carry hx32
          · rw [val_take_succ (k := 0) HX.out, sr_first (by omega)]; simp [val]
          · have h1 := HR.out.set (k := 0) (d := x * 2 ^ (32 - s) / 4294967296) (z := bits .or .u32 (z : Int) ((x : Int) * 4294967296 / 2 ^ s / 4294967296 % 4294967296)) (by rw [HZ0.out]; exact sr_hi hx32 (by omega)) (sr_hi_lt hx32 (by omega))
            rwa [HON.out, set_next (o := []) (k := 0) rfl hlt] at h1
        case measure => simp [intOf] <;> omega
      · obtain ⟨j, rfl⟩ : ∃ j, k = j + 1 := ⟨k - 1, by omega⟩
        obtain ⟨z1, hz1, hz132, hcz1, hfz1⟩ := hrow.at_ (k := j) (by simp [HO.out]; omega)
        have hcx' : wr.cell? ⟨ad.block, ad.off + (j + 1), none⟩ = some (.int .u32 (x : Int)) := by simpa [Addr.add] using hcx
        have hz0 : z = 0 := by
          rw [List.getElem?_append_right (by rw [HO.out]; exact Nat.le_refl _), HO.out] at hz
          exact List.eq_of_mem_replicate (List.mem_of_getElem? hz)
        have hy1 : o[j]? = some z1 := by
          rw [List.getElem?_append_left (by rw [HO.out]; omega)] at hz1
          exact hz1
        have HR := Lib.hid hrow; clear hrow hz hz1
        have HZ0 := Lib.hid hz0; clear hz0
        have HY1 := Lib.hid hy1; clear hy1
        have hzy : z1 < 2 ^ (32 - s) := HY.out z1 (last_at HO.out HY1.out)
        go_wp2
        go_roundw
        case rel =>
          refine ⟨j + 2, o.set j (z1 + x * 2 ^ (32 - s) % 4294967296) ++ [x * 2 ^ (32 - s) / 4294967296], by omega, by go_num, by simp [HO.out], ?_, sr_step (by omega) HO.out HY1.out HX.out HV.out, ?_, (hex.setCell (Nat.le_refl _) _).setCell (Nat.le_refl _) _⟩
          · intro y hy
            simp at hy
            rw [← hy]
            exact sh_carry hx32
          · have h1 := (HR.out.set (k := j + 1) (d := x * 2 ^ (32 - s) / 4294967296) (z := bits .or .u32 (z : Int) ((x : Int) * 4294967296 / 2 ^ s / 4294967296 % 4294967296)) (by rw [HZ0.out]; exact sr_hi hx32 (by omega)) (sr_hi_lt hx32 (by omega))).set (k := j) (sr_lo (x := x) (by omega) hzy) (sh_sum (by omega) hzy)
            rw [set_next HO.out hlt, List.append_assoc, List.set_append_left _ _ (by rw [HO.out]; omega), ← List.append_assoc] at h1
            exact h1
        case measure => simp [intOf] <;> omega
    · obtain rfl : k = n := by omega
      simp only [Nat.sub_self, List.replicate_zero, List.append_nil] at hrow
      go_wp2_with fail
      refine (trim_ext _ _ _ o _ (hrow.rm HO.out (by omega))).mono ?_
      rintro e w1 ⟨v1, rfl, hR, hx1⟩
      rw [HV.out, List.take_of_length_le (by rw [HL.out]; omega)] at hR
      go_wp2
      go_ret
      exact ⟨_, rfl, hR, hex.trans hx1⟩
end Go.Proofs.YtclkkoiaaddllaaGreat

/- Contract: the reference's shift to the right. -/
namespace Go.Proofs.YtclkkoiaaddllaaGreat
open Go.RowKit
set_option linter.unusedVariables false

/-- The digit behind another one, 0 at the end. -/
theorem val_two_at {p : List Nat} {k x : Nat} (hd : Dig p) (hx : p[k]? = some x) : ∃ Y, val p / 4294967296 ^ k = x + 4294967296 * p.getD (k + 1) 0 + 4294967296 * (4294967296 * Y) := by
  have hk : k < p.length := (List.getElem?_eq_some_iff.1 hx).1
  have h1 := val_split p k (by omega)
  have h2 := val_lt (hd.take k)
  rw [List.length_take, Nat.min_eq_left (by omega)] at h2
  have h3 : val p / 4294967296 ^ k = val (p.drop k) := by
    rw [h1, Nat.add_comm, Nat.mul_add_div (Nat.pow_pos (by omega)), Nat.div_eq_of_lt h2, Nat.add_zero]
  rw [h3, val_drop hx]
  by_cases hk1 : k + 1 < p.length
  · have hy : p[k + 1]? = some p[k + 1] := List.getElem?_eq_getElem hk1
    rw [val_drop hy, getD_of hy]
    exact ⟨val (p.drop (k + 1 + 1)), by omega⟩
  · rw [List.drop_eq_nil_of_le (by omega)]
    refine ⟨0, ?_⟩
    have : p.getD (k + 1) 0 = 0 := by simp [List.getD, List.getElem?_eq_none (Nat.not_lt.1 hk1)]
    rw [this]; simp [val]
theorem rb_digit {p : List Nat} {k x s : Nat} (hd : Dig p) (hs : s ≤ 32) (hx : p[k]? = some x) : val p / 2 ^ s / 4294967296 ^ k % 4294967296 = (x + 4294967296 * p.getD (k + 1) 0) / 2 ^ s % 4294967296 := by
  obtain ⟨Y, hY⟩ := val_two_at hd hx
  rw [Nat.div_div_eq_div_mul, Nat.mul_comm, ← Nat.div_div_eq_div_mul, hY]
  have e : 4294967296 * (4294967296 * Y) = 2 ^ s * (4294967296 * (2 ^ (32 - s) * Y)) := by
    rw [Nat.mul_left_comm (2 ^ s), ← Nat.mul_assoc (2 ^ s), pow32 hs]
  rw [e, Nat.add_mul_div_left _ _ (Nat.pow_pos (by omega)), Nat.add_mul_mod_self_left]
theorem rb_step {o p : List Nat} {k x s : Nat} (hd : Dig p) (hs : s ≤ 32) (ho : o.length = k) (hx : p[k]? = some x) (h : val o = val p / 2 ^ s % 4294967296 ^ k) :
    val (o ++ [(x + 4294967296 * p.getD (k + 1) 0) / 2 ^ s % 4294967296]) = val p / 2 ^ s % 4294967296 ^ (k + 1) := by
  rw [val_snoc, ho, h, ← rb_digit hd hs hx, Nat.mod_pow_succ]

theorem rb_int (t s : Nat) : (t : Int) / 2 ^ s % 4294967296 = ((t / 2 ^ s % 4294967296 : Nat) : Int) := by
  have e : (t : Int) / 2 ^ s = ((t / 2 ^ s : Nat) : Int) := by rw [Int.natCast_ediv, Int.natCast_pow]; rfl
  rw [e]; rfl

set_option maxRecDepth 100000 in
set_option maxHeartbeats 800000 in
theorem rback_any (A : Option Addr) (n c s : Nat) (p : List Nat) (w : World) (h : RM w A n c p) (hn : n ≤ 1000000) (hs : s < 32) :
    Calls Tryz.prog 158 #[.slice A n c, .int .i64 (s : Int)] w fun e w' => ∃ v, e = .returned v ∧ SlM (digs (val p / 2 ^ s)) v w' ∧ Ext w w' := by
  have HL := Lib.hid h.len
  have hmk := make_u32 (n : Int) n rfl (by omega)
  go_enter Tryz.func158, Tryz.ntmps158
  go_wp2
  clear hmk
  go_loopw [6] (fun i wr => ∃ (k : Nat) (o : List Nat), k ≤ n ∧ i = .int .i64 k ∧ o.length = k ∧ val o = val p / 2 ^ s % 4294967296 ^ k ∧ RowD wr w.heap.size (o ++ List.replicate (n - k) 0) ∧ Ext w wr) (fun i _ => n - (intOf i).toNat)
  case atStart => exact ⟨0, [], Nat.zero_le _, rfl, rfl, by simp [val, Nat.mod_one], ⟨by simpa using Blk.new w _ _, by simpa using Dig.replicate n⟩, Ext.new _ _⟩
  case round =>
    obtain ⟨k, o, hk, rfl, ho, hv, hrow, hex⟩ := hrel
    have HV := Lib.hid hv; clear hv
    have HO := Lib.hid ho; clear ho
    by_cases hlt : k < n
    · obtain ⟨ad, x, rfl, _, hx, hx32, hcx⟩ := (h.ext hex).at_ hlt
      have HX := Lib.hid hx; clear hx
      obtain ⟨z, _, _, hcz, hfz⟩ := hrow.at_ (k := k) (by simp [HO.out]; omega)
      have HR := Lib.hid hrow; clear hrow
      have hfin : ∀ y t : Nat, p.getD (k + 1) 0 = y → t = x + 4294967296 * y → val (o ++ [t / 2 ^ s % 4294967296]) = val p / 2 ^ s % 4294967296 ^ (k + 1) := fun y t h1 h2 => by
        rw [h2, ← h1]; exact rb_step h.dg (by omega) HO.out HX.out HV.out
      have HF := Lib.hid hfin; clear hfin
      by_cases hl1 : k + 1 < n
      · obtain ⟨ad', y, e1, _, hy, hy32, hcy⟩ := (h.ext hex).at_ hl1
        cases e1
        have hcy' : wr.cell? ⟨ad.block, ad.off + (k + 1), none⟩ = some (.int .u32 (y : Int)) := by simpa [Addr.add] using hcy
        have HF2 := Lib.hid (HF.out y _ (getD_of hy) rfl); clear HF hy
        obtain ⟨t, ht⟩ : ∃ t, t = x + 4294967296 * y := ⟨_, rfl⟩
        have e1 : bits .or .u64 (x : Int) ((y : Int) * 4294967296) = (t : Int) := by rw [or_lo hx32 hy32, ht]
        have htb : t < 18446744073709551616 := by omega
        rw [← ht] at HF2
        clear ht
        go_wp2
        go_roundw
        case rel =>
          refine ⟨k + 1, o ++ [t / 2 ^ s % 4294967296], by omega, by go_num, by simp [HO.out], HF2.out, ?_, hex.setCell (Nat.le_refl _) _⟩
          have h1 := HR.out.set (k := k) (rb_int t s) (Nat.mod_lt _ (by omega))
          rwa [set_next HO.out hlt] at h1
        case measure => simp [intOf] <;> omega
      · have HF2 := Lib.hid (HF.out 0 x (by simp [List.getD, List.getElem?_eq_none (show p.length ≤ k + 1 by rw [HL.out]; omega)]) (by omega)); clear HF
        go_wp2
        go_roundw
        case rel =>
          refine ⟨k + 1, o ++ [x / 2 ^ s % 4294967296], by omega, by go_num, by simp [HO.out], HF2.out, ?_, hex.setCell (Nat.le_refl _) _⟩
          have h1 := HR.out.set (k := k) (rb_int x s) (Nat.mod_lt _ (by omega))
          rwa [set_next HO.out hlt] at h1
        case measure => simp [intOf] <;> omega
    · obtain rfl : k = n := by omega
      simp only [Nat.sub_self, List.replicate_zero, List.append_nil] at hrow
      go_wp2_with fail
      refine (rtrim_any _ _ _ o _ (hrow.rm HO.out (by omega)) hn).mono ?_
      rintro e w1 ⟨v1, rfl, hR, hx1⟩
      have hlt2 : val p / 2 ^ s < 4294967296 ^ k := by
        have := val_lt h.dg
        rw [HL.out] at this
        exact Nat.lt_of_le_of_lt (Nat.div_le_self _ _) this
      rw [HV.out, Nat.mod_eq_of_lt hlt2] at hR
      go_wp2
      go_ret
      exact ⟨_, rfl, hR, hex.trans hx1⟩
end Go.Proofs.YtclkkoiaaddllaaGreat

/- Contracts: the guess of a digit. -/
namespace Go.Proofs.YtclkkoiaaddllaaGreat
open Go.RowKit
set_option linter.unusedVariables false

/-- What is known of a guess: it is not too small, and the head is told by it. -/
def Guess (S V u2 u1 v1 g rest : Nat) : Prop := g * v1 + rest = u2 * 4294967296 + u1 ∧ S / V ≤ g
section
variable {S V P u2 u1 u0 v1 v0 g rest : Nat}
theorem Guess.first (t : Tops S V P u2 u1 u0 v1 v0) : Guess S V u2 u1 v1 ((u2 * 4294967296 + u1) / v1) ((u2 * 4294967296 + u1) % v1) :=
  ⟨by rw [Nat.mul_comm]; exact Nat.div_add_mod _ _, t.first⟩
theorem Guess.le (t : Tops S V P u2 u1 u0 v1 v0) (h : Guess S V u2 u1 v1 g rest) : g ≤ 4294967299 := by
  have h1 := t.head_lt
  have h2 := h.1
  have h3 := t.top
  have h4 := t.l1
  rcases Nat.lt_or_ge 4294967299 g with hc | hc
  · exfalso
    have : 4294967300 * v1 ≤ g * v1 := Nat.mul_le_mul_right _ hc
    omega
  · exact hc
theorem Guess.big (t : Tops S V P u2 u1 u0 v1 v0) (h : Guess S V u2 u1 v1 g rest) (hg : 4294967296 ≤ g) : Guess S V u2 u1 v1 (g - 1) (rest + v1) := by
  have h1 := t.q_lt
  refine ⟨?_, by omega⟩
  rw [← h.1, Nat.sub_mul, Nat.one_mul]
  have : 1 * v1 ≤ g * v1 := Nat.mul_le_mul_right _ (by omega)
  omega
theorem Guess.fail (t : Tops S V P u2 u1 u0 v1 v0) (h : Guess S V u2 u1 v1 g rest) (hg : g * v0 > u0 + 4294967296 * rest) : 0 < g ∧ Guess S V u2 u1 v1 (g - 1) (rest + v1) := by
  have h1 := t.above ((guess_test (u0 := u0) (v0 := v0) h.1).1 (by omega))
  have h0 : 0 < g := Nat.lt_of_le_of_lt (Nat.zero_le _) h1
  refine ⟨h0, ?_, by omega⟩
  rw [← h.1, Nat.sub_mul, Nat.one_mul]
  have : 1 * v1 ≤ g * v1 := Nat.mul_le_mul_right _ h0
  omega
theorem Guess.pass (t : Tops S V P u2 u1 u0 v1 v0) (h : Guess S V u2 u1 v1 g rest) (hb : g < 4294967296) (hg : ¬ g * v0 > u0 + 4294967296 * rest) : S / V ≤ g ∧ g ≤ S / V + 1 := by
  refine ⟨h.2, t.close hb ?_⟩
  have := mt (guess_test (u0 := u0) (v0 := v0) h.1).2 (by omega)
  omega
theorem Guess.stop (t : Tops S V P u2 u1 u0 v1 v0) (h : Guess S V u2 u1 v1 g rest) (hr : 4294967296 ≤ rest) : g < 4294967296 ∧ S / V ≤ g ∧ g ≤ S / V + 1 := by
  have h1 := t.head_lt
  have h2 := h.1
  have hb : g < 4294967296 := by
    rcases Nat.lt_or_ge g 4294967296 with hc | hc
    · exact hc
    · exfalso
      have : 4294967296 * v1 ≤ g * v1 := Nat.mul_le_mul_right _ hc
      omega
  refine ⟨hb, h.pass t hb ?_⟩
  have := prod_lt hb t.l0
  omega
end

set_option maxRecDepth 100000 in
set_option maxHeartbeats 800000 in
theorem rguess_any (S V P u2 u1 u0 v1 v0 : Nat) (w : World) (t : Tops S V P u2 u1 u0 v1 v0) :
    Calls Tryz.prog 155 #[.int .u64 (u2 : Int), .int .u64 (u1 : Int), .int .u64 (u0 : Int), .int .u64 (v1 : Int), .int .u64 (v0 : Int)] w fun e w' => (∃ g : Nat, e = .returned (.int .u64 (g : Int)) ∧ g < 4294967296 ∧ S / V ≤ g ∧ g ≤ S / V + 1) ∧ w = w' := by
  have hu2 := t.m2; have hu1 := t.m1; have hu0 := t.m0; have hv1 := t.l1; have hv0 := t.l0; have htop := t.top
  have HG0 := Lib.hid (Guess.first t)
  obtain ⟨hd, hhd⟩ : ∃ hd, hd = u2 * 4294967296 + u1 := ⟨_, rfl⟩
  rw [← hhd] at HG0
  have hdb : hd < 18446744073709551616 := by omega
  have e0 : bits .or .u64 ((u2 : Int) * 4294967296) (u1 : Int) = (hd : Int) := by rw [or_hi hu2 hu1, hhd]; omega
  have HHD := Lib.hid hhd; clear hhd
  have hv0' : 1 ≤ v1 := by omega
  have hdq : (0 : Int) ≤ (hd : Int) / (v1 : Int) := Int.ediv_nonneg (by omega) (by omega)
  have hdq2 : (hd : Int) / (v1 : Int) ≤ 18446744073709551615 := by
    have := Nat.div_le_self hd v1
    rw [← Int.natCast_ediv]; omega
  go_enter Tryz.func155, Tryz.ntmps155
  go_wp2
  clear e0
  go_loop [11, 12] (fun qv rv => ∃ g rest : Nat, qv = .int .u64 (g : Int) ∧ rv = .int .u64 (rest : Int) ∧ rest < 4294967296 ∧ Guess S V u2 u1 v1 g rest) (fun qv _ => (intOf qv).toNat)
  case atStart => exact ⟨hd / v1, hd % v1, rfl, rfl, Nat.lt_trans (Nat.mod_lt _ (by omega)) hv1, HG0.out⟩
  case round =>
    obtain ⟨g, rest, rfl, rfl, hr, hG⟩ := hrel
    have hgle := Guess.le t hG
    have HG := Lib.hid hG; clear hG
    by_cases hb : 4294967296 ≤ g
    · have hb' : (4294967296 : Int) ≤ (g : Int) := by omega
      have HG2 := Lib.hid (Guess.big t HG.out hb)
      by_cases hr2 : 4294967296 ≤ rest + v1
      · have hr3 : (4294967296 : Int) ≤ (rest : Int) + (v1 : Int) := by omega
        go_wp2
        go_ret
        obtain ⟨s1, s2, s3⟩ := Guess.stop t HG2.out hr2
        exact ⟨⟨g - 1, ret_int (by omega), s1, s2, s3⟩, rfl⟩
      · have hr3 : decide ((4294967296 : Int) ≤ (rest : Int) + (v1 : Int)) = false := by rw [decide_eq_false_iff_not]; omega
        have hr4 : decide (4294967296 ≤ rest + v1) = false := decide_eq_false hr2
        have HR2 := Lib.hid hr2; clear hr2
        go_wp2
        go_round
        case rel => exact ⟨g - 1, rest + v1, by go_num, by go_num, by have := HR2.out; omega, HG2.out⟩
        case measure => simp [intOf] <;> omega
    · obtain ⟨tp, htp⟩ : ∃ tp, tp = g * v0 := ⟨_, rfl⟩
      obtain ⟨z, hz⟩ : ∃ z, z = u0 + 4294967296 * rest := ⟨_, rfl⟩
      have htb : tp ≤ 18446744065119617025 := by rw [htp]; exact prod_lt (by omega) hv0
      have e1 : IntKind.u64.wrap ((g : Int) * (v0 : Int)) = (tp : Int) := by rw [IntWalk.u64_in _ (by rw [show ((g : Int) * (v0 : Int)) = ((g * v0 : Nat) : Int) by simp, ← htp]; omega), htp]; simp
      have e2 : bits .or .u64 ((rest : Int) * 4294967296) (u0 : Int) = (z : Int) := by rw [or_hi hr hu0, hz]
      have hzb : z < 18446744073709551616 := by omega
      have hb' : decide ((4294967296 : Int) ≤ (g : Int)) = false := by rw [decide_eq_false_iff_not]; omega
      have hb2 : decide (4294967296 ≤ g) = false := decide_eq_false hb
      have HB := Lib.hid hb
      by_cases hc : z < tp
      · obtain ⟨hg0, hG2⟩ := Guess.fail (u0 := u0) (v0 := v0) t HG.out (by rw [← htp, ← hz]; exact hc)
        have HG2 := Lib.hid hG2; clear hG2
        clear htp hz hb
        have hc' : (z : Int) < (tp : Int) := by omega
        clear hc
        by_cases hr2 : 4294967296 ≤ rest + v1
        · have hr3 : (4294967296 : Int) ≤ (rest : Int) + (v1 : Int) := by omega
          have HR2 := Lib.hid hr2; clear hr2
          go_wp2
          go_ret
          obtain ⟨s1, s2, s3⟩ := Guess.stop t HG2.out HR2.out
          exact ⟨⟨g - 1, ret_int (by omega), s1, s2, s3⟩, rfl⟩
        · have hr3 : decide ((4294967296 : Int) ≤ (rest : Int) + (v1 : Int)) = false := by rw [decide_eq_false_iff_not]; omega
          have hr4 : decide (4294967296 ≤ rest + v1) = false := decide_eq_false hr2
          have HR2 := Lib.hid hr2; clear hr2
          go_wp2
          go_round
          case rel => exact ⟨g - 1, rest + v1, by go_num, by go_num, by have := HR2.out; omega, HG2.out⟩
          case measure => simp [intOf] <;> omega
      · obtain ⟨s2, s3⟩ := Guess.pass (u0 := u0) (v0 := v0) t HG.out (by omega) (by rw [← htp, ← hz]; omega)
        have S2 := Lib.hid s2; have S3 := Lib.hid s3; clear s2 s3 htp hz hb
        have hc' : (tp : Int) ≤ (z : Int) := by omega
        clear hc
        go_wp2
        go_ret
        exact ⟨⟨g, rfl, by have := HB.out; omega, S2.out, S3.out⟩, rfl⟩
end Go.Proofs.YtclkkoiaaddllaaGreat

/- Contracts: the reference's comparison and subtraction of a multiple. -/
namespace Go.Proofs.YtclkkoiaaddllaaGreat
open Go.RowKit
set_option linter.unusedVariables false

/-- A part of a row from j on. -/
theorem RowD.sub {w : World} {g j m c : Nat} {p : List Nat} (h : RowD w g p) (hm : j + m = p.length) (hc : m ≤ c) (hcm : c ≤ 9223372036854775807) : RM w (some ⟨g, j, none⟩) m c (p.drop j) := by
  refine ⟨⟨by rw [mg_len, List.length_drop]; omega, fun _ => ⟨_, rfl, h.1.lt, fun i u hu => ?_⟩⟩, h.2.drop j, hc, hcm⟩
  rw [add_plain, h.1.cell]
  simp only [mg, List.getElem?_map, List.getElem?_drop, Option.map_eq_some_iff] at hu
  obtain ⟨x, hx, rfl⟩ := hu
  simpa using mg_get hx
theorem digs64 {g : Nat} (h : g < 18446744073709551616) : (digs g).length ≤ 2 := digs_len_le (k := 2) (by omega)
theorem val_take_lt {l : List Nat} (h : Dig l) (k : Nat) : val (l.take k) < 4294967296 ^ k := by
  have h1 := val_lt (h.take k)
  exact Nat.lt_of_lt_of_le h1 (Nat.pow_le_pow_right (by omega) (by rw [List.length_take]; omega))
theorem cmp_lt_iff {p q : Nat} : decide (cmpN p q < 0) = decide (p < q) := by
  unfold cmpN
  by_cases h : p < q
  · simp [h]
  · by_cases h2 : q < p <;> simp [h, h2]

set_option maxRecDepth 100000 in
set_option maxHeartbeats 800000 in
theorem rless_any (A B : Option Addr) (n m c d g : Nat) (p v : List Nat) (w : World) (hA : RM w A m c p) (hB : RM w B n d v) (hn : n ≤ 10000) (hm : n + 1 ≤ m) (hg : g < 18446744073709551616) :
    Calls Tryz.prog 156 #[.slice A m c, .slice B n d, .int .u64 (g : Int)] w fun e w' => e = .returned (.bool (decide (val (p.take (n + 1)) < val v * g))) ∧ Ext w w' := by
  have hmc := hA.nc
  have hcm := hA.cm
  have hmm : m ≤ 9223372036854775807 := by omega
  obtain ⟨ad, _, rfl, _⟩ := hA.at_ (k := 0) (by omega)
  go_enter Tryz.func156, Tryz.ntmps156
  go_wp2_with fail
  refine (rdigits_any g _ hg).mono ?_
  rintro e w1 ⟨v1, rfl, ⟨A1, n1, c1, rfl, hR⟩, hx1⟩
  have hn1 : n1 ≤ 100000 := by have := hR.len; have := digs64 hg; omega
  go_wp2_with fail
  refine (rtimes_any B A1 n n1 d c1 _ _ _ (hB.ext hx1) hR (by omega) hn1).mono ?_
  rintro e w2 ⟨v2, rfl, ⟨A2, n2, c2, rfl, hR2⟩, hx2⟩
  rw [val_digs] at hR2
  go_wp2_with fail
  have hx2 := hx1.trans hx2
  refine (rtrim_any (some ad) (n + 1) c (p.take (n + 1)) _ ((hA.ext hx2).take hm (by omega) hcm) (by omega)).mono ?_
  rintro e w3 ⟨v3, rfl, ⟨A3, n3, c3, rfl, hR3⟩, hx3⟩
  go_wp2_with fail
  refine (rcompare_any A3 A2 n3 n2 c3 c2 _ _ _ hR3 (hR2.ext hx3) (canon_digs _) (canon_digs _)).mono ?_
  rintro e w4 ⟨rfl, hx4⟩
  go_wp2
  go_ret
  refine ⟨ret_bool ?_, (hx2.trans hx3).trans hx4⟩
  rw [val_digs, val_digs, cmp_lt_iff]

/-- Writing digits over a part of a row, from j on. -/
def Over (U U' wl : List Nat) (j i : Nat) : Prop :=
  U'.length = U.length ∧ U'.take j = U.take j ∧ (∀ t, j + i ≤ t → U'[t]? = U[t]?) ∧ val U' + 4294967296 ^ j * val ((U.drop j).take i) = val U + 4294967296 ^ j * val (wl.take i)
theorem Over.start (U wl : List Nat) (j : Nat) : Over U U wl j 0 := ⟨rfl, rfl, fun _ _ => rfl, by simp⟩
theorem Over.step {U U' wl : List Nat} {j i x y : Nat} (h : Over U U' wl j i) (hx : U[j + i]? = some x) (hy : val (wl.take (i + 1)) = val (wl.take i) + 4294967296 ^ i * y) : Over U (U'.set (j + i) y) wl j (i + 1) := by
  obtain ⟨h1, h2, h3, h4⟩ := h
  refine ⟨by rw [List.length_set]; exact h1, ?_, fun t ht => ?_, ?_⟩
  · rw [List.take_set_of_le (by omega)]; exact h2
  · rw [List.getElem?_set_ne (by omega)]; exact h3 t (by omega)
  · have hx' : U'[j + i]? = some x := by rw [h3 _ (Nat.le_refl _)]; exact hx
    have h5 := val_set (y := y) hx'
    have hxd : (U.drop j)[i]? = some x := by rw [List.getElem?_drop]; exact hx
    rw [val_take_succ hxd, hy, Nat.mul_add, Nat.mul_add, ← Nat.mul_assoc, ← Nat.mul_assoc, ← Nat.pow_add]
    omega
theorem wl_next {wl : List Nat} {i : Nat} (h : wl.length ≤ i) : val (wl.take (i + 1)) = val (wl.take i) + 4294967296 ^ i * 0 := by rw [val_take_over h]; rfl

set_option maxRecDepth 100000 in
set_option maxHeartbeats 800000 in
theorem rtake_any (B : Option Addr) (gU j n m c d g : Nat) (U v : List Nat) (w : World) (hU : RowD w gU U) (hB : RM w B n d v) (hn : n ≤ 10000) (hm : n + 1 ≤ m) (hjm : j + m = U.length) (hmc : m ≤ c) (hcm : c ≤ 9223372036854775807) (hg : g < 18446744073709551616)
    (hle : val v * g ≤ val ((U.drop j).take (n + 1))) :
    Calls Tryz.prog 157 #[.slice (some ⟨gU, j, none⟩) m c, .slice B n d, .int .u64 (g : Int)] w fun e w' => e = .returned (.tuple #[]) ∧ ∃ U', RowD w' gU U' ∧ U'.length = U.length ∧ U'.take j = U.take j ∧ val U' + 4294967296 ^ j * (val v * g) = val U ∧ Only gU w w' := by
  have hsub := hU.sub hjm hmc hcm
  have hmm : m ≤ 9223372036854775807 := by omega
  have HLE := Lib.hid hle; clear hle
  go_enter Tryz.func157, Tryz.ntmps157
  go_wp2_with fail
  refine (rtrim_any (some ⟨gU, j, none⟩) (n + 1) c ((U.drop j).take (n + 1)) _ (hsub.take hm (by omega) hcm) (by omega)).mono ?_
  rintro e w1 ⟨v1, rfl, ⟨A1, n1, c1, rfl, hR1⟩, hx1⟩
  go_wp2_with fail
  refine (rdigits_any g _ hg).mono ?_
  rintro e w2 ⟨v2, rfl, ⟨A2, n2, c2, rfl, hR2⟩, hx2⟩
  have hn2 : n2 ≤ 100000 := by have := hR2.len; have := digs64 hg; omega
  have hx12 := hx2
  have hx2 := hx1.trans hx2
  go_wp2_with fail
  refine (rtimes_any B A2 n n2 d c2 _ _ _ (hB.ext hx2) hR2 (by omega) hn2).mono ?_
  rintro e w3 ⟨v3, rfl, ⟨A3, n3, c3, rfl, hR3⟩, hx3⟩
  rw [val_digs] at hR3
  have hx3' := hx2.trans hx3
  have hR1' := hR1.ext (hx12.trans hx3)
  have hl1 := hR1'.len
  have hl3 := hR3.len
  have hlen : n3 ≤ n1 := by
    have h1 := digs_len_le (n := val v * g) (k := n1) (Nat.lt_of_le_of_lt HLE.out (lt_of_digs_len (by omega)))
    omega
  have hn1 : n1 ≤ n + 1 := by
    have h1 := digs_len_le (val_take_lt hsub.dg (n + 1))
    omega
  go_wp2_with fail
  refine (rminus_fresh A1 A3 n1 n3 c1 c3 _ _ _ hR1' hR3 (by omega) hlen (by rw [val_digs, val_digs]; exact HLE.out)).mono ?_
  rintro e w4 ⟨v4, rfl, ⟨⟨A4, n4, c4, rfl, hR4⟩, hfr⟩, hx4⟩
  rw [val_digs, val_digs] at hR4
  have hx4 := hx3'.trans hx4
  have hgw := hU.1.lt
  have hne : ∀ ad, A4 = some ad → ad.block ≠ gU := fun ad e => by
    have := hfr ad.block (by rw [e]; rfl)
    have := hx3'.size
    omega
  have HNE := Lib.hid hne; clear hne hfr
  have hl4 := hR4.len
  have hlen4 : n4 ≤ n + 1 := by
    have h1 := digs_len_le (n := val ((U.drop j).take (n + 1)) - val v * g) (k := n + 1) (Nat.lt_of_le_of_lt (Nat.sub_le _ _) (val_take_lt hsub.dg (n + 1)))
    omega
  have hn4c : n4 ≤ 9223372036854775807 := by omega
  have HL4 := Lib.hid hl4
  have HJM := Lib.hid hjm
  have HU := Lib.hid (show RowD w4 gU U from hU.far hx4)
  clear hl1 hl3 hl4 hjm hU hsub
  obtain ⟨wl, hwl⟩ : ∃ wl, wl = digs (val ((U.drop j).take (n + 1)) - val v * g) := ⟨_, rfl⟩
  rw [← hwl] at hR4 HL4
  have HWL := Lib.hid hwl; clear hwl
  have hdig4 := hR4.dg
  have HR4 := Lib.hid hR4; clear hR4
  have hcm4 := HR4.out.cm
  go_wp2
  go_loopw [7] (fun iv wr => ∃ (i : Nat) (U' : List Nat), i ≤ n + 1 ∧ iv = .int .i64 i ∧ Over U U' wl j i ∧ RowD wr gU U' ∧ Only gU w4 wr) (fun iv _ => n + 1 - (intOf iv).toNat)
  case atStart => exact ⟨0, U, by omega, rfl, Over.start _ _ _, HU.out, Only.refl _ _⟩
  case round =>
    obtain ⟨i, U', hi, rfl, hov, hrow, hon⟩ := hrel
    have HOV := Lib.hid hov; clear hov
    by_cases hlt : i ≤ n
    · have hjl : j + i < U'.length := by rw [HOV.out.1, ← HJM.out]; omega
      obtain ⟨x', _, _, hcx, hfx⟩ := hrow.at_ hjl
      obtain ⟨x, hx⟩ : ∃ x, U[j + i]? = some x := ⟨_, List.getElem?_eq_getElem (by rw [← HJM.out]; omega)⟩
      have HX := Lib.hid hx; clear hx
      have HR := Lib.hid hrow; clear hrow
      have hcc : ∀ u, (wr.setCell ⟨gU, j + i, none⟩ u).cell? ⟨gU, j + i, none⟩ = some u := fun u => by
        have := (HR.out.1.setL (i := j + i) u).cell (j + i)
        rw [this]
        have hl : j + i < (mg U').length := by rw [mg_len]; exact hjl
        simp [hl]
      have hff : ∀ u, (wr.setCell ⟨gU, j + i, none⟩ u).frozen? ⟨gU, j + i, none⟩ = false := fun u => (HR.out.1.setL (i := j + i) u).frozen (j + i)
      clear hjl
      by_cases hl4 : i < n4
      · obtain ⟨b4, o4, hA4, _, hc4⟩ := HR4.out.rd.plain (by omega)
        have hb4 := HNE.out _ hA4
        subst hA4
        obtain ⟨ad', y, e1, _, hy, hy32, _⟩ := HR4.out.at_ hl4
        have hcy : ∀ u, (wr.setCell ⟨gU, j + i, none⟩ u).cell? ⟨b4, o4 + i, none⟩ = some (.int .u32 (y : Int)) := fun u => (hon.trans (Only.set _ _ _ _)).cell_ (hc4 i _ (mg_get hy)) hb4
        have HY := Lib.hid (val_take_succ hy); clear hy hc4 e1
        go_wp2
        go_roundw
        case rel =>
          refine ⟨i + 1, U'.set (j + i) y, by omega, by go_num, HOV.out.step HX.out HY.out, ?_, (hon.trans (Only.set _ _ _ _)).trans (Only.set _ _ _ _)⟩
          have h1 := (HR.out.set (k := j + i) (d := 0) (z := 0) rfl (by omega)).set (k := j + i) (d := y) rfl hy32
          rwa [List.set_set] at h1
        case measure => simp [intOf] <;> omega
      · go_wp2
        go_roundw
        case rel =>
          refine ⟨i + 1, U'.set (j + i) 0, by omega, by go_num, HOV.out.step HX.out (wl_next (by rw [HL4.out]; omega)), ?_, hon.trans (Only.set _ _ _ _)⟩
          exact HR.out.set (k := j + i) (d := 0) (z := 0) rfl (by omega)
        case measure => simp [intOf] <;> omega
    · obtain rfl : i = n + 1 := by omega
      go_wp2
      go_end0
      refine ⟨rfl, U', hrow, HOV.out.1, HOV.out.2.1, ?_, (Only.of_ext hx4).trans hon⟩
      have h1 := HOV.out.2.2.2
      rw [List.take_of_length_le (l := wl) (by rw [HL4.out]; omega), HWL.out, val_digs] at h1
      have h2 := HLE.out
      have h3 : 4294967296 ^ j * val ((U.drop j).take (n + 1)) = 4294967296 ^ j * (val ((U.drop j).take (n + 1)) - val v * g) + 4294967296 ^ j * (val v * g) := by
        rw [← Nat.mul_add, Nat.sub_add_cancel h2]
      omega
end Go.Proofs.YtclkkoiaaddllaaGreat

/- Contracts: the reference's division of digits. -/
namespace Go.Proofs.YtclkkoiaaddllaaGreat
open Go.RowKit
set_option linter.unusedVariables false

theorem le_of_digs {a n : Nat} (h : (digs a).length = n) (h0 : n ≠ 0) : 4294967296 ^ (n - 1) ≤ a := by
  have := val_ge (canon_digs a) (by intro e; rw [e] at h; simp at h; omega)
  rwa [val_digs, h] at this

set_option maxRecDepth 100000 in
set_option maxHeartbeats 800000 in
theorem rdivide_lt (A B : Option Addr) (n m c d a b : Nat) (w : World) (hA : RM w A n c (digs a)) (hB : RM w B m d (digs b)) (hab : a < b) :
    Calls Tryz.prog 138 #[.slice A n c, .slice B m d] w fun e w' => ∃ q r, e = .returned (.tuple #[q, r]) ∧ SlM (digs (a / b)) q w' ∧ SlM (digs (a % b)) r w' ∧ Ext w w' := by
  have hcm : decide (cmpN a b < 0) = true := by rw [cmp_lt_iff]; exact decide_eq_true hab
  go_enter Tryz.func138, Tryz.ntmps138
  go_wp2_with fail
  refine (rcompare_any A B n m c d _ _ _ hA hB (canon_digs _) (canon_digs _)).mono ?_
  rintro e w1 ⟨rfl, hx1⟩
  rw [val_digs, val_digs]
  go_wp2
  go_ret2
  refine ⟨_, _, rfl, ⟨none, 0, 0, rfl, ?_⟩, ⟨A, n, c, rfl, ?_⟩, hx1⟩
  · rw [Nat.div_eq_of_lt hab, digs_zero]; exact RM.nil
  · rw [Nat.mod_eq_of_lt hab]; exact hA.ext hx1

set_option maxRecDepth 100000 in
set_option maxHeartbeats 800000 in
theorem rdivide_one (A B : Option Addr) (n c d a b : Nat) (w : World) (hA : RM w A n c (digs a)) (hB : RM w B 1 d (digs b)) (hab : b ≤ a) (hn : n ≤ 1000000) :
    Calls Tryz.prog 138 #[.slice A n c, .slice B 1 d] w fun e w' => ∃ q r, e = .returned (.tuple #[q, r]) ∧ SlM (digs (a / b)) q w' ∧ SlM (digs (a % b)) r w' ∧ Ext w w' := by
  have hcm : decide (cmpN a b < 0) = false := by rw [cmp_lt_iff]; exact decide_eq_false (by omega)
  obtain ⟨ad, x, rfl, _, hx, hx32, hcx⟩ := hB.at_ (k := 0) (by omega)
  have hl := hB.len
  have hbx : digs b = [x] := by
    match hd : digs b, hl, hx with
    | [y], _, h => simp at h; rw [h]
  have hb : b = x := by rw [← val_digs b, hbx]; simp [val]
  subst hb
  have hb0 : 0 < b := by
    rcases Nat.eq_zero_or_pos b with h | h
    · subst h; rw [digs_zero] at hl; simp at hl
    · exact h
  have HC := Lib.hid hcx; clear hcx hx hl hbx
  go_enter Tryz.func138, Tryz.ntmps138
  go_wp2_with fail
  refine (rcompare_any A (some ad) n 1 c d _ _ _ hA hB (canon_digs _) (canon_digs _)).mono ?_
  rintro e w1 ⟨rfl, hx1⟩
  rw [val_digs, val_digs]
  have hc1 : w1.cell? ad = some (.int .u32 (b : Int)) := hx1.cell_ HC.out
  go_wp2_with fail
  refine (rshort_any A n c b _ _ (hA.ext hx1) hn hb0 hx32).mono ?_
  rintro e w2 ⟨v2, rfl, hR2, hx2⟩
  rw [val_digs] at hR2
  rw [val_digs]
  have hmod : a % b < 4294967296 := Nat.lt_trans (Nat.mod_lt _ hb0) hx32
  generalize hr : a % b = r at *
  have HRR := Lib.hid hr; clear hr
  go_wp2_with fail
  refine (rtrim_any _ 1 1 [r] _ (RM.blk (Blk.new _ _ _) (Dig.one hmod) rfl (by omega)) (by omega)).mono ?_
  rintro e w3 ⟨v3, rfl, hR3, hx3⟩
  have hR2' := hR2.ext ((Ext.new w2 _).trans hx3)
  go_wp2
  go_ret2
  refine ⟨_, _, rfl, hR2', by rw [HRR.out]; simpa [val] using hR3, (hx1.trans hx2).trans ((Ext.new w2 _).trans hx3)⟩

theorem and31n {y : Nat} (h : y < 4294967296) : y &&& 2147483648 = 0 ↔ y < 2147483648 := by
  have hb : y.testBit 31 = decide (y / 2 ^ 31 % 2 = 1) := Nat.testBit_eq_decide_div_mod_eq
  constructor
  · intro h0
    have h1 : (y &&& 2 ^ 31).testBit 31 = false := by rw [show y &&& 2 ^ 31 = 0 from h0]; simp
    rw [Nat.testBit_and, Nat.testBit_two_pow_self, Bool.and_true, hb, decide_eq_false_iff_not] at h1
    omega
  · intro h0
    have h1 : y.testBit 31 = false := by rw [hb, decide_eq_false_iff_not]; omega
    refine Nat.eq_of_testBit_eq fun i => ?_
    rw [show (2147483648 : Nat) = 2 ^ 31 from rfl, Nat.testBit_and, Nat.testBit_two_pow]
    by_cases hi : 31 = i
    · subst hi; simp [h1]
    · simp [hi]
theorem and31 {y : Nat} (h : y < 4294967296) : (bits .and .u32 (y : Int) 2147483648 == 0) = decide (y < 2147483648) := by
  have e : bits .and .u32 (y : Int) ((2147483648 : Nat) : Int) = ((y &&& 2147483648 : Nat) : Int) :=
    (bits_nat .u32 32 (by decide) wraps_u32 y 2147483648 (by omega) (by omega)).1
  rw [show (2147483648 : Int) = ((2147483648 : Nat) : Int) from rfl, e]
  have h1 := and31n h
  generalize y &&& 2147483648 = z at h1
  by_cases hy : y < 2147483648
  · rw [h1.2 hy, decide_eq_true hy]; rfl
  · rw [decide_eq_false hy]
    have : z ≠ 0 := fun e => hy (h1.1 e)
    simp; exact this

/-! A divisor of two or more digits. -/
/-- What the shift does: its number, the shifted divisor. -/
structure Norm (b n s : Nat) (x : Nat) : Prop where
  len : (digs b).length = n + 2
  top : (digs b)[n + 1]? = some x
  lo : 2147483648 ≤ x * 2 ^ s
  hi : x * 2 ^ s < 4294967296
  hs : s < 32
theorem Norm.lt {b n s x : Nat} (h : Norm b n s x) : b * 2 ^ s < 4294967296 ^ (n + 2) := by
  have h1 := val_take_succ h.top
  rw [val_take_all (by rw [h.len]; omega), val_digs] at h1
  have h2 := val_take_lt (dig_digs b) (n + 1)
  have h3 : x * 2 ^ s + 2 ^ s ≤ 4294967296 := by
    have e := pow32 (show s ≤ 32 by have := h.hs; omega)
    have h4 := h.hi
    rw [← e, Nat.mul_comm x] at h4
    have h5 := Nat.lt_of_mul_lt_mul_left h4
    have h6 : 2 ^ s * (x + 1) ≤ 2 ^ s * 2 ^ (32 - s) := Nat.mul_le_mul_left _ h5
    rw [e, Nat.mul_add, Nat.mul_one, Nat.mul_comm] at h6
    exact h6
  have h4 : b * 2 ^ s < 4294967296 ^ (n + 1) * (x + 1) * 2 ^ s := by
    refine Nat.mul_lt_mul_of_pos_right ?_ (Nat.pow_pos (by omega))
    rw [Nat.mul_add, Nat.mul_one]; omega
  have h5 : 4294967296 ^ (n + 1) * (x + 1) * 2 ^ s = 4294967296 ^ (n + 1) * (x * 2 ^ s + 2 ^ s) := by rw [Nat.mul_assoc, Nat.add_mul, Nat.one_mul]
  have h6 : 4294967296 ^ (n + 1) * (x * 2 ^ s + 2 ^ s) ≤ 4294967296 ^ (n + 1) * 4294967296 := Nat.mul_le_mul_left _ h3
  rw [show n + 2 = (n + 1) + 1 from rfl, Nat.pow_succ]
  omega
theorem Norm.ge {b n s x : Nat} (h : Norm b n s x) : 2147483648 * 4294967296 ^ (n + 1) ≤ b * 2 ^ s := by
  have h1 := val_take_succ h.top
  rw [val_take_all (by rw [h.len]; omega), val_digs] at h1
  have h2 : 4294967296 ^ (n + 1) * x * 2 ^ s ≤ b * 2 ^ s := Nat.mul_le_mul_right _ (by omega)
  have h3 : 4294967296 ^ (n + 1) * 2147483648 ≤ 4294967296 ^ (n + 1) * (x * 2 ^ s) := Nat.mul_le_mul_left _ h.lo
  rw [← Nat.mul_assoc] at h3
  omega
/-- The shifted divisor's digits. -/
theorem Norm.digits {b n s x : Nat} {q : List Nat} (h : Norm b n s x) (hq : q.length = n + 3) (hd : Dig q) (hv : val q = b * 2 ^ s) : val (q.take (n + 2)) = b * 2 ^ s ∧ ∃ v1 v0, (q.take (n + 2))[n + 1]? = some v1 ∧ (q.take (n + 2))[n]? = some v0 ∧ 2147483648 ≤ v1 := by
  have h1 := val_split q (n + 2) (by omega)
  have h2 := h.lt
  have h3 : val (q.drop (n + 2)) = 0 := by
    rcases Nat.eq_zero_or_pos (val (q.drop (n + 2))) with h0 | h0
    · exact h0
    · have : 4294967296 ^ (n + 2) * 1 ≤ 4294967296 ^ (n + 2) * val (q.drop (n + 2)) := Nat.mul_le_mul_left _ h0
      omega
  have h4 : val (q.take (n + 2)) = b * 2 ^ s := by rw [h3] at h1; omega
  have hlen : (q.take (n + 2)).length = n + 2 := by rw [List.length_take]; omega
  refine ⟨h4, _, _, List.getElem?_eq_getElem (by omega), List.getElem?_eq_getElem (by omega), ?_⟩
  have h5 : (q.take (n + 2))[n + 1]? = some (q.take (n + 2))[n + 1] := List.getElem?_eq_getElem (by omega)
  have h6 := val_take_succ h5
  rw [val_take_all (by omega), h4] at h6
  have h7 := val_take_lt (hd.take (n + 2)) (n + 1)
  have h8 := h.ge
  generalize (q.take (n + 2))[n + 1] = v1 at *
  rcases Nat.lt_or_ge v1 2147483648 with hc | hc
  · exfalso
    have : 4294967296 ^ (n + 1) * (v1 + 1) ≤ 4294967296 ^ (n + 1) * 2147483648 := Nat.mul_le_mul_left _ hc
    rw [Nat.mul_add, Nat.mul_one] at this
    omega
  · exact hc
end Go.Proofs.YtclkkoiaaddllaaGreat

/- Long division: the loop over the digits of the quotient, plain mathematics; the reference's walk. -/
namespace Go.Proofs.YtclkkoiaaddllaaGreat
open Go.RowKit
set_option linter.unusedVariables false

/-- The digits of the quotient from k on are qs; U holds what is left. -/
def DivInv (U qs : List Nat) (N V k : Nat) : Prop := val U + V * (4294967296 ^ k * val qs) = N ∧ val (U.drop k) < V
theorem div_seg {U : List Nat} {j x V : Nat} (hd : Dig U) (hx : U[j]? = some x) (h : val (U.drop (j + 1)) < V) : val (U.drop j) < 4294967296 * V := by
  rw [val_drop hx]
  have := hd.at_ hx
  have h1 : 4294967296 * (val (U.drop (j + 1)) + 1) ≤ 4294967296 * V := Nat.mul_le_mul_left _ h
  omega
theorem DivInv.step {U U' qs : List Nat} {N V j q : Nat} (h : DivInv U qs N V (j + 1)) (hj : j ≤ U.length) (hl : U'.length = U.length) (ht : U'.take j = U.take j) (hv : val U' + 4294967296 ^ j * (V * q) = val U) (hq : q = val (U.drop j) / V) (hV : 0 < V) : DivInv U' (q :: qs) N V j := by
  have e1 := val_split U j hj
  have e2 := val_split U' j (by omega)
  rw [ht] at e2
  have e3 : 4294967296 ^ j * (val (U'.drop j) + V * q) = 4294967296 ^ j * val (U.drop j) := by rw [Nat.mul_add]; omega
  have e4 := Nat.eq_of_mul_eq_mul_left (Nat.pow_pos (by omega)) e3
  refine ⟨?_, ?_⟩
  · rw [← h.1, ← hv, val, Nat.mul_add, Nat.mul_add, Nat.pow_succ]
    have a1 : V * (4294967296 ^ j * q) = 4294967296 ^ j * (V * q) := Nat.mul_left_comm _ _ _
    have a2 : V * (4294967296 ^ j * (4294967296 * val qs)) = V * (4294967296 ^ j * 4294967296 * val qs) := by rw [Nat.mul_assoc (4294967296 ^ j)]
    omega
  · have h1 := Nat.div_add_mod (val (U.drop j)) V
    have h2 := Nat.mod_lt (val (U.drop j)) hV
    rw [← hq] at h1
    omega
theorem DivInv.start {U : List Nat} {N V k : Nat} (h : val U = N) (hk : val (U.drop k) < V) : DivInv U [] N V k := ⟨by simp [val, h], hk⟩
theorem DivInv.done {U qs : List Nat} {N V : Nat} (h : DivInv U qs N V 0) : val qs = N / V ∧ val U = N % V := by
  obtain ⟨h1, h2⟩ := h
  simp only [Nat.pow_zero, Nat.one_mul, List.drop_zero] at h1 h2
  have hV : 0 < V := by omega
  rw [← h1]
  constructor
  · rw [Nat.add_comm, Nat.mul_add_div hV, Nat.div_eq_of_lt h2, Nat.add_zero]
  · rw [Nat.add_comm, Nat.mul_add_mod, Nat.mod_eq_of_lt h2]
theorem tops_of {U v : List Nat} {j n v1 v0 : Nat} (hU : Dig U) (hv : Dig v) (hlen : j + n + 3 ≤ U.length) (hvl : v.length = n + 2) (h1 : v[n + 1]? = some v1) (h0 : v[n]? = some v0) (ht : 2147483648 ≤ v1) (hlt : val (U.drop (j + 1)) < val v) :
    ∃ u2 u1 u0, U[j + n + 2]? = some u2 ∧ U[j + n + 1]? = some u1 ∧ U[j + n]? = some u0 ∧ Tops (val (U.drop j)) (val v) (4294967296 ^ n) u2 u1 u0 v1 v0 := by
  have e2 : U[j + n + 2]? = some U[j + n + 2] := List.getElem?_eq_getElem (by omega)
  have e1 : U[j + n + 1]? = some U[j + n + 1] := List.getElem?_eq_getElem (by omega)
  have e0 : U[j + n]? = some U[j + n] := List.getElem?_eq_getElem (by omega)
  have ej : U[j]? = some U[j] := List.getElem?_eq_getElem (by omega)
  have hS := div_seg hU ej hlt
  have hV := val_lt hv
  rw [hvl] at hV
  have hS2 : val (U.drop j) < 4294967296 ^ (n + 3) := by
    rw [show n + 3 = (n + 2) + 1 from rfl, Nat.pow_succ, Nat.mul_comm]
    have : 4294967296 * val v ≤ 4294967296 * 4294967296 ^ (n + 2) := Nat.mul_le_mul_left _ (Nat.le_of_lt hV)
    omega
  refine ⟨_, _, _, e2, e1, e0, Nat.pow_pos (by omega), ?_, ?_, ht, hv.at_ h1, hv.at_ h0, hU.at_ e2, hU.at_ e1, hU.at_ e0, hS⟩
  · exact top3 (hU.drop j) hS2 (by rw [List.getElem?_drop]; exact e2) (by rw [List.getElem?_drop]; exact e1) (by rw [List.getElem?_drop]; exact e0)
  · exact top2 hv hvl h1 h0
theorem div_cancel {a b s : Nat} : a * 2 ^ s / (b * 2 ^ s) = a / b := Nat.mul_div_mul_right _ _ (Nat.pow_pos (by omega))
theorem mod_cancel {a b s : Nat} : a * 2 ^ s % (b * 2 ^ s) = a % b * 2 ^ s := Nat.mul_mod_mul_right _ _ _
theorem val_cut {U : List Nat} {n : Nat} (hd : Dig U) (hn : n ≤ U.length) (h : val U < 4294967296 ^ n) : val (U.take n) = val U := by
  have h1 := val_split U n hn
  have h3 : val (U.drop n) = 0 := by
    rcases Nat.eq_zero_or_pos (val (U.drop n)) with h0 | h0
    · exact h0
    · have : 4294967296 ^ n * 1 ≤ 4294967296 ^ n * val (U.drop n) := Nat.mul_le_mul_left _ h0
      omega
  rw [h3] at h1; omega
end Go.Proofs.YtclkkoiaaddllaaGreat
