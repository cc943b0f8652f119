/- Contract: the reference's shift to the right. -/
import Derived.Test.YtfdpbcjcinchgaaDoorIo
namespace Go.Proofs.YtfdpbcjcinchgaaDoor
open Go.RowKit
set_option linter.unusedVariables false

/-- The digit behind another one, 0 at the end. -/
theorem val_two_at {p : List Nat} {k x : Nat} (hd : Dig p) (hx : p[k]? = some x) : ∃ Y, val p / 4294967296 ^ k = x + 4294967296 * p.getD (k + 1) 0 + 4294967296 * (4294967296 * Y) := by
  have hk : k < p.length := (List.getElem?_eq_some_iff.1 hx).1
  have h1 := val_split p k (by omega)
  have h2 := val_lt (hd.take k)
  rw [List.length_take, Nat.min_eq_left (by omega)] at h2
  have h3 : val p / 4294967296 ^ k = val (p.drop k) := by
    rw [h1, Nat.add_comm, Nat.mul_add_div (Nat.pow_pos (by omega)), Nat.div_eq_of_lt h2, Nat.add_zero]
  rw [h3, val_drop hx]
  by_cases hk1 : k + 1 < p.length
  · have hy : p[k + 1]? = some p[k + 1] := List.getElem?_eq_getElem hk1
    rw [val_drop hy, getD_of hy]
    exact ⟨val (p.drop (k + 1 + 1)), by omega⟩
  · rw [List.drop_eq_nil_of_le (by omega)]
    refine ⟨0, ?_⟩
    have : p.getD (k + 1) 0 = 0 := by simp [List.getD, List.getElem?_eq_none (Nat.not_lt.1 hk1)]
    rw [this]; simp [val]
theorem rb_digit {p : List Nat} {k x s : Nat} (hd : Dig p) (hs : s ≤ 32) (hx : p[k]? = some x) : val p / 2 ^ s / 4294967296 ^ k % 4294967296 = (x + 4294967296 * p.getD (k + 1) 0) / 2 ^ s % 4294967296 := by
  obtain ⟨Y, hY⟩ := val_two_at hd hx
  rw [Nat.div_div_eq_div_mul, Nat.mul_comm, ← Nat.div_div_eq_div_mul, hY]
  have e : 4294967296 * (4294967296 * Y) = 2 ^ s * (4294967296 * (2 ^ (32 - s) * Y)) := by
    rw [Nat.mul_left_comm (2 ^ s), ← Nat.mul_assoc (2 ^ s), pow32 hs]
  rw [e, Nat.add_mul_div_left _ _ (Nat.pow_pos (by omega)), Nat.add_mul_mod_self_left]
theorem rb_step {o p : List Nat} {k x s : Nat} (hd : Dig p) (hs : s ≤ 32) (ho : o.length = k) (hx : p[k]? = some x) (h : val o = val p / 2 ^ s % 4294967296 ^ k) :
    val (o ++ [(x + 4294967296 * p.getD (k + 1) 0) / 2 ^ s % 4294967296]) = val p / 2 ^ s % 4294967296 ^ (k + 1) := by
  rw [val_snoc, ho, h, ← rb_digit hd hs hx, Nat.mod_pow_succ]

theorem rb_int (t s : Nat) : (t : Int) / 2 ^ s % 4294967296 = ((t / 2 ^ s % 4294967296 : Nat) : Int) := by
  have e : (t : Int) / 2 ^ s = ((t / 2 ^ s : Nat) : Int) := by rw [Int.natCast_ediv, Int.natCast_pow]; rfl
  rw [e]; rfl

set_option maxRecDepth 100000 in
set_option maxHeartbeats 800000 in
theorem rback_any (A : Option Addr) (n c s : Nat) (p : List Nat) (w : World) (h : RM w A n c p) (hn : n ≤ 1000000) (hs : s < 32) :
    Calls Tryd.prog 76 #[.slice A n c, .int .i64 (s : Int)] w fun e w' => ∃ v, e = .returned v ∧ SlM (digs (val p / 2 ^ s)) v w' ∧ Ext w w' := by
  have HL := Lib.hid h.len
  have hmk := make_u32 (n : Int) n rfl (by omega)
  go_enter Tryd.func76, Tryd.ntmps76
  go_wp2
  clear hmk
  go_loopw [6] (fun i wr => ∃ (k : Nat) (o : List Nat), k ≤ n ∧ i = .int .i64 k ∧ o.length = k ∧ val o = val p / 2 ^ s % 4294967296 ^ k ∧ RowD wr w.heap.size (o ++ List.replicate (n - k) 0) ∧ Ext w wr) (fun i _ => n - (intOf i).toNat)
  case atStart => exact ⟨0, [], Nat.zero_le _, rfl, rfl, by simp [val, Nat.mod_one], ⟨by simpa using Blk.new w _ _, by simpa using Dig.replicate n⟩, Ext.new _ _⟩
  case round =>
    obtain ⟨k, o, hk, rfl, ho, hv, hrow, hex⟩ := hrel
    have HV := Lib.hid hv; clear hv
    have HO := Lib.hid ho; clear ho
    by_cases hlt : k < n
    · obtain ⟨ad, x, rfl, _, hx, hx32, hcx⟩ := (h.ext hex).at_ hlt
      have HX := Lib.hid hx; clear hx
      obtain ⟨z, _, _, hcz, hfz⟩ := hrow.at_ (k := k) (by simp [HO.out]; omega)
      have HR := Lib.hid hrow; clear hrow
      have hfin : ∀ y t : Nat, p.getD (k + 1) 0 = y → t = x + 4294967296 * y → val (o ++ [t / 2 ^ s % 4294967296]) = val p / 2 ^ s % 4294967296 ^ (k + 1) := fun y t h1 h2 => by
        rw [h2, ← h1]; exact rb_step h.dg (by omega) HO.out HX.out HV.out
      have HF := Lib.hid hfin; clear hfin
      by_cases hl1 : k + 1 < n
      · obtain ⟨ad', y, e1, _, hy, hy32, hcy⟩ := (h.ext hex).at_ hl1
        cases e1
        have hcy' : wr.cell? ⟨ad.block, ad.off + (k + 1), none⟩ = some (.int .u32 (y : Int)) := by simpa [Addr.add] using hcy
        have HF2 := Lib.hid (HF.out y _ (getD_of hy) rfl); clear HF hy
        obtain ⟨t, ht⟩ : ∃ t, t = x + 4294967296 * y := ⟨_, rfl⟩
        have e1 : bits .or .u64 (x : Int) ((y : Int) * 4294967296) = (t : Int) := by rw [or_lo hx32 hy32, ht]
        have htb : t < 18446744073709551616 := by omega
        rw [← ht] at HF2
        clear ht
        go_wp2
        go_roundw
        case rel =>
          refine ⟨k + 1, o ++ [t / 2 ^ s % 4294967296], by omega, by go_num, by simp [HO.out], HF2.out, ?_, hex.setCell (Nat.le_refl _) _⟩
          have h1 := HR.out.set (k := k) (rb_int t s) (Nat.mod_lt _ (by omega))
          rwa [set_next HO.out hlt] at h1
        case measure => simp [intOf] <;> omega
      · have HF2 := Lib.hid (HF.out 0 x (by simp [List.getD, List.getElem?_eq_none (show p.length ≤ k + 1 by rw [HL.out]; omega)]) (by omega)); clear HF
        go_wp2
        go_roundw
        case rel =>
          refine ⟨k + 1, o ++ [x / 2 ^ s % 4294967296], by omega, by go_num, by simp [HO.out], HF2.out, ?_, hex.setCell (Nat.le_refl _) _⟩
          have h1 := HR.out.set (k := k) (rb_int x s) (Nat.mod_lt _ (by omega))
          rwa [set_next HO.out hlt] at h1
        case measure => simp [intOf] <;> omega
    · obtain rfl : k = n := by omega
      simp only [Nat.sub_self, List.replicate_zero, List.append_nil] at hrow
      go_wp2_with fail
      refine (rtrim_any _ _ _ o _ (hrow.rm HO.out (by omega)) hn).mono ?_
      rintro e w1 ⟨v1, rfl, hR, hx1⟩
      have hlt2 : val p / 2 ^ s < 4294967296 ^ k := by
        have := val_lt h.dg
        rw [HL.out] at this
        exact Nat.lt_of_le_of_lt (Nat.div_le_self _ _) this
      rw [HV.out, Nat.mod_eq_of_lt hlt2] at hR
      go_wp2
      go_ret
      exact ⟨_, rfl, hR, hex.trans hx1⟩
end Go.Proofs.YtfdpbcjcinchgaaDoor
