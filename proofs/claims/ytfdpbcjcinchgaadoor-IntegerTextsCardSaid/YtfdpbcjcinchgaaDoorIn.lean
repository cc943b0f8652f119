/- Contracts: division by one digit. -/
import Derived.Test.YtfdpbcjcinchgaaDoorIm
namespace Go.Proofs.YtfdpbcjcinchgaaDoor
open Go.RowKit
set_option linter.unusedVariables false

/-- Digits at the head of a block, and what lies behind them. -/
def RowX (w : World) (g : Nat) (p : List Nat) (r : List Value) : Prop := Blk w g 34 (mg p ++ r).toArray ∧ Dig p
section
variable {w w' : World} {g k d n c : Nat} {p : List Nat} {r : List Value} {z : Int}
theorem RowX.at_ (h : RowX w g p r) (hk : k < p.length) : ∃ z, p[k]? = some z ∧ z < 4294967296 ∧ w.cell? ⟨g, k, none⟩ = some (.int .u32 (z : Int)) ∧ w.frozen? ⟨g, k, none⟩ = false := by
  have h1 : p[k]? = some p[k] := List.getElem?_eq_getElem hk
  refine ⟨p[k], h1, h.2.at_ h1, ?_, h.1.frozen k⟩
  rw [h.1.cell]
  have := mg_get h1
  rw [List.getElem?_toArray, List.getElem?_append_left (by rw [mg_len]; exact hk)]
  exact this
theorem RowX.set (h : RowX w g p r) (hk : k < p.length) (hz : z = (d : Int)) (hd : d < 4294967296) : RowX (w.setCell ⟨g, k, none⟩ (.int .u32 z)) g (p.set k d) r := by
  have := h.1.setL (i := k) (.int .u32 z)
  rw [List.set_append_left _ _ (by rw [mg_len]; exact hk), mg_set' hz] at this
  exact ⟨this, h.2.set k hd⟩
theorem RowX.rm (h : RowX w g p r) (hn : p.length = n) (hc : n ≤ c) (hm : c ≤ 9223372036854775807) : RM w (some ⟨g, 0, none⟩) n c p := by
  refine ⟨⟨by rw [mg_len]; omega, fun _ => ⟨_, rfl, h.1.lt, fun j u hu => ?_⟩⟩, h.2, hc, hm⟩
  rw [add_head, h.1.cell, List.getElem?_toArray, List.getElem?_append_left]
  · exact hu
  · exact (List.getElem?_eq_some_iff.1 hu).1
theorem RowX.ext (h : RowX w g p r) (e : Ext w w') : RowX w' g p r := ⟨h.1.ext e, h.2⟩
theorem RowX.head (h : RowX w g p r) (k : Nat) : RowX w g (p.take k) (mg (p.drop k) ++ r) := by
  refine ⟨?_, h.2.take k⟩
  rw [← List.append_assoc, ← mg_append, List.take_append_drop]
  exact h.1
theorem RowX.of_own {base : Nat} {v : Value} (h : w.ownsRow base 34 1 v n (mg p)) (hd : Dig p) : (v = .slice none 0 0 ∧ n = 0 ∧ p = []) ∨ ∃ g cap r, v = .slice (some ⟨g, 0, none⟩) n cap ∧ base ≤ g ∧ RowX w g p r ∧ n ≤ cap ∧ cap ≤ 9223372036854775807 := by
  rcases h.2 with ⟨h1, h2⟩ | ⟨g, cap, cur, h1, h2, h3, h4, h5, h6, h7⟩
  · refine .inl ⟨h1, h2, ?_⟩
    have := h.1
    rw [mg_len, h2] at this
    exact List.eq_nil_of_length_eq_zero (by omega)
  · refine .inr ⟨g, cap, cur.toList.drop n, h1, h2, ⟨?_, hd⟩, h4, h5⟩
    rw [← h7, Nat.mul_one, List.take_append_drop]
    exact h3
end

theorem dw_list {p q : List Nat} {j y : Nat} (hj : j < p.length) : (p.take (j + 1) ++ q).set j y = p.take j ++ (y :: q) := by
  rw [List.take_succ_eq_append_getElem hj, List.append_assoc, List.set_append_right _ _ (by simp; omega)]
  simp [Nat.min_eq_left (Nat.le_of_lt hj)]
theorem dw_step {p q : List Nat} {j x d rest nn : Nat} (hx : p[j]? = some x) (hn : nn = x + 4294967296 * rest) (h : val (p.drop (j + 1)) = d * val q + rest) : val (p.drop j) = d * val (nn / d :: q) + nn % d := by
  rw [val_drop hx, h, val, Nat.mul_add, Nat.mul_add]
  have h1 := Nat.div_add_mod nn d
  have h2 : d * (4294967296 * val q) = 4294967296 * (d * val q) := Nat.mul_left_comm _ _ _
  omega
theorem dw_lt {x d rest nn : Nat} (hx : x < 4294967296) (hr : rest < d) (hn : nn = x + 4294967296 * rest) : nn / d < 4294967296 := by
  rw [Nat.div_lt_iff_lt_mul (by omega)]
  have : 4294967296 * (rest + 1) ≤ 4294967296 * d := Nat.mul_le_mul_left _ hr
  omega

set_option maxRecDepth 100000 in
set_option maxHeartbeats 800000 in
theorem divWord_any (g n c d : Nat) (p : List Nat) (r : List Value) (w : World) (h : RowX w g p r) (hl : p.length = n) (hn : n ≤ 1000000) (hd0 : 0 < d) (hd : d < 4294967296) :
    Calls Tryd.prog 54 #[.slice (some ⟨g, 0, none⟩) n c, .int .u32 (d : Int)] w fun e w' => e = .returned (.int .u32 ((val p % d : Nat) : Int)) ∧ ∃ q, RowX w' g q r ∧ q.length = n ∧ val q = val p / d ∧ Only g w w' := by
  have HL := Lib.hid hl; clear hl
  go_enter Tryd.func54, Tryd.ntmps54
  go_wp2
  go_loopw [5, 6] (fun rv i wr => ∃ (k rest : Nat) (q : List Nat), k ≤ n ∧ i = .int .i64 ((k : Int) - 1) ∧ rv = .int .u64 (rest : Int) ∧ rest < d ∧ k + q.length = n ∧ val (p.drop k) = d * val q + rest ∧ RowX wr g (p.take k ++ q) r ∧ Only g w wr) (fun _ i _ => (intOf i + 1).toNat)
  case atStart => exact ⟨n, 0, [], Nat.le_refl _, rfl, rfl, hd0, rfl, by rw [List.drop_eq_nil_of_le (by rw [HL.out]; omega)]; simp [val], by rw [List.take_of_length_le (by rw [HL.out]; omega)]; simpa using h, Only.refl _ _⟩
  case round =>
    obtain ⟨k, rest, q, hk, rfl, rfl, hr, hq, hv, hrow, hon⟩ := hrel
    have HV := Lib.hid hv; clear hv
    have HQ := Lib.hid hq; clear hq
    by_cases h0 : k = 0
    · subst h0
      go_wp2
      go_ret
      have hv := HV.out
      simp only [List.drop_zero] at hv
      refine ⟨ret_int ?_, q, by simpa using hrow, by have := HQ.out; omega, ?_, hon⟩
      · rw [hv, Nat.mul_add_mod, Nat.mod_eq_of_lt hr]
      · rw [hv, Nat.mul_add_div hd0, Nat.div_eq_of_lt hr, Nat.add_zero]
    · obtain ⟨j, rfl⟩ : ∃ j, k = j + 1 := ⟨k - 1, by omega⟩
      have hjl : j < (p.take (j + 1) ++ q).length := by rw [List.length_append, List.length_take, HL.out]; omega
      obtain ⟨x, hx, hx32, hcx, hfx⟩ := hrow.at_ hjl
      have hxp : p[j]? = some x := by
        rw [List.getElem?_append_left (by rw [List.length_take, HL.out]; omega), List.getElem?_take_of_lt (by omega)] at hx
        exact hx
      clear hx
      have HX := Lib.hid hxp; clear hxp
      have HR := Lib.hid hrow; clear hrow
      have HJ := Lib.hid hjl; clear hjl
      obtain ⟨nn, hnn⟩ : ∃ nn, nn = x + 4294967296 * rest := ⟨_, rfl⟩
      have hnb : nn < 18446744073709551616 := by omega
      have e1 : bits .or .u64 ((rest : Int) * 4294967296) (x : Int) = (nn : Int) := by rw [or_hi (by omega) hx32, hnn]
      have hq1 : nn / d < 4294967296 := dw_lt hx32 hr hnn
      have hq2 : (nn : Int) / (d : Int) < 4294967296 := by rw [← Int.natCast_ediv]; omega
      have hq3 : (0 : Int) ≤ (nn : Int) / (d : Int) := Int.ediv_nonneg (by omega) (by omega)
      have HN := Lib.hid hnn; clear hnn
      go_wp2
      go_roundw
      case rel =>
        refine ⟨j, nn % d, nn / d :: q, by omega, by go_num, rfl, Nat.mod_lt _ hd0, by have := HQ.out; simp; omega, dw_step HX.out HN.out HV.out, ?_, hon.trans (Only.set _ _ _ _)⟩
        have := HR.out.set (d := nn / d) HJ.out rfl hq1
        rwa [dw_list (by rw [HL.out]; omega)] at this
      case measure => simp [intOf] <;> omega

theorem sh_list {q : List Nat} {j y : Nat} : (List.replicate (j + 1) 0 ++ q).set j y = List.replicate j 0 ++ (y :: q) := by
  rw [List.replicate_succ', List.append_assoc, List.set_append_right _ _ (by simp)]
  simp

set_option maxRecDepth 100000 in
set_option maxHeartbeats 800000 in
theorem rshort_any (A : Option Addr) (n c d : Nat) (p : List Nat) (w : World) (h : RM w A n c p) (hn : n ≤ 1000000) (hd0 : 0 < d) (hd : d < 4294967296) :
    Calls Tryd.prog 61 #[.slice A n c, .int .u32 (d : Int)] w fun e w' => ∃ v, e = .returned (.tuple #[v, .int .u32 ((val p % d : Nat) : Int)]) ∧ SlM (digs (val p / d)) v w' ∧ Ext w w' := by
  have HL := Lib.hid h.len
  have hmk := make_u32 (n : Int) n rfl (by omega)
  go_enter Tryd.func61, Tryd.ntmps61
  go_wp2
  clear hmk
  go_loopw [7, 8] (fun rv i wr => ∃ (k rest : Nat) (q : List Nat), k ≤ n ∧ i = .int .i64 ((k : Int) - 1) ∧ rv = .int .u64 (rest : Int) ∧ rest < d ∧ k + q.length = n ∧ val (p.drop k) = d * val q + rest ∧ RowD wr w.heap.size (List.replicate k 0 ++ q) ∧ Ext w wr) (fun _ i _ => (intOf i + 1).toNat)
  case atStart => exact ⟨n, 0, [], Nat.le_refl _, rfl, rfl, hd0, rfl, by rw [List.drop_eq_nil_of_le (by rw [HL.out]; omega)]; simp [val], by rw [List.append_nil]; exact ⟨Blk.new w _ _, Dig.replicate _⟩, Ext.new _ _⟩
  case round =>
    obtain ⟨k, rest, q, hk, rfl, rfl, hr, hq, hv, hrow, hex⟩ := hrel
    have HV := Lib.hid hv; clear hv
    have HQ := Lib.hid hq; clear hq
    by_cases h0 : k = 0
    · subst h0
      go_wp2_with fail
      simp only [List.replicate_zero, List.nil_append] at hrow
      refine (rtrim_any _ n n q _ (hrow.rm (by have := HQ.out; omega) (by omega)) hn).mono ?_
      rintro e w1 ⟨v1, rfl, hR, hx1⟩
      have hv := HV.out
      simp only [List.drop_zero] at hv
      have e1 : val p / d = val q := by rw [hv, Nat.mul_add_div hd0, Nat.div_eq_of_lt hr, Nat.add_zero]
      have e2 : rest = val p % d := by rw [hv, Nat.mul_add_mod, Nat.mod_eq_of_lt hr]
      have E1 := Lib.hid e1; have E2 := Lib.hid e2; clear e1 e2 hv
      go_wp2
      go_ret2
      refine ⟨v1, ?_, by rw [E1.out]; exact hR, hex.trans hx1⟩
      rw [← E2.out]; rfl
    · obtain ⟨j, rfl⟩ : ∃ j, k = j + 1 := ⟨k - 1, by omega⟩
      obtain ⟨ad, x, rfl, hb, hx, hx32, hcx⟩ := (h.ext hex).at_ (k := j) (by omega)
      have HX := Lib.hid hx; clear hx
      have hjl : j < (List.replicate (j + 1) 0 ++ q).length := by simp; omega
      obtain ⟨z, _, _, hcz, hfz⟩ := hrow.at_ hjl
      have HR := Lib.hid hrow; clear hrow hjl
      obtain ⟨nn, hnn⟩ : ∃ nn, nn = x + 4294967296 * rest := ⟨_, rfl⟩
      have hnb : nn < 18446744073709551616 := by omega
      have e1 : bits .or .u64 ((rest : Int) * 4294967296) (x : Int) = (nn : Int) := by rw [or_hi (by omega) hx32, hnn]
      have hq1 : nn / d < 4294967296 := dw_lt hx32 hr hnn
      have hq2 : (nn : Int) / (d : Int) < 4294967296 := by rw [← Int.natCast_ediv]; omega
      have hq3 : (0 : Int) ≤ (nn : Int) / (d : Int) := Int.ediv_nonneg (by omega) (by omega)
      have HN := Lib.hid hnn; clear hnn
      go_wp2
      go_roundw
      case rel =>
        refine ⟨j, nn % d, nn / d :: q, by omega, by go_num, rfl, Nat.mod_lt _ hd0, by have := HQ.out; simp; omega, dw_step HX.out HN.out HV.out, ?_, hex.setCell (Nat.le_refl _) _⟩
        have := HR.out.set (k := j) (d := nn / d) rfl hq1
        rwa [sh_list] at this
      case measure => simp [intOf] <;> omega
end Go.Proofs.YtfdpbcjcinchgaaDoor
