/- Contracts: results, small numbers. -/
import Derived.Test.YtfdpbcjcinchgaaDoorIc
namespace Go.Proofs.YtfdpbcjcinchgaaDoor
open Go.RowKit

/-- A number, or 0 and the error 2 if it has too many digits. -/
def resS (z : Int) : Int × Int := if z.natAbs < lim then (z, 0) else (0, 2)
theorem resS_ok {z : Int} (h : z.natAbs < lim) : resS z = (z, 0) := by unfold resS; rw [if_pos h]
theorem resS_no {z : Int} (h : ¬ z.natAbs < lim) : resS z = (0, 2) := by unfold resS; rw [if_neg h]
/-- An integer and an error. -/
def RetI (p : Int × Int) (v : Value) (w : World) : Prop := ∃ u, v = .tuple #[u, .int .i64 p.2] ∧ RI w u p.1
theorem RetI.ext {w w' : World} {v : Value} {p : Int × Int} (h : RetI p v w) (e : Ext w w') : RetI p v w' := by
  obtain ⟨u, h1, h2⟩ := h
  exact ⟨u, h1, h2.ext e⟩
theorem lt_lim_iff {m n : Nat} (h : (digs m).length = n) : n ≤ 400 ↔ m < lim :=
  ⟨fun h1 => lt_lim (lt_of_digs_len (k := n) (by omega)) h1, fun h1 => by have := len_lim h1; omega⟩

theorem trim_ext (A : Option Addr) (n c : Nat) (l : List Nat) (w : World) (h : RM w A n c l) :
    Calls Tryd.prog 53 #[.slice A n c] w fun e w' => ∃ v, e = .returned v ∧ SlM (digs (val l)) v w' ∧ Ext w w' :=
  (trim_any A n c l w h).mono fun _ _ ⟨⟨v, h1, h2⟩, h3⟩ => ⟨v, h1, h3 ▸ h2, h3 ▸ Ext.refl _⟩

set_option maxRecDepth 100000 in
set_option maxHeartbeats 400000 in
theorem result_any (neg : Bool) (A : Option Addr) (n c : Nat) (l : List Nat) (w : World) (h : RM w A n c l) :
    Calls Tryd.prog 67 #[.bool neg, .slice A n c] w fun e w' => ∃ v, e = .returned v ∧ RetI (resS (zOf neg (val l))) v w' ∧ Ext w w' := by
  go_enter Tryd.func67, Tryd.ntmps67
  go_wp2_with fail
  refine (trim_ext A n c l _ (h.ext (Ext.new w _))).mono ?_
  rintro e w1 ⟨v1, rfl, ⟨A1, n1, c1, rfl, hR⟩, hx1⟩
  have hb := (Blk.new w 24 _).ext hx1
  have hc := hb.cell
  have hf := hb.frozen
  have hn1 : n1 ≤ 9223372036854775807 := Nat.le_trans hR.nc hR.cm
  have hlim := lt_lim_iff hR.len
  have habs := zOf_abs neg (val l)
  by_cases h4 : n1 ≤ 400
  · obtain ⟨k1, k2, k3⟩ := put2 ((Ext.new w _).trans hx1) (Nat.le_refl _) hb (neg && decide (0 < n1)) A1 n1 c1
    have K1 := Lib.hid k1; have K2 := Lib.hid k2; have K3 := Lib.hid (RX.made neg (k3 _ _ _ _ hR)); clear k1 k2 k3
    have HS := Lib.hid (resS_ok (z := zOf neg (val l)) (by rw [habs]; exact hlim.1 h4))
    clear hlim habs
    by_cases h0 : 0 < n1
    all_goals
      cases neg
      all_goals
        go_wp2
        first
          | simp only [Bool.true_and, Bool.false_and, decide_eq_false h0] at K1 K2 K3
          | simp only [Bool.true_and, Bool.false_and, decide_eq_true h0] at K1 K2 K3
        exact bp_int2 rfl rfl rfl K2.out ⟨_, rfl, ⟨_, by rw [HS.out]; rfl, by rw [HS.out]; exact K3.out⟩, K1.out⟩
  · have HS := Lib.hid (resS_no (z := zOf neg (val l)) (by rw [habs]; exact fun h => h4 (hlim.2 h)))
    clear hlim habs
    obtain ⟨k1, k2, _⟩ := put2 ((Ext.new w _).trans hx1) (Nat.le_refl _) hb false none 0 0
    have K1 := Lib.hid k1; have K2 := Lib.hid k2; clear k1 k2
    go_wp2
    exact bp_int2 rfl rfl rfl K2.out ⟨_, rfl, ⟨_, by rw [HS.out]; rfl, by rw [HS.out]; exact RI.zero _⟩, K1.out⟩
end Go.Proofs.YtfdpbcjcinchgaaDoor
