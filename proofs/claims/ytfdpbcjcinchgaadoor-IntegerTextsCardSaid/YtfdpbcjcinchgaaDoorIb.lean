/- Contracts: the reference's trim, made, digits; the checks of integers. -/
import Derived.Test.YtfdpbcjcinchgaaDoorIa
import Derived.Test.YtfdpbcjcinchgaaDoorApp
namespace Go.Proofs.YtfdpbcjcinchgaaDoor
open Go.RowKit

theorem elem_u32 : Elem Tryd.prog 22 34 1 4 := Elem.of Tryd.underlying22 (z := .int .u32 0) (by kernel_rfl) rfl (by omega)

theorem RM.of_own {w : World} {base n : Nat} {v : Value} {l : List Nat} (h : w.ownsRow base 34 1 v n (mg l)) (hd : Dig l) : SlM l v w := by
  obtain ⟨A, c, rfl, h1, h2, h3⟩ := own_reads h
  exact ⟨A, n, c, rfl, h3, hd, h1, h2⟩
theorem SlM.ext {w w' : World} {l : List Nat} {v : Value} (h : SlM l v w) (e : Ext w w') : SlM l v w' := by
  obtain ⟨A, n, c, h1, h2⟩ := h
  exact ⟨A, n, c, h1, h2.ext e⟩

set_option maxHeartbeats 400000 in
theorem rtrim_fresh (A : Option Addr) (n c : Nat) (l : List Nat) (w : World) (h : RM w A n c l) (hn : n ≤ 1000000) :
    Calls Tryd.prog 60 #[.slice A n c] w fun e w' => ∃ v, e = .returned v ∧ (SlM (digs (val l)) v w' ∧ ∀ g, v.ownBlock = some g → w.heap.size ≤ g) ∧ Ext w w' := by
  have hnc := h.nc
  have hcm := h.cm
  have HL := Lib.hid h.len
  have HT := Lib.hid (trim_eq h.dg)
  go_enter Tryd.func60, Tryd.ntmps60
  go_wp2
  go_loop [3] (fun i => ∃ k : Nat, k ≤ n ∧ i = .int .i64 k ∧ trimN l n = trimN l k) (fun i => (intOf i).toNat)
  case atStart => exact ⟨n, Nat.le_refl _, rfl, rfl⟩
  case round =>
    obtain ⟨k, hk, rfl, ht⟩ := hrel
    have HK := Lib.hid ht; clear ht
    have fin : ∀ j, j ≤ n → trimN l j = j → trimN l k = trimN l j → RM w A j c (digs (val l)) := fun j hj h1 h2 => by
      have := h.take (k := j) (c' := c) hj (by omega) hcm
      rwa [← HT.out, HL.out, HK.out, h2, h1]
    by_cases h0 : k = 0
    · subst h0
      have HR := Lib.hid (fin 0 (by omega) rfl rfl)
      clear fin
      cases A
      all_goals
        go_wp2_with (at_builtin; refine wpList_appA elem_u32 rfl (.tmp 18) (.tmp 21) rfl w.heap.size _ 0 [] (by rfl) (World.ownsRow_lit _ _ _ (by omega) (by omega) (by simp)) _ 0 _ (mg (digs (val l))) (by rfl) (HR.out.ext (Ext.new w _)).rd mg_one (by omega) (by omega) (by simp) ?_)
        intro v1 w1 ho hg
        go_wp2
        go_ret
        exact ⟨_, rfl, ⟨RM.of_own ho (dig_digs _), fun g hg => (ho.lt g hg).1⟩, own_grown hg (Ext.new _ _) (by simp [Value.ownBlock])⟩
    · obtain ⟨j, rfl⟩ : ∃ j, k = j + 1 := ⟨k - 1, by omega⟩
      obtain ⟨ad, x, rfl, hb, hx, hx32, hcx⟩ := h.at_ (k := j) (by omega)
      have HX := Lib.hid hx; clear hx
      by_cases hx0 : x = 0
      · subst hx0
        clear fin
        go_wp2
        go_round
        case rel => exact ⟨j, by omega, by go_num, by rw [HK.out, trimN_zero HX.out]⟩
        case measure => simp [intOf] <;> omega
      · have hne : ((x : Int) == 0) = false := by simp; omega
        have HR := Lib.hid (fin (j + 1) hk (trimN_stop HX.out hx0) rfl)
        clear fin
        go_wp2_with (at_builtin; refine wpList_appA elem_u32 rfl (.tmp 18) (.tmp 21) rfl w.heap.size _ 0 [] (by rfl) (World.ownsRow_lit _ _ _ (by omega) (by omega) (by simp)) _ (j + 1) _ (mg (digs (val l))) (by rfl) (HR.out.ext (Ext.new w _)).rd mg_one (by omega) (by omega) (by simp) ?_)
        intro v1 w1 ho hg
        go_wp2
        go_ret
        exact ⟨_, rfl, ⟨RM.of_own ho (dig_digs _), fun g hg => (ho.lt g hg).1⟩, own_grown hg (Ext.new _ _) (by simp [Value.ownBlock])⟩
theorem rtrim_any (A : Option Addr) (n c : Nat) (l : List Nat) (w : World) (h : RM w A n c l) (hn : n ≤ 1000000) :
    Calls Tryd.prog 60 #[.slice A n c] w fun e w' => ∃ v, e = .returned v ∧ SlM (digs (val l)) v w' ∧ Ext w w' :=
  (rtrim_fresh A n c l w h hn).mono fun _ _ ⟨v, h1, h2, h3⟩ => ⟨v, h1, h2.1, h3⟩
end Go.Proofs.YtfdpbcjcinchgaaDoor
