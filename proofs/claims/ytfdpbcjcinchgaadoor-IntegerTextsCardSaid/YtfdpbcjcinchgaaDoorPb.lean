/- Contract: the reference's decimal; the shape of decimal texts. -/
import Derived.Test.YtfdpbcjcinchgaaDoorPa
namespace Go.Proofs.YtfdpbcjcinchgaaDoor
open Go.RowKit
set_option linter.unusedVariables false

def sgnS (l : List UInt8) : Bool := l.head? == some 45
def bodyS (l : List UInt8) : List UInt8 := if sgnS l then l.tail else l
/-- The form of a decimal integer. -/
def okS (l : List UInt8) : Bool := decOk (bodyS l) && !(sgnS l && (bodyS l).head? == some 48)
theorem sgn_cons {b : UInt8} {l : List UInt8} (h : b.toNat = 45) : sgnS (b :: l) = true := by
  have : b = 45 := UInt8.toNat_inj.1 h
  simp [sgnS, this]
theorem sgn_not {b : UInt8} {l : List UInt8} (h : b.toNat ≠ 45) : sgnS (b :: l) = false := by
  unfold sgnS
  simp
  intro e
  exact h (by rw [e]; rfl)
theorem ok_pos {b : UInt8} {l : List UInt8} (h : b.toNat ≠ 45) : okS (b :: l) = decOk (b :: l) := by
  unfold okS bodyS
  rw [sgn_not h]
  simp
theorem ok_neg {b c : UInt8} {l : List UInt8} (h : b.toNat = 45) (hc : c.toNat ≠ 48) : okS (b :: c :: l) = decOk (c :: l) := by
  unfold okS bodyS
  rw [sgn_cons h]
  have : ((c :: l).head? == some 48) = false := by
    simp
    intro e
    exact hc (by rw [e]; rfl)
  simp only [if_true, List.tail_cons, Bool.true_and, this, Bool.not_false, Bool.and_true]
theorem ok_neg0 {b c : UInt8} {l : List UInt8} (h : b.toNat = 45) (hc : c.toNat = 48) : okS (b :: c :: l) = false := by
  have hc' : c = 48 := UInt8.toNat_inj.1 hc
  unfold okS bodyS
  rw [sgn_cons h]
  simp [hc']
theorem ok_neg1 {b : UInt8} (h : b.toNat = 45) : okS [b] = false := by
  unfold okS bodyS
  rw [sgn_cons h]
  simp [decOk]
theorem ext_list {s : ByteArray} {l : List UInt8} {i : Nat} (hl : s.data.toList = l) (hi : i ≤ l.length) : (s.extract i s.size).data.toList = l.drop i := by
  have hs : s.size = l.length := by rw [Lib.size_eq, hl]
  rw [ByteArray.data_extract, Array.toList_extract, hl, hs, List.extract_eq_take_drop, List.take_of_length_le]
  rw [List.length_drop]; omega
theorem ext_head {s : ByteArray} {l : List UInt8} {i : Nat} (hl : s.data.toList = l) : (s.extract 0 i).data.toList = l.take i := by
  rw [ByteArray.data_extract, Array.toList_extract, hl, List.extract_eq_take_drop]
  simp

set_option maxRecDepth 100000 in
set_option maxHeartbeats 3200000 in
theorem rdecimal_any (s : ByteArray) (l : List UInt8) (w : World) (hl : s.data.toList = l) (hb : l.length ≤ 5000) :
    Calls Tryd.prog 80 #[.string s] w fun e w' => e = .returned (.bool (okS l)) ∧ Ext w w' := by
  have hsz : s.size = l.length := by rw [Lib.size_eq, hl]
  cases l with
  | nil =>
    have hs : s = ⟨#[]⟩ := by
      cases s with | mk d => simp at hl; simp [hl]
    subst hs
    go_enter Tryd.func80, Tryd.ntmps80
    go_wp2
    go_ret
    exact ⟨rfl, Ext.refl _⟩
  | cons b0 l0 =>
    have hs0 : 0 < s.size := by rw [hsz]; simp
    have hx0 := get_at (i := 0) (b := b0) hl rfl hs0
    have es0 : ((s.size : Int) == 0) = false := by simp; intro e; rw [e] at hs0; simp at hs0
    have es1 : ¬ s = ByteArray.empty := by intro e; rw [e] at hs0; simp at hs0
    by_cases hneg : b0.toNat = 45
    · rw [hneg] at hx0
      cases l0 with
      | nil =>
        have hs1 : s.size = 1 := hsz
        have HR := Lib.hid (ok_neg1 hneg)
        have hd : s.extract 1 s.size = ⟨#[]⟩ := by
          have h1 : (s.extract 1 s.size).data.toList = [] := ext_list (i := 1) hl (by simp)
          cases hq : s.extract 1 s.size with
          | mk d => rw [hq] at h1; simp at h1; simp [h1]
        rw [hs1] at hd
        clear hl hneg
        go_enter Tryd.func80, Tryd.ntmps80
        go_wp2
        go_ret
        exact ⟨ret_bool HR.out.symm, Ext.refl _⟩
      | cons c0 m0 =>
        obtain ⟨d, hd⟩ : ∃ d, s.extract 1 s.size = d := ⟨_, rfl⟩
        have hdl : d.data.toList = c0 :: m0 := by
          have h1 : (s.extract 1 s.size).data.toList = c0 :: m0 := ext_list (i := 1) hl (by simp)
          rw [hd] at h1
          exact h1
        have hdz : d.size = (c0 :: m0).length := by rw [Lib.size_eq, hdl]
        have hds : s.size = d.size + 1 := by rw [hdz, hsz]; simp
        have hd0 : 0 < d.size := by rw [hdz]; simp
        have hy0 := get_at (i := 0) (b := c0) hdl rfl hd0
        have ed0 : ((d.size : Int) == 0) = false := by simp; intro e; rw [e] at hd0; simp at hd0
        have ed1 : ¬ d = ByteArray.empty := by intro e; rw [e] at hd0; simp at hd0
        have ed2 : decide ((1 : Int) < (d.size : Int) + 1) = true := by simp; omega
        have ed3 : (1 : Int) < (d.size : Int) + 1 := by omega
        rw [hds] at hd
        by_cases hz : c0.toNat = 48
        · rw [hz] at hy0
          have HR := Lib.hid (ok_neg0 (l := m0) hneg hz)
          have hbd : d.size ≤ 5000 := by rw [hdz]; simp at hb ⊢; omega
          have e1s : decide ((1 : Int) < (s.size : Int)) = true := by simp; omega
          clear hl hneg hz hdl hdz hb hsz
          by_cases hd1 : 1 < d.size
          · have e1d : decide ((1 : Int) < (d.size : Int)) = true := by simp; omega
            go_enter Tryd.func80, Tryd.ntmps80
            go_wp2
            go_ret
            exact ⟨ret_bool HR.out.symm, Ext.refl _⟩
          · have e1d : decide ((1 : Int) < (d.size : Int)) = false := by simp; omega
            have e1d' : ¬ (1 : Int) < (d.size : Int) := by omega
            go_enter Tryd.func80, Tryd.ntmps80
            go_wp2
            go_ret
            exact ⟨ret_bool HR.out.symm, Ext.refl _⟩
        · have HRET := Lib.hid ((ok_neg (l := m0) hneg hz).trans (decOk_all (fun h => hz h.1)))
          generalize hn0 : c0.toNat = n0 at *
          have e48 : ((n0 : Int) == 48) = false := by simp; omega
          have e48' : ¬ (n0 : Int) = 48 := by omega
          have hbd : d.size ≤ 5000 := by rw [hdz]; simp at hb ⊢; omega
          generalize hmm : c0 :: m0 = mm at *
          have HS := Lib.hid hdl; have HN := Lib.hid hdz.symm
          clear hl hneg hdl hdz hb hsz hmm hn0
          go_enter Tryd.func80, Tryd.ntmps80
          go_wp2_with fail
          go_loop [4] (fun i => ∃ k : Nat, k ≤ d.size ∧ i = .int .i64 (k : Int) ∧ (mm.take k).all isD = true) (fun i => d.size - (intOf i).toNat)
          case atStart => exact ⟨0, by omega, rfl, rfl⟩
          case round =>
            obtain ⟨k, hk, rfl, ht⟩ := hrel
            have HT := Lib.hid ht; clear ht
            by_cases hlt : k < d.size
            · have hbk := List.getElem?_eq_getElem (l := mm) (i := k) (by rw [HN.out]; omega)
              obtain ⟨bb, hbb⟩ : ∃ b, mm[k]? = some b := ⟨_, hbk⟩
              clear hbk
              have hxk := get_at HS.out hbb hlt
              generalize hnk : bb.toNat = nk at *
              have HBB := Lib.hid hbb; have HNK := Lib.hid hnk; clear hbb hnk
              by_cases h1 : nk < 48
              · have t3 : decide ((nk : Int) < 48) = true := by simp; omega
                have t4 : (nk : Int) < 48 := by omega
                go_wp2
                go_ret
                exact ⟨ret_bool (by rw [HRET.out, all_stop HBB.out (by rw [isD_of HNK.out]; simp; omega)]), Ext.refl _⟩
              · have t3 : decide ((nk : Int) < 48) = false := by simp; omega
                have t4 : ¬ (nk : Int) < 48 := by omega
                by_cases h2 : 57 < nk
                · have t5 : decide ((57 : Int) < (nk : Int)) = true := by simp; omega
                  have t6 : (57 : Int) < (nk : Int) := by omega
                  go_wp2
                  go_ret
                  exact ⟨ret_bool (by rw [HRET.out, all_stop HBB.out (by rw [isD_of HNK.out]; simp; omega)]), Ext.refl _⟩
                · have t5 : decide ((57 : Int) < (nk : Int)) = false := by simp; omega
                  have t6 : ¬ (57 : Int) < (nk : Int) := by omega
                  go_wp2_with fail
                  go_round
                  case rel => exact ⟨k + 1, by omega, by go_num, all_step HBB.out HT.out (by rw [isD_of HNK.out]; simp; omega)⟩
                  case measure => simp [intOf] <;> omega
            · have hke : k = d.size := by omega
              subst hke
              go_wp2
              go_ret
              refine ⟨ret_bool ?_, Ext.refl _⟩
              rw [HRET.out, ← HT.out, List.take_of_length_le (by rw [HN.out]; omega)]
    · have hx1 : ((b0.toNat : Int) == 45) = false := by simp; omega
      have hx2 : ¬ (b0.toNat : Int) = 45 := by omega
      have HO := Lib.hid (ok_pos (l := l0) hneg)
      have HA := Lib.hid (decOk_all (b0 := b0) (l0 := l0)); have HZ := Lib.hid (decOk_zero (b0 := b0) (l0 := l0))
      generalize hn0 : b0.toNat = n0 at *
      generalize hll : b0 :: l0 = l at *
      have HN0 := Lib.hid hn0
      have HS := Lib.hid hl; have HN := Lib.hid hsz.symm
      have hbd : s.size ≤ 5000 := by omega
      clear hll hn0 hl hsz hb hneg
      by_cases hz : n0 = 48 ∧ 1 < s.size
      · obtain ⟨hz1, hz2⟩ := hz
        have e1L : decide ((1 : Int) < (s.size : Int)) = true := by simp; omega
        have hret : okS l = false := HO.out.trans (HZ.out ⟨hz1, by rw [HN.out]; exact hz2⟩)
        have HRET := Lib.hid hret; clear hret
        subst hz1
        go_enter Tryd.func80, Tryd.ntmps80
        go_wp2
        go_ret
        exact ⟨ret_bool HRET.out.symm, Ext.refl _⟩
      · have hret : okS l = l.all isD := HO.out.trans (HA.out (by rw [HN.out]; exact hz))
        have HRET := Lib.hid hret; clear hret
        have hz' : n0 ≠ 48 ∨ (n0 = 48 ∧ s.size = 1) := by omega
        rcases hz' with hz1 | ⟨hz1, hz2⟩
        · have e48 : ((n0 : Int) == 48) = false := by simp; omega
          have e48' : ¬ (n0 : Int) = 48 := by omega
          clear hz
          go_enter Tryd.func80, Tryd.ntmps80
          go_wp2_with fail
          go_loop [4] (fun i => ∃ k : Nat, k ≤ s.size ∧ i = .int .i64 (k : Int) ∧ (l.take k).all isD = true) (fun i => s.size - (intOf i).toNat)
          case atStart => exact ⟨0, by omega, rfl, rfl⟩
          case round =>
            obtain ⟨k, hk, rfl, ht⟩ := hrel
            have HT := Lib.hid ht; clear ht
            by_cases hlt : k < s.size
            · have hbk := List.getElem?_eq_getElem (l := l) (i := k) (by rw [HN.out]; omega)
              obtain ⟨bb, hbb⟩ : ∃ b, l[k]? = some b := ⟨_, hbk⟩
              clear hbk
              have hxk := get_at HS.out hbb hlt
              generalize hnk : bb.toNat = nk at *
              have HBB := Lib.hid hbb; have HNK := Lib.hid hnk; clear hbb hnk
              by_cases h1 : nk < 48
              · have t3 : decide ((nk : Int) < 48) = true := by simp; omega
                have t4 : (nk : Int) < 48 := by omega
                go_wp2
                go_ret
                exact ⟨ret_bool (by rw [HRET.out, all_stop HBB.out (by rw [isD_of HNK.out]; simp; omega)]), Ext.refl _⟩
              · have t3 : decide ((nk : Int) < 48) = false := by simp; omega
                have t4 : ¬ (nk : Int) < 48 := by omega
                by_cases h2 : 57 < nk
                · have t5 : decide ((57 : Int) < (nk : Int)) = true := by simp; omega
                  have t6 : (57 : Int) < (nk : Int) := by omega
                  go_wp2
                  go_ret
                  exact ⟨ret_bool (by rw [HRET.out, all_stop HBB.out (by rw [isD_of HNK.out]; simp; omega)]), Ext.refl _⟩
                · have t5 : decide ((57 : Int) < (nk : Int)) = false := by simp; omega
                  have t6 : ¬ (57 : Int) < (nk : Int) := by omega
                  go_wp2_with fail
                  go_round
                  case rel => exact ⟨k + 1, by omega, by go_num, all_step HBB.out HT.out (by rw [isD_of HNK.out]; simp; omega)⟩
                  case measure => simp [intOf] <;> omega
            · have hke : k = s.size := by omega
              subst hke
              go_wp2
              go_ret
              refine ⟨ret_bool ?_, Ext.refl _⟩
              rw [HRET.out, ← HT.out, List.take_of_length_le (by rw [HN.out]; omega)]
        · subst hz1
          have e1L : decide ((1 : Int) < (s.size : Int)) = false := by simp; omega
          have e1L' : ¬ (1 : Int) < (s.size : Int) := by omega
          have HZ2 := Lib.hid hz2
          clear hz hz2
          go_enter Tryd.func80, Tryd.ntmps80
          go_wp2_with fail
          go_loop [4] (fun i => ∃ k : Nat, k ≤ s.size ∧ i = .int .i64 (k : Int) ∧ (l.take k).all isD = true) (fun i => s.size - (intOf i).toNat)
          case atStart => exact ⟨0, by omega, rfl, rfl⟩
          case round =>
            obtain ⟨k, hk, rfl, ht⟩ := hrel
            have HT := Lib.hid ht; clear ht
            by_cases hlt : k < s.size
            · have hbk := List.getElem?_eq_getElem (l := l) (i := k) (by rw [HN.out]; omega)
              obtain ⟨bb, hbb⟩ : ∃ b, l[k]? = some b := ⟨_, hbk⟩
              clear hbk
              have hxk := get_at HS.out hbb hlt
              generalize hnk : bb.toNat = nk at *
              have HBB := Lib.hid hbb; have HNK := Lib.hid hnk; clear hbb hnk
              by_cases h1 : nk < 48
              · have t3 : decide ((nk : Int) < 48) = true := by simp; omega
                have t4 : (nk : Int) < 48 := by omega
                go_wp2
                go_ret
                exact ⟨ret_bool (by rw [HRET.out, all_stop HBB.out (by rw [isD_of HNK.out]; simp; omega)]), Ext.refl _⟩
              · have t3 : decide ((nk : Int) < 48) = false := by simp; omega
                have t4 : ¬ (nk : Int) < 48 := by omega
                by_cases h2 : 57 < nk
                · have t5 : decide ((57 : Int) < (nk : Int)) = true := by simp; omega
                  have t6 : (57 : Int) < (nk : Int) := by omega
                  go_wp2
                  go_ret
                  exact ⟨ret_bool (by rw [HRET.out, all_stop HBB.out (by rw [isD_of HNK.out]; simp; omega)]), Ext.refl _⟩
                · have t5 : decide ((57 : Int) < (nk : Int)) = false := by simp; omega
                  have t6 : ¬ (57 : Int) < (nk : Int) := by omega
                  go_wp2_with fail
                  go_round
                  case rel => exact ⟨k + 1, by omega, by go_num, all_step HBB.out HT.out (by rw [isD_of HNK.out]; simp; omega)⟩
                  case measure => simp [intOf] <;> omega
            · have hke : k = s.size := by omega
              subst hke
              go_wp2
              go_ret
              refine ⟨ret_bool ?_, Ext.refl _⟩
              rw [HRET.out, ← HT.out, List.take_of_length_le (by rw [HN.out]; omega)]
end Go.Proofs.YtfdpbcjcinchgaaDoor
