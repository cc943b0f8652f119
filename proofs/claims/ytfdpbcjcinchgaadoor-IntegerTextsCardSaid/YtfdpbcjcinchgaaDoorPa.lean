/- Decimal strings: plain words, and contracts of the two 'decimal'. -/
import Derived.Test.YtfdpbcjcinchgaaDoorTg
namespace Go.Proofs.YtfdpbcjcinchgaaDoor
open Go.RowKit
set_option linter.unusedVariables false

def isD (b : UInt8) : Bool := decide (48 ≤ b.toNat) && decide (b.toNat ≤ 57)
/-- Digits, without a leading zero. -/
def decOk (l : List UInt8) : Bool := !l.isEmpty && !(l.head? == some 48 && decide (1 < l.length)) && l.all isD
theorem get_at {s : ByteArray} {l : List UInt8} {i : Nat} {b : UInt8} (hl : s.data.toList = l) (h : l[i]? = some b) (hi : i < s.size) : (s[i]'hi).toNat = b.toNat := by
  subst hl
  obtain ⟨_, e⟩ := List.getElem?_eq_some_iff.1 h
  rw [← e]
  simp [ByteArray.getElem_eq_getElem_data]
theorem toList_of {s : ByteArray} {l : List UInt8} (hl : s.data.toList = l) : s.toList = l := by
  rw [← hl]; exact Lib.toList_data s
theorem isD_of {b : UInt8} {n : Nat} (h : b.toNat = n) : isD b = (decide (48 ≤ n) && decide (n ≤ 57)) := by unfold isD; rw [h]
theorem decOk_all {b0 : UInt8} {l0 : List UInt8} (h : ¬ (b0.toNat = 48 ∧ 1 < (b0 :: l0).length)) : decOk (b0 :: l0) = (b0 :: l0).all isD := by
  unfold decOk
  have : ((b0 :: l0).head? == some 48 && decide (1 < (b0 :: l0).length)) = false := by
    rw [Bool.and_eq_false_iff]
    by_cases hb : b0 = 48
    · right
      subst hb
      simp only [decide_eq_false_iff_not]
      intro hl
      exact h ⟨rfl, hl⟩
    · left
      simpa using hb
  rw [this]
  simp
theorem decOk_zero {b0 : UInt8} {l0 : List UInt8} (h : b0.toNat = 48 ∧ 1 < (b0 :: l0).length) : decOk (b0 :: l0) = false := by
  unfold decOk
  have hb : b0 = 48 := by
    apply UInt8.toNat_inj.1
    exact h.1
  have h3 : ((b0 :: l0).head? == some 48 && decide (1 < (b0 :: l0).length)) = true := by
    rw [Bool.and_eq_true]
    exact ⟨by simp [hb], by simpa using h.2⟩
  rw [h3]
  simp
theorem all_step {l : List UInt8} {k : Nat} {b : UInt8} (hb : l[k]? = some b) (h : (l.take k).all isD = true) (hd : isD b = true) : (l.take (k + 1)).all isD = true := by
  rw [List.take_add_one, hb, List.all_append, h]
  simpa using hd
theorem all_stop {l : List UInt8} {k : Nat} {b : UInt8} (hb : l[k]? = some b) (hd : isD b = false) : l.all isD = false := by
  rw [List.all_eq_false]
  exact ⟨b, List.mem_of_getElem? hb, by rw [hd]; simp⟩

set_option maxRecDepth 100000 in
set_option maxHeartbeats 1600000 in
theorem decimal_any (s : ByteArray) (l : List UInt8) (w : World) (hl : s.data.toList = l) (hb : l.length ≤ 5000) :
    Calls Tryd.prog 78 #[.string s] w fun e w' => e = .returned (.bool (decOk l)) ∧ Ext w w' := by
  have hsz : s.size = l.length := by rw [Lib.size_eq, hl]
  have htl := toList_of hl
  cases l with
  | nil =>
    have hs : s = ⟨#[]⟩ := by
      cases s with | mk d => simp at hl; simp [hl]
    subst hs
    go_enter Tryd.func78, Tryd.ntmps78
    go_wp2
    go_ret
    exact ⟨rfl, Ext.refl _⟩
  | cons b0 l0 =>
    have t0 : s.toList.isEmpty = false := by rw [htl]; rfl
    have t1 : ¬ s.toList = [] := by rw [htl]; simp
    have hL0 : 0 < (b0 :: l0).length := by simp
    have hs0 : 0 < s.size := by omega
    have hx0 := get_at (i := 0) (b := b0) hl rfl hs0
    generalize hn0 : b0.toNat = n0 at *
    have HA := Lib.hid (decOk_all (b0 := b0) (l0 := l0)); have HZ := Lib.hid (decOk_zero (b0 := b0) (l0 := l0))
    generalize hll : b0 :: l0 = l at *
    generalize hL : l.length = L at *
    have HN0 := Lib.hid hn0; have HLL := Lib.hid hL; have HL := Lib.hid hl
    clear hll hn0 htl hl hL
    by_cases hz : n0 = 48 ∧ 1 < L
    · obtain ⟨hz1, hz2⟩ := hz
      have e48 : ((n0 : Int) == 48) = true := by simp; omega
      have e1L : decide ((1 : Int) < (L : Int)) = true := by simp; omega
      have hret : decOk l = false := HZ.out ⟨HN0.out.trans hz1, hz2⟩
      have HRET := Lib.hid hret; clear hret
      subst hz1
      go_enter Tryd.func78, Tryd.ntmps78
      go_wp2
      go_ret
      exact ⟨ret_bool HRET.out.symm, Ext.refl _⟩
    · have hret : decOk l = l.all isD := HA.out (by rw [HN0.out]; exact hz)
      have HRET := Lib.hid hret; clear hret
      have hz' : n0 ≠ 48 ∨ (n0 = 48 ∧ L = 1) := by omega
      rcases hz' with hz1 | ⟨hz1, hz2⟩
      · have e48 : ((n0 : Int) == 48) = false := by simp; omega
        have e48' : ¬ (n0 : Int) = 48 := by omega
        go_enter Tryd.func78, Tryd.ntmps78
        go_wp2_with fail
        go_loop [18] (fun i => ∃ k : Nat, k ≤ s.size ∧ i = .int .i64 (k : Int) ∧ (l.take k).all isD = true) (fun i => s.size - (intOf i).toNat)
        case atStart => exact ⟨0, by omega, rfl, rfl⟩
        case round =>
          obtain ⟨k, hk, rfl, ht⟩ := hrel
          have HT := Lib.hid ht; clear ht
          by_cases hlt : k < s.size
          · have hbk := List.getElem?_eq_getElem (l := l) (i := k) (by rw [HLL.out]; omega)
            obtain ⟨bb, hbb⟩ : ∃ b, l[k]? = some b := ⟨_, hbk⟩
            clear hbk
            have hxk := get_at HL.out hbb hlt
            generalize hnk : bb.toNat = nk at *
            have HBB := Lib.hid hbb; have HNK := Lib.hid hnk; clear hbb hnk
            by_cases h1 : nk < 48
            · have t3 : decide ((nk : Int) < 48) = true := by simp; omega
              have t4 : (nk : Int) < 48 := by omega
              go_wp2
              go_ret
              exact ⟨ret_bool (by rw [HRET.out, all_stop HBB.out (by rw [isD_of HNK.out]; simp; omega)]), Ext.refl _⟩
            · have t3 : decide ((nk : Int) < 48) = false := by simp; omega
              have t4 : ¬ (nk : Int) < 48 := by omega
              by_cases h2 : 57 < nk
              · have t5 : decide ((57 : Int) < (nk : Int)) = true := by simp; omega
                have t6 : (57 : Int) < (nk : Int) := by omega
                go_wp2
                go_ret
                exact ⟨ret_bool (by rw [HRET.out, all_stop HBB.out (by rw [isD_of HNK.out]; simp; omega)]), Ext.refl _⟩
              · have t5 : decide ((57 : Int) < (nk : Int)) = false := by simp; omega
                have t6 : ¬ (57 : Int) < (nk : Int) := by omega
                go_wp2_with fail
                go_round
                case rel => exact ⟨k + 1, by omega, by go_num, all_step HBB.out HT.out (by rw [isD_of HNK.out]; simp; omega)⟩
                case measure => simp [intOf] <;> omega
          · have hke : k = s.size := by omega
            subst hke
            go_wp2
            go_ret
            refine ⟨ret_bool ?_, Ext.refl _⟩
            rw [HRET.out, ← HT.out, List.take_of_length_le (by rw [HLL.out]; omega)]
      · subst hz1
        subst hz2
        go_enter Tryd.func78, Tryd.ntmps78
        go_wp2_with fail
        go_loop [18] (fun i => ∃ k : Nat, k ≤ s.size ∧ i = .int .i64 (k : Int) ∧ (l.take k).all isD = true) (fun i => s.size - (intOf i).toNat)
        case atStart => exact ⟨0, by omega, rfl, rfl⟩
        case round =>
          obtain ⟨k, hk, rfl, ht⟩ := hrel
          have HT := Lib.hid ht; clear ht
          by_cases hlt : k < s.size
          · have hbk := List.getElem?_eq_getElem (l := l) (i := k) (by rw [HLL.out]; omega)
            obtain ⟨bb, hbb⟩ : ∃ b, l[k]? = some b := ⟨_, hbk⟩
            clear hbk
            have hxk := get_at HL.out hbb hlt
            generalize hnk : bb.toNat = nk at *
            have HBB := Lib.hid hbb; have HNK := Lib.hid hnk; clear hbb hnk
            by_cases h1 : nk < 48
            · have t3 : decide ((nk : Int) < 48) = true := by simp; omega
              have t4 : (nk : Int) < 48 := by omega
              go_wp2
              go_ret
              exact ⟨ret_bool (by rw [HRET.out, all_stop HBB.out (by rw [isD_of HNK.out]; simp; omega)]), Ext.refl _⟩
            · have t3 : decide ((nk : Int) < 48) = false := by simp; omega
              have t4 : ¬ (nk : Int) < 48 := by omega
              by_cases h2 : 57 < nk
              · have t5 : decide ((57 : Int) < (nk : Int)) = true := by simp; omega
                have t6 : (57 : Int) < (nk : Int) := by omega
                go_wp2
                go_ret
                exact ⟨ret_bool (by rw [HRET.out, all_stop HBB.out (by rw [isD_of HNK.out]; simp; omega)]), Ext.refl _⟩
              · have t5 : decide ((57 : Int) < (nk : Int)) = false := by simp; omega
                have t6 : ¬ (57 : Int) < (nk : Int) := by omega
                go_wp2_with fail
                go_round
                case rel => exact ⟨k + 1, by omega, by go_num, all_step HBB.out HT.out (by rw [isD_of HNK.out]; simp; omega)⟩
                case measure => simp [intOf] <;> omega
          · have hke : k = s.size := by omega
            subst hke
            go_wp2
            go_ret
            refine ⟨ret_bool ?_, Ext.refl _⟩
            rw [HRET.out, ← HT.out, List.take_of_length_le (by rw [HLL.out]; omega)]
end Go.Proofs.YtfdpbcjcinchgaaDoor
