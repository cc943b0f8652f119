/- Contracts: equality of lists and of frames, the counter, To. -/
import Derived.Test.YtmlcmnbjioabiaaSa
namespace Go.Proofs.Ytmlcmnbjioabiaa
open Go.RowKit

theorem eq_ne_len {S T : List Int} {n m : Nat} (hS : S.length = n) (hT : T.length = m) (h : ¬ n = m) : false = (S == T) := by
  symm; apply beq_false_of_ne; rintro rfl; omega
theorem eq_stop {S T : List Int} {k : Nat} {x y : Int} (hx : S[k]? = some x) (hy : T[k]? = some y) (h : ¬ x = y) : false = (S == T) := by
  symm; apply beq_false_of_ne; rintro rfl; rw [hx] at hy; injection hy with hy; exact h hy
theorem eq_end {S T : List Int} {n m k : Nat} (hS : S.length = n) (hT : T.length = m) (h : m = n) (hk : n ≤ k) (ht : S.take k = T.take k) : true = (S == T) := by
  rw [List.take_of_length_le (by omega), List.take_of_length_le (by omega)] at ht; simp [ht]
theorem eq_step {S T : List Int} {k : Nat} {x : Int} (hx : S[k]? = some x) (hy : T[k]? = some x) (ht : S.take k = T.take k) : S.take (k + 1) = T.take (k + 1) := by
  obtain ⟨h1, rfl⟩ := List.getElem?_eq_some_iff.1 hx
  obtain ⟨h2, h3⟩ := List.getElem?_eq_some_iff.1 hy
  rw [List.take_succ_eq_append_getElem h1, List.take_succ_eq_append_getElem h2, ht, h3]

set_option maxHeartbeats 400000 in
theorem equal_any (A B : Option Addr) (n m c d : Nat) (S T : List Int) (w : World) (hS : Reads w w.heap.size 1 A n (S.map (.int .i64))) (hT : Reads w w.heap.size 1 B m (T.map (.int .i64)))
    (hn : n ≤ 9223372036854775807) (hm : m ≤ 9223372036854775807) :
    Calls Try.prog 28 #[.slice A n c, .slice B m d] w fun e w' => e = .returned (.bool (S == T)) ∧ Ext w w' := by
  have HS := Lib.hid hS.len
  have HT := Lib.hid hT.len
  by_cases hmn : n = m
  · have h4 : ((n : Int) != (m : Int)) = false := by subst hmn; simp
    have HM := Lib.hid hmn; clear hmn
    go_enter Try.func28, Try.ntmps28
    go_wp2_with fail
    go_loopw [13] (fun i wr => ∃ k : Nat, k ≤ n ∧ i = .int .i64 k ∧ S.take k = T.take k ∧ Ext w wr) (fun i _ => n - (intOf i).toNat)
    case atStart => exact ⟨0, Nat.zero_le _, rfl, rfl, Ext.refl _⟩
    case round =>
      obtain ⟨k, hk, rfl, ht, hext⟩ := hrel
      have HT1 := Lib.hid ht; clear ht
      by_cases hlt : k < n
      · have hkm : k < m := by have := HM.out; omega
        obtain ⟨ad, x, rfl, hb, hx, hcx⟩ := (hS.ext hext).int_at hlt
        obtain ⟨bd, y, rfl, hb', hy, hcy⟩ := (hT.ext hext).int_at hkm
        have HX := Lib.hid hx; clear hx
        have HY := Lib.hid hy; clear hy
        by_cases hxy : x = y
        · subst hxy
          go_wp2_with fail
          go_quiet (fail)
          go_wp2_with fail
          go_roundw
          case rel => exact ⟨k + 1, by omega, by go_num, eq_step HX.out HY.out HT1.out, hext.drewN _⟩
          case measure => simp [intOf]; omega
        · have h5 : (x != y) = true := by simp [hxy]
          go_wp2_with fail
          go_quiet (fail)
          go_wp2_with fail
          go_ret
          exact ⟨ret_bool (eq_stop HX.out HY.out hxy), hext.drewN _⟩
      · go_wp2_with fail
        go_ret
        exact ⟨ret_bool (eq_end HS.out HT.out HM.out.symm (by omega) HT1.out), hext⟩
  · have h4 : ((n : Int) != (m : Int)) = true := by simp; omega
    go_enter Try.func28, Try.ntmps28
    go_wp2_with fail
    go_ret
    exact ⟨ret_bool (eq_ne_len HS.out HT.out hmn), Ext.refl _⟩
set_option maxHeartbeats 400000 in
theorem sameints_any (A B : Option Addr) (n m c d : Nat) (S T : List Int) (w : World) (hS : Reads w w.heap.size 1 A n (S.map (.int .i64))) (hT : Reads w w.heap.size 1 B m (T.map (.int .i64)))
    (hn : n ≤ 9223372036854775807) (hm : m ≤ 9223372036854775807) :
    Calls Try.prog 29 #[.slice A n c, .slice B m d] w fun e w' => e = .returned (.bool (S == T)) ∧ Ext w w' := by
  have HS := Lib.hid hS.len
  have HT := Lib.hid hT.len
  by_cases hmn : n = m
  · have h4 : ((n : Int) != (m : Int)) = false := by subst hmn; simp
    have HM := Lib.hid hmn; clear hmn
    go_enter Try.func29, Try.ntmps29
    go_wp2_with fail
    go_loopw [5] (fun i wr => ∃ k : Nat, k ≤ n ∧ i = .int .i64 k ∧ S.take k = T.take k ∧ Ext w wr) (fun i _ => n - (intOf i).toNat)
    case atStart => exact ⟨0, Nat.zero_le _, rfl, rfl, Ext.refl _⟩
    case round =>
      obtain ⟨k, hk, rfl, ht, hext⟩ := hrel
      have HT1 := Lib.hid ht; clear ht
      by_cases hlt : k < n
      · have hkm : k < m := by have := HM.out; omega
        obtain ⟨ad, x, rfl, hb, hx, hcx⟩ := (hS.ext hext).int_at hlt
        obtain ⟨bd, y, rfl, hb', hy, hcy⟩ := (hT.ext hext).int_at hkm
        have HX := Lib.hid hx; clear hx
        have HY := Lib.hid hy; clear hy
        by_cases hxy : x = y
        · subst hxy
          go_wp2_with fail
          go_quiet (fail)
          go_wp2_with fail
          go_roundw
          case rel => exact ⟨k + 1, by omega, by go_num, eq_step HX.out HY.out HT1.out, hext.drewN _⟩
          case measure => simp [intOf]; omega
        · have h5 : (x != y) = true := by simp [hxy]
          go_wp2_with fail
          go_quiet (fail)
          go_wp2_with fail
          go_ret
          exact ⟨ret_bool (eq_stop HX.out HY.out hxy), hext.drewN _⟩
      · go_wp2_with fail
        go_ret
        exact ⟨ret_bool (eq_end HS.out HT.out HM.out.symm (by omega) HT1.out), hext⟩
  · have h4 : ((n : Int) != (m : Int)) = true := by simp; omega
    go_enter Try.func29, Try.ntmps29
    go_wp2_with fail
    go_ret
    exact ⟨ret_bool (eq_ne_len HS.out HT.out hmn), Ext.refl _⟩
set_option maxHeartbeats 400000 in
theorem sameints6_any (A B : Option Addr) (n m c d : Nat) (S T : List Int) (w : World) (hS : Reads w w.heap.size 1 A n (S.map (.int .i64))) (hT : Reads w w.heap.size 1 B m (T.map (.int .i64)))
    (hn : n ≤ 9223372036854775807) (hm : m ≤ 9223372036854775807) :
    Calls Try.prog 35 #[.slice A n c, .slice B m d] w fun e w' => e = .returned (.bool (S == T)) ∧ Ext w w' := by
  have HS := Lib.hid hS.len
  have HT := Lib.hid hT.len
  by_cases hmn : n = m
  · have h4 : ((n : Int) != (m : Int)) = false := by subst hmn; simp
    have HM := Lib.hid hmn; clear hmn
    go_enter Try.func35, Try.ntmps35
    go_wp2_with fail
    go_loopw [5] (fun i wr => ∃ k : Nat, k ≤ n ∧ i = .int .i64 k ∧ S.take k = T.take k ∧ Ext w wr) (fun i _ => n - (intOf i).toNat)
    case atStart => exact ⟨0, Nat.zero_le _, rfl, rfl, Ext.refl _⟩
    case round =>
      obtain ⟨k, hk, rfl, ht, hext⟩ := hrel
      have HT1 := Lib.hid ht; clear ht
      by_cases hlt : k < n
      · have hkm : k < m := by have := HM.out; omega
        obtain ⟨ad, x, rfl, hb, hx, hcx⟩ := (hS.ext hext).int_at hlt
        obtain ⟨bd, y, rfl, hb', hy, hcy⟩ := (hT.ext hext).int_at hkm
        have HX := Lib.hid hx; clear hx
        have HY := Lib.hid hy; clear hy
        by_cases hxy : x = y
        · subst hxy
          go_wp2_with fail
          go_quiet (fail)
          go_wp2_with fail
          go_roundw
          case rel => exact ⟨k + 1, by omega, by go_num, eq_step HX.out HY.out HT1.out, hext.drewN _⟩
          case measure => simp [intOf]; omega
        · have h5 : (x != y) = true := by simp [hxy]
          go_wp2_with fail
          go_quiet (fail)
          go_wp2_with fail
          go_ret
          exact ⟨ret_bool (eq_stop HX.out HY.out hxy), hext.drewN _⟩
      · go_wp2_with fail
        go_ret
        exact ⟨ret_bool (eq_end HS.out HT.out HM.out.symm (by omega) HT1.out), hext⟩
  · have h4 : ((n : Int) != (m : Int)) = true := by simp; omega
    go_enter Try.func35, Try.ntmps35
    go_wp2_with fail
    go_ret
    exact ⟨ret_bool (eq_ne_len HS.out HT.out hmn), Ext.refl _⟩

set_option maxHeartbeats 400000 in
theorem same_any (f g : Fr) (A B A' B' : Option Addr) (n m c d n' m' c' d' : Nat) (w : World) (hf : RFr w f A B n m c d) (hg : RFr w g A' B' n' m' c' d') :
    Calls Try.prog 12 #[frV f A B n m c d, frV g A' B' n' m' c' d'] w fun e w' => e = .returned (.bool (sameF f g)) ∧ Ext w w' := by
  obtain ⟨unit, count, sy, S, Q⟩ := f
  obtain ⟨unit', count', sy', S', Q'⟩ := g
  have HF := Lib.hid hf; clear hf
  have HG := Lib.hid hg; clear hg
  unfold frV
  dsimp only at *
  by_cases h1 : unit = unit'
  case neg =>
    have h1' : (unit == unit') = false := by simp [h1]
    go_enter Try.func12, Try.ntmps12
    go_wp2_with fail
    go_ret
    exact ⟨ret_bool (by simp [sameF, h1]), (Ext.new _ _).alloc _⟩
  subst h1
  by_cases h2 : count = count'
  case neg =>
    have h2' : (count == count') = false := by simp [h2]
    go_enter Try.func12, Try.ntmps12
    go_wp2_with fail
    go_ret
    exact ⟨ret_bool (by simp [sameF, h2]), (Ext.new _ _).alloc _⟩
  subst h2
  by_cases h3 : sy = sy'
  case neg =>
    have h3' : (sy == sy') = false := by simp [h3]
    go_enter Try.func12, Try.ntmps12
    go_wp2_with fail
    go_ret
    exact ⟨ret_bool (by simp [sameF, h3]), (Ext.new _ _).alloc _⟩
  subst h3
  cases h4 : (S == S')
  · go_enter Try.func12, Try.ntmps12
    go_wp2_with fail
    refine (equal_any _ _ _ _ _ _ S S' _ (HF.out.hS.ext ((Ext.new _ _).alloc _)) (HG.out.hS.ext ((Ext.new _ _).alloc _)) HF.out.hn HG.out.hn).mono ?_
    rintro e w1 ⟨rfl, hb1⟩
    go_wp2_with fail
    go_ret
    exact ⟨ret_bool (by simp [sameF, h4]), ((Ext.new _ _).alloc _).trans hb1⟩
  · go_enter Try.func12, Try.ntmps12
    go_wp2_with fail
    refine (equal_any _ _ _ _ _ _ S S' _ (HF.out.hS.ext ((Ext.new _ _).alloc _)) (HG.out.hS.ext ((Ext.new _ _).alloc _)) HF.out.hn HG.out.hn).mono ?_
    rintro e w1 ⟨rfl, hb1⟩
    have b0 := fun i => (((Blk.new w 24 _).alloc _).ext hb1).cell i
    have b1 := fun i => ((Blk.new' (w := w.alloc _) (g := w.heap.size + 1) 24 _ (by simp)).ext hb1).cell i
    go_wp2_with fail
    refine (equal_any _ _ _ _ _ _ Q Q' _ ((HF.out.hQ.ext ((Ext.new _ _).alloc _)).ext hb1) ((HG.out.hQ.ext ((Ext.new _ _).alloc _)).ext hb1) HF.out.hm HG.out.hm).mono ?_
    rintro e w2 ⟨rfl, hb2⟩
    go_wp2_with fail
    go_ret
    exact ⟨ret_bool (by simp [sameF, h4]), (((Ext.new _ _).alloc _).trans hb1).trans hb2⟩

set_option maxHeartbeats 400000 in
theorem rsame_any (f g : Fr) (A B A' B' : Option Addr) (n m c d n' m' c' d' : Nat) (w : World) (hf : RFr w f A B n m c d) (hg : RFr w g A' B' n' m' c' d') :
    Calls Try.prog 13 #[frV f A B n m c d, frV g A' B' n' m' c' d'] w fun e w' => e = .returned (.bool (sameF f g)) ∧ Ext w w' := by
  obtain ⟨unit, count, sy, S, Q⟩ := f
  obtain ⟨unit', count', sy', S', Q'⟩ := g
  have HF := Lib.hid hf; clear hf
  have HG := Lib.hid hg; clear hg
  unfold frV
  dsimp only at *
  by_cases h1 : unit = unit'
  case neg =>
    have h1' : (unit == unit') = false := by simp [h1]
    go_enter Try.func13, Try.ntmps13
    go_wp2_with fail
    go_ret
    exact ⟨ret_bool (by simp [sameF, h1]), (Ext.new _ _).alloc _⟩
  subst h1
  by_cases h2 : count = count'
  case neg =>
    have h2' : (count == count') = false := by simp [h2]
    go_enter Try.func13, Try.ntmps13
    go_wp2_with fail
    go_ret
    exact ⟨ret_bool (by simp [sameF, h2]), (Ext.new _ _).alloc _⟩
  subst h2
  by_cases h3 : sy = sy'
  case neg =>
    have h3' : (sy == sy') = false := by simp [h3]
    go_enter Try.func13, Try.ntmps13
    go_wp2_with fail
    go_ret
    exact ⟨ret_bool (by simp [sameF, h3]), (Ext.new _ _).alloc _⟩
  subst h3
  cases h4 : (S == S')
  · go_enter Try.func13, Try.ntmps13
    go_wp2_with fail
    refine (sameints_any _ _ _ _ _ _ S S' _ (HF.out.hS.ext ((Ext.new _ _).alloc _)) (HG.out.hS.ext ((Ext.new _ _).alloc _)) HF.out.hn HG.out.hn).mono ?_
    rintro e w1 ⟨rfl, hb1⟩
    go_wp2_with fail
    go_ret
    exact ⟨ret_bool (by simp [sameF, h4]), ((Ext.new _ _).alloc _).trans hb1⟩
  · go_enter Try.func13, Try.ntmps13
    go_wp2_with fail
    refine (sameints_any _ _ _ _ _ _ S S' _ (HF.out.hS.ext ((Ext.new _ _).alloc _)) (HG.out.hS.ext ((Ext.new _ _).alloc _)) HF.out.hn HG.out.hn).mono ?_
    rintro e w1 ⟨rfl, hb1⟩
    have b0 := fun i => (((Blk.new w 29 _).alloc _).ext hb1).cell i
    have b1 := fun i => ((Blk.new' (w := w.alloc _) (g := w.heap.size + 1) 29 _ (by simp)).ext hb1).cell i
    go_wp2_with fail
    refine (sameints_any _ _ _ _ _ _ Q Q' _ ((HF.out.hQ.ext ((Ext.new _ _).alloc _)).ext hb1) ((HG.out.hQ.ext ((Ext.new _ _).alloc _)).ext hb1) HF.out.hm HG.out.hm).mono ?_
    rintro e w2 ⟨rfl, hb2⟩
    go_wp2_with fail
    go_ret
    exact ⟨ret_bool (by simp [sameF, h4]), (((Ext.new _ _).alloc _).trans hb1).trans hb2⟩

set_option maxHeartbeats 400000 in
theorem count_any (s k : Int) (w : World) : Calls Try.prog 14 #[.int .i64 s, .int .i64 k] w fun e w' => e = .returned (.int .i64 (countF s k)) ∧ w = w' := by
  cases h1 : btw s 0 1099511627776
  · go_enter Try.func14, Try.ntmps14
    go_wp2_with (go_at_call 26; refine (between_any _ _ _ _).mono ?_; rintro e w' ⟨rfl, rfl⟩)
    go_ret
    exact ⟨ret_int (by simp [countF, h1]), rfl⟩
  cases h2 : btw k 0 11
  · go_enter Try.func14, Try.ntmps14
    go_wp2_with (go_at_call 26; refine (between_any _ _ _ _).mono ?_; rintro e w' ⟨rfl, rfl⟩)
    go_ret
    exact ⟨ret_int (by simp [countF, h2]), rfl⟩
  have b1 := btw_iff.1 h1
  have b2 := btw_iff.1 h2
  have b3 := b1.1; have b4 := b1.2; have b5 := b2.1; have b6 := b2.2
  clear b1 b2
  go_enter Try.func14, Try.ntmps14
  go_wp2_with (go_at_call 26; refine (between_any _ _ _ _).mono ?_; rintro e w' ⟨rfl, rfl⟩)
  go_ret
  exact ⟨ret_int (by simp [countF, h1, h2]), rfl⟩
set_option maxHeartbeats 400000 in
theorem rcount_any (s k : Int) (w : World) : Calls Try.prog 15 #[.int .i64 s, .int .i64 k] w fun e w' => e = .returned (.int .i64 (countF s k)) ∧ w = w' := by
  cases h1 : btw s 0 1099511627776
  · go_enter Try.func15, Try.ntmps15
    go_wp2_with (go_at_call 27; refine (rbetween_any _ _ _ _).mono ?_; rintro e w' ⟨rfl, rfl⟩)
    go_ret
    exact ⟨ret_int (by simp [countF, h1]), rfl⟩
  cases h2 : btw k 0 11
  · go_enter Try.func15, Try.ntmps15
    go_wp2_with (go_at_call 27; refine (rbetween_any _ _ _ _).mono ?_; rintro e w' ⟨rfl, rfl⟩)
    go_ret
    exact ⟨ret_int (by simp [countF, h2]), rfl⟩
  have b1 := btw_iff.1 h1
  have b2 := btw_iff.1 h2
  have b3 := b1.1; have b4 := b1.2; have b5 := b2.1; have b6 := b2.2
  clear b1 b2
  go_enter Try.func15, Try.ntmps15
  go_wp2_with (go_at_call 27; refine (rbetween_any _ _ _ _).mono ?_; rintro e w' ⟨rfl, rfl⟩)
  go_ret
  exact ⟨ret_int (by simp [countF, h1, h2]), rfl⟩

set_option maxHeartbeats 400000 in
theorem to_any (f : Fr) (A B : Option Addr) (n m c d : Nat) (w : World) :
    Calls Try.prog 11 #[frV f A B n m c d] w fun e w' => e = .returned (frV f A B n m c d) ∧ Ext w w' := by
  obtain ⟨unit, count, sy, S, Q⟩ := f
  unfold frV
  dsimp only
  go_enter Try.func11, Try.ntmps11
  go_wp2_with fail
  refine bodyPost_ret (v := .agg #[.int .i64 unit, .int .i64 count, .bool sy, .slice A n c, .slice B m d]) (by simp [results, Try.results11, go_sem]) rfl ⟨rfl, (Ext.new _ _).alloc _⟩
end Go.Proofs.Ytmlcmnbjioabiaa
