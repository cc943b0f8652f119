/- Contracts: Parse, and the reference's Parse. -/
import Derived.Test.YtfdpbcjcinchgaaDoorPc
import Derived.Test.YtfdpbcjcinchgaaDoorTc
import Derived.Deep.LoopGhost
namespace Go.Proofs.YtfdpbcjcinchgaaDoor
open Go.RowKit
set_option linter.unusedVariables false

/-- What Parse answers. -/
def parseR (l : List UInt8) : Int × Int := if 4000 < l.length then (0, 4) else if okS l then resS (zOf (sgnS l) (decV (bodyS l) 0)) else (0, 6)
/-- The program's own test of the form. -/
def okP (l : List UInt8) : Bool := decOk (bodyS l) && !(sgnS l && bodyS l == [48])
theorem ok_same (l : List UInt8) : okP l = okS l := by
  unfold okP okS
  cases hd : decOk (bodyS l)
  · rfl
  · cases hs : sgnS l
    · rfl
    · simp only [Bool.true_and]
      congr 1
      unfold decOk at hd
      simp only [Bool.and_eq_true, Bool.not_eq_true'] at hd
      obtain ⟨⟨h1, h2⟩, _⟩ := hd
      cases hb : bodyS l with
      | nil => rfl
      | cons c m =>
        rw [hb] at h2
        by_cases hc : c = 48
        · subst hc
          have : m = [] := by
            cases m with
            | nil => rfl
            | cons => simp at h2
          subst this
          rfl
        · have e1 : (c :: m == [48]) = false := by simp [hc]
          have e2 : ((c :: m).head? == some 48) = false := by simp [hc]
          rw [e1, e2]
theorem trim_list (l : List UInt8) : Lib.trimPrefix l [45] = bodyS l ∧ Lib.hasPrefix l [45] = sgnS l := by
  unfold Lib.trimPrefix Lib.hasPrefix bodyS sgnS
  cases l with
  | nil => exact ⟨rfl, rfl⟩
  | cons b m =>
    by_cases hb : b = 45
    · subst hb
      constructor
      · simp
      · simp
    · have h1 : ([45] : List UInt8).isPrefixOf (b :: m) = false := by simp [List.isPrefixOf]; intro e; exact hb e.symm
      have h2 : ((b :: m).head? == some 45) = false := by simp [hb]
      rw [h1, h2]
      exact ⟨rfl, rfl⟩
theorem body_len (l : List UInt8) : (bodyS l).length ≤ l.length := by
  unfold bodyS
  split
  · rw [List.length_tail]; omega
  · exact Nat.le_refl _

theorem box_put0 {w w' : World} {g : Nat} {b0 : Bool} {A0 : Option Addr} {n0 c0 : Nat} (hx : Ext w w') (hg : w.heap.size ≤ g) (hb : Blk w' g 24 #[.bool b0, .slice A0 n0 c0]) (b : Bool) (A : Option Addr) (n c : Nat) :
    Ext w ((w'.setCell ⟨g, 0, none⟩ (.bool b)).setCell ⟨g, 1, none⟩ (.slice A n c)) ∧ Blk ((w'.setCell ⟨g, 0, none⟩ (.bool b)).setCell ⟨g, 1, none⟩ (.slice A n c)) g 24 #[.bool b, .slice A n c] ∧ True ∧ True ∧ ∀ v z, RI w' v z → RI ((w'.setCell ⟨g, 0, none⟩ (.bool b)).setCell ⟨g, 1, none⟩ (.slice A n c)) v z := by
  obtain ⟨k1, k2, k3⟩ := put2 hx hg hb b A n c
  exact ⟨k1, k2, trivial, trivial, fun v z ⟨A', n', c', h1, h2⟩ => ⟨A', n', c', h1, k3 _ _ _ _ h2⟩⟩

set_option maxRecDepth 100000 in
set_option maxHeartbeats 6400000 in
theorem Parse_any (s : ByteArray) (l : List UInt8) (w : World) (hl : s.data.toList = l) (hb : l.length ≤ 5000) :
    Calls Tryd.prog 44 #[.string s] w fun e w' => ∃ v, e = .returned v ∧ RetI (parseR l) v w' ∧ Ext w w' := by
  have hsz : s.size = l.length := by rw [Lib.size_eq, hl]
  have HR : Hid (parseR l = if 4000 < s.size then (0, 4) else if okS l then resS (zOf (sgnS l) (decV (bodyS l) 0)) else (0, 6)) := Lib.hid (by rw [hsz]; rfl)
  have HL := Lib.hid hl
  have hbs : s.size ≤ 5000 := by omega
  have b4 : Blk (w.alloc (.cells #[.bool false, .slice none 0 0] 24)) w.heap.size 24 #[.bool false, .slice none 0 0] := Blk.new _ _ _
  have hE0 : Ext w (w.alloc (.cells #[.bool false, .slice none 0 0] 24)) := Ext.new _ _
  by_cases h4 : 4000 < s.size
  · have t1 : decide ((4000 : Int) < (s.size : Int)) = true := by simp; omega
    have t2 : (4000 : Int) < (s.size : Int) := by omega
    have HP : Hid (parseR l = (0, 4)) := Lib.hid (by rw [HR.out, if_pos h4])
    clear hl hsz hb
    go_enter Tryd.func44, Tryd.ntmps44
    go_wp2
    rw [HP.out]
    exact bp_int2 rfl rfl rfl b4 ⟨_, rfl, ⟨_, rfl, RI.zero _⟩, hE0⟩
  · have t1 : decide ((4000 : Int) < (s.size : Int)) = false := by simp; omega
    have t2 : ¬ (4000 : Int) < (s.size : Int) := by omega
    have hcut := Tryd.strings_CutPrefix s ⟨#[45]⟩ (w.alloc (.cells #[.bool false, .slice none 0 0] 24))
    obtain ⟨d, hd⟩ : ∃ d : ByteArray, d = ⟨(Lib.trimPrefix s.data.toList (⟨#[45]⟩ : ByteArray).data.toList).toArray⟩ := ⟨_, rfl⟩
    obtain ⟨ng, hng⟩ : ∃ b, b = Lib.hasPrefix s.data.toList (⟨#[45]⟩ : ByteArray).data.toList := ⟨_, rfl⟩
    rw [← hd, ← hng] at hcut
    have htr := trim_list l
    have hdl : d.data.toList = bodyS l := by rw [hd, hl]; exact htr.1
    have hns : ng = sgnS l := by rw [hng, hl]; exact htr.2
    have hbl := body_len l
    have hok := ok_same l
    unfold okP at hok
    rw [← hns] at hok HR
    have hdsz : d.size = (bodyS l).length := by rw [Lib.size_eq, hdl]
    generalize bodyS l = m at *
    have htl := toList_of hdl
    have hdb : d.size ≤ 4000 := by omega
    rw [if_neg h4, ← hok] at HR
    have HDL := Lib.hid hdl; have HDZ := Lib.hid hdsz; have HTL := Lib.hid htl
    clear hd hng htr hns hbl hok hl hsz hb hdl hdsz
    cases hk : decOk m
    · have HP : Hid (parseR l = (0, 6)) := Lib.hid (by rw [HR.out, hk]; rfl)
      go_enter Tryd.func44, Tryd.ntmps44
      go_wp2_with fail
      refine hcut.mono ?_
      rintro e w1 ⟨rfl, hw1⟩
      rw [hw1]; clear hw1
      clear hcut
      go_wp2_with fail
      refine (decimal_any d m _ HDL.out (by have := HDZ.out; omega)).mono ?_
      rintro e w2 ⟨rfl, hx2⟩
      rw [hk]
      have b5 := b4.ext hx2
      have c5 := b5.cell
      have f5 := b5.frozen
      obtain ⟨k1, k2, _⟩ := put2 (hE0.trans hx2) (Nat.le_refl _) b5 false none 0 0
      have K1 := Lib.hid k1; have K2 := Lib.hid k2; clear k1 k2
      go_wp2
      rw [HP.out]
      exact bp_int2 rfl rfl rfl K2.out ⟨_, rfl, ⟨_, rfl, RI.zero _⟩, K1.out⟩
    · by_cases hz : ng = true ∧ m = [48]
      · obtain ⟨hz1, hz2⟩ := hz
        have HP : Hid (parseR l = (0, 6)) := Lib.hid (by rw [HR.out, hk, hz1, hz2]; rfl)
        have htl2 : d.toList = [48] := by rw [htl, hz2]
        subst hz1
        go_enter Tryd.func44, Tryd.ntmps44
        go_wp2_with fail
        refine hcut.mono ?_
        rintro e w1 ⟨rfl, hw1⟩
        rw [hw1]; clear hw1
        clear hcut
        go_wp2_with fail
        refine (decimal_any d m _ HDL.out (by have := HDZ.out; omega)).mono ?_
        rintro e w2 ⟨rfl, hx2⟩
        rw [hk]
        have b5 := b4.ext hx2
        have c5 := b5.cell
        have f5 := b5.frozen
        obtain ⟨k1, k2, _⟩ := put2 (hE0.trans hx2) (Nat.le_refl _) b5 false none 0 0
        have K1 := Lib.hid k1; have K2 := Lib.hid k2; clear k1 k2
        go_wp2
        rw [HP.out]
        exact bp_int2 rfl rfl rfl K2.out ⟨_, rfl, ⟨_, rfl, RI.zero _⟩, K1.out⟩
      · have HP : Hid (parseR l = resS (zOf ng (decV m 0))) := Lib.hid (by
          rw [HR.out, hk]
          have : (ng && m == [48]) = false := by
            rw [Bool.and_eq_false_iff]
            by_cases h : ng = true
            · right; simp; intro e; exact hz ⟨h, e⟩
            · left; simpa using h
          rw [this]
          simp only [Bool.not_false, Bool.and_true, if_true])
        have hall : m.all isD = true := by
          unfold decOk at hk
          simp only [Bool.and_eq_true] at hk
          exact hk.2
        have hmz : 0 < d.size := by
          rw [HDZ.out]
          unfold decOk at hk
          cases m with
          | nil => simp at hk
          | cons => simp
        have HALL := Lib.hid hall; clear hall
        have HZ := Lib.hid hz; clear hz
        have HK := Lib.hid hk; clear hk
        cases ng
        · go_enter Tryd.func44, Tryd.ntmps44
          go_wp2_with fail
          refine hcut.mono ?_
          rintro e w1 ⟨rfl, hw1⟩
          rw [hw1]; clear hw1
          clear hcut
          go_wp2_with fail
          refine (decimal_any d m _ HDL.out (by have := HDZ.out; omega)).mono ?_
          rintro e w2 ⟨rfl, hx2⟩
          rw [HK.out]
          clear htl
          go_wp2_with fail
          have hE2 := hE0.trans hx2
          go_loopg [4, 6] d.size (fun gk dv mv wr => ∃ (dd : ByteArray) (j n : Nat) (p : List Nat), dv = .string dd ∧ dd.data.toList = m.drop j ∧ dd.size = gk ∧ j + gk = m.length ∧ n ≤ j ∧ wr.ownsRow w2.heap.size 34 1 mv n (mg p) ∧ Dig p ∧ val p = decV (m.take j) 0 ∧ (j = 0 ∨ gk % 9 = 0) ∧ Ext w2 wr)
          case atStart => exact ⟨d, 0, 0, [], rfl, HDL.out, rfl, by have := HDZ.out; omega, Nat.le_refl _, World.ownsRow_nil _ _ _ _, Dig.nil, rfl, .inl rfl, Ext.refl _⟩
          case round =>
            obtain ⟨dd, j, n, p, rfl, hdd, hdz, hjg, hnj, hown, hpd, hpv, h9, hex⟩ := hrel
            have hml : m.length ≤ 4000 := by have := HDZ.out; omega
            have HDD := Lib.hid hdd; have HPV := Lib.hid hpv; have H9 := Lib.hid h9; have HJG := Lib.hid hjg
            clear hdd hpv h9 hjg
            have hj4 : j ≤ 4000 := by have := HJG.out; omega
            by_cases hg : 0 < gk
            · have tg : (0 : Int) < (gk : Int) := by omega
              obtain ⟨nn, hnn⟩ : ∃ nn, nn = (gk - 1) % 9 + 1 := ⟨_, rfl⟩
              have e1 : ((gk : Int) - 1) % 9 + 1 = (nn : Int) := by omega
              have hgb : gk ≤ 4000 := by have := HJG.out; omega
              have e2 : ((gk : Int) - 1).tmod 9 + 1 = (nn : Int) := by rw [Int.tmod_eq_emod_of_nonneg (by omega)]; exact e1
              have hn9 : nn ≤ 9 := by omega
              have hngk : nn ≤ gk := by omega
              have HNN := Lib.hid hnn; clear hnn
              obtain ⟨d1, hd1⟩ : ∃ d1, dd.extract 0 nn = d1 := ⟨_, rfl⟩
              obtain ⟨d2, hd2⟩ : ∃ d2, dd.extract nn dd.size = d2 := ⟨_, rfl⟩
              have hd1l : d1.data.toList = (m.drop j).take nn := by rw [← hd1]; exact ext_head HDD.out
              have hd2l : d2.data.toList = m.drop (j + nn) := by
                rw [← hd2, ext_list HDD.out (by rw [List.length_drop]; have := HJG.out; omega), List.drop_drop]
              have hd2z : d2.size = gk - nn := by rw [Lib.size_eq, hd2l, List.length_drop]; have := HJG.out; omega
              rw [hdz] at hd2
              have hall1 : ((m.drop j).take nn).all isD = true := by
                rw [List.all_eq_true]
                intro b hb
                exact List.all_eq_true.1 HALL.out b (List.mem_of_mem_drop (List.mem_of_mem_take hb))
              have hl9 : ((m.drop j).take nn).length = nn := by rw [List.length_take, List.length_drop]; have := HJG.out; omega
              have hval : val p * 1000000000 + decV ((m.drop j).take nn) 0 = decV (m.take (j + nn)) 0 := by
                rw [List.take_add, decV_append, decV_acc _ (decV (m.take j) 0), HPV.out, hl9]
                rcases H9.out with h | h
                · subst h
                  simp [decV]
                · have : nn = 9 := by have := HNN.out; omega
                  rw [this]
              have hrem : (gk - nn) % 9 = 0 := by have := HNN.out; omega
              have HD1 := Lib.hid hd1l; have HD2 := Lib.hid hd2l; have HA1 := Lib.hid hall1; have HL9 := Lib.hid hl9; have HVV := Lib.hid hval; have HREM := Lib.hid hrem; have HD2Z := Lib.hid hd2z
              clear hd1l hd2l hall1 hl9 hval hrem hd2z
              go_wp2_with fail
              refine (extend_any _ n p d1 _ w2 _ hex hown hpd (by omega) HD1.out HA1.out (by rw [HL9.out]; exact hn9)).mono ?_
              rintro e w5 ⟨u5, q5, rfl, hown5, hqd5, hqv5, hql5, hex5⟩
              rw [HVV.out] at hqv5
              have HQV := Lib.hid hqv5; clear hqv5
              go_wp2_with fail
              go_roundg (gk - nn)
              case measure => have := HNN.out; omega
              case rel => exact ⟨d2, j + nn, q5.length, q5, rfl, HD2.out, HD2Z.out, by have := HJG.out; omega, by have := HNN.out; omega, hown5, hqd5, HQV.out, .inr HREM.out, hex5⟩
            · obtain rfl : gk = 0 := by omega
              have hvm : val p = decV m 0 := by rw [HPV.out, List.take_of_length_le (by have := HJG.out; omega)]
              have HVM := Lib.hid hvm; clear hvm
              obtain ⟨A5, n5, c5, rfl, hR5⟩ := RM.of_own hown hpd
              go_wp2_with fail
              refine (result_any _ A5 n5 c5 _ _ hR5).mono ?_
              rintro e w7 ⟨v7, rfl, hret, hx7⟩
              rw [HVM.out, ← HP.out] at hret
              obtain ⟨u7, rfl, hI⟩ := hret
              obtain ⟨s7, A7, n7, c7, rfl, hI⟩ := hI.open_
              have hx8 := hx2.trans (hex.trans hx7)
              have b5 := b4.ext hx8
              have c5' := b5.cell
              have f5 := b5.frozen
              obtain ⟨k1, k2, k3, k4, k5⟩ := box_put0 (hE0.trans hx8) (Nat.le_refl _) b5 s7 A7 n7 c7
              have K1 := Lib.hid k1; have K2 := Lib.hid k2; have K5 := Lib.hid (k5 _ _ hI); clear k1 k2 k3 k4 k5
              go_wp2
              exact bp_int2 rfl rfl rfl K2.out ⟨_, rfl, ⟨_, rfl, K5.out⟩, K1.out⟩
        · have hne : ¬ d.toList = [48] := by rw [HTL.out]; intro e; exact HZ.out ⟨rfl, e⟩
          have hne' : (d.toList == [48]) = false := by simpa using hne
          go_enter Tryd.func44, Tryd.ntmps44
          go_wp2_with fail
          refine hcut.mono ?_
          rintro e w1 ⟨rfl, hw1⟩
          rw [hw1]; clear hw1
          clear hcut
          go_wp2_with fail
          refine (decimal_any d m _ HDL.out (by have := HDZ.out; omega)).mono ?_
          rintro e w2 ⟨rfl, hx2⟩
          rw [HK.out]
          clear htl
          go_wp2_with fail
          have hE2 := hE0.trans hx2
          go_loopg [4, 6] d.size (fun gk dv mv wr => ∃ (dd : ByteArray) (j n : Nat) (p : List Nat), dv = .string dd ∧ dd.data.toList = m.drop j ∧ dd.size = gk ∧ j + gk = m.length ∧ n ≤ j ∧ wr.ownsRow w2.heap.size 34 1 mv n (mg p) ∧ Dig p ∧ val p = decV (m.take j) 0 ∧ (j = 0 ∨ gk % 9 = 0) ∧ Ext w2 wr)
          case atStart => exact ⟨d, 0, 0, [], rfl, HDL.out, rfl, by have := HDZ.out; omega, Nat.le_refl _, World.ownsRow_nil _ _ _ _, Dig.nil, rfl, .inl rfl, Ext.refl _⟩
          case round =>
            obtain ⟨dd, j, n, p, rfl, hdd, hdz, hjg, hnj, hown, hpd, hpv, h9, hex⟩ := hrel
            have hml : m.length ≤ 4000 := by have := HDZ.out; omega
            have HDD := Lib.hid hdd; have HPV := Lib.hid hpv; have H9 := Lib.hid h9; have HJG := Lib.hid hjg
            clear hdd hpv h9 hjg
            have hj4 : j ≤ 4000 := by have := HJG.out; omega
            by_cases hg : 0 < gk
            · have tg : (0 : Int) < (gk : Int) := by omega
              obtain ⟨nn, hnn⟩ : ∃ nn, nn = (gk - 1) % 9 + 1 := ⟨_, rfl⟩
              have e1 : ((gk : Int) - 1) % 9 + 1 = (nn : Int) := by omega
              have hgb : gk ≤ 4000 := by have := HJG.out; omega
              have e2 : ((gk : Int) - 1).tmod 9 + 1 = (nn : Int) := by rw [Int.tmod_eq_emod_of_nonneg (by omega)]; exact e1
              have hn9 : nn ≤ 9 := by omega
              have hngk : nn ≤ gk := by omega
              have HNN := Lib.hid hnn; clear hnn
              obtain ⟨d1, hd1⟩ : ∃ d1, dd.extract 0 nn = d1 := ⟨_, rfl⟩
              obtain ⟨d2, hd2⟩ : ∃ d2, dd.extract nn dd.size = d2 := ⟨_, rfl⟩
              have hd1l : d1.data.toList = (m.drop j).take nn := by rw [← hd1]; exact ext_head HDD.out
              have hd2l : d2.data.toList = m.drop (j + nn) := by
                rw [← hd2, ext_list HDD.out (by rw [List.length_drop]; have := HJG.out; omega), List.drop_drop]
              have hd2z : d2.size = gk - nn := by rw [Lib.size_eq, hd2l, List.length_drop]; have := HJG.out; omega
              rw [hdz] at hd2
              have hall1 : ((m.drop j).take nn).all isD = true := by
                rw [List.all_eq_true]
                intro b hb
                exact List.all_eq_true.1 HALL.out b (List.mem_of_mem_drop (List.mem_of_mem_take hb))
              have hl9 : ((m.drop j).take nn).length = nn := by rw [List.length_take, List.length_drop]; have := HJG.out; omega
              have hval : val p * 1000000000 + decV ((m.drop j).take nn) 0 = decV (m.take (j + nn)) 0 := by
                rw [List.take_add, decV_append, decV_acc _ (decV (m.take j) 0), HPV.out, hl9]
                rcases H9.out with h | h
                · subst h
                  simp [decV]
                · have : nn = 9 := by have := HNN.out; omega
                  rw [this]
              have hrem : (gk - nn) % 9 = 0 := by have := HNN.out; omega
              have HD1 := Lib.hid hd1l; have HD2 := Lib.hid hd2l; have HA1 := Lib.hid hall1; have HL9 := Lib.hid hl9; have HVV := Lib.hid hval; have HREM := Lib.hid hrem; have HD2Z := Lib.hid hd2z
              clear hd1l hd2l hall1 hl9 hval hrem hd2z
              go_wp2_with fail
              refine (extend_any _ n p d1 _ w2 _ hex hown hpd (by omega) HD1.out HA1.out (by rw [HL9.out]; exact hn9)).mono ?_
              rintro e w5 ⟨u5, q5, rfl, hown5, hqd5, hqv5, hql5, hex5⟩
              rw [HVV.out] at hqv5
              have HQV := Lib.hid hqv5; clear hqv5
              go_wp2_with fail
              go_roundg (gk - nn)
              case measure => have := HNN.out; omega
              case rel => exact ⟨d2, j + nn, q5.length, q5, rfl, HD2.out, HD2Z.out, by have := HJG.out; omega, by have := HNN.out; omega, hown5, hqd5, HQV.out, .inr HREM.out, hex5⟩
            · obtain rfl : gk = 0 := by omega
              have hvm : val p = decV m 0 := by rw [HPV.out, List.take_of_length_le (by have := HJG.out; omega)]
              have HVM := Lib.hid hvm; clear hvm
              obtain ⟨A5, n5, c5, rfl, hR5⟩ := RM.of_own hown hpd
              go_wp2_with fail
              refine (result_any _ A5 n5 c5 _ _ hR5).mono ?_
              rintro e w7 ⟨v7, rfl, hret, hx7⟩
              rw [HVM.out, ← HP.out] at hret
              obtain ⟨u7, rfl, hI⟩ := hret
              obtain ⟨s7, A7, n7, c7, rfl, hI⟩ := hI.open_
              have hx8 := hx2.trans (hex.trans hx7)
              have b5 := b4.ext hx8
              have c5' := b5.cell
              have f5 := b5.frozen
              obtain ⟨k1, k2, k3, k4, k5⟩ := box_put0 (hE0.trans hx8) (Nat.le_refl _) b5 s7 A7 n7 c7
              have K1 := Lib.hid k1; have K2 := Lib.hid k2; have K5 := Lib.hid (k5 _ _ hI); clear k1 k2 k3 k4 k5
              go_wp2
              exact bp_int2 rfl rfl rfl K2.out ⟨_, rfl, ⟨_, rfl, K5.out⟩, K1.out⟩
end Go.Proofs.YtfdpbcjcinchgaaDoor
