/- Contract: the reference's Parse. -/
import Derived.Test.YtfdpbcjcinchgaaDoorPd
namespace Go.Proofs.YtfdpbcjcinchgaaDoor
open Go.RowKit
set_option linter.unusedVariables false

theorem sgn_take {l : List UInt8} {k : Nat} (hk : 0 < k) : sgnS (l.take k) = sgnS l := by
  unfold sgnS
  cases l with
  | nil => simp
  | cons b m =>
    obtain ⟨j, rfl⟩ : ∃ j, k = j + 1 := ⟨k - 1, by omega⟩
    rw [List.take_succ_cons]
    rfl
theorem body_step {l : List UInt8} {k : Nat} {b : UInt8} (hb : l[k]? = some b) (h45 : b.toNat ≠ 45) : bodyS (l.take (k + 1)) = bodyS (l.take k) ++ [b] := by
  have ht : l.take (k + 1) = l.take k ++ [b] := by rw [List.take_add_one, hb]; rfl
  rcases Nat.eq_zero_or_pos k with h0 | h0
  · subst h0
    cases l with
    | nil => simp at hb
    | cons c m =>
      simp at hb
      subst hb
      have := sgn_not (b := c) (l := []) h45
      simp [bodyS, this]
      rfl
  · unfold bodyS
    rw [sgn_take (by omega), sgn_take h0, ht]
    split
    · rw [List.tail_append_of_ne_nil]
      intro e
      have hl : k < l.length := (List.getElem?_eq_some_iff.1 hb).1
      have hlen := congrArg List.length e
      rw [List.length_take, List.length_nil, Nat.min_eq_left (by omega)] at hlen
      omega
    · rfl
theorem body_minus {l : List UInt8} {b : UInt8} (hb : l[0]? = some b) (h45 : b.toNat = 45) : bodyS (l.take 1) = [] := by
  cases l with
  | nil => simp at hb
  | cons c m =>
    simp at hb
    subst hb
    have := sgn_cons (b := c) (l := []) h45
    simp [bodyS, this]
theorem ok_digit {l : List UInt8} {k : Nat} {b : UInt8} (hok : okS l = true) (hb : l[k]? = some b) (hk : 0 < k ∨ b.toNat ≠ 45) : isD b = true := by
  unfold okS at hok
  rw [Bool.and_eq_true] at hok
  have hd := hok.1
  unfold decOk at hd
  simp only [Bool.and_eq_true] at hd
  have hall := hd.2
  refine List.all_eq_true.1 hall b ?_
  unfold bodyS
  split
  · rename_i hs
    cases l with
    | nil => simp at hb
    | cons c m =>
      cases k with
      | zero =>
        simp at hb
        subst hb
        unfold sgnS at hs
        simp at hs
        rcases hk with h | h
        · omega
        · exact absurd (by rw [hs]; rfl) h
      | succ j =>
        simp at hb
        exact List.mem_of_getElem? hb
  · exact List.mem_of_getElem? hb
theorem ok_len {l : List UInt8} (hok : okS l = true) : 0 < l.length := by
  cases l with
  | nil => simp [okS, bodyS, sgnS, decOk] at hok
  | cons => simp

set_option maxRecDepth 100000 in
set_option maxHeartbeats 6400000 in
theorem rParse_any (s : ByteArray) (l : List UInt8) (w : World) (hl : s.data.toList = l) (hb : l.length ≤ 5000) :
    Calls Tryd.prog 45 #[.string s] w fun e w' => ∃ v, e = .returned v ∧ RetI (parseR l) v w' ∧ Ext w w' := by
  have hsz : s.size = l.length := by rw [Lib.size_eq, hl]
  have HR : Hid (parseR l = if 4000 < s.size then (0, 4) else if okS l then resS (zOf (sgnS l) (decV (bodyS l) 0)) else (0, 6)) := Lib.hid (by rw [hsz]; rfl)
  have HL := Lib.hid hl; have HSZ := Lib.hid hsz
  have hbs : s.size ≤ 5000 := by omega
  have b4 : Blk (w.alloc (.cells #[.bool false, .slice none 0 0] 24)) w.heap.size 24 #[.bool false, .slice none 0 0] := Blk.new _ _ _
  have hE0 : Ext w (w.alloc (.cells #[.bool false, .slice none 0 0] 24)) := Ext.new _ _
  by_cases h4 : 4000 < s.size
  · have t1 : decide ((4000 : Int) < (s.size : Int)) = true := by simp; omega
    have t2 : (4000 : Int) < (s.size : Int) := by omega
    have HP : Hid (parseR l = (0, 4)) := Lib.hid (by rw [HR.out, if_pos h4])
    clear hl hsz hb
    go_enter Tryd.func45, Tryd.ntmps45
    go_wp2
    rw [HP.out]
    exact bp_int2 rfl rfl rfl b4 ⟨_, rfl, ⟨_, rfl, RI.zero _⟩, hE0⟩
  · have t1 : decide ((4000 : Int) < (s.size : Int)) = false := by simp; omega
    have t2 : ¬ (4000 : Int) < (s.size : Int) := by omega
    rw [if_neg h4] at HR
    cases hk : okS l
    · have HP : Hid (parseR l = (0, 6)) := Lib.hid (by rw [HR.out, hk]; rfl)
      have HK := Lib.hid hk; clear hk
      clear hl hsz
      go_enter Tryd.func45, Tryd.ntmps45
      go_wp2_with fail
      refine (rdecimal_any s l _ HL.out (by have := HSZ.out; omega)).mono ?_
      rintro e w2 ⟨rfl, hx2⟩
      rw [HK.out]
      have b5 := b4.ext hx2
      have c5 := b5.cell
      have f5 := b5.frozen
      obtain ⟨k1, k2, _⟩ := put2 (hE0.trans hx2) (Nat.le_refl _) b5 false none 0 0
      have K1 := Lib.hid k1; have K2 := Lib.hid k2; clear k1 k2
      go_wp2
      rw [HP.out]
      exact bp_int2 rfl rfl rfl K2.out ⟨_, rfl, ⟨_, rfl, RI.zero _⟩, K1.out⟩
    · have HP : Hid (parseR l = resS (zOf (sgnS l) (decV (bodyS l) 0))) := Lib.hid (by rw [HR.out, if_pos hk])
      have hpos := ok_len hk
      rw [← hsz] at hpos
      have HK := Lib.hid hk; clear hk
      obtain ⟨b0, hb0⟩ : ∃ b, l[0]? = some b := ⟨_, List.getElem?_eq_getElem (by rw [← hsz]; exact hpos)⟩
      have hx0 := get_at hl hb0 hpos
      have HB0 := Lib.hid hb0; clear hb0
      clear hl hsz hb
      go_enter Tryd.func45, Tryd.ntmps45
      go_wp2_with fail
      refine (rdecimal_any s l _ HL.out (by have := HSZ.out; omega)).mono ?_
      rintro e w2 ⟨rfl, hx2⟩
      rw [HK.out]
      go_wp2_with fail
      go_loopw [4, 5] (fun av i wr => ∃ (k n c : Nat) (A : Option Addr) (p : List Nat), k ≤ s.size ∧ i = .int .i64 (k : Int) ∧ av = .slice A n c ∧ RM wr A n c p ∧ n ≤ 2 * k ∧ val p = decV (bodyS (l.take k)) 0 ∧ Ext w2 wr) (fun _ i _ => s.size - (intOf i).toNat)
      case atStart => exact ⟨0, 0, 0, none, [], by omega, rfl, rfl, RM.nil, by omega, rfl, Ext.refl _⟩
      case round =>
        obtain ⟨k, n, c, A, p, hk, rfl, rfl, hA, hn, hpv, hex⟩ := hrel
        have HPV := Lib.hid hpv; clear hpv
        by_cases hlt : k < s.size
        · obtain ⟨bb, hbb⟩ : ∃ b, l[k]? = some b := ⟨_, List.getElem?_eq_getElem (by rw [← HSZ.out]; exact hlt)⟩
          have hxk := get_at HL.out hbb hlt
          by_cases h45 : bb.toNat = 45
          · have hk0 : k = 0 := by
              rcases Nat.eq_zero_or_pos k with h | h
              · exact h
              · have := ok_digit HK.out hbb (.inl h)
                unfold isD at this
                simp at this
                omega
            subst hk0
            have hbm := body_minus hbb h45
            rw [h45] at hxk
            have HBM := Lib.hid hbm
            clear hbb hbm h45 hx0
            go_wp2_with fail
            go_roundw
            case rel => exact ⟨1, n, c, A, p, by omega, by go_num, rfl, hA, by omega, by rw [HPV.out, HBM.out]; rfl, hex⟩
            case measure => simp [intOf] <;> omega
          · have hdig := ok_digit HK.out hbb (.inr h45)
            have hstep := body_step hbb h45
            have h48 : 48 ≤ bb.toNat ∧ bb.toNat ≤ 57 := by unfold isD at hdig; simpa using hdig
            have hdvb : dv bb = bb.toNat - 48 := rfl
            have HSTEP := Lib.hid hstep; have HDV := Lib.hid hdvb
            clear hbb hdig hstep hdvb
            generalize bb.toNat = nk at *
            have t45 : ((nk : Int) != 45) = true := by simp; omega
            have t45' : ¬ (nk : Int) = 45 := by omega
            have hdvn : dv bb = nk - 48 := HDV.out
            obtain ⟨dd, hdd⟩ : ∃ x, x = dv bb := ⟨_, rfl⟩
            have ed : (nk : Int) - 48 = (dd : Int) := by omega
            have hdd9 : dd ≤ 9 := by omega
            have HDD := Lib.hid hdd; clear hdd hdvn
            have hY : ∀ x : ExtOf wr, True := fun _ => trivial
            clear hx0
            go_wp2_with fail
            refine wp_region_ordE 10 [(true, 0), (true, 3), (true, 4), (true, 5), (true, 6), (true, 7), (false, 1), (false, 2), (false, 8), (false, 9)] (by kernel_rfl) (by kernel_rfl) ?_
            refine wpOrdT_quiet [0, 3, 4, 5, 6, 7] [(false, 1), (false, 2), (false, 8), (false, 9)] _ (by kernel_rfl) ?_
            simp only [nthOps, nthOp, List.cons_append, List.nil_append]
            repeat (go_big_quiet_step (fail))
            refine wpQuiet_nil ?_
            have hB_ : Ext wr wr.drew := (Ext.refl _).drew
            have hA1 := hA.ext hB_
            generalize wr.drew = wd at *
            refine wpOrdT_act 1 [(false, 2), (false, 8), (false, 9)] (by kernel_rfl) ?_
            intro K hK
            simp only [nthOp]
            go_wp2_with fail
            have hx10 := Ext.new wd (.cells #[.int .u32 10] 34)
            have h10 : RM (wd.alloc (.cells #[.int .u32 10] 34)) (some ⟨wd.heap.size, 0, none⟩) 1 1 [10] := RM.blk (Blk.new _ _ _) (Dig.one (by decide)) rfl (by decide)
            have hA2 := hA1.ext hx10
            replace hB_ := hB_.trans hx10
            refine hK _ _ ⟨⟨_, hB_⟩, rfl⟩ ?_
            clear hK K hx10
            generalize wd.alloc (.cells #[.int .u32 10] 34) = we at *
            generalize wd.heap.size = ge at *
            refine wpOrdT_act 2 [(false, 8), (false, 9)] (by kernel_rfl) ?_
            intro K hK
            simp only [nthOp]
            go_wp2_with fail
            refine (rtimes_any A (some ⟨ge, 0, none⟩) n 1 c 1 p [10] _ hA2 h10 (by omega) (by omega)).mono ?_
            rintro e w3 ⟨v3, rfl, ⟨A3, n3, c3, rfl, hT⟩, hx3⟩
            rw [show val [10] = 10 by rfl] at hT
            have hn3 : n3 ≤ n + 1 := by
              have h1 := hT.len
              have h2 := val_lt hA.dg
              rw [hA.len] at h2
              have h3 := digs_len_le (n := val p * 10) (k := n + 1) (by rw [Nat.pow_succ]; omega)
              omega
            replace hB_ := hB_.trans hx3
            go_wp2
            refine hK _ _ ⟨⟨w3, hB_⟩, rfl⟩ ?_
            clear hK K hx3
            refine wpOrdT_act 8 [(false, 9)] (by kernel_rfl) ?_
            intro K hK
            simp only [nthOp]
            go_wp2_with fail
            refine (rdigits_any dd _ (by omega)).mono ?_
            rintro e w4 ⟨v4, rfl, ⟨A4, n4, c4, rfl, hG⟩, hx4⟩
            have hn4 : n4 ≤ 1 := by
              have h1 := hG.len
              have h3 := digs_len_le (n := dd) (k := 1) (by omega)
              omega
            have hT4 := hT.ext hx4
            replace hB_ := hB_.trans hx4
            go_wp2
            refine hK _ _ ⟨⟨w4, hB_⟩, rfl⟩ ?_
            clear hK K hx4
            refine wpOrdT_act 9 [] (by kernel_rfl) ?_
            intro K hK
            simp only [nthOp]
            go_wp2_with fail
            refine (rplus_any A3 A4 n3 n4 c3 c4 _ _ _ hT4 hG (by omega) (by omega)).mono ?_
            rintro e w5 ⟨v5, rfl, ⟨l5, ⟨A5, n5, c5, rfl, hS⟩, hval5, hlen5⟩, hx5⟩
            rw [val_digs, val_digs] at hval5
            have hn5 : n5 ≤ n + 2 := by have := hS.len; omega
            have HV5 := Lib.hid hval5; clear hval5 hlen5
            replace hB_ := hB_.trans hx5
            go_wp2
            refine hK _ _ ⟨⟨w5, hB_⟩, rfl⟩ ?_
            clear hK K hx5
            simp only [wpOrdT, List.drop_succ_cons, List.drop_zero]
            go_wp2_with fail
            go_roundw
            case rel => exact ⟨k + 1, n5, c5, A5, l5, by omega, by go_num, rfl, hS, by omega, by rw [HV5.out, HSTEP.out, decV_snoc, ← HPV.out, ← HDD.out], hex.trans hB_⟩
            case measure => simp [intOf] <;> omega
        · have hke : k = s.size := by omega
          subst hke
          have hvm : val p = decV (bodyS l) 0 := by rw [HPV.out, List.take_of_length_le (by rw [← HSZ.out]; exact Nat.le_refl _)]
          have HVM := Lib.hid hvm; clear hvm
          have esg : ((b0.toNat : Int) == 45) = sgnS l := by
            have hb := HB0.out
            cases l with
            | nil => simp at hb
            | cons c m =>
              simp at hb
              subst hb
              by_cases h : c.toNat = 45
              · rw [sgn_cons h, h]; rfl
              · rw [sgn_not h]; simp; omega
          go_wp2_with fail
          refine (rmade_any (sgnS l) A n c p _ hA (by omega)).mono ?_
          rintro e w6 ⟨v6, rfl, hI6, hx6⟩
          rw [HVM.out] at hI6
          go_wp2_with fail
          refine (rresult_any v6 _ _ hI6).mono ?_
          rintro e w7 ⟨v7, rfl, hret, hx7⟩
          rw [← HP.out] at hret
          obtain ⟨u7, rfl, hI⟩ := hret
          obtain ⟨s7, A7, n7, c7, rfl, hI⟩ := hI.open_
          have hx8 := hx2.trans (hex.trans (hx6.trans hx7))
          have b5 := b4.ext hx8
          have c5' := b5.cell
          have f5 := b5.frozen
          obtain ⟨k1, k2, k3, k4, k5⟩ := box_put0 (hE0.trans hx8) (Nat.le_refl _) b5 s7 A7 n7 c7
          have K1 := Lib.hid k1; have K2 := Lib.hid k2; have K5 := Lib.hid (k5 _ _ hI); clear k1 k2 k3 k4 k5
          go_wp2
          exact bp_int2 rfl rfl rfl K2.out ⟨_, rfl, ⟨_, rfl, K5.out⟩, K1.out⟩
end Go.Proofs.YtfdpbcjcinchgaaDoor
