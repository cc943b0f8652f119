/- Linear: echelon. -/
import Derived.Test.YtclkkoiaaddllaaGreatQYjdmcc
import Derived.WalkMore
import Derived.Deep.LoopGhost
namespace Go.Proofs.YtclkkoiaaddllaaGreat
open Go.RowKit
set_option linter.unusedVariables false

set_option maxRecDepth 100000 in
set_option maxHeartbeats 6400000 in
theorem fechelon_w (gf Ga Gb m cA cB na nb N : Nat) (PA PB T : Nat → Prop) (Z : Nat → Nat → GQ) (w : World) (h : EI w gf Ga Gb m na nb PA PB Z) (hab : Ga ≠ Gb) (hd : ∀ g, PA g → PB g → False) (hT : T Ga ∧ T Gb ∧ (∀ g, PA g → T g) ∧ ∀ g, PB g → T g)
    (hna0 : m = 0 → na = 0) (hm : m ≤ 24) (hna : na ≤ 24) (hnb : nb ≤ 24) (hN : 4 * N + 67 ≤ 12800) (hroom : Room N m na nb Z) (hw : ∀ w', Ext w w' → Calls Tryz.prog 34 #[.slice (some ⟨Ga, 0, none⟩) m cA] w' fun e w'' => e = .returned (.int .i64 na) ∧ Ext w' w'') :
    Calls Tryz.prog 30 #[.pointer (some ⟨gf, 0, none⟩), .slice (some ⟨Ga, 0, none⟩) m cA, .slice (some ⟨Gb, 0, none⟩) m cB] w fun e w' => e = .returned (.tuple #[.int .i64 (ech m Z na).r, .bool (ech m Z na).odd]) ∧
      EI w' gf Ga Gb m na nb PA PB (ech m Z na).X ∧ Mod T w w' := by
  have HH := Lib.hid h; have HR := Lib.hid hroom; have HT := Lib.hid hT; have HD := Lib.hid hd
  clear h hroom hT hd
  go_enter Tryz.func30, Tryz.ntmps30
  go_wp2_with fail
  go_step3
  go_wp2_with fail
  go_step3
  go_wp2_with fail
  refine (hw _ (Ext.refl _)).mono ?_
  rintro e w1 ⟨rfl, hx1⟩
  have HX1 := Lib.hid hx1; clear hx1 hw
  go_wp2_with fail
  go_loopw [6, 7, 13] (fun r o i wr => ∃ c : Nat, c ≤ na ∧ i = .int .i64 c ∧ r = .int .i64 (ech m Z c).r ∧ o = .bool (ech m Z c).odd ∧ EI wr gf Ga Gb m na nb PA PB (ech m Z c).X ∧ Mod T w wr) (fun _ _ i _ => na - (intOf i).toNat)
  case atStart => 
    obtain ⟨h1, ⟨R, h2⟩, ⟨R2, h3⟩⟩ := HH.out
    exact ⟨0, by omega, rfl, rfl, rfl, ⟨h1.ext HX1.out, ⟨R, h2.ext HX1.out⟩, ⟨R2, h3.ext HX1.out⟩⟩, Mod.of HX1.out⟩
  case round =>
    obtain ⟨c, hc, rfl, rfl, rfl, hEI, hmod⟩ := hrel
    have HE := Lib.hid hEI; have HM := Lib.hid hmod; clear hEI hmod HH HX1
    by_cases hlt : c < na
    · have hd : decide ((c : Int) < (na : Int)) = true := by simp; omega
      obtain ⟨o, P, hinv⟩ := ech_inv m Z c
      have hrm := hinv.rm
      have HZ := Lib.hid hinv.z
      clear hinv
      generalize hs : ech m Z c = s at *
      have HS := Lib.hid hs; clear hs
      by_cases hfull : s.r = m
      · have df : ((s.r : Int) == (m : Int)) = true := by simp [hfull]
        have hst : ech m Z na = s := by rw [← HS.out]; exact ech_stop (by rw [HS.out]; exact hfull) na (by omega)
        have HST := Lib.hid hst; clear hst hfull
        go_wp2_with fail
        rw [Exit.noGoto_ret]
        refine bp_tmps2 rfl rfl ?_
        rw [HST.out]
        exact ⟨rfl, HE.out, HM.out⟩
      · have df : ((s.r : Int) == (m : Int)) = false := by simp; omega
        have hrl : s.r < m := by omega
        clear hfull
        go_wp2_with fail
        go_loopw [9] (fun i w2 => ∃ k : Nat, s.r ≤ k ∧ k < m ∧ i = .int .i64 k ∧ (∀ i, s.r ≤ i → i < k → s.X i c = GQ.i 0 0) ∧ Ext wr w2) (fun i _ => m - (intOf i).toNat)
        case atStart => exact ⟨s.r, Nat.le_refl _, hrl, rfl, by intros; omega, Ext.refl _⟩
        case round =>
          clear hd df
          obtain ⟨k, hk1, hk2, rfl, hz, hx⟩ := hrel
          have HX := Lib.hid hx; have HZK := Lib.hid hz; clear hx hz
          obtain ⟨hcalm, ⟨R, hA⟩, ⟨R2, hB⟩⟩ := HE.out
          obtain ⟨hRA, f, hf, hv⟩ := hA.row k hk2 (by omega)
          have k1 := hA.cell hk2
          rw [hRA] at k1
          replace k1 := HX.out.cell_ k1
          obtain ⟨a0, a1, a2, a3, a4, a5⟩ := RowIs.cells (hf.ext HX.out) hlt rfl
          have d1 : decide ((k : Int) < (m : Int)) = true := by simp; omega
          have d2 : decide ((c : Int) < (na : Int)) = true := by simp; omega
          have HV := Lib.hid ((hv c hlt).ext HX.out)
          clear hv hf hcalm hA hB
          go_wp2_with fail
          refine (xZero_of _ _ _ _ HV.out (by omega)).mono ?_
          rintro e w3 ⟨rfl, hx3⟩
          have HX3 := Lib.hid (HX.out.trans hx3); clear hx3 k1 a0 a1 a2 a3 a4 a5
          by_cases h0 : s.X k c = GQ.i 0 0
          · rw [decide_eq_true h0]
            have HZ1 : Hid (∀ i, s.r ≤ i → i < k + 1 → s.X i c = GQ.i 0 0) := Lib.hid fun i h1 h2 => by
              by_cases e : i = k
              · subst e; exact h0
              · exact HZK.out i h1 (by omega)
            clear h0
            by_cases hlast : k + 1 = m
            · have dl : (((k : Int) + 1) == (m : Int)) = true := by simp; omega
              have hnx : ech m Z (c + 1) = s := by
                show estep m c (ech m Z c) = s
                rw [HS.out]
                exact estep_none (fp_none fun i h1 h2 => HZ1.out i h1 (by omega))
              have HNX := Lib.hid hnx; clear hnx
              go_wp2_with fail
              refine ⟨⟨c + 1, by omega, by go_num, by rw [HNX.out], by rw [HNX.out], ?_, HM.out.trans (Mod.of HX3.out)⟩, by simp [intOf]; omega⟩
              rw [HNX.out]
              obtain ⟨h1, ⟨R, h2⟩, ⟨R2, h3⟩⟩ := HE.out
              exact ⟨h1.ext HX3.out, ⟨R, h2.ext HX3.out⟩, ⟨R2, h3.ext HX3.out⟩⟩
            · have dl : (((k : Int) + 1) == (m : Int)) = false := by simp; omega
              go_wp2_with fail
              go_roundw
              case rel => exact ⟨k + 1, by omega, by omega, by go_num, HZ1.out, HX3.out⟩
              case measure => simp [intOf]; omega
          · rw [decide_eq_false h0]
            have hfp : ech m Z (c + 1) = ⟨s.r + 1, clr (fun i => s.X (swp k s.r i)) s.r c, s.odd ^^ decide (k ≠ s.r), c :: s.q⟩ := by
              show estep m c (ech m Z c) = _
              rw [HS.out]
              exact estep_some (fp_some hk1 (by omega) HZK.out h0)
            have HFP := Lib.hid hfp; clear hfp
            have HE3 : Hid (EI w3 gf Ga Gb m na nb PA PB s.X) := Lib.hid (by
              obtain ⟨h1, ⟨R, h2⟩, ⟨R2, h3⟩⟩ := HE.out
              exact ⟨h1.ext HX3.out, ⟨R, h2.ext HX3.out⟩, ⟨R2, h3.ext HX3.out⟩⟩)
            have HM3 := Lib.hid (HM.out.trans (Mod.of HX3.out))
            clear HE HM HX HX3 HZK hRA HV d1 d2
            have HNZ := Lib.hid h0
            have HKB := Lib.hid (And.intro hk1 hk2)
            have HSW : Hid (∀ i, s.r < i → i < m → s.r ≤ swp k s.r i ∧ swp k s.r i < m) := Lib.hid fun i h1 h2 => ⟨by unfold swp; split <;> (try split) <;> omega, swp_lt hk2 hrl h2⟩
            have HRM : Hid ((s.r + 1 < m → ∀ i j, s.r ≤ i → i < m → j < na + nb → Bd (s.X i j) N) ∧ (s.r + 1 < m → ∀ i k, s.r ≤ i → i < m → s.r ≤ k → k < m → s.X k c ≠ GQ.i 0 0 → Bd (s.X i c / s.X k c) N)) := Lib.hid (by
              have := HR.out c hlt
              rw [HS.out] at this
              exact ⟨fun h => (this h).1, fun h => (this h).2⟩)
            clear h0
            by_cases hkr : k = s.r
            · subst hkr
              have dne : ((s.r : Int) != (s.r : Int)) = false := by simp
              go_wp2_with fail
              have HE4 : Hid (EI w3 gf Ga Gb m na nb PA PB (fun i => s.X (swp s.r s.r i))) := Lib.hid (by
                have e : (fun i => s.X (swp s.r s.r i)) = s.X := by funext i; rw [swp_self]
                rw [e]; exact HE3.out)
              have HM4 := HM3
              clear HE3 HM3
              go_loopw [10] (fun i w2 => ∃ i' : Nat, s.r + 1 ≤ i' ∧ i' ≤ m ∧ i = .int .i64 i' ∧ EI w2 gf Ga Gb m na nb PA PB (clru (fun i => s.X (swp s.r s.r i)) s.r c i') ∧ Mod T w w2) (fun i _ => m - (intOf i).toNat)
              case atStart =>
                refine ⟨s.r + 1, Nat.le_refl _, by omega, by go_num, ?_, ?_⟩
                · rw [clru_start]; first | exact HE4.out | exact HE4.out.ext (Ext.refl _).drew | exact HE4.out.ext (Ext.refl _).drew.drew
                · first | exact HM4.out | exact HM4.out.trans (Mod.of (Ext.refl _).drew) | exact HM4.out.trans (Mod.of (Ext.refl _).drew.drew)
              case round =>
                obtain ⟨i', hi1, hi2, rfl, hE, hM⟩ := hrel
                have HEL := Lib.hid hE; have HML := Lib.hid hM; clear hE hM
                by_cases hil : i' < m
                · have q1 : decide ((i' : Int) < (m : Int)) = true := by simp; omega
                  go_wp2_with fail
                  refine (fclear_e gf Ga Gb m cA cB na nb s.r i' c N PA PB T (clru (fun i => s.X (swp s.r s.r i)) s.r c i') _ HEL.out HD.out HT.out hil (by omega) hlt hm hna hnb ?_ ?_ ?_ ?_ ?_ hN).mono ?_
                  · unfold clru; rw [if_neg (by omega)]; simp only [swp_r]; exact HNZ.out
                  · intro j hj
                    unfold clru; rw [if_neg (by omega)]; simp only [swp_r]; exact HZ.out _ _ HKB.out.1 HKB.out.2 hj
                  · intro j hj
                    unfold clru; rw [if_neg (by omega)]
                    exact HRM.out.1 (by omega) _ _ (HSW.out i' (by omega) hil).1 (HSW.out i' (by omega) hil).2 hj
                  · intro j hj
                    unfold clru; rw [if_neg (by omega)]; simp only [swp_r]
                    exact HRM.out.1 (by omega) _ _ HKB.out.1 HKB.out.2 hj
                  · unfold clru; rw [if_neg (by omega), if_neg (by omega)]; simp only [swp_r]
                    exact HRM.out.2 (by omega) _ _ (HSW.out i' (by omega) hil).1 (HSW.out i' (by omega) hil).2 HKB.out.1 HKB.out.2 HNZ.out
                  rintro e w7 ⟨rfl, hE7, hM7⟩
                  have HE7 := Lib.hid hE7; have HM7 := Lib.hid (HML.out.trans hM7)
                  clear hE7 hM7 HEL HML
                  go_wp2_with fail
                  go_roundw
                  case rel =>
                    refine ⟨i' + 1, by omega, by omega, by go_num, ?_, HM7.out⟩
                    rw [← clru_succ _ (by omega)]; exact HE7.out
                  case measure => simp [intOf]; omega
                · obtain rfl : i' = m := by omega
                  have q1 : decide ((i' : Int) < (i' : Int)) = false := by simp
                  have e0 := HEL.out.calm.cell
                  go_wp2_with fail
                  refine ⟨⟨c + 1, by omega, by go_num, by rw [HFP.out]; go_num, by rw [HFP.out]; simp, ?_, HML.out⟩, by simp [intOf]; omega⟩
                  rw [HFP.out]
                  refine HEL.out.congr fun i j hi => ?_
                  show clru (fun i => s.X (swp s.r s.r i)) s.r c i' i j = clr (fun i => s.X (swp s.r s.r i)) s.r c i j
                  unfold clru clr
                  by_cases h : s.r < i
                  · rw [if_pos ⟨h, hi⟩, if_pos h]
                  · rw [if_neg (fun e => h e.1), if_neg h]
            · have dne : ((k : Int) != (s.r : Int)) = true := by simp; omega
              obtain ⟨hcalm, ⟨R, hA⟩, ⟨R2, hB⟩⟩ := HE3.out
              have HA := Lib.hid hA; have HB := Lib.hid hB; have HC := Lib.hid hcalm
              have k1 := hA.cell hk2; have k2 := hA.cell hrl
              have f1 := hA.out.frozen
              clear hA hB hcalm
              have q1 : decide ((k : Int) < (m : Int)) = true := by simp; omega
              have q2 : decide ((s.r : Int) < (m : Int)) = true := by simp; omega
              go_wp2_with fail
              go_region
              obtain ⟨hA2, hmA⟩ := HA.out.swap hk2 hrl
              have hfarA : Far (fun g => g = Ga) w3 := fun g hg _ => by subst hg; exact ⟨_, _, HA.out.out, noInt_slices _ _⟩
              have hB2 := HB.out.mod hmA hfarA (by exact fun e => hab e.symm) (fun j hj hn => HB.out.ne hj hn HA.out.out)
              have hC2 : CalmF _ gf := Blk.mod HC.out hmA (by exact fun e => HC.out.ne_t HA.out.out (by decide) e)
              have HA2 := Lib.hid hA2; have HB2 := Lib.hid hB2; have HC2 := Lib.hid hC2; have HMA := Lib.hid hmA
              clear hA2 hB2 hC2 hmA hfarA k1 k2 f1
              generalize hW4 : World.setCell _ _ _ = w4 at HA2 HB2 HC2 HMA ⊢
              clear hW4
              have k1 := HB2.out.cell hk2; have k2 := HB2.out.cell hrl
              have f1 := HB2.out.out.frozen
              go_wp2_with fail
              go_region
              obtain ⟨hB3, hmB⟩ := HB2.out.swap hk2 hrl
              have hfarB : Far (fun g => g = Gb) w4 := fun g hg _ => by subst hg; exact ⟨_, _, HB2.out.out, noInt_slices _ _⟩
              have hA3 := HA2.out.mod hmB hfarB (by exact hab) (fun j hj hn => HA2.out.ne hj hn HB2.out.out)
              have hC3 : CalmF _ gf := Blk.mod HC2.out hmB (by exact fun e => HC2.out.ne_t HB2.out.out (by decide) e)
              have HE4' := Lib.hid (EI.mk hC3 ⟨_, hA3⟩ ⟨_, hB3⟩)
              have HM4 := Lib.hid ((HM3.out.trans (HMA.out.mono (T := T) (fun g hg => by subst hg; exact HT.out.1))).trans (hmB.mono (T := T) (fun g hg => by subst hg; exact HT.out.2.1)))
              clear hB3 hmB hfarB hA3 hC3 HA2 HB2 HC2 HMA HA HB HC HM3 HE3 k1 k2 f1
              generalize hW5 : World.setCell _ _ _ = w5 at HE4' HM4 ⊢
              clear hW5
              have HE4 : Hid (EI w5 gf Ga Gb m na nb PA PB (fun i => s.X (swp k s.r i))) := Lib.hid HE4'.out
              clear HE4'
              go_wp2_with fail
              go_loopw [10] (fun i w2 => ∃ i' : Nat, s.r + 1 ≤ i' ∧ i' ≤ m ∧ i = .int .i64 i' ∧ EI w2 gf Ga Gb m na nb PA PB (clru (fun i => s.X (swp k s.r i)) s.r c i') ∧ Mod T w w2) (fun i _ => m - (intOf i).toNat)
              case atStart =>
                refine ⟨s.r + 1, Nat.le_refl _, by omega, by go_num, ?_, ?_⟩
                · rw [clru_start]; first | exact HE4.out | exact HE4.out.ext (Ext.refl _).drew | exact HE4.out.ext (Ext.refl _).drew.drew
                · first | exact HM4.out | exact HM4.out.trans (Mod.of (Ext.refl _).drew) | exact HM4.out.trans (Mod.of (Ext.refl _).drew.drew)
              case round =>
                obtain ⟨i', hi1, hi2, rfl, hE, hM⟩ := hrel
                have HEL := Lib.hid hE; have HML := Lib.hid hM; clear hE hM
                by_cases hil : i' < m
                · have q1 : decide ((i' : Int) < (m : Int)) = true := by simp; omega
                  go_wp2_with fail
                  refine (fclear_e gf Ga Gb m cA cB na nb s.r i' c N PA PB T (clru (fun i => s.X (swp k s.r i)) s.r c i') _ HEL.out HD.out HT.out hil (by omega) hlt hm hna hnb ?_ ?_ ?_ ?_ ?_ hN).mono ?_
                  · unfold clru; rw [if_neg (by omega)]; simp only [swp_r]; exact HNZ.out
                  · intro j hj
                    unfold clru; rw [if_neg (by omega)]; simp only [swp_r]; exact HZ.out _ _ HKB.out.1 HKB.out.2 hj
                  · intro j hj
                    unfold clru; rw [if_neg (by omega)]
                    exact HRM.out.1 (by omega) _ _ (HSW.out i' (by omega) hil).1 (HSW.out i' (by omega) hil).2 hj
                  · intro j hj
                    unfold clru; rw [if_neg (by omega)]; simp only [swp_r]
                    exact HRM.out.1 (by omega) _ _ HKB.out.1 HKB.out.2 hj
                  · unfold clru; rw [if_neg (by omega), if_neg (by omega)]; simp only [swp_r]
                    exact HRM.out.2 (by omega) _ _ (HSW.out i' (by omega) hil).1 (HSW.out i' (by omega) hil).2 HKB.out.1 HKB.out.2 HNZ.out
                  rintro e w7 ⟨rfl, hE7, hM7⟩
                  have HE7 := Lib.hid hE7; have HM7 := Lib.hid (HML.out.trans hM7)
                  clear hE7 hM7 HEL HML
                  go_wp2_with fail
                  go_roundw
                  case rel =>
                    refine ⟨i' + 1, by omega, by omega, by go_num, ?_, HM7.out⟩
                    rw [← clru_succ _ (by omega)]; exact HE7.out
                  case measure => simp [intOf]; omega
                · obtain rfl : i' = m := by omega
                  have q1 : decide ((i' : Int) < (i' : Int)) = false := by simp
                  have e0 := HEL.out.calm.cell
                  go_wp2_with fail
                  refine ⟨⟨c + 1, by omega, by go_num, by rw [HFP.out]; go_num, by rw [HFP.out]; simp [hkr], ?_, HML.out⟩, by simp [intOf]; omega⟩
                  rw [HFP.out]
                  refine HEL.out.congr fun i j hi => ?_
                  show clru (fun i => s.X (swp k s.r i)) s.r c i' i j = clr (fun i => s.X (swp k s.r i)) s.r c i j
                  unfold clru clr
                  by_cases h : s.r < i
                  · rw [if_pos ⟨h, hi⟩, if_pos h]
                  · rw [if_neg (fun e => h e.1), if_neg h]
    · obtain rfl : c = na := by omega
      have hd : decide ((c : Int) < (c : Int)) = false := by simp
      go_wp2_with fail
      rw [Exit.noGoto_ret]
      exact bp_tmps2 rfl rfl ⟨rfl, HE.out, HM.out⟩
end Go.Proofs.YtclkkoiaaddllaaGreat
