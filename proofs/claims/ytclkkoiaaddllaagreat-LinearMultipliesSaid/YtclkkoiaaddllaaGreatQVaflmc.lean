/- Linear: the reference's Matrix; the laws' small. -/
import Derived.Test.YtclkkoiaaddllaaGreatQYweipc
namespace Go.Proofs.YtclkkoiaaddllaaGreat
open Go.RowKit
set_option linter.unusedVariables false

section
variable {w w' : World} {A : Option Addr} {B O m c : Nat} {R : Nat → Rw} {E : Nat → Nat → En}
set_option maxRecDepth 100000 in
set_option maxHeartbeats 3200000 in
theorem qMatrix_any (h : Mem w A B O m R E) {vb : Nat → Nat → Bool} (hv : ∀ i j, i < m → j < (R i).n → VB w (E i j).v (vb i j)) (b : Bool) (hb : b = true ↔ IsM m R vb) :
    Calls Tryz.prog 15 #[.slice A m c] w fun e w' => e = .returned (.bool b) ∧ Ext w w' := by
  have HM := Lib.hid h; have HV := Lib.hid hv
  have hm0 : (0 : Int) ≤ (m : Int) := by omega
  by_cases h24 : 24 < m
  · have d24 : decide ((24 : Int) < (m : Int)) = true := by simp; omega
    have hF : b = false := by cases b <;> simp_all [IsM]; omega
    subst hF
    clear h hv hb h24
    go_enter Tryz.func15, Tryz.ntmps15
    go_wp2_with fail
    go_ret
    exact ⟨rfl, Ext.refl _⟩
  have d24 : decide ((24 : Int) < (m : Int)) = false := by simp; omega
  have HB := Lib.hid hb; clear hb
  have h24' : m ≤ 24 := by omega
  clear h hv
  go_enter Tryz.func15, Tryz.ntmps15
  go_wp2_with fail
  go_loopw [12] (fun i wr => ∃ k : Nat, k ≤ m ∧ i = .int .i64 k ∧ (∀ i, i < k → (R i).n = (R 0).n ∧ (R i).n ≤ 24 ∧ ∀ j, j < (R i).n → vb i j = true) ∧ Ext w wr) (fun i _ => m - (intOf i).toNat)
  case atStart => exact ⟨0, by omega, rfl, by intros; omega, Ext.refl _⟩
  case round =>
    obtain ⟨k, hk, rfl, hall, hx⟩ := hrel
    have HA := Lib.hid hall; have HX := Lib.hid hx; clear hall hx
    by_cases hlt : k < m
    · have hd : decide ((k : Int) < (m : Int)) = true := by simp; omega
      have hA := HM.out.at0 (by omega)
      have hr := HM.out.rowc hlt HX.out
      have hr0 : _ := HM.out.rowc (i := 0) (by omega) HX.out
      rw [Nat.add_zero] at hr0
      subst hA
      have q0 : (0 : Int) < (m : Int) := by omega
      by_cases hn : (R k).n = (R 0).n
      · have dn : (((R k).n : Int) != ((R 0).n : Int)) = false := by simp [hn]
        have HN := Lib.hid hn; clear hn
        by_cases h25 : 24 < (R k).n
        · have d25 : decide ((24 : Int) < ((R k).n : Int)) = true := by simp; omega
          have hF : b = false := by
            cases b
            · rfl
            · have := (HB.out.1 rfl).2.1
              unfold wd at this
              rw [if_neg (by omega), ← HN.out] at this; omega
          subst hF
          clear h25
          go_wp2_with fail
          go_ret
          exact ⟨rfl, HX.out⟩
        have d25 : decide ((24 : Int) < ((R k).n : Int)) = false := by simp; omega
        have H25 := Lib.hid (show (R k).n ≤ 24 by omega); clear h25
        go_wp2_with fail
        go_loopw [30] (fun i wr => ∃ k' : Nat, k' ≤ (R k).n ∧ i = .int .i64 k' ∧ (∀ j, j < k' → vb k j = true) ∧ Ext w wr) (fun i _ => (R k).n - (intOf i).toNat)
        case atStart => exact ⟨0, by omega, rfl, by intros; omega, HX.out⟩
        case round =>
          clear hd hr hr0
          obtain ⟨j, hj, rfl, hall, hx⟩ := hrel
          have HA3 := Lib.hid hall; have HX3 := Lib.hid hx; clear hall hx
          by_cases hjt : j < (R k).n
          · have hd : decide ((j : Int) < ((R k).n : Int)) = true := by simp; omega
            have hRA := HM.out.ra k hlt (by omega)
            have hln := HM.out.ln k hlt
            obtain ⟨c0, c1, c2, c3, c4, c5⟩ := HM.out.cells hlt hjt HX3.out
            rw [hRA]
            generalize hvb : vb k j = bv
            have HVB : Hid (VB w (E k j).v bv) := Lib.hid (hvb ▸ HV.out k j hlt hjt)
            have HVQ := Lib.hid hvb; clear hvb
            have HE := Lib.hid (HX3.out.alloc (.cells #[.bool (E k j).s1, .slice (E k j).A1 (E k j).n1 (E k j).c1, .bool (E k j).s2, .slice (E k j).A2 (E k j).n2 (E k j).c2, .bool (E k j).s3, .slice (E k j).A3 (E k j).n3 (E k j).c3] 32))
            go_wp2_with fail
            refine ((HVB.out.ext HE.out).q).mono ?_
            rintro e w4 ⟨rfl, hx4⟩
            cases bv
            · have hF : b = false := by
                cases b
                · rfl
                · have := (HB.out.1 rfl).2.2.2 k j hlt hjt
                  rw [HVQ.out] at this; cases this
              subst hF
              go_wp2_with fail
              go_ret
              exact ⟨rfl, HE.out.trans hx4⟩
            · go_wp2_with fail
              go_roundw
              case rel =>
                refine ⟨j + 1, by omega, by go_num, fun i hi => ?_, HE.out.trans hx4⟩
                by_cases e : i = j
                · subst e; exact HVQ.out
                · exact HA3.out i (by omega)
              case measure => simp [intOf]; omega
          · obtain rfl : j = (R k).n := by omega
            have hd : decide (((R k).n : Int) < ((R k).n : Int)) = false := by simp
            go_wp2_with fail
            go_roundw
            case rel =>
              refine ⟨k + 1, by omega, by go_num, fun i hi => ?_, HX3.out⟩
              by_cases e : i = k
              · subst e; exact ⟨HN.out, H25.out, HA3.out⟩
              · exact HA.out i (by omega)
            case measure => simp [intOf]; omega
      · have dn : (((R k).n : Int) != ((R 0).n : Int)) = true := by simp; omega
        have hF : b = false := by
          cases b
          · rfl
          · have h1 := (HB.out.1 rfl).2.2.1 k hlt
            have h2 := (HB.out.1 rfl).2.2.1 0 (by omega)
            exact absurd (h1.trans h2.symm) hn
        subst hF
        clear hn
        go_wp2_with fail
        go_ret
        exact ⟨rfl, HX.out⟩
    · obtain rfl : k = m := by omega
      have hd : decide ((k : Int) < (k : Int)) = false := by simp
      have hT : b = true := by
        refine HB.out.2 ⟨h24', ?_, fun i hi => ?_, fun i j hi hj => (HA.out i hi).2.2 j hj⟩
        · unfold wd
          split
          · omega
          · exact (HA.out 0 (by omega)).2.1
        · unfold wd
          rw [if_neg (by omega)]
          exact (HA.out i hi).1
      subst hT
      clear hlt
      go_wp2_with fail
      go_ret
      exact ⟨rfl, HX.out⟩
end
/-- Small enough for the laws. -/
def Sml (m : Nat) (R : Nat → Rw) (E : Nat → Nat → En) : Prop := m ≤ 6 ∧ (∀ i, i < m → (R i).n ≤ 6) ∧ ∀ i j, i < m → j < (R i).n → (E i j).n1 ≤ 1 ∧ (E i j).n2 ≤ 1 ∧ (E i j).n3 ≤ 1
set_option maxRecDepth 100000 in
set_option maxHeartbeats 3200000 in
theorem small_any {w : World} {g p c : Nat} {fA : Nat → Option Addr} {fB fO fm fc : Nat → Nat} {fR : Nat → Nat → Rw} {fE : Nat → Nat → Nat → En} (hM : ∀ k, k < p → Mem w (fA k) (fB k) (fO k) (fm k) (fR k) (fE k)) (hg : ∀ k, k < p → w.cell? ⟨g, k, none⟩ = some (.slice (fA k) (fm k) (fc k)))
    (hp : p ≤ 1000) (b : Bool) (hb : b = true ↔ ∀ k, k < p → Sml (fm k) (fR k) (fE k)) :
    Calls Tryz.prog 8 #[.slice (some ⟨g, 0, none⟩) p c] w fun e w' => e = .returned (.bool b) ∧ Ext w w' := by
  have HM := Lib.hid hM; have HG := Lib.hid hg; have HB := Lib.hid hb
  clear hM hg hb
  go_enter Tryz.func8, Tryz.ntmps8
  go_wp2_with fail
  go_loopw [11] (fun i wr => ∃ k : Nat, k ≤ p ∧ i = .int .i64 k ∧ (∀ i, i < k → Sml (fm i) (fR i) (fE i)) ∧ Ext w wr) (fun i _ => p - (intOf i).toNat)
  case atStart => exact ⟨0, by omega, rfl, by intros; omega, Ext.refl _⟩
  case round =>
    obtain ⟨t, ht, rfl, hall, hx⟩ := hrel
    have HT := Lib.hid hall; have HX0 := Lib.hid hx; clear hall hx
    by_cases htp : t < p
    · have hd : decide ((t : Int) < (p : Int)) = true := by simp; omega
      have hc := HX0.out.cell_ (HG.out t htp)
      have Hm := Lib.hid (HM.out t htp)
      have HBt := Lib.hid (fun (h : b = true) => HB.out.1 h t htp)
      generalize fA t = A at hc Hm
      generalize fB t = B at Hm
      generalize fO t = O at Hm
      generalize hfm : fm t = m at hc Hm HBt
      generalize fc t = cc at hc
      generalize hfR : fR t = R at Hm HBt
      generalize hfE : fE t = E at Hm HBt
      have HQ := Lib.hid (show ∀ (h : Sml m R E), Sml (fm t) (fR t) (fE t) from fun h => by rw [hfm, hfR, hfE]; exact h)
      clear hfm hfR hfE
      by_cases h6 : 6 < m
      · have d6 : decide ((6 : Int) < (m : Int)) = true := by simp; omega
        have hF : b = false := by
          cases b
          · rfl
          · have := (HBt.out rfl).1; omega
        subst hF
        clear h6
        go_wp2_with fail
        go_ret
        exact ⟨rfl, HX0.out⟩
      have d6 : decide ((6 : Int) < (m : Int)) = false := by simp; omega
      have H6 := Lib.hid (show m ≤ 6 by omega); clear h6
      have hm0 : (0 : Int) ≤ (m : Int) := by omega
      go_wp2_with fail
      go_loopw [20] (fun i wr => ∃ k : Nat, k ≤ m ∧ i = .int .i64 k ∧ (∀ i, i < k → (R i).n ≤ 6 ∧ ∀ j, j < (R i).n → (E i j).n1 ≤ 1 ∧ (E i j).n2 ≤ 1 ∧ (E i j).n3 ≤ 1) ∧ Ext w wr) (fun i _ => m - (intOf i).toNat)
      case atStart => exact ⟨0, by omega, rfl, by intros; omega, HX0.out⟩
      case round =>
        clear hd hc d6
        obtain ⟨k, hk, rfl, hall, hx⟩ := hrel
        have HA := Lib.hid hall; have HX := Lib.hid hx; clear hall hx
        by_cases hlt : k < m
        · have hd : decide ((k : Int) < (m : Int)) = true := by simp; omega
          have hA := Hm.out.at0 (by omega)
          have hr := Hm.out.rowc hlt HX.out
          subst hA
          by_cases h25 : 6 < (R k).n
          · have d25 : decide ((6 : Int) < ((R k).n : Int)) = true := by simp; omega
            have hF : b = false := by
              cases b
              · rfl
              · have := (HBt.out rfl).2.1 k hlt; omega
            subst hF
            clear h25
            go_wp2_with fail
            go_ret
            exact ⟨rfl, HX.out⟩
          have d25 : decide ((6 : Int) < ((R k).n : Int)) = false := by simp; omega
          have H25 := Lib.hid (show (R k).n ≤ 6 by omega); clear h25
          go_wp2_with fail
          go_loopw [29] (fun i wr => ∃ k' : Nat, k' ≤ (R k).n ∧ i = .int .i64 k' ∧ (∀ j, j < k' → (E k j).n1 ≤ 1 ∧ (E k j).n2 ≤ 1 ∧ (E k j).n3 ≤ 1) ∧ Ext w wr) (fun i _ => (R k).n - (intOf i).toNat)
          case atStart => exact ⟨0, by omega, rfl, by intros; omega, HX.out⟩
          case round =>
            clear hd hr d25
            obtain ⟨j, hj, rfl, hall, hx⟩ := hrel
            have HA3 := Lib.hid hall; have HX3 := Lib.hid hx; clear hall hx
            by_cases hjt : j < (R k).n
            · have hd : decide ((j : Int) < ((R k).n : Int)) = true := by simp; omega
              have hRA := Hm.out.ra k hlt (by omega)
              have hln := Hm.out.ln k hlt
              obtain ⟨c0, c1, c2, c3, c4, c5⟩ := Hm.out.cells hlt hjt HX3.out
              rw [hRA]
              have HE := Lib.hid (HX3.out.alloc (.cells #[.bool (E k j).s1, .slice (E k j).A1 (E k j).n1 (E k j).c1, .bool (E k j).s2, .slice (E k j).A2 (E k j).n2 (E k j).c2, .bool (E k j).s3, .slice (E k j).A3 (E k j).n3 (E k j).c3] 32))
              go_wp2_with fail
              refine (qSmall_any (E k j).s1 (E k j).A1 (E k j).n1 (E k j).c1 (E k j).s2 (E k j).A2 (E k j).n2 (E k j).c2 (E k j).s3 (E k j).A3 (E k j).n3 (E k j).c3 1 _).mono ?_
              rintro e w4 ⟨rfl, hx4⟩
              generalize hbv : (decide ((E k j).n1 ≤ 1) && decide ((E k j).n2 ≤ 1) && decide ((E k j).n3 ≤ 1)) = bv
              have HVQ := Lib.hid hbv; clear hbv
              cases bv
              · have hF : b = false := by
                  cases b
                  · rfl
                  · have h1 := (HBt.out rfl).2.2 k j hlt hjt
                    have h2 := HVQ.out
                    rw [decide_eq_true h1.1, decide_eq_true h1.2.1, decide_eq_true h1.2.2] at h2
                    cases h2
                subst hF
                go_wp2_with fail
                go_ret
                exact ⟨rfl, HE.out.trans hx4⟩
              · go_wp2_with fail
                go_roundw
                case rel =>
                  refine ⟨j + 1, by omega, by go_num, fun i hi => ?_, HE.out.trans hx4⟩
                  by_cases e : i = j
                  · subst e
                    have h2 := HVQ.out
                    simp only [Bool.and_eq_true, decide_eq_true_eq] at h2
                    exact ⟨h2.1.1, h2.1.2, h2.2⟩
                  · exact HA3.out i (by omega)
                case measure => simp [intOf]; omega
            · obtain rfl : j = (R k).n := by omega
              have hd : decide (((R k).n : Int) < ((R k).n : Int)) = false := by simp
              have h6 := H6.out
              go_wp2_with fail
              go_roundw
              case rel =>
                refine ⟨k + 1, by omega, by go_num, fun i hi => ?_, HX3.out⟩
                by_cases e : i = k
                · subst e; exact ⟨H25.out, HA3.out⟩
                · exact HA.out i (by omega)
              case measure => simp [intOf]; omega
        · obtain rfl : k = m := by omega
          have hd : decide ((k : Int) < (k : Int)) = false := by simp
          have hS : Sml (fm t) (fR t) (fE t) := HQ.out ⟨H6.out, fun i hi => (HA.out i hi).1, fun i j hi hj => (HA.out i hi).2 j hj⟩
          have HS := Lib.hid hS; clear hS
          clear hlt
          go_wp2_with fail
          go_roundw
          case rel =>
            refine ⟨t + 1, by omega, by go_num, fun i hi => ?_, HX.out⟩
            by_cases e : i = t
            · subst e; exact HS.out
            · exact HT.out i (by omega)
          case measure => simp [intOf]; omega
    · obtain rfl : t = p := by omega
      have hd : decide ((t : Int) < (t : Int)) = false := by simp
      have hT : b = true := HB.out.2 HT.out
      subst hT
      clear htp
      go_wp2_with fail
      go_ret
      exact ⟨rfl, HX0.out⟩
end Go.Proofs.YtclkkoiaaddllaaGreat
