/- Contract: one digit of a quotient, in place: the walk. -/
import Derived.Test.YtfdpbcjcinchgaaDoorIv
namespace Go.Proofs.YtfdpbcjcinchgaaDoor
open Go.RowKit
set_option linter.unusedVariables false

theorem sub_w3 {x c b : Nat} (hx : x < 4294967296) (hc : c < 4294967296) (hb : b ≤ 1) : ∃ z : Nat, IntKind.u64.wrap (IntKind.u64.wrap ((x : Int) - c) - b) = (z : Int) ∧ z < 18446744073709551616 ∧ (z : Int) % 4294967296 = (sdig ((x : Int) - b - c) : Int) ∧ (sbor ((x : Int) - b - c) = 0 → z < 9223372036854775808) ∧ (sbor ((x : Int) - b - c) = 1 → 9223372036854775808 ≤ z) := by
  rw [u64_wrap, u64_wrap]
  refine ⟨((((x : Int) - c) % 18446744073709551616 - b) % 18446744073709551616).toNat, by omega, by omega, ?_, ?_, ?_⟩
  · unfold sdig; omega
  · unfold sbor; split <;> omega
  · unfold sbor; split <;> omega

set_option maxRecDepth 100000 in
set_option maxHeartbeats 1600000 in
theorem divDigit_any (B : Option Addr) (gU j n c d v1 : Nat) (U v : List Nat) (w : World) (hU : RowD w gU U) (hB : RM w B (n + 2) d v) (hne : ∀ ad, B = some ad → ad.block ≠ gU) (hn : n ≤ 1000000) (hj : j ≤ 1000000) (hjm : j + n + 3 ≤ U.length)
    (hc : n + 3 ≤ c) (hcm : c ≤ 9223372036854775807) (hv1 : v[n + 1]? = some v1) (htop : 2147483648 ≤ v1) (hlt : val (U.drop (j + 1)) < val v) :
    Calls Tryd.prog 90 #[.slice (some ⟨gU, j, none⟩) (n + 3 : Nat) c, .slice B (n + 2 : Nat) d] w fun e w' => e = .returned (.int .u32 ((val (U.drop j) / val v : Nat) : Int)) ∧ ∃ U', RowD w' gU U' ∧ U'.length = U.length ∧ U'.take j = U.take j ∧
      val U' + 4294967296 ^ j * (val v * (val (U.drop j) / val v)) = val U ∧ Only gU w w' := by
  have hvl := hB.len
  have hdv := hB.dg
  have hv0 : v[n]? = some v[n] := List.getElem?_eq_getElem (by omega)
  generalize v[n] = v0 at hv0
  obtain ⟨u2, u1, u0, hu2, hu1, hu0, t⟩ := tops_of hU.2 hdv hjm hvl hv1 hv0 htop hlt
  obtain ⟨bV, oV, rfl, _, hcV⟩ := hB.rd.plain (by omega)
  have hbV := hne _ rfl
  clear hne
  have cV1 := hcV (n + 1) _ (mg_get hv1)
  have cV0 := hcV n _ (mg_get hv0)
  obtain ⟨x2, ex2, _, cU2, _⟩ := hU.at_ (k := j + n + 2) (by omega)
  obtain ⟨x1, ex1, _, cU1, _⟩ := hU.at_ (k := j + n + 1) (by omega)
  obtain ⟨x0, ex0, _, cU0, _⟩ := hU.at_ (k := j + n) (by omega)
  obtain rfl : x2 = u2 := by rw [hu2] at ex2; injection ex2 with h; exact h.symm
  obtain rfl : x1 = u1 := by rw [hu1] at ex1; injection ex1 with h; exact h.symm
  obtain rfl : x0 = u0 := by rw [hu0] at ex0; injection ex0 with h; exact h.symm
  have HCV := Lib.hid hcV
  have HV1 := Lib.hid hv1; have HV0 := Lib.hid hv0
  have HU2 := Lib.hid hu2; have HU1 := Lib.hid hu1; have HU0 := Lib.hid hu0
  have HVL := Lib.hid hvl
  have hu2' := t.m2; have hu1' := t.m1; have hu0' := t.m0; have hv1' := t.l1; have hv0' := t.l0
  have HG0 := Lib.hid (Guess.first t)
  obtain ⟨hd, hhd⟩ : ∃ hd, hd = x2 * 4294967296 + x1 := ⟨_, rfl⟩
  rw [← hhd] at HG0
  have hdb : hd < 18446744073709551616 := by omega
  have e0 : bits .or .u64 ((x2 : Int) * 4294967296) (x1 : Int) = (hd : Int) := by rw [or_hi hu2' hu1', hhd]; omega
  have HHD := Lib.hid hhd; clear hhd
  have hv1p : 1 ≤ v1 := by omega
  have hdq : (0 : Int) ≤ (hd : Int) / (v1 : Int) := Int.ediv_nonneg (by omega) (by omega)
  have hdq2 : (hd : Int) / (v1 : Int) ≤ 18446744073709551615 := by
    have := Nat.div_le_self hd v1
    rw [← Int.natCast_ediv]; omega
  clear ex2 ex1 ex0 hcV hv1 hv0 hu2 hu1 hu0 hvl
  have T := Lib.hid t; clear t
  have a2 : j + (n + 2) = j + n + 2 := by omega
  have a1 : j + (n + 1) = j + n + 1 := by omega
  have k1 : (n : Int) + 2 - 1 = (n : Int) + 1 := by omega
  have k3 : ((n : Int) + 1).toNat = n + 1 := by omega
  have k4 : ((n : Int) + 2).toNat = n + 2 := by omega
  go_enter Tryd.func90, Tryd.ntmps90
  go_wp2_with fail
  have d1 : (0 : Int) ≤ (n : Int) + 2 := by omega
  have d2 : (n : Int) + 2 < (n : Int) + 3 := by omega
  have d3 : (n : Int) + 1 < (n : Int) + 3 := by omega
  go_quiet (fail)
  go_wp2_with fail
  go_quiet (fail)
  go_upto_block 0 with fail
  go_cut [8, 9] (fun gv rv wx => ∃ g : Nat, gv = .int .u64 (g : Int) ∧ g < 4294967296 ∧ val (U.drop j) / val v ≤ g ∧ g ≤ val (U.drop j) / val v + 1 ∧ Ext w wx)
  case first =>
    go_wp2_with fail
    clear e0
    go_loopw [8, 9] (fun qv rv wr => ∃ g rest : Nat, qv = .int .u64 (g : Int) ∧ rv = .int .u64 (rest : Int) ∧ rest < 4294967296 ∧ Guess (val (U.drop j)) (val v) x2 x1 v1 g rest ∧ Ext w wr) (fun qv _ _ => (intOf qv).toNat)
    case atStart => exact ⟨hd / v1, hd % v1, rfl, rfl, Nat.lt_trans (Nat.mod_lt _ (by omega)) hv1', HG0.out, ((Ext.refl w).drewN _).drewN _⟩
    case round =>
      obtain ⟨g, rest, rfl, rfl, hr, hG, hex⟩ := hrel
      have hgle := Guess.le T.out hG
      have HG := Lib.hid hG; clear hG
      have cV0 : wr.cell? ⟨bV, oV + n, none⟩ = some (.int .u32 (v0 : Int)) := hex.cell_ cV0
      have cU0 : wr.cell? ⟨gU, j + n, none⟩ = some (.int .u32 (x0 : Int)) := hex.cell_ cU0
      have k5 : (n : Int) + 2 - 2 = (n : Int) := by omega
      have d4 : (n : Int) < (n : Int) + 2 := by omega
      have d5 : (n : Int) < (n : Int) + 3 := by omega
      by_cases hb : 4294967296 ≤ g
      · have hb' : (4294967296 : Int) ≤ (g : Int) := by omega
        have HG2 := Lib.hid (Guess.big T.out HG.out hb)
        by_cases hr2 : 4294967296 ≤ rest + v1
        · have hr3 : (4294967296 : Int) ≤ (rest : Int) + (v1 : Int) := by omega
          obtain ⟨s1, s2, s3⟩ := Guess.stop T.out HG2.out hr2
          have S1 := Lib.hid s1; have S2 := Lib.hid s2; have S3 := Lib.hid s3; clear s1 s2 s3
          go_wp2_with fail
          go_quiet (fail)
          go_wp2_with fail
          go_meet
          case rel => exact ⟨g - 1, by go_num, S1.out, S2.out, S3.out, hex.drewN _⟩
        · have hr3 : decide ((4294967296 : Int) ≤ (rest : Int) + (v1 : Int)) = false := by rw [decide_eq_false_iff_not]; omega
          have hr4 : decide (4294967296 ≤ rest + v1) = false := decide_eq_false hr2
          have HR2 := Lib.hid hr2; clear hr2
          go_wp2_with fail
          go_quiet (fail)
          go_wp2_with fail
          go_roundw
          case rel => exact ⟨g - 1, rest + v1, by go_num, by go_num, by have := HR2.out; omega, HG2.out, hex.drewN _⟩
          case measure => simp [intOf] <;> omega
      · obtain ⟨tp, htp⟩ : ∃ tp, tp = g * v0 := ⟨_, rfl⟩
        obtain ⟨z, hz⟩ : ∃ z, z = x0 + 4294967296 * rest := ⟨_, rfl⟩
        have htb : tp ≤ 18446744065119617025 := by rw [htp]; exact prod_lt (by omega) hv0'
        have e1 : IntKind.u64.wrap ((g : Int) * (v0 : Int)) = (tp : Int) := by rw [IntWalk.u64_in _ (by rw [show ((g : Int) * (v0 : Int)) = ((g * v0 : Nat) : Int) by simp, ← htp]; omega), htp]; simp
        have e2 : bits .or .u64 ((rest : Int) * 4294967296) (x0 : Int) = (z : Int) := by rw [or_hi hr hu0', hz]
        have hzb : z < 18446744073709551616 := by omega
        have hb' : decide ((4294967296 : Int) ≤ (g : Int)) = false := by rw [decide_eq_false_iff_not]; omega
        have hb2 : decide (4294967296 ≤ g) = false := decide_eq_false hb
        have HB := Lib.hid hb
        by_cases hc : z < tp
        · obtain ⟨hg0, hG2⟩ := Guess.fail (u0 := x0) (v0 := v0) T.out HG.out (by rw [← htp, ← hz]; exact hc)
          have HG2 := Lib.hid hG2; clear hG2
          clear htp hz hb
          have hc' : (z : Int) < (tp : Int) := by omega
          clear hc
          by_cases hr2 : 4294967296 ≤ rest + v1
          · have hr3 : (4294967296 : Int) ≤ (rest : Int) + (v1 : Int) := by omega
            obtain ⟨s1, s2, s3⟩ := Guess.stop T.out HG2.out hr2
            have S1 := Lib.hid s1; have S2 := Lib.hid s2; have S3 := Lib.hid s3; clear s1 s2 s3
            have HR2 := Lib.hid hr2; clear hr2
            go_wp2_with fail
            go_quiet (fail)
            go_wp2_with fail
            go_meet
            case rel => exact ⟨g - 1, by go_num, S1.out, S2.out, S3.out, hex.drewN _⟩
          · have hr3 : decide ((4294967296 : Int) ≤ (rest : Int) + (v1 : Int)) = false := by rw [decide_eq_false_iff_not]; omega
            have hr4 : decide (4294967296 ≤ rest + v1) = false := decide_eq_false hr2
            have HR2 := Lib.hid hr2; clear hr2
            go_wp2_with fail
            go_quiet (fail)
            go_wp2_with fail
            go_roundw
            case rel => exact ⟨g - 1, rest + v1, by go_num, by go_num, by have := HR2.out; omega, HG2.out, hex.drewN _⟩
            case measure => simp [intOf] <;> omega
        · obtain ⟨s2, s3⟩ := Guess.pass (u0 := x0) (v0 := v0) T.out HG.out (by omega) (by rw [← htp, ← hz]; omega)
          have S2 := Lib.hid s2; have S3 := Lib.hid s3; clear s2 s3 htp hz hb
          have hc' : (tp : Int) ≤ (z : Int) := by omega
          clear hc
          go_wp2_with fail
          go_quiet (fail)
          go_wp2_with fail
          go_meet
          case rel => exact ⟨g, rfl, by have := HB.out; omega, S2.out, S3.out, hex.drewN _⟩
  case rest =>
    obtain ⟨g, rfl, hg32, hglo, hghi, hex⟩ := hcut
    obtain ⟨qd, hqd⟩ : ∃ qd, qd = val (U.drop j) / val v := ⟨_, rfl⟩
    rw [← hqd] at hglo hghi
    have hUc : RowD wc gU U := hU.far hex
    have hVp := T.out.vpos
    have hqle : val v * qd ≤ val (U.drop j) := by rw [hqd]; exact Nat.mul_div_le _ _
    have hqlt : val (U.drop j) < val v * (qd + 1) := by rw [hqd]; exact Nat.lt_mul_div_succ _ hVp
    have hq32 : qd < 4294967296 := by rw [hqd]; exact T.out.q_lt
    have hVlt := val_lt hdv
    rw [HVL.out] at hVlt
    have hz0 : val (U.drop (j + (n + 3))) = 0 := by
      refine drop_zero (by omega) ?_
      have h1 := T.out.fits
      have h2 : 4294967296 * val v ≤ 4294967296 * 4294967296 ^ (n + 2) := Nat.mul_le_mul_left _ (Nat.le_of_lt hVlt)
      rw [show n + 3 = (n + 2) + 1 from rfl, Nat.pow_succ, Nat.mul_comm (4294967296 ^ (n + 2))]
      omega
    have HZ0 := Lib.hid hz0; have HQD := Lib.hid hqd; have HLE := Lib.hid hqle; have HLT := Lib.hid hqlt; have HJM := Lib.hid hjm
    have HUC := Lib.hid hUc
    clear hz0 hqd hqle hqlt hjm hUc hVlt hVp hlt e0 hdq hdq2 hdb HHD HG0 cV1 cV0 cU2 cU1 cU0
    have hcVc : ∀ (i y : Nat), v[i]? = some y → ∀ wr, Only gU wc wr → wr.cell? ⟨bV, oV + i, none⟩ = some (.int .u32 (y : Int)) := fun i y hy wr ho => ho.cell_ (hex.cell_ (HCV.out i _ (mg_get hy))) hbV
    have HCC := Lib.hid hcVc; clear hcVc
    go_wp2_with fail
    go_loopw [10, 11, 75] (fun cv bv iv wr => ∃ (i cy bo : Nat) (U' : List Nat), i ≤ n + 2 ∧ iv = .int .i64 i ∧ cv = .int .u64 (cy : Int) ∧ bv = .int .u64 (bo : Int) ∧ cy < 4294967296 ∧ bo ≤ 1 ∧ Msub U U' v j i g cy bo ∧ RowD wr gU U' ∧ Only gU wc wr) (fun _ _ iv _ => n + 2 - (intOf iv).toNat)
    case atStart => exact ⟨0, 0, 0, U, by omega, rfl, rfl, rfl, by omega, by omega, Msub.start _ _ _ _, HUC.out, Only.refl _ _⟩
    case round =>
      obtain ⟨i, cy, bo, U', hi, rfl, rfl, rfl, hcy, hbo, hM, hrow, hon⟩ := hrel
      have HM := Lib.hid hM; clear hM
      by_cases hlt : i < n + 2
      · obtain ⟨x, hx, hx32, hcx, hfx⟩ := hrow.at_ (k := j + i) (by have := HM.out.1; have := HJM.out; omega)
        obtain ⟨y, hy⟩ : ∃ y, v[i]? = some y := ⟨_, List.getElem?_eq_getElem (by rw [HVL.out]; exact hlt)⟩
        have hy32 := hdv.at_ hy
        have hcy' := HCC.out i y hy wr hon
        have hxU : U[j + i]? = some x := by rw [← HM.out.2.2.1 _ (Nat.le_refl _)]; exact hx
        obtain ⟨tp, htp⟩ : ∃ tp, tp = g * y := ⟨_, rfl⟩
        have htb : tp ≤ 18446744065119617025 := by rw [htp]; exact prod_lt hg32 hy32
        have e1 : IntKind.u64.wrap ((g : Int) * (y : Int)) = (tp : Int) := by rw [IntWalk.u64_in _ (by rw [show ((g : Int) * (y : Int)) = ((g * y : Nat) : Int) by simp, ← htp]; omega), htp]; simp
        obtain ⟨p, hp⟩ : ∃ p, p = tp + cy := ⟨_, rfl⟩
        have e2 : (tp : Int) + (cy : Int) = (p : Int) := by omega
        have hpb : p < 18446744073709551616 := by omega
        have e3 : (p : Int) % 4294967296 = ((p % 4294967296 : Nat) : Int) := by omega
        have hpl : p % 4294967296 < 4294967296 := Nat.mod_lt _ (by omega)
        have e4 : (p : Int) / 4294967296 = ((p / 4294967296 : Nat) : Int) := by omega
        have hph : p / 4294967296 < 4294967296 := by omega
        have HS := Lib.hid (HM.out.step hxU hy hx32 hbo (p := p) (by rw [hp, htp]))
        generalize p % 4294967296 = pl at *
        generalize p / 4294967296 = ph at *
        have HR := Lib.hid hrow
        clear hrow hx hy hxU htp hp
        go_wp2_with fail
        go_roundw
        case rel =>
          refine ⟨i + 1, ph, sbor ((x : Int) - bo - pl), _, by omega, by go_num, rfl, by rw [sub_b2 hx32 hpl hbo], hph, sbor_le _, HS.out, HR.out.set (sub_d2 hx32 hpl hbo) (sdig_lt _), hon.trans (Only.set _ _ _ _)⟩
        case measure => simp [intOf] <;> omega
      · obtain rfl : i = n + 2 := by omega
        obtain ⟨x, hx, hx32, hcx, hfx⟩ := hrow.at_ (k := j + n + 2) (by have := HM.out.1; have := HJM.out; omega)
        have hxU : U[j + (n + 2)]? = some x := by rw [← HM.out.2.2.1 _ (Nat.le_refl _)]; exact hx
        have hms := ms_last HM.out HVL.out hxU hx32 hcy hbo
        obtain ⟨z, ez, hzb, hz1, hz2, hz3⟩ := sub_w3 hx32 hcy hbo
        have hdg := sdig_lt ((x : Int) - bo - cy)
        have hsb := sbor_le ((x : Int) - bo - cy)
        generalize sdig ((x : Int) - bo - cy) = dg at *
        generalize sbor ((x : Int) - bo - cy) = bo' at *
        have hX : RowD (wr.setCell ⟨gU, j + n + 2, none⟩ (.int .u32 ((z : Int) % 4294967296))) gU (U'.set (j + (n + 2)) dg) := hrow.set (k := j + n + 2) hz1 hdg
        have hXl : (U'.set (j + (n + 2)) dg).length = U.length := by rw [List.length_set]; exact HM.out.1
        have hXt : (U'.set (j + (n + 2)) dg).take j = U.take j := by rw [List.take_set_of_le (by omega)]; exact HM.out.2.1
        have hXo : ∀ t, j + (n + 3) ≤ t → (U'.set (j + (n + 2)) dg)[t]? = U[t]? := fun t ht => by rw [List.getElem?_set_ne (by omega)]; exact HM.out.2.2.1 _ (by omega)
        have hXd : (U'.set (j + (n + 2)) dg)[j + (n + 2)]? = some dg := by rw [List.getElem?_set_self (by rw [HM.out.1]; have := HJM.out; omega)]
        have hlow := low_of HZ0.out hX.2 hXl hXo
        have HX := Lib.hid hX; have HXL := Lib.hid hXl; have HXT := Lib.hid hXt; have HXO := Lib.hid hXo; have HXD := Lib.hid hXd
        have HMS := Lib.hid hms; have HLOW := Lib.hid hlow
        have HZ1 := Lib.hid hz1
        generalize U'.set (j + (n + 2)) dg = X at *
        have hon2 := hon.trans (Only.set wr gU (j + n + 2) (.int .u32 ((z : Int) % 4294967296)))
        clear hX hXl hXt hXo hXd hms hlow hz1 hx hxU hrow
        rcases (show g = qd ∨ g = qd + 1 by omega) with hgq | hgq
        · have hb0 : bo' = 0 := ms_exact (m := j + (n + 2) + 1) (q := g) (V := val v) HMS.out HLOW.out (by rw [hgq]; exact seg_le (by have := HJM.out; omega) HLE.out)
          have hz4 := hz2 hb0
          have HB0 := Lib.hid hb0; have HGQ := Lib.hid hgq
          have hz5 : (z : Int) / 9223372036854775808 = 0 := by omega
          have hz6 : z / 9223372036854775808 = 0 := by omega
          clear hz2 hz3 hb0 hgq
          go_wp2_with fail
          go_ret
          refine ⟨ret_int (by rw [← HQD.out, HGQ.out]), X, HX.out, HXL.out, HXT.out, ?_, (Only.of_ext hex).trans hon2⟩
          have h1 := HMS.out
          rw [HB0.out, HGQ.out, Nat.mul_zero, Nat.add_zero, Nat.mul_comm qd] at h1
          rw [← HQD.out]; exact h1
        · have hb1 : bo' = 1 := ms_over (U := U) (X := X) (j := j) (m := j + (n + 2) + 1) (q := g) (V := val v) HMS.out hsb (by rw [hgq]; exact seg_lt hU.2 (by have := HJM.out; omega) HLT.out)
          have hz4 := hz3 hb1
          have HB1 := Lib.hid hb1; have HGQ := Lib.hid hgq
          have hz5 : (z : Int) / 9223372036854775808 = 1 := by omega
          have hz6 : z / 9223372036854775808 = 1 := by omega
          clear hz2 hz3 hb1 hgq
          go_wp2_with fail
          have HX2 := Lib.hid hon2; clear hon2
          generalize hw2 : wr.setCell ⟨gU, j + n + 2, none⟩ (.int .u32 ((z : Int) % 4294967296)) = w2 at *
          clear hw2
          go_loopw [10, 128] (fun cv iv wr => ∃ (i cy : Nat) (Y : List Nat), i ≤ n + 2 ∧ iv = .int .i64 i ∧ cv = .int .u64 (cy : Int) ∧ cy ≤ 1 ∧ Madd X Y v j i cy ∧ RowD wr gU Y ∧ Only gU wc wr) (fun _ iv _ => n + 2 - (intOf iv).toNat)
          case atStart => exact ⟨0, 0, X, by omega, rfl, rfl, by omega, Madd.start _ _ _, HX.out, HX2.out⟩
          case round =>
            rename_i wr0 _ _ _ _ _
            obtain ⟨i, cy2, Y, hi2, rfl, rfl, hcy2, hM2, hrow, hon⟩ := hrel
            have HM2 := Lib.hid hM2; clear hM2
            by_cases hlt2 : i < n + 2
            · obtain ⟨x', hx', hx32', hcx', hfx'⟩ := hrow.at_ (k := j + i) (by have := HM2.out.1; have := HXL.out; have := HJM.out; omega)
              obtain ⟨y, hy⟩ : ∃ y, v[i]? = some y := ⟨_, List.getElem?_eq_getElem (by rw [HVL.out]; exact hlt2)⟩
              have hy32 := hdv.at_ hy
              have hcy' := HCC.out i y hy _ hon
              have hxU : X[j + i]? = some x' := by rw [← HM2.out.2.2.1 _ (Nat.le_refl _)]; exact hx'
              have HS := Lib.hid (HM2.out.step hxU hy (s := x' + y + cy2) rfl)
              have HR := Lib.hid hrow
              have f1 : (i : Int) < (n : Int) + 2 := by omega
              have f2 : (i : Int) < (n : Int) + 3 := by omega
              clear hrow hx' hy hxU
              go_wp2_with fail
              go_quiet (fail)
              go_wp2_with fail
              go_roundw
              case rel =>
                refine ⟨i + 1, (x' + y + cy2) / 4294967296, _, by omega, by go_num, by go_num, by omega, HS.out, RowD.set (HR.out.drewN _) (by omega) (Nat.mod_lt _ (by omega)), (hon.trans (Only.of_ext ((Ext.refl _).drewN _))).trans (Only.set _ _ _ _)⟩
              case measure => simp [intOf] <;> omega
            · obtain rfl : i = n + 2 := by omega
              obtain ⟨dd, hdd, hdd32, hcd, hfd⟩ := hrow.at_ (k := j + n + 2) (by have := HM2.out.1; have := HXL.out; have := HJM.out; omega)
              have hdX : X[j + (n + 2)]? = some dd := by rw [← HM2.out.2.2.1 _ (Nat.le_refl _)]; exact hdd
              have hR2 : ∀ z : Int, z = ((dd + cy2) % 4294967296 : Nat) → RowD (wr.setCell ⟨gU, j + n + 2, none⟩ (.int .u32 z)) gU (Y.set (j + (n + 2)) ((dd + cy2) % 4294967296)) := fun z hz => hrow.set (k := j + n + 2) hz (Nat.mod_lt _ (by omega))
              have HR2 := Lib.hid hR2
              have hms := HMS.out
              rw [HB1.out, Nat.mul_one, HGQ.out] at hms
              have hYl : (Y.set (j + (n + 2)) ((dd + cy2) % 4294967296)).length = U.length := by rw [List.length_set, HM2.out.1]; exact HXL.out
              have hYt : (Y.set (j + (n + 2)) ((dd + cy2) % 4294967296)).take j = U.take j := by rw [List.take_set_of_le (by omega), HM2.out.2.1]; exact HXT.out
              have hYo : ∀ t, j + (n + 3) ≤ t → (Y.set (j + (n + 2)) ((dd + cy2) % 4294967296))[t]? = U[t]? := fun t ht => by rw [List.getElem?_set_ne (by omega), HM2.out.2.2.1 _ (by omega)]; exact HXO.out t ht
              have hlast := ma_last (q := qd) (V := val v) hms HM2.out HVL.out rfl hdX (low_of HZ0.out (hR2 _ rfl).2 hYl hYo) (seg_le (by have := HJM.out; omega) HLE.out) hdd32 hcy2
              have HLA := Lib.hid hlast; have HYL := Lib.hid hYl; have HYT := Lib.hid hYt
              clear hR2 hms hYl hYt hYo hlast hdX hdd hrow
              have hg1 : 1 ≤ g := by rw [HGQ.out]; omega
              go_wp2_with fail
              go_ret
              refine ⟨ret_int (by rw [← HQD.out]; have := HGQ.out; omega), _, HR2.out _ (by omega), HYL.out, HYT.out, ?_, ((Only.of_ext hex).trans hon).trans (Only.set _ _ _ _)⟩
              rw [← HQD.out, Nat.mul_comm (val v)]; exact HLA.out
end Go.Proofs.YtfdpbcjcinchgaaDoor
