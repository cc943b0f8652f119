/- The walk of StreamDelivers: one frame is lost. -/
import Derived.Test.YtmlcmnbjioabiaaSs
namespace Go.Proofs.Ytmlcmnbjioabiaa
set_option linter.unusedVariables false
open Go.RowKit Go.ChangeShapes Go.WideShapes Go.ChangeAt Go.Joins Go.Deep

set_option maxRecDepth 100000 in
set_option maxHeartbeats 8000000 in
theorem delivers_gone (cs : Array Value) (u s : Int) (sm : Nat → Nat → Int) (O T : Option Addr) (nO cO nT cT : Nat) (lo lt : List Int) (lost other : Int) (w : World) (hC : CaseV w cs u s sm O T nO cO nT cT lo lt lost) (hlost : 0 ≤ lost ∧ lost < 12) :
    Calls Try.prog 7 #[.agg cs, .int .i64 other] w fun e w' => e = .returned (.bool true) ∧ Ext w w' := by
  have HC := Lib.hid hC; clear hC
  have hsz : (Try.prog.info? 55).map (·.size) = some cs.size := by rw [HC.out.size]; exact case_size
  have HSZ := Lib.hid hsz; clear hsz
  go_enter Try.func7, Try.ntmps7
  go_wp2_with fail
  refine (known_any _).mono ?_
  rintro e w1 ⟨rfl, hx1⟩
  have hE := (Ext.new w (.cells cs 55)).trans hx1
  have bC := (Blk.new w 55 cs).ext hx1
  clear hx1
  generalize hg0 : w.heap.size = g0 at *
  have u0 := Int.emod_nonneg u (show (1000 : Int) ≠ 0 by omega)
  have u1 := Int.emod_lt_of_pos u (show (0 : Int) < 1000 by omega)
  have s0 := Int.emod_nonneg s (show (1099511627776 : Int) ≠ 0 by omega)
  have s1 := Int.emod_lt_of_pos s (show (0 : Int) < 1099511627776 by omega)
  have o0 := Int.emod_nonneg other (show (49 : Int) ≠ 0 by omega)
  have o1 := Int.emod_lt_of_pos other (show (0 : Int) < 49 by omega)
  have Y0 := ExtOf.cell ((bC.cell 0).trans HC.out.h0)
  have Y1 := ExtOf.cell ((bC.cell 1).trans HC.out.h1)
  go_wp2_with fail
  refine wp_region_ext_lit (by kernel_rfl) (by kernel_rfl) ?_
  repeat (go_big_quiet_step (first | (go_at_call 22; exact Calls.ext_of_same (within_any _ _ _ (by omega) (by omega)))))
  refine wpQuiet_nil ?_
  intro W hW
  obtain ⟨xe, rfl⟩ := hW
  replace hE := hE.trans xe.ext
  replace bC := bC.ext xe.ext
  clear Y0 Y1
  generalize xe.val = w2 at *
  clear xe
  generalize hun : u % 1000 = unit at *
  generalize hst : s % 1099511627776 = step at *
  generalize hot : other % 49 = oth at *
  go_wp2_with (refine wpList_load_row rfl 55 _ rfl g0 (by rfl) 55 cs (0, 0) _ bC Try.underlying55 rfl HSZ.out ?_)
  refine (channels_any cs sm HC.out.hsm w2).mono ?_
  rintro e w3 ⟨D1, c1, rfl, hR1, hx⟩
  have HR1 := Lib.hid hR1; clear hR1
  replace hE := hE.trans hx; replace bC := bC.ext hx; clear hx
  have HU : Hid (btw unit 0 999 = true) := Lib.hid (btw_t (by omega) (by omega))
  have HST : Hid (btw step 0 1099511627776 = true) := Lib.hid (btw_t (by omega) (by omega))
  have HSM := Lib.hid HC.out.hsm
  go_wp2_with fail
  refine (split_in unit step D1 c1 sm w3 HR1.out HU.out HST.out).mono ?_
  rintro e w4 ⟨hx, cl, rowsL, rfl, hL⟩
  have hlA := bC.lt
  have hzA : w.heap.size ≤ w3.heap.size := hE.size
  replace hE := hE.trans hx; replace bC := bC.ext hx
  have hlt34 := hL.2.2.lt
  generalize w3.heap.size = gA at *
  clear hx HR1
  have t1 : (0 : Int) ≤ unit + 1 := by omega
  have t2 : unit + 1 < 9223372036854775808 := by omega
  go_wp2_with (refine wpList_load_row rfl 55 _ rfl g0 (by rfl) 55 cs (0, 0) _ bC Try.underlying55 rfl HSZ.out ?_)
  refine (channels_any cs sm HSM.out w4).mono ?_
  rintro e w5 ⟨D2, c2, rfl, hR2, hx⟩
  have HR2 := Lib.hid hR2; clear hR2
  replace hE := hE.trans hx; replace bC := bC.ext hx; replace hL := hL.ext hx
  have hlt45 := hx.size
  clear hx
  go_wp2_with fail
  have v0 := Int.emod_nonneg (unit + 1) (show (1000 : Int) ≠ 0 by omega)
  have v1 := Int.emod_lt_of_pos (unit + 1) (show (0 : Int) < 1000 by omega)
  have HNE : Hid ((unit + 1) % 1000 ≠ unit) := Lib.hid (by omega)
  refine (split_in ((unit + 1) % 1000) step D2 c2 sm w5 HR2.out (btw_t (by omega) (by omega)) HST.out).mono ?_
  rintro e w6 ⟨hx, cx, rowsX, rfl, hXf⟩
  have hgX : gA < w5.heap.size := by omega
  replace hE := hE.trans hx; replace bC := bC.ext hx; replace hL := hL.ext hx
  generalize hUX : (unit + 1) % 1000 = unitX at *
  have hlt56 := hx.size
  generalize w5.heap.size = gX at *
  clear hx HR2 t1 t2
  have t1 : step + 1 < 9223372036854775808 := by omega
  have t2 : (0 : Int) ≤ step + 1 := by omega
  have t3 : step + 1 + oth < 9223372036854775808 := by omega
  have t4 : (0 : Int) ≤ step + 1 + oth := by omega
  go_wp2_with fail
  refine wp_region_ordE 13 [(true, 0), (true, 1), (true, 2), (true, 3), (true, 6), (false, 4), (true, 5), (false, 7), (false, 8), (true, 9), (true, 10), (true, 11), (true, 12)] (by kernel_rfl) (by kernel_rfl) ?_
  refine wpOrdT_quiet [0, 1, 2, 3] [(true, 6), (false, 4), (true, 5), (false, 7), (false, 8), (true, 9), (true, 10), (true, 11), (true, 12)] _ (by kernel_rfl) ?_
  simp only [nthOps, nthOp, List.cons_append, List.nil_append]
  repeat (go_big_quiet_step (fail))
  refine wpQuiet_nil ?_
  refine wpOrdT_quiet [6] [(false, 4), (true, 5), (false, 7), (false, 8), (true, 9), (true, 10), (true, 11), (true, 12)] _ (by kernel_rfl) ?_
  simp only [nthOps, nthOp, List.cons_append, List.nil_append]
  refine wpQuiet_load_row rfl 55 _ rfl g0 (by rfl) 55 cs (0, 0) _ (by rintro W ⟨x, rfl⟩; exact bC.ext x.ext) Try.underlying55 rfl HSZ.out ?_
  refine wpQuiet_nil ?_
  try simp only [Act.put, List.setIfInBounds_toArray, List.set_cons_succ, List.set_cons_zero]
  have hB_ : Ext w6 w6.drew := (Ext.refl _).drew
  refine wpOrdT_act 4 [(true, 5), (false, 7), (false, 8), (true, 9), (true, 10), (true, 11), (true, 12)] (by kernel_rfl) ?_
  intro K hK
  simp only [nthOp]
  go_wp2_with fail
  refine (within_any _ _ _ (by omega) (by omega)).mono ?_
  rintro e w7 ⟨rfl, rfl⟩
  rw [hot]
  go_wp2
  refine hK _ _ ⟨⟨_, hB_⟩, rfl⟩ ?_
  clear hK K
  refine wpOrdT_quiet [5] [(false, 7), (false, 8), (true, 9), (true, 10), (true, 11), (true, 12)] _ (by kernel_rfl) ?_
  simp only [nthOps, nthOp, List.cons_append, List.nil_append]
  repeat (go_big_quiet_step (fail))
  refine wpQuiet_nil ?_
  refine wpOrdT_act 7 [(false, 8), (true, 9), (true, 10), (true, 11), (true, 12)] (by kernel_rfl) ?_
  intro K hK
  simp only [nthOp]
  go_wp2_with fail
  refine (channels_any cs sm HSM.out _).mono ?_
  rintro e w7 ⟨D3, c3, rfl, hR3, hx⟩
  have HR3 := Lib.hid hR3; clear hR3
  replace hB_ := hB_.trans hx; clear hx
  go_wp2
  refine hK _ _ ⟨⟨_, hB_⟩, rfl⟩ ?_
  clear hK K
  refine wpOrdT_act 8 [(true, 9), (true, 10), (true, 11), (true, 12)] (by kernel_rfl) ?_
  intro K hK
  simp only [nthOp]
  go_wp2_with fail
  refine (split_fs unit (step + 1 + oth) D3 c3 sm w7 HR3.out HU.out).mono ?_
  rintro e w8 ⟨hx, BY, nY, cY, EY, fsY, rfl, hnY, hY, hYz, hYm⟩
  have HYM := Lib.hid hYm; clear hYm
  have hbY : w6.heap.size ≤ w7.heap.size := hB_.size
  replace hB_ := hB_.trans hx; clear hx
  go_wp2
  refine hK _ _ ⟨⟨_, hB_⟩, rfl⟩ ?_
  clear hK K
  refine wpOrdT_quiet [9, 10, 11, 12] [] _ (by kernel_rfl) ?_
  simp only [nthOps, nthOp, List.cons_append, List.nil_append]
  repeat (go_big_quiet_step (fail))
  refine wpQuiet_nil ?_
  simp only [wpOrdT, List.drop_succ_cons, List.drop_zero]
  replace hE := hE.trans hB_; replace bC := bC.ext hB_; replace hL := hL.ext hB_; replace hXf := hXf.ext hB_
  clear hB_ HR3 t1 t2 t3 t4
  generalize w7.heap.size = bY at *
  have x38 : w8.cell? ⟨g0, 38, none⟩ = some (.slice O nO cO) := (bC.cell 38).trans HC.out.h38
  have x39 : w8.cell? ⟨g0, 39, none⟩ = some (.slice T nT cT) := (bC.cell 39).trans HC.out.h39
  by_cases hO40 : 40 < nO
  · have d1 : decide ((40 : Int) < (nO : Int)) = true := by simp; omega
    go_wp2_with fail
    go_ret
    exact ⟨rfl, hE⟩
  have d1 : decide ((40 : Int) < (nO : Int)) = false := by simp; omega
  by_cases hT40 : 40 < nT
  · have d2 : decide ((40 : Int) < (nT : Int)) = true := by simp; omega
    go_wp2_with fail
    go_ret
    exact ⟨rfl, hE⟩
  have d2 : decide ((40 : Int) < (nT : Int)) = false := by simp; omega
  go_wp2_with fail
  clear x38 x39 d1 d2
  go_loopw [13] (fun i wr => ∃ k : Nat, i = .int .i64 k ∧ k ≤ 50 ∧ ∃ fs rows, FBr wr gA fs rows ∧ fs.length = 12 ∧ (∀ f, f ∈ fs ↔ f ∈ splitL unit step true (chan sm) 12) ∧ Only gA w8 wr) (fun i _ => 60 - (intOf i).toNat)
  case atStart => exact ⟨0, rfl, by omega, _, rowsL, hL, by simp [splitL], fun _ => Iff.rfl, Only.refl _ _⟩
  case round =>
    obtain ⟨k, rfl, hk50, fs, rows, hF, hfl, hmem, hOn⟩ := hrel
    have HMEM := Lib.hid hmem; clear hmem
    have bCr := hOn.blk bC (by omega)
    have hEr : Ext w wr := hOn.ext hE hzA
    have x38 : wr.cell? ⟨g0, 38, none⟩ = some (.slice O nO cO) := (bCr.cell 38).trans HC.out.h38
    by_cases hlt : k + 1 < nO
    · have hRO := HC.out.hO.ext hEr
      obtain ⟨ad, x, hOa, hab, hx, hcx⟩ := hRO.int_at (k := k) (by omega)
      obtain ⟨ad', y, hOb, hab2, hy, hcy⟩ := hRO.int_at (k := k + 1) (by omega)
      obtain rfl : ad' = ad := by rw [hOa] at hOb; injection hOb with h; exact h.symm
      rw [hOa] at x38
      have Y38 := ExtOf.cell x38
      have YA := ExtOf.cell hcx
      obtain ⟨ab, ao, ai⟩ := ad'
      have hcy2 : wr.cell? ⟨ab, ao + (k + 1), none⟩ = some (.int .i64 y) := by simpa [Addr.add] using hcy
      have YB := ExtOf.cell hcy2
      have q0 : decide ((k : Int) + 1 < (nO : Int)) = true := by simp; omega
      have q1 : (0 : Int) ≤ (k : Int) := by omega
      have q2 : (k : Int) < (nO : Int) := by omega
      have q3 : (k : Int) + 1 < (nO : Int) := by omega
      obtain ⟨na, hna⟩ : ∃ na : Nat, x % 12 = (na : Int) := ⟨(x % 12).toNat, by omega⟩
      obtain ⟨nb, hnb⟩ : ∃ nb : Nat, y % 12 = (nb : Int) := ⟨(y % 12).toNat, by omega⟩
      have ha12 : na < 12 := by omega
      have hb12 : nb < 12 := by omega
      have HXA := Lib.hid hna; have HXB := Lib.hid hnb
      clear hx hy hRO hna hnb hab hab2
      go_wp2_with fail
      refine wp_region_ext_lit (by kernel_rfl) (by kernel_rfl) ?_
      repeat (go_big_quiet_step (first | (go_at_call 22; exact Calls.ext_of_same (within_any _ _ _ (by omega) (by omega)))))
      refine wpQuiet_nil ?_
      rw [HXA.out, HXB.out]
      intro W hW
      obtain ⟨xe, rfl⟩ := hW
      have hF2 := hF.ext xe.ext
      have hOn2 := hOn.trans (Only.of_ext xe.ext)
      clear Y38 YA YB x38 hcx hcy hcy2 hF bCr hEr hOn
      generalize xe.val = W at *
      clear xe wr
      have hlr := hF2.1
      obtain ⟨fa, hfa⟩ : ∃ fa, fs[na]? = some fa := ⟨fs[na]'(by omega), List.getElem?_eq_getElem (by omega)⟩
      obtain ⟨fb, hfb⟩ : ∃ fb, fs[nb]? = some fb := ⟨fs[nb]'(by omega), List.getElem?_eq_getElem (by omega)⟩
      obtain ⟨ra, hra⟩ : ∃ ra, rows[na]? = some ra := ⟨rows[na]'(by omega), List.getElem?_eq_getElem (by omega)⟩
      obtain ⟨rb, hrb⟩ : ∃ rb, rows[nb]? = some rb := ⟨rows[nb]'(by omega), List.getElem?_eq_getElem (by omega)⟩
      obtain ⟨p1, p2, m1, m2, m3, m4, rfl, hra2⟩ := hF2.2.1 na ra fa hra hfa
      obtain ⟨r1, r2, z1, z2, z3, z4, rfl, hrb2⟩ := hF2.2.1 nb rb fb hrb hfb
      clear hra2 hrb2
      have a0 := hF2.cell (j := 0) hra (by omega); have a1 := hF2.cell (j := 1) hra (by omega); have a2 := hF2.cell (j := 2) hra (by omega); have a3 := hF2.cell (j := 3) hra (by omega); have a4 := hF2.cell (j := 4) hra (by omega)
      have b0 := hF2.cell (j := 0) hrb (by omega); have b1 := hF2.cell (j := 1) hrb (by omega); have b2 := hF2.cell (j := 2) hrb (by omega); have b3 := hF2.cell (j := 3) hrb (by omega); have b4 := hF2.cell (j := 4) hrb (by omega)
      simp only [List.getElem?_cons_succ, List.getElem?_cons_zero, Nat.add_zero] at a0 a1 a2 a3 a4 b0 b1 b2 b3 b4
      have g0' := hF2.2.2.frozen
      have f0 := g0' (na * 5); have f1 := g0' (na * 5 + 1); have f2 := g0' (na * 5 + 2); have f3 := g0' (na * 5 + 3); have f4 := g0' (na * 5 + 4)
      have e0 := g0' (nb * 5); have e1 := g0' (nb * 5 + 1); have e2 := g0' (nb * 5 + 2); have e3 := g0' (nb * 5 + 3); have e4 := g0' (nb * 5 + 4)
      clear g0'
      have w0 : (0 : Int) ≤ (na : Int) := by omega
      have w1 : (na : Int) < 12 := by omega
      have w2 : (0 : Int) ≤ (nb : Int) := by omega
      have w3 : (nb : Int) < 12 := by omega
      have HFA := Lib.hid hfa; have HFB := Lib.hid hfb; have HRA := Lib.hid hra; have HRB := Lib.hid hrb
      have HF2 := Lib.hid hF2
      clear hfa hfb hra hrb hF2
      go_wp2_with fail
      by_cases hab : na = nb
      · subst hab
        obtain rfl : fa = fb := by have h1 := HFA.out; rw [HFB.out] at h1; injection h1 with h1; exact h1.symm
        have hrr := HRA.out; rw [HRB.out] at hrr
        simp only [Option.some.injEq, List.cons.injEq, Value.slice.injEq, Addr.mk.injEq, and_true, true_and] at hrr
        obtain ⟨⟨rfl, rfl, rfl⟩, rfl, rfl, rfl⟩ := hrr
        go_region
        obtain ⟨hF3, hO3⟩ := HF2.out.swap10 HFA.out HFB.out HRA.out HRB.out
        have HF3 := Lib.hid hF3; have HO3 := Lib.hid (hOn2.trans hO3)
        clear hF3 hO3 a0 a1 a2 a3 a4 b0 b1 b2 b3 b4 e0 e1 e2 e3 e4 f0 f1 f2 f3 f4
        go_wp2_with fail
        go_roundw
        case rel => exact ⟨k + 2, by go_num, by omega, _, _, HF3.out, by simp [hfl], fun f => (swap_mem HFA.out HFB.out f).trans (HMEM.out f), HO3.out⟩
        case measure => simp [intOf]; omega
      · go_region
        obtain ⟨hF3, hO3⟩ := HF2.out.swap10 HFA.out HFB.out HRA.out HRB.out
        have HF3 := Lib.hid hF3; have HO3 := Lib.hid (hOn2.trans hO3)
        clear hF3 hO3 a0 a1 a2 a3 a4 b0 b1 b2 b3 b4 e0 e1 e2 e3 e4 f0 f1 f2 f3 f4
        go_wp2_with fail
        go_roundw
        case rel => exact ⟨k + 2, by go_num, by omega, _, _, HF3.out, by simp [hfl], fun f => (swap_mem HFA.out HFB.out f).trans (HMEM.out f), HO3.out⟩
        case measure => simp [intOf]; omega
    · have q0 : decide ((k : Int) + 1 < (nO : Int)) = false := by simp; omega
      have hXf2 := hXf.only hOn hgX
      have hY2 := hY.only hOn (show gA < bY by omega)
      have HX := Lib.hid hXf2; have HY := Lib.hid hY2; have HF := Lib.hid hF
      have x40 : wr.cell? ⟨g0, 40, none⟩ = some (.int .i64 lost) := (bCr.cell 40).trans HC.out.h40
      have hlr := hF.1
      clear hXf2 hY2 hF hL hXf hY bC hE hOn
      have d1 : decide ((0 : Int) ≤ lost) = true := by simp; omega
      have d1' : decide (lost < (12 : Int)) = true := by simp; omega
      go_wp2_with fail
      clear x38 x40
      obtain ⟨wo, rfl⟩ : ∃ wo : World, wo = wr := ⟨_, rfl⟩
      go_loopw [17, 18] (fun v i wr => ∃ k : Nat, k ≤ 12 ∧ i = .int .i64 k ∧ ∃ (n : Nat) (rs : List (List Value)) (sn : List Fr), sn.length = n ∧ n ≤ k ∧ Sent wo rs sn ∧ wr.ownsRow wo.heap.size 24 5 v n rs.flatten ∧ (∀ f : Fr, f ∈ sn ↔ f ∈ fs.take k ∧ f.count ≠ countF step lost) ∧ Ext wo wr) (fun _ i _ => 12 - (intOf i).toNat)
      case atStart => exact ⟨0, by omega, rfl, 0, [], [], rfl, by omega, ⟨rfl, by simp⟩, World.ownsRow_nil _ _ _ _, by simp, Ext.refl _⟩
      case round =>
        obtain ⟨k2, hk2, rfl, n, rs, sn, hsn, hnk, hS, hown, hmem, hX⟩ := hrel
        have HS := Lib.hid hS; have HM2 := Lib.hid hmem; have HOWN := Lib.hid hown
        clear hS hmem hown
        by_cases hlt2 : k2 < 12
        · have d2 : decide ((k2 : Int) < 12) = true := by simp; omega
          have w0 : (0 : Int) ≤ (k2 : Int) := by omega
          have w1 : (k2 : Int) < 12 := by omega
          obtain ⟨fa, hfa⟩ : ∃ fa, fs[k2]? = some fa := ⟨fs[k2]'(by omega), List.getElem?_eq_getElem (by omega)⟩
          obtain ⟨ra, hra⟩ : ∃ ra, rows[k2]? = some ra := ⟨rows[k2]'(by omega), List.getElem?_eq_getElem (by omega)⟩
          obtain ⟨p1, p2, m1, m2, m3, m4, rfl, hra2⟩ := HF.out.2.1 k2 ra fa hra hfa
          have HRA : Hid (FrCells wo fa [.int .i64 fa.unit, .int .i64 fa.count, .bool fa.sy, .slice (some ⟨p1, 0, none⟩) m1 m3, .slice (some ⟨p2, 0, none⟩) m2 m4]) := Lib.hid ⟨_, _, _, _, _, _, rfl, hra2.1⟩
          have HFA := Lib.hid hfa
          have hFx := HF.out.ext hX
          have a0 := hFx.cell (j := 0) hra (by omega); have a1 := hFx.cell (j := 1) hra (by omega); have a2 := hFx.cell (j := 2) hra (by omega); have a3 := hFx.cell (j := 3) hra (by omega); have a4 := hFx.cell (j := 4) hra (by omega)
          simp only [List.getElem?_cons_succ, List.getElem?_cons_zero, Nat.add_zero] at a0 a1 a2 a3 a4
          clear hra2 hra hfa hFx
          have A0 := ExtOf.cell a0; have A1 := ExtOf.cell a1; have A2 := ExtOf.cell a2; have A3 := ExtOf.cell a3; have A4 := ExtOf.cell a4
          have Y40 := ExtOf.cell (((bCr.ext hX).cell 40).trans HC.out.h40)
          by_cases hc : fa.count = countF step lost
          · have hcb : (fa.count != countF step lost) = false := by simp [hc]
            have HCC := Lib.hid hc; clear hc
            go_wp2_with fail
            refine wp_region_ext_lit (by kernel_rfl) (by kernel_rfl) ?_
            repeat (go_big_quiet_step (first | (go_at_call 14; exact Calls.ext_of_same (count_any _ _ _))))
            refine wpQuiet_nil ?_
            intro W hW
            obtain ⟨xe, rfl⟩ := hW
            have hX2 := hX.trans xe.ext
            have HOWN2 := Lib.hid (own_ext HOWN.out xe.ext)
            clear A0 A1 A2 A3 A4 Y40
            go_wp2_with fail
            go_roundw
            case rel =>
              refine ⟨k2 + 1, by omega, by go_num, n, rs, sn, hsn, by omega, HS.out, HOWN2.out, fun f => ?_, hX2⟩
              obtain ⟨h1, h2⟩ := List.getElem?_eq_some_iff.1 HFA.out
              rw [List.take_succ_eq_append_getElem h1, h2, List.mem_append, HM2.out]
              constructor
              · exact fun h => ⟨.inl h.1, h.2⟩
              · rintro ⟨h | h, h'⟩
                · exact ⟨h, h'⟩
                · rw [List.mem_singleton.1 h] at h'; exact absurd HCC.out h'
            case measure => simp [intOf]; omega
          · have hcb : (fa.count != countF step lost) = true := by simp [hc]
            have HCC := Lib.hid hc; clear hc
            go_wp2_with fail
            refine wp_region_ext_lit (by kernel_rfl) (by kernel_rfl) ?_
            repeat (go_big_quiet_step (first | (go_at_call 14; exact Calls.ext_of_same (count_any _ _ _))))
            refine wpQuiet_nil ?_
            intro W hW
            obtain ⟨xe, rfl⟩ := hW
            replace a0 := A0 xe; replace a1 := A1 xe; replace a2 := A2 xe; replace a3 := A3 xe; replace a4 := A4 xe
            have hX2 := hX.trans xe.ext
            have HOWN2 := Lib.hid (own_ext HOWN.out xe.ext)
            clear A0 A1 A2 A3 A4 hX HOWN Y40
            generalize xe.val = V at *
            clear xe wr
            have hzv := hX2.size
            go_wp2_with (at_builtin; refine wpList_app elem_frame rfl (.tmp 154) (.tmp 159) rfl wo.heap.size _ n _ (by rfl) (HOWN2.out.alloc _) V.heap.size 1 1 [.int .i64 fa.unit, .int .i64 fa.count, .bool fa.sy, .slice (some ⟨p1, 0, none⟩) m1 m3, .slice (some ⟨p2, 0, none⟩) m2 m4] (by rfl) (Blk.new _ _ _) rfl (by simp [Value.oneCell']) (by omega) (by omega) (by omega) (by simp; omega) ?_)
            intro g cap w2 o2 gr2 _ _
            have HO := Lib.hid o2; clear o2
            try simp only [Act.put, List.setIfInBounds_toArray, List.set_cons_succ, List.set_cons_zero]
            go_wp2_with fail
            go_roundw
            case rel =>
              refine ⟨k2 + 1, by omega, by go_num, n + 1, rs ++ [[.int .i64 fa.unit, .int .i64 fa.count, .bool fa.sy, .slice (some ⟨p1, 0, none⟩) m1 m3, .slice (some ⟨p2, 0, none⟩) m2 m4]], sn ++ [fa], by simp [hsn], by omega, HS.out.push HRA.out, ?_, fun f => ?_, own_grown gr2 (hX2.alloc _) (fun g hg => (HOWN2.out.lt g hg).1)⟩
              · have := HO.out
                rw [List.flatten_append]; simpa using this
              · obtain ⟨h1, h2⟩ := List.getElem?_eq_some_iff.1 HFA.out
                rw [List.take_succ_eq_append_getElem h1, h2, List.mem_append, List.mem_append, HM2.out]
                constructor
                · rintro (h | h)
                  · exact ⟨.inl h.1, h.2⟩
                  · exact ⟨.inr h, by rw [List.mem_singleton.1 h]; exact HCC.out⟩
                · rintro ⟨h | h, h'⟩
                  · exact .inl ⟨h, h'⟩
                  · exact .inr h
            case measure => simp [intOf]; omega
        · obtain rfl : k2 = 12 := by omega
          have hM12 : ∀ f : Fr, f ∈ sn ↔ f ∈ fs ∧ f.count ≠ countF step lost := fun f => by have := HM2.out f; rwa [List.take_of_length_le (by omega)] at this
          clear HM2
          have HM12 := Lib.hid hM12; clear hM12
          go_wp2_with fail
          go_loopw [17, 19] (fun v i wr => ∃ k : Nat, k ≤ nT ∧ i = .int .i64 k ∧ ∃ (n : Nat) (rs : List (List Value)) (sn : List Fr), sn.length = n ∧ n ≤ 12 + k ∧ Sent wo rs sn ∧ wr.ownsRow wo.heap.size 24 5 v n rs.flatten ∧ (∀ f : Fr, f ∈ sn ↔ f ∈ fs ∧ f.count ≠ countF step lost) ∧ Ext wo wr) (fun _ i _ => nT - (intOf i).toNat)
          case atStart => exact ⟨0, by omega, rfl, n, rs, sn, hsn, by omega, HS.out, HOWN.out, HM12.out, hX⟩
          case round =>
            clear hX HOWN HM12 HS hsn hnk
            obtain ⟨k3, hk3, rfl, n, rs, sn, hsn, hnk, hS, hown, hmem, hX⟩ := hrel
            have HS := Lib.hid hS; have HM2 := Lib.hid hmem; have HOWN := Lib.hid hown
            clear hS hmem hown
            have x39 : wr.cell? ⟨g0, 39, none⟩ = some (.slice T nT cT) := ((bCr.ext hX).cell 39).trans HC.out.h39
            obtain ⟨Av, cv, rfl, _, _, _⟩ := own_reads HOWN.out
            by_cases hgo : k3 < nT ∧ 0 < n
            · obtain ⟨hk3', hn0⟩ := hgo
              have e1 : decide ((k3 : Int) < (nT : Int)) = true := by simp; omega
              have e2 : decide ((0 : Int) < (n : Int)) = true := by simp; omega
              obtain ⟨ad, z, hTa, _, hz, hcz⟩ := (HC.out.hT.ext (hEr.trans hX)).int_at (k := k3) hk3'
              subst hTa
              obtain ⟨gS, cap, hv, _, _⟩ := HOWN.out.form hn0
              injection hv with hv1 hv2 hv3
              subst hv1 hv3
              obtain ⟨j, hj⟩ : ∃ j : Nat, z % (n : Int) = (j : Int) := ⟨(z % (n : Int)).toNat, by have := Int.emod_nonneg z (show (n : Int) ≠ 0 by omega); omega⟩
              have hjn : j < n := by have := Int.emod_lt_of_pos z (show (0 : Int) < (n : Int) by omega); omega
              have HJ := Lib.hid hj; clear hj
              have hrl := HS.out.1
              obtain ⟨fa, hfa⟩ : ∃ fa, sn[j]? = some fa := ⟨sn[j]'(by omega), List.getElem?_eq_getElem (by omega)⟩
              obtain ⟨ra, hra⟩ : ∃ ra, rs[j]? = some ra := ⟨rs[j]'(by omega), List.getElem?_eq_getElem (by omega)⟩
              have hFC := HS.out.2 j ra fa hra hfa
              obtain ⟨A1, B1, n1, m1, c1', d1', rfl, _⟩ := hFC
              have HRA := Lib.hid (HS.out.2 j _ fa hra hfa)
              have HFA := Lib.hid hfa
              have cell : ∀ q, q < 5 → wr.cell? ⟨gS, j * 5 + q, none⟩ = ([.int .i64 fa.unit, .int .i64 fa.count, .bool fa.sy, .slice A1 n1 c1', .slice B1 m1 d1'] : List Value)[q]? := fun q hq => by
                rw [HOWN.out.cellAt (j * 5 + q) (by omega), flat_at HS.out.len5 (by omega) hq]
                obtain ⟨_, h2⟩ := List.getElem?_eq_some_iff.1 hra
                rw [h2]
              have a0 := cell 0 (by omega); have a1 := cell 1 (by omega); have a2 := cell 2 (by omega); have a3 := cell 3 (by omega); have a4 := cell 4 (by omega)
              simp only [List.getElem?_cons_succ, List.getElem?_cons_zero, Nat.add_zero] at a0 a1 a2 a3 a4
              clear cell hra hfa hz
              have w0 : (0 : Int) ≤ (k3 : Int) := by omega
              have w1 : (k3 : Int) < (nT : Int) := by omega
              have w2' : (0 : Int) ≤ (j : Int) := by omega
              have w3' : (j : Int) < (n : Int) := by omega
              have hzv := hX.size
              go_wp2_with fail
              refine (within_any _ _ _ (by omega) (by omega)).mono ?_
              rintro e w9 ⟨rfl, rfl⟩
              rw [HJ.out]
              go_wp2_with (at_builtin; refine wpList_app elem_frame rfl (.tmp 173) (.tmp 185) rfl wo.heap.size _ n _ (by rfl) (HOWN.out.alloc _) wr.heap.size 1 1 [.int .i64 fa.unit, .int .i64 fa.count, .bool fa.sy, .slice A1 n1 c1', .slice B1 m1 d1'] (by rfl) (Blk.new _ _ _) rfl (by simp [Value.oneCell']) (by omega) (by omega) (by omega) (by simp; omega) ?_)
              intro g cap' w2 o2 gr2 _ _
              have HO := Lib.hid o2; clear o2
              try simp only [Act.put, List.setIfInBounds_toArray, List.set_cons_succ, List.set_cons_zero]
              go_wp2_with fail
              go_roundw
              case rel =>
                refine ⟨_, _, _, _, _, _, _, _, _, _, _, _, _, _, _, _, _, _, _, _, _, _, _, _, _, _, _, _, ?_, rfl⟩
                refine ⟨k3 + 1, by omega, by go_num, n + 1, rs ++ [[.int .i64 fa.unit, .int .i64 fa.count, .bool fa.sy, .slice A1 n1 c1', .slice B1 m1 d1']], sn ++ [fa], by simp [hsn], by omega, HS.out.push HRA.out, ?_, fun f => ?_, own_grown gr2 (hX.alloc _) (fun g hg => (HOWN.out.lt g hg).1)⟩
                · have := HO.out
                  rw [List.flatten_append]; simpa using this
                · rw [List.mem_append, ← HM2.out]
                  constructor
                  · rintro (h | h)
                    · exact h
                    · rw [List.mem_singleton.1 h]; exact List.mem_of_getElem? HFA.out
                  · exact fun h => .inl h
              case measure => simp [intOf]; omega
            · have hn0 : 0 < n := by
                have hm0 : splitFr unit step true (chan sm) (if lost = 0 then 1 else 0) ∈ sn := (HM2.out _).2 ⟨(HMEM.out _).2 (mem_splitL.2 ⟨_, by split <;> omega, rfl⟩), fun h => by
                  have h1 := count_in HST.out (k := lost.toNat) (by omega)
                  rw [Int.toNat_of_nonneg (by omega)] at h1
                  have h2 : countF step ((if lost = 0 then 1 else 0 : Nat) : Nat) = countF step lost := h
                  split at h2
                  · have h3 := count_in HST.out (k := 1) (by omega); omega
                  · have h3 := count_in HST.out (k := 0) (by omega); omega⟩
                have := List.length_pos_of_mem hm0; omega
              obtain rfl : k3 = nT := by omega
              have e1 : decide ((k3 : Int) < (k3 : Int)) = false := by simp
              have hSA := sent_all (keep := fun f => f.count ≠ countF step lost) HU.out (btw_t (x := unitX) (by omega) (by omega)) HNE.out HST.out s0 o0 (by omega) (fun f => by rw [HM2.out f, HMEM.out f]) HYM.out
              obtain ⟨hck, gg, hgg, hk9⟩ := hSA
              have HK := Lib.hid hk9; clear hk9
              have hSX := HS.out.append HX.out.sent
              have hXr := (HX.out.ext hX).reads (n := 12) (by simp [splitL])
              have hX1 := HX.out.one
              have hYl := HY.out.1
              clear hgo
              by_cases hY0 : nY = 0
              · obtain ⟨rfl, rfl⟩ := hYz hY0
                subst hY0
                obtain rfl : fsY = [] := List.eq_nil_of_length_eq_zero hYl
                rw [List.append_nil] at hck hgg
                have HSA := Lib.hid (And.intro hck True.intro); have HGG := Lib.hid hgg; clear hck hgg
                go_wp2_with (at_builtin; refine wpList_appR elem_frame rfl (.tmp 187) (.tmp 188) rfl wo.heap.size _ n _ (by rfl) HOWN.out _ 12 _ rowsX.flatten (by rfl) hXr hX1 (by omega) (by omega) (by omega) hX.size ?_)
                intro g cap' w2 o2 gr2 _ _
                obtain ⟨_, _, hv', hcap, _, _⟩ := own_reads o2
                injection hv' with e1' _ e3
                subst e1' e3
                have HO := Lib.hid o2; clear o2
                try simp only [Act.put, List.setIfInBounds_toArray, List.set_cons_succ, List.set_cons_zero]
                go_wp2_with fail
                have hRF : RFrames w2 (some ⟨g, 0, none⟩) (n + 12) (sn ++ splitL unitX step true (chan sm) 12) := Sent.frames (W := wo) (rs := rs ++ rowsX) (base := wo.heap.size) (cap := cap') hSX (by simp [hsn, splitL]) (own_grown gr2 hX (fun g hg => (HOWN.out.lt g hg).1)) (by have := HO.out; simpa [List.flatten_append, List.append_assoc] using this)
                have HRF := Lib.hid hRF; clear hRF
                have hx0 := (own_grown gr2 hX (fun g hg => (HOWN.out.lt g hg).1))
                have hEz := hEr.trans hx0
                have bCz := bCr.ext hx0
                refine (collect_lost _ _ _ _ unit step gg false _ HRF.out (by omega) HSA.out.1 HGG.out HU.out (btw_t (by omega) (by omega)) ⟨lost.toNat, by omega, by rw [(HK.out lost.toNat (by omega)).2 (fun h => h (show countF step (lost.toNat : Nat) = countF step lost by rw [Int.toNat_of_nonneg (by omega)]))]; rfl⟩).mono ?_
                rintro e w9 ⟨rfl, hx9⟩
                go_wp2_with fail
                go_ret
                exact ⟨rfl, hEz.trans hx9⟩
              · have HSA := Lib.hid (And.intro hck True.intro); have HGG := Lib.hid hgg; clear hck hgg
                obtain ⟨gY, rowsY, rfl, hgY, hFY⟩ := HY.out.2 (by omega)
                have hSY := hSX.append hFY.sent
                have hY1 := hFY.one
                go_wp2_with (at_builtin; refine wpList_appR elem_frame rfl (.tmp 187) (.tmp 188) rfl wo.heap.size _ n _ (by rfl) HOWN.out _ 12 _ rowsX.flatten (by rfl) hXr hX1 (by omega) (by omega) (by omega) hX.size ?_)
                intro g cap' w2 o2 gr2 _ _
                have HO := Lib.hid o2; clear o2
                have hX2 := own_grown gr2 hX (fun g hg => (HOWN.out.lt g hg).1)
                have hYr := (hFY.ext hX2).reads hYl
                try simp only [Act.put, List.setIfInBounds_toArray, List.set_cons_succ, List.set_cons_zero]
                go_wp2_with (at_builtin; refine wpList_appR elem_frame rfl (.tmp 189) (.tmp 190) rfl wo.heap.size _ (n + 12) _ (by rfl) HO.out _ nY _ rowsY.flatten (by rfl) hYr hY1 (by omega) (by omega) (by omega) hX2.size ?_)
                clear gr2
                intro g cap' w3 o3 gr3 _ _
                have HO3 := Lib.hid o3; clear o3
                try simp only [Act.put, List.setIfInBounds_toArray, List.set_cons_succ, List.set_cons_zero]
                go_wp2_with fail
                have hRF : RFrames w3 (some ⟨g, 0, none⟩) (n + 12 + nY) (sn ++ splitL unitX step true (chan sm) 12 ++ fsY) := Sent.frames (W := wo) (rs := rs ++ rowsX ++ rowsY) (base := wo.heap.size) (cap := cap') hSY (by simp [hsn, splitL, hYl]; try omega) (own_grown gr3 hX2 (fun g hg => (HO.out.lt g hg).1)) (by have := HO3.out; simpa [List.flatten_append, List.append_assoc] using this)
                have HRF := Lib.hid hRF; clear hRF
                have hx0 := (own_grown gr3 hX2 (fun g hg => (HO.out.lt g hg).1))
                have hEz := hEr.trans hx0
                have bCz := bCr.ext hx0
                refine (collect_lost _ _ _ _ unit step gg false _ HRF.out (by omega) HSA.out.1 HGG.out HU.out (btw_t (by omega) (by omega)) ⟨lost.toNat, by omega, by rw [(HK.out lost.toNat (by omega)).2 (fun h => h (show countF step (lost.toNat : Nat) = countF step lost by rw [Int.toNat_of_nonneg (by omega)]))]; rfl⟩).mono ?_
                rintro e w9 ⟨rfl, hx9⟩
                go_wp2_with fail
                go_ret
                exact ⟨rfl, hEz.trans hx9⟩
end Go.Proofs.Ytmlcmnbjioabiaa
