/- Linear: SameMatrix of the specification at equal matrices; made matrices as they are read. -/
import Derived.Test.YtclkkoiaaddllaaGreatQYqddoa
namespace Go.Proofs.YtclkkoiaaddllaaGreat
open Go.RowKit
set_option linter.unusedVariables false

/-- A made matrix is read as any other. -/
theorem Out.mem {W : World} {G m n : Nat} {RX : Nat → Rw} {X : Nat → Nat → GQ} (h : Out W G m n RX X) (hm : m ≤ 1000) (hn : n ≤ 1000) : ∃ (R : Nat → Rw) (E : Nat → Nat → En), Mem W (some ⟨G, 0, none⟩) G 0 m R E ∧ (∀ i, i < m → (R i).n = n) ∧ ∀ i j, i < m → j < n → GV W (E i j).v (X i j) 12800 := by
  have hc : ∀ i, ∃ f : Nat → En, i < m → Blk W (RX i).b 32 (rowc n f).toArray ∧ ∀ j, j < n → GV W (f j).v (X i j) 12800 := fun i => by
    by_cases hi : i < m
    · obtain ⟨f, h1, h2⟩ := (h.row i hi).2.2.2
      exact ⟨f, fun _ => ⟨h1, h2⟩⟩
    · exact ⟨fun _ => zEn, fun h => absurd h hi⟩
  obtain ⟨E, hE⟩ := Classical.axiomOfChoice hc
  refine ⟨fun i => ⟨(RX i).A, (RX i).b, 0, (RX i).n, (RX i).c⟩, E, ⟨fun _ => rfl, fun i hi => ?_, fun i hi _ => (h.row i hi).1, fun i j hi hj t u hu => ?_, by omega, fun i hi => ?_⟩, fun i hi => (h.row i hi).2.1, fun i j hi hj => (hE i hi).2 j hj⟩
  · rw [h.x.cell, Nat.zero_add, mxc_at hi]; rfl
  · have hj' : j < n := by have := (h.row i hi).2.1; have hj2 : j < (RX i).n := hj; omega
    have ht : t < 6 := (List.getElem?_eq_some_iff.1 hu).1
    show W.cell? ⟨(RX i).b, 0 + (j * 6 + t), none⟩ = some u
    rw [Nat.zero_add, (hE i hi).1.cell, List.getElem?_toArray, rowc_at ht hj']; exact hu
  · have := (h.row i hi).2.1
    show (RX i).n ≤ _
    omega
set_option maxRecDepth 100000 in
set_option maxHeartbeats 6400000 in
theorem same_mx {A A2 : Option Addr} {B O B2 O2 m c c2 : Nat} {R R2 : Nat → Rw} {E E2 : Nat → Nat → En} {X : Nat → Nat → GQ} {w : World} (h : Mem w A B O m R E) (h2 : Mem w A2 B2 O2 m R2 E2) (hn : ∀ i, i < m → (R i).n = (R2 i).n) (hm : m ≤ 1000) (hb : ∀ i, i < m → (R i).n ≤ 1000)
    (hv : ∀ i j, i < m → j < (R i).n → GV w (E i j).v (X i j) 12800) (hv2 : ∀ i j, i < m → j < (R i).n → GV w (E2 i j).v (X i j) 12800) :
    Calls Tryz.prog 22 #[.slice A m c, .slice A2 m c2] w fun e w' => e = .returned (.bool true) ∧ Ext w w' := by
  have HM := Lib.hid h; have HM2 := Lib.hid h2; have HN := Lib.hid hn; have HB := Lib.hid hb; have HV := Lib.hid hv; have HV2 := Lib.hid hv2
  clear h h2 hn hb hv hv2
  have hbeq : ((m : Int) != (m : Int)) = false := by simp
  go_enter Tryz.func22, Tryz.ntmps22
  go_wp2_with fail
  go_loopw [14] (fun i wr => ∃ k : Nat, k ≤ m ∧ i = .int .i64 k ∧ Ext w wr) (fun i _ => m - (intOf i).toNat)
  case atStart => exact ⟨0, by omega, rfl, Ext.refl _⟩
  case round =>
    obtain ⟨i, hi, rfl, hx⟩ := hrel
    have HX := Lib.hid hx; clear hx
    by_cases hlt : i < m
    · have hd : decide ((i : Int) < (m : Int)) = true := by simp; omega
      have hA := HM.out.at0 (by omega); have hA2 := HM2.out.at0 (by omega)
      subst hA; subst hA2
      have hr := HM.out.rowc hlt HX.out
      have hr2 := HM2.out.rowc hlt HX.out
      rw [← HN.out i hlt] at hr2
      have hne : (((R i).n : Int) != ((R i).n : Int)) = false := by simp
      have K1 := ExtOf.cell hr; have K2 := ExtOf.cell hr2
      have hbi := HB.out i hlt
      go_wp2_with fail
      refine wp_region_ordE 10 [(true, 0), (true, 1), (true, 2), (true, 3), (true, 4), (true, 5), (true, 6), (true, 7), (true, 8), (true, 9)] (by kernel_rfl) (by kernel_rfl) ?_
      refine wpOrdT_quiet [0, 1, 2, 3, 4, 5, 6, 7, 8, 9] [] _ (by kernel_rfl) ?_
      simp only [nthOps, nthOp, List.cons_append, List.nil_append]
      repeat (go_big_quiet_step (fail))
      refine wpQuiet_nil ?_
      clear K1 K2
      simp only [wpOrdT, List.drop_succ_cons, List.drop_zero]
      have hr' := hr; have hr2' := hr2
      go_wp2_with fail
      clear hr hr2 hr' hr2'
      go_loopw [33] (fun i33 wz => ∃ j : Nat, j ≤ (R i).n ∧ i33 = .int .i64 j ∧ Ext w wz) (fun i33 _ => (R i).n - (intOf i33).toNat)
      case atStart => exact ⟨0, by omega, rfl, by first | exact HX.out | exact HX.out.drew⟩
      case round =>
        clear hd
        obtain ⟨j, hj, rfl, hz⟩ := hrel
        have HZ := Lib.hid hz; clear hz
        by_cases hjt : j < (R i).n
        · have dj : decide ((j : Int) < ((R i).n : Int)) = true := by simp; omega
          have di : decide ((i : Int) < (m : Int)) = true := by simp; omega
          have hr := HM.out.rowc hlt HZ.out
          have hr2 := HM2.out.rowc hlt HZ.out
          have hj2 : j < (R2 i).n := by have := HN.out i hlt; omega
          rw [← HN.out i hlt, HM2.out.ra i hlt (by omega)] at hr2
          rw [HM.out.ra i hlt (by omega)] at hr
          obtain ⟨a0, a1, a2, a3, a4, a5⟩ := HM.out.cells hlt hjt HZ.out
          obtain ⟨b0, b1, b2, b3, b4, b5⟩ := HM2.out.cells hlt hj2 HZ.out
          have K1 := ExtOf.cell hr; have K2 := ExtOf.cell hr2
          have A0 := ExtOf.cell a0; have A1 := ExtOf.cell a1; have A2 := ExtOf.cell a2; have A3 := ExtOf.cell a3; have A4 := ExtOf.cell a4; have A5 := ExtOf.cell a5
          have B0 := ExtOf.cell b0; have B1 := ExtOf.cell b1; have B2' := ExtOf.cell b2; have B3 := ExtOf.cell b3; have B4 := ExtOf.cell b4; have B5 := ExtOf.cell b5
          clear hr hr2 a0 a1 a2 a3 a4 a5 b0 b1 b2 b3 b4 b5
          go_wp2_with fail
          refine wp_region_ordE 15 [(true, 0), (true, 1), (true, 2), (true, 3), (true, 4), (true, 5), (true, 6), (true, 7), (true, 8), (true, 9), (true, 10), (true, 11), (true, 12), (true, 13), (false, 14)] (by kernel_rfl) (by kernel_rfl) ?_
          refine wpOrdT_quiet [0, 1, 2, 3, 4, 5, 6, 7, 8, 9, 10, 11, 12, 13] [(false, 14)] _ (by kernel_rfl) ?_
          simp only [nthOps, nthOp, List.cons_append, List.nil_append]
          repeat (go_big_quiet_step (fail))
          refine wpQuiet_nil ?_
          refine wpOrdT_act 14 [] (by kernel_rfl) ?_
          intro K hK
          simp only [nthOp]
          go_wp2_with fail
          refine (qSame_q _ _ (X i j) (X i j) 12800 12800 _ ((HV.out i j hlt hjt).ext (HZ.out.drew)) ((HV2.out i j hlt hjt).ext (HZ.out.drew)) rfl).mono ?_
          rintro e w4 ⟨rfl, hx4⟩
          have HX4 := Lib.hid hx4.undrew
          clear hx4
          go_wp2
          refine hK _ _ ⟨⟨w4, HX4.out⟩, rfl⟩ ?_
          clear hK K K1 K2 A0 A1 A2 A3 A4 A5 B0 B1 B2' B3 B4 B5
          simp only [wpOrdT, List.drop_succ_cons, List.drop_zero]
          go_wp2_with fail
          go_roundw
          case rel => exact ⟨j + 1, by omega, by go_num, HZ.out.trans HX4.out⟩
          case measure => simp [intOf]; omega
        · obtain rfl : j = (R i).n := by omega
          have dj : decide (((R i).n : Int) < ((R i).n : Int)) = false := by simp
          go_wp2_with fail
          go_roundw
          case rel => exact ⟨i + 1, by omega, by go_num, HZ.out⟩
          case measure => simp [intOf]; omega
    · obtain rfl : i = m := by omega
      have hd : decide ((i : Int) < (i : Int)) = false := by simp
      go_wp2_with fail
      go_ret
      exact ⟨rfl, HX.out⟩
end Go.Proofs.YtclkkoiaaddllaaGreat
