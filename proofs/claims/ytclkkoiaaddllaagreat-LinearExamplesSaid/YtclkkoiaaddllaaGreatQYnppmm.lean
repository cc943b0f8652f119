/- Linear: echelon of a fresh copy beside rows without numbers. -/
import Derived.Test.YtclkkoiaaddllaaGreatQYkkebk
import Derived.Test.YtclkkoiaaddllaaGreatQYmhpkb
namespace Go.Proofs.YtclkkoiaaddllaaGreat
open Go.RowKit
set_option linter.unusedVariables false

theorem DI.mx {w W W' : World} {G m na : Nat} {X : Nat → Nat → GQ} {R : Nat → Rw} (h : DI w W G m na m X R) (x : Ext W W') : MxI W' G m na (fun g => ∃ i, i < m ∧ g = (R i).b) R X :=
  ⟨h.out.ext x, h.len, fun i hi _ => ⟨(h.row i hi).1, (h.row i hi).2.1.ext x⟩, fun i j hi hj _ e => h.inj i j hi hj e, fun i hi _ => ⟨i, hi, rfl⟩⟩
theorem nil_mx {W : World} {G m : Nat} {P : Nat → Prop} {X : Nat → Nat → GQ} (h : Blk W G 37 (mxc m fun _ => nilRw).toArray) : MxI W G m 0 P (fun _ => nilRw) X :=
  ⟨h, fun _ _ => ⟨rfl, rfl⟩, fun _ _ h => absurd h (by omega), fun _ _ _ _ h => absurd h (by omega), fun _ _ h => absurd h (by omega)⟩
set_option maxRecDepth 100000 in
set_option maxHeartbeats 1600000 in
theorem width_own {W : World} {G m n : Nat} {P : Nat → Prop} {R : Nat → Rw} {X : Nat → Nat → GQ} (h : MxI W G m n P R X) (h0 : m = 0 → n = 0) (c : Nat) (hm : m ≤ 1000) : Calls Tryz.prog 34 #[.slice (some ⟨G, 0, none⟩) m c] W fun e w' => e = .returned (.int .i64 n) ∧ Ext W w' := by
  by_cases hz : m = 0
  · have d0 : ((m : Int) == 0) = true := by simp [hz]
    rw [h0 hz]
    clear h h0 hz
    go_enter Tryz.func34, Tryz.ntmps34
    go_wp2_with fail
    go_ret
    exact ⟨rfl, Ext.refl _⟩
  · have d0 : ((m : Int) == 0) = false := by simp [hz]
    have hr := h.cell (i := 0) (by omega)
    have q1 : (0 : Int) < (m : Int) := by omega
    clear h h0
    go_enter Tryz.func34, Tryz.ntmps34
    go_wp2_with fail
    go_ret
    exact ⟨rfl, Ext.refl _⟩
theorem echelon_nil {gf G Gb m na N B0 : Nat} {X : Nat → Nat → GQ} {R : Nat → Rw} {w wd W : World} (hD : DI w wd G m na m X R) (hx : Ext wd W) (hB : Blk W Gb 37 (mxc m fun _ => nilRw).toArray) (hG : G ≠ Gb) (hC : CalmF W gf) (hb : B0 ≤ w.heap.size) (hb2 : B0 ≤ Gb)
    (hna0 : m = 0 → na = 0) (hm : m ≤ 24) (hna : na ≤ 24) (hN : 4 * N + 67 ≤ 12800) (hroom : Room N m na 0 X) :
    Calls Tryz.prog 30 #[.pointer (some ⟨gf, 0, none⟩), .slice (some ⟨G, 0, none⟩) m m, .slice (some ⟨Gb, 0, none⟩) m m] W fun e w' => e = .returned (.tuple #[.int .i64 (ech m X na).r, .bool (ech m X na).odd]) ∧
      EI w' gf G Gb m na 0 (fun g => ∃ i, i < m ∧ g = (R i).b) (fun _ => False) (ech m X na).X ∧ Mod (fun g => B0 ≤ g) W w' := by
  refine fechelon_w gf G Gb m m m na 0 N _ (fun _ => False) (fun g => B0 ≤ g) X W ⟨hC, ⟨R, hD.mx hx⟩, ⟨_, nil_mx hB⟩⟩ hG (fun _ _ h => h) ⟨Nat.le_trans hb hD.gx, hb2, ?_, fun _ h => h.elim⟩ hna0 hm hna (by omega) hN hroom ?_
  · rintro g ⟨i, hi, rfl⟩
    exact Nat.le_trans hb (hD.row i hi).2.2
  · intro w' x
    exact (width_own ((hD.mx hx).ext x) hna0 m (by omega))
theorem Mod.ext_of {B0 : Nat} {w W : World} (h : Mod (fun g => B0 ≤ g) w W) {w0 : World} (x : Ext w0 w) (hb : w0.heap.size ≤ B0) : Ext w0 W :=
  ⟨h.os.trans x.os, h.tape.trans x.tape, h.output.trans x.output, Nat.le_trans x.size h.size, fun k hk => (h.block k (Nat.lt_of_lt_of_le hk x.size) (by omega)).trans (x.block k hk)⟩
theorem calm_new (W : World) : CalmF (W.alloc (.cells #[.int .i64 0] 68)) W.heap.size := Blk.new _ _ _
set_option maxRecDepth 100000 in
set_option maxHeartbeats 6400000 in
theorem rank_ok {A : Option Addr} {B O m c na N : Nat} {R : Nat → Rw} {E : Nat → Nat → En} {X : Nat → Nat → GQ} {w : World} {vb : Nat → Nat → Bool} (h : Mem w A B O m R E) (hvb : ∀ i j, i < m → j < (R i).n → VB w (E i j).v (vb i j)) (hM : IsM m R vb) (hn : ∀ i, i < m → (R i).n = na) (hna0 : m = 0 → na = 0) (hna : na ≤ 24)
    (hv : ∀ i j, i < m → j < na → GV w (E i j).v (X i j) 12800) (hN : 4 * N + 67 ≤ 12800) (hroom : Room N m na 0 X) :
    Calls Tryz.prog 10 #[.slice A m c] w fun e w' => e = .returned (.tuple #[.int .i64 (ech m X na).r, .int .i64 0]) ∧ Ext w w' := by
  have hm := hM.1
  have HM := Lib.hid h; have HV := Lib.hid hv; have HN := Lib.hid hn; have HR := Lib.hid hroom
  have HMx := Lib.hid (matrix_any (c := c) h hvb true ⟨fun _ => hM, fun _ => rfl⟩)
  clear h hv hn hroom hvb hM
  have hmk := make_mx m (by omega)
  go_enter Tryz.func10, Tryz.ntmps10
  go_wp2_with fail
  refine HMx.out.mono ?_
  rintro e w1 ⟨rfl, hx1⟩
  have HX1 := Lib.hid hx1; clear hx1
  go_wp2_with fail
  have hC2 := calm_new w1
  have hx2 : Ext w (w1.alloc (.cells #[.int .i64 0] 68)) := HX1.out.alloc _
  have HM2 := Lib.hid (HM.out.ext hx2); have HV2 : Hid (∀ i j, i < m → j < na → GV _ (E i j).v (X i j) 12800) := Lib.hid fun i j hi hj => (HV.out i j hi hj).ext hx2
  have HX2 := Lib.hid hx2; clear hx2
  have hlt4 : w1.heap.size < (w1.alloc (.cells #[.int .i64 0] 68)).heap.size := hC2.lt
  generalize (w1.alloc (.cells #[.int .i64 0] 68)) = w2 at hC2 HM2 HV2 HX2 hlt4 ⊢
  generalize w1.heap.size = g4 at hC2 hlt4 ⊢
  have HC2 := Lib.hid hC2; clear hC2
  refine wp_region_ordF 10 4 [(true, 0), (true, 2), (true, 3), (false, 1)] [(false, 5), (true, 6), (true, 7), (true, 8), (true, 9)] (fun a a' w' => ∃ Gd Gb : Nat, a' = ((((((((((a.put (some 11) (.slice A m c)).put (some 13) (.slice A m c)).put (some 14) (.int .i64 m)).put (some 12) (.slice (some ⟨Gd, 0, none⟩) m m)).put (some 15) (.slice (some ⟨Gb, 0, none⟩) m m)).put (some 16) (.tuple #[.int .i64 (ech m X na).r, .bool (ech m X na).odd])).put (some 10) (.tuple #[.int .i64 (ech m X na).r, .bool (ech m X na).odd])).put (some 17) (.int .i64 (ech m X na).r)).put (some 18) (.bool (ech m X na).odd)).put (some 5) (.int .i64 (ech m X na).r)) ∧ CalmF w' g4 ∧ Ext w2 w') (by kernel_rfl) (by kernel_rfl) ?_ ?_
  ·
    have hB_ : Ext w2 w2.drew := (Ext.refl _).drew
    generalize w2.drew = w6 at *
    refine wpOrdF_quiet [0, 2, 3] [(false, 1)] _ (by kernel_rfl) ?_
    simp only [nthOps, nthOp, List.cons_append, List.nil_append]
    repeat (go_big_quiet_step (fail))
    refine wpQuiet_nil ?_
    refine wpOrdF_act 1 [] (by kernel_rfl) (by kernel_rfl) ?_ ?_
    ·
      intro K hK
      simp only [nthOp]
      go_wp2_with fail
      refine (dup_w (HM2.out.ext hB_) HN.out (fun i j hi hj => (HV2.out i j hi hj).ext hB_) hm hna).mono ?_
      rintro e wd ⟨Gd, Rd, rfl, hD⟩
      have HLE := Lib.hid (show w2.heap.size ≤ w6.heap.size from hB_.size)
      replace hB_ := hB_.trans hD.ext
      have HD := Lib.hid hD; clear hD
      go_wp2
      refine hK _ _ ⟨⟨wd, hB_⟩, rfl⟩ ?_
      clear hK K
      refine wpOrdF_end (by kernel_rfl) ?_
      intro K hK
      simp only [nthOp]
      go_wp2_with fail
      have hxd := Ext.new wd (.cells (mxc m fun _ => nilRw).toArray 37)
      have HB := Lib.hid (Blk.new wd 37 (mxc m fun _ => nilRw).toArray)
      have HNE := Lib.hid (show Gd ≠ wd.heap.size from by have := HD.out.out.lt; omega)
      have HLB := Lib.hid (show w2.heap.size ≤ wd.heap.size from hB_.size)
      replace hB_ := hB_.trans hxd
      have HXd := Lib.hid hxd; clear hxd
      refine hK _ _ ⟨⟨_, hB_⟩, rfl⟩ ?_
      clear hK K
      have HC := Lib.hid (HC2.out.ext hB_)
      generalize wd.alloc (.cells (mxc m fun _ => nilRw).toArray 37) = wm at *
      generalize wd.heap.size = Gb at *
      refine wpOrdT_act 5 [(true, 6), (true, 7), (true, 8), (true, 9)] (by kernel_rfl) ?_
      intro K hK
      simp only [nthOp]
      go_wp2_with fail
      refine (echelon_nil (B0 := w2.heap.size) HD.out (by first | exact HXd.out | exact Ext.refl _) HB.out HNE.out HC.out (by have := HLE.out; omega) (by have := HLB.out; omega) hna0 hm hna hN HR.out).mono ?_
      rintro e w7 ⟨rfl, hEI, hMod⟩
      have hx7 := hMod.ext_of hB_ (by omega)
      have HC7 := Lib.hid hEI.calm
      clear hEI hMod
      go_wp2
      refine hK _ _ ⟨⟨w7, hx7⟩, rfl⟩ ?_
      clear hK K
      refine wpOrdT_quiet [6, 7, 8, 9] [] _ (by kernel_rfl) ?_
      simp only [nthOps, nthOp, List.cons_append, List.nil_append]
      repeat (go_big_quiet_step (fail))
      refine wpQuiet_nil ?_
      simp only [wpOrdT]
      exact ⟨Gd, Gb, by simp only [Act.put, sa0, sa1, sa2], HC7.out, hx7⟩
    ·
      intro K hK
      simp only [nthOp]
      go_wp2_with fail
      have hxd := Ext.new w6 (.cells (mxc m fun _ => nilRw).toArray 37)
      have HB0 := Lib.hid (Blk.new w6 37 (mxc m fun _ => nilRw).toArray)
      have HLB := Lib.hid (show w2.heap.size ≤ w6.heap.size from hB_.size)
      have hsz : w6.heap.size < (w6.alloc (.cells (mxc m fun _ => nilRw).toArray 37)).heap.size := HB0.out.lt
      replace hB_ := hB_.trans hxd
      clear hxd
      refine hK _ _ ⟨⟨_, hB_⟩, rfl⟩ ?_
      clear hK K
      generalize w6.alloc (.cells (mxc m fun _ => nilRw).toArray 37) = wm at *
      generalize w6.heap.size = Gb at *
      have HSZ := Lib.hid hsz; clear hsz
      refine wpOrdT_act 1 [(false, 5), (true, 6), (true, 7), (true, 8), (true, 9)] (by kernel_rfl) ?_
      intro K hK
      simp only [nthOp]
      go_wp2_with fail
      refine (dup_w (HM2.out.ext hB_) HN.out (fun i j hi hj => (HV2.out i j hi hj).ext hB_) hm hna).mono ?_
      rintro e wd ⟨Gd, Rd, rfl, hD⟩
      have HLE := Lib.hid (show w2.heap.size ≤ wm.heap.size from hB_.size)
      have HB := Lib.hid (HB0.out.ext hD.ext)
      have HNE := Lib.hid (show Gd ≠ Gb from by have := hD.gx; have := HSZ.out; omega)
      replace hB_ := hB_.trans hD.ext
      have HXd := Lib.hid (Ext.refl wd)
      have HD := Lib.hid hD; clear hD
      have HC := Lib.hid (HC2.out.ext hB_)
      go_wp2
      refine hK _ _ ⟨⟨wd, hB_⟩, rfl⟩ ?_
      clear hK K
      refine wpOrdT_act 5 [(true, 6), (true, 7), (true, 8), (true, 9)] (by kernel_rfl) ?_
      intro K hK
      simp only [nthOp]
      go_wp2_with fail
      refine (echelon_nil (B0 := w2.heap.size) HD.out (by first | exact HXd.out | exact Ext.refl _) HB.out HNE.out HC.out (by have := HLE.out; omega) (by have := HLB.out; omega) hna0 hm hna hN HR.out).mono ?_
      rintro e w7 ⟨rfl, hEI, hMod⟩
      have hx7 := hMod.ext_of hB_ (by omega)
      have HC7 := Lib.hid hEI.calm
      clear hEI hMod
      go_wp2
      refine hK _ _ ⟨⟨w7, hx7⟩, rfl⟩ ?_
      clear hK K
      refine wpOrdT_quiet [6, 7, 8, 9] [] _ (by kernel_rfl) ?_
      simp only [nthOps, nthOp, List.cons_append, List.nil_append]
      repeat (go_big_quiet_step (fail))
      refine wpQuiet_nil ?_
      simp only [wpOrdT]
      exact ⟨Gd, Gb, by simp only [Act.put, sa0, sa1, sa2], HC7.out, hx7⟩
  rintro a' w8 ⟨Gd, Gb, rfl, hC8, hx8⟩
  simp only [Act.put, List.setIfInBounds_toArray, List.set_cons_succ, List.set_cons_zero, List.drop_succ_cons, List.drop_zero]
  have e0 := hC8.cell
  have HX8 := Lib.hid (HX2.out.trans hx8)
  clear hx8
  go_wp2_with fail
  exact bp_tmps2 rfl rfl ⟨rfl, HX8.out⟩
end Go.Proofs.YtclkkoiaaddllaaGreat
