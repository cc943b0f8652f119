/- Linear: refused arguments; the product of matrices without columns. -/
import Derived.Test.YtclkkoiaaddllaaGreatQYrglod
namespace Go.Proofs.YtclkkoiaaddllaaGreat
open Go.RowKit
set_option linter.unusedVariables false

section
variable {A A2 : Option Addr} {B O B2 O2 m m2 c c2 : Nat} {R R2 : Nat → Rw} {E E2 : Nat → Nat → En} {w : World} {vb vb2 : Nat → Nat → Bool}
set_option maxRecDepth 100000 in
set_option maxHeartbeats 3200000 in
theorem solve_cnt (h : Mem w A B O m R E) (h2 : Mem w A2 B2 O2 m2 R2 E2) (hvb : ∀ i j, i < m → j < (R i).n → VB w (E i j).v (vb i j)) (hvb2 : ∀ i j, i < m2 → j < (R2 i).n → VB w (E2 i j).v (vb2 i j)) (hM : IsM m R vb) (hM2 : IsM m2 R2 vb2) (hw : wd m R = m) (hne : m ≠ m2) :
    Calls Tryz.prog 20 #[.slice A m c, .slice A2 m2 c2] w fun e w' => e = .returned (.tuple #[.slice none 0 0, .int .i64 3]) ∧ Ext w w' := by
  have HMx := Lib.hid (fun (w' : World) (x : Ext w w') => matrix_any (c := c) (h.ext x) (fun i j hi hj => (hvb i j hi hj).ext x) true ⟨fun _ => hM, fun _ => rfl⟩)
  have HMy := Lib.hid (fun (w' : World) (x : Ext w w') => matrix_any (c := c2) (h2.ext x) (fun i j hi hj => (hvb2 i j hi hj).ext x) true ⟨fun _ => hM2, fun _ => rfl⟩)
  have HWd := Lib.hid (fun (w' : World) (x : Ext w w') => width_any (c := c) (h.ext x))
  rw [hw] at HWd
  clear h h2 hvb hvb2 hM hM2 hw
  have hbeq : ((m : Int) != (m : Int)) = false := by simp
  have hbne : ((m : Int) != (m2 : Int)) = true := by simp; omega
  clear hne
  go_enter Tryz.func20, Tryz.ntmps20
  go_wp2_with fail
  refine (HMx.out _ (Ext.refl _)).mono ?_
  rintro e w1 ⟨rfl, hx1⟩
  go_wp2_with fail
  refine (HMy.out _ hx1).mono ?_
  rintro e w2 ⟨rfl, hx2⟩
  go_wp2_with fail
  refine (HWd.out _ (hx1.trans hx2)).mono ?_
  rintro e w3 ⟨rfl, hx3⟩
  go_wp2_with fail
  exact bp_tmps2 rfl rfl ⟨rfl, (hx1.trans hx2).trans hx3⟩
set_option maxRecDepth 100000 in
set_option maxHeartbeats 3200000 in
theorem rank_arg (h : Mem w A B O m R E) (hvb : ∀ i j, i < m → j < (R i).n → VB w (E i j).v (vb i j)) (hM : ¬ IsM m R vb) :
    Calls Tryz.prog 10 #[.slice A m c] w fun e w' => e = .returned (.tuple #[.int .i64 0, .int .i64 1]) ∧ Ext w w' := by
  have HMx := Lib.hid (matrix_any (c := c) h hvb false ⟨fun h => by simp at h, fun h => absurd h hM⟩)
  clear h hvb hM
  go_enter Tryz.func10, Tryz.ntmps10
  go_wp2_with fail
  refine HMx.out.mono ?_
  rintro e w1 ⟨rfl, hx1⟩
  go_wp2_with fail
  exact bp_tmps2 rfl rfl ⟨rfl, hx1⟩
set_option maxRecDepth 100000 in
set_option maxHeartbeats 3200000 in
theorem product_arg (h : Mem w A B O m R E) (hvb : ∀ i j, i < m → j < (R i).n → VB w (E i j).v (vb i j)) (hM : ¬ IsM m R vb) :
    Calls Tryz.prog 16 #[.slice A m c, .slice A2 m2 c2] w fun e w' => e = .returned (.tuple #[.slice none 0 0, .int .i64 1]) ∧ Ext w w' := by
  have HMx := Lib.hid (matrix_any (c := c) h hvb false ⟨fun h => by simp at h, fun h => absurd h hM⟩)
  clear h hvb hM
  go_enter Tryz.func16, Tryz.ntmps16
  go_wp2_with fail
  refine HMx.out.mono ?_
  rintro e w1 ⟨rfl, hx1⟩
  go_wp2_with fail
  exact bp_tmps2 rfl rfl ⟨rfl, hx1⟩
set_option maxRecDepth 100000 in
set_option maxHeartbeats 3200000 in
theorem det_cnt (h : Mem w A B O m R E) (hvb : ∀ i j, i < m → j < (R i).n → VB w (E i j).v (vb i j)) (hM : IsM m R vb) (hne : m ≠ wd m R) :
    Calls Tryz.prog 12 #[.slice A m c] w fun e w' => e = .returned (.tuple #[gv false none 0 0 false none 0 0 false none 0 0, .int .i64 3]) ∧ Ext w w' := by
  have HMx := Lib.hid (fun (w' : World) (x : Ext w w') => matrix_any (c := c) (h.ext x) (fun i j hi hj => (hvb i j hi hj).ext x) true ⟨fun _ => hM, fun _ => rfl⟩)
  have HWd := Lib.hid (fun (w' : World) (x : Ext w w') => width_any (c := c) (h.ext x))
  have hbne : ((m : Int) != (wd m R : Int)) = true := by simp; omega
  clear h hvb hM hne
  have hE0 := Ext.new w (.cells #[.bool false, .slice none 0 0, .bool false, .slice none 0 0, .bool false, .slice none 0 0] 32)
  have hB2 := Blk.new w 32 #[.bool false, .slice none 0 0, .bool false, .slice none 0 0, .bool false, .slice none 0 0]
  go_enter Tryz.func12, Tryz.ntmps12
  go_wp2_with fail
  generalize (w.alloc (.cells #[.bool false, .slice none 0 0, .bool false, .slice none 0 0, .bool false, .slice none 0 0] 32)) = w0 at hE0 hB2 ⊢
  generalize hg2 : w.heap.size = g2 at hB2 ⊢
  have HG2 := Lib.hid hg2; clear hg2
  refine (HMx.out _ hE0).mono ?_
  rintro e w1 ⟨rfl, hx1⟩
  have HE1 := Lib.hid (hE0.trans hx1); have HB2 := Lib.hid (hB2.ext hx1); clear hx1 hE0 hB2
  go_wp2_with fail
  refine (HWd.out _ HE1.out).mono ?_
  rintro e w2 ⟨rfl, hx2⟩
  have HE2 := Lib.hid (HE1.out.trans hx2); have HB3 := Lib.hid (HB2.out.ext hx2)
  clear hx2 HE1 HB2
  have k2 := HB3.out.cell; have f2 := HB3.out.frozen
  have hb4 : Blk (puts w2 g2 0 [.bool false, .slice none 0 0, .bool false, .slice none 0 0, .bool false, .slice none 0 0]) g2 32 #[.bool false, .slice none 0 0, .bool false, .slice none 0 0, .bool false, .slice none 0 0] := by
    have h1 := puts_blk 0 [.bool false, .slice none 0 0, .bool false, .slice none 0 0, .bool false, .slice none 0 0] HB3.out
    have ec : setsA #[.bool false, .slice none 0 0, .bool false, .slice none 0 0, .bool false, .slice none 0 0] 0 [.bool false, .slice none 0 0, .bool false, .slice none 0 0, .bool false, .slice none 0 0] = #[.bool false, .slice none 0 0, .bool false, .slice none 0 0, .bool false, .slice none 0 0] := by kernel_rfl
    rw [ec] at h1; exact h1
  have he4 := puts_ext (w0 := w) (g := g2) (by have := HG2.out; show w.heap.size ≤ g2; omega) 0 [.bool false, .slice none 0 0, .bool false, .slice none 0 0, .bool false, .slice none 0 0] HE2.out
  have HB4 := Lib.hid hb4; have HE4 := Lib.hid he4
  clear hb4 he4
  go_wp2_with fail
  exact bp_gauss2 rfl rfl rfl HB4.out ⟨rfl, HE4.out⟩
set_option maxRecDepth 100000 in
set_option maxHeartbeats 6400000 in
theorem product_nil (h : Mem w A B O m R E) (hn : ∀ i, i < m → (R i).n = 0) (hm : m ≤ 24) (A2 : Option Addr) (c2 : Nat) :
    Calls Tryz.prog 16 #[.slice A m c, .slice A2 0 c2] w fun e w' => (∃ G RX, e = .returned (.tuple #[.slice (some ⟨G, 0, none⟩) m m, .int .i64 0]) ∧ Out w' G m 0 RX (fun _ _ => GQ.i 0 0)) ∧ Ext w w' := by
  have h2 : Mem w A2 0 0 0 (fun _ => nilRw) (fun _ _ => zEn) := ⟨fun h => absurd h (by omega), fun i hi => absurd hi (by omega), fun i hi => absurd hi (by omega), fun i j hi => absurd hi (by omega), by omega, fun i hi => absurd hi (by omega)⟩
  have hw0 : wd m R = 0 := by
    unfold wd
    by_cases e : m = 0
    · rw [if_pos e]
    · rw [if_neg e]; exact hn 0 (by omega)
  have HMx := Lib.hid (fun (w' : World) (x : Ext w w') => matrix_any (c := c) (vb := fun _ _ => true) (h.ext x) (fun i j hi hj => by rw [hn i hi] at hj; omega) true ⟨fun _ => ⟨hm, by omega, fun i hi => by rw [hw0]; exact hn i hi, fun _ _ _ _ => rfl⟩, fun _ => rfl⟩)
  have HMy := Lib.hid (fun (w' : World) (x : Ext w w') => matrix_any (c := c2) (vb := fun _ _ => true) (h2.ext x) (fun i j hi hj => absurd hi (by omega)) true ⟨fun _ => ⟨by omega, by unfold wd; simp, fun i hi => absurd hi (by omega), fun _ _ _ _ => rfl⟩, fun _ => rfl⟩)
  have HWd := Lib.hid (fun (w' : World) (x : Ext w w') => width_any (c := c) (h.ext x))
  have HWy := Lib.hid (fun (w' : World) (x : Ext w w') => width_any (c := c2) (h2.ext x))
  rw [hw0] at HWd
  rw [show wd 0 (fun _ => nilRw) = 0 from rfl] at HWy
  have HM := Lib.hid h
  clear h h2 hn hw0
  have hmk := make_mx m (by omega)
  have hmr : ∀ W : World, (Instr.makeSlice 37 (.int .i64 0) (.int .i64 0)).run Tryz.prog W = .ok (.slice (some ⟨W.heap.size, 0, none⟩) 0 0) (W.alloc (.cells (rowc 0 fun _ => zEn).toArray 32)) := fun W => make_row 0 (by omega) W
  go_enter Tryz.func16, Tryz.ntmps16
  go_wp2_with fail
  refine (HMx.out _ (Ext.refl _)).mono ?_
  rintro e w1 ⟨rfl, hx1⟩
  go_wp2_with fail
  refine (HMy.out _ hx1).mono ?_
  rintro e w2 ⟨rfl, hx2⟩
  go_wp2_with fail
  refine (HWd.out _ (hx1.trans hx2)).mono ?_
  rintro e w3 ⟨rfl, hx3⟩
  have hE4 := (((hx1.trans hx2).trans hx3).alloc (.cells #[.int .i64 0] 68)).alloc (.cells (mxc m fun _ => nilRw).toArray 37)
  have hC4 : CalmF ((w3.alloc (.cells #[.int .i64 0] 68)).alloc (.cells (mxc m fun _ => nilRw).toArray 37)) w3.heap.size := (calm_new w3).ext (Ext.new _ _)
  have hO4 : Blk ((w3.alloc (.cells #[.int .i64 0] 68)).alloc (.cells (mxc m fun _ => nilRw).toArray 37)) (w3.heap.size + 1) 37 (mxc m fun _ => nilRw).toArray := Blk.new' _ _ (by simp)
  have hGw : w.heap.size ≤ w3.heap.size + 1 := Nat.le_trans ((hx1.trans hx2).trans hx3).size (by omega)
  clear hx1 hx2 hx3
  go_wp2_with fail
  clear hmk
  generalize hW5 : World.alloc _ _ = w5 at hE4 hC4 hO4 ⊢
  clear hW5
  generalize w3.heap.size + 1 = G at hO4 hGw ⊢
  generalize w3.heap.size = gf at hC4 ⊢
  have HGw := Lib.hid hGw; clear hGw
  go_loopw [32] (fun i32 wr => ∃ (k : Nat) (RX : Nat → Rw), k ≤ m ∧ i32 = .int .i64 k ∧ Blk wr G 37 (mxc m RX).toArray ∧ (∀ i, i < k → (RX i).A = some ⟨(RX i).b, 0, none⟩ ∧ (RX i).n = 0 ∧ (RX i).c = 0 ∧ RowIs wr (RX i).b 0 (fun _ => GQ.i 0 0)) ∧ CalmF wr gf ∧ Ext w wr) (fun i32 _ => m - (intOf i32).toNat)
  case atStart => exact ⟨0, _, by omega, rfl, hO4, fun i hi => absurd hi (by omega), hC4, hE4⟩
  case round =>
    obtain ⟨k, RX, hk, rfl, hO, hrow, hC, hE⟩ := hrel
    have HO := Lib.hid hO; have HRow := Lib.hid hrow; have HC := Lib.hid hC; have HE := Lib.hid hE
    clear hO hrow hC hE hO4 hC4 hE4
    by_cases hlt : k < m
    · have hd : decide ((k : Int) < (m : Int)) = true := by simp; omega
      have hA := HM.out.at0 (by omega)
      have hr := HM.out.rowc hlt HE.out
      subst hA
      go_wp2_with fail
      refine (HWy.out _ HE.out).mono ?_
      rintro e w6 ⟨rfl, hx6⟩
      have hE1 := Ext.new w6 (.cells (rowc 0 fun _ => zEn).toArray 32)
      have hO1 := (HO.out.ext hx6).ext hE1
      have fr := hO1.frozen
      have k1 : (w6.alloc (.cells (rowc 0 fun _ => zEn).toArray 32)).cell? ⟨G, k, none⟩ = some (RX k).v := by rw [hO1.cell]; exact mxc_at hlt
      have hO2 : Blk ((w6.alloc (.cells (rowc 0 fun _ => zEn).toArray 32)).setCell ⟨G, k, none⟩ (.slice (some ⟨w6.heap.size, 0, none⟩) 0 0)) G 37 (mxc m (upd RX k ⟨some ⟨w6.heap.size, 0, none⟩, w6.heap.size, 0, 0, 0⟩)).toArray := by
        rw [← mxc_upd]; exact hO1.set_ _ _
      have k2 : ((w6.alloc (.cells (rowc 0 fun _ => zEn).toArray 32)).setCell ⟨G, k, none⟩ (.slice (some ⟨w6.heap.size, 0, none⟩) 0 0)).cell? ⟨G, k, none⟩ = some (.slice (some ⟨w6.heap.size, 0, none⟩) 0 0) := by rw [hO2.cell, mxc_at hlt, upd_same]; rfl
      have hgw : G < w6.heap.size := (HO.out.ext hx6).lt
      have hB2 : Blk ((w6.alloc (.cells (rowc 0 fun _ => zEn).toArray 32)).setCell ⟨G, k, none⟩ (.slice (some ⟨w6.heap.size, 0, none⟩) 0 0)) w6.heap.size 32 (rowc 0 fun _ => zEn).toArray := (Blk.new _ _ _).far (by show w6.heap.size ≠ G; omega) _
      have hM2 : Mod (fun g => g = G) w6 ((w6.alloc (.cells (rowc 0 fun _ => zEn).toArray 32)).setCell ⟨G, k, none⟩ (.slice (some ⟨w6.heap.size, 0, none⟩) 0 0)) := (Mod.of hE1).trans (Mod.only (Only.set _ _ _ _) rfl)
      have hfG : Far (fun g => g = G) w6 := fun g hg _ => by subst hg; exact ⟨_, _, HO.out.ext hx6, noInt_slices _ _⟩
      have hE2 : Ext w ((w6.alloc (.cells (rowc 0 fun _ => zEn).toArray 32)).setCell ⟨G, k, none⟩ (.slice (some ⟨w6.heap.size, 0, none⟩) 0 0)) := ((HE.out.trans hx6).trans hE1).setCell (by exact HGw.out) _
      have hC2 : CalmF ((w6.alloc (.cells (rowc 0 fun _ => zEn).toArray 32)).setCell ⟨G, k, none⟩ (.slice (some ⟨w6.heap.size, 0, none⟩) 0 0)) gf := Blk.mod (HC.out.ext hx6) hM2 (by exact fun e => (HC.out.ne_t HO.out (by decide)) e)
      have hrow2 : ∀ i, i < k + 1 → (upd RX k ⟨some ⟨w6.heap.size, 0, none⟩, w6.heap.size, 0, 0, 0⟩ i).A = some ⟨(upd RX k ⟨some ⟨w6.heap.size, 0, none⟩, w6.heap.size, 0, 0, 0⟩ i).b, 0, none⟩ ∧ (upd RX k ⟨some ⟨w6.heap.size, 0, none⟩, w6.heap.size, 0, 0, 0⟩ i).n = 0 ∧ (upd RX k ⟨some ⟨w6.heap.size, 0, none⟩, w6.heap.size, 0, 0, 0⟩ i).c = 0 ∧ RowIs ((w6.alloc (.cells (rowc 0 fun _ => zEn).toArray 32)).setCell ⟨G, k, none⟩ (.slice (some ⟨w6.heap.size, 0, none⟩) 0 0)) (upd RX k ⟨some ⟨w6.heap.size, 0, none⟩, w6.heap.size, 0, 0, 0⟩ i).b 0 (fun _ => GQ.i 0 0) := fun i hi => by
        by_cases e : i = k
        · subst e; rw [upd_same]; exact ⟨rfl, rfl, rfl, _, hB2, fun j hj => absurd hj (by omega)⟩
        · rw [upd_ne e]
          obtain ⟨h1, h2, h3, h4⟩ := HRow.out i (by omega)
          refine ⟨h1, h2, h3, (h4.ext hx6).mod hM2 hfG ?_⟩
          obtain ⟨cs, hcs⟩ := h4.blk
          exact fun e => hcs.ne_t HO.out (by decide) e
      have HO2 := Lib.hid hO2; have HE2 := Lib.hid hE2; have HC2 := Lib.hid hC2; have HR2 := Lib.hid hrow2; have HGG := Lib.hid hgw
      clear hO2 hB2 hM2 hfG hE2 hC2 hrow2 hgw hE1 hO1
      go_wp2_with fail
      clear hd k1 k2 fr hr
      generalize hW7 : World.setCell _ _ _ = w7 at HO2 HR2 HC2 HE2 ⊢
      clear hW7
      go_loopw [48] (fun i48 wz => i48 = .int .i64 0 ∧ wz = w7) (fun _ _ => 0)
      case atStart => exact ⟨rfl, rfl⟩
      case round =>
        obtain ⟨rfl, rfl⟩ := hrel
        go_wp2_with fail
        go_roundw
        case rel => exact ⟨k + 1, _, by omega, by go_num, HO2.out, HR2.out, HC2.out, HE2.out⟩
        case measure => simp [intOf]; omega
    · obtain rfl : k = m := by omega
      have hd : decide ((k : Int) < (k : Int)) = false := by simp
      have e0 := Blk.cell HC.out
      go_wp2_with fail
      exact bp_tmps2 rfl rfl ⟨⟨G, RX, rfl, HO.out, HRow.out⟩, HE.out⟩
end
end Go.Proofs.YtclkkoiaaddllaaGreat
