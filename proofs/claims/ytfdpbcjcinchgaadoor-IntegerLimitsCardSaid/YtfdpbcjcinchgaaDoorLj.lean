/- The largest integers: the walk of IntegerLimits. -/
import Derived.Test.YtfdpbcjcinchgaaDoorLd
namespace Go.Proofs.YtfdpbcjcinchgaaDoor
open Go.RowKit
set_option linter.unusedVariables false

/-- The digits of the largest integers. -/
def bigL (n low : Nat) : List Nat := ((List.replicate n 0).set 0 low).set (n - 1) 2147483648
theorem bigL_len (n low : Nat) : (bigL n low).length = n := by simp [bigL]
theorem bigL_dig {n low : Nat} (h : low < 4294967296) : Dig (bigL n low) := by
  unfold bigL
  refine Dig.set ?_ _ (by decide)
  refine Dig.set ?_ _ h
  intro z hz
  rw [List.mem_replicate] at hz
  omega
theorem bigL_valid {n low : Nat} {neg : Bool} (hn : 0 < n) : validB neg (bigL n low) = decide (n ≤ 400) := by
  unfold validB
  rw [bigL_len, if_neg (by omega)]
  have : (bigL n low).getD (n - 1) 0 = 2147483648 := by
    unfold bigL
    rw [List.getD_eq_getElem?_getD, List.getElem?_set_self (by simp; omega)]
    rfl
  rw [this]
  simp

theorem Valid_rx (v : Value) (s : Bool) (l : List Nat) (w : World) (hX : RX w v s l) :
    Calls Tryd.prog 17 #[v] w fun e w' => e = .returned (.bool (validB s l)) ∧ Ext w w' := by
  obtain ⟨A, n, c, rfl, h⟩ := hX
  exact Valid_any s A n c l w h

set_option maxRecDepth 100000 in
set_option maxHeartbeats 3200000 in
theorem limits_any (dg : Int) (low : Nat) (neg : Bool) (w : World) (h1 : -9223372036854775808 ≤ dg) (h2 : dg ≤ 9223372036854775807) (hl : low < 4294967296) :
    Calls Tryd.prog 4 #[.int .i64 dg, .int .u32 (low : Int), .bool neg] w fun e w' => e = .returned (.bool true) ∧ Ext w w' := by
  go_enter Tryd.func4, Tryd.ntmps4
  go_wp2_with fail
  refine (known_any _).mono ?_
  rintro e w1 ⟨rfl, hE⟩
  go_wp2_with fail
  refine (within_any dg _ h1 h2).mono ?_
  rintro e w2 ⟨⟨k, hk, rfl⟩, hx_⟩
  replace hE := hE.trans hx_
  clear hx_
  have hmk := make_u32 (390 + (k : Int)) (390 + k) (by omega) (by omega)
  go_wp2_with fail
  have e32 : ((390 : Int) + (k : Int) - 1) = ((389 + k : Nat) : Int) := by omega
  have B0 : RowD ((w2.alloc (.cells (mg (List.replicate (390 + k) 0)).toArray 34)).alloc (.cells #[.bool neg, .slice (some ⟨w2.heap.size, 0, none⟩) (390 + k) (390 + k)] 24)) w2.heap.size (List.replicate (390 + k) 0) :=
    ⟨(Blk.new _ _ _).alloc _, fun z hz => by rw [List.mem_replicate] at hz; omega⟩
  have b8 : Blk ((w2.alloc (.cells (mg (List.replicate (390 + k) 0)).toArray 34)).alloc (.cells #[.bool neg, .slice (some ⟨w2.heap.size, 0, none⟩) (390 + k) (390 + k)] 24)) (w2.heap.size + 1) 24 #[.bool neg, .slice (some ⟨w2.heap.size, 0, none⟩) (390 + k) (390 + k)] := Blk.new' _ _ (by simp)
  have hE3 : Ext w ((w2.alloc (.cells (mg (List.replicate (390 + k) 0)).toArray 34)).alloc (.cells #[.bool neg, .slice (some ⟨w2.heap.size, 0, none⟩) (390 + k) (390 + k)] 24)) := (hE.alloc _).alloc _
  have hge := hE.size
  generalize (w2.alloc (.cells (mg (List.replicate (390 + k) 0)).toArray 34)).alloc (.cells #[.bool neg, .slice (some ⟨w2.heap.size, 0, none⟩) (390 + k) (390 + k)] 24) = w3 at *
  generalize w2.heap.size = g at *
  obtain ⟨z0, q0, _, k0, f0⟩ := B0.at_ (k := 0) (by simp; omega)
  obtain ⟨z1, q1, _, k1, f1⟩ := B0.at_ (k := 389 + k) (by simp)
  have k8 := b8.cell
  clear hmk q0 q1
  go_region
  have r4 : RowD (((w3.setCell ⟨g, 0, none⟩ (.int .u32 (low : Int))).setCell ⟨g, 389 + k, none⟩ (.int .u32 2147483648)).drew) g (bigL (390 + k) low) := by
    have h := (B0.set (k := 0) (d := low) rfl hl).set (k := 389 + k) (d := 2147483648) (z := 2147483648) rfl (by decide)
    unfold bigL
    rw [show 390 + k - 1 = 389 + k by omega]
    exact h
  have b4 : Blk (((w3.setCell ⟨g, 0, none⟩ (.int .u32 (low : Int))).setCell ⟨g, 389 + k, none⟩ (.int .u32 2147483648)).drew) (g + 1) 24 #[.bool neg, .slice (some ⟨g, 0, none⟩) (390 + k) (390 + k)] := (b8.far (by simp) _).far (by simp) _
  have hE4 : Ext w (((w3.setCell ⟨g, 0, none⟩ (.int .u32 (low : Int))).setCell ⟨g, 389 + k, none⟩ (.int .u32 2147483648)).drew) := ((hE3.setCell (p := ⟨g, 0, none⟩) hge _).setCell (p := ⟨g, 389 + k, none⟩) hge _).drew
  generalize (((w3.setCell ⟨g, 0, none⟩ (.int .u32 (low : Int))).setCell ⟨g, 389 + k, none⟩ (.int .u32 2147483648)).drew) = w4 at *
  clear B0 b8 hE3 k0 k1 k8 f0 f1 e32
  have hX : RX w4 (iv neg (some ⟨g, 0, none⟩) (390 + k) (390 + k)) neg (bigL (390 + k) low) := ⟨_, _, _, rfl, r4.rm (bigL_len _ _) (by omega)⟩
  have hv := bigL_valid (n := 390 + k) (low := low) (neg := neg) (by omega)
  clear r4
  generalize bigL (390 + k) low = L at *
  have hx_ : Ext w4 ((w4.alloc (.cells #[.int .u32 0, .int .u32 2] 34)).alloc (.cells #[.bool false, .slice (some ⟨w4.heap.size, 0, none⟩) 2 2] 24)) := (Ext.new _ _).alloc _
  have b9 : Blk ((w4.alloc (.cells #[.int .u32 0, .int .u32 2] 34)).alloc (.cells #[.bool false, .slice (some ⟨w4.heap.size, 0, none⟩) 2 2] 24)) (w4.heap.size + 1) 24 #[.bool false, .slice (some ⟨w4.heap.size, 0, none⟩) 2 2] := Blk.new' _ _ (by simp)
  have hY : RX ((w4.alloc (.cells #[.int .u32 0, .int .u32 2] 34)).alloc (.cells #[.bool false, .slice (some ⟨w4.heap.size, 0, none⟩) 2 2] 24)) (iv false (some ⟨w4.heap.size, 0, none⟩) 2 2) false [0, 2] := ⟨_, _, _, rfl, RM.blk ((Blk.new _ _ _).alloc _) (Dig.cons (by decide) (Dig.one (by decide))) rfl (by decide)⟩
  have b8 := b4.ext hx_
  replace hX := hX.ext hx_
  replace hE := hE4.trans hx_
  clear hx_ b4 hE4
  obtain ⟨pA, hpA⟩ : ∃ p, p = res2 (fun x y => resS (x + y)) neg L neg L := ⟨_, rfl⟩
  obtain ⟨pM, hpM⟩ : ∃ p, p = res2 (fun x y => resS (x * y)) neg L false [0, 2] := ⟨_, rfl⟩
  have HA := Lib.hid hpA; have HM := Lib.hid hpM; have HV := Lib.hid hv; clear hpA hpM hv
  have k8 := b8.cell
  have k9 := b9.cell
  go_wp2_with fail
  generalize ((w4.alloc (.cells #[.int .u32 0, .int .u32 2] 34)).alloc (.cells #[.bool false, .slice (some ⟨w4.heap.size, 0, none⟩) 2 2] 24)) = w5 at *
  generalize w4.heap.size = gy at *
  refine (Add_res _ _ neg neg L L _ hX hX).mono ?_
  rintro e w11 ⟨v_, rfl, ⟨u_, rfl, hI10⟩, hx_⟩
  replace b8 := b8.ext hx_
  replace b9 := b9.ext hx_
  replace hX := hX.ext hx_
  replace hY := hY.ext hx_
  replace hE := hE.trans hx_
  clear hx_
  clear k8 k9
  rw [← HA.out] at hI10
  rw [← HA.out]
  obtain ⟨s10, A10, n10, c10, rfl, hI10⟩ := hI10.open_
  have hx_ : Ext w11 (w11.alloc (.cells #[.bool s10, .slice A10 n10 c10] 24)) := Ext.new _ _
  have b10 : Blk (w11.alloc (.cells #[.bool s10, .slice A10 n10 c10] 24)) w11.heap.size 24 #[.bool s10, .slice A10 n10 c10] := Blk.new' _ _ (by simp)
  replace b8 := b8.ext hx_
  replace b9 := b9.ext hx_
  replace hX := hX.ext hx_
  replace hY := hY.ext hx_
  replace hI10 := hI10.ext hx_
  replace hE := hE.trans hx_
  clear hx_
  have k8 := b8.cell
  have k9 := b9.cell
  have k10 := b10.cell
  go_wp2_with fail
  generalize (w11.alloc (.cells #[.bool s10, .slice A10 n10 c10] 24)) = w12 at *
  generalize w11.heap.size = g10 at *
  refine (rAdd_res _ _ neg neg L L _ hX hX).mono ?_
  rintro e w13 ⟨v_, rfl, ⟨u_, rfl, hI12⟩, hx_⟩
  replace b8 := b8.ext hx_
  replace b9 := b9.ext hx_
  replace b10 := b10.ext hx_
  replace hX := hX.ext hx_
  replace hY := hY.ext hx_
  replace hI10 := hI10.ext hx_
  replace hE := hE.trans hx_
  clear hx_
  clear k8 k9 k10
  rw [← HA.out] at hI12
  rw [← HA.out]
  obtain ⟨s12, A12, n12, c12, rfl, hI12⟩ := hI12.open_
  have hx_ : Ext w13 (w13.alloc (.cells #[.bool s12, .slice A12 n12 c12] 24)) := Ext.new _ _
  have b12 : Blk (w13.alloc (.cells #[.bool s12, .slice A12 n12 c12] 24)) w13.heap.size 24 #[.bool s12, .slice A12 n12 c12] := Blk.new' _ _ (by simp)
  replace b8 := b8.ext hx_
  replace b9 := b9.ext hx_
  replace b10 := b10.ext hx_
  replace hX := hX.ext hx_
  replace hY := hY.ext hx_
  replace hI10 := hI10.ext hx_
  replace hI12 := hI12.ext hx_
  replace hE := hE.trans hx_
  clear hx_
  have k8 := b8.cell
  have k9 := b9.cell
  have k10 := b10.cell
  have k12 := b12.cell
  go_wp2_with fail
  generalize (w13.alloc (.cells #[.bool s12, .slice A12 n12 c12] 24)) = w14 at *
  generalize w13.heap.size = g12 at *
  refine (Mul_res _ _ neg false L [0, 2] _ hX hY).mono ?_
  rintro e w15 ⟨v_, rfl, ⟨u_, rfl, hI14⟩, hx_⟩
  replace b8 := b8.ext hx_
  replace b9 := b9.ext hx_
  replace b10 := b10.ext hx_
  replace b12 := b12.ext hx_
  replace hX := hX.ext hx_
  replace hY := hY.ext hx_
  replace hI10 := hI10.ext hx_
  replace hI12 := hI12.ext hx_
  replace hE := hE.trans hx_
  clear hx_
  clear k8 k9 k10 k12
  rw [← HM.out] at hI14
  rw [← HM.out]
  obtain ⟨s14, A14, n14, c14, rfl, hI14⟩ := hI14.open_
  have hx_ : Ext w15 (w15.alloc (.cells #[.bool s14, .slice A14 n14 c14] 24)) := Ext.new _ _
  have b14 : Blk (w15.alloc (.cells #[.bool s14, .slice A14 n14 c14] 24)) w15.heap.size 24 #[.bool s14, .slice A14 n14 c14] := Blk.new' _ _ (by simp)
  replace b8 := b8.ext hx_
  replace b9 := b9.ext hx_
  replace b10 := b10.ext hx_
  replace b12 := b12.ext hx_
  replace hX := hX.ext hx_
  replace hY := hY.ext hx_
  replace hI10 := hI10.ext hx_
  replace hI12 := hI12.ext hx_
  replace hI14 := hI14.ext hx_
  replace hE := hE.trans hx_
  clear hx_
  have k8 := b8.cell
  have k9 := b9.cell
  have k10 := b10.cell
  have k12 := b12.cell
  have k14 := b14.cell
  go_wp2_with fail
  generalize (w15.alloc (.cells #[.bool s14, .slice A14 n14 c14] 24)) = w16 at *
  generalize w15.heap.size = g14 at *
  refine (rMul_res _ _ neg false L [0, 2] _ hX hY).mono ?_
  rintro e w17 ⟨v_, rfl, ⟨u_, rfl, hI16⟩, hx_⟩
  replace b8 := b8.ext hx_
  replace b9 := b9.ext hx_
  replace b10 := b10.ext hx_
  replace b12 := b12.ext hx_
  replace b14 := b14.ext hx_
  replace hX := hX.ext hx_
  replace hY := hY.ext hx_
  replace hI10 := hI10.ext hx_
  replace hI12 := hI12.ext hx_
  replace hI14 := hI14.ext hx_
  replace hE := hE.trans hx_
  clear hx_
  clear k8 k9 k10 k12 k14
  rw [← HM.out] at hI16
  rw [← HM.out]
  obtain ⟨s16, A16, n16, c16, rfl, hI16⟩ := hI16.open_
  have hx_ : Ext w17 (w17.alloc (.cells #[.bool s16, .slice A16 n16 c16] 24)) := Ext.new _ _
  have b16 : Blk (w17.alloc (.cells #[.bool s16, .slice A16 n16 c16] 24)) w17.heap.size 24 #[.bool s16, .slice A16 n16 c16] := Blk.new' _ _ (by simp)
  replace b8 := b8.ext hx_
  replace b9 := b9.ext hx_
  replace b10 := b10.ext hx_
  replace b12 := b12.ext hx_
  replace b14 := b14.ext hx_
  replace hX := hX.ext hx_
  replace hY := hY.ext hx_
  replace hI10 := hI10.ext hx_
  replace hI12 := hI12.ext hx_
  replace hI14 := hI14.ext hx_
  replace hI16 := hI16.ext hx_
  replace hE := hE.trans hx_
  clear hx_
  have k8 := b8.cell
  have k9 := b9.cell
  have k10 := b10.cell
  have k12 := b12.cell
  have k14 := b14.cell
  have k16 := b16.cell
  go_wp2_with fail
  generalize (w17.alloc (.cells #[.bool s16, .slice A16 n16 c16] 24)) = w18 at *
  generalize w17.heap.size = g16 at *
  refine (same_true _ _ _ _ _ hI10 hI12).mono ?_
  rintro e w19 ⟨rfl, hx_⟩
  replace b8 := b8.ext hx_
  replace b9 := b9.ext hx_
  replace b10 := b10.ext hx_
  replace b12 := b12.ext hx_
  replace b14 := b14.ext hx_
  replace b16 := b16.ext hx_
  replace hX := hX.ext hx_
  replace hY := hY.ext hx_
  replace hI10 := hI10.ext hx_
  replace hI12 := hI12.ext hx_
  replace hI14 := hI14.ext hx_
  replace hI16 := hI16.ext hx_
  replace hE := hE.trans hx_
  clear hx_
  clear k8 k9 k10 k12 k14 k16
  have k8 := b8.cell
  have k9 := b9.cell
  have k10 := b10.cell
  have k12 := b12.cell
  have k14 := b14.cell
  have k16 := b16.cell
  go_wp2_with fail
  refine (same_true _ _ _ _ _ hI14 hI16).mono ?_
  rintro e w20 ⟨rfl, hx_⟩
  replace b8 := b8.ext hx_
  replace b9 := b9.ext hx_
  replace b10 := b10.ext hx_
  replace b12 := b12.ext hx_
  replace b14 := b14.ext hx_
  replace b16 := b16.ext hx_
  replace hX := hX.ext hx_
  replace hY := hY.ext hx_
  replace hI10 := hI10.ext hx_
  replace hI12 := hI12.ext hx_
  replace hI14 := hI14.ext hx_
  replace hI16 := hI16.ext hx_
  replace hE := hE.trans hx_
  clear hx_
  clear k8 k9 k10 k12 k14 k16
  have k8 := b8.cell
  have k9 := b9.cell
  have k10 := b10.cell
  have k12 := b12.cell
  have k14 := b14.cell
  have k16 := b16.cell
  go_wp2_with fail
  refine (Valid_rx _ neg L _ hX).mono ?_
  rintro e w21 ⟨rfl, hx_⟩
  replace b8 := b8.ext hx_
  replace b9 := b9.ext hx_
  replace b10 := b10.ext hx_
  replace b12 := b12.ext hx_
  replace b14 := b14.ext hx_
  replace b16 := b16.ext hx_
  replace hX := hX.ext hx_
  replace hY := hY.ext hx_
  replace hI10 := hI10.ext hx_
  replace hI12 := hI12.ext hx_
  replace hI14 := hI14.ext hx_
  replace hI16 := hI16.ext hx_
  replace hE := hE.trans hx_
  clear hx_
  clear k8 k9 k10 k12 k14 k16
  rw [HV.out]
  by_cases h400 : 390 + k ≤ 400
  · have t1 : decide (390 + k ≤ 400) = true := by simpa using h400
    have t2 : decide ((390 : Int) + (k : Int) ≤ 400) = true := by simp; omega
    rw [t1]
    go_wp2
    go_ret
    exact ⟨rfl, hE⟩
  · have t1 : decide (390 + k ≤ 400) = false := by simpa using h400
    have t2 : decide ((390 : Int) + (k : Int) ≤ 400) = false := by simp; omega
    rw [t1]
    go_wp2
    go_ret
    exact ⟨rfl, hE⟩
end Go.Proofs.YtfdpbcjcinchgaaDoor
