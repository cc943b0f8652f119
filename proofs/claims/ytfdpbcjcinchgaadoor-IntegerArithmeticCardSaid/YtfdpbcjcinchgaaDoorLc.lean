/- Neg, Add, Sub and Mul against the specification: the walk (printed by wip/tools/gen_arith.py). -/
import Derived.Test.YtfdpbcjcinchgaaDoorLb
namespace Go.Proofs.YtfdpbcjcinchgaaDoor
open Go.RowKit
set_option linter.unusedVariables false

set_option maxRecDepth 100000 in
set_option maxHeartbeats 3200000 in
theorem arithmetic_small (v u : Value) (s t : Bool) (l k : List Nat) (w : World) (hX : RX w v s l) (hY : RX w u t k) (hl : l.length ≤ 40) (hk : k.length ≤ 40) :
    Calls Tryd.prog 5 #[v, u] w fun e w' => e = .returned (.bool true) ∧ Ext w w' := by
  obtain ⟨A, n, c, rfl, hx⟩ := hX
  obtain ⟨B, m, d, rfl, hy⟩ := hY
  have hn := hx.len
  have hm := hy.len
  rw [hn] at hl
  rw [hm] at hk
  clear hn hm
  have hX : RX w (iv s A n c) s l := ⟨A, n, c, rfl, hx⟩
  have hY : RX w (iv t B m d) t k := ⟨B, m, d, rfl, hy⟩
  clear hx hy
  obtain ⟨pN, hpN⟩ : ∃ p, p = res1 (fun x => (-x, 0)) s l := ⟨_, rfl⟩
  obtain ⟨pA, hpA⟩ : ∃ p, p = res2 (fun x y => resS (x + y)) s l t k := ⟨_, rfl⟩
  obtain ⟨pS, hpS⟩ : ∃ p, p = res2 (fun x y => resS (x - y)) s l t k := ⟨_, rfl⟩
  obtain ⟨pM, hpM⟩ : ∃ p, p = res2 (fun x y => resS (x * y)) s l t k := ⟨_, rfl⟩
  have HN := Lib.hid hpN; have HA := Lib.hid hpA; have HS := Lib.hid hpS; have HM := Lib.hid hpM; clear hpN hpA hpS hpM
  have hE : Ext w ((w.alloc (.cells #[.bool s, .slice A n c] 24)).alloc (.cells #[.bool t, .slice B m d] 24)) := (Ext.new w _).alloc _
  have b2 : Blk ((w.alloc (.cells #[.bool s, .slice A n c] 24)).alloc (.cells #[.bool t, .slice B m d] 24)) (w.heap.size) 24 #[.bool s, .slice A n c] := (Blk.new' _ _ (by simp)).alloc _
  have b3 : Blk ((w.alloc (.cells #[.bool s, .slice A n c] 24)).alloc (.cells #[.bool t, .slice B m d] 24)) (w.heap.size + 1) 24 #[.bool t, .slice B m d] := Blk.new' _ _ (by simp)
  go_enter Tryd.func5, Tryd.ntmps5
  go_wp2_with fail
  generalize ((w.alloc (.cells #[.bool s, .slice A n c] 24)).alloc (.cells #[.bool t, .slice B m d] 24)) = w0 at *
  generalize hg : w.heap.size = g at *
  have HG := Lib.hid hg; clear hg
  replace hX := hX.ext hE
  replace hY := hY.ext hE
  refine (known_any _).mono ?_
  rintro e w1 ⟨rfl, hx_⟩
  replace b2 := b2.ext hx_
  replace b3 := b3.ext hx_
  replace hX := hX.ext hx_
  replace hY := hY.ext hx_
  replace hE := hE.trans hx_
  clear hx_
  have k2 := b2.cell
  have k3 := b3.cell
  go_wp2_with fail
  have hbs := Blk.new w1 24 #[.bool s, .slice A n c, .bool t, .slice B m d]
  have hx0 := Ext.new w1 (.cells #[.bool s, .slice A n c, .bool t, .slice B m d] 24)
  replace b2 := b2.ext hx0
  replace b3 := b3.ext hx0
  replace hX := hX.ext hx0
  replace hY := hY.ext hx0
  replace hE := hE.trans hx0
  clear hx0
  refine (Large_any w1.heap.size 2 [(A, n, c), (B, m, d)] _ (by simp) (large2 hbs)).mono ?_
  rintro e w2 ⟨rfl, hx_⟩
  rw [large2_no (by omega) (by omega)]
  replace b2 := b2.ext hx_
  replace b3 := b3.ext hx_
  replace hX := hX.ext hx_
  replace hY := hY.ext hx_
  replace hE := hE.trans hx_
  clear hx_ hbs
  clear k2 k3
  have k2 := b2.cell
  have k3 := b3.cell
  go_wp2_with fail
  refine (Neg_res _ s l _ hX).mono ?_
  rintro e w3 ⟨v_, rfl, ⟨u_, rfl, hI5⟩, hx_⟩
  replace b2 := b2.ext hx_
  replace b3 := b3.ext hx_
  replace hX := hX.ext hx_
  replace hY := hY.ext hx_
  replace hE := hE.trans hx_
  clear hx_
  clear k2 k3
  rw [← HN.out] at hI5
  rw [← HN.out]
  obtain ⟨s50, A50, n50, c50, rfl, hI5⟩ := hI5.open_
  have hx_ : Ext w3 (w3.alloc (.cells #[.bool s50, .slice A50 n50 c50] 24)) := Ext.new _ _
  have b5 : Blk (w3.alloc (.cells #[.bool s50, .slice A50 n50 c50] 24)) w3.heap.size 24 #[.bool s50, .slice A50 n50 c50] := Blk.new _ _ _
  have hlt5 : g + 1 < w3.heap.size := b3.lt
  replace b2 := b2.ext hx_
  replace b3 := b3.ext hx_
  replace hX := hX.ext hx_
  replace hY := hY.ext hx_
  replace hI5 := hI5.ext hx_
  replace hE := hE.trans hx_
  clear hx_
  have k2 := b2.cell
  have k3 := b3.cell
  have k5 := b5.cell
  go_wp2_with fail
  generalize (w3.alloc (.cells #[.bool s50, .slice A50 n50 c50] 24)) = w4 at *
  generalize w3.heap.size = g5 at *
  refine (rNeg_res _ s l _ hX).mono ?_
  rintro e w5 ⟨v_, rfl, ⟨u_, rfl, hI7⟩, hx_⟩
  replace b2 := b2.ext hx_
  replace b3 := b3.ext hx_
  replace b5 := b5.ext hx_
  replace hX := hX.ext hx_
  replace hY := hY.ext hx_
  replace hI5 := hI5.ext hx_
  replace hE := hE.trans hx_
  clear hx_
  clear k2 k3 k5
  rw [← HN.out] at hI7
  rw [← HN.out]
  obtain ⟨s70, A70, n70, c70, rfl, hI7⟩ := hI7.open_
  have hx_ : Ext w5 (w5.alloc (.cells #[.bool s70, .slice A70 n70 c70] 24)) := Ext.new _ _
  have b7 : Blk (w5.alloc (.cells #[.bool s70, .slice A70 n70 c70] 24)) w5.heap.size 24 #[.bool s70, .slice A70 n70 c70] := Blk.new _ _ _
  have hlt7 : g + 1 < w5.heap.size := b3.lt
  have hne57 : g5 < w5.heap.size := b5.lt
  replace b2 := b2.ext hx_
  replace b3 := b3.ext hx_
  replace b5 := b5.ext hx_
  replace hX := hX.ext hx_
  replace hY := hY.ext hx_
  replace hI5 := hI5.ext hx_
  replace hI7 := hI7.ext hx_
  replace hE := hE.trans hx_
  clear hx_
  have k2 := b2.cell
  have k3 := b3.cell
  have k5 := b5.cell
  have k7 := b7.cell
  go_wp2_with fail
  generalize (w5.alloc (.cells #[.bool s70, .slice A70 n70 c70] 24)) = w6 at *
  generalize w5.heap.size = g7 at *
  refine (same_true _ _ _ _ _ hI5 hI7).mono ?_
  rintro e w7 ⟨rfl, hx_⟩
  replace b2 := b2.ext hx_
  replace b3 := b3.ext hx_
  replace b5 := b5.ext hx_
  replace b7 := b7.ext hx_
  replace hX := hX.ext hx_
  replace hY := hY.ext hx_
  replace hE := hE.trans hx_
  clear hx_
  clear k2 k3 k5 k7
  have k2 := b2.cell
  have k3 := b3.cell
  have k5 := b5.cell
  have k7 := b7.cell
  go_wp2_with fail
  refine (Add_res _ _ s t l k _ hX hY).mono ?_
  rintro e w8 ⟨v_, rfl, ⟨u_, rfl, hI5⟩, hx_⟩
  replace b2 := b2.ext hx_
  replace b3 := b3.ext hx_
  replace b5 := b5.ext hx_
  replace b7 := b7.ext hx_
  replace hX := hX.ext hx_
  replace hY := hY.ext hx_
  replace hE := hE.trans hx_
  clear hx_
  clear k2 k3 k5 k7
  rw [← HA.out] at hI5
  rw [← HA.out]
  obtain ⟨s51, A51, n51, c51, rfl, hI5⟩ := hI5.open_
  have kc_ := b5.cell
  have kf_ := b5.frozen
  obtain ⟨hEp, hBp, hFp, hXp, hIp⟩ := box_put (w'' := ((w8.setCell ⟨g5, 0, none⟩ (.bool s51)).setCell ⟨g5, 1, none⟩ (.slice A51 n51 c51))) hE (by rw [HG.out]; omega) b5 s51 A51 n51 c51 rfl
  replace b2 := hFp _ _ _ (by omega) b2
  replace b3 := hFp _ _ _ (by omega) b3
  replace b7 := hFp _ _ _ (by omega) b7
  replace b5 := hBp
  replace hX := hXp _ _ _ hX
  replace hY := hXp _ _ _ hY
  replace hI5 := hIp _ _ hI5
  replace hE := hEp
  clear hEp hBp hFp hXp hIp
  have k2 := b2.cell
  have k3 := b3.cell
  have k5 := b5.cell
  have k7 := b7.cell
  go_wp2_with fail
  generalize ((w8.setCell ⟨g5, 0, none⟩ (.bool s51)).setCell ⟨g5, 1, none⟩ (.slice A51 n51 c51)) = w9 at *
  refine (rAdd_res _ _ s t l k _ hX hY).mono ?_
  rintro e w10 ⟨v_, rfl, ⟨u_, rfl, hI7⟩, hx_⟩
  replace b2 := b2.ext hx_
  replace b3 := b3.ext hx_
  replace b5 := b5.ext hx_
  replace b7 := b7.ext hx_
  replace hX := hX.ext hx_
  replace hY := hY.ext hx_
  replace hI5 := hI5.ext hx_
  replace hE := hE.trans hx_
  clear hx_
  clear k2 k3 k5 k7
  rw [← HA.out] at hI7
  rw [← HA.out]
  obtain ⟨s71, A71, n71, c71, rfl, hI7⟩ := hI7.open_
  have kc_ := b7.cell
  have kf_ := b7.frozen
  obtain ⟨hEp, hBp, hFp, hXp, hIp⟩ := box_put (w'' := ((w10.setCell ⟨g7, 0, none⟩ (.bool s71)).setCell ⟨g7, 1, none⟩ (.slice A71 n71 c71))) hE (by rw [HG.out]; omega) b7 s71 A71 n71 c71 rfl
  replace b2 := hFp _ _ _ (by omega) b2
  replace b3 := hFp _ _ _ (by omega) b3
  replace b5 := hFp _ _ _ (by omega) b5
  replace b7 := hBp
  replace hX := hXp _ _ _ hX
  replace hY := hXp _ _ _ hY
  replace hI5 := hIp _ _ hI5
  replace hI7 := hIp _ _ hI7
  replace hE := hEp
  clear hEp hBp hFp hXp hIp
  have k2 := b2.cell
  have k3 := b3.cell
  have k5 := b5.cell
  have k7 := b7.cell
  go_wp2_with fail
  generalize ((w10.setCell ⟨g7, 0, none⟩ (.bool s71)).setCell ⟨g7, 1, none⟩ (.slice A71 n71 c71)) = w11 at *
  refine (same_true _ _ _ _ _ hI5 hI7).mono ?_
  rintro e w12 ⟨rfl, hx_⟩
  replace b2 := b2.ext hx_
  replace b3 := b3.ext hx_
  replace b5 := b5.ext hx_
  replace b7 := b7.ext hx_
  replace hX := hX.ext hx_
  replace hY := hY.ext hx_
  replace hE := hE.trans hx_
  clear hx_
  clear k2 k3 k5 k7
  have k2 := b2.cell
  have k3 := b3.cell
  have k5 := b5.cell
  have k7 := b7.cell
  go_wp2_with fail
  refine (Sub_res _ _ s t l k _ hX hY).mono ?_
  rintro e w13 ⟨v_, rfl, ⟨u_, rfl, hI5⟩, hx_⟩
  replace b2 := b2.ext hx_
  replace b3 := b3.ext hx_
  replace b5 := b5.ext hx_
  replace b7 := b7.ext hx_
  replace hX := hX.ext hx_
  replace hY := hY.ext hx_
  replace hE := hE.trans hx_
  clear hx_
  clear k2 k3 k5 k7
  rw [← HS.out] at hI5
  rw [← HS.out]
  obtain ⟨s52, A52, n52, c52, rfl, hI5⟩ := hI5.open_
  have kc_ := b5.cell
  have kf_ := b5.frozen
  obtain ⟨hEp, hBp, hFp, hXp, hIp⟩ := box_put (w'' := ((w13.setCell ⟨g5, 0, none⟩ (.bool s52)).setCell ⟨g5, 1, none⟩ (.slice A52 n52 c52))) hE (by rw [HG.out]; omega) b5 s52 A52 n52 c52 rfl
  replace b2 := hFp _ _ _ (by omega) b2
  replace b3 := hFp _ _ _ (by omega) b3
  replace b7 := hFp _ _ _ (by omega) b7
  replace b5 := hBp
  replace hX := hXp _ _ _ hX
  replace hY := hXp _ _ _ hY
  replace hI5 := hIp _ _ hI5
  replace hE := hEp
  clear hEp hBp hFp hXp hIp
  have k2 := b2.cell
  have k3 := b3.cell
  have k5 := b5.cell
  have k7 := b7.cell
  go_wp2_with fail
  generalize ((w13.setCell ⟨g5, 0, none⟩ (.bool s52)).setCell ⟨g5, 1, none⟩ (.slice A52 n52 c52)) = w14 at *
  refine (rSub_res _ _ s t l k _ hX hY).mono ?_
  rintro e w15 ⟨v_, rfl, ⟨u_, rfl, hI7⟩, hx_⟩
  replace b2 := b2.ext hx_
  replace b3 := b3.ext hx_
  replace b5 := b5.ext hx_
  replace b7 := b7.ext hx_
  replace hX := hX.ext hx_
  replace hY := hY.ext hx_
  replace hI5 := hI5.ext hx_
  replace hE := hE.trans hx_
  clear hx_
  clear k2 k3 k5 k7
  rw [← HS.out] at hI7
  rw [← HS.out]
  obtain ⟨s72, A72, n72, c72, rfl, hI7⟩ := hI7.open_
  have kc_ := b7.cell
  have kf_ := b7.frozen
  obtain ⟨hEp, hBp, hFp, hXp, hIp⟩ := box_put (w'' := ((w15.setCell ⟨g7, 0, none⟩ (.bool s72)).setCell ⟨g7, 1, none⟩ (.slice A72 n72 c72))) hE (by rw [HG.out]; omega) b7 s72 A72 n72 c72 rfl
  replace b2 := hFp _ _ _ (by omega) b2
  replace b3 := hFp _ _ _ (by omega) b3
  replace b5 := hFp _ _ _ (by omega) b5
  replace b7 := hBp
  replace hX := hXp _ _ _ hX
  replace hY := hXp _ _ _ hY
  replace hI5 := hIp _ _ hI5
  replace hI7 := hIp _ _ hI7
  replace hE := hEp
  clear hEp hBp hFp hXp hIp
  have k2 := b2.cell
  have k3 := b3.cell
  have k5 := b5.cell
  have k7 := b7.cell
  go_wp2_with fail
  generalize ((w15.setCell ⟨g7, 0, none⟩ (.bool s72)).setCell ⟨g7, 1, none⟩ (.slice A72 n72 c72)) = w16 at *
  refine (same_true _ _ _ _ _ hI5 hI7).mono ?_
  rintro e w17 ⟨rfl, hx_⟩
  replace b2 := b2.ext hx_
  replace b3 := b3.ext hx_
  replace b5 := b5.ext hx_
  replace b7 := b7.ext hx_
  replace hX := hX.ext hx_
  replace hY := hY.ext hx_
  replace hE := hE.trans hx_
  clear hx_
  clear k2 k3 k5 k7
  have k2 := b2.cell
  have k3 := b3.cell
  have k5 := b5.cell
  have k7 := b7.cell
  go_wp2_with fail
  refine (Mul_res _ _ s t l k _ hX hY).mono ?_
  rintro e w18 ⟨v_, rfl, ⟨u_, rfl, hI5⟩, hx_⟩
  replace b2 := b2.ext hx_
  replace b3 := b3.ext hx_
  replace b5 := b5.ext hx_
  replace b7 := b7.ext hx_
  replace hX := hX.ext hx_
  replace hY := hY.ext hx_
  replace hE := hE.trans hx_
  clear hx_
  clear k2 k3 k5 k7
  rw [← HM.out] at hI5
  rw [← HM.out]
  obtain ⟨s53, A53, n53, c53, rfl, hI5⟩ := hI5.open_
  have kc_ := b5.cell
  have kf_ := b5.frozen
  obtain ⟨hEp, hBp, hFp, hXp, hIp⟩ := box_put (w'' := ((w18.setCell ⟨g5, 0, none⟩ (.bool s53)).setCell ⟨g5, 1, none⟩ (.slice A53 n53 c53))) hE (by rw [HG.out]; omega) b5 s53 A53 n53 c53 rfl
  replace b2 := hFp _ _ _ (by omega) b2
  replace b3 := hFp _ _ _ (by omega) b3
  replace b7 := hFp _ _ _ (by omega) b7
  replace b5 := hBp
  replace hX := hXp _ _ _ hX
  replace hY := hXp _ _ _ hY
  replace hI5 := hIp _ _ hI5
  replace hE := hEp
  clear hEp hBp hFp hXp hIp
  have k2 := b2.cell
  have k3 := b3.cell
  have k5 := b5.cell
  have k7 := b7.cell
  go_wp2_with fail
  generalize ((w18.setCell ⟨g5, 0, none⟩ (.bool s53)).setCell ⟨g5, 1, none⟩ (.slice A53 n53 c53)) = w19 at *
  refine (rMul_res _ _ s t l k _ hX hY).mono ?_
  rintro e w20 ⟨v_, rfl, ⟨u_, rfl, hI7⟩, hx_⟩
  replace b2 := b2.ext hx_
  replace b3 := b3.ext hx_
  replace b5 := b5.ext hx_
  replace b7 := b7.ext hx_
  replace hX := hX.ext hx_
  replace hY := hY.ext hx_
  replace hI5 := hI5.ext hx_
  replace hE := hE.trans hx_
  clear hx_
  clear k2 k3 k5 k7
  rw [← HM.out] at hI7
  rw [← HM.out]
  obtain ⟨s73, A73, n73, c73, rfl, hI7⟩ := hI7.open_
  have kc_ := b7.cell
  have kf_ := b7.frozen
  obtain ⟨hEp, hBp, hFp, hXp, hIp⟩ := box_put (w'' := ((w20.setCell ⟨g7, 0, none⟩ (.bool s73)).setCell ⟨g7, 1, none⟩ (.slice A73 n73 c73))) hE (by rw [HG.out]; omega) b7 s73 A73 n73 c73 rfl
  replace b2 := hFp _ _ _ (by omega) b2
  replace b3 := hFp _ _ _ (by omega) b3
  replace b5 := hFp _ _ _ (by omega) b5
  replace b7 := hBp
  replace hX := hXp _ _ _ hX
  replace hY := hXp _ _ _ hY
  replace hI5 := hIp _ _ hI5
  replace hI7 := hIp _ _ hI7
  replace hE := hEp
  clear hEp hBp hFp hXp hIp
  have k2 := b2.cell
  have k3 := b3.cell
  have k5 := b5.cell
  have k7 := b7.cell
  go_wp2_with fail
  generalize ((w20.setCell ⟨g7, 0, none⟩ (.bool s73)).setCell ⟨g7, 1, none⟩ (.slice A73 n73 c73)) = w21 at *
  refine (same_true _ _ _ _ _ hI5 hI7).mono ?_
  rintro e w22 ⟨rfl, hx_⟩
  replace b2 := b2.ext hx_
  replace b3 := b3.ext hx_
  replace b5 := b5.ext hx_
  replace b7 := b7.ext hx_
  replace hX := hX.ext hx_
  replace hY := hY.ext hx_
  replace hE := hE.trans hx_
  clear hx_
  clear k2 k3 k5 k7
  go_wp2
  go_ret
  exact ⟨rfl, hE⟩
end Go.Proofs.YtfdpbcjcinchgaaDoor
