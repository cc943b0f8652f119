/- Divide, Gcd and Root against the specification: the walk (printed by wip/tools/gen_division.py). -/
import Derived.Test.YtfdpbcjcinchgaaDoorLk
namespace Go.Proofs.YtfdpbcjcinchgaaDoor
open Go.RowKit
set_option linter.unusedVariables false

set_option maxRecDepth 100000 in
set_option maxHeartbeats 6400000 in
theorem division_small (v u : Value) (s t : Bool) (l k : List Nat) (w : World) (hX : RX w v s l) (hY : RX w u t k) (hl : l.length ≤ 40) (hk : k.length ≤ 40) :
    Calls Tryd.prog 7 #[v, u] w fun e w' => e = .returned (.bool true) ∧ Ext w w' := by
  obtain ⟨A, n, c, rfl, hx⟩ := hX
  obtain ⟨B, m, d, rfl, hy⟩ := hY
  have hn := hx.len
  have hm := hy.len
  rw [hn] at hl
  rw [hm] at hk
  clear hn hm
  have hX : RX w (iv s A n c) s l := ⟨A, n, c, rfl, hx⟩
  have hY : RX w (iv t B m d) t k := ⟨B, m, d, rfl, hy⟩
  clear hx hy
  obtain ⟨dq, hdq⟩ : ∃ p, p = (resD s l t k).1 := ⟨_, rfl⟩
  obtain ⟨dr, hdr⟩ : ∃ p, p = (resD s l t k).2.1 := ⟨_, rfl⟩
  obtain ⟨de, hde⟩ : ∃ p, p = (resD s l t k).2.2 := ⟨_, rfl⟩
  obtain ⟨pG, hpG⟩ : ∃ p, p = res2 (fun x y => (((Nat.gcd x.natAbs y.natAbs : Nat) : Int), 0)) s l t k := ⟨_, rfl⟩
  obtain ⟨pR, hpR⟩ : ∃ p, p = resR s l := ⟨_, rfl⟩
  have HDQ := Lib.hid hdq; have HDR := Lib.hid hdr; have HDE := Lib.hid hde; have HG_ := Lib.hid hpG; have HR := Lib.hid hpR; clear hdq hdr hde hpG hpR
  have hE : Ext w ((w.alloc (.cells #[.bool s, .slice A n c] 24)).alloc (.cells #[.bool t, .slice B m d] 24)) := (Ext.new w _).alloc _
  have b2 : Blk ((w.alloc (.cells #[.bool s, .slice A n c] 24)).alloc (.cells #[.bool t, .slice B m d] 24)) (w.heap.size) 24 #[.bool s, .slice A n c] := (Blk.new' _ _ (by simp)).alloc _
  have b3 : Blk ((w.alloc (.cells #[.bool s, .slice A n c] 24)).alloc (.cells #[.bool t, .slice B m d] 24)) (w.heap.size + 1) 24 #[.bool t, .slice B m d] := Blk.new' _ _ (by simp)
  go_enter Tryd.func7, Tryd.ntmps7
  go_wp2_with fail
  generalize ((w.alloc (.cells #[.bool s, .slice A n c] 24)).alloc (.cells #[.bool t, .slice B m d] 24)) = w0 at *
  generalize hg : w.heap.size = g at *
  have HG := Lib.hid hg; clear hg
  replace hX := hX.ext hE
  replace hY := hY.ext hE
  refine (known_any _).mono ?_
  rintro e w1 ⟨rfl, hx_⟩
  replace b2 := b2.ext hx_
  replace b3 := b3.ext hx_
  replace hX := hX.ext hx_
  replace hY := hY.ext hx_
  replace hE := hE.trans hx_
  clear hx_
  have k2 := b2.cell
  have k3 := b3.cell
  go_wp2_with fail
  have hbs := Blk.new w1 24 #[.bool s, .slice A n c, .bool t, .slice B m d]
  have hx0 := Ext.new w1 (.cells #[.bool s, .slice A n c, .bool t, .slice B m d] 24)
  replace b2 := b2.ext hx0
  replace b3 := b3.ext hx0
  replace hX := hX.ext hx0
  replace hY := hY.ext hx0
  replace hE := hE.trans hx0
  clear hx0
  refine (Large_any w1.heap.size 2 [(A, n, c), (B, m, d)] _ (by simp) (large2 hbs)).mono ?_
  rintro e w2 ⟨rfl, hx_⟩
  rw [large2_no (by omega) (by omega)]
  replace b2 := b2.ext hx_
  replace b3 := b3.ext hx_
  replace hX := hX.ext hx_
  replace hY := hY.ext hx_
  replace hE := hE.trans hx_
  clear hx_ hbs
  clear k2 k3
  have k2 := b2.cell
  have k3 := b3.cell
  go_wp2_with fail
  refine (Divide_res _ _ s t l k _ hX hY).mono ?_
  rintro e w3 ⟨v_, rfl, ⟨q_, r_, rfl, hQ1, hR1⟩, hx_⟩
  replace b2 := b2.ext hx_
  replace b3 := b3.ext hx_
  replace hX := hX.ext hx_
  replace hY := hY.ext hx_
  replace hE := hE.trans hx_
  clear hx_
  clear k2 k3
  rw [← HDQ.out] at hQ1
  rw [← HDR.out] at hR1
  rw [← HDE.out]
  obtain ⟨sq1, Aq1, nq1, cq1, rfl, hQ1⟩ := hQ1.open_
  obtain ⟨sr1, Ar1, nr1, cr1, rfl, hR1⟩ := hR1.open_
  have hx_ : Ext w3 ((w3.alloc (.cells #[.bool sq1, .slice Aq1 nq1 cq1] 24)).alloc (.cells #[.bool sr1, .slice Ar1 nr1 cr1] 24)) := (Ext.new _ _).alloc _
  have b5 : Blk ((w3.alloc (.cells #[.bool sq1, .slice Aq1 nq1 cq1] 24)).alloc (.cells #[.bool sr1, .slice Ar1 nr1 cr1] 24)) w3.heap.size 24 #[.bool sq1, .slice Aq1 nq1 cq1] := (Blk.new' _ _ (by simp)).alloc _
  have b6 : Blk ((w3.alloc (.cells #[.bool sq1, .slice Aq1 nq1 cq1] 24)).alloc (.cells #[.bool sr1, .slice Ar1 nr1 cr1] 24)) (w3.heap.size + 1) 24 #[.bool sr1, .slice Ar1 nr1 cr1] := Blk.new' _ _ (by simp)
  have ho_2_5 : g < w3.heap.size := b2.lt
  have ho_3_5 : g + 1 < w3.heap.size := b3.lt
  replace b2 := b2.ext hx_
  replace b3 := b3.ext hx_
  replace hX := hX.ext hx_
  replace hY := hY.ext hx_
  replace hQ1 := hQ1.ext hx_
  replace hR1 := hR1.ext hx_
  replace hE := hE.trans hx_
  clear hx_
  have k2 := b2.cell
  have k3 := b3.cell
  have k5 := b5.cell
  have k6 := b6.cell
  go_wp2_with fail
  generalize ((w3.alloc (.cells #[.bool sq1, .slice Aq1 nq1 cq1] 24)).alloc (.cells #[.bool sr1, .slice Ar1 nr1 cr1] 24)) = w4 at *
  generalize w3.heap.size = g5 at *
  refine (rDivide_res _ _ s t l k _ hX hY).mono ?_
  rintro e w5 ⟨v_, rfl, ⟨q_, r_, rfl, hQ2, hR2⟩, hx_⟩
  replace b2 := b2.ext hx_
  replace b3 := b3.ext hx_
  replace b5 := b5.ext hx_
  replace b6 := b6.ext hx_
  replace hX := hX.ext hx_
  replace hY := hY.ext hx_
  replace hQ1 := hQ1.ext hx_
  replace hR1 := hR1.ext hx_
  replace hE := hE.trans hx_
  clear hx_
  clear k2 k3 k5 k6
  rw [← HDQ.out] at hQ2
  rw [← HDR.out] at hR2
  rw [← HDE.out]
  obtain ⟨sq2, Aq2, nq2, cq2, rfl, hQ2⟩ := hQ2.open_
  obtain ⟨sr2, Ar2, nr2, cr2, rfl, hR2⟩ := hR2.open_
  have hx_ : Ext w5 ((w5.alloc (.cells #[.bool sq2, .slice Aq2 nq2 cq2] 24)).alloc (.cells #[.bool sr2, .slice Ar2 nr2 cr2] 24)) := (Ext.new _ _).alloc _
  have b8 : Blk ((w5.alloc (.cells #[.bool sq2, .slice Aq2 nq2 cq2] 24)).alloc (.cells #[.bool sr2, .slice Ar2 nr2 cr2] 24)) w5.heap.size 24 #[.bool sq2, .slice Aq2 nq2 cq2] := (Blk.new' _ _ (by simp)).alloc _
  have b9 : Blk ((w5.alloc (.cells #[.bool sq2, .slice Aq2 nq2 cq2] 24)).alloc (.cells #[.bool sr2, .slice Ar2 nr2 cr2] 24)) (w5.heap.size + 1) 24 #[.bool sr2, .slice Ar2 nr2 cr2] := Blk.new' _ _ (by simp)
  have ho_2_8 : g < w5.heap.size := b2.lt
  have ho_3_8 : g + 1 < w5.heap.size := b3.lt
  have ho_5_8 : g5 < w5.heap.size := b5.lt
  have ho_6_8 : g5 + 1 < w5.heap.size := b6.lt
  replace b2 := b2.ext hx_
  replace b3 := b3.ext hx_
  replace b5 := b5.ext hx_
  replace b6 := b6.ext hx_
  replace hX := hX.ext hx_
  replace hY := hY.ext hx_
  replace hQ1 := hQ1.ext hx_
  replace hR1 := hR1.ext hx_
  replace hQ2 := hQ2.ext hx_
  replace hR2 := hR2.ext hx_
  replace hE := hE.trans hx_
  clear hx_
  have k2 := b2.cell
  have k3 := b3.cell
  have k5 := b5.cell
  have k6 := b6.cell
  have k8 := b8.cell
  have k9 := b9.cell
  go_wp2_with fail
  generalize ((w5.alloc (.cells #[.bool sq2, .slice Aq2 nq2 cq2] 24)).alloc (.cells #[.bool sr2, .slice Ar2 nr2 cr2] 24)) = w6 at *
  generalize w5.heap.size = g8 at *
  refine (same_true _ _ _ _ _ hQ1 hQ2).mono ?_
  rintro e w7 ⟨rfl, hx_⟩
  replace b2 := b2.ext hx_
  replace b3 := b3.ext hx_
  replace b5 := b5.ext hx_
  replace b6 := b6.ext hx_
  replace b8 := b8.ext hx_
  replace b9 := b9.ext hx_
  replace hX := hX.ext hx_
  replace hY := hY.ext hx_
  replace hQ1 := hQ1.ext hx_
  replace hR1 := hR1.ext hx_
  replace hQ2 := hQ2.ext hx_
  replace hR2 := hR2.ext hx_
  replace hE := hE.trans hx_
  clear hx_
  clear k2 k3 k5 k6 k8 k9
  have k2 := b2.cell
  have k3 := b3.cell
  have k5 := b5.cell
  have k6 := b6.cell
  have k8 := b8.cell
  have k9 := b9.cell
  go_wp2_with fail
  refine (rSame_any _ _ dr dr _ hR1 hR2).mono ?_
  rintro e w8 ⟨rfl, hx_⟩
  replace b2 := b2.ext hx_
  replace b3 := b3.ext hx_
  replace b5 := b5.ext hx_
  replace b6 := b6.ext hx_
  replace b8 := b8.ext hx_
  replace b9 := b9.ext hx_
  replace hX := hX.ext hx_
  replace hY := hY.ext hx_
  replace hQ1 := hQ1.ext hx_
  replace hR1 := hR1.ext hx_
  replace hQ2 := hQ2.ext hx_
  replace hR2 := hR2.ext hx_
  replace hE := hE.trans hx_
  clear hx_
  clear k2 k3 k5 k6 k8 k9
  rw [show decide (dr = dr) = true by simp]
  have k2 := b2.cell
  have k3 := b3.cell
  have k5 := b5.cell
  have k6 := b6.cell
  have k8 := b8.cell
  have k9 := b9.cell
  go_wp2_with fail
  refine (Gcd_res _ _ s t l k _ hX hY).mono ?_
  rintro e w9 ⟨v_, rfl, ⟨u_, rfl, hI12⟩, hx_⟩
  replace b2 := b2.ext hx_
  replace b3 := b3.ext hx_
  replace b5 := b5.ext hx_
  replace b6 := b6.ext hx_
  replace b8 := b8.ext hx_
  replace b9 := b9.ext hx_
  replace hX := hX.ext hx_
  replace hY := hY.ext hx_
  replace hE := hE.trans hx_
  clear hx_
  clear k2 k3 k5 k6 k8 k9
  rw [← HG_.out] at hI12
  rw [← HG_.out]
  obtain ⟨s12, A12, n12, c12, rfl, hI12⟩ := hI12.open_
  have hx_ : Ext w9 (w9.alloc (.cells #[.bool s12, .slice A12 n12 c12] 24)) := Ext.new _ _
  have b12 : Blk (w9.alloc (.cells #[.bool s12, .slice A12 n12 c12] 24)) w9.heap.size 24 #[.bool s12, .slice A12 n12 c12] := Blk.new' _ _ (by simp)
  have ho_2_12 : g < w9.heap.size := b2.lt
  have ho_3_12 : g + 1 < w9.heap.size := b3.lt
  have ho_5_12 : g5 < w9.heap.size := b5.lt
  have ho_6_12 : g5 + 1 < w9.heap.size := b6.lt
  have ho_8_12 : g8 < w9.heap.size := b8.lt
  have ho_9_12 : g8 + 1 < w9.heap.size := b9.lt
  replace b2 := b2.ext hx_
  replace b3 := b3.ext hx_
  replace b5 := b5.ext hx_
  replace b6 := b6.ext hx_
  replace b8 := b8.ext hx_
  replace b9 := b9.ext hx_
  replace hX := hX.ext hx_
  replace hY := hY.ext hx_
  replace hI12 := hI12.ext hx_
  replace hE := hE.trans hx_
  clear hx_
  have k2 := b2.cell
  have k3 := b3.cell
  have k5 := b5.cell
  have k6 := b6.cell
  have k8 := b8.cell
  have k9 := b9.cell
  have k12 := b12.cell
  go_wp2_with fail
  generalize (w9.alloc (.cells #[.bool s12, .slice A12 n12 c12] 24)) = w10 at *
  generalize w9.heap.size = g12 at *
  refine (rGcd_res _ _ s t l k _ hX hY).mono ?_
  rintro e w11 ⟨v_, rfl, ⟨u_, rfl, hI13⟩, hx_⟩
  replace b2 := b2.ext hx_
  replace b3 := b3.ext hx_
  replace b5 := b5.ext hx_
  replace b6 := b6.ext hx_
  replace b8 := b8.ext hx_
  replace b9 := b9.ext hx_
  replace b12 := b12.ext hx_
  replace hX := hX.ext hx_
  replace hY := hY.ext hx_
  replace hI12 := hI12.ext hx_
  replace hE := hE.trans hx_
  clear hx_
  clear k2 k3 k5 k6 k8 k9 k12
  rw [← HG_.out] at hI13
  rw [← HG_.out]
  obtain ⟨s13, A13, n13, c13, rfl, hI13⟩ := hI13.open_
  have hx_ : Ext w11 (w11.alloc (.cells #[.bool s13, .slice A13 n13 c13] 24)) := Ext.new _ _
  have b13 : Blk (w11.alloc (.cells #[.bool s13, .slice A13 n13 c13] 24)) w11.heap.size 24 #[.bool s13, .slice A13 n13 c13] := Blk.new' _ _ (by simp)
  have ho_2_13 : g < w11.heap.size := b2.lt
  have ho_3_13 : g + 1 < w11.heap.size := b3.lt
  have ho_5_13 : g5 < w11.heap.size := b5.lt
  have ho_6_13 : g5 + 1 < w11.heap.size := b6.lt
  have ho_8_13 : g8 < w11.heap.size := b8.lt
  have ho_9_13 : g8 + 1 < w11.heap.size := b9.lt
  have ho_12_13 : g12 < w11.heap.size := b12.lt
  replace b2 := b2.ext hx_
  replace b3 := b3.ext hx_
  replace b5 := b5.ext hx_
  replace b6 := b6.ext hx_
  replace b8 := b8.ext hx_
  replace b9 := b9.ext hx_
  replace b12 := b12.ext hx_
  replace hX := hX.ext hx_
  replace hY := hY.ext hx_
  replace hI12 := hI12.ext hx_
  replace hI13 := hI13.ext hx_
  replace hE := hE.trans hx_
  clear hx_
  have k2 := b2.cell
  have k3 := b3.cell
  have k5 := b5.cell
  have k6 := b6.cell
  have k8 := b8.cell
  have k9 := b9.cell
  have k12 := b12.cell
  have k13 := b13.cell
  go_wp2_with fail
  generalize (w11.alloc (.cells #[.bool s13, .slice A13 n13 c13] 24)) = w12 at *
  generalize w11.heap.size = g13 at *
  refine (same_true _ _ _ _ _ hI12 hI13).mono ?_
  rintro e w13 ⟨rfl, hx_⟩
  replace b2 := b2.ext hx_
  replace b3 := b3.ext hx_
  replace b5 := b5.ext hx_
  replace b6 := b6.ext hx_
  replace b8 := b8.ext hx_
  replace b9 := b9.ext hx_
  replace b12 := b12.ext hx_
  replace b13 := b13.ext hx_
  replace hX := hX.ext hx_
  replace hY := hY.ext hx_
  replace hI12 := hI12.ext hx_
  replace hI13 := hI13.ext hx_
  replace hE := hE.trans hx_
  clear hx_
  clear k2 k3 k5 k6 k8 k9 k12 k13
  have k2 := b2.cell
  have k3 := b3.cell
  have k5 := b5.cell
  have k6 := b6.cell
  have k8 := b8.cell
  have k9 := b9.cell
  have k12 := b12.cell
  have k13 := b13.cell
  go_wp2_with fail
  refine (Root_res _ s l _ hX).mono ?_
  rintro e w14 ⟨v_, rfl, ⟨u_, rfl, hJ12⟩, hx_⟩
  replace b2 := b2.ext hx_
  replace b3 := b3.ext hx_
  replace b5 := b5.ext hx_
  replace b6 := b6.ext hx_
  replace b8 := b8.ext hx_
  replace b9 := b9.ext hx_
  replace b12 := b12.ext hx_
  replace b13 := b13.ext hx_
  replace hX := hX.ext hx_
  replace hY := hY.ext hx_
  replace hE := hE.trans hx_
  clear hx_
  clear k2 k3 k5 k6 k8 k9 k12 k13
  rw [← HR.out] at hJ12
  rw [← HR.out]
  obtain ⟨sr12, Ar12, nr12, cr12, rfl, hJ12⟩ := hJ12.open_
  have kc_ := b12.cell
  have kf_ := b12.frozen
  obtain ⟨hEp, hBp, hFp, hXp, hIp⟩ := box_put (w'' := ((w14.setCell ⟨g12, 0, none⟩ (.bool sr12)).setCell ⟨g12, 1, none⟩ (.slice Ar12 nr12 cr12))) hE (by rw [HG.out]; omega) b12 sr12 Ar12 nr12 cr12 rfl
  replace b2 := hFp _ _ _ (by omega) b2
  replace b3 := hFp _ _ _ (by omega) b3
  replace b5 := hFp _ _ _ (by omega) b5
  replace b6 := hFp _ _ _ (by omega) b6
  replace b8 := hFp _ _ _ (by omega) b8
  replace b9 := hFp _ _ _ (by omega) b9
  replace b13 := hFp _ _ _ (by omega) b13
  replace b12 := hBp
  replace hX := hXp _ _ _ hX
  replace hY := hXp _ _ _ hY
  replace hJ12 := hIp _ _ hJ12
  replace hE := hEp
  clear hEp hBp hFp hXp hIp
  have k2 := b2.cell
  have k3 := b3.cell
  have k5 := b5.cell
  have k6 := b6.cell
  have k8 := b8.cell
  have k9 := b9.cell
  have k12 := b12.cell
  have k13 := b13.cell
  go_wp2_with fail
  generalize ((w14.setCell ⟨g12, 0, none⟩ (.bool sr12)).setCell ⟨g12, 1, none⟩ (.slice Ar12 nr12 cr12)) = w15 at *
  refine (rRoot_res _ s l _ hX).mono ?_
  rintro e w16 ⟨v_, rfl, ⟨u_, rfl, hJ13⟩, hx_⟩
  replace b2 := b2.ext hx_
  replace b3 := b3.ext hx_
  replace b5 := b5.ext hx_
  replace b6 := b6.ext hx_
  replace b8 := b8.ext hx_
  replace b9 := b9.ext hx_
  replace b12 := b12.ext hx_
  replace b13 := b13.ext hx_
  replace hX := hX.ext hx_
  replace hY := hY.ext hx_
  replace hJ12 := hJ12.ext hx_
  replace hE := hE.trans hx_
  clear hx_
  clear k2 k3 k5 k6 k8 k9 k12 k13
  rw [← HR.out] at hJ13
  rw [← HR.out]
  obtain ⟨sr13, Ar13, nr13, cr13, rfl, hJ13⟩ := hJ13.open_
  have kc_ := b13.cell
  have kf_ := b13.frozen
  obtain ⟨hEp, hBp, hFp, hXp, hIp⟩ := box_put (w'' := ((w16.setCell ⟨g13, 0, none⟩ (.bool sr13)).setCell ⟨g13, 1, none⟩ (.slice Ar13 nr13 cr13))) hE (by rw [HG.out]; omega) b13 sr13 Ar13 nr13 cr13 rfl
  replace b2 := hFp _ _ _ (by omega) b2
  replace b3 := hFp _ _ _ (by omega) b3
  replace b5 := hFp _ _ _ (by omega) b5
  replace b6 := hFp _ _ _ (by omega) b6
  replace b8 := hFp _ _ _ (by omega) b8
  replace b9 := hFp _ _ _ (by omega) b9
  replace b12 := hFp _ _ _ (by omega) b12
  replace b13 := hBp
  replace hX := hXp _ _ _ hX
  replace hY := hXp _ _ _ hY
  replace hJ12 := hIp _ _ hJ12
  replace hJ13 := hIp _ _ hJ13
  replace hE := hEp
  clear hEp hBp hFp hXp hIp
  have k2 := b2.cell
  have k3 := b3.cell
  have k5 := b5.cell
  have k6 := b6.cell
  have k8 := b8.cell
  have k9 := b9.cell
  have k12 := b12.cell
  have k13 := b13.cell
  go_wp2_with fail
  generalize ((w16.setCell ⟨g13, 0, none⟩ (.bool sr13)).setCell ⟨g13, 1, none⟩ (.slice Ar13 nr13 cr13)) = w17 at *
  refine (same_true _ _ _ _ _ hJ12 hJ13).mono ?_
  rintro e w18 ⟨rfl, hx_⟩
  replace b2 := b2.ext hx_
  replace b3 := b3.ext hx_
  replace b5 := b5.ext hx_
  replace b6 := b6.ext hx_
  replace b8 := b8.ext hx_
  replace b9 := b9.ext hx_
  replace b12 := b12.ext hx_
  replace b13 := b13.ext hx_
  replace hX := hX.ext hx_
  replace hY := hY.ext hx_
  replace hJ12 := hJ12.ext hx_
  replace hJ13 := hJ13.ext hx_
  replace hE := hE.trans hx_
  clear hx_
  clear k2 k3 k5 k6 k8 k9 k12 k13
  go_wp2
  go_ret
  exact ⟨rfl, hE⟩
end Go.Proofs.YtfdpbcjcinchgaaDoor
