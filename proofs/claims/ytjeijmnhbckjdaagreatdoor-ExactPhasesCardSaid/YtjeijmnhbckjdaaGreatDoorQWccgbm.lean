/- Phases: the walk of the law. -/
import Derived.Test.YtjeijmnhbckjdaaGreatDoorQWbjggl
import Derived.LoopN
import Derived.Test.YtjeijmnhbckjdaaGreatDoorQGfalfi
import Derived.Test.YtjeijmnhbckjdaaGreatDoorQRowGfjjk
namespace Go.Proofs.YtjeijmnhbckjdaaGreatDoor
open Go.RowKit
set_option linter.unusedVariables false

theorem AV.at_ {w : World} {v : Value} {p0 p1 p2 : PQ} {n : Nat} {z1 z2 z3 z4 z5 z6 z7 z8 z9 z10 z11 z12 z13 z14 z15 z16 z17 z18 : Int} (h : AV w v p0 p1 p2 n) (I0 : Is p0.u z1 z2 z3) (I1 : Is p0.v z4 z5 z6) (I2 : Is p1.u z7 z8 z9) (I3 : Is p1.v z10 z11 z12) (I4 : Is p2.u z13 z14 z15) (I5 : Is p2.v z16 z17 z18) : RA w v z1 z2 z3 z4 z5 z6 z7 z8 z9 z10 z11 z12 z13 z14 z15 z16 z17 z18 := by
  obtain ⟨y1, y2, y3, y4, y5, y6, y7, y8, y9, y10, y11, y12, y13, y14, y15, y16, y17, y18, hR, i0, _, i1, _, i2, _, i3, _, i4, _, i5, _⟩ := h
  obtain ⟨rfl, rfl, rfl⟩ := i0.unique I0
  obtain ⟨rfl, rfl, rfl⟩ := i1.unique I1
  obtain ⟨rfl, rfl, rfl⟩ := i2.unique I2
  obtain ⟨rfl, rfl, rfl⟩ := i3.unique I3
  obtain ⟨rfl, rfl, rfl⟩ := i4.unique I4
  obtain ⟨rfl, rfl, rfl⟩ := i5.unique I5
  exact hR
theorem toTA {f : FuncId} {args : Array Value} {w : World} {p0 p1 p2 : PQ} {n : Nat} {z1 z2 z3 z4 z5 z6 z7 z8 z9 z10 z11 z12 z13 z14 z15 z16 z17 z18 e0 : Int} (h : Calls Tryz.prog f args w fun e w' => ∃ v, e = .returned v ∧ (∃ u, v = .tuple #[u, .int .i64 e0] ∧ AV w' u p0 p1 p2 n) ∧ Ext w w') (I0 : Is p0.u z1 z2 z3) (I1 : Is p0.v z4 z5 z6) (I2 : Is p1.u z7 z8 z9) (I3 : Is p1.v z10 z11 z12) (I4 : Is p2.u z13 z14 z15) (I5 : Is p2.v z16 z17 z18) :
    Calls Tryz.prog f args w fun e w' => ∃ v, e = .returned v ∧ (∃ u, v = .tuple #[u, .int .i64 e0] ∧ RA w' u z1 z2 z3 z4 z5 z6 z7 z8 z9 z10 z11 z12 z13 z14 z15 z16 z17 z18) ∧ Ext w w' :=
  h.mono fun _ _ ⟨v, he, ⟨u, hu, hA⟩, hx⟩ => ⟨v, he, ⟨u, hu, hA.at_ I0 I1 I2 I3 I4 I5⟩, hx⟩
theorem toA {f : FuncId} {args : Array Value} {w : World} {p0 p1 p2 : PQ} {n : Nat} {z1 z2 z3 z4 z5 z6 z7 z8 z9 z10 z11 z12 z13 z14 z15 z16 z17 z18 : Int} (h : Calls Tryz.prog f args w fun e w' => ∃ v, e = .returned v ∧ AV w' v p0 p1 p2 n ∧ Ext w w') (I0 : Is p0.u z1 z2 z3) (I1 : Is p0.v z4 z5 z6) (I2 : Is p1.u z7 z8 z9) (I3 : Is p1.v z10 z11 z12) (I4 : Is p2.u z13 z14 z15) (I5 : Is p2.v z16 z17 z18) :
    Calls Tryz.prog f args w fun e w' => ∃ v, e = .returned v ∧ RA w' v z1 z2 z3 z4 z5 z6 z7 z8 z9 z10 z11 z12 z13 z14 z15 z16 z17 z18 ∧ Ext w w' :=
  h.mono fun _ _ ⟨v, he, hA, hx⟩ => ⟨v, he, hA.at_ I0 I1 I2 I3 I4 I5, hx⟩
theorem Bd.phs {x y z : GQ} {n0 n1 n2 : Nat} (h0 : Bd x n0) (h1 : Bd y n1) (h2 : Bd z n2) : Bd (ph0 x y z).u (n0 + n1 + n2 + 200) ∧ Bd (ph0 x y z).v (n0 + n1 + n2 + 200) ∧ Bd (ph1 x y z).u (n0 + n1 + n2 + 200) ∧ Bd (ph1 x y z).v (n0 + n1 + n2 + 200) ∧ Bd (ph2 x y z).u (n0 + n1 + n2 + 200) ∧ Bd (ph2 x y z).v (n0 + n1 + n2 + 200) :=
  ⟨(h0.add (h1.add h2)).mono (by omega), (Bd.i (a := 0) (b := 0) (by omega) (by omega) (by omega) (by omega)).mono (by omega), (Bd.blend (j := 2) (k := -1) (m := 2) h0 (h1.add h2) (by omega) (by omega) (by omega) (by omega) (by omega) (by omega) (by omega)).mono (by omega), ((Bd.blend (j := 1) (k := -1) (m := 2) h2 h1 (by omega) (by omega) (by omega) (by omega) (by omega) (by omega) (by omega)).rot 1).mono (by omega), (Bd.blend (j := 2) (k := -1) (m := 2) h0 (h1.add h2) (by omega) (by omega) (by omega) (by omega) (by omega) (by omega) (by omega)).mono (by omega), ((Bd.blend (j := 1) (k := -1) (m := 2) h1 h2 (by omega) (by omega) (by omega) (by omega) (by omega) (by omega) (by omega)).rot 1).mono (by omega)⟩

set_option maxRecDepth 100000 in
set_option maxHeartbeats 1600000 in
theorem phases_large (a9 : Bool) (aa : Option Addr) (a0 ab : Nat) (ac : Bool) (ad : Option Addr) (a1 ae : Nat) (af : Bool) (ag : Option Addr) (a2 ah : Nat) (ai : Bool) (aj : Option Addr) (a3 ak : Nat) (am : Bool) (an : Option Addr) (a4 ao : Nat) (ap : Bool) (aq : Option Addr) (a5 ar : Nat) (au : Bool) (av : Option Addr) (a6 aw : Nat) (ax : Bool) (ay : Option Addr) (a7 az : Nat) (aA : Bool) (aB : Option Addr) (a8 aC : Nat) (w : World) (hTab : Tab w) (HL : Hid ([a0, a1, a2, a3, a4, a5, a6, a7, a8].all (fun n => decide (n ≤ 20)) = false))
      :
    Calls Tryz.prog 6 #[gv a9 aa a0 ab ac ad a1 ae af ag a2 ah, gv ai aj a3 ak am an a4 ao ap aq a5 ar, gv au av a6 aw ax ay a7 az aA aB a8 aC] w fun e w' => e = .returned (.bool true) ∧ Ext w w' := by
  have hS := St.start w
  have o3 : Own w w.heap.size := Own.of hS.ext (by simp)
  have o4 : Own w (w.heap.size + 1) := Own.of hS.ext (by simp)
  have o5 : Own w (w.heap.size + 2) := Own.of hS.ext (by simp)
  have aD := (St.al (St.al (St.al hS 26 #[.bool a9, .slice aa a0 ab, .bool ac, .slice ad a1 ae, .bool af, .slice ag a2 ah] (g := w.heap.size) (by simp)) 26 #[.bool ai, .slice aj a3 ak, .bool am, .slice an a4 ao, .bool ap, .slice aq a5 ar] (g := (w.heap.size + 1)) (by simp)) 26 #[.bool au, .slice av a6 aw, .bool ax, .slice ay a7 az, .bool aA, .slice aB a8 aC] (g := (w.heap.size + 2)) (by simp))
  have k_1 := (aD.blk 2 rfl).cell
  have k_2 := (aD.blk 1 rfl).cell
  have k_3 := (aD.blk 0 rfl).cell
  have o15 : Own w (w.heap.size + 3) := Own.of hS.ext (by simp)
  go_enter Tryz.func6, Tryz.ntmps6
  go_wp2_with fail
  clear k_1 k_2 k_3
  clear aD
  replace hS := (St.al (St.al (St.al (St.al hS 26 #[.bool a9, .slice aa a0 ab, .bool ac, .slice ad a1 ae, .bool af, .slice ag a2 ah] (g := w.heap.size) (by simp)) 26 #[.bool ai, .slice aj a3 ak, .bool am, .slice an a4 ao, .bool ap, .slice aq a5 ar] (g := (w.heap.size + 1)) (by simp)) 26 #[.bool au, .slice av a6 aw, .bool ax, .slice ay a7 az, .bool aA, .slice aB a8 aC] (g := (w.heap.size + 2)) (by simp)) 26 #[.bool a9, .slice aa a0 ab, .bool ac, .slice ad a1 ae, .bool af, .slice ag a2 ah, .bool ai, .slice aj a3 ak, .bool am, .slice an a4 ao, .bool ap, .slice aq a5 ar, .bool au, .slice av a6 aw, .bool ax, .slice ay a7 az, .bool aA, .slice aB a8 aC] (g := (w.heap.size + 3)) (by simp))
  generalize ((((w.alloc (.cells #[.bool a9, .slice aa a0 ab, .bool ac, .slice ad a1 ae, .bool af, .slice ag a2 ah] 26)).alloc (.cells #[.bool ai, .slice aj a3 ak, .bool am, .slice an a4 ao, .bool ap, .slice aq a5 ar] 26)).alloc (.cells #[.bool au, .slice av a6 aw, .bool ax, .slice ay a7 az, .bool aA, .slice aB a8 aC] 26)).alloc (.cells #[.bool a9, .slice aa a0 ab, .bool ac, .slice ad a1 ae, .bool af, .slice ag a2 ah, .bool ai, .slice aj a3 ak, .bool am, .slice an a4 ao, .bool ap, .slice aq a5 ar, .bool au, .slice av a6 aw, .bool ax, .slice ay a7 az, .bool aA, .slice aB a8 aC] 26)) = w1 at hS ⊢
  generalize w.heap.size + 3 = g15 at hS o15 ⊢
  generalize w.heap.size + 2 = g5 at hS o5 ⊢
  generalize w.heap.size + 1 = g4 at hS o4 ⊢
  generalize w.heap.size = g3 at hS o3 ⊢
  refine (low3_raw g15 20 false _ (hS.blk 0 rfl) HL.out).mono ?_
  rintro e w2 ⟨rfl, hx_⟩
  replace hS := hS.mv hx_
  clear hx_
  go_wp2_with fail
  refine (lxknown_ok _ (tab_ext hTab hS.ext)).mono ?_
  rintro e w3 ⟨rfl, hx_⟩
  replace hS := hS.mv hx_
  clear hx_
  go_wp2
  go_ret
  exact ⟨ret_bool (rfl), hS.ext⟩

set_option maxRecDepth 100000 in
set_option maxHeartbeats 3200000 in
theorem phases_bad0 (a9 : Bool) (aa : Option Addr) (a0 ab : Nat) (ac : Bool) (ad : Option Addr) (a1 ae : Nat) (af : Bool) (ag : Option Addr) (a2 ah : Nat) (ai : Bool) (aj : Option Addr) (a3 ak : Nat) (am : Bool) (an : Option Addr) (a4 ao : Nat) (ap : Bool) (aq : Option Addr) (a5 ar : Nat) (b1 : Bool) (au : Bool) (av : Option Addr) (a6 aw : Nat) (ax : Bool) (ay : Option Addr) (a7 az : Nat) (aA : Bool) (aB : Option Addr) (a8 aC : Nat) (b2 : Bool) (w : World) (hV0 : VB w (gv a9 aa a0 ab ac ad a1 ae af ag a2 ah) false) (hV1 : VB w (gv ai aj a3 ak am an a4 ao ap aq a5 ar) b1) (hV2 : VB w (gv au av a6 aw ax ay a7 az aA aB a8 aC) b2) (hTab : Tab w) (HL : Hid ([a0, a1, a2, a3, a4, a5, a6, a7, a8].all (fun n => decide (n ≤ 20)) = true))
      :
    Calls Tryz.prog 6 #[gv a9 aa a0 ab ac ad a1 ae af ag a2 ah, gv ai aj a3 ak am an a4 ao ap aq a5 ar, gv au av a6 aw ax ay a7 az aA aB a8 aC] w fun e w' => e = .returned (.bool true) ∧ Ext w w' := by
  have hS := St.start w
  have o3 : Own w w.heap.size := Own.of hS.ext (by simp)
  have o4 : Own w (w.heap.size + 1) := Own.of hS.ext (by simp)
  have o5 : Own w (w.heap.size + 2) := Own.of hS.ext (by simp)
  have aD := (St.al (St.al (St.al hS 26 #[.bool a9, .slice aa a0 ab, .bool ac, .slice ad a1 ae, .bool af, .slice ag a2 ah] (g := w.heap.size) (by simp)) 26 #[.bool ai, .slice aj a3 ak, .bool am, .slice an a4 ao, .bool ap, .slice aq a5 ar] (g := (w.heap.size + 1)) (by simp)) 26 #[.bool au, .slice av a6 aw, .bool ax, .slice ay a7 az, .bool aA, .slice aB a8 aC] (g := (w.heap.size + 2)) (by simp))
  have k_1 := (aD.blk 2 rfl).cell
  have k_2 := (aD.blk 1 rfl).cell
  have k_3 := (aD.blk 0 rfl).cell
  have o15 : Own w (w.heap.size + 3) := Own.of hS.ext (by simp)
  go_enter Tryz.func6, Tryz.ntmps6
  go_wp2_with fail
  clear k_1 k_2 k_3
  clear aD
  replace hS := (St.al (St.al (St.al (St.al hS 26 #[.bool a9, .slice aa a0 ab, .bool ac, .slice ad a1 ae, .bool af, .slice ag a2 ah] (g := w.heap.size) (by simp)) 26 #[.bool ai, .slice aj a3 ak, .bool am, .slice an a4 ao, .bool ap, .slice aq a5 ar] (g := (w.heap.size + 1)) (by simp)) 26 #[.bool au, .slice av a6 aw, .bool ax, .slice ay a7 az, .bool aA, .slice aB a8 aC] (g := (w.heap.size + 2)) (by simp)) 26 #[.bool a9, .slice aa a0 ab, .bool ac, .slice ad a1 ae, .bool af, .slice ag a2 ah, .bool ai, .slice aj a3 ak, .bool am, .slice an a4 ao, .bool ap, .slice aq a5 ar, .bool au, .slice av a6 aw, .bool ax, .slice ay a7 az, .bool aA, .slice aB a8 aC] (g := (w.heap.size + 3)) (by simp))
  generalize ((((w.alloc (.cells #[.bool a9, .slice aa a0 ab, .bool ac, .slice ad a1 ae, .bool af, .slice ag a2 ah] 26)).alloc (.cells #[.bool ai, .slice aj a3 ak, .bool am, .slice an a4 ao, .bool ap, .slice aq a5 ar] 26)).alloc (.cells #[.bool au, .slice av a6 aw, .bool ax, .slice ay a7 az, .bool aA, .slice aB a8 aC] 26)).alloc (.cells #[.bool a9, .slice aa a0 ab, .bool ac, .slice ad a1 ae, .bool af, .slice ag a2 ah, .bool ai, .slice aj a3 ak, .bool am, .slice an a4 ao, .bool ap, .slice aq a5 ar, .bool au, .slice av a6 aw, .bool ax, .slice ay a7 az, .bool aA, .slice aB a8 aC] 26)) = w1 at hS ⊢
  generalize w.heap.size + 3 = g15 at hS o15 ⊢
  generalize w.heap.size + 2 = g5 at hS o5 ⊢
  generalize w.heap.size + 1 = g4 at hS o4 ⊢
  generalize w.heap.size = g3 at hS o3 ⊢
  refine (low3_raw g15 20 true _ (hS.blk 0 rfl) HL.out).mono ?_
  rintro e w2 ⟨rfl, hx_⟩
  replace hS := hS.mv hx_
  clear hx_
  have k_4 := (hS.blk 3 rfl).cell
  have k_5 := (hS.blk 2 rfl).cell
  have k_6 := (hS.blk 1 rfl).cell
  go_wp2_with fail
  clear k_4 k_5 k_6
  refine (xPhases_bad a9 aa a0 ab ac ad a1 ae af ag a2 ah false ai aj a3 ak am an a4 ao ap aq a5 ar b1 au av a6 aw ax ay a7 az aA aB a8 aC b2 _ (hV0.ext hS.ext) (hV1.ext hS.ext) (hV2.ext hS.ext) (Lib.hid rfl)).mono ?_
  rintro e w3 ⟨v_, rfl, hv_, hx_⟩
  replace hS := hS.mv hx_
  clear hx_
  obtain ⟨_, rfl, sS23, sA23, sN23, sC23, rfl, f_sS23_1, f_sS23_2, f_sS23_3, f_sS23_4, f_sS23_5, f_sS23_6, f_sS23_7, f_sS23_8, f_sS23_9, f_sS23_10, f_sS23_11, f_sS23_12, f_sS23_13, f_sS23_14, f_sS23_15, f_sS23_16, f_sS23_17, f_sS23_18⟩ := hv_
  replace hS := hS.addI f_sS23_1
  clear f_sS23_1
  replace hS := hS.addI f_sS23_2
  clear f_sS23_2
  replace hS := hS.addI f_sS23_3
  clear f_sS23_3
  replace hS := hS.addI f_sS23_4
  clear f_sS23_4
  replace hS := hS.addI f_sS23_5
  clear f_sS23_5
  replace hS := hS.addI f_sS23_6
  clear f_sS23_6
  replace hS := hS.addI f_sS23_7
  clear f_sS23_7
  replace hS := hS.addI f_sS23_8
  clear f_sS23_8
  replace hS := hS.addI f_sS23_9
  clear f_sS23_9
  replace hS := hS.addI f_sS23_10
  clear f_sS23_10
  replace hS := hS.addI f_sS23_11
  clear f_sS23_11
  replace hS := hS.addI f_sS23_12
  clear f_sS23_12
  replace hS := hS.addI f_sS23_13
  clear f_sS23_13
  replace hS := hS.addI f_sS23_14
  clear f_sS23_14
  replace hS := hS.addI f_sS23_15
  clear f_sS23_15
  replace hS := hS.addI f_sS23_16
  clear f_sS23_16
  replace hS := hS.addI f_sS23_17
  clear f_sS23_17
  replace hS := hS.addI f_sS23_18
  clear f_sS23_18
  have o7 : Own w w3.heap.size := Own.of hS.ext (by simp)
  have aE := (St.al hS 52 #[.bool false, .slice none 0 0, .bool false, .slice none 0 0, .bool false, .slice none 0 0, .bool false, .slice none 0 0, .bool false, .slice none 0 0, .bool false, .slice none 0 0, .bool false, .slice none 0 0, .bool false, .slice none 0 0, .bool false, .slice none 0 0, .bool false, .slice none 0 0, .bool false, .slice none 0 0, .bool false, .slice none 0 0, .bool false, .slice none 0 0, .bool false, .slice none 0 0, .bool false, .slice none 0 0, .bool false, .slice none 0 0, .bool false, .slice none 0 0, .bool false, .slice none 0 0] (g := w3.heap.size) (by simp))
  have aG := Lib.hid (aE.blk 0 rfl)
  have aF := (St.al hS 52 #[.bool (sS23 1), .slice (sA23 1) (sN23 1) (sC23 1), .bool (sS23 2), .slice (sA23 2) (sN23 2) (sC23 2), .bool (sS23 3), .slice (sA23 3) (sN23 3) (sC23 3), .bool (sS23 4), .slice (sA23 4) (sN23 4) (sC23 4), .bool (sS23 5), .slice (sA23 5) (sN23 5) (sC23 5), .bool (sS23 6), .slice (sA23 6) (sN23 6) (sC23 6), .bool (sS23 7), .slice (sA23 7) (sN23 7) (sC23 7), .bool (sS23 8), .slice (sA23 8) (sN23 8) (sC23 8), .bool (sS23 9), .slice (sA23 9) (sN23 9) (sC23 9), .bool (sS23 10), .slice (sA23 10) (sN23 10) (sC23 10), .bool (sS23 11), .slice (sA23 11) (sN23 11) (sC23 11), .bool (sS23 12), .slice (sA23 12) (sN23 12) (sC23 12), .bool (sS23 13), .slice (sA23 13) (sN23 13) (sC23 13), .bool (sS23 14), .slice (sA23 14) (sN23 14) (sC23 14), .bool (sS23 15), .slice (sA23 15) (sN23 15) (sC23 15), .bool (sS23 16), .slice (sA23 16) (sN23 16) (sC23 16), .bool (sS23 17), .slice (sA23 17) (sN23 17) (sC23 17), .bool (sS23 18), .slice (sA23 18) (sN23 18) (sC23 18)] (g := w3.heap.size) (by simp))
  have k_8 := (aF.blk 4 rfl).cell
  have HhT2 := Lib.hid aE ; have HhT3 := Lib.hid aF; clear aE aF
  go_wp2_with (first | (refine wpList_store_row rfl 52 _ _ rfl w3.heap.size _ (by rfl) (by rfl) 52 _ aG.out (a3_sz rfl) (by rfl) (by kernel_rfl) ?_; rw [World.setRow_alloc_new]))
  clear aG k_8 HhT2 HhT3
  replace hS := (St.al hS 52 #[.bool (sS23 1), .slice (sA23 1) (sN23 1) (sC23 1), .bool (sS23 2), .slice (sA23 2) (sN23 2) (sC23 2), .bool (sS23 3), .slice (sA23 3) (sN23 3) (sC23 3), .bool (sS23 4), .slice (sA23 4) (sN23 4) (sC23 4), .bool (sS23 5), .slice (sA23 5) (sN23 5) (sC23 5), .bool (sS23 6), .slice (sA23 6) (sN23 6) (sC23 6), .bool (sS23 7), .slice (sA23 7) (sN23 7) (sC23 7), .bool (sS23 8), .slice (sA23 8) (sN23 8) (sC23 8), .bool (sS23 9), .slice (sA23 9) (sN23 9) (sC23 9), .bool (sS23 10), .slice (sA23 10) (sN23 10) (sC23 10), .bool (sS23 11), .slice (sA23 11) (sN23 11) (sC23 11), .bool (sS23 12), .slice (sA23 12) (sN23 12) (sC23 12), .bool (sS23 13), .slice (sA23 13) (sN23 13) (sC23 13), .bool (sS23 14), .slice (sA23 14) (sN23 14) (sC23 14), .bool (sS23 15), .slice (sA23 15) (sN23 15) (sC23 15), .bool (sS23 16), .slice (sA23 16) (sN23 16) (sC23 16), .bool (sS23 17), .slice (sA23 17) (sN23 17) (sC23 17), .bool (sS23 18), .slice (sA23 18) (sN23 18) (sC23 18)] (g := w3.heap.size) (by simp))
  generalize (w3.alloc (.cells #[.bool (sS23 1), .slice (sA23 1) (sN23 1) (sC23 1), .bool (sS23 2), .slice (sA23 2) (sN23 2) (sC23 2), .bool (sS23 3), .slice (sA23 3) (sN23 3) (sC23 3), .bool (sS23 4), .slice (sA23 4) (sN23 4) (sC23 4), .bool (sS23 5), .slice (sA23 5) (sN23 5) (sC23 5), .bool (sS23 6), .slice (sA23 6) (sN23 6) (sC23 6), .bool (sS23 7), .slice (sA23 7) (sN23 7) (sC23 7), .bool (sS23 8), .slice (sA23 8) (sN23 8) (sC23 8), .bool (sS23 9), .slice (sA23 9) (sN23 9) (sC23 9), .bool (sS23 10), .slice (sA23 10) (sN23 10) (sC23 10), .bool (sS23 11), .slice (sA23 11) (sN23 11) (sC23 11), .bool (sS23 12), .slice (sA23 12) (sN23 12) (sC23 12), .bool (sS23 13), .slice (sA23 13) (sN23 13) (sC23 13), .bool (sS23 14), .slice (sA23 14) (sN23 14) (sC23 14), .bool (sS23 15), .slice (sA23 15) (sN23 15) (sC23 15), .bool (sS23 16), .slice (sA23 16) (sN23 16) (sC23 16), .bool (sS23 17), .slice (sA23 17) (sN23 17) (sC23 17), .bool (sS23 18), .slice (sA23 18) (sN23 18) (sC23 18)] 52)) = w4 at hS ⊢
  generalize w3.heap.size = g7 at hS o7 ⊢
  refine (VB.q (hV0.ext hS.ext)).mono ?_
  rintro e w5 ⟨rfl, hx_⟩
  replace hS := hS.mv hx_
  clear hx_
  go_wp2_with fail
  refine (lxknown_ok _ (tab_ext hTab hS.ext)).mono ?_
  rintro e w6 ⟨rfl, hx_⟩
  replace hS := hS.mv hx_
  clear hx_
  go_wp2
  go_ret
  exact ⟨ret_bool (rfl), hS.ext⟩

set_option maxRecDepth 100000 in
set_option maxHeartbeats 3200000 in
theorem phases_bad1 (a9 : Bool) (aa : Option Addr) (a0 ab : Nat) (ac : Bool) (ad : Option Addr) (a1 ae : Nat) (af : Bool) (ag : Option Addr) (a2 ah : Nat) (ai : Bool) (aj : Option Addr) (a3 ak : Nat) (am : Bool) (an : Option Addr) (a4 ao : Nat) (ap : Bool) (aq : Option Addr) (a5 ar : Nat) (au : Bool) (av : Option Addr) (a6 aw : Nat) (ax : Bool) (ay : Option Addr) (a7 az : Nat) (aA : Bool) (aB : Option Addr) (a8 aC : Nat) (b2 : Bool) (w : World) (hV0 : VB w (gv a9 aa a0 ab ac ad a1 ae af ag a2 ah) true) (hV1 : VB w (gv ai aj a3 ak am an a4 ao ap aq a5 ar) false) (hV2 : VB w (gv au av a6 aw ax ay a7 az aA aB a8 aC) b2) (hTab : Tab w) (HL : Hid ([a0, a1, a2, a3, a4, a5, a6, a7, a8].all (fun n => decide (n ≤ 20)) = true))
      :
    Calls Tryz.prog 6 #[gv a9 aa a0 ab ac ad a1 ae af ag a2 ah, gv ai aj a3 ak am an a4 ao ap aq a5 ar, gv au av a6 aw ax ay a7 az aA aB a8 aC] w fun e w' => e = .returned (.bool true) ∧ Ext w w' := by
  have hS := St.start w
  have o3 : Own w w.heap.size := Own.of hS.ext (by simp)
  have o4 : Own w (w.heap.size + 1) := Own.of hS.ext (by simp)
  have o5 : Own w (w.heap.size + 2) := Own.of hS.ext (by simp)
  have aD := (St.al (St.al (St.al hS 26 #[.bool a9, .slice aa a0 ab, .bool ac, .slice ad a1 ae, .bool af, .slice ag a2 ah] (g := w.heap.size) (by simp)) 26 #[.bool ai, .slice aj a3 ak, .bool am, .slice an a4 ao, .bool ap, .slice aq a5 ar] (g := (w.heap.size + 1)) (by simp)) 26 #[.bool au, .slice av a6 aw, .bool ax, .slice ay a7 az, .bool aA, .slice aB a8 aC] (g := (w.heap.size + 2)) (by simp))
  have k_1 := (aD.blk 2 rfl).cell
  have k_2 := (aD.blk 1 rfl).cell
  have k_3 := (aD.blk 0 rfl).cell
  have o15 : Own w (w.heap.size + 3) := Own.of hS.ext (by simp)
  go_enter Tryz.func6, Tryz.ntmps6
  go_wp2_with fail
  clear k_1 k_2 k_3
  clear aD
  replace hS := (St.al (St.al (St.al (St.al hS 26 #[.bool a9, .slice aa a0 ab, .bool ac, .slice ad a1 ae, .bool af, .slice ag a2 ah] (g := w.heap.size) (by simp)) 26 #[.bool ai, .slice aj a3 ak, .bool am, .slice an a4 ao, .bool ap, .slice aq a5 ar] (g := (w.heap.size + 1)) (by simp)) 26 #[.bool au, .slice av a6 aw, .bool ax, .slice ay a7 az, .bool aA, .slice aB a8 aC] (g := (w.heap.size + 2)) (by simp)) 26 #[.bool a9, .slice aa a0 ab, .bool ac, .slice ad a1 ae, .bool af, .slice ag a2 ah, .bool ai, .slice aj a3 ak, .bool am, .slice an a4 ao, .bool ap, .slice aq a5 ar, .bool au, .slice av a6 aw, .bool ax, .slice ay a7 az, .bool aA, .slice aB a8 aC] (g := (w.heap.size + 3)) (by simp))
  generalize ((((w.alloc (.cells #[.bool a9, .slice aa a0 ab, .bool ac, .slice ad a1 ae, .bool af, .slice ag a2 ah] 26)).alloc (.cells #[.bool ai, .slice aj a3 ak, .bool am, .slice an a4 ao, .bool ap, .slice aq a5 ar] 26)).alloc (.cells #[.bool au, .slice av a6 aw, .bool ax, .slice ay a7 az, .bool aA, .slice aB a8 aC] 26)).alloc (.cells #[.bool a9, .slice aa a0 ab, .bool ac, .slice ad a1 ae, .bool af, .slice ag a2 ah, .bool ai, .slice aj a3 ak, .bool am, .slice an a4 ao, .bool ap, .slice aq a5 ar, .bool au, .slice av a6 aw, .bool ax, .slice ay a7 az, .bool aA, .slice aB a8 aC] 26)) = w1 at hS ⊢
  generalize w.heap.size + 3 = g15 at hS o15 ⊢
  generalize w.heap.size + 2 = g5 at hS o5 ⊢
  generalize w.heap.size + 1 = g4 at hS o4 ⊢
  generalize w.heap.size = g3 at hS o3 ⊢
  refine (low3_raw g15 20 true _ (hS.blk 0 rfl) HL.out).mono ?_
  rintro e w2 ⟨rfl, hx_⟩
  replace hS := hS.mv hx_
  clear hx_
  have k_4 := (hS.blk 3 rfl).cell
  have k_5 := (hS.blk 2 rfl).cell
  have k_6 := (hS.blk 1 rfl).cell
  go_wp2_with fail
  clear k_4 k_5 k_6
  refine (xPhases_bad a9 aa a0 ab ac ad a1 ae af ag a2 ah true ai aj a3 ak am an a4 ao ap aq a5 ar false au av a6 aw ax ay a7 az aA aB a8 aC b2 _ (hV0.ext hS.ext) (hV1.ext hS.ext) (hV2.ext hS.ext) (Lib.hid rfl)).mono ?_
  rintro e w3 ⟨v_, rfl, hv_, hx_⟩
  replace hS := hS.mv hx_
  clear hx_
  obtain ⟨_, rfl, sS23, sA23, sN23, sC23, rfl, f_sS23_1, f_sS23_2, f_sS23_3, f_sS23_4, f_sS23_5, f_sS23_6, f_sS23_7, f_sS23_8, f_sS23_9, f_sS23_10, f_sS23_11, f_sS23_12, f_sS23_13, f_sS23_14, f_sS23_15, f_sS23_16, f_sS23_17, f_sS23_18⟩ := hv_
  replace hS := hS.addI f_sS23_1
  clear f_sS23_1
  replace hS := hS.addI f_sS23_2
  clear f_sS23_2
  replace hS := hS.addI f_sS23_3
  clear f_sS23_3
  replace hS := hS.addI f_sS23_4
  clear f_sS23_4
  replace hS := hS.addI f_sS23_5
  clear f_sS23_5
  replace hS := hS.addI f_sS23_6
  clear f_sS23_6
  replace hS := hS.addI f_sS23_7
  clear f_sS23_7
  replace hS := hS.addI f_sS23_8
  clear f_sS23_8
  replace hS := hS.addI f_sS23_9
  clear f_sS23_9
  replace hS := hS.addI f_sS23_10
  clear f_sS23_10
  replace hS := hS.addI f_sS23_11
  clear f_sS23_11
  replace hS := hS.addI f_sS23_12
  clear f_sS23_12
  replace hS := hS.addI f_sS23_13
  clear f_sS23_13
  replace hS := hS.addI f_sS23_14
  clear f_sS23_14
  replace hS := hS.addI f_sS23_15
  clear f_sS23_15
  replace hS := hS.addI f_sS23_16
  clear f_sS23_16
  replace hS := hS.addI f_sS23_17
  clear f_sS23_17
  replace hS := hS.addI f_sS23_18
  clear f_sS23_18
  have o7 : Own w w3.heap.size := Own.of hS.ext (by simp)
  have aE := (St.al hS 52 #[.bool false, .slice none 0 0, .bool false, .slice none 0 0, .bool false, .slice none 0 0, .bool false, .slice none 0 0, .bool false, .slice none 0 0, .bool false, .slice none 0 0, .bool false, .slice none 0 0, .bool false, .slice none 0 0, .bool false, .slice none 0 0, .bool false, .slice none 0 0, .bool false, .slice none 0 0, .bool false, .slice none 0 0, .bool false, .slice none 0 0, .bool false, .slice none 0 0, .bool false, .slice none 0 0, .bool false, .slice none 0 0, .bool false, .slice none 0 0, .bool false, .slice none 0 0] (g := w3.heap.size) (by simp))
  have aG := Lib.hid (aE.blk 0 rfl)
  have aF := (St.al hS 52 #[.bool (sS23 1), .slice (sA23 1) (sN23 1) (sC23 1), .bool (sS23 2), .slice (sA23 2) (sN23 2) (sC23 2), .bool (sS23 3), .slice (sA23 3) (sN23 3) (sC23 3), .bool (sS23 4), .slice (sA23 4) (sN23 4) (sC23 4), .bool (sS23 5), .slice (sA23 5) (sN23 5) (sC23 5), .bool (sS23 6), .slice (sA23 6) (sN23 6) (sC23 6), .bool (sS23 7), .slice (sA23 7) (sN23 7) (sC23 7), .bool (sS23 8), .slice (sA23 8) (sN23 8) (sC23 8), .bool (sS23 9), .slice (sA23 9) (sN23 9) (sC23 9), .bool (sS23 10), .slice (sA23 10) (sN23 10) (sC23 10), .bool (sS23 11), .slice (sA23 11) (sN23 11) (sC23 11), .bool (sS23 12), .slice (sA23 12) (sN23 12) (sC23 12), .bool (sS23 13), .slice (sA23 13) (sN23 13) (sC23 13), .bool (sS23 14), .slice (sA23 14) (sN23 14) (sC23 14), .bool (sS23 15), .slice (sA23 15) (sN23 15) (sC23 15), .bool (sS23 16), .slice (sA23 16) (sN23 16) (sC23 16), .bool (sS23 17), .slice (sA23 17) (sN23 17) (sC23 17), .bool (sS23 18), .slice (sA23 18) (sN23 18) (sC23 18)] (g := w3.heap.size) (by simp))
  have k_8 := (aF.blk 4 rfl).cell
  have HhT2 := Lib.hid aE ; have HhT3 := Lib.hid aF; clear aE aF
  go_wp2_with (first | (refine wpList_store_row rfl 52 _ _ rfl w3.heap.size _ (by rfl) (by rfl) 52 _ aG.out (a3_sz rfl) (by rfl) (by kernel_rfl) ?_; rw [World.setRow_alloc_new]))
  clear aG k_8 HhT2 HhT3
  replace hS := (St.al hS 52 #[.bool (sS23 1), .slice (sA23 1) (sN23 1) (sC23 1), .bool (sS23 2), .slice (sA23 2) (sN23 2) (sC23 2), .bool (sS23 3), .slice (sA23 3) (sN23 3) (sC23 3), .bool (sS23 4), .slice (sA23 4) (sN23 4) (sC23 4), .bool (sS23 5), .slice (sA23 5) (sN23 5) (sC23 5), .bool (sS23 6), .slice (sA23 6) (sN23 6) (sC23 6), .bool (sS23 7), .slice (sA23 7) (sN23 7) (sC23 7), .bool (sS23 8), .slice (sA23 8) (sN23 8) (sC23 8), .bool (sS23 9), .slice (sA23 9) (sN23 9) (sC23 9), .bool (sS23 10), .slice (sA23 10) (sN23 10) (sC23 10), .bool (sS23 11), .slice (sA23 11) (sN23 11) (sC23 11), .bool (sS23 12), .slice (sA23 12) (sN23 12) (sC23 12), .bool (sS23 13), .slice (sA23 13) (sN23 13) (sC23 13), .bool (sS23 14), .slice (sA23 14) (sN23 14) (sC23 14), .bool (sS23 15), .slice (sA23 15) (sN23 15) (sC23 15), .bool (sS23 16), .slice (sA23 16) (sN23 16) (sC23 16), .bool (sS23 17), .slice (sA23 17) (sN23 17) (sC23 17), .bool (sS23 18), .slice (sA23 18) (sN23 18) (sC23 18)] (g := w3.heap.size) (by simp))
  generalize (w3.alloc (.cells #[.bool (sS23 1), .slice (sA23 1) (sN23 1) (sC23 1), .bool (sS23 2), .slice (sA23 2) (sN23 2) (sC23 2), .bool (sS23 3), .slice (sA23 3) (sN23 3) (sC23 3), .bool (sS23 4), .slice (sA23 4) (sN23 4) (sC23 4), .bool (sS23 5), .slice (sA23 5) (sN23 5) (sC23 5), .bool (sS23 6), .slice (sA23 6) (sN23 6) (sC23 6), .bool (sS23 7), .slice (sA23 7) (sN23 7) (sC23 7), .bool (sS23 8), .slice (sA23 8) (sN23 8) (sC23 8), .bool (sS23 9), .slice (sA23 9) (sN23 9) (sC23 9), .bool (sS23 10), .slice (sA23 10) (sN23 10) (sC23 10), .bool (sS23 11), .slice (sA23 11) (sN23 11) (sC23 11), .bool (sS23 12), .slice (sA23 12) (sN23 12) (sC23 12), .bool (sS23 13), .slice (sA23 13) (sN23 13) (sC23 13), .bool (sS23 14), .slice (sA23 14) (sN23 14) (sC23 14), .bool (sS23 15), .slice (sA23 15) (sN23 15) (sC23 15), .bool (sS23 16), .slice (sA23 16) (sN23 16) (sC23 16), .bool (sS23 17), .slice (sA23 17) (sN23 17) (sC23 17), .bool (sS23 18), .slice (sA23 18) (sN23 18) (sC23 18)] 52)) = w4 at hS ⊢
  generalize w3.heap.size = g7 at hS o7 ⊢
  refine (VB.q (hV0.ext hS.ext)).mono ?_
  rintro e w5 ⟨rfl, hx_⟩
  replace hS := hS.mv hx_
  clear hx_
  have k_9 := (hS.blk 3 rfl).cell
  go_wp2_with fail
  clear k_9
  refine (VB.q (hV1.ext hS.ext)).mono ?_
  rintro e w6 ⟨rfl, hx_⟩
  replace hS := hS.mv hx_
  clear hx_
  go_wp2_with fail
  refine (lxknown_ok _ (tab_ext hTab hS.ext)).mono ?_
  rintro e w7 ⟨rfl, hx_⟩
  replace hS := hS.mv hx_
  clear hx_
  go_wp2
  go_ret
  exact ⟨ret_bool (rfl), hS.ext⟩

set_option maxRecDepth 100000 in
set_option maxHeartbeats 3200000 in
theorem phases_bad2 (a9 : Bool) (aa : Option Addr) (a0 ab : Nat) (ac : Bool) (ad : Option Addr) (a1 ae : Nat) (af : Bool) (ag : Option Addr) (a2 ah : Nat) (ai : Bool) (aj : Option Addr) (a3 ak : Nat) (am : Bool) (an : Option Addr) (a4 ao : Nat) (ap : Bool) (aq : Option Addr) (a5 ar : Nat) (au : Bool) (av : Option Addr) (a6 aw : Nat) (ax : Bool) (ay : Option Addr) (a7 az : Nat) (aA : Bool) (aB : Option Addr) (a8 aC : Nat) (w : World) (hV0 : VB w (gv a9 aa a0 ab ac ad a1 ae af ag a2 ah) true) (hV1 : VB w (gv ai aj a3 ak am an a4 ao ap aq a5 ar) true) (hV2 : VB w (gv au av a6 aw ax ay a7 az aA aB a8 aC) false) (hTab : Tab w) (HL : Hid ([a0, a1, a2, a3, a4, a5, a6, a7, a8].all (fun n => decide (n ≤ 20)) = true))
      :
    Calls Tryz.prog 6 #[gv a9 aa a0 ab ac ad a1 ae af ag a2 ah, gv ai aj a3 ak am an a4 ao ap aq a5 ar, gv au av a6 aw ax ay a7 az aA aB a8 aC] w fun e w' => e = .returned (.bool true) ∧ Ext w w' := by
  have hS := St.start w
  have o3 : Own w w.heap.size := Own.of hS.ext (by simp)
  have o4 : Own w (w.heap.size + 1) := Own.of hS.ext (by simp)
  have o5 : Own w (w.heap.size + 2) := Own.of hS.ext (by simp)
  have aD := (St.al (St.al (St.al hS 26 #[.bool a9, .slice aa a0 ab, .bool ac, .slice ad a1 ae, .bool af, .slice ag a2 ah] (g := w.heap.size) (by simp)) 26 #[.bool ai, .slice aj a3 ak, .bool am, .slice an a4 ao, .bool ap, .slice aq a5 ar] (g := (w.heap.size + 1)) (by simp)) 26 #[.bool au, .slice av a6 aw, .bool ax, .slice ay a7 az, .bool aA, .slice aB a8 aC] (g := (w.heap.size + 2)) (by simp))
  have k_1 := (aD.blk 2 rfl).cell
  have k_2 := (aD.blk 1 rfl).cell
  have k_3 := (aD.blk 0 rfl).cell
  have o15 : Own w (w.heap.size + 3) := Own.of hS.ext (by simp)
  go_enter Tryz.func6, Tryz.ntmps6
  go_wp2_with fail
  clear k_1 k_2 k_3
  clear aD
  replace hS := (St.al (St.al (St.al (St.al hS 26 #[.bool a9, .slice aa a0 ab, .bool ac, .slice ad a1 ae, .bool af, .slice ag a2 ah] (g := w.heap.size) (by simp)) 26 #[.bool ai, .slice aj a3 ak, .bool am, .slice an a4 ao, .bool ap, .slice aq a5 ar] (g := (w.heap.size + 1)) (by simp)) 26 #[.bool au, .slice av a6 aw, .bool ax, .slice ay a7 az, .bool aA, .slice aB a8 aC] (g := (w.heap.size + 2)) (by simp)) 26 #[.bool a9, .slice aa a0 ab, .bool ac, .slice ad a1 ae, .bool af, .slice ag a2 ah, .bool ai, .slice aj a3 ak, .bool am, .slice an a4 ao, .bool ap, .slice aq a5 ar, .bool au, .slice av a6 aw, .bool ax, .slice ay a7 az, .bool aA, .slice aB a8 aC] (g := (w.heap.size + 3)) (by simp))
  generalize ((((w.alloc (.cells #[.bool a9, .slice aa a0 ab, .bool ac, .slice ad a1 ae, .bool af, .slice ag a2 ah] 26)).alloc (.cells #[.bool ai, .slice aj a3 ak, .bool am, .slice an a4 ao, .bool ap, .slice aq a5 ar] 26)).alloc (.cells #[.bool au, .slice av a6 aw, .bool ax, .slice ay a7 az, .bool aA, .slice aB a8 aC] 26)).alloc (.cells #[.bool a9, .slice aa a0 ab, .bool ac, .slice ad a1 ae, .bool af, .slice ag a2 ah, .bool ai, .slice aj a3 ak, .bool am, .slice an a4 ao, .bool ap, .slice aq a5 ar, .bool au, .slice av a6 aw, .bool ax, .slice ay a7 az, .bool aA, .slice aB a8 aC] 26)) = w1 at hS ⊢
  generalize w.heap.size + 3 = g15 at hS o15 ⊢
  generalize w.heap.size + 2 = g5 at hS o5 ⊢
  generalize w.heap.size + 1 = g4 at hS o4 ⊢
  generalize w.heap.size = g3 at hS o3 ⊢
  refine (low3_raw g15 20 true _ (hS.blk 0 rfl) HL.out).mono ?_
  rintro e w2 ⟨rfl, hx_⟩
  replace hS := hS.mv hx_
  clear hx_
  have k_4 := (hS.blk 3 rfl).cell
  have k_5 := (hS.blk 2 rfl).cell
  have k_6 := (hS.blk 1 rfl).cell
  go_wp2_with fail
  clear k_4 k_5 k_6
  refine (xPhases_bad a9 aa a0 ab ac ad a1 ae af ag a2 ah true ai aj a3 ak am an a4 ao ap aq a5 ar true au av a6 aw ax ay a7 az aA aB a8 aC false _ (hV0.ext hS.ext) (hV1.ext hS.ext) (hV2.ext hS.ext) (Lib.hid rfl)).mono ?_
  rintro e w3 ⟨v_, rfl, hv_, hx_⟩
  replace hS := hS.mv hx_
  clear hx_
  obtain ⟨_, rfl, sS23, sA23, sN23, sC23, rfl, f_sS23_1, f_sS23_2, f_sS23_3, f_sS23_4, f_sS23_5, f_sS23_6, f_sS23_7, f_sS23_8, f_sS23_9, f_sS23_10, f_sS23_11, f_sS23_12, f_sS23_13, f_sS23_14, f_sS23_15, f_sS23_16, f_sS23_17, f_sS23_18⟩ := hv_
  replace hS := hS.addI f_sS23_1
  clear f_sS23_1
  replace hS := hS.addI f_sS23_2
  clear f_sS23_2
  replace hS := hS.addI f_sS23_3
  clear f_sS23_3
  replace hS := hS.addI f_sS23_4
  clear f_sS23_4
  replace hS := hS.addI f_sS23_5
  clear f_sS23_5
  replace hS := hS.addI f_sS23_6
  clear f_sS23_6
  replace hS := hS.addI f_sS23_7
  clear f_sS23_7
  replace hS := hS.addI f_sS23_8
  clear f_sS23_8
  replace hS := hS.addI f_sS23_9
  clear f_sS23_9
  replace hS := hS.addI f_sS23_10
  clear f_sS23_10
  replace hS := hS.addI f_sS23_11
  clear f_sS23_11
  replace hS := hS.addI f_sS23_12
  clear f_sS23_12
  replace hS := hS.addI f_sS23_13
  clear f_sS23_13
  replace hS := hS.addI f_sS23_14
  clear f_sS23_14
  replace hS := hS.addI f_sS23_15
  clear f_sS23_15
  replace hS := hS.addI f_sS23_16
  clear f_sS23_16
  replace hS := hS.addI f_sS23_17
  clear f_sS23_17
  replace hS := hS.addI f_sS23_18
  clear f_sS23_18
  have o7 : Own w w3.heap.size := Own.of hS.ext (by simp)
  have aE := (St.al hS 52 #[.bool false, .slice none 0 0, .bool false, .slice none 0 0, .bool false, .slice none 0 0, .bool false, .slice none 0 0, .bool false, .slice none 0 0, .bool false, .slice none 0 0, .bool false, .slice none 0 0, .bool false, .slice none 0 0, .bool false, .slice none 0 0, .bool false, .slice none 0 0, .bool false, .slice none 0 0, .bool false, .slice none 0 0, .bool false, .slice none 0 0, .bool false, .slice none 0 0, .bool false, .slice none 0 0, .bool false, .slice none 0 0, .bool false, .slice none 0 0, .bool false, .slice none 0 0] (g := w3.heap.size) (by simp))
  have aH := Lib.hid (aE.blk 0 rfl)
  have aF := (St.al hS 52 #[.bool (sS23 1), .slice (sA23 1) (sN23 1) (sC23 1), .bool (sS23 2), .slice (sA23 2) (sN23 2) (sC23 2), .bool (sS23 3), .slice (sA23 3) (sN23 3) (sC23 3), .bool (sS23 4), .slice (sA23 4) (sN23 4) (sC23 4), .bool (sS23 5), .slice (sA23 5) (sN23 5) (sC23 5), .bool (sS23 6), .slice (sA23 6) (sN23 6) (sC23 6), .bool (sS23 7), .slice (sA23 7) (sN23 7) (sC23 7), .bool (sS23 8), .slice (sA23 8) (sN23 8) (sC23 8), .bool (sS23 9), .slice (sA23 9) (sN23 9) (sC23 9), .bool (sS23 10), .slice (sA23 10) (sN23 10) (sC23 10), .bool (sS23 11), .slice (sA23 11) (sN23 11) (sC23 11), .bool (sS23 12), .slice (sA23 12) (sN23 12) (sC23 12), .bool (sS23 13), .slice (sA23 13) (sN23 13) (sC23 13), .bool (sS23 14), .slice (sA23 14) (sN23 14) (sC23 14), .bool (sS23 15), .slice (sA23 15) (sN23 15) (sC23 15), .bool (sS23 16), .slice (sA23 16) (sN23 16) (sC23 16), .bool (sS23 17), .slice (sA23 17) (sN23 17) (sC23 17), .bool (sS23 18), .slice (sA23 18) (sN23 18) (sC23 18)] (g := w3.heap.size) (by simp))
  have k_8 := (aF.blk 4 rfl).cell
  have HhT2 := Lib.hid aE ; have HhT3 := Lib.hid aF; clear aE aF
  go_wp2_with (first | (refine wpList_store_row rfl 52 _ _ rfl w3.heap.size _ (by rfl) (by rfl) 52 _ aH.out (a3_sz rfl) (by rfl) (by kernel_rfl) ?_; rw [World.setRow_alloc_new]))
  clear aH k_8 HhT2 HhT3
  replace hS := (St.al hS 52 #[.bool (sS23 1), .slice (sA23 1) (sN23 1) (sC23 1), .bool (sS23 2), .slice (sA23 2) (sN23 2) (sC23 2), .bool (sS23 3), .slice (sA23 3) (sN23 3) (sC23 3), .bool (sS23 4), .slice (sA23 4) (sN23 4) (sC23 4), .bool (sS23 5), .slice (sA23 5) (sN23 5) (sC23 5), .bool (sS23 6), .slice (sA23 6) (sN23 6) (sC23 6), .bool (sS23 7), .slice (sA23 7) (sN23 7) (sC23 7), .bool (sS23 8), .slice (sA23 8) (sN23 8) (sC23 8), .bool (sS23 9), .slice (sA23 9) (sN23 9) (sC23 9), .bool (sS23 10), .slice (sA23 10) (sN23 10) (sC23 10), .bool (sS23 11), .slice (sA23 11) (sN23 11) (sC23 11), .bool (sS23 12), .slice (sA23 12) (sN23 12) (sC23 12), .bool (sS23 13), .slice (sA23 13) (sN23 13) (sC23 13), .bool (sS23 14), .slice (sA23 14) (sN23 14) (sC23 14), .bool (sS23 15), .slice (sA23 15) (sN23 15) (sC23 15), .bool (sS23 16), .slice (sA23 16) (sN23 16) (sC23 16), .bool (sS23 17), .slice (sA23 17) (sN23 17) (sC23 17), .bool (sS23 18), .slice (sA23 18) (sN23 18) (sC23 18)] (g := w3.heap.size) (by simp))
  generalize (w3.alloc (.cells #[.bool (sS23 1), .slice (sA23 1) (sN23 1) (sC23 1), .bool (sS23 2), .slice (sA23 2) (sN23 2) (sC23 2), .bool (sS23 3), .slice (sA23 3) (sN23 3) (sC23 3), .bool (sS23 4), .slice (sA23 4) (sN23 4) (sC23 4), .bool (sS23 5), .slice (sA23 5) (sN23 5) (sC23 5), .bool (sS23 6), .slice (sA23 6) (sN23 6) (sC23 6), .bool (sS23 7), .slice (sA23 7) (sN23 7) (sC23 7), .bool (sS23 8), .slice (sA23 8) (sN23 8) (sC23 8), .bool (sS23 9), .slice (sA23 9) (sN23 9) (sC23 9), .bool (sS23 10), .slice (sA23 10) (sN23 10) (sC23 10), .bool (sS23 11), .slice (sA23 11) (sN23 11) (sC23 11), .bool (sS23 12), .slice (sA23 12) (sN23 12) (sC23 12), .bool (sS23 13), .slice (sA23 13) (sN23 13) (sC23 13), .bool (sS23 14), .slice (sA23 14) (sN23 14) (sC23 14), .bool (sS23 15), .slice (sA23 15) (sN23 15) (sC23 15), .bool (sS23 16), .slice (sA23 16) (sN23 16) (sC23 16), .bool (sS23 17), .slice (sA23 17) (sN23 17) (sC23 17), .bool (sS23 18), .slice (sA23 18) (sN23 18) (sC23 18)] 52)) = w4 at hS ⊢
  generalize w3.heap.size = g7 at hS o7 ⊢
  refine (VB.q (hV0.ext hS.ext)).mono ?_
  rintro e w5 ⟨rfl, hx_⟩
  replace hS := hS.mv hx_
  clear hx_
  have k_9 := (hS.blk 3 rfl).cell
  go_wp2_with fail
  clear k_9
  refine (VB.q (hV1.ext hS.ext)).mono ?_
  rintro e w6 ⟨rfl, hx_⟩
  replace hS := hS.mv hx_
  clear hx_
  have aG := (hS.blk 2 rfl).cell
  go_wp2_with fail
  clear aG
  refine (VB.q (hV2.ext hS.ext)).mono ?_
  rintro e w7 ⟨rfl, hx_⟩
  replace hS := hS.mv hx_
  clear hx_
  go_wp2_with fail
  refine (lxknown_ok _ (tab_ext hTab hS.ext)).mono ?_
  rintro e w8 ⟨rfl, hx_⟩
  replace hS := hS.mv hx_
  clear hx_
  go_wp2
  go_ret
  exact ⟨ret_bool (rfl), hS.ext⟩

set_option maxRecDepth 100000 in
set_option maxHeartbeats 51200000 in
theorem phases_ok (v0 : Value) (q0 : GQ) (n0 : Nat) (v1 : Value) (q1 : GQ) (n1 : Nat) (v2 : Value) (q2 : GQ) (n2 : Nat) (w : World) (hX0 : GV w v0 q0 n0) (hX1 : GV w v1 q1 n1) (hX2 : GV w v2 q2 n2) (hn0 : n0 ≤ 640) (hn1 : n1 ≤ 640) (hn2 : n2 ≤ 640) (hm0 : 1 ≤ n0) (hm1 : 1 ≤ n1) (hm2 : 1 ≤ n2) (hTab : Tab w) (E1 : Hid (((ph0 q0 q1 q2) + ((ph1 q0 q1 q2) + (ph2 q0 q1 q2))) = (⟨(GQ.i (3) (0)) * q0, (GQ.i 0 0)⟩ : PQ)))
      :
    Calls Tryz.prog 6 #[v0, v1, v2] w fun e w' => e = .returned (.bool true) ∧ Ext w w' := by
  have hS := St.start w
  obtain ⟨x0a, x0b, x0d, hX0, I0, S0⟩ := hX0
  obtain ⟨c1, c2, bR, c3, c4, c5, bS, c6, c7, c8, bT, c9, rfl, d2, d3, d4⟩ := hX0
  replace hS := hS.addI d2
  clear d2
  replace hS := hS.addI d3
  clear d3
  replace hS := hS.addI d4
  clear d4
  obtain ⟨x1a, x1b, x1d, hX1, I1, S1⟩ := hX1
  obtain ⟨ca, cb, bU, cc, cd, ce, bV, cf, cg, ch, bW, ci, rfl, d5, d6, d7⟩ := hX1
  replace hS := hS.addI d5
  clear d5
  replace hS := hS.addI d6
  clear d6
  replace hS := hS.addI d7
  clear d7
  obtain ⟨x2a, x2b, x2d, hX2, I2, S2⟩ := hX2
  obtain ⟨cj, ck, bX, cl, cn, co, bY, cp, cq, cr, bZ, cs, rfl, d8, d9, da⟩ := hX2
  replace hS := hS.addI d8
  clear d8
  replace hS := hS.addI d9
  clear d9
  replace hS := hS.addI da
  clear da
  have HL : Hid ([bR, bS, bT, bU, bV, bW, bX, bY, bZ].all (fun n => decide (n ≤ 20)) = true) := Lib.hid (by simp only [List.all_cons, List.all_nil, Bool.and_true, Bool.and_eq_true, decide_eq_true_eq]; exact ⟨RI.low (k := 20) (hS.num 8 rfl) S0.a (by omega), RI.low (k := 20) (hS.num 7 rfl) S0.b (by omega), RI.low (k := 20) (hS.num 6 rfl) S0.d (by omega), RI.low (k := 20) (hS.num 5 rfl) S1.a (by omega), RI.low (k := 20) (hS.num 4 rfl) S1.b (by omega), RI.low (k := 20) (hS.num 3 rfl) S1.d (by omega), RI.low (k := 20) (hS.num 2 rfl) S2.a (by omega), RI.low (k := 20) (hS.num 1 rfl) S2.b (by omega), RI.low (k := 20) (hS.num 0 rfl) S2.d (by omega)⟩)
  have o3 : Own w w.heap.size := Own.of hS.ext (by simp)
  have o4 : Own w (w.heap.size + 1) := Own.of hS.ext (by simp)
  have o5 : Own w (w.heap.size + 2) := Own.of hS.ext (by simp)
  have df := (St.al (St.al (St.al hS 26 #[.bool c1, .slice c2 bR c3, .bool c4, .slice c5 bS c6, .bool c7, .slice c8 bT c9] (g := w.heap.size) (by simp)) 26 #[.bool ca, .slice cb bU cc, .bool cd, .slice ce bV cf, .bool cg, .slice ch bW ci] (g := (w.heap.size + 1)) (by simp)) 26 #[.bool cj, .slice ck bX cl, .bool cn, .slice co bY cp, .bool cq, .slice cr bZ cs] (g := (w.heap.size + 2)) (by simp))
  have k_1 := (df.blk 2 rfl).cell
  have k_2 := (df.blk 1 rfl).cell
  have k_3 := (df.blk 0 rfl).cell
  have o15 : Own w (w.heap.size + 3) := Own.of hS.ext (by simp)
  go_enter Tryz.func6, Tryz.ntmps6
  go_wp2_with fail
  clear k_1 k_2 k_3
  clear df
  replace hS := (St.al (St.al (St.al (St.al hS 26 #[.bool c1, .slice c2 bR c3, .bool c4, .slice c5 bS c6, .bool c7, .slice c8 bT c9] (g := w.heap.size) (by simp)) 26 #[.bool ca, .slice cb bU cc, .bool cd, .slice ce bV cf, .bool cg, .slice ch bW ci] (g := (w.heap.size + 1)) (by simp)) 26 #[.bool cj, .slice ck bX cl, .bool cn, .slice co bY cp, .bool cq, .slice cr bZ cs] (g := (w.heap.size + 2)) (by simp)) 26 #[.bool c1, .slice c2 bR c3, .bool c4, .slice c5 bS c6, .bool c7, .slice c8 bT c9, .bool ca, .slice cb bU cc, .bool cd, .slice ce bV cf, .bool cg, .slice ch bW ci, .bool cj, .slice ck bX cl, .bool cn, .slice co bY cp, .bool cq, .slice cr bZ cs] (g := (w.heap.size + 3)) (by simp))
  generalize ((((w.alloc (.cells #[.bool c1, .slice c2 bR c3, .bool c4, .slice c5 bS c6, .bool c7, .slice c8 bT c9] 26)).alloc (.cells #[.bool ca, .slice cb bU cc, .bool cd, .slice ce bV cf, .bool cg, .slice ch bW ci] 26)).alloc (.cells #[.bool cj, .slice ck bX cl, .bool cn, .slice co bY cp, .bool cq, .slice cr bZ cs] 26)).alloc (.cells #[.bool c1, .slice c2 bR c3, .bool c4, .slice c5 bS c6, .bool c7, .slice c8 bT c9, .bool ca, .slice cb bU cc, .bool cd, .slice ce bV cf, .bool cg, .slice ch bW ci, .bool cj, .slice ck bX cl, .bool cn, .slice co bY cp, .bool cq, .slice cr bZ cs] 26)) = w1 at hS ⊢
  generalize w.heap.size + 3 = g15 at hS o15 ⊢
  generalize w.heap.size + 2 = g5 at hS o5 ⊢
  generalize w.heap.size + 1 = g4 at hS o4 ⊢
  generalize w.heap.size = g3 at hS o3 ⊢
  refine (low3_raw g15 20 true _ (hS.blk 0 rfl) HL.out).mono ?_
  rintro e w2 ⟨rfl, hx_⟩
  replace hS := hS.mv hx_
  clear hx_
  have k_4 := (hS.blk 3 rfl).cell
  have k_5 := (hS.blk 2 rfl).cell
  have k_6 := (hS.blk 1 rfl).cell
  go_wp2_with fail
  clear k_4 k_5 k_6
  obtain ⟨dh, di, dj, I23_0⟩ := is_ex (ph0 q0 q1 q2).u
  have S23_0 : Sz (n0 + n1 + n2 + 200) dh di dj := (Bd.phs (n0 := n0) (n1 := n1) (n2 := n2) ⟨_, _, _, I0, S0⟩ ⟨_, _, _, I1, S1⟩ ⟨_, _, _, I2, S2⟩).1.sz I23_0
  obtain ⟨dk, dl, dm, I23_1⟩ := is_ex (ph0 q0 q1 q2).v
  have S23_1 : Sz (n0 + n1 + n2 + 200) dk dl dm := (Bd.phs (n0 := n0) (n1 := n1) (n2 := n2) ⟨_, _, _, I0, S0⟩ ⟨_, _, _, I1, S1⟩ ⟨_, _, _, I2, S2⟩).2.1.sz I23_1
  obtain ⟨dn, dp, dq, I23_2⟩ := is_ex (ph1 q0 q1 q2).u
  have S23_2 : Sz (n0 + n1 + n2 + 200) dn dp dq := (Bd.phs (n0 := n0) (n1 := n1) (n2 := n2) ⟨_, _, _, I0, S0⟩ ⟨_, _, _, I1, S1⟩ ⟨_, _, _, I2, S2⟩).2.2.1.sz I23_2
  obtain ⟨dr, ds, dt, I23_3⟩ := is_ex (ph1 q0 q1 q2).v
  have S23_3 : Sz (n0 + n1 + n2 + 200) dr ds dt := (Bd.phs (n0 := n0) (n1 := n1) (n2 := n2) ⟨_, _, _, I0, S0⟩ ⟨_, _, _, I1, S1⟩ ⟨_, _, _, I2, S2⟩).2.2.2.1.sz I23_3
  obtain ⟨du, dv, dw, I23_4⟩ := is_ex (ph2 q0 q1 q2).u
  have S23_4 : Sz (n0 + n1 + n2 + 200) du dv dw := (Bd.phs (n0 := n0) (n1 := n1) (n2 := n2) ⟨_, _, _, I0, S0⟩ ⟨_, _, _, I1, S1⟩ ⟨_, _, _, I2, S2⟩).2.2.2.2.1.sz I23_4
  obtain ⟨dx, dy, dz, I23_5⟩ := is_ex (ph2 q0 q1 q2).v
  have S23_5 : Sz (n0 + n1 + n2 + 200) dx dy dz := (Bd.phs (n0 := n0) (n1 := n1) (n2 := n2) ⟨_, _, _, I0, S0⟩ ⟨_, _, _, I1, S1⟩ ⟨_, _, _, I2, S2⟩).2.2.2.2.2.sz I23_5
  refine (toTA (xPhases_ok _ q0 (n0) _ q1 (n1) _ q2 (n2) _ ⟨_, _, _, RG.mk (hS.num 8 rfl) (hS.num 7 rfl) (hS.num 6 rfl), I0, S0⟩ ⟨_, _, _, RG.mk (hS.num 5 rfl) (hS.num 4 rfl) (hS.num 3 rfl), I1, S1⟩ ⟨_, _, _, RG.mk (hS.num 2 rfl) (hS.num 1 rfl) (hS.num 0 rfl), I2, S2⟩ (by omega)) I23_0 I23_1 I23_2 I23_3 I23_4 I23_5).mono ?_
  rintro e w3 ⟨v_, rfl, hv_, hx_⟩
  replace hS := hS.mv hx_
  clear hx_
  obtain ⟨_, rfl, sS23, sA23, sN23, sC23, rfl, f_sS23_1, f_sS23_2, f_sS23_3, f_sS23_4, f_sS23_5, f_sS23_6, f_sS23_7, f_sS23_8, f_sS23_9, f_sS23_10, f_sS23_11, f_sS23_12, f_sS23_13, f_sS23_14, f_sS23_15, f_sS23_16, f_sS23_17, f_sS23_18⟩ := hv_
  replace hS := hS.addI f_sS23_1
  clear f_sS23_1
  replace hS := hS.addI f_sS23_2
  clear f_sS23_2
  replace hS := hS.addI f_sS23_3
  clear f_sS23_3
  replace hS := hS.addI f_sS23_4
  clear f_sS23_4
  replace hS := hS.addI f_sS23_5
  clear f_sS23_5
  replace hS := hS.addI f_sS23_6
  clear f_sS23_6
  replace hS := hS.addI f_sS23_7
  clear f_sS23_7
  replace hS := hS.addI f_sS23_8
  clear f_sS23_8
  replace hS := hS.addI f_sS23_9
  clear f_sS23_9
  replace hS := hS.addI f_sS23_10
  clear f_sS23_10
  replace hS := hS.addI f_sS23_11
  clear f_sS23_11
  replace hS := hS.addI f_sS23_12
  clear f_sS23_12
  replace hS := hS.addI f_sS23_13
  clear f_sS23_13
  replace hS := hS.addI f_sS23_14
  clear f_sS23_14
  replace hS := hS.addI f_sS23_15
  clear f_sS23_15
  replace hS := hS.addI f_sS23_16
  clear f_sS23_16
  replace hS := hS.addI f_sS23_17
  clear f_sS23_17
  replace hS := hS.addI f_sS23_18
  clear f_sS23_18
  have o7 : Own w w3.heap.size := Own.of hS.ext (by simp)
  have dA := (St.al hS 52 #[.bool false, .slice none 0 0, .bool false, .slice none 0 0, .bool false, .slice none 0 0, .bool false, .slice none 0 0, .bool false, .slice none 0 0, .bool false, .slice none 0 0, .bool false, .slice none 0 0, .bool false, .slice none 0 0, .bool false, .slice none 0 0, .bool false, .slice none 0 0, .bool false, .slice none 0 0, .bool false, .slice none 0 0, .bool false, .slice none 0 0, .bool false, .slice none 0 0, .bool false, .slice none 0 0, .bool false, .slice none 0 0, .bool false, .slice none 0 0, .bool false, .slice none 0 0] (g := w3.heap.size) (by simp))
  have e4 := Lib.hid (dA.blk 0 rfl)
  have dB := (St.al hS 52 #[.bool (sS23 1), .slice (sA23 1) (sN23 1) (sC23 1), .bool (sS23 2), .slice (sA23 2) (sN23 2) (sC23 2), .bool (sS23 3), .slice (sA23 3) (sN23 3) (sC23 3), .bool (sS23 4), .slice (sA23 4) (sN23 4) (sC23 4), .bool (sS23 5), .slice (sA23 5) (sN23 5) (sC23 5), .bool (sS23 6), .slice (sA23 6) (sN23 6) (sC23 6), .bool (sS23 7), .slice (sA23 7) (sN23 7) (sC23 7), .bool (sS23 8), .slice (sA23 8) (sN23 8) (sC23 8), .bool (sS23 9), .slice (sA23 9) (sN23 9) (sC23 9), .bool (sS23 10), .slice (sA23 10) (sN23 10) (sC23 10), .bool (sS23 11), .slice (sA23 11) (sN23 11) (sC23 11), .bool (sS23 12), .slice (sA23 12) (sN23 12) (sC23 12), .bool (sS23 13), .slice (sA23 13) (sN23 13) (sC23 13), .bool (sS23 14), .slice (sA23 14) (sN23 14) (sC23 14), .bool (sS23 15), .slice (sA23 15) (sN23 15) (sC23 15), .bool (sS23 16), .slice (sA23 16) (sN23 16) (sC23 16), .bool (sS23 17), .slice (sA23 17) (sN23 17) (sC23 17), .bool (sS23 18), .slice (sA23 18) (sN23 18) (sC23 18)] (g := w3.heap.size) (by simp))
  have k_8 := (dB.blk 4 rfl).cell
  have HhT2 := Lib.hid dA ; have HhT3 := Lib.hid dB; clear dA dB
  go_wp2_with (first | (refine wpList_store_row rfl 52 _ _ rfl w3.heap.size _ (by rfl) (by rfl) 52 _ e4.out (a3_sz rfl) (by rfl) (by kernel_rfl) ?_; rw [World.setRow_alloc_new]))
  clear e4 k_8 HhT2 HhT3
  replace hS := (St.al hS 52 #[.bool (sS23 1), .slice (sA23 1) (sN23 1) (sC23 1), .bool (sS23 2), .slice (sA23 2) (sN23 2) (sC23 2), .bool (sS23 3), .slice (sA23 3) (sN23 3) (sC23 3), .bool (sS23 4), .slice (sA23 4) (sN23 4) (sC23 4), .bool (sS23 5), .slice (sA23 5) (sN23 5) (sC23 5), .bool (sS23 6), .slice (sA23 6) (sN23 6) (sC23 6), .bool (sS23 7), .slice (sA23 7) (sN23 7) (sC23 7), .bool (sS23 8), .slice (sA23 8) (sN23 8) (sC23 8), .bool (sS23 9), .slice (sA23 9) (sN23 9) (sC23 9), .bool (sS23 10), .slice (sA23 10) (sN23 10) (sC23 10), .bool (sS23 11), .slice (sA23 11) (sN23 11) (sC23 11), .bool (sS23 12), .slice (sA23 12) (sN23 12) (sC23 12), .bool (sS23 13), .slice (sA23 13) (sN23 13) (sC23 13), .bool (sS23 14), .slice (sA23 14) (sN23 14) (sC23 14), .bool (sS23 15), .slice (sA23 15) (sN23 15) (sC23 15), .bool (sS23 16), .slice (sA23 16) (sN23 16) (sC23 16), .bool (sS23 17), .slice (sA23 17) (sN23 17) (sC23 17), .bool (sS23 18), .slice (sA23 18) (sN23 18) (sC23 18)] (g := w3.heap.size) (by simp))
  generalize (w3.alloc (.cells #[.bool (sS23 1), .slice (sA23 1) (sN23 1) (sC23 1), .bool (sS23 2), .slice (sA23 2) (sN23 2) (sC23 2), .bool (sS23 3), .slice (sA23 3) (sN23 3) (sC23 3), .bool (sS23 4), .slice (sA23 4) (sN23 4) (sC23 4), .bool (sS23 5), .slice (sA23 5) (sN23 5) (sC23 5), .bool (sS23 6), .slice (sA23 6) (sN23 6) (sC23 6), .bool (sS23 7), .slice (sA23 7) (sN23 7) (sC23 7), .bool (sS23 8), .slice (sA23 8) (sN23 8) (sC23 8), .bool (sS23 9), .slice (sA23 9) (sN23 9) (sC23 9), .bool (sS23 10), .slice (sA23 10) (sN23 10) (sC23 10), .bool (sS23 11), .slice (sA23 11) (sN23 11) (sC23 11), .bool (sS23 12), .slice (sA23 12) (sN23 12) (sC23 12), .bool (sS23 13), .slice (sA23 13) (sN23 13) (sC23 13), .bool (sS23 14), .slice (sA23 14) (sN23 14) (sC23 14), .bool (sS23 15), .slice (sA23 15) (sN23 15) (sC23 15), .bool (sS23 16), .slice (sA23 16) (sN23 16) (sC23 16), .bool (sS23 17), .slice (sA23 17) (sN23 17) (sC23 17), .bool (sS23 18), .slice (sA23 18) (sN23 18) (sC23 18)] 52)) = w4 at hS ⊢
  generalize w3.heap.size = g7 at hS o7 ⊢
  refine (qValid_gv _ q0 (n0) _ ⟨_, _, _, RG.mk (hS.num 26 rfl) (hS.num 25 rfl) (hS.num 24 rfl), I0, S0⟩ (by omega)).mono ?_
  rintro e w5 ⟨rfl, hx_⟩
  replace hS := hS.mv hx_
  clear hx_
  have k_9 := (hS.blk 3 rfl).cell
  go_wp2_with fail
  clear k_9
  refine (qValid_gv _ q1 (n1) _ ⟨_, _, _, RG.mk (hS.num 23 rfl) (hS.num 22 rfl) (hS.num 21 rfl), I1, S1⟩ (by omega)).mono ?_
  rintro e w6 ⟨rfl, hx_⟩
  replace hS := hS.mv hx_
  clear hx_
  have dC := (hS.blk 2 rfl).cell
  go_wp2_with fail
  clear dC
  refine (qValid_gv _ q2 (n2) _ ⟨_, _, _, RG.mk (hS.num 20 rfl) (hS.num 19 rfl) (hS.num 18 rfl), I2, S2⟩ (by omega)).mono ?_
  rintro e w7 ⟨rfl, hx_⟩
  replace hS := hS.mv hx_
  clear hx_
  have dD := (hS.blk 4 rfl).cell
  have dE := (hS.blk 3 rfl).cell
  have dF := (hS.blk 2 rfl).cell
  go_wp2_with fail
  clear dD dE dF
  obtain ⟨dG, dH, dI, I47_0⟩ := is_ex (ph0 q0 q1 q2).u
  have S47_0 : Sz (n0 + n1 + n2 + 200) dG dH dI := (Bd.phs (n0 := n0) (n1 := n1) (n2 := n2) ⟨_, _, _, I0, S0⟩ ⟨_, _, _, I1, S1⟩ ⟨_, _, _, I2, S2⟩).1.sz I47_0
  obtain ⟨dJ, dK, dL, I47_1⟩ := is_ex (ph0 q0 q1 q2).v
  have S47_1 : Sz (n0 + n1 + n2 + 200) dJ dK dL := (Bd.phs (n0 := n0) (n1 := n1) (n2 := n2) ⟨_, _, _, I0, S0⟩ ⟨_, _, _, I1, S1⟩ ⟨_, _, _, I2, S2⟩).2.1.sz I47_1
  obtain ⟨dM, dN, dO, I47_2⟩ := is_ex (ph1 q0 q1 q2).u
  have S47_2 : Sz (n0 + n1 + n2 + 200) dM dN dO := (Bd.phs (n0 := n0) (n1 := n1) (n2 := n2) ⟨_, _, _, I0, S0⟩ ⟨_, _, _, I1, S1⟩ ⟨_, _, _, I2, S2⟩).2.2.1.sz I47_2
  obtain ⟨dP, dQ, dR, I47_3⟩ := is_ex (ph1 q0 q1 q2).v
  have S47_3 : Sz (n0 + n1 + n2 + 200) dP dQ dR := (Bd.phs (n0 := n0) (n1 := n1) (n2 := n2) ⟨_, _, _, I0, S0⟩ ⟨_, _, _, I1, S1⟩ ⟨_, _, _, I2, S2⟩).2.2.2.1.sz I47_3
  obtain ⟨dS, dT, dU, I47_4⟩ := is_ex (ph2 q0 q1 q2).u
  have S47_4 : Sz (n0 + n1 + n2 + 200) dS dT dU := (Bd.phs (n0 := n0) (n1 := n1) (n2 := n2) ⟨_, _, _, I0, S0⟩ ⟨_, _, _, I1, S1⟩ ⟨_, _, _, I2, S2⟩).2.2.2.2.1.sz I47_4
  obtain ⟨dV, dW, dX, I47_5⟩ := is_ex (ph2 q0 q1 q2).v
  have S47_5 : Sz (n0 + n1 + n2 + 200) dV dW dX := (Bd.phs (n0 := n0) (n1 := n1) (n2 := n2) ⟨_, _, _, I0, S0⟩ ⟨_, _, _, I1, S1⟩ ⟨_, _, _, I2, S2⟩).2.2.2.2.2.sz I47_5
  refine (toA (qPhases_ok _ q0 (n0) _ q1 (n1) _ q2 (n2) _ ⟨_, _, _, RG.mk (hS.num 26 rfl) (hS.num 25 rfl) (hS.num 24 rfl), I0, S0⟩ ⟨_, _, _, RG.mk (hS.num 23 rfl) (hS.num 22 rfl) (hS.num 21 rfl), I1, S1⟩ ⟨_, _, _, RG.mk (hS.num 20 rfl) (hS.num 19 rfl) (hS.num 18 rfl), I2, S2⟩ (by omega) (by omega) (by omega) (by omega)) I47_0 I47_1 I47_2 I47_3 I47_4 I47_5).mono ?_
  rintro e w8 ⟨v_, rfl, hv_, hx_⟩
  replace hS := hS.mv hx_
  clear hx_
  obtain ⟨sS47, sA47, sN47, sC47, rfl, f_sS47_1, f_sS47_2, f_sS47_3, f_sS47_4, f_sS47_5, f_sS47_6, f_sS47_7, f_sS47_8, f_sS47_9, f_sS47_10, f_sS47_11, f_sS47_12, f_sS47_13, f_sS47_14, f_sS47_15, f_sS47_16, f_sS47_17, f_sS47_18⟩ := hv_
  replace hS := hS.addI f_sS47_1
  clear f_sS47_1
  replace hS := hS.addI f_sS47_2
  clear f_sS47_2
  replace hS := hS.addI f_sS47_3
  clear f_sS47_3
  replace hS := hS.addI f_sS47_4
  clear f_sS47_4
  replace hS := hS.addI f_sS47_5
  clear f_sS47_5
  replace hS := hS.addI f_sS47_6
  clear f_sS47_6
  replace hS := hS.addI f_sS47_7
  clear f_sS47_7
  replace hS := hS.addI f_sS47_8
  clear f_sS47_8
  replace hS := hS.addI f_sS47_9
  clear f_sS47_9
  replace hS := hS.addI f_sS47_10
  clear f_sS47_10
  replace hS := hS.addI f_sS47_11
  clear f_sS47_11
  replace hS := hS.addI f_sS47_12
  clear f_sS47_12
  replace hS := hS.addI f_sS47_13
  clear f_sS47_13
  replace hS := hS.addI f_sS47_14
  clear f_sS47_14
  replace hS := hS.addI f_sS47_15
  clear f_sS47_15
  replace hS := hS.addI f_sS47_16
  clear f_sS47_16
  replace hS := hS.addI f_sS47_17
  clear f_sS47_17
  replace hS := hS.addI f_sS47_18
  clear f_sS47_18
  have o9 : Own w w8.heap.size := Own.of hS.ext (by simp)
  have dY := (St.al hS 52 #[.bool false, .slice none 0 0, .bool false, .slice none 0 0, .bool false, .slice none 0 0, .bool false, .slice none 0 0, .bool false, .slice none 0 0, .bool false, .slice none 0 0, .bool false, .slice none 0 0, .bool false, .slice none 0 0, .bool false, .slice none 0 0, .bool false, .slice none 0 0, .bool false, .slice none 0 0, .bool false, .slice none 0 0, .bool false, .slice none 0 0, .bool false, .slice none 0 0, .bool false, .slice none 0 0, .bool false, .slice none 0 0, .bool false, .slice none 0 0, .bool false, .slice none 0 0] (g := w8.heap.size) (by simp))
  have db := Lib.hid (dY.blk 0 rfl)
  have HhT4 := Lib.hid dY; clear dY
  go_wp2_with (first | (refine wpList_store_row rfl 52 _ _ rfl w8.heap.size _ (by rfl) (by rfl) 52 _ db.out (a3_sz rfl) (by rfl) (by kernel_rfl) ?_; rw [World.setRow_alloc_new]))
  clear db HhT4
  replace hS := (St.al hS 52 #[.bool (sS47 1), .slice (sA47 1) (sN47 1) (sC47 1), .bool (sS47 2), .slice (sA47 2) (sN47 2) (sC47 2), .bool (sS47 3), .slice (sA47 3) (sN47 3) (sC47 3), .bool (sS47 4), .slice (sA47 4) (sN47 4) (sC47 4), .bool (sS47 5), .slice (sA47 5) (sN47 5) (sC47 5), .bool (sS47 6), .slice (sA47 6) (sN47 6) (sC47 6), .bool (sS47 7), .slice (sA47 7) (sN47 7) (sC47 7), .bool (sS47 8), .slice (sA47 8) (sN47 8) (sC47 8), .bool (sS47 9), .slice (sA47 9) (sN47 9) (sC47 9), .bool (sS47 10), .slice (sA47 10) (sN47 10) (sC47 10), .bool (sS47 11), .slice (sA47 11) (sN47 11) (sC47 11), .bool (sS47 12), .slice (sA47 12) (sN47 12) (sC47 12), .bool (sS47 13), .slice (sA47 13) (sN47 13) (sC47 13), .bool (sS47 14), .slice (sA47 14) (sN47 14) (sC47 14), .bool (sS47 15), .slice (sA47 15) (sN47 15) (sC47 15), .bool (sS47 16), .slice (sA47 16) (sN47 16) (sC47 16), .bool (sS47 17), .slice (sA47 17) (sN47 17) (sC47 17), .bool (sS47 18), .slice (sA47 18) (sN47 18) (sC47 18)] (g := w8.heap.size) (by simp))
  generalize (w8.alloc (.cells #[.bool (sS47 1), .slice (sA47 1) (sN47 1) (sC47 1), .bool (sS47 2), .slice (sA47 2) (sN47 2) (sC47 2), .bool (sS47 3), .slice (sA47 3) (sN47 3) (sC47 3), .bool (sS47 4), .slice (sA47 4) (sN47 4) (sC47 4), .bool (sS47 5), .slice (sA47 5) (sN47 5) (sC47 5), .bool (sS47 6), .slice (sA47 6) (sN47 6) (sC47 6), .bool (sS47 7), .slice (sA47 7) (sN47 7) (sC47 7), .bool (sS47 8), .slice (sA47 8) (sN47 8) (sC47 8), .bool (sS47 9), .slice (sA47 9) (sN47 9) (sC47 9), .bool (sS47 10), .slice (sA47 10) (sN47 10) (sC47 10), .bool (sS47 11), .slice (sA47 11) (sN47 11) (sC47 11), .bool (sS47 12), .slice (sA47 12) (sN47 12) (sC47 12), .bool (sS47 13), .slice (sA47 13) (sN47 13) (sC47 13), .bool (sS47 14), .slice (sA47 14) (sN47 14) (sC47 14), .bool (sS47 15), .slice (sA47 15) (sN47 15) (sC47 15), .bool (sS47 16), .slice (sA47 16) (sN47 16) (sC47 16), .bool (sS47 17), .slice (sA47 17) (sN47 17) (sC47 17), .bool (sS47 18), .slice (sA47 18) (sN47 18) (sC47 18)] 52)) = w9 at hS ⊢
  generalize w8.heap.size = g9 at hS o9 ⊢
  refine wp_loop_rounds 4 ?_
  rw [rounds_succ]
  go_wp2_with fail
  have Y9 := ExtOf.blk (hS.blk 0 rfl)
  have Y7 := ExtOf.blk (hS.blk 1 rfl)
  have hE_ := hS.ext
  refine wp_region_tame 7 (hasF [(6, .any)]) (Fcs [(6, .eq (.bool true))]) (Fcs_stab _) (by kernel_rfl) (by kernel_rfl) ?_
  simp only [tk1, tk0, dp1, dp0]
  refine wpT_quiet 6 (by rfl) (by kernel_rfl) ?_
  simp only [tk1, tk0, dp1, dp0]
  repeat (go_big_quiet_step (fail))
  refine wpQuiet_nil ?_
  refine wpT_eff (by rfl) (by rfl) (by rfl) ?_ ?_
  · intro W_ hK
    have hW := hK.1
    clear hK
    go_simp
    exact ⟨rfl, (qSamePhasor_q _ _ (ph0 q0 q1 q2) (ph0 q0 q1 q2) (n0 + n1 + n2 + 200) (n0 + n1 + n2 + 200) _ ⟨_, _, _, _, _, _, RP.mk (RI.ext (hS.num 35 rfl) hW) (RI.ext (hS.num 34 rfl) hW) (RI.ext (hS.num 33 rfl) hW) (RI.ext (hS.num 32 rfl) hW) (RI.ext (hS.num 31 rfl) hW) (RI.ext (hS.num 30 rfl) hW), I23_0, S23_0, I23_1, S23_1⟩ ⟨_, _, _, _, _, _, RP.mk (RI.ext (hS.num 17 rfl) hW) (RI.ext (hS.num 16 rfl) hW) (RI.ext (hS.num 15 rfl) hW) (RI.ext (hS.num 14 rfl) hW) (RI.ext (hS.num 13 rfl) hW) (RI.ext (hS.num 12 rfl) hW), I47_0, S47_0, I47_1, S47_1⟩ rfl).mono fun e w' ⟨he, hx⟩ => ⟨_, he, hx, rfl⟩⟩
  intro v_ lo57r0 hi57r0 hr_
  obtain ⟨W_, hW_⟩ := hr_
  obtain rfl : v_ = .bool true := hW_.get
  clear hW_ W_
  try simp only [Act.put, sa0, sa1, sa2]
  refine wpT_nil ?_
  intro w10 hK
  have hlt_ := hS.lt
  replace hS := hS.mv hK.ext
  clear hK hlt_ hE_ Y9 Y7
  go_wp2_with fail
  rw [rounds_succ]
  go_wp2_with fail
  have Y9 := ExtOf.blk (hS.blk 0 rfl)
  have Y7 := ExtOf.blk (hS.blk 1 rfl)
  have hE_ := hS.ext
  refine wp_region_tame 7 (hasF [(6, .any)]) (Fcs [(6, .eq (.bool true))]) (Fcs_stab _) (by kernel_rfl) (by kernel_rfl) ?_
  simp only [tk1, tk0, dp1, dp0]
  refine wpT_quiet 6 (by rfl) (by kernel_rfl) ?_
  simp only [tk1, tk0, dp1, dp0]
  repeat (go_big_quiet_step (fail))
  refine wpQuiet_nil ?_
  refine wpT_eff (by rfl) (by rfl) (by rfl) ?_ ?_
  · intro W_ hK
    have hW := hK.1
    clear hK
    go_simp
    exact ⟨rfl, (qSamePhasor_q _ _ (ph1 q0 q1 q2) (ph1 q0 q1 q2) (n0 + n1 + n2 + 200) (n0 + n1 + n2 + 200) _ ⟨_, _, _, _, _, _, RP.mk (RI.ext (hS.num 29 rfl) hW) (RI.ext (hS.num 28 rfl) hW) (RI.ext (hS.num 27 rfl) hW) (RI.ext (hS.num 26 rfl) hW) (RI.ext (hS.num 25 rfl) hW) (RI.ext (hS.num 24 rfl) hW), I23_2, S23_2, I23_3, S23_3⟩ ⟨_, _, _, _, _, _, RP.mk (RI.ext (hS.num 11 rfl) hW) (RI.ext (hS.num 10 rfl) hW) (RI.ext (hS.num 9 rfl) hW) (RI.ext (hS.num 8 rfl) hW) (RI.ext (hS.num 7 rfl) hW) (RI.ext (hS.num 6 rfl) hW), I47_2, S47_2, I47_3, S47_3⟩ rfl).mono fun e w' ⟨he, hx⟩ => ⟨_, he, hx, rfl⟩⟩
  intro v_ lo57r1 hi57r1 hr_
  obtain ⟨W_, hW_⟩ := hr_
  obtain rfl : v_ = .bool true := hW_.get
  clear hW_ W_
  try simp only [Act.put, sa0, sa1, sa2]
  refine wpT_nil ?_
  intro w11 hK
  have hlt_ := hS.lt
  replace hS := hS.mv hK.ext
  clear hK hlt_ hE_ Y9 Y7
  go_wp2_with fail
  rw [rounds_succ]
  go_wp2_with fail
  have Y9 := ExtOf.blk (hS.blk 0 rfl)
  have Y7 := ExtOf.blk (hS.blk 1 rfl)
  have hE_ := hS.ext
  refine wp_region_tame 7 (hasF [(6, .any)]) (Fcs [(6, .eq (.bool true))]) (Fcs_stab _) (by kernel_rfl) (by kernel_rfl) ?_
  simp only [tk1, tk0, dp1, dp0]
  refine wpT_quiet 6 (by rfl) (by kernel_rfl) ?_
  simp only [tk1, tk0, dp1, dp0]
  repeat (go_big_quiet_step (fail))
  refine wpQuiet_nil ?_
  refine wpT_eff (by rfl) (by rfl) (by rfl) ?_ ?_
  · intro W_ hK
    have hW := hK.1
    clear hK
    go_simp
    exact ⟨rfl, (qSamePhasor_q _ _ (ph2 q0 q1 q2) (ph2 q0 q1 q2) (n0 + n1 + n2 + 200) (n0 + n1 + n2 + 200) _ ⟨_, _, _, _, _, _, RP.mk (RI.ext (hS.num 23 rfl) hW) (RI.ext (hS.num 22 rfl) hW) (RI.ext (hS.num 21 rfl) hW) (RI.ext (hS.num 20 rfl) hW) (RI.ext (hS.num 19 rfl) hW) (RI.ext (hS.num 18 rfl) hW), I23_4, S23_4, I23_5, S23_5⟩ ⟨_, _, _, _, _, _, RP.mk (RI.ext (hS.num 5 rfl) hW) (RI.ext (hS.num 4 rfl) hW) (RI.ext (hS.num 3 rfl) hW) (RI.ext (hS.num 2 rfl) hW) (RI.ext (hS.num 1 rfl) hW) (RI.ext (hS.num 0 rfl) hW), I47_4, S47_4, I47_5, S47_5⟩ rfl).mono fun e w' ⟨he, hx⟩ => ⟨_, he, hx, rfl⟩⟩
  intro v_ lo57r2 hi57r2 hr_
  obtain ⟨W_, hW_⟩ := hr_
  obtain rfl : v_ = .bool true := hW_.get
  clear hW_ W_
  try simp only [Act.put, sa0, sa1, sa2]
  refine wpT_nil ?_
  intro w12 hK
  have hlt_ := hS.lt
  replace hS := hS.mv hK.ext
  clear hK hlt_ hE_ Y9 Y7
  go_wp2_with fail
  rw [rounds_succ]
  go_wp2_with fail
  obtain ⟨ct, cu, cv, cz⟩ := is_ex (((ph1 q0 q1 q2) + (ph2 q0 q1 q2))).u
  obtain ⟨cw, cx, cy, cA⟩ := is_ex (((ph1 q0 q1 q2) + (ph2 q0 q1 q2))).v
  have dc : Sz ((n0 + n1 + n2 + 200) + (n0 + n1 + n2 + 200) + 1) ct cu cv := (Bd.mono (Bd.add (x := (ph1 q0 q1 q2).u) (y := (ph2 q0 q1 q2).u) (m := n0 + n1 + n2 + 200) (n := n0 + n1 + n2 + 200) ⟨_, _, _, I23_2, S23_2⟩ ⟨_, _, _, I23_4, S23_4⟩) (by omega)).sz cz
  have dd : Sz ((n0 + n1 + n2 + 200) + (n0 + n1 + n2 + 200) + 1) cw cx cy := (Bd.mono (Bd.add (x := (ph1 q0 q1 q2).v) (y := (ph2 q0 q1 q2).v) (m := n0 + n1 + n2 + 200) (n := n0 + n1 + n2 + 200) ⟨_, _, _, I23_3, S23_3⟩ ⟨_, _, _, I23_5, S23_5⟩) (by omega)).sz cA
  obtain ⟨cB, cC, cD, cH⟩ := is_ex (((ph0 q0 q1 q2) + ((ph1 q0 q1 q2) + (ph2 q0 q1 q2)))).u
  obtain ⟨cE, cF, cG, cI⟩ := is_ex (((ph0 q0 q1 q2) + ((ph1 q0 q1 q2) + (ph2 q0 q1 q2)))).v
  have dZ : Sz ((n0 + n1 + n2 + 200) + ((n0 + n1 + n2 + 200) + (n0 + n1 + n2 + 200) + 1) + 1) cB cC cD := (Bd.mono (Bd.add (x := (ph0 q0 q1 q2).u) (y := ((ph1 q0 q1 q2) + (ph2 q0 q1 q2)).u) (m := n0 + n1 + n2 + 200) (n := (n0 + n1 + n2 + 200) + (n0 + n1 + n2 + 200) + 1) ⟨_, _, _, I23_0, S23_0⟩ ⟨_, _, _, cz, dc⟩) (by omega)).sz cH
  have e0 : Sz ((n0 + n1 + n2 + 200) + ((n0 + n1 + n2 + 200) + (n0 + n1 + n2 + 200) + 1) + 1) cE cF cG := (Bd.mono (Bd.add (x := (ph0 q0 q1 q2).v) (y := ((ph1 q0 q1 q2) + (ph2 q0 q1 q2)).v) (m := n0 + n1 + n2 + 200) (n := (n0 + n1 + n2 + 200) + (n0 + n1 + n2 + 200) + 1) ⟨_, _, _, I23_1, S23_1⟩ ⟨_, _, _, cA, dd⟩) (by omega)).sz cI
  have Y7 := ExtOf.blk (hS.blk 1 rfl)
  have hE_ := hS.ext
  refine wp_region_tame 9 (hasF [(6, .any), (7, .any), (8, .any)]) (Fcs [(6, .rp (ct) (cu) (cv) (cw) (cx) (cy)), (7, .rp (cB) (cC) (cD) (cE) (cF) (cG)), (8, .box 37 #[.bool false, .slice none 0 0, .bool false, .slice none 0 0, .bool false, .slice none 0 0, .bool false, .slice none 0 0, .bool false, .slice none 0 0, .bool false, .slice none 0 0])]) (Fcs_stab _) (by kernel_rfl) (by kernel_rfl) ?_
  simp only [tk1, tk0, dp1, dp0]
  refine wpT_quiet 6 (by rfl) (by kernel_rfl) ?_
  simp only [tk1, tk0, dp1, dp0]
  repeat (go_big_quiet_step (fail))
  refine wpQuiet_nil ?_
  refine wpT_eff (by rfl) (by rfl) (by rfl) ?_ ?_
  · intro W_ hK
    have hW := hK.1
    clear hK
    go_simp
    exact ⟨rfl, (toRP (qSum_w _ (ph1 q0 q1 q2) (n0 + n1 + n2 + 200) _ (ph2 q0 q1 q2) (n0 + n1 + n2 + 200) _ ⟨_, _, _, _, _, _, RP.mk (RI.ext (hS.num 29 rfl) hW) (RI.ext (hS.num 28 rfl) hW) (RI.ext (hS.num 27 rfl) hW) (RI.ext (hS.num 26 rfl) hW) (RI.ext (hS.num 25 rfl) hW) (RI.ext (hS.num 24 rfl) hW), I23_2, S23_2, I23_3, S23_3⟩ ⟨_, _, _, _, _, _, RP.mk (RI.ext (hS.num 23 rfl) hW) (RI.ext (hS.num 22 rfl) hW) (RI.ext (hS.num 21 rfl) hW) (RI.ext (hS.num 20 rfl) hW) (RI.ext (hS.num 19 rfl) hW) (RI.ext (hS.num 18 rfl) hW), I23_4, S23_4, I23_5, S23_5⟩ (by omega)) cz cA).mono fun e w' ⟨v, he, hR, hx⟩ => ⟨v, he, hx, hR⟩⟩
  intro v_ aW aX hr_
  obtain ⟨W_, hW_⟩ := hr_
  have hv_ : Fc.holds (.rp (ct) (cu) (cv) (cw) (cx) (cy)) aW aX v_ W_ := hW_.get
  clear hW_
  obtain ⟨ai, a0, aj, ak, am, a1, an, ao, ap, a2, aq, ar, au, a3, av, aw, ax, a4, ay, az, aA, a5, aB, aC, rfl, -, -, -, -, -, -⟩ := hv_
  clear W_
  try simp only [Act.put, sa0, sa1, sa2]
  refine wpT_eff (by rfl) (by rfl) (by rfl) ?_ ?_
  · intro W_ hK
    have hW := hK.1
    have cJ : RI W_ (iv ai a0 aj ak) ct := RP.at1 (hK.2 6 ((pv ai a0 aj ak am a1 an ao ap a2 aq ar au a3 av aw ax a4 ay az aA a5 aB aC), aW, aX) (by rfl) (by kernel_rfl))
    have cK : RI W_ (iv am a1 an ao) cu := RP.at2 (hK.2 6 ((pv ai a0 aj ak am a1 an ao ap a2 aq ar au a3 av aw ax a4 ay az aA a5 aB aC), aW, aX) (by rfl) (by kernel_rfl))
    have cL : RI W_ (iv ap a2 aq ar) cv := RP.at3 (hK.2 6 ((pv ai a0 aj ak am a1 an ao ap a2 aq ar au a3 av aw ax a4 ay az aA a5 aB aC), aW, aX) (by rfl) (by kernel_rfl))
    have cM : RI W_ (iv au a3 av aw) cw := RP.at4 (hK.2 6 ((pv ai a0 aj ak am a1 an ao ap a2 aq ar au a3 av aw ax a4 ay az aA a5 aB aC), aW, aX) (by rfl) (by kernel_rfl))
    have cN : RI W_ (iv ax a4 ay az) cx := RP.at5 (hK.2 6 ((pv ai a0 aj ak am a1 an ao ap a2 aq ar au a3 av aw ax a4 ay az aA a5 aB aC), aW, aX) (by rfl) (by kernel_rfl))
    have cO : RI W_ (iv aA a5 aB aC) cy := RP.at6 (hK.2 6 ((pv ai a0 aj ak am a1 an ao ap a2 aq ar au a3 av aw ax a4 ay az aA a5 aB aC), aW, aX) (by rfl) (by kernel_rfl))
    clear hK
    go_simp
    exact ⟨rfl, (toRP (qSum_w _ (ph0 q0 q1 q2) (n0 + n1 + n2 + 200) _ ((ph1 q0 q1 q2) + (ph2 q0 q1 q2)) ((n0 + n1 + n2 + 200) + (n0 + n1 + n2 + 200) + 1) _ ⟨_, _, _, _, _, _, RP.mk (RI.ext (hS.num 35 rfl) hW) (RI.ext (hS.num 34 rfl) hW) (RI.ext (hS.num 33 rfl) hW) (RI.ext (hS.num 32 rfl) hW) (RI.ext (hS.num 31 rfl) hW) (RI.ext (hS.num 30 rfl) hW), I23_0, S23_0, I23_1, S23_1⟩ ⟨_, _, _, _, _, _, RP.mk cJ cK cL cM cN cO, cz, dc, cA, dd⟩ (by omega)) cH cI).mono fun e w' ⟨v, he, hR, hx⟩ => ⟨v, he, hx, hR⟩⟩
  intro v_ bK bL hr_
  obtain ⟨W_, hW_⟩ := hr_
  have hv_ : Fc.holds (.rp (cB) (cC) (cD) (cE) (cF) (cG)) bK bL v_ W_ := hW_.get
  clear hW_
  obtain ⟨b6, ac, b7, b8, b9, ad, ba, bb, bc, ae, bd, be, bf, af, bg, bh, bi, ag, bj, bk, bl, ah, bm, bn, rfl, -, -, -, -, -, -⟩ := hv_
  clear W_
  try simp only [Act.put, sa0, sa1, sa2]
  refine wpT_eff (by rfl) (by rfl) (by rfl) ?_ ?_
  · intro W_ hK
    go_simp
    exact ⟨Ext.new _ _, rfl, by simp, Blk.new _ _ _⟩
  intro v_ aV de hr_
  obtain ⟨W_, hW_⟩ := hr_
  obtain ⟨rfl, e1, -⟩ : Fc.holds (.box 37 #[.bool false, .slice none 0 0, .bool false, .slice none 0 0, .bool false, .slice none 0 0, .bool false, .slice none 0 0, .bool false, .slice none 0 0, .bool false, .slice none 0 0]) aV de v_ W_ := hW_.get
  clear hW_ W_
  try simp only [Act.put, sa0, sa1, sa2]
  refine wpT_nil ?_
  intro bM hK
  have hlt_ := hS.lt
  replace hS := hS.mv hK.ext
  replace hS := hS.addI (show RI bM (iv ai a0 aj ak) ct from RP.at1 (hK.at_ 6 (e := ((pv ai a0 aj ak am a1 an ao ap a2 aq ar au a3 av aw ax a4 ay az aA a5 aB aC), aW, aX)) (by rfl)))
  replace hS := hS.addI (show RI bM (iv am a1 an ao) cu from RP.at2 (hK.at_ 6 (e := ((pv ai a0 aj ak am a1 an ao ap a2 aq ar au a3 av aw ax a4 ay az aA a5 aB aC), aW, aX)) (by rfl)))
  replace hS := hS.addI (show RI bM (iv ap a2 aq ar) cv from RP.at3 (hK.at_ 6 (e := ((pv ai a0 aj ak am a1 an ao ap a2 aq ar au a3 av aw ax a4 ay az aA a5 aB aC), aW, aX)) (by rfl)))
  replace hS := hS.addI (show RI bM (iv au a3 av aw) cw from RP.at4 (hK.at_ 6 (e := ((pv ai a0 aj ak am a1 an ao ap a2 aq ar au a3 av aw ax a4 ay az aA a5 aB aC), aW, aX)) (by rfl)))
  replace hS := hS.addI (show RI bM (iv ax a4 ay az) cx from RP.at5 (hK.at_ 6 (e := ((pv ai a0 aj ak am a1 an ao ap a2 aq ar au a3 av aw ax a4 ay az aA a5 aB aC), aW, aX)) (by rfl)))
  replace hS := hS.addI (show RI bM (iv aA a5 aB aC) cy from RP.at6 (hK.at_ 6 (e := ((pv ai a0 aj ak am a1 an ao ap a2 aq ar au a3 av aw ax a4 ay az aA a5 aB aC), aW, aX)) (by rfl)))
  replace hS := hS.addI (show RI bM (iv b6 ac b7 b8) cB from RP.at1 (hK.at_ 7 (e := ((pv b6 ac b7 b8 b9 ad ba bb bc ae bd be bf af bg bh bi ag bj bk bl ah bm bn), bK, bL)) (by rfl)))
  replace hS := hS.addI (show RI bM (iv b9 ad ba bb) cC from RP.at2 (hK.at_ 7 (e := ((pv b6 ac b7 b8 b9 ad ba bb bc ae bd be bf af bg bh bi ag bj bk bl ah bm bn), bK, bL)) (by rfl)))
  replace hS := hS.addI (show RI bM (iv bc ae bd be) cD from RP.at3 (hK.at_ 7 (e := ((pv b6 ac b7 b8 b9 ad ba bb bc ae bd be bf af bg bh bi ag bj bk bl ah bm bn), bK, bL)) (by rfl)))
  replace hS := hS.addI (show RI bM (iv bf af bg bh) cE from RP.at4 (hK.at_ 7 (e := ((pv b6 ac b7 b8 b9 ad ba bb bc ae bd be bf af bg bh bi ag bj bk bl ah bm bn), bK, bL)) (by rfl)))
  replace hS := hS.addI (show RI bM (iv bi ag bj bk) cF from RP.at5 (hK.at_ 7 (e := ((pv b6 ac b7 b8 b9 ad ba bb bc ae bd be bf af bg bh bi ag bj bk bl ah bm bn), bK, bL)) (by rfl)))
  replace hS := hS.addI (show RI bM (iv bl ah bm bn) cG from RP.at6 (hK.at_ 7 (e := ((pv b6 ac b7 b8 b9 ad ba bb bc ae bd be bf af bg bh bi ag bj bk bl ah bm bn), bK, bL)) (by rfl)))
  have cP : w12.heap.size ≤ aV := hK.low 8 _ (by rfl)
  have o11 : Own w aV := Own.of hE_ cP
  replace hS := hS.addB (show Blk bM aV 37 #[.bool false, .slice none 0 0, .bool false, .slice none 0 0, .bool false, .slice none 0 0, .bool false, .slice none 0 0, .bool false, .slice none 0 0, .bool false, .slice none 0 0] from (hK.at_ 8 (by rfl)).2.2) (apart_of fun p hp => Nat.ne_of_lt (Nat.lt_of_lt_of_le (hlt_ p hp) cP))
  clear hK hlt_ hE_ Y7
  clear cP e1 de
  have e2 := (hS.blk 0 rfl).cell
  have e3 := (hS.blk 0 rfl).frozen
  go_wp2_with fail
  clear e2 e3
  replace hS := (St.put (W' := ((((((((((((bM.setCell ⟨aV, 0, none⟩ (.bool b6)).setCell ⟨aV, 1, none⟩ (.slice ac b7 b8)).setCell ⟨aV, 2, none⟩ (.bool b9)).setCell ⟨aV, 3, none⟩ (.slice ad ba bb)).setCell ⟨aV, 4, none⟩ (.bool bc)).setCell ⟨aV, 5, none⟩ (.slice ae bd be)).setCell ⟨aV, 6, none⟩ (.bool bf)).setCell ⟨aV, 7, none⟩ (.slice af bg bh)).setCell ⟨aV, 8, none⟩ (.bool bi)).setCell ⟨aV, 9, none⟩ (.slice ag bj bk)).setCell ⟨aV, 10, none⟩ (.bool bl)).setCell ⟨aV, 11, none⟩ (.slice ah bm bn))) hS 0 0 [.bool b6, .slice ac b7 b8, .bool b9, .slice ad ba bb, .bool bc, .slice ae bd be, .bool bf, .slice af bg bh, .bool bi, .slice ag bj bk, .bool bl, .slice ah bm bn] (cs' := #[.bool b6, .slice ac b7 b8, .bool b9, .slice ad ba bb, .bool bc, .slice ae bd be, .bool bf, .slice af bg bh, .bool bi, .slice ag bj bk, .bool bl, .slice ah bm bn]) (bs' := _) rfl o11 rfl rfl (by kernel_rfl) rfl)
  simp only [List.set_cons_zero] at hS
  generalize ((((((((((((bM.setCell ⟨aV, 0, none⟩ (.bool b6)).setCell ⟨aV, 1, none⟩ (.slice ac b7 b8)).setCell ⟨aV, 2, none⟩ (.bool b9)).setCell ⟨aV, 3, none⟩ (.slice ad ba bb)).setCell ⟨aV, 4, none⟩ (.bool bc)).setCell ⟨aV, 5, none⟩ (.slice ae bd be)).setCell ⟨aV, 6, none⟩ (.bool bf)).setCell ⟨aV, 7, none⟩ (.slice af bg bh)).setCell ⟨aV, 8, none⟩ (.bool bi)).setCell ⟨aV, 9, none⟩ (.slice ag bj bk)).setCell ⟨aV, 10, none⟩ (.bool bl)).setCell ⟨aV, 11, none⟩ (.slice ah bm bn)) = w14 at hS ⊢
  obtain ⟨bo, bp, bq, dg⟩ := is_ex ((GQ.i (3) (0)) * q0)
  have e5 := MulOk.of (is_i (3) (0)) (sz_i (by omega) (by omega) (by omega) (by omega)) I0 S0 dg (by omega)
  have e6 := e5.size
  have Y11 := ExtOf.blk (hS.blk 0 rfl)
  have Y3 := ExtOf.blk (hS.blk 6 rfl)
  have hE_ := hS.ext
  refine wp_region_tame 13 (hasF [(0, .any), (7, .any), (9, .any), (10, .any), (11, .any)]) (Fcs [(0, .eq (.bool true)), (7, .rg ((3 : Int)) ((0 : Int)) ((1 : Int))), (9, .rg (bo) (bp) (bq)), (10, .rp (bo) (bp) (bq) ((0 : Int)) ((0 : Int)) ((1 : Int))), (11, .eq (.bool true))]) (Fcs_stab _) (by kernel_rfl) (by kernel_rfl) ?_
  simp only [tk1, tk0, dp1, dp0]
  refine wpT_eff (by rfl) (by rfl) (by rfl) ?_ ?_
  · intro W_ hK
    have hW := hK.1
    clear hK
    go_simp
    exact ⟨rfl, (lxknown_ok _ (tab_ext hTab (hE_.trans hW))).mono fun e w' ⟨he, hx⟩ => ⟨_, he, hx, rfl⟩⟩
  intro v_ lo68 hi68 hr_
  obtain ⟨W_, hW_⟩ := hr_
  obtain rfl : v_ = .bool true := hW_.get
  clear hW_ W_
  try simp only [Act.put, sa0, sa1, sa2]
  refine wpT_quiet 6 (by rfl) (by kernel_rfl) ?_
  simp only [tk1, tk0, dp1, dp0]
  repeat (go_big_quiet_step (fail))
  refine wpQuiet_nil ?_
  refine wpT_eff (by rfl) (by rfl) (by rfl) ?_ ?_
  · intro W_ hK
    have hW := hK.1
    clear hK
    go_simp
    exact ⟨rfl, (qInt_ok (3) (0) _ (by omega) (by omega) (by omega) (by omega)).mono fun e w' ⟨v, he, hR, hx⟩ => ⟨v, he, hx, hR⟩⟩
  intro v_ bN bO hr_
  obtain ⟨W_, hW_⟩ := hr_
  have hv_ : Fc.holds (.rg ((3 : Int)) ((0 : Int)) ((1 : Int))) bN bO v_ W_ := hW_.get
  clear hW_
  obtain ⟨br, b0, bs, bt, bu, b1, bv, bw, bx, b2, bz, bA, rfl, -, -, -⟩ := hv_
  clear W_
  try simp only [Act.put, sa0, sa1, sa2]
  refine wpT_quiet 1 (by rfl) (by kernel_rfl) ?_
  simp only [tk1, tk0, dp1, dp0]
  repeat (go_big_quiet_step (fail))
  refine wpQuiet_nil ?_
  refine wpT_eff (by rfl) (by rfl) (by rfl) ?_ ?_
  · intro W_ hK
    have hW := hK.1
    have cQ : RI W_ (iv br b0 bs bt) (3 : Int) := RG.at1 (hK.2 7 ((gv br b0 bs bt bu b1 bv bw bx b2 bz bA), bN, bO) (by rfl) (by kernel_rfl))
    have cR : RI W_ (iv bu b1 bv bw) (0 : Int) := RG.at2 (hK.2 7 ((gv br b0 bs bt bu b1 bv bw bx b2 bz bA), bN, bO) (by rfl) (by kernel_rfl))
    have cS : RI W_ (iv bx b2 bz bA) (1 : Int) := RG.at3 (hK.2 7 ((gv br b0 bs bt bu b1 bv bw bx b2 bz bA), bN, bO) (by rfl) (by kernel_rfl))
    clear hK
    go_simp
    exact ⟨rfl, (qMul_ok _ _ (3 : Int) (0 : Int) (1 : Int) x0a x0b x0d bo bp bq _ _ _ (RG.mk cQ cR cS) (RG.mk (RI.ext (hS.num 56 rfl) hW) (RI.ext (hS.num 55 rfl) hW) (RI.ext (hS.num 54 rfl) hW)) e5).mono fun e w' ⟨v, he, hR, hx⟩ => ⟨v, he, hx, hR⟩⟩
  intro v_ bP bQ hr_
  obtain ⟨W_, hW_⟩ := hr_
  have hv_ : Fc.holds (.rg (bo) (bp) (bq)) bP bQ v_ W_ := hW_.get
  clear hW_
  obtain ⟨bB, b3, bC, bD, bE, b4, bF, bG, bH, b5, bI, bJ, rfl, -, -, -⟩ := hv_
  clear W_
  try simp only [Act.put, sa0, sa1, sa2]
  refine wpT_eff (by rfl) (by rfl) (by rfl) ?_ ?_
  · intro W_ hK
    have hW := hK.1
    have cT : RI W_ (iv bB b3 bC bD) bo := RG.at1 (hK.2 9 ((gv bB b3 bC bD bE b4 bF bG bH b5 bI bJ), bP, bQ) (by rfl) (by kernel_rfl))
    have cU : RI W_ (iv bE b4 bF bG) bp := RG.at2 (hK.2 9 ((gv bB b3 bC bD bE b4 bF bG bH b5 bI bJ), bP, bQ) (by rfl) (by kernel_rfl))
    have cV : RI W_ (iv bH b5 bI bJ) bq := RG.at3 (hK.2 9 ((gv bB b3 bC bD bE b4 bF bG bH b5 bI bJ), bP, bQ) (by rfl) (by kernel_rfl))
    clear hK
    go_simp
    exact ⟨rfl, (toRP (qPlain_ok _ ((GQ.i (3) (0)) * q0) (64 + n0 + 1) _ ⟨_, _, _, RG.mk cT cU cV, dg, e6⟩ (by omega)) dg (is_i 0 0)).mono fun e w' ⟨v, he, hR, hx⟩ => ⟨v, he, hx, hR⟩⟩
  intro v_ aY aZ hr_
  obtain ⟨W_, hW_⟩ := hr_
  have hv_ : Fc.holds (.rp (bo) (bp) (bq) ((0 : Int)) ((0 : Int)) ((1 : Int))) aY aZ v_ W_ := hW_.get
  clear hW_
  obtain ⟨aD, a6, aE, aF, aG, a7, aH, aI, aJ, a8, aK, aL, aM, a9, aN, aO, aP, aa, aQ, aR, aS, ab, aT, aU, rfl, -, -, -, -, -, -⟩ := hv_
  clear W_
  try simp only [Act.put, sa0, sa1, sa2]
  refine wpT_eff (by rfl) (by rfl) (by rfl) ?_ ?_
  · intro W_ hK
    have hW := hK.1
    have cW : RI W_ (iv aD a6 aE aF) bo := RP.at1 (hK.2 10 ((pv aD a6 aE aF aG a7 aH aI aJ a8 aK aL aM a9 aN aO aP aa aQ aR aS ab aT aU), aY, aZ) (by rfl) (by kernel_rfl))
    have cX : RI W_ (iv aG a7 aH aI) bp := RP.at2 (hK.2 10 ((pv aD a6 aE aF aG a7 aH aI aJ a8 aK aL aM a9 aN aO aP aa aQ aR aS ab aT aU), aY, aZ) (by rfl) (by kernel_rfl))
    have cY : RI W_ (iv aJ a8 aK aL) bq := RP.at3 (hK.2 10 ((pv aD a6 aE aF aG a7 aH aI aJ a8 aK aL aM a9 aN aO aP aa aQ aR aS ab aT aU), aY, aZ) (by rfl) (by kernel_rfl))
    have cZ : RI W_ (iv aM a9 aN aO) (0 : Int) := RP.at4 (hK.2 10 ((pv aD a6 aE aF aG a7 aH aI aJ a8 aK aL aM a9 aN aO aP aa aQ aR aS ab aT aU), aY, aZ) (by rfl) (by kernel_rfl))
    have d0 : RI W_ (iv aP aa aQ aR) (0 : Int) := RP.at5 (hK.2 10 ((pv aD a6 aE aF aG a7 aH aI aJ a8 aK aL aM a9 aN aO aP aa aQ aR aS ab aT aU), aY, aZ) (by rfl) (by kernel_rfl))
    have d1 : RI W_ (iv aS ab aT aU) (1 : Int) := RP.at6 (hK.2 10 ((pv aD a6 aE aF aG a7 aH aI aJ a8 aK aL aM a9 aN aO aP aa aQ aR aS ab aT aU), aY, aZ) (by rfl) (by kernel_rfl))
    clear hK
    go_simp
    exact ⟨rfl, (qSamePhasor_q _ _ ((ph0 q0 q1 q2) + ((ph1 q0 q1 q2) + (ph2 q0 q1 q2))) (⟨(GQ.i (3) (0)) * q0, (GQ.i 0 0)⟩ : PQ) ((n0 + n1 + n2 + 200) + ((n0 + n1 + n2 + 200) + (n0 + n1 + n2 + 200) + 1) + 1) (64 + n0 + 1) _ ⟨_, _, _, _, _, _, RP.mk (RI.ext (hS.num 5 rfl) hW) (RI.ext (hS.num 4 rfl) hW) (RI.ext (hS.num 3 rfl) hW) (RI.ext (hS.num 2 rfl) hW) (RI.ext (hS.num 1 rfl) hW) (RI.ext (hS.num 0 rfl) hW), cH, dZ, cI, e0⟩ ⟨_, _, _, _, _, _, RP.mk cW cX cY cZ d0 d1, dg, e6, (is_i 0 0), (sz_0 (n := 64 + n0 + 1) (by omega))⟩ E1.out).mono fun e w' ⟨he, hx⟩ => ⟨_, he, hx, rfl⟩⟩
  intro v_ lo79 hi79 hr_
  obtain ⟨W_, hW_⟩ := hr_
  obtain rfl : v_ = .bool true := hW_.get
  clear hW_ W_
  try simp only [Act.put, sa0, sa1, sa2]
  refine wpT_quiet 1 (by rfl) (by kernel_rfl) ?_
  simp only [tk1, tk0, dp1, dp0]
  repeat (go_big_quiet_step (fail))
  refine wpQuiet_nil ?_
  refine wpT_nil ?_
  intro c0 hK
  have hlt_ := hS.lt
  replace hS := hS.mv hK.ext
  replace hS := hS.addI (show RI c0 (iv br b0 bs bt) (3 : Int) from RG.at1 (hK.at_ 7 (e := ((gv br b0 bs bt bu b1 bv bw bx b2 bz bA), bN, bO)) (by rfl)))
  replace hS := hS.addI (show RI c0 (iv bu b1 bv bw) (0 : Int) from RG.at2 (hK.at_ 7 (e := ((gv br b0 bs bt bu b1 bv bw bx b2 bz bA), bN, bO)) (by rfl)))
  replace hS := hS.addI (show RI c0 (iv bx b2 bz bA) (1 : Int) from RG.at3 (hK.at_ 7 (e := ((gv br b0 bs bt bu b1 bv bw bx b2 bz bA), bN, bO)) (by rfl)))
  replace hS := hS.addI (show RI c0 (iv bB b3 bC bD) bo from RG.at1 (hK.at_ 9 (e := ((gv bB b3 bC bD bE b4 bF bG bH b5 bI bJ), bP, bQ)) (by rfl)))
  replace hS := hS.addI (show RI c0 (iv bE b4 bF bG) bp from RG.at2 (hK.at_ 9 (e := ((gv bB b3 bC bD bE b4 bF bG bH b5 bI bJ), bP, bQ)) (by rfl)))
  replace hS := hS.addI (show RI c0 (iv bH b5 bI bJ) bq from RG.at3 (hK.at_ 9 (e := ((gv bB b3 bC bD bE b4 bF bG bH b5 bI bJ), bP, bQ)) (by rfl)))
  replace hS := hS.addI (show RI c0 (iv aD a6 aE aF) bo from RP.at1 (hK.at_ 10 (e := ((pv aD a6 aE aF aG a7 aH aI aJ a8 aK aL aM a9 aN aO aP aa aQ aR aS ab aT aU), aY, aZ)) (by rfl)))
  replace hS := hS.addI (show RI c0 (iv aG a7 aH aI) bp from RP.at2 (hK.at_ 10 (e := ((pv aD a6 aE aF aG a7 aH aI aJ a8 aK aL aM a9 aN aO aP aa aQ aR aS ab aT aU), aY, aZ)) (by rfl)))
  replace hS := hS.addI (show RI c0 (iv aJ a8 aK aL) bq from RP.at3 (hK.at_ 10 (e := ((pv aD a6 aE aF aG a7 aH aI aJ a8 aK aL aM a9 aN aO aP aa aQ aR aS ab aT aU), aY, aZ)) (by rfl)))
  replace hS := hS.addI (show RI c0 (iv aM a9 aN aO) (0 : Int) from RP.at4 (hK.at_ 10 (e := ((pv aD a6 aE aF aG a7 aH aI aJ a8 aK aL aM a9 aN aO aP aa aQ aR aS ab aT aU), aY, aZ)) (by rfl)))
  replace hS := hS.addI (show RI c0 (iv aP aa aQ aR) (0 : Int) from RP.at5 (hK.at_ 10 (e := ((pv aD a6 aE aF aG a7 aH aI aJ a8 aK aL aM a9 aN aO aP aa aQ aR aS ab aT aU), aY, aZ)) (by rfl)))
  replace hS := hS.addI (show RI c0 (iv aS ab aT aU) (1 : Int) from RP.at6 (hK.at_ 10 (e := ((pv aD a6 aE aF aG a7 aH aI aJ a8 aK aL aM a9 aN aO aP aa aQ aR aS ab aT aU), aY, aZ)) (by rfl)))
  clear hK hlt_ hE_ Y11 Y3
  go_wp2
  go_ret
  exact ⟨ret_bool (rfl), hS.ext⟩

theorem phases_any {s0a : Bool} {A0a : Option Addr} {n0a c0a : Nat} {l0a : List Nat} {s0b : Bool} {A0b : Option Addr} {n0b c0b : Nat} {l0b : List Nat} {s0d : Bool} {A0d : Option Addr} {n0d c0d : Nat} {l0d : List Nat} {s1a : Bool} {A1a : Option Addr} {n1a c1a : Nat} {l1a : List Nat} {s1b : Bool} {A1b : Option Addr} {n1b c1b : Nat} {l1b : List Nat} {s1d : Bool} {A1d : Option Addr} {n1d c1d : Nat} {l1d : List Nat} {s2a : Bool} {A2a : Option Addr} {n2a c2a : Nat} {l2a : List Nat} {s2b : Bool} {A2b : Option Addr} {n2b c2b : Nat} {l2b : List Nat} {s2d : Bool} {A2d : Option Addr} {n2d c2d : Nat} {l2d : List Nat} (w : World) (r0 : RawG w s0a A0a n0a c0a l0a s0b A0b n0b c0b l0b s0d A0d n0d c0d l0d) (r1 : RawG w s1a A1a n1a c1a l1a s1b A1b n1b c1b l1b s1d A1d n1d c1d l1d) (r2 : RawG w s2a A2a n2a c2a l2a s2b A2b n2b c2b l2b s2d A2d n2d c2d l2d) (hTab : Tab w) :
    Calls Tryz.prog 6 #[gv s0a A0a n0a c0a s0b A0b n0b c0b s0d A0d n0d c0d, gv s1a A1a n1a c1a s1b A1b n1b c1b s1d A1d n1d c1d, gv s2a A2a n2a c2a s2b A2b n2b c2b s2d A2d n2d c2d] w fun e w' => e = .returned (.bool true) ∧ Ext w w' := by
  cases hl : [n0a, n0b, n0d, n1a, n1b, n1d, n2a, n2b, n2d].all (fun n => decide (n ≤ 20))
  · exact phases_large _ _ _ _ _ _ _ _ _ _ _ _ _ _ _ _ _ _ _ _ _ _ _ _ _ _ _ _ _ _ _ _ _ _ _ _ w hTab (Lib.hid hl)
  have hl' : n0a ≤ 20 ∧ n0b ≤ 20 ∧ n0d ≤ 20 ∧ n1a ≤ 20 ∧ n1b ≤ 20 ∧ n1d ≤ 20 ∧ n2a ≤ 20 ∧ n2b ≤ 20 ∧ n2d ≤ 20 := by simpa using hl
  obtain ⟨k0a, k0b, k0d, k1a, k1b, k1d, k2a, k2b, k2d⟩ := hl'
  obtain ⟨b1, hb1⟩ := r1.vb k1a k1b k1d (by omega)
  obtain ⟨b2, hb2⟩ := r2.vb k2a k2b k2d (by omega)
  rcases r0.cases k0a k0b k0d (by omega) with ⟨q0, h0⟩ | hb
  · rcases r1.cases k1a k1b k1d (by omega) with ⟨q1, h1⟩ | hb
    · rcases r2.cases k2a k2b k2d (by omega) with ⟨q2, h2⟩ | hb
      · exact phases_ok _ q0 (32 * 20) _ q1 (32 * 20) _ q2 (32 * 20) w h0 h1 h2 (by omega) (by omega) (by omega) (by omega) (by omega) (by omega) hTab (Lib.hid (ph_sum q0 q1 q2))
      · exact phases_bad2 _ _ _ _ _ _ _ _ _ _ _ _ _ _ _ _ _ _ _ _ _ _ _ _ _ _ _ _ _ _ _ _ _ _ _ _ w (h0.vb (by omega)) (h1.vb (by omega)) hb hTab (Lib.hid hl)
    · exact phases_bad1 _ _ _ _ _ _ _ _ _ _ _ _ _ _ _ _ _ _ _ _ _ _ _ _ _ _ _ _ _ _ _ _ _ _ _ _ b2 w (h0.vb (by omega)) hb hb2 hTab (Lib.hid hl)
  · exact phases_bad0 _ _ _ _ _ _ _ _ _ _ _ _ _ _ _ _ _ _ _ _ _ _ _ _ b1 _ _ _ _ _ _ _ _ _ _ _ _ b2 w hb hb1 hb2 hTab (Lib.hid hl)
end Go.Proofs.YtjeijmnhbckjdaaGreatDoor
