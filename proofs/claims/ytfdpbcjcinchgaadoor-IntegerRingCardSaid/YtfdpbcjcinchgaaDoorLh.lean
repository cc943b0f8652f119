/- Sums and products are associative, commutative and distributive: the walk (printed by wip/tools/gen_ring.py). -/
import Derived.Test.YtfdpbcjcinchgaaDoorLd
import Derived.Test.YtfdpbcjcinchgaaDoorOrd3
namespace Go.Proofs.YtfdpbcjcinchgaaDoor
open Go.RowKit
set_option linter.unusedVariables false

set_option maxRecDepth 100000 in
set_option maxHeartbeats 6400000 in
theorem ring_small (v0 v1 v2 : Value) (x y z : Int) (w : World) (hX : RI w v0 x) (hY : RI w v1 y) (hZ : RI w v2 z) (fx : Fits 40 x) (fy : Fits 40 y) (fz : Fits 40 z)
    (lx : (digs x.natAbs).length ≤ 40) (ly : (digs y.natAbs).length ≤ 40) (lz : (digs z.natAbs).length ≤ 40) :
    Calls Tryd.prog 10 #[v0, v1, v2] w fun e w' => e = .returned (.bool true) ∧ Ext w w' := by
  obtain ⟨A0, n0, c0, rfl, hx⟩ := hX
  obtain ⟨A1, n1, c1, rfl, hy⟩ := hY
  obtain ⟨A2, n2, c2, rfl, hz⟩ := hZ
  have hn : n0 ≤ 40 := by have := hx.len; omega
  have hm : n1 ≤ 40 := by have := hy.len; omega
  have hk : n2 ≤ 40 := by have := hz.len; omega
  have hX : RI w (iv (decide (x < 0)) A0 n0 c0) x := ⟨A0, n0, c0, rfl, hx⟩
  have hY : RI w (iv (decide (y < 0)) A1 n1 c1) y := ⟨A1, n1, c1, rfl, hy⟩
  have hZ : RI w (iv (decide (z < 0)) A2 n2 c2) z := ⟨A2, n2, c2, rfl, hz⟩
  clear hx hy hz
  generalize decide (x < 0) = s0 at *
  generalize decide (y < 0) = s1 at *
  generalize decide (z < 0) = s2 at *
  have AX := Lib.hid (fx.lim (by decide)); have AY := Lib.hid (fy.lim (by decide)); have AZ := Lib.hid (fz.lim (by decide))
  obtain ⟨u1, hu1⟩ : ∃ i, i = x + y := ⟨_, rfl⟩
  obtain ⟨za, hza⟩ : ∃ i, i = u1 + z := ⟨_, rfl⟩
  obtain ⟨p1, hp1⟩ : ∃ i, i = x * y := ⟨_, rfl⟩
  obtain ⟨zm, hzm⟩ : ∃ i, i = p1 * z := ⟨_, rfl⟩
  obtain ⟨u2, hu2⟩ : ∃ i, i = y + z := ⟨_, rfl⟩
  obtain ⟨p2, hp2⟩ : ∃ i, i = x * z := ⟨_, rfl⟩
  obtain ⟨zd, hzd⟩ : ∃ i, i = x * u2 := ⟨_, rfl⟩
  obtain ⟨ny, hny⟩ : ∃ i, i = -y := ⟨_, rfl⟩
  have f1 : Fits 41 u1 := by rw [hu1]; exact fx.add fy
  have f2 : Fits 42 za := by rw [hza]; exact f1.add (fz.mono (by decide))
  have f3 : Fits 80 p1 := by rw [hp1]; exact fx.mul fy
  have f4 : Fits 120 zm := by rw [hzm]; exact f3.mul fz
  have f5 : Fits 41 u2 := by rw [hu2]; exact fy.add fz
  have f6 : Fits 80 p2 := by rw [hp2]; exact fx.mul fz
  have f7 : Fits 81 zd := by rw [hzd]; exact fx.mul f5
  have f8 : Fits 40 ny := by rw [hny]; exact fy.neg
  have H1 : Hid (u1 = (resS (x + y)).1) := Lib.hid (by rw [← hu1]; exact res_fits f1 (by decide))
  have H1' : Hid (u1 = (resS (y + x)).1) := Lib.hid (by rw [Int.add_comm, ← hu1]; exact res_fits f1 (by decide))
  have H2 : Hid (za = (resS (u1 + z)).1) := Lib.hid (by rw [← hza]; exact res_fits f2 (by decide))
  have H2' : Hid (za = (resS (z + u1)).1) := Lib.hid (by rw [Int.add_comm, ← hza]; exact res_fits f2 (by decide))
  have H3 : Hid (p1 = (resS (x * y)).1) := Lib.hid (by rw [← hp1]; exact res_fits f3 (by decide))
  have H3' : Hid (p1 = (resS (y * x)).1) := Lib.hid (by rw [Int.mul_comm, ← hp1]; exact res_fits f3 (by decide))
  have H4 : Hid (zm = (resS (p1 * z)).1) := Lib.hid (by rw [← hzm]; exact res_fits f4 (by decide))
  have H4' : Hid (zm = (resS (z * p1)).1) := Lib.hid (by rw [Int.mul_comm, ← hzm]; exact res_fits f4 (by decide))
  have H5 : Hid (u2 = (resS (y + z)).1) := Lib.hid (by rw [← hu2]; exact res_fits f5 (by decide))
  have H6 : Hid (p2 = (resS (x * z)).1) := Lib.hid (by rw [← hp2]; exact res_fits f6 (by decide))
  have H7 : Hid (zd = (resS (x * u2)).1) := Lib.hid (by rw [← hzd]; exact res_fits f7 (by decide))
  have H7' : Hid (zd = (resS (p1 + p2)).1) := Lib.hid (by rw [hp1, hp2, ← Int.mul_add, ← hu2, ← hzd]; exact res_fits f7 (by decide))
  have H8 : Hid (ny = -y) := Lib.hid hny
  have H9 : Hid (resS (u1 - y) = (x, 0)) := Lib.hid (by rw [hu1, show x + y - y = x by omega]; exact resS_fits fx (by decide))
  have H0 : Hid ((0 : Int) = (resS (y + ny)).1) := Lib.hid (by rw [hny, show y + -y = 0 by omega]; exact res_fits (Fits.zero (k := 1)) (by decide))
  have HL0 : Hid ((0 : Int).natAbs < lim) := Lib.hid ((Fits.zero (k := 1)).lim (by decide))
  have HC0 : Hid (cmpZ 0 0 = 0) := Lib.hid rfl
  have L1 := Lib.hid (f1.lim (by decide)); have L2 := Lib.hid (f2.lim (by decide)); have L3 := Lib.hid (f3.lim (by decide)); have L4 := Lib.hid (f4.lim (by decide))
  have L5 := Lib.hid (f5.lim (by decide)); have L6 := Lib.hid (f6.lim (by decide)); have L7 := Lib.hid (f7.lim (by decide)); have L8 := Lib.hid (f8.lim (by decide))
  clear hu1 hza hp1 hzm hu2 hp2 hzd hny f1 f2 f3 f4 f5 f6 f7 f8 fx fy fz lx ly lz
  have hE : Ext w (((w.alloc (.cells #[.bool s0, .slice A0 n0 c0] 24)).alloc (.cells #[.bool s1, .slice A1 n1 c1] 24)).alloc (.cells #[.bool s2, .slice A2 n2 c2] 24)) := ((Ext.new w _).alloc _).alloc _
  have b3 : Blk (((w.alloc (.cells #[.bool s0, .slice A0 n0 c0] 24)).alloc (.cells #[.bool s1, .slice A1 n1 c1] 24)).alloc (.cells #[.bool s2, .slice A2 n2 c2] 24)) (w.heap.size) 24 #[.bool s0, .slice A0 n0 c0] := ((Blk.new' _ _ (by simp)).alloc _).alloc _
  have b4 : Blk (((w.alloc (.cells #[.bool s0, .slice A0 n0 c0] 24)).alloc (.cells #[.bool s1, .slice A1 n1 c1] 24)).alloc (.cells #[.bool s2, .slice A2 n2 c2] 24)) (w.heap.size + 1) 24 #[.bool s1, .slice A1 n1 c1] := (Blk.new' _ _ (by simp)).alloc _
  have b5 : Blk (((w.alloc (.cells #[.bool s0, .slice A0 n0 c0] 24)).alloc (.cells #[.bool s1, .slice A1 n1 c1] 24)).alloc (.cells #[.bool s2, .slice A2 n2 c2] 24)) (w.heap.size + 2) 24 #[.bool s2, .slice A2 n2 c2] := Blk.new' _ _ (by simp)
  go_enter Tryd.func10, Tryd.ntmps10
  go_wp2_with fail
  generalize (((w.alloc (.cells #[.bool s0, .slice A0 n0 c0] 24)).alloc (.cells #[.bool s1, .slice A1 n1 c1] 24)).alloc (.cells #[.bool s2, .slice A2 n2 c2] 24)) = w0 at *
  generalize hg : w.heap.size = g at *
  have HG := Lib.hid hg; clear hg
  replace hX := hX.ext hE
  replace hY := hY.ext hE
  replace hZ := hZ.ext hE
  refine (known_any _).mono ?_
  rintro e w1 ⟨rfl, hx_⟩
  replace b3 := b3.ext hx_
  replace b4 := b4.ext hx_
  replace b5 := b5.ext hx_
  replace hX := hX.ext hx_
  replace hY := hY.ext hx_
  replace hZ := hZ.ext hx_
  replace hE := hE.trans hx_
  clear hx_
  have k3 := b3.cell
  have k4 := b4.cell
  have k5 := b5.cell
  go_wp2_with fail
  have hbs := Blk.new w1 24 #[.bool s0, .slice A0 n0 c0, .bool s1, .slice A1 n1 c1, .bool s2, .slice A2 n2 c2]
  have hx0 := Ext.new w1 (.cells #[.bool s0, .slice A0 n0 c0, .bool s1, .slice A1 n1 c1, .bool s2, .slice A2 n2 c2] 24)
  replace b3 := b3.ext hx0
  replace b4 := b4.ext hx0
  replace b5 := b5.ext hx0
  replace hX := hX.ext hx0
  replace hY := hY.ext hx0
  replace hZ := hZ.ext hx0
  replace hE := hE.trans hx0
  clear hx0
  refine (Large_any w1.heap.size 3 [(A0, n0, c0), (A1, n1, c1), (A2, n2, c2)] _ (by simp) (large3 hbs)).mono ?_
  rintro e w2 ⟨rfl, hx_⟩
  rw [large3_no (by omega) (by omega) (by omega)]
  replace b3 := b3.ext hx_
  replace b4 := b4.ext hx_
  replace b5 := b5.ext hx_
  replace hX := hX.ext hx_
  replace hY := hY.ext hx_
  replace hZ := hZ.ext hx_
  replace hE := hE.trans hx_
  clear hx_ hbs
  clear k3 k4 k5
  have k3 := b3.cell
  have k4 := b4.cell
  have k5 := b5.cell
  go_wp2_with fail
  refine (rValid_ri _ x _ hX AX.out).mono ?_
  rintro e w3 ⟨rfl, hx_⟩
  replace b3 := b3.ext hx_
  replace b4 := b4.ext hx_
  replace b5 := b5.ext hx_
  replace hX := hX.ext hx_
  replace hY := hY.ext hx_
  replace hZ := hZ.ext hx_
  replace hE := hE.trans hx_
  clear hx_
  clear k3 k4 k5
  have k3 := b3.cell
  have k4 := b4.cell
  have k5 := b5.cell
  go_wp2_with fail
  refine (rValid_ri _ y _ hY AY.out).mono ?_
  rintro e w4 ⟨rfl, hx_⟩
  replace b3 := b3.ext hx_
  replace b4 := b4.ext hx_
  replace b5 := b5.ext hx_
  replace hX := hX.ext hx_
  replace hY := hY.ext hx_
  replace hZ := hZ.ext hx_
  replace hE := hE.trans hx_
  clear hx_
  clear k3 k4 k5
  have k3 := b3.cell
  have k4 := b4.cell
  have k5 := b5.cell
  go_wp2_with fail
  refine (rValid_ri _ z _ hZ AZ.out).mono ?_
  rintro e w5 ⟨rfl, hx_⟩
  replace b3 := b3.ext hx_
  replace b4 := b4.ext hx_
  replace b5 := b5.ext hx_
  replace hX := hX.ext hx_
  replace hY := hY.ext hx_
  replace hZ := hZ.ext hx_
  replace hE := hE.trans hx_
  clear hx_
  clear k3 k4 k5
  go_wp2_with fail
  have Y3 := ExtOf.blk b3
  have Y4 := ExtOf.blk b4
  have Y5 := ExtOf.blk b5
  have hlt_3 := b3.lt
  have hlt_4 := b4.lt
  have hlt_5 := b5.lt
  refine wp_region_ordF 6 5 [(true, 0), (true, 1), (true, 3), (false, 2), (false, 4)] [] (fun a a' w' => ∃ (gb : Nat) (sa_ : Bool) (Aa_ : Option Addr) (na_ ca_ : Nat) (sb_ : Bool) (Ab_ : Option Addr) (nb_ cb_ : Nat), a' = ((((((a.put (some 35) (iv s0 A0 n0 c0)).put (some 36) (iv s1 A1 n1 c1)).put (some 37) (iv sa_ Aa_ na_ ca_)).put (some 38) (iv s2 A2 n2 c2)).put (some 39) (iv sb_ Ab_ nb_ cb_)).put (some 7) (.pointer (some ⟨gb, 0, none⟩))) ∧ RI w' (iv sb_ Ab_ nb_ cb_) za ∧ Blk w' gb 24 #[.bool false, .slice none 0 0] ∧ Ext w5 w' ∧ w5.heap.size ≤ gb) (by kernel_rfl) (by kernel_rfl) ?_ ?_
  ·
    have hB_ : Ext w5 w5.drew := (Ext.refl _).drew
    replace hX := hX.ext hB_
    replace hY := hY.ext hB_
    replace hZ := hZ.ext hB_
    generalize w5.drew = w6 at *
    refine wpOrdF_quiet [0, 1, 3] [(false, 2), (false, 4)] _ (by kernel_rfl) ?_
    simp only [nthOps, nthOp, List.cons_append, List.nil_append]
    repeat (go_big_quiet_step (fail))
    refine wpQuiet_nil ?_
    refine wpOrdF_act 2 [(false, 4)] (by kernel_rfl) (by kernel_rfl) ?_ ?_
    ·
      intro K hK
      simp only [nthOp]
      go_wp2_with fail
      refine (lsum_ok _ _ x y u1 _ hX hY AX.out AY.out H1.out).mono ?_
      rintro e w7 ⟨v_, rfl, hU, hx_⟩
      replace hB_ := hB_.trans hx_
      replace hX := hX.ext hx_
      replace hY := hY.ext hx_
      replace hZ := hZ.ext hx_
      obtain ⟨sa_, Aa_, na_, ca_, rfl, hU⟩ := hU.open_
      go_wp2
      refine hK _ _ ⟨⟨w7, hB_⟩, rfl⟩ ?_
      clear hK K hx_
      refine wpOrdF_act 4 [] (by kernel_rfl) (by kernel_rfl) ?_ ?_
      ·
        intro K hK
        simp only [nthOp]
        go_wp2_with fail
        refine (lsum_ok _ _ u1 z za _ hU hZ L1.out AZ.out H2.out).mono ?_
        rintro e w8 ⟨v_, rfl, hA, hx_⟩
        replace hB_ := hB_.trans hx_
        replace hX := hX.ext hx_
        replace hY := hY.ext hx_
        replace hZ := hZ.ext hx_
        replace hU := hU.ext hx_
        obtain ⟨sb_, Ab_, nb_, cb_, rfl, hA⟩ := hA.open_
        go_wp2
        refine hK _ _ ⟨⟨w8, hB_⟩, rfl⟩ ?_
        clear hK K hx_
        refine wpOrdF_end (by kernel_rfl) ?_
        intro K hK
        simp only [nthOp]
        go_wp2_with fail
        have hx_ := Ext.new w8 (.cells #[.bool false, .slice none 0 0] 24)
        have bb_ : Blk (w8.alloc (.cells #[.bool false, .slice none 0 0] 24)) w8.heap.size 24 #[.bool false, .slice none 0 0] := Blk.new _ _ _
        have hgb : w5.heap.size ≤ w8.heap.size := hB_.size
        replace hB_ := hB_.trans hx_
        replace hX := hX.ext hx_
        replace hY := hY.ext hx_
        replace hZ := hZ.ext hx_
        replace hU := hU.ext hx_
        replace hA := hA.ext hx_
        refine hK _ _ ⟨⟨_, hB_⟩, rfl⟩ ?_
        clear hK K hx_
        generalize w8.alloc (.cells #[.bool false, .slice none 0 0] 24) = w9 at *
        generalize w8.heap.size = gb at *
        exact ⟨_, sa_, Aa_, na_, ca_, sb_, Ab_, nb_, cb_, by simp only [Act.put, List.setIfInBounds_toArray, List.set_cons_succ, List.set_cons_zero], hA, bb_, hB_, hgb⟩
      ·
        intro K hK
        simp only [nthOp]
        go_wp2_with fail
        have hx_ := Ext.new w7 (.cells #[.bool false, .slice none 0 0] 24)
        have bb_ : Blk (w7.alloc (.cells #[.bool false, .slice none 0 0] 24)) w7.heap.size 24 #[.bool false, .slice none 0 0] := Blk.new _ _ _
        have hgb : w5.heap.size ≤ w7.heap.size := hB_.size
        replace hB_ := hB_.trans hx_
        replace hX := hX.ext hx_
        replace hY := hY.ext hx_
        replace hZ := hZ.ext hx_
        replace hU := hU.ext hx_
        refine hK _ _ ⟨⟨_, hB_⟩, rfl⟩ ?_
        clear hK K hx_
        generalize w7.alloc (.cells #[.bool false, .slice none 0 0] 24) = w10 at *
        generalize w7.heap.size = gb at *
        refine wpOrdT_act 4 [] (by kernel_rfl) ?_
        intro K hK
        simp only [nthOp]
        go_wp2_with fail
        refine (lsum_ok _ _ u1 z za _ hU hZ L1.out AZ.out H2.out).mono ?_
        rintro e w11 ⟨v_, rfl, hA, hx_⟩
        replace hB_ := hB_.trans hx_
        replace hX := hX.ext hx_
        replace hY := hY.ext hx_
        replace hZ := hZ.ext hx_
        replace hU := hU.ext hx_
        replace bb_ := bb_.ext hx_
        obtain ⟨sb_, Ab_, nb_, cb_, rfl, hA⟩ := hA.open_
        go_wp2
        refine hK _ _ ⟨⟨w11, hB_⟩, rfl⟩ ?_
        clear hK K hx_
        exact ⟨_, sa_, Aa_, na_, ca_, sb_, Ab_, nb_, cb_, by simp only [Act.put, List.setIfInBounds_toArray, List.set_cons_succ, List.set_cons_zero], hA, bb_, hB_, hgb⟩
    ·
      intro K hK
      simp only [nthOp]
      go_wp2_with fail
      have hx_ := Ext.new w6 (.cells #[.bool false, .slice none 0 0] 24)
      have bb_ : Blk (w6.alloc (.cells #[.bool false, .slice none 0 0] 24)) w6.heap.size 24 #[.bool false, .slice none 0 0] := Blk.new _ _ _
      have hgb : w5.heap.size ≤ w6.heap.size := hB_.size
      replace hB_ := hB_.trans hx_
      replace hX := hX.ext hx_
      replace hY := hY.ext hx_
      replace hZ := hZ.ext hx_
      refine hK _ _ ⟨⟨_, hB_⟩, rfl⟩ ?_
      clear hK K hx_
      generalize w6.alloc (.cells #[.bool false, .slice none 0 0] 24) = w12 at *
      generalize w6.heap.size = gb at *
      refine wpOrdT_act 2 [(false, 4)] (by kernel_rfl) ?_
      intro K hK
      simp only [nthOp]
      go_wp2_with fail
      refine (lsum_ok _ _ x y u1 _ hX hY AX.out AY.out H1.out).mono ?_
      rintro e w13 ⟨v_, rfl, hU, hx_⟩
      replace hB_ := hB_.trans hx_
      replace hX := hX.ext hx_
      replace hY := hY.ext hx_
      replace hZ := hZ.ext hx_
      replace bb_ := bb_.ext hx_
      obtain ⟨sa_, Aa_, na_, ca_, rfl, hU⟩ := hU.open_
      go_wp2
      refine hK _ _ ⟨⟨w13, hB_⟩, rfl⟩ ?_
      clear hK K hx_
      refine wpOrdT_act 4 [] (by kernel_rfl) ?_
      intro K hK
      simp only [nthOp]
      go_wp2_with fail
      refine (lsum_ok _ _ u1 z za _ hU hZ L1.out AZ.out H2.out).mono ?_
      rintro e w14 ⟨v_, rfl, hA, hx_⟩
      replace hB_ := hB_.trans hx_
      replace hX := hX.ext hx_
      replace hY := hY.ext hx_
      replace hZ := hZ.ext hx_
      replace bb_ := bb_.ext hx_
      replace hU := hU.ext hx_
      obtain ⟨sb_, Ab_, nb_, cb_, rfl, hA⟩ := hA.open_
      go_wp2
      refine hK _ _ ⟨⟨w14, hB_⟩, rfl⟩ ?_
      clear hK K hx_
      exact ⟨_, sa_, Aa_, na_, ca_, sb_, Ab_, nb_, cb_, by simp only [Act.put, List.setIfInBounds_toArray, List.set_cons_succ, List.set_cons_zero], hA, bb_, hB_, hgb⟩
  rintro a' w15 ⟨g7, sa_, Aa_, na_, ca_, sb_, Ab_, nb_, cb_, rfl, hA, b7, hx_, hge7⟩
  clear Y3 Y4 Y5
  simp only [Act.put, List.setIfInBounds_toArray, List.set_cons_succ, List.set_cons_zero, List.drop_succ_cons, List.drop_zero]
  replace b3 := b3.ext hx_
  replace b4 := b4.ext hx_
  replace b5 := b5.ext hx_
  replace hX := hX.ext hx_
  replace hY := hY.ext hx_
  replace hZ := hZ.ext hx_
  have hgw7 : w.heap.size ≤ g7 := Nat.le_trans hE.size hge7
  have hne_3_7 : g ≠ g7 := by omega
  have hne_4_7 : g + 1 ≠ g7 := by omega
  have hne_5_7 : g + 2 ≠ g7 := by omega
  clear hlt_3 hlt_4 hlt_5
  replace hE := hE.trans hx_
  have kc_ := b7.cell
  have kf_ := b7.frozen
  obtain ⟨hEp, hBp, hFp, hXp, hIp⟩ := box_put (w'' := ((w15.setCell ⟨g7, 0, none⟩ (.bool sb_)).setCell ⟨g7, 1, none⟩ (.slice Ab_ nb_ cb_))) hE hgw7 b7 sb_ Ab_ nb_ cb_ rfl
  replace b3 := hFp _ _ _ hne_3_7 b3
  replace b4 := hFp _ _ _ hne_4_7 b4
  replace b5 := hFp _ _ _ hne_5_7 b5
  replace b7 := hBp
  replace hX := hIp _ _ hX
  replace hY := hIp _ _ hY
  replace hZ := hIp _ _ hZ
  replace hA := hIp _ _ hA
  replace hE := hEp
  clear hEp hBp hFp hXp hIp
  go_wp2_with fail
  clear kc_ kf_
  generalize ((w15.setCell ⟨g7, 0, none⟩ (.bool sb_)).setCell ⟨g7, 1, none⟩ (.slice Ab_ nb_ cb_)) = w16 at *
  obtain ⟨shA, AhA, nhA, chA, rfl, rfl, rfl, rfl⟩ : ∃ a b c d, a = sb_ ∧ b = Ab_ ∧ c = nb_ ∧ d = cb_ := ⟨_, _, _, _, rfl, rfl, rfl, rfl⟩
  have Y3 := ExtOf.blk b3
  have Y4 := ExtOf.blk b4
  have Y5 := ExtOf.blk b5
  have Y7 := ExtOf.blk b7
  have hlt_3 := b3.lt
  have hlt_4 := b4.lt
  have hlt_5 := b5.lt
  have hlt_7 := b7.lt
  refine wp_region_ordF 6 5 [(true, 0), (true, 1), (true, 3), (false, 2), (false, 4)] [] (fun a a' w' => ∃ (gb : Nat) (sa_ : Bool) (Aa_ : Option Addr) (na_ ca_ : Nat) (sb_ : Bool) (Ab_ : Option Addr) (nb_ cb_ : Nat), a' = ((((((a.put (some 40) (iv s0 A0 n0 c0)).put (some 41) (iv s1 A1 n1 c1)).put (some 42) (iv sa_ Aa_ na_ ca_)).put (some 43) (iv s2 A2 n2 c2)).put (some 44) (iv sb_ Ab_ nb_ cb_)).put (some 8) (.pointer (some ⟨gb, 0, none⟩))) ∧ RI w' (iv sb_ Ab_ nb_ cb_) zm ∧ Blk w' gb 24 #[.bool false, .slice none 0 0] ∧ Ext w16 w' ∧ w16.heap.size ≤ gb) (by kernel_rfl) (by kernel_rfl) ?_ ?_
  ·
    have hB_ : Ext w16 w16.drew := (Ext.refl _).drew
    replace hX := hX.ext hB_
    replace hY := hY.ext hB_
    replace hZ := hZ.ext hB_
    replace hA := hA.ext hB_
    generalize w16.drew = w17 at *
    refine wpOrdF_quiet [0, 1, 3] [(false, 2), (false, 4)] _ (by kernel_rfl) ?_
    simp only [nthOps, nthOp, List.cons_append, List.nil_append]
    repeat (go_big_quiet_step (fail))
    refine wpQuiet_nil ?_
    refine wpOrdF_act 2 [(false, 4)] (by kernel_rfl) (by kernel_rfl) ?_ ?_
    ·
      intro K hK
      simp only [nthOp]
      go_wp2_with fail
      refine (lproduct_ok _ _ x y p1 _ hX hY AX.out AY.out H3.out).mono ?_
      rintro e w18 ⟨v_, rfl, hU, hx_⟩
      replace hB_ := hB_.trans hx_
      replace hX := hX.ext hx_
      replace hY := hY.ext hx_
      replace hZ := hZ.ext hx_
      replace hA := hA.ext hx_
      obtain ⟨sa_, Aa_, na_, ca_, rfl, hU⟩ := hU.open_
      go_wp2
      refine hK _ _ ⟨⟨w18, hB_⟩, rfl⟩ ?_
      clear hK K hx_
      refine wpOrdF_act 4 [] (by kernel_rfl) (by kernel_rfl) ?_ ?_
      ·
        intro K hK
        simp only [nthOp]
        go_wp2_with fail
        refine (lproduct_ok _ _ p1 z zm _ hU hZ L3.out AZ.out H4.out).mono ?_
        rintro e w19 ⟨v_, rfl, hM, hx_⟩
        replace hB_ := hB_.trans hx_
        replace hX := hX.ext hx_
        replace hY := hY.ext hx_
        replace hZ := hZ.ext hx_
        replace hA := hA.ext hx_
        replace hU := hU.ext hx_
        obtain ⟨sb_, Ab_, nb_, cb_, rfl, hM⟩ := hM.open_
        go_wp2
        refine hK _ _ ⟨⟨w19, hB_⟩, rfl⟩ ?_
        clear hK K hx_
        refine wpOrdF_end (by kernel_rfl) ?_
        intro K hK
        simp only [nthOp]
        go_wp2_with fail
        have hx_ := Ext.new w19 (.cells #[.bool false, .slice none 0 0] 24)
        have bb_ : Blk (w19.alloc (.cells #[.bool false, .slice none 0 0] 24)) w19.heap.size 24 #[.bool false, .slice none 0 0] := Blk.new _ _ _
        have hgb : w16.heap.size ≤ w19.heap.size := hB_.size
        replace hB_ := hB_.trans hx_
        replace hX := hX.ext hx_
        replace hY := hY.ext hx_
        replace hZ := hZ.ext hx_
        replace hA := hA.ext hx_
        replace hU := hU.ext hx_
        replace hM := hM.ext hx_
        refine hK _ _ ⟨⟨_, hB_⟩, rfl⟩ ?_
        clear hK K hx_
        generalize w19.alloc (.cells #[.bool false, .slice none 0 0] 24) = w20 at *
        generalize w19.heap.size = gb at *
        exact ⟨_, sa_, Aa_, na_, ca_, sb_, Ab_, nb_, cb_, by simp only [Act.put, List.setIfInBounds_toArray, List.set_cons_succ, List.set_cons_zero], hM, bb_, hB_, hgb⟩
      ·
        intro K hK
        simp only [nthOp]
        go_wp2_with fail
        have hx_ := Ext.new w18 (.cells #[.bool false, .slice none 0 0] 24)
        have bb_ : Blk (w18.alloc (.cells #[.bool false, .slice none 0 0] 24)) w18.heap.size 24 #[.bool false, .slice none 0 0] := Blk.new _ _ _
        have hgb : w16.heap.size ≤ w18.heap.size := hB_.size
        replace hB_ := hB_.trans hx_
        replace hX := hX.ext hx_
        replace hY := hY.ext hx_
        replace hZ := hZ.ext hx_
        replace hA := hA.ext hx_
        replace hU := hU.ext hx_
        refine hK _ _ ⟨⟨_, hB_⟩, rfl⟩ ?_
        clear hK K hx_
        generalize w18.alloc (.cells #[.bool false, .slice none 0 0] 24) = w21 at *
        generalize w18.heap.size = gb at *
        refine wpOrdT_act 4 [] (by kernel_rfl) ?_
        intro K hK
        simp only [nthOp]
        go_wp2_with fail
        refine (lproduct_ok _ _ p1 z zm _ hU hZ L3.out AZ.out H4.out).mono ?_
        rintro e w22 ⟨v_, rfl, hM, hx_⟩
        replace hB_ := hB_.trans hx_
        replace hX := hX.ext hx_
        replace hY := hY.ext hx_
        replace hZ := hZ.ext hx_
        replace hA := hA.ext hx_
        replace hU := hU.ext hx_
        replace bb_ := bb_.ext hx_
        obtain ⟨sb_, Ab_, nb_, cb_, rfl, hM⟩ := hM.open_
        go_wp2
        refine hK _ _ ⟨⟨w22, hB_⟩, rfl⟩ ?_
        clear hK K hx_
        exact ⟨_, sa_, Aa_, na_, ca_, sb_, Ab_, nb_, cb_, by simp only [Act.put, List.setIfInBounds_toArray, List.set_cons_succ, List.set_cons_zero], hM, bb_, hB_, hgb⟩
    ·
      intro K hK
      simp only [nthOp]
      go_wp2_with fail
      have hx_ := Ext.new w17 (.cells #[.bool false, .slice none 0 0] 24)
      have bb_ : Blk (w17.alloc (.cells #[.bool false, .slice none 0 0] 24)) w17.heap.size 24 #[.bool false, .slice none 0 0] := Blk.new _ _ _
      have hgb : w16.heap.size ≤ w17.heap.size := hB_.size
      replace hB_ := hB_.trans hx_
      replace hX := hX.ext hx_
      replace hY := hY.ext hx_
      replace hZ := hZ.ext hx_
      replace hA := hA.ext hx_
      refine hK _ _ ⟨⟨_, hB_⟩, rfl⟩ ?_
      clear hK K hx_
      generalize w17.alloc (.cells #[.bool false, .slice none 0 0] 24) = w23 at *
      generalize w17.heap.size = gb at *
      refine wpOrdT_act 2 [(false, 4)] (by kernel_rfl) ?_
      intro K hK
      simp only [nthOp]
      go_wp2_with fail
      refine (lproduct_ok _ _ x y p1 _ hX hY AX.out AY.out H3.out).mono ?_
      rintro e w24 ⟨v_, rfl, hU, hx_⟩
      replace hB_ := hB_.trans hx_
      replace hX := hX.ext hx_
      replace hY := hY.ext hx_
      replace hZ := hZ.ext hx_
      replace hA := hA.ext hx_
      replace bb_ := bb_.ext hx_
      obtain ⟨sa_, Aa_, na_, ca_, rfl, hU⟩ := hU.open_
      go_wp2
      refine hK _ _ ⟨⟨w24, hB_⟩, rfl⟩ ?_
      clear hK K hx_
      refine wpOrdT_act 4 [] (by kernel_rfl) ?_
      intro K hK
      simp only [nthOp]
      go_wp2_with fail
      refine (lproduct_ok _ _ p1 z zm _ hU hZ L3.out AZ.out H4.out).mono ?_
      rintro e w25 ⟨v_, rfl, hM, hx_⟩
      replace hB_ := hB_.trans hx_
      replace hX := hX.ext hx_
      replace hY := hY.ext hx_
      replace hZ := hZ.ext hx_
      replace hA := hA.ext hx_
      replace bb_ := bb_.ext hx_
      replace hU := hU.ext hx_
      obtain ⟨sb_, Ab_, nb_, cb_, rfl, hM⟩ := hM.open_
      go_wp2
      refine hK _ _ ⟨⟨w25, hB_⟩, rfl⟩ ?_
      clear hK K hx_
      exact ⟨_, sa_, Aa_, na_, ca_, sb_, Ab_, nb_, cb_, by simp only [Act.put, List.setIfInBounds_toArray, List.set_cons_succ, List.set_cons_zero], hM, bb_, hB_, hgb⟩
  rintro a' w26 ⟨g8, sa_, Aa_, na_, ca_, sb_, Ab_, nb_, cb_, rfl, hM, b8, hx_, hge8⟩
  clear Y3 Y4 Y5 Y7
  simp only [Act.put, List.setIfInBounds_toArray, List.set_cons_succ, List.set_cons_zero, List.drop_succ_cons, List.drop_zero]
  replace b3 := b3.ext hx_
  replace b4 := b4.ext hx_
  replace b5 := b5.ext hx_
  replace b7 := b7.ext hx_
  replace hX := hX.ext hx_
  replace hY := hY.ext hx_
  replace hZ := hZ.ext hx_
  replace hA := hA.ext hx_
  have hgw8 : w.heap.size ≤ g8 := Nat.le_trans hE.size hge8
  have hne_3_8 : g ≠ g8 := by omega
  have hne_4_8 : g + 1 ≠ g8 := by omega
  have hne_5_8 : g + 2 ≠ g8 := by omega
  have hne_7_8 : g7 ≠ g8 := by omega
  clear hlt_3 hlt_4 hlt_5 hlt_7
  replace hE := hE.trans hx_
  have kc_ := b8.cell
  have kf_ := b8.frozen
  obtain ⟨hEp, hBp, hFp, hXp, hIp⟩ := box_put (w'' := ((w26.setCell ⟨g8, 0, none⟩ (.bool sb_)).setCell ⟨g8, 1, none⟩ (.slice Ab_ nb_ cb_))) hE hgw8 b8 sb_ Ab_ nb_ cb_ rfl
  replace b3 := hFp _ _ _ hne_3_8 b3
  replace b4 := hFp _ _ _ hne_4_8 b4
  replace b5 := hFp _ _ _ hne_5_8 b5
  replace b7 := hFp _ _ _ hne_7_8 b7
  replace b8 := hBp
  replace hX := hIp _ _ hX
  replace hY := hIp _ _ hY
  replace hZ := hIp _ _ hZ
  replace hA := hIp _ _ hA
  replace hM := hIp _ _ hM
  replace hE := hEp
  clear hEp hBp hFp hXp hIp
  have k3 := b3.cell
  have k4 := b4.cell
  have k5 := b5.cell
  have k7 := b7.cell
  have k8 := b8.cell
  go_wp2_with fail
  clear kc_ kf_
  generalize ((w26.setCell ⟨g8, 0, none⟩ (.bool sb_)).setCell ⟨g8, 1, none⟩ (.slice Ab_ nb_ cb_)) = w27 at *
  obtain ⟨shM, AhM, nhM, chM, rfl, rfl, rfl, rfl⟩ : ∃ a b c d, a = sb_ ∧ b = Ab_ ∧ c = nb_ ∧ d = cb_ := ⟨_, _, _, _, rfl, rfl, rfl, rfl⟩
  refine (Neg_ok _ y ny _ hY AY.out H8.out).mono ?_
  rintro e w28 ⟨v_, rfl, ⟨u_, rfl, hN⟩, hx_⟩
  replace b3 := b3.ext hx_
  replace b4 := b4.ext hx_
  replace b5 := b5.ext hx_
  replace b7 := b7.ext hx_
  replace b8 := b8.ext hx_
  replace hX := hX.ext hx_
  replace hY := hY.ext hx_
  replace hZ := hZ.ext hx_
  replace hA := hA.ext hx_
  replace hM := hM.ext hx_
  replace hE := hE.trans hx_
  clear hx_
  clear k3 k4 k5 k7 k8
  obtain ⟨sn, An, nn, cn, rfl, hN⟩ := hN.open_
  have hx_ : Ext w28 (w28.alloc (.cells #[.bool sn, .slice An nn cn] 24)) := Ext.new _ _
  have b9 : Blk (w28.alloc (.cells #[.bool sn, .slice An nn cn] 24)) w28.heap.size 24 #[.bool sn, .slice An nn cn] := Blk.new' _ _ (by simp)
  replace b3 := b3.ext hx_
  replace b4 := b4.ext hx_
  replace b5 := b5.ext hx_
  replace b7 := b7.ext hx_
  replace b8 := b8.ext hx_
  replace hX := hX.ext hx_
  replace hY := hY.ext hx_
  replace hZ := hZ.ext hx_
  replace hA := hA.ext hx_
  replace hM := hM.ext hx_
  replace hN := hN.ext hx_
  replace hE := hE.trans hx_
  clear hx_
  go_wp2_with fail
  generalize (w28.alloc (.cells #[.bool sn, .slice An nn cn] 24)) = w29 at *
  generalize w28.heap.size = g9 at *
  have Y3 := ExtOf.blk b3
  have Y4 := ExtOf.blk b4
  have Y5 := ExtOf.blk b5
  have Y7 := ExtOf.blk b7
  have Y8 := ExtOf.blk b8
  have Y9 := ExtOf.blk b9
  have hlt_3 := b3.lt
  have hlt_4 := b4.lt
  have hlt_5 := b5.lt
  have hlt_7 := b7.lt
  have hlt_8 := b8.lt
  have hlt_9 := b9.lt
  refine wp_region_ordF 10 8 [(true, 0), (true, 1), (true, 3), (false, 2), (false, 4), (true, 5), (true, 6), (true, 7)] [(false, 9)] (fun a a' w' => ∃ (gb : Nat) (sa_ : Bool) (Aa_ : Option Addr) (na_ ca_ : Nat) (sb_ : Bool) (Ab_ : Option Addr) (nb_ cb_ : Nat), a' = (((((((((a.put (some 51) (iv s0 A0 n0 c0)).put (some 52) (iv s1 A1 n1 c1)).put (some 53) (iv sa_ Aa_ na_ ca_)).put (some 54) (iv s1 A1 n1 c1)).put (some 55) (.tuple #[iv sb_ Ab_ nb_ cb_, .int .i64 0])).put (some 50) (.tuple #[iv sb_ Ab_ nb_ cb_, .int .i64 0])).put (some 56) (iv sb_ Ab_ nb_ cb_)).put (some 57) (.int .i64 0)).put (some 11) (.pointer (some ⟨gb, 0, none⟩))) ∧ RI w' (iv sb_ Ab_ nb_ cb_) x ∧ Blk w' gb 24 #[.bool sb_, .slice Ab_ nb_ cb_] ∧ Ext w29 w' ∧ w29.heap.size ≤ gb) (by kernel_rfl) (by kernel_rfl) ?_ ?_
  ·
    have hB_ : Ext w29 w29.drew := (Ext.refl _).drew
    replace hX := hX.ext hB_
    replace hY := hY.ext hB_
    replace hZ := hZ.ext hB_
    replace hA := hA.ext hB_
    replace hM := hM.ext hB_
    replace hN := hN.ext hB_
    generalize w29.drew = w30 at *
    refine wpOrdF_quiet [0, 1, 3] [(false, 2), (false, 4), (true, 5), (true, 6), (true, 7)] _ (by kernel_rfl) ?_
    simp only [nthOps, nthOp, List.cons_append, List.nil_append]
    repeat (go_big_quiet_step (fail))
    refine wpQuiet_nil ?_
    refine wpOrdF_act 2 [(false, 4), (true, 5), (true, 6), (true, 7)] (by kernel_rfl) (by kernel_rfl) ?_ ?_
    ·
      intro K hK
      simp only [nthOp]
      go_wp2_with fail
      refine (lsum_ok _ _ x y u1 _ hX hY AX.out AY.out H1.out).mono ?_
      rintro e w31 ⟨v_, rfl, hU, hx_⟩
      replace hB_ := hB_.trans hx_
      replace hX := hX.ext hx_
      replace hY := hY.ext hx_
      replace hZ := hZ.ext hx_
      replace hA := hA.ext hx_
      replace hM := hM.ext hx_
      replace hN := hN.ext hx_
      obtain ⟨sa_, Aa_, na_, ca_, rfl, hU⟩ := hU.open_
      go_wp2
      refine hK _ _ ⟨⟨w31, hB_⟩, rfl⟩ ?_
      clear hK K hx_
      refine wpOrdF_act 4 [(true, 5), (true, 6), (true, 7)] (by kernel_rfl) (by kernel_rfl) ?_ ?_
      ·
        intro K hK
        simp only [nthOp]
        go_wp2_with fail
        refine (Sub_ok _ _ u1 y _ hU hY L1.out AY.out).mono ?_
        rintro e w32 ⟨v_, rfl, hret, hx_⟩
        replace hB_ := hB_.trans hx_
        replace hX := hX.ext hx_
        replace hY := hY.ext hx_
        replace hZ := hZ.ext hx_
        replace hA := hA.ext hx_
        replace hM := hM.ext hx_
        replace hN := hN.ext hx_
        replace hU := hU.ext hx_
        rw [H9.out] at hret
        obtain ⟨u_, rfl, hD⟩ := hret
        obtain ⟨sb_, Ab_, nb_, cb_, rfl, hD⟩ := hD.open_
        go_wp2
        refine hK _ _ ⟨⟨w32, hB_⟩, rfl⟩ ?_
        clear hK K hx_
        refine wpOrdF_quiet [5, 6, 7] [] _ (by kernel_rfl) ?_
        simp only [nthOps, nthOp, List.cons_append, List.nil_append]
        repeat (go_big_quiet_step (fail))
        refine wpQuiet_nil ?_
        refine wpOrdF_end (by kernel_rfl) ?_
        intro K hK
        simp only [nthOp]
        go_wp2_with fail
        have hx_ := Ext.new w32 (.cells #[.bool false, .slice none 0 0] 24)
        have bb_ : Blk (w32.alloc (.cells #[.bool false, .slice none 0 0] 24)) w32.heap.size 24 #[.bool false, .slice none 0 0] := Blk.new _ _ _
        have hgb : w29.heap.size ≤ w32.heap.size := hB_.size
        replace hB_ := hB_.trans hx_
        replace hX := hX.ext hx_
        replace hY := hY.ext hx_
        replace hZ := hZ.ext hx_
        replace hA := hA.ext hx_
        replace hM := hM.ext hx_
        replace hN := hN.ext hx_
        replace hU := hU.ext hx_
        replace hD := hD.ext hx_
        refine hK _ _ ⟨⟨_, hB_⟩, rfl⟩ ?_
        clear hK K hx_
        generalize w32.alloc (.cells #[.bool false, .slice none 0 0] 24) = w33 at *
        generalize w32.heap.size = gb at *
        have kc_ := bb_.cell
        have kf_ := bb_.frozen
        refine wpOrdT_act 9 [] (by kernel_rfl) ?_
        intro K hK
        simp only [nthOp]
        go_wp2_with fail
        clear kc_ kf_
        obtain ⟨hEp, hBp, hFp, hXp, hIp⟩ := box_put (w'' := ((w33.setCell ⟨gb, 0, none⟩ (.bool sb_)).setCell ⟨gb, 1, none⟩ (.slice Ab_ nb_ cb_))) hB_ hgb bb_ sb_ Ab_ nb_ cb_ rfl
        replace hD := hIp _ _ hD
        refine hK _ _ ⟨⟨_, hEp⟩, rfl⟩ ?_
        replace hB_ := hEp
        replace bb_ := hBp
        clear hK K hEp hBp hFp hXp hIp
        exact ⟨_, sa_, Aa_, na_, ca_, sb_, Ab_, nb_, cb_, by simp only [Act.put, List.setIfInBounds_toArray, List.set_cons_succ, List.set_cons_zero], hD, bb_, hB_, hgb⟩
      ·
        intro K hK
        simp only [nthOp]
        go_wp2_with fail
        have hx_ := Ext.new w31 (.cells #[.bool false, .slice none 0 0] 24)
        have bb_ : Blk (w31.alloc (.cells #[.bool false, .slice none 0 0] 24)) w31.heap.size 24 #[.bool false, .slice none 0 0] := Blk.new _ _ _
        have hgb : w29.heap.size ≤ w31.heap.size := hB_.size
        replace hB_ := hB_.trans hx_
        replace hX := hX.ext hx_
        replace hY := hY.ext hx_
        replace hZ := hZ.ext hx_
        replace hA := hA.ext hx_
        replace hM := hM.ext hx_
        replace hN := hN.ext hx_
        replace hU := hU.ext hx_
        refine hK _ _ ⟨⟨_, hB_⟩, rfl⟩ ?_
        clear hK K hx_
        generalize w31.alloc (.cells #[.bool false, .slice none 0 0] 24) = w34 at *
        generalize w31.heap.size = gb at *
        refine wpOrdT_act 4 [(true, 5), (true, 6), (true, 7), (false, 9)] (by kernel_rfl) ?_
        intro K hK
        simp only [nthOp]
        go_wp2_with fail
        refine (Sub_ok _ _ u1 y _ hU hY L1.out AY.out).mono ?_
        rintro e w35 ⟨v_, rfl, hret, hx_⟩
        replace hB_ := hB_.trans hx_
        replace hX := hX.ext hx_
        replace hY := hY.ext hx_
        replace hZ := hZ.ext hx_
        replace hA := hA.ext hx_
        replace hM := hM.ext hx_
        replace hN := hN.ext hx_
        replace hU := hU.ext hx_
        replace bb_ := bb_.ext hx_
        rw [H9.out] at hret
        obtain ⟨u_, rfl, hD⟩ := hret
        obtain ⟨sb_, Ab_, nb_, cb_, rfl, hD⟩ := hD.open_
        go_wp2
        refine hK _ _ ⟨⟨w35, hB_⟩, rfl⟩ ?_
        clear hK K hx_
        refine wpOrdT_quiet [5, 6, 7] [(false, 9)] _ (by kernel_rfl) ?_
        simp only [nthOps, nthOp, List.cons_append, List.nil_append]
        repeat (go_big_quiet_step (fail))
        refine wpQuiet_nil ?_
        have kc_ := bb_.cell
        have kf_ := bb_.frozen
        refine wpOrdT_act 9 [] (by kernel_rfl) ?_
        intro K hK
        simp only [nthOp]
        go_wp2_with fail
        clear kc_ kf_
        obtain ⟨hEp, hBp, hFp, hXp, hIp⟩ := box_put (w'' := ((w35.setCell ⟨gb, 0, none⟩ (.bool sb_)).setCell ⟨gb, 1, none⟩ (.slice Ab_ nb_ cb_))) hB_ hgb bb_ sb_ Ab_ nb_ cb_ rfl
        replace hD := hIp _ _ hD
        refine hK _ _ ⟨⟨_, hEp⟩, rfl⟩ ?_
        replace hB_ := hEp
        replace bb_ := hBp
        clear hK K hEp hBp hFp hXp hIp
        exact ⟨_, sa_, Aa_, na_, ca_, sb_, Ab_, nb_, cb_, by simp only [Act.put, List.setIfInBounds_toArray, List.set_cons_succ, List.set_cons_zero], hD, bb_, hB_, hgb⟩
    ·
      intro K hK
      simp only [nthOp]
      go_wp2_with fail
      have hx_ := Ext.new w30 (.cells #[.bool false, .slice none 0 0] 24)
      have bb_ : Blk (w30.alloc (.cells #[.bool false, .slice none 0 0] 24)) w30.heap.size 24 #[.bool false, .slice none 0 0] := Blk.new _ _ _
      have hgb : w29.heap.size ≤ w30.heap.size := hB_.size
      replace hB_ := hB_.trans hx_
      replace hX := hX.ext hx_
      replace hY := hY.ext hx_
      replace hZ := hZ.ext hx_
      replace hA := hA.ext hx_
      replace hM := hM.ext hx_
      replace hN := hN.ext hx_
      refine hK _ _ ⟨⟨_, hB_⟩, rfl⟩ ?_
      clear hK K hx_
      generalize w30.alloc (.cells #[.bool false, .slice none 0 0] 24) = w36 at *
      generalize w30.heap.size = gb at *
      refine wpOrdT_act 2 [(false, 4), (true, 5), (true, 6), (true, 7), (false, 9)] (by kernel_rfl) ?_
      intro K hK
      simp only [nthOp]
      go_wp2_with fail
      refine (lsum_ok _ _ x y u1 _ hX hY AX.out AY.out H1.out).mono ?_
      rintro e w37 ⟨v_, rfl, hU, hx_⟩
      replace hB_ := hB_.trans hx_
      replace hX := hX.ext hx_
      replace hY := hY.ext hx_
      replace hZ := hZ.ext hx_
      replace hA := hA.ext hx_
      replace hM := hM.ext hx_
      replace hN := hN.ext hx_
      replace bb_ := bb_.ext hx_
      obtain ⟨sa_, Aa_, na_, ca_, rfl, hU⟩ := hU.open_
      go_wp2
      refine hK _ _ ⟨⟨w37, hB_⟩, rfl⟩ ?_
      clear hK K hx_
      refine wpOrdT_act 4 [(true, 5), (true, 6), (true, 7), (false, 9)] (by kernel_rfl) ?_
      intro K hK
      simp only [nthOp]
      go_wp2_with fail
      refine (Sub_ok _ _ u1 y _ hU hY L1.out AY.out).mono ?_
      rintro e w38 ⟨v_, rfl, hret, hx_⟩
      replace hB_ := hB_.trans hx_
      replace hX := hX.ext hx_
      replace hY := hY.ext hx_
      replace hZ := hZ.ext hx_
      replace hA := hA.ext hx_
      replace hM := hM.ext hx_
      replace hN := hN.ext hx_
      replace bb_ := bb_.ext hx_
      replace hU := hU.ext hx_
      rw [H9.out] at hret
      obtain ⟨u_, rfl, hD⟩ := hret
      obtain ⟨sb_, Ab_, nb_, cb_, rfl, hD⟩ := hD.open_
      go_wp2
      refine hK _ _ ⟨⟨w38, hB_⟩, rfl⟩ ?_
      clear hK K hx_
      refine wpOrdT_quiet [5, 6, 7] [(false, 9)] _ (by kernel_rfl) ?_
      simp only [nthOps, nthOp, List.cons_append, List.nil_append]
      repeat (go_big_quiet_step (fail))
      refine wpQuiet_nil ?_
      have kc_ := bb_.cell
      have kf_ := bb_.frozen
      refine wpOrdT_act 9 [] (by kernel_rfl) ?_
      intro K hK
      simp only [nthOp]
      go_wp2_with fail
      clear kc_ kf_
      obtain ⟨hEp, hBp, hFp, hXp, hIp⟩ := box_put (w'' := ((w38.setCell ⟨gb, 0, none⟩ (.bool sb_)).setCell ⟨gb, 1, none⟩ (.slice Ab_ nb_ cb_))) hB_ hgb bb_ sb_ Ab_ nb_ cb_ rfl
      replace hD := hIp _ _ hD
      refine hK _ _ ⟨⟨_, hEp⟩, rfl⟩ ?_
      replace hB_ := hEp
      replace bb_ := hBp
      clear hK K hEp hBp hFp hXp hIp
      exact ⟨_, sa_, Aa_, na_, ca_, sb_, Ab_, nb_, cb_, by simp only [Act.put, List.setIfInBounds_toArray, List.set_cons_succ, List.set_cons_zero], hD, bb_, hB_, hgb⟩
  rintro a' w39 ⟨g11, sa_, Aa_, na_, ca_, sb_, Ab_, nb_, cb_, rfl, hD, b11, hx_, hge11⟩
  clear Y3 Y4 Y5 Y7 Y8 Y9
  simp only [Act.put, List.setIfInBounds_toArray, List.set_cons_succ, List.set_cons_zero, List.drop_succ_cons, List.drop_zero]
  replace b3 := b3.ext hx_
  replace b4 := b4.ext hx_
  replace b5 := b5.ext hx_
  replace b7 := b7.ext hx_
  replace b8 := b8.ext hx_
  replace b9 := b9.ext hx_
  replace hX := hX.ext hx_
  replace hY := hY.ext hx_
  replace hZ := hZ.ext hx_
  replace hA := hA.ext hx_
  replace hM := hM.ext hx_
  replace hN := hN.ext hx_
  have hgw11 : w.heap.size ≤ g11 := Nat.le_trans hE.size hge11
  have hne_3_11 : g ≠ g11 := by omega
  have hne_4_11 : g + 1 ≠ g11 := by omega
  have hne_5_11 : g + 2 ≠ g11 := by omega
  have hne_7_11 : g7 ≠ g11 := by omega
  have hne_8_11 : g8 ≠ g11 := by omega
  have hne_9_11 : g9 ≠ g11 := by omega
  clear hlt_3 hlt_4 hlt_5 hlt_7 hlt_8 hlt_9
  replace hE := hE.trans hx_
  go_wp2_with fail
  have Y3 := ExtOf.blk b3
  have Y4 := ExtOf.blk b4
  have Y5 := ExtOf.blk b5
  have Y7 := ExtOf.blk b7
  have Y8 := ExtOf.blk b8
  have Y9 := ExtOf.blk b9
  have Y11 := ExtOf.blk b11
  have hB_ : Ext w39 w39.drew := (Ext.refl _).drew
  replace hX := hX.ext hB_
  replace hY := hY.ext hB_
  replace hZ := hZ.ext hB_
  replace hA := hA.ext hB_
  replace hM := hM.ext hB_
  replace hN := hN.ext hB_
  replace hD := hD.ext hB_
  refine wp_region_ordE 43 [(true, 0), (true, 1), (true, 2), (true, 3), (false, 4), (false, 5), (false, 6), (true, 7), (true, 8), (true, 9), (true, 10), (true, 11), (false, 12), (false, 13), (false, 14), (true, 15), (true, 16), (true, 17), (true, 18), (true, 19), (true, 22), (true, 23), (true, 25), (true, 26), (false, 20), (false, 21), (false, 24), (false, 27), (false, 28), (false, 29), (true, 30), (true, 31), (true, 32), (true, 33), (false, 34), (true, 35), (true, 36), (true, 37), (true, 38), (false, 39), (false, 40), (true, 41), (true, 42)] (by kernel_rfl) (by kernel_rfl) ?_
  refine wpOrdT_quiet [0, 1, 2, 3] [(false, 4), (false, 5), (false, 6), (true, 7), (true, 8), (true, 9), (true, 10), (true, 11), (false, 12), (false, 13), (false, 14), (true, 15), (true, 16), (true, 17), (true, 18), (true, 19), (true, 22), (true, 23), (true, 25), (true, 26), (false, 20), (false, 21), (false, 24), (false, 27), (false, 28), (false, 29), (true, 30), (true, 31), (true, 32), (true, 33), (false, 34), (true, 35), (true, 36), (true, 37), (true, 38), (false, 39), (false, 40), (true, 41), (true, 42)] _ (by kernel_rfl) ?_
  simp only [nthOps, nthOp, List.cons_append, List.nil_append]
  repeat (go_big_quiet_step (fail))
  refine wpQuiet_nil ?_
  refine wpOrdT_act 4 [(false, 5), (false, 6), (true, 7), (true, 8), (true, 9), (true, 10), (true, 11), (false, 12), (false, 13), (false, 14), (true, 15), (true, 16), (true, 17), (true, 18), (true, 19), (true, 22), (true, 23), (true, 25), (true, 26), (false, 20), (false, 21), (false, 24), (false, 27), (false, 28), (false, 29), (true, 30), (true, 31), (true, 32), (true, 33), (false, 34), (true, 35), (true, 36), (true, 37), (true, 38), (false, 39), (false, 40), (true, 41), (true, 42)] (by kernel_rfl) ?_
  intro K hK
  simp only [nthOp]
  go_wp2_with fail
  refine (lsum_ok _ _ y x u1 _ hY hX AY.out AX.out H1'.out).mono ?_
  rintro e w40 ⟨v_, rfl, q1, hx_⟩
  replace hB_ := hB_.trans hx_
  replace hX := hX.ext hx_
  replace hY := hY.ext hx_
  replace hZ := hZ.ext hx_
  replace hA := hA.ext hx_
  replace hM := hM.ext hx_
  replace hN := hN.ext hx_
  replace hD := hD.ext hx_
  go_wp2
  refine hK _ _ ⟨⟨w40, hB_⟩, rfl⟩ ?_
  clear hK K hx_
  refine wpOrdT_act 5 [(false, 6), (true, 7), (true, 8), (true, 9), (true, 10), (true, 11), (false, 12), (false, 13), (false, 14), (true, 15), (true, 16), (true, 17), (true, 18), (true, 19), (true, 22), (true, 23), (true, 25), (true, 26), (false, 20), (false, 21), (false, 24), (false, 27), (false, 28), (false, 29), (true, 30), (true, 31), (true, 32), (true, 33), (false, 34), (true, 35), (true, 36), (true, 37), (true, 38), (false, 39), (false, 40), (true, 41), (true, 42)] (by kernel_rfl) ?_
  intro K hK
  simp only [nthOp]
  go_wp2_with fail
  refine (lsum_ok _ _ z u1 za _ hZ q1 AZ.out L1.out H2'.out).mono ?_
  rintro e w41 ⟨v_, rfl, q2, hx_⟩
  replace hB_ := hB_.trans hx_
  replace hX := hX.ext hx_
  replace hY := hY.ext hx_
  replace hZ := hZ.ext hx_
  replace hA := hA.ext hx_
  replace hM := hM.ext hx_
  replace hN := hN.ext hx_
  replace hD := hD.ext hx_
  replace q1 := q1.ext hx_
  go_wp2
  refine hK _ _ ⟨⟨w41, hB_⟩, rfl⟩ ?_
  clear hK K hx_
  refine wpOrdT_act 6 [(true, 7), (true, 8), (true, 9), (true, 10), (true, 11), (false, 12), (false, 13), (false, 14), (true, 15), (true, 16), (true, 17), (true, 18), (true, 19), (true, 22), (true, 23), (true, 25), (true, 26), (false, 20), (false, 21), (false, 24), (false, 27), (false, 28), (false, 29), (true, 30), (true, 31), (true, 32), (true, 33), (false, 34), (true, 35), (true, 36), (true, 37), (true, 38), (false, 39), (false, 40), (true, 41), (true, 42)] (by kernel_rfl) ?_
  intro K hK
  simp only [nthOp]
  go_wp2_with fail
  refine (rSame_any _ _ za za _ hA q2).mono ?_
  rintro e w42 ⟨rfl, hx_⟩
  replace hB_ := hB_.trans hx_
  replace hX := hX.ext hx_
  replace hY := hY.ext hx_
  replace hZ := hZ.ext hx_
  replace hA := hA.ext hx_
  replace hM := hM.ext hx_
  replace hN := hN.ext hx_
  replace hD := hD.ext hx_
  replace q1 := q1.ext hx_
  replace q2 := q2.ext hx_
  rw [show decide (za = za) = true by simp]
  go_wp2
  refine hK _ _ ⟨⟨w42, hB_⟩, rfl⟩ ?_
  clear hK K hx_
  refine wpOrdT_quiet [7, 8, 9, 10, 11] [(false, 12), (false, 13), (false, 14), (true, 15), (true, 16), (true, 17), (true, 18), (true, 19), (true, 22), (true, 23), (true, 25), (true, 26), (false, 20), (false, 21), (false, 24), (false, 27), (false, 28), (false, 29), (true, 30), (true, 31), (true, 32), (true, 33), (false, 34), (true, 35), (true, 36), (true, 37), (true, 38), (false, 39), (false, 40), (true, 41), (true, 42)] _ (by kernel_rfl) ?_
  simp only [nthOps, nthOp, List.cons_append, List.nil_append]
  repeat (go_big_quiet_step (fail))
  refine wpQuiet_nil ?_
  refine wpOrdT_act 12 [(false, 13), (false, 14), (true, 15), (true, 16), (true, 17), (true, 18), (true, 19), (true, 22), (true, 23), (true, 25), (true, 26), (false, 20), (false, 21), (false, 24), (false, 27), (false, 28), (false, 29), (true, 30), (true, 31), (true, 32), (true, 33), (false, 34), (true, 35), (true, 36), (true, 37), (true, 38), (false, 39), (false, 40), (true, 41), (true, 42)] (by kernel_rfl) ?_
  intro K hK
  simp only [nthOp]
  go_wp2_with fail
  refine (lproduct_ok _ _ y x p1 _ hY hX AY.out AX.out H3'.out).mono ?_
  rintro e w43 ⟨v_, rfl, q3, hx_⟩
  replace hB_ := hB_.trans hx_
  replace hX := hX.ext hx_
  replace hY := hY.ext hx_
  replace hZ := hZ.ext hx_
  replace hA := hA.ext hx_
  replace hM := hM.ext hx_
  replace hN := hN.ext hx_
  replace hD := hD.ext hx_
  replace q1 := q1.ext hx_
  replace q2 := q2.ext hx_
  go_wp2
  refine hK _ _ ⟨⟨w43, hB_⟩, rfl⟩ ?_
  clear hK K hx_
  refine wpOrdT_act 13 [(false, 14), (true, 15), (true, 16), (true, 17), (true, 18), (true, 19), (true, 22), (true, 23), (true, 25), (true, 26), (false, 20), (false, 21), (false, 24), (false, 27), (false, 28), (false, 29), (true, 30), (true, 31), (true, 32), (true, 33), (false, 34), (true, 35), (true, 36), (true, 37), (true, 38), (false, 39), (false, 40), (true, 41), (true, 42)] (by kernel_rfl) ?_
  intro K hK
  simp only [nthOp]
  go_wp2_with fail
  refine (lproduct_ok _ _ z p1 zm _ hZ q3 AZ.out L3.out H4'.out).mono ?_
  rintro e w44 ⟨v_, rfl, q4, hx_⟩
  replace hB_ := hB_.trans hx_
  replace hX := hX.ext hx_
  replace hY := hY.ext hx_
  replace hZ := hZ.ext hx_
  replace hA := hA.ext hx_
  replace hM := hM.ext hx_
  replace hN := hN.ext hx_
  replace hD := hD.ext hx_
  replace q1 := q1.ext hx_
  replace q2 := q2.ext hx_
  replace q3 := q3.ext hx_
  go_wp2
  refine hK _ _ ⟨⟨w44, hB_⟩, rfl⟩ ?_
  clear hK K hx_
  refine wpOrdT_act 14 [(true, 15), (true, 16), (true, 17), (true, 18), (true, 19), (true, 22), (true, 23), (true, 25), (true, 26), (false, 20), (false, 21), (false, 24), (false, 27), (false, 28), (false, 29), (true, 30), (true, 31), (true, 32), (true, 33), (false, 34), (true, 35), (true, 36), (true, 37), (true, 38), (false, 39), (false, 40), (true, 41), (true, 42)] (by kernel_rfl) ?_
  intro K hK
  simp only [nthOp]
  go_wp2_with fail
  refine (rSame_any _ _ zm zm _ hM q4).mono ?_
  rintro e w45 ⟨rfl, hx_⟩
  replace hB_ := hB_.trans hx_
  replace hX := hX.ext hx_
  replace hY := hY.ext hx_
  replace hZ := hZ.ext hx_
  replace hA := hA.ext hx_
  replace hM := hM.ext hx_
  replace hN := hN.ext hx_
  replace hD := hD.ext hx_
  replace q1 := q1.ext hx_
  replace q2 := q2.ext hx_
  replace q3 := q3.ext hx_
  replace q4 := q4.ext hx_
  rw [show decide (zm = zm) = true by simp]
  go_wp2
  refine hK _ _ ⟨⟨w45, hB_⟩, rfl⟩ ?_
  clear hK K hx_
  refine wpOrdT_quiet [15, 16, 17, 18, 19, 22, 23, 25, 26] [(false, 20), (false, 21), (false, 24), (false, 27), (false, 28), (false, 29), (true, 30), (true, 31), (true, 32), (true, 33), (false, 34), (true, 35), (true, 36), (true, 37), (true, 38), (false, 39), (false, 40), (true, 41), (true, 42)] _ (by kernel_rfl) ?_
  simp only [nthOps, nthOp, List.cons_append, List.nil_append]
  repeat (go_big_quiet_step (fail))
  refine wpQuiet_nil ?_
  refine wpOrdT_act 20 [(false, 21), (false, 24), (false, 27), (false, 28), (false, 29), (true, 30), (true, 31), (true, 32), (true, 33), (false, 34), (true, 35), (true, 36), (true, 37), (true, 38), (false, 39), (false, 40), (true, 41), (true, 42)] (by kernel_rfl) ?_
  intro K hK
  simp only [nthOp]
  go_wp2_with fail
  refine (lsum_ok _ _ y z u2 _ hY hZ AY.out AZ.out H5.out).mono ?_
  rintro e w46 ⟨v_, rfl, q5, hx_⟩
  replace hB_ := hB_.trans hx_
  replace hX := hX.ext hx_
  replace hY := hY.ext hx_
  replace hZ := hZ.ext hx_
  replace hA := hA.ext hx_
  replace hM := hM.ext hx_
  replace hN := hN.ext hx_
  replace hD := hD.ext hx_
  replace q1 := q1.ext hx_
  replace q2 := q2.ext hx_
  replace q3 := q3.ext hx_
  replace q4 := q4.ext hx_
  go_wp2
  refine hK _ _ ⟨⟨w46, hB_⟩, rfl⟩ ?_
  clear hK K hx_
  refine wpOrdT_act 21 [(false, 24), (false, 27), (false, 28), (false, 29), (true, 30), (true, 31), (true, 32), (true, 33), (false, 34), (true, 35), (true, 36), (true, 37), (true, 38), (false, 39), (false, 40), (true, 41), (true, 42)] (by kernel_rfl) ?_
  intro K hK
  simp only [nthOp]
  go_wp2_with fail
  refine (lproduct_ok _ _ x u2 zd _ hX q5 AX.out L5.out H7.out).mono ?_
  rintro e w47 ⟨v_, rfl, q6, hx_⟩
  replace hB_ := hB_.trans hx_
  replace hX := hX.ext hx_
  replace hY := hY.ext hx_
  replace hZ := hZ.ext hx_
  replace hA := hA.ext hx_
  replace hM := hM.ext hx_
  replace hN := hN.ext hx_
  replace hD := hD.ext hx_
  replace q1 := q1.ext hx_
  replace q2 := q2.ext hx_
  replace q3 := q3.ext hx_
  replace q4 := q4.ext hx_
  replace q5 := q5.ext hx_
  go_wp2
  refine hK _ _ ⟨⟨w47, hB_⟩, rfl⟩ ?_
  clear hK K hx_
  refine wpOrdT_act 24 [(false, 27), (false, 28), (false, 29), (true, 30), (true, 31), (true, 32), (true, 33), (false, 34), (true, 35), (true, 36), (true, 37), (true, 38), (false, 39), (false, 40), (true, 41), (true, 42)] (by kernel_rfl) ?_
  intro K hK
  simp only [nthOp]
  go_wp2_with fail
  refine (lproduct_ok _ _ x y p1 _ hX hY AX.out AY.out H3.out).mono ?_
  rintro e w48 ⟨v_, rfl, q7, hx_⟩
  replace hB_ := hB_.trans hx_
  replace hX := hX.ext hx_
  replace hY := hY.ext hx_
  replace hZ := hZ.ext hx_
  replace hA := hA.ext hx_
  replace hM := hM.ext hx_
  replace hN := hN.ext hx_
  replace hD := hD.ext hx_
  replace q1 := q1.ext hx_
  replace q2 := q2.ext hx_
  replace q3 := q3.ext hx_
  replace q4 := q4.ext hx_
  replace q5 := q5.ext hx_
  replace q6 := q6.ext hx_
  go_wp2
  refine hK _ _ ⟨⟨w48, hB_⟩, rfl⟩ ?_
  clear hK K hx_
  refine wpOrdT_act 27 [(false, 28), (false, 29), (true, 30), (true, 31), (true, 32), (true, 33), (false, 34), (true, 35), (true, 36), (true, 37), (true, 38), (false, 39), (false, 40), (true, 41), (true, 42)] (by kernel_rfl) ?_
  intro K hK
  simp only [nthOp]
  go_wp2_with fail
  refine (lproduct_ok _ _ x z p2 _ hX hZ AX.out AZ.out H6.out).mono ?_
  rintro e w49 ⟨v_, rfl, q8, hx_⟩
  replace hB_ := hB_.trans hx_
  replace hX := hX.ext hx_
  replace hY := hY.ext hx_
  replace hZ := hZ.ext hx_
  replace hA := hA.ext hx_
  replace hM := hM.ext hx_
  replace hN := hN.ext hx_
  replace hD := hD.ext hx_
  replace q1 := q1.ext hx_
  replace q2 := q2.ext hx_
  replace q3 := q3.ext hx_
  replace q4 := q4.ext hx_
  replace q5 := q5.ext hx_
  replace q6 := q6.ext hx_
  replace q7 := q7.ext hx_
  go_wp2
  refine hK _ _ ⟨⟨w49, hB_⟩, rfl⟩ ?_
  clear hK K hx_
  refine wpOrdT_act 28 [(false, 29), (true, 30), (true, 31), (true, 32), (true, 33), (false, 34), (true, 35), (true, 36), (true, 37), (true, 38), (false, 39), (false, 40), (true, 41), (true, 42)] (by kernel_rfl) ?_
  intro K hK
  simp only [nthOp]
  go_wp2_with fail
  refine (lsum_ok _ _ p1 p2 zd _ q7 q8 L3.out L6.out H7'.out).mono ?_
  rintro e w50 ⟨v_, rfl, q9, hx_⟩
  replace hB_ := hB_.trans hx_
  replace hX := hX.ext hx_
  replace hY := hY.ext hx_
  replace hZ := hZ.ext hx_
  replace hA := hA.ext hx_
  replace hM := hM.ext hx_
  replace hN := hN.ext hx_
  replace hD := hD.ext hx_
  replace q1 := q1.ext hx_
  replace q2 := q2.ext hx_
  replace q3 := q3.ext hx_
  replace q4 := q4.ext hx_
  replace q5 := q5.ext hx_
  replace q6 := q6.ext hx_
  replace q7 := q7.ext hx_
  replace q8 := q8.ext hx_
  go_wp2
  refine hK _ _ ⟨⟨w50, hB_⟩, rfl⟩ ?_
  clear hK K hx_
  refine wpOrdT_act 29 [(true, 30), (true, 31), (true, 32), (true, 33), (false, 34), (true, 35), (true, 36), (true, 37), (true, 38), (false, 39), (false, 40), (true, 41), (true, 42)] (by kernel_rfl) ?_
  intro K hK
  simp only [nthOp]
  go_wp2_with fail
  refine (rSame_any _ _ zd zd _ q6 q9).mono ?_
  rintro e w51 ⟨rfl, hx_⟩
  replace hB_ := hB_.trans hx_
  replace hX := hX.ext hx_
  replace hY := hY.ext hx_
  replace hZ := hZ.ext hx_
  replace hA := hA.ext hx_
  replace hM := hM.ext hx_
  replace hN := hN.ext hx_
  replace hD := hD.ext hx_
  replace q1 := q1.ext hx_
  replace q2 := q2.ext hx_
  replace q3 := q3.ext hx_
  replace q4 := q4.ext hx_
  replace q5 := q5.ext hx_
  replace q6 := q6.ext hx_
  replace q7 := q7.ext hx_
  replace q8 := q8.ext hx_
  replace q9 := q9.ext hx_
  rw [show decide (zd = zd) = true by simp]
  go_wp2
  refine hK _ _ ⟨⟨w51, hB_⟩, rfl⟩ ?_
  clear hK K hx_
  refine wpOrdT_quiet [30, 31, 32, 33] [(false, 34), (true, 35), (true, 36), (true, 37), (true, 38), (false, 39), (false, 40), (true, 41), (true, 42)] _ (by kernel_rfl) ?_
  simp only [nthOps, nthOp, List.cons_append, List.nil_append]
  repeat (go_big_quiet_step (fail))
  refine wpQuiet_nil ?_
  refine wpOrdT_act 34 [(true, 35), (true, 36), (true, 37), (true, 38), (false, 39), (false, 40), (true, 41), (true, 42)] (by kernel_rfl) ?_
  intro K hK
  simp only [nthOp]
  go_wp2_with fail
  refine (rSame_any _ _ x x _ hD hX).mono ?_
  rintro e w52 ⟨rfl, hx_⟩
  replace hB_ := hB_.trans hx_
  replace hX := hX.ext hx_
  replace hY := hY.ext hx_
  replace hZ := hZ.ext hx_
  replace hA := hA.ext hx_
  replace hM := hM.ext hx_
  replace hN := hN.ext hx_
  replace hD := hD.ext hx_
  replace q1 := q1.ext hx_
  replace q2 := q2.ext hx_
  replace q3 := q3.ext hx_
  replace q4 := q4.ext hx_
  replace q5 := q5.ext hx_
  replace q6 := q6.ext hx_
  replace q7 := q7.ext hx_
  replace q8 := q8.ext hx_
  replace q9 := q9.ext hx_
  rw [show decide (x = x) = true by simp]
  go_wp2
  refine hK _ _ ⟨⟨w52, hB_⟩, rfl⟩ ?_
  clear hK K hx_
  refine wpOrdT_quiet [35, 36, 37, 38] [(false, 39), (false, 40), (true, 41), (true, 42)] _ (by kernel_rfl) ?_
  simp only [nthOps, nthOp, List.cons_append, List.nil_append]
  repeat (go_big_quiet_step (fail))
  refine wpQuiet_nil ?_
  refine wpOrdT_act 39 [(false, 40), (true, 41), (true, 42)] (by kernel_rfl) ?_
  intro K hK
  simp only [nthOp]
  go_wp2_with fail
  refine (lsum_ok _ _ y ny 0 _ hY hN AY.out L8.out H0.out).mono ?_
  rintro e w53 ⟨v_, rfl, q10, hx_⟩
  replace hB_ := hB_.trans hx_
  replace hX := hX.ext hx_
  replace hY := hY.ext hx_
  replace hZ := hZ.ext hx_
  replace hA := hA.ext hx_
  replace hM := hM.ext hx_
  replace hN := hN.ext hx_
  replace hD := hD.ext hx_
  replace q1 := q1.ext hx_
  replace q2 := q2.ext hx_
  replace q3 := q3.ext hx_
  replace q4 := q4.ext hx_
  replace q5 := q5.ext hx_
  replace q6 := q6.ext hx_
  replace q7 := q7.ext hx_
  replace q8 := q8.ext hx_
  replace q9 := q9.ext hx_
  go_wp2
  refine hK _ _ ⟨⟨w53, hB_⟩, rfl⟩ ?_
  clear hK K hx_
  refine wpOrdT_act 40 [(true, 41), (true, 42)] (by kernel_rfl) ?_
  intro K hK
  simp only [nthOp]
  go_wp2_with fail
  refine (Sign_ok _ 0 _ q10 HL0.out).mono ?_
  rintro e w54 ⟨rfl, hx_⟩
  replace hB_ := hB_.trans hx_
  replace hX := hX.ext hx_
  replace hY := hY.ext hx_
  replace hZ := hZ.ext hx_
  replace hA := hA.ext hx_
  replace hM := hM.ext hx_
  replace hN := hN.ext hx_
  replace hD := hD.ext hx_
  replace q1 := q1.ext hx_
  replace q2 := q2.ext hx_
  replace q3 := q3.ext hx_
  replace q4 := q4.ext hx_
  replace q5 := q5.ext hx_
  replace q6 := q6.ext hx_
  replace q7 := q7.ext hx_
  replace q8 := q8.ext hx_
  replace q9 := q9.ext hx_
  replace q10 := q10.ext hx_
  rw [HC0.out]
  go_wp2
  refine hK _ _ ⟨⟨w54, hB_⟩, rfl⟩ ?_
  clear hK K hx_
  refine wpOrdT_quiet [41, 42] [] _ (by kernel_rfl) ?_
  simp only [nthOps, nthOp, List.cons_append, List.nil_append]
  repeat (go_big_quiet_step (fail))
  refine wpQuiet_nil ?_
  clear Y3 Y4 Y5 Y7 Y8 Y9 Y11
  replace b3 := b3.ext hB_
  replace b4 := b4.ext hB_
  replace b5 := b5.ext hB_
  replace b7 := b7.ext hB_
  replace b8 := b8.ext hB_
  replace b9 := b9.ext hB_
  replace b11 := b11.ext hB_
  replace hE := hE.trans hB_
  clear hB_
  simp only [wpOrdT, List.drop_succ_cons, List.drop_zero]
  go_wp2
  go_ret
  exact ⟨rfl, hE⟩
end Go.Proofs.YtfdpbcjcinchgaaDoor
