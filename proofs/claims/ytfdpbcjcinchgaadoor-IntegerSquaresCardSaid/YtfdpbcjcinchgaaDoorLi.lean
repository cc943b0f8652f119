/- (x + y) * (x - y) = x * x - y * y: the walk (printed by wip/tools/gen_squares.py). -/
import Derived.Test.YtfdpbcjcinchgaaDoorLd
import Derived.Test.YtfdpbcjcinchgaaDoorOrd3
namespace Go.Proofs.YtfdpbcjcinchgaaDoor
open Go.RowKit
set_option linter.unusedVariables false

theorem squares_eq (x y : Int) : (x + y) * (x - y) = x * x - y * y := by
  rw [Int.mul_sub, Int.add_mul, Int.add_mul, Int.mul_comm y x]; omega
theorem sq_abs (x : Int) : x * x = ((x.natAbs * x.natAbs : Nat) : Int) := by
  rw [Int.natCast_mul]; exact Int.natAbs_mul_self.symm
theorem sq_lt {a b : Nat} : a * a < b * b ↔ a < b := Nat.mul_self_lt_mul_self_iff
theorem cmp_squares (x y : Int) : cmpZ (x * x) (y * y) = cmpZ (x.natAbs : Int) (y.natAbs : Int) := by
  unfold cmpZ
  rw [sq_abs, sq_abs]
  have h1 : (((x.natAbs * x.natAbs : Nat) : Int) < ((y.natAbs * y.natAbs : Nat) : Int)) = ((x.natAbs : Int) < (y.natAbs : Int)) := by
    rw [Int.ofNat_lt, Int.ofNat_lt]; exact propext sq_lt
  have h2 : (((y.natAbs * y.natAbs : Nat) : Int) < ((x.natAbs * x.natAbs : Nat) : Int)) = ((y.natAbs : Int) < (x.natAbs : Int)) := by
    rw [Int.ofNat_lt, Int.ofNat_lt]; exact propext sq_lt
  simp only [h1, h2]

set_option maxRecDepth 100000 in
set_option maxHeartbeats 6400000 in
theorem squares_small (v0 v1 : Value) (x y : Int) (w : World) (hX : RI w v0 x) (hY : RI w v1 y) (fx : Fits 40 x) (fy : Fits 40 y)
    (lx : (digs x.natAbs).length ≤ 40) (ly : (digs y.natAbs).length ≤ 40) :
    Calls Tryd.prog 9 #[v0, v1] w fun e w' => e = .returned (.bool true) ∧ Ext w w' := by
  obtain ⟨A0, n0, c0, rfl, hx⟩ := hX
  obtain ⟨A1, n1, c1, rfl, hy⟩ := hY
  have hn : n0 ≤ 40 := by have := hx.len; omega
  have hm : n1 ≤ 40 := by have := hy.len; omega
  have hX : RI w (iv (decide (x < 0)) A0 n0 c0) x := ⟨A0, n0, c0, rfl, hx⟩
  have hY : RI w (iv (decide (y < 0)) A1 n1 c1) y := ⟨A1, n1, c1, rfl, hy⟩
  clear hx hy
  generalize decide (x < 0) = s0 at *
  generalize decide (y < 0) = s1 at *
  have AX := Lib.hid (fx.lim (by decide)); have AY := Lib.hid (fy.lim (by decide))
  have heq := squares_eq x y
  have hcs := cmp_squares x y
  obtain ⟨dd, hdd⟩ : ∃ i, i = x - y := ⟨_, rfl⟩
  obtain ⟨xx, hxx⟩ : ∃ i, i = x * x := ⟨_, rfl⟩
  obtain ⟨yy, hyy⟩ : ∃ i, i = y * y := ⟨_, rfl⟩
  obtain ⟨ss, hss⟩ : ∃ i, i = xx - yy := ⟨_, rfl⟩
  obtain ⟨u1, hu1⟩ : ∃ i, i = x + y := ⟨_, rfl⟩
  obtain ⟨ax, hax⟩ : ∃ i, i = (x.natAbs : Int) := ⟨_, rfl⟩
  obtain ⟨ay, hay⟩ : ∃ i, i = (y.natAbs : Int) := ⟨_, rfl⟩
  rw [← hu1, ← hdd, ← hxx, ← hyy, ← hss] at heq
  rw [← hxx, ← hyy, ← hax, ← hay] at hcs
  have f1 : Fits 41 dd := by rw [hdd]; exact fx.sub fy
  have f2 : Fits 80 xx := by rw [hxx]; exact fx.mul fx
  have f3 : Fits 80 yy := by rw [hyy]; exact fy.mul fy
  have f4 : Fits 81 ss := by rw [hss]; exact f2.sub f3
  have f5 : Fits 41 u1 := by rw [hu1]; exact fx.add fy
  have f6 : Fits 40 ax := by rw [hax]; exact fx.abs
  have f7 : Fits 40 ay := by rw [hay]; exact fy.abs
  have H1 : Hid (resS (x - y) = (dd, 0)) := Lib.hid (by rw [← hdd]; exact resS_fits f1 (by decide))
  have H2 : Hid (xx = (resS (x * x)).1) := Lib.hid (by rw [← hxx]; exact res_fits f2 (by decide))
  have H3 : Hid (yy = (resS (y * y)).1) := Lib.hid (by rw [← hyy]; exact res_fits f3 (by decide))
  have H4 : Hid (resS (xx - yy) = (ss, 0)) := Lib.hid (by rw [← hss]; exact resS_fits f4 (by decide))
  have H5 : Hid (u1 = (resS (x + y)).1) := Lib.hid (by rw [← hu1]; exact res_fits f5 (by decide))
  have H6 : Hid (ss = (resS (u1 * dd)).1) := Lib.hid (by rw [heq]; exact res_fits f4 (by decide))
  obtain ⟨cc, hcc⟩ : ∃ i, cmpZ ax ay = i := ⟨_, rfl⟩
  have HC1 : Hid (cmpZ xx yy = cc) := Lib.hid (hcs.trans hcc)
  have HC2 : Hid (cmpZ ax ay = cc) := Lib.hid hcc
  have HAX : Hid (ax = (x.natAbs : Int)) := Lib.hid hax
  have HAY : Hid (ay = (y.natAbs : Int)) := Lib.hid hay
  have tcc : (cc == cc) = true := by simp
  have L1 := Lib.hid (f1.lim (by decide)); have L2 := Lib.hid (f2.lim (by decide)); have L3 := Lib.hid (f3.lim (by decide)); have L4 := Lib.hid (f4.lim (by decide))
  have L5 := Lib.hid (f5.lim (by decide)); have L6 := Lib.hid (f6.lim (by decide)); have L7 := Lib.hid (f7.lim (by decide))
  clear heq hcs hdd hxx hyy hss hu1 hax hay hcc f1 f2 f3 f4 f5 f6 f7 fx fy lx ly
  have hE : Ext w ((w.alloc (.cells #[.bool s0, .slice A0 n0 c0] 24)).alloc (.cells #[.bool s1, .slice A1 n1 c1] 24)) := (Ext.new w _).alloc _
  have b2 : Blk ((w.alloc (.cells #[.bool s0, .slice A0 n0 c0] 24)).alloc (.cells #[.bool s1, .slice A1 n1 c1] 24)) (w.heap.size) 24 #[.bool s0, .slice A0 n0 c0] := (Blk.new' _ _ (by simp)).alloc _
  have b3 : Blk ((w.alloc (.cells #[.bool s0, .slice A0 n0 c0] 24)).alloc (.cells #[.bool s1, .slice A1 n1 c1] 24)) (w.heap.size + 1) 24 #[.bool s1, .slice A1 n1 c1] := Blk.new' _ _ (by simp)
  go_enter Tryd.func9, Tryd.ntmps9
  go_wp2_with fail
  generalize ((w.alloc (.cells #[.bool s0, .slice A0 n0 c0] 24)).alloc (.cells #[.bool s1, .slice A1 n1 c1] 24)) = w0 at *
  generalize hg : w.heap.size = g at *
  have HG := Lib.hid hg; clear hg
  replace hX := hX.ext hE
  replace hY := hY.ext hE
  refine (known_any _).mono ?_
  rintro e w1 ⟨rfl, hx_⟩
  replace b2 := b2.ext hx_
  replace b3 := b3.ext hx_
  replace hX := hX.ext hx_
  replace hY := hY.ext hx_
  replace hE := hE.trans hx_
  clear hx_
  have k2 := b2.cell
  have k3 := b3.cell
  go_wp2_with fail
  have hbs := Blk.new w1 24 #[.bool s0, .slice A0 n0 c0, .bool s1, .slice A1 n1 c1]
  have hx0 := Ext.new w1 (.cells #[.bool s0, .slice A0 n0 c0, .bool s1, .slice A1 n1 c1] 24)
  replace b2 := b2.ext hx0
  replace b3 := b3.ext hx0
  replace hX := hX.ext hx0
  replace hY := hY.ext hx0
  replace hE := hE.trans hx0
  clear hx0
  refine (Large_any w1.heap.size 2 [(A0, n0, c0), (A1, n1, c1)] _ (by simp) (large2 hbs)).mono ?_
  rintro e w2 ⟨rfl, hx_⟩
  rw [large2_no (by omega) (by omega)]
  replace b2 := b2.ext hx_
  replace b3 := b3.ext hx_
  replace hX := hX.ext hx_
  replace hY := hY.ext hx_
  replace hE := hE.trans hx_
  clear hx_ hbs
  clear k2 k3
  have k2 := b2.cell
  have k3 := b3.cell
  go_wp2_with fail
  refine (rValid_ri _ x _ hX AX.out).mono ?_
  rintro e w3 ⟨rfl, hx_⟩
  replace b2 := b2.ext hx_
  replace b3 := b3.ext hx_
  replace hX := hX.ext hx_
  replace hY := hY.ext hx_
  replace hE := hE.trans hx_
  clear hx_
  clear k2 k3
  have k2 := b2.cell
  have k3 := b3.cell
  go_wp2_with fail
  refine (rValid_ri _ y _ hY AY.out).mono ?_
  rintro e w4 ⟨rfl, hx_⟩
  replace b2 := b2.ext hx_
  replace b3 := b3.ext hx_
  replace hX := hX.ext hx_
  replace hY := hY.ext hx_
  replace hE := hE.trans hx_
  clear hx_
  clear k2 k3
  have k2 := b2.cell
  have k3 := b3.cell
  go_wp2_with fail
  refine (Sub_ok _ _ x y _ hX hY AX.out AY.out).mono ?_
  rintro e w5 ⟨v_, rfl, hret, hx_⟩
  replace b2 := b2.ext hx_
  replace b3 := b3.ext hx_
  replace hX := hX.ext hx_
  replace hY := hY.ext hx_
  replace hE := hE.trans hx_
  clear hx_
  clear k2 k3
  rw [H1.out] at hret
  obtain ⟨u_, rfl, hD⟩ := hret
  obtain ⟨sd, Ad, nd, cd, rfl, hD⟩ := hD.open_
  have hx_ : Ext w5 (w5.alloc (.cells #[.bool sd, .slice Ad nd cd] 24)) := Ext.new _ _
  have b5 : Blk (w5.alloc (.cells #[.bool sd, .slice Ad nd cd] 24)) w5.heap.size 24 #[.bool sd, .slice Ad nd cd] := Blk.new' _ _ (by simp)
  replace b2 := b2.ext hx_
  replace b3 := b3.ext hx_
  replace hX := hX.ext hx_
  replace hY := hY.ext hx_
  replace hD := hD.ext hx_
  replace hE := hE.trans hx_
  clear hx_
  go_wp2_with fail
  generalize (w5.alloc (.cells #[.bool sd, .slice Ad nd cd] 24)) = w6 at *
  generalize w5.heap.size = g5 at *
  have Y2 := ExtOf.blk b2
  have Y3 := ExtOf.blk b3
  have Y5 := ExtOf.blk b5
  have hlt_2 := b2.lt
  have hlt_3 := b3.lt
  have hlt_5 := b5.lt
  refine wp_region_ordF 12 10 [(true, 0), (true, 1), (true, 3), (true, 4), (false, 2), (false, 5), (false, 6), (true, 7), (true, 8), (true, 9)] [(false, 11)] (fun a a' w' => ∃ (gb : Nat) (sa_ : Bool) (Aa_ : Option Addr) (na_ ca_ : Nat) (sb_ : Bool) (Ab_ : Option Addr) (nb_ cb_ : Nat) (se_ : Bool) (Ae_ : Option Addr) (ne_ ce_ : Nat), a' = (((((((((((a.put (some 32) (iv s0 A0 n0 c0)).put (some 33) (iv s0 A0 n0 c0)).put (some 34) (iv sa_ Aa_ na_ ca_)).put (some 35) (iv s1 A1 n1 c1)).put (some 36) (iv s1 A1 n1 c1)).put (some 37) (iv sb_ Ab_ nb_ cb_)).put (some 38) (.tuple #[iv se_ Ae_ ne_ ce_, .int .i64 0])).put (some 31) (.tuple #[iv se_ Ae_ ne_ ce_, .int .i64 0])).put (some 39) (iv se_ Ae_ ne_ ce_)).put (some 40) (.int .i64 0)).put (some 7) (.pointer (some ⟨gb, 0, none⟩))) ∧ RI w' (iv se_ Ae_ ne_ ce_) ss ∧ Blk w' gb 24 #[.bool se_, .slice Ae_ ne_ ce_] ∧ Ext w6 w' ∧ w6.heap.size ≤ gb) (by kernel_rfl) (by kernel_rfl) ?_ ?_
  ·
    have hB_ : Ext w6 w6.drew := (Ext.refl _).drew
    replace hX := hX.ext hB_
    replace hY := hY.ext hB_
    replace hD := hD.ext hB_
    generalize w6.drew = w7 at *
    refine wpOrdF_quiet [0, 1, 3, 4] [(false, 2), (false, 5), (false, 6), (true, 7), (true, 8), (true, 9)] _ (by kernel_rfl) ?_
    simp only [nthOps, nthOp, List.cons_append, List.nil_append]
    repeat (go_big_quiet_step (fail))
    refine wpQuiet_nil ?_
    refine wpOrdF_act 2 [(false, 5), (false, 6), (true, 7), (true, 8), (true, 9)] (by kernel_rfl) (by kernel_rfl) ?_ ?_
    ·
      intro K hK
      simp only [nthOp]
      go_wp2_with fail
      refine (lproduct_ok _ _ x x xx _ hX hX AX.out AX.out H2.out).mono ?_
      rintro e w8 ⟨v_, rfl, hP, hx_⟩
      replace hB_ := hB_.trans hx_
      replace hX := hX.ext hx_
      replace hY := hY.ext hx_
      replace hD := hD.ext hx_
      obtain ⟨sa_, Aa_, na_, ca_, rfl, hP⟩ := hP.open_
      go_wp2
      refine hK _ _ ⟨⟨w8, hB_⟩, rfl⟩ ?_
      clear hK K hx_
      refine wpOrdF_act 5 [(false, 6), (true, 7), (true, 8), (true, 9)] (by kernel_rfl) (by kernel_rfl) ?_ ?_
      ·
        intro K hK
        simp only [nthOp]
        go_wp2_with fail
        refine (lproduct_ok _ _ y y yy _ hY hY AY.out AY.out H3.out).mono ?_
        rintro e w9 ⟨v_, rfl, hQ, hx_⟩
        replace hB_ := hB_.trans hx_
        replace hX := hX.ext hx_
        replace hY := hY.ext hx_
        replace hD := hD.ext hx_
        replace hP := hP.ext hx_
        obtain ⟨sb_, Ab_, nb_, cb_, rfl, hQ⟩ := hQ.open_
        go_wp2
        refine hK _ _ ⟨⟨w9, hB_⟩, rfl⟩ ?_
        clear hK K hx_
        refine wpOrdF_act 6 [(true, 7), (true, 8), (true, 9)] (by kernel_rfl) (by kernel_rfl) ?_ ?_
        ·
          intro K hK
          simp only [nthOp]
          go_wp2_with fail
          refine (Sub_ok _ _ xx yy _ hP hQ L2.out L3.out).mono ?_
          rintro e w10 ⟨v_, rfl, hret, hx_⟩
          replace hB_ := hB_.trans hx_
          replace hX := hX.ext hx_
          replace hY := hY.ext hx_
          replace hD := hD.ext hx_
          replace hP := hP.ext hx_
          replace hQ := hQ.ext hx_
          rw [H4.out] at hret
          obtain ⟨u_, rfl, hS⟩ := hret
          obtain ⟨se_, Ae_, ne_, ce_, rfl, hS⟩ := hS.open_
          go_wp2
          refine hK _ _ ⟨⟨w10, hB_⟩, rfl⟩ ?_
          clear hK K hx_
          refine wpOrdF_quiet [7, 8, 9] [] _ (by kernel_rfl) ?_
          simp only [nthOps, nthOp, List.cons_append, List.nil_append]
          repeat (go_big_quiet_step (fail))
          refine wpQuiet_nil ?_
          refine wpOrdF_end (by kernel_rfl) ?_
          intro K hK
          simp only [nthOp]
          go_wp2_with fail
          have hx_ := Ext.new w10 (.cells #[.bool false, .slice none 0 0] 24)
          have bb_ : Blk (w10.alloc (.cells #[.bool false, .slice none 0 0] 24)) w10.heap.size 24 #[.bool false, .slice none 0 0] := Blk.new _ _ _
          have hgb : w6.heap.size ≤ w10.heap.size := hB_.size
          replace hB_ := hB_.trans hx_
          replace hX := hX.ext hx_
          replace hY := hY.ext hx_
          replace hD := hD.ext hx_
          replace hP := hP.ext hx_
          replace hQ := hQ.ext hx_
          replace hS := hS.ext hx_
          refine hK _ _ ⟨⟨_, hB_⟩, rfl⟩ ?_
          clear hK K hx_
          generalize w10.alloc (.cells #[.bool false, .slice none 0 0] 24) = w11 at *
          generalize w10.heap.size = gb at *
          have kc_ := bb_.cell
          have kf_ := bb_.frozen
          refine wpOrdT_act 11 [] (by kernel_rfl) ?_
          intro K hK
          simp only [nthOp]
          go_wp2_with fail
          clear kc_ kf_
          obtain ⟨hEp, hBp, hFp, hXp, hIp⟩ := box_put (w'' := ((w11.setCell ⟨gb, 0, none⟩ (.bool se_)).setCell ⟨gb, 1, none⟩ (.slice Ae_ ne_ ce_))) hB_ hgb bb_ se_ Ae_ ne_ ce_ rfl
          replace hS := hIp _ _ hS
          refine hK _ _ ⟨⟨_, hEp⟩, rfl⟩ ?_
          replace hB_ := hEp
          replace bb_ := hBp
          clear hK K hEp hBp hFp hXp hIp
          exact ⟨_, sa_, Aa_, na_, ca_, sb_, Ab_, nb_, cb_, se_, Ae_, ne_, ce_, by simp only [Act.put, List.setIfInBounds_toArray, List.set_cons_succ, List.set_cons_zero], hS, bb_, hB_, hgb⟩
        ·
          intro K hK
          simp only [nthOp]
          go_wp2_with fail
          have hx_ := Ext.new w9 (.cells #[.bool false, .slice none 0 0] 24)
          have bb_ : Blk (w9.alloc (.cells #[.bool false, .slice none 0 0] 24)) w9.heap.size 24 #[.bool false, .slice none 0 0] := Blk.new _ _ _
          have hgb : w6.heap.size ≤ w9.heap.size := hB_.size
          replace hB_ := hB_.trans hx_
          replace hX := hX.ext hx_
          replace hY := hY.ext hx_
          replace hD := hD.ext hx_
          replace hP := hP.ext hx_
          replace hQ := hQ.ext hx_
          refine hK _ _ ⟨⟨_, hB_⟩, rfl⟩ ?_
          clear hK K hx_
          generalize w9.alloc (.cells #[.bool false, .slice none 0 0] 24) = w12 at *
          generalize w9.heap.size = gb at *
          refine wpOrdT_act 6 [(true, 7), (true, 8), (true, 9), (false, 11)] (by kernel_rfl) ?_
          intro K hK
          simp only [nthOp]
          go_wp2_with fail
          refine (Sub_ok _ _ xx yy _ hP hQ L2.out L3.out).mono ?_
          rintro e w13 ⟨v_, rfl, hret, hx_⟩
          replace hB_ := hB_.trans hx_
          replace hX := hX.ext hx_
          replace hY := hY.ext hx_
          replace hD := hD.ext hx_
          replace hP := hP.ext hx_
          replace hQ := hQ.ext hx_
          replace bb_ := bb_.ext hx_
          rw [H4.out] at hret
          obtain ⟨u_, rfl, hS⟩ := hret
          obtain ⟨se_, Ae_, ne_, ce_, rfl, hS⟩ := hS.open_
          go_wp2
          refine hK _ _ ⟨⟨w13, hB_⟩, rfl⟩ ?_
          clear hK K hx_
          refine wpOrdT_quiet [7, 8, 9] [(false, 11)] _ (by kernel_rfl) ?_
          simp only [nthOps, nthOp, List.cons_append, List.nil_append]
          repeat (go_big_quiet_step (fail))
          refine wpQuiet_nil ?_
          have kc_ := bb_.cell
          have kf_ := bb_.frozen
          refine wpOrdT_act 11 [] (by kernel_rfl) ?_
          intro K hK
          simp only [nthOp]
          go_wp2_with fail
          clear kc_ kf_
          obtain ⟨hEp, hBp, hFp, hXp, hIp⟩ := box_put (w'' := ((w13.setCell ⟨gb, 0, none⟩ (.bool se_)).setCell ⟨gb, 1, none⟩ (.slice Ae_ ne_ ce_))) hB_ hgb bb_ se_ Ae_ ne_ ce_ rfl
          replace hS := hIp _ _ hS
          refine hK _ _ ⟨⟨_, hEp⟩, rfl⟩ ?_
          replace hB_ := hEp
          replace bb_ := hBp
          clear hK K hEp hBp hFp hXp hIp
          exact ⟨_, sa_, Aa_, na_, ca_, sb_, Ab_, nb_, cb_, se_, Ae_, ne_, ce_, by simp only [Act.put, List.setIfInBounds_toArray, List.set_cons_succ, List.set_cons_zero], hS, bb_, hB_, hgb⟩
      ·
        intro K hK
        simp only [nthOp]
        go_wp2_with fail
        have hx_ := Ext.new w8 (.cells #[.bool false, .slice none 0 0] 24)
        have bb_ : Blk (w8.alloc (.cells #[.bool false, .slice none 0 0] 24)) w8.heap.size 24 #[.bool false, .slice none 0 0] := Blk.new _ _ _
        have hgb : w6.heap.size ≤ w8.heap.size := hB_.size
        replace hB_ := hB_.trans hx_
        replace hX := hX.ext hx_
        replace hY := hY.ext hx_
        replace hD := hD.ext hx_
        replace hP := hP.ext hx_
        refine hK _ _ ⟨⟨_, hB_⟩, rfl⟩ ?_
        clear hK K hx_
        generalize w8.alloc (.cells #[.bool false, .slice none 0 0] 24) = w14 at *
        generalize w8.heap.size = gb at *
        refine wpOrdT_act 5 [(false, 6), (true, 7), (true, 8), (true, 9), (false, 11)] (by kernel_rfl) ?_
        intro K hK
        simp only [nthOp]
        go_wp2_with fail
        refine (lproduct_ok _ _ y y yy _ hY hY AY.out AY.out H3.out).mono ?_
        rintro e w15 ⟨v_, rfl, hQ, hx_⟩
        replace hB_ := hB_.trans hx_
        replace hX := hX.ext hx_
        replace hY := hY.ext hx_
        replace hD := hD.ext hx_
        replace hP := hP.ext hx_
        replace bb_ := bb_.ext hx_
        obtain ⟨sb_, Ab_, nb_, cb_, rfl, hQ⟩ := hQ.open_
        go_wp2
        refine hK _ _ ⟨⟨w15, hB_⟩, rfl⟩ ?_
        clear hK K hx_
        refine wpOrdT_act 6 [(true, 7), (true, 8), (true, 9), (false, 11)] (by kernel_rfl) ?_
        intro K hK
        simp only [nthOp]
        go_wp2_with fail
        refine (Sub_ok _ _ xx yy _ hP hQ L2.out L3.out).mono ?_
        rintro e w16 ⟨v_, rfl, hret, hx_⟩
        replace hB_ := hB_.trans hx_
        replace hX := hX.ext hx_
        replace hY := hY.ext hx_
        replace hD := hD.ext hx_
        replace hP := hP.ext hx_
        replace bb_ := bb_.ext hx_
        replace hQ := hQ.ext hx_
        rw [H4.out] at hret
        obtain ⟨u_, rfl, hS⟩ := hret
        obtain ⟨se_, Ae_, ne_, ce_, rfl, hS⟩ := hS.open_
        go_wp2
        refine hK _ _ ⟨⟨w16, hB_⟩, rfl⟩ ?_
        clear hK K hx_
        refine wpOrdT_quiet [7, 8, 9] [(false, 11)] _ (by kernel_rfl) ?_
        simp only [nthOps, nthOp, List.cons_append, List.nil_append]
        repeat (go_big_quiet_step (fail))
        refine wpQuiet_nil ?_
        have kc_ := bb_.cell
        have kf_ := bb_.frozen
        refine wpOrdT_act 11 [] (by kernel_rfl) ?_
        intro K hK
        simp only [nthOp]
        go_wp2_with fail
        clear kc_ kf_
        obtain ⟨hEp, hBp, hFp, hXp, hIp⟩ := box_put (w'' := ((w16.setCell ⟨gb, 0, none⟩ (.bool se_)).setCell ⟨gb, 1, none⟩ (.slice Ae_ ne_ ce_))) hB_ hgb bb_ se_ Ae_ ne_ ce_ rfl
        replace hS := hIp _ _ hS
        refine hK _ _ ⟨⟨_, hEp⟩, rfl⟩ ?_
        replace hB_ := hEp
        replace bb_ := hBp
        clear hK K hEp hBp hFp hXp hIp
        exact ⟨_, sa_, Aa_, na_, ca_, sb_, Ab_, nb_, cb_, se_, Ae_, ne_, ce_, by simp only [Act.put, List.setIfInBounds_toArray, List.set_cons_succ, List.set_cons_zero], hS, bb_, hB_, hgb⟩
    ·
      intro K hK
      simp only [nthOp]
      go_wp2_with fail
      have hx_ := Ext.new w7 (.cells #[.bool false, .slice none 0 0] 24)
      have bb_ : Blk (w7.alloc (.cells #[.bool false, .slice none 0 0] 24)) w7.heap.size 24 #[.bool false, .slice none 0 0] := Blk.new _ _ _
      have hgb : w6.heap.size ≤ w7.heap.size := hB_.size
      replace hB_ := hB_.trans hx_
      replace hX := hX.ext hx_
      replace hY := hY.ext hx_
      replace hD := hD.ext hx_
      refine hK _ _ ⟨⟨_, hB_⟩, rfl⟩ ?_
      clear hK K hx_
      generalize w7.alloc (.cells #[.bool false, .slice none 0 0] 24) = w17 at *
      generalize w7.heap.size = gb at *
      refine wpOrdT_act 2 [(false, 5), (false, 6), (true, 7), (true, 8), (true, 9), (false, 11)] (by kernel_rfl) ?_
      intro K hK
      simp only [nthOp]
      go_wp2_with fail
      refine (lproduct_ok _ _ x x xx _ hX hX AX.out AX.out H2.out).mono ?_
      rintro e w18 ⟨v_, rfl, hP, hx_⟩
      replace hB_ := hB_.trans hx_
      replace hX := hX.ext hx_
      replace hY := hY.ext hx_
      replace hD := hD.ext hx_
      replace bb_ := bb_.ext hx_
      obtain ⟨sa_, Aa_, na_, ca_, rfl, hP⟩ := hP.open_
      go_wp2
      refine hK _ _ ⟨⟨w18, hB_⟩, rfl⟩ ?_
      clear hK K hx_
      refine wpOrdT_act 5 [(false, 6), (true, 7), (true, 8), (true, 9), (false, 11)] (by kernel_rfl) ?_
      intro K hK
      simp only [nthOp]
      go_wp2_with fail
      refine (lproduct_ok _ _ y y yy _ hY hY AY.out AY.out H3.out).mono ?_
      rintro e w19 ⟨v_, rfl, hQ, hx_⟩
      replace hB_ := hB_.trans hx_
      replace hX := hX.ext hx_
      replace hY := hY.ext hx_
      replace hD := hD.ext hx_
      replace bb_ := bb_.ext hx_
      replace hP := hP.ext hx_
      obtain ⟨sb_, Ab_, nb_, cb_, rfl, hQ⟩ := hQ.open_
      go_wp2
      refine hK _ _ ⟨⟨w19, hB_⟩, rfl⟩ ?_
      clear hK K hx_
      refine wpOrdT_act 6 [(true, 7), (true, 8), (true, 9), (false, 11)] (by kernel_rfl) ?_
      intro K hK
      simp only [nthOp]
      go_wp2_with fail
      refine (Sub_ok _ _ xx yy _ hP hQ L2.out L3.out).mono ?_
      rintro e w20 ⟨v_, rfl, hret, hx_⟩
      replace hB_ := hB_.trans hx_
      replace hX := hX.ext hx_
      replace hY := hY.ext hx_
      replace hD := hD.ext hx_
      replace bb_ := bb_.ext hx_
      replace hP := hP.ext hx_
      replace hQ := hQ.ext hx_
      rw [H4.out] at hret
      obtain ⟨u_, rfl, hS⟩ := hret
      obtain ⟨se_, Ae_, ne_, ce_, rfl, hS⟩ := hS.open_
      go_wp2
      refine hK _ _ ⟨⟨w20, hB_⟩, rfl⟩ ?_
      clear hK K hx_
      refine wpOrdT_quiet [7, 8, 9] [(false, 11)] _ (by kernel_rfl) ?_
      simp only [nthOps, nthOp, List.cons_append, List.nil_append]
      repeat (go_big_quiet_step (fail))
      refine wpQuiet_nil ?_
      have kc_ := bb_.cell
      have kf_ := bb_.frozen
      refine wpOrdT_act 11 [] (by kernel_rfl) ?_
      intro K hK
      simp only [nthOp]
      go_wp2_with fail
      clear kc_ kf_
      obtain ⟨hEp, hBp, hFp, hXp, hIp⟩ := box_put (w'' := ((w20.setCell ⟨gb, 0, none⟩ (.bool se_)).setCell ⟨gb, 1, none⟩ (.slice Ae_ ne_ ce_))) hB_ hgb bb_ se_ Ae_ ne_ ce_ rfl
      replace hS := hIp _ _ hS
      refine hK _ _ ⟨⟨_, hEp⟩, rfl⟩ ?_
      replace hB_ := hEp
      replace bb_ := hBp
      clear hK K hEp hBp hFp hXp hIp
      exact ⟨_, sa_, Aa_, na_, ca_, sb_, Ab_, nb_, cb_, se_, Ae_, ne_, ce_, by simp only [Act.put, List.setIfInBounds_toArray, List.set_cons_succ, List.set_cons_zero], hS, bb_, hB_, hgb⟩
  rintro a' w21 ⟨g7, sa_, Aa_, na_, ca_, sb_, Ab_, nb_, cb_, se_, Ae_, ne_, ce_, rfl, hS, b7, hx_, hge7⟩
  clear Y2 Y3 Y5
  simp only [Act.put, List.setIfInBounds_toArray, List.set_cons_succ, List.set_cons_zero, List.drop_succ_cons, List.drop_zero]
  replace b2 := b2.ext hx_
  replace b3 := b3.ext hx_
  replace b5 := b5.ext hx_
  replace hX := hX.ext hx_
  replace hY := hY.ext hx_
  replace hD := hD.ext hx_
  have hgw7 : w.heap.size ≤ g7 := Nat.le_trans hE.size hge7
  have hne_2_7 : g ≠ g7 := by omega
  have hne_3_7 : g + 1 ≠ g7 := by omega
  have hne_5_7 : g5 ≠ g7 := by omega
  clear hlt_2 hlt_3 hlt_5
  replace hE := hE.trans hx_
  go_wp2_with fail
  have Y2 := ExtOf.blk b2
  have Y3 := ExtOf.blk b3
  have Y5 := ExtOf.blk b5
  have Y7 := ExtOf.blk b7
  have hB_ : Ext w21 w21.drew := (Ext.refl _).drew
  replace hX := hX.ext hB_
  replace hY := hY.ext hB_
  replace hD := hD.ext hB_
  replace hS := hS.ext hB_
  refine wp_region_ordE 30 [(true, 0), (true, 1), (true, 2), (true, 3), (true, 4), (true, 5), (true, 6), (true, 7), (true, 8), (true, 10), (true, 12), (false, 9), (false, 11), (false, 13), (true, 14), (true, 15), (true, 16), (true, 17), (true, 19), (true, 20), (true, 23), (true, 25), (false, 18), (false, 21), (false, 22), (false, 24), (false, 26), (false, 27), (true, 28), (true, 29)] (by kernel_rfl) (by kernel_rfl) ?_
  refine wpOrdT_quiet [0, 1, 2, 3, 4, 5, 6, 7, 8, 10, 12] [(false, 9), (false, 11), (false, 13), (true, 14), (true, 15), (true, 16), (true, 17), (true, 19), (true, 20), (true, 23), (true, 25), (false, 18), (false, 21), (false, 22), (false, 24), (false, 26), (false, 27), (true, 28), (true, 29)] _ (by kernel_rfl) ?_
  simp only [nthOps, nthOp, List.cons_append, List.nil_append]
  repeat (go_big_quiet_step (fail))
  refine wpQuiet_nil ?_
  refine wpOrdT_act 9 [(false, 11), (false, 13), (true, 14), (true, 15), (true, 16), (true, 17), (true, 19), (true, 20), (true, 23), (true, 25), (false, 18), (false, 21), (false, 22), (false, 24), (false, 26), (false, 27), (true, 28), (true, 29)] (by kernel_rfl) ?_
  intro K hK
  simp only [nthOp]
  go_wp2_with fail
  refine (lsum_ok _ _ x y u1 _ hX hY AX.out AY.out H5.out).mono ?_
  rintro e w22 ⟨v_, rfl, q1, hx_⟩
  replace hB_ := hB_.trans hx_
  replace hX := hX.ext hx_
  replace hY := hY.ext hx_
  replace hD := hD.ext hx_
  replace hS := hS.ext hx_
  go_wp2
  refine hK _ _ ⟨⟨w22, hB_⟩, rfl⟩ ?_
  clear hK K hx_
  refine wpOrdT_act 11 [(false, 13), (true, 14), (true, 15), (true, 16), (true, 17), (true, 19), (true, 20), (true, 23), (true, 25), (false, 18), (false, 21), (false, 22), (false, 24), (false, 26), (false, 27), (true, 28), (true, 29)] (by kernel_rfl) ?_
  intro K hK
  simp only [nthOp]
  go_wp2_with fail
  refine (lproduct_ok _ _ u1 dd ss _ q1 hD L5.out L1.out H6.out).mono ?_
  rintro e w23 ⟨v_, rfl, q2, hx_⟩
  replace hB_ := hB_.trans hx_
  replace hX := hX.ext hx_
  replace hY := hY.ext hx_
  replace hD := hD.ext hx_
  replace hS := hS.ext hx_
  replace q1 := q1.ext hx_
  go_wp2
  refine hK _ _ ⟨⟨w23, hB_⟩, rfl⟩ ?_
  clear hK K hx_
  refine wpOrdT_act 13 [(true, 14), (true, 15), (true, 16), (true, 17), (true, 19), (true, 20), (true, 23), (true, 25), (false, 18), (false, 21), (false, 22), (false, 24), (false, 26), (false, 27), (true, 28), (true, 29)] (by kernel_rfl) ?_
  intro K hK
  simp only [nthOp]
  go_wp2_with fail
  refine (rSame_any _ _ ss ss _ q2 hS).mono ?_
  rintro e w24 ⟨rfl, hx_⟩
  replace hB_ := hB_.trans hx_
  replace hX := hX.ext hx_
  replace hY := hY.ext hx_
  replace hD := hD.ext hx_
  replace hS := hS.ext hx_
  replace q1 := q1.ext hx_
  replace q2 := q2.ext hx_
  rw [show decide (ss = ss) = true by simp]
  go_wp2
  refine hK _ _ ⟨⟨w24, hB_⟩, rfl⟩ ?_
  clear hK K hx_
  refine wpOrdT_quiet [14, 15, 16, 17, 19, 20, 23, 25] [(false, 18), (false, 21), (false, 22), (false, 24), (false, 26), (false, 27), (true, 28), (true, 29)] _ (by kernel_rfl) ?_
  simp only [nthOps, nthOp, List.cons_append, List.nil_append]
  repeat (go_big_quiet_step (fail))
  refine wpQuiet_nil ?_
  refine wpOrdT_act 18 [(false, 21), (false, 22), (false, 24), (false, 26), (false, 27), (true, 28), (true, 29)] (by kernel_rfl) ?_
  intro K hK
  simp only [nthOp]
  go_wp2_with fail
  refine (lproduct_ok _ _ x x xx _ hX hX AX.out AX.out H2.out).mono ?_
  rintro e w25 ⟨v_, rfl, q3, hx_⟩
  replace hB_ := hB_.trans hx_
  replace hX := hX.ext hx_
  replace hY := hY.ext hx_
  replace hD := hD.ext hx_
  replace hS := hS.ext hx_
  replace q1 := q1.ext hx_
  replace q2 := q2.ext hx_
  go_wp2
  refine hK _ _ ⟨⟨w25, hB_⟩, rfl⟩ ?_
  clear hK K hx_
  refine wpOrdT_act 21 [(false, 22), (false, 24), (false, 26), (false, 27), (true, 28), (true, 29)] (by kernel_rfl) ?_
  intro K hK
  simp only [nthOp]
  go_wp2_with fail
  refine (lproduct_ok _ _ y y yy _ hY hY AY.out AY.out H3.out).mono ?_
  rintro e w26 ⟨v_, rfl, q4, hx_⟩
  replace hB_ := hB_.trans hx_
  replace hX := hX.ext hx_
  replace hY := hY.ext hx_
  replace hD := hD.ext hx_
  replace hS := hS.ext hx_
  replace q1 := q1.ext hx_
  replace q2 := q2.ext hx_
  replace q3 := q3.ext hx_
  go_wp2
  refine hK _ _ ⟨⟨w26, hB_⟩, rfl⟩ ?_
  clear hK K hx_
  refine wpOrdT_act 22 [(false, 24), (false, 26), (false, 27), (true, 28), (true, 29)] (by kernel_rfl) ?_
  intro K hK
  simp only [nthOp]
  go_wp2_with fail
  refine (Compare_ok _ _ xx yy _ q3 q4 L2.out L3.out).mono ?_
  rintro e w27 ⟨rfl, hx_⟩
  replace hB_ := hB_.trans hx_
  replace hX := hX.ext hx_
  replace hY := hY.ext hx_
  replace hD := hD.ext hx_
  replace hS := hS.ext hx_
  replace q1 := q1.ext hx_
  replace q2 := q2.ext hx_
  replace q3 := q3.ext hx_
  replace q4 := q4.ext hx_
  rw [HC1.out]
  go_wp2
  refine hK _ _ ⟨⟨w27, hB_⟩, rfl⟩ ?_
  clear hK K hx_
  refine wpOrdT_act 24 [(false, 26), (false, 27), (true, 28), (true, 29)] (by kernel_rfl) ?_
  intro K hK
  simp only [nthOp]
  go_wp2_with fail
  refine (rSize_any _ x ax _ hX AX.out HAX.out).mono ?_
  rintro e w28 ⟨v_, rfl, q5, hx_⟩
  replace hB_ := hB_.trans hx_
  replace hX := hX.ext hx_
  replace hY := hY.ext hx_
  replace hD := hD.ext hx_
  replace hS := hS.ext hx_
  replace q1 := q1.ext hx_
  replace q2 := q2.ext hx_
  replace q3 := q3.ext hx_
  replace q4 := q4.ext hx_
  go_wp2
  refine hK _ _ ⟨⟨w28, hB_⟩, rfl⟩ ?_
  clear hK K hx_
  refine wpOrdT_act 26 [(false, 27), (true, 28), (true, 29)] (by kernel_rfl) ?_
  intro K hK
  simp only [nthOp]
  go_wp2_with fail
  refine (rSize_any _ y ay _ hY AY.out HAY.out).mono ?_
  rintro e w29 ⟨v_, rfl, q6, hx_⟩
  replace hB_ := hB_.trans hx_
  replace hX := hX.ext hx_
  replace hY := hY.ext hx_
  replace hD := hD.ext hx_
  replace hS := hS.ext hx_
  replace q1 := q1.ext hx_
  replace q2 := q2.ext hx_
  replace q3 := q3.ext hx_
  replace q4 := q4.ext hx_
  replace q5 := q5.ext hx_
  go_wp2
  refine hK _ _ ⟨⟨w29, hB_⟩, rfl⟩ ?_
  clear hK K hx_
  refine wpOrdT_act 27 [(true, 28), (true, 29)] (by kernel_rfl) ?_
  intro K hK
  simp only [nthOp]
  go_wp2_with fail
  refine (Compare_ok _ _ ax ay _ q5 q6 L6.out L7.out).mono ?_
  rintro e w30 ⟨rfl, hx_⟩
  replace hB_ := hB_.trans hx_
  replace hX := hX.ext hx_
  replace hY := hY.ext hx_
  replace hD := hD.ext hx_
  replace hS := hS.ext hx_
  replace q1 := q1.ext hx_
  replace q2 := q2.ext hx_
  replace q3 := q3.ext hx_
  replace q4 := q4.ext hx_
  replace q5 := q5.ext hx_
  replace q6 := q6.ext hx_
  rw [HC2.out]
  go_wp2
  refine hK _ _ ⟨⟨w30, hB_⟩, rfl⟩ ?_
  clear hK K hx_
  refine wpOrdT_quiet [28, 29] [] _ (by kernel_rfl) ?_
  simp only [nthOps, nthOp, List.cons_append, List.nil_append]
  repeat (go_big_quiet_step (fail))
  refine wpQuiet_nil ?_
  clear Y2 Y3 Y5 Y7
  replace b2 := b2.ext hB_
  replace b3 := b3.ext hB_
  replace b5 := b5.ext hB_
  replace b7 := b7.ext hB_
  replace hE := hE.trans hB_
  clear hB_
  simp only [wpOrdT, List.drop_succ_cons, List.drop_zero]
  go_wp2
  go_ret
  exact ⟨rfl, hE⟩
end Go.Proofs.YtfdpbcjcinchgaaDoor
