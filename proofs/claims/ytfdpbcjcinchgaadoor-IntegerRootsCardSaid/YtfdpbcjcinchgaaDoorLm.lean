/- Root returns the r with r * r <= x < (r + 1) * (r + 1); the root of a square is the number itself: the walk (printed by wip/tools/gen_roots.py). -/
import Derived.Test.YtfdpbcjcinchgaaDoorLk
import Derived.Test.YtfdpbcjcinchgaaDoorOrd3
namespace Go.Proofs.YtfdpbcjcinchgaaDoor
open Go.RowKit
set_option linter.unusedVariables false

theorem rValid_rx (v : Value) (s : Bool) (l : List Nat) (w : World) (hX : RX w v s l) :
    Calls Tryd.prog 18 #[v] w fun e w' => e = .returned (.bool (validB s l)) ∧ Ext w w' := by
  obtain ⟨A, n, c, rfl, h⟩ := hX
  exact rValid_any s A n c l w h

set_option maxRecDepth 100000 in
set_option maxHeartbeats 1600000 in
theorem roots_skip0 (v0 : Value) (s0 : Bool) (l0 : List Nat) (w : World) (hX0 : RX w v0 s0 l0) (hlg : ¬ (l0.length ≤ 40)) :
    Calls Tryd.prog 11 #[v0] w fun e w' => e = .returned (.bool true) ∧ Ext w w' := by
  obtain ⟨A0, n0, c0, rfl, hx0⟩ := hX0
  have hn0 := hx0.len
  rw [hn0] at hlg
  have HLG := Lib.hid hlg; clear hlg
  have HN0 := Lib.hid hn0; clear hn0
  have hX0 : RX w (iv s0 A0 n0 c0) s0 l0 := ⟨A0, n0, c0, rfl, hx0⟩
  clear hx0
  have hE : Ext w (w.alloc (.cells #[.bool s0, .slice A0 n0 c0] 24)) := Ext.new w _
  have b1 : Blk (w.alloc (.cells #[.bool s0, .slice A0 n0 c0] 24)) (w.heap.size) 24 #[.bool s0, .slice A0 n0 c0] := Blk.new' _ _ (by simp)
  go_enter Tryd.func11, Tryd.ntmps11
  go_wp2_with fail
  generalize (w.alloc (.cells #[.bool s0, .slice A0 n0 c0] 24)) = w0 at *
  generalize hg : w.heap.size = g at *
  have HG := Lib.hid hg; clear hg
  replace hX0 := hX0.ext hE
  refine (known_any _).mono ?_
  rintro e w1 ⟨rfl, hx_⟩
  replace b1 := b1.ext hx_
  replace hX0 := hX0.ext hx_
  replace hE := hE.trans hx_
  clear hx_
  have k1 := b1.cell
  go_wp2_with fail
  refine (Large_any w1.heap.size 1 [(A0, n0, c0)] _ (by simp) (large1 (Blk.new w1 24 #[.bool s0, .slice A0 n0 c0]))).mono ?_
  rintro e w2 ⟨rfl, hx_⟩
  rw [large1_yes HLG.out]
  replace hE := hE.trans ((Ext.new w1 _).trans hx_)
  go_wp2
  go_ret
  exact ⟨rfl, hE⟩

set_option maxRecDepth 100000 in
set_option maxHeartbeats 1600000 in
theorem roots_skip1 (v0 : Value) (s0 : Bool) (l0 : List Nat) (w : World) (hX0 : RX w v0 s0 l0) (hl0 : l0.length ≤ 40) (hv0 : validB s0 l0 = false) :
    Calls Tryd.prog 11 #[v0] w fun e w' => e = .returned (.bool true) ∧ Ext w w' := by
  obtain ⟨A0, n0, c0, rfl, hx0⟩ := hX0
  have hn0 := hx0.len
  rw [hn0] at hl0
  have HV0 := Lib.hid hv0; clear hv0
  have HN0 := Lib.hid hn0; clear hn0
  have hX0 : RX w (iv s0 A0 n0 c0) s0 l0 := ⟨A0, n0, c0, rfl, hx0⟩
  clear hx0
  have hE : Ext w (w.alloc (.cells #[.bool s0, .slice A0 n0 c0] 24)) := Ext.new w _
  have b1 : Blk (w.alloc (.cells #[.bool s0, .slice A0 n0 c0] 24)) (w.heap.size) 24 #[.bool s0, .slice A0 n0 c0] := Blk.new' _ _ (by simp)
  go_enter Tryd.func11, Tryd.ntmps11
  go_wp2_with fail
  generalize (w.alloc (.cells #[.bool s0, .slice A0 n0 c0] 24)) = w0 at *
  generalize hg : w.heap.size = g at *
  have HG := Lib.hid hg; clear hg
  replace hX0 := hX0.ext hE
  refine (known_any _).mono ?_
  rintro e w1 ⟨rfl, hx_⟩
  replace b1 := b1.ext hx_
  replace hX0 := hX0.ext hx_
  replace hE := hE.trans hx_
  clear hx_
  have k1 := b1.cell
  go_wp2_with fail
  have hbs := Blk.new w1 24 #[.bool s0, .slice A0 n0 c0]
  have hx0 := Ext.new w1 (.cells #[.bool s0, .slice A0 n0 c0] 24)
  replace b1 := b1.ext hx0
  replace hX0 := hX0.ext hx0
  replace hE := hE.trans hx0
  clear hx0
  refine (Large_any w1.heap.size 1 [(A0, n0, c0)] _ (by simp) (large1 hbs)).mono ?_
  rintro e w2 ⟨rfl, hx_⟩
  rw [large1_no (by omega)]
  replace b1 := b1.ext hx_
  replace hX0 := hX0.ext hx_
  replace hE := hE.trans hx_
  clear hx_ hbs
  clear k1
  have k1 := b1.cell
  go_wp2_with fail
  refine (rValid_rx _ s0 l0 _ hX0).mono ?_
  rintro e w3 ⟨rfl, hx_⟩
  replace b1 := b1.ext hx_
  replace hX0 := hX0.ext hx_
  replace hE := hE.trans hx_
  clear hx_
  clear k1
  rw [HV0.out]
  have k1 := b1.cell
  go_wp2
  go_ret
  exact ⟨rfl, hE⟩

set_option maxRecDepth 100000 in
set_option maxHeartbeats 1600000 in
theorem roots_skip2 (v0 : Value) (s0 : Bool) (l0 : List Nat) (w : World) (hX0 : RX w v0 s0 l0) (hl0 : l0.length ≤ 40) (hv0 : validB s0 l0 = true) (hs : s0 = true) :
    Calls Tryd.prog 11 #[v0] w fun e w' => e = .returned (.bool true) ∧ Ext w w' := by
  obtain ⟨A0, n0, c0, rfl, hx0⟩ := hX0
  have hn0 := hx0.len
  rw [hn0] at hl0
  have HV0 := Lib.hid hv0; clear hv0
  have HSS := Lib.hid hs; clear hs
  have HN0 := Lib.hid hn0; clear hn0
  have hX0 : RX w (iv s0 A0 n0 c0) s0 l0 := ⟨A0, n0, c0, rfl, hx0⟩
  clear hx0
  have hE : Ext w (w.alloc (.cells #[.bool s0, .slice A0 n0 c0] 24)) := Ext.new w _
  have b1 : Blk (w.alloc (.cells #[.bool s0, .slice A0 n0 c0] 24)) (w.heap.size) 24 #[.bool s0, .slice A0 n0 c0] := Blk.new' _ _ (by simp)
  go_enter Tryd.func11, Tryd.ntmps11
  go_wp2_with fail
  generalize (w.alloc (.cells #[.bool s0, .slice A0 n0 c0] 24)) = w0 at *
  generalize hg : w.heap.size = g at *
  have HG := Lib.hid hg; clear hg
  replace hX0 := hX0.ext hE
  refine (known_any _).mono ?_
  rintro e w1 ⟨rfl, hx_⟩
  replace b1 := b1.ext hx_
  replace hX0 := hX0.ext hx_
  replace hE := hE.trans hx_
  clear hx_
  have k1 := b1.cell
  go_wp2_with fail
  have hbs := Blk.new w1 24 #[.bool s0, .slice A0 n0 c0]
  have hx0 := Ext.new w1 (.cells #[.bool s0, .slice A0 n0 c0] 24)
  replace b1 := b1.ext hx0
  replace hX0 := hX0.ext hx0
  replace hE := hE.trans hx0
  clear hx0
  refine (Large_any w1.heap.size 1 [(A0, n0, c0)] _ (by simp) (large1 hbs)).mono ?_
  rintro e w2 ⟨rfl, hx_⟩
  rw [large1_no (by omega)]
  replace b1 := b1.ext hx_
  replace hX0 := hX0.ext hx_
  replace hE := hE.trans hx_
  clear hx_ hbs
  clear k1
  have k1 := b1.cell
  go_wp2_with fail
  refine (rValid_rx _ s0 l0 _ hX0).mono ?_
  rintro e w3 ⟨rfl, hx_⟩
  replace b1 := b1.ext hx_
  replace hX0 := hX0.ext hx_
  replace hE := hE.trans hx_
  clear hx_
  clear k1
  rw [HV0.out]
  have k1 := b1.cell
  have hs := HSS.out
  go_wp2
  go_ret
  exact ⟨rfl, hE⟩


theorem root_small (a : Nat) : nroot a ≤ a := by
  have h := nroot_le a
  rcases Nat.eq_zero_or_pos (nroot a) with h0 | h0
  · omega
  · exact Nat.le_trans (Nat.le_mul_of_pos_left _ h0) h
set_option maxRecDepth 100000 in
set_option maxHeartbeats 6400000 in
theorem roots_small (v0 : Value) (x : Int) (a : Nat) (w : World) (hX : RI w v0 x) (hxa : x = (a : Int)) (fx : Fits 40 x) (lx : (digs x.natAbs).length ≤ 40) :
    Calls Tryd.prog 11 #[v0] w fun e w' => e = .returned (.bool true) ∧ Ext w w' := by
  obtain ⟨A0, n0, c0, rfl, hx⟩ := hX
  have hn : n0 ≤ 40 := by have := hx.len; omega
  have hX : RI w (iv (decide (x < 0)) A0 n0 c0) x := ⟨A0, n0, c0, rfl, hx⟩
  clear hx
  have hs0 : decide (x < 0) = false := by simp; omega
  rw [hs0] at hX ⊢
  clear hs0
  have AX := Lib.hid (fx.lim (by decide))
  have hal : a < lim := by have := fx.lim (show 40 ≤ 400 by decide); rw [hxa] at this; simpa using this
  have hr1 := nroot_le a
  have hr2 := nroot_lt a
  have hr3 := root_small a
  generalize nroot a = R at *
  obtain ⟨zr, hzr⟩ : ∃ i, i = (R : Int) := ⟨_, rfl⟩
  obtain ⟨s1, hs1⟩ : ∃ i, i = zr + 1 := ⟨_, rfl⟩
  obtain ⟨xx, hxx⟩ : ∃ i, i = x * x := ⟨_, rfl⟩
  obtain ⟨rr, hrr⟩ : ∃ i, i = zr * zr := ⟨_, rfl⟩
  obtain ⟨ss, hss⟩ : ∃ i, i = s1 * s1 := ⟨_, rfl⟩
  have f1 : Fits 40 zr := fx.le (by omega)
  have f2 : Fits 41 s1 := by rw [hs1]; exact f1.add (Fits.one (by decide))
  have f3 : Fits 80 xx := by rw [hxx]; exact fx.mul fx
  have f4 : Fits 80 rr := by rw [hrr]; exact f1.mul f1
  have f5 : Fits 82 ss := by rw [hss]; exact f2.mul f2
  have hxx2 : xx = ((a * a : Nat) : Int) := by rw [hxx, hxa]; simp
  have hrr2 : rr = ((R * R : Nat) : Int) := by rw [hrr, hzr]; simp
  have hss2 : ss = (((R + 1) * (R + 1) : Nat) : Int) := by rw [hss, hs1, hzr]; simp
  have H0 : Hid (x = (a : Int)) := Lib.hid hxa
  have H1 : Hid (zr = (R : Int)) := Lib.hid hzr
  have H2 : Hid (s1 = (resS (zr + 1)).1) := Lib.hid (by rw [← hs1]; exact res_fits f2 (by decide))
  have H3 : Hid (xx = (resS (x * x)).1) := Lib.hid (by rw [← hxx]; exact res_fits f3 (by decide))
  have H4 : Hid (rr = (resS (zr * zr)).1) := Lib.hid (by rw [← hrr]; exact res_fits f4 (by decide))
  have H5 : Hid (ss = (resS (s1 * s1)).1) := Lib.hid (by rw [← hss]; exact res_fits f5 (by decide))
  have H6 : Hid (xx = ((a * a : Nat) : Int)) := Lib.hid hxx2
  have H7 : Hid (a * a < lim) := Lib.hid (by have := f3.lim (show 80 ≤ 400 by decide); rw [hxx2, Int.natAbs_natCast] at this; exact this)
  have H8 : Hid (a * a < (a + 1) * (a + 1)) := Lib.hid (Nat.mul_lt_mul'' (by omega) (by omega))
  have HR1 := Lib.hid hr1; have HR2 := Lib.hid hr2; have HAL := Lib.hid hal
  obtain ⟨c1, hc1⟩ : ∃ z, cmpZ zr 0 = z := ⟨_, rfl⟩
  have tc1 : 0 ≤ c1 := by rw [← hc1]; unfold cmpZ; split <;> (try split) <;> omega
  have tc1' : decide (0 ≤ c1) = true := by simpa using tc1
  obtain ⟨c2, hc2⟩ : ∃ z, cmpZ rr x = z := ⟨_, rfl⟩
  have tc2 : c2 ≤ 0 := by
    have : rr ≤ x := by rw [hrr2, hxa]; exact Int.ofNat_le.2 hr1
    rw [← hc2]; unfold cmpZ; split <;> (try split) <;> omega
  have tc2' : decide (c2 ≤ 0) = true := by simpa using tc2
  have HC1 := Lib.hid hc1; have HC2 := Lib.hid hc2
  have HC3 : Hid (cmpZ ss x = 1) := Lib.hid (by
    have : x < ss := by rw [hss2, hxa]; exact Int.ofNat_lt.2 hr2
    unfold cmpZ; rw [if_neg (by omega), if_pos this])
  have L1 := Lib.hid (f1.lim (by decide)); have L2 := Lib.hid (f2.lim (by decide)); have L3 := Lib.hid (f3.lim (by decide)); have L4 := Lib.hid (f4.lim (by decide)); have L5 := Lib.hid (f5.lim (by decide))
  have LO : Hid ((1 : Int).natAbs < lim) := Lib.hid ((Fits.one (k := 1) (by decide)).lim (by decide))
  clear hzr hs1 hxx hrr hss f1 f2 f3 f4 f5 hxx2 hrr2 hss2 hr1 hr2 hr3 hc1 hc2 hxa fx lx hal
  have hE : Ext w (w.alloc (.cells #[.bool false, .slice A0 n0 c0] 24)) := Ext.new w _
  have b1 : Blk (w.alloc (.cells #[.bool false, .slice A0 n0 c0] 24)) (w.heap.size) 24 #[.bool false, .slice A0 n0 c0] := Blk.new' _ _ (by simp)
  go_enter Tryd.func11, Tryd.ntmps11
  go_wp2_with fail
  generalize (w.alloc (.cells #[.bool false, .slice A0 n0 c0] 24)) = w0 at *
  generalize hg : w.heap.size = g at *
  have HG := Lib.hid hg; clear hg
  replace hX := hX.ext hE
  refine (known_any _).mono ?_
  rintro e w1 ⟨rfl, hx_⟩
  replace b1 := b1.ext hx_
  replace hX := hX.ext hx_
  replace hE := hE.trans hx_
  clear hx_
  have k1 := b1.cell
  go_wp2_with fail
  have hbs := Blk.new w1 24 #[.bool false, .slice A0 n0 c0]
  have hx0 := Ext.new w1 (.cells #[.bool false, .slice A0 n0 c0] 24)
  replace b1 := b1.ext hx0
  replace hX := hX.ext hx0
  replace hE := hE.trans hx0
  clear hx0
  refine (Large_any w1.heap.size 1 [(A0, n0, c0)] _ (by simp) (large1 hbs)).mono ?_
  rintro e w2 ⟨rfl, hx_⟩
  rw [large1_no (by omega)]
  replace b1 := b1.ext hx_
  replace hX := hX.ext hx_
  replace hE := hE.trans hx_
  clear hx_ hbs
  clear k1
  have k1 := b1.cell
  go_wp2_with fail
  refine (rValid_ri _ x _ hX AX.out).mono ?_
  rintro e w3 ⟨rfl, hx_⟩
  replace b1 := b1.ext hx_
  replace hX := hX.ext hx_
  replace hE := hE.trans hx_
  clear hx_
  clear k1
  have k1 := b1.cell
  go_wp2_with fail
  refine (Root_ok _ a R x zr _ hX H0.out HAL.out HR1.out HR2.out H1.out).mono ?_
  rintro e w4 ⟨v_, rfl, ⟨u_, rfl, hR⟩, hx_⟩
  replace b1 := b1.ext hx_
  replace hX := hX.ext hx_
  replace hE := hE.trans hx_
  clear hx_
  clear k1
  obtain ⟨sr, Ar, nr, cr, rfl, hR⟩ := hR.open_
  have hx_ : Ext w4 (w4.alloc (.cells #[.bool sr, .slice Ar nr cr] 24)) := Ext.new _ _
  have b3 : Blk (w4.alloc (.cells #[.bool sr, .slice Ar nr cr] 24)) w4.heap.size 24 #[.bool sr, .slice Ar nr cr] := Blk.new' _ _ (by simp)
  replace b1 := b1.ext hx_
  replace hX := hX.ext hx_
  replace hR := hR.ext hx_
  replace hE := hE.trans hx_
  clear hx_
  go_wp2_with fail
  generalize (w4.alloc (.cells #[.bool sr, .slice Ar nr cr] 24)) = w5 at *
  generalize w4.heap.size = g3 at *
  have Y1 := ExtOf.blk b1
  have Y3 := ExtOf.blk b3
  have hlt_1 := b1.lt
  have hlt_3 := b3.lt
  refine wp_region_ordF 4 3 [(true, 0), (false, 1), (false, 2)] [] (fun a a' w' => ∃ (gb : Nat) (sa_ : Bool) (Aa_ : Option Addr) (na_ ca_ : Nat) (sb_ : Bool) (Ab_ : Option Addr) (nb_ cb_ : Nat), a' = ((((a.put (some 27) (iv sr Ar nr cr)).put (some 28) (iv sa_ Aa_ na_ ca_)).put (some 29) (iv sb_ Ab_ nb_ cb_)).put (some 5) (.pointer (some ⟨gb, 0, none⟩))) ∧ RI w' (iv sb_ Ab_ nb_ cb_) s1 ∧ Blk w' gb 24 #[.bool false, .slice none 0 0] ∧ Ext w5 w' ∧ w5.heap.size ≤ gb) (by kernel_rfl) (by kernel_rfl) ?_ ?_
  ·
    have hB_ : Ext w5 w5.drew := (Ext.refl _).drew
    replace hX := hX.ext hB_
    replace hR := hR.ext hB_
    generalize w5.drew = w6 at *
    refine wpOrdF_quiet [0] [(false, 1), (false, 2)] _ (by kernel_rfl) ?_
    simp only [nthOps, nthOp, List.cons_append, List.nil_append]
    repeat (go_big_quiet_step (fail))
    refine wpQuiet_nil ?_
    refine wpOrdF_act 1 [(false, 2)] (by kernel_rfl) (by kernel_rfl) ?_ ?_
    ·
      intro K hK
      simp only [nthOp]
      go_wp2_with fail
      refine (Of_any 1 _ (by omega) (by omega)).mono ?_
      rintro e w7 ⟨v_, rfl, hO, hx_⟩
      replace hB_ := hB_.trans hx_
      replace hX := hX.ext hx_
      replace hR := hR.ext hx_
      obtain ⟨sa_, Aa_, na_, ca_, rfl, hO⟩ := hO.open_
      go_wp2
      refine hK _ _ ⟨⟨w7, hB_⟩, rfl⟩ ?_
      clear hK K hx_
      refine wpOrdF_act 2 [] (by kernel_rfl) (by kernel_rfl) ?_ ?_
      ·
        intro K hK
        simp only [nthOp]
        go_wp2_with fail
        refine (lsum_ok _ _ zr 1 s1 _ hR hO L1.out LO.out H2.out).mono ?_
        rintro e w8 ⟨v_, rfl, hS, hx_⟩
        replace hB_ := hB_.trans hx_
        replace hX := hX.ext hx_
        replace hR := hR.ext hx_
        replace hO := hO.ext hx_
        obtain ⟨sb_, Ab_, nb_, cb_, rfl, hS⟩ := hS.open_
        go_wp2
        refine hK _ _ ⟨⟨w8, hB_⟩, rfl⟩ ?_
        clear hK K hx_
        refine wpOrdF_end (by kernel_rfl) ?_
        intro K hK
        simp only [nthOp]
        go_wp2_with fail
        have hx_ := Ext.new w8 (.cells #[.bool false, .slice none 0 0] 24)
        have bb_ : Blk (w8.alloc (.cells #[.bool false, .slice none 0 0] 24)) w8.heap.size 24 #[.bool false, .slice none 0 0] := Blk.new _ _ _
        have hgb : w5.heap.size ≤ w8.heap.size := hB_.size
        replace hB_ := hB_.trans hx_
        replace hX := hX.ext hx_
        replace hR := hR.ext hx_
        replace hO := hO.ext hx_
        replace hS := hS.ext hx_
        refine hK _ _ ⟨⟨_, hB_⟩, rfl⟩ ?_
        clear hK K hx_
        generalize w8.alloc (.cells #[.bool false, .slice none 0 0] 24) = w9 at *
        generalize w8.heap.size = gb at *
        exact ⟨_, sa_, Aa_, na_, ca_, sb_, Ab_, nb_, cb_, by simp only [Act.put, List.setIfInBounds_toArray, List.set_cons_succ, List.set_cons_zero], hS, bb_, hB_, hgb⟩
      ·
        intro K hK
        simp only [nthOp]
        go_wp2_with fail
        have hx_ := Ext.new w7 (.cells #[.bool false, .slice none 0 0] 24)
        have bb_ : Blk (w7.alloc (.cells #[.bool false, .slice none 0 0] 24)) w7.heap.size 24 #[.bool false, .slice none 0 0] := Blk.new _ _ _
        have hgb : w5.heap.size ≤ w7.heap.size := hB_.size
        replace hB_ := hB_.trans hx_
        replace hX := hX.ext hx_
        replace hR := hR.ext hx_
        replace hO := hO.ext hx_
        refine hK _ _ ⟨⟨_, hB_⟩, rfl⟩ ?_
        clear hK K hx_
        generalize w7.alloc (.cells #[.bool false, .slice none 0 0] 24) = w10 at *
        generalize w7.heap.size = gb at *
        refine wpOrdT_act 2 [] (by kernel_rfl) ?_
        intro K hK
        simp only [nthOp]
        go_wp2_with fail
        refine (lsum_ok _ _ zr 1 s1 _ hR hO L1.out LO.out H2.out).mono ?_
        rintro e w11 ⟨v_, rfl, hS, hx_⟩
        replace hB_ := hB_.trans hx_
        replace hX := hX.ext hx_
        replace hR := hR.ext hx_
        replace hO := hO.ext hx_
        replace bb_ := bb_.ext hx_
        obtain ⟨sb_, Ab_, nb_, cb_, rfl, hS⟩ := hS.open_
        go_wp2
        refine hK _ _ ⟨⟨w11, hB_⟩, rfl⟩ ?_
        clear hK K hx_
        exact ⟨_, sa_, Aa_, na_, ca_, sb_, Ab_, nb_, cb_, by simp only [Act.put, List.setIfInBounds_toArray, List.set_cons_succ, List.set_cons_zero], hS, bb_, hB_, hgb⟩
    ·
      intro K hK
      simp only [nthOp]
      go_wp2_with fail
      have hx_ := Ext.new w6 (.cells #[.bool false, .slice none 0 0] 24)
      have bb_ : Blk (w6.alloc (.cells #[.bool false, .slice none 0 0] 24)) w6.heap.size 24 #[.bool false, .slice none 0 0] := Blk.new _ _ _
      have hgb : w5.heap.size ≤ w6.heap.size := hB_.size
      replace hB_ := hB_.trans hx_
      replace hX := hX.ext hx_
      replace hR := hR.ext hx_
      refine hK _ _ ⟨⟨_, hB_⟩, rfl⟩ ?_
      clear hK K hx_
      generalize w6.alloc (.cells #[.bool false, .slice none 0 0] 24) = w12 at *
      generalize w6.heap.size = gb at *
      refine wpOrdT_act 1 [(false, 2)] (by kernel_rfl) ?_
      intro K hK
      simp only [nthOp]
      go_wp2_with fail
      refine (Of_any 1 _ (by omega) (by omega)).mono ?_
      rintro e w13 ⟨v_, rfl, hO, hx_⟩
      replace hB_ := hB_.trans hx_
      replace hX := hX.ext hx_
      replace hR := hR.ext hx_
      replace bb_ := bb_.ext hx_
      obtain ⟨sa_, Aa_, na_, ca_, rfl, hO⟩ := hO.open_
      go_wp2
      refine hK _ _ ⟨⟨w13, hB_⟩, rfl⟩ ?_
      clear hK K hx_
      refine wpOrdT_act 2 [] (by kernel_rfl) ?_
      intro K hK
      simp only [nthOp]
      go_wp2_with fail
      refine (lsum_ok _ _ zr 1 s1 _ hR hO L1.out LO.out H2.out).mono ?_
      rintro e w14 ⟨v_, rfl, hS, hx_⟩
      replace hB_ := hB_.trans hx_
      replace hX := hX.ext hx_
      replace hR := hR.ext hx_
      replace bb_ := bb_.ext hx_
      replace hO := hO.ext hx_
      obtain ⟨sb_, Ab_, nb_, cb_, rfl, hS⟩ := hS.open_
      go_wp2
      refine hK _ _ ⟨⟨w14, hB_⟩, rfl⟩ ?_
      clear hK K hx_
      exact ⟨_, sa_, Aa_, na_, ca_, sb_, Ab_, nb_, cb_, by simp only [Act.put, List.setIfInBounds_toArray, List.set_cons_succ, List.set_cons_zero], hS, bb_, hB_, hgb⟩
  rintro a' w15 ⟨g5, sa_, Aa_, na_, ca_, sb_, Ab_, nb_, cb_, rfl, hS, b5, hx_, hge5⟩
  clear Y1 Y3
  simp only [Act.put, List.setIfInBounds_toArray, List.set_cons_succ, List.set_cons_zero, List.drop_succ_cons, List.drop_zero]
  replace b1 := b1.ext hx_
  replace b3 := b3.ext hx_
  replace hX := hX.ext hx_
  replace hR := hR.ext hx_
  have hgw5 : w.heap.size ≤ g5 := Nat.le_trans hE.size hge5
  have hne_1_5 : g ≠ g5 := by omega
  have hne_3_5 : g3 ≠ g5 := by omega
  clear hlt_1 hlt_3
  replace hE := hE.trans hx_
  have kc_ := b5.cell
  have kf_ := b5.frozen
  obtain ⟨hEp, hBp, hFp, hXp, hIp⟩ := box_put (w'' := ((w15.setCell ⟨g5, 0, none⟩ (.bool sb_)).setCell ⟨g5, 1, none⟩ (.slice Ab_ nb_ cb_))) hE hgw5 b5 sb_ Ab_ nb_ cb_ rfl
  replace b1 := hFp _ _ _ hne_1_5 b1
  replace b3 := hFp _ _ _ hne_3_5 b3
  replace b5 := hBp
  replace hX := hIp _ _ hX
  replace hR := hIp _ _ hR
  replace hS := hIp _ _ hS
  replace hE := hEp
  clear hEp hBp hFp hXp hIp
  have k1 := b1.cell
  have k3 := b3.cell
  have k5 := b5.cell
  go_wp2_with fail
  clear kc_ kf_
  generalize ((w15.setCell ⟨g5, 0, none⟩ (.bool sb_)).setCell ⟨g5, 1, none⟩ (.slice Ab_ nb_ cb_)) = w16 at *
  refine (lproduct_ok _ _ x x xx _ hX hX AX.out AX.out H3.out).mono ?_
  rintro e w17 ⟨v_, rfl, hP, hx_⟩
  replace b1 := b1.ext hx_
  replace b3 := b3.ext hx_
  replace b5 := b5.ext hx_
  replace hX := hX.ext hx_
  replace hR := hR.ext hx_
  replace hS := hS.ext hx_
  replace hE := hE.trans hx_
  clear hx_
  clear k1 k3 k5
  go_wp2_with fail
  refine (Root_ok _ (a * a) a xx x _ hP H6.out H7.out (Nat.le_refl _) H8.out H0.out).mono ?_
  rintro e w18 ⟨v_, rfl, ⟨u_, rfl, hT⟩, hx_⟩
  replace b1 := b1.ext hx_
  replace b3 := b3.ext hx_
  replace b5 := b5.ext hx_
  replace hX := hX.ext hx_
  replace hR := hR.ext hx_
  replace hS := hS.ext hx_
  replace hP := hP.ext hx_
  replace hE := hE.trans hx_
  clear hx_
  obtain ⟨st, At, nt, ct, rfl, hT⟩ := hT.open_
  have hx_ : Ext w18 (w18.alloc (.cells #[.bool st, .slice At nt ct] 24)) := Ext.new _ _
  have b6 : Blk (w18.alloc (.cells #[.bool st, .slice At nt ct] 24)) w18.heap.size 24 #[.bool st, .slice At nt ct] := Blk.new' _ _ (by simp)
  replace b1 := b1.ext hx_
  replace b3 := b3.ext hx_
  replace b5 := b5.ext hx_
  replace hX := hX.ext hx_
  replace hR := hR.ext hx_
  replace hS := hS.ext hx_
  replace hP := hP.ext hx_
  replace hT := hT.ext hx_
  replace hE := hE.trans hx_
  clear hx_
  go_wp2_with fail
  generalize (w18.alloc (.cells #[.bool st, .slice At nt ct] 24)) = w19 at *
  generalize w18.heap.size = g6 at *
  have Y1 := ExtOf.blk b1
  have Y3 := ExtOf.blk b3
  have Y5 := ExtOf.blk b5
  have Y6 := ExtOf.blk b6
  have hB_ : Ext w19 w19.drew := (Ext.refl _).drew
  replace hX := hX.ext hB_
  replace hR := hR.ext hB_
  replace hS := hS.ext hB_
  replace hP := hP.ext hB_
  replace hT := hT.ext hB_
  refine wp_region_ordE 32 [(true, 0), (true, 1), (true, 2), (true, 3), (true, 4), (true, 5), (true, 6), (true, 7), (false, 8), (true, 9), (true, 10), (true, 11), (true, 12), (true, 13), (true, 15), (false, 14), (false, 16), (true, 17), (true, 18), (true, 19), (true, 20), (true, 21), (true, 23), (false, 22), (false, 24), (true, 25), (true, 26), (true, 27), (true, 28), (true, 29), (false, 30), (true, 31)] (by kernel_rfl) (by kernel_rfl) ?_
  refine wpOrdT_quiet [0, 1, 2, 3, 4, 5, 6, 7] [(false, 8), (true, 9), (true, 10), (true, 11), (true, 12), (true, 13), (true, 15), (false, 14), (false, 16), (true, 17), (true, 18), (true, 19), (true, 20), (true, 21), (true, 23), (false, 22), (false, 24), (true, 25), (true, 26), (true, 27), (true, 28), (true, 29), (false, 30), (true, 31)] _ (by kernel_rfl) ?_
  simp only [nthOps, nthOp, List.cons_append, List.nil_append]
  repeat (go_big_quiet_step (fail))
  refine wpQuiet_nil ?_
  refine wpOrdT_act 8 [(true, 9), (true, 10), (true, 11), (true, 12), (true, 13), (true, 15), (false, 14), (false, 16), (true, 17), (true, 18), (true, 19), (true, 20), (true, 21), (true, 23), (false, 22), (false, 24), (true, 25), (true, 26), (true, 27), (true, 28), (true, 29), (false, 30), (true, 31)] (by kernel_rfl) ?_
  intro K hK
  simp only [nthOp]
  go_wp2_with fail
  refine (Sign_ok _ zr _ hR L1.out).mono ?_
  rintro e w20 ⟨rfl, hx_⟩
  replace hB_ := hB_.trans hx_
  replace hX := hX.ext hx_
  replace hR := hR.ext hx_
  replace hS := hS.ext hx_
  replace hP := hP.ext hx_
  replace hT := hT.ext hx_
  rw [HC1.out]
  go_wp2
  refine hK _ _ ⟨⟨w20, hB_⟩, rfl⟩ ?_
  clear hK K hx_
  refine wpOrdT_quiet [9, 10, 11, 12, 13, 15] [(false, 14), (false, 16), (true, 17), (true, 18), (true, 19), (true, 20), (true, 21), (true, 23), (false, 22), (false, 24), (true, 25), (true, 26), (true, 27), (true, 28), (true, 29), (false, 30), (true, 31)] _ (by kernel_rfl) ?_
  simp only [nthOps, nthOp, List.cons_append, List.nil_append]
  repeat (go_big_quiet_step (fail))
  refine wpQuiet_nil ?_
  refine wpOrdT_act 14 [(false, 16), (true, 17), (true, 18), (true, 19), (true, 20), (true, 21), (true, 23), (false, 22), (false, 24), (true, 25), (true, 26), (true, 27), (true, 28), (true, 29), (false, 30), (true, 31)] (by kernel_rfl) ?_
  intro K hK
  simp only [nthOp]
  go_wp2_with fail
  refine (lproduct_ok _ _ zr zr rr _ hR hR L1.out L1.out H4.out).mono ?_
  rintro e w21 ⟨v_, rfl, q1, hx_⟩
  replace hB_ := hB_.trans hx_
  replace hX := hX.ext hx_
  replace hR := hR.ext hx_
  replace hS := hS.ext hx_
  replace hP := hP.ext hx_
  replace hT := hT.ext hx_
  go_wp2
  refine hK _ _ ⟨⟨w21, hB_⟩, rfl⟩ ?_
  clear hK K hx_
  refine wpOrdT_act 16 [(true, 17), (true, 18), (true, 19), (true, 20), (true, 21), (true, 23), (false, 22), (false, 24), (true, 25), (true, 26), (true, 27), (true, 28), (true, 29), (false, 30), (true, 31)] (by kernel_rfl) ?_
  intro K hK
  simp only [nthOp]
  go_wp2_with fail
  refine (Compare_ok _ _ rr x _ q1 hX L4.out AX.out).mono ?_
  rintro e w22 ⟨rfl, hx_⟩
  replace hB_ := hB_.trans hx_
  replace hX := hX.ext hx_
  replace hR := hR.ext hx_
  replace hS := hS.ext hx_
  replace hP := hP.ext hx_
  replace hT := hT.ext hx_
  replace q1 := q1.ext hx_
  rw [HC2.out]
  go_wp2
  refine hK _ _ ⟨⟨w22, hB_⟩, rfl⟩ ?_
  clear hK K hx_
  refine wpOrdT_quiet [17, 18, 19, 20, 21, 23] [(false, 22), (false, 24), (true, 25), (true, 26), (true, 27), (true, 28), (true, 29), (false, 30), (true, 31)] _ (by kernel_rfl) ?_
  simp only [nthOps, nthOp, List.cons_append, List.nil_append]
  repeat (go_big_quiet_step (fail))
  refine wpQuiet_nil ?_
  refine wpOrdT_act 22 [(false, 24), (true, 25), (true, 26), (true, 27), (true, 28), (true, 29), (false, 30), (true, 31)] (by kernel_rfl) ?_
  intro K hK
  simp only [nthOp]
  go_wp2_with fail
  refine (lproduct_ok _ _ s1 s1 ss _ hS hS L2.out L2.out H5.out).mono ?_
  rintro e w23 ⟨v_, rfl, q2, hx_⟩
  replace hB_ := hB_.trans hx_
  replace hX := hX.ext hx_
  replace hR := hR.ext hx_
  replace hS := hS.ext hx_
  replace hP := hP.ext hx_
  replace hT := hT.ext hx_
  replace q1 := q1.ext hx_
  go_wp2
  refine hK _ _ ⟨⟨w23, hB_⟩, rfl⟩ ?_
  clear hK K hx_
  refine wpOrdT_act 24 [(true, 25), (true, 26), (true, 27), (true, 28), (true, 29), (false, 30), (true, 31)] (by kernel_rfl) ?_
  intro K hK
  simp only [nthOp]
  go_wp2_with fail
  refine (Compare_ok _ _ ss x _ q2 hX L5.out AX.out).mono ?_
  rintro e w24 ⟨rfl, hx_⟩
  replace hB_ := hB_.trans hx_
  replace hX := hX.ext hx_
  replace hR := hR.ext hx_
  replace hS := hS.ext hx_
  replace hP := hP.ext hx_
  replace hT := hT.ext hx_
  replace q1 := q1.ext hx_
  replace q2 := q2.ext hx_
  rw [HC3.out]
  go_wp2
  refine hK _ _ ⟨⟨w24, hB_⟩, rfl⟩ ?_
  clear hK K hx_
  refine wpOrdT_quiet [25, 26, 27, 28, 29] [(false, 30), (true, 31)] _ (by kernel_rfl) ?_
  simp only [nthOps, nthOp, List.cons_append, List.nil_append]
  repeat (go_big_quiet_step (fail))
  refine wpQuiet_nil ?_
  refine wpOrdT_act 30 [(true, 31)] (by kernel_rfl) ?_
  intro K hK
  simp only [nthOp]
  go_wp2_with fail
  refine (rSame_any _ _ x x _ hT hX).mono ?_
  rintro e w25 ⟨rfl, hx_⟩
  replace hB_ := hB_.trans hx_
  replace hX := hX.ext hx_
  replace hR := hR.ext hx_
  replace hS := hS.ext hx_
  replace hP := hP.ext hx_
  replace hT := hT.ext hx_
  replace q1 := q1.ext hx_
  replace q2 := q2.ext hx_
  rw [show decide (x = x) = true by simp]
  go_wp2
  refine hK _ _ ⟨⟨w25, hB_⟩, rfl⟩ ?_
  clear hK K hx_
  refine wpOrdT_quiet [31] [] _ (by kernel_rfl) ?_
  simp only [nthOps, nthOp, List.cons_append, List.nil_append]
  repeat (go_big_quiet_step (fail))
  refine wpQuiet_nil ?_
  clear Y1 Y3 Y5 Y6
  replace b1 := b1.ext hB_
  replace b3 := b3.ext hB_
  replace b5 := b5.ext hB_
  replace b6 := b6.ext hB_
  replace hE := hE.trans hB_
  clear hB_
  simp only [wpOrdT, List.drop_succ_cons, List.drop_zero]
  go_wp2
  go_ret
  exact ⟨rfl, hE⟩
end Go.Proofs.YtfdpbcjcinchgaaDoor
