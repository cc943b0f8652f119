/- Contracts: FormatUint in decimal; the sanity check of the laws. -/
import Derived.Test.YtfdpbcjcinchgaaDoorTb
import Derived.Test.YtfdpbcjcinchgaaDoorJb
namespace Go.Proofs.YtfdpbcjcinchgaaDoor
open Go.RowKit
set_option linter.unusedVariables false

set_option maxRecDepth 100000 in
set_option maxHeartbeats 400000 in
theorem iFmt_small (u : Nat) (hu : u < 100) (w : World) :
    Calls Tryd.prog 83 #[.int .u64 (u : Int), .int .i64 10] w fun e w' => e = .returned (.string ⟨(Lib.decDigits u).toArray⟩) ∧ w' = w := by
  have h1 : decide ((u : Int) < 100) = true := by simp; omega
  go_enter Tryd.func83, Tryd.ntmps83
  go_wp2_with fail
  refine (Tryd.internal_strconv_small u hu _).mono ?_
  rintro e w1 ⟨rfl, hw⟩
  rw [hw]; clear hw
  go_wp2
  go_ret
  exact ⟨rfl, rfl⟩
set_option maxRecDepth 100000 in
theorem fmt_small {w : World} {u : Nat} (hu : u < 100) : FmtOk w u := by
  intro w' _
  go_enter Tryd.func56, Tryd.ntmps56
  go_wp2_with fail
  refine (iFmt_small u hu _).mono ?_
  rintro e w1 ⟨rfl, hw⟩
  rw [hw]; clear hw
  go_wp2
  go_ret
  exact ⟨rfl, Ext.refl _⟩

theorem txt12 : txt (-12) = [45, 49, 50] := by
  unfold txt
  rw [if_neg (by decide), if_pos (by decide), show (-12 : Int).natAbs = 12 by rfl, grp_pos (by decide), show 12 / 1000000000 = 0 by rfl, grp_zero]
  simp only [gtxt]
  rw [Lib.decDigits_two (by decide) (by decide)]
  rfl
theorem fmt12 {w : World} : ∀ g ∈ grp (-12 : Int).natAbs, FmtOk w g := by
  rw [show (-12 : Int).natAbs = 12 by rfl, grp_pos (by decide), show 12 / 1000000000 = 0 by rfl, grp_zero]
  intro g hg
  simp at hg
  subst hg
  exact fmt_small (by decide)
theorem lim_big : 1000000 < lim := lt_lim (k := 1) (by decide) (by decide)
theorem RI.open_ {w : World} {v : Value} {z : Int} (h : RI w v z) : ∃ s A n c, v = iv s A n c ∧ RI w (iv s A n c) z := by
  obtain ⟨A, n, c, rfl, h'⟩ := h
  exact ⟨_, A, n, c, rfl, A, n, c, rfl, h'⟩

set_option maxRecDepth 100000 in
set_option maxHeartbeats 1600000 in
theorem known_any (w : World) : Calls Tryd.prog 13 #[] w fun e w' => e = .returned (.bool true) ∧ Ext w w' := by
  go_enter Tryd.func13, Tryd.ntmps13
  go_wp2_with fail
  refine (Of_any (-7) _ (by omega) (by omega)).mono ?_
  rintro e w1 ⟨v1, rfl, hI1, hx1⟩
  go_wp2_with fail
  refine (Of_any 2 _ (by omega) (by omega)).mono ?_
  rintro e w2 ⟨v2, rfl, hI2, hx2⟩
  have hx2 := hx1.trans hx2
  go_wp2_with fail
  refine (Divide_ok v1 v2 (-7) 2 _ (hI1.ext (by assumption)) hI2 (Nat.lt_trans (by decide) lim_big) (Nat.lt_trans (by decide) lim_big) (by decide)).mono ?_
  rintro e w3 ⟨v3, rfl, hR3, hx3⟩
  obtain ⟨q3, r3, rfl, hq3, hr3⟩ := hR3
  have e1 : (-7 : Int) / 2 = -4 := by decide
  have e2 : (-7 : Int) % 2 = 1 := by decide
  rw [e1] at hq3
  rw [e2] at hr3
  clear e1 e2
  obtain ⟨sq, Aq, nq, cq, rfl, hq3⟩ := hq3.open_
  obtain ⟨sr, Ar, nr, cr, rfl, hr3⟩ := hr3.open_
  go_wp2_with fail
  have hxE : Ext w3 ((w3.alloc (.cells #[.bool sq, .slice Aq nq cq] 24)).alloc (.cells #[.bool sr, .slice Ar nr cr] 24)) := (Ext.new w3 _).alloc _
  have B0 : Blk ((w3.alloc (.cells #[.bool sq, .slice Aq nq cq] 24)).alloc (.cells #[.bool sr, .slice Ar nr cr] 24)) w3.heap.size 24 #[.bool sq, .slice Aq nq cq] := (Blk.new _ _ _).alloc _
  have B1 : Blk ((w3.alloc (.cells #[.bool sq, .slice Aq nq cq] 24)).alloc (.cells #[.bool sr, .slice Ar nr cr] 24)) (w3.heap.size + 1) 24 #[.bool sr, .slice Ar nr cr] := Blk.new' _ _ (by simp)
  have hq4 := hq3.ext hxE
  have hr4 := hr3.ext hxE
  have hx4 := (hx2.trans hx3).trans hxE
  generalize ((w3.alloc (.cells #[.bool sq, .slice Aq nq cq] 24)).alloc (.cells #[.bool sr, .slice Ar nr cr] 24)) = w4 at *
  generalize w3.heap.size = g0 at *
  clear hq3 hr3 hxE
  have Y0 := ExtOf.blk B0
  have Y1 := ExtOf.blk B1
  refine wp_region_ordE 17 [(true, 0), (true, 1), (true, 2), (true, 3), (false, 4), (false, 5), (true, 6), (true, 7), (true, 8), (false, 9), (false, 10), (true, 11), (true, 12), (false, 13), (false, 14), (true, 15), (true, 16)] (by kernel_rfl) (by kernel_rfl) ?_
  refine wpOrdT_quiet [0, 1, 2, 3] [(false, 4), (false, 5), (true, 6), (true, 7), (true, 8), (false, 9), (false, 10), (true, 11), (true, 12), (false, 13), (false, 14), (true, 15), (true, 16)] _ (by kernel_rfl) ?_
  simp only [nthOps, nthOp, List.cons_append, List.nil_append]
  repeat (go_big_quiet_step (fail))
  refine wpQuiet_nil ?_
  refine wpOrdT_act 4 [(false, 5), (true, 6), (true, 7), (true, 8), (false, 9), (false, 10), (true, 11), (true, 12), (false, 13), (false, 14), (true, 15), (true, 16)] (by kernel_rfl) ?_
  intro K hK
  simp only [nthOp]
  go_wp2_with fail
  refine (rOf_any (-4) _ (by omega) (by omega)).mono ?_
  rintro e w5 ⟨v5, rfl, hI5, hxw5⟩
  have hxw5 := Ext.undrew hxw5
  go_wp2
  refine hK _ _ ⟨⟨w5, hxw5⟩, rfl⟩ ?_
  clear hK K
  refine wpOrdT_act 5 [(true, 6), (true, 7), (true, 8), (false, 9), (false, 10), (true, 11), (true, 12), (false, 13), (false, 14), (true, 15), (true, 16)] (by kernel_rfl) ?_
  intro K hK
  simp only [nthOp]
  go_wp2_with fail
  refine (rSame_any _ _ (-4) (-4) _ (hq4.ext hxw5) hI5).mono ?_
  rintro e w6 ⟨rfl, hxw6⟩
  have hxw6 := hxw5.trans hxw6
  go_wp2
  refine hK _ _ ⟨⟨w6, hxw6⟩, rfl⟩ ?_
  clear hK K
  refine wpOrdT_quiet [6, 7, 8] [(false, 9), (false, 10), (true, 11), (true, 12), (false, 13), (false, 14), (true, 15), (true, 16)] _ (by kernel_rfl) ?_
  simp only [nthOps, nthOp, List.cons_append, List.nil_append]
  repeat (go_big_quiet_step (fail))
  refine wpQuiet_nil ?_
  refine wpOrdT_act 9 [(false, 10), (true, 11), (true, 12), (false, 13), (false, 14), (true, 15), (true, 16)] (by kernel_rfl) ?_
  intro K hK
  simp only [nthOp]
  go_wp2_with fail
  refine (rOf_any 1 _ (by omega) (by omega)).mono ?_
  rintro e w7 ⟨v7, rfl, hI7, hxw7⟩
  have hxw7 := hxw6.trans hxw7
  go_wp2
  refine hK _ _ ⟨⟨w7, hxw7⟩, rfl⟩ ?_
  clear hK K
  refine wpOrdT_act 10 [(true, 11), (true, 12), (false, 13), (false, 14), (true, 15), (true, 16)] (by kernel_rfl) ?_
  intro K hK
  simp only [nthOp]
  go_wp2_with fail
  refine (rSame_any _ _ 1 1 _ (hr4.ext hxw7) hI7).mono ?_
  rintro e w8 ⟨rfl, hxw8⟩
  have hxw8 := hxw7.trans hxw8
  go_wp2
  refine hK _ _ ⟨⟨w8, hxw8⟩, rfl⟩ ?_
  clear hK K
  refine wpOrdT_quiet [11, 12] [(false, 13), (false, 14), (true, 15), (true, 16)] _ (by kernel_rfl) ?_
  simp only [nthOps, nthOp, List.cons_append, List.nil_append]
  repeat (go_big_quiet_step (fail))
  refine wpQuiet_nil ?_
  refine wpOrdT_act 13 [(false, 14), (true, 15), (true, 16)] (by kernel_rfl) ?_
  intro K hK
  simp only [nthOp]
  go_wp2_with fail
  refine (Of_any (-12) _ (by omega) (by omega)).mono ?_
  rintro e w9 ⟨v9, rfl, hI9, hxw9⟩
  have hxw9 := hxw8.trans hxw9
  go_wp2
  refine hK _ _ ⟨⟨w9, hxw9⟩, rfl⟩ ?_
  clear hK K
  refine wpOrdT_act 14 [(true, 15), (true, 16)] (by kernel_rfl) ?_
  intro K hK
  simp only [nthOp]
  go_wp2_with fail
  refine (Text_ok v9 (-12) _ hI9 (Nat.lt_trans (by decide) lim_big) fmt12).mono ?_
  rintro e w10 ⟨rfl, hxw10⟩
  have hxw10 := hxw9.trans hxw10
  go_wp2
  refine hK _ _ ⟨⟨w10, hxw10⟩, rfl⟩ ?_
  clear hK K
  rw [txt12]
  refine wpOrdT_quiet [15, 16] [] _ (by kernel_rfl) ?_
  simp only [nthOps, nthOp, List.cons_append, List.nil_append]
  repeat (go_big_quiet_step (fail))
  refine wpQuiet_nil ?_
  simp only [wpOrdT, List.drop_succ_cons, List.drop_zero]
  go_wp2
  go_ret
  exact ⟨rfl, hx4.trans hxw10⟩
end Go.Proofs.YtfdpbcjcinchgaaDoor
