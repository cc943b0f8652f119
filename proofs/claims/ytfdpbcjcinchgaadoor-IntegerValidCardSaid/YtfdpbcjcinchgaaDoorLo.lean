/- Valid, Sign, Compare, Small and Text against the specification: the walk (printed by wip/tools/gen_valid.py). -/
import Derived.Test.YtfdpbcjcinchgaaDoorLn
namespace Go.Proofs.YtfdpbcjcinchgaaDoor
open Go.RowKit
set_option linter.unusedVariables false

set_option maxRecDepth 100000 in
set_option maxHeartbeats 6400000 in
theorem valid_small (v u : Value) (s t : Bool) (l k : List Nat) (w : World) (hX : RX w v s l) (hY : RX w u t k) (hT : Tab w) (hl : l.length ≤ 40) (hk : k.length ≤ 40) :
    Calls Tryd.prog 3 #[v, u] w fun e w' => e = .returned (.bool true) ∧ Ext w w' := by
  obtain ⟨A, n, c, rfl, hx⟩ := hX
  obtain ⟨B, m, d, rfl, hy⟩ := hY
  have hn := hx.len
  have hm := hy.len
  rw [hn] at hl
  rw [hm] at hk
  clear hn hm
  have hX : RX w (iv s A n c) s l := ⟨A, n, c, rfl, hx⟩
  have hY : RX w (iv t B m d) t k := ⟨B, m, d, rfl, hy⟩
  clear hx hy
  obtain ⟨vb, hvb⟩ : ∃ p, p = validB s l := ⟨_, rfl⟩
  obtain ⟨sm, hsm⟩ : ∃ p, p = (smallR s l).1 := ⟨_, rfl⟩
  obtain ⟨sb, hsb⟩ : ∃ p, p = (smallR s l).2 := ⟨_, rfl⟩
  obtain ⟨sgn, hsg⟩ : ∃ p, p = signR s l := ⟨_, rfl⟩
  obtain ⟨cmp, hcm⟩ : ∃ p, p = cmpR s l t k := ⟨_, rfl⟩
  obtain ⟨tx, htx⟩ : ∃ p, p = txtR s l := ⟨_, rfl⟩
  have HVB := Lib.hid hvb; have HSM := Lib.hid hsm; have HSB := Lib.hid hsb; have HSG := Lib.hid hsg; have HCM := Lib.hid hcm; have HTX := Lib.hid htx; clear hvb hsm hsb hsg hcm htx
  have e1 : (vb == vb) = true := by simp
  have e2 : (sgn == sgn) = true := by simp
  have e3 : (cmp == cmp) = true := by simp
  have e4 : (sm == sm) = true := by simp
  have e5 : (sb == sb) = true := by simp
  have hE : Ext w ((w.alloc (.cells #[.bool s, .slice A n c] 24)).alloc (.cells #[.bool t, .slice B m d] 24)) := (Ext.new w _).alloc _
  have b2 : Blk ((w.alloc (.cells #[.bool s, .slice A n c] 24)).alloc (.cells #[.bool t, .slice B m d] 24)) (w.heap.size) 24 #[.bool s, .slice A n c] := (Blk.new' _ _ (by simp)).alloc _
  have b3 : Blk ((w.alloc (.cells #[.bool s, .slice A n c] 24)).alloc (.cells #[.bool t, .slice B m d] 24)) (w.heap.size + 1) 24 #[.bool t, .slice B m d] := Blk.new' _ _ (by simp)
  go_enter Tryd.func3, Tryd.ntmps3
  go_wp2_with fail
  generalize ((w.alloc (.cells #[.bool s, .slice A n c] 24)).alloc (.cells #[.bool t, .slice B m d] 24)) = w0 at *
  generalize hg : w.heap.size = g at *
  have HG := Lib.hid hg; clear hg
  replace hX := hX.ext hE
  replace hY := hY.ext hE
  replace hT := hT.ext hE
  refine (known_any _).mono ?_
  rintro e w1 ⟨rfl, hx_⟩
  replace b2 := b2.ext hx_
  replace b3 := b3.ext hx_
  replace hX := hX.ext hx_
  replace hY := hY.ext hx_
  replace hT := hT.ext hx_
  replace hE := hE.trans hx_
  clear hx_
  have k2 := b2.cell
  have k3 := b3.cell
  go_wp2_with fail
  have hbs := Blk.new w1 24 #[.bool s, .slice A n c, .bool t, .slice B m d]
  have hx0 := Ext.new w1 (.cells #[.bool s, .slice A n c, .bool t, .slice B m d] 24)
  replace b2 := b2.ext hx0
  replace b3 := b3.ext hx0
  replace hX := hX.ext hx0
  replace hY := hY.ext hx0
  replace hT := hT.ext hx0
  replace hE := hE.trans hx0
  clear hx0
  refine (Large_any w1.heap.size 2 [(A, n, c), (B, m, d)] _ (by simp) (large2 hbs)).mono ?_
  rintro e w2 ⟨rfl, hx_⟩
  rw [large2_no (by omega) (by omega)]
  replace b2 := b2.ext hx_
  replace b3 := b3.ext hx_
  replace hX := hX.ext hx_
  replace hY := hY.ext hx_
  replace hT := hT.ext hx_
  replace hE := hE.trans hx_
  clear hx_ hbs
  clear k2 k3
  have k2 := b2.cell
  have k3 := b3.cell
  go_wp2_with fail
  refine (Small_res _ s l _ hX).mono ?_
  rintro e w3 ⟨rfl, hx_⟩
  replace b2 := b2.ext hx_
  replace b3 := b3.ext hx_
  replace hX := hX.ext hx_
  replace hY := hY.ext hx_
  replace hT := hT.ext hx_
  replace hE := hE.trans hx_
  clear hx_
  clear k2 k3
  rw [← HSM.out, ← HSB.out]
  have k2 := b2.cell
  have k3 := b3.cell
  go_wp2_with fail
  refine (rSmall_res _ s l _ hX).mono ?_
  rintro e w4 ⟨rfl, hx_⟩
  replace b2 := b2.ext hx_
  replace b3 := b3.ext hx_
  replace hX := hX.ext hx_
  replace hY := hY.ext hx_
  replace hT := hT.ext hx_
  replace hE := hE.trans hx_
  clear hx_
  clear k2 k3
  rw [← HSM.out, ← HSB.out]
  go_wp2_with fail
  have Y2 := ExtOf.blk b2
  have Y3 := ExtOf.blk b3
  have hB_ : Ext w4 w4.drew := (Ext.refl _).drew
  replace hX := hX.ext hB_
  replace hY := hY.ext hB_
  replace hT := hT.ext hB_
  refine wp_region_ordE 38 [(true, 0), (true, 2), (false, 1), (false, 3), (true, 4), (true, 5), (true, 6), (true, 8), (false, 7), (false, 9), (true, 10), (true, 11), (true, 12), (true, 13), (true, 14), (true, 16), (true, 17), (false, 15), (false, 18), (true, 19), (true, 20), (true, 21), (true, 22), (true, 23), (true, 24), (true, 25), (true, 26), (true, 27), (true, 28), (true, 29), (true, 30), (true, 31), (true, 32), (true, 34), (false, 33), (false, 35), (true, 36), (true, 37)] (by kernel_rfl) (by kernel_rfl) ?_
  refine wpOrdT_quiet [0, 2] [(false, 1), (false, 3), (true, 4), (true, 5), (true, 6), (true, 8), (false, 7), (false, 9), (true, 10), (true, 11), (true, 12), (true, 13), (true, 14), (true, 16), (true, 17), (false, 15), (false, 18), (true, 19), (true, 20), (true, 21), (true, 22), (true, 23), (true, 24), (true, 25), (true, 26), (true, 27), (true, 28), (true, 29), (true, 30), (true, 31), (true, 32), (true, 34), (false, 33), (false, 35), (true, 36), (true, 37)] _ (by kernel_rfl) ?_
  simp only [nthOps, nthOp, List.cons_append, List.nil_append]
  repeat (go_big_quiet_step (fail))
  refine wpQuiet_nil ?_
  refine wpOrdT_act 1 [(false, 3), (true, 4), (true, 5), (true, 6), (true, 8), (false, 7), (false, 9), (true, 10), (true, 11), (true, 12), (true, 13), (true, 14), (true, 16), (true, 17), (false, 15), (false, 18), (true, 19), (true, 20), (true, 21), (true, 22), (true, 23), (true, 24), (true, 25), (true, 26), (true, 27), (true, 28), (true, 29), (true, 30), (true, 31), (true, 32), (true, 34), (false, 33), (false, 35), (true, 36), (true, 37)] (by kernel_rfl) ?_
  intro K hK
  simp only [nthOp]
  go_wp2_with fail
  refine (ValidX _ s l _ hX).mono ?_
  rintro e w5 ⟨rfl, hx_⟩
  replace hB_ := hB_.trans hx_
  replace hX := hX.ext hx_
  replace hY := hY.ext hx_
  replace hT := hT.ext hx_
  rw [← HVB.out]
  go_wp2
  refine hK _ _ ⟨⟨w5, hB_⟩, rfl⟩ ?_
  clear hK K hx_
  refine wpOrdT_act 3 [(true, 4), (true, 5), (true, 6), (true, 8), (false, 7), (false, 9), (true, 10), (true, 11), (true, 12), (true, 13), (true, 14), (true, 16), (true, 17), (false, 15), (false, 18), (true, 19), (true, 20), (true, 21), (true, 22), (true, 23), (true, 24), (true, 25), (true, 26), (true, 27), (true, 28), (true, 29), (true, 30), (true, 31), (true, 32), (true, 34), (false, 33), (false, 35), (true, 36), (true, 37)] (by kernel_rfl) ?_
  intro K hK
  simp only [nthOp]
  go_wp2_with fail
  refine (rValidX _ s l _ hX).mono ?_
  rintro e w6 ⟨rfl, hx_⟩
  replace hB_ := hB_.trans hx_
  replace hX := hX.ext hx_
  replace hY := hY.ext hx_
  replace hT := hT.ext hx_
  rw [← HVB.out]
  go_wp2
  refine hK _ _ ⟨⟨w6, hB_⟩, rfl⟩ ?_
  clear hK K hx_
  refine wpOrdT_quiet [4, 5, 6, 8] [(false, 7), (false, 9), (true, 10), (true, 11), (true, 12), (true, 13), (true, 14), (true, 16), (true, 17), (false, 15), (false, 18), (true, 19), (true, 20), (true, 21), (true, 22), (true, 23), (true, 24), (true, 25), (true, 26), (true, 27), (true, 28), (true, 29), (true, 30), (true, 31), (true, 32), (true, 34), (false, 33), (false, 35), (true, 36), (true, 37)] _ (by kernel_rfl) ?_
  simp only [nthOps, nthOp, List.cons_append, List.nil_append]
  repeat (go_big_quiet_step (fail))
  refine wpQuiet_nil ?_
  refine wpOrdT_act 7 [(false, 9), (true, 10), (true, 11), (true, 12), (true, 13), (true, 14), (true, 16), (true, 17), (false, 15), (false, 18), (true, 19), (true, 20), (true, 21), (true, 22), (true, 23), (true, 24), (true, 25), (true, 26), (true, 27), (true, 28), (true, 29), (true, 30), (true, 31), (true, 32), (true, 34), (false, 33), (false, 35), (true, 36), (true, 37)] (by kernel_rfl) ?_
  intro K hK
  simp only [nthOp]
  go_wp2_with fail
  refine (Sign_res _ s l _ hX).mono ?_
  rintro e w7 ⟨rfl, hx_⟩
  replace hB_ := hB_.trans hx_
  replace hX := hX.ext hx_
  replace hY := hY.ext hx_
  replace hT := hT.ext hx_
  rw [← HSG.out]
  go_wp2
  refine hK _ _ ⟨⟨w7, hB_⟩, rfl⟩ ?_
  clear hK K hx_
  refine wpOrdT_act 9 [(true, 10), (true, 11), (true, 12), (true, 13), (true, 14), (true, 16), (true, 17), (false, 15), (false, 18), (true, 19), (true, 20), (true, 21), (true, 22), (true, 23), (true, 24), (true, 25), (true, 26), (true, 27), (true, 28), (true, 29), (true, 30), (true, 31), (true, 32), (true, 34), (false, 33), (false, 35), (true, 36), (true, 37)] (by kernel_rfl) ?_
  intro K hK
  simp only [nthOp]
  go_wp2_with fail
  refine (rSign_res _ s l _ hX).mono ?_
  rintro e w8 ⟨rfl, hx_⟩
  replace hB_ := hB_.trans hx_
  replace hX := hX.ext hx_
  replace hY := hY.ext hx_
  replace hT := hT.ext hx_
  rw [← HSG.out]
  go_wp2
  refine hK _ _ ⟨⟨w8, hB_⟩, rfl⟩ ?_
  clear hK K hx_
  refine wpOrdT_quiet [10, 11, 12, 13, 14, 16, 17] [(false, 15), (false, 18), (true, 19), (true, 20), (true, 21), (true, 22), (true, 23), (true, 24), (true, 25), (true, 26), (true, 27), (true, 28), (true, 29), (true, 30), (true, 31), (true, 32), (true, 34), (false, 33), (false, 35), (true, 36), (true, 37)] _ (by kernel_rfl) ?_
  simp only [nthOps, nthOp, List.cons_append, List.nil_append]
  repeat (go_big_quiet_step (fail))
  refine wpQuiet_nil ?_
  refine wpOrdT_act 15 [(false, 18), (true, 19), (true, 20), (true, 21), (true, 22), (true, 23), (true, 24), (true, 25), (true, 26), (true, 27), (true, 28), (true, 29), (true, 30), (true, 31), (true, 32), (true, 34), (false, 33), (false, 35), (true, 36), (true, 37)] (by kernel_rfl) ?_
  intro K hK
  simp only [nthOp]
  go_wp2_with fail
  refine (Compare_res _ _ s t l k _ hX hY).mono ?_
  rintro e w9 ⟨rfl, hx_⟩
  replace hB_ := hB_.trans hx_
  replace hX := hX.ext hx_
  replace hY := hY.ext hx_
  replace hT := hT.ext hx_
  rw [← HCM.out]
  go_wp2
  refine hK _ _ ⟨⟨w9, hB_⟩, rfl⟩ ?_
  clear hK K hx_
  refine wpOrdT_act 18 [(true, 19), (true, 20), (true, 21), (true, 22), (true, 23), (true, 24), (true, 25), (true, 26), (true, 27), (true, 28), (true, 29), (true, 30), (true, 31), (true, 32), (true, 34), (false, 33), (false, 35), (true, 36), (true, 37)] (by kernel_rfl) ?_
  intro K hK
  simp only [nthOp]
  go_wp2_with fail
  refine (rCompare_res _ _ s t l k _ hX hY).mono ?_
  rintro e w10 ⟨rfl, hx_⟩
  replace hB_ := hB_.trans hx_
  replace hX := hX.ext hx_
  replace hY := hY.ext hx_
  replace hT := hT.ext hx_
  rw [← HCM.out]
  go_wp2
  refine hK _ _ ⟨⟨w10, hB_⟩, rfl⟩ ?_
  clear hK K hx_
  refine wpOrdT_quiet [19, 20, 21, 22, 23, 24, 25, 26, 27, 28, 29, 30, 31, 32, 34] [(false, 33), (false, 35), (true, 36), (true, 37)] _ (by kernel_rfl) ?_
  simp only [nthOps, nthOp, List.cons_append, List.nil_append]
  repeat (go_big_quiet_step (fail))
  refine wpQuiet_nil ?_
  refine wpOrdT_act 33 [(false, 35), (true, 36), (true, 37)] (by kernel_rfl) ?_
  intro K hK
  simp only [nthOp]
  go_wp2_with fail
  refine (Text_res _ s l _ hX hT).mono ?_
  rintro e w11 ⟨rfl, hx_⟩
  replace hB_ := hB_.trans hx_
  replace hX := hX.ext hx_
  replace hY := hY.ext hx_
  replace hT := hT.ext hx_
  rw [← HTX.out]
  go_wp2
  refine hK _ _ ⟨⟨w11, hB_⟩, rfl⟩ ?_
  clear hK K hx_
  refine wpOrdT_act 35 [(true, 36), (true, 37)] (by kernel_rfl) ?_
  intro K hK
  simp only [nthOp]
  go_wp2_with fail
  refine (rText_res _ s l _ hX).mono ?_
  rintro e w12 ⟨rfl, hx_⟩
  replace hB_ := hB_.trans hx_
  replace hX := hX.ext hx_
  replace hY := hY.ext hx_
  replace hT := hT.ext hx_
  rw [← HTX.out]
  go_wp2
  refine hK _ _ ⟨⟨w12, hB_⟩, rfl⟩ ?_
  clear hK K hx_
  refine wpOrdT_quiet [36, 37] [] _ (by kernel_rfl) ?_
  simp only [nthOps, nthOp, List.cons_append, List.nil_append]
  repeat (go_big_quiet_step (fail))
  refine wpQuiet_nil ?_
  clear Y2 Y3
  replace b2 := b2.ext hB_
  replace b3 := b3.ext hB_
  replace hE := hE.trans hB_
  clear hB_
  simp only [wpOrdT, List.drop_succ_cons, List.drop_zero]
  go_wp2
  go_ret
  exact ⟨rfl, hE⟩
end Go.Proofs.YtfdpbcjcinchgaaDoor
