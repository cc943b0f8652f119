/- The walk of WaveformExamples. -/
import Derived.Test.YtclkkoiaaddllaaGreatCd
import Derived.Test.YtclkkoiaaddllaaGreatCf
import Derived.Test.YtclkkoiaaddllaaGreatCj
import Derived.Test.YtclkkoiaaddllaaGreatCk
namespace Go.Proofs.YtclkkoiaaddllaaGreat
open Go.RowKit
set_option linter.unusedVariables false

theorem vb_zero' (w : World) : VB w (gv false none 0 0 false none 0 0 false none 0 0) false := fun w' _ =>
  ⟨eValid_Z _ 0 0 0 w' (RG.mk (RI.zero _) (RI.zero _) (RI.zero _)) lim0 lim0 lim0 (Lib.hid rfl), qValid_Z _ 0 0 0 w' (RG.mk (RI.zero _) (RI.zero _) (RI.zero _)) lim0 lim0 lim0 (Lib.hid rfl)⟩
theorem flat_lit {cs : Array Value} {g : Nat → Int} {L : Int} {b : Bool} (h : row12 g = cs) (l1 : -9223372036854775808 ≤ L) (l2 : L ≤ 9223372036854775807) (hb : flatB g L 12 = b) (w : World) :
    Calls Tryz.prog 27 #[.agg cs, .int .i64 L] w fun e w' => e = .returned (.bool b) ∧ Ext w w' := by
  subst h; subst hb; exact flat_any g L l1 l2 w
theorem chan_lit {v : Value} {p : PQ} {n : Nat} {r L : Int} {f : Nat → Int} {cs : Array Value} (w : World) (hX : PV w v p n) (hn : 8 * n + 400 ≤ 12800) (r1 : 1 ≤ r) (r2 : r ≤ 10000) (l1 : 1 ≤ L) (l2 : L ≤ 16383) (hf : ∀ k, k < 12 → Rd (p * PQ.zp k) r (f k)) (hc : row12 (fun j => lm L (f j)) = cs) :
    Calls Tryz.prog 24 #[v, .int .i64 r, .int .i64 L] w fun e w' => e = .returned (.tuple #[.agg cs, .int .i64 0]) ∧ Ext w w' := by
  subst hc; exact channel_row v p n r L f w hX hn r1 r2 l1 l2 hf
theorem wpList_load_row_w {P : Program} {ops : Array Oper} {rest : List Oper} {o : Oper} {a : Act} {w : World} {Q : Exit → Act → World → Prop} (hw : Region.wanted o (yielded ops a.tmps) = true) (ty : TypeId) (x : Operand) (ho : o.op = .load ty x)
    (g : Nat) (hx : a.eval x = .pointer (some ⟨g, 0, none⟩)) (t : TypeId) (cs : Array Value) (fr : Nat × Nat) (d : TypeDesc) (hg : w.heap[g]? = some (.cells cs t fr))
    (hu : P.underlying ty = some d) (hd : (match d with | .struct _ | .array _ _ => true | _ => false) = true) (hi : (P.info? ty).map (·.size) = some cs.size)
    (h : wpList P ops Q rest (a.put o.dst (.agg cs)) w) : wpList P ops Q (o :: rest) a w := by
  unfold wpList
  rw [if_pos hw]
  exact .inl (wp_load_row ty x ho g hx t cs fr d hg hu hd hi h)
set_option maxRecDepth 100000 in
set_option maxHeartbeats 6400000 in
theorem examples_any (w : World) : Calls Tryz.prog 7 #[] w fun e w' => e = .returned (.bool true) ∧ Ext w w' := by
  go_enter Tryz.func7, Tryz.ntmps7
  go_wp2_with fail
  refine (qInt_ok 10 0 _ (by omega) (by omega) (by omega) (by omega)).mono ?_
  rintro e w1 ⟨v1, rfl, hv1, hx1⟩
  have hg1 : GV w1 v1 (GQ.i 10 0) 4 := ⟨10, 0, 1, hv1, is_i 10 0, ⟨by decide, by decide, by decide⟩⟩
  go_wp2_with fail
  refine (qPlain_ok v1 (GQ.i 10 0) 4 _ hg1 (by omega)).mono ?_
  rintro e w2 ⟨v2, rfl, hv2, hx2⟩
  have HE := Lib.hid (hx1.trans hx2); clear hx1 hx2 hv1 hg1
  obtain ⟨s1, A1, n1, c1, s2, A2, n2, c2, s3, A3, n3, c3, s4, A4, n4, c4, s5, A5, n5, c5, s6, A6, n6, c6, rfl⟩ := hv2.opn
  have HU := Lib.hid (hv2.gu.vb (by omega)); have HV := Lib.hid (hv2.gw.vb (by omega)); have HP := Lib.hid hv2
  clear hv2
  have hB := Blk.new w2 46 #[.bool s1, .slice A1 n1 c1, .bool s2, .slice A2 n2 c2, .bool s3, .slice A3 n3 c3, .bool s4, .slice A4 n4 c4, .bool s5, .slice A5 n5 c5, .bool s6, .slice A6 n6 c6]
  have HE2 := Lib.hid (HE.out.alloc (.cells #[.bool s1, .slice A1 n1 c1, .bool s2, .slice A2 n2 c2, .bool s3, .slice A3 n3 c3, .bool s4, .slice A4 n4 c4, .bool s5, .slice A5 n5 c5, .bool s6, .slice A6 n6 c6] 46)); clear HE
  go_wp2_with (refine wpList_store_row rfl 46 _ _ rfl w2.heap.size #[.bool s1, .slice A1 n1 c1, .bool s2, .slice A2 n2 c2, .bool s3, .slice A3 n3 c3, .bool s4, .slice A4 n4 c4, .bool s5, .slice A5 n5 c5, .bool s6, .slice A6 n6 c6] rfl rfl 46 #[.bool false, .slice none 0 0, .bool false, .slice none 0 0, .bool false, .slice none 0 0, .bool false, .slice none 0 0, .bool false, .slice none 0 0, .bool false, .slice none 0 0] (Blk.new w2 46 _) (phasor_size rfl) rfl (by kernel_rfl) ?_; rw [World.setRow_alloc_new])
  generalize hg1 : w2.heap.size = g1 at hB ⊢
  have HF := Lib.hid ((Ext.refl w2).alloc (.cells #[.bool s1, .slice A1 n1 c1, .bool s2, .slice A2 n2 c2, .bool s3, .slice A3 n3 c3, .bool s4, .slice A4 n4 c4, .bool s5, .slice A5 n5 c5, .bool s6, .slice A6 n6 c6] 46))
  generalize (w2.alloc _) = wa at hB HE2 HF ⊢
  have HB := Lib.hid hB; clear hB hg1
  have HE3 := HE2; clear HE2
  refine (channel_badu false false false false false false none none none none none none 0 0 0 0 0 0 0 0 0 0 0 0 false 1 100 _ (vb_zero' _) (vb_zero' _)).mono ?_
  rintro e w4 ⟨rfl, hx⟩
  have HE4 := Lib.hid ((HE3.out.trans hx).alloc (.cells #[.int .i64 0, .int .i64 0, .int .i64 0, .int .i64 0, .int .i64 0, .int .i64 0, .int .i64 0, .int .i64 0, .int .i64 0, .int .i64 0, .int .i64 0, .int .i64 0] 48)); clear HE3
  replace HF := Lib.hid ((HF.out.trans hx).alloc (.cells #[.int .i64 0, .int .i64 0, .int .i64 0, .int .i64 0, .int .i64 0, .int .i64 0, .int .i64 0, .int .i64 0, .int .i64 0, .int .i64 0, .int .i64 0, .int .i64 0] 48))
  replace HB := Lib.hid (HB.out.ext hx |>.alloc (.cells #[.int .i64 0, .int .i64 0, .int .i64 0, .int .i64 0, .int .i64 0, .int .i64 0, .int .i64 0, .int .i64 0, .int .i64 0, .int .i64 0, .int .i64 0, .int .i64 0] 48))
  clear hx
  go_wp2_with (first | (refine wpList_store_row rfl 48 _ _ rfl w4.heap.size #[.int .i64 0, .int .i64 0, .int .i64 0, .int .i64 0, .int .i64 0, .int .i64 0, .int .i64 0, .int .i64 0, .int .i64 0, .int .i64 0, .int .i64 0, .int .i64 0] rfl rfl 48 #[.int .i64 0, .int .i64 0, .int .i64 0, .int .i64 0, .int .i64 0, .int .i64 0, .int .i64 0, .int .i64 0, .int .i64 0, .int .i64 0, .int .i64 0, .int .i64 0] (Blk.new w4 48 _) (a12_sz rfl) rfl (by kernel_rfl) ?_; rw [World.setRow_alloc_new]) | (refine wpList_load_row rfl 46 _ rfl g1 (by rfl) 46 _ (0, 0) _ HB.out Tryz.underlying46 rfl (phasor_size rfl) ?_))
  generalize (w4.alloc _) = wb0 at HB HF HE4 ⊢
  generalize w4.heap.size = gz0 at *
  have HE3 := HE4; clear HE4
  refine (channel_bada s1 s2 s3 s4 s5 s6 A1 A2 A3 A4 A5 A6 n1 c1 n2 c2 n3 c3 n4 c4 n5 c5 n6 c6 true 0 100 _ (HU.out.ext HF.out) (HV.out.ext HF.out) (by omega)).mono ?_
  rintro e w4 ⟨rfl, hx⟩
  have HE4 := Lib.hid ((HE3.out.trans hx).alloc (.cells #[.int .i64 0, .int .i64 0, .int .i64 0, .int .i64 0, .int .i64 0, .int .i64 0, .int .i64 0, .int .i64 0, .int .i64 0, .int .i64 0, .int .i64 0, .int .i64 0] 48)); clear HE3
  replace HF := Lib.hid ((HF.out.trans hx).alloc (.cells #[.int .i64 0, .int .i64 0, .int .i64 0, .int .i64 0, .int .i64 0, .int .i64 0, .int .i64 0, .int .i64 0, .int .i64 0, .int .i64 0, .int .i64 0, .int .i64 0] 48))
  replace HB := Lib.hid (HB.out.ext hx |>.alloc (.cells #[.int .i64 0, .int .i64 0, .int .i64 0, .int .i64 0, .int .i64 0, .int .i64 0, .int .i64 0, .int .i64 0, .int .i64 0, .int .i64 0, .int .i64 0, .int .i64 0] 48))
  clear hx
  go_wp2_with (first | (refine wpList_store_row rfl 48 _ _ rfl w4.heap.size #[.int .i64 0, .int .i64 0, .int .i64 0, .int .i64 0, .int .i64 0, .int .i64 0, .int .i64 0, .int .i64 0, .int .i64 0, .int .i64 0, .int .i64 0, .int .i64 0] rfl rfl 48 #[.int .i64 0, .int .i64 0, .int .i64 0, .int .i64 0, .int .i64 0, .int .i64 0, .int .i64 0, .int .i64 0, .int .i64 0, .int .i64 0, .int .i64 0, .int .i64 0] (Blk.new w4 48 _) (a12_sz rfl) rfl (by kernel_rfl) ?_; rw [World.setRow_alloc_new]) | (refine wpList_load_row rfl 46 _ rfl g1 (by rfl) 46 _ (0, 0) _ HB.out Tryz.underlying46 rfl (phasor_size rfl) ?_))
  generalize (w4.alloc _) = wb1 at HB HF HE4 ⊢
  generalize w4.heap.size = gz1 at *
  have HE3 := HE4; clear HE4
  refine (channel_badc s1 s2 s3 s4 s5 s6 A1 A2 A3 A4 A5 A6 n1 c1 n2 c2 n3 c3 n4 c4 n5 c5 n6 c6 true 1 0 _ (HU.out.ext HF.out) (HV.out.ext HF.out) (by omega) (by omega) (by omega)).mono ?_
  rintro e w4 ⟨rfl, hx⟩
  have HE4 := Lib.hid ((HE3.out.trans hx).alloc (.cells #[.int .i64 0, .int .i64 0, .int .i64 0, .int .i64 0, .int .i64 0, .int .i64 0, .int .i64 0, .int .i64 0, .int .i64 0, .int .i64 0, .int .i64 0, .int .i64 0] 48)); clear HE3
  replace HF := Lib.hid ((HF.out.trans hx).alloc (.cells #[.int .i64 0, .int .i64 0, .int .i64 0, .int .i64 0, .int .i64 0, .int .i64 0, .int .i64 0, .int .i64 0, .int .i64 0, .int .i64 0, .int .i64 0, .int .i64 0] 48))
  replace HB := Lib.hid (HB.out.ext hx |>.alloc (.cells #[.int .i64 0, .int .i64 0, .int .i64 0, .int .i64 0, .int .i64 0, .int .i64 0, .int .i64 0, .int .i64 0, .int .i64 0, .int .i64 0, .int .i64 0, .int .i64 0] 48))
  clear hx
  go_wp2_with (first | (refine wpList_store_row rfl 48 _ _ rfl w4.heap.size #[.int .i64 0, .int .i64 0, .int .i64 0, .int .i64 0, .int .i64 0, .int .i64 0, .int .i64 0, .int .i64 0, .int .i64 0, .int .i64 0, .int .i64 0, .int .i64 0] rfl rfl 48 #[.int .i64 0, .int .i64 0, .int .i64 0, .int .i64 0, .int .i64 0, .int .i64 0, .int .i64 0, .int .i64 0, .int .i64 0, .int .i64 0, .int .i64 0, .int .i64 0] (Blk.new w4 48 _) (a12_sz rfl) rfl (by kernel_rfl) ?_; rw [World.setRow_alloc_new]) | (refine wpList_load_row rfl 46 _ rfl g1 (by rfl) 46 _ (0, 0) _ HB.out Tryz.underlying46 rfl (phasor_size rfl) ?_))
  generalize (w4.alloc _) = wb2 at HB HF HE4 ⊢
  generalize w4.heap.size = gz2 at *
  have HE3 := HE4; clear HE4
  refine (chan_lit _ (HP.out.ext HF.out) (by omega) (by omega) (by omega) (by omega) (by omega) ten_rd smp_ten7).mono ?_
  rintro e w4 ⟨rfl, hx⟩
  have HE4 := Lib.hid ((HE3.out.trans hx).alloc (.cells #[.int .i64 7, .int .i64 7, .int .i64 5, .int .i64 0, .int .i64 (-5), .int .i64 (-7), .int .i64 (-7), .int .i64 (-7), .int .i64 (-5), .int .i64 0, .int .i64 5, .int .i64 7] 48)); clear HE3
  replace HF := Lib.hid ((HF.out.trans hx).alloc (.cells #[.int .i64 7, .int .i64 7, .int .i64 5, .int .i64 0, .int .i64 (-5), .int .i64 (-7), .int .i64 (-7), .int .i64 (-7), .int .i64 (-5), .int .i64 0, .int .i64 5, .int .i64 7] 48))
  replace HB := Lib.hid (HB.out.ext hx |>.alloc (.cells #[.int .i64 7, .int .i64 7, .int .i64 5, .int .i64 0, .int .i64 (-5), .int .i64 (-7), .int .i64 (-7), .int .i64 (-7), .int .i64 (-5), .int .i64 0, .int .i64 5, .int .i64 7] 48))
  clear hx
  have HD := Lib.hid (Blk.new w4 48 #[.int .i64 7, .int .i64 7, .int .i64 5, .int .i64 0, .int .i64 (-5), .int .i64 (-7), .int .i64 (-7), .int .i64 (-7), .int .i64 (-5), .int .i64 0, .int .i64 5, .int .i64 7])
  go_wp2_with (first | (refine wpList_store_row rfl 48 _ _ rfl w4.heap.size #[.int .i64 7, .int .i64 7, .int .i64 5, .int .i64 0, .int .i64 (-5), .int .i64 (-7), .int .i64 (-7), .int .i64 (-7), .int .i64 (-5), .int .i64 0, .int .i64 5, .int .i64 7] rfl rfl 48 #[.int .i64 0, .int .i64 0, .int .i64 0, .int .i64 0, .int .i64 0, .int .i64 0, .int .i64 0, .int .i64 0, .int .i64 0, .int .i64 0, .int .i64 0, .int .i64 0] (Blk.new w4 48 _) (a12_sz rfl) rfl (by kernel_rfl) ?_; rw [World.setRow_alloc_new]) | (refine wpList_load_row rfl 46 _ rfl g1 (by rfl) 46 _ (0, 0) _ HB.out Tryz.underlying46 rfl (phasor_size rfl) ?_))
  generalize (w4.alloc _) = wb3 at HB HF HD HE4 ⊢
  generalize w4.heap.size = gd at *
  have HE3 := HE4; clear HE4
  refine (chan_lit _ (HP.out.ext HF.out) (by omega) (by omega) (by omega) (by omega) (by omega) tri_rd smp_tri).mono ?_
  rintro e w4 ⟨rfl, hx⟩
  have HE4 := Lib.hid ((HE3.out.trans hx).alloc (.cells #[.int .i64 3, .int .i64 3, .int .i64 2, .int .i64 0, .int .i64 (-2), .int .i64 (-3), .int .i64 (-3), .int .i64 (-3), .int .i64 (-2), .int .i64 0, .int .i64 2, .int .i64 3] 48)); clear HE3
  replace HF := Lib.hid ((HF.out.trans hx).alloc (.cells #[.int .i64 3, .int .i64 3, .int .i64 2, .int .i64 0, .int .i64 (-2), .int .i64 (-3), .int .i64 (-3), .int .i64 (-3), .int .i64 (-2), .int .i64 0, .int .i64 2, .int .i64 3] 48))
  replace HB := Lib.hid (HB.out.ext hx |>.alloc (.cells #[.int .i64 3, .int .i64 3, .int .i64 2, .int .i64 0, .int .i64 (-2), .int .i64 (-3), .int .i64 (-3), .int .i64 (-3), .int .i64 (-2), .int .i64 0, .int .i64 2, .int .i64 3] 48))
  replace HD := Lib.hid (HD.out.ext hx |>.alloc (.cells #[.int .i64 3, .int .i64 3, .int .i64 2, .int .i64 0, .int .i64 (-2), .int .i64 (-3), .int .i64 (-3), .int .i64 (-3), .int .i64 (-2), .int .i64 0, .int .i64 2, .int .i64 3] 48))
  clear hx
  have HG := Lib.hid (Blk.new w4 48 #[.int .i64 3, .int .i64 3, .int .i64 2, .int .i64 0, .int .i64 (-2), .int .i64 (-3), .int .i64 (-3), .int .i64 (-3), .int .i64 (-2), .int .i64 0, .int .i64 2, .int .i64 3])
  go_wp2_with (first | (refine wpList_store_row rfl 48 _ _ rfl w4.heap.size #[.int .i64 3, .int .i64 3, .int .i64 2, .int .i64 0, .int .i64 (-2), .int .i64 (-3), .int .i64 (-3), .int .i64 (-3), .int .i64 (-2), .int .i64 0, .int .i64 2, .int .i64 3] rfl rfl 48 #[.int .i64 0, .int .i64 0, .int .i64 0, .int .i64 0, .int .i64 0, .int .i64 0, .int .i64 0, .int .i64 0, .int .i64 0, .int .i64 0, .int .i64 0, .int .i64 0] (Blk.new w4 48 _) (a12_sz rfl) rfl (by kernel_rfl) ?_; rw [World.setRow_alloc_new]) | (refine wpList_load_row rfl 46 _ rfl g1 (by rfl) 46 _ (0, 0) _ HB.out Tryz.underlying46 rfl (phasor_size rfl) ?_))
  generalize (w4.alloc _) = wb4 at HB HD HF HG HE4 ⊢
  generalize w4.heap.size = gg at *
  have HE3 := HE4; clear HE4
  clear HF HU HV HP
  refine (waves_empty _ _).mono ?_
  rintro e w5 ⟨rfl, hx⟩
  have HE5 := Lib.hid (HE3.out.trans hx); clear HE3
  replace HD := Lib.hid (HD.out.ext hx); replace HG := Lib.hid (HG.out.ext hx)
  clear hx HB
  go_wp2_with fail
  refine (lwknown_ok _).mono ?_
  rintro e w6 ⟨rfl, hx⟩
  have HE6 := Lib.hid (HE5.out.trans hx); clear HE5
  replace HD := Lib.hid (HD.out.ext hx); replace HG := Lib.hid (HG.out.ext hx)
  clear hx
  have k0 : w6.cell? ⟨gd, 0, none⟩ = some (.int .i64 7) := HD.out.cell 0
  have k6 : w6.cell? ⟨gd, 6, none⟩ = some (.int .i64 (-7)) := HD.out.cell 6
  have k2 : w6.cell? ⟨gd, 2, none⟩ = some (.int .i64 5) := HD.out.cell 2
  have j0 : w6.cell? ⟨gg, 0, none⟩ = some (.int .i64 3) := HG.out.cell 0
  have j1 : w6.cell? ⟨gg, 1, none⟩ = some (.int .i64 3) := HG.out.cell 1
  iterate 66 (try (first | go_values | go_skip | go_guarded | go_step | go_upon | go_in | go_back | go_simp))
  refine wpList_load_row_w ?hw 48 _ rfl gd (by kernel_rfl) 48 _ (0, 0) _ HD.out Tryz.underlying48 rfl (a12_sz rfl) ?_
  case hw => kernel_rfl
  go_wp2_with fail
  refine (flat_lit (b := true) smp_ten7 (by omega) (by omega) (by decide) _).mono ?_
  rintro e w7 ⟨rfl, hx⟩
  have HE7 := Lib.hid (HE6.out.trans hx); clear HE6
  replace HD := Lib.hid (HD.out.ext hx); replace HG := Lib.hid (HG.out.ext hx)
  clear hx k0 k6 k2 j0 j1
  have j0 : w7.cell? ⟨gg, 0, none⟩ = some (.int .i64 3) := HG.out.cell 0
  have j1 : w7.cell? ⟨gg, 1, none⟩ = some (.int .i64 3) := HG.out.cell 1
  iterate 8 (try (first | go_values | go_skip | go_guarded | go_step | go_upon | go_in | go_back | go_simp))
  refine wpList_load_row_w ?hw 48 _ rfl gd (by kernel_rfl) 48 _ (0, 0) _ HD.out Tryz.underlying48 rfl (a12_sz rfl) ?_
  case hw => kernel_rfl
  go_wp2_with fail
  refine (flat_lit (b := false) smp_ten7 (by omega) (by omega) (by decide) _).mono ?_
  rintro e w8 ⟨rfl, hx⟩
  have HE8 := Lib.hid (HE7.out.trans hx); clear HE7 HD
  replace HG := Lib.hid (HG.out.ext hx)
  clear hx j0 j1
  have j0 : w8.cell? ⟨gg, 0, none⟩ = some (.int .i64 3) := HG.out.cell 0
  have j1 : w8.cell? ⟨gg, 1, none⟩ = some (.int .i64 3) := HG.out.cell 1
  go_wp2_with fail
  refine (flat_lit (g := fun _ => 0) (b := false) (by kernel_rfl) (by omega) (by omega) (by decide) _).mono ?_
  rintro e w9 ⟨rfl, hx⟩
  have HE9 := Lib.hid (HE8.out.trans hx); clear HE8
  replace HG := Lib.hid (HG.out.ext hx)
  clear hx j0 j1
  have j0 : w9.cell? ⟨gg, 0, none⟩ = some (.int .i64 3) := HG.out.cell 0
  have j1 : w9.cell? ⟨gg, 1, none⟩ = some (.int .i64 3) := HG.out.cell 1
  go_wp2_with fail
  go_ret
  exact ⟨rfl, HE9.out⟩
end Go.Proofs.YtclkkoiaaddllaaGreat

