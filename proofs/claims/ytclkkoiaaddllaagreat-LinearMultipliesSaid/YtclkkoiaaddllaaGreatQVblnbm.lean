/- Linear: Product. -/
import Derived.Test.YtclkkoiaaddllaaGreatQVaflmc
namespace Go.Proofs.YtclkkoiaaddllaaGreat
open Go.RowKit
set_option linter.unusedVariables false

/-- The first s products of an entry of a product. -/
def psum (X Y : Nat → Nat → GQ) (i j : Nat) : Nat → GQ
  | 0 => GQ.i 0 0
  | s + 1 => psum X Y i j s + X i s * Y s j
/-- What the outer loop keeps. -/
structure PI (w W : World) (gf G m nb k : Nat) (RX : Nat → Rw) (Z : Nat → Nat → GQ) : Prop where
  ext : Ext w W
  calm : CalmF W gf
  x : Blk W G 37 (mxc m RX).toArray
  row : ∀ i, i < k → (RX i).A = some ⟨(RX i).b, 0, none⟩ ∧ (RX i).n = nb ∧ (RX i).c = nb ∧ RowIs W (RX i).b nb (Z i)
set_option maxRecDepth 100000 in
set_option maxHeartbeats 6400000 in
theorem product_ok {A1 A2 : Option Addr} {B1 O1 m1 c1 B2 O2 m2 c2 nb Na Nb Ns : Nat} {R1 R2 : Nat → Rw} {E1 E2 : Nat → Nat → En} {X Y : Nat → Nat → GQ} {w : World} {vb1 vb2 : Nat → Nat → Bool} (h1 : Mem w A1 B1 O1 m1 R1 E1) (h2 : Mem w A2 B2 O2 m2 R2 E2)
    (v1 : ∀ i j, i < m1 → j < (R1 i).n → VB w (E1 i j).v (vb1 i j)) (v2 : ∀ i j, i < m2 → j < (R2 i).n → VB w (E2 i j).v (vb2 i j)) (M1 : IsM m1 R1 vb1) (M2 : IsM m2 R2 vb2) (hw : wd m1 R1 = m2) (hnb : wd m2 R2 = nb)
    (g1 : ∀ i k, i < m1 → k < m2 → GV w (E1 i k).v (X i k) Na) (g2 : ∀ k j, k < m2 → j < nb → GV w (E2 k j).v (Y k j) Nb) (hs : ∀ i j s, i < m1 → j < nb → s ≤ m2 → Bd (psum X Y i j s) Ns) (hN : 2 * max Ns (Na + Nb + 1) + 65 ≤ 12800) (hN2 : 2 * max Na Nb + 1 ≤ 12800) (hN3 : 64 ≤ Ns) :
    Calls Tryz.prog 16 #[.slice A1 m1 c1, .slice A2 m2 c2] w fun e w' => ∃ G RX, e = .returned (.tuple #[.slice (some ⟨G, 0, none⟩) m1 m1, .int .i64 0]) ∧ Out w' G m1 nb RX (fun i j => psum X Y i j m2) ∧ Ext w w' := by
  have hm1 := M1.1; have hm2 := M2.1
  have hnb24 : nb ≤ 24 := hnb ▸ M2.2.1
  have HN1 := Lib.hid (show ∀ i, i < m1 → (R1 i).n = m2 from fun i hi => (M1.2.2.1 i hi).trans hw)
  have HN2 := Lib.hid (show ∀ i, i < m2 → (R2 i).n = nb from fun i hi => (M2.2.2.1 i hi).trans hnb)
  have HMa := Lib.hid (fun (w' : World) (x : Ext w w') => matrix_any (c := c1) (h1.ext x) (fun i j hi hj => (v1 i j hi hj).ext x) true ⟨fun _ => M1, fun _ => rfl⟩)
  have HMb := Lib.hid (fun (w' : World) (x : Ext w w') => matrix_any (c := c2) (h2.ext x) (fun i j hi hj => (v2 i j hi hj).ext x) true ⟨fun _ => M2, fun _ => rfl⟩)
  have HWa := Lib.hid (fun (w' : World) (x : Ext w w') => width_any (c := c1) (h1.ext x))
  have HWb := Lib.hid (fun (w' : World) (x : Ext w w') => width_any (c := c2) (h2.ext x))
  rw [hw] at HWa; rw [hnb] at HWb
  have H1 := Lib.hid h1; have H2 := Lib.hid h2; have HG1 := Lib.hid g1; have HG2 := Lib.hid g2; have HS := Lib.hid hs
  clear h1 h2 v1 v2 M1 M2 hw hnb g1 g2 hs
  have hmk := make_mx m1 (by omega)
  have hmr := make_row nb (by omega)
  have hbeq : ((m2 : Int) != (m2 : Int)) = false := by simp
  have q0 : (0 : Int) ≤ (m1 : Int) := by omega
  have q1 : (0 : Int) ≤ (m2 : Int) := by omega
  go_enter Tryz.func16, Tryz.ntmps16
  go_wp2_with fail
  refine (HMa.out _ (Ext.refl _)).mono ?_
  rintro e w1 ⟨rfl, hx1⟩
  go_wp2_with fail
  refine (HMb.out _ hx1).mono ?_
  rintro e w2 ⟨rfl, hx2⟩
  have HE2 := Lib.hid (hx1.trans hx2); clear hx1 hx2
  go_wp2_with fail
  refine (HWa.out _ HE2.out).mono ?_
  rintro e w3 ⟨rfl, hx3⟩
  have HE3 := Lib.hid (HE2.out.trans hx3); clear hx3 HE2
  have hC4 := calm_new w3
  have HE4 := Lib.hid (HE3.out.alloc (.cells #[.int .i64 0] 68))
  clear HE3
  go_wp2_with fail
  have hlt4 := hC4.lt
  have hs4 : (w3.alloc (.cells #[.int .i64 0] 68)).heap.size = w3.heap.size + 1 := by simp
  generalize (w3.alloc (.cells #[.int .i64 0] 68)) = w4 at hC4 HE4 hlt4 hs4 ⊢
  generalize w3.heap.size = gf at hC4 hlt4 hs4 ⊢
  have hE5 := Ext.new w4 (.cells (mxc m1 fun _ => nilRw).toArray 37)
  have hB5 := Blk.new w4 37 (mxc m1 fun _ => nilRw).toArray
  have hC5 := hC4.ext hE5
  have hx4s := HE4.out.size
  replace HE4 := Lib.hid (HE4.out.trans hE5)
  clear hE5 hC4
  have HB5 := Lib.hid hB5; have HC5 := Lib.hid hC5; clear hB5 hC5
  have HSZ := Lib.hid (show (w4.alloc (.cells (mxc m1 fun _ => nilRw).toArray 37)).heap.size = w4.heap.size + 1 by simp)
  clear hlt4
  generalize (w4.alloc (.cells (mxc m1 fun _ => nilRw).toArray 37)) = w5 at HB5 HC5 HE4 HSZ ⊢
  have HW4 := Lib.hid (show w.heap.size ≤ w4.heap.size from hx4s)
  clear hx4s
  rw [hs4] at HB5 HSZ HW4
  clear hs4
  generalize gf + 1 = G at HB5 HSZ HW4 ⊢
  have HGG := Lib.hid (show w.heap.size ≤ G ∧ gf ≠ G from by
    refine ⟨?_, HC5.out.ne_t HB5.out (by decide)⟩
    exact HW4.out)
  have HGL := Lib.hid (show G < w5.heap.size by have := HSZ.out; omega)
  clear hmk HSZ HW4
  go_loopw [32] (fun i wr => ∃ (k : Nat) (RX : Nat → Rw), k ≤ m1 ∧ i = .int .i64 k ∧ PI w wr gf G m1 nb k RX (fun i j => psum X Y i j m2)) (fun i _ => m1 - (intOf i).toNat)
  case atStart => exact ⟨0, fun _ => nilRw, by omega, rfl, ⟨HE4.out, HC5.out, HB5.out, fun i hi => absurd hi (by omega)⟩⟩
  case round =>
    obtain ⟨k, RX, hk, rfl, hP⟩ := hrel
    have HP := Lib.hid hP; clear hP HB5 HC5 HE4 HGL
    by_cases hlt : k < m1
    · have hd : decide ((k : Int) < (m1 : Int)) = true := by simp; omega
      have hA := H1.out.at0 (by omega)
      have hr := H1.out.rowc hlt HP.out.ext
      rw [HN1.out k hlt] at hr
      subst hA
      go_wp2_with fail
      refine (HWb.out _ HP.out.ext).mono ?_
      rintro e wq ⟨rfl, hxq⟩
      have HEq := Lib.hid (HP.out.ext.trans hxq)
      have HCq := Lib.hid (HP.out.calm.ext hxq)
      have hOq := HP.out.x.ext hxq
      have HRq : Hid (∀ i, i < k → (RX i).A = some ⟨(RX i).b, 0, none⟩ ∧ (RX i).n = nb ∧ (RX i).c = nb ∧ RowIs wq (RX i).b nb (fun j => psum X Y i j m2)) := Lib.hid fun i hi => by
        obtain ⟨a, b, c, d⟩ := HP.out.row i hi
        exact ⟨a, b, c, d.ext hxq⟩
      clear hr hxq HP
      have hE1 := Ext.new wq (.cells (rowc nb fun _ => zEn).toArray 32)
      have hO1 := hOq.ext hE1
      have fr := hO1.frozen
      have k1 : (wq.alloc (.cells (rowc nb fun _ => zEn).toArray 32)).cell? ⟨G, k, none⟩ = some (RX k).v := by rw [hO1.cell]; exact mxc_at hlt
      have hO2 : Blk ((wq.alloc (.cells (rowc nb fun _ => zEn).toArray 32)).setCell ⟨G, k, none⟩ (.slice (some ⟨wq.heap.size, 0, none⟩) nb nb)) G 37 (mxc m1 (upd RX k ⟨some ⟨wq.heap.size, 0, none⟩, wq.heap.size, 0, nb, nb⟩)).toArray := by
        rw [← mxc_upd]; exact hO1.set_ _ _
      have k2 : ((wq.alloc (.cells (rowc nb fun _ => zEn).toArray 32)).setCell ⟨G, k, none⟩ (.slice (some ⟨wq.heap.size, 0, none⟩) nb nb)).cell? ⟨G, k, none⟩ = some (.slice (some ⟨wq.heap.size, 0, none⟩) nb nb) := by rw [hO2.cell, mxc_at hlt, upd_same]; rfl
      have hgw : G < wq.heap.size := hOq.lt
      have hB2 : Blk ((wq.alloc (.cells (rowc nb fun _ => zEn).toArray 32)).setCell ⟨G, k, none⟩ (.slice (some ⟨wq.heap.size, 0, none⟩) nb nb)) wq.heap.size 32 (rowc nb fun _ => zEn).toArray := (Blk.new _ _ _).far (by show wq.heap.size ≠ G; omega) _
      have hm4 : Mod (fun g => g = G) wq ((wq.alloc (.cells (rowc nb fun _ => zEn).toArray 32)).setCell ⟨G, k, none⟩ (.slice (some ⟨wq.heap.size, 0, none⟩) nb nb)) := (Mod.of hE1).trans (Mod.only (Only.set _ _ _ _) rfl)
      have hfarG : Far (fun g => g = G) wq := fun g hg _ => by subst hg; exact ⟨_, _, hOq, noInt_slices _ _⟩
      have HO2 := Lib.hid hO2; have HB4 := Lib.hid hB2; have HM4 := Lib.hid hm4; have HFG := Lib.hid hfarG; have HGW := Lib.hid hgw; have HOq := Lib.hid hOq
      clear hO2 hB2 hm4 hfarG hgw hE1 hO1 hOq
      go_wp2_with fail
      clear k1 k2 fr
      generalize hW4 : World.setCell _ _ _ = w6 at HO2 HB4 HM4 ⊢
      clear hW4
      generalize hgg : wq.heap.size = g at *
      have HGg := Lib.hid hgg; clear hgg
      have HC6 := Lib.hid (Blk.mod HCq.out HM4.out (by exact fun e => HGG.out.2 e))
      have HE6 : Hid (Ext w w6) := Lib.hid (by
        have hm := (Mod.of (S := fun g => g = G) HEq.out).trans HM4.out
        exact hm.ext fun k hk e => by have := HGG.out.1; omega)
      have HR6 : Hid (∀ i, i < k → (RX i).A = some ⟨(RX i).b, 0, none⟩ ∧ (RX i).n = nb ∧ (RX i).c = nb ∧ (RX i).b ≠ g ∧ RowIs w6 (RX i).b nb (fun j => psum X Y i j m2)) := Lib.hid fun i hi => by
        obtain ⟨a, b, c, d⟩ := HRq.out i hi
        obtain ⟨cs, hcs⟩ := d.blk
        exact ⟨a, b, c, by have := hcs.lt; have := HGg.out; omega, d.mod HM4.out HFG.out (by exact fun e => hcs.ne_t HOq.out (by decide) e)⟩
      have HFX : Hid (gf < g ∧ w.heap.size ≤ g) := Lib.hid (by have h1 := HGg.out; have h2 := Blk.lt HCq.out; have h3 := HEq.out.size; omega)
      clear HCq HRq HOq HEq HFG HM4
      have hfg : Far (fun g' => g' = g) w6 := fun g' hg _ => by subst hg; exact ⟨_, _, HB4.out, rowc_noint _ _⟩
      have HFg := Lib.hid hfg; clear hfg
      go_loopw [48] (fun i48 wz => ∃ (j : Nat) (f : Nat → En), j ≤ nb ∧ i48 = .int .i64 j ∧ Blk wz g 32 (rowc nb f).toArray ∧ (∀ j', j' < j → GV wz (f j').v (psum X Y k j' m2) 12800) ∧ Mod (fun g' => g' = g) w6 wz) (fun i48 _ => nb - (intOf i48).toNat)
      case atStart => exact ⟨0, _, by omega, rfl, HB4.out, fun j hj => by omega, Mod.refl _ _⟩
      case round =>
        clear hd
        obtain ⟨j, f, hj, rfl, hb, hgv, hmz⟩ := hrel
        have HBz := Lib.hid hb; have HGV := Lib.hid hgv; have HMz := Lib.hid hmz; clear hb hgv hmz
        rename World => wz
        have HCz := Lib.hid (Blk.mod HC6.out HMz.out (by have := HFX.out.1; exact fun e => by omega))
        have HEz : Hid (Ext w wz) := Lib.hid (((Mod.of HE6.out).trans HMz.out).ext fun k' hk' e => by have := HFX.out.2; omega)
        have HOz := Lib.hid (HO2.out.mod HMz.out (by have := HGW.out; exact fun e => by omega))
        by_cases hjt : j < nb
        · have dj : decide ((j : Int) < (nb : Int)) = true := by simp; omega
          go_wp2_with fail
          refine (fzero_ok gf wz HCz.out).mono ?_
          rintro e wa ⟨v, rfl, hv, hxa⟩
          obtain ⟨t1, T1, p1, q1, t2, T2, p2, q2, t3, T3, p3, q3, rfl⟩ := hv.opn
          have hra := row1_new hv (fun _ => psum X Y k j 0) rfl
          have hea := Ext.new wa (.cells #[.bool t1, .slice T1 p1 q1, .bool t2, .slice T2 p2 q2, .bool t3, .slice T3 p3 q3] 32)
          have HXa := Lib.hid (hxa.trans hea)
          have HRa := Lib.hid hra
          have hsa : wz.heap.size ≤ wa.heap.size := hxa.size
          clear hra hea hxa hv
          go_wp2_with fail
          generalize wa.alloc (.cells #[.bool t1, .slice T1 p1 q1, .bool t2, .slice T2 p2 q2, .bool t3, .slice T3 p3 q3] 32) = wb at HXa HRa ⊢
          generalize wa.heap.size = ga at HRa hsa ⊢
          have HSA := Lib.hid hsa; clear hsa
          go_loopw [54] (fun i54 ws => ∃ s : Nat, s ≤ m2 ∧ i54 = .int .i64 s ∧ RowIs ws ga 1 (fun _ => psum X Y k j s) ∧ Ext wz ws) (fun i54 _ => m2 - (intOf i54).toNat)
          case atStart => exact ⟨0, by omega, rfl, HRa.out, HXa.out⟩
          case round =>
            clear dj HRa HXa
            obtain ⟨s, hs, rfl, hacc, hxs⟩ := hrel
            have HAc := Lib.hid hacc; have HXs := Lib.hid hxs; clear hacc hxs
            rename World => ws
            by_cases hst : s < m2
            · have ds : decide ((s : Int) < (m2 : Int)) = true := by simp; omega
              have djb : decide ((j : Int) < (nb : Int)) = true := by simp; omega
              have hRA := H1.out.ra k hlt (by rw [HN1.out k hlt]; omega)
              obtain ⟨e0, e1, e2, e3, e4, e5⟩ := H1.out.cells hlt (j := s) (by rw [HN1.out k hlt]; exact hst) (HEz.out.trans HXs.out)
              have HXe := Lib.hid (HXs.out.alloc (.cells #[.bool (E1 k s).s1, .slice (E1 k s).A1 (E1 k s).n1 (E1 k s).c1, .bool (E1 k s).s2, .slice (E1 k s).A2 (E1 k s).n2 (E1 k s).c2, .bool (E1 k s).s3, .slice (E1 k s).A3 (E1 k s).n3 (E1 k s).c3] 32))
              have HBe := Lib.hid (Blk.new ws 32 #[.bool (E1 k s).s1, .slice (E1 k s).A1 (E1 k s).n1 (E1 k s).c1, .bool (E1 k s).s2, .slice (E1 k s).A2 (E1 k s).n2 (E1 k s).c2, .bool (E1 k s).s3, .slice (E1 k s).A3 (E1 k s).n3 (E1 k s).c3])
              have HAe := Lib.hid (HAc.out.ext (Ext.new ws (.cells #[.bool (E1 k s).s1, .slice (E1 k s).A1 (E1 k s).n1 (E1 k s).c1, .bool (E1 k s).s2, .slice (E1 k s).A2 (E1 k s).n2 (E1 k s).c2, .bool (E1 k s).s3, .slice (E1 k s).A3 (E1 k s).n3 (E1 k s).c3] 32)))
              rw [hRA]
              go_wp2_with fail
              clear e0 e1 e2 e3 e4 e5 hRA
              generalize ws.alloc (.cells #[.bool (E1 k s).s1, .slice (E1 k s).A1 (E1 k s).n1 (E1 k s).c1, .bool (E1 k s).s2, .slice (E1 k s).A2 (E1 k s).n2 (E1 k s).c2, .bool (E1 k s).s3, .slice (E1 k s).A3 (E1 k s).n3 (E1 k s).c3] 32) = wv at HXe HBe HAe ⊢
              generalize ws.heap.size = gv_ at HBe ⊢
              obtain ⟨fa, hfa, hva⟩ := HAe.out
              have hxw := HEz.out.trans HXe.out
              have hA2 := H2.out.at0 (by omega)
              have hR2 := H2.out.ra s hst (by rw [HN2.out s hst]; omega)
              have hrow2 := H2.out.rowc hst hxw
              rw [HN2.out s hst, hR2] at hrow2
              obtain ⟨d0, d1, d2, d3, d4, d5⟩ := H2.out.cells hst (j := j) (by rw [HN2.out s hst]; exact hjt) hxw
              obtain ⟨a0, a1, a2, a3, a4, a5⟩ := RowIs.cells hfa (j := 0) (by omega) (show 0 * 6 = 0 by omega)
              have K1 := ExtOf.cell hrow2
              have D0 := ExtOf.cell d0; have D1 := ExtOf.cell d1; have D2 := ExtOf.cell d2; have D3 := ExtOf.cell d3; have D4 := ExtOf.cell d4; have D5 := ExtOf.cell d5
              have A0 := ExtOf.cell a0; have A1_ := ExtOf.cell a1; have A2_ := ExtOf.cell a2; have A3 := ExtOf.cell a3; have A4 := ExtOf.cell a4; have A5 := ExtOf.cell a5
              have B13 := ExtOf.blk HBe.out
              have HVa := Lib.hid ((hva 0 (by omega)).to (HS.out k j s hlt hjt (by omega)))
              have HV1 := Lib.hid ((HG1.out k s hlt hst).ext hxw); have HV2 := Lib.hid ((HG2.out s j hst hjt).ext hxw)
              have HFa := Lib.hid hfa; have HHa := Lib.hid hva
              have HCv := Lib.hid (Blk.ext HCz.out HXe.out)
              subst hA2
              clear hfa hva d0 d1 d2 d3 d4 d5 a0 a1 a2 a3 a4 a5 hrow2 hR2
              refine wp_region_ordE 11 [(true, 0), (true, 1), (true, 2), (true, 3), (true, 4), (true, 5), (true, 6), (true, 7), (true, 8), (false, 9), (false, 10)] (by kernel_rfl) (by kernel_rfl) ?_
              refine wpOrdT_quiet [0, 1, 2, 3, 4, 5, 6, 7, 8] [(false, 9), (false, 10)] _ (by kernel_rfl) ?_
              simp only [nthOps, nthOp, List.cons_append, List.nil_append]
              repeat (go_big_quiet_step (fail))
              refine wpQuiet_nil ?_
              refine wpOrdT_act 9 [(false, 10)] (by kernel_rfl) ?_
              intro K hK
              simp only [nthOp]
              go_wp2_with fail
              have hdd : Ext wv wv.drew := (Ext.refl _).drew
              refine (fmul_ok gf _ _ (X k s) (Y s j) Na Nb _ (HCv.out.ext hdd) (HV1.out.ext hdd) (HV2.out.ext hdd) hN2).mono ?_
              rintro e w7 ⟨v7, rfl, hv7, hx7⟩
              have HX7 := Lib.hid hx7.undrew; have HV7 := Lib.hid hv7; have HXd := Lib.hid (hdd.trans hx7)
              clear hx7 hv7 hdd
              go_wp2
              refine hK _ _ ⟨⟨w7, HX7.out⟩, rfl⟩ ?_
              clear hK K
              refine wpOrdT_act 10 [] (by kernel_rfl) ?_
              intro K hK
              simp only [nthOp]
              go_wp2_with fail
              refine (fadd_ok gf _ _ (psum X Y k j s) (X k s * Y s j) Ns (Na + Nb + 1) _ (HCv.out.ext HXd.out) (HVa.out.ext HXd.out) HV7.out hN).mono ?_
              rintro e w8 ⟨v8, rfl, hv8, hx8⟩
              obtain ⟨u1, U1, l1, r1, u2, U2, l2, r2, u3, U3, l3, r3, rfl⟩ := hv8.opn
              have HX8 := Lib.hid (HX7.out.trans hx8); have HV8 := Lib.hid (hv8.to (n := Ns) (HS.out k j (s + 1) hlt hjt (by omega)))
              clear hx8 hv8
              go_wp2
              refine hK _ _ ⟨⟨w8, HX8.out⟩, rfl⟩ ?_
              clear hK K K1 D0 D1 D2 D3 D4 D5 A0 A1_ A2_ A3 A4 A5 B13
              simp only [wpOrdT, List.drop_succ_cons, List.drop_zero]
              have HF8 := Lib.hid (HFa.out.ext HX8.out)
              obtain ⟨a0, a1, a2, a3, a4, a5⟩ := RowIs.cells HF8.out (j := 0) (by omega) (show 0 * 6 = 0 by omega)
              have fr := HF8.out.frozen
              go_wp2_with fail
              go_roundw
              case rel =>
                have hh : ∀ j', j' < 1 → GV w8 (fa j').v ((fun _ => psum X Y k j s) j') 12800 := fun j' hj' => (HHa.out j' hj').ext HX8.out
                have hp := RowIs.put (e := ⟨u1, U1, l1, r1, u2, U2, l2, r2, u3, U3, l3, r3⟩) HF8.out hh (j := 0) (by omega) (HV8.out.up (by omega))
                rw [show 0 * 6 = 0 by omega] at hp
                refine ⟨s + 1, by omega, by go_num, hp.1.congr fun j' hj' => ?_, ?_⟩
                · obtain rfl : j' = 0 := by omega
                  rw [upd_same]; rfl
                · exact ((Mod.of (HXe.out.trans HX8.out)).trans hp.2).ext fun k' hk' e => by have := HSA.out; omega
              case measure => simp [intOf]; omega
            · obtain rfl : m2 = s := by omega
              have ds : decide ((m2 : Int) < (m2 : Int)) = false := by simp
              clear hst
              go_wp2_with fail
              have HBs := Lib.hid (HBz.out.ext HXs.out)
              obtain ⟨fa, hfa, hva⟩ := HAc.out
              have HVa := Lib.hid (hva 0 (by omega))
              have djb : decide ((j : Int) < (nb : Int)) = true := by simp; omega
              have dkm : decide ((k : Int) < (m1 : Int)) = true := by simp; omega
              have K1 := ExtOf.cell (show ws.cell? ⟨G, k, none⟩ = some (.slice (some ⟨g, 0, none⟩) nb nb) by
                refine HXs.out.cell_ ?_
                rw [HOz.out.cell, mxc_at hlt, upd_same]; rfl)
              obtain ⟨a0, a1, a2, a3, a4, a5⟩ := RowIs.cells hfa (j := 0) (by omega) (show 0 * 6 = 0 by omega)
              have A0 := ExtOf.cell a0; have A1_ := ExtOf.cell a1; have A2_ := ExtOf.cell a2; have A3 := ExtOf.cell a3; have A4 := ExtOf.cell a4; have A5 := ExtOf.cell a5
              clear hfa hva a0 a1 a2 a3 a4 a5
              refine wp_region_ordE 6 [(true, 0), (true, 1), (true, 2), (true, 3), (true, 4), (true, 5)] (by kernel_rfl) (by kernel_rfl) ?_
              refine wpOrdT_quiet [0, 1, 2, 3, 4, 5] [] _ (by kernel_rfl) ?_
              simp only [nthOps, nthOp, List.cons_append, List.nil_append]
              repeat (go_big_quiet_step (fail))
              refine wpQuiet_nil ?_
              clear K1 A0 A1_ A2_ A3 A4 A5
              simp only [wpOrdT, List.drop_succ_cons, List.drop_zero]
              have HBd := Lib.hid (HBs.out.ext ((Ext.refl ws).drew)); have HVd := Lib.hid (HVa.out.ext ((Ext.refl ws).drew))
              have HXx := Lib.hid ((Ext.refl ws).drew)
              generalize ws.drew = wx at HBd HVd HXx ⊢
              obtain ⟨a0, a1, a2, a3, a4, a5⟩ := RowIs.cells HBd.out hjt rfl
              have fr := HBd.out.frozen
              go_wp2_with fail
              go_roundw
              case rel =>
                have hh : ∀ j', j' < j → GV wx (f j').v (psum X Y k j' m2) 12800 := fun j' hj' => ((HGV.out j' hj').ext HXs.out).ext HXx.out
                have hm5 : Mod (fun g' => g' = g) wx (puts wx g (j * 6) (fa 0).cells) := Mod.only (puts_only _ _ _ _) rfl
                have hS5 : Far (fun g' => g' = g) wx := fun g' hg _ => by subst hg; exact ⟨_, _, HBd.out, rowc_noint _ _⟩
                have hb6 := puts_blk (j * 6) (fa 0).cells HBd.out
                rw [rowc_set (f := f) (fa 0) hjt] at hb6
                refine ⟨j + 1, _, by omega, by go_num, hb6, fun j' hj' => ?_, (HMz.out.trans (Mod.of (HXs.out.trans HXx.out))).trans hm5⟩
                by_cases e : j' = j
                · subst e; rw [upd_same]; exact HVd.out.mod hm5 hS5
                · rw [upd_ne e]; exact (hh j' (by omega)).mod hm5 hS5
              case measure => simp [intOf]; omega
        · obtain rfl : nb = j := by omega
          have dj : decide ((nb : Int) < (nb : Int)) = false := by simp
          go_wp2_with fail
          go_roundw
          case rel =>
            refine ⟨k + 1, upd RX k ⟨some ⟨g, 0, none⟩, g, 0, nb, nb⟩, by omega, by go_num, HEz.out, HCz.out, HOz.out, fun i hi => ?_⟩
            by_cases e : i = k
            · subst e
              rw [upd_same]
              exact ⟨rfl, rfl, rfl, f, HBz.out, HGV.out⟩
            · rw [upd_ne e]
              obtain ⟨a, b, c, d, e'⟩ := HR6.out i (by omega)
              exact ⟨a, b, c, e'.mod HMz.out HFg.out d⟩
          case measure => simp [intOf]; omega
    · obtain rfl : k = m1 := by omega
      have hd : decide ((k : Int) < (k : Int)) = false := by simp
      have e0 := Blk.cell HP.out.calm
      clear hlt
      go_wp2_with fail
      exact bp_tmps2' rfl rfl ⟨G, RX, rfl, ⟨HP.out.x, HP.out.row⟩, HP.out.ext⟩
end Go.Proofs.YtclkkoiaaddllaaGreat
