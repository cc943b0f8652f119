/- Linear: back substitution and Solve, with the sizes of the results told. -/
import Derived.Test.YtclkkoiaaddllaaGreatQVnaeip
import Derived.Test.YtclkkoiaaddllaaGreatQYskjdd
import Derived.Test.YtclkkoiaaddllaaGreatQVffiln

namespace Go.Proofs.YtclkkoiaaddllaaGreat
open Go.RowKit
set_option linter.unusedVariables false

structure RoomC (N Ns Nd Nx m nb : Nat) (Z : Nat → Nat → GQ) : Prop where
  a : ∀ i l, i < m → l < m → Bd (Z i l) N
  s : ∀ k j s, k < m → j < nb → s < k → Bd (bps Z (bsol Z m k) m (m - 1 - k) j s) Ns
  d : ∀ k j, k < m → j < nb → Bd (bps Z (bsol Z m k) m (m - 1 - k) j k) Nd
  x : ∀ k i j, k ≤ m → m - k ≤ i → i < m → j < nb → Bd (bsol Z m k i j) Nx
  c1 : 2 * max Ns (N + Nx + 1) + 65 ≤ 12800
  c2 : 2 * max N Nx + 1 ≤ 12800
  c3 : Nd + N + 1 ≤ 12800
  c4 : N + N + 1 ≤ 12800
  c5 : Nx ≤ 12800
theorem bsol_bd {N Ns Nd Nx m nb k i j : Nat} {Z : Nat → Nat → GQ} (h : RoomC N Ns Nd Nx m nb Z) (hi : i = m - 1 - k) (hk : k < m) (hj : j < nb) : Bd (bps Z (bsol Z m k) m i j k / Z i i) Nx := by
  have h5 := h.x (k + 1) (m - 1 - k) j (by omega) (by omega) (by omega) hj
  have e5 : bsol Z m (k + 1) (m - 1 - k) j = bps Z (bsol Z m k) m (m - 1 - k) j k / Z (m - 1 - k) (m - 1 - k) := by
    show (upd (bsol Z m k) (m - 1 - k) (fun j => bps Z (bsol Z m k) m (m - 1 - k) j k / Z (m - 1 - k) (m - 1 - k))) (m - 1 - k) j = _
    rw [upd_same]
  rw [e5] at h5
  rwa [← hi] at h5
set_option maxRecDepth 100000 in
set_option maxHeartbeats 6400000 in
theorem fback_r (gf Ga Gb m cA cB nb N Ns Nd Nx : Nat) (PA PB : Nat → Prop) (Z : Nat → Nat → GQ) (w : World) (h : EI w gf Ga Gb m m nb PA PB Z) (hd : ∀ g, PA g → PB g → False) (hpa : ∀ g, PA g → g < w.heap.size) (hpb : ∀ g, PB g → g < w.heap.size) (hm : m ≤ 24) (hnb : nb ≤ 24) (hz : ∀ i, i < m → Z i i ≠ GQ.i 0 0) (hR : RoomC N Ns Nd Nx m nb Z) :
    Calls Tryz.prog 50 #[.pointer (some ⟨gf, 0, none⟩), .slice (some ⟨Ga, 0, none⟩) m cA, .slice (some ⟨Gb, 0, none⟩) m cB] w fun e w' => ∃ (G : Nat) (RX : Nat → Rw), e = .returned (.slice (some ⟨G, 0, none⟩) m m) ∧ BI w w' gf Ga Gb G m nb PA PB Z m RX := by
  have HH := Lib.hid h; have HD := Lib.hid hd; have HPA := Lib.hid hpa; have HPB := Lib.hid hpb; have HZ := Lib.hid hz; have HR := Lib.hid hR
  clear h hd hpa hpb hz hR
  have hmk := make_mx m (by omega)
  have hmr := make_row nb (by omega)
  have hm0 : (0 : Int) ≤ (m : Int) := by omega
  have HGa : Hid (Ga < w.heap.size ∧ Gb < w.heap.size) := Lib.hid (by
    obtain ⟨_, ⟨_, a⟩, ⟨_, b⟩⟩ := HH.out
    exact ⟨a.out.lt, b.out.lt⟩)
  go_enter Tryz.func50, Tryz.ntmps50
  go_wp2_with fail
  clear hmk
  go_loopw [8] (fun i wr => ∃ (k : Nat) (RX : Nat → Rw), k ≤ m ∧ i = .int .i64 ((m : Int) - 1 - (k : Int)) ∧ BI w wr gf Ga Gb w.heap.size m nb PA PB Z k RX) (fun i _ => (intOf i + 1).toNat)
  case atStart =>
    obtain ⟨hc, ⟨R, ha⟩, ⟨R2, hb⟩⟩ := HH.out
    have hx := Ext.new w (.cells (mxc m fun _ => nilRw).toArray 37)
    exact ⟨0, fun _ => nilRw, by omega, by go_num, ⟨hc.ext hx, ⟨R, ha.ext hx⟩, ⟨R2, _, hb.ext hx, fun _ _ _ => rfl⟩, Blk.new _ _ _, Nat.le_refl _, fun i h1 h2 => absurd h1 (by omega), Mod.of hx⟩⟩
  case round =>
    obtain ⟨k, RX, hk, rfl, hB⟩ := hrel
    have HB := Lib.hid hB; clear hB HH
    by_cases hlt : k < m
    · obtain ⟨i, hi⟩ : ∃ i, i = m - 1 - k := ⟨_, rfl⟩
      have hik : (m : Int) - 1 - (k : Int) = (i : Int) := by omega
      have him : i < m := by omega
      rw [hik]
      have HI := Lib.hid hi; clear hi hik
      have d1 : decide ((i : Int) ≥ 0) = true := by simp
      go_wp2_with fail
      obtain ⟨hcal, ⟨R, hA⟩, ⟨R2, Y, hBm, hY⟩, hx, hgx, hrow, hmod⟩ := HB.out
      have HC := Lib.hid hcal; have HA := Lib.hid hA; have HBm := Lib.hid hBm; have HY := Lib.hid hY; have HXb := Lib.hid hx; have HRow := Lib.hid hrow; have HMd := Lib.hid hmod
      clear hcal hA hBm hY hx hgx hrow hmod HB
      have hfar1 : Far (fun g => 0 < nb ∧ g = (R2 i).b) wr := by
        rintro g ⟨hn, rfl⟩ _
        obtain ⟨ff, hff, _⟩ := (HBm.out.row i him hn).2
        exact ⟨_, _, hff, rowc_noint _ _⟩
      have HF1 := Lib.hid hfar1; clear hfar1
      have HK : Hid (m - k = i + 1) := Lib.hid (by have := HI.out; omega)
      go_loopw [9] (fun i9 w2 => ∃ s j : Nat, s ≤ k ∧ j = i + 1 + s ∧ i9 = .int .i64 j ∧ (0 < nb → RowIs w2 (R2 i).b nb (fun j => bps Z (bsol Z m k) m i j s)) ∧ Mod (fun g => 0 < nb ∧ g = (R2 i).b) wr w2) (fun i9 _ => m - (intOf i9).toNat)
      case atStart => exact ⟨0, i + 1, by omega, by omega, by go_num, fun hn => (HBm.out.row i him hn).2.congr fun j hj => HY.out i j (by have := HI.out; omega), Mod.refl _ _⟩
      case round =>
        obtain ⟨s, j, hs, hj, rfl, hri, hm2⟩ := hrel
        have HRi := Lib.hid hri; have HM2 := Lib.hid hm2; have HJ := Lib.hid hj; clear hri hm2 hj
        rename World => w2
        have HA2 := Lib.hid (HA.out.mod HM2.out HF1.out (by rintro ⟨hn, e⟩; exact HBm.out.ne him hn HA.out.out e.symm) (by rintro j' hj' _ ⟨hn, e⟩; exact HD.out _ (HA.out.mem j' hj' (by omega)) (e ▸ HBm.out.mem i him hn)))
        have HC2 := Lib.hid (Blk.mod HC.out HM2.out (by
          rintro ⟨hn, e⟩
          exact CalmF.ne HC.out (HBm.out.row i him hn).2 e))
        have HX2 := Lib.hid (HXb.out.mod HM2.out (by rintro ⟨hn, e⟩; exact HBm.out.ne him hn HXb.out e.symm))
        have HBo2 := Lib.hid (HBm.out.out.mod HM2.out (by rintro ⟨hn, e⟩; exact HBm.out.ne him hn HBm.out.out e.symm))
        by_cases hsk : s < k
        · have hjm : j < m := by have := HI.out; have := HJ.out; omega
          have hij : i < j := by have := HJ.out; omega
          have dj : decide ((j : Int) < (m : Int)) = true := by simp; omega
          have di : decide ((i : Int) < (m : Int)) = true := by simp; omega
          obtain ⟨hra, f, hf, hv⟩ := HA2.out.row i him (by omega)
          have k1 := HA2.out.cell him
          rw [hra] at k1
          obtain ⟨a0, a1, a2, a3, a4, a5⟩ := RowIs.cells hf hjm rfl
          have HVj := Lib.hid ((hv j hjm).to (HR.out.a i j him hjm))
          clear hra hf hv
          go_wp2_with fail
          refine (xZero_of _ _ _ _ HVj.out (by have := HR.out.c2; omega)).mono ?_
          rintro e w3 ⟨rfl, hx3⟩
          by_cases h0 : Z i j = GQ.i 0 0
          · rw [decide_eq_true h0]
            have HH0 : Hid (∀ j', bps Z (bsol Z m k) m i j' (s + 1) = bps Z (bsol Z m k) m i j' s) := Lib.hid fun j' => by
              show _ - Z i (i + 1 + s) * _ = _
              rw [← HJ.out, h0, GQ.zero_mul', GQ.sub_zero']
            have HX3 := Lib.hid hx3
            clear h0 k1 a0 a1 a2 a3 a4 a5 hx3
            go_wp2_with fail
            go_roundw
            case rel => exact ⟨s + 1, j + 1, by omega, by have := HJ.out; omega, by go_num, fun hn => ((HRi.out hn).ext HX3.out).congr fun j' _ => (HH0.out j').symm, HM2.out.trans (Mod.of HX3.out)⟩
            case measure => simp [intOf]; omega
          · rw [decide_eq_false h0]
            obtain ⟨xa, xn, xc, xb, xr⟩ := HRow.out j (by have := HK.out; omega) hjm
            have hxrow : 0 < nb → (RX j).A = some ⟨(RX j).b, 0, none⟩ ∧ RowIs w3 (RX j).b nb (bsol Z m k j) := fun hn => ⟨xa, (xr.mod HM2.out HF1.out (by rintro ⟨hn', e⟩; have h1 := HPB.out _ (HBm.out.mem i him hn'); omega)).ext hx3⟩
            have K1 := ExtOf.cell (hx3.cell_ k1); have K2 := ExtOf.cell (show w3.cell? ⟨Gb, i, none⟩ = some (.slice (R2 i).A nb nb) from hx3.cell_ (by rw [HBo2.out.cell, mxc_at him, HBm.out.v0 him]))
            have K3 := ExtOf.cell (show w3.cell? ⟨w.heap.size, j, none⟩ = some (.slice (some ⟨(RX j).b, 0, none⟩) nb nb) from hx3.cell_ (by rw [HX2.out.cell, mxc_at hjm]; unfold Rw.v; rw [xa, xn, xc]))
            have A0 := ExtOf.cell (hx3.cell_ a0); have A1 := ExtOf.cell (hx3.cell_ a1); have A2 := ExtOf.cell (hx3.cell_ a2); have A3 := ExtOf.cell (hx3.cell_ a3); have A4 := ExtOf.cell (hx3.cell_ a4); have A5 := ExtOf.cell (hx3.cell_ a5)
            have HS := Lib.hid (fclear_g gf (R2 i).b (RX j).b nb nb nb Ns Nx N (R2 i).A (some ⟨(RX j).b, 0, none⟩) _ (fun j => bps Z (bsol Z m k) m i j s) (bsol Z m k j) (Z i j) w3 (HC2.out.ext hx3) (HVj.out.ext hx3) (fun hn => ⟨(HBm.out.row i him hn).1, (HRi.out hn).ext hx3⟩) (fun hn => ⟨rfl, (hxrow hn).2⟩) (fun hn e => by have h1 := HPB.out _ (HBm.out.mem i him hn); omega) (by omega) (fun j' hj' => by have := HR.out.s k j' s hlt hj' hsk; rwa [← HI.out] at this) (fun j' hj' => HR.out.x k j j' hk (by have := HK.out; omega) hjm hj') HR.out.c1 HR.out.c2)
            have HX3 := Lib.hid hx3
            clear hxrow k1 a0 a1 a2 a3 a4 a5 hx3 xa xn xc xb xr
            go_wp2_with fail
            refine wp_region_ordE 16 [(true, 0), (true, 1), (true, 2), (true, 3), (true, 4), (true, 5), (true, 6), (true, 7), (true, 8), (true, 9), (true, 10), (true, 11), (true, 12), (true, 13), (true, 14), (true, 15)] (by kernel_rfl) (by kernel_rfl) ?_
            refine wpOrdT_quiet [0, 1, 2, 3, 4, 5, 6, 7, 8, 9, 10, 11, 12, 13, 14, 15] [] _ (by kernel_rfl) ?_
            simp only [nthOps, nthOp, List.cons_append, List.nil_append]
            repeat (go_big_quiet_step (fail))
            refine wpQuiet_nil ?_
            clear K1 K2 K3 A0 A1 A2 A3 A4 A5
            simp only [wpOrdT, List.drop_succ_cons, List.drop_zero]
            go_wp2_with fail
            refine HS.out.mono ?_
            rintro e w5 ⟨rfl, hr5, hm5⟩
            have HR5 := Lib.hid hr5; have HM5 := Lib.hid ((HM2.out.trans (Mod.of HX3.out)).trans hm5)
            clear hr5 hm5
            go_wp2_with fail
            go_roundw
            case rel =>
              refine ⟨s + 1, j + 1, by omega, by have := HJ.out; omega, by go_num, fun hn => (HR5.out hn).congr fun j' _ => ?_, HM5.out⟩
              show _ = bps Z (bsol Z m k) m i j' s - Z i (i + 1 + s) * bsol Z m k (i + 1 + s) j'
              rw [← HJ.out]
            case measure => simp [intOf]; omega
        · obtain rfl : k = s := by omega
          obtain rfl : m = j := by have := HI.out; have := HJ.out; omega
          have dj : decide ((m : Int) < (m : Int)) = false := by simp
          have di : decide ((i : Int) < (m : Int)) = true := by simp; omega
          have hE1 := Ext.new w2 (.cells (rowc nb fun _ => zEn).toArray 32)
          have hO1 := HX2.out.ext hE1
          have fr := hO1.frozen
          have k1 : (w2.alloc (.cells (rowc nb fun _ => zEn).toArray 32)).cell? ⟨w.heap.size, i, none⟩ = some (RX i).v := by rw [hO1.cell]; exact mxc_at him
          have kb : w2.cell? ⟨Gb, i, none⟩ = some (.slice (R2 i).A nb nb) := by rw [HBo2.out.cell, mxc_at him, HBm.out.v0 him]
          have hO2 : Blk ((w2.alloc (.cells (rowc nb fun _ => zEn).toArray 32)).setCell ⟨w.heap.size, i, none⟩ (.slice (some ⟨w2.heap.size, 0, none⟩) nb nb)) w.heap.size 37 (mxc m (upd RX i ⟨some ⟨w2.heap.size, 0, none⟩, w2.heap.size, 0, nb, nb⟩)).toArray := by
            rw [← mxc_upd]; exact hO1.set_ _ _
          have k2 : ((w2.alloc (.cells (rowc nb fun _ => zEn).toArray 32)).setCell ⟨w.heap.size, i, none⟩ (.slice (some ⟨w2.heap.size, 0, none⟩) nb nb)).cell? ⟨w.heap.size, i, none⟩ = some (.slice (some ⟨w2.heap.size, 0, none⟩) nb nb) := by rw [hO2.cell, mxc_at him, upd_same]; rfl
          have hgw : w.heap.size < w2.heap.size := HX2.out.lt
          have hB2 : Blk ((w2.alloc (.cells (rowc nb fun _ => zEn).toArray 32)).setCell ⟨w.heap.size, i, none⟩ (.slice (some ⟨w2.heap.size, 0, none⟩) nb nb)) w2.heap.size 32 (rowc nb fun _ => zEn).toArray := (Blk.new _ _ _).far (by show w2.heap.size ≠ w.heap.size; omega) _
          have hm4 : Mod (fun g => g = w.heap.size) w2 ((w2.alloc (.cells (rowc nb fun _ => zEn).toArray 32)).setCell ⟨w.heap.size, i, none⟩ (.slice (some ⟨w2.heap.size, 0, none⟩) nb nb)) := (Mod.of hE1).trans (Mod.only (Only.set _ _ _ _) rfl)
          have hfarG : Far (fun g => g = w.heap.size) w2 := fun g hg _ => by subst hg; exact ⟨_, _, HX2.out, noInt_slices _ _⟩
          have HO2 := Lib.hid hO2; have HB4 := Lib.hid hB2; have HM4 := Lib.hid hm4; have HFG := Lib.hid hfarG; have HGW := Lib.hid hgw
          clear hO2 hB2 hm4 hfarG hgw hE1 hO1
          go_wp2_with fail
          clear k1 k2 fr kb
          generalize hW4 : World.setCell _ _ _ = w4 at HO2 HB4 HM4 ⊢
          clear hW4
          generalize hgg : w2.heap.size = g at *
          have HGG := Lib.hid hgg; clear hgg
          have HC4 := Lib.hid (Blk.mod HC2.out HM4.out (by exact fun e => HC2.out.ne_t HX2.out (by decide) e))
          have HA4 := Lib.hid (HA2.out.mod HM4.out HFG.out (by have := HGa.out.1; exact fun e => by omega) (fun j' hj' _ => HA2.out.ne hj' (by omega) HX2.out))
          have HBo4 := Lib.hid (HBo2.out.mod HM4.out (by have := HGa.out.2; exact fun e => by omega))
          have HBr4 : Hid (0 < nb → RowIs w4 (R2 i).b nb (fun j => bps Z (bsol Z m k) m i j k)) := Lib.hid fun hn => (HRi.out hn).mod HM4.out HFG.out (by
            obtain ⟨cs, hcs⟩ := (HRi.out hn).blk
            exact fun e => hcs.ne_t HX2.out (by decide) e)
          have HGg : Hid (w.heap.size < g ∧ Ga < g ∧ Gb < g ∧ gf < g ∧ (0 < nb → (R2 i).b < g) ∧ ∀ i', i' < m → (R i').b < g) := Lib.hid (by
            have h1 := HGG.out; have h2 := HGW.out; have h3 := HGa.out
            refine ⟨h2, by omega, by omega, by have := Blk.lt HC2.out; omega, fun hn => ?_, fun i' hi' => ?_⟩
            · obtain ⟨cs, hcs⟩ := (HRi.out hn).blk
              have := hcs.lt; omega
            · obtain ⟨cs, hcs⟩ := (HA2.out.row i' hi' (by omega)).2.blk
              have := hcs.lt; omega)
          clear HA2 HC2 HBo2
          go_loopw [69] (fun i69 wz => ∃ (j' : Nat) (f : Nat → En), j' ≤ nb ∧ i69 = .int .i64 j' ∧ Blk wz g 32 (rowc nb f).toArray ∧ (∀ j, j < j' → GV wz (f j).v (bps Z (bsol Z m k) m i j k / Z i i) 12800) ∧ Mod (fun g' => g' = g) w4 wz) (fun i69 _ => nb - (intOf i69).toNat)
          case atStart => exact ⟨0, _, by omega, rfl, HB4.out, fun j hj => by omega, Mod.refl _ _⟩
          case round =>
            clear dj
            obtain ⟨j', f, hj', rfl, hb, hgv, hmz⟩ := hrel
            have HBz := Lib.hid hb; have HGV := Lib.hid hgv; have HMz := Lib.hid hmz; clear hb hgv hmz
            rename World => wz
            have hfg : Far (fun g' => g' = g) w4 := fun g' hg _ => by subst hg; exact ⟨_, _, HB4.out, rowc_noint _ _⟩
            have HFg := Lib.hid hfg; clear hfg
            have HOz := Lib.hid (HO2.out.mod HMz.out (by have := HGg.out.1; exact fun e => by omega))
            have HCz := Lib.hid (Blk.mod HC4.out HMz.out (by have := HGg.out.2.2.2.1; exact fun e => by omega))
            have HAz := Lib.hid (HA4.out.mod HMz.out HFg.out (by have := HGg.out.2.1; exact fun e => by omega) (fun i' hi' _ => by have := HGg.out.2.2.2.2.2 i' hi'; exact fun e => by omega))
            have HBoz := Lib.hid (HBo4.out.mod HMz.out (by have := HGg.out.2.2.1; exact fun e => by omega))
            have HBrz : Hid (0 < nb → RowIs wz (R2 i).b nb (fun j => bps Z (bsol Z m k) m i j k)) := Lib.hid fun hn => (HBr4.out hn).mod HMz.out HFg.out (by have := HGg.out.2.2.2.2.1 hn; exact fun e => by omega)
            by_cases hjt : j' < nb
            · have dj : decide ((j' : Int) < (nb : Int)) = true := by simp; omega
              have hb0 : 0 < nb := by omega
              have hA2 := (HBm.out.row i him hb0).1
              have K1 := ExtOf.cell (show wz.cell? ⟨w.heap.size, i, none⟩ = some (.slice (some ⟨g, 0, none⟩) nb nb) by rw [HOz.out.cell, mxc_at him, upd_same]; rfl)
              have K2 := ExtOf.cell (show wz.cell? ⟨Gb, i, none⟩ = some (.slice (some ⟨(R2 i).b, 0, none⟩) nb nb) by rw [HBoz.out.cell, mxc_at him, HBm.out.v him hb0])
              obtain ⟨hra, fa, hfa, hva⟩ := HAz.out.row i him (by omega)
              have K3 := ExtOf.cell (show wz.cell? ⟨Ga, i, none⟩ = some (.slice (some ⟨(R i).b, 0, none⟩) m m) by rw [HAz.out.cell him, hra])
              obtain ⟨fb, hfb, hvb⟩ := HBrz.out hb0
              obtain ⟨a0, a1, a2, a3, a4, a5⟩ := RowIs.cells hfa him rfl
              obtain ⟨b0, b1, b2, b3, b4, b5⟩ := RowIs.cells hfb hjt rfl
              have A0 := ExtOf.cell a0; have A1 := ExtOf.cell a1; have A2 := ExtOf.cell a2; have A3 := ExtOf.cell a3; have A4 := ExtOf.cell a4; have A5 := ExtOf.cell a5
              have B0 := ExtOf.cell b0; have B1 := ExtOf.cell b1; have B2 := ExtOf.cell b2; have B3 := ExtOf.cell b3; have B4 := ExtOf.cell b4; have B5 := ExtOf.cell b5
              have HVa := Lib.hid ((hva i him).to (HR.out.a i i him him)); have HVb := Lib.hid ((hvb j' hjt).to (by have := HR.out.d k j' hlt hjt; rwa [← HI.out] at this))
              clear hra hfa hva hfb hvb a0 a1 a2 a3 a4 a5 b0 b1 b2 b3 b4 b5 hA2
              go_wp2_with fail
              refine wp_region_ordE 21 [(true, 0), (true, 1), (true, 2), (true, 3), (true, 4), (true, 5), (true, 6), (true, 7), (true, 8), (true, 9), (true, 10), (true, 11), (true, 12), (true, 13), (true, 14), (true, 15), (true, 16), (true, 17), (true, 18), (true, 19), (false, 20)] (by kernel_rfl) (by kernel_rfl) ?_
              refine wpOrdT_quiet [0, 1, 2, 3, 4, 5, 6, 7, 8, 9, 10, 11, 12, 13, 14, 15, 16, 17, 18, 19] [(false, 20)] _ (by kernel_rfl) ?_
              simp only [nthOps, nthOp, List.cons_append, List.nil_append]
              repeat (go_big_quiet_step (fail))
              refine wpQuiet_nil ?_
              refine wpOrdT_act 20 [] (by kernel_rfl) ?_
              intro K hK
              simp only [nthOp]
              go_wp2_with fail
              have hdd : Ext wz wz.drew := (Ext.refl _).drew
              refine (fdiv_r gf _ _ (bps Z (bsol Z m k) m i j' k) (Z i i) Nd N _ (Blk.ext HCz.out hdd) (HVb.out.ext hdd) (HVa.out.ext hdd) (HZ.out i him) Nx HR.out.c3 HR.out.c4 (bsol_bd HR.out HI.out hlt hjt) HR.out.c5).mono ?_
              rintro e w5 ⟨v5, rfl, hv5, hx5⟩
              obtain ⟨u1, D1, p1, q1, u2, D2, p2, q2, u3, D3, p3, q3, rfl⟩ := hv5.opn
              have HX5 := Lib.hid hx5.undrew; have HV5 := Lib.hid hv5
              clear hx5 hv5 hdd
              go_wp2
              refine hK _ _ ⟨⟨w5, HX5.out⟩, rfl⟩ ?_
              clear hK K K1 K2 K3 A0 A1 A2 A3 A4 A5 B0 B1 B2 B3 B4 B5
              simp only [wpOrdT, List.drop_succ_cons, List.drop_zero]
              have HB5 := Lib.hid (HBz.out.ext HX5.out)
              obtain ⟨a0, a1, a2, a3, a4, a5⟩ := RowIs.cells HB5.out hjt rfl
              have fr := HB5.out.frozen
              have hm5 : Mod (fun g' => g' = g) w5 (puts w5 g (j' * 6) [.bool u1, .slice D1 p1 q1, .bool u2, .slice D2 p2 q2, .bool u3, .slice D3 p3 q3]) := Mod.only (puts_only _ _ _ _) rfl
              have hS5 : Far (fun g' => g' = g) w5 := fun g' hg _ => by subst hg; exact ⟨_, _, HB5.out, rowc_noint _ _⟩
              have hb6 := puts_blk (j' * 6) [.bool u1, .slice D1 p1 q1, .bool u2, .slice D2 p2 q2, .bool u3, .slice D3 p3 q3] HB5.out
              have hset := rowc_set (f := f) ⟨u1, D1, p1, q1, u2, D2, p2, q2, u3, D3, p3, q3⟩ hjt
              rw [show setsA (rowc nb f).toArray (j' * 6) [.bool u1, .slice D1 p1 q1, .bool u2, .slice D2 p2 q2, .bool u3, .slice D3 p3 q3] = _ from hset] at hb6
              have HB6 := Lib.hid hb6; have HM6 := Lib.hid ((HMz.out.trans (Mod.of HX5.out)).trans hm5)
              have HV6 : Hid (∀ j, j < j' + 1 → GV (puts w5 g (j' * 6) [.bool u1, .slice D1 p1 q1, .bool u2, .slice D2 p2 q2, .bool u3, .slice D3 p3 q3]) (upd f j' ⟨u1, D1, p1, q1, u2, D2, p2, q2, u3, D3, p3, q3⟩ j).v (bps Z (bsol Z m k) m i j k / Z i i) 12800) := Lib.hid fun j hj => by
                by_cases e : j = j'
                · subst e; rw [upd_same]; exact ((HV5.out.up HR.out.c5).mod hm5 hS5)
                · rw [upd_ne e]; exact ((HGV.out j (by omega)).ext HX5.out).mod hm5 hS5
              clear hm5 hS5 hb6 hset
              go_wp2_with fail
              go_roundw
              case rel => exact ⟨j' + 1, _, by omega, by go_num, HB6.out, HV6.out, HM6.out⟩
              case measure => simp [intOf]; omega
            · obtain rfl : nb = j' := by omega
              have dj : decide ((nb : Int) < (nb : Int)) = false := by simp
              have e0 := Blk.cell HCz.out
              go_wp2_with fail
              have hS : Far (fun g' => (0 < nb ∧ g' = (R2 i).b) ∨ g' = w.heap.size ∨ g' = g) wr := by
                rintro g' (h | rfl | rfl) hlt'
                · exact HF1.out g' h hlt'
                · exact ⟨_, _, HXb.out, noInt_slices _ _⟩
                · have h1 := HGG.out; have h2 := HM2.out.size; omega
              have hM : Mod (fun g' => (0 < nb ∧ g' = (R2 i).b) ∨ g' = w.heap.size ∨ g' = g) wr wz := ((HM2.out.mono fun g' h => .inl h).trans (HM4.out.mono fun g' h => .inr (.inl h))).trans (HMz.out.mono fun g' h => .inr (.inr h))
              have hgG := HGg.out.1
              have hpb : ∀ j, j < m → 0 < nb → (R2 j).b < w.heap.size := fun j hj hn => HPB.out _ (HBm.out.mem j hj hn)
              have he1 : (i : Int) - 1 = (m : Int) - 1 - ((k + 1 : Nat) : Int) := by have := HI.out; omega
              refine ⟨⟨k + 1, upd RX i ⟨some ⟨g, 0, none⟩, g, 0, nb, nb⟩, by omega, by rw [he1], ?_⟩, by simp [intOf]⟩
              refine ⟨HCz.out, ⟨R, HAz.out⟩, ⟨R2, upd Y i (fun j => bps Z (bsol Z m k) m i j k), ?_, fun i' j hi' => ?_⟩, HOz.out, Nat.le_refl _, fun i' h1 h2 => ?_, ?_⟩
              · refine HBm.out.upd hM hS ?_ ?_ (fun hn => HBrz.out hn)
                · rintro (⟨hn, e⟩ | e | e)
                  · exact HBm.out.ne him hn HBm.out.out e.symm
                  · have := HGa.out.2; omega
                  · have := HGg.out.2.2.1; omega
                · rintro j hj hji hn (⟨_, e⟩ | e | e)
                  · exact hji (HBm.out.inj j i hj him hn e)
                  · have := hpb j hj hn; omega
                  · have := hpb j hj hn; omega
              · have := HI.out
                rw [upd_ne (by omega)]; exact HY.out i' j (by omega)
              · have hI := HI.out
                by_cases e : i' = i
                · subst e
                  rw [upd_same]
                  refine ⟨rfl, rfl, rfl, by show w.heap.size ≤ g; omega, f, HBz.out, fun j hj => ?_⟩
                  have hb := HGV.out j hj
                  have e2 : bsol Z m (k + 1) i' j = bps Z (bsol Z m k) m i' j k / Z i' i' := by
                    show upd (bsol Z m k) (m - 1 - k) (fun j => bps Z (bsol Z m k) m (m - 1 - k) j k / Z (m - 1 - k) (m - 1 - k)) i' j = _
                    rw [← hI, upd_same]
                  rw [e2]; exact hb
                · rw [upd_ne e]
                  obtain ⟨h3, h4, h5, h6, h7⟩ := HRow.out i' (by omega) h2
                  refine ⟨h3, h4, h5, h6, ?_⟩
                  rw [bsol_keep Z hlt (by omega)]
                  refine h7.mod hM hS ?_
                  obtain ⟨cs, hcs⟩ := h7.blk
                  rintro (⟨hn, e'⟩ | e' | e')
                  · have := hpb i him hn; omega
                  · exact hcs.ne_t HXb.out (by decide) e'
                  · have h8 := hcs.lt; have h9 := HGG.out; have h10 := HM2.out.size; omega
              · have hm := HMd.out
                exact ⟨hM.os.trans hm.os, hM.tape.trans hm.tape, hM.output.trans hm.output, Nat.le_trans hm.size hM.size, fun k' hk' hn => (hM.block k' (Nat.lt_of_lt_of_le hk' hm.size) (by
                  rintro (⟨hn', e'⟩ | e' | e')
                  · exact hn (e' ▸ HBm.out.mem i him hn')
                  · omega
                  · omega)).trans (hm.block k' hk' hn)⟩
    · obtain rfl : k = m := by omega
      have hik : (k : Int) - 1 - (k : Int) = -1 := by omega
      rw [hik]
      go_wp2_with fail
      go_ret
      exact ⟨_, RX, rfl, HB.out⟩
set_option maxRecDepth 100000 in
set_option maxHeartbeats 6400000 in
theorem solve_r {A A2 : Option Addr} {B O B2 O2 m c c2 nb N Ns Nd Nx : Nat} {R R2 : Nat → Rw} {E E2 : Nat → Nat → En} {X Y : Nat → Nat → GQ} {w : World} {vb vb2 : Nat → Nat → Bool} (h : Mem w A B O m R E) (h2 : Mem w A2 B2 O2 m R2 E2)
    (hvb : ∀ i j, i < m → j < (R i).n → VB w (E i j).v (vb i j)) (hvb2 : ∀ i j, i < m → j < (R2 i).n → VB w (E2 i j).v (vb2 i j)) (hM : IsM m R vb) (hM2 : IsM m R2 vb2) (hn : ∀ i, i < m → (R i).n = m) (hn2 : ∀ i, i < m → (R2 i).n = nb) (hnb : nb ≤ 24)
    (hv : ∀ i j, i < m → j < m → GV w (E i j).v (X i j) 12800) (hv2 : ∀ i j, i < m → j < nb → GV w (E2 i j).v (Y i j) 12800) (hN : 4 * N + 67 ≤ 12800) (hroom : Room N m m nb (side m X Y)) (hrb : (ech m (side m X Y) m).r = m → RoomC N Ns Nd Nx m nb (ech m (side m X Y) m).X) :
    Calls Tryz.prog 20 #[.slice A m c, .slice A2 m c2] w fun e w' => ((ech m (side m X Y) m).r < m ∧ e = .returned (.tuple #[.slice none 0 0, .int .i64 45]) ∨ (ech m (side m X Y) m).r = m ∧ ∃ G RX, e = .returned (.tuple #[.slice (some ⟨G, 0, none⟩) m m, .int .i64 0]) ∧ Out w' G m nb RX (bsol (ech m (side m X Y) m).X m m)) ∧ Ext w w' := by
  have hm := hM.1
  have hdg := ech_diag m (side m X Y) m
  have hlem := ech_le m (side m X Y) m
  have HM := Lib.hid h; have HMb := Lib.hid h2; have HV := Lib.hid hv; have HV2 := Lib.hid hv2; have HN := Lib.hid hn; have HN2 := Lib.hid hn2; have HR := Lib.hid hroom; have HRB := Lib.hid hrb; have HDG := Lib.hid hdg
  have HMx := Lib.hid (fun (w' : World) (x : Ext w w') => matrix_any (c := c) (h.ext x) (fun i j hi hj => (hvb i j hi hj).ext x) true ⟨fun _ => hM, fun _ => rfl⟩)
  have HMy := Lib.hid (fun (w' : World) (x : Ext w w') => matrix_any (c := c2) (h2.ext x) (fun i j hi hj => (hvb2 i j hi hj).ext x) true ⟨fun _ => hM2, fun _ => rfl⟩)
  have HWd := Lib.hid (fun (w' : World) (x : Ext w w') => width_any (c := c) (h.ext x))
  have hwd : wd m R = m := by
    unfold wd
    by_cases e : m = 0
    · rw [if_pos e]; exact e.symm
    · rw [if_neg e]; exact hn 0 (by omega)
  rw [hwd] at HWd
  clear h h2 hv hv2 hn hn2 hroom hrb hvb hvb2 hM hM2 hwd hdg
  have hbeq : ((m : Int) != (m : Int)) = false := by simp
  go_enter Tryz.func20, Tryz.ntmps20
  go_wp2_with fail
  refine (HMx.out _ (Ext.refl _)).mono ?_
  rintro e w1 ⟨rfl, hx1⟩
  have HE1 := Lib.hid hx1; clear hx1
  go_wp2_with fail
  refine (HMy.out _ HE1.out).mono ?_
  rintro e w2 ⟨rfl, hx2⟩
  have HE2 := Lib.hid (HE1.out.trans hx2); clear hx2 HE1
  go_wp2_with fail
  refine (HWd.out _ HE2.out).mono ?_
  rintro e w3 ⟨rfl, hx3⟩
  have hE3 := (HE2.out.trans hx3).alloc (.cells #[.int .i64 0] 68)
  have hC3 := calm_new w3
  clear HE2 hx3
  go_wp2_with fail
  generalize (w3.alloc (.cells #[.int .i64 0] 68)) = w4 at hC3 hE3 ⊢
  generalize w3.heap.size = gf at hC3 ⊢
  have HC4 := Lib.hid hC3; have HE4 := Lib.hid hE3; clear hC3 hE3
  refine (dup_w (HM.out.ext HE4.out) HN.out (fun i j hi hj => (HV.out i j hi hj).ext HE4.out) hm hm).mono ?_
  rintro e wa ⟨Ga, Ra, rfl, hDa⟩
  have HEa := Lib.hid (HE4.out.trans hDa.ext); have HDa := Lib.hid hDa; clear hDa
  go_wp2_with fail
  refine (dup_w (HMb.out.ext HEa.out) HN2.out (fun i j hi hj => (HV2.out i j hi hj).ext HEa.out) hm hnb).mono ?_
  rintro e wb ⟨Gb, Rb, rfl, hDb⟩
  have HEb := Lib.hid (HEa.out.trans hDb.ext); have HDb := Lib.hid hDb; clear hDb
  have hPA : ∀ i, i < m → (Ra i).b < wa.heap.size := fun i hi => by
    obtain ⟨cs, hcs⟩ := (HDa.out.row i hi).2.1.blk
    exact hcs.lt
  have hPB : ∀ i, i < m → wa.heap.size ≤ (Rb i).b ∧ (Rb i).b < wb.heap.size := fun i hi => by
    obtain ⟨cs, hcs⟩ := (HDb.out.row i hi).2.1.blk
    exact ⟨(HDb.out.row i hi).2.2, hcs.lt⟩
  have hsz : w4.heap.size ≤ wa.heap.size := HDa.out.ext.size
  have hsz2 : wa.heap.size ≤ wb.heap.size := HDb.out.ext.size
  have HEI := Lib.hid (EI.mk (gf := gf) (Ga := Ga) (Gb := Gb) (m := m) (na := m) (nb := nb) (PA := fun g => ∃ i, i < m ∧ g = (Ra i).b) (PB := fun g => ∃ i, i < m ∧ g = (Rb i).b) (Z := side m X Y) (W := wb) ((HC4.out.ext HDa.out.ext).ext HDb.out.ext) ⟨Ra, (HDa.out.mx HDb.out.ext).congr fun i j hi hj => (side_a hj).symm⟩ ⟨Rb, (HDb.out.mx (Ext.refl _)).congr fun i j hi hj => (side_b).symm⟩)
  have hGab : Ga ≠ Gb := by have h1 := HDa.out.out.lt; have h2 := HDb.out.gx; omega
  have HGab := Lib.hid hGab; clear hGab
  have HPA := Lib.hid hPA; have HPB := Lib.hid hPB; clear hPA hPB
  have HSZ := Lib.hid (And.intro hsz hsz2); clear hsz hsz2
  go_wp2_with fail
  refine (fechelon_w gf Ga Gb m m m m nb N _ _ (fun g => w4.heap.size ≤ g) (side m X Y) wb HEI.out HGab.out ?_ ⟨HDa.out.gx, Nat.le_trans HSZ.out.1 HDb.out.gx, ?_, ?_⟩ (fun h => h) hm hm hnb hN HR.out ?_).mono ?_
  · rintro g ⟨i, hi, rfl⟩ ⟨j, hj, e⟩
    have h1 := HPA.out i hi; have h2 := (HPB.out j hj).1
    omega
  · rintro g ⟨i, hi, rfl⟩
    exact (HDa.out.row i hi).2.2
  · rintro g ⟨i, hi, rfl⟩
    exact Nat.le_trans HSZ.out.1 (HPB.out i hi).1
  · intro w' x
    exact width_own ((HDa.out.mx HDb.out.ext).ext x) (fun h => h) m (by omega)
  rintro e w5 ⟨rfl, hEI5, hM5⟩
  have HEI5 := Lib.hid hEI5
  have HE5 := Lib.hid (HE4.out.trans (hM5.ext_of (HDa.out.ext.trans HDb.out.ext) (Nat.le_refl _)))
  have HS5 := Lib.hid hM5.size
  have e0 := hEI5.calm.cell
  clear hM5
  generalize hs : ech m (side m X Y) m = s at HRB HDG HEI5 hlem ⊢
  have HS := Lib.hid hs; clear hs
  by_cases hr : s.r < m
  · have dr : decide ((s.r : Int) < (m : Int)) = true := by simp; omega
    have HLR := Lib.hid hr; clear hr
    go_wp2_with fail
    refine bp_tmps2 rfl rfl ⟨.inl ⟨?_, rfl⟩, HE5.out⟩
    rw [HS.out]; exact HLR.out
  · have dr : decide ((s.r : Int) < (m : Int)) = false := by simp; omega
    have dr2 : ¬ ((s.r : Int) < (m : Int)) := by omega
    have HLR : Hid (s.r = m) := Lib.hid (by omega)
    clear hr hlem
    go_wp2_with fail
    refine (fback_r gf Ga Gb m m m nb N Ns Nd Nx _ _ s.X _ HEI5.out ?_ ?_ ?_ hm hnb (HDG.out HLR.out) (HRB.out HLR.out)).mono ?_
    · rintro g ⟨i, hi, rfl⟩ ⟨j, hj, e⟩
      have h1 := HPA.out i hi; have h2 := (HPB.out j hj).1
      omega
    · rintro g ⟨i, hi, rfl⟩
      have h1 := HPA.out i hi; have h2 := HSZ.out; have h3 := HS5.out; omega
    · rintro g ⟨i, hi, rfl⟩
      have h1 := (HPB.out i hi).2; have h3 := HS5.out; omega
    rintro e w6 ⟨G, RX, rfl, hBI⟩
    have e1 := hBI.calm.cell
    have hmod := hBI.mod
    have hE6 : Ext w w6 := by
      have hX := HE5.out
      exact ⟨hmod.os.trans hX.os, hmod.tape.trans hX.tape, hmod.output.trans hX.output, Nat.le_trans hX.size hmod.size, fun k' hk' => (hmod.block k' (Nat.lt_of_lt_of_le hk' hX.size) (by
        rintro ⟨i, hi, e⟩
        have h1 := (HPB.out i hi).1; have h2 := HSZ.out; have h3 := HE4.out.size
        omega)).trans (hX.block k' hk')⟩
    have HE6 := Lib.hid hE6; have HBI := Lib.hid hBI; clear hE6 hBI hmod
    go_wp2_with fail
    refine bp_tmps2 rfl rfl ⟨.inr ⟨?_, G, RX, rfl, ?_⟩, HE6.out⟩
    · rw [HS.out]; exact HLR.out
    · rw [HS.out]
      exact ⟨HBI.out.x, fun i hi => ⟨(HBI.out.row i (by omega) hi).1, (HBI.out.row i (by omega) hi).2.1, (HBI.out.row i (by omega) hi).2.2.1, (HBI.out.row i (by omega) hi).2.2.2.2⟩⟩
end Go.Proofs.YtclkkoiaaddllaaGreat

namespace Go.Proofs.YtclkkoiaaddllaaGreat
set_option linter.unusedVariables false
set_option linter.unusedSimpArgs false

theorem sizes_s : ∀ m, m < 7 → ∀ i, i < m → ∀ s, s < 7 → (fct (i + 1) * (2 ^ (32 * (m + 1) + 1)) ^ (i + 1) * (fct m * (2 ^ (32 * (m + 1) + 1)) ^ m) + s * (fct (i + 1) * (2 ^ (32 * (m + 1) + 1)) ^ (i + 1) * (fct m * (2 ^ (32 * (m + 1) + 1)) ^ m))) * (2 ^ (32 * (m + 1)) * (fct i * (2 ^ (32 * (m + 1) + 1)) ^ i) * (fct m * (2 ^ (32 * (m + 1) + 1)) ^ m)) < 2 ^ 5440 := by decide +kernel
theorem sizes_t : ∀ m, m < 7 → ∀ i, i < m → (2 ^ (32 * (m + 1)) * (fct i * (2 ^ (32 * (m + 1) + 1)) ^ i) * (fct m * (2 ^ (32 * (m + 1) + 1)) ^ m)) * (2 ^ (32 * (m + 1)) * (fct i * (2 ^ (32 * (m + 1) + 1)) ^ i) * (fct m * (2 ^ (32 * (m + 1) + 1)) ^ m)) < 2 ^ 5440 := by decide +kernel
theorem sizes_p : ∀ m, m < 7 → ∀ s, s < 7 → (2 ^ (32 * m + 1) * (fct m * (2 ^ (32 * (m + 1) + 1)) ^ m) + s * (2 ^ (32 * m + 1) * (fct m * (2 ^ (32 * (m + 1) + 1)) ^ m))) * (2 ^ (32 * m) * (fct m * (2 ^ (32 * (m + 1) + 1)) ^ m)) < 2 ^ 3300 := by decide +kernel
theorem sizes_q : ∀ m, m < 7 → (2 ^ (32 * m) * (fct m * (2 ^ (32 * (m + 1) + 1)) ^ m)) * (2 ^ (32 * m) * (fct m * (2 ^ (32 * (m + 1) + 1)) ^ m)) < 2 ^ 3300 := by decide +kernel
section
variable {m nb : Nat} {X Y : Nat → Nat → GQ}
theorem side_bd (hX : ∀ i j, i < m → j < m → Bd (X i j) 32) (hY : ∀ i j, i < m → j < nb → Bd (Y i j) 32) : ∀ i j, i < m → j < m + nb → Bd (side m X Y i j) 32 := fun i j hi hj => by
  unfold side
  by_cases h : j < m
  · rw [if_pos h]; exact hX i j hi h
  · rw [if_neg h]; exact hY i _ hi (by omega)
theorem roomZ (hm : m ≤ 6) (hb : ∀ i j, i < m → j < m + nb → Bd (side m X Y i j) 32) : Room 2340 m m nb (side m X Y) :=
  room_of (b := 32) hb fun k hk => ⟨small_room5 k (by omega), small_roomf k (by omega)⟩
theorem sol_bd (hm : m ≤ 6) (hb : ∀ i j, i < m → j < m + nb → Bd (side m X Y i j) 32) (hr : (ech m (side m X Y) m).r = m) : ∀ i j, i < m → j < m + nb → Bd ((rech m (side m X Y) m).X i j) 2720 := by
  obtain ⟨o, P, h⟩ := rech_inv m (side m X Y) m
  exact h.bd hb (by omega) (fun h => by omega) (small_room _ (by rw [hr]; exact hm)).1
theorem part_bd (hm : m ≤ 6) (hb : ∀ i j, i < m → j < m + nb → Bd (side m X Y i j) 32) (hr : (ech m (side m X Y) m).r = m) {k j s : Nat} (hk : k < m) (hj : j < nb) (hs : s ≤ k) :
    Bd (bps (ech m (side m X Y) m).X (bsol (ech m (side m X Y) m).X m k) m (m - 1 - k) j s) 5440 := by
  obtain ⟨o, P, h⟩ := rech_inv2 m (side m X Y) m
  rw [bps_usum, usum_congr (x' := fun t => (rech m (side m X Y) m).X (m - 1 - k + 1 + t) (m + j)) s (fun t ht => bsol_is h hr j k (by omega) _ (by omega) (by omega))]
  obtain ⟨M, hM0, hM1, hM2⟩ := sol_whole (b := 32) (W := m + nb) (j' := m + j) h hr hb (by omega) (by omega)
  obtain ⟨D, hD0, hD1, hD2⟩ := row_frac (b := 32) (W := m + nb) (j' := m + j) (i := m - 1 - k) hr (by omega) hb (by omega) (by omega)
  exact usum_bd hD0 hM0 hD1 hM1 (hD2 _ (.inr rfl)) (fun t ht => hD2 _ (.inl (by omega))) (fun t ht => hM2 _ (by omega)) (sizes_s m (by omega) _ (by omega) s (by omega)) (sizes_t m (by omega) _ (by omega))
theorem roomC6 (hm : m ≤ 6) (hb : ∀ i j, i < m → j < m + nb → Bd (side m X Y i j) 32) (hr : (ech m (side m X Y) m).r = m) : RoomC 2340 5440 5440 2720 m nb (ech m (side m X Y) m).X := by
  refine ⟨fun i l hi hl => ?_, fun k j s hk hj hs => part_bd hm hb hr hk hj (by omega), fun k j hk hj => part_bd hm hb hr hk hj (Nat.le_refl k), fun k i j hk h1 h2 hj => ?_, by omega, by omega, by omega, by omega, by omega⟩
  · exact ech_bd (F := fun _ => 2340) (W := m + nb) hb (fun k hk => small_room5 k (by omega)) m (by omega) i l hi (by omega)
  · obtain ⟨o, P, h⟩ := rech_inv2 m (side m X Y) m
    rw [bsol_is h hr j k hk i h1 h2]
    exact sol_bd hm hb hr i _ h2 (by omega)
/-- The solution. -/
def sol (m : Nat) (X Y : Nat → Nat → GQ) : Nat → Nat → GQ := bsol (ech m (side m X Y) m).X m m
theorem sol_is (hr : (ech m (side m X Y) m).r = m) {i : Nat} (hi : i < m) (j : Nat) : sol m X Y i j = (rech m (side m X Y) m).X i (m + j) := by
  obtain ⟨o, P, h⟩ := rech_inv2 m (side m X Y) m
  exact bsol_is h hr j m (Nat.le_refl m) i (by omega) hi
theorem sol_right (hr : (ech m (side m X Y) m).r = m) {i : Nat} (hi : i < m) (j : Nat) : psum X (sol m X Y) i j m = Y i j := by
  obtain ⟨o, P, h⟩ := rech_inv2 m (side m X Y) m
  have hmem : side m X Y i ∈ P := by
    rcases h.cov i hi with h1 | ⟨t, h1, h2, _⟩
    · exact h1
    · omega
  have := span_sum h hr (Spn.of_mem hmem) (m + j)
  rw [side_b] at this
  rw [this]
  exact psum_congr m fun l hl => ⟨(side_a hl).symm, sol_is hr hl j⟩
theorem prod_bd (hm : m ≤ 6) (hX : ∀ i j, i < m → j < m → Bd (X i j) 32) (hb : ∀ i j, i < m → j < m + nb → Bd (side m X Y i j) 32) (hr : (ech m (side m X Y) m).r = m) {i j s : Nat} (hi : i < m) (hj : j < nb) (hs : s ≤ m) : Bd (psum X (sol m X Y) i j s) 3300 := by
  obtain ⟨o, P, h⟩ := rech_inv2 m (side m X Y) m
  rw [psum_usum, usum_congr (x' := fun t => (rech m (side m X Y) m).X t (m + j)) s (fun t ht => sol_is hr (by omega) j)]
  obtain ⟨M, hM0, hM1, hM2⟩ := sol_whole (b := 32) (W := m + nb) (j' := m + j) h hr hb (by omega) (by omega)
  obtain ⟨D, d0, d1, d2⟩ := row_whole (X i) 32 (List.range m) (fun c hc => hX i c hi (List.mem_range.1 hc))
  rw [List.length_range] at d1 d2
  refine Bd.neg (usum_bd (i_ne d0) hM0 (wh_real d1) hM1 (by rw [GQ.mul_zero']; exact wh_zero _) (fun t ht => d2 t (List.mem_range.2 (by omega))) (fun t ht => hM2 t (by omega)) (sizes_p m (by omega) s (by omega)) (sizes_q m (by omega)))
theorem detv_zero : detv m X = GQ.i 0 0 ↔ (ech m X m).r < m := by
  unfold detv
  by_cases h : (ech m X m).r < m
  · rw [if_pos h]; exact ⟨fun _ => h, fun _ => rfl⟩
  · rw [if_neg h]
    obtain ⟨o, P, hI, he⟩ := pprod_det h (Nat.le_refl m)
    have h0 := hI.inv.ne
    rw [← he] at h0
    refine ⟨fun e => absurd ?_ h0, fun e => absurd e h⟩
    cases hodd : (ech m X m).odd
    · rw [hodd] at e; exact e
    · rw [hodd] at e
      have e' : GQ.i 0 0 - pprod (ech m X m).X m = GQ.i 0 0 := e
      rw [GQ.zero_sub'] at e'
      rw [← GQ.neg_neg' (pprod (ech m X m).X m), e', GQ.neg_zero']
end
end Go.Proofs.YtclkkoiaaddllaaGreat

