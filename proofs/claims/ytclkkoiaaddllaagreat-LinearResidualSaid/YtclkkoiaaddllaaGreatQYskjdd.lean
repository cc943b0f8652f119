/- Linear: back substitution. -/
import Derived.Test.YtclkkoiaaddllaaGreatQYocmaf

namespace Go.Proofs.YtclkkoiaaddllaaGreat
open Go.RowKit
set_option linter.unusedVariables false

/-- The right side less the first s products. -/
def bps (Z xx : Nat → Nat → GQ) (m i j : Nat) : Nat → GQ
  | 0 => Z i (m + j)
  | s + 1 => bps Z xx m i j s - Z i (i + 1 + s) * xx (i + 1 + s) j
/-- The last k rows of the solution. -/
def bsol (Z : Nat → Nat → GQ) (m : Nat) : Nat → Nat → Nat → GQ
  | 0 => fun _ _ => GQ.i 0 0
  | k + 1 => upd (bsol Z m k) (m - 1 - k) (fun j => bps Z (bsol Z m k) m (m - 1 - k) j k / Z (m - 1 - k) (m - 1 - k))
theorem bsol_keep (Z : Nat → Nat → GQ) {m k i : Nat} (hk : k < m) (hi : m - k ≤ i) : bsol Z m (k + 1) i = bsol Z m k i := by
  show upd _ _ _ i = _
  rw [upd_ne (by omega)]
structure BI (w W : World) (gf Ga Gb G m nb : Nat) (PA PB : Nat → Prop) (Z : Nat → Nat → GQ) (k : Nat) (RX : Nat → Rw) : Prop where
  calm : CalmF W gf
  a : ∃ R, MxI W Ga m m PA R Z
  b : ∃ R Y, MxI W Gb m nb PB R Y ∧ ∀ i j, i < m - k → Y i j = Z i (m + j)
  x : Blk W G 37 (mxc m RX).toArray
  gx : w.heap.size ≤ G
  row : ∀ i, m - k ≤ i → i < m → (RX i).A = some ⟨(RX i).b, 0, none⟩ ∧ (RX i).n = nb ∧ (RX i).c = nb ∧ w.heap.size ≤ (RX i).b ∧ RowIs W (RX i).b nb (bsol Z m k i)
  mod : Mod PB w W
theorem fclear_g (gf b2i b2k nb c2i c2k Nx Ny Nq : Nat) (A2i A2k : Option Addr) (v : Value) (x2 y2 : Nat → GQ) (q : GQ) (w : World) (hc : CalmF w gf) (hq : GV w v q Nq) (h2i : 0 < nb → A2i = some ⟨b2i, 0, none⟩ ∧ RowIs w b2i nb x2) (h2k : 0 < nb → A2k = some ⟨b2k, 0, none⟩ ∧ RowIs w b2k nb y2)
    (hne : 0 < nb → b2i ≠ b2k) (hnb : nb ≤ 1000) (bx2 : ∀ j, j < nb → Bd (x2 j) Nx) (by2 : ∀ j, j < nb → Bd (y2 j) Ny) (hN : 2 * max Nx (Nq + Ny + 1) + 65 ≤ 12800) (hN2 : 2 * max Nq Ny + 1 ≤ 12800) :
    Calls Tryz.prog 77 #[.pointer (some ⟨gf, 0, none⟩), .slice A2i nb c2i, .slice A2k nb c2k, v] w.drew fun e w' => e = .returned (.tuple #[]) ∧ (0 < nb → RowIs w' b2i nb (fun j => x2 j - q * y2 j)) ∧ Mod (fun g => 0 < nb ∧ g = b2i) w w' := by
  have hd : Ext w w.drew := (Ext.refl _).drew
  by_cases h : 0 < nb
  · obtain ⟨e1, r1⟩ := h2i h
    obtain ⟨e2, r2⟩ := h2k h
    refine (fsubtract_g gf b2i b2k 0 0 nb nb nb c2i nb c2k Nx Ny Nq A2i A2k v x2 y2 q w.drew (hc.ext hd) (r1.ext hd) (r2.ext hd) (hne h) (fun _ => by simpa using e1) (fun _ => by simpa using e2) (Nat.le_refl _) (by omega) (by omega) (by omega) (by omega) (hq.ext hd) (fun j hj => by simpa using bx2 j hj) (fun j hj => by simpa using by2 j hj) hN hN2).mono ?_
    rintro e w' ⟨he, hr, hm⟩
    refine ⟨he, fun _ => hr.congr fun j hj => ?_, (Mod.of hd).trans (hm.mono fun g hg => ⟨h, hg⟩)⟩
    unfold subk
    rw [if_pos (by omega)]
    simp
  · obtain rfl : nb = 0 := by omega
    refine (fsubtract_0 gf c2i 0 c2k A2i A2k v q Nq w.drew (hq.ext hd)).mono ?_
    rintro e w' ⟨he, hx⟩
    exact ⟨he, fun h0 => absurd h0 (by omega), (Mod.of hd).trans (Mod.of hx)⟩
/-- The sizes that back substitution meets. -/
structure RoomB (N Ns Nd Nx m nb : Nat) (Z : Nat → Nat → GQ) : Prop where
  a : ∀ i l, i < m → l < m → Bd (Z i l) N
  s : ∀ k j s, k < m → j < nb → s < k → Bd (bps Z (bsol Z m k) m (m - 1 - k) j s) Ns
  d : ∀ k j, k < m → j < nb → Bd (bps Z (bsol Z m k) m (m - 1 - k) j k) Nd
  x : ∀ k i j, k ≤ m → m - k ≤ i → i < m → j < nb → Bd (bsol Z m k i j) Nx
  c1 : 2 * max Ns (N + Nx + 1) + 65 ≤ 12800
  c2 : 2 * max N Nx + 1 ≤ 12800
  c3 : 4 * max Nd N + 3 ≤ 12800
set_option maxRecDepth 100000 in
set_option maxHeartbeats 6400000 in
theorem fback_w (gf Ga Gb m cA cB nb N Ns Nd Nx : Nat) (PA PB : Nat → Prop) (Z : Nat → Nat → GQ) (w : World) (h : EI w gf Ga Gb m m nb PA PB Z) (hd : ∀ g, PA g → PB g → False) (hpa : ∀ g, PA g → g < w.heap.size) (hpb : ∀ g, PB g → g < w.heap.size) (hm : m ≤ 24) (hnb : nb ≤ 24) (hz : ∀ i, i < m → Z i i ≠ GQ.i 0 0) (hR : RoomB N Ns Nd Nx m nb Z) :
    Calls Tryz.prog 50 #[.pointer (some ⟨gf, 0, none⟩), .slice (some ⟨Ga, 0, none⟩) m cA, .slice (some ⟨Gb, 0, none⟩) m cB] w fun e w' => ∃ (G : Nat) (RX : Nat → Rw), e = .returned (.slice (some ⟨G, 0, none⟩) m m) ∧ BI w w' gf Ga Gb G m nb PA PB Z m RX := by
  have HH := Lib.hid h; have HD := Lib.hid hd; have HPA := Lib.hid hpa; have HPB := Lib.hid hpb; have HZ := Lib.hid hz; have HR := Lib.hid hR
  clear h hd hpa hpb hz hR
  have hmk := make_mx m (by omega)
  have hmr := make_row nb (by omega)
  have hm0 : (0 : Int) ≤ (m : Int) := by omega
  have HGa : Hid (Ga < w.heap.size ∧ Gb < w.heap.size) := Lib.hid (by
    obtain ⟨_, ⟨_, a⟩, ⟨_, b⟩⟩ := HH.out
    exact ⟨a.out.lt, b.out.lt⟩)
  go_enter Tryz.func50, Tryz.ntmps50
  go_wp2_with fail
  clear hmk
  go_loopw [8] (fun i wr => ∃ (k : Nat) (RX : Nat → Rw), k ≤ m ∧ i = .int .i64 ((m : Int) - 1 - (k : Int)) ∧ BI w wr gf Ga Gb w.heap.size m nb PA PB Z k RX) (fun i _ => (intOf i + 1).toNat)
  case atStart =>
    obtain ⟨hc, ⟨R, ha⟩, ⟨R2, hb⟩⟩ := HH.out
    have hx := Ext.new w (.cells (mxc m fun _ => nilRw).toArray 37)
    exact ⟨0, fun _ => nilRw, by omega, by go_num, ⟨hc.ext hx, ⟨R, ha.ext hx⟩, ⟨R2, _, hb.ext hx, fun _ _ _ => rfl⟩, Blk.new _ _ _, Nat.le_refl _, fun i h1 h2 => absurd h1 (by omega), Mod.of hx⟩⟩
  case round =>
    obtain ⟨k, RX, hk, rfl, hB⟩ := hrel
    have HB := Lib.hid hB; clear hB HH
    by_cases hlt : k < m
    · obtain ⟨i, hi⟩ : ∃ i, i = m - 1 - k := ⟨_, rfl⟩
      have hik : (m : Int) - 1 - (k : Int) = (i : Int) := by omega
      have him : i < m := by omega
      rw [hik]
      have HI := Lib.hid hi; clear hi hik
      have d1 : decide ((i : Int) ≥ 0) = true := by simp
      go_wp2_with fail
      obtain ⟨hcal, ⟨R, hA⟩, ⟨R2, Y, hBm, hY⟩, hx, hgx, hrow, hmod⟩ := HB.out
      have HC := Lib.hid hcal; have HA := Lib.hid hA; have HBm := Lib.hid hBm; have HY := Lib.hid hY; have HXb := Lib.hid hx; have HRow := Lib.hid hrow; have HMd := Lib.hid hmod
      clear hcal hA hBm hY hx hgx hrow hmod HB
      have hfar1 : Far (fun g => 0 < nb ∧ g = (R2 i).b) wr := by
        rintro g ⟨hn, rfl⟩ _
        obtain ⟨ff, hff, _⟩ := (HBm.out.row i him hn).2
        exact ⟨_, _, hff, rowc_noint _ _⟩
      have HF1 := Lib.hid hfar1; clear hfar1
      have HK : Hid (m - k = i + 1) := Lib.hid (by have := HI.out; omega)
      go_loopw [9] (fun i9 w2 => ∃ s j : Nat, s ≤ k ∧ j = i + 1 + s ∧ i9 = .int .i64 j ∧ (0 < nb → RowIs w2 (R2 i).b nb (fun j => bps Z (bsol Z m k) m i j s)) ∧ Mod (fun g => 0 < nb ∧ g = (R2 i).b) wr w2) (fun i9 _ => m - (intOf i9).toNat)
      case atStart => exact ⟨0, i + 1, by omega, by omega, by go_num, fun hn => (HBm.out.row i him hn).2.congr fun j hj => HY.out i j (by have := HI.out; omega), Mod.refl _ _⟩
      case round =>
        obtain ⟨s, j, hs, hj, rfl, hri, hm2⟩ := hrel
        have HRi := Lib.hid hri; have HM2 := Lib.hid hm2; have HJ := Lib.hid hj; clear hri hm2 hj
        rename World => w2
        have HA2 := Lib.hid (HA.out.mod HM2.out HF1.out (by rintro ⟨hn, e⟩; exact HBm.out.ne him hn HA.out.out e.symm) (by rintro j' hj' _ ⟨hn, e⟩; exact HD.out _ (HA.out.mem j' hj' (by omega)) (e ▸ HBm.out.mem i him hn)))
        have HC2 := Lib.hid (Blk.mod HC.out HM2.out (by
          rintro ⟨hn, e⟩
          exact CalmF.ne HC.out (HBm.out.row i him hn).2 e))
        have HX2 := Lib.hid (HXb.out.mod HM2.out (by rintro ⟨hn, e⟩; exact HBm.out.ne him hn HXb.out e.symm))
        have HBo2 := Lib.hid (HBm.out.out.mod HM2.out (by rintro ⟨hn, e⟩; exact HBm.out.ne him hn HBm.out.out e.symm))
        by_cases hsk : s < k
        · have hjm : j < m := by have := HI.out; have := HJ.out; omega
          have hij : i < j := by have := HJ.out; omega
          have dj : decide ((j : Int) < (m : Int)) = true := by simp; omega
          have di : decide ((i : Int) < (m : Int)) = true := by simp; omega
          obtain ⟨hra, f, hf, hv⟩ := HA2.out.row i him (by omega)
          have k1 := HA2.out.cell him
          rw [hra] at k1
          obtain ⟨a0, a1, a2, a3, a4, a5⟩ := RowIs.cells hf hjm rfl
          have HVj := Lib.hid ((hv j hjm).to (HR.out.a i j him hjm))
          clear hra hf hv
          go_wp2_with fail
          refine (xZero_of _ _ _ _ HVj.out (by have := HR.out.c2; omega)).mono ?_
          rintro e w3 ⟨rfl, hx3⟩
          by_cases h0 : Z i j = GQ.i 0 0
          · rw [decide_eq_true h0]
            have HH0 : Hid (∀ j', bps Z (bsol Z m k) m i j' (s + 1) = bps Z (bsol Z m k) m i j' s) := Lib.hid fun j' => by
              show _ - Z i (i + 1 + s) * _ = _
              rw [← HJ.out, h0, GQ.zero_mul', GQ.sub_zero']
            have HX3 := Lib.hid hx3
            clear h0 k1 a0 a1 a2 a3 a4 a5 hx3
            go_wp2_with fail
            go_roundw
            case rel => exact ⟨s + 1, j + 1, by omega, by have := HJ.out; omega, by go_num, fun hn => ((HRi.out hn).ext HX3.out).congr fun j' _ => (HH0.out j').symm, HM2.out.trans (Mod.of HX3.out)⟩
            case measure => simp [intOf]; omega
          · rw [decide_eq_false h0]
            obtain ⟨xa, xn, xc, xb, xr⟩ := HRow.out j (by have := HK.out; omega) hjm
            have hxrow : 0 < nb → (RX j).A = some ⟨(RX j).b, 0, none⟩ ∧ RowIs w3 (RX j).b nb (bsol Z m k j) := fun hn => ⟨xa, (xr.mod HM2.out HF1.out (by rintro ⟨hn', e⟩; have h1 := HPB.out _ (HBm.out.mem i him hn'); omega)).ext hx3⟩
            have K1 := ExtOf.cell (hx3.cell_ k1); have K2 := ExtOf.cell (show w3.cell? ⟨Gb, i, none⟩ = some (.slice (R2 i).A nb nb) from hx3.cell_ (by rw [HBo2.out.cell, mxc_at him, HBm.out.v0 him]))
            have K3 := ExtOf.cell (show w3.cell? ⟨w.heap.size, j, none⟩ = some (.slice (some ⟨(RX j).b, 0, none⟩) nb nb) from hx3.cell_ (by rw [HX2.out.cell, mxc_at hjm]; unfold Rw.v; rw [xa, xn, xc]))
            have A0 := ExtOf.cell (hx3.cell_ a0); have A1 := ExtOf.cell (hx3.cell_ a1); have A2 := ExtOf.cell (hx3.cell_ a2); have A3 := ExtOf.cell (hx3.cell_ a3); have A4 := ExtOf.cell (hx3.cell_ a4); have A5 := ExtOf.cell (hx3.cell_ a5)
            have HS := Lib.hid (fclear_g gf (R2 i).b (RX j).b nb nb nb Ns Nx N (R2 i).A (some ⟨(RX j).b, 0, none⟩) _ (fun j => bps Z (bsol Z m k) m i j s) (bsol Z m k j) (Z i j) w3 (HC2.out.ext hx3) (HVj.out.ext hx3) (fun hn => ⟨(HBm.out.row i him hn).1, (HRi.out hn).ext hx3⟩) (fun hn => ⟨rfl, (hxrow hn).2⟩) (fun hn e => by have h1 := HPB.out _ (HBm.out.mem i him hn); omega) (by omega) (fun j' hj' => by have := HR.out.s k j' s hlt hj' hsk; rwa [← HI.out] at this) (fun j' hj' => HR.out.x k j j' hk (by have := HK.out; omega) hjm hj') HR.out.c1 HR.out.c2)
            have HX3 := Lib.hid hx3
            clear hxrow k1 a0 a1 a2 a3 a4 a5 hx3 xa xn xc xb xr
            go_wp2_with fail
            refine wp_region_ordE 16 [(true, 0), (true, 1), (true, 2), (true, 3), (true, 4), (true, 5), (true, 6), (true, 7), (true, 8), (true, 9), (true, 10), (true, 11), (true, 12), (true, 13), (true, 14), (true, 15)] (by kernel_rfl) (by kernel_rfl) ?_
            refine wpOrdT_quiet [0, 1, 2, 3, 4, 5, 6, 7, 8, 9, 10, 11, 12, 13, 14, 15] [] _ (by kernel_rfl) ?_
            simp only [nthOps, nthOp, List.cons_append, List.nil_append]
            repeat (go_big_quiet_step (fail))
            refine wpQuiet_nil ?_
            clear K1 K2 K3 A0 A1 A2 A3 A4 A5
            simp only [wpOrdT, List.drop_succ_cons, List.drop_zero]
            go_wp2_with fail
            refine HS.out.mono ?_
            rintro e w5 ⟨rfl, hr5, hm5⟩
            have HR5 := Lib.hid hr5; have HM5 := Lib.hid ((HM2.out.trans (Mod.of HX3.out)).trans hm5)
            clear hr5 hm5
            go_wp2_with fail
            go_roundw
            case rel =>
              refine ⟨s + 1, j + 1, by omega, by have := HJ.out; omega, by go_num, fun hn => (HR5.out hn).congr fun j' _ => ?_, HM5.out⟩
              show _ = bps Z (bsol Z m k) m i j' s - Z i (i + 1 + s) * bsol Z m k (i + 1 + s) j'
              rw [← HJ.out]
            case measure => simp [intOf]; omega
        · obtain rfl : k = s := by omega
          obtain rfl : m = j := by have := HI.out; have := HJ.out; omega
          have dj : decide ((m : Int) < (m : Int)) = false := by simp
          have di : decide ((i : Int) < (m : Int)) = true := by simp; omega
          have hE1 := Ext.new w2 (.cells (rowc nb fun _ => zEn).toArray 32)
          have hO1 := HX2.out.ext hE1
          have fr := hO1.frozen
          have k1 : (w2.alloc (.cells (rowc nb fun _ => zEn).toArray 32)).cell? ⟨w.heap.size, i, none⟩ = some (RX i).v := by rw [hO1.cell]; exact mxc_at him
          have kb : w2.cell? ⟨Gb, i, none⟩ = some (.slice (R2 i).A nb nb) := by rw [HBo2.out.cell, mxc_at him, HBm.out.v0 him]
          have hO2 : Blk ((w2.alloc (.cells (rowc nb fun _ => zEn).toArray 32)).setCell ⟨w.heap.size, i, none⟩ (.slice (some ⟨w2.heap.size, 0, none⟩) nb nb)) w.heap.size 37 (mxc m (upd RX i ⟨some ⟨w2.heap.size, 0, none⟩, w2.heap.size, 0, nb, nb⟩)).toArray := by
            rw [← mxc_upd]; exact hO1.set_ _ _
          have k2 : ((w2.alloc (.cells (rowc nb fun _ => zEn).toArray 32)).setCell ⟨w.heap.size, i, none⟩ (.slice (some ⟨w2.heap.size, 0, none⟩) nb nb)).cell? ⟨w.heap.size, i, none⟩ = some (.slice (some ⟨w2.heap.size, 0, none⟩) nb nb) := by rw [hO2.cell, mxc_at him, upd_same]; rfl
          have hgw : w.heap.size < w2.heap.size := HX2.out.lt
          have hB2 : Blk ((w2.alloc (.cells (rowc nb fun _ => zEn).toArray 32)).setCell ⟨w.heap.size, i, none⟩ (.slice (some ⟨w2.heap.size, 0, none⟩) nb nb)) w2.heap.size 32 (rowc nb fun _ => zEn).toArray := (Blk.new _ _ _).far (by show w2.heap.size ≠ w.heap.size; omega) _
          have hm4 : Mod (fun g => g = w.heap.size) w2 ((w2.alloc (.cells (rowc nb fun _ => zEn).toArray 32)).setCell ⟨w.heap.size, i, none⟩ (.slice (some ⟨w2.heap.size, 0, none⟩) nb nb)) := (Mod.of hE1).trans (Mod.only (Only.set _ _ _ _) rfl)
          have hfarG : Far (fun g => g = w.heap.size) w2 := fun g hg _ => by subst hg; exact ⟨_, _, HX2.out, noInt_slices _ _⟩
          have HO2 := Lib.hid hO2; have HB4 := Lib.hid hB2; have HM4 := Lib.hid hm4; have HFG := Lib.hid hfarG; have HGW := Lib.hid hgw
          clear hO2 hB2 hm4 hfarG hgw hE1 hO1
          go_wp2_with fail
          clear k1 k2 fr kb
          generalize hW4 : World.setCell _ _ _ = w4 at HO2 HB4 HM4 ⊢
          clear hW4
          generalize hgg : w2.heap.size = g at *
          have HGG := Lib.hid hgg; clear hgg
          have HC4 := Lib.hid (Blk.mod HC2.out HM4.out (by exact fun e => HC2.out.ne_t HX2.out (by decide) e))
          have HA4 := Lib.hid (HA2.out.mod HM4.out HFG.out (by have := HGa.out.1; exact fun e => by omega) (fun j' hj' _ => HA2.out.ne hj' (by omega) HX2.out))
          have HBo4 := Lib.hid (HBo2.out.mod HM4.out (by have := HGa.out.2; exact fun e => by omega))
          have HBr4 : Hid (0 < nb → RowIs w4 (R2 i).b nb (fun j => bps Z (bsol Z m k) m i j k)) := Lib.hid fun hn => (HRi.out hn).mod HM4.out HFG.out (by
            obtain ⟨cs, hcs⟩ := (HRi.out hn).blk
            exact fun e => hcs.ne_t HX2.out (by decide) e)
          have HGg : Hid (w.heap.size < g ∧ Ga < g ∧ Gb < g ∧ gf < g ∧ (0 < nb → (R2 i).b < g) ∧ ∀ i', i' < m → (R i').b < g) := Lib.hid (by
            have h1 := HGG.out; have h2 := HGW.out; have h3 := HGa.out
            refine ⟨h2, by omega, by omega, by have := Blk.lt HC2.out; omega, fun hn => ?_, fun i' hi' => ?_⟩
            · obtain ⟨cs, hcs⟩ := (HRi.out hn).blk
              have := hcs.lt; omega
            · obtain ⟨cs, hcs⟩ := (HA2.out.row i' hi' (by omega)).2.blk
              have := hcs.lt; omega)
          clear HA2 HC2 HBo2
          go_loopw [69] (fun i69 wz => ∃ (j' : Nat) (f : Nat → En), j' ≤ nb ∧ i69 = .int .i64 j' ∧ Blk wz g 32 (rowc nb f).toArray ∧ (∀ j, j < j' → GV wz (f j).v (bps Z (bsol Z m k) m i j k / Z i i) 12800) ∧ Mod (fun g' => g' = g) w4 wz) (fun i69 _ => nb - (intOf i69).toNat)
          case atStart => exact ⟨0, _, by omega, rfl, HB4.out, fun j hj => by omega, Mod.refl _ _⟩
          case round =>
            clear dj
            obtain ⟨j', f, hj', rfl, hb, hgv, hmz⟩ := hrel
            have HBz := Lib.hid hb; have HGV := Lib.hid hgv; have HMz := Lib.hid hmz; clear hb hgv hmz
            rename World => wz
            have hfg : Far (fun g' => g' = g) w4 := fun g' hg _ => by subst hg; exact ⟨_, _, HB4.out, rowc_noint _ _⟩
            have HFg := Lib.hid hfg; clear hfg
            have HOz := Lib.hid (HO2.out.mod HMz.out (by have := HGg.out.1; exact fun e => by omega))
            have HCz := Lib.hid (Blk.mod HC4.out HMz.out (by have := HGg.out.2.2.2.1; exact fun e => by omega))
            have HAz := Lib.hid (HA4.out.mod HMz.out HFg.out (by have := HGg.out.2.1; exact fun e => by omega) (fun i' hi' _ => by have := HGg.out.2.2.2.2.2 i' hi'; exact fun e => by omega))
            have HBoz := Lib.hid (HBo4.out.mod HMz.out (by have := HGg.out.2.2.1; exact fun e => by omega))
            have HBrz : Hid (0 < nb → RowIs wz (R2 i).b nb (fun j => bps Z (bsol Z m k) m i j k)) := Lib.hid fun hn => (HBr4.out hn).mod HMz.out HFg.out (by have := HGg.out.2.2.2.2.1 hn; exact fun e => by omega)
            by_cases hjt : j' < nb
            · have dj : decide ((j' : Int) < (nb : Int)) = true := by simp; omega
              have hb0 : 0 < nb := by omega
              have hA2 := (HBm.out.row i him hb0).1
              have K1 := ExtOf.cell (show wz.cell? ⟨w.heap.size, i, none⟩ = some (.slice (some ⟨g, 0, none⟩) nb nb) by rw [HOz.out.cell, mxc_at him, upd_same]; rfl)
              have K2 := ExtOf.cell (show wz.cell? ⟨Gb, i, none⟩ = some (.slice (some ⟨(R2 i).b, 0, none⟩) nb nb) by rw [HBoz.out.cell, mxc_at him, HBm.out.v him hb0])
              obtain ⟨hra, fa, hfa, hva⟩ := HAz.out.row i him (by omega)
              have K3 := ExtOf.cell (show wz.cell? ⟨Ga, i, none⟩ = some (.slice (some ⟨(R i).b, 0, none⟩) m m) by rw [HAz.out.cell him, hra])
              obtain ⟨fb, hfb, hvb⟩ := HBrz.out hb0
              obtain ⟨a0, a1, a2, a3, a4, a5⟩ := RowIs.cells hfa him rfl
              obtain ⟨b0, b1, b2, b3, b4, b5⟩ := RowIs.cells hfb hjt rfl
              have A0 := ExtOf.cell a0; have A1 := ExtOf.cell a1; have A2 := ExtOf.cell a2; have A3 := ExtOf.cell a3; have A4 := ExtOf.cell a4; have A5 := ExtOf.cell a5
              have B0 := ExtOf.cell b0; have B1 := ExtOf.cell b1; have B2 := ExtOf.cell b2; have B3 := ExtOf.cell b3; have B4 := ExtOf.cell b4; have B5 := ExtOf.cell b5
              have HVa := Lib.hid ((hva i him).to (HR.out.a i i him him)); have HVb := Lib.hid ((hvb j' hjt).to (by have := HR.out.d k j' hlt hjt; rwa [← HI.out] at this))
              clear hra hfa hva hfb hvb a0 a1 a2 a3 a4 a5 b0 b1 b2 b3 b4 b5 hA2
              go_wp2_with fail
              refine wp_region_ordE 21 [(true, 0), (true, 1), (true, 2), (true, 3), (true, 4), (true, 5), (true, 6), (true, 7), (true, 8), (true, 9), (true, 10), (true, 11), (true, 12), (true, 13), (true, 14), (true, 15), (true, 16), (true, 17), (true, 18), (true, 19), (false, 20)] (by kernel_rfl) (by kernel_rfl) ?_
              refine wpOrdT_quiet [0, 1, 2, 3, 4, 5, 6, 7, 8, 9, 10, 11, 12, 13, 14, 15, 16, 17, 18, 19] [(false, 20)] _ (by kernel_rfl) ?_
              simp only [nthOps, nthOp, List.cons_append, List.nil_append]
              repeat (go_big_quiet_step (fail))
              refine wpQuiet_nil ?_
              refine wpOrdT_act 20 [] (by kernel_rfl) ?_
              intro K hK
              simp only [nthOp]
              go_wp2_with fail
              have hdd : Ext wz wz.drew := (Ext.refl _).drew
              refine (fdiv_ok gf _ _ (bps Z (bsol Z m k) m i j' k) (Z i i) Nd N _ (Blk.ext HCz.out hdd) (HVb.out.ext hdd) (HVa.out.ext hdd) (HZ.out i him) HR.out.c3).mono ?_
              rintro e w5 ⟨v5, rfl, hv5, hx5⟩
              obtain ⟨u1, D1, p1, q1, u2, D2, p2, q2, u3, D3, p3, q3, rfl⟩ := hv5.opn
              have HX5 := Lib.hid hx5.undrew; have HV5 := Lib.hid hv5
              clear hx5 hv5 hdd
              go_wp2
              refine hK _ _ ⟨⟨w5, HX5.out⟩, rfl⟩ ?_
              clear hK K K1 K2 K3 A0 A1 A2 A3 A4 A5 B0 B1 B2 B3 B4 B5
              simp only [wpOrdT, List.drop_succ_cons, List.drop_zero]
              have HB5 := Lib.hid (HBz.out.ext HX5.out)
              obtain ⟨a0, a1, a2, a3, a4, a5⟩ := RowIs.cells HB5.out hjt rfl
              have fr := HB5.out.frozen
              have hm5 : Mod (fun g' => g' = g) w5 (puts w5 g (j' * 6) [.bool u1, .slice D1 p1 q1, .bool u2, .slice D2 p2 q2, .bool u3, .slice D3 p3 q3]) := Mod.only (puts_only _ _ _ _) rfl
              have hS5 : Far (fun g' => g' = g) w5 := fun g' hg _ => by subst hg; exact ⟨_, _, HB5.out, rowc_noint _ _⟩
              have hb6 := puts_blk (j' * 6) [.bool u1, .slice D1 p1 q1, .bool u2, .slice D2 p2 q2, .bool u3, .slice D3 p3 q3] HB5.out
              have hset := rowc_set (f := f) ⟨u1, D1, p1, q1, u2, D2, p2, q2, u3, D3, p3, q3⟩ hjt
              rw [show setsA (rowc nb f).toArray (j' * 6) [.bool u1, .slice D1 p1 q1, .bool u2, .slice D2 p2 q2, .bool u3, .slice D3 p3 q3] = _ from hset] at hb6
              have HB6 := Lib.hid hb6; have HM6 := Lib.hid ((HMz.out.trans (Mod.of HX5.out)).trans hm5)
              have HV6 : Hid (∀ j, j < j' + 1 → GV (puts w5 g (j' * 6) [.bool u1, .slice D1 p1 q1, .bool u2, .slice D2 p2 q2, .bool u3, .slice D3 p3 q3]) (upd f j' ⟨u1, D1, p1, q1, u2, D2, p2, q2, u3, D3, p3, q3⟩ j).v (bps Z (bsol Z m k) m i j k / Z i i) 12800) := Lib.hid fun j hj => by
                by_cases e : j = j'
                · subst e; rw [upd_same]; exact ((HV5.out.up (by have := HR.out.c3; omega)).mod hm5 hS5)
                · rw [upd_ne e]; exact ((HGV.out j (by omega)).ext HX5.out).mod hm5 hS5
              clear hm5 hS5 hb6 hset
              go_wp2_with fail
              go_roundw
              case rel => exact ⟨j' + 1, _, by omega, by go_num, HB6.out, HV6.out, HM6.out⟩
              case measure => simp [intOf]; omega
            · obtain rfl : nb = j' := by omega
              have dj : decide ((nb : Int) < (nb : Int)) = false := by simp
              have e0 := Blk.cell HCz.out
              go_wp2_with fail
              have hS : Far (fun g' => (0 < nb ∧ g' = (R2 i).b) ∨ g' = w.heap.size ∨ g' = g) wr := by
                rintro g' (h | rfl | rfl) hlt'
                · exact HF1.out g' h hlt'
                · exact ⟨_, _, HXb.out, noInt_slices _ _⟩
                · have h1 := HGG.out; have h2 := HM2.out.size; omega
              have hM : Mod (fun g' => (0 < nb ∧ g' = (R2 i).b) ∨ g' = w.heap.size ∨ g' = g) wr wz := ((HM2.out.mono fun g' h => .inl h).trans (HM4.out.mono fun g' h => .inr (.inl h))).trans (HMz.out.mono fun g' h => .inr (.inr h))
              have hgG := HGg.out.1
              have hpb : ∀ j, j < m → 0 < nb → (R2 j).b < w.heap.size := fun j hj hn => HPB.out _ (HBm.out.mem j hj hn)
              have he1 : (i : Int) - 1 = (m : Int) - 1 - ((k + 1 : Nat) : Int) := by have := HI.out; omega
              refine ⟨⟨k + 1, upd RX i ⟨some ⟨g, 0, none⟩, g, 0, nb, nb⟩, by omega, by rw [he1], ?_⟩, by simp [intOf]⟩
              refine ⟨HCz.out, ⟨R, HAz.out⟩, ⟨R2, upd Y i (fun j => bps Z (bsol Z m k) m i j k), ?_, fun i' j hi' => ?_⟩, HOz.out, Nat.le_refl _, fun i' h1 h2 => ?_, ?_⟩
              · refine HBm.out.upd hM hS ?_ ?_ (fun hn => HBrz.out hn)
                · rintro (⟨hn, e⟩ | e | e)
                  · exact HBm.out.ne him hn HBm.out.out e.symm
                  · have := HGa.out.2; omega
                  · have := HGg.out.2.2.1; omega
                · rintro j hj hji hn (⟨_, e⟩ | e | e)
                  · exact hji (HBm.out.inj j i hj him hn e)
                  · have := hpb j hj hn; omega
                  · have := hpb j hj hn; omega
              · have := HI.out
                rw [upd_ne (by omega)]; exact HY.out i' j (by omega)
              · have hI := HI.out
                by_cases e : i' = i
                · subst e
                  rw [upd_same]
                  refine ⟨rfl, rfl, rfl, by show w.heap.size ≤ g; omega, f, HBz.out, fun j hj => ?_⟩
                  have hb := HGV.out j hj
                  have e2 : bsol Z m (k + 1) i' j = bps Z (bsol Z m k) m i' j k / Z i' i' := by
                    show upd (bsol Z m k) (m - 1 - k) (fun j => bps Z (bsol Z m k) m (m - 1 - k) j k / Z (m - 1 - k) (m - 1 - k)) i' j = _
                    rw [← hI, upd_same]
                  rw [e2]; exact hb
                · rw [upd_ne e]
                  obtain ⟨h3, h4, h5, h6, h7⟩ := HRow.out i' (by omega) h2
                  refine ⟨h3, h4, h5, h6, ?_⟩
                  rw [bsol_keep Z hlt (by omega)]
                  refine h7.mod hM hS ?_
                  obtain ⟨cs, hcs⟩ := h7.blk
                  rintro (⟨hn, e'⟩ | e' | e')
                  · have := hpb i him hn; omega
                  · exact hcs.ne_t HXb.out (by decide) e'
                  · have h8 := hcs.lt; have h9 := HGG.out; have h10 := HM2.out.size; omega
              · have hm := HMd.out
                exact ⟨hM.os.trans hm.os, hM.tape.trans hm.tape, hM.output.trans hm.output, Nat.le_trans hm.size hM.size, fun k' hk' hn => (hM.block k' (Nat.lt_of_lt_of_le hk' hm.size) (by
                  rintro (⟨hn', e'⟩ | e' | e')
                  · exact hn (e' ▸ HBm.out.mem i him hn')
                  · omega
                  · omega)).trans (hm.block k' hk' hn)⟩
    · obtain rfl : k = m := by omega
      have hik : (k : Int) - 1 - (k : Int) = -1 := by omega
      rw [hik]
      go_wp2_with fail
      go_ret
      exact ⟨_, RX, rfl, HB.out⟩
end Go.Proofs.YtclkkoiaaddllaaGreat

namespace Go.Proofs.YtclkkoiaaddllaaGreat
open Go.RowKit
set_option linter.unusedVariables false

theorem ech_le (m : Nat) (Z : Nat → Nat → GQ) : ∀ c, (ech m Z c).r ≤ c
  | 0 => Nat.le_refl _
  | c + 1 => by
    have ih := ech_le m Z c
    show (estep m c (ech m Z c)).r ≤ c + 1
    cases hf : fp (ech m Z c).X c (m - (ech m Z c).r) (ech m Z c).r with
    | none => rw [estep_none hf]; omega
    | some k => rw [estep_some hf]; show (ech m Z c).r + 1 ≤ c + 1; omega
theorem ech_diag (m : Nat) (Z : Nat → Nat → GQ) : ∀ c, (ech m Z c).r = c → ∀ i, i < c → (ech m Z c).X i i ≠ GQ.i 0 0
  | 0, _, i, hi => by omega
  | c + 1, h, i, hi => by
    have hle := ech_le m Z c
    have e : ech m Z (c + 1) = estep m c (ech m Z c) := rfl
    rw [e] at h ⊢
    cases hf : fp (ech m Z c).X c (m - (ech m Z c).r) (ech m Z c).r with
    | none => rw [estep_none hf] at h; omega
    | some k =>
      rw [estep_some hf] at h ⊢
      have hr : (ech m Z c).r = c := by have h' : (ech m Z c).r + 1 = c + 1 := h; omega
      have ih := ech_diag m Z c hr
      obtain ⟨h1, h2, h3, h4⟩ := of_fp_some hf
      show clr (fun i => (ech m Z c).X (swp k (ech m Z c).r i)) (ech m Z c).r c i i ≠ _
      rw [hr] at h1 ⊢
      unfold clr
      rw [if_neg (by omega)]
      show (ech m Z c).X (swp k c i) i ≠ _
      by_cases hic : i = c
      · subst hic
        rw [swp_r]; exact h3
      · rw [swp_ne (by omega) hic]; exact ih i (by omega)
theorem side_a {na : Nat} {X Y : Nat → Nat → GQ} {i j : Nat} (h : j < na) : side na X Y i j = X i j := by unfold side; rw [if_pos h]
theorem side_b {na : Nat} {X Y : Nat → Nat → GQ} {i j : Nat} : side na X Y i (na + j) = Y i j := by unfold side; rw [if_neg (by omega), show na + j - na = j by omega]
/-- A matrix that Solve or Product has made. -/
structure Out (W : World) (G m n : Nat) (RX : Nat → Rw) (X : Nat → Nat → GQ) : Prop where
  x : Blk W G 37 (mxc m RX).toArray
  row : ∀ i, i < m → (RX i).A = some ⟨(RX i).b, 0, none⟩ ∧ (RX i).n = n ∧ (RX i).c = n ∧ RowIs W (RX i).b n (X i)
theorem Out.ext {W W' : World} {G m n : Nat} {RX : Nat → Rw} {X : Nat → Nat → GQ} (h : Out W G m n RX X) (x : Ext W W') : Out W' G m n RX X :=
  ⟨h.x.ext x, fun i hi => ⟨(h.row i hi).1, (h.row i hi).2.1, (h.row i hi).2.2.1, (h.row i hi).2.2.2.ext x⟩⟩
set_option maxRecDepth 100000 in
set_option maxHeartbeats 6400000 in
theorem solve_ok {A A2 : Option Addr} {B O B2 O2 m c c2 nb N Ns Nd Nx : Nat} {R R2 : Nat → Rw} {E E2 : Nat → Nat → En} {X Y : Nat → Nat → GQ} {w : World} {vb vb2 : Nat → Nat → Bool} (h : Mem w A B O m R E) (h2 : Mem w A2 B2 O2 m R2 E2)
    (hvb : ∀ i j, i < m → j < (R i).n → VB w (E i j).v (vb i j)) (hvb2 : ∀ i j, i < m → j < (R2 i).n → VB w (E2 i j).v (vb2 i j)) (hM : IsM m R vb) (hM2 : IsM m R2 vb2) (hn : ∀ i, i < m → (R i).n = m) (hn2 : ∀ i, i < m → (R2 i).n = nb) (hnb : nb ≤ 24)
    (hv : ∀ i j, i < m → j < m → GV w (E i j).v (X i j) 12800) (hv2 : ∀ i j, i < m → j < nb → GV w (E2 i j).v (Y i j) 12800) (hN : 4 * N + 67 ≤ 12800) (hroom : Room N m m nb (side m X Y)) (hrb : (ech m (side m X Y) m).r = m → RoomB N Ns Nd Nx m nb (ech m (side m X Y) m).X) :
    Calls Tryz.prog 20 #[.slice A m c, .slice A2 m c2] w fun e w' => ((ech m (side m X Y) m).r < m ∧ e = .returned (.tuple #[.slice none 0 0, .int .i64 45]) ∨ (ech m (side m X Y) m).r = m ∧ ∃ G RX, e = .returned (.tuple #[.slice (some ⟨G, 0, none⟩) m m, .int .i64 0]) ∧ Out w' G m nb RX (bsol (ech m (side m X Y) m).X m m)) ∧ Ext w w' := by
  have hm := hM.1
  have hdg := ech_diag m (side m X Y) m
  have hlem := ech_le m (side m X Y) m
  have HM := Lib.hid h; have HMb := Lib.hid h2; have HV := Lib.hid hv; have HV2 := Lib.hid hv2; have HN := Lib.hid hn; have HN2 := Lib.hid hn2; have HR := Lib.hid hroom; have HRB := Lib.hid hrb; have HDG := Lib.hid hdg
  have HMx := Lib.hid (fun (w' : World) (x : Ext w w') => matrix_any (c := c) (h.ext x) (fun i j hi hj => (hvb i j hi hj).ext x) true ⟨fun _ => hM, fun _ => rfl⟩)
  have HMy := Lib.hid (fun (w' : World) (x : Ext w w') => matrix_any (c := c2) (h2.ext x) (fun i j hi hj => (hvb2 i j hi hj).ext x) true ⟨fun _ => hM2, fun _ => rfl⟩)
  have HWd := Lib.hid (fun (w' : World) (x : Ext w w') => width_any (c := c) (h.ext x))
  have hwd : wd m R = m := by
    unfold wd
    by_cases e : m = 0
    · rw [if_pos e]; exact e.symm
    · rw [if_neg e]; exact hn 0 (by omega)
  rw [hwd] at HWd
  clear h h2 hv hv2 hn hn2 hroom hrb hvb hvb2 hM hM2 hwd hdg
  have hbeq : ((m : Int) != (m : Int)) = false := by simp
  go_enter Tryz.func20, Tryz.ntmps20
  go_wp2_with fail
  refine (HMx.out _ (Ext.refl _)).mono ?_
  rintro e w1 ⟨rfl, hx1⟩
  have HE1 := Lib.hid hx1; clear hx1
  go_wp2_with fail
  refine (HMy.out _ HE1.out).mono ?_
  rintro e w2 ⟨rfl, hx2⟩
  have HE2 := Lib.hid (HE1.out.trans hx2); clear hx2 HE1
  go_wp2_with fail
  refine (HWd.out _ HE2.out).mono ?_
  rintro e w3 ⟨rfl, hx3⟩
  have hE3 := (HE2.out.trans hx3).alloc (.cells #[.int .i64 0] 68)
  have hC3 := calm_new w3
  clear HE2 hx3
  go_wp2_with fail
  generalize (w3.alloc (.cells #[.int .i64 0] 68)) = w4 at hC3 hE3 ⊢
  generalize w3.heap.size = gf at hC3 ⊢
  have HC4 := Lib.hid hC3; have HE4 := Lib.hid hE3; clear hC3 hE3
  refine (dup_w (HM.out.ext HE4.out) HN.out (fun i j hi hj => (HV.out i j hi hj).ext HE4.out) hm hm).mono ?_
  rintro e wa ⟨Ga, Ra, rfl, hDa⟩
  have HEa := Lib.hid (HE4.out.trans hDa.ext); have HDa := Lib.hid hDa; clear hDa
  go_wp2_with fail
  refine (dup_w (HMb.out.ext HEa.out) HN2.out (fun i j hi hj => (HV2.out i j hi hj).ext HEa.out) hm hnb).mono ?_
  rintro e wb ⟨Gb, Rb, rfl, hDb⟩
  have HEb := Lib.hid (HEa.out.trans hDb.ext); have HDb := Lib.hid hDb; clear hDb
  have hPA : ∀ i, i < m → (Ra i).b < wa.heap.size := fun i hi => by
    obtain ⟨cs, hcs⟩ := (HDa.out.row i hi).2.1.blk
    exact hcs.lt
  have hPB : ∀ i, i < m → wa.heap.size ≤ (Rb i).b ∧ (Rb i).b < wb.heap.size := fun i hi => by
    obtain ⟨cs, hcs⟩ := (HDb.out.row i hi).2.1.blk
    exact ⟨(HDb.out.row i hi).2.2, hcs.lt⟩
  have hsz : w4.heap.size ≤ wa.heap.size := HDa.out.ext.size
  have hsz2 : wa.heap.size ≤ wb.heap.size := HDb.out.ext.size
  have HEI := Lib.hid (EI.mk (gf := gf) (Ga := Ga) (Gb := Gb) (m := m) (na := m) (nb := nb) (PA := fun g => ∃ i, i < m ∧ g = (Ra i).b) (PB := fun g => ∃ i, i < m ∧ g = (Rb i).b) (Z := side m X Y) (W := wb) ((HC4.out.ext HDa.out.ext).ext HDb.out.ext) ⟨Ra, (HDa.out.mx HDb.out.ext).congr fun i j hi hj => (side_a hj).symm⟩ ⟨Rb, (HDb.out.mx (Ext.refl _)).congr fun i j hi hj => (side_b).symm⟩)
  have hGab : Ga ≠ Gb := by have h1 := HDa.out.out.lt; have h2 := HDb.out.gx; omega
  have HGab := Lib.hid hGab; clear hGab
  have HPA := Lib.hid hPA; have HPB := Lib.hid hPB; clear hPA hPB
  have HSZ := Lib.hid (And.intro hsz hsz2); clear hsz hsz2
  go_wp2_with fail
  refine (fechelon_w gf Ga Gb m m m m nb N _ _ (fun g => w4.heap.size ≤ g) (side m X Y) wb HEI.out HGab.out ?_ ⟨HDa.out.gx, Nat.le_trans HSZ.out.1 HDb.out.gx, ?_, ?_⟩ (fun h => h) hm hm hnb hN HR.out ?_).mono ?_
  · rintro g ⟨i, hi, rfl⟩ ⟨j, hj, e⟩
    have h1 := HPA.out i hi; have h2 := (HPB.out j hj).1
    omega
  · rintro g ⟨i, hi, rfl⟩
    exact (HDa.out.row i hi).2.2
  · rintro g ⟨i, hi, rfl⟩
    exact Nat.le_trans HSZ.out.1 (HPB.out i hi).1
  · intro w' x
    exact width_own ((HDa.out.mx HDb.out.ext).ext x) (fun h => h) m (by omega)
  rintro e w5 ⟨rfl, hEI5, hM5⟩
  have HEI5 := Lib.hid hEI5
  have HE5 := Lib.hid (HE4.out.trans (hM5.ext_of (HDa.out.ext.trans HDb.out.ext) (Nat.le_refl _)))
  have HS5 := Lib.hid hM5.size
  have e0 := hEI5.calm.cell
  clear hM5
  generalize hs : ech m (side m X Y) m = s at HRB HDG HEI5 hlem ⊢
  have HS := Lib.hid hs; clear hs
  by_cases hr : s.r < m
  · have dr : decide ((s.r : Int) < (m : Int)) = true := by simp; omega
    have HLR := Lib.hid hr; clear hr
    go_wp2_with fail
    refine bp_tmps2 rfl rfl ⟨.inl ⟨?_, rfl⟩, HE5.out⟩
    rw [HS.out]; exact HLR.out
  · have dr : decide ((s.r : Int) < (m : Int)) = false := by simp; omega
    have dr2 : ¬ ((s.r : Int) < (m : Int)) := by omega
    have HLR : Hid (s.r = m) := Lib.hid (by omega)
    clear hr hlem
    go_wp2_with fail
    refine (fback_w gf Ga Gb m m m nb N Ns Nd Nx _ _ s.X _ HEI5.out ?_ ?_ ?_ hm hnb (HDG.out HLR.out) (HRB.out HLR.out)).mono ?_
    · rintro g ⟨i, hi, rfl⟩ ⟨j, hj, e⟩
      have h1 := HPA.out i hi; have h2 := (HPB.out j hj).1
      omega
    · rintro g ⟨i, hi, rfl⟩
      have h1 := HPA.out i hi; have h2 := HSZ.out; have h3 := HS5.out; omega
    · rintro g ⟨i, hi, rfl⟩
      have h1 := (HPB.out i hi).2; have h3 := HS5.out; omega
    rintro e w6 ⟨G, RX, rfl, hBI⟩
    have e1 := hBI.calm.cell
    have hmod := hBI.mod
    have hE6 : Ext w w6 := by
      have hX := HE5.out
      exact ⟨hmod.os.trans hX.os, hmod.tape.trans hX.tape, hmod.output.trans hX.output, Nat.le_trans hX.size hmod.size, fun k' hk' => (hmod.block k' (Nat.lt_of_lt_of_le hk' hX.size) (by
        rintro ⟨i, hi, e⟩
        have h1 := (HPB.out i hi).1; have h2 := HSZ.out; have h3 := HE4.out.size
        omega)).trans (hX.block k' hk')⟩
    have HE6 := Lib.hid hE6; have HBI := Lib.hid hBI; clear hE6 hBI hmod
    go_wp2_with fail
    refine bp_tmps2 rfl rfl ⟨.inr ⟨?_, G, RX, rfl, ?_⟩, HE6.out⟩
    · rw [HS.out]; exact HLR.out
    · rw [HS.out]
      exact ⟨HBI.out.x, fun i hi => ⟨(HBI.out.row i (by omega) hi).1, (HBI.out.row i (by omega) hi).2.1, (HBI.out.row i (by omega) hi).2.2.1, (HBI.out.row i (by omega) hi).2.2.2.2⟩⟩
end Go.Proofs.YtclkkoiaaddllaaGreat

namespace Go.Proofs.YtclkkoiaaddllaaGreat
open Go.RowKit
set_option linter.unusedVariables false

/-- A made matrix is read as any other. -/
theorem Out.mem {W : World} {G m n : Nat} {RX : Nat → Rw} {X : Nat → Nat → GQ} (h : Out W G m n RX X) (hm : m ≤ 1000) (hn : n ≤ 1000) : ∃ (R : Nat → Rw) (E : Nat → Nat → En), Mem W (some ⟨G, 0, none⟩) G 0 m R E ∧ (∀ i, i < m → (R i).n = n) ∧ ∀ i j, i < m → j < n → GV W (E i j).v (X i j) 12800 := by
  have hc : ∀ i, ∃ f : Nat → En, i < m → Blk W (RX i).b 32 (rowc n f).toArray ∧ ∀ j, j < n → GV W (f j).v (X i j) 12800 := fun i => by
    by_cases hi : i < m
    · obtain ⟨f, h1, h2⟩ := (h.row i hi).2.2.2
      exact ⟨f, fun _ => ⟨h1, h2⟩⟩
    · exact ⟨fun _ => zEn, fun h => absurd h hi⟩
  obtain ⟨E, hE⟩ := Classical.axiomOfChoice hc
  refine ⟨fun i => ⟨(RX i).A, (RX i).b, 0, (RX i).n, (RX i).c⟩, E, ⟨fun _ => rfl, fun i hi => ?_, fun i hi _ => (h.row i hi).1, fun i j hi hj t u hu => ?_, by omega, fun i hi => ?_⟩, fun i hi => (h.row i hi).2.1, fun i j hi hj => (hE i hi).2 j hj⟩
  · rw [h.x.cell, Nat.zero_add, mxc_at hi]; rfl
  · have hj' : j < n := by have := (h.row i hi).2.1; have hj2 : j < (RX i).n := hj; omega
    have ht : t < 6 := (List.getElem?_eq_some_iff.1 hu).1
    show W.cell? ⟨(RX i).b, 0 + (j * 6 + t), none⟩ = some u
    rw [Nat.zero_add, (hE i hi).1.cell, List.getElem?_toArray, rowc_at ht hj']; exact hu
  · have := (h.row i hi).2.1
    show (RX i).n ≤ _
    omega
set_option maxRecDepth 100000 in
set_option maxHeartbeats 6400000 in
theorem same_mx {A A2 : Option Addr} {B O B2 O2 m c c2 : Nat} {R R2 : Nat → Rw} {E E2 : Nat → Nat → En} {X : Nat → Nat → GQ} {w : World} (h : Mem w A B O m R E) (h2 : Mem w A2 B2 O2 m R2 E2) (hn : ∀ i, i < m → (R i).n = (R2 i).n) (hm : m ≤ 1000) (hb : ∀ i, i < m → (R i).n ≤ 1000)
    (hv : ∀ i j, i < m → j < (R i).n → GV w (E i j).v (X i j) 12800) (hv2 : ∀ i j, i < m → j < (R i).n → GV w (E2 i j).v (X i j) 12800) :
    Calls Tryz.prog 22 #[.slice A m c, .slice A2 m c2] w fun e w' => e = .returned (.bool true) ∧ Ext w w' := by
  have HM := Lib.hid h; have HM2 := Lib.hid h2; have HN := Lib.hid hn; have HB := Lib.hid hb; have HV := Lib.hid hv; have HV2 := Lib.hid hv2
  clear h h2 hn hb hv hv2
  have hbeq : ((m : Int) != (m : Int)) = false := by simp
  go_enter Tryz.func22, Tryz.ntmps22
  go_wp2_with fail
  go_loopw [14] (fun i wr => ∃ k : Nat, k ≤ m ∧ i = .int .i64 k ∧ Ext w wr) (fun i _ => m - (intOf i).toNat)
  case atStart => exact ⟨0, by omega, rfl, Ext.refl _⟩
  case round =>
    obtain ⟨i, hi, rfl, hx⟩ := hrel
    have HX := Lib.hid hx; clear hx
    by_cases hlt : i < m
    · have hd : decide ((i : Int) < (m : Int)) = true := by simp; omega
      have hA := HM.out.at0 (by omega); have hA2 := HM2.out.at0 (by omega)
      subst hA; subst hA2
      have hr := HM.out.rowc hlt HX.out
      have hr2 := HM2.out.rowc hlt HX.out
      rw [← HN.out i hlt] at hr2
      have hne : (((R i).n : Int) != ((R i).n : Int)) = false := by simp
      have K1 := ExtOf.cell hr; have K2 := ExtOf.cell hr2
      have hbi := HB.out i hlt
      go_wp2_with fail
      refine wp_region_ordE 10 [(true, 0), (true, 1), (true, 2), (true, 3), (true, 4), (true, 5), (true, 6), (true, 7), (true, 8), (true, 9)] (by kernel_rfl) (by kernel_rfl) ?_
      refine wpOrdT_quiet [0, 1, 2, 3, 4, 5, 6, 7, 8, 9] [] _ (by kernel_rfl) ?_
      simp only [nthOps, nthOp, List.cons_append, List.nil_append]
      repeat (go_big_quiet_step (fail))
      refine wpQuiet_nil ?_
      clear K1 K2
      simp only [wpOrdT, List.drop_succ_cons, List.drop_zero]
      have hr' := hr; have hr2' := hr2
      go_wp2_with fail
      clear hr hr2 hr' hr2'
      go_loopw [33] (fun i33 wz => ∃ j : Nat, j ≤ (R i).n ∧ i33 = .int .i64 j ∧ Ext w wz) (fun i33 _ => (R i).n - (intOf i33).toNat)
      case atStart => exact ⟨0, by omega, rfl, by first | exact HX.out | exact HX.out.drew⟩
      case round =>
        clear hd
        obtain ⟨j, hj, rfl, hz⟩ := hrel
        have HZ := Lib.hid hz; clear hz
        by_cases hjt : j < (R i).n
        · have dj : decide ((j : Int) < ((R i).n : Int)) = true := by simp; omega
          have di : decide ((i : Int) < (m : Int)) = true := by simp; omega
          have hr := HM.out.rowc hlt HZ.out
          have hr2 := HM2.out.rowc hlt HZ.out
          have hj2 : j < (R2 i).n := by have := HN.out i hlt; omega
          rw [← HN.out i hlt, HM2.out.ra i hlt (by omega)] at hr2
          rw [HM.out.ra i hlt (by omega)] at hr
          obtain ⟨a0, a1, a2, a3, a4, a5⟩ := HM.out.cells hlt hjt HZ.out
          obtain ⟨b0, b1, b2, b3, b4, b5⟩ := HM2.out.cells hlt hj2 HZ.out
          have K1 := ExtOf.cell hr; have K2 := ExtOf.cell hr2
          have A0 := ExtOf.cell a0; have A1 := ExtOf.cell a1; have A2 := ExtOf.cell a2; have A3 := ExtOf.cell a3; have A4 := ExtOf.cell a4; have A5 := ExtOf.cell a5
          have B0 := ExtOf.cell b0; have B1 := ExtOf.cell b1; have B2' := ExtOf.cell b2; have B3 := ExtOf.cell b3; have B4 := ExtOf.cell b4; have B5 := ExtOf.cell b5
          clear hr hr2 a0 a1 a2 a3 a4 a5 b0 b1 b2 b3 b4 b5
          go_wp2_with fail
          refine wp_region_ordE 15 [(true, 0), (true, 1), (true, 2), (true, 3), (true, 4), (true, 5), (true, 6), (true, 7), (true, 8), (true, 9), (true, 10), (true, 11), (true, 12), (true, 13), (false, 14)] (by kernel_rfl) (by kernel_rfl) ?_
          refine wpOrdT_quiet [0, 1, 2, 3, 4, 5, 6, 7, 8, 9, 10, 11, 12, 13] [(false, 14)] _ (by kernel_rfl) ?_
          simp only [nthOps, nthOp, List.cons_append, List.nil_append]
          repeat (go_big_quiet_step (fail))
          refine wpQuiet_nil ?_
          refine wpOrdT_act 14 [] (by kernel_rfl) ?_
          intro K hK
          simp only [nthOp]
          go_wp2_with fail
          refine (qSame_q _ _ (X i j) (X i j) 12800 12800 _ ((HV.out i j hlt hjt).ext (HZ.out.drew)) ((HV2.out i j hlt hjt).ext (HZ.out.drew)) rfl).mono ?_
          rintro e w4 ⟨rfl, hx4⟩
          have HX4 := Lib.hid hx4.undrew
          clear hx4
          go_wp2
          refine hK _ _ ⟨⟨w4, HX4.out⟩, rfl⟩ ?_
          clear hK K K1 K2 A0 A1 A2 A3 A4 A5 B0 B1 B2' B3 B4 B5
          simp only [wpOrdT, List.drop_succ_cons, List.drop_zero]
          go_wp2_with fail
          go_roundw
          case rel => exact ⟨j + 1, by omega, by go_num, HZ.out.trans HX4.out⟩
          case measure => simp [intOf]; omega
        · obtain rfl : j = (R i).n := by omega
          have dj : decide (((R i).n : Int) < ((R i).n : Int)) = false := by simp
          go_wp2_with fail
          go_roundw
          case rel => exact ⟨i + 1, by omega, by go_num, HZ.out⟩
          case measure => simp [intOf]; omega
    · obtain rfl : i = m := by omega
      have hd : decide ((i : Int) < (i : Int)) = false := by simp
      go_wp2_with fail
      go_ret
      exact ⟨rfl, HX.out⟩
end Go.Proofs.YtclkkoiaaddllaaGreat

namespace Go.Proofs.YtclkkoiaaddllaaGreat
open Go.RowKit
set_option linter.unusedVariables false

theorem room_of {b N m na nb : Nat} {Z : Nat → Nat → GQ} (hb : ∀ i j, i < m → j < na + nb → Bd (Z i j) b) (h : ∀ k, k + 1 < m → room b k < 2 ^ N ∧ roomf b k < 2 ^ N) : Room N m na nb Z := by
  intro c hc hr
  obtain ⟨o, P, hI⟩ := ech_inv m Z c
  obtain ⟨h1, h2⟩ := h _ hr
  exact ⟨hI.bd hb (by omega) h1, fun i k a1 a2 a3 a4 a5 => hI.fac hb (by omega) h2 a1 a2 a3 a4 a5⟩
theorem bd_i {a b : Int} {n : Nat} (ha : a.natAbs < 2 ^ n) (hb : b.natAbs < 2 ^ n) (hn : 1 ≤ n) : Bd (GQ.i a b) n := by
  refine ⟨a, b, 1, is_i a b, ha, hb, ?_⟩
  have : 2 ^ 1 ≤ 2 ^ n := Nat.pow_le_pow_right (by omega) hn
  show (1 : Int).natAbs < 2 ^ n
  simp; omega
/-- A matrix of two rows and two columns. -/
def mx2 (a b c d : GQ) : Nat → Nat → GQ := fun i j => if i = 0 then (if j = 0 then a else b) else (if j = 0 then c else d)
def kA : Nat → Nat → GQ := mx2 (GQ.i 0 0) (GQ.i 1 0) (GQ.i 1 0) (GQ.i 0 0)
def kB : Nat → Nat → GQ := mx2 (GQ.i 5 0) (GQ.i 5 0) (GQ.i 7 0) (GQ.i 7 0)
theorem kZ_bd : ∀ i j, i < 2 → j < 2 + 1 → Bd (side 2 kA kB i j) 4 := by
  intro i j hi hj
  match i, hi, j, hj with
  | 0, _, 0, _ => exact bd_i (by decide) (by decide) (by decide)
  | 0, _, 1, _ => exact bd_i (by decide) (by decide) (by decide)
  | 0, _, 2, _ => exact bd_i (by decide) (by decide) (by decide)
  | 1, _, 0, _ => exact bd_i (by decide) (by decide) (by decide)
  | 1, _, 1, _ => exact bd_i (by decide) (by decide) (by decide)
  | 1, _, 2, _ => exact bd_i (by decide) (by decide) (by decide)
theorem kroom : ∀ k, k + 1 < 2 → room 4 k < 2 ^ 100 ∧ roomf 4 k < 2 ^ 100 := by
  intro k hk
  obtain rfl : k = 0 := by omega
  exact ⟨by decide +kernel, by decide +kernel⟩
theorem kZ_room : Room 100 2 2 1 (side 2 kA kB) := room_of kZ_bd kroom
theorem kA_bd : ∀ i j, i < 2 → j < 2 + 0 → Bd (kA i j) 4 := by
  intro i j hi hj
  match i, hi, j, hj with
  | 0, _, 0, _ => exact bd_i (by decide) (by decide) (by decide)
  | 0, _, 1, _ => exact bd_i (by decide) (by decide) (by decide)
  | 1, _, 0, _ => exact bd_i (by decide) (by decide) (by decide)
  | 1, _, 1, _ => exact bd_i (by decide) (by decide) (by decide)
theorem kA_room : Room 100 2 2 0 kA := room_of kA_bd kroom
theorem kZ_r : (ech 2 (side 2 kA kB) 2).r = 2 := by decide +kernel
theorem kx00 : (ech 2 (side 2 kA kB) 2).X 0 0 = GQ.i 1 0 := by decide +kernel
theorem kx01 : (ech 2 (side 2 kA kB) 2).X 0 1 = GQ.i 0 0 := by decide +kernel
theorem kx10 : (ech 2 (side 2 kA kB) 2).X 1 0 = GQ.i 0 0 := by decide +kernel
theorem kx11 : (ech 2 (side 2 kA kB) 2).X 1 1 = GQ.i 1 0 := by decide +kernel
theorem kb00 : bps (ech 2 (side 2 kA kB) 2).X (bsol (ech 2 (side 2 kA kB) 2).X 2 0) 2 1 0 0 = GQ.i 5 0 := by decide +kernel
theorem kb10 : bps (ech 2 (side 2 kA kB) 2).X (bsol (ech 2 (side 2 kA kB) 2).X 2 1) 2 0 0 0 = GQ.i 7 0 := by decide +kernel
theorem kb11 : bps (ech 2 (side 2 kA kB) 2).X (bsol (ech 2 (side 2 kA kB) 2).X 2 1) 2 0 0 1 = GQ.i 7 0 := by decide +kernel
theorem ks1 : bsol (ech 2 (side 2 kA kB) 2).X 2 1 1 0 = GQ.i 5 0 := by decide +kernel
theorem ks2 : bsol (ech 2 (side 2 kA kB) 2).X 2 2 1 0 = GQ.i 5 0 := by decide +kernel
theorem ks3 : bsol (ech 2 (side 2 kA kB) 2).X 2 2 0 0 = GQ.i 7 0 := by decide +kernel
theorem kroomB : RoomB 4 4 4 4 2 1 (ech 2 (side 2 kA kB) 2).X := by
  refine ⟨fun i l hi hl => ?_, fun k j s hk hj hs => ?_, fun k j hk hj => ?_, fun k i j hk h1 h2 hj => ?_, by omega, by omega, by omega⟩
  · match i, hi, l, hl with
    | 0, _, 0, _ => rw [kx00]; exact bd_i (by decide) (by decide) (by decide)
    | 0, _, 1, _ => rw [kx01]; exact bd_i (by decide) (by decide) (by decide)
    | 1, _, 0, _ => rw [kx10]; exact bd_i (by decide) (by decide) (by decide)
    | 1, _, 1, _ => rw [kx11]; exact bd_i (by decide) (by decide) (by decide)
  · obtain rfl : k = 1 := by omega
    obtain rfl : s = 0 := by omega
    obtain rfl : j = 0 := by omega
    show Bd (bps _ _ 2 0 0 0) 4
    rw [kb10]; exact bd_i (by decide) (by decide) (by decide)
  · obtain rfl : j = 0 := by omega
    match k, hk with
    | 0, _ => show Bd (bps _ _ 2 1 0 0) 4; rw [kb00]; exact bd_i (by decide) (by decide) (by decide)
    | 1, _ => show Bd (bps _ _ 2 0 0 1) 4; rw [kb11]; exact bd_i (by decide) (by decide) (by decide)
  · obtain rfl : j = 0 := by omega
    match k, hk with
    | 0, _ => omega
    | 1, _ => obtain rfl : i = 1 := by omega
              rw [ks1]; exact bd_i (by decide) (by decide) (by decide)
    | 2, _ =>
      match i, h2 with
      | 0, _ => rw [ks3]; exact bd_i (by decide) (by decide) (by decide)
      | 1, _ => rw [ks2]; exact bd_i (by decide) (by decide) (by decide)
theorem Bd.up {q : GQ} {m n : Nat} (h : Bd q m) (hn : m ≤ n) : Bd q n := by
  obtain ⟨a, b, d, I, Z⟩ := h
  exact ⟨a, b, d, I, Z.mono hn⟩
theorem kroomB' : RoomB 100 4 4 4 2 1 (ech 2 (side 2 kA kB) 2).X :=
  ⟨fun i l hi hl => (kroomB.a i l hi hl).up (by omega), kroomB.s, kroomB.d, kroomB.x, by omega, by omega, by omega⟩
theorem kdet : detv 2 kA = GQ.i (-1) 0 := by decide +kernel
theorem kp (k : Nat) (hk : k ≤ 2) : Bd (pprod (ech 2 kA 2).X k) 64 := by
  match k, hk with
  | 0, _ => rw [show pprod (ech 2 kA 2).X 0 = GQ.i 1 0 by decide +kernel]; exact bd_i (by decide) (by decide) (by decide)
  | 1, _ => rw [show pprod (ech 2 kA 2).X 1 = GQ.i 1 0 by decide +kernel]; exact bd_i (by decide) (by decide) (by decide)
  | 2, _ => rw [show pprod (ech 2 kA 2).X 2 = GQ.i 1 0 by decide +kernel]; exact bd_i (by decide) (by decide) (by decide)
theorem kd (i : Nat) (hi : i < 2) : Bd ((ech 2 kA 2).X i i) 64 := by
  match i, hi with
  | 0, _ => rw [show (ech 2 kA 2).X 0 0 = GQ.i 1 0 by decide +kernel]; exact bd_i (by decide) (by decide) (by decide)
  | 1, _ => rw [show (ech 2 kA 2).X 1 1 = GQ.i 1 0 by decide +kernel]; exact bd_i (by decide) (by decide) (by decide)
end Go.Proofs.YtclkkoiaaddllaaGreat

