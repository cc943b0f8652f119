/- Linear: clear, one step of elimination. -/
import Derived.Test.YtclkkoiaaddllaaGreatQYgcime
namespace Go.Proofs.YtclkkoiaaddllaaGreat
open Go.RowKit
set_option linter.unusedVariables false

/-- A row with 0 in column c and, behind it, less a multiple of another one. -/
def clrow (x y : Nat → GQ) (q : GQ) (c : Nat) : Nat → GQ := fun j => if j < c then x j else if j = c then GQ.i 0 0 else x j - q * y j
theorem Blk.ne_t {w : World} {g g' : Nat} {t t' : TypeId} {cs cs' : Array Value} (h : Blk w g t cs) (h' : Blk w g' t' cs') (ht : t ≠ t') : g ≠ g' := by
  rintro rfl
  have e := h.symm.trans h'
  simp at e
  exact ht e.2
theorem RowIs.blk {w : World} {g n : Nat} {x : Nat → GQ} (h : RowIs w g n x) : ∃ cs, Blk w g 32 cs := by obtain ⟨f, hb, _⟩ := h; exact ⟨_, hb⟩
theorem fclear_b (gf b2i b2k nb c2i c2k N : Nat) (A2i A2k : Option Addr) (v : Value) (x2 y2 : Nat → GQ) (q : GQ) (w : World) (hc : CalmF w gf) (hq : GV w v q N) (h2i : 0 < nb → A2i = some ⟨b2i, 0, none⟩ ∧ RowIs w b2i nb x2) (h2k : 0 < nb → A2k = some ⟨b2k, 0, none⟩ ∧ RowIs w b2k nb y2)
    (hne : 0 < nb → b2i ≠ b2k) (hnb : nb ≤ 1000) (bx2 : ∀ j, j < nb → Bd (x2 j) N) (by2 : ∀ j, j < nb → Bd (y2 j) N) (hN : 4 * N + 67 ≤ 12800) :
    Calls Tryz.prog 77 #[.pointer (some ⟨gf, 0, none⟩), .slice A2i nb c2i, .slice A2k nb c2k, v] w.drew fun e w' => e = .returned (.tuple #[]) ∧ (0 < nb → RowIs w' b2i nb (fun j => x2 j - q * y2 j)) ∧ Mod (fun g => 0 < nb ∧ g = b2i) w w' := by
  have hd : Ext w w.drew := (Ext.refl _).drew
  by_cases h : 0 < nb
  · obtain ⟨e1, r1⟩ := h2i h
    obtain ⟨e2, r2⟩ := h2k h
    refine (fsubtract_w gf b2i b2k 0 0 nb nb nb c2i nb c2k N A2i A2k v x2 y2 q w.drew (hc.ext hd) (r1.ext hd) (r2.ext hd) (hne h) (fun _ => by simpa using e1) (fun _ => by simpa using e2) (Nat.le_refl _) (by omega) (by omega) (by omega) (by omega) (hq.ext hd) (fun j hj => by simpa using bx2 j hj) (fun j hj => by simpa using by2 j hj) hN).mono ?_
    rintro e w' ⟨he, hr, hm⟩
    refine ⟨he, fun _ => hr.congr fun j hj => ?_, (Mod.of hd).trans (hm.mono fun g hg => ⟨h, hg⟩)⟩
    unfold subk
    rw [if_pos (by omega)]
    simp
  · obtain rfl : nb = 0 := by omega
    refine (fsubtract_0 gf c2i 0 c2k A2i A2k v q N w.drew (hq.ext hd)).mono ?_
    rintro e w' ⟨he, hx⟩
    exact ⟨he, fun h0 => absurd h0 (by omega), (Mod.of hd).trans (Mod.of hx)⟩
set_option maxRecDepth 100000 in
set_option maxHeartbeats 6400000 in
theorem fclear_w (gf Ga Gb m cA cB i k col na nb bi bk b2i b2k c2i c2k N : Nat) (A2i A2k : Option Addr) (csA csB : Array Value) (x y x2 y2 : Nat → GQ) (w : World) (hc : CalmF w gf)
    (hA : Blk w Ga 37 csA) (hB : Blk w Gb 37 csB) (hai : csA[i]? = some (.slice (some ⟨bi, 0, none⟩) na na)) (hak : csA[k]? = some (.slice (some ⟨bk, 0, none⟩) na na)) (hbi : csB[i]? = some (.slice A2i nb c2i)) (hbk : csB[k]? = some (.slice A2k nb c2k))
    (him : i < m) (hkm : k < m) (hcol : col < na) (hm : m ≤ 1000) (hna : na ≤ 1000) (hnb : nb ≤ 1000)
    (hx : RowIs w bi na x) (hy : RowIs w bk na y) (h2i : 0 < nb → A2i = some ⟨b2i, 0, none⟩ ∧ RowIs w b2i nb x2) (h2k : 0 < nb → A2k = some ⟨b2k, 0, none⟩ ∧ RowIs w b2k nb y2)
    (hne : bi ≠ bk) (hne2 : 0 < nb → b2i ≠ b2k ∧ bi ≠ b2i ∧ bi ≠ b2k) (h0 : y col ≠ GQ.i 0 0)
    (bx : ∀ j, j < na → Bd (x j) N) (by_ : ∀ j, j < na → Bd (y j) N) (bx2 : ∀ j, j < nb → Bd (x2 j) N) (by2 : ∀ j, j < nb → Bd (y2 j) N) (bq : Bd (x col / y col) N) (hN : 4 * N + 67 ≤ 12800) :
    Calls Tryz.prog 58 #[.pointer (some ⟨gf, 0, none⟩), .slice (some ⟨Ga, 0, none⟩) m cA, .slice (some ⟨Gb, 0, none⟩) m cB, .int .i64 k, .int .i64 i, .int .i64 col] w fun e w' => e = .returned (.tuple #[]) ∧
      RowIs w' bi na (clrow x y (x col / y col) col) ∧ (0 < nb → RowIs w' b2i nb (fun j => x2 j - x col / y col * y2 j)) ∧ Mod (fun g => g = bi ∨ (0 < nb ∧ g = b2i)) w w' := by
  have HX := Lib.hid hx; have HY := Lib.hid hy; have HA := Lib.hid hA; have HB := Lib.hid hB; have HC := Lib.hid hc
  obtain ⟨f, hf, hv⟩ := hx
  obtain ⟨f2, hf2, hv2⟩ := hy
  have k1 : w.cell? ⟨Ga, i, none⟩ = some (.slice (some ⟨bi, 0, none⟩) na na) := (hA.cell i).trans hai
  have k2 : w.cell? ⟨Ga, k, none⟩ = some (.slice (some ⟨bk, 0, none⟩) na na) := (hA.cell k).trans hak
  obtain ⟨a0, a1, a2, a3, a4, a5⟩ := RowIs.cells hf hcol rfl
  have e0 := hc.cell
  have HV := Lib.hid ((hv col hcol).to (bx col hcol))
  have d1 : decide ((i : Int) < (m : Int)) = true := by simp; omega
  have d2 : decide ((k : Int) < (m : Int)) = true := by simp; omega
  have d3 : decide ((col : Int) < (na : Int)) = true := by simp; omega
  have HF := Lib.hid hf; have HF2 := Lib.hid hf2; have HHV := Lib.hid hv; have HHV2 := Lib.hid hv2
  have H2i := Lib.hid h2i; have H2k := Lib.hid h2k; have HBX := Lib.hid bx; have HBY := Lib.hid by_; have HBX2 := Lib.hid bx2; have HBY2 := Lib.hid by2; have HBQ := Lib.hid bq
  have HN2 := Lib.hid hne2
  clear hf hf2 hv hv2 h2i h2k bx by_ bx2 by2 bq hA hB hc hne2
  go_enter Tryz.func58, Tryz.ntmps58
  go_wp2_with fail
  refine (xZero_of _ _ _ _ HV.out (by omega)).mono ?_
  rintro e w1 ⟨rfl, hx1⟩
  replace k1 := hx1.cell_ k1; replace k2 := hx1.cell_ k2; replace a0 := hx1.cell_ a0; replace a1 := hx1.cell_ a1; replace a2 := hx1.cell_ a2; replace a3 := hx1.cell_ a3; replace a4 := hx1.cell_ a4; replace a5 := hx1.cell_ a5
  clear e0
  have e0 := (HC.out.ext hx1).cell
  by_cases hz : x col = GQ.i 0 0
  · rw [decide_eq_true hz]
    go_wp2_with fail
    refine bodyPost_ret (results_none rfl _ _ _) rfl ?_
    have e0' : x col / y col = GQ.i 0 0 := by rw [hz, GQ.zero_div']
    refine ⟨rfl, (HX.out.ext hx1).congr fun j hj => ?_, fun hb => ((H2i.out hb).2.ext hx1).congr fun j hj => ?_, Mod.of hx1⟩
    · unfold clrow
      rw [e0']
      by_cases h1 : j < col
      · rw [if_pos h1]
      · rw [if_neg h1]
        by_cases h2 : j = col
        · subst h2; rw [if_pos rfl, hz]
        · rw [if_neg h2, GQ.zero_mul', GQ.sub_zero']
    · rw [e0', GQ.zero_mul', GQ.sub_zero']
  · rw [decide_eq_false hz]
    go_wp2_with fail
    obtain ⟨b0, b1, b2, b3, b4, b5⟩ := RowIs.cells (HF2.out.ext hx1) hcol rfl
    have K1 := ExtOf.cell k1; have K2 := ExtOf.cell k2
    have A0 := ExtOf.cell a0; have A1 := ExtOf.cell a1; have A2 := ExtOf.cell a2; have A3 := ExtOf.cell a3; have A4 := ExtOf.cell a4; have A5 := ExtOf.cell a5
    have B0 := ExtOf.cell b0; have B1 := ExtOf.cell b1; have B2 := ExtOf.cell b2; have B3 := ExtOf.cell b3; have B4 := ExtOf.cell b4; have B5 := ExtOf.cell b5
    have HX1 := Lib.hid hx1
    clear a0 a1 a2 a3 a4 a5 b0 b1 b2 b3 b4 b5 k1 k2 e0 hx1
    have hdiv : ∀ w', Ext w1 w' → Calls Tryz.prog 78 #[.pointer (some ⟨gf, 0, none⟩), .agg #[.bool (f col).s1, .slice (f col).A1 (f col).n1 (f col).c1, .bool (f col).s2, .slice (f col).A2 (f col).n2 (f col).c2, .bool (f col).s3, .slice (f col).A3 (f col).n3 (f col).c3], .agg #[.bool (f2 col).s1, .slice (f2 col).A1 (f2 col).n1 (f2 col).c1, .bool (f2 col).s2, .slice (f2 col).A2 (f2 col).n2 (f2 col).c2, .bool (f2 col).s3, .slice (f2 col).A3 (f2 col).n3 (f2 col).c3]] w' fun e w'' => ∃ v, e = .returned v ∧ GV w'' v (x col / y col) N ∧ Ext w' w'' := fun w' xx =>
      (fdiv_ok gf _ _ (x col) (y col) N N w' ((HC.out.ext HX1.out).ext xx) ((HV.out.ext HX1.out).ext xx) ((((HHV2.out col hcol).to (HBY.out col hcol)).ext HX1.out).ext xx) h0 (by omega)).mono fun e w'' ⟨v, h1, h2, h3⟩ => ⟨v, h1, h2.to HBQ.out, h3⟩
    have HD := Lib.hid hdiv; clear hdiv
    refine wp_region_ordF 17 16 [(true, 0), (true, 1), (true, 2), (true, 3), (true, 4), (true, 5), (true, 6), (true, 7), (true, 8), (true, 9), (true, 10), (true, 11), (true, 12), (true, 13), (true, 14), (false, 15)] [] (fun a a' w' => ∃ (gb : Nat) (r1 : Bool) (D1 : Option Addr) (p1 q1 : Nat) (r2 : Bool) (D2 : Option Addr) (p2 q2 : Nat) (r3 : Bool) (D3 : Option Addr) (p3 q3 : Nat), a' = (((((((((((((((((a.put (some 28) (.pointer (some ⟨gf, 0, none⟩))).put (some 29) (.slice (some ⟨Ga, 0, none⟩) m cA)).put (some 30) (.int .i64 i)).put (some 31) (.pointer (some ⟨Ga, i, none⟩))).put (some 32) (.slice (some ⟨bi, 0, none⟩) na na)).put (some 33) (.int .i64 col)).put (some 34) (.pointer (some ⟨bi, col * 6, none⟩))).put (some 35) (.agg #[.bool (f col).s1, .slice (f col).A1 (f col).n1 (f col).c1, .bool (f col).s2, .slice (f col).A2 (f col).n2 (f col).c2, .bool (f col).s3, .slice (f col).A3 (f col).n3 (f col).c3])).put (some 36) (.slice (some ⟨Ga, 0, none⟩) m cA)).put (some 37) (.int .i64 k)).put (some 38) (.pointer (some ⟨Ga, k, none⟩))).put (some 39) (.slice (some ⟨bk, 0, none⟩) na na)).put (some 40) (.int .i64 col)).put (some 41) (.pointer (some ⟨bk, col * 6, none⟩))).put (some 42) (.agg #[.bool (f2 col).s1, .slice (f2 col).A1 (f2 col).n1 (f2 col).c1, .bool (f2 col).s2, .slice (f2 col).A2 (f2 col).n2 (f2 col).c2, .bool (f2 col).s3, .slice (f2 col).A3 (f2 col).n3 (f2 col).c3])).put (some 43) ((gv r1 D1 p1 q1 r2 D2 p2 q2 r3 D3 p3 q3))).put (some 12) (.pointer (some ⟨gb, 0, none⟩))) ∧ GV w' (gv r1 D1 p1 q1 r2 D2 p2 q2 r3 D3 p3 q3) (x col / y col) N ∧ Blk w' gb 32 #[.bool false, .slice none 0 0, .bool false, .slice none 0 0, .bool false, .slice none 0 0] ∧ Ext w1 w' ∧ w1.heap.size ≤ gb) (by kernel_rfl) (by kernel_rfl) ?_ ?_
    ·
      have hB_ : Ext w1 w1.drew := (Ext.refl _).drew
      generalize w1.drew = w6 at *
      refine wpOrdF_quiet [0, 1, 2, 3, 4, 5, 6, 7, 8, 9, 10, 11, 12, 13, 14] [(false, 15)] _ (by kernel_rfl) ?_
      simp only [nthOps, nthOp, List.cons_append, List.nil_append]
      repeat (go_big_quiet_step (fail))
      refine wpQuiet_nil ?_
      refine wpOrdF_act 15 [] (by kernel_rfl) (by kernel_rfl) ?_ ?_
      ·
        intro K hK
        simp only [nthOp]
        go_wp2_with fail
        refine (HD.out _ hB_).mono ?_
        rintro e w7 ⟨v_, rfl, hO, hx_⟩
        replace hB_ := hB_.trans hx_
        obtain ⟨r1, D1, p1, q1, r2, D2, p2, q2, r3, D3, p3, q3, rfl⟩ := hO.opn
        have HO := Lib.hid hO; clear hO
        go_wp2
        refine hK _ _ ⟨⟨w7, hB_⟩, rfl⟩ ?_
        clear hK K hx_
        refine wpOrdF_end (by kernel_rfl) ?_
        intro K hK
        simp only [nthOp]
        go_wp2_with fail
        have hx_ := Ext.new w7 (.cells #[.bool false, .slice none 0 0, .bool false, .slice none 0 0, .bool false, .slice none 0 0] 32)
        have bb_ : Blk (w7.alloc (.cells #[.bool false, .slice none 0 0, .bool false, .slice none 0 0, .bool false, .slice none 0 0] 32)) w7.heap.size 32 #[.bool false, .slice none 0 0, .bool false, .slice none 0 0, .bool false, .slice none 0 0] := Blk.new _ _ _
        have hgb : w1.heap.size ≤ w7.heap.size := hB_.size
        replace hB_ := hB_.trans hx_
        have HO2 := Lib.hid (HO.out.ext hx_)
        refine hK _ _ ⟨⟨_, hB_⟩, rfl⟩ ?_
        exact ⟨_, r1, D1, p1, q1, r2, D2, p2, q2, r3, D3, p3, q3, by simp only [Act.put, sa0, sa1, sa2], HO2.out, bb_, hB_, hgb⟩
      ·
        intro K hK
        simp only [nthOp]
        go_wp2_with fail
        have hx_ := Ext.new w6 (.cells #[.bool false, .slice none 0 0, .bool false, .slice none 0 0, .bool false, .slice none 0 0] 32)
        have bb_ : Blk (w6.alloc (.cells #[.bool false, .slice none 0 0, .bool false, .slice none 0 0, .bool false, .slice none 0 0] 32)) w6.heap.size 32 #[.bool false, .slice none 0 0, .bool false, .slice none 0 0, .bool false, .slice none 0 0] := Blk.new _ _ _
        have hgb : w1.heap.size ≤ w6.heap.size := hB_.size
        replace hB_ := hB_.trans hx_
        refine hK _ _ ⟨⟨_, hB_⟩, rfl⟩ ?_
        clear hK K hx_
        generalize w6.alloc (.cells #[.bool false, .slice none 0 0, .bool false, .slice none 0 0, .bool false, .slice none 0 0] 32) = w12 at *
        generalize w6.heap.size = gb at *
        refine wpOrdT_act 15 [] (by kernel_rfl) ?_
        intro K hK
        simp only [nthOp]
        go_wp2_with fail
        refine (HD.out _ hB_).mono ?_
        rintro e w7 ⟨v_, rfl, hO, hx_⟩
        replace hB_ := hB_.trans hx_
        replace bb_ := bb_.ext hx_
        obtain ⟨r1, D1, p1, q1, r2, D2, p2, q2, r3, D3, p3, q3, rfl⟩ := hO.opn
        have HO := Lib.hid hO; clear hO
        go_wp2
        refine hK _ _ ⟨⟨w7, hB_⟩, rfl⟩ ?_
        clear hK K hx_
        exact ⟨_, r1, D1, p1, q1, r2, D2, p2, q2, r3, D3, p3, q3, by simp only [Act.put, sa0, sa1, sa2], HO.out, bb_, hB_, hgb⟩
    rintro a' w8 ⟨gb, r1, D1, p1, q1, r2, D2, p2, q2, r3, D3, p3, q3, rfl, hQ, hbb, hx8, hgb⟩
    clear K1 K2 A0 A1 A2 A3 A4 A5 B0 B1 B2 B3 B4 B5
    simp only [Act.put, List.setIfInBounds_toArray, List.set_cons_succ, List.set_cons_zero, List.drop_succ_cons, List.drop_zero]
    have HX8 := Lib.hid (HX1.out.trans hx8)
    have k6 := hbb.cell; have f6 := hbb.frozen
    obtain ⟨z1, z2, z3⟩ := put_gauss hx8 hgb hbb hQ
    have Z1 := Lib.hid (HX1.out.trans z1); have Z2 := Lib.hid z2; have Z3 := Lib.hid z3
    clear z1 z2 z3 hx8 hbb hQ
    have hgb0 : w.heap.size ≤ gb := Nat.le_trans HX1.out.size hgb
    clear HX8
    go_wp2_with fail
    generalize hW9 : World.setCell _ _ _ = w9 at Z1 Z2 Z3 ⊢
    clear hW9 k6 f6 hgb
    -- region 2: the entry becomes 0
    have K1 := ExtOf.cell (((HA.out.ext Z1.out).cell i).trans hai)
    have HZF := Lib.hid (fzero_ok gf w9.drew (HC.out.ext Z1.out.drew))
    refine wp_region_ordE 7 [(true, 0), (true, 1), (true, 2), (true, 3), (true, 4), (true, 5), (false, 6)] (by kernel_rfl) (by kernel_rfl) ?_
    refine wpOrdT_quiet [0, 1, 2, 3, 4, 5] [(false, 6)] _ (by kernel_rfl) ?_
    simp only [nthOps, nthOp, List.cons_append, List.nil_append]
    repeat (go_big_quiet_step (fail))
    refine wpQuiet_nil ?_
    refine wpOrdT_act 6 [] (by kernel_rfl) ?_
    intro K hK
    simp only [nthOp]
    go_wp2_with fail
    refine HZF.out.mono ?_
    rintro e w10 ⟨v10, rfl, hv10, hx10⟩
    obtain ⟨t1, B1, m1, o1, t2, B2, m2, o2, t3, B3, m3, o3, rfl⟩ := hv10.opn
    have HX10 := Lib.hid hx10.undrew; have HV10 := Lib.hid hv10
    clear hx10 hv10 HZF
    go_wp2
    refine hK _ _ ⟨⟨w10, HX10.out⟩, rfl⟩ ?_
    clear hK K K1
    simp only [wpOrdT, List.drop_succ_cons, List.drop_zero]
    have HE10 := Lib.hid (Z1.out.trans HX10.out)
    have HF10 := Lib.hid (HF.out.ext HE10.out)
    obtain ⟨a0, a1, a2, a3, a4, a5⟩ := RowIs.cells HF10.out hcol rfl
    have f5 := HF10.out.frozen
    go_wp2_with fail
    clear a0 a1 a2 a3 a4 a5 f5
    have hp := RowIs.put (e := ⟨t1, B1, m1, o1, t2, B2, m2, o2, t3, B3, m3, o3⟩) HF10.out (fun j hj => (HHV.out j hj).ext HE10.out) (j := col) hcol (HV10.out.up (by omega))
    have HR11 := Lib.hid (show RowIs (puts w10 bi (col * 6) [.bool t1, .slice B1 m1 o1, .bool t2, .slice B2 m2 o2, .bool t3, .slice B3 m3 o3]) bi na (upd x col (GQ.i 0 0)) from hp.1); have HM11 := Lib.hid (show Mod (fun g => g = bi) w10 (puts w10 bi (col * 6) [.bool t1, .slice B1 m1 o1, .bool t2, .slice B2 m2 o2, .bool t3, .slice B3 m3 o3]) from hp.2)
    clear hp
    show Code.wp _ _ _ _ (puts w10 bi (col * 6) [.bool t1, .slice B1 m1 o1, .bool t2, .slice B2 m2 o2, .bool t3, .slice B3 m3 o3])
    generalize (puts w10 bi (col * 6) [.bool t1, .slice B1 m1 o1, .bool t2, .slice B2 m2 o2, .bool t3, .slice B3 m3 o3]) = w11 at HR11 HM11 ⊢
    have hfar := HX.out.far
    have hM0 : Mod (fun g => g = bi) w w11 := (Mod.of HE10.out).trans HM11.out
    have hbl := HF.out.lt
    have HA11 := Lib.hid (HA.out.mod hM0 (HA.out.ne_t HF.out (by decide)))
    have HB11 := Lib.hid (HB.out.mod hM0 (HB.out.ne_t HF.out (by decide)))
    have HC11 := Lib.hid (Blk.mod HC.out hM0 (HC.out.ne HX.out))
    have HY11 := Lib.hid (HY.out.mod hM0 hfar (by exact fun e => hne e.symm))
    have hfar10 : Far (fun g => g = bi) w10 := fun g hg _ => by subst hg; exact ⟨_, _, HF10.out, rowc_noint _ _⟩
    have HG11 := Lib.hid ((Z2.out.ext HX10.out).mod HM11.out (by exact fun e => by omega))
    have HQ11 := Lib.hid ((Z3.out.ext HX10.out).mod HM11.out hfar10)
    have HM0 := Lib.hid hM0
    clear hM0 HM11 Z2 Z3 HV10 HF10 hfar10 HX10
    have K1 := ExtOf.cell ((HA11.out.cell i).trans hai); have K2 := ExtOf.cell ((HA11.out.cell k).trans hak); have B7 := ExtOf.blk HG11.out
    have s1 : (0 : Int) ≤ (col : Int) + 1 := by omega
    have s2 : (col : Int) + 1 ≤ (na : Int) := by omega
    refine wp_region_ordE 16 [(true, 0), (true, 1), (true, 2), (true, 3), (true, 4), (true, 5), (true, 6), (true, 7), (true, 8), (true, 9), (true, 10), (true, 11), (true, 12), (true, 13), (true, 14), (true, 15)] (by kernel_rfl) (by kernel_rfl) ?_
    refine wpOrdT_quiet [0, 1, 2, 3, 4, 5, 6, 7, 8, 9, 10, 11, 12, 13, 14, 15] [] _ (by kernel_rfl) ?_
    simp only [nthOps, nthOp, List.cons_append, List.nil_append]
    repeat (go_big_quiet_step (fail))
    refine wpQuiet_nil ?_
    clear K1 K2 B7 s1 s2
    simp only [wpOrdT, List.drop_succ_cons, List.drop_zero]
    have H77 : Hid (∀ (P1 P2 : Option Addr) (L C1 C2 : Nat), L = na - (col + 1) → (0 < L → P1 = some ⟨bi, (col + 1) * 6, none⟩) → (0 < L → P2 = some ⟨bk, (col + 1) * 6, none⟩) → Calls Tryz.prog 77 #[.pointer (some ⟨gf, 0, none⟩), .slice P1 L C1, .slice P2 L C2, (gv r1 D1 p1 q1 r2 D2 p2 q2 r3 D3 p3 q3)] w11.drew fun e w' => e = .returned (.tuple #[]) ∧ RowIs w' bi na (clrow x y (x col / y col) col) ∧ Mod (fun g => g = bi) w11 w') := by
      refine Lib.hid fun P1 P2 L C1 C2 hL h1 h2 => ?_
      have hd : Ext w11 w11.drew := (Ext.refl _).drew
      refine (fsubtract_w gf bi bk (col + 1) (col + 1) na na L C1 L C2 N P1 P2 _ (upd x col (GQ.i 0 0)) y (x col / y col) w11.drew (HC11.out.ext hd) (HR11.out.ext hd) (HY11.out.ext hd) hne h1 h2 (Nat.le_refl _) (by omega) (by omega) (by omega) (by omega) (HQ11.out.ext hd) ?_ (fun j hj => HBY.out _ (by omega)) hN).mono ?_
      · intro j hj
        rw [upd_ne (by omega)]
        exact HBX.out _ (by omega)
      · rintro e w' ⟨he, hr, hm⟩
        refine ⟨he, hr.congr fun j hj => ?_, (Mod.of hd).trans hm⟩
        unfold subk clrow
        by_cases hj1 : j < col
        · rw [if_neg (by omega), if_pos hj1, upd_ne (by omega)]
        · by_cases hj2 : j = col
          · subst hj2; rw [if_neg (by omega), if_neg (by omega), if_pos rfl, upd_same]
          · rw [if_pos (by omega), if_neg hj1, if_neg hj2, upd_ne hj2]
            congr 3; omega
    go_wp2_with fail
    all_goals
      refine (H77.out _ _ _ _ _ (by omega) (by intro h; first | (exact absurd h (by omega)) | exact rfl) (by intro h; first | (exact absurd h (by omega)) | exact rfl)).mono ?_
      rintro e w12 ⟨rfl, hr12, hm12⟩
      have HR12 := Lib.hid hr12; have HM12 := Lib.hid (HM0.out.trans hm12)
      clear hr12
      go_wp2_with fail
      have HB12 := Lib.hid (HB11.out.mod hm12 (HB11.out.ne_t (HR11.out.blk.choose_spec) (by decide)))
      have HC12 := Lib.hid (Blk.mod HC11.out hm12 (CalmF.ne HC11.out HR11.out))
      have HG12 := Lib.hid (HG11.out.mod hm12 (by exact fun e => by omega))
      have HQ12 := Lib.hid (HQ11.out.mod hm12 HR11.out.far)
      have K1 := ExtOf.cell ((HB12.out.cell i).trans hbi); have K2 := ExtOf.cell ((HB12.out.cell k).trans hbk); have B7 := ExtOf.blk HG12.out
      have HS := Lib.hid (fclear_b gf b2i b2k nb c2i c2k N A2i A2k _ x2 y2 (x _ / y _) w12 HC12.out HQ12.out (fun hb => ⟨(H2i.out hb).1, (H2i.out hb).2.mod HM12.out hfar (by exact fun e => (HN2.out hb).2.1 e.symm)⟩) (fun hb => ⟨(H2k.out hb).1, (H2k.out hb).2.mod HM12.out hfar (by exact fun e => (HN2.out hb).2.2 e.symm)⟩) (fun hb => (HN2.out hb).1) hnb HBX2.out HBY2.out hN)
      clear HB11 HC11 HG11 HQ11 HB12 HC12 HG12 HQ12 H77 HR11
      refine wp_region_ordE 10 [(true, 0), (true, 1), (true, 2), (true, 3), (true, 4), (true, 5), (true, 6), (true, 7), (true, 8), (true, 9)] (by kernel_rfl) (by kernel_rfl) ?_
      refine wpOrdT_quiet [0, 1, 2, 3, 4, 5, 6, 7, 8, 9] [] _ (by kernel_rfl) ?_
      simp only [nthOps, nthOp, List.cons_append, List.nil_append]
      repeat (go_big_quiet_step (fail))
      refine wpQuiet_nil ?_
      clear K1 K2 B7
      simp only [wpOrdT, List.drop_succ_cons, List.drop_zero]
      go_wp2_with fail
      refine HS.out.mono ?_
      rintro e w13 ⟨rfl, hr13, hm13⟩
      have HR13 := Lib.hid hr13; have HM13 := Lib.hid hm13; clear hr13 hm13
      go_wp2_with fail
      refine bodyPost_end (results_none rfl _ _ _) rfl ?_
      refine ⟨rfl, ?_, HR13.out, (HM12.out.mono (fun g hg => .inl hg)).trans (HM13.out.mono (fun g hg => .inr hg))⟩
      refine HR12.out.mod HM13.out ?_ ?_
      · intro g hg _
        obtain ⟨hb, rfl⟩ := hg
        have hr := (H2i.out hb).2.mod HM12.out hfar (by exact fun e => (HN2.out hb).2.1 e.symm)
        obtain ⟨ff, hff, _⟩ := hr
        exact ⟨_, _, hff, rowc_noint _ _⟩
      · exact fun hg => (HN2.out hg.1).2.1 hg.2
end Go.Proofs.YtclkkoiaaddllaaGreat
