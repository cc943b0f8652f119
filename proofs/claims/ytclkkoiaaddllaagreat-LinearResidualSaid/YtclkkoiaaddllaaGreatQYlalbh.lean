/- Linear: clear, one step of elimination. -/
import Derived.Test.YtclkkoiaaddllaaGreatQYgiihl
import Derived.Test.YtclkkoiaaddllaaGreatQMCmndl
import Derived.WalkMore
import Derived.Deep.LoopGhost
import Derived.Laws.CopyRow
namespace Go.Proofs.YtclkkoiaaddllaaGreat
open Go.RowKit
set_option linter.unusedVariables false

/-- A row with 0 in column c and, behind it, less a multiple of another one. -/
def clrow (x y : Nat → GQ) (q : GQ) (c : Nat) : Nat → GQ := fun j => if j < c then x j else if j = c then GQ.i 0 0 else x j - q * y j
theorem Blk.ne_t {w : World} {g g' : Nat} {t t' : TypeId} {cs cs' : Array Value} (h : Blk w g t cs) (h' : Blk w g' t' cs') (ht : t ≠ t') : g ≠ g' := by
  rintro rfl
  have e := h.symm.trans h'
  simp at e
  exact ht e.2
theorem RowIs.blk {w : World} {g n : Nat} {x : Nat → GQ} (h : RowIs w g n x) : ∃ cs, Blk w g 32 cs := by obtain ⟨f, hb, _⟩ := h; exact ⟨_, hb⟩
theorem fclear_b (gf b2i b2k nb c2i c2k N : Nat) (A2i A2k : Option Addr) (v : Value) (x2 y2 : Nat → GQ) (q : GQ) (w : World) (hc : CalmF w gf) (hq : GV w v q N) (h2i : 0 < nb → A2i = some ⟨b2i, 0, none⟩ ∧ RowIs w b2i nb x2) (h2k : 0 < nb → A2k = some ⟨b2k, 0, none⟩ ∧ RowIs w b2k nb y2)
    (hne : 0 < nb → b2i ≠ b2k) (hnb : nb ≤ 1000) (bx2 : ∀ j, j < nb → Bd (x2 j) N) (by2 : ∀ j, j < nb → Bd (y2 j) N) (hN : 4 * N + 67 ≤ 12800) :
    Calls Tryz.prog 77 #[.pointer (some ⟨gf, 0, none⟩), .slice A2i nb c2i, .slice A2k nb c2k, v] w.drew fun e w' => e = .returned (.tuple #[]) ∧ (0 < nb → RowIs w' b2i nb (fun j => x2 j - q * y2 j)) ∧ Mod (fun g => 0 < nb ∧ g = b2i) w w' := by
  have hd : Ext w w.drew := (Ext.refl _).drew
  by_cases h : 0 < nb
  · obtain ⟨e1, r1⟩ := h2i h
    obtain ⟨e2, r2⟩ := h2k h
    refine (fsubtract_w gf b2i b2k 0 0 nb nb nb c2i nb c2k N A2i A2k v x2 y2 q w.drew (hc.ext hd) (r1.ext hd) (r2.ext hd) (hne h) (fun _ => by simpa using e1) (fun _ => by simpa using e2) (Nat.le_refl _) (by omega) (by omega) (by omega) (by omega) (hq.ext hd) (fun j hj => by simpa using bx2 j hj) (fun j hj => by simpa using by2 j hj) hN).mono ?_
    rintro e w' ⟨he, hr, hm⟩
    refine ⟨he, fun _ => hr.congr fun j hj => ?_, (Mod.of hd).trans (hm.mono fun g hg => ⟨h, hg⟩)⟩
    unfold subk
    rw [if_pos (by omega)]
    simp
  · obtain rfl : nb = 0 := by omega
    refine (fsubtract_0 gf c2i 0 c2k A2i A2k v q N w.drew (hq.ext hd)).mono ?_
    rintro e w' ⟨he, hx⟩
    exact ⟨he, fun h0 => absurd h0 (by omega), (Mod.of hd).trans (Mod.of hx)⟩
set_option maxRecDepth 100000 in
set_option maxHeartbeats 6400000 in
theorem fclear_w (gf Ga Gb m cA cB i k col na nb bi bk b2i b2k c2i c2k N : Nat) (A2i A2k : Option Addr) (csA csB : Array Value) (x y x2 y2 : Nat → GQ) (w : World) (hc : CalmF w gf)
    (hA : Blk w Ga 37 csA) (hB : Blk w Gb 37 csB) (hai : csA[i]? = some (.slice (some ⟨bi, 0, none⟩) na na)) (hak : csA[k]? = some (.slice (some ⟨bk, 0, none⟩) na na)) (hbi : csB[i]? = some (.slice A2i nb c2i)) (hbk : csB[k]? = some (.slice A2k nb c2k))
    (him : i < m) (hkm : k < m) (hcol : col < na) (hm : m ≤ 1000) (hna : na ≤ 1000) (hnb : nb ≤ 1000)
    (hx : RowIs w bi na x) (hy : RowIs w bk na y) (h2i : 0 < nb → A2i = some ⟨b2i, 0, none⟩ ∧ RowIs w b2i nb x2) (h2k : 0 < nb → A2k = some ⟨b2k, 0, none⟩ ∧ RowIs w b2k nb y2)
    (hne : bi ≠ bk) (hne2 : 0 < nb → b2i ≠ b2k ∧ bi ≠ b2i ∧ bi ≠ b2k) (h0 : y col ≠ GQ.i 0 0)
    (bx : ∀ j, j < na → Bd (x j) N) (by_ : ∀ j, j < na → Bd (y j) N) (bx2 : ∀ j, j < nb → Bd (x2 j) N) (by2 : ∀ j, j < nb → Bd (y2 j) N) (bq : Bd (x col / y col) N) (hN : 4 * N + 67 ≤ 12800) :
    Calls Tryz.prog 58 #[.pointer (some ⟨gf, 0, none⟩), .slice (some ⟨Ga, 0, none⟩) m cA, .slice (some ⟨Gb, 0, none⟩) m cB, .int .i64 k, .int .i64 i, .int .i64 col] w fun e w' => e = .returned (.tuple #[]) ∧
      RowIs w' bi na (clrow x y (x col / y col) col) ∧ (0 < nb → RowIs w' b2i nb (fun j => x2 j - x col / y col * y2 j)) ∧ Mod (fun g => g = bi ∨ (0 < nb ∧ g = b2i)) w w' := by
  have HX := Lib.hid hx; have HY := Lib.hid hy; have HA := Lib.hid hA; have HB := Lib.hid hB; have HC := Lib.hid hc
  obtain ⟨f, hf, hv⟩ := hx
  obtain ⟨f2, hf2, hv2⟩ := hy
  have k1 : w.cell? ⟨Ga, i, none⟩ = some (.slice (some ⟨bi, 0, none⟩) na na) := (hA.cell i).trans hai
  have k2 : w.cell? ⟨Ga, k, none⟩ = some (.slice (some ⟨bk, 0, none⟩) na na) := (hA.cell k).trans hak
  obtain ⟨a0, a1, a2, a3, a4, a5⟩ := RowIs.cells hf hcol rfl
  have e0 := hc.cell
  have HV := Lib.hid ((hv col hcol).to (bx col hcol))
  have d1 : decide ((i : Int) < (m : Int)) = true := by simp; omega
  have d2 : decide ((k : Int) < (m : Int)) = true := by simp; omega
  have d3 : decide ((col : Int) < (na : Int)) = true := by simp; omega
  have HF := Lib.hid hf; have HF2 := Lib.hid hf2; have HHV := Lib.hid hv; have HHV2 := Lib.hid hv2
  have H2i := Lib.hid h2i; have H2k := Lib.hid h2k; have HBX := Lib.hid bx; have HBY := Lib.hid by_; have HBX2 := Lib.hid bx2; have HBY2 := Lib.hid by2; have HBQ := Lib.hid bq
  have HN2 := Lib.hid hne2
  clear hf hf2 hv hv2 h2i h2k bx by_ bx2 by2 bq hA hB hc hne2
  go_enter Tryz.func58, Tryz.ntmps58
  go_wp2_with fail
  refine (xZero_of _ _ _ _ HV.out (by omega)).mono ?_
  rintro e w1 ⟨rfl, hx1⟩
  replace k1 := hx1.cell_ k1; replace k2 := hx1.cell_ k2; replace a0 := hx1.cell_ a0; replace a1 := hx1.cell_ a1; replace a2 := hx1.cell_ a2; replace a3 := hx1.cell_ a3; replace a4 := hx1.cell_ a4; replace a5 := hx1.cell_ a5
  clear e0
  have e0 := (HC.out.ext hx1).cell
  by_cases hz : x col = GQ.i 0 0
  · rw [decide_eq_true hz]
    go_wp2_with fail
    refine bodyPost_ret (results_none rfl _ _ _) rfl ?_
    have e0' : x col / y col = GQ.i 0 0 := by rw [hz, GQ.zero_div']
    refine ⟨rfl, (HX.out.ext hx1).congr fun j hj => ?_, fun hb => ((H2i.out hb).2.ext hx1).congr fun j hj => ?_, Mod.of hx1⟩
    · unfold clrow
      rw [e0']
      by_cases h1 : j < col
      · rw [if_pos h1]
      · rw [if_neg h1]
        by_cases h2 : j = col
        · subst h2; rw [if_pos rfl, hz]
        · rw [if_neg h2, GQ.zero_mul', GQ.sub_zero']
    · rw [e0', GQ.zero_mul', GQ.sub_zero']
  · rw [decide_eq_false hz]
    go_wp2_with fail
    obtain ⟨b0, b1, b2, b3, b4, b5⟩ := RowIs.cells (HF2.out.ext hx1) hcol rfl
    have K1 := ExtOf.cell k1; have K2 := ExtOf.cell k2
    have A0 := ExtOf.cell a0; have A1 := ExtOf.cell a1; have A2 := ExtOf.cell a2; have A3 := ExtOf.cell a3; have A4 := ExtOf.cell a4; have A5 := ExtOf.cell a5
    have B0 := ExtOf.cell b0; have B1 := ExtOf.cell b1; have B2 := ExtOf.cell b2; have B3 := ExtOf.cell b3; have B4 := ExtOf.cell b4; have B5 := ExtOf.cell b5
    have HX1 := Lib.hid hx1
    clear a0 a1 a2 a3 a4 a5 b0 b1 b2 b3 b4 b5 k1 k2 e0 hx1
    have hdiv : ∀ w', Ext w1 w' → Calls Tryz.prog 78 #[.pointer (some ⟨gf, 0, none⟩), .agg #[.bool (f col).s1, .slice (f col).A1 (f col).n1 (f col).c1, .bool (f col).s2, .slice (f col).A2 (f col).n2 (f col).c2, .bool (f col).s3, .slice (f col).A3 (f col).n3 (f col).c3], .agg #[.bool (f2 col).s1, .slice (f2 col).A1 (f2 col).n1 (f2 col).c1, .bool (f2 col).s2, .slice (f2 col).A2 (f2 col).n2 (f2 col).c2, .bool (f2 col).s3, .slice (f2 col).A3 (f2 col).n3 (f2 col).c3]] w' fun e w'' => ∃ v, e = .returned v ∧ GV w'' v (x col / y col) N ∧ Ext w' w'' := fun w' xx =>
      (fdiv_ok gf _ _ (x col) (y col) N N w' ((HC.out.ext HX1.out).ext xx) ((HV.out.ext HX1.out).ext xx) ((((HHV2.out col hcol).to (HBY.out col hcol)).ext HX1.out).ext xx) h0 (by omega)).mono fun e w'' ⟨v, h1, h2, h3⟩ => ⟨v, h1, h2.to HBQ.out, h3⟩
    have HD := Lib.hid hdiv; clear hdiv
    refine wp_region_ordF 17 16 [(true, 0), (true, 1), (true, 2), (true, 3), (true, 4), (true, 5), (true, 6), (true, 7), (true, 8), (true, 9), (true, 10), (true, 11), (true, 12), (true, 13), (true, 14), (false, 15)] [] (fun a a' w' => ∃ (gb : Nat) (r1 : Bool) (D1 : Option Addr) (p1 q1 : Nat) (r2 : Bool) (D2 : Option Addr) (p2 q2 : Nat) (r3 : Bool) (D3 : Option Addr) (p3 q3 : Nat), a' = (((((((((((((((((a.put (some 28) (.pointer (some ⟨gf, 0, none⟩))).put (some 29) (.slice (some ⟨Ga, 0, none⟩) m cA)).put (some 30) (.int .i64 i)).put (some 31) (.pointer (some ⟨Ga, i, none⟩))).put (some 32) (.slice (some ⟨bi, 0, none⟩) na na)).put (some 33) (.int .i64 col)).put (some 34) (.pointer (some ⟨bi, col * 6, none⟩))).put (some 35) (.agg #[.bool (f col).s1, .slice (f col).A1 (f col).n1 (f col).c1, .bool (f col).s2, .slice (f col).A2 (f col).n2 (f col).c2, .bool (f col).s3, .slice (f col).A3 (f col).n3 (f col).c3])).put (some 36) (.slice (some ⟨Ga, 0, none⟩) m cA)).put (some 37) (.int .i64 k)).put (some 38) (.pointer (some ⟨Ga, k, none⟩))).put (some 39) (.slice (some ⟨bk, 0, none⟩) na na)).put (some 40) (.int .i64 col)).put (some 41) (.pointer (some ⟨bk, col * 6, none⟩))).put (some 42) (.agg #[.bool (f2 col).s1, .slice (f2 col).A1 (f2 col).n1 (f2 col).c1, .bool (f2 col).s2, .slice (f2 col).A2 (f2 col).n2 (f2 col).c2, .bool (f2 col).s3, .slice (f2 col).A3 (f2 col).n3 (f2 col).c3])).put (some 43) ((gv r1 D1 p1 q1 r2 D2 p2 q2 r3 D3 p3 q3))).put (some 12) (.pointer (some ⟨gb, 0, none⟩))) ∧ GV w' (gv r1 D1 p1 q1 r2 D2 p2 q2 r3 D3 p3 q3) (x col / y col) N ∧ Blk w' gb 32 #[.bool false, .slice none 0 0, .bool false, .slice none 0 0, .bool false, .slice none 0 0] ∧ Ext w1 w' ∧ w1.heap.size ≤ gb) (by kernel_rfl) (by kernel_rfl) ?_ ?_
    ·
      have hB_ : Ext w1 w1.drew := (Ext.refl _).drew
      generalize w1.drew = w6 at *
      refine wpOrdF_quiet [0, 1, 2, 3, 4, 5, 6, 7, 8, 9, 10, 11, 12, 13, 14] [(false, 15)] _ (by kernel_rfl) ?_
      simp only [nthOps, nthOp, List.cons_append, List.nil_append]
      repeat (go_big_quiet_step (fail))
      refine wpQuiet_nil ?_
      refine wpOrdF_act 15 [] (by kernel_rfl) (by kernel_rfl) ?_ ?_
      ·
        intro K hK
        simp only [nthOp]
        go_wp2_with fail
        refine (HD.out _ hB_).mono ?_
        rintro e w7 ⟨v_, rfl, hO, hx_⟩
        replace hB_ := hB_.trans hx_
        obtain ⟨r1, D1, p1, q1, r2, D2, p2, q2, r3, D3, p3, q3, rfl⟩ := hO.opn
        have HO := Lib.hid hO; clear hO
        go_wp2
        refine hK _ _ ⟨⟨w7, hB_⟩, rfl⟩ ?_
        clear hK K hx_
        refine wpOrdF_end (by kernel_rfl) ?_
        intro K hK
        simp only [nthOp]
        go_wp2_with fail
        have hx_ := Ext.new w7 (.cells #[.bool false, .slice none 0 0, .bool false, .slice none 0 0, .bool false, .slice none 0 0] 32)
        have bb_ : Blk (w7.alloc (.cells #[.bool false, .slice none 0 0, .bool false, .slice none 0 0, .bool false, .slice none 0 0] 32)) w7.heap.size 32 #[.bool false, .slice none 0 0, .bool false, .slice none 0 0, .bool false, .slice none 0 0] := Blk.new _ _ _
        have hgb : w1.heap.size ≤ w7.heap.size := hB_.size
        replace hB_ := hB_.trans hx_
        have HO2 := Lib.hid (HO.out.ext hx_)
        refine hK _ _ ⟨⟨_, hB_⟩, rfl⟩ ?_
        exact ⟨_, r1, D1, p1, q1, r2, D2, p2, q2, r3, D3, p3, q3, by simp only [Act.put, sa0, sa1, sa2], HO2.out, bb_, hB_, hgb⟩
      ·
        intro K hK
        simp only [nthOp]
        go_wp2_with fail
        have hx_ := Ext.new w6 (.cells #[.bool false, .slice none 0 0, .bool false, .slice none 0 0, .bool false, .slice none 0 0] 32)
        have bb_ : Blk (w6.alloc (.cells #[.bool false, .slice none 0 0, .bool false, .slice none 0 0, .bool false, .slice none 0 0] 32)) w6.heap.size 32 #[.bool false, .slice none 0 0, .bool false, .slice none 0 0, .bool false, .slice none 0 0] := Blk.new _ _ _
        have hgb : w1.heap.size ≤ w6.heap.size := hB_.size
        replace hB_ := hB_.trans hx_
        refine hK _ _ ⟨⟨_, hB_⟩, rfl⟩ ?_
        clear hK K hx_
        generalize w6.alloc (.cells #[.bool false, .slice none 0 0, .bool false, .slice none 0 0, .bool false, .slice none 0 0] 32) = w12 at *
        generalize w6.heap.size = gb at *
        refine wpOrdT_act 15 [] (by kernel_rfl) ?_
        intro K hK
        simp only [nthOp]
        go_wp2_with fail
        refine (HD.out _ hB_).mono ?_
        rintro e w7 ⟨v_, rfl, hO, hx_⟩
        replace hB_ := hB_.trans hx_
        replace bb_ := bb_.ext hx_
        obtain ⟨r1, D1, p1, q1, r2, D2, p2, q2, r3, D3, p3, q3, rfl⟩ := hO.opn
        have HO := Lib.hid hO; clear hO
        go_wp2
        refine hK _ _ ⟨⟨w7, hB_⟩, rfl⟩ ?_
        clear hK K hx_
        exact ⟨_, r1, D1, p1, q1, r2, D2, p2, q2, r3, D3, p3, q3, by simp only [Act.put, sa0, sa1, sa2], HO.out, bb_, hB_, hgb⟩
    rintro a' w8 ⟨gb, r1, D1, p1, q1, r2, D2, p2, q2, r3, D3, p3, q3, rfl, hQ, hbb, hx8, hgb⟩
    clear K1 K2 A0 A1 A2 A3 A4 A5 B0 B1 B2 B3 B4 B5
    simp only [Act.put, List.setIfInBounds_toArray, List.set_cons_succ, List.set_cons_zero, List.drop_succ_cons, List.drop_zero]
    have HX8 := Lib.hid (HX1.out.trans hx8)
    have k6 := hbb.cell; have f6 := hbb.frozen
    obtain ⟨z1, z2, z3⟩ := put_gauss hx8 hgb hbb hQ
    have Z1 := Lib.hid (HX1.out.trans z1); have Z2 := Lib.hid z2; have Z3 := Lib.hid z3
    clear z1 z2 z3 hx8 hbb hQ
    have hgb0 : w.heap.size ≤ gb := Nat.le_trans HX1.out.size hgb
    clear HX8
    go_wp2_with fail
    generalize hW9 : World.setCell _ _ _ = w9 at Z1 Z2 Z3 ⊢
    clear hW9 k6 f6 hgb
    -- region 2: the entry becomes 0
    have K1 := ExtOf.cell (((HA.out.ext Z1.out).cell i).trans hai)
    have HZF := Lib.hid (fzero_ok gf w9.drew (HC.out.ext Z1.out.drew))
    refine wp_region_ordE 7 [(true, 0), (true, 1), (true, 2), (true, 3), (true, 4), (true, 5), (false, 6)] (by kernel_rfl) (by kernel_rfl) ?_
    refine wpOrdT_quiet [0, 1, 2, 3, 4, 5] [(false, 6)] _ (by kernel_rfl) ?_
    simp only [nthOps, nthOp, List.cons_append, List.nil_append]
    repeat (go_big_quiet_step (fail))
    refine wpQuiet_nil ?_
    refine wpOrdT_act 6 [] (by kernel_rfl) ?_
    intro K hK
    simp only [nthOp]
    go_wp2_with fail
    refine HZF.out.mono ?_
    rintro e w10 ⟨v10, rfl, hv10, hx10⟩
    obtain ⟨t1, B1, m1, o1, t2, B2, m2, o2, t3, B3, m3, o3, rfl⟩ := hv10.opn
    have HX10 := Lib.hid hx10.undrew; have HV10 := Lib.hid hv10
    clear hx10 hv10 HZF
    go_wp2
    refine hK _ _ ⟨⟨w10, HX10.out⟩, rfl⟩ ?_
    clear hK K K1
    simp only [wpOrdT, List.drop_succ_cons, List.drop_zero]
    have HE10 := Lib.hid (Z1.out.trans HX10.out)
    have HF10 := Lib.hid (HF.out.ext HE10.out)
    obtain ⟨a0, a1, a2, a3, a4, a5⟩ := RowIs.cells HF10.out hcol rfl
    have f5 := HF10.out.frozen
    go_wp2_with fail
    clear a0 a1 a2 a3 a4 a5 f5
    have hp := RowIs.put (e := ⟨t1, B1, m1, o1, t2, B2, m2, o2, t3, B3, m3, o3⟩) HF10.out (fun j hj => (HHV.out j hj).ext HE10.out) (j := col) hcol (HV10.out.up (by omega))
    have HR11 := Lib.hid (show RowIs (puts w10 bi (col * 6) [.bool t1, .slice B1 m1 o1, .bool t2, .slice B2 m2 o2, .bool t3, .slice B3 m3 o3]) bi na (upd x col (GQ.i 0 0)) from hp.1); have HM11 := Lib.hid (show Mod (fun g => g = bi) w10 (puts w10 bi (col * 6) [.bool t1, .slice B1 m1 o1, .bool t2, .slice B2 m2 o2, .bool t3, .slice B3 m3 o3]) from hp.2)
    clear hp
    show Code.wp _ _ _ _ (puts w10 bi (col * 6) [.bool t1, .slice B1 m1 o1, .bool t2, .slice B2 m2 o2, .bool t3, .slice B3 m3 o3])
    generalize (puts w10 bi (col * 6) [.bool t1, .slice B1 m1 o1, .bool t2, .slice B2 m2 o2, .bool t3, .slice B3 m3 o3]) = w11 at HR11 HM11 ⊢
    have hfar := HX.out.far
    have hM0 : Mod (fun g => g = bi) w w11 := (Mod.of HE10.out).trans HM11.out
    have hbl := HF.out.lt
    have HA11 := Lib.hid (HA.out.mod hM0 (HA.out.ne_t HF.out (by decide)))
    have HB11 := Lib.hid (HB.out.mod hM0 (HB.out.ne_t HF.out (by decide)))
    have HC11 := Lib.hid (Blk.mod HC.out hM0 (HC.out.ne HX.out))
    have HY11 := Lib.hid (HY.out.mod hM0 hfar (by exact fun e => hne e.symm))
    have hfar10 : Far (fun g => g = bi) w10 := fun g hg _ => by subst hg; exact ⟨_, _, HF10.out, rowc_noint _ _⟩
    have HG11 := Lib.hid ((Z2.out.ext HX10.out).mod HM11.out (by exact fun e => by omega))
    have HQ11 := Lib.hid ((Z3.out.ext HX10.out).mod HM11.out hfar10)
    have HM0 := Lib.hid hM0
    clear hM0 HM11 Z2 Z3 HV10 HF10 hfar10 HX10
    have K1 := ExtOf.cell ((HA11.out.cell i).trans hai); have K2 := ExtOf.cell ((HA11.out.cell k).trans hak); have B7 := ExtOf.blk HG11.out
    have s1 : (0 : Int) ≤ (col : Int) + 1 := by omega
    have s2 : (col : Int) + 1 ≤ (na : Int) := by omega
    refine wp_region_ordE 16 [(true, 0), (true, 1), (true, 2), (true, 3), (true, 4), (true, 5), (true, 6), (true, 7), (true, 8), (true, 9), (true, 10), (true, 11), (true, 12), (true, 13), (true, 14), (true, 15)] (by kernel_rfl) (by kernel_rfl) ?_
    refine wpOrdT_quiet [0, 1, 2, 3, 4, 5, 6, 7, 8, 9, 10, 11, 12, 13, 14, 15] [] _ (by kernel_rfl) ?_
    simp only [nthOps, nthOp, List.cons_append, List.nil_append]
    repeat (go_big_quiet_step (fail))
    refine wpQuiet_nil ?_
    clear K1 K2 B7 s1 s2
    simp only [wpOrdT, List.drop_succ_cons, List.drop_zero]
    have H77 : Hid (∀ (P1 P2 : Option Addr) (L C1 C2 : Nat), L = na - (col + 1) → (0 < L → P1 = some ⟨bi, (col + 1) * 6, none⟩) → (0 < L → P2 = some ⟨bk, (col + 1) * 6, none⟩) → Calls Tryz.prog 77 #[.pointer (some ⟨gf, 0, none⟩), .slice P1 L C1, .slice P2 L C2, (gv r1 D1 p1 q1 r2 D2 p2 q2 r3 D3 p3 q3)] w11.drew fun e w' => e = .returned (.tuple #[]) ∧ RowIs w' bi na (clrow x y (x col / y col) col) ∧ Mod (fun g => g = bi) w11 w') := by
      refine Lib.hid fun P1 P2 L C1 C2 hL h1 h2 => ?_
      have hd : Ext w11 w11.drew := (Ext.refl _).drew
      refine (fsubtract_w gf bi bk (col + 1) (col + 1) na na L C1 L C2 N P1 P2 _ (upd x col (GQ.i 0 0)) y (x col / y col) w11.drew (HC11.out.ext hd) (HR11.out.ext hd) (HY11.out.ext hd) hne h1 h2 (Nat.le_refl _) (by omega) (by omega) (by omega) (by omega) (HQ11.out.ext hd) ?_ (fun j hj => HBY.out _ (by omega)) hN).mono ?_
      · intro j hj
        rw [upd_ne (by omega)]
        exact HBX.out _ (by omega)
      · rintro e w' ⟨he, hr, hm⟩
        refine ⟨he, hr.congr fun j hj => ?_, (Mod.of hd).trans hm⟩
        unfold subk clrow
        by_cases hj1 : j < col
        · rw [if_neg (by omega), if_pos hj1, upd_ne (by omega)]
        · by_cases hj2 : j = col
          · subst hj2; rw [if_neg (by omega), if_neg (by omega), if_pos rfl, upd_same]
          · rw [if_pos (by omega), if_neg hj1, if_neg hj2, upd_ne hj2]
            congr 3; omega
    go_wp2_with fail
    all_goals
      refine (H77.out _ _ _ _ _ (by omega) (by intro h; first | (exact absurd h (by omega)) | exact rfl) (by intro h; first | (exact absurd h (by omega)) | exact rfl)).mono ?_
      rintro e w12 ⟨rfl, hr12, hm12⟩
      have HR12 := Lib.hid hr12; have HM12 := Lib.hid (HM0.out.trans hm12)
      clear hr12
      go_wp2_with fail
      have HB12 := Lib.hid (HB11.out.mod hm12 (HB11.out.ne_t (HR11.out.blk.choose_spec) (by decide)))
      have HC12 := Lib.hid (Blk.mod HC11.out hm12 (CalmF.ne HC11.out HR11.out))
      have HG12 := Lib.hid (HG11.out.mod hm12 (by exact fun e => by omega))
      have HQ12 := Lib.hid (HQ11.out.mod hm12 HR11.out.far)
      have K1 := ExtOf.cell ((HB12.out.cell i).trans hbi); have K2 := ExtOf.cell ((HB12.out.cell k).trans hbk); have B7 := ExtOf.blk HG12.out
      have HS := Lib.hid (fclear_b gf b2i b2k nb c2i c2k N A2i A2k _ x2 y2 (x _ / y _) w12 HC12.out HQ12.out (fun hb => ⟨(H2i.out hb).1, (H2i.out hb).2.mod HM12.out hfar (by exact fun e => (HN2.out hb).2.1 e.symm)⟩) (fun hb => ⟨(H2k.out hb).1, (H2k.out hb).2.mod HM12.out hfar (by exact fun e => (HN2.out hb).2.2 e.symm)⟩) (fun hb => (HN2.out hb).1) hnb HBX2.out HBY2.out hN)
      clear HB11 HC11 HG11 HQ11 HB12 HC12 HG12 HQ12 H77 HR11
      refine wp_region_ordE 10 [(true, 0), (true, 1), (true, 2), (true, 3), (true, 4), (true, 5), (true, 6), (true, 7), (true, 8), (true, 9)] (by kernel_rfl) (by kernel_rfl) ?_
      refine wpOrdT_quiet [0, 1, 2, 3, 4, 5, 6, 7, 8, 9] [] _ (by kernel_rfl) ?_
      simp only [nthOps, nthOp, List.cons_append, List.nil_append]
      repeat (go_big_quiet_step (fail))
      refine wpQuiet_nil ?_
      clear K1 K2 B7
      simp only [wpOrdT, List.drop_succ_cons, List.drop_zero]
      go_wp2_with fail
      refine HS.out.mono ?_
      rintro e w13 ⟨rfl, hr13, hm13⟩
      have HR13 := Lib.hid hr13; have HM13 := Lib.hid hm13; clear hr13 hm13
      go_wp2_with fail
      refine bodyPost_end (results_none rfl _ _ _) rfl ?_
      refine ⟨rfl, ?_, HR13.out, (HM12.out.mono (fun g hg => .inl hg)).trans (HM13.out.mono (fun g hg => .inr hg))⟩
      refine HR12.out.mod HM13.out ?_ ?_
      · intro g hg _
        obtain ⟨hb, rfl⟩ := hg
        have hr := (H2i.out hb).2.mod HM12.out hfar (by exact fun e => (HN2.out hb).2.1 e.symm)
        obtain ⟨ff, hff, _⟩ := hr
        exact ⟨_, _, hff, rowc_noint _ _⟩
      · exact fun hg => (HN2.out hg.1).2.1 hg.2
end Go.Proofs.YtclkkoiaaddllaaGreat

namespace Go.Proofs.YtclkkoiaaddllaaGreat
open Go.RowKit
set_option linter.unusedVariables false

theorem bp_tmps2 {P : Program} {fn : Func} {R : Ending → World → Prop} {a : Act} {w : World} {t u : Nat} (hr : fn.results = #[.tmp t, .tmp u]) (hd : a.defers = []) (hR : R (.returned (.tuple #[a.tmps.getD t undef, a.tmps.getD u undef])) w) : bodyPost P fn R .ret a w :=
  bodyPost_ret (v := .tuple #[a.tmps.getD t undef, a.tmps.getD u undef]) (by simp [results, hr]) hd hR
end Go.Proofs.YtclkkoiaaddllaaGreat

namespace Go.Proofs.YtclkkoiaaddllaaGreat
open Go.RowKit
set_option linter.unusedVariables false

/-- The cells of a matrix: its rows' slices. -/
def mxc (m : Nat) (R : Nat → Rw) : List Value := (List.range m).map fun i => (R i).v
theorem mxc_len (m : Nat) (R : Nat → Rw) : (mxc m R).length = m := by simp [mxc]
theorem mxc_at {m : Nat} {R : Nat → Rw} {i : Nat} (hi : i < m) : (mxc m R).toArray[i]? = some (R i).v := by simp [mxc, hi]
/-- A matrix whose rows are blocks in P. -/
structure MxI (W : World) (G m n : Nat) (P : Nat → Prop) (R : Nat → Rw) (X : Nat → Nat → GQ) : Prop where
  out : Blk W G 37 (mxc m R).toArray
  len : ∀ i, i < m → (R i).n = n ∧ (R i).c = n
  row : ∀ i, i < m → 0 < n → (R i).A = some ⟨(R i).b, 0, none⟩ ∧ RowIs W (R i).b n (X i)
  inj : ∀ i j, i < m → j < m → 0 < n → (R i).b = (R j).b → i = j
  mem : ∀ i, i < m → 0 < n → P (R i).b
section
variable {W W' : World} {G m n : Nat} {P : Nat → Prop} {R : Nat → Rw} {X Y : Nat → Nat → GQ}
theorem MxI.ext (h : MxI W G m n P R X) (x : Ext W W') : MxI W' G m n P R X :=
  ⟨h.out.ext x, h.len, fun i hi hn => ⟨(h.row i hi hn).1, (h.row i hi hn).2.ext x⟩, h.inj, h.mem⟩
theorem MxI.congr (h : MxI W G m n P R X) (e : ∀ i j, i < m → j < n → X i j = Y i j) : MxI W G m n P R Y :=
  ⟨h.out, h.len, fun i hi hn => ⟨(h.row i hi hn).1, (h.row i hi hn).2.congr fun j hj => e i j hi hj⟩, h.inj, h.mem⟩
theorem MxI.v (h : MxI W G m n P R X) {i : Nat} (hi : i < m) (hn : 0 < n) : (R i).v = .slice (some ⟨(R i).b, 0, none⟩) n n := by
  unfold Rw.v; rw [(h.row i hi hn).1, (h.len i hi).1, (h.len i hi).2]
theorem MxI.v0 (h : MxI W G m n P R X) {i : Nat} (hi : i < m) : (R i).v = .slice (R i).A n n := by
  unfold Rw.v; rw [(h.len i hi).1, (h.len i hi).2]
theorem MxI.cell (h : MxI W G m n P R X) {i : Nat} (hi : i < m) : W.cell? ⟨G, i, none⟩ = some (.slice (R i).A n n) := by
  rw [h.out.cell, mxc_at hi, h.v0 hi]
/-- One row has changed, and blocks that are no rows. -/
theorem MxI.upd {S : Nat → Prop} {x : Nat → GQ} {i : Nat} (h : MxI W G m n P R X) (hm : Mod S W W') (hS : Far S W) (hG : ¬ S G) (ho : ∀ j, j < m → j ≠ i → 0 < n → ¬ S (R j).b) (hi : 0 < n → RowIs W' (R i).b n x) : MxI W' G m n P R (upd X i x) := by
  refine ⟨h.out.mod hm hG, h.len, fun j hj hn => ⟨(h.row j hj hn).1, ?_⟩, h.inj, h.mem⟩
  by_cases e : j = i
  · subst e; rw [upd_same]; exact hi hn
  · rw [upd_ne e]; exact (h.row j hj hn).2.mod hm hS (ho j hj e hn)
theorem MxI.mod {S : Nat → Prop} (h : MxI W G m n P R X) (hm : Mod S W W') (hS : Far S W) (hG : ¬ S G) (ho : ∀ j, j < m → 0 < n → ¬ S (R j).b) : MxI W' G m n P R X := by
  refine ⟨h.out.mod hm hG, h.len, fun j hj hn => ⟨(h.row j hj hn).1, ?_⟩, h.inj, h.mem⟩
  exact (h.row j hj hn).2.mod hm hS (ho j hj hn)
theorem noInt_slices (m : Nat) (R : Nat → Rw) : noIntB (mxc m R).toArray = true := by
  unfold noIntB
  simp only [List.all_eq_true]
  intro v hv
  unfold mxc at hv
  obtain ⟨j, _, rfl⟩ := List.mem_map.1 hv
  rfl
theorem mxc_swap {k r : Nat} (hk : k < m) (hr : r < m) : (((mxc m R).toArray.setIfInBounds k (R r).v).setIfInBounds r (R k).v) = (mxc m fun i => R (swp k r i)).toArray := by
  apply Array.ext
  · simp [mxc]
  · intro i h1 h2
    simp only [mxc, List.setIfInBounds_toArray, List.getElem_toArray, List.getElem_set, List.getElem_map, List.getElem_range]
    by_cases e1 : r = i
    · subst e1; rw [if_pos rfl, swp_r]
    · rw [if_neg e1]
      by_cases e2 : k = i
      · subst e2; rw [if_pos rfl, swp_k]
      · rw [if_neg e2, swp_ne (fun e => e2 e.symm) (fun e => e1 e.symm)]
/-- Two rows exchanged. -/
theorem MxI.swap {k r : Nat} (h : MxI W G m n P R X) (hk : k < m) (hr : r < m) :
    MxI ((W.setCell ⟨G, k, none⟩ (.slice (R r).A n n)).setCell ⟨G, r, none⟩ (.slice (R k).A n n)) G m n P (fun i => R (swp k r i)) (fun i => X (swp k r i)) ∧
      Mod (fun g => g = G) W ((W.setCell ⟨G, k, none⟩ (.slice (R r).A n n)).setCell ⟨G, r, none⟩ (.slice (R k).A n n)) := by
  have hm : Mod (fun g => g = G) W ((W.setCell ⟨G, k, none⟩ (.slice (R r).A n n)).setCell ⟨G, r, none⟩ (.slice (R k).A n n)) := Mod.only ((Only.set _ _ _ _).trans (Only.set _ _ _ _)) rfl
  have hS : Far (fun g => g = G) W := fun g hg _ => by subst hg; exact ⟨_, _, h.out, noInt_slices _ _⟩
  refine ⟨⟨?_, fun i hi => h.len _ (swp_lt hk hr hi), fun i hi hn => ?_, fun i j hi hj hn e => ?_, fun i hi hn => h.mem _ (swp_lt hk hr hi) hn⟩, hm⟩
  · have := (h.out.set_ k (R r).v).set_ r (R k).v
    rw [mxc_swap hk hr, h.v0 hk, h.v0 hr] at this
    exact this
  · obtain ⟨h1, h2⟩ := h.row _ (swp_lt hk hr hi) hn
    refine ⟨h1, h2.mod hm hS ?_⟩
    obtain ⟨f, hb, _⟩ := h2
    exact fun e => h.out.ne_t hb (by decide) e.symm
  · have := h.inj _ _ (swp_lt hk hr hi) (swp_lt hk hr hj) hn e
    rw [← swp_inv k r i, this, swp_inv]
end
theorem ech_stop {m : Nat} {Z : Nat → Nat → GQ} {c : Nat} (h : (ech m Z c).r = m) : ∀ d, c ≤ d → ech m Z d = ech m Z c
  | 0, hd => by obtain rfl : c = 0 := by omega
                rfl
  | d + 1, hd => by
    by_cases e : c = d + 1
    · subst e; rfl
    · have ih := ech_stop h d (by omega)
      show estep m d (ech m Z d) = _
      rw [ih]
      apply estep_none
      rw [h, Nat.sub_self]; rfl
end Go.Proofs.YtclkkoiaaddllaaGreat

namespace Go.Proofs.YtclkkoiaaddllaaGreat
open Go.RowKit
set_option linter.unusedVariables false

theorem MxI.ne {W : World} {G m n : Nat} {P : Nat → Prop} {R : Nat → Rw} {X : Nat → Nat → GQ} (h : MxI W G m n P R X) {i g : Nat} {cs : Array Value} (hi : i < m) (hn : 0 < n) (hb : Blk W g 37 cs) : (R i).b ≠ g := by
  obtain ⟨_, f, hf, _⟩ := h.row i hi hn
  exact hf.ne_t hb (by decide)
/-- Rows of two matrices side by side. -/
def side (na : Nat) (X Y : Nat → Nat → GQ) : Nat → Nat → GQ := fun i j => if j < na then X i j else Y i (j - na)
/-- The row i less the multiple of row r that leaves 0 in column c. -/
def elm (X : Nat → Nat → GQ) (r c i : Nat) : Nat → Nat → GQ := upd X i (fun j => X i j - X i c / X r c * X r j)
/-- Rows r + 1 to i - 1 are cleared. -/
def clru (X : Nat → Nat → GQ) (r c i : Nat) : Nat → Nat → GQ := fun i' j => if r < i' ∧ i' < i then X i' j - X i' c / X r c * X r j else X i' j
theorem clru_start (X : Nat → Nat → GQ) (r c : Nat) : clru X r c (r + 1) = X := by
  funext i j; unfold clru; rw [if_neg (by omega)]
/-- What echelon leaves in memory. -/
structure EI (W : World) (gf Ga Gb m na nb : Nat) (PA PB : Nat → Prop) (Z : Nat → Nat → GQ) : Prop where
  calm : CalmF W gf
  a : ∃ R, MxI W Ga m na PA R Z
  b : ∃ R, MxI W Gb m nb PB R (fun i j => Z i (na + j))
/-- The sizes that elimination meets. -/
def Room (N m na nb : Nat) (Z : Nat → Nat → GQ) : Prop := ∀ c, c < na → (ech m Z c).r + 1 < m → (∀ i j, (ech m Z c).r ≤ i → i < m → j < na + nb → Bd ((ech m Z c).X i j) N) ∧
  ∀ i k, (ech m Z c).r ≤ i → i < m → (ech m Z c).r ≤ k → k < m → (ech m Z c).X k c ≠ GQ.i 0 0 → Bd ((ech m Z c).X i c / (ech m Z c).X k c) N
theorem EI.ext {W W' : World} {gf Ga Gb m na nb : Nat} {PA PB : Nat → Prop} {Z : Nat → Nat → GQ} (h : EI W gf Ga Gb m na nb PA PB Z) (x : Ext W W') : EI W' gf Ga Gb m na nb PA PB Z := by
  obtain ⟨h1, ⟨R, h2⟩, ⟨R2, h3⟩⟩ := h
  exact ⟨h1.ext x, ⟨R, h2.ext x⟩, ⟨R2, h3.ext x⟩⟩
theorem EI.congr {W : World} {gf Ga Gb m na nb : Nat} {PA PB : Nat → Prop} {Z Z' : Nat → Nat → GQ} (h : EI W gf Ga Gb m na nb PA PB Z) (e : ∀ i j, i < m → Z i j = Z' i j) : EI W gf Ga Gb m na nb PA PB Z' := by
  obtain ⟨h1, ⟨R, h2⟩, ⟨R2, h3⟩⟩ := h
  exact ⟨h1, ⟨R, h2.congr fun i j hi _ => e i j hi⟩, ⟨R2, h3.congr fun i j hi _ => e i _ hi⟩⟩
theorem clru_succ (X : Nat → Nat → GQ) {r c i : Nat} (hi : r < i) : elm (clru X r c i) r c i = clru X r c (i + 1) := by
  funext i' j
  unfold elm upd
  by_cases e : i' = i
  · subst e
    rw [if_pos rfl]
    unfold clru
    rw [if_neg (by omega), if_neg (by omega), if_neg (by omega), if_neg (by omega), if_pos (by omega)]
  · rw [if_neg e]
    unfold clru
    by_cases h : r < i' ∧ i' < i
    · rw [if_pos h, if_pos (by omega)]
    · rw [if_neg h, if_neg (by omega)]
theorem fclear_e (gf Ga Gb m cA cB na nb r i c N : Nat) (PA PB T : Nat → Prop) (X : Nat → Nat → GQ) (w : World) (h : EI w gf Ga Gb m na nb PA PB X) (hd : ∀ g, PA g → PB g → False) (hT : T Ga ∧ T Gb ∧ (∀ g, PA g → T g) ∧ ∀ g, PB g → T g)
    (hi : i < m) (hri : r < i) (hc : c < na) (hm : m ≤ 24) (hna : na ≤ 24) (hnb : nb ≤ 24) (h0 : X r c ≠ GQ.i 0 0) (hz : ∀ j, j < c → X r j = GQ.i 0 0) (bi : ∀ j, j < na + nb → Bd (X i j) N) (br : ∀ j, j < na + nb → Bd (X r j) N) (bq : Bd (X i c / X r c) N) (hN : 4 * N + 67 ≤ 12800) :
    Calls Tryz.prog 58 #[.pointer (some ⟨gf, 0, none⟩), .slice (some ⟨Ga, 0, none⟩) m cA, .slice (some ⟨Gb, 0, none⟩) m cB, .int .i64 r, .int .i64 i, .int .i64 c] w fun e w' => e = .returned (.tuple #[]) ∧ EI w' gf Ga Gb m na nb PA PB (elm X r c i) ∧ Mod T w w' := by
  obtain ⟨hcalm, ⟨R, hA⟩, ⟨R2, hB⟩⟩ := h
  have hr : r < m := by omega
  obtain ⟨ai, ri⟩ := hA.row i hi (by omega)
  obtain ⟨ar, rr⟩ := hA.row r hr (by omega)
  have hai : (mxc m R).toArray[i]? = some (.slice (some ⟨(R i).b, 0, none⟩) na na) := by rw [mxc_at hi, hA.v hi (by omega)]
  have har : (mxc m R).toArray[r]? = some (.slice (some ⟨(R r).b, 0, none⟩) na na) := by rw [mxc_at hr, hA.v hr (by omega)]
  have hbi : (mxc m R2).toArray[i]? = some (.slice (R2 i).A nb nb) := by rw [mxc_at hi, hB.v0 hi]
  have hbr : (mxc m R2).toArray[r]? = some (.slice (R2 r).A nb nb) := by rw [mxc_at hr, hB.v0 hr]
  have hne : (R i).b ≠ (R r).b := fun e => by have := hA.inj i r hi hr (by omega) e; omega
  refine (fclear_w gf Ga Gb m cA cB i r c na nb (R i).b (R r).b (R2 i).b (R2 r).b nb nb N (R2 i).A (R2 r).A _ _ (X i) (X r) (fun j => X i (na + j)) (fun j => X r (na + j)) w hcalm hA.out hB.out hai har hbi hbr hi hr hc (by omega) (by omega) (by omega) ri rr
    (fun hn => hB.row i hi hn) (fun hn => hB.row r hr hn) hne (fun hn => ⟨fun e => by have := hB.inj i r hi hr hn e; omega, fun e => hd _ (hA.mem i hi (by omega)) (e ▸ hB.mem i hi hn), fun e => hd _ (hA.mem i hi (by omega)) (e ▸ hB.mem r hr hn)⟩)
    h0 (fun j hj => bi j (by omega)) (fun j hj => br j (by omega)) (fun j hj => bi _ (by omega)) (fun j hj => br _ (by omega)) bq hN).mono ?_
  rintro e w' ⟨he, h1, h2, hm'⟩
  have hfar : Far (fun g => g = (R i).b ∨ 0 < nb ∧ g = (R2 i).b) w := by
    rintro g (rfl | ⟨hn, rfl⟩) _
    · obtain ⟨f, hf, _⟩ := ri; exact ⟨_, _, hf, rowc_noint _ _⟩
    · obtain ⟨f, hf, _⟩ := (hB.row i hi hn).2; exact ⟨_, _, hf, rowc_noint _ _⟩
  have nG : ∀ (G : Nat) (cs : Array Value), Blk w G 37 cs → ¬ (G = (R i).b ∨ 0 < nb ∧ G = (R2 i).b) := by
    rintro G cs hG (e | ⟨hn, e⟩)
    · exact hA.ne hi (by omega) hG e.symm
    · exact hB.ne hi hn hG e.symm
  refine ⟨he, ⟨?_, ⟨R, ?_⟩, ⟨R2, ?_⟩⟩, hm'.mono ?_⟩
  · refine Blk.mod hcalm hm' ?_
    rintro (e | ⟨hn, e⟩)
    · exact CalmF.ne hcalm ri e
    · exact CalmF.ne hcalm (hB.row i hi hn).2 e
  · refine (hA.upd (i := i) (x := clrow (X i) (X r) (X i c / X r c) c) hm' hfar (nG _ _ hA.out) ?_ (fun _ => h1)).congr ?_
    · rintro j hj hji hn (e | ⟨hn2, e⟩)
      · exact hji (hA.inj j i hj hi hn e)
      · exact hd _ (hA.mem j hj hn) (e ▸ hB.mem i hi hn2)
    · intro i' j hi' hj
      unfold elm upd
      by_cases e : i' = i
      · rw [if_pos e, if_pos e]
        unfold clrow
        by_cases e1 : j < c
        · rw [if_pos e1, hz j e1, GQ.mul_zero', GQ.sub_zero']
        · rw [if_neg e1]
          by_cases e2 : j = c
          · subst e2; rw [if_pos rfl, GQ.div_cancel' h0, GQ.sub_self']
          · rw [if_neg e2]
      · rw [if_neg e, if_neg e]
  · refine (hB.upd (i := i) (x := fun j => X i (na + j) - X i c / X r c * X r (na + j)) hm' hfar (nG _ _ hB.out) ?_ (fun hn => h2 hn)).congr ?_
    · rintro j hj hji hn (e | ⟨hn2, e⟩)
      · exact hd _ (hA.mem i hi (by omega)) (e ▸ hB.mem j hj hn)
      · exact hji (hB.inj j i hj hi hn e)
    · intro i' j hi' hj
      unfold elm upd
      by_cases e : i' = i
      · rw [if_pos e, if_pos e]
      · rw [if_neg e, if_neg e]
  · rintro g (rfl | ⟨hn, rfl⟩)
    · exact hT.2.2.1 _ (hA.mem i hi (by omega))
    · exact hT.2.2.2 _ (hB.mem i hi hn)
end Go.Proofs.YtclkkoiaaddllaaGreat

namespace Go.Proofs.YtclkkoiaaddllaaGreat
open Go.RowKit
set_option linter.unusedVariables false

set_option maxRecDepth 100000 in
set_option maxHeartbeats 6400000 in
theorem fechelon_w (gf Ga Gb m cA cB na nb N : Nat) (PA PB T : Nat → Prop) (Z : Nat → Nat → GQ) (w : World) (h : EI w gf Ga Gb m na nb PA PB Z) (hab : Ga ≠ Gb) (hd : ∀ g, PA g → PB g → False) (hT : T Ga ∧ T Gb ∧ (∀ g, PA g → T g) ∧ ∀ g, PB g → T g)
    (hna0 : m = 0 → na = 0) (hm : m ≤ 24) (hna : na ≤ 24) (hnb : nb ≤ 24) (hN : 4 * N + 67 ≤ 12800) (hroom : Room N m na nb Z) (hw : ∀ w', Ext w w' → Calls Tryz.prog 34 #[.slice (some ⟨Ga, 0, none⟩) m cA] w' fun e w'' => e = .returned (.int .i64 na) ∧ Ext w' w'') :
    Calls Tryz.prog 30 #[.pointer (some ⟨gf, 0, none⟩), .slice (some ⟨Ga, 0, none⟩) m cA, .slice (some ⟨Gb, 0, none⟩) m cB] w fun e w' => e = .returned (.tuple #[.int .i64 (ech m Z na).r, .bool (ech m Z na).odd]) ∧
      EI w' gf Ga Gb m na nb PA PB (ech m Z na).X ∧ Mod T w w' := by
  have HH := Lib.hid h; have HR := Lib.hid hroom; have HT := Lib.hid hT; have HD := Lib.hid hd
  clear h hroom hT hd
  go_enter Tryz.func30, Tryz.ntmps30
  go_wp2_with fail
  go_step3
  go_wp2_with fail
  go_step3
  go_wp2_with fail
  refine (hw _ (Ext.refl _)).mono ?_
  rintro e w1 ⟨rfl, hx1⟩
  have HX1 := Lib.hid hx1; clear hx1 hw
  go_wp2_with fail
  go_loopw [6, 7, 13] (fun r o i wr => ∃ c : Nat, c ≤ na ∧ i = .int .i64 c ∧ r = .int .i64 (ech m Z c).r ∧ o = .bool (ech m Z c).odd ∧ EI wr gf Ga Gb m na nb PA PB (ech m Z c).X ∧ Mod T w wr) (fun _ _ i _ => na - (intOf i).toNat)
  case atStart => 
    obtain ⟨h1, ⟨R, h2⟩, ⟨R2, h3⟩⟩ := HH.out
    exact ⟨0, by omega, rfl, rfl, rfl, ⟨h1.ext HX1.out, ⟨R, h2.ext HX1.out⟩, ⟨R2, h3.ext HX1.out⟩⟩, Mod.of HX1.out⟩
  case round =>
    obtain ⟨c, hc, rfl, rfl, rfl, hEI, hmod⟩ := hrel
    have HE := Lib.hid hEI; have HM := Lib.hid hmod; clear hEI hmod HH HX1
    by_cases hlt : c < na
    · have hd : decide ((c : Int) < (na : Int)) = true := by simp; omega
      obtain ⟨o, P, hinv⟩ := ech_inv m Z c
      have hrm := hinv.rm
      have HZ := Lib.hid hinv.z
      clear hinv
      generalize hs : ech m Z c = s at *
      have HS := Lib.hid hs; clear hs
      by_cases hfull : s.r = m
      · have df : ((s.r : Int) == (m : Int)) = true := by simp [hfull]
        have hst : ech m Z na = s := by rw [← HS.out]; exact ech_stop (by rw [HS.out]; exact hfull) na (by omega)
        have HST := Lib.hid hst; clear hst hfull
        go_wp2_with fail
        rw [Exit.noGoto_ret]
        refine bp_tmps2 rfl rfl ?_
        rw [HST.out]
        exact ⟨rfl, HE.out, HM.out⟩
      · have df : ((s.r : Int) == (m : Int)) = false := by simp; omega
        have hrl : s.r < m := by omega
        clear hfull
        go_wp2_with fail
        go_loopw [9] (fun i w2 => ∃ k : Nat, s.r ≤ k ∧ k < m ∧ i = .int .i64 k ∧ (∀ i, s.r ≤ i → i < k → s.X i c = GQ.i 0 0) ∧ Ext wr w2) (fun i _ => m - (intOf i).toNat)
        case atStart => exact ⟨s.r, Nat.le_refl _, hrl, rfl, by intros; omega, Ext.refl _⟩
        case round =>
          clear hd df
          obtain ⟨k, hk1, hk2, rfl, hz, hx⟩ := hrel
          have HX := Lib.hid hx; have HZK := Lib.hid hz; clear hx hz
          obtain ⟨hcalm, ⟨R, hA⟩, ⟨R2, hB⟩⟩ := HE.out
          obtain ⟨hRA, f, hf, hv⟩ := hA.row k hk2 (by omega)
          have k1 := hA.cell hk2
          rw [hRA] at k1
          replace k1 := HX.out.cell_ k1
          obtain ⟨a0, a1, a2, a3, a4, a5⟩ := RowIs.cells (hf.ext HX.out) hlt rfl
          have d1 : decide ((k : Int) < (m : Int)) = true := by simp; omega
          have d2 : decide ((c : Int) < (na : Int)) = true := by simp; omega
          have HV := Lib.hid ((hv c hlt).ext HX.out)
          clear hv hf hcalm hA hB
          go_wp2_with fail
          refine (xZero_of _ _ _ _ HV.out (by omega)).mono ?_
          rintro e w3 ⟨rfl, hx3⟩
          have HX3 := Lib.hid (HX.out.trans hx3); clear hx3 k1 a0 a1 a2 a3 a4 a5
          by_cases h0 : s.X k c = GQ.i 0 0
          · rw [decide_eq_true h0]
            have HZ1 : Hid (∀ i, s.r ≤ i → i < k + 1 → s.X i c = GQ.i 0 0) := Lib.hid fun i h1 h2 => by
              by_cases e : i = k
              · subst e; exact h0
              · exact HZK.out i h1 (by omega)
            clear h0
            by_cases hlast : k + 1 = m
            · have dl : (((k : Int) + 1) == (m : Int)) = true := by simp; omega
              have hnx : ech m Z (c + 1) = s := by
                show estep m c (ech m Z c) = s
                rw [HS.out]
                exact estep_none (fp_none fun i h1 h2 => HZ1.out i h1 (by omega))
              have HNX := Lib.hid hnx; clear hnx
              go_wp2_with fail
              refine ⟨⟨c + 1, by omega, by go_num, by rw [HNX.out], by rw [HNX.out], ?_, HM.out.trans (Mod.of HX3.out)⟩, by simp [intOf]; omega⟩
              rw [HNX.out]
              obtain ⟨h1, ⟨R, h2⟩, ⟨R2, h3⟩⟩ := HE.out
              exact ⟨h1.ext HX3.out, ⟨R, h2.ext HX3.out⟩, ⟨R2, h3.ext HX3.out⟩⟩
            · have dl : (((k : Int) + 1) == (m : Int)) = false := by simp; omega
              go_wp2_with fail
              go_roundw
              case rel => exact ⟨k + 1, by omega, by omega, by go_num, HZ1.out, HX3.out⟩
              case measure => simp [intOf]; omega
          · rw [decide_eq_false h0]
            have hfp : ech m Z (c + 1) = ⟨s.r + 1, clr (fun i => s.X (swp k s.r i)) s.r c, s.odd ^^ decide (k ≠ s.r), c :: s.q⟩ := by
              show estep m c (ech m Z c) = _
              rw [HS.out]
              exact estep_some (fp_some hk1 (by omega) HZK.out h0)
            have HFP := Lib.hid hfp; clear hfp
            have HE3 : Hid (EI w3 gf Ga Gb m na nb PA PB s.X) := Lib.hid (by
              obtain ⟨h1, ⟨R, h2⟩, ⟨R2, h3⟩⟩ := HE.out
              exact ⟨h1.ext HX3.out, ⟨R, h2.ext HX3.out⟩, ⟨R2, h3.ext HX3.out⟩⟩)
            have HM3 := Lib.hid (HM.out.trans (Mod.of HX3.out))
            clear HE HM HX HX3 HZK hRA HV d1 d2
            have HNZ := Lib.hid h0
            have HKB := Lib.hid (And.intro hk1 hk2)
            have HSW : Hid (∀ i, s.r < i → i < m → s.r ≤ swp k s.r i ∧ swp k s.r i < m) := Lib.hid fun i h1 h2 => ⟨by unfold swp; split <;> (try split) <;> omega, swp_lt hk2 hrl h2⟩
            have HRM : Hid ((s.r + 1 < m → ∀ i j, s.r ≤ i → i < m → j < na + nb → Bd (s.X i j) N) ∧ (s.r + 1 < m → ∀ i k, s.r ≤ i → i < m → s.r ≤ k → k < m → s.X k c ≠ GQ.i 0 0 → Bd (s.X i c / s.X k c) N)) := Lib.hid (by
              have := HR.out c hlt
              rw [HS.out] at this
              exact ⟨fun h => (this h).1, fun h => (this h).2⟩)
            clear h0
            by_cases hkr : k = s.r
            · subst hkr
              have dne : ((s.r : Int) != (s.r : Int)) = false := by simp
              go_wp2_with fail
              have HE4 : Hid (EI w3 gf Ga Gb m na nb PA PB (fun i => s.X (swp s.r s.r i))) := Lib.hid (by
                have e : (fun i => s.X (swp s.r s.r i)) = s.X := by funext i; rw [swp_self]
                rw [e]; exact HE3.out)
              have HM4 := HM3
              clear HE3 HM3
              go_loopw [10] (fun i w2 => ∃ i' : Nat, s.r + 1 ≤ i' ∧ i' ≤ m ∧ i = .int .i64 i' ∧ EI w2 gf Ga Gb m na nb PA PB (clru (fun i => s.X (swp s.r s.r i)) s.r c i') ∧ Mod T w w2) (fun i _ => m - (intOf i).toNat)
              case atStart =>
                refine ⟨s.r + 1, Nat.le_refl _, by omega, by go_num, ?_, ?_⟩
                · rw [clru_start]; first | exact HE4.out | exact HE4.out.ext (Ext.refl _).drew | exact HE4.out.ext (Ext.refl _).drew.drew
                · first | exact HM4.out | exact HM4.out.trans (Mod.of (Ext.refl _).drew) | exact HM4.out.trans (Mod.of (Ext.refl _).drew.drew)
              case round =>
                obtain ⟨i', hi1, hi2, rfl, hE, hM⟩ := hrel
                have HEL := Lib.hid hE; have HML := Lib.hid hM; clear hE hM
                by_cases hil : i' < m
                · have q1 : decide ((i' : Int) < (m : Int)) = true := by simp; omega
                  go_wp2_with fail
                  refine (fclear_e gf Ga Gb m cA cB na nb s.r i' c N PA PB T (clru (fun i => s.X (swp s.r s.r i)) s.r c i') _ HEL.out HD.out HT.out hil (by omega) hlt hm hna hnb ?_ ?_ ?_ ?_ ?_ hN).mono ?_
                  · unfold clru; rw [if_neg (by omega)]; simp only [swp_r]; exact HNZ.out
                  · intro j hj
                    unfold clru; rw [if_neg (by omega)]; simp only [swp_r]; exact HZ.out _ _ HKB.out.1 HKB.out.2 hj
                  · intro j hj
                    unfold clru; rw [if_neg (by omega)]
                    exact HRM.out.1 (by omega) _ _ (HSW.out i' (by omega) hil).1 (HSW.out i' (by omega) hil).2 hj
                  · intro j hj
                    unfold clru; rw [if_neg (by omega)]; simp only [swp_r]
                    exact HRM.out.1 (by omega) _ _ HKB.out.1 HKB.out.2 hj
                  · unfold clru; rw [if_neg (by omega), if_neg (by omega)]; simp only [swp_r]
                    exact HRM.out.2 (by omega) _ _ (HSW.out i' (by omega) hil).1 (HSW.out i' (by omega) hil).2 HKB.out.1 HKB.out.2 HNZ.out
                  rintro e w7 ⟨rfl, hE7, hM7⟩
                  have HE7 := Lib.hid hE7; have HM7 := Lib.hid (HML.out.trans hM7)
                  clear hE7 hM7 HEL HML
                  go_wp2_with fail
                  go_roundw
                  case rel =>
                    refine ⟨i' + 1, by omega, by omega, by go_num, ?_, HM7.out⟩
                    rw [← clru_succ _ (by omega)]; exact HE7.out
                  case measure => simp [intOf]; omega
                · obtain rfl : i' = m := by omega
                  have q1 : decide ((i' : Int) < (i' : Int)) = false := by simp
                  have e0 := HEL.out.calm.cell
                  go_wp2_with fail
                  refine ⟨⟨c + 1, by omega, by go_num, by rw [HFP.out]; go_num, by rw [HFP.out]; simp, ?_, HML.out⟩, by simp [intOf]; omega⟩
                  rw [HFP.out]
                  refine HEL.out.congr fun i j hi => ?_
                  show clru (fun i => s.X (swp s.r s.r i)) s.r c i' i j = clr (fun i => s.X (swp s.r s.r i)) s.r c i j
                  unfold clru clr
                  by_cases h : s.r < i
                  · rw [if_pos ⟨h, hi⟩, if_pos h]
                  · rw [if_neg (fun e => h e.1), if_neg h]
            · have dne : ((k : Int) != (s.r : Int)) = true := by simp; omega
              obtain ⟨hcalm, ⟨R, hA⟩, ⟨R2, hB⟩⟩ := HE3.out
              have HA := Lib.hid hA; have HB := Lib.hid hB; have HC := Lib.hid hcalm
              have k1 := hA.cell hk2; have k2 := hA.cell hrl
              have f1 := hA.out.frozen
              clear hA hB hcalm
              have q1 : decide ((k : Int) < (m : Int)) = true := by simp; omega
              have q2 : decide ((s.r : Int) < (m : Int)) = true := by simp; omega
              go_wp2_with fail
              go_region
              obtain ⟨hA2, hmA⟩ := HA.out.swap hk2 hrl
              have hfarA : Far (fun g => g = Ga) w3 := fun g hg _ => by subst hg; exact ⟨_, _, HA.out.out, noInt_slices _ _⟩
              have hB2 := HB.out.mod hmA hfarA (by exact fun e => hab e.symm) (fun j hj hn => HB.out.ne hj hn HA.out.out)
              have hC2 : CalmF _ gf := Blk.mod HC.out hmA (by exact fun e => HC.out.ne_t HA.out.out (by decide) e)
              have HA2 := Lib.hid hA2; have HB2 := Lib.hid hB2; have HC2 := Lib.hid hC2; have HMA := Lib.hid hmA
              clear hA2 hB2 hC2 hmA hfarA k1 k2 f1
              generalize hW4 : World.setCell _ _ _ = w4 at HA2 HB2 HC2 HMA ⊢
              clear hW4
              have k1 := HB2.out.cell hk2; have k2 := HB2.out.cell hrl
              have f1 := HB2.out.out.frozen
              go_wp2_with fail
              go_region
              obtain ⟨hB3, hmB⟩ := HB2.out.swap hk2 hrl
              have hfarB : Far (fun g => g = Gb) w4 := fun g hg _ => by subst hg; exact ⟨_, _, HB2.out.out, noInt_slices _ _⟩
              have hA3 := HA2.out.mod hmB hfarB (by exact hab) (fun j hj hn => HA2.out.ne hj hn HB2.out.out)
              have hC3 : CalmF _ gf := Blk.mod HC2.out hmB (by exact fun e => HC2.out.ne_t HB2.out.out (by decide) e)
              have HE4' := Lib.hid (EI.mk hC3 ⟨_, hA3⟩ ⟨_, hB3⟩)
              have HM4 := Lib.hid ((HM3.out.trans (HMA.out.mono (T := T) (fun g hg => by subst hg; exact HT.out.1))).trans (hmB.mono (T := T) (fun g hg => by subst hg; exact HT.out.2.1)))
              clear hB3 hmB hfarB hA3 hC3 HA2 HB2 HC2 HMA HA HB HC HM3 HE3 k1 k2 f1
              generalize hW5 : World.setCell _ _ _ = w5 at HE4' HM4 ⊢
              clear hW5
              have HE4 : Hid (EI w5 gf Ga Gb m na nb PA PB (fun i => s.X (swp k s.r i))) := Lib.hid HE4'.out
              clear HE4'
              go_wp2_with fail
              go_loopw [10] (fun i w2 => ∃ i' : Nat, s.r + 1 ≤ i' ∧ i' ≤ m ∧ i = .int .i64 i' ∧ EI w2 gf Ga Gb m na nb PA PB (clru (fun i => s.X (swp k s.r i)) s.r c i') ∧ Mod T w w2) (fun i _ => m - (intOf i).toNat)
              case atStart =>
                refine ⟨s.r + 1, Nat.le_refl _, by omega, by go_num, ?_, ?_⟩
                · rw [clru_start]; first | exact HE4.out | exact HE4.out.ext (Ext.refl _).drew | exact HE4.out.ext (Ext.refl _).drew.drew
                · first | exact HM4.out | exact HM4.out.trans (Mod.of (Ext.refl _).drew) | exact HM4.out.trans (Mod.of (Ext.refl _).drew.drew)
              case round =>
                obtain ⟨i', hi1, hi2, rfl, hE, hM⟩ := hrel
                have HEL := Lib.hid hE; have HML := Lib.hid hM; clear hE hM
                by_cases hil : i' < m
                · have q1 : decide ((i' : Int) < (m : Int)) = true := by simp; omega
                  go_wp2_with fail
                  refine (fclear_e gf Ga Gb m cA cB na nb s.r i' c N PA PB T (clru (fun i => s.X (swp k s.r i)) s.r c i') _ HEL.out HD.out HT.out hil (by omega) hlt hm hna hnb ?_ ?_ ?_ ?_ ?_ hN).mono ?_
                  · unfold clru; rw [if_neg (by omega)]; simp only [swp_r]; exact HNZ.out
                  · intro j hj
                    unfold clru; rw [if_neg (by omega)]; simp only [swp_r]; exact HZ.out _ _ HKB.out.1 HKB.out.2 hj
                  · intro j hj
                    unfold clru; rw [if_neg (by omega)]
                    exact HRM.out.1 (by omega) _ _ (HSW.out i' (by omega) hil).1 (HSW.out i' (by omega) hil).2 hj
                  · intro j hj
                    unfold clru; rw [if_neg (by omega)]; simp only [swp_r]
                    exact HRM.out.1 (by omega) _ _ HKB.out.1 HKB.out.2 hj
                  · unfold clru; rw [if_neg (by omega), if_neg (by omega)]; simp only [swp_r]
                    exact HRM.out.2 (by omega) _ _ (HSW.out i' (by omega) hil).1 (HSW.out i' (by omega) hil).2 HKB.out.1 HKB.out.2 HNZ.out
                  rintro e w7 ⟨rfl, hE7, hM7⟩
                  have HE7 := Lib.hid hE7; have HM7 := Lib.hid (HML.out.trans hM7)
                  clear hE7 hM7 HEL HML
                  go_wp2_with fail
                  go_roundw
                  case rel =>
                    refine ⟨i' + 1, by omega, by omega, by go_num, ?_, HM7.out⟩
                    rw [← clru_succ _ (by omega)]; exact HE7.out
                  case measure => simp [intOf]; omega
                · obtain rfl : i' = m := by omega
                  have q1 : decide ((i' : Int) < (i' : Int)) = false := by simp
                  have e0 := HEL.out.calm.cell
                  go_wp2_with fail
                  refine ⟨⟨c + 1, by omega, by go_num, by rw [HFP.out]; go_num, by rw [HFP.out]; simp [hkr], ?_, HML.out⟩, by simp [intOf]; omega⟩
                  rw [HFP.out]
                  refine HEL.out.congr fun i j hi => ?_
                  show clru (fun i => s.X (swp k s.r i)) s.r c i' i j = clr (fun i => s.X (swp k s.r i)) s.r c i j
                  unfold clru clr
                  by_cases h : s.r < i
                  · rw [if_pos ⟨h, hi⟩, if_pos h]
                  · rw [if_neg (fun e => h e.1), if_neg h]
    · obtain rfl : c = na := by omega
      have hd : decide ((c : Int) < (c : Int)) = false := by simp
      go_wp2_with fail
      rw [Exit.noGoto_ret]
      exact bp_tmps2 rfl rfl ⟨rfl, HE.out, HM.out⟩
end Go.Proofs.YtclkkoiaaddllaaGreat

namespace Go.Proofs.YtclkkoiaaddllaaGreat
open Go.RowKit
set_option linter.unusedVariables false

def nilRw : Rw := ⟨none, 0, 0, 0, 0⟩
def zEn : En := ⟨false, none, 0, 0, false, none, 0, 0, false, none, 0, 0⟩
theorem info_row : (Tryz.prog.info? 37).map (fun i => (i.zero, i.size, i.bytes)) = some (some (.slice none 0 0), 1, 24) := by kernel_rfl
theorem info_gauss : (Tryz.prog.info? 32).map (fun i => (i.zero, i.size, i.bytes)) = some (some zEn.v, 6, 96) := by kernel_rfl
theorem madeCells_mx (m : Nat) : madeCells #[Value.slice none 0 0] m = (mxc m fun _ => nilRw).toArray := by
  rw [madeCells_one]
  congr 1
  unfold mxc
  rw [List.map_const', List.length_range]; rfl
theorem madeCells_row (n : Nat) : madeCells zEn.v.cells (n * 6) = (rowc n fun _ => zEn).toArray := by
  unfold madeCells
  apply Array.ext
  · simp [rowc_len]
  · intro i h1 h2
    have hi : i < n * 6 := by simpa using h1
    have e : i = (i / 6) * 6 + i % 6 := by omega
    have h := rowc_at (f := fun _ => zEn) (j := i / 6) (t := i % 6) (n := n) (Nat.mod_lt _ (by omega)) (by omega)
    rw [← e] at h
    have h3 : (rowc n fun _ => zEn)[i]? = some ((rowc n fun _ => zEn).toArray[i]) := by simp
    rw [h3] at h
    have hs : zEn.v.cells.size = 6 := rfl
    have h6 : ∀ k, k < 6 → some (zEn.v.cells[k]!) = zEn.cells[k]? := fun k hk => match k, hk with
      | 0, _ => rfl
      | 1, _ => rfl
      | 2, _ => rfl
      | 3, _ => rfl
      | 4, _ => rfl
      | 5, _ => rfl
    simp only [Array.getElem_map, Array.getElem_range]
    rw [hs]
    have h4 := h6 (i % 6) (Nat.mod_lt _ (by omega))
    rw [← h4] at h
    injection h with h
    exact h.symm
theorem make_mx (m : Nat) (hm : m ≤ 1000) (W : World) : (Instr.makeSlice 22 (.int .i64 m) (.int .i64 m)).run Tryz.prog W = .ok (.slice (some ⟨W.heap.size, 0, none⟩) m m) (W.alloc (.cells (mxc m fun _ => nilRw).toArray 37)) := by
  obtain ⟨i0, hi0, hz0, hz1, hz2⟩ := info_parts info_row
  have h := run_make (P := Tryz.prog) W 22 37 i0 (.slice none 0 0) Tryz.underlying22 hi0 hz0 .i64 .i64 m m (by omega) (by omega) (by rw [hz2]; omega) (by omega)
  rw [h, hz1]
  have e : madeCells (Value.slice none 0 0).cells m = (mxc m fun _ => nilRw).toArray := madeCells_mx m
  simp only [Nat.mul_one, Int.toNat_natCast, e]
theorem make_row (n : Nat) (hn : n ≤ 1000) (W : World) : (Instr.makeSlice 37 (.int .i64 n) (.int .i64 n)).run Tryz.prog W = .ok (.slice (some ⟨W.heap.size, 0, none⟩) n n) (W.alloc (.cells (rowc n fun _ => zEn).toArray 32)) := by
  obtain ⟨i0, hi0, hz0, hz1, hz2⟩ := info_parts info_gauss
  have h := run_make (P := Tryz.prog) W 37 32 i0 zEn.v Tryz.underlying37 hi0 hz0 .i64 .i64 n n (by omega) (by omega) (by rw [hz2]; omega) (by omega)
  rw [h, hz1]
  simp only [Int.toNat_natCast, madeCells_row]
theorem run_copy_k (k : Nat) {P : Program} (w : World) (dT sT ty elem : TypeId) (g o dLen dCap : Nat) (a : Addr) (sLen sCap : Nat) (cur : Array Value) (t : TypeId) (cs : List Value)
    (hu : P.underlying dT = some (.slice elem)) (hs : (P.info? elem).map (·.size) = some k)
    (hg : w.heap[g]? = some (.cells cur t (0, 0))) (hn : cs.length = Nat.min sLen dLen * k)
    (hsrc : ∀ j v, cs[j]? = some v → w.cell? (a.add j) = some v) (hfit : o + cs.length ≤ cur.size) (h1 : ∀ v ∈ cs, v.oneCell' = true) :
    (Builtin.copy_ #[dT, sT] ty #[.slice (some ⟨g, o, none⟩) dLen dCap, .slice (some a) sLen sCap]).run P w =
      .ok (goInt (Nat.min sLen dLen)) (w.setRow g (cur.toList.take o ++ cs ++ cur.toList.drop (o + cs.length)).toArray) := by
  have hl := run_loadCells_list (P := P) w a cs hsrc
  have hst := run_storeCells_at P g o t cs 0 cur w hg (by simpa using hfit) h1
  cases hq : P.info? elem with
  | none => simp [hq] at hs
  | some i =>
    have hi : i.size = k := by simpa [hq] using hs
    simp [Builtin.copy_, run_underlying hu, Builtin.lenOf, Builtin.firstCells, sizeOf, typeInfo, hq, hi, ← hn, hl, hst]
theorem gauss_six : (Tryz.prog.info? 32).map (·.size) = some 6 := by kernel_rfl
theorem rowc_one (n : Nat) (f : Nat → En) : ∀ v ∈ rowc n f, v.oneCell' = true := by
  intro v hv
  unfold rowc at hv
  obtain ⟨j, _, hv⟩ := List.mem_flatMap.1 hv
  unfold En.cells at hv
  simp only [List.mem_cons, List.not_mem_nil, or_false] at hv
  rcases hv with rfl | rfl | rfl | rfl | rfl | rfl <;> rfl
theorem rowc_set1 {f : Nat → En} {j n t : Nat} {u : Value} {e : En} (hj : j < n) (ht : t < 6) (hc : e.cells = (f j).cells.set t u) : (rowc n f).toArray.setIfInBounds (j * 6 + t) u = (rowc n (upd f j e)).toArray := by
  rw [List.setIfInBounds_toArray]
  congr 1
  apply List.ext_getElem?
  intro i
  rw [List.getElem?_set]
  by_cases hi : i < n * 6
  · have e2 : i = (i / 6) * 6 + i % 6 := by omega
    have h4 : i % 6 < 6 := Nat.mod_lt _ (by omega)
    by_cases hji : i / 6 = j
    · have hr : (rowc n (upd f j e))[i]? = e.cells[i % 6]? := by
        conv => lhs; rw [e2]
        rw [rowc_at h4 (by omega), hji, upd_same]
      rw [hr, hc, List.getElem?_set]
      by_cases ht2 : i % 6 = t
      · rw [if_pos (by omega), if_pos ht2.symm, rowc_len, if_pos (by omega), if_pos (by show t < 6; exact ht)]
      · rw [if_neg (by omega), if_neg (fun e => ht2 e.symm)]
        conv => lhs; rw [e2]
        rw [rowc_at h4 (by omega), hji]
    · rw [if_neg (by omega)]
      conv => lhs; rw [e2]
      conv => rhs; rw [e2]
      rw [rowc_at h4 (by omega), rowc_at h4 (by omega), upd_ne hji]
  · rw [if_neg (by omega), List.getElem?_eq_none (by rw [rowc_len]; omega), List.getElem?_eq_none (by rw [rowc_len]; omega)]
/-- One cell of a number of a row stored. -/
theorem RowIs.put1 {w : World} {g n j t : Nat} {f : Nat → En} {x : Nat → GQ} {e : En} {u : Value} (hb : Blk w g 32 (rowc n f).toArray) (hx : ∀ j, j < n → GV w (f j).v (x j) 12800) (hj : j < n) (ht : t < 6) (hc : e.cells = (f j).cells.set t u) (he : GV w e.v (x j) 12800) :
    (Blk (w.setCell ⟨g, j * 6 + t, none⟩ u) g 32 (rowc n (upd f j e)).toArray ∧ ∀ i, i < n → GV (w.setCell ⟨g, j * 6 + t, none⟩ u) (upd f j e i).v (x i) 12800) ∧ Mod (fun k => k = g) w (w.setCell ⟨g, j * 6 + t, none⟩ u) := by
  have hm : Mod (fun k => k = g) w (w.setCell ⟨g, j * 6 + t, none⟩ u) := Mod.only (Only.set _ _ _ _) rfl
  have hS : Far (fun k => k = g) w := fun k hk _ => by subst hk; exact ⟨_, _, hb, rowc_noint _ _⟩
  refine ⟨⟨?_, fun i hi => ?_⟩, hm⟩
  · rw [← rowc_set1 hj ht hc]
    exact hb.set_ _ _
  · by_cases h : i = j
    · subst h; rw [upd_same]; exact he.mod hm hS
    · rw [upd_ne h]; exact (hx i hi).mod hm hS
theorem clone_gv (A : Option Addr) (n c : Nat) (s : Bool) (z : Int) (w : World) (h : RI w (iv s A n c) z) (hn : n ≤ 1000000) :
    Calls Tryz.prog 59 #[.slice A n c] w fun e w' => ∃ A' n' c', e = .returned (.slice A' n' c') ∧ RI w' (iv s A' n' c') z ∧ Ext w w' := by
  obtain ⟨A2, n2, c2, e, hm⟩ := h
  simp at e
  obtain ⟨rfl, rfl, rfl, rfl⟩ := e
  refine (clone_any A n c _ w hm hn).mono ?_
  rintro e w' ⟨v, rfl, ⟨A1, n1, c1, rfl, h2⟩, h3⟩
  exact ⟨A1, n1, c1, rfl, ⟨A1, n1, c1, rfl, h2⟩, h3⟩
end Go.Proofs.YtclkkoiaaddllaaGreat

