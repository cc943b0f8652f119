/- Linear: subtract, the multiple of a row taken from another row. -/
import Derived.Test.YtclkkoiaaddllaaGreatQYenhnj
import Derived.Test.YtclkkoiaaddllaaGreatQYfliik
namespace Go.Proofs.YtclkkoiaaddllaaGreat
open Go.RowKit
set_option linter.unusedVariables false

theorem RowIs.cells {w : World} {g n : Nat} {f : Nat → En} (hb : Blk w g 32 (rowc n f).toArray) {j : Nat} (hj : j < n) {p : Nat} (hp : j * 6 = p) :
    w.cell? ⟨g, p, none⟩ = some (.bool (f j).s1) ∧ w.cell? ⟨g, p + 1, none⟩ = some (.slice (f j).A1 (f j).n1 (f j).c1) ∧ w.cell? ⟨g, p + 2, none⟩ = some (.bool (f j).s2) ∧
    w.cell? ⟨g, p + 3, none⟩ = some (.slice (f j).A2 (f j).n2 (f j).c2) ∧ w.cell? ⟨g, p + 4, none⟩ = some (.bool (f j).s3) ∧ w.cell? ⟨g, p + 5, none⟩ = some (.slice (f j).A3 (f j).n3 (f j).c3) := by
  subst hp
  have h : ∀ t u, (f j).cells[t]? = some u → w.cell? ⟨g, j * 6 + t, none⟩ = some u := fun t u hu => by
    rw [hb.cell]
    have ht : t < 6 := by
      have := (List.getElem?_eq_some_iff.1 hu).1
      exact this
    rw [List.getElem?_toArray, rowc_at ht hj]; exact hu
  exact ⟨h 0 _ rfl, h 1 _ rfl, h 2 _ rfl, h 3 _ rfl, h 4 _ rfl, h 5 _ rfl⟩
/-- A row less a multiple of another one, from place o on, k numbers. -/
def subk (x y : Nat → GQ) (q : GQ) (o o2 k : Nat) : Nat → GQ := fun j => if o ≤ j ∧ j < o + k then x j - q * y (o2 + (j - o)) else x j
theorem subk_zero (x y : Nat → GQ) (q : GQ) (o o2 : Nat) : subk x y q o o2 0 = x := by
  funext j; unfold subk; rw [if_neg (by omega)]
theorem subk_succ (x y : Nat → GQ) (q : GQ) (o o2 k : Nat) : subk x y q o o2 (k + 1) = upd (subk x y q o o2 k) (o + k) (x (o + k) - q * y (o2 + k)) := by
  funext j
  unfold upd
  by_cases h : j = o + k
  · subst h
    rw [if_pos rfl]; unfold subk; rw [if_pos (by omega)]
    rw [show o + k - o = k by omega]
  · rw [if_neg h]; unfold subk
    by_cases h2 : o ≤ j ∧ j < o + k
    · rw [if_pos h2, if_pos (by omega)]
    · rw [if_neg h2, if_neg (by omega)]
theorem subk_at (x y : Nat → GQ) (q : GQ) (o o2 k : Nat) : subk x y q o o2 k (o + k) = x (o + k) := by
  unfold subk; rw [if_neg (by omega)]
theorem CalmF.ne {w : World} {gf g n : Nat} {x : Nat → GQ} (h : CalmF w gf) (hx : RowIs w g n x) : gf ≠ g := by
  rintro rfl
  obtain ⟨f, hb, _⟩ := hx
  have e := h.symm.trans hb
  simp at e
theorem RowIs.far {w : World} {g n : Nat} {x : Nat → GQ} (h : RowIs w g n x) : Far (fun k => k = g) w := by
  obtain ⟨f, h1, _⟩ := h
  intro k hk _
  subst hk
  exact ⟨_, _, h1, rowc_noint _ _⟩
set_option maxRecDepth 100000 in
set_option maxHeartbeats 6400000 in
theorem fsubtract_g (gf g g2 o o2 n n2 L C L2 C2 Nx Ny Nq : Nat) (A A2 : Option Addr) (v : Value) (x y : Nat → GQ) (q : GQ) (w : World) (hc : CalmF w gf) (hx : RowIs w g n x) (hy : RowIs w g2 n2 y) (hne : g ≠ g2)
    (hA : 0 < L → A = some ⟨g, o * 6, none⟩) (hA2 : 0 < L2 → A2 = some ⟨g2, o2 * 6, none⟩) (hL : L ≤ L2) (ho : o + L ≤ n) (ho2 : o2 + L2 ≤ n2) (hbig : L ≤ 9223372036854775807) (hbig2 : L2 ≤ 9223372036854775807)
    (hq : GV w v q Nq) (bx : ∀ j, j < L → Bd (x (o + j)) Nx) (by_ : ∀ j, j < L → Bd (y (o2 + j)) Ny) (hN : 2 * max Nx (Nq + Ny + 1) + 65 ≤ 12800) (hN2 : 2 * max Nq Ny + 1 ≤ 12800) :
    Calls Tryz.prog 77 #[.pointer (some ⟨gf, 0, none⟩), .slice A L C, .slice A2 L2 C2, v] w fun e w' => e = .returned (.tuple #[]) ∧ RowIs w' g n (subk x y q o o2 L) ∧ Mod (fun k => k = g) w w' := by
  obtain ⟨s1, A1, n1, c1, s2, A2', n2', c2, s3, A3, n3, c3, rfl⟩ := hq.opn
  have HB := Lib.hid (Blk.new w 32 #[.bool s1, .slice A1 n1 c1, .bool s2, .slice A2' n2' c2, .bool s3, .slice A3 n3 c3])
  have HE := Lib.hid (Ext.new w (.cells #[.bool s1, .slice A1 n1 c1, .bool s2, .slice A2' n2' c2, .bool s3, .slice A3 n3 c3] 32))
  have hgl : g < w.heap.size := by obtain ⟨f, h, _⟩ := hx; exact h.lt
  have HC := Lib.hid (hc.ext HE.out); have HX := Lib.hid (hx.ext HE.out); have HY := Lib.hid (hy.ext HE.out); have HQ := Lib.hid (hq.ext HE.out)
  have HBX := Lib.hid bx; have HBY := Lib.hid by_
  clear hc hx hy hq bx by_
  go_enter Tryz.func77, Tryz.ntmps77
  go_wp2_with fail
  generalize (w.alloc _) = w1 at HB HE HC HX HY HQ ⊢
  generalize hg7 : w.heap.size = g7 at HB hgl ⊢
  have HG7 := Lib.hid hg7; clear hg7
  go_loopw [11] (fun i wr => ∃ k : Nat, k ≤ L ∧ i = .int .i64 k ∧ RowIs wr g n (subk x y q o o2 k) ∧ Mod (fun k => k = g) w1 wr) (fun i _ => L - (intOf i).toNat)
  case atStart => exact ⟨0, by omega, rfl, by rw [subk_zero]; exact HX.out, Mod.refl _ _⟩
  case round =>
    obtain ⟨k, hk, rfl, hrow, hm⟩ := hrel
    have HM := Lib.hid hm; have HR := Lib.hid hrow; clear hm hrow
    by_cases hlt : k < L
    · have hd : decide ((k : Int) < (L : Int)) = true := by simp; omega
      have hk2 : decide ((k : Int) < (L2 : Int)) = true := by simp; omega
      have hA := hA (by omega); have hA2 := hA2 (by omega)
      subst hA; subst hA2
      have hfar := HX.out.far
      obtain ⟨f2, hf2, hv2⟩ := HY.out.mod HM.out hfar (by exact fun e => hne e.symm)
      obtain ⟨f, hf, hv⟩ := HR.out
      have HV2 := Lib.hid ((hv2 (o2 + k) (by omega)).to (HBY.out k hlt)); have HV := Lib.hid (hv (o + k) (by omega))
      obtain ⟨d0, d1, d2, d3, d4, d5⟩ := RowIs.cells hf2 (j := o2 + k) (by omega) (show (o2 + k) * 6 = o2 * 6 + k * 6 by omega)
      have HF := Lib.hid hf; have HF2 := Lib.hid hf2; clear hf hf2 hv2
      have HHV := Lib.hid hv; clear hv
      go_wp2_with fail
      refine (xZero_of _ _ _ _ HV2.out (by omega)).mono ?_
      rintro e w3 ⟨rfl, hx3⟩
      by_cases h0 : y (o2 + k) = GQ.i 0 0
      · rw [decide_eq_true h0]
        go_wp2_with fail
        go_roundw
        case rel =>
          refine ⟨k + 1, by omega, by go_num, ?_, HM.out.trans (Mod.of hx3)⟩
          rw [subk_succ]
          refine (HR.out.ext hx3).congr fun j hj => ?_
          by_cases e : j = o + k
          · subst e; rw [upd_same, subk_at, h0, GQ.mul_zero', GQ.sub_zero']
          · rw [upd_ne e]
        case measure => simp [intOf]; omega
      · rw [decide_eq_false h0]
        have HF3 := Lib.hid (HF.out.ext hx3); have HB3 := Lib.hid ((HB.out.mod HM.out (by exact fun e => by omega)).ext hx3)
        obtain ⟨a0, a1, a2, a3, a4, a5⟩ := RowIs.cells HF3.out (j := o + k) (by omega) (show (o + k) * 6 = o * 6 + k * 6 by omega)
        have E0 := ExtOf.cell a0; have E1 := ExtOf.cell a1; have E2 := ExtOf.cell a2; have E3 := ExtOf.cell a3; have E4 := ExtOf.cell a4; have E5 := ExtOf.cell a5
        have D0 := ExtOf.cell (hx3.cell_ d0); have D1 := ExtOf.cell (hx3.cell_ d1); have D2 := ExtOf.cell (hx3.cell_ d2); have D3 := ExtOf.cell (hx3.cell_ d3); have D4 := ExtOf.cell (hx3.cell_ d4); have D5 := ExtOf.cell (hx3.cell_ d5)
        have B7 := ExtOf.blk HB3.out
        have HX3 := Lib.hid hx3; clear hx3 a0 a1 a2 a3 a4 a5 d0 d1 d2 d3 d4 d5
        go_wp2_with fail
        refine wp_region_ordE 15 [(true, 0), (true, 1), (true, 2), (true, 3), (true, 4), (true, 5), (true, 6), (true, 7), (true, 8), (true, 9), (true, 10), (true, 11), (true, 12), (false, 13), (false, 14)] (by kernel_rfl) (by kernel_rfl) ?_
        refine wpOrdT_quiet [0, 1, 2, 3, 4, 5, 6, 7, 8, 9, 10, 11, 12] [(false, 13), (false, 14)] _ (by kernel_rfl) ?_
        simp only [nthOps, nthOp, List.cons_append, List.nil_append]
        repeat (go_big_quiet_step (fail))
        refine wpQuiet_nil ?_
        refine wpOrdT_act 13 [(false, 14)] (by kernel_rfl) ?_
        intro K hK
        simp only [nthOp]
        go_wp2_with fail
        have HM3 := Lib.hid (HM.out.trans (Mod.of HX3.out.drew))
        have HV3 := Lib.hid (HV.out.ext HX3.out.drew)
        refine (fmul_ok gf _ _ q (y (o2 + k)) Nq Ny _ (Blk.mod HC.out HM3.out (HC.out.ne HX.out)) (HQ.out.mod HM3.out hfar) (HV2.out.ext HX3.out.drew) (by omega)).mono ?_
        rintro e w4 ⟨v4, rfl, hv4, hx4⟩
        have HX4 := Lib.hid hx4.undrew; have HV4 := Lib.hid hv4; have HXd := Lib.hid hx4
        clear hx4 hv4
        go_wp2
        refine hK _ _ ⟨⟨w4, HX4.out⟩, rfl⟩ ?_
        clear hK K
        refine wpOrdT_act 14 [] (by kernel_rfl) ?_
        intro K hK
        simp only [nthOp]
        go_wp2_with fail
        have hbx := HBX.out k hlt
        refine (fsub_ok gf _ _ (x (o + k)) (q * y (o2 + k)) Nx (Nq + Ny + 1) _ ?_ ?_ HV4.out (by omega)).mono ?_
        · exact Blk.ext (Blk.mod HC.out HM3.out (HC.out.ne HX.out)) HXd.out
        · have := HV3.out.ext HXd.out
          rw [subk_at] at this
          exact this.to hbx
        rintro e w5 ⟨v5, rfl, hv5, hx5⟩
        obtain ⟨t1, B1, m1, b1, t2, B2, m2, b2, t3, B3, m3, b3, rfl⟩ := hv5.opn
        have HX5 := Lib.hid (HX4.out.trans hx5); have HV5 := Lib.hid hv5
        clear hx5 hv5
        go_wp2
        refine hK _ _ ⟨⟨w5, HX5.out⟩, rfl⟩ ?_
        clear hK K
        have HF5 := Lib.hid (HF3.out.ext HX5.out)
        obtain ⟨a0, a1, a2, a3, a4, a5⟩ := RowIs.cells HF5.out (j := o + k) (by omega) (show (o + k) * 6 = o * 6 + k * 6 by omega)
        have f5 := HF5.out.frozen
        simp only [wpOrdT, List.drop_succ_cons, List.drop_zero]
        have HA5 := Lib.hid hfar
        clear hfar E0 E1 E2 E3 E4 E5 D0 D1 D2 D3 D4 D5 B7
        go_wp2_with fail
        go_roundw
        case rel =>
          refine ⟨k + 1, by omega, by go_num, ?_⟩
          have hm5 : Mod (fun k => k = g) w1 w5 := (HM.out.trans (Mod.of HX3.out)).trans (Mod.of HX5.out)
          have hh : ∀ j, j < n → GV w5 (f j).v (subk x y q o o2 k j) 12800 := fun j hj => ((HHV.out j hj).ext HX3.out).ext HX5.out
          have hp := RowIs.put (e := ⟨t1, B1, m1, b1, t2, B2, m2, b2, t3, B3, m3, b3⟩) HF5.out hh (j := o + k) (by omega) (HV5.out.up (by omega))
          rw [show (o + k) * 6 = o * 6 + k * 6 by omega] at hp
          rw [subk_succ]
          exact ⟨hp.1, hm5.trans hp.2⟩
        case measure => simp [intOf]; omega
    · obtain rfl : k = L := by omega
      have hd : decide ((k : Int) < (k : Int)) = false := by simp
      go_wp2_with fail
      refine bodyPost_end (results_none rfl _ _ _) rfl ?_
      refine ⟨rfl, HR.out, ?_⟩
      exact (Mod.of HE.out).trans HM.out
theorem fsubtract_w (gf g g2 o o2 n n2 L C L2 C2 N : Nat) (A A2 : Option Addr) (v : Value) (x y : Nat → GQ) (q : GQ) (w : World) (hc : CalmF w gf) (hx : RowIs w g n x) (hy : RowIs w g2 n2 y) (hne : g ≠ g2)
    (hA : 0 < L → A = some ⟨g, o * 6, none⟩) (hA2 : 0 < L2 → A2 = some ⟨g2, o2 * 6, none⟩) (hL : L ≤ L2) (ho : o + L ≤ n) (ho2 : o2 + L2 ≤ n2) (hbig : L ≤ 9223372036854775807) (hbig2 : L2 ≤ 9223372036854775807)
    (hq : GV w v q N) (bx : ∀ j, j < L → Bd (x (o + j)) N) (by_ : ∀ j, j < L → Bd (y (o2 + j)) N) (hN : 4 * N + 67 ≤ 12800) :
    Calls Tryz.prog 77 #[.pointer (some ⟨gf, 0, none⟩), .slice A L C, .slice A2 L2 C2, v] w fun e w' => e = .returned (.tuple #[]) ∧ RowIs w' g n (subk x y q o o2 L) ∧ Mod (fun k => k = g) w w' :=
  fsubtract_g gf g g2 o o2 n n2 L C L2 C2 N N N A A2 v x y q w hc hx hy hne hA hA2 hL ho ho2 hbig hbig2 hq bx by_ (by omega) (by omega)
set_option maxRecDepth 100000 in
set_option maxHeartbeats 1600000 in
theorem fsubtract_0 (gf C L2 C2 : Nat) (A A2 : Option Addr) (v : Value) (q : GQ) (N : Nat) (w : World) (hq : GV w v q N) :
    Calls Tryz.prog 77 #[.pointer (some ⟨gf, 0, none⟩), .slice A 0 C, .slice A2 L2 C2, v] w fun e w' => e = .returned (.tuple #[]) ∧ Ext w w' := by
  obtain ⟨s1, A1, n1, c1, s2, A2', n2', c2, s3, A3, n3, c3, rfl⟩ := hq.opn
  have HE := Lib.hid (Ext.new w (.cells #[.bool s1, .slice A1 n1 c1, .bool s2, .slice A2' n2' c2, .bool s3, .slice A3 n3 c3] 32))
  clear hq
  go_enter Tryz.func77, Tryz.ntmps77
  go_wp2_with fail
  generalize (w.alloc _) = w1 at HE ⊢
  go_loopw [11] (fun i wr => i = .int .i64 0 ∧ wr = w1) (fun i _ => 0)
  case atStart => exact ⟨rfl, rfl⟩
  case round =>
    obtain ⟨rfl, rfl⟩ := hrel
    go_wp2_with fail
    refine bodyPost_end (results_none rfl _ _ _) rfl ?_
    exact ⟨rfl, HE.out⟩
end Go.Proofs.YtclkkoiaaddllaaGreat
