/- Linear: the reference's Rank and Determinant; the program's Determinant at what is no matrix. -/
import Derived.Test.YtclkkoiaaddllaaGreatQVkddnf
import Derived.Test.YtclkkoiaaddllaaGreatQVelhpc
import Derived.Test.YtclkkoiaaddllaaGreatQVlbimh

namespace Go.Proofs.YtclkkoiaaddllaaGreat
open Go.RowKit
set_option linter.unusedVariables false
set_option linter.unusedSimpArgs false

section
variable {w w' : World} {A : Option Addr} {B O m c : Nat} {R : Nat → Rw} {E : Nat → Nat → En}
theorem zero_puts (w : World) (g : Nat) (hb : Blk w g 32 #[.bool false, .slice none 0 0, .bool false, .slice none 0 0, .bool false, .slice none 0 0]) : Blk (puts w g 0 [.bool false, .slice none 0 0, .bool false, .slice none 0 0, .bool false, .slice none 0 0]) g 32 #[.bool false, .slice none 0 0, .bool false, .slice none 0 0, .bool false, .slice none 0 0] := by
  have h1 := puts_blk 0 [.bool false, .slice none 0 0, .bool false, .slice none 0 0, .bool false, .slice none 0 0] hb
  have ec : setsA #[.bool false, .slice none 0 0, .bool false, .slice none 0 0, .bool false, .slice none 0 0] 0 [.bool false, .slice none 0 0, .bool false, .slice none 0 0, .bool false, .slice none 0 0] = #[.bool false, .slice none 0 0, .bool false, .slice none 0 0, .bool false, .slice none 0 0] := by kernel_rfl
  rw [ec] at h1; exact h1
set_option maxRecDepth 100000 in
set_option maxHeartbeats 3200000 in
theorem det_arg (h : Mem w A B O m R E) {vb : Nat → Nat → Bool} (hvb : ∀ i j, i < m → j < (R i).n → VB w (E i j).v (vb i j)) (hM : ¬ IsM m R vb) :
    Calls Tryz.prog 12 #[.slice A m c] w fun e w' => e = .returned (.tuple #[gv false none 0 0 false none 0 0 false none 0 0, .int .i64 1]) ∧ Ext w w' := by
  have HMx := Lib.hid (fun (w' : World) (x : Ext w w') => matrix_any (c := c) (h.ext x) (fun i j hi hj => (hvb i j hi hj).ext x) false ⟨fun h => by simp at h, fun h => absurd h hM⟩)
  clear h hvb hM
  have hE0 := Ext.new w (.cells #[.bool false, .slice none 0 0, .bool false, .slice none 0 0, .bool false, .slice none 0 0] 32)
  have hB2 := Blk.new w 32 #[.bool false, .slice none 0 0, .bool false, .slice none 0 0, .bool false, .slice none 0 0]
  go_enter Tryz.func12, Tryz.ntmps12
  go_wp2_with fail
  generalize (w.alloc (.cells #[.bool false, .slice none 0 0, .bool false, .slice none 0 0, .bool false, .slice none 0 0] 32)) = w0 at hE0 hB2 ⊢
  generalize hg2 : w.heap.size = g2 at hB2 ⊢
  have HG2 := Lib.hid hg2; clear hg2
  refine (HMx.out _ hE0).mono ?_
  rintro e w1 ⟨rfl, hx1⟩
  have HE1 := Lib.hid (hE0.trans hx1); have HB2 := Lib.hid (hB2.ext hx1); clear hx1 hE0 hB2
  have k2 := HB2.out.cell; have f2 := HB2.out.frozen
  have HB4 := Lib.hid (zero_puts _ _ HB2.out)
  have HE4 := Lib.hid (puts_ext (w0 := w) (g := g2) (by have := HG2.out; show w.heap.size ≤ g2; omega) 0 [.bool false, .slice none 0 0, .bool false, .slice none 0 0, .bool false, .slice none 0 0] HE1.out)
  go_wp2_with fail
  exact bp_gauss2 rfl rfl rfl HB4.out ⟨rfl, HE4.out⟩
set_option maxRecDepth 100000 in
set_option maxHeartbeats 3200000 in
theorem qRank_arg (h : Mem w A B O m R E) {vb : Nat → Nat → Bool} (hvb : ∀ i j, i < m → j < (R i).n → VB w (E i j).v (vb i j)) (hM : ¬ IsM m R vb) :
    Calls Tryz.prog 11 #[.slice A m c] w fun e w' => e = .returned (.tuple #[.int .i64 0, .int .i64 1]) ∧ Ext w w' := by
  have HMx := Lib.hid (qMatrix_any (c := c) h hvb false ⟨fun h => by simp at h, fun h => absurd h hM⟩)
  clear h hvb hM
  go_enter Tryz.func11, Tryz.ntmps11
  go_wp2_with fail
  refine HMx.out.mono ?_
  rintro e w1 ⟨rfl, hx1⟩
  go_wp2_with fail
  exact bp_tmps2 rfl rfl ⟨rfl, hx1⟩
set_option maxRecDepth 100000 in
set_option maxHeartbeats 3200000 in
theorem qDet_arg (h : Mem w A B O m R E) {vb : Nat → Nat → Bool} (hvb : ∀ i j, i < m → j < (R i).n → VB w (E i j).v (vb i j)) (hM : ¬ IsM m R vb) :
    Calls Tryz.prog 13 #[.slice A m c] w fun e w' => e = .returned (.tuple #[gv false none 0 0 false none 0 0 false none 0 0, .int .i64 1]) ∧ Ext w w' := by
  have HMx := Lib.hid (fun (w' : World) (x : Ext w w') => qMatrix_any (c := c) (h.ext x) (fun i j hi hj => (hvb i j hi hj).ext x) false ⟨fun h => by simp at h, fun h => absurd h hM⟩)
  clear h hvb hM
  have hE0 := Ext.new w (.cells #[.bool false, .slice none 0 0, .bool false, .slice none 0 0, .bool false, .slice none 0 0] 32)
  have hB2 := Blk.new w 32 #[.bool false, .slice none 0 0, .bool false, .slice none 0 0, .bool false, .slice none 0 0]
  go_enter Tryz.func13, Tryz.ntmps13
  go_wp2_with fail
  generalize (w.alloc (.cells #[.bool false, .slice none 0 0, .bool false, .slice none 0 0, .bool false, .slice none 0 0] 32)) = w0 at hE0 hB2 ⊢
  generalize hg2 : w.heap.size = g2 at hB2 ⊢
  have HG2 := Lib.hid hg2; clear hg2
  refine (HMx.out _ hE0).mono ?_
  rintro e w1 ⟨rfl, hx1⟩
  have HE1 := Lib.hid (hE0.trans hx1); have HB2 := Lib.hid (hB2.ext hx1); clear hx1 hE0 hB2
  have k2 := HB2.out.cell; have f2 := HB2.out.frozen
  have HB4 := Lib.hid (zero_puts _ _ HB2.out)
  have HE4 := Lib.hid (puts_ext (w0 := w) (g := g2) (by have := HG2.out; show w.heap.size ≤ g2; omega) 0 [.bool false, .slice none 0 0, .bool false, .slice none 0 0, .bool false, .slice none 0 0] HE1.out)
  go_wp2_with fail
  exact bp_gauss2 rfl rfl rfl HB4.out ⟨rfl, HE4.out⟩
set_option maxRecDepth 100000 in
set_option maxHeartbeats 3200000 in
theorem qDet_cnt (h : Mem w A B O m R E) {vb : Nat → Nat → Bool} (hvb : ∀ i j, i < m → j < (R i).n → VB w (E i j).v (vb i j)) (hM : IsM m R vb) (hne : m ≠ wd m R) :
    Calls Tryz.prog 13 #[.slice A m c] w fun e w' => e = .returned (.tuple #[gv false none 0 0 false none 0 0 false none 0 0, .int .i64 3]) ∧ Ext w w' := by
  have HMx := Lib.hid (fun (w' : World) (x : Ext w w') => qMatrix_any (c := c) (h.ext x) (fun i j hi hj => (hvb i j hi hj).ext x) true ⟨fun _ => hM, fun _ => rfl⟩)
  have HWd := Lib.hid (fun (w' : World) (x : Ext w w') => qcolumns_any (c := c) (h.ext x) (by have := hM.1; omega))
  have hbne : ((m : Int) != (wd m R : Int)) = true := by simp; omega
  clear h hvb hM hne
  have hE0 := Ext.new w (.cells #[.bool false, .slice none 0 0, .bool false, .slice none 0 0, .bool false, .slice none 0 0] 32)
  have hB2 := Blk.new w 32 #[.bool false, .slice none 0 0, .bool false, .slice none 0 0, .bool false, .slice none 0 0]
  go_enter Tryz.func13, Tryz.ntmps13
  go_wp2_with fail
  generalize (w.alloc (.cells #[.bool false, .slice none 0 0, .bool false, .slice none 0 0, .bool false, .slice none 0 0] 32)) = w0 at hE0 hB2 ⊢
  generalize hg2 : w.heap.size = g2 at hB2 ⊢
  have HG2 := Lib.hid hg2; clear hg2
  refine (HMx.out _ hE0).mono ?_
  rintro e w1 ⟨rfl, hx1⟩
  have HE1 := Lib.hid (hE0.trans hx1); have HB2 := Lib.hid (hB2.ext hx1); clear hx1 hE0 hB2
  go_wp2_with fail
  refine (HWd.out _ HE1.out).mono ?_
  rintro e w2 ⟨rfl, hx2⟩
  have HE2 := Lib.hid (HE1.out.trans hx2); have HB3 := Lib.hid (HB2.out.ext hx2)
  clear hx2 HE1 HB2
  have k2 := HB3.out.cell; have f2 := HB3.out.frozen
  have HB4 := Lib.hid (zero_puts _ _ HB3.out)
  have HE4 := Lib.hid (puts_ext (w0 := w) (g := g2) (by have := HG2.out; show w.heap.size ≤ g2; omega) 0 [.bool false, .slice none 0 0, .bool false, .slice none 0 0, .bool false, .slice none 0 0] HE2.out)
  go_wp2_with fail
  exact bp_gauss2 rfl rfl rfl HB4.out ⟨rfl, HE4.out⟩
set_option maxRecDepth 100000 in
set_option maxHeartbeats 3200000 in
theorem qRank_ok {n N ND : Nat} {X : Nat → Nat → GQ} (h : Mem w A B O m R E) {vb : Nat → Nat → Bool} (hvb : ∀ i j, i < m → j < (R i).n → VB w (E i j).v (vb i j)) (hM : IsM m R vb) (hn : ∀ i, i < m → (R i).n = n) (hv : ∀ i j, i < m → j < n → GV w (E i j).v (X i j) 12800)
    (h0 : m = 0 → n = 0) (hna : n ≤ 24) (hN : 3 * N + 67 ≤ 12800) (hND : ND + N + 65 ≤ 12800) (hD1 : 64 ≤ ND) (hroom : RoomR N ND m n X) :
    Calls Tryz.prog 11 #[.slice A m c] w fun e w' => e = .returned (.tuple #[.int .i64 (rech m X n).r, .int .i64 0]) ∧ Ext w w' := by
  have hm := hM.1
  have HMx := Lib.hid (qMatrix_any (c := c) h hvb true ⟨fun _ => hM, fun _ => rfl⟩)
  have HM := Lib.hid h; have HV := Lib.hid hv; have HN := Lib.hid hn; have HR := Lib.hid hroom
  clear h hv hn hroom hvb hM
  go_enter Tryz.func11, Tryz.ntmps11
  go_wp2_with fail
  refine HMx.out.mono ?_
  rintro e w1 ⟨rfl, hx1⟩
  have HX1 := Lib.hid hx1; clear hx1
  go_wp2_with fail
  refine (qempty_ok m hm _).mono ?_
  rintro e w2 ⟨G, hG, rfl, hmE, hx2⟩
  have HX2 := Lib.hid (HX1.out.trans hx2); have HME := Lib.hid hmE; clear hx2 hmE HX1
  go_wp2_with fail
  refine (qreduce_ok (HM.out.ext HX2.out) HN.out (fun i j hi hj => (HV.out i j hi hj).ext HX2.out) HME.out (fun i hi => rfl) h0 hm hna hN hND hD1 HR.out).mono ?_
  rintro e w3 ⟨a, b, v, rfl, hv, hx3⟩
  obtain ⟨s1, A1, n1, c1, s2, A2, n2, c2, s3, A3, n3, c3, rfl⟩ := hv.opn
  have HX3 := Lib.hid ((HX2.out.trans hx3).trans (Ext.new w3 (.cells #[.bool s1, .slice A1 n1 c1, .bool s2, .slice A2 n2 c2, .bool s3, .slice A3 n3 c3] 32))); clear hx3 hv
  go_wp2_with fail
  exact bp_tmps2 rfl rfl ⟨rfl, HX3.out⟩
set_option maxRecDepth 100000 in
set_option maxHeartbeats 3200000 in
theorem qDet_ok {N ND : Nat} {X : Nat → Nat → GQ} (h : Mem w A B O m R E) {vb : Nat → Nat → Bool} (hvb : ∀ i j, i < m → j < (R i).n → VB w (E i j).v (vb i j)) (hM : IsM m R vb) (hn : ∀ i, i < m → (R i).n = m) (hv : ∀ i j, i < m → j < m → GV w (E i j).v (X i j) 12800)
    (hN : 3 * N + 67 ≤ 12800) (hND : ND + N + 65 ≤ 12800) (hD1 : 64 ≤ ND) (hroom : RoomR N ND m m X) :
    Calls Tryz.prog 13 #[.slice A m c] w fun e w' => ∃ v, e = .returned (.tuple #[v, .int .i64 0]) ∧ GV w' v (rdet m m X) 12800 ∧ Ext w w' := by
  have hm := hM.1
  have HMx := Lib.hid (fun (w' : World) (x : Ext w w') => qMatrix_any (c := c) (h.ext x) (fun i j hi hj => (hvb i j hi hj).ext x) true ⟨fun _ => hM, fun _ => rfl⟩)
  have HWd := Lib.hid (fun (w' : World) (x : Ext w w') => qcolumns_any (c := c) (h.ext x) (by omega))
  have hwd : wd m R = m := by
    unfold wd
    by_cases e : m = 0
    · rw [if_pos e]; exact e.symm
    · rw [if_neg e]; exact hn 0 (by omega)
  rw [hwd] at HWd
  have HM := Lib.hid h; have HV := Lib.hid hv; have HN := Lib.hid hn; have HR := Lib.hid hroom
  clear h hv hn hroom hvb hM hwd
  have hbeq : ((m : Int) != (m : Int)) = false := by simp
  have hE0 := Ext.new w (.cells #[.bool false, .slice none 0 0, .bool false, .slice none 0 0, .bool false, .slice none 0 0] 32)
  have hB2 := Blk.new w 32 #[.bool false, .slice none 0 0, .bool false, .slice none 0 0, .bool false, .slice none 0 0]
  go_enter Tryz.func13, Tryz.ntmps13
  go_wp2_with fail
  generalize (w.alloc (.cells #[.bool false, .slice none 0 0, .bool false, .slice none 0 0, .bool false, .slice none 0 0] 32)) = w0 at hE0 hB2 ⊢
  generalize hg2 : w.heap.size = g2 at hB2 ⊢
  have HG2 := Lib.hid hg2; clear hg2
  refine (HMx.out _ hE0).mono ?_
  rintro e w1 ⟨rfl, hx1⟩
  have HE1 := Lib.hid (hE0.trans hx1); have HB2 := Lib.hid (hB2.ext hx1); clear hx1 hE0 hB2
  go_wp2_with fail
  refine (HWd.out _ HE1.out).mono ?_
  rintro e w2 ⟨rfl, hx2⟩
  have HE2 := Lib.hid (HE1.out.trans hx2); have HB3 := Lib.hid (HB2.out.ext hx2); clear hx2 HE1 HB2
  go_wp2_with fail
  refine (qempty_ok m hm _).mono ?_
  rintro e w3 ⟨G, hG, rfl, hmE, hx3⟩
  have HE3 := Lib.hid (HE2.out.trans hx3); have HB4 := Lib.hid (HB3.out.ext hx3); have HME := Lib.hid hmE; clear hx3 hmE HE2 HB3
  go_wp2_with fail
  refine (qreduce_ok (HM.out.ext HE3.out) HN.out (fun i j hi hj => (HV.out i j hi hj).ext HE3.out) HME.out (fun i hi => rfl) (fun h => h) hm hm hN hND hD1 HR.out).mono ?_
  rintro e w4 ⟨a, b, v, rfl, hv, hx4⟩
  obtain ⟨s1, A1, n1, c1, s2, A2, n2, c2, s3, A3, n3, c3, rfl⟩ := hv.opn
  have hxn := Ext.new w4 (.cells #[.bool s1, .slice A1 n1 c1, .bool s2, .slice A2 n2 c2, .bool s3, .slice A3 n3 c3] 32)
  have HE5 := Lib.hid ((HE3.out.trans hx4).trans hxn); have HB5 := Lib.hid ((HB4.out.ext hx4).ext hxn); have HV5 := Lib.hid (hv.ext hxn)
  clear hx4 hv hxn HE3 HB4 HME
  have k2 := HB5.out.cell; have f2 := HB5.out.frozen
  obtain ⟨p1, p2, p3⟩ := put_gauss HE5.out (by have := HG2.out; omega) HB5.out HV5.out
  have P1 := Lib.hid p1; have P2 := Lib.hid p2; have P3 := Lib.hid p3
  clear p1 p2 p3
  go_wp2_with fail
  exact bp_gauss2 rfl rfl rfl P2.out ⟨_, rfl, P3.out, P1.out⟩
end
end Go.Proofs.YtclkkoiaaddllaaGreat

namespace Go.Proofs.YtclkkoiaaddllaaGreat
open Go.RowKit
set_option linter.unusedVariables false
set_option linter.unusedSimpArgs false

theorem small1 {w : World} {g : Nat} {A1 : Option Addr} {B1 O1 m1 c1 : Nat} {R1 : Nat → Rw} {E1 : Nat → Nat → En} (h1 : Mem w A1 B1 O1 m1 R1 E1) (hg : Blk w g 22 #[.slice A1 m1 c1])
    (b : Bool) (hb : b = true ↔ Sml m1 R1 E1) : Calls Tryz.prog 8 #[.slice (some ⟨g, 0, none⟩) 1 1] w fun e w' => e = .returned (.bool b) ∧ Ext w w' := by
  refine small_any (fA := fun _ => A1) (fB := fun _ => B1) (fO := fun _ => O1) (fm := fun _ => m1) (fc := fun _ => c1) (fR := fun _ => R1) (fE := fun _ => E1) (fun k hk => h1) ?_ (by omega) b ?_
  · intro k hk
    match k, hk with
    | 0, _ => rw [hg.cell]; rfl
  · rw [hb]
    exact ⟨fun h k hk => h, fun h => h 0 (by omega)⟩
set_option maxRecDepth 100000 in
set_option maxHeartbeats 12800000 in
theorem ranks_any {A1 : Option Addr} {B1 O1 m1 c1 : Nat} {R1 : Nat → Rw} {E1 : Nat → Nat → En} {w : World} (h1 : Mem w A1 B1 O1 m1 R1 E1) (r1 : ∀ i j, i < m1 → j < (R1 i).n → RawE w (E1 i j)) :
    Calls Tryz.prog 3 #[.slice A1 m1 c1] w fun e w' => e = .returned (.bool true) ∧ Ext w w' := by
  have H1 := Lib.hid h1; have HR1 := Lib.hid r1
  have hbk : Blk (w.alloc (.cells #[.slice A1 m1 c1] 22)) w.heap.size 22 #[.slice A1 m1 c1] := Blk.new _ _ _
  have hsm := fun b hb => small1 (h1.ext (Ext.new w (.cells #[.slice A1 m1 c1] 22))) hbk b hb
  clear h1 r1 hbk
  by_cases hS : Sml m1 R1 E1
  rotate_left
  · have HSm := Lib.hid (hsm false (by simp only [Bool.false_eq_true, false_iff]; exact hS))
    clear hsm hS
    go_enter Tryz.func3, Tryz.ntmps3
    have HE := Lib.hid (Ext.new w (.cells #[.slice A1 m1 c1] 22))
    go_wp2_with fail
    refine (HSm.out).mono ?_
    rintro e w1 ⟨rfl, hx⟩
    replace HE := Lib.hid (HE.out.trans hx); clear hx
    go_wp2_with fail
    refine (llknown_ok _).mono ?_
    rintro e w9 ⟨rfl, hx⟩
    replace HE := Lib.hid (HE.out.trans hx); clear hx
    go_wp2_with fail
    go_ret
    exact ⟨rfl, HE.out⟩
  have HSm := Lib.hid (hsm true (by simp only [true_iff]; exact hS))
  clear hsm
  obtain ⟨vb1, X, hX⟩ := raw_vb HR1.out hS
  have HX := Lib.hid hX; have HS6 := Lib.hid hS
  clear hX hS HR1
  by_cases hM1 : IsM m1 R1 vb1
  rotate_left
  · have H3 := Lib.hid (fun (w' : World) (x : Ext w w') => rank_arg (c := c1) (H1.out.ext x) (fun i j hi hj => (HX.out i j hi hj).1.ext x) hM1)
    have H4 := Lib.hid (fun (w' : World) (x : Ext w w') => qRank_arg (c := c1) (H1.out.ext x) (fun i j hi hj => (HX.out i j hi hj).1.ext x) hM1)
    have H5 := Lib.hid (fun (w' : World) (x : Ext w w') => det_arg (c := c1) (H1.out.ext x) (fun i j hi hj => (HX.out i j hi hj).1.ext x) hM1)
    have H6 := Lib.hid (fun (w' : World) (x : Ext w w') => qDet_arg (c := c1) (H1.out.ext x) (fun i j hi hj => (HX.out i j hi hj).1.ext x) hM1)
    clear hM1
    go_enter Tryz.func3, Tryz.ntmps3
    have HE := Lib.hid (Ext.new w (.cells #[.slice A1 m1 c1] 22))
    go_wp2_with fail
    refine (HSm.out).mono ?_
    rintro e w1 ⟨rfl, hx⟩
    replace HE := Lib.hid (HE.out.trans hx); clear hx
    go_wp2_with fail
    refine (H3.out _ HE.out).mono ?_
    rintro e w2 ⟨rfl, hx⟩
    replace HE := Lib.hid (HE.out.trans hx); clear hx
    go_wp2_with fail
    refine (H4.out _ HE.out).mono ?_
    rintro e w3 ⟨rfl, hx⟩
    replace HE := Lib.hid (HE.out.trans hx); clear hx
    go_wp2_with fail
    refine (H5.out _ HE.out).mono ?_
    rintro e w4 ⟨rfl, hx⟩
    replace HE := Lib.hid (HE.out.trans (hx.trans (Ext.new w4 (.cells #[.bool false, .slice none 0 0, .bool false, .slice none 0 0, .bool false, .slice none 0 0] 32)))); clear hx
    go_wp2_with fail
    generalize (w4.alloc (.cells #[.bool false, .slice none 0 0, .bool false, .slice none 0 0, .bool false, .slice none 0 0] 32)) = w4n at HE ⊢
    generalize w4.heap.size = gw4
    refine (H6.out _ HE.out).mono ?_
    rintro e w5 ⟨rfl, hx⟩
    replace HE := Lib.hid (HE.out.trans (hx.trans (Ext.new w5 (.cells #[.bool false, .slice none 0 0, .bool false, .slice none 0 0, .bool false, .slice none 0 0] 32)))); clear hx
    go_wp2_with fail
    generalize (w5.alloc (.cells #[.bool false, .slice none 0 0, .bool false, .slice none 0 0, .bool false, .slice none 0 0] 32)) = w5n at HE ⊢
    generalize w5.heap.size = gw5
    refine (llknown_ok _).mono ?_
    rintro e w9 ⟨rfl, hx⟩
    replace HE := Lib.hid (HE.out.trans hx); clear hx
    go_wp2_with fail
    go_ret
    exact ⟨rfl, HE.out⟩
  have HM1 := Lib.hid hM1
  clear hM1
  have HM6 := Lib.hid HS6.out.1
  have HN := Lib.hid (show ∀ i, i < m1 → (R1 i).n = wd m1 R1 from fun i hi => HM1.out.2.2.1 i hi)
  have hn6 : wd m1 R1 ≤ 6 := by
    unfold wd
    split
    · omega
    · exact HS6.out.2.1 0 (by omega)
  have hn0 : m1 = 0 → wd m1 R1 = 0 := fun e => by unfold wd; rw [if_pos e]
  have HG1 := Lib.hid (show ∀ i j, i < m1 → j < wd m1 R1 → GV w (E1 i j).v (X i j) 32 from fun i j hi hj => (HX.out i j hi (by rw [HN.out i hi]; exact hj)).2 (HM1.out.2.2.2 i j hi (by rw [HN.out i hi]; exact hj)))
  have HB1 := Lib.hid (show ∀ i j, i < m1 → j < wd m1 R1 → Bd (X i j) 32 from fun i j hi hj => (HG1.out i j hi hj).bd)
  have hm6 := HM6.out
  have H3 := Lib.hid (fun (w' : World) (x : Ext w w') => rank_ok (c := c1) (X := X) (na := wd m1 R1) (N := 2340) (H1.out.ext x) (fun i j hi hj => (HX.out i j hi hj).1.ext x) HM1.out HN.out hn0 (by omega) (fun i j hi hj => ((HG1.out i j hi hj).ext x).up (by omega)) (by omega) (room6 HM6.out HB1.out))
  have hq := fun (w' : World) (x : Ext w w') => qRank_ok (c := c1) (X := X) (n := wd m1 R1) (N := 2720) (ND := 2320) (H1.out.ext x) (fun i j hi hj => (HX.out i j hi hj).1.ext x) HM1.out HN.out (fun i j hi hj => ((HG1.out i j hi hj).ext x).up (by omega)) hn0 (by omega) (by omega) (by omega) (by omega) (roomR6 HM6.out HB1.out)
  rw [rech_r] at hq
  have H4 := Lib.hid hq; clear hq
  by_cases hsq : m1 = wd m1 R1
  rotate_left
  · have H5 := Lib.hid (fun (w' : World) (x : Ext w w') => det_cnt (c := c1) (H1.out.ext x) (fun i j hi hj => (HX.out i j hi hj).1.ext x) HM1.out hsq)
    have H6 := Lib.hid (fun (w' : World) (x : Ext w w') => qDet_cnt (c := c1) (H1.out.ext x) (fun i j hi hj => (HX.out i j hi hj).1.ext x) HM1.out hsq)
    clear hsq
    go_enter Tryz.func3, Tryz.ntmps3
    have HE := Lib.hid (Ext.new w (.cells #[.slice A1 m1 c1] 22))
    go_wp2_with fail
    refine (HSm.out).mono ?_
    rintro e w1 ⟨rfl, hx⟩
    replace HE := Lib.hid (HE.out.trans hx); clear hx
    go_wp2_with fail
    refine (H3.out _ HE.out).mono ?_
    rintro e w2 ⟨rfl, hx⟩
    replace HE := Lib.hid (HE.out.trans hx); clear hx
    go_wp2_with fail
    refine (H4.out _ HE.out).mono ?_
    rintro e w3 ⟨rfl, hx⟩
    replace HE := Lib.hid (HE.out.trans hx); clear hx
    go_wp2_with fail
    refine (H5.out _ HE.out).mono ?_
    rintro e w4 ⟨rfl, hx⟩
    replace HE := Lib.hid (HE.out.trans (hx.trans (Ext.new w4 (.cells #[.bool false, .slice none 0 0, .bool false, .slice none 0 0, .bool false, .slice none 0 0] 32)))); clear hx
    go_wp2_with fail
    generalize (w4.alloc (.cells #[.bool false, .slice none 0 0, .bool false, .slice none 0 0, .bool false, .slice none 0 0] 32)) = w4n at HE ⊢
    generalize w4.heap.size = gw4
    refine (H6.out _ HE.out).mono ?_
    rintro e w5 ⟨rfl, hx⟩
    replace HE := Lib.hid (HE.out.trans (hx.trans (Ext.new w5 (.cells #[.bool false, .slice none 0 0, .bool false, .slice none 0 0, .bool false, .slice none 0 0] 32)))); clear hx
    go_wp2_with fail
    generalize (w5.alloc (.cells #[.bool false, .slice none 0 0, .bool false, .slice none 0 0, .bool false, .slice none 0 0] 32)) = w5n at HE ⊢
    generalize w5.heap.size = gw5
    refine (llknown_ok _).mono ?_
    rintro e w9 ⟨rfl, hx⟩
    replace HE := Lib.hid (HE.out.trans hx); clear hx
    go_wp2_with fail
    go_ret
    exact ⟨rfl, HE.out⟩
  generalize hwd : wd m1 R1 = n at *
  subst hsq
  have H5 := Lib.hid (fun (w' : World) (x : Ext w w') => det_ok (c := c1) (X := X) (N := 2340) (N2 := 2340) (H1.out.ext x) (fun i j hi hj => (HX.out i j hi hj).1.ext x) HM1.out HN.out (fun i j hi hj => ((HG1.out i j hi hj).ext x).up (by omega)) (by omega) (room6 HM6.out HB1.out) (pp6 HM6.out HB1.out) (dg6 HM6.out HB1.out) (by omega) (by omega))
  have hq := fun (w' : World) (x : Ext w w') => qDet_ok (c := c1) (X := X) (N := 2720) (ND := 2320) (H1.out.ext x) (fun i j hi hj => (HX.out i j hi hj).1.ext x) HM1.out HN.out (fun i j hi hj => ((HG1.out i j hi hj).ext x).up (by omega)) (by omega) (by omega) (by omega) (roomR6 HM6.out HB1.out)
  have hrd : rdet m1 m1 X = detv m1 X := rdet_detv m1 X
  rw [hrd] at hq
  have H6 := Lib.hid hq; clear hq hrd hwd
  go_enter Tryz.func3, Tryz.ntmps3
  have HE := Lib.hid (Ext.new w (.cells #[.slice A1 m1 c1] 22))
  go_wp2_with fail
  refine (HSm.out).mono ?_
  rintro e w1 ⟨rfl, hx⟩
  replace HE := Lib.hid (HE.out.trans hx); clear hx
  go_wp2_with fail
  refine (H3.out _ HE.out).mono ?_
  rintro e w2 ⟨rfl, hx⟩
  replace HE := Lib.hid (HE.out.trans hx); clear hx
  go_wp2_with fail
  refine (H4.out _ HE.out).mono ?_
  rintro e w3 ⟨rfl, hx⟩
  replace HE := Lib.hid (HE.out.trans hx); clear hx
  go_wp2_with fail
  refine (H5.out _ HE.out).mono ?_
  rintro e w4 ⟨v, rfl, hv, hx⟩
  obtain ⟨s41, D41, n41, k41, s42, D42, n42, k42, s43, D43, n43, k43, rfl⟩ := hv.opn
  have hxn := Ext.new w4 (.cells #[.bool s41, .slice D41 n41 k41, .bool s42, .slice D42 n42 k42, .bool s43, .slice D43 n43 k43] 32)
  have HV4 := Lib.hid (hv.ext hxn)
  have HK4 := Lib.hid (Blk.new w4 32 #[.bool s41, .slice D41 n41 k41, .bool s42, .slice D42 n42 k42, .bool s43, .slice D43 n43 k43])
  replace HE := Lib.hid (HE.out.trans (hx.trans hxn)); clear hx hv hxn
  go_wp2_with fail
  generalize (w4.alloc (.cells #[.bool s41, .slice D41 n41 k41, .bool s42, .slice D42 n42 k42, .bool s43, .slice D43 n43 k43] 32)) = w4n at HV4 HK4 HE ⊢
  generalize w4.heap.size = g4 at HK4 ⊢
  refine (H6.out _ HE.out).mono ?_
  rintro e w5 ⟨v, rfl, hv, hx⟩
  obtain ⟨s51, D51, n51, k51, s52, D52, n52, k52, s53, D53, n53, k53, rfl⟩ := hv.opn
  have hxn := Ext.new w5 (.cells #[.bool s51, .slice D51 n51 k51, .bool s52, .slice D52 n52 k52, .bool s53, .slice D53 n53 k53] 32)
  have HV5 := Lib.hid (hv.ext hxn)
  have HK5 := Lib.hid (Blk.new w5 32 #[.bool s51, .slice D51 n51 k51, .bool s52, .slice D52 n52 k52, .bool s53, .slice D53 n53 k53])
  replace HV4 := Lib.hid (HV4.out.ext (hx.trans hxn)); replace HK4 := Lib.hid (HK4.out.ext (hx.trans hxn))
  replace HE := Lib.hid (HE.out.trans (hx.trans hxn)); clear hx hv hxn
  go_wp2_with fail
  generalize (w5.alloc (.cells #[.bool s51, .slice D51 n51 k51, .bool s52, .slice D52 n52 k52, .bool s53, .slice D53 n53 k53] 32)) = w5n at HV4 HK4 HV5 HK5 HE ⊢
  generalize w5.heap.size = g5 at HK5 ⊢
  refine (llknown_ok _).mono ?_
  rintro e w9 ⟨rfl, hx⟩
  replace HE := Lib.hid (HE.out.trans hx)
  have kd4 := (HK4.out.ext hx).cell; have kd5 := (HK5.out.ext hx).cell
  have HV41 := Lib.hid (HV4.out.ext hx); have HV51 := Lib.hid (HV5.out.ext hx)
  clear hx
  go_wp2_with fail
  refine (qSame_q _ _ (detv m1 X) (detv m1 X) 12800 12800 _ HV41.out HV51.out rfl).mono ?_
  rintro e w10 ⟨rfl, hx⟩
  replace HE := Lib.hid (HE.out.trans hx); clear hx
  go_wp2_with fail
  go_ret
  exact ⟨rfl, HE.out⟩
end Go.Proofs.YtclkkoiaaddllaaGreat

