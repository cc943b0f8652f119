/- Linear: Determinant. -/
import Derived.Test.YtclkkoiaaddllaaGreatQYnkopo
namespace Go.Proofs.YtclkkoiaaddllaaGreat
open Go.RowKit
set_option linter.unusedVariables false

/-- The product of the first k entries of the diagonal. -/
def pprod (X : Nat → Nat → GQ) : Nat → GQ
  | 0 => GQ.i 1 0
  | k + 1 => pprod X k * X k k
/-- What Determinant returns. -/
def detv (m : Nat) (X : Nat → Nat → GQ) : GQ := if (ech m X m).r < m then GQ.i 0 0 else if (ech m X m).odd then GQ.i 0 0 - pprod (ech m X m).X m else pprod (ech m X m).X m
theorem EI.mod {S : Nat → Prop} {W W' : World} {gf Ga Gb m na nb : Nat} {PA PB : Nat → Prop} {Z : Nat → Nat → GQ} (h : EI W gf Ga Gb m na nb PA PB Z) (hm : Mod S W W') (hS : Far S W) (h1 : ¬ S gf) (h2 : ¬ S Ga) (h3 : ¬ S Gb) (h4 : ∀ g, PA g → ¬ S g) (h5 : ∀ g, PB g → ¬ S g) : EI W' gf Ga Gb m na nb PA PB Z := by
  obtain ⟨c, ⟨R, a⟩, ⟨R2, b⟩⟩ := h
  exact ⟨Blk.mod c hm h1, ⟨R, a.mod hm hS h2 fun j hj hn => h4 _ (a.mem j hj hn)⟩, ⟨R2, b.mod hm hS h3 fun j hj hn => h5 _ (b.mem j hj hn)⟩⟩
set_option maxRecDepth 100000 in
set_option maxHeartbeats 6400000 in
theorem det_ok {A : Option Addr} {B O m c N N2 : Nat} {R : Nat → Rw} {E : Nat → Nat → En} {X : Nat → Nat → GQ} {w : World} {vb : Nat → Nat → Bool} (h : Mem w A B O m R E) (hvb : ∀ i j, i < m → j < (R i).n → VB w (E i j).v (vb i j)) (hM : IsM m R vb) (hn : ∀ i, i < m → (R i).n = m)
    (hv : ∀ i j, i < m → j < m → GV w (E i j).v (X i j) 12800) (hN : 4 * N + 67 ≤ 12800) (hroom : Room N m m 0 X) (hd1 : ¬ (ech m X m).r < m → ∀ k, k ≤ m → Bd (pprod (ech m X m).X k) N2) (hd2 : ∀ i, i < m → Bd ((ech m X m).X i i) N2) (hN1 : 64 ≤ N2) (hN2 : 2 * N2 + 65 ≤ 12800) :
    Calls Tryz.prog 12 #[.slice A m c] w fun e w' => ∃ v, e = .returned (.tuple #[v, .int .i64 0]) ∧ GV w' v (detv m X) 12800 ∧ Ext w w' := by
  have hm := hM.1
  have hdv : detv m X = if (ech m X m).r < m then GQ.i 0 0 else if (ech m X m).odd then GQ.i 0 0 - pprod (ech m X m).X m else pprod (ech m X m).X m := rfl
  generalize detv m X = d at hdv ⊢
  have HDV := Lib.hid hdv; clear hdv
  have HM := Lib.hid h; have HV := Lib.hid hv; have HN := Lib.hid hn; have HR := Lib.hid hroom; have HD1 := Lib.hid hd1; have HD2 := Lib.hid hd2
  have HMx := Lib.hid (fun (w' : World) (x : Ext w w') => matrix_any (c := c) (h.ext x) (fun i j hi hj => (hvb i j hi hj).ext x) true ⟨fun _ => hM, fun _ => rfl⟩)
  have HWd := Lib.hid (fun (w' : World) (x : Ext w w') => width_any (c := c) (h.ext x))
  have hwd : wd m R = m := by
    unfold wd
    by_cases e : m = 0
    · rw [if_pos e]; exact e.symm
    · rw [if_neg e]; exact hn 0 (by omega)
  rw [hwd] at HWd
  clear h hv hn hroom hvb hM hwd hd1 hd2
  have hmk := make_mx m (by omega)
  have hbeq : ((m : Int) != (m : Int)) = false := by simp
  have hE0 := Ext.new w (.cells #[.bool false, .slice none 0 0, .bool false, .slice none 0 0, .bool false, .slice none 0 0] 32)
  have hB2 := Blk.new w 32 #[.bool false, .slice none 0 0, .bool false, .slice none 0 0, .bool false, .slice none 0 0]
  go_enter Tryz.func12, Tryz.ntmps12
  go_wp2_with fail
  generalize (w.alloc (.cells #[.bool false, .slice none 0 0, .bool false, .slice none 0 0, .bool false, .slice none 0 0] 32)) = w0 at hE0 hB2 ⊢
  generalize hg2 : w.heap.size = g2 at hB2 ⊢
  have HG2 := Lib.hid hg2; clear hg2
  refine (HMx.out _ hE0).mono ?_
  rintro e w1 ⟨rfl, hx1⟩
  have HE1 := Lib.hid (hE0.trans hx1); have HB2 := Lib.hid (hB2.ext hx1); clear hx1 hE0 hB2
  go_wp2_with fail
  refine (HWd.out _ HE1.out).mono ?_
  rintro e w2 ⟨rfl, hx2⟩
  have HE2 := Lib.hid (HE1.out.trans hx2); have HB22 := Lib.hid (HB2.out.ext hx2); clear hx2 HE1 HB2
  have hC3 := calm_new w2
  have HE3 := Lib.hid (HE2.out.alloc (.cells #[.int .i64 0] 68)); have HB3 := Lib.hid (HB22.out.alloc (.cells #[.int .i64 0] 68))
  clear HE2 HB22
  go_wp2_with fail
  have hlt4 := hC3.lt
  generalize (w2.alloc (.cells #[.int .i64 0] 68)) = w3 at hC3 HE3 HB3 hlt4 ⊢
  generalize w2.heap.size = g4 at hC3 hlt4 ⊢
  have HC3 := Lib.hid hC3; clear hC3
  refine (dup_w (HM.out.ext HE3.out) HN.out (fun i j hi hj => (HV.out i j hi hj).ext HE3.out) hm hm).mono ?_
  rintro e wd_ ⟨Gd, Rd, rfl, hD⟩
  have hxm := hD.ext.alloc (.cells (mxc m fun _ => nilRw).toArray 37)
  have HBm := Lib.hid (Blk.new wd_ 37 (mxc m fun _ => nilRw).toArray)
  have HNE := Lib.hid (show Gd ≠ wd_.heap.size from by have := hD.out.lt; omega)
  have HLB := Lib.hid (show w3.heap.size ≤ wd_.heap.size from hD.ext.size)
  have HD := Lib.hid hD; clear hD
  have HXm := Lib.hid hxm; clear hxm
  have HXd := Lib.hid (Ext.new wd_ (.cells (mxc m fun _ => nilRw).toArray 37))
  go_wp2_with fail
  generalize wd_.alloc (.cells (mxc m fun _ => nilRw).toArray 37) = wm at HBm HXm HXd ⊢
  generalize wd_.heap.size = Gb at HBm HNE HLB ⊢
  refine (echelon_nil (B0 := w3.heap.size) HD.out HXd.out HBm.out HNE.out (HC3.out.ext HXm.out) (Nat.le_refl _) HLB.out (fun h => h) hm hm hN HR.out).mono ?_
  rintro e w7 ⟨rfl, hEI, hMod⟩
  have HX7 := Lib.hid (hMod.ext_of HXm.out (Nat.le_refl _))
  have hsz7 := hMod.size
  clear hMod
  have HPA : Hid (∀ i, i < m → (Rd i).b < w7.heap.size) := Lib.hid fun i hi => by
    obtain ⟨cs, hcs⟩ := (HD.out.row i hi).2.1.blk
    have h1 := (hcs.ext HXd.out).lt
    have := hsz7; omega
  have HE7 := Lib.hid (HE3.out.trans HX7.out); have HB7 := Lib.hid (HB3.out.ext HX7.out)
  have hcalm := hEI.calm
  have e0 := hcalm.cell
  have HEI := Lib.hid hEI; have HC7 := Lib.hid hcalm
  clear hcalm hEI HXm HXd HBm HNE HLB HD HB3 HE3 HX7
  generalize ech m X m = s at HD1 HD2 HEI HDV ⊢
  by_cases hr : s.r < m
  · have dr : decide ((s.r : Int) < (m : Int)) = true := by simp; omega
    have hdz : d = GQ.i 0 0 := by rw [HDV.out, if_pos hr]
    go_wp2_with fail
    refine (fzero_ok g4 _ HC7.out).mono ?_
    rintro e w8 ⟨v, rfl, hv, hx8⟩
    obtain ⟨t1, B1, m1, b1, t2, B2, m2, b2, t3, B3, m3, b3, rfl⟩ := hv.opn
    have hB8 := HB7.out.ext hx8
    have k6 := hB8.cell; have f6 := hB8.frozen
    obtain ⟨p1, p2, p3⟩ := put_gauss (HE7.out.trans hx8) (by have := HG2.out; omega) hB8 hv
    have P1 := Lib.hid p1; have P2 := Lib.hid p2; have P3 := Lib.hid p3
    clear p1 p2 p3 hB8 hv hx8
    go_wp2_with fail
    exact bp_gauss2 rfl rfl rfl P2.out ⟨_, rfl, hdz ▸ P3.out.up (by omega), P1.out⟩
  · have dr : decide ((s.r : Int) < (m : Int)) = false := by simp; omega
    have hdz : d = if s.odd then GQ.i 0 0 - pprod s.X m else pprod s.X m := by rw [HDV.out, if_neg hr]
    have HDZ := Lib.hid hdz; clear hdz HDV
    replace HD1 := Lib.hid (HD1.out hr)
    go_wp2_with fail
    refine (eOf_q 1 0 1 _ (by omega) (by omega) (by omega) (by omega) (by omega) (by omega) (by omega)).mono ?_
    rintro e w8 ⟨v, rfl, ⟨u, rfl, hu⟩, hx8⟩
    have e1 : (⟨((1 : Int) : Rat) / ((1 : Int) : Rat), ((0 : Int) : Rat) / ((1 : Int) : Rat)⟩ : GQ) = GQ.i 1 0 := by ext <;> simp only [GQ.i_re, GQ.i_im] <;> grind
    rw [e1] at hu
    go_wp2_with fail
    refine (fkeep_ok g4 u _ _ _ (HC7.out.ext hx8) hu).mono ?_
    rintro e w9 ⟨v, rfl, hv, hx9⟩
    obtain ⟨t1, B1, m1, b1, t2, B2, m2, b2, t3, B3, m3, b3, rfl⟩ := hv.opn
    have HE9 := Lib.hid ((HE7.out.trans hx8).trans hx9); have HB9 := Lib.hid ((HB7.out.ext hx8).ext hx9); have HEI9 := Lib.hid ((HEI.out.ext hx8).ext hx9); have HV9 := Lib.hid hv
    have hsz9 : w7.heap.size ≤ w9.heap.size := Nat.le_trans hx8.size hx9.size
    clear hx8 hx9 hu hv HE7 HB7 HEI HC7
    go_wp2_with fail
    have HE10 := Lib.hid (HE9.out.alloc (.cells #[.bool t1, .slice B1 m1 b1, .bool t2, .slice B2 m2 b2, .bool t3, .slice B3 m3 b3] 32)); have HB10 := Lib.hid (HB9.out.alloc (.cells #[.bool t1, .slice B1 m1 b1, .bool t2, .slice B2 m2 b2, .bool t3, .slice B3 m3 b3] 32)); have HEI10 := Lib.hid (HEI9.out.ext (Ext.new _ (.cells #[.bool t1, .slice B1 m1 b1, .bool t2, .slice B2 m2 b2, .bool t3, .slice B3 m3 b3] 32))); have HV10 := Lib.hid (HV9.out.ext (Ext.new _ (.cells #[.bool t1, .slice B1 m1 b1, .bool t2, .slice B2 m2 b2, .bool t3, .slice B3 m3 b3] 32))); have HG10 := Lib.hid (Blk.new w9 32 #[.bool t1, .slice B1 m1 b1, .bool t2, .slice B2 m2 b2, .bool t3, .slice B3 m3 b3])
    have HNG := Lib.hid (show g2 < w9.heap.size from HB9.out.lt)
    have HN4 := Lib.hid (show g4 < w9.heap.size from HEI9.out.calm.lt)
    have HNa : Hid (Gd < w9.heap.size ∧ Gb < w9.heap.size) := Lib.hid (by
      obtain ⟨_, ⟨_, a⟩, ⟨_, b⟩⟩ := HEI9.out
      exact ⟨a.out.lt, b.out.lt⟩)
    have HPA9 : Hid (∀ g, (∃ i, i < m ∧ g = (Rd i).b) → g < w9.heap.size) := Lib.hid (by
      rintro g ⟨i, hi, rfl⟩
      exact Nat.lt_of_lt_of_le (HPA.out i hi) hsz9)
    have HG2' := Lib.hid (show w.heap.size ≤ w9.heap.size from HE9.out.size)
    clear HE9 HB9 HV9 HEI9 HPA hsz9 hsz7
    generalize w9.alloc (.cells #[.bool t1, .slice B1 m1 b1, .bool t2, .slice B2 m2 b2, .bool t3, .slice B3 m3 b3] 32) = w10 at HE10 HB10 HEI10 HV10 HG10 ⊢
    generalize w9.heap.size = gp at HNG HN4 HNa HPA9 HG10 HG2' ⊢
    clear w8 w9
    go_loopw [46] (fun i wr => ∃ (k : Nat) (e : En), k ≤ m ∧ i = .int .i64 k ∧ Blk wr gp 32 e.cells.toArray ∧ GV wr e.v (pprod s.X k) N2 ∧ Mod (fun g => g = gp) w10 wr) (fun i _ => m - (intOf i).toNat)
    case atStart => exact ⟨0, ⟨t1, B1, m1, b1, t2, B2, m2, b2, t3, B3, m3, b3⟩, by omega, rfl, HG10.out, HV10.out.to (HD1.out 0 (by omega)), Mod.refl _ _⟩
    case round =>
      obtain ⟨k, e, hk, rfl, hb, hgv, hmr⟩ := hrel
      have HBp := Lib.hid (show Blk wr gp 32 #[.bool e.s1, .slice e.A1 e.n1 e.c1, .bool e.s2, .slice e.A2 e.n2 e.c2, .bool e.s3, .slice e.A3 e.n3 e.c3] from hb); have HGp := Lib.hid hgv; have HMr := Lib.hid hmr; clear hb hgv hmr
      have hfar : Far (fun g => g = gp) w10 := fun g hg _ => by subst hg; exact ⟨_, _, HG10.out, rfl⟩
      have HEr := Lib.hid (HEI10.out.mod HMr.out hfar (by have := HN4.out; omega) (by have := HNa.out.1; omega) (by have := HNa.out.2; omega) (fun g hg => by have := HPA9.out g hg; omega) (fun g hg => hg.elim))
      have HEx : Hid (Ext w wr) := Lib.hid (by
        have hX := HE10.out; have hM := HMr.out
        exact ⟨hM.os.trans hX.os, hM.tape.trans hX.tape, hM.output.trans hX.output, Nat.le_trans hX.size hM.size, fun k hk => (hM.block k (Nat.lt_of_lt_of_le hk hX.size) (by have := HG2'.out; omega)).trans (hX.block k hk)⟩)
      have HB2r := Lib.hid (HB10.out.mod HMr.out (by show ¬ g2 = gp; have := HNG.out; omega))
      clear hfar
      by_cases hlt : k < m
      · have hd : decide ((k : Int) < (m : Int)) = true := by simp; omega
        obtain ⟨hcal, ⟨R2, hA⟩, _⟩ := HEr.out
        obtain ⟨hra, f, hf, hvf⟩ := hA.row k hlt (by omega)
        have k1 := hA.cell hlt
        rw [hra] at k1
        obtain ⟨a0, a1, a2, a3, a4, a5⟩ := RowIs.cells hf hlt rfl
        have A0 := ExtOf.cell a0; have A1 := ExtOf.cell a1; have A2 := ExtOf.cell a2; have A3 := ExtOf.cell a3; have A4 := ExtOf.cell a4; have A5 := ExtOf.cell a5
        have K1 := ExtOf.cell k1; have BP := ExtOf.blk HBp.out
        have HVF := Lib.hid ((hvf k hlt).to (HD2.out k hlt)); have HCr := Lib.hid hcal
        clear hra hf hvf hcal hA k1 a0 a1 a2 a3 a4 a5
        go_wp2_with fail
        refine wp_region_ordE 9 [(true, 0), (true, 1), (true, 2), (true, 3), (true, 4), (true, 5), (true, 6), (true, 7), (false, 8)] (by kernel_rfl) (by kernel_rfl) ?_
        refine wpOrdT_quiet [0, 1, 2, 3, 4, 5, 6, 7] [(false, 8)] _ (by kernel_rfl) ?_
        simp only [nthOps, nthOp, List.cons_append, List.nil_append]
        repeat (go_big_quiet_step (fail))
        refine wpQuiet_nil ?_
        refine wpOrdT_act 8 [] (by kernel_rfl) ?_
        intro K hK
        simp only [nthOp]
        go_wp2_with fail
        have hdd : Ext wr wr.drew := (Ext.refl _).drew
        refine (fmul_ok g4 _ _ (pprod s.X k) (s.X k k) N2 N2 _ (HCr.out.ext hdd) (HGp.out.ext hdd) (HVF.out.ext hdd) (by omega)).mono ?_
        rintro e w4 ⟨v4, rfl, hv4, hx4⟩
        obtain ⟨u1, D1, p1, q1, u2, D2, p2, q2, u3, D3, p3, q3, rfl⟩ := hv4.opn
        have HX4 := Lib.hid hx4.undrew; have HV4 := Lib.hid hv4
        clear hx4 hv4 hdd
        go_wp2
        refine hK _ _ ⟨⟨w4, HX4.out⟩, rfl⟩ ?_
        clear hK K
        simp only [wpOrdT, List.drop_succ_cons, List.drop_zero]
        clear A0 A1 A2 A3 A4 A5 K1 BP
        have HB4 := Lib.hid (HBp.out.ext HX4.out)
        have kp := HB4.out.cell; have fp := HB4.out.frozen
        have hm4 : Mod (fun g => g = gp) w4 (puts w4 gp 0 [.bool u1, .slice D1 p1 q1, .bool u2, .slice D2 p2 q2, .bool u3, .slice D3 p3 q3]) := Mod.only (puts_only _ _ _ _) rfl
        have hS4 : Far (fun g => g = gp) w4 := fun g hg _ => by subst hg; exact ⟨_, _, HB4.out, rfl⟩
        have hb5 := puts_blk 0 [.bool u1, .slice D1 p1 q1, .bool u2, .slice D2 p2 q2, .bool u3, .slice D3 p3 q3] HB4.out
        have ec : setsA #[.bool e.s1, .slice e.A1 e.n1 e.c1, .bool e.s2, .slice e.A2 e.n2 e.c2, .bool e.s3, .slice e.A3 e.n3 e.c3] 0 [.bool u1, .slice D1 p1 q1, .bool u2, .slice D2 p2 q2, .bool u3, .slice D3 p3 q3] = #[.bool u1, .slice D1 p1 q1, .bool u2, .slice D2 p2 q2, .bool u3, .slice D3 p3 q3] := by kernel_rfl
        rw [ec] at hb5
        have HB5 := Lib.hid hb5; have HV5 := Lib.hid (HV4.out.mod hm4 hS4); have HM5 := Lib.hid ((HMr.out.trans (Mod.of HX4.out)).trans hm4)
        clear hb5 hm4 hS4 ec
        go_wp2_with fail
        go_roundw
        case rel => exact ⟨k + 1, ⟨u1, D1, p1, q1, u2, D2, p2, q2, u3, D3, p3, q3⟩, by omega, by go_num, HB5.out, HV5.out.to (HD1.out (k + 1) (by omega)), HM5.out⟩
        case measure => simp [intOf]; omega
      · obtain rfl : k = m := by omega
        have hd : decide ((k : Int) < (k : Int)) = false := by simp
        have kp := HBp.out.cell
        have hcal := HEr.out.calm
        have HCr := Lib.hid hcal
        have e0 := hcal.cell
        cases ho : s.odd
        · have hdz2 : d = pprod s.X k := by rw [HDZ.out, ho]; rfl
          have HDZ2 := Lib.hid hdz2; clear hdz2
          have kp2 := HB2r.out.cell; have fp2 := HB2r.out.frozen
          obtain ⟨p1, p2, p3⟩ := put_gauss HEx.out (by have := HG2.out; omega) HB2r.out HGp.out
          have P1 := Lib.hid p1; have P2 := Lib.hid p2; have P3 := Lib.hid p3
          clear p1 p2 p3 hcal
          go_wp2_with fail
          exact bp_gauss2 rfl rfl rfl P2.out ⟨_, rfl, HDZ2.out ▸ P3.out.up (by omega), P1.out⟩
        · have hdz2 : d = GQ.i 0 0 - pprod s.X k := by rw [HDZ.out, ho]; rfl
          have HDZ2 := Lib.hid hdz2; clear hdz2
          clear kp e0 hcal
          have BP := ExtOf.blk HBp.out
          go_wp2_with fail
          refine wp_region_ordE 3 [(true, 1), (false, 0), (false, 2)] (by kernel_rfl) (by kernel_rfl) ?_
          refine wpOrdT_quiet [1] [(false, 0), (false, 2)] _ (by kernel_rfl) ?_
          simp only [nthOps, nthOp, List.cons_append, List.nil_append]
          repeat (go_big_quiet_step (fail))
          refine wpQuiet_nil ?_
          refine wpOrdT_act 0 [(false, 2)] (by kernel_rfl) ?_
          intro K hK
          simp only [nthOp]
          go_wp2_with fail
          have hdd : Ext wr wr.drew := (Ext.refl _).drew
          refine (fzero_ok g4 _ (HCr.out.ext hdd)).mono ?_
          rintro e w4 ⟨v4, rfl, hv4, hx4⟩
          have HX4 := Lib.hid hx4.undrew; have HV4 := Lib.hid hv4
          clear hx4 hv4 hdd
          go_wp2
          refine hK _ _ ⟨⟨w4, HX4.out⟩, rfl⟩ ?_
          clear hK K
          refine wpOrdT_act 2 [] (by kernel_rfl) ?_
          intro K hK
          simp only [nthOp]
          go_wp2_with fail
          refine (fsub_ok g4 _ _ (GQ.i 0 0) (pprod s.X k) 64 N2 _ (HCr.out.ext HX4.out) HV4.out (HGp.out.ext HX4.out) (by omega)).mono ?_
          rintro e w5 ⟨v5, rfl, hv5, hx5⟩
          obtain ⟨u1, D1, p1, q1, u2, D2, p2, q2, u3, D3, p3, q3, rfl⟩ := hv5.opn
          have HX5 := Lib.hid (HX4.out.trans hx5); have HV5 := Lib.hid hv5
          clear hx5 hv5
          go_wp2
          refine hK _ _ ⟨⟨w5, HX5.out⟩, rfl⟩ ?_
          clear hK K BP
          simp only [wpOrdT, List.drop_succ_cons, List.drop_zero]
          have HB4 := Lib.hid (HBp.out.ext HX5.out)
          have kp := HB4.out.cell; have fp := HB4.out.frozen
          have hm4 : Mod (fun g => g = gp) w5 (puts w5 gp 0 [.bool u1, .slice D1 p1 q1, .bool u2, .slice D2 p2 q2, .bool u3, .slice D3 p3 q3]) := Mod.only (puts_only _ _ _ _) rfl
          have hS4 : Far (fun g => g = gp) w5 := fun g hg _ => by subst hg; exact ⟨_, _, HB4.out, rfl⟩
          have hb5 := puts_blk 0 [.bool u1, .slice D1 p1 q1, .bool u2, .slice D2 p2 q2, .bool u3, .slice D3 p3 q3] HB4.out
          have ec : setsA #[.bool e.s1, .slice e.A1 e.n1 e.c1, .bool e.s2, .slice e.A2 e.n2 e.c2, .bool e.s3, .slice e.A3 e.n3 e.c3] 0 [.bool u1, .slice D1 p1 q1, .bool u2, .slice D2 p2 q2, .bool u3, .slice D3 p3 q3] = #[.bool u1, .slice D1 p1 q1, .bool u2, .slice D2 p2 q2, .bool u3, .slice D3 p3 q3] := by kernel_rfl
          rw [ec] at hb5
          have HM5 : Hid (Ext w (puts w5 gp 0 [.bool u1, .slice D1 p1 q1, .bool u2, .slice D2 p2 q2, .bool u3, .slice D3 p3 q3])) := Lib.hid (puts_ext (by exact HG2'.out) 0 _ (HEx.out.trans HX5.out))
          have HV6 := Lib.hid (HV5.out.mod hm4 hS4)
          have HC6 := Lib.hid (Blk.mod (HCr.out.ext HX5.out) hm4 (by show ¬ g4 = gp; have := HN4.out; omega))
          have HB6 := Lib.hid ((HB2r.out.ext HX5.out).mod hm4 (by show ¬ g2 = gp; have := HNG.out; omega))
          have HBq := Lib.hid hb5
          clear hm4 hS4 ec hb5 HX5 HV5 HB4 HEx HCr
          iterate 8 (try (first | go_values | go_skip | go_guarded | go_step | go_upon | go_in | go_back | go_simp))
          show Code.wp _ _ _ _ (puts w5 gp 0 [.bool u1, .slice D1 p1 q1, .bool u2, .slice D2 p2 q2, .bool u3, .slice D3 p3 q3])
          generalize puts w5 gp 0 [.bool u1, .slice D1 p1 q1, .bool u2, .slice D2 p2 q2, .bool u3, .slice D3 p3 q3] = w6 at HM5 HV6 HC6 HB6 HBq ⊢
          clear kp fp e0
          have e0 := Blk.cell HC6.out; have kq := HBq.out.cell
          have kp2 := HB6.out.cell; have fp2 := HB6.out.frozen
          obtain ⟨p1, p2, p3⟩ := put_gauss HM5.out (by have := HG2.out; omega) HB6.out HV6.out
          have P1 := Lib.hid p1; have P2 := Lib.hid p2; have P3 := Lib.hid p3
          clear p1 p2 p3
          go_wp2_with fail
          exact bp_gauss2 rfl rfl rfl P2.out ⟨_, rfl, HDZ2.out ▸ P3.out.up (by omega), P1.out⟩
end Go.Proofs.YtclkkoiaaddllaaGreat
