/- The walk of LinearMultiplies. -/
import Derived.Test.YtclkkoiaaddllaaGreatQVdgfeo
namespace Go.Proofs.YtclkkoiaaddllaaGreat
open Go.RowKit
set_option linter.unusedVariables false

theorem raw_vb {w : World} {m : Nat} {R : Nat → Rw} {E : Nat → Nat → En} (hr : ∀ i j, i < m → j < (R i).n → RawE w (E i j)) (hs : Sml m R E) :
    ∃ (vb : Nat → Nat → Bool) (X : Nat → Nat → GQ), ∀ i j, i < m → j < (R i).n → VB w (E i j).v (vb i j) ∧ (vb i j = true → GV w (E i j).v (X i j) 32) := by
  have h : ∀ i j, ∃ x : Bool × GQ, i < m → j < (R i).n → VB w (E i j).v x.1 ∧ (x.1 = true → GV w (E i j).v x.2 32) := fun i j => by
    by_cases hi : i < m
    · by_cases hj : j < (R i).n
      · obtain ⟨l1, l2, l3, hg⟩ := hr i j hi hj
        obtain ⟨k1, k2, k3⟩ := hs.2.2 i j hi hj
        rcases hg.cases (k := 1) k1 k2 k3 (by omega) with ⟨q, hq⟩ | hv
        · exact ⟨(true, q), fun _ _ => ⟨hq.vb (by omega), fun _ => hq⟩⟩
        · exact ⟨(false, GQ.i 0 0), fun _ _ => ⟨hv, fun h => by cases h⟩⟩
      · exact ⟨(false, GQ.i 0 0), fun _ h => absurd h hj⟩
    · exact ⟨(false, GQ.i 0 0), fun h => absurd h hi⟩
  obtain ⟨f, hf⟩ := Classical.axiomOfChoice (fun i => Classical.axiomOfChoice (h i))
  exact ⟨fun i j => (f i j).1, fun i j => (f i j).2, hf⟩
theorem small2 {w : World} {g : Nat} {A1 A2 : Option Addr} {B1 O1 m1 c1 B2 O2 m2 c2 : Nat} {R1 R2 : Nat → Rw} {E1 E2 : Nat → Nat → En} (h1 : Mem w A1 B1 O1 m1 R1 E1) (h2 : Mem w A2 B2 O2 m2 R2 E2) (hg : Blk w g 22 #[.slice A1 m1 c1, .slice A2 m2 c2])
    (b : Bool) (hb : b = true ↔ Sml m1 R1 E1 ∧ Sml m2 R2 E2) : Calls Tryz.prog 8 #[.slice (some ⟨g, 0, none⟩) 2 2] w fun e w' => e = .returned (.bool b) ∧ Ext w w' := by
  refine small_any (fA := fun k => if k = 0 then A1 else A2) (fB := fun k => if k = 0 then B1 else B2) (fO := fun k => if k = 0 then O1 else O2) (fm := fun k => if k = 0 then m1 else m2) (fc := fun k => if k = 0 then c1 else c2) (fR := fun k => if k = 0 then R1 else R2) (fE := fun k => if k = 0 then E1 else E2) ?_ ?_ (by omega) b ?_
  · intro k hk
    match k, hk with
    | 0, _ => exact h1
    | 1, _ => exact h2
  · intro k hk
    match k, hk with
    | 0, _ => rw [hg.cell]; rfl
    | 1, _ => rw [hg.cell]; rfl
  · rw [hb]
    constructor
    · rintro ⟨x, y⟩ k hk
      match k, hk with
      | 0, _ => exact x
      | 1, _ => exact y
    · intro h
      exact ⟨h 0 (by omega), h 1 (by omega)⟩
theorem qMul_g (v0 v1 : Value) (x y : GQ) (m n : Nat) (w : World) (hX : GV w v0 x m) (hY : GV w v1 y n) (hn : m + n + 1 ≤ 12800) :
    Calls Tryz.prog 17 #[v0, v1] w fun e w' => ∃ v, e = .returned v ∧ GV w' v (x * y) (m + n + 1) ∧ Ext w w' := by
  obtain ⟨a, b, d, h1, i1, s1⟩ := hX
  obtain ⟨a', b', d', h2, i2, s2⟩ := hY
  obtain ⟨u, v, t, h⟩ := is_ex (x * y)
  have K := MulOk.of i1 s1 i2 s2 h hn
  refine (qMul_ok v0 v1 a b d a' b' d' u v t m n w h1 h2 K).mono ?_
  rintro e w' ⟨z, he, hz, hx⟩
  exact ⟨z, he, ⟨u, v, t, hz, h, K.size⟩, hx⟩
theorem GV.bd {w : World} {v : Value} {q : GQ} {n : Nat} (h : GV w v q n) : Bd q n := by
  obtain ⟨a, b, d, _, h2, h3⟩ := h
  exact ⟨a, b, d, h2, h3⟩
theorem elem_rw : Elem Tryz.prog 22 37 1 24 := Elem.of Tryz.underlying22 (z := .slice none 0 0) info_row rfl (by omega)
theorem row_one (m : Nat) (R : Nat → Rw) : ∀ u ∈ mxc m R, u.oneCell' = true := by
  intro u hu
  obtain ⟨i, _, rfl⟩ := List.mem_map.1 hu
  rfl
theorem Mem.reads {w : World} {A : Option Addr} {B O m : Nat} {R : Nat → Rw} {E : Nat → Nat → En} (h : Mem w A B O m R E) : Reads w w.heap.size 1 A m (mxc m R) := by
  refine ⟨by rw [mxc_len]; omega, fun hm => ⟨⟨B, O, none⟩, h.at0 hm, lt_of_cell (h.row 0 hm), fun j u hu => ?_⟩⟩
  have hj : j < m := by have := (List.getElem?_eq_some_iff.1 hu).1; rwa [mxc_len] at this
  have := mxc_at (R := R) hj
  rw [List.getElem?_toArray] at this
  rw [this] at hu
  injection hu with hu
  subst hu
  rw [add_plain]; exact h.row j hj
/-- Two rows that lie one behind the other, exchanged in a block of one's own. -/
theorem swap_mem {w0 w : World} {A : Option Addr} {B O m g s : Nat} {R : Nat → Rw} {E : Nat → Nat → En} {cur : Array Value} (hM : Mem w0 A B O m R E) (hx : Ext w0 w) (hB : Blk w g 37 cur) (hc : ∀ i, i < m → cur[i]? = some (R i).v) (hg : w0.heap.size ≤ g) (hs : s + 1 < m) :
    Mem ((w.setCell ⟨g, s, none⟩ (R (s + 1)).v).setCell ⟨g, s + 1, none⟩ (R s).v) (some ⟨g, 0, none⟩) g 0 m (fun k => R (swp (s + 1) s k)) (fun k => E (swp (s + 1) s k)) ∧ Ext w0 ((w.setCell ⟨g, s, none⟩ (R (s + 1)).v).setCell ⟨g, s + 1, none⟩ (R s).v) := by
  have hB2 := (hB.set_ s (R (s + 1)).v).set_ (s + 1) (R s).v
  have hX : Ext w0 ((w.setCell ⟨g, s, none⟩ (R (s + 1)).v).setCell ⟨g, s + 1, none⟩ (R s).v) := (hx.setCell hg _).setCell hg _
  have hM2 := hM.ext hX
  have hsw : ∀ k, k < m → swp (s + 1) s k < m := fun k hk => swp_lt hs (by omega) hk
  have hsz : ∀ i, i < m → i < cur.size := fun i hi => (Array.getElem?_eq_some_iff.1 (hc i hi)).1
  refine ⟨⟨fun _ => rfl, fun i hi => ?_, fun i hi hn => hM2.ra _ (hsw i hi) hn, fun i j hi hj t u hu => hM2.el _ j (hsw i hi) hj t u hu, hM2.lm, fun i hi => hM2.ln _ (hsw i hi)⟩, hX⟩
  rw [hB2.cell, Nat.zero_add]
  by_cases e1 : i = s + 1
  · subst e1
    have := hsz (s + 1) hi
    simp [swp_k, this]
  · by_cases e2 : i = s
    · subst e2
      have := hsz i hi
      simp [swp_r, this]
    · rw [swp_ne e1 e2]
      simp only [Array.getElem?_setIfInBounds]
      rw [if_neg (by omega), if_neg (by omega)]
      exact hc i hi
set_option maxRecDepth 100000 in
set_option maxHeartbeats 12800000 in
theorem multiplies_any {A1 A2 : Option Addr} {B1 O1 m1 c1 B2 O2 m2 c2 : Nat} {R1 R2 : Nat → Rw} {E1 E2 : Nat → Nat → En} {w : World} (h1 : Mem w A1 B1 O1 m1 R1 E1) (h2 : Mem w A2 B2 O2 m2 R2 E2) (r1 : ∀ i j, i < m1 → j < (R1 i).n → RawE w (E1 i j)) (r2 : ∀ i j, i < m2 → j < (R2 i).n → RawE w (E2 i j))
    (t : Int) (ht0 : -9223372036854775808 ≤ t) (ht1 : t ≤ 9223372036854775807) :
    Calls Tryz.prog 4 #[.slice A1 m1 c1, .slice A2 m2 c2, .int .i64 t] w fun e w' => e = .returned (.bool true) ∧ Ext w w' := by
  have H1 := Lib.hid h1; have H2 := Lib.hid h2; have HR1 := Lib.hid r1; have HR2 := Lib.hid r2
  have hbk : Blk (w.alloc (.cells #[.slice A1 m1 c1, .slice A2 m2 c2] 22)) w.heap.size 22 #[.slice A1 m1 c1, .slice A2 m2 c2] := Blk.new _ _ _
  have hsm := fun b hb => small2 (h1.ext (Ext.new w (.cells #[.slice A1 m1 c1, .slice A2 m2 c2] 22))) (h2.ext (Ext.new w (.cells #[.slice A1 m1 c1, .slice A2 m2 c2] 22))) hbk b hb
  clear h1 h2 r1 r2 hbk
  by_cases hS : Sml m1 R1 E1 ∧ Sml m2 R2 E2
  rotate_left
  · have HSm := Lib.hid (hsm false (by simp only [Bool.false_eq_true, false_iff]; exact hS))
    clear hsm hS
    go_enter Tryz.func4, Tryz.ntmps4
    have HE := Lib.hid (Ext.new w (.cells #[.slice A1 m1 c1, .slice A2 m2 c2] 22))
    go_wp2_with fail
    refine (HSm.out).mono ?_
    rintro e w1 ⟨rfl, hx⟩
    replace HE := Lib.hid (HE.out.trans hx); clear hx
    go_wp2_with fail
    refine (llknown_ok _).mono ?_
    rintro e w9 ⟨rfl, hx⟩
    replace HE := Lib.hid (HE.out.trans hx); clear hx
    go_wp2_with fail
    go_ret
    exact ⟨rfl, HE.out⟩
  have HSm := Lib.hid (hsm true (by simp only [true_iff]; exact hS))
  clear hsm
  obtain ⟨vb1, X, hX⟩ := raw_vb HR1.out hS.1
  obtain ⟨vb2, Y, hY⟩ := raw_vb HR2.out hS.2
  have HX := Lib.hid hX; have HY := Lib.hid hY; have HS6 := Lib.hid hS
  clear hX hY hS HR1 HR2
  have hqa := fun b (hb : b = true ↔ IsM m1 R1 vb1) => Lib.hid (fun (w' : World) (x : Ext w w') => qMatrix_any (c := c1) (H1.out.ext x) (fun i j hi hj => (HX.out i j hi hj).1.ext x) b hb)
  have hqb := fun b (hb : b = true ↔ IsM m2 R2 vb2) => Lib.hid (fun (w' : World) (x : Ext w w') => qMatrix_any (c := c2) (H2.out.ext x) (fun i j hi hj => (HY.out i j hi hj).1.ext x) b hb)
  by_cases hM1 : IsM m1 R1 vb1
  rotate_left
  · have HQa := hqa false (by simp only [Bool.false_eq_true, false_iff]; exact hM1)
    clear hqa hqb hM1
    go_enter Tryz.func4, Tryz.ntmps4
    have HE := Lib.hid (Ext.new w (.cells #[.slice A1 m1 c1, .slice A2 m2 c2] 22))
    go_wp2_with fail
    refine (HSm.out).mono ?_
    rintro e w1 ⟨rfl, hx⟩
    replace HE := Lib.hid (HE.out.trans hx); clear hx
    go_wp2_with fail
    refine (HQa.out _ HE.out).mono ?_
    rintro e w2 ⟨rfl, hx⟩
    replace HE := Lib.hid (HE.out.trans hx); clear hx
    go_wp2_with fail
    refine (llknown_ok _).mono ?_
    rintro e w9 ⟨rfl, hx⟩
    replace HE := Lib.hid (HE.out.trans hx); clear hx
    go_wp2_with fail
    go_ret
    exact ⟨rfl, HE.out⟩
  have HQa := hqa true (by simp only [true_iff]; exact hM1)
  have HM1 := Lib.hid hM1
  clear hqa hM1
  by_cases hM2 : IsM m2 R2 vb2
  rotate_left
  · have HQb := hqb false (by simp only [Bool.false_eq_true, false_iff]; exact hM2)
    clear hqb hM2
    go_enter Tryz.func4, Tryz.ntmps4
    have HE := Lib.hid (Ext.new w (.cells #[.slice A1 m1 c1, .slice A2 m2 c2] 22))
    go_wp2_with fail
    refine (HSm.out).mono ?_
    rintro e w1 ⟨rfl, hx⟩
    replace HE := Lib.hid (HE.out.trans hx); clear hx
    go_wp2_with fail
    refine (HQa.out _ HE.out).mono ?_
    rintro e w2 ⟨rfl, hx⟩
    replace HE := Lib.hid (HE.out.trans hx); clear hx
    go_wp2_with fail
    refine (HQb.out _ HE.out).mono ?_
    rintro e w3 ⟨rfl, hx⟩
    replace HE := Lib.hid (HE.out.trans hx); clear hx
    go_wp2_with fail
    refine (llknown_ok _).mono ?_
    rintro e w9 ⟨rfl, hx⟩
    replace HE := Lib.hid (HE.out.trans hx); clear hx
    go_wp2_with fail
    go_ret
    exact ⟨rfl, HE.out⟩
  have HQb := hqb true (by simp only [true_iff]; exact hM2)
  have HM2 := Lib.hid hM2
  clear hqb hM2
  by_cases e3 : m1 = m2
  rotate_left
  · have d3 : ((m1 : Int) != (m2 : Int)) = true := by simp; omega
    clear e3
    go_enter Tryz.func4, Tryz.ntmps4
    have HE := Lib.hid (Ext.new w (.cells #[.slice A1 m1 c1, .slice A2 m2 c2] 22))
    go_wp2_with fail
    refine (HSm.out).mono ?_
    rintro e w1 ⟨rfl, hx⟩
    replace HE := Lib.hid (HE.out.trans hx); clear hx
    go_wp2_with fail
    refine (HQa.out _ HE.out).mono ?_
    rintro e w2 ⟨rfl, hx⟩
    replace HE := Lib.hid (HE.out.trans hx); clear hx
    go_wp2_with fail
    refine (HQb.out _ HE.out).mono ?_
    rintro e w3 ⟨rfl, hx⟩
    replace HE := Lib.hid (HE.out.trans hx); clear hx
    go_wp2_with fail
    refine (llknown_ok _).mono ?_
    rintro e w9 ⟨rfl, hx⟩
    replace HE := Lib.hid (HE.out.trans hx); clear hx
    go_wp2_with fail
    go_ret
    exact ⟨rfl, HE.out⟩
  subst e3
  have d3 : ((m1 : Int) != (m1 : Int)) = false := by simp
  by_cases e4 : m1 = 0
  · have d4 : ((m1 : Int) == 0) = true := by simp [e4]
    clear e4
    go_enter Tryz.func4, Tryz.ntmps4
    have HE := Lib.hid (Ext.new w (.cells #[.slice A1 m1 c1, .slice A2 m1 c2] 22))
    go_wp2_with fail
    refine (HSm.out).mono ?_
    rintro e w1 ⟨rfl, hx⟩
    replace HE := Lib.hid (HE.out.trans hx); clear hx
    go_wp2_with fail
    refine (HQa.out _ HE.out).mono ?_
    rintro e w2 ⟨rfl, hx⟩
    replace HE := Lib.hid (HE.out.trans hx); clear hx
    go_wp2_with fail
    refine (HQb.out _ HE.out).mono ?_
    rintro e w3 ⟨rfl, hx⟩
    replace HE := Lib.hid (HE.out.trans hx); clear hx
    go_wp2_with fail
    refine (llknown_ok _).mono ?_
    rintro e w9 ⟨rfl, hx⟩
    replace HE := Lib.hid (HE.out.trans hx); clear hx
    go_wp2_with fail
    go_ret
    exact ⟨rfl, HE.out⟩
  have d4 : ((m1 : Int) == 0) = false := by simp [e4]
  by_cases e5 : 3 < m1
  · have d5 : decide ((3 : Int) < (m1 : Int)) = true := by simp; omega
    clear e5
    go_enter Tryz.func4, Tryz.ntmps4
    have HE := Lib.hid (Ext.new w (.cells #[.slice A1 m1 c1, .slice A2 m1 c2] 22))
    go_wp2_with fail
    refine (HSm.out).mono ?_
    rintro e w1 ⟨rfl, hx⟩
    replace HE := Lib.hid (HE.out.trans hx); clear hx
    go_wp2_with fail
    refine (HQa.out _ HE.out).mono ?_
    rintro e w2 ⟨rfl, hx⟩
    replace HE := Lib.hid (HE.out.trans hx); clear hx
    go_wp2_with fail
    refine (HQb.out _ HE.out).mono ?_
    rintro e w3 ⟨rfl, hx⟩
    replace HE := Lib.hid (HE.out.trans hx); clear hx
    go_wp2_with fail
    refine (llknown_ok _).mono ?_
    rintro e w9 ⟨rfl, hx⟩
    replace HE := Lib.hid (HE.out.trans hx); clear hx
    go_wp2_with fail
    go_ret
    exact ⟨rfl, HE.out⟩
  have d5 : decide ((3 : Int) < (m1 : Int)) = false := by simp; omega
  have hA1 := H1.out.at0 (by omega); have hA2 := H2.out.at0 (by omega)
  subst hA1; subst hA2
  have q0 : (0 : Int) < (m1 : Int) := by omega
  by_cases e6 : m1 = (R1 0).n
  rotate_left
  · have d6 : ((m1 : Int) != ((R1 0).n : Int)) = true := by simp; omega
    clear e6
    go_enter Tryz.func4, Tryz.ntmps4
    have HE := Lib.hid (Ext.new w (.cells #[.slice (some ⟨B1, O1, none⟩) m1 c1, .slice (some ⟨B2, O2, none⟩) m1 c2] 22))
    go_wp2_with fail
    refine (HSm.out).mono ?_
    rintro e w1 ⟨rfl, hx⟩
    replace HE := Lib.hid (HE.out.trans hx); clear hx
    go_wp2_with fail
    refine (HQa.out _ HE.out).mono ?_
    rintro e w2 ⟨rfl, hx⟩
    replace HE := Lib.hid (HE.out.trans hx); clear hx
    go_wp2_with fail
    refine (HQb.out _ HE.out).mono ?_
    rintro e w3 ⟨rfl, hx⟩
    replace HE := Lib.hid (HE.out.trans hx); clear hx
    have hr1 := (H1.out.rowc (i := 0) (by omega) HE.out); have hr2 := (H2.out.rowc (i := 0) (by omega) HE.out)
    rw [Nat.add_zero] at hr1 hr2
    go_wp2_with fail
    refine (llknown_ok _).mono ?_
    rintro e w9 ⟨rfl, hx⟩
    replace HE := Lib.hid (HE.out.trans hx); clear hx
    go_wp2_with fail
    go_ret
    exact ⟨rfl, HE.out⟩
  have d6 : ((m1 : Int) != ((R1 0).n : Int)) = false := by simp; omega
  have E6 := Lib.hid e6; clear e6
  by_cases e7 : m1 = (R2 0).n
  rotate_left
  · have d7 : ((m1 : Int) != ((R2 0).n : Int)) = true := by simp; omega
    clear e7
    go_enter Tryz.func4, Tryz.ntmps4
    have HE := Lib.hid (Ext.new w (.cells #[.slice (some ⟨B1, O1, none⟩) m1 c1, .slice (some ⟨B2, O2, none⟩) m1 c2] 22))
    go_wp2_with fail
    refine (HSm.out).mono ?_
    rintro e w1 ⟨rfl, hx⟩
    replace HE := Lib.hid (HE.out.trans hx); clear hx
    go_wp2_with fail
    refine (HQa.out _ HE.out).mono ?_
    rintro e w2 ⟨rfl, hx⟩
    replace HE := Lib.hid (HE.out.trans hx); clear hx
    go_wp2_with fail
    refine (HQb.out _ HE.out).mono ?_
    rintro e w3 ⟨rfl, hx⟩
    replace HE := Lib.hid (HE.out.trans hx); clear hx
    have hr1 := (H1.out.rowc (i := 0) (by omega) HE.out); have hr2 := (H2.out.rowc (i := 0) (by omega) HE.out)
    rw [Nat.add_zero] at hr1 hr2
    go_wp2_with fail
    refine (llknown_ok _).mono ?_
    rintro e w9 ⟨rfl, hx⟩
    replace HE := Lib.hid (HE.out.trans hx); clear hx
    go_wp2_with fail
    go_ret
    exact ⟨rfl, HE.out⟩
  have d7 : ((m1 : Int) != ((R2 0).n : Int)) = false := by simp; omega
  have E7 := Lib.hid e7; clear e7
  by_cases e8 : t < 0
  · have d8 : decide (t < 0) = true := by simp; omega
    clear e8
    go_enter Tryz.func4, Tryz.ntmps4
    have HE := Lib.hid (Ext.new w (.cells #[.slice (some ⟨B1, O1, none⟩) m1 c1, .slice (some ⟨B2, O2, none⟩) m1 c2] 22))
    go_wp2_with fail
    refine (HSm.out).mono ?_
    rintro e w1 ⟨rfl, hx⟩
    replace HE := Lib.hid (HE.out.trans hx); clear hx
    go_wp2_with fail
    refine (HQa.out _ HE.out).mono ?_
    rintro e w2 ⟨rfl, hx⟩
    replace HE := Lib.hid (HE.out.trans hx); clear hx
    go_wp2_with fail
    refine (HQb.out _ HE.out).mono ?_
    rintro e w3 ⟨rfl, hx⟩
    replace HE := Lib.hid (HE.out.trans hx); clear hx
    have hr1 := (H1.out.rowc (i := 0) (by omega) HE.out); have hr2 := (H2.out.rowc (i := 0) (by omega) HE.out)
    rw [Nat.add_zero] at hr1 hr2
    go_wp2_with fail
    refine (llknown_ok _).mono ?_
    rintro e w9 ⟨rfl, hx⟩
    replace HE := Lib.hid (HE.out.trans hx); clear hx
    go_wp2_with fail
    go_ret
    exact ⟨rfl, HE.out⟩
  have d8 : decide (t < 0) = false := by simp; omega
  by_cases e9 : t ≥ (m1 : Int) - 1
  · have d9 : decide (t ≥ (m1 : Int) - 1) = true := by simp; omega
    clear e9
    go_enter Tryz.func4, Tryz.ntmps4
    have HE := Lib.hid (Ext.new w (.cells #[.slice (some ⟨B1, O1, none⟩) m1 c1, .slice (some ⟨B2, O2, none⟩) m1 c2] 22))
    go_wp2_with fail
    refine (HSm.out).mono ?_
    rintro e w1 ⟨rfl, hx⟩
    replace HE := Lib.hid (HE.out.trans hx); clear hx
    go_wp2_with fail
    refine (HQa.out _ HE.out).mono ?_
    rintro e w2 ⟨rfl, hx⟩
    replace HE := Lib.hid (HE.out.trans hx); clear hx
    go_wp2_with fail
    refine (HQb.out _ HE.out).mono ?_
    rintro e w3 ⟨rfl, hx⟩
    replace HE := Lib.hid (HE.out.trans hx); clear hx
    have hr1 := (H1.out.rowc (i := 0) (by omega) HE.out); have hr2 := (H2.out.rowc (i := 0) (by omega) HE.out)
    rw [Nat.add_zero] at hr1 hr2
    go_wp2_with fail
    refine (llknown_ok _).mono ?_
    rintro e w9 ⟨rfl, hx⟩
    replace HE := Lib.hid (HE.out.trans hx); clear hx
    go_wp2_with fail
    go_ret
    exact ⟨rfl, HE.out⟩
  obtain ⟨s, rfl⟩ : ∃ s : Nat, t = (s : Int) := ⟨t.toNat, by omega⟩
  have d9 : decide ((s : Int) ≥ (m1 : Int) - 1) = false := by simp; omega
  have hs1 : s + 1 < m1 := by omega
  have HMN := Lib.hid (show m1 = 2 ∨ m1 = 3 by omega)
  have hwd1 : wd m1 R1 = m1 := by unfold wd; rw [if_neg e4]; exact E6.out.symm
  have hwd2 : wd m1 R2 = m1 := by unfold wd; rw [if_neg e4]; exact E7.out.symm
  have HN1 := Lib.hid (show ∀ i, i < m1 → (R1 i).n = m1 from fun i hi => (HM1.out.2.2.1 i hi).trans hwd1)
  have HN2 := Lib.hid (show ∀ i, i < m1 → (R2 i).n = m1 from fun i hi => (HM2.out.2.2.1 i hi).trans hwd2)
  have HG1 := Lib.hid (show ∀ i j, i < m1 → j < m1 → GV w (E1 i j).v (X i j) 32 from fun i j hi hj => (HX.out i j hi (by rw [HN1.out i hi]; exact hj)).2 (HM1.out.2.2.2 i j hi (by rw [HN1.out i hi]; exact hj)))
  have HG2 := Lib.hid (show ∀ i j, i < m1 → j < m1 → GV w (E2 i j).v (Y i j) 32 from fun i j hi hj => (HY.out i j hi (by rw [HN2.out i hi]; exact hj)).2 (HM2.out.2.2.2 i j hi (by rw [HN2.out i hi]; exact hj)))
  have HB1 := Lib.hid (show ∀ i j, i < m1 → j < m1 → Bd (X i j) 32 from fun i j hi hj => (HG1.out i j hi hj).bd)
  have HB2 := Lib.hid (show ∀ i j, i < m1 → j < m1 → Bd (Y i j) 32 from fun i j hi hj => (HG2.out i j hi hj).bd)
  have HW1 := Lib.hid hwd1; have HW2 := Lib.hid hwd2
  clear hwd1 hwd2
  go_enter Tryz.func4, Tryz.ntmps4
  have HE := Lib.hid (Ext.new w (.cells #[.slice (some ⟨B1, O1, none⟩) m1 c1, .slice (some ⟨B2, O2, none⟩) m1 c2] 22))
  go_wp2_with fail
  refine (HSm.out).mono ?_
  rintro e w1 ⟨rfl, hx⟩
  replace HE := Lib.hid (HE.out.trans hx); clear hx
  go_wp2_with fail
  refine (HQa.out _ HE.out).mono ?_
  rintro e w2 ⟨rfl, hx⟩
  replace HE := Lib.hid (HE.out.trans hx); clear hx
  go_wp2_with fail
  refine (HQb.out _ HE.out).mono ?_
  rintro e w3 ⟨rfl, hx⟩
  replace HE := Lib.hid (HE.out.trans hx); clear hx
  have hr1 := (H1.out.rowc (i := 0) (by omega) HE.out); have hr2 := (H2.out.rowc (i := 0) (by omega) HE.out)
  rw [Nat.add_zero] at hr1 hr2
  go_wp2_with fail
  clear hr1 hr2 d3 d4 d5 d6 d7 d8 d9 HQa HQb HSm
  refine (product_ok (Na := 32) (Nb := 32) (Ns := 200) (X := X) (Y := Y) (H1.out.ext HE.out) (H2.out.ext HE.out) (fun i j hi hj => (HX.out i j hi hj).1.ext HE.out) (fun i j hi hj => (HY.out i j hi hj).1.ext HE.out) HM1.out HM2.out HW1.out HW2.out (fun i j hi hj => (HG1.out i j hi hj).ext HE.out) (fun i j hi hj => (HG2.out i j hi hj).ext HE.out) (fun i j u hi hj hu => (psum_bd HB1.out HB2.out (by omega) hi hj u hu).mono (by omega)) (by omega) (by omega) (by omega)).mono ?_
  rintro e w4 ⟨G, RX, rfl, hO, hx⟩
  have HO := Lib.hid hO; clear hO
  replace HE := Lib.hid (HE.out.trans hx); clear hx
  go_wp2_with fail
  refine (detS_ok (X := X) (H1.out.ext HE.out) (fun i j hi hj => (HX.out i j hi hj).1.ext HE.out) HM1.out HN1.out (fun i j hi hj => ((HG1.out i j hi hj).ext HE.out).up (by omega)) (by omega) (fun i j hi hj => (HB1.out i j hi hj).mono (by omega))).mono ?_
  rintro e w5 ⟨v, rfl, hv, hx⟩
  obtain ⟨s91, A91, n91, c91, s92, A92, n92, c92, s93, A93, n93, c93, rfl⟩ := hv.opn
  have hx2 := hx.trans (Ext.new w5 (.cells #[.bool s91, .slice A91 n91 c91, .bool s92, .slice A92 n92 c92, .bool s93, .slice A93 n93 c93] 32))
  have HV9 := Lib.hid (((hv.ext (Ext.new w5 (.cells #[.bool s91, .slice A91 n91 c91, .bool s92, .slice A92 n92 c92, .bool s93, .slice A93 n93 c93] 32)))).to (n := 12800) ((detv_bd HMN.out HB1.out).mono (by omega)))
  have HB9_ := Lib.hid (Blk.new w5 32 #[.bool s91, .slice A91 n91 c91, .bool s92, .slice A92 n92 c92, .bool s93, .slice A93 n93 c93])
  replace HO := Lib.hid (HO.out.ext hx2)
  replace HE := Lib.hid (HE.out.trans hx2); clear hx2 hx hv
  go_wp2_with fail
  generalize w5.alloc (.cells #[.bool s91, .slice A91 n91 c91, .bool s92, .slice A92 n92 c92, .bool s93, .slice A93 n93 c93] 32) = w6 at HV9 HB9_ HE HO ⊢
  generalize w5.heap.size = g9 at HB9_ ⊢
  refine (detS_ok (X := Y) (H2.out.ext HE.out) (fun i j hi hj => (HY.out i j hi hj).1.ext HE.out) HM2.out HN2.out (fun i j hi hj => ((HG2.out i j hi hj).ext HE.out).up (by omega)) (by omega) (fun i j hi hj => (HB2.out i j hi hj).mono (by omega))).mono ?_
  rintro e w7 ⟨v, rfl, hv, hx⟩
  obtain ⟨s81, A81, n81, c81, s82, A82, n82, c82, s83, A83, n83, c83, rfl⟩ := hv.opn
  have hx2 := hx.trans (Ext.new w7 (.cells #[.bool s81, .slice A81 n81 c81, .bool s82, .slice A82 n82 c82, .bool s83, .slice A83 n83 c83] 32))
  have HV8 := Lib.hid (((hv.ext (Ext.new w7 (.cells #[.bool s81, .slice A81 n81 c81, .bool s82, .slice A82 n82 c82, .bool s83, .slice A83 n83 c83] 32)))).to (n := 12800) ((detv_bd HMN.out HB2.out).mono (by omega)))
  have HB8_ := Lib.hid (Blk.new w7 32 #[.bool s81, .slice A81 n81 c81, .bool s82, .slice A82 n82 c82, .bool s83, .slice A83 n83 c83])
  replace HO := Lib.hid (HO.out.ext hx2)
  replace HV9 := Lib.hid (HV9.out.ext hx2)
  replace HB9_ := Lib.hid (HB9_.out.ext hx2)
  replace HE := Lib.hid (HE.out.trans hx2); clear hx2 hx hv
  go_wp2_with fail
  generalize w7.alloc (.cells #[.bool s81, .slice A81 n81 c81, .bool s82, .slice A82 n82 c82, .bool s83, .slice A83 n83 c83] 32) = w8 at HV8 HB8_ HE HO HV9 HB9_ ⊢
  generalize w7.heap.size = g11 at HB8_ ⊢
  obtain ⟨Rc, Ec, hMc, hnc, hvc⟩ := HO.out.mem (by omega) (by omega)
  have hIc : IsM m1 Rc (fun _ _ => true) := ⟨by omega, by unfold wd; rw [if_neg e4, hnc 0 (by omega)]; omega, fun i hi => by unfold wd; rw [if_neg e4, hnc 0 (by omega)]; exact hnc i hi, fun _ _ _ _ => rfl⟩
  have hdc := detS_ok (c := m1) (vb := fun _ _ => true) hMc (fun i j hi hj => (hvc i j hi (by rw [hnc i hi] at hj; exact hj)).vb (by omega)) hIc hnc hvc (by omega) (fun i j hi hj => (psum_bd HB1.out HB2.out (by omega) hi hj m1 (Nat.le_refl _)).mono (by omega))
  have HDC := Lib.hid hdc; clear hdc hIc hMc hnc hvc
  refine HDC.out.mono ?_
  rintro e w9 ⟨v, rfl, hv, hx⟩
  obtain ⟨s71, A71, n71, c71, s72, A72, n72, c72, s73, A73, n73, c73, rfl⟩ := hv.opn
  have hxd : Ext w9 (w9.alloc (.cells #[.bool s71, .slice A71 n71 c71, .bool s72, .slice A72 n72 c72, .bool s73, .slice A73 n73 c73] 32)) := Ext.new _ _
  have hx2 := hx.trans hxd
  have HV7 := Lib.hid (hv.ext hxd)
  have HB7_ := Lib.hid (Blk.new w9 32 #[.bool s71, .slice A71 n71 c71, .bool s72, .slice A72 n72 c72, .bool s73, .slice A73 n73 c73])
  have hsz : (w9.alloc (.cells #[.bool s71, .slice A71 n71 c71, .bool s72, .slice A72 n72 c72, .bool s73, .slice A73 n73 c73] 32)).heap.size = w9.heap.size + 1 := by simp
  have oh := World.ownsRow_lit (base := w9.heap.size + 1) (e := 37) (size := 1) (w9.alloc (.cells #[.bool s71, .slice A71 n71 c71, .bool s72, .slice A72 n72 c72, .bool s73, .slice A73 n73 c73] 32)) #[] 0 (by omega) (by unfold maxLen; omega) rfl
  rw [hsz] at oh
  have hxw := Ext.new (w9.alloc (.cells #[.bool s71, .slice A71 n71 c71, .bool s72, .slice A72 n72 c72, .bool s73, .slice A73 n73 c73] 32)) (.cells #[] 37)
  have hsd : w9.heap.size + 1 < ((w9.alloc (.cells #[.bool s71, .slice A71 n71 c71, .bool s72, .slice A72 n72 c72, .bool s73, .slice A73 n73 c73] 32)).alloc (.cells #[] 37)).heap.size := by simp
  replace HV9 := Lib.hid (HV9.out.ext hx2)
  replace HB9_ := Lib.hid (HB9_.out.ext hx2)
  replace HV8 := Lib.hid (HV8.out.ext hx2)
  replace HB8_ := Lib.hid (HB8_.out.ext hx2)
  replace HE := Lib.hid (HE.out.trans hx2); clear hx2 hx hv hxd HDC
  go_wp2_with (at_builtin; refine wpList_appR elem_rw rfl (.tmp 101) (.tmp 102) rfl (w9.heap.size + 1) _ 0 [] (by rfl) oh _ m1 c1 _ (by rfl) (H1.out.ext (HE.out.trans hxw)).reads (row_one _ _) (by omega) (by omega) (by omega) (by omega) ?_)
  generalize ((w9.alloc (.cells #[.bool s71, .slice A71 n71 c71, .bool s72, .slice A72 n72 c72, .bool s73, .slice A73 n73 c73] 32)).alloc (.cells #[] 37)) = wd_ at oh hsd hxw ⊢
  generalize (w9.alloc (.cells #[.bool s71, .slice A71 n71 c71, .bool s72, .slice A72 n72 c72, .bool s73, .slice A73 n73 c73] 32)) = wa_ at HV7 HB7_ HE hxw hsz HV9 HB9_ HV8 HB8_
  generalize w9.heap.size = g13 at HB7_ oh hsd hsz ⊢
  intro g cap wg og gr _ hlg
  have hxg : Ext wa_ wg := own_grown gr hxw (fun g' hg => by simp [Value.ownBlock] at hg; omega)
  have hge := (og.lt g rfl).1
  obtain ⟨cur, hcur, hci⟩ : ∃ cur, Blk wg g 37 cur ∧ ∀ i, i < m1 → cur[i]? = some (R1 i).v := by
    rcases og.2 with ⟨h, _⟩ | ⟨g', cap', cur, h, _, hg, _, _, _, htk⟩
    · cases h
    · injection h with h1 h2 h3
      injection h1 with h1
      injection h1 with h1
      subst h1
      refine ⟨cur, hg, fun i hi => ?_⟩
      have h4 := mxc_at (R := R1) hi
      rw [← htk, List.getElem?_toArray, List.getElem?_take, if_pos (by omega), Array.getElem?_toList] at h4
      exact h4
  have HXG := Lib.hid hxg; have HCU := Lib.hid hcur; have HCI := Lib.hid hci
  have k1 : wg.cell? ⟨g, s, none⟩ = some (.slice (R1 s).A (R1 s).n (R1 s).c) := by rw [hcur.cell]; exact hci s (by omega)
  have k2 : wg.cell? ⟨g, s + 1, none⟩ = some (.slice (R1 (s + 1)).A (R1 (s + 1)).n (R1 (s + 1)).c) := by rw [hcur.cell]; exact hci (s + 1) (by omega)
  have f1 := hcur.frozen
  have d1 : decide ((s : Int) < (m1 : Int)) = true := by simp; omega
  have d2 : decide ((s : Int) + 1 < (m1 : Int)) = true := by simp; omega
  clear og gr hcur hci hxg oh hxw
  have HGE := Lib.hid (show wa_.heap.size ≤ g by omega); clear hge hsd hsz
  try simp only [Act.put, sa0, sa1, sa2]
  go_wp2_with fail
  go_region
  obtain ⟨hMd, hXd⟩ := swap_mem (H1.out.ext HE.out) HXG.out HCU.out HCI.out HGE.out hs1
  unfold Rw.v at hMd hXd
  replace hMd := hMd.ext (Ext.refl _).drew
  replace hXd := hXd.drew
  clear k1 k2 f1 d1 d2 HXG HCU HCI HGE
  generalize hWn : World.drew _ = wn at hMd hXd ⊢
  clear hWn
  have HMd := Lib.hid hMd; clear hMd
  replace HV7 := Lib.hid (HV7.out.ext hXd); replace HB7_ := Lib.hid (HB7_.out.ext hXd)
  replace HV8 := Lib.hid (HV8.out.ext hXd); replace HB8_ := Lib.hid (HB8_.out.ext hXd)
  replace HV9 := Lib.hid (HV9.out.ext hXd); replace HB9_ := Lib.hid (HB9_.out.ext hXd)
  replace HE := Lib.hid (HE.out.trans hXd); clear hXd
  have hsw : ∀ i, i < m1 → swp (s + 1) s i < m1 := fun i hi => swp_lt hs1 (by omega) hi
  have hnd : ∀ i, i < m1 → (R1 (swp (s + 1) s i)).n = m1 := fun i hi => HN1.out _ (hsw i hi)
  have hId : IsM m1 (fun k => R1 (swp (s + 1) s k)) (fun k j => vb1 (swp (s + 1) s k) j) := by
    have hw' : wd m1 (fun k => R1 (swp (s + 1) s k)) = m1 := by unfold wd; rw [if_neg e4]; exact hnd 0 (by omega)
    exact ⟨by omega, by omega, fun i hi => (hnd i hi).trans hw'.symm, fun i j hi hj => HM1.out.2.2.2 _ j (hsw i hi) hj⟩
  have hdd := detS_ok (X := fun k => X (swp (s + 1) s k)) (c := cap) HMd.out (fun i j hi hj => (HX.out _ j (hsw i hi) hj).1.ext HE.out) hId hnd (fun i j hi hj => ((HG1.out _ j (hsw i hi) hj).ext HE.out).up (by omega)) (by omega) (fun i j hi hj => (HB1.out _ j (hsw i hi) hj).mono (by omega))
  have HDD := Lib.hid hdd; clear hdd hId hnd hsw
  go_wp2_with fail
  refine (HDD.out).mono ?_
  rintro e w12 ⟨v, rfl, hv, hx⟩
  obtain ⟨s61, A61, n61, c61, s62, A62, n62, c62, s63, A63, n63, c63, rfl⟩ := hv.opn
  have hx2 := hx.trans (Ext.new w12 (.cells #[.bool s61, .slice A61 n61 c61, .bool s62, .slice A62 n62 c62, .bool s63, .slice A63 n63 c63] 32))
  have HV6 := Lib.hid (((hv.ext (Ext.new w12 (.cells #[.bool s61, .slice A61 n61 c61, .bool s62, .slice A62 n62 c62, .bool s63, .slice A63 n63 c63] 32)))).to (n := 12800) (hv.bd))
  have HB6_ := Lib.hid (Blk.new w12 32 #[.bool s61, .slice A61 n61 c61, .bool s62, .slice A62 n62 c62, .bool s63, .slice A63 n63 c63])
  replace HV7 := Lib.hid (HV7.out.ext hx2)
  replace HB7_ := Lib.hid (HB7_.out.ext hx2)
  replace HV8 := Lib.hid (HV8.out.ext hx2)
  replace HB8_ := Lib.hid (HB8_.out.ext hx2)
  replace HV9 := Lib.hid (HV9.out.ext hx2)
  replace HB9_ := Lib.hid (HB9_.out.ext hx2)
  replace HE := Lib.hid (HE.out.trans hx2); clear hx2 hx hv
  go_wp2_with fail
  generalize w12.alloc (.cells #[.bool s61, .slice A61 n61 c61, .bool s62, .slice A62 n62 c62, .bool s63, .slice A63 n63 c63] 32) = w13 at HV6 HB6_ HE HV7 HB7_ HV8 HB8_ HV9 HB9_ ⊢
  generalize w12.heap.size = g16 at HB6_ ⊢
  have Y9 := ExtOf.blk HB9_.out; have Y8 := ExtOf.blk HB8_.out; have Y7 := ExtOf.blk HB7_.out; have Y6 := ExtOf.blk HB6_.out
  refine wp_region_ordE 35 [(false, 0), (true, 1), (true, 2), (true, 3), (true, 4), (true, 5), (true, 6), (true, 7), (true, 8), (true, 9), (true, 10), (true, 11), (true, 12), (true, 13), (true, 14), (true, 15), (true, 16), (true, 17), (true, 18), (true, 19), (true, 20), (true, 21), (true, 22), (true, 23), (true, 24), (false, 25), (false, 26), (true, 27), (true, 28), (true, 29), (true, 31), (false, 30), (false, 32), (false, 33), (true, 34)] (by kernel_rfl) (by kernel_rfl) ?_
  refine wpOrdT_act 0 [(true, 1), (true, 2), (true, 3), (true, 4), (true, 5), (true, 6), (true, 7), (true, 8), (true, 9), (true, 10), (true, 11), (true, 12), (true, 13), (true, 14), (true, 15), (true, 16), (true, 17), (true, 18), (true, 19), (true, 20), (true, 21), (true, 22), (true, 23), (true, 24), (false, 25), (false, 26), (true, 27), (true, 28), (true, 29), (true, 31), (false, 30), (false, 32), (false, 33), (true, 34)] (by kernel_rfl) ?_
  intro K hK
  simp only [nthOp]
  go_wp2_with fail
  refine (llknown_ok _).mono ?_
  rintro e w14 ⟨rfl, hx⟩
  have HX14 := Lib.hid hx.undrew; clear hx
  go_wp2
  refine hK _ _ ⟨⟨w14, HX14.out⟩, rfl⟩ ?_
  clear hK K
  refine wpOrdT_quiet [1, 2, 3, 4, 5, 6, 7, 8, 9, 10, 11, 12, 13, 14, 15, 16, 17, 18, 19, 20, 21, 22, 23, 24] [(false, 25), (false, 26), (true, 27), (true, 28), (true, 29), (true, 31), (false, 30), (false, 32), (false, 33), (true, 34)] _ (by kernel_rfl) ?_
  simp only [nthOps, nthOp, List.cons_append, List.nil_append]
  repeat (go_big_quiet_step (fail))
  refine wpQuiet_nil ?_
  refine wpOrdT_act 25 [(false, 26), (true, 27), (true, 28), (true, 29), (true, 31), (false, 30), (false, 32), (false, 33), (true, 34)] (by kernel_rfl) ?_
  intro K hK
  simp only [nthOp]
  go_wp2_with fail
  refine (qMul_g _ _ (detv m1 X) (detv m1 Y) 700 700 _ ((HV9.out.ext HX14.out).to (detv_bd HMN.out HB1.out)) ((HV8.out.ext HX14.out).to (detv_bd HMN.out HB2.out)) (by omega)).mono ?_
  rintro e w15 ⟨v15, rfl, hv, hx⟩
  have HX15 := Lib.hid (HX14.out.trans hx); have HV15 := Lib.hid hv; clear hx hv
  go_wp2
  refine hK _ _ ⟨⟨w15, HX15.out⟩, rfl⟩ ?_
  clear hK K
  refine wpOrdT_act 26 [(true, 27), (true, 28), (true, 29), (true, 31), (false, 30), (false, 32), (false, 33), (true, 34)] (by kernel_rfl) ?_
  intro K hK
  simp only [nthOp]
  go_wp2_with fail
  refine (qSame_q _ _ (detv m1 fun i j => psum X Y i j m1) (detv m1 X * detv m1 Y) 12800 _ _ (HV7.out.ext HX15.out) HV15.out (detv_mul X Y HMN.out)).mono ?_
  rintro e w16 ⟨rfl, hx⟩
  have HX16 := Lib.hid (HX15.out.trans hx); clear hx
  go_wp2
  refine hK _ _ ⟨⟨w16, HX16.out⟩, rfl⟩ ?_
  clear hK K
  refine wpOrdT_quiet [27, 28, 29, 31] [(false, 30), (false, 32), (false, 33), (true, 34)] _ (by kernel_rfl) ?_
  simp only [nthOps, nthOp, List.cons_append, List.nil_append]
  repeat (go_big_quiet_step (fail))
  refine wpQuiet_nil ?_
  refine wpOrdT_act 30 [(false, 32), (false, 33), (true, 34)] (by kernel_rfl) ?_
  intro K hK
  simp only [nthOp]
  go_wp2_with fail
  refine (qI_ok (0) (0) _ (by omega) (by omega) (by omega) (by omega)).mono ?_
  rintro e w17 ⟨s51, A51, n51, c51, s52, A52, n52, c52, s53, A53, n53, c53, rfl, hv, hx⟩
  have HX17 := Lib.hid (HX16.out.trans hx); have HV17 := Lib.hid hv; clear hx hv
  go_wp2
  refine hK _ _ ⟨⟨w17, HX17.out⟩, rfl⟩ ?_
  clear hK K
  refine wpOrdT_act 32 [(false, 33), (true, 34)] (by kernel_rfl) ?_
  intro K hK
  simp only [nthOp]
  go_wp2_with fail
  refine (qSub_ok _ _ (GQ.i 0 0) (detv m1 X) 64 700 _ HV17.out ((HV9.out.ext HX17.out).to (detv_bd HMN.out HB1.out)) (by omega)).mono ?_
  rintro e w18 ⟨v18, rfl, hv, hx⟩
  have HX18 := Lib.hid (HX17.out.trans hx); have HV18 := Lib.hid hv; clear hx hv
  go_wp2
  refine hK _ _ ⟨⟨w18, HX18.out⟩, rfl⟩ ?_
  clear hK K
  refine wpOrdT_act 33 [(true, 34)] (by kernel_rfl) ?_
  intro K hK
  simp only [nthOp]
  go_wp2_with fail
  refine (qSame_q _ _ (detv m1 fun k => X (swp (s + 1) s k)) (GQ.i 0 0 - detv m1 X) 12800 _ _ (HV6.out.ext HX18.out) HV18.out (detv_swp X HMN.out hs1)).mono ?_
  rintro e w19 ⟨rfl, hx⟩
  have HX19 := Lib.hid (HX18.out.trans hx); clear hx
  go_wp2
  refine hK _ _ ⟨⟨w19, HX19.out⟩, rfl⟩ ?_
  clear hK K
  refine wpOrdT_quiet [34] [] _ (by kernel_rfl) ?_
  simp only [nthOps, nthOp, List.cons_append, List.nil_append]
  repeat (go_big_quiet_step (fail))
  refine wpQuiet_nil ?_
  clear Y9 Y8 Y7 Y6
  simp only [wpOrdT, List.drop_succ_cons, List.drop_zero]
  go_wp2_with fail
  go_ret
  exact ⟨rfl, HE.out.trans HX19.out⟩
end Go.Proofs.YtclkkoiaaddllaaGreat
