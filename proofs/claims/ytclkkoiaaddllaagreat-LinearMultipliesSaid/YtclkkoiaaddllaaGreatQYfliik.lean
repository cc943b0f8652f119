/- Rows of numbers as they lie in memory; linear's width and matrix. -/
import Derived.Test.YtclkkoiaaddllaaGreatQYdfhpp
namespace Go.Proofs.YtclkkoiaaddllaaGreat
open Go.RowKit
set_option linter.unusedVariables false

/-- A row's slice. -/
structure Rw where
  A : Option Addr
  b : Nat
  o : Nat
  n : Nat
  c : Nat
def Rw.v (r : Rw) : Value := .slice r.A r.n r.c
/-- Rows of numbers as they lie in memory. -/
structure Mem (w : World) (A : Option Addr) (B O m : Nat) (R : Nat → Rw) (E : Nat → Nat → En) : Prop where
  at0 : 0 < m → A = some ⟨B, O, none⟩
  row : ∀ i, i < m → w.cell? ⟨B, O + i, none⟩ = some (R i).v
  ra : ∀ i, i < m → 0 < (R i).n → (R i).A = some ⟨(R i).b, (R i).o, none⟩
  el : ∀ i j, i < m → j < (R i).n → ∀ t u, (E i j).cells[t]? = some u → w.cell? ⟨(R i).b, (R i).o + (j * 6 + t), none⟩ = some u
  lm : m ≤ 9223372036854775807
  ln : ∀ i, i < m → (R i).n ≤ 9223372036854775807
theorem cell_ext {w w' : World} {p : Addr} {u : Value} (h : w.cell? p = some u) (x : Ext w w') : w'.cell? p = some u := by
  have hp : p.block < w.heap.size := by
    rcases Nat.lt_or_ge p.block w.heap.size with hlt | hge
    · exact hlt
    · unfold World.cell? at h
      rw [Array.getElem?_eq_none hge] at h
      simp at h
  exact (x.cell hp).trans h
section
variable {w w' : World} {A : Option Addr} {B O m c : Nat} {R : Nat → Rw} {E : Nat → Nat → En}
theorem Mem.ext (h : Mem w A B O m R E) (x : Ext w w') : Mem w' A B O m R E :=
  ⟨h.at0, fun i hi => cell_ext (h.row i hi) x, h.ra, fun i j hi hj t u hu => cell_ext (h.el i j hi hj t u hu) x, h.lm, h.ln⟩
/-- The number of columns. -/
def wd (m : Nat) (R : Nat → Rw) : Nat := if m = 0 then 0 else (R 0).n
set_option maxRecDepth 100000 in
set_option maxHeartbeats 1600000 in
theorem width_any (h : Mem w A B O m R E) : Calls Tryz.prog 34 #[.slice A m c] w fun e w' => e = .returned (.int .i64 (wd m R : Nat)) ∧ Ext w w' := by
  by_cases h0 : m = 0
  · have d0 : ((m : Int) == 0) = true := by simp [h0]
    have e0 : wd m R = 0 := by unfold wd; rw [if_pos h0]
    rw [e0]
    clear h0
    go_enter Tryz.func34, Tryz.ntmps34
    go_wp2_with fail
    go_ret
    exact ⟨rfl, Ext.refl _⟩
  · have d0 : ((m : Int) == 0) = false := by simp [h0]
    have e0 : wd m R = (R 0).n := by unfold wd; rw [if_neg h0]
    rw [e0]
    have hA := h.at0 (by omega)
    have hr : w.cell? ⟨B, O, none⟩ = some (.slice (R 0).A (R 0).n (R 0).c) := h.row 0 (by omega)
    subst hA
    have q1 : (0 : Int) < (m : Int) := by omega
    go_enter Tryz.func34, Tryz.ntmps34
    go_wp2_with fail
    go_ret
    exact ⟨rfl, Ext.refl _⟩
/-- The rows are a matrix: all as long as the first one, none too long, all numbers valid. -/
def IsM (m : Nat) (R : Nat → Rw) (vb : Nat → Nat → Bool) : Prop := m ≤ 24 ∧ wd m R ≤ 24 ∧ (∀ i, i < m → (R i).n = wd m R) ∧ ∀ i j, i < m → j < (R i).n → vb i j = true
theorem Mem.rowc (h : Mem w A B O m R E) {i : Nat} (hi : i < m) (x : Ext w w') : w'.cell? ⟨B, O + i, none⟩ = some (.slice (R i).A (R i).n (R i).c) := x.cell_ (h.row i hi)
theorem Mem.cells (h : Mem w A B O m R E) {i j : Nat} (hi : i < m) (hj : j < (R i).n) (x : Ext w w') :
    w'.cell? ⟨(R i).b, (R i).o + j * 6, none⟩ = some (.bool (E i j).s1) ∧ w'.cell? ⟨(R i).b, (R i).o + j * 6 + 1, none⟩ = some (.slice (E i j).A1 (E i j).n1 (E i j).c1) ∧ w'.cell? ⟨(R i).b, (R i).o + j * 6 + 2, none⟩ = some (.bool (E i j).s2) ∧
    w'.cell? ⟨(R i).b, (R i).o + j * 6 + 3, none⟩ = some (.slice (E i j).A2 (E i j).n2 (E i j).c2) ∧ w'.cell? ⟨(R i).b, (R i).o + j * 6 + 4, none⟩ = some (.bool (E i j).s3) ∧ w'.cell? ⟨(R i).b, (R i).o + j * 6 + 5, none⟩ = some (.slice (E i j).A3 (E i j).n3 (E i j).c3) :=
  ⟨x.cell_ (h.el i j hi hj 0 _ rfl), x.cell_ (h.el i j hi hj 1 _ rfl), x.cell_ (h.el i j hi hj 2 _ rfl), x.cell_ (h.el i j hi hj 3 _ rfl), x.cell_ (h.el i j hi hj 4 _ rfl), x.cell_ (h.el i j hi hj 5 _ rfl)⟩
set_option maxRecDepth 100000 in
set_option maxHeartbeats 3200000 in
theorem matrix_any (h : Mem w A B O m R E) {vb : Nat → Nat → Bool} (hv : ∀ i j, i < m → j < (R i).n → VB w (E i j).v (vb i j)) (b : Bool) (hb : b = true ↔ IsM m R vb) :
    Calls Tryz.prog 29 #[.slice A m c] w fun e w' => e = .returned (.bool b) ∧ Ext w w' := by
  have HM := Lib.hid h; have HV := Lib.hid hv
  have hm0 : (0 : Int) ≤ (m : Int) := by omega
  by_cases h24 : 24 < m
  · have d24 : decide ((24 : Int) < (m : Int)) = true := by simp; omega
    have hF : b = false := by cases b <;> simp_all [IsM]; omega
    subst hF
    clear h hv hb h24
    go_enter Tryz.func29, Tryz.ntmps29
    go_wp2_with fail
    go_ret
    exact ⟨rfl, Ext.refl _⟩
  have d24 : decide ((24 : Int) < (m : Int)) = false := by simp; omega
  by_cases hw24 : 24 < wd m R
  · have dw : decide ((24 : Int) < (wd m R : Int)) = true := by simp; omega
    have hF : b = false := by cases b <;> simp_all [IsM]; omega
    subst hF
    clear h hv hb
    go_enter Tryz.func29, Tryz.ntmps29
    go_wp2_with fail
    refine (width_any HM.out).mono ?_
    rintro e w2 ⟨rfl, hx⟩
    go_wp2_with fail
    go_ret
    exact ⟨rfl, hx⟩
  have dw : decide ((24 : Int) < (wd m R : Int)) = false := by simp; omega
  have HB := Lib.hid hb; clear hb
  have h24' : m ≤ 24 := by omega
  clear h hv
  go_enter Tryz.func29, Tryz.ntmps29
  go_wp2_with fail
  refine (width_any HM.out).mono ?_
  rintro e w2 ⟨rfl, hx2⟩
  have HX2 := Lib.hid hx2; clear hx2
  go_wp2_with fail
  go_loopw [19] (fun i wr => ∃ k : Nat, k ≤ m ∧ i = .int .i64 k ∧ (∀ i, i < k → (R i).n = wd m R) ∧ Ext w wr) (fun i _ => m - (intOf i).toNat)
  case atStart => exact ⟨0, by omega, rfl, by intros; omega, HX2.out⟩
  case round =>
    obtain ⟨k, hk, rfl, hall, hx⟩ := hrel
    have HA := Lib.hid hall; have HX := Lib.hid hx; clear hall hx HX2
    by_cases hlt : k < m
    · have hd : decide ((k : Int) < (m : Int)) = true := by simp; omega
      have hA := HM.out.at0 (by omega)
      have hr := HM.out.rowc hlt HX.out
      subst hA
      by_cases hn : (R k).n = wd m R
      · have dn : (((R k).n : Int) != (wd m R : Int)) = false := by simp [hn]
        have HN := Lib.hid hn; clear hn
        go_wp2_with fail
        refine (width_any (HM.out.ext HX.out)).mono ?_
        rintro e w3 ⟨rfl, hx3⟩
        go_wp2_with fail
        go_roundw
        case rel =>
          refine ⟨k + 1, by omega, by go_num, fun i hi => ?_, HX.out.trans hx3⟩
          by_cases e : i = k
          · subst e; exact HN.out
          · exact HA.out i (by omega)
        case measure => simp [intOf]; omega
      · have dn : (((R k).n : Int) != (wd m R : Int)) = true := by simp; omega
        have hF : b = false := by
          cases b
          · rfl
          · exact absurd ((HB.out.1 rfl).2.2.1 k hlt) hn
        subst hF
        clear hn
        go_wp2_with fail
        refine (width_any (HM.out.ext HX.out)).mono ?_
        rintro e w3 ⟨rfl, hx3⟩
        go_wp2_with fail
        go_ret
        exact ⟨rfl, HX.out.trans hx3⟩
    · obtain rfl : k = m := by omega
      have hd : decide ((k : Int) < (k : Int)) = false := by simp
      clear hd
      go_wp2_with fail
      go_loopw [31] (fun i wr => ∃ k' : Nat, k' ≤ k ∧ i = .int .i64 k' ∧ (∀ i j, i < k' → j < (R i).n → vb i j = true) ∧ Ext w wr) (fun i _ => k - (intOf i).toNat)
      case atStart => exact ⟨0, by omega, rfl, by intros; omega, HX.out⟩
      case round =>
        clear hlt
        obtain ⟨r, hr, rfl, hall, hx⟩ := hrel
        have HA2 := Lib.hid hall; have HX2 := Lib.hid hx; clear hall hx HX
        by_cases hlt : r < k
        · have hd : decide ((r : Int) < (k : Int)) = true := by simp; omega
          have hA := HM.out.at0 (by omega)
          have hr2 := HM.out.rowc hlt HX2.out
          subst hA
          go_wp2_with fail
          go_loopw [37] (fun i wr => ∃ k' : Nat, k' ≤ (R r).n ∧ i = .int .i64 k' ∧ (∀ j, j < k' → vb r j = true) ∧ Ext w wr) (fun i _ => (R r).n - (intOf i).toNat)
          case atStart => exact ⟨0, by omega, rfl, by intros; omega, HX2.out⟩
          case round =>
            clear hd
            obtain ⟨j, hj, rfl, hall, hx⟩ := hrel
            have HA3 := Lib.hid hall; have HX3 := Lib.hid hx; clear hall hx
            by_cases hjt : j < (R r).n
            · have hd : decide ((j : Int) < ((R r).n : Int)) = true := by simp; omega
              have hRA := HM.out.ra r hlt (by omega)
              have hln := HM.out.ln r hlt
              obtain ⟨c0, c1, c2, c3, c4, c5⟩ := HM.out.cells hlt hjt HX3.out
              rw [hRA]
              generalize hvb : vb r j = bv
              have HVB : Hid (VB w (E r j).v bv) := Lib.hid (hvb ▸ HV.out r j hlt hjt)
              have HVQ := Lib.hid hvb; clear hvb
              have HE := Lib.hid (HX3.out.alloc (.cells #[.bool (E r j).s1, .slice (E r j).A1 (E r j).n1 (E r j).c1, .bool (E r j).s2, .slice (E r j).A2 (E r j).n2 (E r j).c2, .bool (E r j).s3, .slice (E r j).A3 (E r j).n3 (E r j).c3] 32))
              go_wp2_with fail
              refine ((HVB.out.ext HE.out).e).mono ?_
              rintro e w4 ⟨rfl, hx4⟩
              cases bv
              · have hF : b = false := by
                  cases b
                  · rfl
                  · have := (HB.out.1 rfl).2.2.2 r j hlt hjt
                    rw [HVQ.out] at this; cases this
                subst hF
                go_wp2_with fail
                go_ret
                exact ⟨rfl, HE.out.trans hx4⟩
              · go_wp2_with fail
                go_roundw
                case rel =>
                  refine ⟨j + 1, by omega, by go_num, fun i hi => ?_, HE.out.trans hx4⟩
                  by_cases e : i = j
                  · subst e; exact HVQ.out
                  · exact HA3.out i (by omega)
                case measure => simp [intOf]; omega
            · obtain rfl : j = (R r).n := by omega
              have hd : decide (((R r).n : Int) < ((R r).n : Int)) = false := by simp
              go_wp2_with fail
              go_roundw
              case rel =>
                refine ⟨r + 1, by omega, by go_num, fun i j2 hi hj2 => ?_, HX3.out⟩
                by_cases e : i = r
                · subst e; exact HA3.out j2 hj2
                · exact HA2.out i j2 (by omega) hj2
              case measure => simp [intOf]; omega
        · obtain rfl : r = k := by omega
          have hT : b = true := HB.out.2 ⟨h24', by omega, HA.out, HA2.out⟩
          subst hT
          go_wp2_with fail
          go_ret
          exact ⟨rfl, HX2.out⟩
end
end Go.Proofs.YtclkkoiaaddllaaGreat
