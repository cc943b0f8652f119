/- Of and Small are inverses; Compare of small integers is that of ints; sums of ints are exact: the walk. -/
import Derived.Test.YtfdpbcjcinchgaaDoorTd
namespace Go.Proofs.YtfdpbcjcinchgaaDoor
open Go.RowKit
set_option linter.unusedVariables false

theorem lt_lim64 {z : Int} (h1 : -9223372036854775808 ≤ z) (h2 : z ≤ 9223372036854775807) : z.natAbs < lim := lt_lim (k := 2) (by omega) (by decide)
theorem lt_lim65 {z : Int} (h1 : -18446744073709551616 ≤ z) (h2 : z ≤ 18446744073709551614) : z.natAbs < lim := lt_lim (k := 3) (by omega) (by decide)

theorem rValid_ri (v : Value) (x : Int) (w : World) (hX : RI w v x) (ax : x.natAbs < lim) :
    Calls Tryd.prog 18 #[v] w fun e w' => e = .returned (.bool true) ∧ Ext w w' := by
  have hv := hX.valid ax
  obtain ⟨A, n, c, rfl, h⟩ := hX
  have := rValid_any (decide (x < 0)) A n c _ w h
  rw [hv] at this
  exact this

set_option maxRecDepth 100000 in
set_option maxHeartbeats 6400000 in
theorem small_law (a b : Int) (w : World) (a1 : -9223372036854775808 ≤ a) (a2 : a ≤ 9223372036854775807) (b1 : -9223372036854775808 ≤ b) (b2 : b ≤ 9223372036854775807)
    (p q s t r f : Bool) (m : Int) (hp : decide (a < b) = p) (hq : decide (b < a) = q) (hs : decide (a < 0) = s) (ht : decide (b < 0) = t) (hm : IntKind.i64.wrap (a + b) = m) (hr : decide (m < 0) = r) (c : Int) (hc : cmpZ a b = c) (x : Int × Bool) (hx : smallS (a + b) = x)
    (hcc : c = if q then 1 else if p then -1 else 0) (hin : x.2 = ((s != t) || (r == s))) (hfit : (!x.2 || x.1 == m) = true) :
    Calls Tryd.prog 6 #[.int .i64 a, .int .i64 b] w fun e w' => e = .returned (.bool true) ∧ Ext w w' := by
  have HC := Lib.hid hc; have HX := Lib.hid hx; have HCC := Lib.hid hcc; have HIN := Lib.hid hin; have HFIT := Lib.hid hfit; have HM := Lib.hid hm; have HR := Lib.hid hr
  have HSA := Lib.hid (smallS_yes ⟨a1, a2⟩)
  have HZ : Hid (a + b = (resS (a + b)).1) := Lib.hid (by rw [resS_ok (lt_lim65 (by omega) (by omega))])
  have HAB : Hid ((a + b).natAbs < lim) := Lib.hid (lt_lim65 (by omega) (by omega))
  have HA := Lib.hid (lt_lim64 a1 a2)
  have HB := Lib.hid (lt_lim64 b1 b2)
  obtain ⟨zz, hzz⟩ : ∃ z, z = a + b := ⟨_, rfl⟩
  have HZZ := Lib.hid hzz
  clear hc hx hcc hin hfit hm hr hzz
  obtain ⟨x1, x2⟩ := x
  go_enter Tryd.func6, Tryd.ntmps6
  go_wp2_with fail
  refine (known_any _).mono ?_
  rintro e w1 ⟨rfl, hx1⟩
  go_wp2_with fail
  refine (Of_any a _ a1 a2).mono ?_
  rintro e w2 ⟨v2, rfl, hI2, hx2⟩
  have hx2 := hx1.trans hx2
  go_wp2_with fail
  refine (Of_any b _ b1 b2).mono ?_
  rintro e w3 ⟨v3, rfl, hI3, hx3⟩
  have hI2 := hI2.ext hx3
  have hx3 := hx2.trans hx3
  obtain ⟨sx, A, n, c1, rfl, hI2⟩ := hI2.open_
  obtain ⟨sy, B, k, d1, rfl, hI3⟩ := hI3.open_
  go_wp2_with fail
  have hxE : Ext w3 ((w3.alloc (.cells #[.bool sx, .slice A n c1] 24)).alloc (.cells #[.bool sy, .slice B k d1] 24)) := (Ext.new w3 _).alloc _
  have B0 : Blk ((w3.alloc (.cells #[.bool sx, .slice A n c1] 24)).alloc (.cells #[.bool sy, .slice B k d1] 24)) w3.heap.size 24 #[.bool sx, .slice A n c1] := (Blk.new _ _ _).alloc _
  have B1 : Blk ((w3.alloc (.cells #[.bool sx, .slice A n c1] 24)).alloc (.cells #[.bool sy, .slice B k d1] 24)) (w3.heap.size + 1) 24 #[.bool sy, .slice B k d1] := Blk.new' _ _ (by simp)
  have hI2 := hI2.ext hxE
  have hI3 := hI3.ext hxE
  have hx4 := hx3.trans hxE
  generalize ((w3.alloc (.cells #[.bool sx, .slice A n c1] 24)).alloc (.cells #[.bool sy, .slice B k d1] 24)) = w4 at *
  generalize w3.heap.size = g0 at *
  clear hxE
  have k0 := B0.cell
  have k1 := B1.cell
  refine (Small_ok _ a _ hI2 HA.out).mono ?_
  rintro e w5 ⟨rfl, hx5⟩
  rw [HSA.out]
  clear k0 k1
  have k0 := (B0.ext hx5).cell
  have k1 := (B1.ext hx5).cell
  have hI25 := hI2.ext hx5
  have hI35 := hI3.ext hx5
  have hcx : cmpZ a b = if q then 1 else if p then -1 else 0 := HC.out.trans HCC.out
  have HCX := Lib.hid hcx; clear hcx
  cases q <;> cases p
  all_goals
    go_wp2_with fail
    refine (lsum_ok _ _ a b (a + b) _ hI25 hI35 HA.out HB.out HZ.out).mono ?_
    rintro e w6 ⟨v6, rfl, hI6, hx6⟩
    go_wp2_with fail
    refine (Small_ok _ (a + b) _ hI6 HAB.out).mono ?_
    rintro e w7 ⟨rfl, hx7⟩
    rw [HX.out]
    have hx7 := hx5.trans (hx6.trans hx7)
    have k0 := (B0.ext hx7).cell
    have k1 := (B1.ext hx7).cell
    have hI27 := hI2.ext hx7
    have hI37 := hI3.ext hx7
    have hm' := HM.out
    have hr' := HR.out
    have hin := HIN.out
    have hfit := HFIT.out
    cases s <;> cases t <;> cases r
    all_goals
      simp at hin
      subst hin
      try simp at hfit
      try subst hfit
      go_wp2_with fail
      refine (rValid_ri _ a _ hI27 HA.out).mono ?_
      rintro e w8 ⟨rfl, hx8⟩
      have k0 := (B0.ext (hx7.trans hx8)).cell
      have k1 := (B1.ext (hx7.trans hx8)).cell
      have hI28 := hI27.ext hx8
      have hI38 := hI37.ext hx8
      go_wp2_with fail
      refine (Compare_ok _ _ a b _ hI28 hI38 HA.out HB.out).mono ?_
      rintro e w9 ⟨rfl, hx9⟩
      rw [HCX.out]
      go_wp2
      go_ret
      exact ⟨rfl, hx4.trans ((hx7.trans hx8).trans hx9)⟩
end Go.Proofs.YtfdpbcjcinchgaaDoor
