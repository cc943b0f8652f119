/- Contracts: the reference's comparison and subtraction of a multiple. -/
import Derived.Test.YtfdpbcjcinchgaaDoorIq
namespace Go.Proofs.YtfdpbcjcinchgaaDoor
open Go.RowKit
set_option linter.unusedVariables false

/-- A part of a row from j on. -/
theorem RowD.sub {w : World} {g j m c : Nat} {p : List Nat} (h : RowD w g p) (hm : j + m = p.length) (hc : m ≤ c) (hcm : c ≤ 9223372036854775807) : RM w (some ⟨g, j, none⟩) m c (p.drop j) := by
  refine ⟨⟨by rw [mg_len, List.length_drop]; omega, fun _ => ⟨_, rfl, h.1.lt, fun i u hu => ?_⟩⟩, h.2.drop j, hc, hcm⟩
  rw [add_plain, h.1.cell]
  simp only [mg, List.getElem?_map, List.getElem?_drop, Option.map_eq_some_iff] at hu
  obtain ⟨x, hx, rfl⟩ := hu
  simpa using mg_get hx
theorem digs64 {g : Nat} (h : g < 18446744073709551616) : (digs g).length ≤ 2 := digs_len_le (k := 2) (by omega)
theorem val_take_lt {l : List Nat} (h : Dig l) (k : Nat) : val (l.take k) < 4294967296 ^ k := by
  have h1 := val_lt (h.take k)
  exact Nat.lt_of_lt_of_le h1 (Nat.pow_le_pow_right (by omega) (by rw [List.length_take]; omega))
theorem cmp_lt_iff {p q : Nat} : decide (cmpN p q < 0) = decide (p < q) := by
  unfold cmpN
  by_cases h : p < q
  · simp [h]
  · by_cases h2 : q < p <;> simp [h, h2]

set_option maxRecDepth 100000 in
set_option maxHeartbeats 800000 in
theorem rless_any (A B : Option Addr) (n m c d g : Nat) (p v : List Nat) (w : World) (hA : RM w A m c p) (hB : RM w B n d v) (hn : n ≤ 10000) (hm : n + 1 ≤ m) (hg : g < 18446744073709551616) :
    Calls Tryd.prog 94 #[.slice A m c, .slice B n d, .int .u64 (g : Int)] w fun e w' => e = .returned (.bool (decide (val (p.take (n + 1)) < val v * g))) ∧ Ext w w' := by
  have hmc := hA.nc
  have hcm := hA.cm
  have hmm : m ≤ 9223372036854775807 := by omega
  obtain ⟨ad, _, rfl, _⟩ := hA.at_ (k := 0) (by omega)
  go_enter Tryd.func94, Tryd.ntmps94
  go_wp2_with fail
  refine (rdigits_any g _ hg).mono ?_
  rintro e w1 ⟨v1, rfl, ⟨A1, n1, c1, rfl, hR⟩, hx1⟩
  have hn1 : n1 ≤ 100000 := by have := hR.len; have := digs64 hg; omega
  go_wp2_with fail
  refine (rtimes_any B A1 n n1 d c1 _ _ _ (hB.ext hx1) hR (by omega) hn1).mono ?_
  rintro e w2 ⟨v2, rfl, ⟨A2, n2, c2, rfl, hR2⟩, hx2⟩
  rw [val_digs] at hR2
  go_wp2_with fail
  have hx2 := hx1.trans hx2
  refine (rtrim_any (some ad) (n + 1) c (p.take (n + 1)) _ ((hA.ext hx2).take hm (by omega) hcm) (by omega)).mono ?_
  rintro e w3 ⟨v3, rfl, ⟨A3, n3, c3, rfl, hR3⟩, hx3⟩
  go_wp2_with fail
  refine (rcompare_any A3 A2 n3 n2 c3 c2 _ _ _ hR3 (hR2.ext hx3) (canon_digs _) (canon_digs _)).mono ?_
  rintro e w4 ⟨rfl, hx4⟩
  go_wp2
  go_ret
  refine ⟨ret_bool ?_, (hx2.trans hx3).trans hx4⟩
  rw [val_digs, val_digs, cmp_lt_iff]

/-- Writing digits over a part of a row, from j on. -/
def Over (U U' wl : List Nat) (j i : Nat) : Prop :=
  U'.length = U.length ∧ U'.take j = U.take j ∧ (∀ t, j + i ≤ t → U'[t]? = U[t]?) ∧ val U' + 4294967296 ^ j * val ((U.drop j).take i) = val U + 4294967296 ^ j * val (wl.take i)
theorem Over.start (U wl : List Nat) (j : Nat) : Over U U wl j 0 := ⟨rfl, rfl, fun _ _ => rfl, by simp⟩
theorem Over.step {U U' wl : List Nat} {j i x y : Nat} (h : Over U U' wl j i) (hx : U[j + i]? = some x) (hy : val (wl.take (i + 1)) = val (wl.take i) + 4294967296 ^ i * y) : Over U (U'.set (j + i) y) wl j (i + 1) := by
  obtain ⟨h1, h2, h3, h4⟩ := h
  refine ⟨by rw [List.length_set]; exact h1, ?_, fun t ht => ?_, ?_⟩
  · rw [List.take_set_of_le (by omega)]; exact h2
  · rw [List.getElem?_set_ne (by omega)]; exact h3 t (by omega)
  · have hx' : U'[j + i]? = some x := by rw [h3 _ (Nat.le_refl _)]; exact hx
    have h5 := val_set (y := y) hx'
    have hxd : (U.drop j)[i]? = some x := by rw [List.getElem?_drop]; exact hx
    rw [val_take_succ hxd, hy, Nat.mul_add, Nat.mul_add, ← Nat.mul_assoc, ← Nat.mul_assoc, ← Nat.pow_add]
    omega
theorem wl_next {wl : List Nat} {i : Nat} (h : wl.length ≤ i) : val (wl.take (i + 1)) = val (wl.take i) + 4294967296 ^ i * 0 := by rw [val_take_over h]; rfl

set_option maxRecDepth 100000 in
set_option maxHeartbeats 800000 in
theorem rtake_any (B : Option Addr) (gU j n m c d g : Nat) (U v : List Nat) (w : World) (hU : RowD w gU U) (hB : RM w B n d v) (hn : n ≤ 10000) (hm : n + 1 ≤ m) (hjm : j + m = U.length) (hmc : m ≤ c) (hcm : c ≤ 9223372036854775807) (hg : g < 18446744073709551616)
    (hle : val v * g ≤ val ((U.drop j).take (n + 1))) :
    Calls Tryd.prog 95 #[.slice (some ⟨gU, j, none⟩) m c, .slice B n d, .int .u64 (g : Int)] w fun e w' => e = .returned (.tuple #[]) ∧ ∃ U', RowD w' gU U' ∧ U'.length = U.length ∧ U'.take j = U.take j ∧ val U' + 4294967296 ^ j * (val v * g) = val U ∧ Only gU w w' := by
  have hsub := hU.sub hjm hmc hcm
  have hmm : m ≤ 9223372036854775807 := by omega
  have HLE := Lib.hid hle; clear hle
  go_enter Tryd.func95, Tryd.ntmps95
  go_wp2_with fail
  refine (rtrim_any (some ⟨gU, j, none⟩) (n + 1) c ((U.drop j).take (n + 1)) _ (hsub.take hm (by omega) hcm) (by omega)).mono ?_
  rintro e w1 ⟨v1, rfl, ⟨A1, n1, c1, rfl, hR1⟩, hx1⟩
  go_wp2_with fail
  refine (rdigits_any g _ hg).mono ?_
  rintro e w2 ⟨v2, rfl, ⟨A2, n2, c2, rfl, hR2⟩, hx2⟩
  have hn2 : n2 ≤ 100000 := by have := hR2.len; have := digs64 hg; omega
  have hx12 := hx2
  have hx2 := hx1.trans hx2
  go_wp2_with fail
  refine (rtimes_any B A2 n n2 d c2 _ _ _ (hB.ext hx2) hR2 (by omega) hn2).mono ?_
  rintro e w3 ⟨v3, rfl, ⟨A3, n3, c3, rfl, hR3⟩, hx3⟩
  rw [val_digs] at hR3
  have hx3' := hx2.trans hx3
  have hR1' := hR1.ext (hx12.trans hx3)
  have hl1 := hR1'.len
  have hl3 := hR3.len
  have hlen : n3 ≤ n1 := by
    have h1 := digs_len_le (n := val v * g) (k := n1) (Nat.lt_of_le_of_lt HLE.out (lt_of_digs_len (by omega)))
    omega
  have hn1 : n1 ≤ n + 1 := by
    have h1 := digs_len_le (val_take_lt hsub.dg (n + 1))
    omega
  go_wp2_with fail
  refine (rminus_fresh A1 A3 n1 n3 c1 c3 _ _ _ hR1' hR3 (by omega) hlen (by rw [val_digs, val_digs]; exact HLE.out)).mono ?_
  rintro e w4 ⟨v4, rfl, ⟨⟨A4, n4, c4, rfl, hR4⟩, hfr⟩, hx4⟩
  rw [val_digs, val_digs] at hR4
  have hx4 := hx3'.trans hx4
  have hgw := hU.1.lt
  have hne : ∀ ad, A4 = some ad → ad.block ≠ gU := fun ad e => by
    have := hfr ad.block (by rw [e]; rfl)
    have := hx3'.size
    omega
  have HNE := Lib.hid hne; clear hne hfr
  have hl4 := hR4.len
  have hlen4 : n4 ≤ n + 1 := by
    have h1 := digs_len_le (n := val ((U.drop j).take (n + 1)) - val v * g) (k := n + 1) (Nat.lt_of_le_of_lt (Nat.sub_le _ _) (val_take_lt hsub.dg (n + 1)))
    omega
  have hn4c : n4 ≤ 9223372036854775807 := by omega
  have HL4 := Lib.hid hl4
  have HJM := Lib.hid hjm
  have HU := Lib.hid (show RowD w4 gU U from hU.far hx4)
  clear hl1 hl3 hl4 hjm hU hsub
  obtain ⟨wl, hwl⟩ : ∃ wl, wl = digs (val ((U.drop j).take (n + 1)) - val v * g) := ⟨_, rfl⟩
  rw [← hwl] at hR4 HL4
  have HWL := Lib.hid hwl; clear hwl
  have hdig4 := hR4.dg
  have HR4 := Lib.hid hR4; clear hR4
  have hcm4 := HR4.out.cm
  go_wp2
  go_loopw [7] (fun iv wr => ∃ (i : Nat) (U' : List Nat), i ≤ n + 1 ∧ iv = .int .i64 i ∧ Over U U' wl j i ∧ RowD wr gU U' ∧ Only gU w4 wr) (fun iv _ => n + 1 - (intOf iv).toNat)
  case atStart => exact ⟨0, U, by omega, rfl, Over.start _ _ _, HU.out, Only.refl _ _⟩
  case round =>
    obtain ⟨i, U', hi, rfl, hov, hrow, hon⟩ := hrel
    have HOV := Lib.hid hov; clear hov
    by_cases hlt : i ≤ n
    · have hjl : j + i < U'.length := by rw [HOV.out.1, ← HJM.out]; omega
      obtain ⟨x', _, _, hcx, hfx⟩ := hrow.at_ hjl
      obtain ⟨x, hx⟩ : ∃ x, U[j + i]? = some x := ⟨_, List.getElem?_eq_getElem (by rw [← HJM.out]; omega)⟩
      have HX := Lib.hid hx; clear hx
      have HR := Lib.hid hrow; clear hrow
      have hcc : ∀ u, (wr.setCell ⟨gU, j + i, none⟩ u).cell? ⟨gU, j + i, none⟩ = some u := fun u => by
        have := (HR.out.1.setL (i := j + i) u).cell (j + i)
        rw [this]
        have hl : j + i < (mg U').length := by rw [mg_len]; exact hjl
        simp [hl]
      have hff : ∀ u, (wr.setCell ⟨gU, j + i, none⟩ u).frozen? ⟨gU, j + i, none⟩ = false := fun u => (HR.out.1.setL (i := j + i) u).frozen (j + i)
      clear hjl
      by_cases hl4 : i < n4
      · obtain ⟨b4, o4, hA4, _, hc4⟩ := HR4.out.rd.plain (by omega)
        have hb4 := HNE.out _ hA4
        subst hA4
        obtain ⟨ad', y, e1, _, hy, hy32, _⟩ := HR4.out.at_ hl4
        have hcy : ∀ u, (wr.setCell ⟨gU, j + i, none⟩ u).cell? ⟨b4, o4 + i, none⟩ = some (.int .u32 (y : Int)) := fun u => (hon.trans (Only.set _ _ _ _)).cell_ (hc4 i _ (mg_get hy)) hb4
        have HY := Lib.hid (val_take_succ hy); clear hy hc4 e1
        go_wp2
        go_roundw
        case rel =>
          refine ⟨i + 1, U'.set (j + i) y, by omega, by go_num, HOV.out.step HX.out HY.out, ?_, (hon.trans (Only.set _ _ _ _)).trans (Only.set _ _ _ _)⟩
          have h1 := (HR.out.set (k := j + i) (d := 0) (z := 0) rfl (by omega)).set (k := j + i) (d := y) rfl hy32
          rwa [List.set_set] at h1
        case measure => simp [intOf] <;> omega
      · go_wp2
        go_roundw
        case rel =>
          refine ⟨i + 1, U'.set (j + i) 0, by omega, by go_num, HOV.out.step HX.out (wl_next (by rw [HL4.out]; omega)), ?_, hon.trans (Only.set _ _ _ _)⟩
          exact HR.out.set (k := j + i) (d := 0) (z := 0) rfl (by omega)
        case measure => simp [intOf] <;> omega
    · obtain rfl : i = n + 1 := by omega
      go_wp2
      go_end0
      refine ⟨rfl, U', hrow, HOV.out.1, HOV.out.2.1, ?_, (Only.of_ext hx4).trans hon⟩
      have h1 := HOV.out.2.2.2
      rw [List.take_of_length_le (l := wl) (by rw [HL4.out]; omega), HWL.out, val_digs] at h1
      have h2 := HLE.out
      have h3 : 4294967296 ^ j * val ((U.drop j).take (n + 1)) = 4294967296 ^ j * (val ((U.drop j).take (n + 1)) - val v * g) + 4294967296 ^ j * (val v * g) := by
        rw [← Nat.mul_add, Nat.sub_add_cancel h2]
      omega
end Go.Proofs.YtfdpbcjcinchgaaDoor
