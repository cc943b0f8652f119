/- Words and contracts that the laws share, several texts in one. -/
import Derived.Test.YtclkkoiaaddllaaGreatQNGpcea
/- The program over numbers: turning. -/
namespace Go.Proofs.YtclkkoiaaddllaaGreat
open Go.RowKit
set_option linter.unusedVariables false

theorem St.swap {w W : World} {a b : Bk} {bs : List Bk} {fs : List Nm} (h : St w W (a :: b :: bs) fs) : St w W (b :: a :: bs) fs :=
  ⟨h.ext, fun p hp => h.blks p (by simp at hp ⊢; rcases hp with e | e | e <;> simp [e]), ⟨⟨fun e => h.nd.1.1 e.symm, h.nd.2.1⟩, h.nd.1.2, h.nd.2.2⟩, h.nums⟩

end Go.Proofs.YtclkkoiaaddllaaGreat

/- The program over numbers: phasors, making numbers. -/
namespace Go.Proofs.YtclkkoiaaddllaaGreat
open Go.RowKit
set_option linter.unusedVariables false

theorem PV.mono {w : World} {v : Value} {p : PQ} {m n : Nat} (h : PV w v p m) (hmn : m ≤ n) : PV w v p n := by
  obtain ⟨a, b, d, x, y, z, h1, h2, h3, h4, h5⟩ := h
  exact ⟨a, b, d, x, y, z, h1, h2, h3.mono hmn, h4, h5.mono hmn⟩
set_option maxRecDepth 100000 in
set_option maxHeartbeats 3200000 in
theorem eOf_w (m0 : Int) (m1 : Int) (m2 : Int) (w : World) (l0 : -9223372036854775808 ≤ m0) (u0 : m0 ≤ 9223372036854775807) (l1 : -9223372036854775808 ≤ m1) (u1 : m1 ≤ 9223372036854775807) (l2 : -9223372036854775808 ≤ m2) (u2 : m2 ≤ 9223372036854775807) (H0 : (m2 == 0) = false)
    (N18 : Hid ((m2) ≠ 0))
    (a0 a1 a2 : Int) (E18 : Hid ((a0, a1, a2) = nf (m0) (m1) (m2))) (A18a : a0.natAbs < lim) (A18b : a1.natAbs < lim) (A18d : a2.natAbs < lim)  :
    Calls Tryz.prog 37 #[.int .i64 m0, .int .i64 m1, .int .i64 m2] w fun e w' => ∃ v, e = .returned v ∧ (∃ u, v = .tuple #[u, .int .i64 0] ∧ RG w' u a0 a1 a2) ∧ Ext w w' := by
  have hS := St.start w
  have o6 : Own w w.heap.size := Own.of hS.ext (by simp)
  have o8 : Own w (w.heap.size + 1) := Own.of hS.ext (by simp)
  go_enter Tryz.func37, Tryz.ntmps37
  go_wp2_with fail
  replace hS := (St.al (St.al hS 32 #[.bool false, .slice none 0 0, .bool false, .slice none 0 0, .bool false, .slice none 0 0] (g := w.heap.size) (by simp)) 105 #[.int .i64 0] (g := (w.heap.size + 1)) (by simp))
  generalize ((w.alloc (.cells #[.bool false, .slice none 0 0, .bool false, .slice none 0 0, .bool false, .slice none 0 0] 32)).alloc (.cells #[.int .i64 0] 105)) = w1 at hS ⊢
  generalize w.heap.size + 1 = g8 at hS o8 ⊢
  generalize w.heap.size = g6 at hS o6 ⊢
  refine (Of_any (m0) _ l0 u0).mono ?_
  rintro e w2 ⟨v_, rfl, hv_, hx_⟩
  replace hS := hS.mv hx_
  clear hx_
  obtain ⟨s13, A_13, n13, c13, rfl, ac⟩ := RI.opn hv_
  clear hv_
  replace hS := hS.addI ac
  clear ac
  go_wp2_with fail
  refine (Of_any (m1) _ l1 u1).mono ?_
  rintro e w3 ⟨v_, rfl, hv_, hx_⟩
  replace hS := hS.mv hx_
  clear hx_
  obtain ⟨s15, A_15, n15, c15, rfl, ad⟩ := RI.opn hv_
  clear hv_
  replace hS := hS.addI ad
  clear ad
  go_wp2_with fail
  refine (Of_any (m2) _ l2 u2).mono ?_
  rintro e w4 ⟨v_, rfl, hv_, hx_⟩
  replace hS := hS.mv hx_
  clear hx_
  obtain ⟨s17, A_17, n17, c17, rfl, ae⟩ := RI.opn hv_
  clear hv_
  replace hS := hS.addI ae
  clear ae
  go_wp2_with fail
  refine (ereduce_ok g8 _ _ _ (m0) (m1) (m2) a0 a1 a2 _ (hS.blk 0 rfl) (hS.num 2 rfl) (hS.num 1 rfl) (hS.num 0 rfl) (lt_lim64 l0 u0) (lt_lim64 l1 u1) (lt_lim64 l2 u2) N18.out E18.out).mono ?_
  rintro e w5 ⟨v_, rfl, hv_, hx_⟩
  replace hS := hS.mv hx_
  clear hx_
  obtain ⟨s18a, ap, n18a, c18a, s18b, aq, n18b, c18b, s18d, ar, n18d, c18d, rfl, a3, a4, a5⟩ := hv_
  replace hS := hS.addI a3
  clear a3
  replace hS := hS.addI a4
  clear a4
  replace hS := hS.addI a5
  clear a5
  go_wp2_with fail
  refine (enumber_w g8 _ a0 a1 a2 _ (hS.blk 0 rfl) (RG.mk (hS.num 2 rfl) (hS.num 1 rfl) (hS.num 0 rfl))).mono ?_
  rintro e w6 ⟨v_, rfl, hv_, hx_⟩
  replace hS := hS.mv hx_
  clear hx_
  obtain ⟨_, rfl, af, a6, ag, ah, ai, a7, aj, ak, am, a8, an, ao, rfl, a9, aa, ab⟩ := hv_
  replace hS := hS.addI a9
  clear a9
  replace hS := hS.addI aa
  clear aa
  replace hS := hS.addI ab
  clear ab
  have k_1 := (hS.blk 1 rfl).cell
  have k_2 := (hS.blk 1 rfl).frozen
  go_wp2
  replace hS := (St.put (W' := ((((((w6.setCell ⟨g6, 0, none⟩ (.bool af)).setCell ⟨g6, 1, none⟩ (.slice a6 ag ah)).setCell ⟨g6, 2, none⟩ (.bool ai)).setCell ⟨g6, 3, none⟩ (.slice a7 aj ak)).setCell ⟨g6, 4, none⟩ (.bool am)).setCell ⟨g6, 5, none⟩ (.slice a8 an ao))) hS 1 0 [.bool af, .slice a6 ag ah, .bool ai, .slice a7 aj ak, .bool am, .slice a8 an ao] (cs' := #[.bool af, .slice a6 ag ah, .bool ai, .slice a7 aj ak, .bool am, .slice a8 an ao]) (bs' := _) rfl o6 rfl rfl (by kernel_rfl) rfl)
  exact bp_gauss2 rfl rfl rfl (hS.blk 1 rfl) ⟨_, rfl, ⟨_, rfl, RG.mk (hS.num 2 rfl) (hS.num 1 rfl) (hS.num 0 rfl)⟩, hS.ext⟩

theorem add_blend (x y : GQ) : GQ.blend 1 x 1 y 1 = x + y := by
  ext <;> simp only [GQ.blend, GQ.add_re, GQ.add_im] <;> grind
theorem sub_blend (x y : GQ) : GQ.blend 1 x (-1) y 1 = x - y := by
  ext <;> simp only [GQ.blend, GQ.sub_re, GQ.sub_im] <;> grind
theorem eOf_q (re im den : Int) (w : World) (l0 : -9223372036854775808 ≤ re) (u0 : re ≤ 9223372036854775807) (l1 : -9223372036854775808 ≤ im) (u1 : im ≤ 9223372036854775807) (l2 : -9223372036854775808 ≤ den) (u2 : den ≤ 9223372036854775807) (hd : den ≠ 0) :
    Calls Tryz.prog 37 #[.int .i64 re, .int .i64 im, .int .i64 den] w fun e w' => ∃ v, e = .returned v ∧ (∃ u, v = .tuple #[u, .int .i64 0] ∧ GV w' u ⟨(re : Rat) / (den : Rat), (im : Rat) / (den : Rat)⟩ 64) ∧ Ext w w' := by
  obtain ⟨a, b, d, E⟩ := nf_ex re im den
  have I := is_nf (a := re) (b := im) (d := den) hd
  rw [← E] at I
  have sz := nf_size' (n := 64) hd E (lt64 l0 u0) (lt64 l1 u1) (lt64 l2 u2)
  obtain ⟨s1, s2, s3⟩ := sz.lims (by omega)
  exact (eOf_w re im den w l0 u0 l1 u1 l2 u2 (by simpa using hd) (Lib.hid hd) a b d (Lib.hid E) s1 s2 s3).mono fun e w' ⟨v, he, ⟨u, hu, hR⟩, hx⟩ => ⟨v, he, ⟨u, hu, a, b, d, hR, I, sz⟩, hx⟩
end Go.Proofs.YtclkkoiaaddllaaGreat
