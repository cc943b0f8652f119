/- Words and contracts that the laws share, several texts in one. -/
import Derived.Test.YtclkkoiaaddllaaGreatQMEikao
import Derived.Deep.CutBlock
import Derived.Deep.DeepCutAuto
import Derived.Deep.LoopGhost
/- The reference's long division: the walk. -/
namespace Go.Proofs.YtclkkoiaaddllaaGreat
open Go.RowKit
set_option linter.unusedVariables false

theorem RM.cell2 {w : World} {ad : Addr} {n c k x : Nat} {l : List Nat} (h : RM w (some ad) n c l) (hx : l[k]? = some x) : w.cell? (ad.add k) = some (.int .u32 (x : Int)) ∧ w.cell? ⟨ad.block, ad.off + k, none⟩ = some (.int .u32 (x : Int)) := by
  have hk : k < l.length := (List.getElem?_eq_some_iff.1 hx).1
  have hl := h.len
  obtain ⟨b, o, e, _, hc⟩ := h.rd.plain (by omega)
  cases e
  have := hc k _ (mg_get hx)
  exact ⟨by rw [add_plain]; exact this, this⟩
theorem u32_wrap_of {x s : Nat} (h : x * 2 ^ s < 4294967296) : IntKind.u32.wrap ((x : Int) * 2 ^ s) = ((x * 2 ^ s : Nat) : Int) := by
  have e : ((x : Int) * 2 ^ s) = ((x * 2 ^ s : Nat) : Int) := by push_cast; rfl
  rw [e]
  exact IntWalk.u32_in _ (by omega)

theorem div_init {U : List Nat} {a b s la n : Nat} (hU : val U = a * 2 ^ s) (ha : a < 4294967296 ^ la) (hb : 4294967296 ^ (n + 1) ≤ b) (hla : n + 1 ≤ la) (hl : la - n - 1 ≤ U.length) : val (U.drop (la - n - 1)) < b * 2 ^ s := by
  have h1 := val_split U (la - n - 1) hl
  have h2 : a * 2 ^ s < 4294967296 ^ la * 2 ^ s := Nat.mul_lt_mul_of_pos_right ha (Nat.pow_pos (by omega))
  have h3 : 4294967296 ^ la = 4294967296 ^ (la - n - 1) * 4294967296 ^ (n + 1) := by rw [← Nat.pow_add]; congr 1; omega
  have h4 : 4294967296 ^ (la - n - 1) * (4294967296 ^ (n + 1) * 2 ^ s) ≤ 4294967296 ^ (la - n - 1) * (b * 2 ^ s) := Nat.mul_le_mul_left _ (Nat.mul_le_mul_right _ hb)
  rw [h3, Nat.mul_assoc] at h2
  have h5 : 4294967296 ^ (la - n - 1) * val (U.drop (la - n - 1)) < 4294967296 ^ (la - n - 1) * (b * 2 ^ s) := by omega
  exact Nat.lt_of_mul_lt_mul_left h5

set_option maxRecDepth 100000 in
set_option maxHeartbeats 1600000 in
theorem rdivide_big (A B : Option Addr) (la n c d a b : Nat) (w : World) (hA : RM w A la c (digs a)) (hB : RM w B (n + 2) d (digs b)) (hab : b ≤ a) (hla : la ≤ 10000) :
    Calls Tryz.prog 138 #[.slice A la c, .slice B (n + 2) d] w fun e w' => ∃ q r, e = .returned (.tuple #[q, r]) ∧ SlM (digs (a / b)) q w' ∧ SlM (digs (a % b)) r w' ∧ Ext w w' := by
  have hcm : decide (cmpN a b < 0) = false := by rw [cmp_lt_iff]; exact decide_eq_false (by omega)
  have HLA := Lib.hid hA.len
  have hlb := hB.len
  have hnl : n + 2 ≤ la := by
    have h1 := digs_len_le (n := b) (k := la) (Nat.lt_of_le_of_lt hab (lt_of_digs_len (by have := HLA.out; omega)))
    omega
  obtain ⟨ad, x, rfl, _, hx, hx32, _⟩ := hB.at_ (k := n + 1) (by omega)
  have hx0 : 0 < x := by
    have := canon_digs b x (last_at hlb hx)
    omega
  have HX := Lib.hid hx; clear hx
  have HLB := Lib.hid hlb; clear hlb
  have t1 : (((n + 2 : Nat) : Int) == 1) = false := by simp; omega
  have t2 : ((n : Int) + 2 == 1) = false := by simp; omega
  go_enter Tryz.func138, Tryz.ntmps138
  go_wp2_with fail
  refine (rcompare_any A (some ad) la (n + 2) c d _ _ _ hA hB (canon_digs _) (canon_digs _)).mono ?_
  rintro e w1 ⟨rfl, hx1⟩
  rw [val_digs, val_digs]
  obtain ⟨hc1, hc2⟩ := (hB.ext hx1).cell2 HX.out
  go_wp2
  go_loop [8] (fun i => ∃ s : Nat, s ≤ 31 ∧ i = .int .i64 s ∧ x * 2 ^ s < 4294967296) (fun i => 32 - (intOf i).toNat)
  case atStart => exact ⟨0, by omega, rfl, by simpa using hx32⟩
  case round =>
    obtain ⟨s, hs, rfl, hlt⟩ := hrel
    obtain ⟨y, hy⟩ : ∃ y, y = x * 2 ^ s := ⟨_, rfl⟩
    have e1 : IntKind.u32.wrap ((x : Int) * 2 ^ s) = (y : Int) := by rw [u32_wrap_of hlt, hy]
    have e2 := and31 (y := y) (by rw [hy]; exact hlt)
    have HY := Lib.hid hy; clear hy
    by_cases h31 : y < 2147483648
    · rw [decide_eq_true h31] at e2
      go_wp2
      go_round
      case rel =>
        have h1 := HY.out
        have h2 : 1 * 2 ^ s ≤ x * 2 ^ s := Nat.mul_le_mul_right _ hx0
        have h3 : 2 ^ s < 2 ^ 31 := by omega
        have h4 := (Nat.pow_lt_pow_iff_right (by omega)).1 h3
        exact ⟨s + 1, by omega, by go_num, by rw [Nat.pow_succ, ← Nat.mul_assoc]; omega⟩
      case measure => simp [intOf] <;> omega
    · rw [decide_eq_false h31] at e2
      have hN : Norm b n s x := ⟨HLB.out, HX.out, by have := HY.out; omega, hlt, by omega⟩
      have HN := Lib.hid hN; clear hN
      go_wp2
      clear e1 e2 hc1 hc2
      have q1 : (0 : Int) ≤ (n : Int) + 2 := by omega
      refine wp_region_ordE 10 [(true, 0), (true, 1), (true, 3), (true, 4), (true, 6), (true, 7), (false, 2), (false, 5), (true, 8), (true, 9)] (by kernel_rfl) (by kernel_rfl) ?_
      refine wpOrdT_quiet [0, 1, 3, 4, 6, 7] [(false, 2), (false, 5), (true, 8), (true, 9)] _ (by kernel_rfl) ?_
      simp only [nthOps, nthOp, List.cons_append, List.nil_append]
      repeat (go_big_quiet_step (fail))
      refine wpQuiet_nil ?_
      refine wpOrdT_act 2 [(false, 5), (true, 8), (true, 9)] (by kernel_rfl) ?_
      intro K hK
      simp only [nthOp]
      go_wp2_with fail
      refine (rshift_any A la c s (digs a) _ (hA.ext hx1.drew) (by omega) (by omega)).mono ?_
      rintro e w2 ⟨rfl, U, hU, hUl, hUv, hx2⟩
      rw [val_digs] at hUv
      have hx2 := hx2.undrew
      have hbU : w1.drew.heap.size = w1.heap.size := rfl
      rw [hbU] at hU
      rw [hbU]
      go_wp2
      refine hK _ _ ⟨⟨w2, hx2⟩, rfl⟩ ?_
      clear hK K hbU
      refine wpOrdT_act 5 [(true, 8), (true, 9)] (by kernel_rfl) ?_
      intro K hK
      simp only [nthOp]
      go_wp2_with fail
      refine (rshift_any (some ad) (n + 2) d s (digs b) _ (hB.ext (hx1.trans hx2)) (by omega) (by omega)).mono ?_
      rintro e w3 ⟨rfl, Q, hQ, hQl, hQv, hx3⟩
      rw [val_digs] at hQv
      go_wp2
      refine hK _ _ ⟨⟨w3, hx2.trans hx3⟩, rfl⟩ ?_
      clear hK K
      obtain ⟨hV, v1, v0, hv1, hv0, hvt⟩ := HN.out.digits hQl hQ.2 hQv
      have hqle : n + 2 ≤ n + 2 + 1 := by omega
      refine wpOrdT_quiet [8, 9] [] _ (by kernel_rfl) ?_
      simp only [nthOps, nthOp, List.cons_append, List.nil_append]
      repeat (go_big_quiet_step (fail))
      refine wpQuiet_nil ?_
      simp only [wpOrdT, List.drop_succ_cons, List.drop_zero]
      have hmk := make_u32 ((la : Int) - ((n : Int) + 2) + 1) (la - n - 1) (by omega) (by omega)
      go_wp2
      clear hmk
      -- names for the loop
      obtain ⟨V, hVd⟩ : ∃ V, V = val (Q.take (n + 2)) := ⟨_, rfl⟩
      have hVb : V = b * 2 ^ s := by rw [hVd, hV]
      have hVpos : 0 < V := by
        have h1 := HN.out.ge
        have h2 : 0 < 4294967296 ^ (n + 1) := Nat.pow_pos (by omega)
        have h3 : 0 < 2147483648 * 4294967296 ^ (n + 1) := Nat.mul_pos (by omega) h2
        omega
      have hVlt : V < 4294967296 ^ (n + 2) := by rw [hVb]; exact HN.out.lt
      have hU4 : RowD (w3.alloc (.cells (mg (List.replicate (la - n - 1) 0)).toArray 103)) w1.heap.size U := hU.far (hx3.alloc _)
      have hQ4 : RowD (w3.alloc (.cells (mg (List.replicate (la - n - 1) 0)).toArray 103)) w2.heap.size Q := hQ.far (Ext.new _ _)
      have hst : DivInv U [] (a * 2 ^ s) V (la - n - 1) := by
        refine DivInv.start hUv ?_
        rw [hVb]
        exact div_init hUv (lt_of_digs_len (by rw [HLA.out]; exact Nat.le_refl _)) (by have := le_of_digs HLB.out (by omega); simpa using this) (by omega) (by omega)
      have HVD := Lib.hid hVd; have HVB := Lib.hid hVb
      clear hVd hVb hV hUv hQv
      have hs1 := hx2.size
      have hs2 := hx3.size
      have hgU := hU.1.lt
      have hgQ := hQ.1.lt
      have HUL := Lib.hid hUl; have HQL := Lib.hid hQl
      have HV1 := Lib.hid hv1; have HV0 := Lib.hid hv0
      have hst' := Lib.hid hst; clear hst hUl hQl hv1 hv0
      have HU4 := Lib.hid hU4; have HQ4 := Lib.hid hQ4; clear hU4 hQ4 hU hQ
      have hext3 : Ext w w3 := (hx1.trans hx2).trans hx3
      go_loopw [12] (fun iv wr => ∃ (k : Nat) (U qs : List Nat), k ≤ la - n - 1 ∧ iv = .int .i64 ((k : Int) - 1) ∧ U.length = la + 1 ∧ k + qs.length = la - n - 1 ∧ DivInv U qs (a * 2 ^ s) V k ∧ RowD wr w1.heap.size U ∧ RowD wr w2.heap.size Q ∧ RowD wr w3.heap.size (List.replicate k 0 ++ qs) ∧ Ext w wr) (fun iv _ => (intOf iv + 1).toNat)
      case atStart => exact ⟨la - n - 1, U, [], Nat.le_refl _, by congr 1; omega, HUL.out, by simp, hst'.out, HU4.out, HQ4.out, ⟨by simpa using Blk.new w3 _ _, by simpa using Dig.replicate _⟩, hext3.alloc _⟩
      case round =>
        clear HU4 HQ4 hst' HUL
        obtain ⟨k, U, qs, hk, rfl, hUl, hqs, hdi, hU, hQ, hq, hex⟩ := hrel
        have HUL := Lib.hid hUl; clear hUl
        have HQS := Lib.hid hqs; clear hqs
        have HDI := Lib.hid hdi; clear hdi
        by_cases h0 : k = 0
        · subst h0
          have hdone := HDI.out.done
          have HDN := Lib.hid hdone; clear hdone
          have hqr : RM wr (some ⟨w3.heap.size, 0, none⟩) (la - n - 1) (la - n - 1) qs := by
            have h1 : RowD wr w3.heap.size qs := by simpa using hq
            exact h1.rm (by have := HQS.out; omega) (by omega)
          have hur : RM wr (some ⟨w1.heap.size, 0, none⟩) (n + 2) (la + 1) (U.take (n + 2)) := (hU.rm (n := la + 1) HUL.out (by omega)).take (by omega) (by omega) (by omega)
          go_wp2
          have q2 : (0 : Int) ≤ (n : Int) + 2 := by omega
          have q3 : (n : Int) + 2 ≤ (la : Int) + 1 := by omega
          refine wp_region_ordE 9 [(true, 0), (true, 2), (true, 3), (true, 4), (true, 5), (true, 6), (false, 1), (false, 7), (true, 8)] (by kernel_rfl) (by kernel_rfl) ?_
          refine wpOrdT_quiet [0, 2, 3, 4, 5, 6] [(false, 1), (false, 7), (true, 8)] _ (by kernel_rfl) ?_
          simp only [nthOps, nthOp, List.cons_append, List.nil_append]
          repeat (go_big_quiet_step (fail))
          refine wpQuiet_nil ?_
          refine wpOrdT_act 1 [(false, 7), (true, 8)] (by kernel_rfl) ?_
          intro K hK
          simp only [nthOp]
          go_wp2_with fail
          refine (rtrim_any _ _ _ qs _ (hqr.ext (Ext.refl wr).drew) (by omega)).mono ?_
          rintro e wa ⟨va, rfl, hRa, hxa⟩
          have hxa := hxa.undrew
          go_wp2
          refine hK _ _ ⟨⟨wa, hxa⟩, rfl⟩ ?_
          clear hK K
          refine wpOrdT_act 7 [(true, 8)] (by kernel_rfl) ?_
          intro K hK
          simp only [nthOp]
          go_wp2_with fail
          refine (rback_any _ (n + 2) _ s (U.take (n + 2)) _ (hur.ext hxa) (by omega) (by omega)).mono ?_
          rintro e wb ⟨vb, rfl, hRb, hxb⟩
          have hxb' := hxa.trans hxb
          go_wp2
          refine hK _ _ ⟨⟨wb, hxb'⟩, rfl⟩ ?_
          clear hK K
          refine wpOrdT_quiet [8] [] _ (by kernel_rfl) ?_
          simp only [nthOps, nthOp, List.cons_append, List.nil_append]
          repeat (go_big_quiet_step (fail))
          refine wpQuiet_nil ?_
          simp only [wpOrdT, List.drop_succ_cons, List.drop_zero]
          have hvq : val qs = a / b := by rw [HDN.out.1, HVB.out, div_cancel]
          have hvu : val (U.take (n + 2)) / 2 ^ s = a % b := by
            have h1 := HDN.out.2
            rw [HVB.out, mod_cancel] at h1
            rw [val_cut hU.2 (by rw [HUL.out]; omega), h1, Nat.mul_div_cancel _ (Nat.pow_pos (by omega))]
            have h2 := HDI.out.2
            rw [List.drop_zero] at h2
            omega
          rw [hvq] at hRa
          rw [hvu] at hRb
          have HRa := Lib.hid (hRa.ext hxb); have HRb := Lib.hid hRb
          clear hRa hRb hvq hvu
          go_wp2
          go_ret2
          exact ⟨_, _, rfl, HRa.out, HRb.out, hex.trans hxb'⟩
        · obtain ⟨j, rfl⟩ : ∃ j, k = j + 1 := ⟨k - 1, by omega⟩
          obtain ⟨u2, u1, u0, hu2, hu1, hu0, ht⟩ := tops_of (j := j) hU.2 (hQ.2.take (n + 2)) (by rw [HUL.out]; omega) (by rw [List.length_take, HQL.out]; omega) HV1.out HV0.out hvt (by rw [← HVD.out]; exact HDI.out.2)
          rw [← HVD.out] at ht
          have HT := Lib.hid ht; clear ht
          rw [show ((j + 1 : Nat) : Int) - 1 = (j : Int) by omega]
          obtain ⟨x2, ex2, _, cU2, _⟩ := hU.at_ (k := j + n + 2) (by rw [HUL.out]; omega)
          obtain ⟨x1, ex1, _, cU1, _⟩ := hU.at_ (k := j + n + 1) (by rw [HUL.out]; omega)
          obtain ⟨x0, ex0, _, cU0, _⟩ := hU.at_ (k := j + n) (by rw [HUL.out]; omega)
          obtain rfl : x2 = u2 := by rw [hu2] at ex2; injection ex2 with h; exact h.symm
          obtain rfl : x1 = u1 := by rw [hu1] at ex1; injection ex1 with h; exact h.symm
          obtain rfl : x0 = u0 := by rw [hu0] at ex0; injection ex0 with h; exact h.symm
          obtain ⟨y1, ey1, _, cV1, _⟩ := hQ.at_ (k := n + 1) (by rw [HQL.out]; omega)
          obtain ⟨y0, ey0, _, cV0, _⟩ := hQ.at_ (k := n) (by rw [HQL.out]; omega)
          obtain rfl : y1 = v1 := by have := HV1.out; rw [List.getElem?_take_of_lt (by omega), ey1] at this; injection this
          obtain rfl : y0 = v0 := by have := HV0.out; rw [List.getElem?_take_of_lt (by omega), ey0] at this; injection this
          clear ex2 ex1 ex0 ey1 ey0 hu2 hu1 hu0
          go_wp2
          have Y2 := ExtOf.cell cU2
          have Y1 := ExtOf.cell cU1
          have Y0 := ExtOf.cell cU0
          have Z1 := ExtOf.cell cV1
          have Z0 := ExtOf.cell cV0
          have b1 : IntKind.i64.wrap ((j : Int) + ((n : Int) + 2)) = (j : Int) + ((n : Int) + 2) := IntWalk.i64_in _ (by omega)
          have b2 : IntKind.i64.wrap ((j : Int) + ((n : Int) + 2) - 1) = (j : Int) + ((n : Int) + 1) := by rw [IntWalk.i64_in _ (by omega)]; omega
          have b3 : IntKind.i64.wrap ((j : Int) + ((n : Int) + 2) - 2) = (j : Int) + (n : Int) := by rw [IntWalk.i64_in _ (by omega)]; omega
          have b4 : IntKind.i64.wrap ((n : Int) + 2 - 1) = (n : Int) + 1 := by rw [IntWalk.i64_in _ (by omega)]; omega
          have b5 : IntKind.i64.wrap ((n : Int) + 2 - 2) = (n : Int) := by rw [IntWalk.i64_in _ (by omega)]; omega
          have c1 : ((j : Int) + ((n : Int) + 2)).toNat = j + n + 2 := by omega
          have c2 : ((j : Int) + ((n : Int) + 1)).toNat = j + n + 1 := by omega
          have c3 : ((j : Int) + (n : Int)).toNat = j + n := by omega
          have c4 : ((n : Int) + 1).toNat = n + 1 := by omega
          have d1 : (0 : Int) ≤ (j : Int) + ((n : Int) + 2) := by omega
          have d2 : (0 : Int) ≤ (j : Int) + ((n : Int) + 1) := by omega
          have d3 : (0 : Int) ≤ (j : Int) + (n : Int) := by omega
          have d4 : (j : Int) + ((n : Int) + 2) < (la : Int) + 1 := by omega
          have d5 : (j : Int) + ((n : Int) + 1) < (la : Int) + 1 := by omega
          have d6 : (j : Int) + (n : Int) < (la : Int) + 1 := by omega
          have d7 : (0 : Int) ≤ (n : Int) + 1 := by omega
          have d8 : (n : Int) + 1 < (n : Int) + 2 := by omega
          have d9 : (n : Int) < (n : Int) + 2 := by omega
          refine wp_region_ordE 41 [(true, 0), (true, 1), (true, 2), (true, 3), (true, 4), (true, 5), (true, 6), (true, 7), (true, 8), (true, 9), (true, 10), (true, 11), (true, 12), (true, 13), (true, 14), (true, 15), (true, 16), (true, 17), (true, 18), (true, 19), (true, 20), (true, 21), (true, 22), (true, 23), (true, 24), (true, 25), (true, 26), (true, 27), (true, 28), (true, 29), (true, 30), (true, 31), (true, 32), (true, 33), (true, 34), (true, 35), (true, 36), (true, 37), (true, 38), (true, 39), (false, 40)] (by kernel_rfl) (by kernel_rfl) ?_
          refine wpOrdT_quiet [0, 1, 2, 3, 4, 5, 6, 7, 8, 9, 10, 11, 12, 13, 14, 15, 16, 17, 18, 19, 20, 21, 22, 23, 24, 25, 26, 27, 28, 29, 30, 31, 32, 33, 34, 35, 36, 37, 38, 39] [(false, 40)] _ (by kernel_rfl) ?_
          simp only [nthOps, nthOp, List.cons_append, List.nil_append]
          repeat (go_big_quiet_step (fail))
          refine wpQuiet_nil ?_
          clear b1 b2 b3 b4 b5 c1 c2 c3 c4 d1 d2 d3 d4 d5 d6 d7 d8 d9 Y2 Y1 Y0 Z1 Z0 cU2 cU1 cU0 cV1 cV0
          refine wpOrdT_act 40 [] (by kernel_rfl) ?_
          intro K hK
          simp only [nthOp]
          go_wp2_with fail
          refine (rguess_any (val (U.drop j)) V (4294967296 ^ n) x2 x1 x0 y1 y0 _ HT.out).mono ?_
          rintro e wg ⟨⟨g, rfl, hg32, hglo, hghi⟩, hwg⟩
          obtain ⟨qd, hqd⟩ : ∃ qd, qd = val (U.drop j) / V := ⟨_, rfl⟩
          rw [← hqd] at hglo hghi
          have hwx : Ext wr wg := hwg ▸ (Ext.refl wr).drew
          clear hwg
          have HQD := Lib.hid hqd; clear hqd
          go_wp2
          refine hK _ _ ⟨⟨wg, hwx⟩, rfl⟩ ?_
          clear hK K
          simp only [wpOrdT, List.drop_succ_cons, List.drop_zero]
          have hUg := hU.far hwx
          have hQg := hQ.far hwx
          have hqg := hq.far hwx
          have hVM : RM wg (some ⟨w2.heap.size, 0, none⟩) (n + 2) (n + 3) (Q.take (n + 2)) := (hQg.rm (n := n + 3) HQL.out (by omega)).take (by omega) (by omega) (by omega)
          have hUM := hUg.sub (j := j) (m := la + 1 - j) (c := la + 1 - j) (by rw [HUL.out]; omega) (Nat.le_refl _) (by omega)
          clear hU hQ hq
          have hcut : val ((U.drop j).take (n + 2 + 1)) = val (U.drop j) := by
            refine val_cut (hUg.2.drop j) (by rw [List.length_drop, HUL.out]; omega) ?_
            have h1 := HT.out.fits
            have h2 : 4294967296 * V ≤ 4294967296 * 4294967296 ^ (n + 2) := Nat.mul_le_mul_left _ (Nat.le_of_lt hVlt)
            rw [Nat.pow_succ, Nat.mul_comm (4294967296 ^ (n + 2))]
            omega
          have HCUT := Lib.hid hcut; clear hcut
          have hj1 : (0 : Int) ≤ (j : Int) := by omega
          have hj2 : (j : Int) ≤ (la : Int) + 1 := by omega
          have hj3 : ((la : Int) + 1 - (j : Int)).toNat = la + 1 - j := by omega
          go_wp2_with fail
          refine (rless_any _ _ (n + 2) (la + 1 - j) _ _ g (U.drop j) (Q.take (n + 2)) _ hUM hVM (by omega) (by omega) (by omega)).mono ?_
          rintro e wl ⟨rfl, hxl⟩
          rw [HCUT.out, ← HVD.out]
          have hUl := hUg.far hxl
          have hVl := hVM.ext hxl
          have hQl := hQg.far hxl
          have hql := hqg.far hxl
          clear hUg hVM hUM hQg hqg
          have hexl := (hex.trans hwx).trans hxl
          have hqle : V * qd ≤ val (U.drop j) := by rw [HQD.out]; exact Nat.mul_div_le _ _
          have hqlt : val (U.drop j) < V * (qd + 1) := by rw [HQD.out]; exact Nat.lt_mul_div_succ _ hVpos
          have hq32 : qd < 4294967296 := by rw [HQD.out]; exact HT.out.q_lt
          have hless : ∀ g', g' = qd → decide (val (U.drop j) < V * g') = false := fun g' e => by rw [e]; exact decide_eq_false (by omega)
          have hless' : ∀ g', g' = qd + 1 → decide (val (U.drop j) < V * g') = true := fun g' e => by rw [e]; exact decide_eq_true hqlt
          have HLT := Lib.hid hqlt; clear hqlt
          have HLE := Lib.hid hqle; clear hqle
          rcases (show g = qd ∨ g = qd + 1 by omega) with hgq | hgq
          all_goals
            first
              | rw [hless g hgq]
              | rw [hless' g hgq]
            first
              | (have hgq' := hgq.symm; subst hgq')
              | subst hgq
            clear hless hless'
            go_wp2_with fail
            refine (rtake_any (some ⟨w2.heap.size, 0, none⟩) w1.heap.size j (n + 2) (la + 1 - j) _ _ _ U (Q.take (n + 2)) _ hUl hVl (by omega) (by omega) (by rw [HUL.out]; omega) (Nat.le_refl _) (by omega) (by omega) (by rw [HCUT.out, ← HVD.out]; exact HLE.out)).mono ?_
            rintro e w5 ⟨rfl, U', hU', hU'l, hU't, hU'v, hon⟩
            rw [← HVD.out] at hU'v
            have hq5 : RowD w5 w3.heap.size (List.replicate (j + 1) 0 ++ qs) := ⟨hon.blk hql.1 (by omega), hql.2⟩
            have hQ5 : RowD w5 w2.heap.size Q := ⟨hon.blk hQl.1 (by omega), hQl.2⟩
            obtain ⟨z, _, _, hcz, hfz⟩ := hq5.at_ (k := j) (by simp; omega)
            have hDI := HDI.out.step (by rw [HUL.out]; omega) hU'l hU't hU'v HQD.out hVpos
            have HDI2 := Lib.hid hDI
            have HU5 := Lib.hid hU'; have HQ5 := Lib.hid hQ5; have Hq5 := Lib.hid hq5
            have HUL2 := Lib.hid hU'l
            clear hDI hU' hQ5 hq5 hU'l hU't hU'v hUl hVl hQl hql
            have hs5 := hexl.size
            have hex5 : Ext w w5 := hon.ext hexl (by have := hx1.size; omega)
            go_wp2
            go_roundw
            case rel =>
              refine ⟨j, U', qd :: qs, by omega, by go_num, by rw [HUL2.out, HUL.out], by have := HQS.out; simp; omega, HDI2.out, ?_, ?_, ?_, hex5.setCell hext3.size _⟩
              · exact ⟨HU5.out.1.far (by simp; omega) _, HU5.out.2⟩
              · exact ⟨HQ5.out.1.far (by simp; omega) _, HQ5.out.2⟩
              · have h1 := Hq5.out.set (k := j) (d := qd) rfl hq32
                rwa [sh_list] at h1
            case measure => simp [intOf] <;> omega

theorem rdivide_any (A B : Option Addr) (n m c d a b : Nat) (w : World) (hA : RM w A n c (digs a)) (hB : RM w B m d (digs b)) (hb : 0 < b) (hn : n ≤ 10000) :
    Calls Tryz.prog 138 #[.slice A n c, .slice B m d] w fun e w' => ∃ q r, e = .returned (.tuple #[q, r]) ∧ SlM (digs (a / b)) q w' ∧ SlM (digs (a % b)) r w' ∧ Ext w w' := by
  rcases Nat.lt_or_ge a b with h | h
  · exact rdivide_lt A B n m c d a b w hA hB h
  · match m, hB with
    | 0, hB =>
      have h1 := hB.empty
      rw [digs_nil] at h1
      omega
    | 1, hB => exact rdivide_one A B n c d a b w hA hB h (by omega)
    | k + 2, hB => exact rdivide_big A B n k c d a b w hA hB h hn
end Go.Proofs.YtclkkoiaaddllaaGreat

/- Contract: one digit of a quotient, in place. -/
namespace Go.Proofs.YtclkkoiaaddllaaGreat
open Go.RowKit
set_option linter.unusedVariables false

/-- Subtracting g * v from U, from place j on, behind i digits. -/
def Msub (U U' v : List Nat) (j i g cy bo : Nat) : Prop :=
  U'.length = U.length ∧ U'.take j = U.take j ∧ (∀ t, j + i ≤ t → U'[t]? = U[t]?) ∧ val U' + 4294967296 ^ j * (g * val (v.take i)) = val U + 4294967296 ^ (j + i) * (cy + bo)
theorem Msub.start (U v : List Nat) (j g : Nat) : Msub U U v j 0 g 0 0 := ⟨rfl, rfl, fun _ _ => rfl, by simp [val]⟩
theorem ms_digit {x bo pl : Nat} (hx : x < 4294967296) (hb : bo ≤ 1) (hp : pl < 4294967296) : x + 4294967296 * sbor ((x : Int) - bo - pl) = sdig ((x : Int) - bo - pl) + bo + pl := by
  have := sdig_eq hx hp hb
  omega
theorem Msub.step {U U' v : List Nat} {j i g cy bo x y p : Nat} (h : Msub U U' v j i g cy bo) (hx : U[j + i]? = some x) (hy : v[i]? = some y) (hx32 : x < 4294967296) (hb : bo ≤ 1) (hp : p = g * y + cy) :
    Msub U (U'.set (j + i) (sdig ((x : Int) - bo - (p % 4294967296 : Nat)))) v j (i + 1) g (p / 4294967296) (sbor ((x : Int) - bo - (p % 4294967296 : Nat))) := by
  obtain ⟨h1, h2, h3, h4⟩ := h
  refine ⟨by rw [List.length_set]; exact h1, ?_, fun t ht => ?_, ?_⟩
  · rw [List.take_set_of_le (by omega)]; exact h2
  · rw [List.getElem?_set_ne (by omega)]; exact h3 t (by omega)
  · have hx' : U'[j + i]? = some x := by rw [h3 _ (Nat.le_refl _)]; exact hx
    have hm := ms_digit hx32 hb (Nat.mod_lt p (show 0 < 4294967296 by omega))
    generalize sdig ((x : Int) - bo - (p % 4294967296 : Nat)) = dg at *
    generalize sbor ((x : Int) - bo - (p % 4294967296 : Nat)) = bo' at *
    have h5 := val_set (y := dg) hx'
    rw [val_take_succ hy, show j + (i + 1) = (j + i) + 1 from rfl, Nat.pow_succ, Nat.mul_assoc]
    have e1 : 4294967296 ^ j * (g * (val (v.take i) + 4294967296 ^ i * y)) = 4294967296 ^ j * (g * val (v.take i)) + 4294967296 ^ (j + i) * (g * y) := by
      rw [Nat.mul_add, Nat.mul_add, Nat.pow_add]
      congr 1
      rw [Nat.mul_left_comm g, Nat.mul_assoc]
    have e2 : 4294967296 ^ (j + i) * dg + 4294967296 ^ (j + i) * (g * y) + 4294967296 ^ (j + i) * (cy + bo) = 4294967296 ^ (j + i) * x + 4294967296 ^ (j + i) * (4294967296 * (p / 4294967296 + bo')) := by
      rw [← Nat.mul_add, ← Nat.mul_add, ← Nat.mul_add]
      congr 1
      omega
    omega

/-- Nothing lies from m on. -/
theorem low_of {U X : List Nat} {m : Nat} (hU : val (U.drop m) = 0) (hX : Dig X) (hl : X.length = U.length) (h : ∀ t, m ≤ t → X[t]? = U[t]?) : val X < 4294967296 ^ m := by
  rcases Nat.lt_or_ge U.length m with h0 | h0
  · have := val_lt hX
    exact Nat.lt_of_lt_of_le this (Nat.pow_le_pow_right (by omega) (by omega))
  · have e : X.drop m = U.drop m := by
      apply List.ext_getElem?
      intro i
      rw [List.getElem?_drop, List.getElem?_drop]
      exact h _ (by omega)
    have h1 := val_split X m (by omega)
    rw [e, hU] at h1
    have h2 := val_take_lt hX m
    omega
theorem drop_zero {U : List Nat} {j m : Nat} (hm : j + m ≤ U.length) (h : val (U.drop j) < 4294967296 ^ m) : val (U.drop (j + m)) = 0 := by
  have h1 := val_split (U.drop j) m (by rw [List.length_drop]; omega)
  rw [List.drop_drop] at h1
  rcases Nat.eq_zero_or_pos (val (U.drop (j + m))) with h0 | h0
  · exact h0
  · have : 4294967296 ^ m * 1 ≤ 4294967296 ^ m * val (U.drop (j + m)) := Nat.mul_le_mul_left _ h0
    omega
/-- The last digit of the subtraction. -/
theorem ms_last {U U' v : List Nat} {j m g cy bo u : Nat} (h : Msub U U' v j m g cy bo) (hv : v.length = m) (hu : U[j + m]? = some u) (hu32 : u < 4294967296) (hc : cy < 4294967296) (hb : bo ≤ 1) :
    val (U'.set (j + m) (sdig ((u : Int) - bo - cy))) + 4294967296 ^ j * (g * val v) = val U + 4294967296 ^ (j + m + 1) * sbor ((u : Int) - bo - cy) := by
  obtain ⟨h1, h2, h3, h4⟩ := h
  have hx' : U'[j + m]? = some u := by rw [h3 _ (Nat.le_refl _)]; exact hu
  have hm := sdig_eq hu32 hc hb
  generalize sdig ((u : Int) - bo - cy) = dg at *
  generalize sbor ((u : Int) - bo - cy) = bo' at *
  have h5 := val_set (y := dg) hx'
  rw [List.take_of_length_le (l := v) (by omega)] at h4
  have e : 4294967296 ^ (j + m + 1) * bo' = 4294967296 ^ (j + m) * (4294967296 * bo') := by rw [Nat.pow_succ, Nat.mul_assoc]
  have e2 : 4294967296 ^ (j + m) * u + 4294967296 ^ (j + m) * (4294967296 * bo') = 4294967296 ^ (j + m) * (cy + bo) + 4294967296 ^ (j + m) * dg := by
    rw [← Nat.mul_add, ← Nat.mul_add]; congr 1
  omega
theorem ms_exact {U X : List Nat} {j m V q bo : Nat} (h : val X + 4294967296 ^ j * (q * V) = val U + 4294967296 ^ m * bo) (hX : val X < 4294967296 ^ m) (hq : 4294967296 ^ j * (q * V) ≤ val U) : bo = 0 := by
  rcases Nat.eq_zero_or_pos bo with h0 | h0
  · exact h0
  · have : 4294967296 ^ m * 1 ≤ 4294967296 ^ m * bo := Nat.mul_le_mul_left _ h0
    omega
theorem ms_over {U X : List Nat} {j m V q bo : Nat} (h : val X + 4294967296 ^ j * (q * V) = val U + 4294967296 ^ m * bo) (hb : bo ≤ 1) (hq : val U < 4294967296 ^ j * (q * V)) : bo = 1 := by
  rcases Nat.eq_zero_or_pos bo with h0 | h0
  · subst h0; omega
  · omega
theorem seg_le {U : List Nat} {j V q : Nat} (hj : j ≤ U.length) (hq : V * q ≤ val (U.drop j)) : 4294967296 ^ j * (q * V) ≤ val U := by
  have h1 := val_split U j hj
  have h2 : 4294967296 ^ j * (q * V) ≤ 4294967296 ^ j * val (U.drop j) := Nat.mul_le_mul_left _ (by rw [Nat.mul_comm]; exact hq)
  omega
theorem seg_lt {U : List Nat} {j V q : Nat} (hd : Dig U) (hj : j ≤ U.length) (hq : val (U.drop j) < V * q) : val U < 4294967296 ^ j * (q * V) := by
  have h1 := val_split U j hj
  have h2 := val_take_lt hd j
  have h3 : 4294967296 ^ j * (val (U.drop j) + 1) ≤ 4294967296 ^ j * (q * V) := Nat.mul_le_mul_left _ (by rw [Nat.mul_comm q]; exact hq)
  rw [Nat.mul_add, Nat.mul_one] at h3
  omega

/-- Adding v to U, from place j on. -/
def Madd (U U' v : List Nat) (j i cy : Nat) : Prop :=
  U'.length = U.length ∧ U'.take j = U.take j ∧ (∀ t, j + i ≤ t → U'[t]? = U[t]?) ∧ val U' + 4294967296 ^ (j + i) * cy = val U + 4294967296 ^ j * val (v.take i)
theorem Madd.start (U v : List Nat) (j : Nat) : Madd U U v j 0 0 := ⟨rfl, rfl, fun _ _ => rfl, by simp [val]⟩
theorem Madd.step {U U' v : List Nat} {j i cy x y s : Nat} (h : Madd U U' v j i cy) (hx : U[j + i]? = some x) (hy : v[i]? = some y) (hs : s = x + y + cy) : Madd U (U'.set (j + i) (s % 4294967296)) v j (i + 1) (s / 4294967296) := by
  obtain ⟨h1, h2, h3, h4⟩ := h
  refine ⟨by rw [List.length_set]; exact h1, ?_, fun t ht => ?_, ?_⟩
  · rw [List.take_set_of_le (by omega)]; exact h2
  · rw [List.getElem?_set_ne (by omega)]; exact h3 t (by omega)
  · have hx' : U'[j + i]? = some x := by rw [h3 _ (Nat.le_refl _)]; exact hx
    have h5 := val_set (y := s % 4294967296) hx'
    rw [val_take_succ hy, show j + (i + 1) = (j + i) + 1 from rfl, Nat.pow_succ, Nat.mul_assoc, Nat.mul_add, ← Nat.mul_assoc (4294967296 ^ j), ← Nat.pow_add]
    have e : 4294967296 ^ (j + i) * (s % 4294967296) + 4294967296 ^ (j + i) * (4294967296 * (s / 4294967296)) = 4294967296 ^ (j + i) * x + 4294967296 ^ (j + i) * y + 4294967296 ^ (j + i) * cy := by
      rw [← Nat.mul_add, ← Nat.mul_add, ← Nat.mul_add]; congr 1; omega
    omega
theorem ma_last {U X Y v : List Nat} {j m c d V q : Nat} (hX : val X + 4294967296 ^ j * ((q + 1) * V) = val U + 4294967296 ^ (j + m + 1)) (h : Madd X Y v j m c) (hv : v.length = m) (hV : val v = V) (hd : X[j + m]? = some d)
    (hlow : val (Y.set (j + m) ((d + c) % 4294967296)) < 4294967296 ^ (j + m + 1)) (hq : 4294967296 ^ j * (q * V) ≤ val U) (hd32 : d < 4294967296) (hc : c ≤ 1) :
    val (Y.set (j + m) ((d + c) % 4294967296)) + 4294967296 ^ j * (q * V) = val U := by
  obtain ⟨h1, h2, h3, h4⟩ := h
  have hx' : Y[j + m]? = some d := by rw [h3 _ (Nat.le_refl _)]; exact hd
  have h5 := val_set (y := (d + c) % 4294967296) hx'
  rw [List.take_of_length_le (l := v) (by omega), hV] at h4
  have e1 : 4294967296 ^ j * ((q + 1) * V) = 4294967296 ^ j * (q * V) + 4294967296 ^ j * V := by rw [Nat.add_mul, Nat.one_mul, Nat.mul_add]
  generalize val (Y.set (j + m) ((d + c) % 4294967296)) = R at *
  have hk : (d + c) % 4294967296 = d + c ∨ (d + c) % 4294967296 + 4294967296 = d + c := by omega
  rcases hk with hk | hk
  · exfalso
    rw [hk, Nat.mul_add] at h5
    omega
  · have e2 : 4294967296 ^ (j + m) * ((d + c) % 4294967296) + 4294967296 ^ (j + m + 1) = 4294967296 ^ (j + m) * d + 4294967296 ^ (j + m) * c := by
      rw [Nat.pow_succ, ← Nat.mul_add, ← Nat.mul_add]; congr 1
    omega
end Go.Proofs.YtclkkoiaaddllaaGreat

/- Contract: one digit of a quotient, in place: the walk. -/
namespace Go.Proofs.YtclkkoiaaddllaaGreat
open Go.RowKit
set_option linter.unusedVariables false

theorem sub_w3 {x c b : Nat} (hx : x < 4294967296) (hc : c < 4294967296) (hb : b ≤ 1) : ∃ z : Nat, IntKind.u64.wrap (IntKind.u64.wrap ((x : Int) - c) - b) = (z : Int) ∧ z < 18446744073709551616 ∧ (z : Int) % 4294967296 = (sdig ((x : Int) - b - c) : Int) ∧ (sbor ((x : Int) - b - c) = 0 → z < 9223372036854775808) ∧ (sbor ((x : Int) - b - c) = 1 → 9223372036854775808 ≤ z) := by
  rw [u64_wrap, u64_wrap]
  refine ⟨((((x : Int) - c) % 18446744073709551616 - b) % 18446744073709551616).toNat, by omega, by omega, ?_, ?_, ?_⟩
  · unfold sdig; omega
  · unfold sbor; split <;> omega
  · unfold sbor; split <;> omega

set_option maxRecDepth 100000 in
set_option maxHeartbeats 1600000 in
theorem divDigit_any (B : Option Addr) (gU j n c d v1 : Nat) (U v : List Nat) (w : World) (hU : RowD w gU U) (hB : RM w B (n + 2) d v) (hne : ∀ ad, B = some ad → ad.block ≠ gU) (hn : n ≤ 1000000) (hj : j ≤ 1000000) (hjm : j + n + 3 ≤ U.length)
    (hc : n + 3 ≤ c) (hcm : c ≤ 9223372036854775807) (hv1 : v[n + 1]? = some v1) (htop : 2147483648 ≤ v1) (hlt : val (U.drop (j + 1)) < val v) :
    Calls Tryz.prog 151 #[.slice (some ⟨gU, j, none⟩) (n + 3 : Nat) c, .slice B (n + 2 : Nat) d] w fun e w' => e = .returned (.int .u32 ((val (U.drop j) / val v : Nat) : Int)) ∧ ∃ U', RowD w' gU U' ∧ U'.length = U.length ∧ U'.take j = U.take j ∧
      val U' + 4294967296 ^ j * (val v * (val (U.drop j) / val v)) = val U ∧ Only gU w w' := by
  have hvl := hB.len
  have hdv := hB.dg
  have hv0 : v[n]? = some v[n] := List.getElem?_eq_getElem (by omega)
  generalize v[n] = v0 at hv0
  obtain ⟨u2, u1, u0, hu2, hu1, hu0, t⟩ := tops_of hU.2 hdv hjm hvl hv1 hv0 htop hlt
  obtain ⟨bV, oV, rfl, _, hcV⟩ := hB.rd.plain (by omega)
  have hbV := hne _ rfl
  clear hne
  have cV1 := hcV (n + 1) _ (mg_get hv1)
  have cV0 := hcV n _ (mg_get hv0)
  obtain ⟨x2, ex2, _, cU2, _⟩ := hU.at_ (k := j + n + 2) (by omega)
  obtain ⟨x1, ex1, _, cU1, _⟩ := hU.at_ (k := j + n + 1) (by omega)
  obtain ⟨x0, ex0, _, cU0, _⟩ := hU.at_ (k := j + n) (by omega)
  obtain rfl : x2 = u2 := by rw [hu2] at ex2; injection ex2 with h; exact h.symm
  obtain rfl : x1 = u1 := by rw [hu1] at ex1; injection ex1 with h; exact h.symm
  obtain rfl : x0 = u0 := by rw [hu0] at ex0; injection ex0 with h; exact h.symm
  have HCV := Lib.hid hcV
  have HV1 := Lib.hid hv1; have HV0 := Lib.hid hv0
  have HU2 := Lib.hid hu2; have HU1 := Lib.hid hu1; have HU0 := Lib.hid hu0
  have HVL := Lib.hid hvl
  have hu2' := t.m2; have hu1' := t.m1; have hu0' := t.m0; have hv1' := t.l1; have hv0' := t.l0
  have HG0 := Lib.hid (Guess.first t)
  obtain ⟨hd, hhd⟩ : ∃ hd, hd = x2 * 4294967296 + x1 := ⟨_, rfl⟩
  rw [← hhd] at HG0
  have hdb : hd < 18446744073709551616 := by omega
  have e0 : bits .or .u64 ((x2 : Int) * 4294967296) (x1 : Int) = (hd : Int) := by rw [or_hi hu2' hu1', hhd]; omega
  have HHD := Lib.hid hhd; clear hhd
  have hv1p : 1 ≤ v1 := by omega
  have hdq : (0 : Int) ≤ (hd : Int) / (v1 : Int) := Int.ediv_nonneg (by omega) (by omega)
  have hdq2 : (hd : Int) / (v1 : Int) ≤ 18446744073709551615 := by
    have := Nat.div_le_self hd v1
    rw [← Int.natCast_ediv]; omega
  clear ex2 ex1 ex0 hcV hv1 hv0 hu2 hu1 hu0 hvl
  have T := Lib.hid t; clear t
  have a2 : j + (n + 2) = j + n + 2 := by omega
  have a1 : j + (n + 1) = j + n + 1 := by omega
  have k1 : (n : Int) + 2 - 1 = (n : Int) + 1 := by omega
  have k3 : ((n : Int) + 1).toNat = n + 1 := by omega
  have k4 : ((n : Int) + 2).toNat = n + 2 := by omega
  go_enter Tryz.func151, Tryz.ntmps151
  go_wp2_with fail
  have d1 : (0 : Int) ≤ (n : Int) + 2 := by omega
  have d2 : (n : Int) + 2 < (n : Int) + 3 := by omega
  have d3 : (n : Int) + 1 < (n : Int) + 3 := by omega
  go_quiet (fail)
  go_wp2_with fail
  go_quiet (fail)
  go_upto_block 0 with fail
  go_cut [8, 9] (fun gv rv wx => ∃ g : Nat, gv = .int .u64 (g : Int) ∧ g < 4294967296 ∧ val (U.drop j) / val v ≤ g ∧ g ≤ val (U.drop j) / val v + 1 ∧ Ext w wx)
  case first =>
    go_wp2_with fail
    clear e0
    go_loopw [8, 9] (fun qv rv wr => ∃ g rest : Nat, qv = .int .u64 (g : Int) ∧ rv = .int .u64 (rest : Int) ∧ rest < 4294967296 ∧ Guess (val (U.drop j)) (val v) x2 x1 v1 g rest ∧ Ext w wr) (fun qv _ _ => (intOf qv).toNat)
    case atStart => exact ⟨hd / v1, hd % v1, rfl, rfl, Nat.lt_trans (Nat.mod_lt _ (by omega)) hv1', HG0.out, ((Ext.refl w).drewN _).drewN _⟩
    case round =>
      obtain ⟨g, rest, rfl, rfl, hr, hG, hex⟩ := hrel
      have hgle := Guess.le T.out hG
      have HG := Lib.hid hG; clear hG
      have cV0 : wr.cell? ⟨bV, oV + n, none⟩ = some (.int .u32 (v0 : Int)) := hex.cell_ cV0
      have cU0 : wr.cell? ⟨gU, j + n, none⟩ = some (.int .u32 (x0 : Int)) := hex.cell_ cU0
      have k5 : (n : Int) + 2 - 2 = (n : Int) := by omega
      have d4 : (n : Int) < (n : Int) + 2 := by omega
      have d5 : (n : Int) < (n : Int) + 3 := by omega
      by_cases hb : 4294967296 ≤ g
      · have hb' : (4294967296 : Int) ≤ (g : Int) := by omega
        have HG2 := Lib.hid (Guess.big T.out HG.out hb)
        by_cases hr2 : 4294967296 ≤ rest + v1
        · have hr3 : (4294967296 : Int) ≤ (rest : Int) + (v1 : Int) := by omega
          obtain ⟨s1, s2, s3⟩ := Guess.stop T.out HG2.out hr2
          have S1 := Lib.hid s1; have S2 := Lib.hid s2; have S3 := Lib.hid s3; clear s1 s2 s3
          go_wp2_with fail
          go_quiet (fail)
          go_wp2_with fail
          go_meet
          case rel => exact ⟨g - 1, by go_num, S1.out, S2.out, S3.out, hex.drewN _⟩
        · have hr3 : decide ((4294967296 : Int) ≤ (rest : Int) + (v1 : Int)) = false := by rw [decide_eq_false_iff_not]; omega
          have hr4 : decide (4294967296 ≤ rest + v1) = false := decide_eq_false hr2
          have HR2 := Lib.hid hr2; clear hr2
          go_wp2_with fail
          go_quiet (fail)
          go_wp2_with fail
          go_roundw
          case rel => exact ⟨g - 1, rest + v1, by go_num, by go_num, by have := HR2.out; omega, HG2.out, hex.drewN _⟩
          case measure => simp [intOf] <;> omega
      · obtain ⟨tp, htp⟩ : ∃ tp, tp = g * v0 := ⟨_, rfl⟩
        obtain ⟨z, hz⟩ : ∃ z, z = x0 + 4294967296 * rest := ⟨_, rfl⟩
        have htb : tp ≤ 18446744065119617025 := by rw [htp]; exact prod_lt (by omega) hv0'
        have e1 : IntKind.u64.wrap ((g : Int) * (v0 : Int)) = (tp : Int) := by rw [IntWalk.u64_in _ (by rw [show ((g : Int) * (v0 : Int)) = ((g * v0 : Nat) : Int) by simp, ← htp]; omega), htp]; simp
        have e2 : bits .or .u64 ((rest : Int) * 4294967296) (x0 : Int) = (z : Int) := by rw [or_hi hr hu0', hz]
        have hzb : z < 18446744073709551616 := by omega
        have hb' : decide ((4294967296 : Int) ≤ (g : Int)) = false := by rw [decide_eq_false_iff_not]; omega
        have hb2 : decide (4294967296 ≤ g) = false := decide_eq_false hb
        have HB := Lib.hid hb
        by_cases hc : z < tp
        · obtain ⟨hg0, hG2⟩ := Guess.fail (u0 := x0) (v0 := v0) T.out HG.out (by rw [← htp, ← hz]; exact hc)
          have HG2 := Lib.hid hG2; clear hG2
          clear htp hz hb
          have hc' : (z : Int) < (tp : Int) := by omega
          clear hc
          by_cases hr2 : 4294967296 ≤ rest + v1
          · have hr3 : (4294967296 : Int) ≤ (rest : Int) + (v1 : Int) := by omega
            obtain ⟨s1, s2, s3⟩ := Guess.stop T.out HG2.out hr2
            have S1 := Lib.hid s1; have S2 := Lib.hid s2; have S3 := Lib.hid s3; clear s1 s2 s3
            have HR2 := Lib.hid hr2; clear hr2
            go_wp2_with fail
            go_quiet (fail)
            go_wp2_with fail
            go_meet
            case rel => exact ⟨g - 1, by go_num, S1.out, S2.out, S3.out, hex.drewN _⟩
          · have hr3 : decide ((4294967296 : Int) ≤ (rest : Int) + (v1 : Int)) = false := by rw [decide_eq_false_iff_not]; omega
            have hr4 : decide (4294967296 ≤ rest + v1) = false := decide_eq_false hr2
            have HR2 := Lib.hid hr2; clear hr2
            go_wp2_with fail
            go_quiet (fail)
            go_wp2_with fail
            go_roundw
            case rel => exact ⟨g - 1, rest + v1, by go_num, by go_num, by have := HR2.out; omega, HG2.out, hex.drewN _⟩
            case measure => simp [intOf] <;> omega
        · obtain ⟨s2, s3⟩ := Guess.pass (u0 := x0) (v0 := v0) T.out HG.out (by omega) (by rw [← htp, ← hz]; omega)
          have S2 := Lib.hid s2; have S3 := Lib.hid s3; clear s2 s3 htp hz hb
          have hc' : (tp : Int) ≤ (z : Int) := by omega
          clear hc
          go_wp2_with fail
          go_quiet (fail)
          go_wp2_with fail
          go_meet
          case rel => exact ⟨g, rfl, by have := HB.out; omega, S2.out, S3.out, hex.drewN _⟩
  case rest =>
    obtain ⟨g, rfl, hg32, hglo, hghi, hex⟩ := hcut
    obtain ⟨qd, hqd⟩ : ∃ qd, qd = val (U.drop j) / val v := ⟨_, rfl⟩
    rw [← hqd] at hglo hghi
    have hUc : RowD wc gU U := hU.far hex
    have hVp := T.out.vpos
    have hqle : val v * qd ≤ val (U.drop j) := by rw [hqd]; exact Nat.mul_div_le _ _
    have hqlt : val (U.drop j) < val v * (qd + 1) := by rw [hqd]; exact Nat.lt_mul_div_succ _ hVp
    have hq32 : qd < 4294967296 := by rw [hqd]; exact T.out.q_lt
    have hVlt := val_lt hdv
    rw [HVL.out] at hVlt
    have hz0 : val (U.drop (j + (n + 3))) = 0 := by
      refine drop_zero (by omega) ?_
      have h1 := T.out.fits
      have h2 : 4294967296 * val v ≤ 4294967296 * 4294967296 ^ (n + 2) := Nat.mul_le_mul_left _ (Nat.le_of_lt hVlt)
      rw [show n + 3 = (n + 2) + 1 from rfl, Nat.pow_succ, Nat.mul_comm (4294967296 ^ (n + 2))]
      omega
    have HZ0 := Lib.hid hz0; have HQD := Lib.hid hqd; have HLE := Lib.hid hqle; have HLT := Lib.hid hqlt; have HJM := Lib.hid hjm
    have HUC := Lib.hid hUc
    clear hz0 hqd hqle hqlt hjm hUc hVlt hVp hlt e0 hdq hdq2 hdb HHD HG0 cV1 cV0 cU2 cU1 cU0
    have hcVc : ∀ (i y : Nat), v[i]? = some y → ∀ wr, Only gU wc wr → wr.cell? ⟨bV, oV + i, none⟩ = some (.int .u32 (y : Int)) := fun i y hy wr ho => ho.cell_ (hex.cell_ (HCV.out i _ (mg_get hy))) hbV
    have HCC := Lib.hid hcVc; clear hcVc
    go_wp2_with fail
    go_loopw [10, 11, 75] (fun cv bv iv wr => ∃ (i cy bo : Nat) (U' : List Nat), i ≤ n + 2 ∧ iv = .int .i64 i ∧ cv = .int .u64 (cy : Int) ∧ bv = .int .u64 (bo : Int) ∧ cy < 4294967296 ∧ bo ≤ 1 ∧ Msub U U' v j i g cy bo ∧ RowD wr gU U' ∧ Only gU wc wr) (fun _ _ iv _ => n + 2 - (intOf iv).toNat)
    case atStart => exact ⟨0, 0, 0, U, by omega, rfl, rfl, rfl, by omega, by omega, Msub.start _ _ _ _, HUC.out, Only.refl _ _⟩
    case round =>
      obtain ⟨i, cy, bo, U', hi, rfl, rfl, rfl, hcy, hbo, hM, hrow, hon⟩ := hrel
      have HM := Lib.hid hM; clear hM
      by_cases hlt : i < n + 2
      · obtain ⟨x, hx, hx32, hcx, hfx⟩ := hrow.at_ (k := j + i) (by have := HM.out.1; have := HJM.out; omega)
        obtain ⟨y, hy⟩ : ∃ y, v[i]? = some y := ⟨_, List.getElem?_eq_getElem (by rw [HVL.out]; exact hlt)⟩
        have hy32 := hdv.at_ hy
        have hcy' := HCC.out i y hy wr hon
        have hxU : U[j + i]? = some x := by rw [← HM.out.2.2.1 _ (Nat.le_refl _)]; exact hx
        obtain ⟨tp, htp⟩ : ∃ tp, tp = g * y := ⟨_, rfl⟩
        have htb : tp ≤ 18446744065119617025 := by rw [htp]; exact prod_lt hg32 hy32
        have e1 : IntKind.u64.wrap ((g : Int) * (y : Int)) = (tp : Int) := by rw [IntWalk.u64_in _ (by rw [show ((g : Int) * (y : Int)) = ((g * y : Nat) : Int) by simp, ← htp]; omega), htp]; simp
        obtain ⟨p, hp⟩ : ∃ p, p = tp + cy := ⟨_, rfl⟩
        have e2 : (tp : Int) + (cy : Int) = (p : Int) := by omega
        have hpb : p < 18446744073709551616 := by omega
        have e3 : (p : Int) % 4294967296 = ((p % 4294967296 : Nat) : Int) := by omega
        have hpl : p % 4294967296 < 4294967296 := Nat.mod_lt _ (by omega)
        have e4 : (p : Int) / 4294967296 = ((p / 4294967296 : Nat) : Int) := by omega
        have hph : p / 4294967296 < 4294967296 := by omega
        have HS := Lib.hid (HM.out.step hxU hy hx32 hbo (p := p) (by rw [hp, htp]))
        generalize p % 4294967296 = pl at *
        generalize p / 4294967296 = ph at *
        have HR := Lib.hid hrow
        clear hrow hx hy hxU htp hp
        go_wp2_with fail
        go_roundw
        case rel =>
          refine ⟨i + 1, ph, sbor ((x : Int) - bo - pl), _, by omega, by go_num, rfl, by rw [sub_b2 hx32 hpl hbo], hph, sbor_le _, HS.out, HR.out.set (sub_d2 hx32 hpl hbo) (sdig_lt _), hon.trans (Only.set _ _ _ _)⟩
        case measure => simp [intOf] <;> omega
      · obtain rfl : i = n + 2 := by omega
        obtain ⟨x, hx, hx32, hcx, hfx⟩ := hrow.at_ (k := j + n + 2) (by have := HM.out.1; have := HJM.out; omega)
        have hxU : U[j + (n + 2)]? = some x := by rw [← HM.out.2.2.1 _ (Nat.le_refl _)]; exact hx
        have hms := ms_last HM.out HVL.out hxU hx32 hcy hbo
        obtain ⟨z, ez, hzb, hz1, hz2, hz3⟩ := sub_w3 hx32 hcy hbo
        have hdg := sdig_lt ((x : Int) - bo - cy)
        have hsb := sbor_le ((x : Int) - bo - cy)
        generalize sdig ((x : Int) - bo - cy) = dg at *
        generalize sbor ((x : Int) - bo - cy) = bo' at *
        have hX : RowD (wr.setCell ⟨gU, j + n + 2, none⟩ (.int .u32 ((z : Int) % 4294967296))) gU (U'.set (j + (n + 2)) dg) := hrow.set (k := j + n + 2) hz1 hdg
        have hXl : (U'.set (j + (n + 2)) dg).length = U.length := by rw [List.length_set]; exact HM.out.1
        have hXt : (U'.set (j + (n + 2)) dg).take j = U.take j := by rw [List.take_set_of_le (by omega)]; exact HM.out.2.1
        have hXo : ∀ t, j + (n + 3) ≤ t → (U'.set (j + (n + 2)) dg)[t]? = U[t]? := fun t ht => by rw [List.getElem?_set_ne (by omega)]; exact HM.out.2.2.1 _ (by omega)
        have hXd : (U'.set (j + (n + 2)) dg)[j + (n + 2)]? = some dg := by rw [List.getElem?_set_self (by rw [HM.out.1]; have := HJM.out; omega)]
        have hlow := low_of HZ0.out hX.2 hXl hXo
        have HX := Lib.hid hX; have HXL := Lib.hid hXl; have HXT := Lib.hid hXt; have HXO := Lib.hid hXo; have HXD := Lib.hid hXd
        have HMS := Lib.hid hms; have HLOW := Lib.hid hlow
        have HZ1 := Lib.hid hz1
        generalize U'.set (j + (n + 2)) dg = X at *
        have hon2 := hon.trans (Only.set wr gU (j + n + 2) (.int .u32 ((z : Int) % 4294967296)))
        clear hX hXl hXt hXo hXd hms hlow hz1 hx hxU hrow
        rcases (show g = qd ∨ g = qd + 1 by omega) with hgq | hgq
        · have hb0 : bo' = 0 := ms_exact (m := j + (n + 2) + 1) (q := g) (V := val v) HMS.out HLOW.out (by rw [hgq]; exact seg_le (by have := HJM.out; omega) HLE.out)
          have hz4 := hz2 hb0
          have HB0 := Lib.hid hb0; have HGQ := Lib.hid hgq
          have hz5 : (z : Int) / 9223372036854775808 = 0 := by omega
          have hz6 : z / 9223372036854775808 = 0 := by omega
          clear hz2 hz3 hb0 hgq
          go_wp2_with fail
          go_ret
          refine ⟨ret_int (by rw [← HQD.out, HGQ.out]), X, HX.out, HXL.out, HXT.out, ?_, (Only.of_ext hex).trans hon2⟩
          have h1 := HMS.out
          rw [HB0.out, HGQ.out, Nat.mul_zero, Nat.add_zero, Nat.mul_comm qd] at h1
          rw [← HQD.out]; exact h1
        · have hb1 : bo' = 1 := ms_over (U := U) (X := X) (j := j) (m := j + (n + 2) + 1) (q := g) (V := val v) HMS.out hsb (by rw [hgq]; exact seg_lt hU.2 (by have := HJM.out; omega) HLT.out)
          have hz4 := hz3 hb1
          have HB1 := Lib.hid hb1; have HGQ := Lib.hid hgq
          have hz5 : (z : Int) / 9223372036854775808 = 1 := by omega
          have hz6 : z / 9223372036854775808 = 1 := by omega
          clear hz2 hz3 hb1 hgq
          go_wp2_with fail
          have HX2 := Lib.hid hon2; clear hon2
          generalize hw2 : wr.setCell ⟨gU, j + n + 2, none⟩ (.int .u32 ((z : Int) % 4294967296)) = w2 at *
          clear hw2
          go_loopw [10, 128] (fun cv iv wr => ∃ (i cy : Nat) (Y : List Nat), i ≤ n + 2 ∧ iv = .int .i64 i ∧ cv = .int .u64 (cy : Int) ∧ cy ≤ 1 ∧ Madd X Y v j i cy ∧ RowD wr gU Y ∧ Only gU wc wr) (fun _ iv _ => n + 2 - (intOf iv).toNat)
          case atStart => exact ⟨0, 0, X, by omega, rfl, rfl, by omega, Madd.start _ _ _, HX.out, HX2.out⟩
          case round =>
            rename_i wr0 _ _ _ _ _
            obtain ⟨i, cy2, Y, hi2, rfl, rfl, hcy2, hM2, hrow, hon⟩ := hrel
            have HM2 := Lib.hid hM2; clear hM2
            by_cases hlt2 : i < n + 2
            · obtain ⟨x', hx', hx32', hcx', hfx'⟩ := hrow.at_ (k := j + i) (by have := HM2.out.1; have := HXL.out; have := HJM.out; omega)
              obtain ⟨y, hy⟩ : ∃ y, v[i]? = some y := ⟨_, List.getElem?_eq_getElem (by rw [HVL.out]; exact hlt2)⟩
              have hy32 := hdv.at_ hy
              have hcy' := HCC.out i y hy _ hon
              have hxU : X[j + i]? = some x' := by rw [← HM2.out.2.2.1 _ (Nat.le_refl _)]; exact hx'
              have HS := Lib.hid (HM2.out.step hxU hy (s := x' + y + cy2) rfl)
              have HR := Lib.hid hrow
              have f1 : (i : Int) < (n : Int) + 2 := by omega
              have f2 : (i : Int) < (n : Int) + 3 := by omega
              clear hrow hx' hy hxU
              go_wp2_with fail
              go_quiet (fail)
              go_wp2_with fail
              go_roundw
              case rel =>
                refine ⟨i + 1, (x' + y + cy2) / 4294967296, _, by omega, by go_num, by go_num, by omega, HS.out, RowD.set (HR.out.drewN _) (by omega) (Nat.mod_lt _ (by omega)), (hon.trans (Only.of_ext ((Ext.refl _).drewN _))).trans (Only.set _ _ _ _)⟩
              case measure => simp [intOf] <;> omega
            · obtain rfl : i = n + 2 := by omega
              obtain ⟨dd, hdd, hdd32, hcd, hfd⟩ := hrow.at_ (k := j + n + 2) (by have := HM2.out.1; have := HXL.out; have := HJM.out; omega)
              have hdX : X[j + (n + 2)]? = some dd := by rw [← HM2.out.2.2.1 _ (Nat.le_refl _)]; exact hdd
              have hR2 : ∀ z : Int, z = ((dd + cy2) % 4294967296 : Nat) → RowD (wr.setCell ⟨gU, j + n + 2, none⟩ (.int .u32 z)) gU (Y.set (j + (n + 2)) ((dd + cy2) % 4294967296)) := fun z hz => hrow.set (k := j + n + 2) hz (Nat.mod_lt _ (by omega))
              have HR2 := Lib.hid hR2
              have hms := HMS.out
              rw [HB1.out, Nat.mul_one, HGQ.out] at hms
              have hYl : (Y.set (j + (n + 2)) ((dd + cy2) % 4294967296)).length = U.length := by rw [List.length_set, HM2.out.1]; exact HXL.out
              have hYt : (Y.set (j + (n + 2)) ((dd + cy2) % 4294967296)).take j = U.take j := by rw [List.take_set_of_le (by omega), HM2.out.2.1]; exact HXT.out
              have hYo : ∀ t, j + (n + 3) ≤ t → (Y.set (j + (n + 2)) ((dd + cy2) % 4294967296))[t]? = U[t]? := fun t ht => by rw [List.getElem?_set_ne (by omega), HM2.out.2.2.1 _ (by omega)]; exact HXO.out t ht
              have hlast := ma_last (q := qd) (V := val v) hms HM2.out HVL.out rfl hdX (low_of HZ0.out (hR2 _ rfl).2 hYl hYo) (seg_le (by have := HJM.out; omega) HLE.out) hdd32 hcy2
              have HLA := Lib.hid hlast; have HYL := Lib.hid hYl; have HYT := Lib.hid hYt
              clear hR2 hms hYl hYt hYo hlast hdX hdd hrow
              have hg1 : 1 ≤ g := by rw [HGQ.out]; omega
              go_wp2_with fail
              go_ret
              refine ⟨ret_int (by rw [← HQD.out]; have := HGQ.out; omega), _, HR2.out _ (by omega), HYL.out, HYT.out, ?_, ((Only.of_ext hex).trans hon).trans (Only.set _ _ _ _)⟩
              rw [← HQD.out, Nat.mul_comm (val v)]; exact HLA.out
end Go.Proofs.YtclkkoiaaddllaaGreat
