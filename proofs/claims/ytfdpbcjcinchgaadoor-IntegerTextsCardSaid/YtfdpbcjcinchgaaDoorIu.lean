/- The reference's long division: the walk. -/
import Derived.Test.YtfdpbcjcinchgaaDoorIt
namespace Go.Proofs.YtfdpbcjcinchgaaDoor
open Go.RowKit
set_option linter.unusedVariables false

theorem RM.cell2 {w : World} {ad : Addr} {n c k x : Nat} {l : List Nat} (h : RM w (some ad) n c l) (hx : l[k]? = some x) : w.cell? (ad.add k) = some (.int .u32 (x : Int)) ∧ w.cell? ⟨ad.block, ad.off + k, none⟩ = some (.int .u32 (x : Int)) := by
  have hk : k < l.length := (List.getElem?_eq_some_iff.1 hx).1
  have hl := h.len
  obtain ⟨b, o, e, _, hc⟩ := h.rd.plain (by omega)
  cases e
  have := hc k _ (mg_get hx)
  exact ⟨by rw [add_plain]; exact this, this⟩
theorem u32_wrap_of {x s : Nat} (h : x * 2 ^ s < 4294967296) : IntKind.u32.wrap ((x : Int) * 2 ^ s) = ((x * 2 ^ s : Nat) : Int) := by
  have e : ((x : Int) * 2 ^ s) = ((x * 2 ^ s : Nat) : Int) := by push_cast; rfl
  rw [e]
  exact IntWalk.u32_in _ (by omega)

theorem div_init {U : List Nat} {a b s la n : Nat} (hU : val U = a * 2 ^ s) (ha : a < 4294967296 ^ la) (hb : 4294967296 ^ (n + 1) ≤ b) (hla : n + 1 ≤ la) (hl : la - n - 1 ≤ U.length) : val (U.drop (la - n - 1)) < b * 2 ^ s := by
  have h1 := val_split U (la - n - 1) hl
  have h2 : a * 2 ^ s < 4294967296 ^ la * 2 ^ s := Nat.mul_lt_mul_of_pos_right ha (Nat.pow_pos (by omega))
  have h3 : 4294967296 ^ la = 4294967296 ^ (la - n - 1) * 4294967296 ^ (n + 1) := by rw [← Nat.pow_add]; congr 1; omega
  have h4 : 4294967296 ^ (la - n - 1) * (4294967296 ^ (n + 1) * 2 ^ s) ≤ 4294967296 ^ (la - n - 1) * (b * 2 ^ s) := Nat.mul_le_mul_left _ (Nat.mul_le_mul_right _ hb)
  rw [h3, Nat.mul_assoc] at h2
  have h5 : 4294967296 ^ (la - n - 1) * val (U.drop (la - n - 1)) < 4294967296 ^ (la - n - 1) * (b * 2 ^ s) := by omega
  exact Nat.lt_of_mul_lt_mul_left h5

set_option maxRecDepth 100000 in
set_option maxHeartbeats 1600000 in
theorem rdivide_big (A B : Option Addr) (la n c d a b : Nat) (w : World) (hA : RM w A la c (digs a)) (hB : RM w B (n + 2) d (digs b)) (hab : b ≤ a) (hla : la ≤ 10000) :
    Calls Tryd.prog 73 #[.slice A la c, .slice B (n + 2) d] w fun e w' => ∃ q r, e = .returned (.tuple #[q, r]) ∧ SlM (digs (a / b)) q w' ∧ SlM (digs (a % b)) r w' ∧ Ext w w' := by
  have hcm : decide (cmpN a b < 0) = false := by rw [cmp_lt_iff]; exact decide_eq_false (by omega)
  have HLA := Lib.hid hA.len
  have hlb := hB.len
  have hnl : n + 2 ≤ la := by
    have h1 := digs_len_le (n := b) (k := la) (Nat.lt_of_le_of_lt hab (lt_of_digs_len (by have := HLA.out; omega)))
    omega
  obtain ⟨ad, x, rfl, _, hx, hx32, _⟩ := hB.at_ (k := n + 1) (by omega)
  have hx0 : 0 < x := by
    have := canon_digs b x (last_at hlb hx)
    omega
  have HX := Lib.hid hx; clear hx
  have HLB := Lib.hid hlb; clear hlb
  have t1 : (((n + 2 : Nat) : Int) == 1) = false := by simp; omega
  have t2 : ((n : Int) + 2 == 1) = false := by simp; omega
  go_enter Tryd.func73, Tryd.ntmps73
  go_wp2_with fail
  refine (rcompare_any A (some ad) la (n + 2) c d _ _ _ hA hB (canon_digs _) (canon_digs _)).mono ?_
  rintro e w1 ⟨rfl, hx1⟩
  rw [val_digs, val_digs]
  obtain ⟨hc1, hc2⟩ := (hB.ext hx1).cell2 HX.out
  go_wp2
  go_loop [8] (fun i => ∃ s : Nat, s ≤ 31 ∧ i = .int .i64 s ∧ x * 2 ^ s < 4294967296) (fun i => 32 - (intOf i).toNat)
  case atStart => exact ⟨0, by omega, rfl, by simpa using hx32⟩
  case round =>
    obtain ⟨s, hs, rfl, hlt⟩ := hrel
    obtain ⟨y, hy⟩ : ∃ y, y = x * 2 ^ s := ⟨_, rfl⟩
    have e1 : IntKind.u32.wrap ((x : Int) * 2 ^ s) = (y : Int) := by rw [u32_wrap_of hlt, hy]
    have e2 := and31 (y := y) (by rw [hy]; exact hlt)
    have HY := Lib.hid hy; clear hy
    by_cases h31 : y < 2147483648
    · rw [decide_eq_true h31] at e2
      go_wp2
      go_round
      case rel =>
        have h1 := HY.out
        have h2 : 1 * 2 ^ s ≤ x * 2 ^ s := Nat.mul_le_mul_right _ hx0
        have h3 : 2 ^ s < 2 ^ 31 := by omega
        have h4 := (Nat.pow_lt_pow_iff_right (by omega)).1 h3
        exact ⟨s + 1, by omega, by go_num, by rw [Nat.pow_succ, ← Nat.mul_assoc]; omega⟩
      case measure => simp [intOf] <;> omega
    · rw [decide_eq_false h31] at e2
      have hN : Norm b n s x := ⟨HLB.out, HX.out, by have := HY.out; omega, hlt, by omega⟩
      have HN := Lib.hid hN; clear hN
      go_wp2
      clear e1 e2 hc1 hc2
      have q1 : (0 : Int) ≤ (n : Int) + 2 := by omega
      refine wp_region_ordE 10 [(true, 0), (true, 1), (true, 3), (true, 4), (true, 6), (true, 7), (false, 2), (false, 5), (true, 8), (true, 9)] (by kernel_rfl) (by kernel_rfl) ?_
      refine wpOrdT_quiet [0, 1, 3, 4, 6, 7] [(false, 2), (false, 5), (true, 8), (true, 9)] _ (by kernel_rfl) ?_
      simp only [nthOps, nthOp, List.cons_append, List.nil_append]
      repeat (go_big_quiet_step (fail))
      refine wpQuiet_nil ?_
      refine wpOrdT_act 2 [(false, 5), (true, 8), (true, 9)] (by kernel_rfl) ?_
      intro K hK
      simp only [nthOp]
      go_wp2_with fail
      refine (rshift_any A la c s (digs a) _ (hA.ext hx1.drew) (by omega) (by omega)).mono ?_
      rintro e w2 ⟨rfl, U, hU, hUl, hUv, hx2⟩
      rw [val_digs] at hUv
      have hx2 := hx2.undrew
      have hbU : w1.drew.heap.size = w1.heap.size := rfl
      rw [hbU] at hU
      rw [hbU]
      go_wp2
      refine hK _ _ ⟨⟨w2, hx2⟩, rfl⟩ ?_
      clear hK K hbU
      refine wpOrdT_act 5 [(true, 8), (true, 9)] (by kernel_rfl) ?_
      intro K hK
      simp only [nthOp]
      go_wp2_with fail
      refine (rshift_any (some ad) (n + 2) d s (digs b) _ (hB.ext (hx1.trans hx2)) (by omega) (by omega)).mono ?_
      rintro e w3 ⟨rfl, Q, hQ, hQl, hQv, hx3⟩
      rw [val_digs] at hQv
      go_wp2
      refine hK _ _ ⟨⟨w3, hx2.trans hx3⟩, rfl⟩ ?_
      clear hK K
      obtain ⟨hV, v1, v0, hv1, hv0, hvt⟩ := HN.out.digits hQl hQ.2 hQv
      have hqle : n + 2 ≤ n + 2 + 1 := by omega
      refine wpOrdT_quiet [8, 9] [] _ (by kernel_rfl) ?_
      simp only [nthOps, nthOp, List.cons_append, List.nil_append]
      repeat (go_big_quiet_step (fail))
      refine wpQuiet_nil ?_
      simp only [wpOrdT, List.drop_succ_cons, List.drop_zero]
      have hmk := make_u32 ((la : Int) - ((n : Int) + 2) + 1) (la - n - 1) (by omega) (by omega)
      go_wp2
      clear hmk
      -- names for the loop
      obtain ⟨V, hVd⟩ : ∃ V, V = val (Q.take (n + 2)) := ⟨_, rfl⟩
      have hVb : V = b * 2 ^ s := by rw [hVd, hV]
      have hVpos : 0 < V := by
        have h1 := HN.out.ge
        have h2 : 0 < 4294967296 ^ (n + 1) := Nat.pow_pos (by omega)
        have h3 : 0 < 2147483648 * 4294967296 ^ (n + 1) := Nat.mul_pos (by omega) h2
        omega
      have hVlt : V < 4294967296 ^ (n + 2) := by rw [hVb]; exact HN.out.lt
      have hU4 : RowD (w3.alloc (.cells (mg (List.replicate (la - n - 1) 0)).toArray 34)) w1.heap.size U := hU.far (hx3.alloc _)
      have hQ4 : RowD (w3.alloc (.cells (mg (List.replicate (la - n - 1) 0)).toArray 34)) w2.heap.size Q := hQ.far (Ext.new _ _)
      have hst : DivInv U [] (a * 2 ^ s) V (la - n - 1) := by
        refine DivInv.start hUv ?_
        rw [hVb]
        exact div_init hUv (lt_of_digs_len (by rw [HLA.out]; exact Nat.le_refl _)) (by have := le_of_digs HLB.out (by omega); simpa using this) (by omega) (by omega)
      have HVD := Lib.hid hVd; have HVB := Lib.hid hVb
      clear hVd hVb hV hUv hQv
      have hs1 := hx2.size
      have hs2 := hx3.size
      have hgU := hU.1.lt
      have hgQ := hQ.1.lt
      have HUL := Lib.hid hUl; have HQL := Lib.hid hQl
      have HV1 := Lib.hid hv1; have HV0 := Lib.hid hv0
      have hst' := Lib.hid hst; clear hst hUl hQl hv1 hv0
      have HU4 := Lib.hid hU4; have HQ4 := Lib.hid hQ4; clear hU4 hQ4 hU hQ
      have hext3 : Ext w w3 := (hx1.trans hx2).trans hx3
      go_loopw [12] (fun iv wr => ∃ (k : Nat) (U qs : List Nat), k ≤ la - n - 1 ∧ iv = .int .i64 ((k : Int) - 1) ∧ U.length = la + 1 ∧ k + qs.length = la - n - 1 ∧ DivInv U qs (a * 2 ^ s) V k ∧ RowD wr w1.heap.size U ∧ RowD wr w2.heap.size Q ∧ RowD wr w3.heap.size (List.replicate k 0 ++ qs) ∧ Ext w wr) (fun iv _ => (intOf iv + 1).toNat)
      case atStart => exact ⟨la - n - 1, U, [], Nat.le_refl _, by congr 1; omega, HUL.out, by simp, hst'.out, HU4.out, HQ4.out, ⟨by simpa using Blk.new w3 _ _, by simpa using Dig.replicate _⟩, hext3.alloc _⟩
      case round =>
        clear HU4 HQ4 hst' HUL
        obtain ⟨k, U, qs, hk, rfl, hUl, hqs, hdi, hU, hQ, hq, hex⟩ := hrel
        have HUL := Lib.hid hUl; clear hUl
        have HQS := Lib.hid hqs; clear hqs
        have HDI := Lib.hid hdi; clear hdi
        by_cases h0 : k = 0
        · subst h0
          have hdone := HDI.out.done
          have HDN := Lib.hid hdone; clear hdone
          have hqr : RM wr (some ⟨w3.heap.size, 0, none⟩) (la - n - 1) (la - n - 1) qs := by
            have h1 : RowD wr w3.heap.size qs := by simpa using hq
            exact h1.rm (by have := HQS.out; omega) (by omega)
          have hur : RM wr (some ⟨w1.heap.size, 0, none⟩) (n + 2) (la + 1) (U.take (n + 2)) := (hU.rm (n := la + 1) HUL.out (by omega)).take (by omega) (by omega) (by omega)
          go_wp2
          have q2 : (0 : Int) ≤ (n : Int) + 2 := by omega
          have q3 : (n : Int) + 2 ≤ (la : Int) + 1 := by omega
          refine wp_region_ordE 9 [(true, 0), (true, 2), (true, 3), (true, 4), (true, 5), (true, 6), (false, 1), (false, 7), (true, 8)] (by kernel_rfl) (by kernel_rfl) ?_
          refine wpOrdT_quiet [0, 2, 3, 4, 5, 6] [(false, 1), (false, 7), (true, 8)] _ (by kernel_rfl) ?_
          simp only [nthOps, nthOp, List.cons_append, List.nil_append]
          repeat (go_big_quiet_step (fail))
          refine wpQuiet_nil ?_
          refine wpOrdT_act 1 [(false, 7), (true, 8)] (by kernel_rfl) ?_
          intro K hK
          simp only [nthOp]
          go_wp2_with fail
          refine (rtrim_any _ _ _ qs _ (hqr.ext (Ext.refl wr).drew) (by omega)).mono ?_
          rintro e wa ⟨va, rfl, hRa, hxa⟩
          have hxa := hxa.undrew
          go_wp2
          refine hK _ _ ⟨⟨wa, hxa⟩, rfl⟩ ?_
          clear hK K
          refine wpOrdT_act 7 [(true, 8)] (by kernel_rfl) ?_
          intro K hK
          simp only [nthOp]
          go_wp2_with fail
          refine (rback_any _ (n + 2) _ s (U.take (n + 2)) _ (hur.ext hxa) (by omega) (by omega)).mono ?_
          rintro e wb ⟨vb, rfl, hRb, hxb⟩
          have hxb' := hxa.trans hxb
          go_wp2
          refine hK _ _ ⟨⟨wb, hxb'⟩, rfl⟩ ?_
          clear hK K
          refine wpOrdT_quiet [8] [] _ (by kernel_rfl) ?_
          simp only [nthOps, nthOp, List.cons_append, List.nil_append]
          repeat (go_big_quiet_step (fail))
          refine wpQuiet_nil ?_
          simp only [wpOrdT, List.drop_succ_cons, List.drop_zero]
          have hvq : val qs = a / b := by rw [HDN.out.1, HVB.out, div_cancel]
          have hvu : val (U.take (n + 2)) / 2 ^ s = a % b := by
            have h1 := HDN.out.2
            rw [HVB.out, mod_cancel] at h1
            rw [val_cut hU.2 (by rw [HUL.out]; omega), h1, Nat.mul_div_cancel _ (Nat.pow_pos (by omega))]
            have h2 := HDI.out.2
            rw [List.drop_zero] at h2
            omega
          rw [hvq] at hRa
          rw [hvu] at hRb
          have HRa := Lib.hid (hRa.ext hxb); have HRb := Lib.hid hRb
          clear hRa hRb hvq hvu
          go_wp2
          go_ret2
          exact ⟨_, _, rfl, HRa.out, HRb.out, hex.trans hxb'⟩
        · obtain ⟨j, rfl⟩ : ∃ j, k = j + 1 := ⟨k - 1, by omega⟩
          obtain ⟨u2, u1, u0, hu2, hu1, hu0, ht⟩ := tops_of (j := j) hU.2 (hQ.2.take (n + 2)) (by rw [HUL.out]; omega) (by rw [List.length_take, HQL.out]; omega) HV1.out HV0.out hvt (by rw [← HVD.out]; exact HDI.out.2)
          rw [← HVD.out] at ht
          have HT := Lib.hid ht; clear ht
          rw [show ((j + 1 : Nat) : Int) - 1 = (j : Int) by omega]
          obtain ⟨x2, ex2, _, cU2, _⟩ := hU.at_ (k := j + n + 2) (by rw [HUL.out]; omega)
          obtain ⟨x1, ex1, _, cU1, _⟩ := hU.at_ (k := j + n + 1) (by rw [HUL.out]; omega)
          obtain ⟨x0, ex0, _, cU0, _⟩ := hU.at_ (k := j + n) (by rw [HUL.out]; omega)
          obtain rfl : x2 = u2 := by rw [hu2] at ex2; injection ex2 with h; exact h.symm
          obtain rfl : x1 = u1 := by rw [hu1] at ex1; injection ex1 with h; exact h.symm
          obtain rfl : x0 = u0 := by rw [hu0] at ex0; injection ex0 with h; exact h.symm
          obtain ⟨y1, ey1, _, cV1, _⟩ := hQ.at_ (k := n + 1) (by rw [HQL.out]; omega)
          obtain ⟨y0, ey0, _, cV0, _⟩ := hQ.at_ (k := n) (by rw [HQL.out]; omega)
          obtain rfl : y1 = v1 := by have := HV1.out; rw [List.getElem?_take_of_lt (by omega), ey1] at this; injection this
          obtain rfl : y0 = v0 := by have := HV0.out; rw [List.getElem?_take_of_lt (by omega), ey0] at this; injection this
          clear ex2 ex1 ex0 ey1 ey0 hu2 hu1 hu0
          go_wp2
          have Y2 := ExtOf.cell cU2
          have Y1 := ExtOf.cell cU1
          have Y0 := ExtOf.cell cU0
          have Z1 := ExtOf.cell cV1
          have Z0 := ExtOf.cell cV0
          have b1 : IntKind.i64.wrap ((j : Int) + ((n : Int) + 2)) = (j : Int) + ((n : Int) + 2) := IntWalk.i64_in _ (by omega)
          have b2 : IntKind.i64.wrap ((j : Int) + ((n : Int) + 2) - 1) = (j : Int) + ((n : Int) + 1) := by rw [IntWalk.i64_in _ (by omega)]; omega
          have b3 : IntKind.i64.wrap ((j : Int) + ((n : Int) + 2) - 2) = (j : Int) + (n : Int) := by rw [IntWalk.i64_in _ (by omega)]; omega
          have b4 : IntKind.i64.wrap ((n : Int) + 2 - 1) = (n : Int) + 1 := by rw [IntWalk.i64_in _ (by omega)]; omega
          have b5 : IntKind.i64.wrap ((n : Int) + 2 - 2) = (n : Int) := by rw [IntWalk.i64_in _ (by omega)]; omega
          have c1 : ((j : Int) + ((n : Int) + 2)).toNat = j + n + 2 := by omega
          have c2 : ((j : Int) + ((n : Int) + 1)).toNat = j + n + 1 := by omega
          have c3 : ((j : Int) + (n : Int)).toNat = j + n := by omega
          have c4 : ((n : Int) + 1).toNat = n + 1 := by omega
          have d1 : (0 : Int) ≤ (j : Int) + ((n : Int) + 2) := by omega
          have d2 : (0 : Int) ≤ (j : Int) + ((n : Int) + 1) := by omega
          have d3 : (0 : Int) ≤ (j : Int) + (n : Int) := by omega
          have d4 : (j : Int) + ((n : Int) + 2) < (la : Int) + 1 := by omega
          have d5 : (j : Int) + ((n : Int) + 1) < (la : Int) + 1 := by omega
          have d6 : (j : Int) + (n : Int) < (la : Int) + 1 := by omega
          have d7 : (0 : Int) ≤ (n : Int) + 1 := by omega
          have d8 : (n : Int) + 1 < (n : Int) + 2 := by omega
          have d9 : (n : Int) < (n : Int) + 2 := by omega
          refine wp_region_ordE 41 [(true, 0), (true, 1), (true, 2), (true, 3), (true, 4), (true, 5), (true, 6), (true, 7), (true, 8), (true, 9), (true, 10), (true, 11), (true, 12), (true, 13), (true, 14), (true, 15), (true, 16), (true, 17), (true, 18), (true, 19), (true, 20), (true, 21), (true, 22), (true, 23), (true, 24), (true, 25), (true, 26), (true, 27), (true, 28), (true, 29), (true, 30), (true, 31), (true, 32), (true, 33), (true, 34), (true, 35), (true, 36), (true, 37), (true, 38), (true, 39), (false, 40)] (by kernel_rfl) (by kernel_rfl) ?_
          refine wpOrdT_quiet [0, 1, 2, 3, 4, 5, 6, 7, 8, 9, 10, 11, 12, 13, 14, 15, 16, 17, 18, 19, 20, 21, 22, 23, 24, 25, 26, 27, 28, 29, 30, 31, 32, 33, 34, 35, 36, 37, 38, 39] [(false, 40)] _ (by kernel_rfl) ?_
          simp only [nthOps, nthOp, List.cons_append, List.nil_append]
          repeat (go_big_quiet_step (fail))
          refine wpQuiet_nil ?_
          clear b1 b2 b3 b4 b5 c1 c2 c3 c4 d1 d2 d3 d4 d5 d6 d7 d8 d9 Y2 Y1 Y0 Z1 Z0 cU2 cU1 cU0 cV1 cV0
          refine wpOrdT_act 40 [] (by kernel_rfl) ?_
          intro K hK
          simp only [nthOp]
          go_wp2_with fail
          refine (rguess_any (val (U.drop j)) V (4294967296 ^ n) x2 x1 x0 y1 y0 _ HT.out).mono ?_
          rintro e wg ⟨⟨g, rfl, hg32, hglo, hghi⟩, hwg⟩
          obtain ⟨qd, hqd⟩ : ∃ qd, qd = val (U.drop j) / V := ⟨_, rfl⟩
          rw [← hqd] at hglo hghi
          have hwx : Ext wr wg := hwg ▸ (Ext.refl wr).drew
          clear hwg
          have HQD := Lib.hid hqd; clear hqd
          go_wp2
          refine hK _ _ ⟨⟨wg, hwx⟩, rfl⟩ ?_
          clear hK K
          simp only [wpOrdT, List.drop_succ_cons, List.drop_zero]
          have hUg := hU.far hwx
          have hQg := hQ.far hwx
          have hqg := hq.far hwx
          have hVM : RM wg (some ⟨w2.heap.size, 0, none⟩) (n + 2) (n + 3) (Q.take (n + 2)) := (hQg.rm (n := n + 3) HQL.out (by omega)).take (by omega) (by omega) (by omega)
          have hUM := hUg.sub (j := j) (m := la + 1 - j) (c := la + 1 - j) (by rw [HUL.out]; omega) (Nat.le_refl _) (by omega)
          clear hU hQ hq
          have hcut : val ((U.drop j).take (n + 2 + 1)) = val (U.drop j) := by
            refine val_cut (hUg.2.drop j) (by rw [List.length_drop, HUL.out]; omega) ?_
            have h1 := HT.out.fits
            have h2 : 4294967296 * V ≤ 4294967296 * 4294967296 ^ (n + 2) := Nat.mul_le_mul_left _ (Nat.le_of_lt hVlt)
            rw [Nat.pow_succ, Nat.mul_comm (4294967296 ^ (n + 2))]
            omega
          have HCUT := Lib.hid hcut; clear hcut
          have hj1 : (0 : Int) ≤ (j : Int) := by omega
          have hj2 : (j : Int) ≤ (la : Int) + 1 := by omega
          have hj3 : ((la : Int) + 1 - (j : Int)).toNat = la + 1 - j := by omega
          go_wp2_with fail
          refine (rless_any _ _ (n + 2) (la + 1 - j) _ _ g (U.drop j) (Q.take (n + 2)) _ hUM hVM (by omega) (by omega) (by omega)).mono ?_
          rintro e wl ⟨rfl, hxl⟩
          rw [HCUT.out, ← HVD.out]
          have hUl := hUg.far hxl
          have hVl := hVM.ext hxl
          have hQl := hQg.far hxl
          have hql := hqg.far hxl
          clear hUg hVM hUM hQg hqg
          have hexl := (hex.trans hwx).trans hxl
          have hqle : V * qd ≤ val (U.drop j) := by rw [HQD.out]; exact Nat.mul_div_le _ _
          have hqlt : val (U.drop j) < V * (qd + 1) := by rw [HQD.out]; exact Nat.lt_mul_div_succ _ hVpos
          have hq32 : qd < 4294967296 := by rw [HQD.out]; exact HT.out.q_lt
          have hless : ∀ g', g' = qd → decide (val (U.drop j) < V * g') = false := fun g' e => by rw [e]; exact decide_eq_false (by omega)
          have hless' : ∀ g', g' = qd + 1 → decide (val (U.drop j) < V * g') = true := fun g' e => by rw [e]; exact decide_eq_true hqlt
          have HLT := Lib.hid hqlt; clear hqlt
          have HLE := Lib.hid hqle; clear hqle
          rcases (show g = qd ∨ g = qd + 1 by omega) with hgq | hgq
          all_goals
            first
              | rw [hless g hgq]
              | rw [hless' g hgq]
            first
              | (have hgq' := hgq.symm; subst hgq')
              | subst hgq
            clear hless hless'
            go_wp2_with fail
            refine (rtake_any (some ⟨w2.heap.size, 0, none⟩) w1.heap.size j (n + 2) (la + 1 - j) _ _ _ U (Q.take (n + 2)) _ hUl hVl (by omega) (by omega) (by rw [HUL.out]; omega) (Nat.le_refl _) (by omega) (by omega) (by rw [HCUT.out, ← HVD.out]; exact HLE.out)).mono ?_
            rintro e w5 ⟨rfl, U', hU', hU'l, hU't, hU'v, hon⟩
            rw [← HVD.out] at hU'v
            have hq5 : RowD w5 w3.heap.size (List.replicate (j + 1) 0 ++ qs) := ⟨hon.blk hql.1 (by omega), hql.2⟩
            have hQ5 : RowD w5 w2.heap.size Q := ⟨hon.blk hQl.1 (by omega), hQl.2⟩
            obtain ⟨z, _, _, hcz, hfz⟩ := hq5.at_ (k := j) (by simp; omega)
            have hDI := HDI.out.step (by rw [HUL.out]; omega) hU'l hU't hU'v HQD.out hVpos
            have HDI2 := Lib.hid hDI
            have HU5 := Lib.hid hU'; have HQ5 := Lib.hid hQ5; have Hq5 := Lib.hid hq5
            have HUL2 := Lib.hid hU'l
            clear hDI hU' hQ5 hq5 hU'l hU't hU'v hUl hVl hQl hql
            have hs5 := hexl.size
            have hex5 : Ext w w5 := hon.ext hexl (by have := hx1.size; omega)
            go_wp2
            go_roundw
            case rel =>
              refine ⟨j, U', qd :: qs, by omega, by go_num, by rw [HUL2.out, HUL.out], by have := HQS.out; simp; omega, HDI2.out, ?_, ?_, ?_, hex5.setCell hext3.size _⟩
              · exact ⟨HU5.out.1.far (by simp; omega) _, HU5.out.2⟩
              · exact ⟨HQ5.out.1.far (by simp; omega) _, HQ5.out.2⟩
              · have h1 := Hq5.out.set (k := j) (d := qd) rfl hq32
                rwa [sh_list] at h1
            case measure => simp [intOf] <;> omega

theorem rdivide_any (A B : Option Addr) (n m c d a b : Nat) (w : World) (hA : RM w A n c (digs a)) (hB : RM w B m d (digs b)) (hb : 0 < b) (hn : n ≤ 10000) :
    Calls Tryd.prog 73 #[.slice A n c, .slice B m d] w fun e w' => ∃ q r, e = .returned (.tuple #[q, r]) ∧ SlM (digs (a / b)) q w' ∧ SlM (digs (a % b)) r w' ∧ Ext w w' := by
  rcases Nat.lt_or_ge a b with h | h
  · exact rdivide_lt A B n m c d a b w hA hB h
  · match m, hB with
    | 0, hB =>
      have h1 := hB.empty
      rw [digs_nil] at h1
      omega
    | 1, hB => exact rdivide_one A B n c d a b w hA hB h (by omega)
    | k + 2, hB => exact rdivide_big A B n k c d a b w hA hB h hn
end Go.Proofs.YtfdpbcjcinchgaaDoor
