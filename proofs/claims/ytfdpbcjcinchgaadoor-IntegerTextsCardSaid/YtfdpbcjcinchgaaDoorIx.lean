/- Contract: the division of digits. -/
import Derived.Test.YtfdpbcjcinchgaaDoorIw
import Derived.Test.YtfdpbcjcinchgaaDoorShelf
namespace Go.Proofs.YtfdpbcjcinchgaaDoor
open Go.RowKit
set_option linter.unusedVariables false

theorem lz_norm {x : Nat} (h0 : 0 < x) (hx : x < 4294967296) : ∃ s : Nat, s < 32 ∧ 32 - (Lib.bitLen x : Int) = (s : Int) ∧ 2147483648 ≤ x * 2 ^ s ∧ x * 2 ^ s < 4294967296 := by
  obtain ⟨h1, h2, h3⟩ := Lib.bitLenAux_bounds 64 x (by omega) (by omega)
  have h4 := Lib.bitLen_le x 32 (by omega) hx
  unfold Lib.bitLen at h4 ⊢
  generalize Lib.bitLenAux 64 x = L at *
  obtain ⟨t, rfl⟩ : ∃ t, L = t + 1 := ⟨L - 1, by omega⟩
  refine ⟨31 - t, by omega, by omega, ?_, ?_⟩
  · have h5 : 2 ^ t * 2 ^ (31 - t) ≤ x * 2 ^ (31 - t) := Nat.mul_le_mul_right _ (by simpa using h2)
    rw [← Nat.pow_add, show t + (31 - t) = 31 by omega] at h5
    exact h5
  · have h5 : x * 2 ^ (31 - t) < 2 ^ (t + 1) * 2 ^ (31 - t) := Nat.mul_lt_mul_of_pos_right h3 (Nat.pow_pos (by omega))
    rw [← Nat.pow_add, show t + 1 + (31 - t) = 32 by omega] at h5
    exact h5

set_option maxRecDepth 100000 in
set_option maxHeartbeats 800000 in
theorem divMag_lt (A B : Option Addr) (n m c d a b : Nat) (w : World) (hA : RM w A n c (digs a)) (hB : RM w B m d (digs b)) (hab : a < b) (hn : n ≤ 1000000) :
    Calls Tryd.prog 70 #[.slice A n c, .slice B m d] w fun e w' => ∃ q r, e = .returned (.tuple #[q, r]) ∧ SlM (digs (a / b)) q w' ∧ SlM (digs (a % b)) r w' ∧ Ext w w' := by
  have hcm : decide (cmpN a b < 0) = true := by rw [cmp_lt_iff]; exact decide_eq_true hab
  go_enter Tryd.func70, Tryd.ntmps70
  go_wp2_with fail
  refine (compareMag_any A B n m c d _ _ _ hA hB (canon_digs _) (canon_digs _)).mono ?_
  rintro e w1 ⟨rfl, hx1⟩
  rw [val_digs, val_digs]
  go_wp2_with (at_builtin; refine wpList_appA elem_u32 rfl (.const (.slice none 0 0)) (.tmp 16) rfl w1.heap.size _ 0 [] (by rfl) (World.ownsRow_nil _ _ _ _) _ n _ (mg (digs a)) (by rfl) (hA.ext hx1).rd mg_one (by omega) (by omega) (by omega) ?_)
  intro v2 w2 ho hg
  have hx2 := own_grown hg (Ext.refl _) (by simp [Value.ownBlock])
  have HO := Lib.hid ho; clear ho
  go_wp2
  go_ret2
  refine ⟨_, _, rfl, ⟨none, 0, 0, rfl, ?_⟩, ?_, hx1.trans hx2⟩
  · rw [Nat.div_eq_of_lt hab, digs_zero]; exact RM.nil
  · rw [Nat.mod_eq_of_lt hab]; exact RM.of_own (by simpa using HO.out) (dig_digs _)

set_option maxRecDepth 100000 in
set_option maxHeartbeats 1600000 in
theorem divMag_big (A B : Option Addr) (la n c d a b : Nat) (w : World) (hA : RM w A la c (digs a)) (hB : RM w B (n + 2) d (digs b)) (hab : b ≤ a) (hla : la ≤ 10000) :
    Calls Tryd.prog 70 #[.slice A la c, .slice B (n + 2) d] w fun e w' => ∃ q r, e = .returned (.tuple #[q, r]) ∧ SlM (digs (a / b)) q w' ∧ SlM (digs (a % b)) r w' ∧ Ext w w' := by
  have hcm : decide (cmpN a b < 0) = false := by rw [cmp_lt_iff]; exact decide_eq_false (by omega)
  have HLA := Lib.hid hA.len
  have hlb := hB.len
  have hnl : n + 2 ≤ la := by
    have h1 := digs_len_le (n := b) (k := la) (Nat.lt_of_le_of_lt hab (lt_of_digs_len (by have := HLA.out; omega)))
    omega
  obtain ⟨ad, x, rfl, _, hx, hx32, _⟩ := hB.at_ (k := n + 1) (by omega)
  have hx0 : 0 < x := by
    have := canon_digs b x (last_at hlb hx)
    omega
  have HX := Lib.hid hx; clear hx
  have HLB := Lib.hid hlb; clear hlb
  have t1 : (((n + 2 : Nat) : Int) == 1) = false := by simp; omega
  have t2 : ((n : Int) + 2 == 1) = false := by simp; omega
  go_enter Tryd.func70, Tryd.ntmps70
  go_wp2_with fail
  refine (compareMag_any A (some ad) la (n + 2) c d _ _ _ hA hB (canon_digs _) (canon_digs _)).mono ?_
  rintro e w1 ⟨rfl, hx1⟩
  rw [val_digs, val_digs]
  obtain ⟨hc1, hc2⟩ := (hB.ext hx1).cell2 HX.out
  go_wp2_with fail
  obtain ⟨s, hs, hse, hslo, hshi⟩ := lz_norm hx0 hx32
  refine (Tryd.bits_LeadingZeros32 (x : Int) _ (by omega) (by omega)).mono ?_
  rintro e wz ⟨rfl, hwz⟩
  rw [hwz]
  clear hwz
  rw [Int.toNat_natCast, hse]
  clear hse
  have hN : Norm b n s x := ⟨HLB.out, HX.out, hslo, hshi, hs⟩
  have HN := Lib.hid hN; clear hN
  clear hc1 hc2
  go_wp2_with fail
  refine (shiftLeft_any A la c s (digs a) _ (hA.ext hx1) (by omega) (by omega)).mono ?_
  rintro e w2 ⟨rfl, U, hU, hUl, hUv, hx2⟩
  rw [val_digs] at hUv
  go_wp2_with fail
  refine (shiftLeft_any (some ad) (n + 2) d s (digs b) _ (hB.ext (hx1.trans hx2)) (by omega) (by omega)).mono ?_
  rintro e w3 ⟨rfl, Q, hQ, hQl, hQv, hx3⟩
  rw [val_digs] at hQv
  obtain ⟨hV, v1, v0, hv1, hv0, hvt⟩ := HN.out.digits hQl hQ.2 hQv
  have hqle : n + 2 ≤ n + 2 + 1 := by omega
  have q1 : (0 : Int) ≤ (n : Int) + 2 := by omega
  have hmk := make_u32 ((la : Int) - ((n : Int) + 2) + 1) (la - n - 1) (by omega) (by omega)
  go_wp2_with fail
  clear hmk
  -- names for the loop
  obtain ⟨V, hVd⟩ : ∃ V, V = val (Q.take (n + 2)) := ⟨_, rfl⟩
  have hVb : V = b * 2 ^ s := by rw [hVd, hV]
  have hVpos : 0 < V := by
    have h1 := HN.out.ge
    have h2 : 0 < 4294967296 ^ (n + 1) := Nat.pow_pos (by omega)
    have h3 : 0 < 2147483648 * 4294967296 ^ (n + 1) := Nat.mul_pos (by omega) h2
    omega
  have hVlt : V < 4294967296 ^ (n + 2) := by rw [hVb]; exact HN.out.lt
  have hU4 : RowD (w3.alloc (.cells (mg (List.replicate (la - n - 1) 0)).toArray 34)) w1.heap.size U := hU.far (hx3.alloc _)
  have hQ4 : RowD (w3.alloc (.cells (mg (List.replicate (la - n - 1) 0)).toArray 34)) w2.heap.size Q := hQ.far (Ext.new _ _)
  have hst : DivInv U [] (a * 2 ^ s) V (la - n - 1) := by
    refine DivInv.start hUv ?_
    rw [hVb]
    exact div_init hUv (lt_of_digs_len (by rw [HLA.out]; exact Nat.le_refl _)) (by have := le_of_digs HLB.out (by omega); simpa using this) (by omega) (by omega)
  have HVD := Lib.hid hVd; have HVB := Lib.hid hVb
  clear hVd hVb hV hUv hQv
  have hs1 := hx2.size
  have hs2 := hx3.size
  have hgU := hU.1.lt
  have hgQ := hQ.1.lt
  have HUL := Lib.hid hUl; have HQL := Lib.hid hQl
  have HV1 := Lib.hid hv1; have HV0 := Lib.hid hv0
  have hst' := Lib.hid hst; clear hst hUl hQl hv1 hv0
  have HU4 := Lib.hid hU4; have HQ4 := Lib.hid hQ4; clear hU4 hQ4 hU hQ
  have hext3 : Ext w w3 := (hx1.trans hx2).trans hx3
  go_loopw [11] (fun iv wr => ∃ (k : Nat) (U qs : List Nat), k ≤ la - n - 1 ∧ iv = .int .i64 ((k : Int) - 1) ∧ U.length = la + 1 ∧ k + qs.length = la - n - 1 ∧ DivInv U qs (a * 2 ^ s) V k ∧ RowD wr w1.heap.size U ∧ RowD wr w2.heap.size Q ∧ RowD wr w3.heap.size (List.replicate k 0 ++ qs) ∧ Ext w wr) (fun iv _ => (intOf iv + 1).toNat)
  case atStart => exact ⟨la - n - 1, U, [], Nat.le_refl _, by congr 1; omega, HUL.out, by simp, hst'.out, HU4.out, HQ4.out, ⟨by simpa using Blk.new w3 _ _, by simpa using Dig.replicate _⟩, hext3.alloc _⟩
  case round =>
    clear HU4 HQ4 hst' HUL
    obtain ⟨k, U, qs, hk, rfl, hUl, hqs, hdi, hU, hQ, hq, hex⟩ := hrel
    have HUL := Lib.hid hUl; clear hUl
    have HQS := Lib.hid hqs; clear hqs
    have HDI := Lib.hid hdi; clear hdi
    by_cases h0 : k = 0
    · subst h0
      have hdone := HDI.out.done
      have HDN := Lib.hid hdone; clear hdone
      have hqr : RM wr (some ⟨w3.heap.size, 0, none⟩) (la - n - 1) (la - n - 1) qs := by
        have h1 : RowD wr w3.heap.size qs := by simpa using hq
        exact h1.rm (by have := HQS.out; omega) (by omega)
      have hur : RM wr (some ⟨w1.heap.size, 0, none⟩) (n + 2) (n + 2) (U.take (n + 2)) := (hU.rm (n := la + 1) HUL.out (by omega)).take (by omega) (by omega) (by omega)
      go_wp2
      have q2 : (0 : Int) ≤ (n : Int) + 2 := by omega
      have q3 : (n : Int) + 2 ≤ (la : Int) + 1 := by omega
      refine wp_region_ordE 9 [(true, 0), (true, 2), (true, 3), (true, 4), (true, 5), (true, 6), (false, 1), (false, 7), (true, 8)] (by kernel_rfl) (by kernel_rfl) ?_
      refine wpOrdT_quiet [0, 2, 3, 4, 5, 6] [(false, 1), (false, 7), (true, 8)] _ (by kernel_rfl) ?_
      simp only [nthOps, nthOp, List.cons_append, List.nil_append]
      repeat (go_big_quiet_step (fail))
      refine wpQuiet_nil ?_
      refine wpOrdT_act 1 [(false, 7), (true, 8)] (by kernel_rfl) ?_
      intro K hK
      simp only [nthOp]
      go_wp2_with fail
      refine (trim_ext _ _ _ qs _ (hqr.ext (Ext.refl wr).drew)).mono ?_
      rintro e wa ⟨va, rfl, hRa, hxa⟩
      have hxa := hxa.undrew
      go_wp2
      refine hK _ _ ⟨⟨wa, hxa⟩, rfl⟩ ?_
      clear hK K
      refine wpOrdT_act 7 [(true, 8)] (by kernel_rfl) ?_
      intro K hK
      simp only [nthOp]
      go_wp2_with fail
      refine (shiftRight_any _ (n + 2) _ s (U.take (n + 2)) _ (hur.ext hxa) (by omega) (by omega)).mono ?_
      rintro e wb ⟨vb, rfl, hRb, hxb⟩
      have hxb' := hxa.trans hxb
      go_wp2
      refine hK _ _ ⟨⟨wb, hxb'⟩, rfl⟩ ?_
      clear hK K
      refine wpOrdT_quiet [8] [] _ (by kernel_rfl) ?_
      simp only [nthOps, nthOp, List.cons_append, List.nil_append]
      repeat (go_big_quiet_step (fail))
      refine wpQuiet_nil ?_
      simp only [wpOrdT, List.drop_succ_cons, List.drop_zero]
      have hvq : val qs = a / b := by rw [HDN.out.1, HVB.out, div_cancel]
      have hvu : val (U.take (n + 2)) / 2 ^ s = a % b := by
        have h1 := HDN.out.2
        rw [HVB.out, mod_cancel] at h1
        rw [val_cut hU.2 (by rw [HUL.out]; omega), h1, Nat.mul_div_cancel _ (Nat.pow_pos (by omega))]
        have h2 := HDI.out.2
        rw [List.drop_zero] at h2
        omega
      rw [hvq] at hRa
      rw [hvu] at hRb
      have HRa := Lib.hid (hRa.ext hxb); have HRb := Lib.hid hRb
      clear hRa hRb hvq hvu
      go_wp2
      go_ret2
      exact ⟨_, _, rfl, HRa.out, HRb.out, hex.trans hxb'⟩
    · obtain ⟨j, rfl⟩ : ∃ j, k = j + 1 := ⟨k - 1, by omega⟩
      rw [show ((j + 1 : Nat) : Int) - 1 = (j : Int) by omega]
      have hVM : RM wr (some ⟨w2.heap.size, 0, none⟩) (n + 2) (n + 2) (Q.take (n + 2)) := (hQ.rm (n := n + 3) HQL.out (by omega)).take (by omega) (by omega) (by omega)
      have q2 : (0 : Int) ≤ (j : Int) := by omega
      have q3 : (j : Int) ≤ (j : Int) + ((n : Int) + 2) + 1 := by omega
      have q4 : (j : Int) + ((n : Int) + 2) + 1 ≤ (la : Int) + 1 := by omega
      have q5 : ((j : Int) + ((n : Int) + 2) + 1 - (j : Int)).toNat = n + 3 := by omega
      go_wp2_with fail
      rw [show j + (n + 2) + 1 - j = n + 3 by omega]
      refine (divDigit_any (some ⟨w2.heap.size, 0, none⟩) w1.heap.size j n _ _ v1 U (Q.take (n + 2)) _ hU hVM (fun ad e => by cases e; simp; omega) (by omega) (by omega) (by rw [HUL.out]; omega) (by omega) (by omega) HV1.out hvt (by rw [← HVD.out]; exact HDI.out.2)).mono ?_
      rintro e w5 ⟨rfl, U', hU', hU'l, hU't, hU'v, hon⟩
      rw [← HVD.out] at hU'v
      rw [← HVD.out]
      have hq32 : val (U.drop j) / V < 4294967296 := by
        rw [Nat.div_lt_iff_lt_mul hVpos]
        obtain ⟨xj, hxj⟩ : ∃ xj, U[j]? = some xj := ⟨_, List.getElem?_eq_getElem (by rw [HUL.out]; omega)⟩
        exact div_seg hU.2 hxj HDI.out.2
      obtain ⟨qd, hqd⟩ : ∃ qd, qd = val (U.drop j) / V := ⟨_, rfl⟩
      rw [← hqd] at hU'v hq32
      rw [← hqd]
      have hq5 : RowD w5 w3.heap.size (List.replicate (j + 1) 0 ++ qs) := ⟨hon.blk hq.1 (by omega), hq.2⟩
      have hQ5 : RowD w5 w2.heap.size Q := ⟨hon.blk hQ.1 (by omega), hQ.2⟩
      obtain ⟨z, _, _, hcz, hfz⟩ := hq5.at_ (k := j) (by simp; omega)
      have hDI := HDI.out.step (by rw [HUL.out]; omega) hU'l hU't hU'v hqd hVpos
      have HDI2 := Lib.hid hDI
      have HU5 := Lib.hid hU'; have HQ5 := Lib.hid hQ5; have Hq5 := Lib.hid hq5
      have HUL2 := Lib.hid hU'l
      clear hDI hU' hQ5 hq5 hU'l hU't hU'v hU hVM hQ hq hqd
      have hs5 := hex.size
      have hex5 : Ext w w5 := hon.ext hex (by have := hx1.size; omega)
      have q6 : (j : Int) < ((la - n - 1 : Nat) : Int) := by omega
      go_wp2
      go_roundw
      case rel =>
        refine ⟨j, U', qd :: qs, by omega, by go_num, by rw [HUL2.out, HUL.out], by have := HQS.out; simp; omega, HDI2.out, ?_, ?_, ?_, hex5.setCell hext3.size _⟩
        · exact ⟨HU5.out.1.far (by simp; omega) _, HU5.out.2⟩
        · exact ⟨HQ5.out.1.far (by simp; omega) _, HQ5.out.2⟩
        · have h1 := Hq5.out.set (k := j) (d := qd) rfl hq32
          rwa [sh_list] at h1
      case measure => simp [intOf] <;> omega

set_option maxRecDepth 100000 in
set_option maxHeartbeats 1600000 in
theorem divMag_one (A B : Option Addr) (n c d a b : Nat) (w : World) (hA : RM w A n c (digs a)) (hB : RM w B 1 d (digs b)) (hab : b ≤ a) (hn : n ≤ 1000000) :
    Calls Tryd.prog 70 #[.slice A n c, .slice B 1 d] w fun e w' => ∃ q r, e = .returned (.tuple #[q, r]) ∧ SlM (digs (a / b)) q w' ∧ SlM (digs (a % b)) r w' ∧ Ext w w' := by
  have hcm : decide (cmpN a b < 0) = false := by rw [cmp_lt_iff]; exact decide_eq_false (by omega)
  obtain ⟨ad, x, rfl, _, hx, hx32, hcx⟩ := hB.at_ (k := 0) (by omega)
  have hl := hB.len
  have hbx : digs b = [x] := by
    match hd : digs b, hl, hx with
    | [y], _, h => simp at h; rw [h]
  have hb : b = x := by rw [← val_digs b, hbx]; simp [val]
  subst hb
  have hb0 : 0 < b := by
    rcases Nat.eq_zero_or_pos b with h | h
    · subst h; rw [digs_zero] at hl; simp at hl
    · exact h
  have HLA := Lib.hid hA.len
  have HC := Lib.hid hcx; clear hcx hx hl hbx
  go_enter Tryd.func70, Tryd.ntmps70
  go_wp2_with fail
  refine (compareMag_any A (some ad) n 1 c d _ _ _ hA hB (canon_digs _) (canon_digs _)).mono ?_
  rintro e w1 ⟨rfl, hx1⟩
  rw [val_digs, val_digs]
  go_wp2_with (at_builtin; refine wpList_appA elem_u32 rfl (.const (.slice none 0 0)) (.tmp 22) rfl w1.heap.size _ 0 [] (by rfl) (World.ownsRow_nil _ _ _ _) _ n _ (mg (digs a)) (by rfl) (hA.ext hx1).rd mg_one (by omega) (by omega) (by omega) ?_)
  intro v2 w2 ho hg
  have hx2 := own_grown hg (Ext.refl _) (by simp [Value.ownBlock])
  have hx12 := hx1.trans hx2
  rcases RowX.of_own ho (dig_digs _) with ⟨_, h1, h2⟩ | ⟨g, cap, r, rfl, hgb, hrow, hcap, hcapm⟩
  · exfalso; rw [digs_nil] at h2; omega
  · clear ho hg
    have hc1 : w2.cell? ad = some (.int .u32 (b : Int)) := hx12.cell_ HC.out
    go_wp2_with fail
    refine (divWord_any g n cap b (digs a) r _ hrow HLA.out hn hb0 hx32).mono ?_
    rintro e w3 ⟨rfl, q, hq, hql, hqv, hon⟩
    rw [val_digs] at hqv
    rw [val_digs]
    have hx3 : Ext w w3 := hon.ext hx12 (Nat.le_trans hx1.size hgb)
    have hmod : a % b < 4294967296 := Nat.lt_trans (Nat.mod_lt _ hb0) hx32
    generalize hr : a % b = rr at *
    have HRR := Lib.hid hr; clear hr
    have HQV := Lib.hid hqv; clear hqv
    have hqm := hq.rm hql hcap hcapm
    have HQL := Lib.hid hql; clear hql
    go_wp2_with fail
    refine (trim_ext _ n cap q _ hqm).mono ?_
    rintro e w4 ⟨v4, rfl, hR4, hx4⟩
    rw [HQV.out] at hR4
    go_wp2_with fail
    refine (trim_ext _ 1 1 [rr] _ (RM.blk (Blk.new _ _ _) (Dig.one hmod) rfl (by omega))).mono ?_
    rintro e w5 ⟨v5, rfl, hR5, hx5⟩
    have hR4' := hR4.ext ((Ext.new w4 _).trans hx5)
    go_wp2
    go_ret2
    refine ⟨_, _, rfl, hR4', by rw [HRR.out]; simpa [val] using hR5, (hx3.trans hx4).trans ((Ext.new w4 _).trans hx5)⟩

theorem divMag_any (A B : Option Addr) (n m c d a b : Nat) (w : World) (hA : RM w A n c (digs a)) (hB : RM w B m d (digs b)) (hb : 0 < b) (hn : n ≤ 10000) :
    Calls Tryd.prog 70 #[.slice A n c, .slice B m d] w fun e w' => ∃ q r, e = .returned (.tuple #[q, r]) ∧ SlM (digs (a / b)) q w' ∧ SlM (digs (a % b)) r w' ∧ Ext w w' := by
  rcases Nat.lt_or_ge a b with h | h
  · exact divMag_lt A B n m c d a b w hA hB h (by omega)
  · match m, hB with
    | 0, hB =>
      have h1 := hB.empty
      rw [digs_nil] at h1
      omega
    | 1, hB => exact divMag_one A B n c d a b w hA hB h (by omega)
    | k + 2, hB => exact divMag_big A B n k c d a b w hA hB h hn
end Go.Proofs.YtfdpbcjcinchgaaDoor
