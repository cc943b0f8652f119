/- Words and contracts that the laws share, several texts in one. -/
import Derived.Test.YtclkkoiaaddllaaGreatQMFcoih
import Derived.Test.YtclkkoiaaddllaaGreatQShelfnodk
import Derived.Lib.ItoaNum
/- Contract: the division of digits. -/
namespace Go.Proofs.YtclkkoiaaddllaaGreat
open Go.RowKit
set_option linter.unusedVariables false

theorem lz_norm {x : Nat} (h0 : 0 < x) (hx : x < 4294967296) : ∃ s : Nat, s < 32 ∧ 32 - (Lib.bitLen x : Int) = (s : Int) ∧ 2147483648 ≤ x * 2 ^ s ∧ x * 2 ^ s < 4294967296 := by
  obtain ⟨h1, h2, h3⟩ := Lib.bitLenAux_bounds 64 x (by omega) (by omega)
  have h4 := Lib.bitLen_le x 32 (by omega) hx
  unfold Lib.bitLen at h4 ⊢
  generalize Lib.bitLenAux 64 x = L at *
  obtain ⟨t, rfl⟩ : ∃ t, L = t + 1 := ⟨L - 1, by omega⟩
  refine ⟨31 - t, by omega, by omega, ?_, ?_⟩
  · have h5 : 2 ^ t * 2 ^ (31 - t) ≤ x * 2 ^ (31 - t) := Nat.mul_le_mul_right _ (by simpa using h2)
    rw [← Nat.pow_add, show t + (31 - t) = 31 by omega] at h5
    exact h5
  · have h5 : x * 2 ^ (31 - t) < 2 ^ (t + 1) * 2 ^ (31 - t) := Nat.mul_lt_mul_of_pos_right h3 (Nat.pow_pos (by omega))
    rw [← Nat.pow_add, show t + 1 + (31 - t) = 32 by omega] at h5
    exact h5

set_option maxRecDepth 100000 in
set_option maxHeartbeats 800000 in
theorem divMag_lt (A B : Option Addr) (n m c d a b : Nat) (w : World) (hA : RM w A n c (digs a)) (hB : RM w B m d (digs b)) (hab : a < b) (hn : n ≤ 1000000) :
    Calls Tryz.prog 126 #[.slice A n c, .slice B m d] w fun e w' => ∃ q r, e = .returned (.tuple #[q, r]) ∧ SlM (digs (a / b)) q w' ∧ SlM (digs (a % b)) r w' ∧ Ext w w' := by
  have hcm : decide (cmpN a b < 0) = true := by rw [cmp_lt_iff]; exact decide_eq_true hab
  go_enter Tryz.func126, Tryz.ntmps126
  go_wp2_with fail
  refine (compareMag_any A B n m c d _ _ _ hA hB (canon_digs _) (canon_digs _)).mono ?_
  rintro e w1 ⟨rfl, hx1⟩
  rw [val_digs, val_digs]
  go_wp2_with (at_builtin; refine wpList_appA elem_u32 rfl (.const (.slice none 0 0)) (.tmp 16) rfl w1.heap.size _ 0 [] (by rfl) (World.ownsRow_nil _ _ _ _) _ n _ (mg (digs a)) (by rfl) (hA.ext hx1).rd mg_one (by omega) (by omega) (by omega) ?_)
  intro v2 w2 ho hg
  have hx2 := own_grown hg (Ext.refl _) (by simp [Value.ownBlock])
  have HO := Lib.hid ho; clear ho
  go_wp2
  go_ret2
  refine ⟨_, _, rfl, ⟨none, 0, 0, rfl, ?_⟩, ?_, hx1.trans hx2⟩
  · rw [Nat.div_eq_of_lt hab, digs_zero]; exact RM.nil
  · rw [Nat.mod_eq_of_lt hab]; exact RM.of_own (by simpa using HO.out) (dig_digs _)

set_option maxRecDepth 100000 in
set_option maxHeartbeats 1600000 in
theorem divMag_big (A B : Option Addr) (la n c d a b : Nat) (w : World) (hA : RM w A la c (digs a)) (hB : RM w B (n + 2) d (digs b)) (hab : b ≤ a) (hla : la ≤ 10000) :
    Calls Tryz.prog 126 #[.slice A la c, .slice B (n + 2) d] w fun e w' => ∃ q r, e = .returned (.tuple #[q, r]) ∧ SlM (digs (a / b)) q w' ∧ SlM (digs (a % b)) r w' ∧ Ext w w' := by
  have hcm : decide (cmpN a b < 0) = false := by rw [cmp_lt_iff]; exact decide_eq_false (by omega)
  have HLA := Lib.hid hA.len
  have hlb := hB.len
  have hnl : n + 2 ≤ la := by
    have h1 := digs_len_le (n := b) (k := la) (Nat.lt_of_le_of_lt hab (lt_of_digs_len (by have := HLA.out; omega)))
    omega
  obtain ⟨ad, x, rfl, _, hx, hx32, _⟩ := hB.at_ (k := n + 1) (by omega)
  have hx0 : 0 < x := by
    have := canon_digs b x (last_at hlb hx)
    omega
  have HX := Lib.hid hx; clear hx
  have HLB := Lib.hid hlb; clear hlb
  have t1 : (((n + 2 : Nat) : Int) == 1) = false := by simp; omega
  have t2 : ((n : Int) + 2 == 1) = false := by simp; omega
  go_enter Tryz.func126, Tryz.ntmps126
  go_wp2_with fail
  refine (compareMag_any A (some ad) la (n + 2) c d _ _ _ hA hB (canon_digs _) (canon_digs _)).mono ?_
  rintro e w1 ⟨rfl, hx1⟩
  rw [val_digs, val_digs]
  obtain ⟨hc1, hc2⟩ := (hB.ext hx1).cell2 HX.out
  go_wp2_with fail
  obtain ⟨s, hs, hse, hslo, hshi⟩ := lz_norm hx0 hx32
  refine (Tryz.bits_LeadingZeros32 (x : Int) _ (by omega) (by omega)).mono ?_
  rintro e wz ⟨rfl, hwz⟩
  rw [hwz]
  clear hwz
  rw [Int.toNat_natCast, hse]
  clear hse
  have hN : Norm b n s x := ⟨HLB.out, HX.out, hslo, hshi, hs⟩
  have HN := Lib.hid hN; clear hN
  clear hc1 hc2
  go_wp2_with fail
  refine (shiftLeft_any A la c s (digs a) _ (hA.ext hx1) (by omega) (by omega)).mono ?_
  rintro e w2 ⟨rfl, U, hU, hUl, hUv, hx2⟩
  rw [val_digs] at hUv
  go_wp2_with fail
  refine (shiftLeft_any (some ad) (n + 2) d s (digs b) _ (hB.ext (hx1.trans hx2)) (by omega) (by omega)).mono ?_
  rintro e w3 ⟨rfl, Q, hQ, hQl, hQv, hx3⟩
  rw [val_digs] at hQv
  obtain ⟨hV, v1, v0, hv1, hv0, hvt⟩ := HN.out.digits hQl hQ.2 hQv
  have hqle : n + 2 ≤ n + 2 + 1 := by omega
  have q1 : (0 : Int) ≤ (n : Int) + 2 := by omega
  have hmk := make_u32 ((la : Int) - ((n : Int) + 2) + 1) (la - n - 1) (by omega) (by omega)
  go_wp2_with fail
  clear hmk
  -- names for the loop
  obtain ⟨V, hVd⟩ : ∃ V, V = val (Q.take (n + 2)) := ⟨_, rfl⟩
  have hVb : V = b * 2 ^ s := by rw [hVd, hV]
  have hVpos : 0 < V := by
    have h1 := HN.out.ge
    have h2 : 0 < 4294967296 ^ (n + 1) := Nat.pow_pos (by omega)
    have h3 : 0 < 2147483648 * 4294967296 ^ (n + 1) := Nat.mul_pos (by omega) h2
    omega
  have hVlt : V < 4294967296 ^ (n + 2) := by rw [hVb]; exact HN.out.lt
  have hU4 : RowD (w3.alloc (.cells (mg (List.replicate (la - n - 1) 0)).toArray 103)) w1.heap.size U := hU.far (hx3.alloc _)
  have hQ4 : RowD (w3.alloc (.cells (mg (List.replicate (la - n - 1) 0)).toArray 103)) w2.heap.size Q := hQ.far (Ext.new _ _)
  have hst : DivInv U [] (a * 2 ^ s) V (la - n - 1) := by
    refine DivInv.start hUv ?_
    rw [hVb]
    exact div_init hUv (lt_of_digs_len (by rw [HLA.out]; exact Nat.le_refl _)) (by have := le_of_digs HLB.out (by omega); simpa using this) (by omega) (by omega)
  have HVD := Lib.hid hVd; have HVB := Lib.hid hVb
  clear hVd hVb hV hUv hQv
  have hs1 := hx2.size
  have hs2 := hx3.size
  have hgU := hU.1.lt
  have hgQ := hQ.1.lt
  have HUL := Lib.hid hUl; have HQL := Lib.hid hQl
  have HV1 := Lib.hid hv1; have HV0 := Lib.hid hv0
  have hst' := Lib.hid hst; clear hst hUl hQl hv1 hv0
  have HU4 := Lib.hid hU4; have HQ4 := Lib.hid hQ4; clear hU4 hQ4 hU hQ
  have hext3 : Ext w w3 := (hx1.trans hx2).trans hx3
  go_loopw [11] (fun iv wr => ∃ (k : Nat) (U qs : List Nat), k ≤ la - n - 1 ∧ iv = .int .i64 ((k : Int) - 1) ∧ U.length = la + 1 ∧ k + qs.length = la - n - 1 ∧ DivInv U qs (a * 2 ^ s) V k ∧ RowD wr w1.heap.size U ∧ RowD wr w2.heap.size Q ∧ RowD wr w3.heap.size (List.replicate k 0 ++ qs) ∧ Ext w wr) (fun iv _ => (intOf iv + 1).toNat)
  case atStart => exact ⟨la - n - 1, U, [], Nat.le_refl _, by congr 1; omega, HUL.out, by simp, hst'.out, HU4.out, HQ4.out, ⟨by simpa using Blk.new w3 _ _, by simpa using Dig.replicate _⟩, hext3.alloc _⟩
  case round =>
    clear HU4 HQ4 hst' HUL
    obtain ⟨k, U, qs, hk, rfl, hUl, hqs, hdi, hU, hQ, hq, hex⟩ := hrel
    have HUL := Lib.hid hUl; clear hUl
    have HQS := Lib.hid hqs; clear hqs
    have HDI := Lib.hid hdi; clear hdi
    by_cases h0 : k = 0
    · subst h0
      have hdone := HDI.out.done
      have HDN := Lib.hid hdone; clear hdone
      have hqr : RM wr (some ⟨w3.heap.size, 0, none⟩) (la - n - 1) (la - n - 1) qs := by
        have h1 : RowD wr w3.heap.size qs := by simpa using hq
        exact h1.rm (by have := HQS.out; omega) (by omega)
      have hur : RM wr (some ⟨w1.heap.size, 0, none⟩) (n + 2) (n + 2) (U.take (n + 2)) := (hU.rm (n := la + 1) HUL.out (by omega)).take (by omega) (by omega) (by omega)
      go_wp2
      have q2 : (0 : Int) ≤ (n : Int) + 2 := by omega
      have q3 : (n : Int) + 2 ≤ (la : Int) + 1 := by omega
      refine wp_region_ordE 9 [(true, 0), (true, 2), (true, 3), (true, 4), (true, 5), (true, 6), (false, 1), (false, 7), (true, 8)] (by kernel_rfl) (by kernel_rfl) ?_
      refine wpOrdT_quiet [0, 2, 3, 4, 5, 6] [(false, 1), (false, 7), (true, 8)] _ (by kernel_rfl) ?_
      simp only [nthOps, nthOp, List.cons_append, List.nil_append]
      repeat (go_big_quiet_step (fail))
      refine wpQuiet_nil ?_
      refine wpOrdT_act 1 [(false, 7), (true, 8)] (by kernel_rfl) ?_
      intro K hK
      simp only [nthOp]
      go_wp2_with fail
      refine (trim_ext _ _ _ qs _ (hqr.ext (Ext.refl wr).drew)).mono ?_
      rintro e wa ⟨va, rfl, hRa, hxa⟩
      have hxa := hxa.undrew
      go_wp2
      refine hK _ _ ⟨⟨wa, hxa⟩, rfl⟩ ?_
      clear hK K
      refine wpOrdT_act 7 [(true, 8)] (by kernel_rfl) ?_
      intro K hK
      simp only [nthOp]
      go_wp2_with fail
      refine (shiftRight_any _ (n + 2) _ s (U.take (n + 2)) _ (hur.ext hxa) (by omega) (by omega)).mono ?_
      rintro e wb ⟨vb, rfl, hRb, hxb⟩
      have hxb' := hxa.trans hxb
      go_wp2
      refine hK _ _ ⟨⟨wb, hxb'⟩, rfl⟩ ?_
      clear hK K
      refine wpOrdT_quiet [8] [] _ (by kernel_rfl) ?_
      simp only [nthOps, nthOp, List.cons_append, List.nil_append]
      repeat (go_big_quiet_step (fail))
      refine wpQuiet_nil ?_
      simp only [wpOrdT, List.drop_succ_cons, List.drop_zero]
      have hvq : val qs = a / b := by rw [HDN.out.1, HVB.out, div_cancel]
      have hvu : val (U.take (n + 2)) / 2 ^ s = a % b := by
        have h1 := HDN.out.2
        rw [HVB.out, mod_cancel] at h1
        rw [val_cut hU.2 (by rw [HUL.out]; omega), h1, Nat.mul_div_cancel _ (Nat.pow_pos (by omega))]
        have h2 := HDI.out.2
        rw [List.drop_zero] at h2
        omega
      rw [hvq] at hRa
      rw [hvu] at hRb
      have HRa := Lib.hid (hRa.ext hxb); have HRb := Lib.hid hRb
      clear hRa hRb hvq hvu
      go_wp2
      go_ret2
      exact ⟨_, _, rfl, HRa.out, HRb.out, hex.trans hxb'⟩
    · obtain ⟨j, rfl⟩ : ∃ j, k = j + 1 := ⟨k - 1, by omega⟩
      rw [show ((j + 1 : Nat) : Int) - 1 = (j : Int) by omega]
      have hVM : RM wr (some ⟨w2.heap.size, 0, none⟩) (n + 2) (n + 2) (Q.take (n + 2)) := (hQ.rm (n := n + 3) HQL.out (by omega)).take (by omega) (by omega) (by omega)
      have q2 : (0 : Int) ≤ (j : Int) := by omega
      have q3 : (j : Int) ≤ (j : Int) + ((n : Int) + 2) + 1 := by omega
      have q4 : (j : Int) + ((n : Int) + 2) + 1 ≤ (la : Int) + 1 := by omega
      have q5 : ((j : Int) + ((n : Int) + 2) + 1 - (j : Int)).toNat = n + 3 := by omega
      go_wp2_with fail
      rw [show j + (n + 2) + 1 - j = n + 3 by omega]
      refine (divDigit_any (some ⟨w2.heap.size, 0, none⟩) w1.heap.size j n _ _ v1 U (Q.take (n + 2)) _ hU hVM (fun ad e => by cases e; simp; omega) (by omega) (by omega) (by rw [HUL.out]; omega) (by omega) (by omega) HV1.out hvt (by rw [← HVD.out]; exact HDI.out.2)).mono ?_
      rintro e w5 ⟨rfl, U', hU', hU'l, hU't, hU'v, hon⟩
      rw [← HVD.out] at hU'v
      rw [← HVD.out]
      have hq32 : val (U.drop j) / V < 4294967296 := by
        rw [Nat.div_lt_iff_lt_mul hVpos]
        obtain ⟨xj, hxj⟩ : ∃ xj, U[j]? = some xj := ⟨_, List.getElem?_eq_getElem (by rw [HUL.out]; omega)⟩
        exact div_seg hU.2 hxj HDI.out.2
      obtain ⟨qd, hqd⟩ : ∃ qd, qd = val (U.drop j) / V := ⟨_, rfl⟩
      rw [← hqd] at hU'v hq32
      rw [← hqd]
      have hq5 : RowD w5 w3.heap.size (List.replicate (j + 1) 0 ++ qs) := ⟨hon.blk hq.1 (by omega), hq.2⟩
      have hQ5 : RowD w5 w2.heap.size Q := ⟨hon.blk hQ.1 (by omega), hQ.2⟩
      obtain ⟨z, _, _, hcz, hfz⟩ := hq5.at_ (k := j) (by simp; omega)
      have hDI := HDI.out.step (by rw [HUL.out]; omega) hU'l hU't hU'v hqd hVpos
      have HDI2 := Lib.hid hDI
      have HU5 := Lib.hid hU'; have HQ5 := Lib.hid hQ5; have Hq5 := Lib.hid hq5
      have HUL2 := Lib.hid hU'l
      clear hDI hU' hQ5 hq5 hU'l hU't hU'v hU hVM hQ hq hqd
      have hs5 := hex.size
      have hex5 : Ext w w5 := hon.ext hex (by have := hx1.size; omega)
      have q6 : (j : Int) < ((la - n - 1 : Nat) : Int) := by omega
      go_wp2
      go_roundw
      case rel =>
        refine ⟨j, U', qd :: qs, by omega, by go_num, by rw [HUL2.out, HUL.out], by have := HQS.out; simp; omega, HDI2.out, ?_, ?_, ?_, hex5.setCell hext3.size _⟩
        · exact ⟨HU5.out.1.far (by simp; omega) _, HU5.out.2⟩
        · exact ⟨HQ5.out.1.far (by simp; omega) _, HQ5.out.2⟩
        · have h1 := Hq5.out.set (k := j) (d := qd) rfl hq32
          rwa [sh_list] at h1
      case measure => simp [intOf] <;> omega

set_option maxRecDepth 100000 in
set_option maxHeartbeats 1600000 in
theorem divMag_one (A B : Option Addr) (n c d a b : Nat) (w : World) (hA : RM w A n c (digs a)) (hB : RM w B 1 d (digs b)) (hab : b ≤ a) (hn : n ≤ 1000000) :
    Calls Tryz.prog 126 #[.slice A n c, .slice B 1 d] w fun e w' => ∃ q r, e = .returned (.tuple #[q, r]) ∧ SlM (digs (a / b)) q w' ∧ SlM (digs (a % b)) r w' ∧ Ext w w' := by
  have hcm : decide (cmpN a b < 0) = false := by rw [cmp_lt_iff]; exact decide_eq_false (by omega)
  obtain ⟨ad, x, rfl, _, hx, hx32, hcx⟩ := hB.at_ (k := 0) (by omega)
  have hl := hB.len
  have hbx : digs b = [x] := by
    match hd : digs b, hl, hx with
    | [y], _, h => simp at h; rw [h]
  have hb : b = x := by rw [← val_digs b, hbx]; simp [val]
  subst hb
  have hb0 : 0 < b := by
    rcases Nat.eq_zero_or_pos b with h | h
    · subst h; rw [digs_zero] at hl; simp at hl
    · exact h
  have HLA := Lib.hid hA.len
  have HC := Lib.hid hcx; clear hcx hx hl hbx
  go_enter Tryz.func126, Tryz.ntmps126
  go_wp2_with fail
  refine (compareMag_any A (some ad) n 1 c d _ _ _ hA hB (canon_digs _) (canon_digs _)).mono ?_
  rintro e w1 ⟨rfl, hx1⟩
  rw [val_digs, val_digs]
  go_wp2_with (at_builtin; refine wpList_appA elem_u32 rfl (.const (.slice none 0 0)) (.tmp 22) rfl w1.heap.size _ 0 [] (by rfl) (World.ownsRow_nil _ _ _ _) _ n _ (mg (digs a)) (by rfl) (hA.ext hx1).rd mg_one (by omega) (by omega) (by omega) ?_)
  intro v2 w2 ho hg
  have hx2 := own_grown hg (Ext.refl _) (by simp [Value.ownBlock])
  have hx12 := hx1.trans hx2
  rcases RowX.of_own ho (dig_digs _) with ⟨_, h1, h2⟩ | ⟨g, cap, r, rfl, hgb, hrow, hcap, hcapm⟩
  · exfalso; rw [digs_nil] at h2; omega
  · clear ho hg
    have hc1 : w2.cell? ad = some (.int .u32 (b : Int)) := hx12.cell_ HC.out
    go_wp2_with fail
    refine (divWord_any g n cap b (digs a) r _ hrow HLA.out hn hb0 hx32).mono ?_
    rintro e w3 ⟨rfl, q, hq, hql, hqv, hon⟩
    rw [val_digs] at hqv
    rw [val_digs]
    have hx3 : Ext w w3 := hon.ext hx12 (Nat.le_trans hx1.size hgb)
    have hmod : a % b < 4294967296 := Nat.lt_trans (Nat.mod_lt _ hb0) hx32
    generalize hr : a % b = rr at *
    have HRR := Lib.hid hr; clear hr
    have HQV := Lib.hid hqv; clear hqv
    have hqm := hq.rm hql hcap hcapm
    have HQL := Lib.hid hql; clear hql
    go_wp2_with fail
    refine (trim_ext _ n cap q _ hqm).mono ?_
    rintro e w4 ⟨v4, rfl, hR4, hx4⟩
    rw [HQV.out] at hR4
    go_wp2_with fail
    refine (trim_ext _ 1 1 [rr] _ (RM.blk (Blk.new _ _ _) (Dig.one hmod) rfl (by omega))).mono ?_
    rintro e w5 ⟨v5, rfl, hR5, hx5⟩
    have hR4' := hR4.ext ((Ext.new w4 _).trans hx5)
    go_wp2
    go_ret2
    refine ⟨_, _, rfl, hR4', by rw [HRR.out]; simpa [val] using hR5, (hx3.trans hx4).trans ((Ext.new w4 _).trans hx5)⟩

theorem divMag_any (A B : Option Addr) (n m c d a b : Nat) (w : World) (hA : RM w A n c (digs a)) (hB : RM w B m d (digs b)) (hb : 0 < b) (hn : n ≤ 10000) :
    Calls Tryz.prog 126 #[.slice A n c, .slice B m d] w fun e w' => ∃ q r, e = .returned (.tuple #[q, r]) ∧ SlM (digs (a / b)) q w' ∧ SlM (digs (a % b)) r w' ∧ Ext w w' := by
  rcases Nat.lt_or_ge a b with h | h
  · exact divMag_lt A B n m c d a b w hA hB h (by omega)
  · match m, hB with
    | 0, hB =>
      have h1 := hB.empty
      rw [digs_nil] at h1
      omega
    | 1, hB => exact divMag_one A B n c d a b w hA hB h (by omega)
    | k + 2, hB => exact divMag_big A B n k c d a b w hA hB h hn
end Go.Proofs.YtclkkoiaaddllaaGreat

/- Contracts: division of integers. -/
namespace Go.Proofs.YtclkkoiaaddllaaGreat
open Go.RowKit
set_option linter.unusedVariables false

/-- One Euclidean division. -/
theorem euclid {x y q r : Int} (hy : y ≠ 0) (h : q * y + r = x) (h0 : 0 ≤ r) (h1 : r < (y.natAbs : Int)) : x / y = q ∧ x % y = r := by
  rcases Int.lt_or_lt_of_ne hy with hn | hp
  · have h2 : (-y) * (-q) + r = x := by rw [Int.neg_mul_neg, Int.mul_comm]; exact h
    have := (Int.ediv_emod_unique (a := x) (b := -y) (q := -q) (r := r) (by omega)).2 ⟨by omega, h0, by omega⟩
    rw [Int.ediv_neg, Int.emod_neg] at this
    exact ⟨by omega, this.2⟩
  · exact (Int.ediv_emod_unique hp).2 ⟨by rw [Int.mul_comm] at h; omega, h0, by omega⟩
theorem zOf_self (z : Int) : zOf (decide (z < 0)) z.natAbs = z := by
  unfold zOf
  by_cases h : z < 0
  · simp [h]; omega
  · simp [h]; omega
theorem zOf_prod (a b : Bool) (m n : Nat) : zOf a m * zOf b n = zOf (a != b) (m * n) := by
  cases a <;> cases b <;> simp [zOf, Int.neg_mul, Int.mul_neg]
/-- The digits' division answers: no rest to turn. -/
theorem divide_plain {x y : Int} (hy : y ≠ 0) (h : x < 0 → x.natAbs % y.natAbs = 0) : x / y = zOf (decide (x < 0) != decide (y < 0)) (x.natAbs / y.natAbs) ∧ x % y = ((x.natAbs % y.natAbs : Nat) : Int) := by
  have hp : 0 < y.natAbs := by omega
  have h1 := Nat.div_add_mod x.natAbs y.natAbs
  have h2 := Nat.mod_lt x.natAbs hp
  refine euclid hy ?_ (by omega) (by omega)
  have e : zOf (decide (x < 0) != decide (y < 0)) (x.natAbs / y.natAbs) * y = zOf (decide (x < 0)) (x.natAbs / y.natAbs * y.natAbs) := by
    have h3 := zOf_prod (decide (x < 0) != decide (y < 0)) (decide (y < 0)) (x.natAbs / y.natAbs) y.natAbs
    rw [zOf_self] at h3
    rw [h3]
    congr 1
    cases decide (x < 0) <;> cases decide (y < 0) <;> rfl
  rw [e]
  rw [Nat.mul_comm] at h1
  generalize x.natAbs / y.natAbs * y.natAbs = t at *
  unfold zOf
  by_cases hx : x < 0
  · have := h hx
    simp [hx]; omega
  · simp [hx]; omega
/-- A rest below zero is turned. -/
theorem divide_turn {x y : Int} (hy : y ≠ 0) (hx : x < 0) (h : 0 < x.natAbs % y.natAbs) : x / y = zOf (decide (x < 0) != decide (y < 0)) (x.natAbs / y.natAbs + 1) ∧ x % y = ((y.natAbs - x.natAbs % y.natAbs : Nat) : Int) := by
  have hp : 0 < y.natAbs := by omega
  have h1 := Nat.div_add_mod x.natAbs y.natAbs
  have h2 := Nat.mod_lt x.natAbs hp
  refine euclid hy ?_ (by omega) (by omega)
  have e : zOf (decide (x < 0) != decide (y < 0)) (x.natAbs / y.natAbs + 1) * y = zOf (decide (x < 0)) ((x.natAbs / y.natAbs + 1) * y.natAbs) := by
    have h3 := zOf_prod (decide (x < 0) != decide (y < 0)) (decide (y < 0)) (x.natAbs / y.natAbs + 1) y.natAbs
    rw [zOf_self] at h3
    rw [h3]
    congr 1
    cases decide (x < 0) <;> cases decide (y < 0) <;> rfl
  rw [e, Nat.add_mul, Nat.one_mul]
  rw [Nat.mul_comm] at h1
  generalize x.natAbs / y.natAbs * y.natAbs = t at *
  unfold zOf
  simp [hx]; omega
/-- A quotient is not greater than what is divided. -/
theorem divide_le {x y : Int} (hy : y ≠ 0) (hx : x < 0) (h : 0 < x.natAbs % y.natAbs) : x.natAbs / y.natAbs + 1 ≤ x.natAbs := by
  have hp : 0 < y.natAbs := by omega
  have h1 := Nat.div_add_mod x.natAbs y.natAbs
  have h2 := Nat.mod_lt x.natAbs hp
  have h3 : 1 * (x.natAbs / y.natAbs) ≤ y.natAbs * (x.natAbs / y.natAbs) := Nat.mul_le_mul_right _ hp
  omega

/-- Two integers and an error. -/
def RetD (q r e : Int) (v : Value) (w : World) : Prop := ∃ a b, v = .tuple #[a, b, .int .i64 e] ∧ RI w a q ∧ RI w b r
/-! Four boxes: two arguments, two results. -/
section
variable {w w1 : World} {x y r s : Obj} {cs : Array Value} {t : TypeId}
theorem boxq (hx : Ext ((((w.alloc x).alloc y).alloc r).alloc s) w1) : Ext w w1 := ((((Ext.new w _).alloc _).alloc _).alloc _).trans hx
theorem boxqa (hx : Ext ((((w.alloc (.cells cs t)).alloc y).alloc r).alloc s) w1) : Blk w1 w.heap.size t cs := ((((Blk.new w t cs).alloc _).alloc _).alloc _).ext hx
theorem boxqb (hx : Ext ((((w.alloc x).alloc (.cells cs t)).alloc r).alloc s) w1) : Blk w1 (w.heap.size + 1) t cs := (((Blk.new' t cs (by simp)).alloc _).alloc _).ext hx
theorem boxqc (hx : Ext ((((w.alloc x).alloc y).alloc (.cells cs t)).alloc s) w1) : Blk w1 (w.heap.size + 2) t cs := ((Blk.new' t cs (by simp)).alloc _).ext hx
theorem boxqd (hx : Ext ((((w.alloc x).alloc y).alloc r).alloc (.cells cs t)) w1) : Blk w1 (w.heap.size + 3) t cs := (Blk.new' t cs (by simp)).ext hx
end

end Go.Proofs.YtclkkoiaaddllaaGreat

/- Contracts: division of valid integers. -/
namespace Go.Proofs.YtclkkoiaaddllaaGreat
open Go.RowKit
set_option linter.unusedVariables false

theorem div_lim {x y : Int} (ax : x.natAbs < lim) : x.natAbs / y.natAbs < lim := Nat.lt_of_le_of_lt (Nat.div_le_self _ _) ax
theorem mod_lim {x y : Int} (ax : x.natAbs < lim) : x.natAbs % y.natAbs < lim := Nat.lt_of_le_of_lt (Nat.mod_le _ _) ax
theorem resS_of {s : Bool} {k : Nat} {z : Int} (h : z = zOf s k) (hk : k < lim) : resS (zOf s k) = (z, 0) := by rw [resS_ok (by rw [zOf_abs]; exact hk), h]
theorem digs_some {k n : Nat} (h : (digs k).length = n) : 0 < n ↔ 0 < k := by
  rcases Nat.eq_zero_or_pos k with h0 | h0
  · subst h0; rw [digs_zero] at h; simp at h; omega
  · have : digs k ≠ [] := fun e => by rw [digs_nil] at e; omega
    have := List.length_pos_iff.2 this
    omega

set_option maxRecDepth 100000 in
set_option maxHeartbeats 1600000 in
theorem Divide_ok (v u : Value) (x y : Int) (w : World) (hX : RI w v x) (hY : RI w u y) (ax : x.natAbs < lim) (ay : y.natAbs < lim) (hy0 : y ≠ 0) :
    Calls Tryz.prog 93 #[v, u] w fun e w' => ∃ v, e = .returned v ∧ RetD (x / y) (x % y) 0 v w' ∧ Ext w w' := by
  have HV1 := Lib.hid (RI.valid hX ax)
  have HV2 := Lib.hid (RI.valid hY ay)
  obtain ⟨A, n, c, rfl, hx⟩ := hX
  obtain ⟨B, m, d, rfl, hy⟩ := hY
  have hn := hx.le400 ax
  have hm := hy.le400 ay
  have hm0 : 0 < m := (digs_some hy.len).2 (by omega)
  have t1 : ((m : Int) == 0) = false := by simp; omega
  have t2 : (m == 0) = false := by simp; omega
  generalize hsx : decide (x < 0) = sx at *
  generalize hsy : decide (y < 0) = sy at *
  have HSX := Lib.hid hsx; have HSY := Lib.hid hsy; clear hsx hsy
  go_enter Tryz.func93, Tryz.ntmps93
  go_wp2_with fail
  refine (Valid_any _ A n c _ _ (hx.ext ((((Ext.new w _).alloc _).alloc _).alloc _))).mono ?_
  rintro e w1 ⟨rfl, hx1⟩
  rw [HV1.out]
  have c0 := (boxqa hx1).cell
  have c1 := (boxqb hx1).cell
  go_wp2_with fail
  refine (Valid_any _ B m d _ _ (hy.ext (boxq hx1))).mono ?_
  rintro e w2 ⟨rfl, hx2⟩
  rw [HV2.out]
  clear c0 c1
  have hx2 := hx1.trans hx2
  have c0 := (boxqa hx2).cell
  have c1 := (boxqb hx2).cell
  go_wp2_with fail
  refine (divMag_any A B n m c d x.natAbs y.natAbs _ (hx.ext (boxq hx2)) (hy.ext (boxq hx2)) (by omega) (by omega)).mono ?_
  rintro e w3 ⟨q, r, rfl, ⟨Aq, nq, cq, rfl, hQ⟩, ⟨Ar, nr, cr, rfl, hR⟩, hx3⟩
  clear c0 c1
  have hx3 := hx2.trans hx3
  have c0 := (boxqa hx3).cell
  have c1 := (boxqb hx3).cell
  have hnr := digs_some hR.len
  by_cases hturn : sx = true ∧ 0 < nr
  · obtain ⟨rfl, hnr0⟩ := hturn
    have hx0 : x < 0 := of_decide_eq_true HSX.out
    have hr0 := hnr.1 hnr0
    have hpl := divide_turn (x := x) (y := y) hy0 hx0 hr0
    rw [HSX.out, HSY.out] at hpl
    have HPL := Lib.hid hpl; clear hpl
    have HLE := Lib.hid (divide_le hy0 hx0 hr0)
    have hnq : nq ≤ 400 := by have := hQ.len; have := len_lim (div_lim (y := y) ax); omega
    have hmod := Nat.mod_lt x.natAbs (show 0 < y.natAbs by omega)
    have hnrm : nr ≤ m := by
      have h1 := hR.len
      have h2 := digs_len_le (n := x.natAbs % y.natAbs) (k := m) (Nat.lt_trans hmod (lt_of_digs_len (by rw [hy.len]; exact Nat.le_refl _)))
      omega
    have hnr1 : (0 : Int) < (nr : Int) := by omega
    have HMOD := Lib.hid hmod; clear hmod hx0 hr0 hnr
    go_wp2_with fail
    refine (addMag_any Aq _ nq 1 cq 1 _ [1] _ (hQ.ext (Ext.new w3 _)) (RM.blk (Blk.new _ _ _) (Dig.one (by omega)) rfl (by omega)) (by omega) (by omega)).mono ?_
    rintro e w4 ⟨v4, rfl, ⟨Aq, nq, cq, rfl, hQ⟩, hx4⟩
    rw [val_digs, show val [1] = 1 from rfl] at hQ
    have hx34 := (Ext.new w3 _).trans hx4
    have hR4 := hR.ext hx34
    have hx4 := hx3.trans hx34
    clear c0 c1 hR
    have c1 := (boxqb hx4).cell
    go_wp2_with fail
    refine (subMag_any B Ar m nr d cr _ _ _ (hy.ext (boxq hx4)) hR4 (by omega) hnrm (by rw [val_digs, val_digs]; exact Nat.le_of_lt HMOD.out)).mono ?_
    rintro e w5 ⟨v5, rfl, ⟨Ar, nr, cr, rfl, hR⟩, hx5⟩
    rw [val_digs, val_digs] at hR
    have hQ := hQ.ext hx5
    have hx5 := hx4.trans hx5
    clear c1
    have c0 := (boxqa hx5).cell
    have c1 := (boxqb hx5).cell
    clear hx4 hx34
    obtain ⟨zq, hzq⟩ : ∃ z, z = x / y := ⟨_, rfl⟩
    obtain ⟨zr, hzr⟩ : ∃ z, z = x % y := ⟨_, rfl⟩
    go_wp2_with fail
    refine (result_any _ Aq nq cq _ _ hQ).mono ?_
    rintro e w4 ⟨v4, rfl, hret, hx4⟩
    have HZQ := Lib.hid hzq; have HZR := Lib.hid hzr; clear hzq hzr
    have hq1 := HZQ.out.trans HPL.out.1
    simp only [Bool.true_bne] at hq1
    rw [val_digs, resS_of hq1 (Nat.lt_of_le_of_lt HLE.out ax)] at hret
    have HQ1 := Lib.hid hq1; clear hq1
    obtain ⟨u4, rfl, A4, n4, c4, rfl, hI4⟩ := hret
    have hR4 := hR.ext hx4
    have hx4 := hx5.trans hx4
    clear c0 c1
    have b4 := boxqc hx4
    have c4' := b4.cell
    have f4 := b4.frozen
    obtain ⟨k1, k2, k3⟩ := put2 (boxq hx4) (by omega) b4 (decide (zq < 0)) A4 n4 c4
    have hR5 := k3 _ _ _ _ hR4
    have hI5 := k3 _ _ _ _ hI4
    have b5 := ((boxqd hx4).far (p := ⟨w.heap.size + 2, 0, none⟩) (by simp) (.bool (decide (zq < 0)))).far (p := ⟨w.heap.size + 2, 1, none⟩) (by simp) (.slice A4 n4 c4)
    clear k3
    have K1 := Lib.hid k1; have K2 := Lib.hid k2; have HI5 := Lib.hid hI5; have HR5 := Lib.hid hR5; have HB5 := Lib.hid b5
    clear k1 k2 hI5 hR5 b5 hI4 hR4 hQ hR
    go_wp2_with fail
    refine (result_any false Ar _ cr _ _ HR5.out).mono ?_
    rintro e w6 ⟨v6, rfl, hret, hx6⟩
    rw [val_digs, resS_of (show zr = zOf false _ from HZR.out.trans HPL.out.2) (Nat.lt_of_le_of_lt (Nat.sub_le _ _) ay)] at hret
    obtain ⟨u6, rfl, A6, n6, c6, rfl, hI6⟩ := hret
    have e6 := K1.out.trans hx6
    have b64 := K2.out.ext hx6
    have b65 := HB5.out.ext hx6
    have hI5 := HI5.out.ext hx6
    have c64 := b64.cell
    have f64 := b64.frozen
    have c65 := b65.cell
    have f65 := b65.frozen
    clear c4' f4
    go_wp2_with fail
    obtain ⟨m1, m2, m3⟩ := put2 e6 (by omega) b65 (decide (zr < 0)) A6 n6 c6
    have m4 := (b64.far (p := ⟨w.heap.size + 3, 0, none⟩) (by simp) (.bool (decide (zr < 0)))).far (p := ⟨w.heap.size + 3, 1, none⟩) (by simp) (.slice A6 n6 c6)
    have m5 := m3 _ _ _ _ hI5
    have m6 := m3 _ _ _ _ hI6
    clear m3 c64 f64 c65 f65 b64 b65 hI5 hI6 HI5 HR5 HB5 K1 K2 e6
    rw [show w.heap.size + 1 + 1 + 1 = w.heap.size + 3 from rfl]
    generalize (w6.setCell ⟨w.heap.size + 3, 0, none⟩ (.bool (decide (zr < 0)))).setCell ⟨w.heap.size + 3, 1, none⟩ (.slice A6 n6 c6) = w7 at *
    have p4 : w7.cell? ⟨w.heap.size + 1 + 1, 0, none⟩ = some (.bool (decide (zq < 0))) := by have := m4.cell 0; simpa using this
    have p4' : w7.cell? ⟨w.heap.size + 1 + 1, 1, none⟩ = some (.slice A4 n4 c4) := by have := m4.cell 1; simpa using this
    have p5 : w7.cell? ⟨w.heap.size + 3, 0, none⟩ = some (.bool (decide (zr < 0))) := by have := m2.cell 0; simpa using this
    have p5' : w7.cell? ⟨w.heap.size + 3, 1, none⟩ = some (.slice A6 n6 c6) := by have := m2.cell 1; simpa using this
    have g4 : w7.frozen? ⟨w.heap.size + 1 + 1, 0, none⟩ = false := m4.frozen 0
    have g4' : w7.frozen? ⟨w.heap.size + 1 + 1, 1, none⟩ = false := m4.frozen 1
    have g5 : w7.frozen? ⟨w.heap.size + 3, 0, none⟩ = false := m2.frozen 0
    have g5' : w7.frozen? ⟨w.heap.size + 3, 1, none⟩ = false := m2.frozen 1
    go_region
    go_wp2
    obtain ⟨n1, n2, n3⟩ := put2 m1 (by omega) m4 (decide (zq < 0)) A4 n4 c4
    have n4' := (m2.far (p := ⟨w.heap.size + 2, 0, none⟩) (by simp) (.bool (decide (zq < 0)))).far (p := ⟨w.heap.size + 2, 1, none⟩) (by simp) (.slice A4 n4 c4)
    obtain ⟨o1, o2, o3⟩ := put2 n1 (by omega) n4' (decide (zr < 0)) A6 n6 c6
    have o4 := (n2.far (p := ⟨w.heap.size + 3, 0, none⟩) (by simp) (.bool (decide (zr < 0)))).far (p := ⟨w.heap.size + 3, 1, none⟩) (by simp) (.slice A6 n6 c6)
    have r4 := o3 _ _ _ _ (n3 _ _ _ _ m5)
    have r5 := o3 _ _ _ _ (n3 _ _ _ _ m6)
    rw [← HZQ.out, ← HZR.out]
    exact bp_int3 rfl rfl rfl (o4.ext (Ext.refl _).drew) rfl (o2.ext (Ext.refl _).drew) ⟨_, rfl, ⟨_, _, rfl, ⟨_, _, _, rfl, r4.ext (Ext.refl _).drew⟩, ⟨_, _, _, rfl, r5.ext (Ext.refl _).drew⟩⟩, o1.drew⟩
  · have hpl := divide_plain (x := x) (y := y) hy0 (fun h => by
      have h1 : sx = true := by rw [← HSX.out]; exact decide_eq_true h
      have : ¬ 0 < nr := fun h2 => hturn ⟨h1, h2⟩
      rw [hnr] at this; omega)
    rw [HSX.out, HSY.out] at hpl
    have HPL := Lib.hid hpl; clear hpl
    have hpr : sx = false ∨ (sx = true ∧ nr = 0) := by
      cases sx
      · exact .inl rfl
      · simp at hturn; exact .inr ⟨rfl, by omega⟩
    clear hturn hnr
    rcases hpr with rfl | ⟨rfl, rfl⟩
    all_goals
      obtain ⟨zq, hzq⟩ : ∃ z, z = x / y := ⟨_, rfl⟩
      obtain ⟨zr, hzr⟩ : ∃ z, z = x % y := ⟨_, rfl⟩
      go_wp2_with fail
      refine (result_any _ Aq nq cq _ _ hQ).mono ?_
      rintro e w4 ⟨v4, rfl, hret, hx4⟩
      have HZQ := Lib.hid hzq; have HZR := Lib.hid hzr; clear hzq hzr
      have hq1 := HZQ.out.trans HPL.out.1
      simp only [Bool.false_bne, Bool.true_bne] at hq1
      rw [val_digs, resS_of hq1 (div_lim ax)] at hret
      have HQ1 := Lib.hid hq1; clear hq1
      obtain ⟨u4, rfl, A4, n4, c4, rfl, hI4⟩ := hret
      have hR4 := hR.ext hx4
      have hx4 := hx3.trans hx4
      clear c0 c1
      have b4 := boxqc hx4
      have c4' := b4.cell
      have f4 := b4.frozen
      obtain ⟨k1, k2, k3⟩ := put2 (boxq hx4) (by omega) b4 (decide (zq < 0)) A4 n4 c4
      have hR5 := k3 _ _ _ _ hR4
      have hI5 := k3 _ _ _ _ hI4
      have b5 := ((boxqd hx4).far (p := ⟨w.heap.size + 2, 0, none⟩) (by simp) (.bool (decide (zq < 0)))).far (p := ⟨w.heap.size + 2, 1, none⟩) (by simp) (.slice A4 n4 c4)
      clear k3
      have K1 := Lib.hid k1; have K2 := Lib.hid k2; have HI5 := Lib.hid hI5; have HR5 := Lib.hid hR5; have HB5 := Lib.hid b5
      clear k1 k2 hI5 hR5 b5 hI4 hR4 hQ hR
      go_wp2_with fail
      refine (result_any false Ar _ cr _ _ HR5.out).mono ?_
      rintro e w6 ⟨v6, rfl, hret, hx6⟩
      rw [val_digs, resS_of (show zr = zOf false _ from HZR.out.trans HPL.out.2) (mod_lim ax)] at hret
      obtain ⟨u6, rfl, A6, n6, c6, rfl, hI6⟩ := hret
      have e6 := K1.out.trans hx6
      have b64 := K2.out.ext hx6
      have b65 := HB5.out.ext hx6
      have hI5 := HI5.out.ext hx6
      have c64 := b64.cell
      have f64 := b64.frozen
      have c65 := b65.cell
      have f65 := b65.frozen
      clear c4' f4
      go_wp2_with fail
      obtain ⟨m1, m2, m3⟩ := put2 e6 (by omega) b65 (decide (zr < 0)) A6 n6 c6
      have m4 := (b64.far (p := ⟨w.heap.size + 3, 0, none⟩) (by simp) (.bool (decide (zr < 0)))).far (p := ⟨w.heap.size + 3, 1, none⟩) (by simp) (.slice A6 n6 c6)
      have m5 := m3 _ _ _ _ hI5
      have m6 := m3 _ _ _ _ hI6
      clear m3 c64 f64 c65 f65 b64 b65 hI5 hI6 HI5 HR5 HB5 K1 K2 e6
      rw [show w.heap.size + 1 + 1 + 1 = w.heap.size + 3 from rfl]
      generalize (w6.setCell ⟨w.heap.size + 3, 0, none⟩ (.bool (decide (zr < 0)))).setCell ⟨w.heap.size + 3, 1, none⟩ (.slice A6 n6 c6) = w7 at *
      have p4 : w7.cell? ⟨w.heap.size + 1 + 1, 0, none⟩ = some (.bool (decide (zq < 0))) := by have := m4.cell 0; simpa using this
      have p4' : w7.cell? ⟨w.heap.size + 1 + 1, 1, none⟩ = some (.slice A4 n4 c4) := by have := m4.cell 1; simpa using this
      have p5 : w7.cell? ⟨w.heap.size + 3, 0, none⟩ = some (.bool (decide (zr < 0))) := by have := m2.cell 0; simpa using this
      have p5' : w7.cell? ⟨w.heap.size + 3, 1, none⟩ = some (.slice A6 n6 c6) := by have := m2.cell 1; simpa using this
      have g4 : w7.frozen? ⟨w.heap.size + 1 + 1, 0, none⟩ = false := m4.frozen 0
      have g4' : w7.frozen? ⟨w.heap.size + 1 + 1, 1, none⟩ = false := m4.frozen 1
      have g5 : w7.frozen? ⟨w.heap.size + 3, 0, none⟩ = false := m2.frozen 0
      have g5' : w7.frozen? ⟨w.heap.size + 3, 1, none⟩ = false := m2.frozen 1
      go_region
      go_wp2
      obtain ⟨n1, n2, n3⟩ := put2 m1 (by omega) m4 (decide (zq < 0)) A4 n4 c4
      have n4' := (m2.far (p := ⟨w.heap.size + 2, 0, none⟩) (by simp) (.bool (decide (zq < 0)))).far (p := ⟨w.heap.size + 2, 1, none⟩) (by simp) (.slice A4 n4 c4)
      obtain ⟨o1, o2, o3⟩ := put2 n1 (by omega) n4' (decide (zr < 0)) A6 n6 c6
      have o4 := (n2.far (p := ⟨w.heap.size + 3, 0, none⟩) (by simp) (.bool (decide (zr < 0)))).far (p := ⟨w.heap.size + 3, 1, none⟩) (by simp) (.slice A6 n6 c6)
      have r4 := o3 _ _ _ _ (n3 _ _ _ _ m5)
      have r5 := o3 _ _ _ _ (n3 _ _ _ _ m6)
      rw [← HZQ.out, ← HZR.out]
      exact bp_int3 rfl rfl rfl (o4.ext (Ext.refl _).drew) rfl (o2.ext (Ext.refl _).drew) ⟨_, rfl, ⟨_, _, rfl, ⟨_, _, _, rfl, r4.ext (Ext.refl _).drew⟩, ⟨_, _, _, rfl, r5.ext (Ext.refl _).drew⟩⟩, o1.drew⟩
end Go.Proofs.YtclkkoiaaddllaaGreat

/- Contract: the reference's division of valid integers. -/
namespace Go.Proofs.YtclkkoiaaddllaaGreat
open Go.RowKit
set_option linter.unusedVariables false

set_option maxRecDepth 100000 in
set_option maxHeartbeats 1600000 in
theorem rDivide_ok (v u : Value) (x y : Int) (w : World) (hX : RI w v x) (hY : RI w u y) (ax : x.natAbs < lim) (ay : y.natAbs < lim) (hy0 : y ≠ 0) :
    Calls Tryz.prog 139 #[v, u] w fun e w' => ∃ v, e = .returned v ∧ RetD (x / y) (x % y) 0 v w' ∧ Ext w w' := by
  have HV1 := Lib.hid (RI.valid hX ax)
  have HV2 := Lib.hid (RI.valid hY ay)
  obtain ⟨A, n, c, rfl, hx⟩ := hX
  obtain ⟨B, m, d, rfl, hy⟩ := hY
  have hn := hx.le400 ax
  have hm := hy.le400 ay
  have hm0 : 0 < m := (digs_some hy.len).2 (by omega)
  have t1 : ((m : Int) == 0) = false := by simp; omega
  have t2 : (m == 0) = false := by simp; omega
  generalize hsx : decide (x < 0) = sx at *
  generalize hsy : decide (y < 0) = sy at *
  have HSX := Lib.hid hsx; have HSY := Lib.hid hsy; clear hsx hsy
  go_enter Tryz.func139, Tryz.ntmps139
  go_wp2_with fail
  refine (rValid_any _ A n c _ _ (hx.ext ((((Ext.new w _).alloc _).alloc _).alloc _))).mono ?_
  rintro e w1 ⟨rfl, hx1⟩
  rw [HV1.out]
  have c0 := (boxqa hx1).cell
  have c1 := (boxqb hx1).cell
  go_wp2_with fail
  refine (rValid_any _ B m d _ _ (hy.ext (boxq hx1))).mono ?_
  rintro e w2 ⟨rfl, hx2⟩
  rw [HV2.out]
  clear c0 c1
  have hx2 := hx1.trans hx2
  have c0 := (boxqa hx2).cell
  have c1 := (boxqb hx2).cell
  go_wp2_with fail
  refine (rdivide_any A B n m c d x.natAbs y.natAbs _ (hx.ext (boxq hx2)) (hy.ext (boxq hx2)) (by omega) (by omega)).mono ?_
  rintro e w3 ⟨q, r, rfl, ⟨Aq, nq, cq, rfl, hQ⟩, ⟨Ar, nr, cr, rfl, hR⟩, hx3⟩
  clear c0 c1
  have hx3 := hx2.trans hx3
  have c0 := (boxqa hx3).cell
  have c1 := (boxqb hx3).cell
  have hnq : nq ≤ 400 := by have := hQ.len; have := len_lim (div_lim (y := y) ax); omega
  have hnr : nr ≤ 400 := by have := hR.len; have := len_lim (mod_lim (y := y) ax); omega
  cases sx
  · have hpl := divide_plain (x := x) (y := y) hy0 (fun h => absurd h (of_decide_eq_false HSX.out))
    rw [HSX.out, HSY.out] at hpl
    have HPL := Lib.hid hpl; clear hpl
    have HQL : Hid (∀ z : Int, z = x / y → z.natAbs < lim) := Lib.hid (fun z hz => by rw [hz, HPL.out.1, zOf_abs]; exact div_lim ax)
    obtain ⟨zq, hzq⟩ : ∃ z, z = x / y := ⟨_, rfl⟩
    obtain ⟨zr, hzr⟩ : ∃ z, z = x % y := ⟨_, rfl⟩
    have HZQ := Lib.hid hzq; have HZR := Lib.hid hzr; clear hzq hzr
    have hq1 := HZQ.out.trans HPL.out.1
    simp only [Bool.false_bne] at hq1
    have hr1 : zr = zOf false _ := HZR.out.trans HPL.out.2
    go_wp2_with fail
    refine (rmade_any _ Aq nq cq _ _ hQ (by omega)).mono ?_
    rintro e w4 ⟨v4, rfl, hI4, hx4⟩
    rw [val_digs] at hI4
    rw [← hq1] at hI4
    have HR1 := Lib.hid hr1; clear hr1 hq1
    have hqlim : zq.natAbs < lim := HQL.out zq HZQ.out
    have hR4 := hR.ext hx4
    have hx4 := hx3.trans hx4
    clear c0 c1 hQ hR
    go_wp2_with fail
    refine (rresult_any _ zq _ hI4).mono ?_
    rintro e w5 ⟨v5, rfl, hret, hx5⟩
    rw [resS_ok hqlim] at hret
    obtain ⟨u5, rfl, A5, n5, c5, rfl, hI5⟩ := hret
    have hR5 := hR4.ext hx5
    have hx5 := hx4.trans hx5
    clear hI4 hR4
    go_wp2_with fail
    have Y9 := ExtOf.blk (Blk.new w5 30 #[.bool (decide (zq < 0)), .slice A5 n5 c5])
    have hx5b := hx5.trans (Ext.new w5 (.cells #[.bool (decide (zq < 0)), .slice A5 n5 c5] 30))
    have hR6 := hR5.ext (Ext.new w5 (.cells #[.bool (decide (zq < 0)), .slice A5 n5 c5] 30))
    have hI6 := hI5.ext (Ext.new w5 (.cells #[.bool (decide (zq < 0)), .slice A5 n5 c5] 30))
    generalize w5.alloc (.cells #[.bool (decide (zq < 0)), .slice A5 n5 c5] 30) = w6 at *
    refine wp_region_ordE 3 [(true, 0), (true, 1), (false, 2)] (by kernel_rfl) (by kernel_rfl) ?_
    refine wpOrdT_quiet [0, 1] [(false, 2)] _ (by kernel_rfl) ?_
    simp only [nthOps, nthOp, List.cons_append, List.nil_append]
    repeat (go_big_quiet_step (fail))
    refine wpQuiet_nil ?_
    refine wpOrdT_act 2 [] (by kernel_rfl) ?_
    intro K hK
    simp only [nthOp]
    go_wp2_with fail
    refine (rmade_any false Ar nr cr _ _ (hR6.ext (Ext.refl w6).drew) (by omega)).mono ?_
    rintro e w7 ⟨v7, rfl, ⟨A7, n7, c7, rfl, hI7⟩, hx7⟩
    have hx7 := hx7.undrew
    go_wp2
    refine hK _ _ ⟨⟨w7, hx7⟩, rfl⟩ ?_
    clear hK K
    simp only [wpOrdT, List.drop_succ_cons, List.drop_zero]
    have hx7c := hx5b.trans hx7
    have b4 := boxqc hx7c
    have b5 := boxqd hx7c
    have c4 := b4.cell
    have f4 := b4.frozen
    have c5' := b5.cell
    have f5 := b5.frozen
    obtain ⟨n1, n2, n3⟩ := put2 (boxq hx7c) (by omega) b4 (decide (zq < 0)) A5 n5 c5
    have n4' := (b5.far (p := ⟨w.heap.size + 2, 0, none⟩) (by simp) (.bool (decide (zq < 0)))).far (p := ⟨w.heap.size + 2, 1, none⟩) (by simp) (.slice A5 n5 c5)
    rw [val_digs, ← HR1.out] at hI7
    rw [val_digs, ← HR1.out]
    obtain ⟨o1, o2, o3⟩ := put2 n1 (by omega) n4' (decide (zr < 0)) A7 n7 c7
    have o4 := (n2.far (p := ⟨w.heap.size + 3, 0, none⟩) (by simp) (.bool (decide (zr < 0)))).far (p := ⟨w.heap.size + 3, 1, none⟩) (by simp) (.slice A7 n7 c7)
    have r4 := o3 _ _ _ _ (n3 _ _ _ _ (hI6.ext hx7))
    have r5 := o3 _ _ _ _ (n3 _ _ _ _ hI7)
    have O1 := Lib.hid o1; have O2 := Lib.hid o2; have O4 := Lib.hid o4; have R4 := Lib.hid r4; have R5 := Lib.hid r5
    clear n1 n2 n3 n4' o1 o2 o3 o4 r4 r5
    go_wp2
    rw [← HZQ.out, ← HZR.out]
    exact bp_int3 rfl rfl rfl O4.out rfl O2.out ⟨_, rfl, ⟨_, _, rfl, ⟨_, _, _, rfl, R4.out⟩, ⟨_, _, _, rfl, R5.out⟩⟩, O1.out⟩
  · go_wp2_with fail
    refine (rtrim_any Ar nr cr _ _ hR (by omega)).mono ?_
    rintro e w3b ⟨v3, rfl, ⟨At, nt, ct, rfl, hT⟩, hxt⟩
    rw [val_digs] at hT
    have hnt := digs_some hT.len
    have hQ := hQ.ext hxt
    have hR := hR.ext hxt
    have hx3 := hx3.trans hxt
    clear c0 c1
    have c0 := (boxqa hx3).cell
    have c1 := (boxqb hx3).cell
    by_cases hnt0 : 0 < nt
    · have hx0 : x < 0 := of_decide_eq_true HSX.out
      have hr0 := hnt.1 hnt0
      have hpl := divide_turn (x := x) (y := y) hy0 hx0 hr0
      rw [HSX.out, HSY.out] at hpl
      have HPL := Lib.hid hpl; clear hpl
      have HLE := Lib.hid (divide_le hy0 hx0 hr0)
      have HQL : Hid (∀ z : Int, z = x / y → z.natAbs < lim) := Lib.hid (fun z hz => by rw [hz, HPL.out.1, zOf_abs]; exact Nat.lt_of_le_of_lt HLE.out ax)
      have hmod := Nat.mod_lt x.natAbs (show 0 < y.natAbs by omega)
      have hnrm : nr ≤ m := by
        have h1 := hR.len
        have h2 := digs_len_le (n := x.natAbs % y.natAbs) (k := m) (Nat.lt_trans hmod (lt_of_digs_len (by rw [hy.len]; exact Nat.le_refl _)))
        omega
      have hnr1 : (0 : Int) < (nt : Int) := by omega
      have HMOD := Lib.hid hmod; clear hmod hx0 hr0 hnt
      go_wp2_with fail
      refine (rplus_any Aq _ nq 1 cq 1 _ [1] _ (hQ.ext (Ext.new w3b _)) (RM.blk (Blk.new _ _ _) (Dig.one (by omega)) rfl (by omega)) (by omega) (by omega)).mono ?_
      rintro e w4 ⟨v4, rfl, ⟨lq, ⟨Aq, nq', cq, rfl, hQ⟩, hlv, hll⟩, hx4⟩
      rw [val_digs, show val [1] = 1 from rfl] at hlv
      have hnq' : nq' ≤ 402 := by have := hQ.len; omega
      have HLV := Lib.hid hlv; clear hlv
      have hx34 := (Ext.new w3b _).trans hx4
      have hR4 := hR.ext hx34
      have hx4 := hx3.trans hx34
      clear c0 c1 hR
      have c1 := (boxqb hx4).cell
      go_wp2_with fail
      refine (rminus_any B Ar m nr d cr _ _ _ (hy.ext (boxq hx4)) hR4 (by omega) hnrm (by rw [val_digs, val_digs]; exact Nat.le_of_lt HMOD.out)).mono ?_
      rintro e w5 ⟨v5, rfl, ⟨Ar, nr', cr, rfl, hR⟩, hx5⟩
      rw [val_digs, val_digs] at hR
      have hnr' : nr' ≤ 400 := by have := hR.len; have := len_lim (Nat.lt_of_le_of_lt (Nat.sub_le y.natAbs (x.natAbs % y.natAbs)) ay); omega
      have hQ := hQ.ext hx5
      have hx3 := hx4.trans hx5
      clear c1 hx4 hx34
      have c0 := (boxqa hx3).cell
      have c1 := (boxqb hx3).cell
      obtain ⟨zq, hzq⟩ : ∃ z, z = x / y := ⟨_, rfl⟩
      obtain ⟨zr, hzr⟩ : ∃ z, z = x % y := ⟨_, rfl⟩
      have HZQ := Lib.hid hzq; have HZR := Lib.hid hzr; clear hzq hzr
      have hq1 := HZQ.out.trans HPL.out.1
      simp only [Bool.true_bne] at hq1
      have hr1 : zr = zOf false _ := HZR.out.trans HPL.out.2
      go_wp2_with fail
      refine (rmade_any _ Aq nq' cq _ _ hQ (by omega)).mono ?_
      rintro e w4 ⟨v4, rfl, hI4, hx4⟩
      rw [HLV.out] at hI4
      rw [← hq1] at hI4
      have HR1 := Lib.hid hr1; clear hr1 hq1
      have hqlim : zq.natAbs < lim := HQL.out zq HZQ.out
      have hR4 := hR.ext hx4
      have hx4 := hx3.trans hx4
      clear c0 c1 hQ hR
      go_wp2_with fail
      refine (rresult_any _ zq _ hI4).mono ?_
      rintro e w5 ⟨v5, rfl, hret, hx5⟩
      rw [resS_ok hqlim] at hret
      obtain ⟨u5, rfl, A5, n5, c5, rfl, hI5⟩ := hret
      have hR5 := hR4.ext hx5
      have hx5 := hx4.trans hx5
      clear hI4 hR4
      go_wp2_with fail
      have Y9 := ExtOf.blk (Blk.new w5 30 #[.bool (decide (zq < 0)), .slice A5 n5 c5])
      have hx5b := hx5.trans (Ext.new w5 (.cells #[.bool (decide (zq < 0)), .slice A5 n5 c5] 30))
      have hR6 := hR5.ext (Ext.new w5 (.cells #[.bool (decide (zq < 0)), .slice A5 n5 c5] 30))
      have hI6 := hI5.ext (Ext.new w5 (.cells #[.bool (decide (zq < 0)), .slice A5 n5 c5] 30))
      generalize w5.alloc (.cells #[.bool (decide (zq < 0)), .slice A5 n5 c5] 30) = w6 at *
      refine wp_region_ordE 3 [(true, 0), (true, 1), (false, 2)] (by kernel_rfl) (by kernel_rfl) ?_
      refine wpOrdT_quiet [0, 1] [(false, 2)] _ (by kernel_rfl) ?_
      simp only [nthOps, nthOp, List.cons_append, List.nil_append]
      repeat (go_big_quiet_step (fail))
      refine wpQuiet_nil ?_
      refine wpOrdT_act 2 [] (by kernel_rfl) ?_
      intro K hK
      simp only [nthOp]
      go_wp2_with fail
      refine (rmade_any false Ar nr' cr _ _ (hR6.ext (Ext.refl w6).drew) (by omega)).mono ?_
      rintro e w7 ⟨v7, rfl, ⟨A7, n7, c7, rfl, hI7⟩, hx7⟩
      have hx7 := hx7.undrew
      go_wp2
      refine hK _ _ ⟨⟨w7, hx7⟩, rfl⟩ ?_
      clear hK K
      simp only [wpOrdT, List.drop_succ_cons, List.drop_zero]
      have hx7c := hx5b.trans hx7
      have b4 := boxqc hx7c
      have b5 := boxqd hx7c
      have c4 := b4.cell
      have f4 := b4.frozen
      have c5' := b5.cell
      have f5 := b5.frozen
      obtain ⟨n1, n2, n3⟩ := put2 (boxq hx7c) (by omega) b4 (decide (zq < 0)) A5 n5 c5
      have n4' := (b5.far (p := ⟨w.heap.size + 2, 0, none⟩) (by simp) (.bool (decide (zq < 0)))).far (p := ⟨w.heap.size + 2, 1, none⟩) (by simp) (.slice A5 n5 c5)
      rw [val_digs, ← HR1.out] at hI7
      rw [val_digs, ← HR1.out]
      obtain ⟨o1, o2, o3⟩ := put2 n1 (by omega) n4' (decide (zr < 0)) A7 n7 c7
      have o4 := (n2.far (p := ⟨w.heap.size + 3, 0, none⟩) (by simp) (.bool (decide (zr < 0)))).far (p := ⟨w.heap.size + 3, 1, none⟩) (by simp) (.slice A7 n7 c7)
      have r4 := o3 _ _ _ _ (n3 _ _ _ _ (hI6.ext hx7))
      have r5 := o3 _ _ _ _ (n3 _ _ _ _ hI7)
      have O1 := Lib.hid o1; have O2 := Lib.hid o2; have O4 := Lib.hid o4; have R4 := Lib.hid r4; have R5 := Lib.hid r5
      clear n1 n2 n3 n4' o1 o2 o3 o4 r4 r5
      go_wp2
      rw [← HZQ.out, ← HZR.out]
      exact bp_int3 rfl rfl rfl O4.out rfl O2.out ⟨_, rfl, ⟨_, _, rfl, ⟨_, _, _, rfl, R4.out⟩, ⟨_, _, _, rfl, R5.out⟩⟩, O1.out⟩
    · have hz := hnt
      have hpl := divide_plain (x := x) (y := y) hy0 (fun h => by have := mt hnt.2 hnt0; omega)
      rw [HSX.out, HSY.out] at hpl
      have HPL := Lib.hid hpl; clear hpl
      have HQL : Hid (∀ z : Int, z = x / y → z.natAbs < lim) := Lib.hid (fun z hz => by rw [hz, HPL.out.1, zOf_abs]; exact div_lim ax)
      obtain rfl : nt = 0 := by omega
      clear hnt hnt0
      obtain ⟨zq, hzq⟩ : ∃ z, z = x / y := ⟨_, rfl⟩
      obtain ⟨zr, hzr⟩ : ∃ z, z = x % y := ⟨_, rfl⟩
      have HZQ := Lib.hid hzq; have HZR := Lib.hid hzr; clear hzq hzr
      have hq1 := HZQ.out.trans HPL.out.1
      simp only [Bool.true_bne] at hq1
      have hr1 : zr = zOf false _ := HZR.out.trans HPL.out.2
      go_wp2_with fail
      refine (rmade_any _ Aq nq cq _ _ hQ (by omega)).mono ?_
      rintro e w4 ⟨v4, rfl, hI4, hx4⟩
      rw [val_digs] at hI4
      rw [← hq1] at hI4
      have HR1 := Lib.hid hr1; clear hr1 hq1
      have hqlim : zq.natAbs < lim := HQL.out zq HZQ.out
      have hR4 := hR.ext hx4
      have hx4 := hx3.trans hx4
      clear c0 c1 hQ hR
      go_wp2_with fail
      refine (rresult_any _ zq _ hI4).mono ?_
      rintro e w5 ⟨v5, rfl, hret, hx5⟩
      rw [resS_ok hqlim] at hret
      obtain ⟨u5, rfl, A5, n5, c5, rfl, hI5⟩ := hret
      have hR5 := hR4.ext hx5
      have hx5 := hx4.trans hx5
      clear hI4 hR4
      go_wp2_with fail
      have Y9 := ExtOf.blk (Blk.new w5 30 #[.bool (decide (zq < 0)), .slice A5 n5 c5])
      have hx5b := hx5.trans (Ext.new w5 (.cells #[.bool (decide (zq < 0)), .slice A5 n5 c5] 30))
      have hR6 := hR5.ext (Ext.new w5 (.cells #[.bool (decide (zq < 0)), .slice A5 n5 c5] 30))
      have hI6 := hI5.ext (Ext.new w5 (.cells #[.bool (decide (zq < 0)), .slice A5 n5 c5] 30))
      generalize w5.alloc (.cells #[.bool (decide (zq < 0)), .slice A5 n5 c5] 30) = w6 at *
      refine wp_region_ordE 3 [(true, 0), (true, 1), (false, 2)] (by kernel_rfl) (by kernel_rfl) ?_
      refine wpOrdT_quiet [0, 1] [(false, 2)] _ (by kernel_rfl) ?_
      simp only [nthOps, nthOp, List.cons_append, List.nil_append]
      repeat (go_big_quiet_step (fail))
      refine wpQuiet_nil ?_
      refine wpOrdT_act 2 [] (by kernel_rfl) ?_
      intro K hK
      simp only [nthOp]
      go_wp2_with fail
      refine (rmade_any false Ar nr cr _ _ (hR6.ext (Ext.refl w6).drew) (by omega)).mono ?_
      rintro e w7 ⟨v7, rfl, ⟨A7, n7, c7, rfl, hI7⟩, hx7⟩
      have hx7 := hx7.undrew
      go_wp2
      refine hK _ _ ⟨⟨w7, hx7⟩, rfl⟩ ?_
      clear hK K
      simp only [wpOrdT, List.drop_succ_cons, List.drop_zero]
      have hx7c := hx5b.trans hx7
      have b4 := boxqc hx7c
      have b5 := boxqd hx7c
      have c4 := b4.cell
      have f4 := b4.frozen
      have c5' := b5.cell
      have f5 := b5.frozen
      obtain ⟨n1, n2, n3⟩ := put2 (boxq hx7c) (by omega) b4 (decide (zq < 0)) A5 n5 c5
      have n4' := (b5.far (p := ⟨w.heap.size + 2, 0, none⟩) (by simp) (.bool (decide (zq < 0)))).far (p := ⟨w.heap.size + 2, 1, none⟩) (by simp) (.slice A5 n5 c5)
      rw [val_digs, ← HR1.out] at hI7
      rw [val_digs, ← HR1.out]
      obtain ⟨o1, o2, o3⟩ := put2 n1 (by omega) n4' (decide (zr < 0)) A7 n7 c7
      have o4 := (n2.far (p := ⟨w.heap.size + 3, 0, none⟩) (by simp) (.bool (decide (zr < 0)))).far (p := ⟨w.heap.size + 3, 1, none⟩) (by simp) (.slice A7 n7 c7)
      have r4 := o3 _ _ _ _ (n3 _ _ _ _ (hI6.ext hx7))
      have r5 := o3 _ _ _ _ (n3 _ _ _ _ hI7)
      have O1 := Lib.hid o1; have O2 := Lib.hid o2; have O4 := Lib.hid o4; have R4 := Lib.hid r4; have R5 := Lib.hid r5
      clear n1 n2 n3 n4' o1 o2 o3 o4 r4 r5
      go_wp2
      rw [← HZQ.out, ← HZR.out]
      exact bp_int3 rfl rfl rfl O4.out rfl O2.out ⟨_, rfl, ⟨_, _, rfl, ⟨_, _, _, rfl, R4.out⟩, ⟨_, _, _, rfl, R5.out⟩⟩, O1.out⟩
end Go.Proofs.YtclkkoiaaddllaaGreat

/- Contracts: greatest common divisors. -/
namespace Go.Proofs.YtclkkoiaaddllaaGreat
open Go.RowKit
set_option linter.unusedVariables false

set_option maxRecDepth 100000 in
set_option maxHeartbeats 800000 in
theorem gcdWord_any (a b : Nat) (w : World) (ha : a < 18446744073709551616) (hb : b < 18446744073709551616) :
    Calls Tryz.prog 142 #[.int .u64 (a : Int), .int .u64 (b : Int)] w fun e w' => e = .returned (.int .u64 ((Nat.gcd a b : Nat) : Int)) ∧ Ext w w' := by
  go_enter Tryz.func142, Tryz.ntmps142
  go_wp2_with fail
  go_loopw [0, 1] (fun av bv wr => ∃ p q : Nat, av = .int .u64 (p : Int) ∧ bv = .int .u64 (q : Int) ∧ p < 18446744073709551616 ∧ q < 18446744073709551616 ∧ Nat.gcd p q = Nat.gcd a b ∧ Ext w wr) (fun _ bv _ => (intOf bv).toNat)
  case atStart => exact ⟨a, b, rfl, rfl, ha, hb, rfl, Ext.refl _⟩
  case round =>
    obtain ⟨p, q, rfl, rfl, hp, hq, hg, hex⟩ := hrel
    have HG := Lib.hid hg; clear hg
    by_cases h0 : q = 0
    · subst h0
      go_wp2
      go_ret
      exact ⟨ret_int (by rw [← HG.out, Nat.gcd_zero_right]), hex⟩
    · have hq0 : 0 < q := by omega
      have hm := Nat.mod_lt p hq0
      have e1 : (p : Int) % (q : Int) = ((p % q : Nat) : Int) := by simp
      have HGG := Lib.hid (show Nat.gcd q (p % q) = Nat.gcd a b by rw [← HG.out, Nat.gcd_comm p q, Nat.gcd_rec q p, Nat.gcd_comm])
      have t1 : ((q : Int) != 0) = true := by simp; omega
      have t2 : (q != 0) = true := by simp; omega
      have t3 : (q : Int) ≠ 0 := by omega
      have E1 := Lib.hid e1; clear e1
      generalize hpq : p % q = pq at *
      clear hpq
      go_wp2_with fail
      go_quiet (fail)
      go_wp2_with fail
      go_roundw
      case rel => exact ⟨q, pq, rfl, by rw [E1.out], hq, by omega, HGG.out, hex.drewN _⟩
      case measure => simp only [intOf]; rw [E1.out]; omega

theorem lt_lim_of_le2 {k n : Nat} (h : (digs k).length = n) (hn : n ≤ 2) : k < 18446744073709551616 := lt_of_digs_len (k := 2) (by omega)
theorem val_split2 (g : Nat) : val [g % 4294967296, g / 4294967296] = g := by simp only [val]; omega

set_option maxRecDepth 100000 in
set_option maxHeartbeats 1600000 in
theorem Gcd_ok (v u : Value) (x y : Int) (w : World) (hX : RI w v x) (hY : RI w u y) (ax : x.natAbs < lim) (ay : y.natAbs < lim) :
    Calls Tryz.prog 120 #[v, u] w fun e w' => ∃ v, e = .returned v ∧ RetI ((Nat.gcd x.natAbs y.natAbs : Nat), 0) v w' ∧ Ext w w' := by
  have HV1 := Lib.hid (RI.valid hX ax)
  have HV2 := Lib.hid (RI.valid hY ay)
  obtain ⟨A, n, c, rfl, hx⟩ := hX
  obtain ⟨B, m, d, rfl, hy⟩ := hY
  go_enter Tryz.func120, Tryz.ntmps120
  go_wp2_with fail
  refine (Valid_any _ A n c _ _ (hx.ext (((Ext.new w _).alloc _).alloc _))).mono ?_
  rintro e w1 ⟨rfl, hx1⟩
  rw [HV1.out]
  have c0 := (box3a hx1).cell
  have c1 := (box3b hx1).cell
  go_wp2_with fail
  refine (Valid_any _ B m d _ _ (hy.ext (box3 hx1))).mono ?_
  rintro e w2 ⟨rfl, hx2⟩
  rw [HV2.out]
  clear c0 c1
  have hx2 := hx1.trans hx2
  have c0 := (box3a hx2).cell
  have c1 := (box3b hx2).cell
  go_wp2_with fail
  go_quiet (fail)
  go_wp2_with fail
  clear c0 c1
  go_loopg [6, 7] y.natAbs (fun gk av bv wr => ∃ A n c B m d p, av = .slice A n c ∧ bv = .slice B m d ∧ RM wr A n c (digs p) ∧ RM wr B m d (digs gk) ∧ p < lim ∧ gk < lim ∧ Nat.gcd p gk = Nat.gcd x.natAbs y.natAbs ∧ Ext w2 wr)
  case atStart => exact ⟨A, n, c, B, m, d, x.natAbs, rfl, rfl, hx.ext ((box3 hx2).drewN _), hy.ext ((box3 hx2).drewN _), ax, ay, rfl, (Ext.refl _).drewN _⟩
  case round =>
    clear hx hy
    obtain ⟨A', n', c', B', m', d', p, rfl, rfl, hA, hB, hp, hq, hg, hex⟩ := hrel
    have hlA := hA.len
    have hlB := hB.len
    have hn' : n' ≤ 400 := by have := len_lim hp; omega
    have hm' : m' ≤ 400 := by have := len_lim hq; omega
    have hmq := digs_some hlB
    have HG := Lib.hid hg; have HLA := Lib.hid hlA; have HLB := Lib.hid hlB
    clear hg hlA hlB
    by_cases h0 : 0 < m'
    · have hq0 := hmq.1 h0
      have h0' : (0 : Int) < (m' : Int) := by omega
      by_cases hsm : n' ≤ 2 ∧ m' ≤ 2
      · obtain ⟨hn2, hm2⟩ := hsm
        have hn2' : (n' : Int) ≤ 2 := by omega
        have hm2' : (m' : Int) ≤ 2 := by omega
        have hp64 := lt_lim_of_le2 HLA.out hn2
        have hq64 := lt_lim_of_le2 HLB.out hm2
        go_wp2_with fail
        refine (word_any A' n' c' _ _ hA hn2).mono ?_
        rintro e w4 ⟨rfl, rfl⟩
        rw [val_digs]
        go_wp2_with fail
        refine (word_any B' m' d' _ _ hB hm2).mono ?_
        rintro e w5 ⟨rfl, rfl⟩
        rw [val_digs]
        go_wp2_with fail
        refine (gcdWord_any p gk _ hp64 hq64).mono ?_
        rintro e w6 ⟨rfl, hx6⟩
        rw [HG.out]
        have hx6 := (hx2.trans hex).trans hx6
        obtain ⟨G, hG⟩ : ∃ G, G = Nat.gcd x.natAbs y.natAbs := ⟨_, rfl⟩
        have hGlim : G < lim := by rw [hG, ← HG.out]; exact Nat.lt_of_le_of_lt (Nat.gcd_le_right _ hq0) hq
        have hG64 : G < 18446744073709551616 := by rw [hG, ← HG.out]; exact Nat.lt_of_le_of_lt (Nat.gcd_le_right _ hq0) hq64
        rw [← hG]
        have HGG := Lib.hid hG; clear hG
        have e1 : (G : Int) % 4294967296 = ((G % 4294967296 : Nat) : Int) := by omega
        have e2 : (G : Int) / 4294967296 = ((G / 4294967296 : Nat) : Int) := by omega
        have hd2 : Dig [G % 4294967296, G / 4294967296] := by
          intro z hz; simp at hz; omega
        have hv2 := val_split2 G
        have h2b : G / 4294967296 < 4294967296 := by omega
        generalize G % 4294967296 = g0 at *
        generalize G / 4294967296 = g1 at *
        have HV := Lib.hid hv2; clear hv2
        go_wp2_with fail
        refine (result_any false _ 2 2 [g0, g1] _ (RM.blk (Blk.new _ _ _) hd2 rfl (by omega))).mono ?_
        rintro e w7 ⟨v7, rfl, hret, hx7⟩
        obtain ⟨Z, hZ⟩ : ∃ Z : Int, Z = (G : Int) := ⟨_, rfl⟩
        rw [HV.out, resS_of (z := Z) (hZ.trans (by simp [zOf])) hGlim] at hret
        have HZ := Lib.hid hZ; clear hZ
        obtain ⟨u7, rfl, A2, n2, c2, rfl, hI⟩ := hret
        have hx3 := (hx6.trans (Ext.new w6 _)).trans hx7
        have b4 := box3c hx3
        have c4 := b4.cell
        have f4 := b4.frozen
        obtain ⟨k1, k2, k3⟩ := put2 (box3 hx3) (by omega) b4 (decide (Z < 0)) A2 n2 c2
        have K1 := Lib.hid k1; have K2 := Lib.hid k2; have K3 := Lib.hid (k3 _ _ _ _ hI); clear k1 k2 k3
        go_wp2
        rw [← HGG.out, ← HZ.out]
        exact bp_int2 rfl rfl rfl K2.out ⟨_, rfl, ⟨_, rfl, _, _, _, rfl, K3.out⟩, K1.out⟩
      · have hbr : decide ((n' : Int) ≤ 2) = false ∨ (n' ≤ 2 ∧ decide ((m' : Int) ≤ 2) = false) := by
          by_cases h : n' ≤ 2
          · exact .inr ⟨h, by rw [decide_eq_false_iff_not]; omega⟩
          · exact .inl (by rw [decide_eq_false_iff_not]; omega)
        have HSM := Lib.hid hsm; clear hsm
        have HGG := Lib.hid (show Nat.gcd gk (p % gk) = Nat.gcd x.natAbs y.natAbs by rw [← HG.out, Nat.gcd_comm p gk, Nat.gcd_rec gk p, Nat.gcd_comm])
        have hmod := Nat.mod_lt p hq0
        rcases hbr with hbr | ⟨hn2, hbr⟩
        all_goals
          try have hn2' : (n' : Int) ≤ 2 := by omega
          go_wp2_with fail
          refine (divMag_any A' B' n' m' c' d' p gk _ hA hB hq0 (by omega)).mono ?_
          rintro e w4 ⟨q, r, rfl, ⟨Aq, nq, cq, rfl, hQ⟩, ⟨Ar, nr, cr, rfl, hR⟩, hx4⟩
          have hB4 := hB.ext hx4
          go_wp2_with fail
          go_roundg (p % gk)
          case measure => exact hmod
          case rel => exact ⟨B', m', d', Ar, nr, cr, gk, rfl, rfl, hB4, hR, hq, Nat.lt_trans hmod hq, HGG.out, hex.trans hx4⟩
    · obtain rfl : m' = 0 := by omega
      obtain rfl : gk = 0 := by
        rcases Nat.eq_zero_or_pos gk with h | h
        · exact h
        · exact absurd (hmq.2 h) h0
      have hgp : p = Nat.gcd x.natAbs y.natAbs := by rw [← HG.out, Nat.gcd_zero_right]
      obtain ⟨G, hG⟩ : ∃ G, G = p := ⟨_, rfl⟩
      subst hG
      have HGG := Lib.hid hgp; clear hgp
      have hGlim := hp
      go_wp2_with fail
      refine (clone_any A' n' c' _ _ hA (by omega)).mono ?_
      rintro e w4 ⟨v4, rfl, ⟨A4, n4, c4, rfl, hC⟩, hx4⟩
      go_wp2_with fail
      refine (result_any false A4 n4 c4 _ _ hC).mono ?_
      rintro e w7 ⟨v7, rfl, hret, hx7⟩
      obtain ⟨Z, hZ⟩ : ∃ Z : Int, Z = (G : Int) := ⟨_, rfl⟩
      rw [val_digs, resS_of (z := Z) (hZ.trans (by simp [zOf])) hGlim] at hret
      have HZ := Lib.hid hZ; clear hZ
      obtain ⟨u7, rfl, A2, n2, c2, rfl, hI⟩ := hret
      have hx3 := ((hx2.trans hex).trans hx4).trans hx7
      have b4 := box3c hx3
      have c4 := b4.cell
      have f4 := b4.frozen
      obtain ⟨k1, k2, k3⟩ := put2 (box3 hx3) (by omega) b4 (decide (Z < 0)) A2 n2 c2
      have K1 := Lib.hid k1; have K2 := Lib.hid k2; have K3 := Lib.hid (k3 _ _ _ _ hI); clear k1 k2 k3
      go_wp2
      rw [← HGG.out, ← HZ.out]
      exact bp_int2 rfl rfl rfl K2.out ⟨_, rfl, ⟨_, rfl, _, _, _, rfl, K3.out⟩, K1.out⟩
end Go.Proofs.YtclkkoiaaddllaaGreat

/- Contract: the reference's greatest common divisor of valid integers. -/
namespace Go.Proofs.YtclkkoiaaddllaaGreat
open Go.RowKit
set_option linter.unusedVariables false

set_option maxRecDepth 100000 in
set_option maxHeartbeats 1600000 in
theorem rGcd_ok (v u : Value) (x y : Int) (w : World) (hX : RI w v x) (hY : RI w u y) (ax : x.natAbs < lim) (ay : y.natAbs < lim) :
    Calls Tryz.prog 108 #[v, u] w fun e w' => ∃ v, e = .returned v ∧ RetI ((Nat.gcd x.natAbs y.natAbs : Nat), 0) v w' ∧ Ext w w' := by
  have HV1 := Lib.hid (RI.valid hX ax)
  have HV2 := Lib.hid (RI.valid hY ay)
  obtain ⟨A, n, c, rfl, hx⟩ := hX
  obtain ⟨B, m, d, rfl, hy⟩ := hY
  have hn := hx.le400 ax
  have hm := hy.le400 ay
  go_enter Tryz.func108, Tryz.ntmps108
  go_wp2_with fail
  refine (rValid_any _ A n c _ _ (hx.ext (((Ext.new w _).alloc _).alloc _))).mono ?_
  rintro e w1 ⟨rfl, hx1⟩
  rw [HV1.out]
  have c0 := (box3a hx1).cell
  have c1 := (box3b hx1).cell
  go_wp2_with fail
  refine (rValid_any _ B m d _ _ (hy.ext (box3 hx1))).mono ?_
  rintro e w2 ⟨rfl, hx2⟩
  rw [HV2.out]
  clear c0 c1
  have hx2 := hx1.trans hx2
  have Y0 := ExtOf.blk (box3a hx2)
  have Y1 := ExtOf.blk (box3b hx2)
  go_wp2_with fail
  refine wp_region_ordE 7 [(true,0),(true,1),(true,3),(true,4),(false,2),(false,5),(true,6)] (by kernel_rfl) (by kernel_rfl) ?_
  refine wpOrdT_quiet [0, 1, 3, 4] [(false, 2), (false, 5), (true, 6)] _ (by kernel_rfl) ?_
  simp only [nthOps, nthOp, List.cons_append, List.nil_append]
  repeat (go_big_quiet_step (fail))
  refine wpQuiet_nil ?_
  refine wpOrdT_act 2 [(false, 5), (true, 6)] (by kernel_rfl) ?_
  intro K hK
  simp only [nthOp]
  go_wp2_with fail
  refine (rtrim_any A n c _ _ ((hx.ext (box3 hx2)).ext (Ext.refl _).drew) (by omega)).mono ?_
  rintro e w3 ⟨v3, rfl, ⟨A3, n3, c3, rfl, hA⟩, hxw3⟩
  have hxw3 := Ext.undrew hxw3
  go_wp2
  refine hK _ _ ⟨⟨w3, hxw3⟩, rfl⟩ ?_
  clear hK K
  rw [val_digs] at hA
  refine wpOrdT_act 5 [(true, 6)] (by kernel_rfl) ?_
  intro K hK
  simp only [nthOp]
  go_wp2_with fail
  refine (rtrim_any B m d _ _ ((hy.ext (box3 hx2)).ext hxw3) (by omega)).mono ?_
  rintro e w4 ⟨v4, rfl, ⟨A4, n4, c4, rfl, hB⟩, hxw4⟩
  have hxw4 := hxw3.trans hxw4
  go_wp2
  refine hK _ _ ⟨⟨w4, hxw4⟩, rfl⟩ ?_
  clear hK K
  rw [val_digs] at hB
  have hA := hA.ext (by assumption : Ext w3 w4)
  refine wpOrdT_quiet [6] [] _ (by kernel_rfl) ?_
  simp only [nthOps, nthOp, List.cons_append, List.nil_append]
  repeat (go_big_quiet_step (fail))
  refine wpQuiet_nil ?_
  simp only [wpOrdT, List.drop_succ_cons, List.drop_zero]
  go_wp2_with fail
  clear Y0 Y1 hx hy
  have hx4 := hx2.trans hxw4
  clear hx2 hxw3 hxw4 hx1
  go_loopg [6, 7] y.natAbs (fun gk av bv wr => ∃ A n c B m d p, av = .slice A n c ∧ bv = .slice B m d ∧ RM wr A n c (digs p) ∧ RM wr B m d (digs gk) ∧ p < lim ∧ gk < lim ∧ Nat.gcd p gk = Nat.gcd x.natAbs y.natAbs ∧ Ext w4 wr)
  case atStart => exact ⟨_, _, _, _, _, _, x.natAbs, rfl, rfl, hA, hB, ax, ay, rfl, Ext.refl _⟩
  case round =>
    clear hA hB
    obtain ⟨A', n', c', B', m', d', p, rfl, rfl, hA, hB, hp, hq, hg, hex⟩ := hrel
    have hlA := hA.len
    have hlB := hB.len
    have hn' : n' ≤ 400 := by have := len_lim hp; omega
    have hm' : m' ≤ 400 := by have := len_lim hq; omega
    have hmq := digs_some hlB
    have HG := Lib.hid hg
    clear hg hlA hlB
    by_cases h0 : 0 < m'
    · have hq0 := hmq.1 h0
      have h0' : (0 : Int) < (m' : Int) := by omega
      have HGG := Lib.hid (show Nat.gcd gk (p % gk) = Nat.gcd x.natAbs y.natAbs by rw [← HG.out, Nat.gcd_comm p gk, Nat.gcd_rec gk p, Nat.gcd_comm])
      have hmod := Nat.mod_lt p hq0
      go_wp2_with fail
      refine (rdivide_any A' B' n' m' c' d' p gk _ hA hB hq0 (by omega)).mono ?_
      rintro e w5 ⟨q, r, rfl, ⟨Aq, nq, cq, rfl, hQ⟩, ⟨Ar, nr, cr, rfl, hR⟩, hx5⟩
      have hB5 := hB.ext hx5
      have hnr : nr ≤ 400 := by have := hR.len; have := len_lim (Nat.lt_trans hmod hq); omega
      go_wp2_with fail
      refine (rtrim_any Ar nr cr _ _ hR (by omega)).mono ?_
      rintro e w6 ⟨v6, rfl, ⟨A6, n6, c6, rfl, hT⟩, hx6⟩
      rw [val_digs] at hT
      have hB6 := hB5.ext hx6
      go_wp2_with fail
      go_roundg (p % gk)
      case measure => exact hmod
      case rel => exact ⟨_, _, _, _, _, _, gk, rfl, rfl, hB6, hT, hq, Nat.lt_trans hmod hq, HGG.out, hex.trans (hx5.trans hx6)⟩
    · obtain rfl : m' = 0 := by omega
      obtain rfl : gk = 0 := by
        rcases Nat.eq_zero_or_pos gk with h | h
        · exact h
        · exact absurd (hmq.2 h) h0
      have hgp : p = Nat.gcd x.natAbs y.natAbs := by rw [← HG.out, Nat.gcd_zero_right]
      have HGG := Lib.hid hgp; clear hgp
      go_wp2_with fail
      refine (rmade_any false A' n' c' _ _ hA (by omega)).mono ?_
      rintro e w8 ⟨v8, rfl, hI8, hx8⟩
      obtain ⟨Z, hZ⟩ : ∃ Z : Int, Z = (p : Int) := ⟨_, rfl⟩
      rw [val_digs, zOf_pos, ← hZ] at hI8
      have HZ := Lib.hid hZ; clear hZ
      obtain ⟨A2, n2, c2, rfl, hI⟩ := hI8
      have hx9 := hx4.trans (hex.trans hx8)
      have b4 := box3c hx9
      have c4 := b4.cell
      have f4 := b4.frozen
      obtain ⟨k1, k2, k3⟩ := put2 (box3 hx9) (by omega) b4 (decide (Z < 0)) A2 n2 c2
      have K1 := Lib.hid k1; have K2 := Lib.hid k2; have K3 := Lib.hid (k3 _ _ _ _ hI); clear k1 k2 k3
      go_wp2
      rw [← HGG.out, ← HZ.out]
      exact bp_int2 rfl rfl rfl K2.out ⟨_, rfl, ⟨_, rfl, _, _, _, rfl, K3.out⟩, K1.out⟩
end Go.Proofs.YtclkkoiaaddllaaGreat
