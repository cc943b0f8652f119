/- Contract: extend: decimal digits put behind a number. -/
import Derived.Test.YtfdpbcjcinchgaaDoorPb
namespace Go.Proofs.YtfdpbcjcinchgaaDoor
open Go.RowKit
set_option linter.unusedVariables false

def dv (b : UInt8) : Nat := b.toNat - 48
/-- The number of a list of decimal digits. -/
def decV : List UInt8 → Nat → Nat
  | [], a => a
  | b :: l, a => decV l (a * 10 + dv b)
theorem decV_append : ∀ (l m : List UInt8) (a : Nat), decV (l ++ m) a = decV m (decV l a)
  | [], m, a => rfl
  | b :: l, m, a => by rw [List.cons_append, decV, decV, decV_append l m]
theorem decV_snoc (l : List UInt8) (b : UInt8) (a : Nat) : decV (l ++ [b]) a = decV l a * 10 + dv b := by rw [decV_append]; rfl
theorem decV_acc : ∀ (l : List UInt8) (a : Nat), decV l a = a * 10 ^ l.length + decV l 0
  | [], a => by simp [decV]
  | b :: l, a => by
    rw [decV, decV, decV_acc l (a * 10 + dv b), decV_acc l (0 * 10 + dv b), List.length_cons, Nat.pow_succ, Nat.add_mul, Nat.mul_assoc, Nat.mul_comm 10 (10 ^ l.length)]
    simp only [Nat.zero_mul, Nat.zero_add]
    omega
theorem dv_le {b : UInt8} (h : isD b = true) : dv b ≤ 9 := by
  unfold isD at h
  simp at h
  unfold dv
  omega
theorem decV_lt : ∀ (l : List UInt8), l.all isD = true → decV l 0 < 10 ^ l.length
  | [], _ => by simp [decV]
  | b :: l, h => by
    rw [List.all_cons, Bool.and_eq_true] at h
    have h1 := decV_lt l h.2
    have h2 := dv_le h.1
    rw [decV, decV_acc, List.length_cons, Nat.pow_succ]
    have h3 : (0 * 10 + dv b) * 10 ^ l.length ≤ 9 * 10 ^ l.length := Nat.mul_le_mul_right _ (by omega)
    omega

/-- A row of digits as it is multiplied by 10^9: the digits that are done, those that are not. -/
theorem ext_step {p q : List Nat} {k x c c0 : Nat} (hx : p[k]? = some x) (hq : q.length = k) (h : val q + 4294967296 ^ k * c = val (p.take k) * 1000000000 + c0) :
    val (q ++ [(x * 1000000000 + c) % 4294967296]) + 4294967296 ^ (k + 1) * ((x * 1000000000 + c) / 4294967296) = val (p.take (k + 1)) * 1000000000 + c0 := by
  rw [val_snoc, hq, val_take_succ hx, Nat.pow_succ, Nat.add_mul]
  have e : x * 1000000000 + c = 4294967296 * ((x * 1000000000 + c) / 4294967296) + (x * 1000000000 + c) % 4294967296 := (Nat.div_add_mod _ _).symm
  generalize (x * 1000000000 + c) / 4294967296 = d at *
  generalize (x * 1000000000 + c) % 4294967296 = m at *
  have e2 : 4294967296 ^ k * (x * 1000000000 + c) = 4294967296 ^ k * (4294967296 * d + m) := by rw [← e]
  rw [Nat.mul_add, Nat.mul_add, ← Nat.mul_assoc, ← Nat.mul_assoc] at e2
  rw [Nat.mul_assoc (4294967296 ^ k) 4294967296 d] at e2 ⊢
  rw [Nat.mul_assoc (4294967296 ^ k) x 1000000000] at e2 ⊢
  omega

theorem rowx_own {w : World} {base n : Nat} {v : Value} {p : List Nat} (h : w.ownsRow base 34 1 v n (mg p)) (hd : Dig p) : (v = .slice none 0 0 ∧ n = 0 ∧ p = []) ∨ ∃ g cap r, v = .slice (some ⟨g, 0, none⟩) n cap ∧ base ≤ g ∧ RowX w g p r ∧ n ≤ cap ∧ cap ≤ maxLen ∧ (mg p ++ r).length = cap := by
  rcases h.2 with ⟨h1, h2⟩ | ⟨g, cap, cur, h1, h2, h3, h4, h5, h6, h7⟩
  · refine .inl ⟨h1, h2, ?_⟩
    have := h.1
    rw [mg_len, h2] at this
    exact List.eq_nil_of_length_eq_zero (by omega)
  · have e : mg p ++ cur.toList.drop n = cur.toList := by rw [← h7, Nat.mul_one, List.take_append_drop]
    refine .inr ⟨g, cap, cur.toList.drop n, h1, h2, ⟨?_, hd⟩, h4, h5, ?_⟩
    · rw [e]; exact h3
    · rw [e, Array.length_toList, h6, Nat.mul_one]
theorem own_rowx {w : World} {base g n cap : Nat} {q : List Nat} {r : List Value} (h : RowX w g q r) (hg : base ≤ g) (hn : q.length = n) (hc : n ≤ cap) (hm : cap ≤ maxLen) (hl : (mg q ++ r).length = cap) : w.ownsRow base 34 1 (.slice (some ⟨g, 0, none⟩) n cap) n (mg q) := by
  refine ⟨by rw [mg_len]; omega, .inr ⟨g, cap, _, rfl, hg, h.1, hc, hm, by simp at hl ⊢; omega, ?_⟩⟩
  simp only [Nat.mul_one]
  rw [List.take_append_of_le_length (by rw [mg_len]; omega), List.take_of_length_le (by rw [mg_len]; omega)]
theorem ext_list_set {p q : List Nat} {k d : Nat} (hq : q.length = k) (hk : k < p.length) : (q ++ p.drop k).set k d = (q ++ [d]) ++ p.drop (k + 1) := by
  rw [List.set_append_right _ _ (by omega), hq, Nat.sub_self, List.drop_eq_getElem_cons hk, List.set_cons_zero, List.append_assoc]
  rfl

set_option maxRecDepth 100000 in
set_option maxHeartbeats 3200000 in
theorem extend_any (v : Value) (n : Nat) (p : List Nat) (s : ByteArray) (l : List UInt8) (w0 w : World) (hE : Ext w0 w) (hown : w.ownsRow w0.heap.size 34 1 v n (mg p)) (hp : Dig p) (hnn : n ≤ 10000) (hl : s.data.toList = l) (hd : l.all isD = true) (h9 : l.length ≤ 9) :
    Calls Tryd.prog 79 #[v, .string s] w fun e w' => ∃ u q, e = .returned u ∧ w'.ownsRow w0.heap.size 34 1 u q.length (mg q) ∧ Dig q ∧ val q = val p * 1000000000 + decV l 0 ∧ q.length ≤ n + 1 ∧ Ext w0 w' := by
  have hsz : s.size = l.length := by rw [Lib.size_eq, hl]
  have HL := Lib.hid hl; have HD := Lib.hid hd; have HSZ := Lib.hid hsz
  have hs9 : s.size ≤ 9 := by omega
  clear hl hd hsz h9
  go_enter Tryd.func79, Tryd.ntmps79
  go_wp2_with fail
  go_loop [5, 11] (fun c i => ∃ k cc : Nat, k ≤ s.size ∧ i = .int .i64 (k : Int) ∧ c = .int .u64 (cc : Int) ∧ cc = decV (l.take k) 0 ∧ cc < 10 ^ k) (fun _ i => s.size - (intOf i).toNat)
  case atStart => exact ⟨0, 0, by omega, rfl, rfl, rfl, by decide⟩
  case round =>
    obtain ⟨k, cc, hk, rfl, rfl, hcc, hc10⟩ := hrel
    have HCC := Lib.hid hcc; clear hcc
    have hc9 : cc < 1000000000 := Nat.lt_of_lt_of_le hc10 (show 10 ^ k ≤ 10 ^ 9 from Nat.pow_le_pow_right (by decide) (by omega))
    have HC10 := Lib.hid hc10; clear hc10
    by_cases hlt : k < s.size
    · have hbk := List.getElem?_eq_getElem (l := l) (i := k) (by rw [← HSZ.out]; exact hlt)
      obtain ⟨bb, hbb⟩ : ∃ b, l[k]? = some b := ⟨_, hbk⟩
      clear hbk
      have hxk := get_at HL.out hbb hlt
      have hdb : isD bb = true := List.all_eq_true.1 HD.out bb (List.mem_of_getElem? hbb)
      have hdv := dv_le hdb
      have hnk0 : dv bb = bb.toNat - 48 := rfl
      have h48 : 48 ≤ bb.toNat := by unfold isD at hdb; simp at hdb; exact hdb.1
      generalize hnk : bb.toNat = nk at *
      have HBB := Lib.hid hbb; have HNK := Lib.hid hnk0; clear hbb hnk hnk0 hdb
      have hn57 : nk ≤ 57 := by have := HNK.out; omega
      have hnx : cc * 10 + dv bb < 10 ^ (k + 1) := by rw [Nat.pow_succ]; have := HC10.out; omega
      have HNX := Lib.hid hnx; clear hnx hdv
      go_wp2_with fail
      go_round
      case rel =>
        refine ⟨k + 1, cc * 10 + dv bb, by omega, by go_num, ?_, ?_, HNX.out⟩
        · have := HNK.out
          go_num
        · rw [List.take_add_one, HBB.out, Option.toList_some, decV_snoc, ← HCC.out]
      case measure => simp [intOf] <;> omega
    · have hke : k = s.size := by omega
      subst hke
      have hval : cc = decV l 0 := by rw [HCC.out, List.take_of_length_le (by rw [← HSZ.out]; exact Nat.le_refl _)]
      have HVAL := Lib.hid hval; clear hval
      have hp0 := hown.1
      rcases rowx_own hown hp with ⟨rfl, rfl, rfl⟩ | ⟨g, cap, r, rfl, hg, hrow, hncap, hcm, hrl⟩
      · go_wp2_with fail
        go_loopw [5, 25] (fun c i wr => i = .int .i64 0 ∧ c = .int .u64 (cc : Int) ∧ w = wr) (fun _ i _ => 0)
        case atStart => exact ⟨rfl, rfl, rfl⟩
        case round =>
          obtain ⟨rfl, rfl, rfl⟩ := hrel
          by_cases hc0 : 0 < cc
          · have t1 : decide ((0 : Int) < (cc : Int)) = true := by simp; omega
            have t2 : (0 : Int) < (cc : Int) := by omega
            go_wp2_with (at_builtin; refine wpList_app elem_u32 rfl (.tmp 46) (.tmp 49) rfl w0.heap.size _ 0 [] (by rfl) (World.ownsRow_nil _ _ _ _) w.heap.size 1 1 [.int .u32 (cc : Int)] (by rfl) (Blk.new _ _ _) rfl (by simp [Value.oneCell']) (by omega) (by omega) (by omega) (by have := hE.size; simp; omega) ?_)
            intro g4 cap4 w4 ho4 hg4 _ _
            have hex4 := own_grown hg4 (hE.alloc _) (by simp [Value.ownBlock])
            have HO4 := Lib.hid ho4; clear ho4 hg4
            go_wp2
            go_ret
            exact ⟨_, [cc], rfl, by simpa [mg] using HO4.out, Dig.one (by omega), by rw [← HVAL.out]; simp [val], by simp, hex4⟩
          · have hc1 : cc = 0 := by omega
            subst hc1
            go_wp2
            go_ret
            exact ⟨_, [], rfl, World.ownsRow_nil _ _ _ _, Dig.nil, by rw [← HVAL.out]; simp [val], by simp, hE⟩
      · have hpl : p.length = n := by rw [mg_len] at hp0; omega
        have HPL := Lib.hid hpl; have HRL := Lib.hid hrl; clear hpl hp0 hown hrl
        go_wp2_with fail
        go_loopw [5, 25] (fun c i wr => ∃ (k c1 : Nat) (q : List Nat), k ≤ n ∧ i = .int .i64 (k : Int) ∧ c = .int .u64 (c1 : Int) ∧ c1 < 1000000000 ∧ q.length = k ∧ Dig q ∧ val q + 4294967296 ^ k * c1 = val (p.take k) * 1000000000 + cc ∧ RowX wr g (q ++ p.drop k) r ∧ Ext w0 wr) (fun _ i _ => n - (intOf i).toNat)
        case atStart => exact ⟨0, cc, [], by omega, rfl, rfl, hc9, rfl, Dig.nil, by simp [val], by simpa using hrow, hE⟩
        case round =>
          clear hrow hE
          obtain ⟨k, c1, q, hk, rfl, rfl, hc1, hql, hqd, hqv, hrow, hE⟩ := hrel
          have HQL := Lib.hid hql; have HQV := Lib.hid hqv; clear hql hqv
          by_cases hkn : k < n
          · have hkl : k < (q ++ p.drop k).length := by rw [List.length_append, HQL.out, List.length_drop, HPL.out]; omega
            obtain ⟨x, hx, hx32, hcx, hfx⟩ := hrow.at_ hkl
            have hpx : p[k]? = some x := by
              rw [List.getElem?_append_right (by rw [HQL.out]; exact Nat.le_refl _), HQL.out, Nat.sub_self, List.getElem?_drop] at hx
              simpa using hx
            have HPX := Lib.hid hpx; clear hx hpx
            obtain ⟨ww, hww⟩ : ∃ ww, ww = x * 1000000000 + c1 := ⟨_, rfl⟩
            have ew : (x : Int) * 1000000000 + (c1 : Int) = (ww : Int) := by omega
            have hwb : ww < 4294967296 * 1000000000 := by omega
            have hd32 : ww / 4294967296 < 1000000000 := by omega
            have HWW := Lib.hid hww; clear hww
            have hset := hrow.set (d := ww % 4294967296) (z := ((ww % 4294967296 : Nat) : Int)) hkl rfl (by omega)
            rw [ext_list_set HQL.out (by rw [HPL.out]; exact hkn)] at hset
            have hdq : Dig (q ++ [ww % 4294967296]) := hqd.append (Dig.one (by omega))
            have HSET := Lib.hid hset; clear hset hkl
            have eM : (ww : Int) % 4294967296 = ((ww % 4294967296 : Nat) : Int) := by omega
            have eD : Hid ((ww : Int) / 4294967296 = ((ww / 4294967296 : Nat) : Int)) := Lib.hid (by omega)
            have hstep := ext_step (c0 := cc) HPX.out HQL.out HQV.out
            rw [← HWW.out] at hstep
            have HSTEP := Lib.hid hstep; have EM := Lib.hid eM; clear hstep eM
            go_wp2_with fail
            go_roundw
            case rel => exact ⟨k + 1, ww / 4294967296, q ++ [ww % 4294967296], by omega, by go_num, by rw [eD.out], hd32, by rw [List.length_append, HQL.out]; rfl, hdq, HSTEP.out, by rw [EM.out]; exact HSET.out, hE.setCell (p := ⟨g, k, none⟩) hg _⟩
            case measure => simp [intOf] <;> omega
          · have hke2 : k = n := by omega
            subst hke2
            have hrow2 : RowX wr g q r := by
              have := hrow
              rwa [List.drop_eq_nil_of_le (by rw [HPL.out]; exact Nat.le_refl _), List.append_nil] at this
            have hqv2 : val q + 4294967296 ^ k * c1 = val p * 1000000000 + cc := by
              have := HQV.out
              rwa [List.take_of_length_le (by rw [HPL.out]; exact Nat.le_refl _)] at this
            have hown2 := own_rowx hrow2 hg HQL.out hncap hcm (by
              have := HRL.out
              rw [List.length_append, mg_len, HPL.out] at this
              rw [List.length_append, mg_len, HQL.out]
              exact this)
            have HQ2 := Lib.hid hqv2; clear hrow hqv2
            by_cases hc0 : 0 < c1
            · have t1 : decide ((0 : Int) < (c1 : Int)) = true := by simp; omega
              have t2 : (0 : Int) < (c1 : Int) := by omega
              go_wp2_with (at_builtin; refine wpList_app elem_u32 rfl (.tmp 46) (.tmp 49) rfl w0.heap.size _ k (mg q) (by rfl) (hown2.alloc _) wr.heap.size 1 1 [.int .u32 (c1 : Int)] (by rfl) (Blk.new _ _ _) rfl (by simp [Value.oneCell']) (by omega) (by omega) (by omega) (by have := hE.size; simp; omega) ?_)
              intro g4 cap4 w4 ho4 hg4 _ _
              have hex4 := own_grown hg4 (hE.alloc _) (fun g h => (hown2.lt g h).1)
              have HO4 := Lib.hid ho4; clear ho4 hg4
              go_wp2
              go_ret
              refine ⟨_, q ++ [c1], rfl, ?_, hqd.append (Dig.one (by omega)), ?_, by rw [List.length_append, HQL.out]; exact Nat.le_refl _, hex4⟩
              · rw [List.length_append, HQL.out]
                simpa [mg] using HO4.out
              · rw [val_snoc, HQL.out, HQ2.out, HVAL.out]
            · have hc2 : c1 = 0 := by omega
              subst hc2
              go_wp2
              go_ret
              refine ⟨_, q, rfl, by rw [HQL.out]; exact hown2, hqd, ?_, by rw [HQL.out]; omega, hE⟩
              have := HQ2.out
              rw [← HVAL.out]
              simpa using this
end Go.Proofs.YtfdpbcjcinchgaaDoor
