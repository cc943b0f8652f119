/- The plain law of StreamDelivers: what is picked out of the frames that were sent. -/
import Derived.Test.YtmlcmnbjioabiaaSp
namespace Go.Proofs.Ytmlcmnbjioabiaa
set_option linter.unusedVariables false
open Go.RowKit

/-- A frame that pick passes over. -/
def Off (unit first : Int) (f : Fr) : Prop := f.unit ≠ unit ∨ btw (f.count - first) 0 11 = false
theorem btw_t {x lo hi : Int} (h1 : lo ≤ x) (h2 : x ≤ hi) : btw x lo hi = true := btw_iff.2 ⟨h1, h2⟩
theorem btw_f {x lo hi : Int} (h : ¬ (lo ≤ x ∧ x ≤ hi)) : btw x lo hi = false := by
  cases hb : btw x lo hi with
  | false => rfl
  | true => exact absurd (btw_iff.1 hb) h
theorem count_in {step : Int} (h : btw step 0 1099511627776 = true) {k : Nat} (hk : k < 12) : countF step k - countF step 0 = k := by
  unfold countF
  rw [h, btw_t (x := (k : Int)) (lo := 0) (hi := 11) (by omega) (by omega), btw_t (x := 0) (lo := 0) (hi := 11) (by omega) (by omega)]
  simp only [Bool.not_true, Bool.or_self, Bool.false_eq_true, if_false]
  omega
theorem count_out {step o : Int} (h0 : 0 ≤ step) (h : btw step 0 1099511627776 = true) (h1 : 0 ≤ o) (h2 : o ≤ 48) (h' : btw (step + 1 + o) 0 1099511627776 = true) {k : Nat} (hk : k < 12) : btw (countF (step + 1 + o) k - countF step 0) 0 11 = false := by
  apply btw_f
  unfold countF
  rw [h, h', btw_t (x := (k : Int)) (lo := 0) (hi := 11) (by omega) (by omega), btw_t (x := 0) (lo := 0) (hi := 11) (by omega) (by omega)]
  simp only [Bool.not_true, Bool.or_self, Bool.false_eq_true, if_false]
  omega

section
variable (unit step : Int) (ch : List (List Int))
/-- What the row of twelve holds once the frames that P names have come. -/
def Inv12 (st : (Nat → Fr) × Bool) (P : Nat → Prop) : Prop := st.2 = false ∧ ∀ k, k < 12 → (P k → st.1 k = splitFr unit step true ch k) ∧ (¬ P k → st.1 k = zeroFr)
theorem split_inj (h : btw step 0 1099511627776 = true) {j k : Nat} (hj : j < 12) (hk : k < 12) (e : splitFr unit step true ch k = splitFr unit step true ch j) : k = j := by
  have h1 := count_in h hj
  have h2 := count_in h hk
  have h3 : countF step k = countF step j := congrArg Fr.count e
  omega
theorem inv12_step (h : btw step 0 1099511627776 = true) (h0 : 0 < ch.length) {st : (Nat → Fr) × Bool} {P : Nat → Prop} (hi : Inv12 unit step ch st P) {f : Fr} (hf : Off unit (countF step 0) f ∨ ∃ k, k < 12 ∧ f = splitFr unit step true ch k) :
    Inv12 unit step ch (pickStep unit (countF step 0) st f) (fun k => P k ∨ splitFr unit step true ch k = f) := by
  rcases hf with hf | ⟨j, hj, rfl⟩
  · have : pickStep unit (countF step 0) st f = st := by unfold pickStep; exact if_pos hf
    rw [this]
    refine ⟨hi.1, fun k hk => ?_⟩
    have hne : splitFr unit step true ch k ≠ f := by
      rintro rfl
      rcases hf with hf | hf
      · exact hf rfl
      · have hc := count_in h hk
        have : (splitFr unit step true ch k).count = countF step k := rfl
        rw [this, hc, btw_t (by omega) (by omega)] at hf
        cases hf
    exact ⟨fun hp => (hi.2 k hk).1 (hp.resolve_right hne), fun hp => (hi.2 k hk).2 (fun h => hp (.inl h))⟩
  · have hc := count_in h hj
    have e1 : ((splitFr unit step true ch j).count - countF step 0) = (j : Int) := hc
    have hoff : ¬ ((splitFr unit step true ch j).unit ≠ unit ∨ btw ((splitFr unit step true ch j).count - countF step 0) 0 11 = false) := by
      rw [e1, btw_t (by omega) (by omega)]
      rintro (h | h)
      · exact h rfl
      · cases h
    unfold pickStep
    rw [if_neg hoff, e1, Int.toNat_natCast]
    by_cases hp : P j
    · have hg := (hi.2 j hj).1 hp
      have hlen : (st.1 j).S.length ≠ 0 := by rw [hg]; simp only [splitFr, splitRow, List.length_map]; omega
      rw [if_neg hlen]
      refine ⟨by show (st.2 || !sameF (st.1 j) (splitFr unit step true ch j)) = false; rw [hi.1, hg, sameF_self]; rfl, fun k hk => ?_⟩
      refine ⟨fun hq => ?_, fun hq => (hi.2 k hk).2 (fun h => hq (.inl h))⟩
      rcases hq with hq | hq
      · exact (hi.2 k hk).1 hq
      · obtain rfl := split_inj unit step ch h hj hk hq
        exact hg
    · have hg := (hi.2 j hj).2 hp
      have hlen : (st.1 j).S.length = 0 := by rw [hg]; rfl
      rw [if_pos hlen]
      refine ⟨hi.1, fun k hk => ?_⟩
      show (_ → putF st.1 j _ k = _) ∧ (_ → putF st.1 j _ k = _)
      by_cases hkj : k = j
      · subst hkj
        exact ⟨fun _ => by simp [putF], fun hq => absurd (.inr rfl) hq⟩
      · have : ∀ f, putF st.1 j f k = st.1 k := fun f => by simp [putF, hkj]
        rw [this]
        refine ⟨fun hq => ?_, fun hq => (hi.2 k hk).2 (fun h => hq (.inl h))⟩
        rcases hq with hq | hq
        · exact (hi.2 k hk).1 hq
        · exact absurd (split_inj unit step ch h hj hk hq) hkj
theorem Inv12.iff {st : (Nat → Fr) × Bool} {P Q : Nat → Prop} (h : Inv12 unit step ch st P) (e : ∀ k, k < 12 → (P k ↔ Q k)) : Inv12 unit step ch st Q :=
  ⟨h.1, fun k hk => ⟨fun hq => (h.2 k hk).1 ((e k hk).2 hq), fun hq => (h.2 k hk).2 (fun hp => hq ((e k hk).1 hp))⟩⟩
theorem inv12_all (h : btw step 0 1099511627776 = true) (h0 : 0 < ch.length) : ∀ (fs : List Fr) (st : (Nat → Fr) × Bool) (P : Nat → Prop), Inv12 unit step ch st P → (∀ f ∈ fs, Off unit (countF step 0) f ∨ ∃ k, k < 12 ∧ f = splitFr unit step true ch k) →
    Inv12 unit step ch (fs.foldl (pickStep unit (countF step 0)) st) (fun k => P k ∨ splitFr unit step true ch k ∈ fs)
  | [], st, P, hi, _ => hi.iff _ _ _ fun k _ => by simp
  | f :: fs, st, P, hi, hf => by
    have h1 := inv12_step unit step ch h h0 hi (hf f (by simp))
    have h2 := inv12_all h h0 fs _ _ h1 (fun x hx => hf x (List.mem_cons_of_mem _ hx))
    exact h2.iff _ _ _ fun k _ => by rw [List.mem_cons]; exact or_assoc
theorem pick_inv (h : btw step 0 1099511627776 = true) (h0 : 0 < ch.length) (fs : List Fr) (hf : ∀ f ∈ fs, Off unit (countF step 0) f ∨ ∃ k, k < 12 ∧ f = splitFr unit step true ch k) :
    Inv12 unit step ch (pickAll unit (countF step 0) fs) (fun k => splitFr unit step true ch k ∈ fs) := by
  have := inv12_all unit step ch h h0 fs (fun _ => zeroFr, false) (fun _ => False) ⟨rfl, fun k _ => ⟨fun h => h.elim, fun _ => rfl⟩⟩ hf
  exact this.iff _ _ _ fun k _ => by simp
end

theorem chan_len (sm : Nat → Nat → Int) : (chan sm).length = 3 := by simp [chan]
theorem chan_rows (sm : Nat → Nat → Int) : ∀ r ∈ chan sm, r.length = 12 := by
  intro r hr
  obtain ⟨i, _, rfl⟩ := List.mem_map.1 hr
  simp [chanRow]
theorem splitRow_chan (sm : Nat → Nat → Int) (k : Nat) (hk : k < 12) : splitRow (chan sm) k = [chanAt sm 0 k, chanAt sm 1 k, chanAt sm 2 k] := by
  have h : ∀ i, (chanRow sm i).getD k 0 = chanAt sm i k := fun i => by simp [chanRow, List.getD_eq_getElem?_getD, hk]
  show [(chanRow sm 0).getD k 0, (chanRow sm 1).getD k 0, (chanRow sm 2).getD k 0] = _
  rw [h, h, h]
theorem chanAt_bd (sm : Nat → Nat → Int) (i k : Nat) : btw (chanAt sm i k) (-16383) 16383 = true := by
  unfold chanAt
  exact btw_t (by omega) (by omega)
theorem split_check (unit step : Int) (sm : Nat → Nat → Int) (hu : btw unit 0 999 = true) (k : Nat) (hk : k < 12) (sy : Bool) : checkF (splitFr unit step sy (chan sm) k) = 0 := by
  unfold checkF splitFr
  have hc := countF_bd step k
  have e : ∀ a b c : Int, btw ((([a, b, c] : List Int).length : Nat) : Int) 1 8 = true := fun _ _ _ => rfl
  simp only [splitRow_chan sm k hk, chan_len, hu, btw_t hc.1 hc.2, e]
  simp [checkList, List.replicate, chanAt_bd]
  decide
theorem split_good (unit step : Int) (sm : Nat → Nat → Int) (k : Nat) (hk : k < 12) : goodF (splitFr unit step true (chan sm) k) = true ∧ (splitFr unit step true (chan sm) k).S.length = 3 := by
  refine ⟨?_, by simp [splitFr, splitRow, chan_len]⟩
  simp [splitFr, goodF, chan_len]
theorem splitErr_ok (unit step : Int) (sm : Nat → Nat → Int) (hu : btw unit 0 999 = true) (sy : Bool) : ∀ f k, k + f ≤ 12 → splitErr unit step sy (chan sm) f k = 0
  | 0, _, _ => rfl
  | f + 1, k, h => by
    rw [splitErr, if_pos (split_check unit step sm hu k (by omega) sy)]
    exact splitErr_ok unit step sm hu sy f (k + 1) (by omega)
theorem splitFs_mem {unit step : Int} {sy : Bool} {ch : List (List Int)} {f : Fr} (h : f ∈ splitFs unit step sy ch) : btw step 0 1099511627776 = true ∧ ∃ k, k < 12 ∧ f = splitFr unit step sy ch k := by
  unfold splitFs at h
  split at h
  · rename_i he
    refine ⟨?_, ?_⟩
    · unfold splitE at he
      cases hb : btw step 0 1099511627776 with
      | true => rfl
      | false => rw [hb] at he; simp at he
    · unfold splitL at h
      obtain ⟨k, hk, rfl⟩ := List.mem_map.1 h
      exact ⟨k, List.mem_range.1 hk, rfl⟩
  · simp at h
theorem colRows_chan {g : Nat → Fr} {unit step : Int} {sm : Nat → Nat → Int} (h : ∀ k, k < 12 → g k = splitFr unit step true (chan sm) k) : colRows g = chan sm := by
  unfold colRows chan
  refine List.map_congr_left fun c hc => ?_
  unfold colRow chanRow
  refine List.map_congr_left fun k hk => ?_
  have hc' := List.mem_range.1 hc
  rw [h k (List.mem_range.1 hk)]
  show (splitRow (chan sm) k).getD c 0 = _
  rw [splitRow_chan sm k (List.mem_range.1 hk)]
  have : c = 0 ∨ c = 1 ∨ c = 2 := by omega
  rcases this with rfl | rfl | rfl <;> rfl
end Go.Proofs.Ytmlcmnbjioabiaa
