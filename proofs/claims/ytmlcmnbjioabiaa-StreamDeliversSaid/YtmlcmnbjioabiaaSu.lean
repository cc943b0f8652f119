/- StreamDelivers: what Collect finds in all that was sent. -/
import Derived.Test.YtmlcmnbjioabiaaSr
namespace Go.Proofs.Ytmlcmnbjioabiaa
set_option linter.unusedVariables false
open Go.RowKit

theorem mem_splitL {unit step : Int} {sy : Bool} {ch : List (List Int)} {f : Fr} : f ∈ splitL unit step sy ch 12 ↔ ∃ k, k < 12 ∧ f = splitFr unit step sy ch k := by
  unfold splitL
  rw [List.mem_map]
  constructor
  · rintro ⟨k, hk, rfl⟩; exact ⟨k, List.mem_range.1 hk, rfl⟩
  · rintro ⟨k, hk, rfl⟩; exact ⟨k, List.mem_range.2 hk, rfl⟩
theorem sent_all {unit step unitX oth : Int} {sm : Nat → Nat → Int} {keep : Fr → Prop} {sn fsY : List Fr} (hu : btw unit 0 999 = true) (hux : btw unitX 0 999 = true) (hne : unitX ≠ unit) (hst : btw step 0 1099511627776 = true) (h0 : 0 ≤ step) (o0 : 0 ≤ oth) (o1 : oth ≤ 48)
    (hsn : ∀ f, f ∈ sn ↔ f ∈ splitL unit step true (chan sm) 12 ∧ keep f) (hY : ∀ f ∈ fsY, btw (step + 1 + oth) 0 1099511627776 = true ∧ ∃ k, k < 12 ∧ f = splitFr unit (step + 1 + oth) true (chan sm) k) :
    (∀ f ∈ sn ++ splitL unitX step true (chan sm) 12 ++ fsY, checkF f = 0) ∧ ∃ g, pickAll unit (countF step 0) (sn ++ splitL unitX step true (chan sm) 12 ++ fsY) = (g, false) ∧
      ∀ k, k < 12 → (keep (splitFr unit step true (chan sm) k) → g k = splitFr unit step true (chan sm) k) ∧ (¬ keep (splitFr unit step true (chan sm) k) → g k = zeroFr) := by
  constructor
  · intro f hf
    rcases List.mem_append.1 hf with hf | hf
    · rcases List.mem_append.1 hf with hf | hf
      · obtain ⟨k, hk, rfl⟩ := mem_splitL.1 ((hsn f).1 hf).1
        exact split_check unit step sm hu k hk true
      · obtain ⟨k, hk, rfl⟩ := mem_splitL.1 hf
        exact split_check unitX step sm hux k hk true
    · obtain ⟨_, k, hk, rfl⟩ := hY f hf
      exact split_check unit _ sm hu k hk true
  · have hinv := pick_inv unit step (chan sm) hst (by rw [chan_len]; omega) (sn ++ splitL unitX step true (chan sm) 12 ++ fsY) (fun f hf => by
      rcases List.mem_append.1 hf with hf | hf
      · rcases List.mem_append.1 hf with hf | hf
        · exact .inr (mem_splitL.1 ((hsn f).1 hf).1)
        · obtain ⟨k, hk, rfl⟩ := mem_splitL.1 hf
          exact .inl (.inl hne)
      · obtain ⟨hb, k, hk, rfl⟩ := hY f hf
        exact .inl (.inr (count_out h0 hst o0 o1 hb hk)))
    refine ⟨_, Prod.ext rfl hinv.1, fun k hk => ?_⟩
    have key : splitFr unit step true (chan sm) k ∈ sn ++ splitL unitX step true (chan sm) 12 ++ fsY ↔ keep (splitFr unit step true (chan sm) k) := by
      rw [List.mem_append, List.mem_append, hsn]
      constructor
      · rintro ((h | h) | h)
        · exact h.2
        · obtain ⟨j, _, e⟩ := mem_splitL.1 h
          exact absurd (congrArg Fr.unit e).symm hne
        · obtain ⟨hb, j, hj, e⟩ := hY _ h
          have h1 := count_out h0 hst o0 o1 hb hj
          have h2 := count_in hst hk
          have h3 : countF step k = countF (step + 1 + oth) j := congrArg Fr.count e
          rw [← h3, h2, btw_t (by omega) (by omega)] at h1
          cases h1
      · exact fun h => .inl (.inl ⟨mem_splitL.2 ⟨k, hk, rfl⟩, h⟩)
    exact ⟨fun h => (hinv.2 k hk).1 (key.2 h), fun h => (hinv.2 k hk).2 (fun h' => h (key.1 h'))⟩
end Go.Proofs.Ytmlcmnbjioabiaa
