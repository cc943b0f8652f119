/- A region's ancestors, looked for a few steps back. -/
import Derived.Test.YtclkkoiaaddllaaGreatQMAlchc
namespace Go.Proofs.YtclkkoiaaddllaaGreat
open Go.RowKit
theorem anc_mono {ops : Array Oper} : ∀ (f g k p : Nat), f ≤ g → anc ops f k p = true → anc ops g k p = true
  | 0, _, _, _, _, h => by simp [anc] at h
  | f + 1, 0, _, _, hl, _ => by omega
  | f + 1, g + 1, k, p, hl, h => by
    unfold anc at h ⊢
    cases ho : ops[k]? with
    | none => simp [ho] at h
    | some o =>
      simp only [ho] at h ⊢
      rw [Array.any_eq_true] at h ⊢
      obtain ⟨i, hi, h⟩ := h
      refine ⟨i, hi, ?_⟩
      rw [Bool.and_eq_true, Bool.or_eq_true] at h ⊢
      refine ⟨h.1, ?_⟩
      rcases h.2 with h2 | h2
      · exact .inl h2
      · exact .inr (anc_mono f g _ _ (by omega) h2)
theorem anc_of {ops : Array Oper} {k p : Nat} (h : (Nat.ble 4 ops.size && anc ops 4 k p) = true) : anc ops ops.size k p = true := by
  rw [Bool.and_eq_true] at h
  exact anc_mono 4 _ k p (Nat.le_of_ble_eq_true h.1) h.2
end Go.Proofs.YtclkkoiaaddllaaGreat
