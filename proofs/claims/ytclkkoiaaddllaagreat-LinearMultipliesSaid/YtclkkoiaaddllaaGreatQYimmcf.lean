/- Linear: matrices of a call's own in memory. -/
import Derived.Test.YtclkkoiaaddllaaGreatQYhpjnm
import Derived.Test.YtclkkoiaaddllaaGreatQCkbhne
namespace Go.Proofs.YtclkkoiaaddllaaGreat
open Go.RowKit
set_option linter.unusedVariables false

/-- The cells of a matrix: its rows' slices. -/
def mxc (m : Nat) (R : Nat → Rw) : List Value := (List.range m).map fun i => (R i).v
theorem mxc_len (m : Nat) (R : Nat → Rw) : (mxc m R).length = m := by simp [mxc]
theorem mxc_at {m : Nat} {R : Nat → Rw} {i : Nat} (hi : i < m) : (mxc m R).toArray[i]? = some (R i).v := by simp [mxc, hi]
/-- A matrix whose rows are blocks in P. -/
structure MxI (W : World) (G m n : Nat) (P : Nat → Prop) (R : Nat → Rw) (X : Nat → Nat → GQ) : Prop where
  out : Blk W G 37 (mxc m R).toArray
  len : ∀ i, i < m → (R i).n = n ∧ (R i).c = n
  row : ∀ i, i < m → 0 < n → (R i).A = some ⟨(R i).b, 0, none⟩ ∧ RowIs W (R i).b n (X i)
  inj : ∀ i j, i < m → j < m → 0 < n → (R i).b = (R j).b → i = j
  mem : ∀ i, i < m → 0 < n → P (R i).b
section
variable {W W' : World} {G m n : Nat} {P : Nat → Prop} {R : Nat → Rw} {X Y : Nat → Nat → GQ}
theorem MxI.ext (h : MxI W G m n P R X) (x : Ext W W') : MxI W' G m n P R X :=
  ⟨h.out.ext x, h.len, fun i hi hn => ⟨(h.row i hi hn).1, (h.row i hi hn).2.ext x⟩, h.inj, h.mem⟩
theorem MxI.congr (h : MxI W G m n P R X) (e : ∀ i j, i < m → j < n → X i j = Y i j) : MxI W G m n P R Y :=
  ⟨h.out, h.len, fun i hi hn => ⟨(h.row i hi hn).1, (h.row i hi hn).2.congr fun j hj => e i j hi hj⟩, h.inj, h.mem⟩
theorem MxI.v (h : MxI W G m n P R X) {i : Nat} (hi : i < m) (hn : 0 < n) : (R i).v = .slice (some ⟨(R i).b, 0, none⟩) n n := by
  unfold Rw.v; rw [(h.row i hi hn).1, (h.len i hi).1, (h.len i hi).2]
theorem MxI.v0 (h : MxI W G m n P R X) {i : Nat} (hi : i < m) : (R i).v = .slice (R i).A n n := by
  unfold Rw.v; rw [(h.len i hi).1, (h.len i hi).2]
theorem MxI.cell (h : MxI W G m n P R X) {i : Nat} (hi : i < m) : W.cell? ⟨G, i, none⟩ = some (.slice (R i).A n n) := by
  rw [h.out.cell, mxc_at hi, h.v0 hi]
/-- One row has changed, and blocks that are no rows. -/
theorem MxI.upd {S : Nat → Prop} {x : Nat → GQ} {i : Nat} (h : MxI W G m n P R X) (hm : Mod S W W') (hS : Far S W) (hG : ¬ S G) (ho : ∀ j, j < m → j ≠ i → 0 < n → ¬ S (R j).b) (hi : 0 < n → RowIs W' (R i).b n x) : MxI W' G m n P R (upd X i x) := by
  refine ⟨h.out.mod hm hG, h.len, fun j hj hn => ⟨(h.row j hj hn).1, ?_⟩, h.inj, h.mem⟩
  by_cases e : j = i
  · subst e; rw [upd_same]; exact hi hn
  · rw [upd_ne e]; exact (h.row j hj hn).2.mod hm hS (ho j hj e hn)
theorem MxI.mod {S : Nat → Prop} (h : MxI W G m n P R X) (hm : Mod S W W') (hS : Far S W) (hG : ¬ S G) (ho : ∀ j, j < m → 0 < n → ¬ S (R j).b) : MxI W' G m n P R X := by
  refine ⟨h.out.mod hm hG, h.len, fun j hj hn => ⟨(h.row j hj hn).1, ?_⟩, h.inj, h.mem⟩
  exact (h.row j hj hn).2.mod hm hS (ho j hj hn)
theorem noInt_slices (m : Nat) (R : Nat → Rw) : noIntB (mxc m R).toArray = true := by
  unfold noIntB
  simp only [List.all_eq_true]
  intro v hv
  unfold mxc at hv
  obtain ⟨j, _, rfl⟩ := List.mem_map.1 hv
  rfl
theorem mxc_swap {k r : Nat} (hk : k < m) (hr : r < m) : (((mxc m R).toArray.setIfInBounds k (R r).v).setIfInBounds r (R k).v) = (mxc m fun i => R (swp k r i)).toArray := by
  apply Array.ext
  · simp [mxc]
  · intro i h1 h2
    simp only [mxc, List.setIfInBounds_toArray, List.getElem_toArray, List.getElem_set, List.getElem_map, List.getElem_range]
    by_cases e1 : r = i
    · subst e1; rw [if_pos rfl, swp_r]
    · rw [if_neg e1]
      by_cases e2 : k = i
      · subst e2; rw [if_pos rfl, swp_k]
      · rw [if_neg e2, swp_ne (fun e => e2 e.symm) (fun e => e1 e.symm)]
/-- Two rows exchanged. -/
theorem MxI.swap {k r : Nat} (h : MxI W G m n P R X) (hk : k < m) (hr : r < m) :
    MxI ((W.setCell ⟨G, k, none⟩ (.slice (R r).A n n)).setCell ⟨G, r, none⟩ (.slice (R k).A n n)) G m n P (fun i => R (swp k r i)) (fun i => X (swp k r i)) ∧
      Mod (fun g => g = G) W ((W.setCell ⟨G, k, none⟩ (.slice (R r).A n n)).setCell ⟨G, r, none⟩ (.slice (R k).A n n)) := by
  have hm : Mod (fun g => g = G) W ((W.setCell ⟨G, k, none⟩ (.slice (R r).A n n)).setCell ⟨G, r, none⟩ (.slice (R k).A n n)) := Mod.only ((Only.set _ _ _ _).trans (Only.set _ _ _ _)) rfl
  have hS : Far (fun g => g = G) W := fun g hg _ => by subst hg; exact ⟨_, _, h.out, noInt_slices _ _⟩
  refine ⟨⟨?_, fun i hi => h.len _ (swp_lt hk hr hi), fun i hi hn => ?_, fun i j hi hj hn e => ?_, fun i hi hn => h.mem _ (swp_lt hk hr hi) hn⟩, hm⟩
  · have := (h.out.set_ k (R r).v).set_ r (R k).v
    rw [mxc_swap hk hr, h.v0 hk, h.v0 hr] at this
    exact this
  · obtain ⟨h1, h2⟩ := h.row _ (swp_lt hk hr hi) hn
    refine ⟨h1, h2.mod hm hS ?_⟩
    obtain ⟨f, hb, _⟩ := h2
    exact fun e => h.out.ne_t hb (by decide) e.symm
  · have := h.inj _ _ (swp_lt hk hr hi) (swp_lt hk hr hj) hn e
    rw [← swp_inv k r i, this, swp_inv]
end
theorem ech_stop {m : Nat} {Z : Nat → Nat → GQ} {c : Nat} (h : (ech m Z c).r = m) : ∀ d, c ≤ d → ech m Z d = ech m Z c
  | 0, hd => by obtain rfl : c = 0 := by omega
                rfl
  | d + 1, hd => by
    by_cases e : c = d + 1
    · subst e; rfl
    · have ih := ech_stop h d (by omega)
      show estep m d (ech m Z d) = _
      rw [ih]
      apply estep_none
      rw [h, Nat.sub_self]; rfl
end Go.Proofs.YtclkkoiaaddllaaGreat
