/- Linear: clear over whole matrices. -/
import Derived.Test.YtclkkoiaaddllaaGreatQYimmcf
import Derived.WalkMore
import Derived.Deep.LoopGhost
namespace Go.Proofs.YtclkkoiaaddllaaGreat
open Go.RowKit
set_option linter.unusedVariables false

theorem MxI.ne {W : World} {G m n : Nat} {P : Nat → Prop} {R : Nat → Rw} {X : Nat → Nat → GQ} (h : MxI W G m n P R X) {i g : Nat} {cs : Array Value} (hi : i < m) (hn : 0 < n) (hb : Blk W g 37 cs) : (R i).b ≠ g := by
  obtain ⟨_, f, hf, _⟩ := h.row i hi hn
  exact hf.ne_t hb (by decide)
/-- Rows of two matrices side by side. -/
def side (na : Nat) (X Y : Nat → Nat → GQ) : Nat → Nat → GQ := fun i j => if j < na then X i j else Y i (j - na)
/-- The row i less the multiple of row r that leaves 0 in column c. -/
def elm (X : Nat → Nat → GQ) (r c i : Nat) : Nat → Nat → GQ := upd X i (fun j => X i j - X i c / X r c * X r j)
/-- Rows r + 1 to i - 1 are cleared. -/
def clru (X : Nat → Nat → GQ) (r c i : Nat) : Nat → Nat → GQ := fun i' j => if r < i' ∧ i' < i then X i' j - X i' c / X r c * X r j else X i' j
theorem clru_start (X : Nat → Nat → GQ) (r c : Nat) : clru X r c (r + 1) = X := by
  funext i j; unfold clru; rw [if_neg (by omega)]
/-- What echelon leaves in memory. -/
structure EI (W : World) (gf Ga Gb m na nb : Nat) (PA PB : Nat → Prop) (Z : Nat → Nat → GQ) : Prop where
  calm : CalmF W gf
  a : ∃ R, MxI W Ga m na PA R Z
  b : ∃ R, MxI W Gb m nb PB R (fun i j => Z i (na + j))
/-- The sizes that elimination meets. -/
def Room (N m na nb : Nat) (Z : Nat → Nat → GQ) : Prop := ∀ c, c < na → (ech m Z c).r + 1 < m → (∀ i j, (ech m Z c).r ≤ i → i < m → j < na + nb → Bd ((ech m Z c).X i j) N) ∧
  ∀ i k, (ech m Z c).r ≤ i → i < m → (ech m Z c).r ≤ k → k < m → (ech m Z c).X k c ≠ GQ.i 0 0 → Bd ((ech m Z c).X i c / (ech m Z c).X k c) N
theorem EI.ext {W W' : World} {gf Ga Gb m na nb : Nat} {PA PB : Nat → Prop} {Z : Nat → Nat → GQ} (h : EI W gf Ga Gb m na nb PA PB Z) (x : Ext W W') : EI W' gf Ga Gb m na nb PA PB Z := by
  obtain ⟨h1, ⟨R, h2⟩, ⟨R2, h3⟩⟩ := h
  exact ⟨h1.ext x, ⟨R, h2.ext x⟩, ⟨R2, h3.ext x⟩⟩
theorem EI.congr {W : World} {gf Ga Gb m na nb : Nat} {PA PB : Nat → Prop} {Z Z' : Nat → Nat → GQ} (h : EI W gf Ga Gb m na nb PA PB Z) (e : ∀ i j, i < m → Z i j = Z' i j) : EI W gf Ga Gb m na nb PA PB Z' := by
  obtain ⟨h1, ⟨R, h2⟩, ⟨R2, h3⟩⟩ := h
  exact ⟨h1, ⟨R, h2.congr fun i j hi _ => e i j hi⟩, ⟨R2, h3.congr fun i j hi _ => e i _ hi⟩⟩
theorem clru_succ (X : Nat → Nat → GQ) {r c i : Nat} (hi : r < i) : elm (clru X r c i) r c i = clru X r c (i + 1) := by
  funext i' j
  unfold elm upd
  by_cases e : i' = i
  · subst e
    rw [if_pos rfl]
    unfold clru
    rw [if_neg (by omega), if_neg (by omega), if_neg (by omega), if_neg (by omega), if_pos (by omega)]
  · rw [if_neg e]
    unfold clru
    by_cases h : r < i' ∧ i' < i
    · rw [if_pos h, if_pos (by omega)]
    · rw [if_neg h, if_neg (by omega)]
theorem fclear_e (gf Ga Gb m cA cB na nb r i c N : Nat) (PA PB T : Nat → Prop) (X : Nat → Nat → GQ) (w : World) (h : EI w gf Ga Gb m na nb PA PB X) (hd : ∀ g, PA g → PB g → False) (hT : T Ga ∧ T Gb ∧ (∀ g, PA g → T g) ∧ ∀ g, PB g → T g)
    (hi : i < m) (hri : r < i) (hc : c < na) (hm : m ≤ 24) (hna : na ≤ 24) (hnb : nb ≤ 24) (h0 : X r c ≠ GQ.i 0 0) (hz : ∀ j, j < c → X r j = GQ.i 0 0) (bi : ∀ j, j < na + nb → Bd (X i j) N) (br : ∀ j, j < na + nb → Bd (X r j) N) (bq : Bd (X i c / X r c) N) (hN : 4 * N + 67 ≤ 12800) :
    Calls Tryz.prog 58 #[.pointer (some ⟨gf, 0, none⟩), .slice (some ⟨Ga, 0, none⟩) m cA, .slice (some ⟨Gb, 0, none⟩) m cB, .int .i64 r, .int .i64 i, .int .i64 c] w fun e w' => e = .returned (.tuple #[]) ∧ EI w' gf Ga Gb m na nb PA PB (elm X r c i) ∧ Mod T w w' := by
  obtain ⟨hcalm, ⟨R, hA⟩, ⟨R2, hB⟩⟩ := h
  have hr : r < m := by omega
  obtain ⟨ai, ri⟩ := hA.row i hi (by omega)
  obtain ⟨ar, rr⟩ := hA.row r hr (by omega)
  have hai : (mxc m R).toArray[i]? = some (.slice (some ⟨(R i).b, 0, none⟩) na na) := by rw [mxc_at hi, hA.v hi (by omega)]
  have har : (mxc m R).toArray[r]? = some (.slice (some ⟨(R r).b, 0, none⟩) na na) := by rw [mxc_at hr, hA.v hr (by omega)]
  have hbi : (mxc m R2).toArray[i]? = some (.slice (R2 i).A nb nb) := by rw [mxc_at hi, hB.v0 hi]
  have hbr : (mxc m R2).toArray[r]? = some (.slice (R2 r).A nb nb) := by rw [mxc_at hr, hB.v0 hr]
  have hne : (R i).b ≠ (R r).b := fun e => by have := hA.inj i r hi hr (by omega) e; omega
  refine (fclear_w gf Ga Gb m cA cB i r c na nb (R i).b (R r).b (R2 i).b (R2 r).b nb nb N (R2 i).A (R2 r).A _ _ (X i) (X r) (fun j => X i (na + j)) (fun j => X r (na + j)) w hcalm hA.out hB.out hai har hbi hbr hi hr hc (by omega) (by omega) (by omega) ri rr
    (fun hn => hB.row i hi hn) (fun hn => hB.row r hr hn) hne (fun hn => ⟨fun e => by have := hB.inj i r hi hr hn e; omega, fun e => hd _ (hA.mem i hi (by omega)) (e ▸ hB.mem i hi hn), fun e => hd _ (hA.mem i hi (by omega)) (e ▸ hB.mem r hr hn)⟩)
    h0 (fun j hj => bi j (by omega)) (fun j hj => br j (by omega)) (fun j hj => bi _ (by omega)) (fun j hj => br _ (by omega)) bq hN).mono ?_
  rintro e w' ⟨he, h1, h2, hm'⟩
  have hfar : Far (fun g => g = (R i).b ∨ 0 < nb ∧ g = (R2 i).b) w := by
    rintro g (rfl | ⟨hn, rfl⟩) _
    · obtain ⟨f, hf, _⟩ := ri; exact ⟨_, _, hf, rowc_noint _ _⟩
    · obtain ⟨f, hf, _⟩ := (hB.row i hi hn).2; exact ⟨_, _, hf, rowc_noint _ _⟩
  have nG : ∀ (G : Nat) (cs : Array Value), Blk w G 37 cs → ¬ (G = (R i).b ∨ 0 < nb ∧ G = (R2 i).b) := by
    rintro G cs hG (e | ⟨hn, e⟩)
    · exact hA.ne hi (by omega) hG e.symm
    · exact hB.ne hi hn hG e.symm
  refine ⟨he, ⟨?_, ⟨R, ?_⟩, ⟨R2, ?_⟩⟩, hm'.mono ?_⟩
  · refine Blk.mod hcalm hm' ?_
    rintro (e | ⟨hn, e⟩)
    · exact CalmF.ne hcalm ri e
    · exact CalmF.ne hcalm (hB.row i hi hn).2 e
  · refine (hA.upd (i := i) (x := clrow (X i) (X r) (X i c / X r c) c) hm' hfar (nG _ _ hA.out) ?_ (fun _ => h1)).congr ?_
    · rintro j hj hji hn (e | ⟨hn2, e⟩)
      · exact hji (hA.inj j i hj hi hn e)
      · exact hd _ (hA.mem j hj hn) (e ▸ hB.mem i hi hn2)
    · intro i' j hi' hj
      unfold elm upd
      by_cases e : i' = i
      · rw [if_pos e, if_pos e]
        unfold clrow
        by_cases e1 : j < c
        · rw [if_pos e1, hz j e1, GQ.mul_zero', GQ.sub_zero']
        · rw [if_neg e1]
          by_cases e2 : j = c
          · subst e2; rw [if_pos rfl, GQ.div_cancel' h0, GQ.sub_self']
          · rw [if_neg e2]
      · rw [if_neg e, if_neg e]
  · refine (hB.upd (i := i) (x := fun j => X i (na + j) - X i c / X r c * X r (na + j)) hm' hfar (nG _ _ hB.out) ?_ (fun hn => h2 hn)).congr ?_
    · rintro j hj hji hn (e | ⟨hn2, e⟩)
      · exact hd _ (hA.mem i hi (by omega)) (e ▸ hB.mem j hj hn)
      · exact hji (hB.inj j i hj hi hn e)
    · intro i' j hi' hj
      unfold elm upd
      by_cases e : i' = i
      · rw [if_pos e, if_pos e]
      · rw [if_neg e, if_neg e]
  · rintro g (rfl | ⟨hn, rfl⟩)
    · exact hT.2.2.1 _ (hA.mem i hi (by omega))
    · exact hT.2.2.2 _ (hB.mem i hi hn)
end Go.Proofs.YtclkkoiaaddllaaGreat
