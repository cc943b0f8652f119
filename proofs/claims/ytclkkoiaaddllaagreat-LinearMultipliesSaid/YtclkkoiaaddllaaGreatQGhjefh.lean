/- Sums, rounding, as the laws want them. -/
import Derived.Test.YtclkkoiaaddllaaGreatQAnkmcd
import Derived.Test.YtclkkoiaaddllaaGreatQGepicn
import Derived.Test.YtclkkoiaaddllaaGreatQNIcbam
import Derived.Test.YtclkkoiaaddllaaGreatQNHkoha
namespace Go.Proofs.YtclkkoiaaddllaaGreat
open Go.RowKit
set_option linter.unusedVariables false

theorem xAdd_ok (v0 : Value) (q0 : GQ) (n0 : Nat) (v1 : Value) (q1 : GQ) (n1 : Nat) (w : World) (hX0 : GV w v0 q0 n0) (hX1 : GV w v1 q1 n1) (hn : 2 * max n0 n1 + 65 ≤ 12800) :
    Calls Tryz.prog 71 #[v0, v1] w fun e w' => ∃ v, e = .returned v ∧ (∃ u, v = .tuple #[u, .int .i64 0] ∧ GV w' u (q0 + q1) (n0 + n1 + 65)) ∧ Ext w w' := by
  have := xAdd_w v0 q0 n0 v1 q1 n1 w hX0 hX1 hn
  rwa [add_blend] at this
theorem xSub_ok (v0 : Value) (q0 : GQ) (n0 : Nat) (v1 : Value) (q1 : GQ) (n1 : Nat) (w : World) (hX0 : GV w v0 q0 n0) (hX1 : GV w v1 q1 n1) (hn : 2 * max n0 n1 + 65 ≤ 12800) :
    Calls Tryz.prog 66 #[v0, v1] w fun e w' => ∃ v, e = .returned v ∧ (∃ u, v = .tuple #[u, .int .i64 0] ∧ GV w' u (q0 - q1) (n0 + n1 + 65)) ∧ Ext w w' := by
  have := xSub_w v0 q0 n0 v1 q1 n1 w hX0 hX1 hn
  rwa [sub_blend] at this
theorem qSame_q (v u : Value) (q q' : GQ) (m n : Nat) (w : World) (hX : GV w v q m) (hY : GV w u q' n) (h : q = q') :
    Calls Tryz.prog 14 #[v, u] w fun e w' => e = .returned (.bool true) ∧ Ext w w' := by subst h; exact qSame_eq v u q m n w hX hY
/-- N is the real part of the phasor divided by r, rounded. -/
def Rd (p : PQ) (r N : Int) : Prop := ∀ a b d x y z, Is p.u a b d → Is p.v x y z → ∀ k, RZ a d x z r k ↔ k ≤ N
theorem Rd.of {p : PQ} {a b d x y z r N : Int} (I : Is p.u a b d) (J : Is p.v x y z) (h : ∀ k, RZ a d x z r k ↔ k ≤ N) : Rd p r N := by
  intro a' b' d' x' y' z' I' J'
  obtain ⟨rfl, rfl, rfl⟩ := I.unique I'
  obtain ⟨rfl, rfl, rfl⟩ := J.unique J'
  exact h
theorem Rd.unique {p : PQ} {r N N' : Int} (h : Rd p r N) (h' : Rd p r N') : N = N' := by
  obtain ⟨a, b, d, I⟩ := is_ex p.u
  obtain ⟨x, y, z, J⟩ := is_ex p.v
  have h1 := h a b d x y z I J
  have h2 := h' a b d x y z I J
  have e1 := (h1 N').1 ((h2 N').2 (Int.le_refl _))
  have e2 := (h2 N).1 ((h1 N).2 (Int.le_refl _))
  omega
theorem rz_down {a d x z r m k : Int} (hp : 0 < r * (d * z)) (h : RZ a d x z r m) (hk : k ≤ m) : RZ a d x z r k := by
  unfold RZ at *
  refine le3_down h ?_
  have e : (2 * m - 1) * r * (d * z) - 2 * (a * z) - ((2 * k - 1) * r * (d * z) - 2 * (a * z)) = 2 * ((m - k) * (r * (d * z))) := by grind
  have := Int.mul_nonneg (show 0 ≤ m - k by omega) (show 0 ≤ r * (d * z) by omega)
  omega
theorem Rd.at_ {a d x z r N : Int} (hp : 0 < r * (d * z)) (h1 : RZ a d x z r N) (h2 : ¬ RZ a d x z r (N + 1)) (k : Int) : RZ a d x z r k ↔ k ≤ N := by
  constructor
  · intro h
    rcases Int.lt_or_le N k with h3 | h3
    · exact absurd (rz_down hp h (by omega)) h2
    · exact h3
  · exact rz_down hp h1
instance (a d x z r n : Int) : Decidable (RZ a d x z r n) := by unfold RZ; infer_instance
end Go.Proofs.YtclkkoiaaddllaaGreat
