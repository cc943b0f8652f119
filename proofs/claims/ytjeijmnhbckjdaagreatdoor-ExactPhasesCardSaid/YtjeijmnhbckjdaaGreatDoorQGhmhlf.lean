/- Sums, rounding, as the laws want them. -/
import Derived.Test.YtjeijmnhbckjdaaGreatDoorQAncjbo
import Derived.Test.YtjeijmnhbckjdaaGreatDoorQGenpil
import Derived.Test.YtjeijmnhbckjdaaGreatDoorQNIjalo
import Derived.Test.YtjeijmnhbckjdaaGreatDoorQNHolek
namespace Go.Proofs.YtjeijmnhbckjdaaGreatDoor
open Go.RowKit
set_option linter.unusedVariables false

theorem qSame_q (v u : Value) (q q' : GQ) (m n : Nat) (w : World) (hX : GV w v q m) (hY : GV w u q' n) (h : q = q') :
    Calls Tryz.prog 13 #[v, u] w fun e w' => e = .returned (.bool true) ∧ Ext w w' := by subst h; exact qSame_eq v u q m n w hX hY
theorem qSamePhasor_q (v u : Value) (p p' : PQ) (m n : Nat) (w : World) (hX : PV w v p m) (hY : PV w u p' n) (h : p = p') :
    Calls Tryz.prog 20 #[v, u] w fun e w' => e = .returned (.bool true) ∧ Ext w w' := by subst h; exact qSamePhasor_eq v u p m n w hX hY
/-- N is the real part of the phasor divided by r, rounded. -/
def Rd (p : PQ) (r N : Int) : Prop := ∀ a b d x y z, Is p.u a b d → Is p.v x y z → ∀ k, RZ a d x z r k ↔ k ≤ N
theorem Rd.of {p : PQ} {a b d x y z r N : Int} (I : Is p.u a b d) (J : Is p.v x y z) (h : ∀ k, RZ a d x z r k ↔ k ≤ N) : Rd p r N := by
  intro a' b' d' x' y' z' I' J'
  obtain ⟨rfl, rfl, rfl⟩ := I.unique I'
  obtain ⟨rfl, rfl, rfl⟩ := J.unique J'
  exact h
theorem Rd.unique {p : PQ} {r N N' : Int} (h : Rd p r N) (h' : Rd p r N') : N = N' := by
  obtain ⟨a, b, d, I⟩ := is_ex p.u
  obtain ⟨x, y, z, J⟩ := is_ex p.v
  have h1 := h a b d x y z I J
  have h2 := h' a b d x y z I J
  have e1 := (h1 N').1 ((h2 N').2 (Int.le_refl _))
  have e2 := (h2 N).1 ((h1 N).2 (Int.le_refl _))
  omega
theorem rz_down {a d x z r m k : Int} (hp : 0 < r * (d * z)) (h : RZ a d x z r m) (hk : k ≤ m) : RZ a d x z r k := by
  unfold RZ at *
  refine le3_down h ?_
  have e : (2 * m - 1) * r * (d * z) - 2 * (a * z) - ((2 * k - 1) * r * (d * z) - 2 * (a * z)) = 2 * ((m - k) * (r * (d * z))) := by grind
  have := Int.mul_nonneg (show 0 ≤ m - k by omega) (show 0 ≤ r * (d * z) by omega)
  omega
theorem Rd.at_ {a d x z r N : Int} (hp : 0 < r * (d * z)) (h1 : RZ a d x z r N) (h2 : ¬ RZ a d x z r (N + 1)) (k : Int) : RZ a d x z r k ↔ k ≤ N := by
  constructor
  · intro h
    rcases Int.lt_or_le N k with h3 | h3
    · exact absurd (rz_down hp h (by omega)) h2
    · exact h3
  · exact rz_down hp h1
instance (a d x z r n : Int) : Decidable (RZ a d x z r n) := by unfold RZ; infer_instance
theorem xRound_q (v : Value) (p : PQ) (n : Nat) (r N : Int) (w : World) (hX : PV w v p n) (h1 : 1 ≤ r) (h2 : r ≤ 10000) (hn : 4 * n + 80 ≤ 12800) (hN : Rd p r N) :
    Calls Tryz.prog 22 #[v, .int .i64 r] w fun e w' => e = .returned (.tuple #[.int .i64 (clamp N), .int .i64 0]) ∧ Ext w w' := by
  obtain ⟨a, b, d, x, y, z, hR, I, S, J, T⟩ := hX
  obtain ⟨N', h, hc⟩ := xRound_ok v p.u p.v a b d x y z r n w hR I S J T h1 h2 hn
  obtain rfl := hN.unique (Rd.of I J h)
  exact hc
theorem xRound_at (v : Value) (p : PQ) (n : Nat) (r N M : Int) (w : World) (hX : PV w v p n) (h1 : 1 ≤ r) (h2 : r ≤ 10000) (hn : 4 * n + 80 ≤ 12800) (hN : Rd p r N) (hM : clamp N = M) :
    Calls Tryz.prog 22 #[v, .int .i64 r] w fun e w' => e = .returned (.tuple #[.int .i64 M, .int .i64 0]) ∧ Ext w w' := by subst hM; exact xRound_q v p n r N w hX h1 h2 hn hN
theorem xTurn_one (v0 : Value) (q0 : PQ) (n0 : Nat) (w : World) (hX : PV w v0 q0 n0) (hn : 2 * (n0 + n0) + 65 ≤ 12800) :
    Calls Tryz.prog 19 #[v0, .int .i64 1] w fun e w' => ∃ v, e = .returned v ∧ (∃ u, v = .tuple #[u, .int .i64 0] ∧ PV w' u (q0 * PQ.zp 1) (n0 + n0 + 65)) ∧ Ext w w' := by
  have := xTurn_1 v0 q0 n0 1 1 0 w hX (by omega) (by omega) (Lib.hid (by decide)) (Lib.hid rfl) (by omega) hn
  rwa [turn1 q0 0] at this
end Go.Proofs.YtjeijmnhbckjdaaGreatDoor
