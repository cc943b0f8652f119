/- Zero, Same, Div: the program and its specification. -/
import Derived.Test.YtjeijmnhbckjdaaGreatDoorQGcmnbp
import Derived.Test.YtjeijmnhbckjdaaGreatDoorQNGodjj
import Derived.Test.YtjeijmnhbckjdaaGreatDoorQNJbpil
import Derived.Test.YtjeijmnhbckjdaaGreatDoorQNIjalo
namespace Go.Proofs.YtjeijmnhbckjdaaGreatDoor
open Go.RowKit
set_option linter.unusedVariables false

theorem RI.n0 {w : World} {s : Bool} {A : Option Addr} {n c : Nat} {z : Int} (h : RI w (iv s A n c) z) : decide (n = 0) = decide (z = 0) := by
  by_cases hz : z = 0
  · have := RI.len0 h hz
    simp at this
    simp [this, hz]
  · have := RI.lenne h hz
    simp at this
    simp [this, hz]
theorem Is.zero_iff {q : GQ} {a b d : Int} (h : Is q a b d) : q = GQ.i 0 0 ↔ a = 0 ∧ b = 0 := by
  have hd := cast_ne h.dne
  constructor
  · intro e
    have e1 := h.re
    have e2 := h.im
    rw [e] at e1 e2
    simp only [GQ.i_re, GQ.i_im] at e1 e2
    have f1 : (a : Rat) = 0 := by grind
    have f2 : (b : Rat) = 0 := by grind
    exact ⟨by exact_mod_cast f1, by exact_mod_cast f2⟩
  · rintro ⟨rfl, rfl⟩
    ext
    · rw [h.re]; simp only [GQ.i_re]; grind
    · rw [h.im]; simp only [GQ.i_im]; grind
/-- zero says whether the number is 0. -/
theorem GV.zero {w : World} {q : GQ} {n n1 c1 n2 c2 n3 c3 : Nat} {s1 s2 s3 : Bool} {A1 A2 A3 : Option Addr} (h : GV w (gv s1 A1 n1 c1 s2 A2 n2 c2 s3 A3 n3 c3) q n) : (decide (n1 = 0) && decide (n2 = 0)) = true ↔ q = GQ.i 0 0 := by
  obtain ⟨a, b, d, h1, h2, _⟩ := h
  obtain ⟨r1, r2, r3⟩ := RG.inj h1
  rw [RI.n0 r1, RI.n0 r2, h2.zero_iff]
  simp
theorem GV.opn {w : World} {v : Value} {q : GQ} {n : Nat} (h : GV w v q n) : ∃ s1 A1 n1 c1 s2 A2 n2 c2 s3 A3 n3 c3, v = gv s1 A1 n1 c1 s2 A2 n2 c2 s3 A3 n3 c3 := by
  obtain ⟨a, b, d, ⟨s1, A1, n1, c1, s2, A2, n2, c2, s3, A3, n3, c3, e, _⟩, _⟩ := h
  exact ⟨s1, A1, n1, c1, s2, A2, n2, c2, s3, A3, n3, c3, e⟩
end Go.Proofs.YtjeijmnhbckjdaaGreatDoor
