/- The rows of this seat: the tables that are laid at the start; an argument that is an integer. -/
import Derived.Test.YtfdpbcjcinchgaaDoorRow
import Derived.Test.YtfdpbcjcinchgaaDoorTc
import Derived.Test.YtfdpbcjcinchgaaDoorTie
import Derived.Test.YtfdpbcjcinchgaaDoorCards
import Derived.LaidMore
import Derived.OpenShut
import Derived.Stop.Joined
import Derived.SevenTiedAt
namespace Go.Proofs.YtfdpbcjcinchgaaDoor
open Go.RowKit Go.ChangeShapes Go.WideShapes Go.ChangeAt Go.Joins Go.Deep

abbrev laid3 : List (String × DataW Unit) := [("math/bits.deBruijn32tab", Rows.laid_math_bits_deBruijn32tab), ("math/bits.deBruijn64tab", Rows.laid_math_bits_deBruijn64tab), ("internal/strconv.uint64pow10", Rows.laid_internal_strconv_uint64pow10)]

set_option maxRecDepth 100000 in
/-- The door's own heap meets the condition. -/
theorem door_met (os : Os) (args : Array Value) : laidMetH Tryd.prog laid3 ((World.doorLaid Tryd.prog 400 os).forCall (fun _ _ => 0) ⟨#[], args, []⟩).memory :=
  laidMetH_of_parts3 (fuel := 8) (laidMet_of_run' 8 (by kernel_rfl) (by kernel_rfl)) (by kernel_rfl) (by kernel_rfl)

theorem int_bounds {x : Int} (h : (Lit.int .i64 x).wf = true) : -9223372036854775808 ≤ x ∧ x ≤ 9223372036854775807 := by
  simp [Lit.wf, IntKind.min, IntKind.max, IntKind.signed, IntKind.bits] at h
  exact ⟨by omega, by omega⟩
theorem u32_bounds {x : Int} (h : (Lit.int .u32 x).wf = true) : 0 ≤ x ∧ x < 4294967296 := by
  simp [Lit.wf, IntKind.min, IntKind.max, IntKind.signed, IntKind.bits] at h
  exact ⟨h.1, by omega⟩
theorem Tryd.cells4 : Tryd.prog.cellsOf 4 = 1 := by kernel_rfl
theorem Tryd.cellsU32 : Tryd.prog.cellsOf 34 = 1 := by kernel_rfl
theorem Tryd.cellsU32s : Tryd.prog.cellsOf 22 = 1 := by kernel_rfl
section
variable {H : Type} {enc : TypeId × Value → H} {w : World} {base : Nat} {spare : Nat → Bool} {held : Bool}
set_option maxRecDepth 100000 in
/-- An argument that is an integer. -/
theorem open_int_ {r : Reach} {b0 : Nat} {t : TypeId} {v : Value} {d : DataW H} {p : List MemPlace} (hs : Tryd.prog.underlying t = Tryd.prog.underlying 24) (hone : Tryd.prog.cellsOf t = 2)
    (hv : Value.okWide Tryd.prog w r b0 t v) (h : DataW.Trod enc Tryd.prog w base spare held t v d p) : ∃ s l, RX w v s l := by
  have hu := hs.trans Tryd.underlying24
  obtain ⟨cs, rfl, hsz⟩ := okWide_struct hu hv
  obtain ⟨l⟩ := cs
  rw [hone] at hsz
  obtain ⟨fuel, hf⟩ := h
  obtain ⟨xs, n, _, hx, _, hlen, hg⟩ := DataW.trod_struct hu hf
  match l, hsz with
  | [c0, c1], _ =>
    match xs, hlen with
    | [y0, y1], _ =>
      have g0 : DataW.trod enc Tryd.prog w base spare held n 4 [c0] = some y0 := by simpa [Value.cells, Tryd.cells4] using hg 0 _ rfl
      have g1 : DataW.trod enc Tryd.prog w base spare held n 22 [c1] = some y1 := by simpa [Value.cells, Tryd.cellsU32s] using hg 1 _ rfl
      obtain ⟨s, e0, _⟩ := DataW.trod_bool Tryd.underlying4 g0
      obtain ⟨A, n1, k1, S, e1, hS, h1, h1', hwf⟩ := open_reads Tryd.underlying22 Tryd.underlying34 Tryd.cellsU32 g1
      simp at e0
      subst e0 e1
      unfold maxLen at h1'
      have hm : mg (S.map Int.toNat) = S.map (.int .u32) := by
        unfold mg
        rw [List.map_map]
        apply List.map_congr_left
        intro z hz
        have := u32_bounds (hwf z hz)
        simp; omega
      refine ⟨s, S.map Int.toNat, A, n1, k1, rfl, ⟨by rw [hm]; exact hS, ?_, h1, by omega⟩⟩
      intro z hz
      obtain ⟨x, hx, rfl⟩ := List.mem_map.1 hz
      have := u32_bounds (hwf x hx)
      omega
end
end Go.Proofs.YtfdpbcjcinchgaaDoor
