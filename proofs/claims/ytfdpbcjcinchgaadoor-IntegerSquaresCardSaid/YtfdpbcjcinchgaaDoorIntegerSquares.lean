/- IntegerSquares returns true for every input: the identity (x + y) * (x - y) = x * x - y * y, computed by the program. No conditions but that the tables of Go's library are laid as the program's text lays them. -/
import Derived.Test.YtfdpbcjcinchgaaDoorLi
import Derived.Test.YtfdpbcjcinchgaaDoorLf
import Derived.Test.YtfdpbcjcinchgaaDoorRowD
namespace Go.Proofs.YtfdpbcjcinchgaaDoor
open Go.RowKit Go.ChangeShapes Go.WideShapes Go.ChangeAt Go.Joins Go.Deep
set_option linter.unusedVariables false

theorem len40 {w : World} {v : Value} {s : Bool} {l : List Nat} (hX : RX w v s l) (hv : validB s l = true) (h : l.length ≤ 40) : RI w v (zOf s (val l)) ∧ Fits 40 (zOf s (val l)) ∧ (digs (zOf s (val l)).natAbs).length ≤ 40 := by
  have hd : Dig l := by obtain ⟨A, n, c, _, hx⟩ := hX; exact hx.dg
  refine ⟨(RI.of_valid hX hv).1, Fits.of_len hd h, ?_⟩
  rw [zOf_abs]
  exact digs_len_le (Nat.lt_of_lt_of_le (val_lt hd) (Nat.pow_le_pow_right (by omega) h))

theorem squares_any (v0 v1 : Value) (s0 s1 : Bool) (l0 l1 : List Nat) (w : World) (hX : RX w v0 s0 l0) (hY : RX w v1 s1 l1) :
    Calls Tryd.prog 9 #[v0, v1] w fun e w' => e = .returned (.bool true) ∧ Ext w w' := by
  by_cases h : l0.length ≤ 40 ∧ l1.length ≤ 40
  · obtain ⟨g0, g1⟩ := h
    cases h1 : validB s0 l0
    · exact squares_skip1 v0 v1 s0 s1 l0 l1 w hX hY g0 g1 h1
    · cases h2 : validB s1 l1
      · exact squares_skip2 v0 v1 s0 s1 l0 l1 w hX hY g0 g1 h1 h2
      · obtain ⟨ix, fx, lx⟩ := len40 hX h1 g0
        obtain ⟨iy, fy, ly⟩ := len40 hY h2 g1
        exact squares_small v0 v1 _ _ w ix iy fx fy lx ly
  · exact squares_skip0 v0 v1 s0 s1 l0 l1 w hX hY h

set_option maxRecDepth 100000 in
theorem integerSquares_lifted (os : Os) (started : os.Started) (H : Type) (enc : TypeId × Value → H) :
    ReturnsInHanded {} Tryd.checked os 9 .any (fun w args => (Rows.integerSquaresSpec.pre enc Tryd.prog Tryd.f9 [] false w args ∧ laidMetH Tryd.prog laid3 w) ∧ sizedMet enc Tryd.prog Tryd.f9 (OpenSpec.ofChange Rows.integerSquaresSpec) false w args)
      (Rows.integerSquaresSpec.post enc Tryd.prog Tryd.f9 false true false false) := by
  refine returnsInHanded_of_change_and (C := Tryd.checked) (X := fun w _ => laidMetH Tryd.prog laid3 w) (fun _ _ _ hh h => h.of_heap hh) Tryd.own started (by kernel_rfl) Tryd.func9
    (ChangeSpec.witness_shaped (enc := enc) (C := Tryd.checked) (os := os) (X := fun w _ => laidMetH Tryd.prog laid3 w) false (World.doorLaid Tryd.prog 400 os) #[.agg #[.bool false, .slice none 0 0], .agg #[.bool false, .slice none 0 0]] 8 rfl (World.shaped_of_RefB (by kernel_rfl) (by kernel_rfl)) (by kernel_rfl) (by kernel_rfl) (by kernel_rfl) (door_met os _)) ?_
  intro W base args ds gs before hval0 hW _ _ hL _
  have hval : ∀ (j : Nat) t v, Tryd.f9.params[j]? = some t → args[j]? = some v → Value.okWide Tryd.prog W .any base t v := hval0
  have hW' := hW
  obtain ⟨p, q, hA0, hV, rfl, hfz, hnd⟩ := hW
  obtain ⟨rfl, rfl⟩ := trodVars_none hV
  have hA : DataW.TrodAll enc Tryd.prog W 0 (fun _ => true) true Tryd.f9.params.toList args.toList ds p := hA0
  have hA1 := hA
  simp only [List.append_nil] at hW'
  rw [Tryd.params9] at hA hval
  obtain ⟨v0, v1, d0, d1, p0, p1, rfl, rfl, rfl, h0, h1⟩ := trodAll_two hA
  obtain ⟨s, l, hX⟩ := open_int_ rfl (by kernel_rfl) (hval 0 24 v0 rfl rfl) h0
  obtain ⟨t, k, hY⟩ := open_int_ rfl (by kernel_rfl) (hval 1 24 v1 rfl rfl) h1
  refine (squares_any v0 v1 s t l k W hX hY).mono fun e W' ⟨he, hb⟩ => ?_
  subst he
  exact ⟨_, rfl, post_law Tryd.laidOut rfl rfl Tryd.underlying4 (by rw [Tryd.params9]; intro t ht; simp at ht; rcases ht with rfl <;> exact ⟨by kernel_rfl, of_decide_eq_true (by kernel_rfl)⟩) hW' hA1 rfl rfl rfl hb⟩

theorem integerSquares_row : Rows.IntegerSquaresSaid :=
  OpenClaim.holds_of_wide 9 Tryd.f9 rfl rfl rfl rfl rfl rfl rfl ⟨rfl, rfl, rfl, rfl, rfl⟩ rfl rfl rfl rfl rfl (by kernel_rfl) Tryd.func9 (by kernel_rfl)
    (of_decide_eq_true (by kernel_rfl)) (by unfold Func.isWrapper; first | (rw [if_pos (by decide +kernel)]; kernel_rfl) | (rw [if_neg (by decide +kernel)]; exact ⟨rfl, rfl⟩))
    (fun os started H enc _ => integerSquares_lifted os started H enc)

theorem integerSquares_holds : Rows.IntegerSquaresCardSaid :=
  Claim7.holds_tied_plain_at .later [] [.data, .data, .data] true (true, "a13a8394b3c8a532f2cadfbd12bb6851392457b275959896a3b594576ee02bf4") false
    integerSquares_row (fun _ h => by cases h) (by kernel_rfl) (fun _ h => by cases h) integerSquares_row_tie rfl ⟨rfl, rfl⟩ (by kernel_rfl) rfl
    (fun f fn hf hfn => by
      obtain rfl : f = 9 := Option.some.inj ((show Tryd.prog.funcNamed "substation/substationlaw01.IntegerSquares" = some 9 by kernel_rfl).symm.trans hf) |>.symm
      obtain rfl : fn = Tryd.f9 := (Option.some.inj (Tryd.func9.symm.trans hfn)).symm
      exact ⟨by kernel_rfl, fun j t ht => by
        rw [Tryd.params9] at ht
        have hm : t ∈ [24, 24] := by simpa using Array.mem_of_getElem? ht
        have hall : (([24, 24] : List TypeId).all fun u => !Tryd.prog.wantsStandIn u) = true := by kernel_rfl
        exact (show Tryd.prog.wantsStandIn t = false by simpa using List.all_eq_true.1 hall t hm)⟩)
    (by kernel_rfl)
#print axioms integerSquares_holds
end Go.Proofs.YtfdpbcjcinchgaaDoor
