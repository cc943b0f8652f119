/- IntegerSmall returns true for every input: Of and Small are inverses, Compare of small integers is that of ints, and sums of ints are exact. No conditions but that the tables of Go's library are laid as the program's text lays them. -/
import Derived.Test.YtfdpbcjcinchgaaDoorLa
import Derived.Test.YtfdpbcjcinchgaaDoorRowD
namespace Go.Proofs.YtfdpbcjcinchgaaDoor
open Go.RowKit Go.ChangeShapes Go.WideShapes Go.ChangeAt Go.Joins Go.Deep

theorem small_any (a b : Int) (w : World) (a1 : -9223372036854775808 ≤ a ∧ a ≤ 9223372036854775807) (b1 : -9223372036854775808 ≤ b ∧ b ≤ 9223372036854775807) :
    Calls Tryd.prog 6 #[.int .i64 a, .int .i64 b] w fun e w' => e = .returned (.bool true) ∧ Ext w w' := by
  refine small_law a b w a1.1 a1.2 b1.1 b1.2 _ _ _ _ _ true _ rfl rfl rfl rfl rfl rfl _ rfl _ rfl ?_ ?_ ?_
  · unfold cmpZ
    by_cases h1 : a < b
    · have h2 : ¬ b < a := by omega
      simp [h1, h2]
    · simp [h1]
  · have hw := IntKind.wrap_i64 (a + b)
    unfold smallS
    by_cases hf : -9223372036854775808 ≤ a + b ∧ a + b ≤ 9223372036854775807
    · rw [if_pos hf]
      have e : IntKind.i64.wrap (a + b) = a + b := by rw [hw]; omega
      rw [e]
      by_cases h1 : a < 0 <;> by_cases h2 : b < 0 <;> by_cases h3 : a + b < 0 <;> simp [h1, h2, h3] <;> omega
    · rw [if_neg hf, hw]
      by_cases h1 : a < 0 <;> by_cases h2 : b < 0 <;> simp [h1, h2] <;> omega
  · have hw := IntKind.wrap_i64 (a + b)
    unfold smallS
    by_cases hf : -9223372036854775808 ≤ a + b ∧ a + b ≤ 9223372036854775807
    · rw [if_pos hf]
      have e : IntKind.i64.wrap (a + b) = a + b := by rw [hw]; omega
      rw [e]
      simp
    · rw [if_neg hf]
      rfl

set_option maxRecDepth 100000 in
theorem integerSmall_lifted (os : Os) (started : os.Started) (H : Type) (enc : TypeId × Value → H) :
    ReturnsInHanded {} Tryd.checked os 6 .any (fun w args => (Rows.integerSmallSpec.pre enc Tryd.prog Tryd.f6 [] false w args ∧ laidMetH Tryd.prog laid3 w) ∧ sizedMet enc Tryd.prog Tryd.f6 (OpenSpec.ofChange Rows.integerSmallSpec) false w args)
      (Rows.integerSmallSpec.post enc Tryd.prog Tryd.f6 false true false false) := by
  refine returnsInHanded_of_change_and (C := Tryd.checked) (X := fun w _ => laidMetH Tryd.prog laid3 w) (fun _ _ _ hh h => h.of_heap hh) Tryd.own started (by kernel_rfl) Tryd.func6
    (ChangeSpec.witness_shaped (enc := enc) (C := Tryd.checked) (os := os) (X := fun w _ => laidMetH Tryd.prog laid3 w) false (World.doorLaid Tryd.prog 400 os) #[.int .i64 0, .int .i64 0] 8 rfl (World.shaped_of_RefB (by kernel_rfl) (by kernel_rfl)) (by kernel_rfl) (by kernel_rfl) (by kernel_rfl) (door_met os _)) ?_
  intro W base args ds gs before hval0 hW _ _ hL _
  have hval : ∀ (j : Nat) t v, Tryd.f6.params[j]? = some t → args[j]? = some v → Value.okWide Tryd.prog W .any base t v := hval0
  have hW' := hW
  obtain ⟨p, q, hA0, hV, rfl, hfz, hnd⟩ := hW
  obtain ⟨rfl, rfl⟩ := trodVars_none hV
  have hA : DataW.TrodAll enc Tryd.prog W 0 (fun _ => true) true Tryd.f6.params.toList args.toList ds p := hA0
  have hA1 := hA
  simp only [List.append_nil] at hW'
  rw [Tryd.params6] at hA hval
  obtain ⟨v0, v1, d0, d1, p0, p1, rfl, rfl, rfl, h0, h1⟩ := trodAll_two hA
  obtain ⟨a, rfl, rfl, rfl, w0⟩ := open_int Tryd.underlying3 (hval 0 3 v0 rfl rfl) h0
  obtain ⟨b, rfl, rfl, rfl, w1⟩ := open_int Tryd.underlying3 (hval 1 3 v1 rfl rfl) h1
  refine (small_any a b W (int_bounds w0) (int_bounds w1)).mono fun e W' ⟨he, hb⟩ => ?_
  subst he
  exact ⟨_, rfl, post_law Tryd.laidOut rfl rfl Tryd.underlying4 (by rw [Tryd.params6]; intro t ht; simp at ht; rcases ht with rfl <;> exact ⟨by kernel_rfl, of_decide_eq_true (by kernel_rfl)⟩) hW' hA1 rfl rfl rfl hb⟩

theorem integerSmall_row : Rows.IntegerSmallSaid :=
  OpenClaim.holds_of_wide 6 Tryd.f6 rfl rfl rfl rfl rfl rfl rfl ⟨rfl, rfl, rfl, rfl, rfl⟩ rfl rfl rfl rfl rfl (by kernel_rfl) Tryd.func6 (by kernel_rfl)
    (of_decide_eq_true (by kernel_rfl)) (by unfold Func.isWrapper; first | (rw [if_pos (by decide +kernel)]; kernel_rfl) | (rw [if_neg (by decide +kernel)]; exact ⟨rfl, rfl⟩))
    (fun os started H enc _ => integerSmall_lifted os started H enc)

theorem integerSmall_holds : Rows.IntegerSmallCardSaid :=
  Claim7.holds_tied_plain_at .later [] [.data, .data, .data] true (true, "a13a8394b3c8a532f2cadfbd12bb6851392457b275959896a3b594576ee02bf4") false
    integerSmall_row (fun _ h => by cases h) (by kernel_rfl) (fun _ h => by cases h) integerSmall_row_tie rfl ⟨rfl, rfl⟩ (by kernel_rfl) rfl
    (fun f fn hf hfn => by
      obtain rfl : f = 6 := Option.some.inj ((show Tryd.prog.funcNamed "substation/substationlaw01.IntegerSmall" = some 6 by kernel_rfl).symm.trans hf) |>.symm
      obtain rfl : fn = Tryd.f6 := (Option.some.inj (Tryd.func6.symm.trans hfn)).symm
      exact ⟨by kernel_rfl, fun j t ht => by
        rw [Tryd.params6] at ht
        have hm : t ∈ [3, 3] := by simpa using Array.mem_of_getElem? ht
        have hall : (([3, 3] : List TypeId).all fun u => !Tryd.prog.wantsStandIn u) = true := by kernel_rfl
        exact (show Tryd.prog.wantsStandIn t = false by simpa using List.all_eq_true.1 hall t hm)⟩)
    (by kernel_rfl)
#print axioms integerSmall_holds
end Go.Proofs.YtfdpbcjcinchgaaDoor
