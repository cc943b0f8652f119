/- ExactExamples returns true: fixed cases of errors, texts and rounding have the specified results. No conditions but that the tables of Go's library are laid as the program's text lays them. -/
import Derived.Test.YtjeijmnhbckjdaaGreatDoorQMhnfac
import Derived.Test.YtjeijmnhbckjdaaGreatDoorQRowTedjg
namespace Go.Proofs.YtjeijmnhbckjdaaGreatDoor
open Go.RowKit Go.ChangeShapes Go.WideShapes Go.ChangeAt Go.Joins Go.Deep
set_option linter.unusedVariables false

set_option maxRecDepth 100000 in
theorem exactExamples_lifted (os : Os) (started : os.Started) (H : Type) (enc : TypeId × Value → H) :
    ReturnsInHanded {} Tryz.checked os 8 .any (fun w args => (Rows.exactExamplesSpec.pre enc Tryz.prog Tryz.f8 [] false w args ∧ laidMetH Tryz.prog laid3 w) ∧ sizedMet enc Tryz.prog Tryz.f8 (OpenSpec.ofChange Rows.exactExamplesSpec) false w args)
      (Rows.exactExamplesSpec.post enc Tryz.prog Tryz.f8 false true false false) := by
  refine returnsInHanded_of_change_and (C := Tryz.checked) (X := fun w _ => laidMetH Tryz.prog laid3 w) (fun _ _ _ hh h => h.of_heap hh) Tryz.own started (by kernel_rfl) Tryz.func8
    (ChangeSpec.witness_shaped (enc := enc) (C := Tryz.checked) (os := os) (X := fun w _ => laidMetH Tryz.prog laid3 w) false (World.doorLaid Tryz.prog 400 os) #[] 8 rfl (World.shaped_of_RefB (by kernel_rfl) (by kernel_rfl)) (by kernel_rfl) (by kernel_rfl) (by kernel_rfl) (door_met os _)) ?_
  intro W base args ds gs before hval0 hW _ _ hL _
  have hval : ∀ (j : Nat) t v, Tryz.f8.params[j]? = some t → args[j]? = some v → Value.okWide Tryz.prog W .any base t v := hval0
  have hW' := hW
  obtain ⟨p, q, hA0, hV, rfl, hfz, hnd⟩ := hW
  obtain ⟨rfl, rfl⟩ := trodVars_none hV
  have hA : DataW.TrodAll enc Tryz.prog W 0 (fun _ => true) true Tryz.f8.params.toList args.toList ds p := hA0
  have hA1 := hA
  simp only [List.append_nil] at hW'
  rw [Tryz.params8] at hA hval
  obtain ⟨hv, rfl, rfl⟩ := trodAll_nil hA
  obtain rfl : args = #[] := by simpa using hv
  refine (examples_ok W (tab_of hL)).mono fun e W' ⟨he, hb⟩ => ?_
  subst he
  exact ⟨_, rfl, post_law Tryz.laidOut rfl rfl Tryz.underlying4 (by rw [Tryz.params8]; intro t ht; simp at ht) hW' hA1 rfl rfl rfl hb⟩

theorem exactExamples_row : Rows.ExactExamplesSaid :=
  OpenClaim.holds_of_wide 8 Tryz.f8 rfl rfl rfl rfl rfl rfl rfl ⟨rfl, rfl, rfl, rfl, rfl⟩ rfl rfl rfl rfl rfl (by kernel_rfl) Tryz.func8 (by kernel_rfl)
    (of_decide_eq_true (by kernel_rfl)) (by unfold Func.isWrapper; first | (rw [if_pos (by decide +kernel)]; kernel_rfl) | (rw [if_neg (by decide +kernel)]; exact ⟨rfl, rfl⟩))
    (fun os started H enc _ => exactExamples_lifted os started H enc)

theorem exactExamples_holds : Rows.ExactExamplesCardSaid :=
  Claim7.holds_tied_plain_at .later [] [.data, .data, .data] true (true, "74250e998000ea05cffb7b708203a3a1703b78e5923976d5be014d9589fe0644") false
    exactExamples_row (fun _ h => by cases h) (by kernel_rfl) (fun _ h => by cases h) exactExamples_row_tie rfl ⟨rfl, rfl⟩ (by kernel_rfl) rfl
    (fun f fn hf hfn => by
      obtain rfl : f = 8 := Option.some.inj ((show Tryz.prog.funcNamed "substation/substationlaw38.ExactExamples" = some 8 by kernel_rfl).symm.trans hf) |>.symm
      obtain rfl : fn = Tryz.f8 := (Option.some.inj (Tryz.func8.symm.trans hfn)).symm
      exact ⟨by kernel_rfl, fun j t ht => by
        rw [Tryz.params8] at ht
        simp at ht⟩)
    (by kernel_rfl)
#print axioms exactExamples_holds
end Go.Proofs.YtjeijmnhbckjdaaGreatDoor
