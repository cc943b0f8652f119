/- LinearExamples returns true: fixed cases of dimensions and singular matrices have the specified results. No conditions. -/
import Derived.Test.YtclkkoiaaddllaaGreatQYxhgji
import Derived.Test.YtclkkoiaaddllaaGreatQRowijhn
namespace Go.Proofs.YtclkkoiaaddllaaGreat
open Go.RowKit Go.ChangeShapes Go.WideShapes Go.ChangeAt Go.Joins Go.Deep
set_option linter.unusedVariables false

set_option maxRecDepth 100000 in
theorem linearExamples_lifted (os : Os) (started : os.Started) (H : Type) (enc : TypeId × Value → H) :
    ReturnsInHanded {} Tryz.checked os 5 .any (Rows.linearExamplesSpec.pre6 enc Tryz.prog Tryz.f5 Rows.linearExamplesRow.domain false) (Rows.linearExamplesSpec.post enc Tryz.prog Tryz.f5 false true false false) := by
  refine returnsInHanded_of_change (C := Tryz.checked) Tryz.own started (by kernel_rfl) Tryz.func5
    (ChangeSpec.witness6 (enc := enc) (C := Tryz.checked) false ⟨#[], #[], []⟩ 8 (by kernel_rfl) (by kernel_rfl) (by kernel_rfl) (by kernel_rfl)) ?_
  intro W base args ds gs before hval0 hW hcnd _
  have hval : ∀ (j : Nat) t v, Tryz.f5.params[j]? = some t → args[j]? = some v → Value.okWide Tryz.prog W .any base t v := hval0
  have hW' := hW
  obtain ⟨p, q, hA0, hV, rfl, hfz, hnd⟩ := hW
  obtain ⟨rfl, rfl⟩ := trodVars_none hV
  have hA : DataW.TrodAll enc Tryz.prog W 0 (fun _ => true) true Tryz.f5.params.toList args.toList ds p := hA0
  have hA1 := hA
  simp only [List.append_nil] at hW'
  rw [Tryz.params5] at hA hval
  obtain ⟨hv, rfl, rfl⟩ := trodAll_nil hA
  obtain rfl : args = #[] := by simpa using hv
  refine (lexamples_any W).mono fun e W' ⟨he, hb⟩ => ?_
  subst he
  exact ⟨_, rfl, post_law Tryz.laidOut rfl rfl Tryz.underlying4 (by rw [Tryz.params5]; intro t ht; simp at ht) hW' hA1 rfl rfl rfl hb⟩

theorem linearExamples_holds : Rows.LinearExamplesSaid :=
  OpenClaim.holds_of_wide 5 Tryz.f5 rfl rfl rfl rfl rfl rfl rfl ⟨rfl, rfl, rfl, rfl, rfl⟩ rfl rfl rfl rfl rfl (by kernel_rfl) Tryz.func5 (by kernel_rfl)
    (of_decide_eq_true (by kernel_rfl)) (by unfold Func.isWrapper; first | (rw [if_pos (by decide +kernel)]; kernel_rfl) | (rw [if_neg (by decide +kernel)]; exact ⟨rfl, rfl⟩))
    (fun os started H enc _ => linearExamples_lifted os started H enc)
#print axioms linearExamples_holds
end Go.Proofs.YtclkkoiaaddllaaGreat
