/- ExactPhases returns true for every input: Phases returns the specified phasors, and they add up to three times the zero sequence quantity. No conditions but that the tables of Go's library are laid as the program's text lays them. -/
import Derived.Test.YtjeijmnhbckjdaaGreatDoorQWccgbm
import Derived.Test.YtjeijmnhbckjdaaGreatDoorQRowThclo
import Derived.Test.YtjeijmnhbckjdaaGreatDoorQRowGfjjk
namespace Go.Proofs.YtjeijmnhbckjdaaGreatDoor
open Go.RowKit Go.ChangeShapes Go.WideShapes Go.ChangeAt Go.Joins Go.Deep
set_option linter.unusedVariables false

set_option maxRecDepth 100000 in
theorem exactPhases_lifted (os : Os) (started : os.Started) (H : Type) (enc : TypeId × Value → H) :
    ReturnsInHanded {} Tryz.checked os 6 .any (fun w args => (Rows.exactPhasesSpec.pre enc Tryz.prog Tryz.f6 [] false w args ∧ laidMetH Tryz.prog laid3 w) ∧ sizedMet enc Tryz.prog Tryz.f6 (OpenSpec.ofChange Rows.exactPhasesSpec) false w args)
      (Rows.exactPhasesSpec.post enc Tryz.prog Tryz.f6 false true false false) := by
  refine returnsInHanded_of_change_and (C := Tryz.checked) (X := fun w _ => laidMetH Tryz.prog laid3 w) (fun _ _ _ hh h => h.of_heap hh) Tryz.own started (by kernel_rfl) Tryz.func6
    (ChangeSpec.witness_shaped (enc := enc) (C := Tryz.checked) (os := os) (X := fun w _ => laidMetH Tryz.prog laid3 w) false (World.doorLaid Tryz.prog 400 os) #[.agg #[.bool false, .slice none 0 0, .bool false, .slice none 0 0, .bool false, .slice none 0 0], .agg #[.bool false, .slice none 0 0, .bool false, .slice none 0 0, .bool false, .slice none 0 0], .agg #[.bool false, .slice none 0 0, .bool false, .slice none 0 0, .bool false, .slice none 0 0]] 8 rfl (World.shaped_of_RefB (by kernel_rfl) (by kernel_rfl)) (by kernel_rfl) (by kernel_rfl) (by kernel_rfl) (door_met os _)) ?_
  intro W base args ds gs before hval0 hW _ _ hL _
  have hval : ∀ (j : Nat) t v, Tryz.f6.params[j]? = some t → args[j]? = some v → Value.okWide Tryz.prog W .any base t v := hval0
  have hW' := hW
  obtain ⟨p, q, hA0, hV, rfl, hfz, hnd⟩ := hW
  obtain ⟨rfl, rfl⟩ := trodVars_none hV
  have hA : DataW.TrodAll enc Tryz.prog W 0 (fun _ => true) true Tryz.f6.params.toList args.toList ds p := hA0
  have hA1 := hA
  simp only [List.append_nil] at hW'
  rw [Tryz.params6] at hA hval
  obtain ⟨v0, v1, v2, d0, d1, d2, p0, p1, p2, rfl, rfl, rfl, h0, h1, h2⟩ := trodAll_three hA
  obtain ⟨s0a, A0a, n0a, c0a, l0a, s0b, A0b, n0b, c0b, l0b, s0d, A0d, n0d, c0d, l0d, rfl, r0⟩ := open_gauss_ (hval 0 26 v0 rfl rfl) h0
  obtain ⟨s1a, A1a, n1a, c1a, l1a, s1b, A1b, n1b, c1b, l1b, s1d, A1d, n1d, c1d, l1d, rfl, r1⟩ := open_gauss_ (hval 1 26 v1 rfl rfl) h1
  obtain ⟨s2a, A2a, n2a, c2a, l2a, s2b, A2b, n2b, c2b, l2b, s2d, A2d, n2d, c2d, l2d, rfl, r2⟩ := open_gauss_ (hval 2 26 v2 rfl rfl) h2
  refine (phases_any W r0 r1 r2 (tab_of hL)).mono fun e W' ⟨he, hb⟩ => ?_
  subst he
  exact ⟨_, rfl, post_law Tryz.laidOut rfl rfl Tryz.underlying4 (by rw [Tryz.params6]; intro t ht; simp at ht; rcases ht with rfl <;> exact ⟨by kernel_rfl, of_decide_eq_true (by kernel_rfl)⟩) hW' hA1 rfl rfl rfl hb⟩

theorem exactPhases_row : Rows.ExactPhasesSaid :=
  OpenClaim.holds_of_wide 6 Tryz.f6 rfl rfl rfl rfl rfl rfl rfl ⟨rfl, rfl, rfl, rfl, rfl⟩ rfl rfl rfl rfl rfl (by kernel_rfl) Tryz.func6 (by kernel_rfl)
    (of_decide_eq_true (by kernel_rfl)) (by unfold Func.isWrapper; first | (rw [if_pos (by decide +kernel)]; kernel_rfl) | (rw [if_neg (by decide +kernel)]; exact ⟨rfl, rfl⟩))
    (fun os started H enc _ => exactPhases_lifted os started H enc)

theorem exactPhases_holds : Rows.ExactPhasesCardSaid :=
  Claim7.holds_tied_plain_at .later [] [.data, .data, .data] true (true, "74250e998000ea05cffb7b708203a3a1703b78e5923976d5be014d9589fe0644") false
    exactPhases_row (fun _ h => by cases h) (by kernel_rfl) (fun _ h => by cases h) exactPhases_row_tie rfl ⟨rfl, rfl⟩ (by kernel_rfl) rfl
    (fun f fn hf hfn => by
      obtain rfl : f = 6 := Option.some.inj ((show Tryz.prog.funcNamed "substation/substationlaw38.ExactPhases" = some 6 by kernel_rfl).symm.trans hf) |>.symm
      obtain rfl : fn = Tryz.f6 := (Option.some.inj (Tryz.func6.symm.trans hfn)).symm
      exact ⟨by kernel_rfl, fun j t ht => by
        rw [Tryz.params6] at ht
        have hm : t ∈ [26, 26, 26] := by simpa using Array.mem_of_getElem? ht
        have hall : (([26, 26, 26] : List TypeId).all fun u => !Tryz.prog.wantsStandIn u) = true := by kernel_rfl
        exact (show Tryz.prog.wantsStandIn t = false by simpa using List.all_eq_true.1 hall t hm)⟩)
    (by kernel_rfl)
#print axioms exactPhases_holds
end Go.Proofs.YtjeijmnhbckjdaaGreatDoor
