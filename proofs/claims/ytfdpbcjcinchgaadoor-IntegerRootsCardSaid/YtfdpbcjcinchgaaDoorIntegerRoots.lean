/- IntegerRoots returns true for every input: Root returns the r with r * r <= x < (r + 1) * (r + 1), and the root of a square is the number itself. No conditions but that the tables of Go's library are laid as the program's text lays them. -/
import Derived.Test.YtfdpbcjcinchgaaDoorLm
import Derived.Test.YtfdpbcjcinchgaaDoorRowD
namespace Go.Proofs.YtfdpbcjcinchgaaDoor
open Go.RowKit Go.ChangeShapes Go.WideShapes Go.ChangeAt Go.Joins Go.Deep
set_option linter.unusedVariables false

theorem len40 {w : World} {v : Value} {s : Bool} {l : List Nat} (hX : RX w v s l) (hv : validB s l = true) (h : l.length ≤ 40) : RI w v (zOf s (val l)) ∧ Fits 40 (zOf s (val l)) ∧ (digs (zOf s (val l)).natAbs).length ≤ 40 := by
  have hd : Dig l := by obtain ⟨A, n, c, _, hx⟩ := hX; exact hx.dg
  refine ⟨(RI.of_valid hX hv).1, Fits.of_len hd h, ?_⟩
  rw [zOf_abs]
  exact digs_len_le (Nat.lt_of_lt_of_le (val_lt hd) (Nat.pow_le_pow_right (by omega) h))

theorem roots_any (v0 : Value) (s0 : Bool) (l0 : List Nat) (w : World) (hX : RX w v0 s0 l0) :
    Calls Tryd.prog 11 #[v0] w fun e w' => e = .returned (.bool true) ∧ Ext w w' := by
  by_cases h : l0.length ≤ 40
  · cases h1 : validB s0 l0
    · exact roots_skip1 v0 s0 l0 w hX h h1
    · cases hs : s0
      · subst hs
        obtain ⟨ix, fx, lx⟩ := len40 hX h1 h
        exact roots_small v0 _ (val l0) w ix (zOf_pos _) fx lx
      · exact roots_skip2 v0 s0 l0 w hX h h1 hs
  · exact roots_skip0 v0 s0 l0 w hX h

set_option maxRecDepth 100000 in
theorem integerRoots_lifted (os : Os) (started : os.Started) (H : Type) (enc : TypeId × Value → H) :
    ReturnsInHanded {} Tryd.checked os 11 .any (fun w args => (Rows.integerRootsSpec.pre enc Tryd.prog Tryd.f11 [] false w args ∧ laidMetH Tryd.prog laid3 w) ∧ sizedMet enc Tryd.prog Tryd.f11 (OpenSpec.ofChange Rows.integerRootsSpec) false w args)
      (Rows.integerRootsSpec.post enc Tryd.prog Tryd.f11 false true false false) := by
  refine returnsInHanded_of_change_and (C := Tryd.checked) (X := fun w _ => laidMetH Tryd.prog laid3 w) (fun _ _ _ hh h => h.of_heap hh) Tryd.own started (by kernel_rfl) Tryd.func11
    (ChangeSpec.witness_shaped (enc := enc) (C := Tryd.checked) (os := os) (X := fun w _ => laidMetH Tryd.prog laid3 w) false (World.doorLaid Tryd.prog 400 os) #[.agg #[.bool false, .slice none 0 0]] 8 rfl (World.shaped_of_RefB (by kernel_rfl) (by kernel_rfl)) (by kernel_rfl) (by kernel_rfl) (by kernel_rfl) (door_met os _)) ?_
  intro W base args ds gs before hval0 hW _ _ hL _
  have hval : ∀ (j : Nat) t v, Tryd.f11.params[j]? = some t → args[j]? = some v → Value.okWide Tryd.prog W .any base t v := hval0
  have hW' := hW
  obtain ⟨p, q, hA0, hV, rfl, hfz, hnd⟩ := hW
  obtain ⟨rfl, rfl⟩ := trodVars_none hV
  have hA : DataW.TrodAll enc Tryd.prog W 0 (fun _ => true) true Tryd.f11.params.toList args.toList ds p := hA0
  have hA1 := hA
  simp only [List.append_nil] at hW'
  rw [Tryd.params11] at hA hval
  obtain ⟨v0, d0, rfl, rfl, h0⟩ := trodAll_one hA
  obtain ⟨s, l, hX⟩ := open_int_ rfl (by kernel_rfl) (hval 0 24 v0 rfl rfl) h0
  refine (roots_any v0 s l W hX).mono fun e W' ⟨he, hb⟩ => ?_
  subst he
  exact ⟨_, rfl, post_law Tryd.laidOut rfl rfl Tryd.underlying4 (by rw [Tryd.params11]; intro t ht; simp at ht; rcases ht with rfl <;> exact ⟨by kernel_rfl, of_decide_eq_true (by kernel_rfl)⟩) hW' hA1 rfl rfl rfl hb⟩

theorem integerRoots_row : Rows.IntegerRootsSaid :=
  OpenClaim.holds_of_wide 11 Tryd.f11 rfl rfl rfl rfl rfl rfl rfl ⟨rfl, rfl, rfl, rfl, rfl⟩ rfl rfl rfl rfl rfl (by kernel_rfl) Tryd.func11 (by kernel_rfl)
    (of_decide_eq_true (by kernel_rfl)) (by unfold Func.isWrapper; first | (rw [if_pos (by decide +kernel)]; kernel_rfl) | (rw [if_neg (by decide +kernel)]; exact ⟨rfl, rfl⟩))
    (fun os started H enc _ => integerRoots_lifted os started H enc)

theorem integerRoots_holds : Rows.IntegerRootsCardSaid :=
  Claim7.holds_tied_plain_at .later [] [.data, .data, .data] true (true, "a13a8394b3c8a532f2cadfbd12bb6851392457b275959896a3b594576ee02bf4") false
    integerRoots_row (fun _ h => by cases h) (by kernel_rfl) (fun _ h => by cases h) integerRoots_row_tie rfl ⟨rfl, rfl⟩ (by kernel_rfl) rfl
    (fun f fn hf hfn => by
      obtain rfl : f = 11 := Option.some.inj ((show Tryd.prog.funcNamed "substation/substationlaw01.IntegerRoots" = some 11 by kernel_rfl).symm.trans hf) |>.symm
      obtain rfl : fn = Tryd.f11 := (Option.some.inj (Tryd.func11.symm.trans hfn)).symm
      exact ⟨by kernel_rfl, fun j t ht => by
        rw [Tryd.params11] at ht
        have hm : t ∈ [24] := by simpa using Array.mem_of_getElem? ht
        have hall : (([24] : List TypeId).all fun u => !Tryd.prog.wantsStandIn u) = true := by kernel_rfl
        exact (show Tryd.prog.wantsStandIn t = false by simpa using List.all_eq_true.1 hall t hm)⟩)
    (by kernel_rfl)
#print axioms integerRoots_holds
end Go.Proofs.YtfdpbcjcinchgaaDoor
