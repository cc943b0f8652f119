/- IntegerValid returns true for every input: Valid, Sign, Compare, Small and Text agree with the specification for any two integers, valid or not. No conditions but that the tables of Go's library are laid as the program's text lays them. -/
import Derived.Test.YtfdpbcjcinchgaaDoorLo
import Derived.Test.YtfdpbcjcinchgaaDoorRowD
import Derived.Lib.LaidTab
import Derived.Stop.LaidErr
namespace Go.Proofs.YtfdpbcjcinchgaaDoor
open Go.RowKit Go.ChangeShapes Go.WideShapes Go.ChangeAt Go.Joins Go.Deep
set_option linter.unusedVariables false

set_option maxRecDepth 100000 in
theorem tab_of {W : World} (h : laidMetH Tryd.prog laid3 W) : Tab W := by
  rw [MakeChecks.laidMetH_plain _ _ _ (by kernel_rfl)] at h
  have h2 := laidMet.tail (laidMet.tail h)
  exact Lib.tabIs_of_head (g := 0) (t := 109) (e := 52) (n := 20) (by kernel_rfl) (by kernel_rfl) (by kernel_rfl) (by kernel_rfl) (by kernel_rfl) (by kernel_rfl) h2

set_option maxRecDepth 100000 in
set_option maxHeartbeats 800000 in
theorem valid_large (v u : Value) (s t : Bool) (l k : List Nat) (w : World) (hX : RX w v s l) (hY : RX w u t k) (hl : ¬ (l.length ≤ 40 ∧ k.length ≤ 40)) :
    Calls Tryd.prog 3 #[v, u] w fun e w' => e = .returned (.bool true) ∧ Ext w w' := by
  obtain ⟨A, n, c, rfl, hx⟩ := hX
  obtain ⟨B, m, d, rfl, hy⟩ := hY
  rw [hx.len, hy.len] at hl
  have HL := Lib.hid hl; clear hl
  go_enter Tryd.func3, Tryd.ntmps3
  go_wp2_with fail
  refine (known_any _).mono ?_
  rintro e w1 ⟨rfl, hx1⟩
  have b2 := (((Blk.new w 24 #[.bool s, .slice A n c]).alloc (.cells #[.bool t, .slice B m d] 24)).ext hx1).cell
  have b3 := ((Blk.new' (w := w.alloc (.cells #[.bool s, .slice A n c] 24)) (g := w.heap.size + 1) 24 #[.bool t, .slice B m d] (by simp)).ext hx1).cell
  go_wp2_with fail
  refine (Large_any w1.heap.size 2 [(A, n, c), (B, m, d)] _ (by simp) (large2 (Blk.new w1 24 #[.bool s, .slice A n c, .bool t, .slice B m d]))).mono ?_
  rintro e w2 ⟨rfl, hx2⟩
  rw [large2_yes HL.out]
  go_wp2
  go_ret
  exact ⟨rfl, (((Ext.new w _).alloc _).trans hx1).trans ((Ext.new w1 _).trans hx2)⟩

theorem valid_any (v u : Value) (s t : Bool) (l k : List Nat) (w : World) (hX : RX w v s l) (hY : RX w u t k) (hT : Tab w) :
    Calls Tryd.prog 3 #[v, u] w fun e w' => e = .returned (.bool true) ∧ Ext w w' := by
  by_cases h : l.length ≤ 40 ∧ k.length ≤ 40
  · exact valid_small v u s t l k w hX hY hT h.1 h.2
  · exact valid_large v u s t l k w hX hY h

set_option maxRecDepth 100000 in
theorem integerValid_lifted (os : Os) (started : os.Started) (H : Type) (enc : TypeId × Value → H) :
    ReturnsInHanded {} Tryd.checked os 3 .any (fun w args => (Rows.integerValidSpec.pre enc Tryd.prog Tryd.f3 [] false w args ∧ laidMetH Tryd.prog laid3 w) ∧ sizedMet enc Tryd.prog Tryd.f3 (OpenSpec.ofChange Rows.integerValidSpec) false w args)
      (Rows.integerValidSpec.post enc Tryd.prog Tryd.f3 false true false false) := by
  refine returnsInHanded_of_change_and (C := Tryd.checked) (X := fun w _ => laidMetH Tryd.prog laid3 w) (fun _ _ _ hh h => h.of_heap hh) Tryd.own started (by kernel_rfl) Tryd.func3
    (ChangeSpec.witness_shaped (enc := enc) (C := Tryd.checked) (os := os) (X := fun w _ => laidMetH Tryd.prog laid3 w) false (World.doorLaid Tryd.prog 400 os) #[.agg #[.bool false, .slice none 0 0], .agg #[.bool false, .slice none 0 0]] 8 rfl (World.shaped_of_RefB (by kernel_rfl) (by kernel_rfl)) (by kernel_rfl) (by kernel_rfl) (by kernel_rfl) (door_met os _)) ?_
  intro W base args ds gs before hval0 hW _ _ hL _
  have hval : ∀ (j : Nat) t v, Tryd.f3.params[j]? = some t → args[j]? = some v → Value.okWide Tryd.prog W .any base t v := hval0
  have hW' := hW
  obtain ⟨p, q, hA0, hV, rfl, hfz, hnd⟩ := hW
  obtain ⟨rfl, rfl⟩ := trodVars_none hV
  have hA : DataW.TrodAll enc Tryd.prog W 0 (fun _ => true) true Tryd.f3.params.toList args.toList ds p := hA0
  have hA1 := hA
  simp only [List.append_nil] at hW'
  rw [Tryd.params3] at hA hval
  obtain ⟨v0, v1, d0, d1, p0, p1, rfl, rfl, rfl, h0, h1⟩ := trodAll_two hA
  obtain ⟨s, l, hX⟩ := open_int_ rfl (by kernel_rfl) (hval 0 24 v0 rfl rfl) h0
  obtain ⟨t, k, hY⟩ := open_int_ rfl (by kernel_rfl) (hval 1 24 v1 rfl rfl) h1
  refine (valid_any v0 v1 s t l k W hX hY (tab_of hL)).mono fun e W' ⟨he, hb⟩ => ?_
  subst he
  exact ⟨_, rfl, post_law Tryd.laidOut rfl rfl Tryd.underlying4 (by rw [Tryd.params3]; intro t ht; simp at ht; rcases ht with rfl <;> exact ⟨by kernel_rfl, of_decide_eq_true (by kernel_rfl)⟩) hW' hA1 rfl rfl rfl hb⟩

theorem integerValid_row : Rows.IntegerValidSaid :=
  OpenClaim.holds_of_wide 3 Tryd.f3 rfl rfl rfl rfl rfl rfl rfl ⟨rfl, rfl, rfl, rfl, rfl⟩ rfl rfl rfl rfl rfl (by kernel_rfl) Tryd.func3 (by kernel_rfl)
    (of_decide_eq_true (by kernel_rfl)) (by unfold Func.isWrapper; first | (rw [if_pos (by decide +kernel)]; kernel_rfl) | (rw [if_neg (by decide +kernel)]; exact ⟨rfl, rfl⟩))
    (fun os started H enc _ => integerValid_lifted os started H enc)

theorem integerValid_holds : Rows.IntegerValidCardSaid :=
  Claim7.holds_tied_plain_at .later [] [.data, .data, .data] true (true, "a13a8394b3c8a532f2cadfbd12bb6851392457b275959896a3b594576ee02bf4") false
    integerValid_row (fun _ h => by cases h) (by kernel_rfl) (fun _ h => by cases h) integerValid_row_tie rfl ⟨rfl, rfl⟩ (by kernel_rfl) rfl
    (fun f fn hf hfn => by
      obtain rfl : f = 3 := Option.some.inj ((show Tryd.prog.funcNamed "substation/substationlaw01.IntegerValid" = some 3 by kernel_rfl).symm.trans hf) |>.symm
      obtain rfl : fn = Tryd.f3 := (Option.some.inj (Tryd.func3.symm.trans hfn)).symm
      exact ⟨by kernel_rfl, fun j t ht => by
        rw [Tryd.params3] at ht
        have hm : t ∈ [24, 24] := by simpa using Array.mem_of_getElem? ht
        have hall : (([24, 24] : List TypeId).all fun u => !Tryd.prog.wantsStandIn u) = true := by kernel_rfl
        exact (show Tryd.prog.wantsStandIn t = false by simpa using List.all_eq_true.1 hall t hm)⟩)
    (by kernel_rfl)
#print axioms integerValid_holds
end Go.Proofs.YtfdpbcjcinchgaaDoor
