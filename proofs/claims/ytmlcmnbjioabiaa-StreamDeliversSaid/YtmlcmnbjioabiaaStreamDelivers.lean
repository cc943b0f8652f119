/- StreamDelivers returns true for every input: the frames of a step are collected to the channels, in any order, doubled or among others; without one of them the step is lost. No conditions. -/
import Derived.Test.YtmlcmnbjioabiaaRow
import Derived.Test.YtmlcmnbjioabiaaSv
import Derived.Test.YtmlcmnbjioabiaaSw
import Derived.Test.YtmlcmnbjioabiaaSx
namespace Go.Proofs.Ytmlcmnbjioabiaa
set_option linter.unusedVariables false
open Go.RowKit Go.ChangeShapes Go.WideShapes Go.ChangeAt Go.Joins Go.Deep

theorem delivers_any (cs : Array Value) (u s : Int) (sm : Nat → Nat → Int) (O T : Option Addr) (nO cO nT cT : Nat) (lo lt : List Int) (lost other : Int) (w : World) (hC : CaseV w cs u s sm O T nO cO nT cT lo lt lost) :
    Calls Try.prog 7 #[.agg cs, .int .i64 other] w fun e w' => e = .returned (.bool true) ∧ Ext w w' := by
  by_cases h1 : lost < 0
  · exact delivers_neg cs u s sm O T nO cO nT cT lo lt lost other w hC h1
  by_cases h2 : 12 ≤ lost
  · exact delivers_big cs u s sm O T nO cO nT cT lo lt lost other w hC h2
  exact delivers_gone cs u s sm O T nO cO nT cT lo lt lost other w hC ⟨by omega, by omega⟩

theorem at_getD {cs : Array Value} {i : Nat} {v d : Value} (h : i < cs.size) (e : cs.toList.getD i d = v) : cs[i]? = some v := by
  subst e
  rw [← Array.getElem?_toList, List.getD_eq_getElem?_getD, List.getElem?_eq_getElem (by simpa using h)]
  rfl
theorem cut_at {L : List Value} {i k : Nat} {v : Value} (h : List.take 1 (List.drop (k * 1) (List.take 12 (List.drop (i * 12) (List.take 36 (List.drop 2 L))))) = [v]) : L[2 + i * 12 + k]? = some v := by
  have h1 := congrArg (fun l => l[0]?) h
  simp only [List.getElem?_take, List.getElem?_drop, List.getElem?_cons_zero] at h1
  split at h1
  · split at h1
    · split at h1
      · rw [← h1]; congr 1; omega
      · cases h1
    · cases h1
  · cases h1

section
variable {H : Type} {enc : TypeId × Value → H} {w : World} {base : Nat} {spare : Nat → Bool} {held : Bool}
set_option maxRecDepth 100000 in
/-- An argument that is a Case. -/
theorem open_case {r : Reach} {b0 : Nat} {v : Value} {d : DataW H} {p : List MemPlace} (hv : Value.okWide Try.prog w r b0 55 v) (h : DataW.Trod enc Try.prog w base spare held 55 v d p) :
    ∃ (cs : Array Value) (u s : Int) (sm : Nat → Nat → Int) (O T : Option Addr) (nO cO nT cT : Nat) (lo lt : List Int) (lost : Int), v = .agg cs ∧ CaseV w cs u s sm O T nO cO nT cT lo lt lost := by
  obtain ⟨cs, rfl, hsz⟩ := okWide_struct Try.underlying55 hv
  rw [show Try.prog.cellsOf 55 = 41 by kernel_rfl] at hsz
  have hl : cs.toList.length = 41 := by simpa using hsz
  obtain ⟨fuel, hf⟩ := h
  obtain ⟨xs, n, _, hx, _, hlen, hg⟩ := DataW.trod_struct Try.underlying55 hf
  match xs, hlen with
  | [y0, y1, y2, y3, y4, y5], _ =>
    have c0 : DataW.trod enc Try.prog w base spare held n 3 [cs.toList.getD 0 (.bool false)] = some y0 := by
      have : DataW.trod enc Try.prog w base spare held n 3 ((cs.toList.drop 0).take (Try.prog.cellsOf 3)) = some y0 := hg 0 _ rfl
      rw [Try.cells3] at this
      rw [← take1_drop _ 0 _ (by omega)]; exact this
    have c1 : DataW.trod enc Try.prog w base spare held n 3 [cs.toList.getD 1 (.bool false)] = some y1 := by
      have : DataW.trod enc Try.prog w base spare held n 3 ((cs.toList.drop 1).take (Try.prog.cellsOf 3)) = some y1 := hg 1 _ rfl
      rw [Try.cells3] at this
      rw [← take1_drop _ 1 _ (by omega)]; exact this
    have c2 : DataW.trod enc Try.prog w base spare held n 53 ((cs.toList.drop 2).take 36) = some y2 := by
      have : DataW.trod enc Try.prog w base spare held n 53 ((cs.toList.drop 2).take (Try.prog.cellsOf 53)) = some y2 := hg 2 _ rfl
      rw [show Try.prog.cellsOf 53 = 36 by kernel_rfl] at this
      exact this
    have c3 : DataW.trod enc Try.prog w base spare held n 22 [cs.toList.getD 38 (.bool false)] = some y3 := by
      have : DataW.trod enc Try.prog w base spare held n 22 ((cs.toList.drop 38).take (Try.prog.cellsOf 22)) = some y3 := hg 3 _ rfl
      rw [Try.cells22] at this
      rw [← take1_drop _ 38 _ (by omega)]; exact this
    have c4 : DataW.trod enc Try.prog w base spare held n 22 [cs.toList.getD 39 (.bool false)] = some y4 := by
      have : DataW.trod enc Try.prog w base spare held n 22 ((cs.toList.drop 39).take (Try.prog.cellsOf 22)) = some y4 := hg 4 _ rfl
      rw [Try.cells22] at this
      rw [← take1_drop _ 39 _ (by omega)]; exact this
    have c5 : DataW.trod enc Try.prog w base spare held n 3 [cs.toList.getD 40 (.bool false)] = some y5 := by
      have : DataW.trod enc Try.prog w base spare held n 3 ((cs.toList.drop 40).take (Try.prog.cellsOf 3)) = some y5 := hg 5 _ rfl
      rw [Try.cells3] at this
      rw [← take1_drop _ 40 _ (by omega)]; exact this
    obtain ⟨u, e0, _, _⟩ := DataW.trod_int Try.underlying3 c0
    obtain ⟨s, e1, _, _⟩ := DataW.trod_int Try.underlying3 c1
    obtain ⟨O, nO, cO, lo, e3, hO, h1, h1', _⟩ := open_reads Try.underlying22 Try.underlying3 Try.cells3 c3
    obtain ⟨T, nT, cT, lt, e4, hT, h2, h2', _⟩ := open_reads Try.underlying22 Try.underlying3 Try.cells3 c4
    obtain ⟨lost, e5, _, _⟩ := DataW.trod_int Try.underlying3 c5
    injection e0 with e0; injection e1 with e1; injection e5 with e5
    unfold maxLen at h1' h2'
    obtain ⟨rs, m, _, _, _, hrl, hrow⟩ := DataW.trod_array Try.underlying53 c2
    rw [show Try.prog.cellsOf 52 = 12 by kernel_rfl] at hrow
    have hsm : ∀ i k, i < 3 → k < 12 → ∃ z, cs[2 + i * 12 + k]? = some (.int .i64 z) := by
      intro i k hi hk
      have hr := hrow i hi
      rw [List.getElem?_eq_getElem (by omega)] at hr
      obtain ⟨qs, m', _, _, _, hql, hcell⟩ := DataW.trod_array Try.underlying52 hr
      rw [Try.cells3] at hcell
      have hc := hcell k hk
      rw [List.getElem?_eq_getElem (by omega)] at hc
      obtain ⟨z, e, _, _⟩ := DataW.trod_int Try.underlying3 hc
      have := cut_at e
      rw [Array.getElem?_toList] at this
      exact ⟨z, this⟩
    refine ⟨cs, u, s, fun i k => match cs[2 + i * 12 + k]? with | some (.int _ z) => z | _ => 0, O, T, nO, cO, nT, cT, lo, lt, lost, rfl, ⟨hsz, at_getD (by omega) e0, at_getD (by omega) e1, fun i k hi hk => ?_, at_getD (by omega) e3, at_getD (by omega) e4, at_getD (by omega) e5, hO, hT, by omega, by omega⟩⟩
    obtain ⟨z, hz⟩ := hsm i k hi hk
    simp only [hz]
end

set_option maxRecDepth 100000 in
theorem streamDelivers_lifted (os : Os) (started : os.Started) (H : Type) (enc : TypeId × Value → H) :
    ReturnsInHanded {} Try.checked os 7 .any (Rows.streamDeliversSpec.pre6 enc Try.prog Try.f7 Rows.streamDeliversRow.domain false) (Rows.streamDeliversSpec.post enc Try.prog Try.f7 false true false false) := by
  refine returnsInHanded_of_change (C := Try.checked) Try.own started (by kernel_rfl) Try.func7
    (ChangeSpec.witness6 (enc := enc) (C := Try.checked) false ⟨#[], #[.agg #[.int .i64 0, .int .i64 0, .int .i64 0, .int .i64 0, .int .i64 0, .int .i64 0, .int .i64 0, .int .i64 0, .int .i64 0, .int .i64 0, .int .i64 0, .int .i64 0, .int .i64 0, .int .i64 0, .int .i64 0, .int .i64 0, .int .i64 0, .int .i64 0, .int .i64 0, .int .i64 0, .int .i64 0, .int .i64 0, .int .i64 0, .int .i64 0, .int .i64 0, .int .i64 0, .int .i64 0, .int .i64 0, .int .i64 0, .int .i64 0, .int .i64 0, .int .i64 0, .int .i64 0, .int .i64 0, .int .i64 0, .int .i64 0, .int .i64 0, .int .i64 0, .slice none 0 0, .slice none 0 0, .int .i64 0], .int .i64 0], []⟩ 8 (by kernel_rfl) (by kernel_rfl) (by kernel_rfl) (by kernel_rfl)) ?_
  intro W base args ds gs before hval0 hW hcnd _
  have hval : ∀ (j : Nat) t v, Try.f7.params[j]? = some t → args[j]? = some v → Value.okWide Try.prog W .any base t v := hval0
  have hW' := hW
  obtain ⟨p, q, hA0, hV, rfl, hfz, hnd⟩ := hW
  obtain ⟨rfl, rfl⟩ := trodVars_none hV
  have hA : DataW.TrodAll enc Try.prog W 0 (fun _ => true) true Try.f7.params.toList args.toList ds p := hA0
  have hA1 := hA
  simp only [List.append_nil] at hW'
  rw [Try.params7] at hA hval
  obtain ⟨v0, v1, d0, d1, p0, p1, rfl, rfl, rfl, h0, h1⟩ := trodAll_two hA
  obtain ⟨cs, u, s, sm, O, T, nO, cO, nT, cT, lo, lt, lost, rfl, hC⟩ := open_case (hval 0 55 v0 rfl rfl) h0
  obtain ⟨other, rfl, rfl, rfl, w1⟩ := open_int Try.underlying3 (hval 1 3 v1 rfl rfl) h1
  refine (delivers_any cs u s sm O T nO cO nT cT lo lt lost other W hC).mono fun e W' ⟨he, hb⟩ => ?_
  subst he
  exact ⟨_, rfl, post_law Try.laidOut rfl rfl Try.underlying4 (by rw [Try.params7]; intro t ht; simp at ht; rcases ht with rfl | rfl <;> exact ⟨by kernel_rfl, of_decide_eq_true (by kernel_rfl)⟩) hW' hA1 rfl rfl rfl hb⟩

theorem streamDelivers_holds : Rows.StreamDeliversSaid :=
  OpenClaim.holds_of_wide 7 Try.f7 rfl rfl rfl rfl rfl rfl rfl ⟨rfl, rfl, rfl, rfl, rfl⟩ rfl rfl rfl rfl rfl (by kernel_rfl) Try.func7 (by kernel_rfl)
    (of_decide_eq_true (by kernel_rfl)) (by unfold Func.isWrapper; first | (rw [if_pos (by decide +kernel)]; kernel_rfl) | (rw [if_neg (by decide +kernel)]; exact ⟨rfl, rfl⟩))
    (fun os started H enc _ => streamDelivers_lifted os started H enc)
#print axioms streamDelivers_holds
end Go.Proofs.Ytmlcmnbjioabiaa
