/- StreamChecks returns true for every input: Check, Same and Count agree with the specification. No conditions. -/
import Derived.Test.YtmlcmnbjioabiaaSe
import Derived.Test.YtmlcmnbjioabiaaRow
namespace Go.Proofs.Ytmlcmnbjioabiaa
open Go.RowKit Go.ChangeShapes Go.WideShapes Go.ChangeAt Go.Joins Go.Deep

theorem int_bounds {x : Int} (h : (Lit.int .i64 x).wf = true) : -9223372036854775808 ≤ x ∧ x ≤ 9223372036854775807 := by
  simp [Lit.wf, IntKind.min, IntKind.max, IntKind.signed, IntKind.bits] at h
  exact ⟨by omega, by omega⟩

theorem Try.cells3 : Try.prog.cellsOf 3 = 1 := by kernel_rfl
theorem Try.cells4 : Try.prog.cellsOf 4 = 1 := by kernel_rfl
theorem Try.cells22 : Try.prog.cellsOf 22 = 1 := by kernel_rfl
section
variable {H : Type} {enc : TypeId × Value → H} {w : World} {base : Nat} {spare : Nat → Bool} {held : Bool}
/-- An argument that is a frame. -/
theorem open_frame {r : Reach} {b0 : Nat} {t : TypeId} {v : Value} {d : DataW H} {p : List MemPlace} (hs : Try.prog.underlying t = Try.prog.underlying 24) (hone : Try.prog.cellsOf t = 5)
    (hv : Value.okWide Try.prog w r b0 t v) (h : DataW.Trod enc Try.prog w base spare held t v d p) :
    ∃ (unit count : Int) (sy : Bool) (S Q : List Int) (A B : Option Addr) (n m c d : Nat), v = .agg #[.int .i64 unit, .int .i64 count, .bool sy, .slice A n c, .slice B m d] ∧ RFr w ⟨unit, count, sy, S, Q⟩ A B n m c d := by
  have hu := hs.trans Try.underlying24
  obtain ⟨cs, rfl, hsz⟩ := okWide_struct hu hv
  obtain ⟨l⟩ := cs
  rw [hone] at hsz
  obtain ⟨fuel, hf⟩ := h
  obtain ⟨xs, n, _, hx, _, hlen, hg⟩ := DataW.trod_struct hu hf
  match l, hsz with
  | [c0, c1, c2, c3, c4], _ =>
    match xs, hlen with
    | [y0, y1, y2, y3, y4], _ =>
      have g0 : DataW.trod enc Try.prog w base spare held n 3 [c0] = some y0 := by simpa [Value.cells, Try.cells3] using hg 0 _ rfl
      have g1 : DataW.trod enc Try.prog w base spare held n 3 [c1] = some y1 := by simpa [Value.cells, Try.cells3] using hg 1 _ rfl
      have g2 : DataW.trod enc Try.prog w base spare held n 4 [c2] = some y2 := by simpa [Value.cells, Try.cells4] using hg 2 _ rfl
      have g3 : DataW.trod enc Try.prog w base spare held n 22 [c3] = some y3 := by simpa [Value.cells, Try.cells22] using hg 3 _ rfl
      have g4 : DataW.trod enc Try.prog w base spare held n 22 [c4] = some y4 := by simpa [Value.cells, Try.cells22] using hg 4 _ rfl
      obtain ⟨a, e0, _, _⟩ := DataW.trod_int Try.underlying3 g0
      obtain ⟨b, e1, _, _⟩ := DataW.trod_int Try.underlying3 g1
      obtain ⟨s, e2, _⟩ := DataW.trod_bool Try.underlying4 g2
      obtain ⟨A, n1, k1, S, e3, hS, h1, h1', _⟩ := open_reads Try.underlying22 Try.underlying3 Try.cells3 g3
      obtain ⟨B, n2, k2, Q, e4, hQ, h2, h2', _⟩ := open_reads Try.underlying22 Try.underlying3 Try.cells3 g4
      simp at e0 e1 e2
      subst e0 e1 e2 e3 e4
      unfold maxLen at h1' h2'
      exact ⟨a, b, s, S, Q, A, B, n1, n2, k1, k2, rfl, ⟨hS, hQ, by omega, by omega⟩⟩
end

set_option maxRecDepth 100000 in
theorem streamChecks_lifted (os : Os) (started : os.Started) (H : Type) (enc : TypeId × Value → H) :
    ReturnsInHanded {} Try.checked os 3 .any (Rows.streamChecksSpec.pre6 enc Try.prog Try.f3 Rows.streamChecksRow.domain false) (Rows.streamChecksSpec.post enc Try.prog Try.f3 false true false false) := by
  refine returnsInHanded_of_change (C := Try.checked) Try.own started (by kernel_rfl) Try.func3
    (ChangeSpec.witness6 (enc := enc) (C := Try.checked) false ⟨#[], #[.agg #[.int .i64 0, .int .i64 0, .bool false, .slice none 0 0, .slice none 0 0], .agg #[.int .i64 0, .int .i64 0, .bool false, .slice none 0 0, .slice none 0 0], .int .i64 0], []⟩ 8 (by kernel_rfl) (by kernel_rfl) (by kernel_rfl) (by kernel_rfl)) ?_
  intro W base args ds gs before hval0 hW hcnd _
  have hval : ∀ (j : Nat) t v, Try.f3.params[j]? = some t → args[j]? = some v → Value.okWide Try.prog W .any base t v := hval0
  have hW' := hW
  obtain ⟨p, q, hA0, hV, rfl, hfz, hnd⟩ := hW
  obtain ⟨rfl, rfl⟩ := trodVars_none hV
  have hA : DataW.TrodAll enc Try.prog W 0 (fun _ => true) true Try.f3.params.toList args.toList ds p := hA0
  have hA1 := hA
  simp only [List.append_nil] at hW'
  rw [Try.params3] at hA hval
  obtain ⟨v0, v1, v2, d0, d1, d2, p0, p1, p2, rfl, rfl, rfl, h0, h1, h2⟩ := trodAll_three hA
  obtain ⟨unit, count, sy, S, Q, A, B, n, m, c, d, rfl, hf⟩ := open_frame rfl (by kernel_rfl) (hval 0 24 v0 rfl rfl) h0
  obtain ⟨unit', count', sy', S', Q', A', B', n', m', c', d', rfl, hg⟩ := open_frame rfl (by kernel_rfl) (hval 1 24 v1 rfl rfl) h1
  obtain ⟨step, rfl, rfl, rfl, w2⟩ := open_int Try.underlying3 (hval 2 3 v2 rfl rfl) h2
  refine (checks_any unit count unit' count' sy sy' S Q S' Q' A B A' B' n m c d n' m' c' d' step W hf hg).mono fun e W' ⟨he, hb⟩ => ?_
  subst he
  exact ⟨_, rfl, post_law Try.laidOut rfl rfl Try.underlying4 (by rw [Try.params3]; intro t ht; simp at ht; rcases ht with rfl | rfl | rfl <;> exact ⟨by kernel_rfl, of_decide_eq_true (by kernel_rfl)⟩) hW' hA1 rfl rfl rfl hb⟩

theorem streamChecks_holds : Rows.StreamChecksSaid :=
  OpenClaim.holds_of_wide 3 Try.f3 rfl rfl rfl rfl rfl rfl rfl ⟨rfl, rfl, rfl, rfl, rfl⟩ rfl rfl rfl rfl rfl (by kernel_rfl) Try.func3 (by kernel_rfl)
    (of_decide_eq_true (by kernel_rfl)) (by unfold Func.isWrapper; first | (rw [if_pos (by decide +kernel)]; kernel_rfl) | (rw [if_neg (by decide +kernel)]; exact ⟨rfl, rfl⟩))
    (fun os started H enc _ => streamChecks_lifted os started H enc)
#print axioms streamChecks_holds
end Go.Proofs.Ytmlcmnbjioabiaa
