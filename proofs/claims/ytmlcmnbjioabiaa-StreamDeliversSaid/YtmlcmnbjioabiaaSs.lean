/- The walk of StreamDelivers. -/
import Derived.Test.YtmlcmnbjioabiaaSu
import Derived.Test.YtmlcmnbjioabiaaOrd
namespace Go.Proofs.Ytmlcmnbjioabiaa
set_option linter.unusedVariables false
open Go.RowKit Go.ChangeShapes Go.WideShapes Go.ChangeAt Go.Joins Go.Deep

/-- Two frames of a block change places. -/
theorem FBr.swap10 {W : World} {g a b : Nat} {fs : List Fr} {rows : List (List Value)} {fa fb : Fr} {x0 x1 x2 x3 x4 y0 y1 y2 y3 y4 : Value} (h : FBr W g fs rows) (ha : fs[a]? = some fa) (hb : fs[b]? = some fb) (hra : rows[a]? = some [x0, x1, x2, x3, x4]) (hrb : rows[b]? = some [y0, y1, y2, y3, y4]) :
    FBr ((((((((((W.setCell ⟨g, a * 5, none⟩ y0).setCell ⟨g, a * 5 + 1, none⟩ y1).setCell ⟨g, a * 5 + 2, none⟩ y2).setCell ⟨g, a * 5 + 3, none⟩ y3).setCell ⟨g, a * 5 + 4, none⟩ y4).setCell ⟨g, b * 5, none⟩ x0).setCell ⟨g, b * 5 + 1, none⟩ x1).setCell ⟨g, b * 5 + 2, none⟩ x2).setCell ⟨g, b * 5 + 3, none⟩ x3).setCell ⟨g, b * 5 + 4, none⟩ x4).drew g ((fs.set a fb).set b fa) ((rows.set a [y0, y1, y2, y3, y4]).set b [x0, x1, x2, x3, x4]) ∧ Only g W ((((((((((W.setCell ⟨g, a * 5, none⟩ y0).setCell ⟨g, a * 5 + 1, none⟩ y1).setCell ⟨g, a * 5 + 2, none⟩ y2).setCell ⟨g, a * 5 + 3, none⟩ y3).setCell ⟨g, a * 5 + 4, none⟩ y4).setCell ⟨g, b * 5, none⟩ x0).setCell ⟨g, b * 5 + 1, none⟩ x1).setCell ⟨g, b * 5 + 2, none⟩ x2).setCell ⟨g, b * 5 + 3, none⟩ x3).setCell ⟨g, b * 5 + 4, none⟩ x4).drew := by
  have hal := (List.getElem?_eq_some_iff.1 hra).1
  have hbl := (List.getElem?_eq_some_iff.1 hrb).1
  have h1 := (((((h.2.2.setL (i := a * 5) y0).setL (i := a * 5 + 1) y1).setL (i := a * 5 + 2) y2).setL (i := a * 5 + 3) y3).setL (i := a * 5 + 4) y4)
  rw [flat_set5 rows a h.len5 hal] at h1
  have h5 : ∀ r ∈ rows.set a [y0, y1, y2, y3, y4], r.length = 5 := by
    intro r hr
    rcases List.mem_or_eq_of_mem_set hr with hr | rfl
    · exact h.len5 r hr
    · rfl
  have h2 := (((((h1.setL (i := b * 5) x0).setL (i := b * 5 + 1) x1).setL (i := b * 5 + 2) x2).setL (i := b * 5 + 3) x3).setL (i := b * 5 + 4) x4)
  rw [flat_set5 _ b h5 (by simpa using hbl)] at h2
  have o := ((((((((((Only.set W g (a * 5) y0).trans (Only.set _ g (a * 5 + 1) y1)).trans (Only.set _ g (a * 5 + 2) y2)).trans (Only.set _ g (a * 5 + 3) y3)).trans (Only.set _ g (a * 5 + 4) y4)).trans (Only.set _ g (b * 5) x0)).trans (Only.set _ g (b * 5 + 1) x1)).trans (Only.set _ g (b * 5 + 2) x2)).trans (Only.set _ g (b * 5 + 3) x3)).trans (Only.set _ g (b * 5 + 4) x4))
  exact ⟨h.swap o.drew ha hb hra hrb h2.drew, o.drew⟩

theorem elem_frame : Elem Try.prog 36 24 5 72 := Elem.of Try.underlying36 (z := .agg #[.int .i64 0, .int .i64 0, .bool false, .slice none 0 0, .slice none 0 0]) (by kernel_rfl) rfl (by omega)
/-- The frames that were sent, their cells as read in an older world. -/
def Sent (W : World) (rs : List (List Value)) (sn : List Fr) : Prop := rs.length = sn.length ∧ ∀ (j : Nat) (r : List Value) (f : Fr), rs[j]? = some r → sn[j]? = some f → FrCells W f r
theorem FrCells.len {w : World} {f : Fr} {r : List Value} (h : FrCells w f r) : r.length = 5 := by
  obtain ⟨A, B, n, m, c, d, rfl, _⟩ := h; rfl
theorem Sent.len5 {W : World} {rs : List (List Value)} {sn : List Fr} (h : Sent W rs sn) : ∀ r ∈ rs, r.length = 5 := by
  intro r hr
  obtain ⟨j, hj, rfl⟩ := List.mem_iff_getElem.1 hr
  exact (h.2 j _ (sn[j]'(by have := h.1; omega)) (List.getElem?_eq_getElem hj) (List.getElem?_eq_getElem _)).len
theorem Sent.push {W : World} {rs : List (List Value)} {sn : List Fr} {r : List Value} {f : Fr} (h : Sent W rs sn) (hr : FrCells W f r) : Sent W (rs ++ [r]) (sn ++ [f]) := by
  refine ⟨by simp [h.1], fun j r' f' h1 h2 => ?_⟩
  rcases Nat.lt_or_ge j rs.length with hj | hj
  · rw [List.getElem?_append_left hj] at h1
    rw [List.getElem?_append_left (by have := h.1; omega)] at h2
    exact h.2 j _ _ h1 h2
  · have hl := h.1
    rw [List.getElem?_append_right hj] at h1
    rw [List.getElem?_append_right (by omega)] at h2
    have hj0 : j - rs.length = 0 := by
      have := (List.getElem?_eq_some_iff.1 h1).1
      simp at this; omega
    rw [hj0] at h1
    rw [show j - sn.length = 0 by omega] at h2
    simp at h1 h2
    subst h1 h2
    exact hr

theorem FrOwn.one {w : World} {g : Nat} {f : Fr} {r : List Value} (h : FrOwn w g f r) : ∀ u ∈ r, u.oneCell' = true := by
  obtain ⟨a, b, n, m, c, d, rfl, _⟩ := h
  simp [Value.oneCell']
theorem FBr.one {w : World} {g : Nat} {fs : List Fr} {rows : List (List Value)} (h : FBr w g fs rows) : ∀ u ∈ rows.flatten, u.oneCell' = true := by
  intro u hu
  obtain ⟨r, hr, hu⟩ := List.mem_flatten.1 hu
  obtain ⟨j, hj, rfl⟩ := List.mem_iff_getElem.1 hr
  exact (h.2.1 j _ (fs[j]'(by have := h.1; omega)) (List.getElem?_eq_getElem hj) (List.getElem?_eq_getElem _)).one u hu
theorem FBr.reads {w : World} {g n : Nat} {fs : List Fr} {rows : List (List Value)} (h : FBr w g fs rows) (hn : fs.length = n) : Reads w w.heap.size 5 (some ⟨g, 0, none⟩) n rows.flatten := by
  have h1 := rows_len (k := n) (by rw [h.1, hn]) h.len5
  have := h.2.2.reads (n := n) (size := 5) (by simpa using h1)
  simpa using this
theorem FBr.sent {w : World} {g : Nat} {fs : List Fr} {rows : List (List Value)} (h : FBr w g fs rows) : Sent w rows fs :=
  ⟨h.1, fun j r f h1 h2 => (h.2.1 j r f h1 h2).cells⟩
theorem Sent.append {W : World} {rs rs' : List (List Value)} {sn sn' : List Fr} (h : Sent W rs sn) (h' : Sent W rs' sn') : Sent W (rs ++ rs') (sn ++ sn') := by
  have hl := h.1
  refine ⟨by simp [h.1, h'.1], fun j r f h1 h2 => ?_⟩
  rcases Nat.lt_or_ge j rs.length with hj | hj
  · rw [List.getElem?_append_left hj] at h1
    rw [List.getElem?_append_left (by omega)] at h2
    exact h.2 j _ _ h1 h2
  · rw [List.getElem?_append_right hj] at h1
    rw [List.getElem?_append_right (by omega), ← hl] at h2
    exact h'.2 _ _ _ h1 h2
theorem Sent.frames {W w : World} {rs : List (List Value)} {sn : List Fr} {base n g cap : Nat} (h : Sent W rs sn) (hn : sn.length = n) (x : Ext W w) (ho : w.ownsRow base 24 5 (.slice (some ⟨g, 0, none⟩) n cap) n rs.flatten) : RFrames w (some ⟨g, 0, none⟩) n sn := by
  refine ⟨hn, fun h0 => ⟨g, rfl, ?_, fun i f hf => ?_⟩⟩
  · obtain ⟨g', c', e, _, hg⟩ := ho.form h0
    injection e with e1 e2 e3
    injection e1 with e1
    injection e1 with e1
    subst e1; exact hg
  · have hi : i < n := by have := (List.getElem?_eq_some_iff.1 hf).1; omega
    have hr : rs[i]? = some (rs[i]'(by have := h.1; omega)) := List.getElem?_eq_getElem (by have := h.1; omega)
    have hF := h.2 i _ f hr hf
    refine ⟨_, hF.ext x, fun j v hv => ?_⟩
    have hj : j < 5 := by have := (List.getElem?_eq_some_iff.1 hv).1; rw [hF.len] at this; exact this
    rw [ho.cellAt (i * 5 + j) (by omega), flat_at h.len5 (by have := h.1; omega) hj]
    exact hv

theorem wpList_load_row_w {P : Program} {ops : Array Oper} {rest : List Oper} {o : Oper} {a : Act} {w : World} {Q : Exit → Act → World → Prop} (hw : Region.wanted o (yielded ops a.tmps) = true) (ty : TypeId) (x : Operand) (ho : o.op = .load ty x)
    (g : Nat) (hx : a.eval x = .pointer (some ⟨g, 0, none⟩)) (t : TypeId) (cs : Array Value) (fr : Nat × Nat) (d : TypeDesc) (hg : w.heap[g]? = some (.cells cs t fr))
    (hu : P.underlying ty = some d) (hd : (match d with | .struct _ | .array _ _ => true | _ => false) = true) (hi : (P.info? ty).map (·.size) = some cs.size)
    (h : wpList P ops Q rest (a.put o.dst (.agg cs)) w) : wpList P ops Q (o :: rest) a w := by
  unfold wpList
  rw [if_pos hw]
  exact .inl (wp_load_row ty x ho g hx t cs fr d hg hu hd hi h)
structure CaseV (w : World) (cs : Array Value) (u s : Int) (sm : Nat → Nat → Int) (O T : Option Addr) (nO cO nT cT : Nat) (lo lt : List Int) (lost : Int) : Prop where
  size : cs.size = 41
  h0 : cs[0]? = some (.int .i64 u)
  h1 : cs[1]? = some (.int .i64 s)
  hsm : ∀ i k, i < 3 → k < 12 → cs[2 + i * 12 + k]? = some (.int .i64 (sm i k))
  h38 : cs[38]? = some (.slice O nO cO)
  h39 : cs[39]? = some (.slice T nT cT)
  h40 : cs[40]? = some (.int .i64 lost)
  hO : Reads w w.heap.size 1 O nO (lo.map (.int .i64))
  hT : Reads w w.heap.size 1 T nT (lt.map (.int .i64))
  hnO : nO ≤ 9223372036854775807
  hnT : nT ≤ 9223372036854775807
theorem case_size : (Try.prog.info? 55).map (·.size) = some 41 := by kernel_rfl
end Go.Proofs.Ytmlcmnbjioabiaa
