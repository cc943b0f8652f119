/- Words for the walk of StreamDelivers: frames in a block of their own; the swap of two of them; a whole Case read by value. -/
import Derived.Test.YtmlcmnbjioabiaaSq
namespace Go.Proofs.Ytmlcmnbjioabiaa
set_option linter.unusedVariables false
open Go.RowKit Go.ChangeShapes Go.WideShapes Go.ChangeAt Go.Joins Go.Deep

theorem wpQuiet_load_row {P : Program} {ops : Array Oper} {rest : List Oper} {C : World → Prop} {Q : Act → Prop} {o : Oper} {a : Act} (hgd : o.guard = none) (ty : TypeId) (x : Operand) (ho : o.op = .load ty x)
    (g : Nat) (hx : a.eval x = .pointer (some ⟨g, 0, none⟩)) (t : TypeId) (cs : Array Value) (fr : Nat × Nat) (d : TypeDesc) (hg : ∀ w, C w → w.heap[g]? = some (.cells cs t fr))
    (hu : P.underlying ty = some d) (hd : (match d with | .struct _ | .array _ _ => true | _ => false) = true) (hi : (P.info? ty).map (·.size) = some cs.size)
    (h : wpQuiet P ops C Q rest (a.put o.dst (.agg cs))) : wpQuiet P ops C Q (o :: rest) a := by
  unfold wpQuiet
  rw [if_pos (by simp [Region.wanted, hgd])]
  refine ⟨.agg cs, fun w hw => ?_, h⟩
  unfold Oper.quietAt execOp
  simp only [ho, hx, Instr.loadAt, Instr.sureAddr, Sem.run_bind, Sem.run_pure, Result.andThen_ok, run_loadVar_row w g t ty cs fr d (hg w hw) hu hd hi]
  exact ⟨rfl, rfl⟩

/-- Frames in a block, their samples in blocks behind it. -/
def FBr (w : World) (g : Nat) (fs : List Fr) (rows : List (List Value)) : Prop :=
  rows.length = fs.length ∧ (∀ (j : Nat) (r : List Value) (f : Fr), rows[j]? = some r → fs[j]? = some f → FrOwn w g f r) ∧ Blk w g 24 rows.flatten.toArray
theorem FBr.len5 {w : World} {g : Nat} {fs : List Fr} {rows : List (List Value)} (h : FBr w g fs rows) : ∀ r ∈ rows, r.length = 5 := by
  intro r hr
  obtain ⟨j, hj, rfl⟩ := List.mem_iff_getElem.1 hr
  have hf : fs[j]? = some (fs[j]'(by have := h.1; omega)) := List.getElem?_eq_getElem (by have := h.1; omega)
  obtain ⟨a, b, n, m, c, d, e, _⟩ := h.2.1 j _ _ (List.getElem?_eq_getElem hj) hf
  rw [e]; rfl
theorem FrOwn.only {w w' : World} {g q : Nat} {f : Fr} {cs : List Value} (h : FrOwn w g f cs) (o : Only q w w') (hq : q ≤ g) : FrOwn w' g f cs :=
  h.blocks (fun k h1 h2 => o.block k h2 (fun e => by injection e with e; omega)) o.size
theorem FBr.only {w w' : World} {g q : Nat} {fs : List Fr} {rows : List (List Value)} (h : FBr w g fs rows) (o : Only q w w') (hq : q < g) : FBr w' g fs rows :=
  ⟨h.1, fun j r f h1 h2 => (h.2.1 j r f h1 h2).only o (by omega), o.blk h.2.2 (by omega)⟩
theorem FBr.ext {w w' : World} {g : Nat} {fs : List Fr} {rows : List (List Value)} (h : FBr w g fs rows) (e : Ext w w') : FBr w' g fs rows :=
  ⟨h.1, fun j r f h1 h2 => (h.2.1 j r f h1 h2).blocks (fun k _ h2 => e.block k h2) e.size, h.2.2.ext e⟩
theorem FBr.cell {w : World} {g : Nat} {fs : List Fr} {rows : List (List Value)} (h : FBr w g fs rows) {i j : Nat} {r : List Value} (hr : rows[i]? = some r) (hj : j < 5) : w.cell? ⟨g, i * 5 + j, none⟩ = r[j]? := by
  obtain ⟨hi, rfl⟩ := List.getElem?_eq_some_iff.1 hr
  rw [h.2.2.cell, List.getElem?_toArray]
  exact flat_at h.len5 hi hj

theorem flat_set5 : ∀ (rows : List (List Value)) (k : Nat) (_ : ∀ r ∈ rows, r.length = 5) (_ : k < rows.length) (v0 v1 v2 v3 v4 : Value),
    (((((rows.flatten.set (k * 5) v0).set (k * 5 + 1) v1).set (k * 5 + 2) v2).set (k * 5 + 3) v3).set (k * 5 + 4) v4) = (rows.set k [v0, v1, v2, v3, v4]).flatten
  | [], _, _, hk, _, _, _, _, _ => by simp at hk
  | r :: t, 0, h5, _, v0, v1, v2, v3, v4 => by
    have h := h5 r (by simp)
    obtain ⟨a, b, c, d, e, rfl⟩ : ∃ a b c d e, r = [a, b, c, d, e] := by
      match r, h with
      | [a, b, c, d, e], _ => exact ⟨a, b, c, d, e, rfl⟩
    rfl
  | r :: t, k + 1, h5, hk, v0, v1, v2, v3, v4 => by
    have h := h5 r (by simp)
    have key : ∀ (L : List Value) (q : Nat) (v : Value), (r ++ L).set (5 + q) v = r ++ L.set q v := by
      intro L q v
      rw [List.set_append_right _ _ (by omega), h, Nat.add_sub_cancel_left]
    have ih := flat_set5 t k (fun r hr => h5 r (List.mem_cons_of_mem _ hr)) (by simpa using hk) v0 v1 v2 v3 v4
    rw [show (k + 1) * 5 = 5 + k * 5 by omega, show 5 + k * 5 + 1 = 5 + (k * 5 + 1) by omega, show 5 + k * 5 + 2 = 5 + (k * 5 + 2) by omega, show 5 + k * 5 + 3 = 5 + (k * 5 + 3) by omega, show 5 + k * 5 + 4 = 5 + (k * 5 + 4) by omega]
    simp only [List.flatten_cons, List.set_cons_succ, key, ih]

theorem FBr.swap {w w' : World} {g a b : Nat} {fs : List Fr} {rows : List (List Value)} {fa fb : Fr} {ra rb : List Value} (h : FBr w g fs rows) (o : Only g w w') (ha : fs[a]? = some fa) (hb : fs[b]? = some fb) (ra' : rows[a]? = some ra) (rb' : rows[b]? = some rb)
    (hB : Blk w' g 24 ((rows.set a rb).set b ra).flatten.toArray) : FBr w' g ((fs.set a fb).set b fa) ((rows.set a rb).set b ra) := by
  refine ⟨by simpa using h.1, fun j r f h1 h2 => ?_, hB⟩
  have key : ∃ i : Nat, rows[i]? = some r ∧ fs[i]? = some f := by
    have hl := h.1
    have l1 := (List.getElem?_eq_some_iff.1 h1).1
    simp only [List.length_set] at l1
    rw [List.getElem?_set] at h1 h2
    by_cases e1 : b = j
    · subst e1
      rw [if_pos rfl, if_pos (by simpa using l1)] at h1
      rw [if_pos rfl, if_pos (by simp; omega)] at h2
      injection h1 with h1; injection h2 with h2; subst h1 h2
      exact ⟨a, ra', ha⟩
    · rw [if_neg e1, List.getElem?_set] at h1 h2
      by_cases e2 : a = j
      · subst e2
        rw [if_pos rfl, if_pos l1] at h1
        rw [if_pos rfl, if_pos (by omega)] at h2
        injection h1 with h1; injection h2 with h2; subst h1 h2
        exact ⟨b, rb', hb⟩
      · rw [if_neg e2] at h1 h2
        exact ⟨j, h1, h2⟩
  obtain ⟨i, k1, k2⟩ := key
  exact (h.2.1 i r f k1 k2).only o (Nat.le_refl _)
theorem swap_mem {fs : List Fr} {a b : Nat} {fa fb : Fr} (ha : fs[a]? = some fa) (hb : fs[b]? = some fb) (f : Fr) : f ∈ (fs.set a fb).set b fa ↔ f ∈ fs := by
  obtain ⟨h1, rfl⟩ := List.getElem?_eq_some_iff.1 ha
  obtain ⟨h2, rfl⟩ := List.getElem?_eq_some_iff.1 hb
  exact (List.set_set_perm h1 h2).mem_iff

/-- Frames of a slice, in a block that is not older than base. -/
def FS (w : World) (base : Nat) (B : Option Addr) (n : Nat) (fs : List Fr) : Prop := fs.length = n ∧ (0 < n → ∃ g rows, B = some ⟨g, 0, none⟩ ∧ base ≤ g ∧ FBr w g fs rows)
theorem FS.only {w w' : World} {base q n : Nat} {B : Option Addr} {fs : List Fr} (h : FS w base B n fs) (o : Only q w w') (hq : q < base) : FS w' base B n fs :=
  ⟨h.1, fun hn => by obtain ⟨g, rows, h1, h2, h3⟩ := h.2 hn; exact ⟨g, rows, h1, h2, h3.only o (by omega)⟩⟩
theorem FS.ext {w w' : World} {base n : Nat} {B : Option Addr} {fs : List Fr} (h : FS w base B n fs) (o : Ext w w') : FS w' base B n fs :=
  ⟨h.1, fun hn => by obtain ⟨g, rows, h1, h2, h3⟩ := h.2 hn; exact ⟨g, rows, h1, h2, h3.ext o⟩⟩

/-- Split, of a step in range. -/
theorem split_in (unit step : Int) (A : Option Addr) (c : Nat) (sm : Nat → Nat → Int) (w : World) (hch : RRows w A 3 (chan sm)) (hu : btw unit 0 999 = true) (hs : btw step 0 1099511627776 = true) :
    Calls Try.prog 16 #[.int .i64 unit, .int .i64 step, .bool true, .slice A 3 c] w fun e w' => Ext w w' ∧ ∃ c rows, e = .returned (.tuple #[.slice (some ⟨w.heap.size, 0, none⟩) 12 c, .int .i64 0]) ∧ FBr w' w.heap.size (splitL unit step true (chan sm) 12) rows := by
  refine (split_own unit step true A 3 c (chan sm) w hch hs rfl (chan_rows sm)).mono fun e w' ⟨hx, h⟩ => ⟨hx, ?_⟩
  have h0 := splitErr_ok unit step sm hu true 12 0 (by omega)
  rcases h with ⟨_, c', rows, he, h1, h2, h3⟩ | ⟨h, _⟩
  · refine ⟨c', rows, he, by simp [h1, splitL], fun j r f hr hf => ?_, h3⟩
    have hj : j < 12 := by have := (List.getElem?_eq_some_iff.1 hf).1; simpa [splitL] using this
    have : f = splitFr unit step true (chan sm) j := by
      unfold splitL at hf
      rw [List.getElem?_map, List.getElem?_range hj] at hf
      simpa using hf.symm
    subst this
    exact h2 j r hr
  · exact absurd h0 h
/-- Split, of a step that may be too large. -/
theorem split_fs (unit step : Int) (A : Option Addr) (c : Nat) (sm : Nat → Nat → Int) (w : World) (hch : RRows w A 3 (chan sm)) (hu : btw unit 0 999 = true) :
    Calls Try.prog 16 #[.int .i64 unit, .int .i64 step, .bool true, .slice A 3 c] w fun e w' => Ext w w' ∧ ∃ B n c E fs, e = .returned (.tuple #[.slice B n c, .int .i64 E]) ∧ n ≤ 12 ∧ FS w' w.heap.size B n fs ∧ (n = 0 → B = none ∧ c = 0) ∧ ∀ f ∈ fs, btw step 0 1099511627776 = true ∧ ∃ k, k < 12 ∧ f = splitFr unit step true (chan sm) k := by
  cases hs : btw step 0 1099511627776 with
  | true =>
    refine (split_in unit step A c sm w hch hu hs).mono fun e w' ⟨hx, c', rows, he, h⟩ => ⟨hx, _, _, _, _, _, he, by omega, ⟨by simp [splitL], fun _ => ⟨_, rows, rfl, Nat.le_refl _, h⟩⟩, fun h => absurd h (by omega), fun f hf => ⟨rfl, ?_⟩⟩
    unfold splitL at hf
    obtain ⟨k, hk, rfl⟩ := List.mem_map.1 hf
    exact ⟨k, List.mem_range.1 hk, rfl⟩
  | false =>
    refine (split_bad unit step true A 3 c (chan sm) w hch (by omega) (.inl hs)).mono fun e w' ⟨he, hx⟩ => ⟨hx, none, 0, 0, _, [], he, by omega, ⟨rfl, fun h => absurd h (by omega)⟩, fun _ => ⟨rfl, rfl⟩, by simp⟩
end Go.Proofs.Ytmlcmnbjioabiaa
