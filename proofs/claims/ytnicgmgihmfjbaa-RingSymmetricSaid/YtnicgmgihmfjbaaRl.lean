/- Ring: the specification's order and insertion. -/
import Derived.Test.YtnicgmgihmfjbaaRj
namespace Go.Proofs.Ytnicgmgihmfjbaa
open Go.RowKit Go.Shelf
open Rg (nodeAt link wl way Arr)

set_option maxHeartbeats 1000000 in
theorem before_any (x y : Arr) (v : Bool) (w : World) (hv : Rg.lt x y = v) : Calls Try.prog 36 #[.agg (encA x).toArray, .agg (encA y).toArray] w fun e w' => e = .returned (.bool v) ∧ Ext w w' := by
  subst hv
  unfold encA
  have hlt : Rg.lt x y = if x.a ≠ y.a then decide (x.a < y.a) else if x.n ≠ y.n then decide (x.n < y.n) else if x.f ≠ y.f then decide (x.f < y.f) else decide (x.d < y.d) := rfl
  by_cases h1 : x.a = y.a
  · have d1 : (x.a != y.a) = false := by simp [h1]
    by_cases h2 : x.n = y.n
    · have d2 : (x.n != y.n) = false := by simp [h2]
      by_cases h3 : x.f = y.f
      · have d3 : (x.f != y.f) = false := by simp [h3]
        rw [if_neg (by simp [h1]), if_neg (by simp [h2]), if_neg (by simp [h3])] at hlt
        have HL := Lib.hid hlt; clear hlt h1 h2 h3
        go_enter Try.func36, Try.ntmps36
        go_wp2_with fail
        go_ret
        exact ⟨ret_bool HL.out.symm, (Ext.new _ _).alloc _⟩
      · have d3 : (x.f != y.f) = true := by simp [h3]
        rw [if_neg (by simp [h1]), if_neg (by simp [h2]), if_pos h3] at hlt
        have HL := Lib.hid hlt; clear hlt h1 h2 h3
        go_enter Try.func36, Try.ntmps36
        go_wp2_with fail
        go_ret
        exact ⟨ret_bool HL.out.symm, (Ext.new _ _).alloc _⟩
    · have d2 : (x.n != y.n) = true := by simp [h2]
      rw [if_neg (by simp [h1]), if_pos h2] at hlt
      have HL := Lib.hid hlt; clear hlt h1 h2
      go_enter Try.func36, Try.ntmps36
      go_wp2_with fail
      go_ret
      exact ⟨ret_bool HL.out.symm, (Ext.new _ _).alloc _⟩
  · have d1 : (x.a != y.a) = true := by simp [h1]
    rw [if_pos h1] at hlt
    have HL := Lib.hid hlt; clear hlt h1
    go_enter Try.func36, Try.ntmps36
    go_wp2_with fail
    go_ret
    exact ⟨ret_bool HL.out.symm, (Ext.new _ _).alloc _⟩

theorem ins_mid {x : Arr} : ∀ {P Q : List Arr}, (∀ y ∈ P, Rg.lt x y = false) → (∀ y, Q.head? = some y → Rg.lt x y = true) → Rg.ins x (P ++ Q) = P ++ x :: Q
  | [], [], _, _ => rfl
  | [], y :: Q, _, h => by simp [Rg.ins, h y rfl]
  | p :: P, Q, h, h' => by
    simp only [List.cons_append, Rg.ins]
    rw [h p (by simp), ins_mid (fun y hy => h y (by simp [hy])) h']
    rfl
theorem lows {x y : Arr} {P Q : List Arr} (hs : Rg.Srt (P ++ y :: Q)) (h : Rg.lt x y = false) : ∀ z ∈ P ++ [y], Rg.lt x z = false := by
  intro z hz
  rcases List.mem_append.1 hz with hz | hz
  · have h1 : Rg.lt z y = true := (List.pairwise_append.1 hs).2.2 z hz y (by simp)
    cases h2 : Rg.lt x z
    · rfl
    · have := Rg.lt_trans h2 h1; rw [h] at this; cases this
  · simp at hz; subst hz; exact h

theorem elem_rarr : Elem Try.prog 34 58 4 32 := Elem.of Try.underlying34 (z := .agg #[.int .i64 0, .int .i64 0, .int .i64 0, .int .i64 0]) (by kernel_rfl) rfl (by omega)

theorem grown_set {w w' : World} {r : Option Nat} {g i : Nat} {u : Value} (h : w.grownBy w' r) (hg : r = some g ∨ w.heap.size ≤ g) : w.grownBy (w'.setCell ⟨g, i, none⟩ u) r :=
  ⟨h.os, h.tape, h.output, by simpa [World.setCell] using h.size, fun k hk hne => (Below.heap_setCell w' ⟨g, i, none⟩ u k (fun e => by
    have e' : k = g := e
    subst e'
    rcases hg with hg | hg
    · exact hne hg.symm
    · omega)).trans (h.block k hk hne)⟩
theorem grown_ext {w w' w'' : World} {r : Option Nat} (h : w.grownBy w' r) (e : Ext w' w'') : w.grownBy w'' r :=
  ⟨e.os.trans h.os, e.tape.trans h.tape, e.output.trans h.output, Nat.le_trans h.size e.size, fun k hk hne => (e.block k (Nat.lt_of_lt_of_le hk h.size)).trans (h.block k hk hne)⟩
theorem grown_from {w w' w'' : World} {r : Option Nat} (e : Ext w w') (h : w'.grownBy w'' r) : w.grownBy w'' r :=
  ⟨h.os.trans e.os, h.tape.trans e.tape, h.output.trans e.output, Nat.le_trans e.size h.size, fun k hk hne => (h.block k (Nat.lt_of_lt_of_le hk e.size) hne).trans (e.block k hk)⟩
/-- The eight cells of two neighbours. -/
theorem two_cells {L P Q : List Arr} {x y : Arr} {j : Nat} (hL : L = P ++ y :: x :: Q) (hj : P.length = j) : ∀ i, i < 4 → (flatA L)[j * 4 + i]? = (encA y)[i]? ∧ (flatA L)[(j + 1) * 4 + i]? = (encA x)[i]? := by
  subst hL
  intro i hi
  have e : flatA (P ++ y :: x :: Q) = flatA P ++ (encA y ++ (encA x ++ flatA Q)) := by simp [flatA]
  have hl := flatA_len P
  have h4 : ∀ z : Arr, (encA z).length = 4 := fun _ => rfl
  rw [e]
  constructor
  · rw [List.getElem?_append_right (by omega), hl, List.getElem?_append_left (by rw [h4]; omega), show j * 4 + i - P.length * 4 = i by omega]
  · rw [List.getElem?_append_right (by omega), hl, List.getElem?_append_right (by rw [h4]; omega), h4, List.getElem?_append_left (by rw [h4]; omega), show (j + 1) * 4 + i - P.length * 4 - 4 = i by omega]
theorem swap_cells {P Q : List Arr} {x y : Arr} {j : Nat} (hj : P.length = j) :
    ((((((((flatA (P ++ y :: x :: Q)).set ((j + 1) * 4) (.int .i64 y.f)).set ((j + 1) * 4 + 1) (.int .i64 y.n)).set ((j + 1) * 4 + 2) (.int .i64 y.a)).set ((j + 1) * 4 + 3) (.int .i64 y.d)).set (j * 4) (.int .i64 x.f)).set (j * 4 + 1) (.int .i64 x.n)).set (j * 4 + 2) (.int .i64 x.a)).set (j * 4 + 3) (.int .i64 x.d) = flatA (P ++ x :: y :: Q) := by
  have e : ∀ a b : Arr, flatA (P ++ a :: b :: Q) = flatA P ++ (encA a ++ (encA b ++ flatA Q)) := fun a b => by simp [flatA]
  have hl := flatA_len P
  rw [e, e]
  have s : ∀ (B : List Value) (i : Nat) (u : Value), (flatA P ++ B).set (j * 4 + i) u = flatA P ++ B.set i u := fun B i u => by
    rw [List.set_append_right _ _ (by omega), hl, show j * 4 + i - P.length * 4 = i by omega]
  have s' : ∀ (B : List Value) (i : Nat) (u : Value), (flatA P ++ B).set ((j + 1) * 4 + i) u = flatA P ++ B.set (4 + i) u := fun B i u => by rw [show (j + 1) * 4 + i = j * 4 + (4 + i) by omega, s]
  rw [show (j + 1) * 4 = (j + 1) * 4 + 0 by omega, show ∀ (B : List Value) (u : Value), B.set (j * 4) u = B.set (j * 4 + 0) u from fun _ _ => rfl]
  simp only [s, s', Nat.add_assoc, Nat.zero_add]
  simp [encA]

/-- What insert leaves. -/
def InsPost (base : Nat) (x : Arr) (l : List Arr) (v : Value) (w : World) (e : Ending) (w' : World) : Prop :=
  ∃ v', e = .returned v' ∧ w'.ownsRow base 58 4 v' (l.length + 1) (flatA (Rg.ins x l)) ∧ w.grownBy w' v.ownBlock

set_option maxRecDepth 100000 in
set_option maxHeartbeats 4000000 in
theorem insert_any (x : Arr) (l : List Arr) (v : Value) (base : Nat) (w : World) (hs : Rg.Srt l) (hl : l.length ≤ 100000) (hb : base ≤ w.heap.size) (hown : w.ownsRow base 58 4 v l.length (flatA l)) :
    Calls Try.prog 30 #[v, .agg (encA x).toArray] w (InsPost base x l v w) := by
  unfold encA
  have HO := Lib.hid hown; clear hown
  have b3 := Blk.new w 58 #[.int .i64 x.f, .int .i64 x.n, .int .i64 x.a, .int .i64 x.d]
  generalize hn : l.length = n at *
  have HN := Lib.hid hn; clear hn
  go_enter Try.func30, Try.ntmps30
  go_wp2_with (at_builtin; refine wpList_app elem_rarr rfl (.tmp 6) (.tmp 8) rfl base _ n _ (by rfl) ((HO.out.alloc _).alloc _) (w.heap.size + 1) 1 1 (encA x) (by rfl) (Blk.new' _ _ (by simp)) rfl (by simp [Value.oneCell', encA]) (by omega) (by omega) (by omega) (by simp; omega) ?_)
  intro g cap w2 o2 gr2 hgv _
  have HO2 := Lib.hid o2; clear o2
  have hgv' : v.ownBlock = some g ∨ w.heap.size ≤ g := by
    rcases hgv with h | h
    · exact .inl h
    · exact .inr (by omega)
  have HG := Lib.hid hgv'; clear hgv hgv'
  have GR := Lib.hid (grown_from (((Ext.new w _).alloc _)) gr2); clear gr2 b3
  try simp only [Act.put, List.setIfInBounds_toArray, List.set_cons_succ, List.set_cons_zero]
  go_wp2_with fail
  go_loopw [5] (fun k wr => ∃ j : Nat, j ≤ n ∧ k = .int .i64 j ∧ wr.ownsRow base 58 4 (.slice (some ⟨g, 0, none⟩) (n + 1) cap) (n + 1) (flatA (l.take j ++ x :: l.drop j)) ∧ (∀ y, (l.drop j).head? = some y → Rg.lt x y = true) ∧ w.grownBy wr v.ownBlock) (fun k _ => (intOf k).toNat)
  case atStart =>
    refine ⟨n, Nat.le_refl _, rfl, ?_, ?_, GR.out⟩
    · rw [List.take_of_length_le (by rw [HN.out]; exact Nat.le_refl _), List.drop_eq_nil_of_le (by rw [HN.out]; exact Nat.le_refl _), show flatA (l ++ [x]) = flatA l ++ encA x by simp [flatA]]; exact HO2.out
    · rw [List.drop_eq_nil_of_le (by rw [HN.out]; exact Nat.le_refl _)]; simp
  case round =>
    obtain ⟨j, hj, rfl, ho, hlow, hg⟩ := hrel
    have HOW := Lib.hid ho; have HLOW := Lib.hid hlow; have HGR := Lib.hid hg
    clear ho hlow hg
    rcases Nat.eq_zero_or_pos j with rfl | hpos
    · go_wp2_with fail
      refine wp_region_ext_lit (by kernel_rfl) (by kernel_rfl) ?_
      repeat (go_big_quiet_step (fail))
      refine wpQuiet_nil ?_
      intro W hW
      obtain ⟨xe, rfl⟩ := hW
      go_wp2_with fail
      go_ret
      refine ⟨_, rfl, ?_, grown_ext HGR.out xe.ext⟩
      rw [HN.out, show Rg.ins x l = l.take 0 ++ x :: l.drop 0 from ins_mid (P := []) (by simp) HLOW.out]
      exact own_ext HOW.out xe.ext
    · obtain ⟨i, rfl⟩ : ∃ i, j = i + 1 := ⟨j - 1, by omega⟩
      obtain ⟨y, hy⟩ : ∃ y, l[i]? = some y := ⟨_, List.getElem?_eq_getElem (by have := HN.out; omega)⟩
      have hyl : i < l.length ∧ l.take (i + 1) = l.take i ++ [y] ∧ l.drop i = y :: l.drop (i + 1) := by
        obtain ⟨h1, h2⟩ := List.getElem?_eq_some_iff.1 hy
        exact ⟨h1, by rw [List.take_succ_eq_append_getElem h1, h2], by rw [List.drop_eq_getElem_cons h1, h2]⟩
      have hL : l.take (i + 1) ++ x :: l.drop (i + 1) = l.take i ++ y :: x :: l.drop (i + 1) := by rw [hyl.2.1, List.append_assoc]; rfl
      have hti : (l.take i).length = i := by rw [List.length_take]; omega
      have hc := two_cells hL hti
      have hcell : ∀ p, p < (n + 1) * 4 → wr.cell? ⟨g, p, none⟩ = (flatA (l.take (i + 1) ++ x :: l.drop (i + 1)))[p]? := fun p hp => HOW.out.cellAt p hp
      have y0 := hcell (i * 4) (by omega); have y1 := hcell (i * 4 + 1) (by omega); have y2 := hcell (i * 4 + 2) (by omega); have y3 := hcell (i * 4 + 3) (by omega)
      have x0 := hcell ((i + 1) * 4) (by omega); have x1 := hcell ((i + 1) * 4 + 1) (by omega); have x2 := hcell ((i + 1) * 4 + 2) (by omega); have x3 := hcell ((i + 1) * 4 + 3) (by omega)
      rw [show (flatA (l.take (i + 1) ++ x :: l.drop (i + 1)))[i * 4]? = some (.int .i64 y.f) from (hc 0 (by omega)).1] at y0
      rw [(hc 1 (by omega)).1] at y1
      rw [(hc 2 (by omega)).1] at y2
      rw [(hc 3 (by omega)).1] at y3
      rw [show (flatA (l.take (i + 1) ++ x :: l.drop (i + 1)))[(i + 1) * 4]? = some (.int .i64 x.f) from (hc 0 (by omega)).2] at x0
      rw [(hc 1 (by omega)).2] at x1
      rw [(hc 2 (by omega)).2] at x2
      rw [(hc 3 (by omega)).2] at x3
      have fz : ∀ p, wr.frozen? ⟨g, p, none⟩ = false := fun p => HOW.out.frozenAt p
      have HF := Lib.hid fz
      have HLL := Lib.hid hL; have HTI := Lib.hid hti; have HYL := Lib.hid hyl
      clear hc hcell fz hL hti hyl hy
      simp only [encA, List.getElem?_cons_succ, List.getElem?_cons_zero] at y1 y2 y3 x1 x2 x3
      have q1 : (0 : Int) ≤ (i : Int) := by omega
      have q2 : (i : Int) + 1 < (n : Int) + 1 := by omega
      have Y0 := ExtOf.cell y0; have Y1 := ExtOf.cell y1; have Y2 := ExtOf.cell y2; have Y3 := ExtOf.cell y3
      have X0 := ExtOf.cell x0; have X1 := ExtOf.cell x1; have X2 := ExtOf.cell x2; have X3 := ExtOf.cell x3
      cases hlt : Rg.lt x y
      · go_wp2_with fail
        refine wp_region_ext_lit (by kernel_rfl) (by kernel_rfl) ?_
        repeat (go_big_quiet_step (first | (go_at_call 36; exact Calls.ext_of (before_any _ _ _ _ hlt))))
        refine wpQuiet_nil ?_
        intro W hW
        obtain ⟨xe, rfl⟩ := hW
        go_wp2_with fail
        go_ret
        refine ⟨_, rfl, ?_, grown_ext HGR.out xe.ext⟩
        have hl2 : l = l.take i ++ y :: l.drop (i + 1) := by rw [← HYL.out.2.2]; exact (List.take_append_drop i l).symm
        have h1 := lows (by rw [← hl2]; exact hs) hlt
        rw [← HYL.out.2.1] at h1
        have h2 := ins_mid (x := x) h1 HLOW.out
        rw [List.take_append_drop] at h2
        rw [HN.out, h2]
        exact own_ext HOW.out xe.ext
      · go_wp2_with fail
        refine wp_region_ext_lit (by kernel_rfl) (by kernel_rfl) ?_
        repeat (go_big_quiet_step (first | (go_at_call 36; exact Calls.ext_of (before_any _ _ _ _ hlt))))
        refine wpQuiet_nil ?_
        intro W hW
        obtain ⟨xe, rfl⟩ := hW
        replace y0 := Y0 xe; replace y1 := Y1 xe; replace y2 := Y2 xe; replace y3 := Y3 xe
        replace x0 := X0 xe; replace x1 := X1 xe; replace x2 := X2 xe; replace x3 := X3 xe
        have HOW2 := Lib.hid (own_ext HOW.out xe.ext); have HGR2 := Lib.hid (grown_ext HGR.out xe.ext)
        clear Y0 Y1 Y2 Y3 X0 X1 X2 X3 HOW HGR HF
        generalize xe.val = W at *
        clear xe wr
        have fy0 := HOW2.out.frozenAt (i * 4); have fy1 := HOW2.out.frozenAt (i * 4 + 1); have fy2 := HOW2.out.frozenAt (i * 4 + 2); have fy3 := HOW2.out.frozenAt (i * 4 + 3)
        have fx0 := HOW2.out.frozenAt ((i + 1) * 4); have fx1 := HOW2.out.frozenAt ((i + 1) * 4 + 1); have fx2 := HOW2.out.frozenAt ((i + 1) * 4 + 2); have fx3 := HOW2.out.frozenAt ((i + 1) * 4 + 3)
        go_wp2_with fail
        go_region
        have s8 := ((((((((HOW2.out.stored ((i + 1) * 4) (.int .i64 y.f)).1.stored ((i + 1) * 4 + 1) (.int .i64 y.n)).1.stored ((i + 1) * 4 + 2) (.int .i64 y.a)).1.stored ((i + 1) * 4 + 3) (.int .i64 y.d)).1.stored (i * 4) (.int .i64 x.f)).1.stored (i * 4 + 1) (.int .i64 x.n)).1.stored (i * 4 + 2) (.int .i64 x.a)).1.stored (i * 4 + 3) (.int .i64 x.d)).1
        rw [HLL.out, swap_cells HTI.out] at s8
        have hgg := HG.out
        have g8 := grown_set (i := i * 4 + 3) (u := .int .i64 x.d) (grown_set (i := i * 4 + 2) (u := .int .i64 x.a) (grown_set (i := i * 4 + 1) (u := .int .i64 x.n) (grown_set (i := i * 4) (u := .int .i64 x.f) (grown_set (i := (i + 1) * 4 + 3) (u := .int .i64 y.d) (grown_set (i := (i + 1) * 4 + 2) (u := .int .i64 y.a) (grown_set (i := (i + 1) * 4 + 1) (u := .int .i64 y.n) (grown_set (i := (i + 1) * 4) (u := .int .i64 y.f) HGR2.out hgg) hgg) hgg) hgg) hgg) hgg) hgg) hgg
        have S8 := Lib.hid (own_ext s8 ((Ext.refl _).drew)); have G8 := Lib.hid (grown_ext g8 ((Ext.refl _).drew))
        clear s8 g8 hgg y0 y1 y2 y3 x0 x1 x2 x3 fy0 fy1 fy2 fy3 fx0 fx1 fx2 fx3
        go_wp2_with fail
        go_roundw
        case rel =>
          refine ⟨i, by omega, by first | rfl | go_num, ?_, ?_, G8.out⟩
          · rw [HYL.out.2.2]; exact S8.out
          · rw [HYL.out.2.2]
            intro z hz
            simp at hz; subst hz; exact hlt
        case measure => simp [intOf]
end Go.Proofs.Ytnicgmgihmfjbaa
