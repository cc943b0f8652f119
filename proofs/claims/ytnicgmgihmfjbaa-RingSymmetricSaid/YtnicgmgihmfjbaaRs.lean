/- Ring: arguments that are rings and frames; the walk of RingRuns. -/
import Derived.Test.YtnicgmgihmfjbaaRq
import Derived.Test.YtnicgmgihmfjbaaRow
import Derived.Deep.SlicePairs
namespace Go.Proofs.Ytnicgmgihmfjbaa
open Go.RowKit Go.ChangeShapes Go.WideShapes Go.ChangeAt Go.Joins Go.Deep Go.Shelf
open Rg (nodeAt link wl way Arr dist)

theorem choose_list {α : Type} {p : Nat → α → Prop} (n : Nat) (h : ∀ i, i < n → ∃ l, p i l) : ∃ rows : List α, rows.length = n ∧ ∀ i r, rows[i]? = some r → p i r := by
  induction n with
  | zero => exact ⟨[], rfl, by simp⟩
  | succ n ih =>
    obtain ⟨rows, h1, h2⟩ := ih (fun i hi => h i (by omega))
    obtain ⟨l, hl⟩ := h n (by omega)
    refine ⟨rows ++ [l], by simp [h1], fun i r hr => ?_⟩
    rw [List.getElem?_append] at hr
    split at hr
    · exact h2 i r hr
    · have hi : i = n := by
        have := (List.getElem?_eq_some_iff.1 hr).1
        simp at this; omega
      subst hi
      simp only [h1, Nat.sub_self, List.getElem?_cons_zero, Option.some.injEq] at hr
      subst hr
      exact hl
theorem Try.cells3 : Try.prog.cellsOf 3 = 1 := by kernel_rfl
theorem Try.cells4 : Try.prog.cellsOf 4 = 1 := by kernel_rfl
theorem Try.cells22 : Try.prog.cellsOf 22 = 1 := by kernel_rfl
theorem Try.cells29 : Try.prog.cellsOf 29 = 2 := by kernel_rfl
section
variable {H : Type} {enc : TypeId × Value → H} {w : World} {base : Nat} {spare : Nat → Bool} {held : Bool}
theorem open_bools' {fuel : Nat} {v : Value} {x : DataW H × List MemPlace} (h : DataW.trod enc Try.prog w base spare held fuel 22 [v] = some x) :
    ∃ (A : Option Addr) (c : Nat) (cut : List Bool), v = .slice A cut.length c ∧ Reads w w.heap.size 1 A cut.length (cut.map .bool) ∧ cut.length ≤ c ∧ c ≤ maxLen := by
  rcases open_slice1 Try.underlying22 Try.cells4 h with ⟨hcs, _⟩ | ⟨a, len, cap, m, nf, V, D, Pl, hcs, _, hl, hm, hmm, _, hi⟩
  · injection hcs with hcs
    exact ⟨none, 0, [], hcs, Reads.none_, Nat.le_refl _, Nat.zero_le _⟩
  · injection hcs with hcs
    have hml : len ≤ m := by rw [hmm]; split <;> omega
    obtain ⟨cut, hr1, hr2⟩ := choose_list (p := fun i (b : Bool) => V i = .bool b) len (fun i hilt => by
      obtain ⟨s, e, _⟩ := DataW.trod_bool Try.underlying4 (hi i (by omega)).2
      exact ⟨s, by simpa using e⟩)
    subst hr1
    refine ⟨some a, cap, cut, hcs, ⟨by simp, fun hn => ⟨a, rfl, ?_, fun j u hu => ?_⟩⟩, hl, hm⟩
    · have := lt_of_cell (hi 0 (by omega)).1
      simpa [block_of_add] using this
    · rw [List.getElem?_map, Option.map_eq_some_iff] at hu
      obtain ⟨b, hb, rfl⟩ := hu
      have hj : j < cut.length := (List.getElem?_eq_some_iff.1 hb).1
      rw [← hr2 j b hb]; exact (hi j (by omega)).1
/-- An argument that is a ring. -/
theorem open_ring {r : Reach} {b0 : Nat} {v : Value} {d : DataW H} {p : List MemPlace}
    (hv : Value.okWide Try.prog w r b0 24 v) (h : DataW.Trod enc Try.prog w base spare held 24 v d p) :
    ∃ (A : Option Addr) (c : Nat) (cut : List Bool), v = .agg #[.slice A cut.length c] ∧ Reads w w.heap.size 1 A cut.length (cut.map .bool) ∧ cut.length ≤ 9223372036854775807 := by
  have hu := Try.underlying24
  obtain ⟨cs, rfl, hsz⟩ := okWide_struct hu hv
  obtain ⟨l⟩ := cs
  rw [show Try.prog.cellsOf 24 = 1 by kernel_rfl] at hsz
  obtain ⟨fuel, hf⟩ := h
  obtain ⟨xs, n, _, hx, _, hlen, hg⟩ := DataW.trod_struct hu hf
  match l, hsz with
  | [c0], _ =>
    match xs, hlen with
    | [y0], _ =>
      have g0 : DataW.trod enc Try.prog w base spare held n 22 [c0] = some y0 := by simpa [Value.cells, Try.cells22] using hg 0 _ rfl
      obtain ⟨A, c, cut, e, hr, hl, hm⟩ := open_bools' g0
      subst e
      unfold maxLen at hm
      exact ⟨A, c, cut, rfl, hr, by omega⟩
/-- An argument that is a list of frames. -/
theorem open_frames {fuel : Nat} {v : Value} {x : DataW H × List MemPlace} (h : DataW.trod enc Try.prog w base spare held fuel 25 [v] = some x) :
    ∃ (F : Option Addr) (m c : Nat) (fr : List (Int × Int)), v = .slice F m c ∧ RFs w F m fr ∧ m ≤ c := by
  rcases open_slice_pairs Try.underlying25 Try.underlying29 Try.cells29 rfl rfl Try.cells3 Try.cells3 h with ⟨hcs, _⟩ | ⟨a, len, cap, m, nf, V0, V1, D0, D1, P0, P1, hcs, _, hl, hm, hmm, _, hi⟩
  · injection hcs with hcs
    exact ⟨none, 0, 0, [], hcs, ⟨rfl, fun h => absurd h (by omega)⟩, Nat.le_refl _⟩
  · injection hcs with hcs
    have hml : len ≤ m := by rw [hmm]; split <;> omega
    obtain ⟨fr, hr1, hr2⟩ := choose_list (p := fun i (x : Int × Int) => V0 i = .int .i64 x.1 ∧ V1 i = .int .i64 x.2) len (fun i hilt => by
      obtain ⟨_, _, h0, h1⟩ := hi i (by omega)
      obtain ⟨z0, e0, _, _⟩ := DataW.trod_int Try.underlying3 h0
      obtain ⟨z1, e1, _, _⟩ := DataW.trod_int Try.underlying3 h1
      exact ⟨(z0, z1), by simpa using e0, by simpa using e1⟩)
    refine ⟨some a, len, cap, fr, hcs, ⟨hr1, fun hn => ?_⟩, hl⟩
    have c00 := (hi 0 (by omega)).1
    obtain ⟨b, o, rfl⟩ := spot_none (w := w) (ad := a) (v := V0 0) (by have := c00; rw [Nat.zero_mul, add_zero_addr] at this; exact this)
    refine ⟨b, o, rfl, ?_, fun k x hx => ?_⟩
    · have := lt_of_cell c00
      simpa [block_of_add] using this
    · have hk : k < len := by have := (List.getElem?_eq_some_iff.1 hx).1; omega
      obtain ⟨h0, h1, _⟩ := hi k (by omega)
      obtain ⟨e0, e1⟩ := hr2 k x hx
      rw [add_plain] at h0 h1
      rw [← e0, ← e1]
      exact ⟨h0, by rw [Nat.add_assoc]; exact h1⟩
end

def encP (x : Int × Int) : List Value := [.int .i64 x.1, .int .i64 x.2]
def flatP (l : List (Int × Int)) : List Value := l.flatMap encP
theorem flatP_len (l : List (Int × Int)) : (flatP l).length = l.length * 2 := by
  unfold flatP
  induction l with
  | nil => rfl
  | cons x l ih => simp only [List.flatMap_cons, List.length_append, List.length_cons, ih]; simp [encP]; omega
theorem flatP_at {l : List (Int × Int)} {k : Nat} {x : Int × Int} (h : l[k]? = some x) : (flatP l)[k * 2]? = some (.int .i64 x.1) ∧ (flatP l)[k * 2 + 1]? = some (.int .i64 x.2) := by
  obtain ⟨h1, h2⟩ := List.getElem?_eq_some_iff.1 h
  have hs : l = l.take k ++ x :: l.drop (k + 1) := by rw [← h2, ← List.drop_eq_getElem_cons h1, List.take_append_drop]
  have hlt : (flatP (l.take k)).length = k * 2 := by rw [flatP_len, List.length_take]; omega
  have e : flatP l = flatP (l.take k) ++ (encP x ++ flatP (l.drop (k + 1))) := by
    conv => lhs; rw [hs]
    simp [flatP]
  have key : ∀ i, i < 2 → (flatP l)[k * 2 + i]? = (encP x)[i]? := by
    intro i hi
    rw [e, List.getElem?_append_right (by omega), hlt, List.getElem?_append_left (by show _ < 2; omega), show k * 2 + i - k * 2 = i by omega]
  exact ⟨key 0 (by omega), key 1 (by omega)⟩
theorem elem_rfr : Elem Try.prog 27 30 2 16 := Elem.of Try.underlying27 (z := .agg #[.int .i64 0, .int .i64 0]) (by kernel_rfl) rfl (by omega)
theorem rfs_of_own {w : World} {base m : Nat} {o : Value} {fr : List (Int × Int)} (hl : fr.length = m) (h : w.ownsRow base 30 2 o m (flatP fr)) : ∃ G c', o = .slice G m c' ∧ RFs w G m fr ∧ m ≤ c' := by
  rcases h.2 with ⟨rfl, rfl⟩ | ⟨g, cap, cur, rfl, _, hg, hnc, _⟩
  · exact ⟨none, 0, rfl, ⟨hl, fun h => absurd h (by omega)⟩, Nat.le_refl _⟩
  · refine ⟨_, cap, rfl, ⟨hl, fun _ => ⟨g, 0, rfl, (Array.getElem?_eq_some_iff.1 hg).1, fun k x hx => ?_⟩⟩, hnc⟩
    have hk : k < m := by have := (List.getElem?_eq_some_iff.1 hx).1; omega
    rw [Nat.zero_add, h.cellAt _ (by omega), h.cellAt _ (by omega)]
    exact flatP_at hx

set_option maxRecDepth 100000 in
set_option maxHeartbeats 4000000 in
theorem runs_law (A : Option Addr) (c : Nat) (cut : List Bool) (F : Option Addr) (m cf : Nat) (fr : List (Int × Int)) (w : World) (hn0 : cut.length ≤ 9223372036854775807) (hR : Reads w w.heap.size 1 A cut.length (cut.map .bool)) (hF : RFs w F m fr) (hc : m ≤ cf) :
    Calls Try.prog 3 #[.agg #[.slice A cut.length c], .slice F m cf] w fun e w' => e = .returned (.bool true) ∧ Ext w w' := by
  obtain ⟨b, hE⟩ := Boxed.start w 24 (.slice A cut.length c)
  by_cases hbig : 100 < cut.length
  · have hd : decide (100 < cut.length) = true := by simpa using hbig
    go_enter Try.func3, Try.ntmps3
    go_wp2_with fail
    generalize w.alloc (.cells #[.slice A cut.length c] 24) = W at *
    refine (known_any _).mono ?_
    rintro e w1 ⟨rfl, hx⟩
    replace b := b.ext hx; replace hE := hE.trans hx; clear hx W
    have c2 := b.cell
    go_wp2_with fail
    go_ret
    exact ⟨rfl, hE⟩
  have hd : decide (100 < cut.length) = false := by simpa using hbig
  have hn : cut.length ≤ 140737488351232 := by omega
  by_cases hbig2 : 12 < m
  · have hd2 : decide (12 < m) = true := by simpa using hbig2
    go_enter Try.func3, Try.ntmps3
    go_wp2_with fail
    generalize w.alloc (.cells #[.slice A cut.length c] 24) = W at *
    refine (known_any _).mono ?_
    rintro e w1 ⟨rfl, hx⟩
    replace b := b.ext hx; replace hE := hE.trans hx; clear hx W
    have c2 := b.cell
    go_wp2_with fail
    go_ret
    exact ⟨rfl, hE⟩
  have hd2 : decide (12 < m) = false := by simpa using hbig2
  have HR := Lib.hid hR; have HF := Lib.hid hF; clear hR hF
  go_enter Try.func3, Try.ntmps3
  go_wp2_with fail
  generalize w.alloc (.cells #[.slice A cut.length c] 24) = W at *
  refine (known_any _).mono ?_
  rintro e w1 ⟨rfl, hx⟩
  replace b := b.ext hx; replace hE := hE.trans hx; clear hx W
  have c2 := b.cell
  go_wp2_with fail
  clear c2 hd hd2
  go_loopw [5, 6] (fun o i wr => ∃ k : Nat, k ≤ m ∧ i = .int .i64 k ∧ wr.ownsRow w.heap.size 30 2 o k (flatP (fr.take k)) ∧ Boxed wr w.heap.size 24 (.slice A cut.length c) ∧ Ext w wr) (fun _ i _ => m - (intOf i).toNat)
  case atStart => exact ⟨0, Nat.zero_le _, rfl, World.ownsRow_nil _ _ _ _, b, hE⟩
  case round =>
    clear b hE
    obtain ⟨k, hk, rfl, hown, b, hE⟩ := hrel
    have HO := Lib.hid hown; clear hown
    by_cases hlt : k < m
    · obtain ⟨fb, fo, rfl, hfb, hfc⟩ := HF.out.2 (by omega)
      obtain ⟨x, hx⟩ : ∃ x, fr[k]? = some x := ⟨_, List.getElem?_eq_getElem (by have := HF.out.1; omega)⟩
      obtain ⟨y0, y1⟩ := hfc k x hx
      have Y0 := ExtOf.cell y0; have Y1 := ExtOf.cell y1
      have HT : Hid (fr.take (k + 1) = fr.take k ++ [x]) := Lib.hid (by
        obtain ⟨h1, h2⟩ := List.getElem?_eq_some_iff.1 hx
        rw [List.take_succ_eq_append_getElem h1, h2])
      clear hfc hx y0 y1
      have q1 : (0 : Int) ≤ (k : Int) := by omega
      have q2 : (k : Int) < (m : Int) := by omega
      obtain ⟨xf, xa⟩ := x
      dsimp only at Y0 Y1
      go_wp2_with fail
      have hE0 := hE.drew
      refine wp_region_ordT 14 (fun w' => ∃ x : ExtOf w, w' = x.val) [(true, 0), (true, 1), (true, 2), (true, 3), (true, 4), (true, 5), (true, 6), (true, 7), (true, 8), (true, 9), (true, 10), (true, 11), (false, 12), (false, 13)] (by kernel_rfl) (by kernel_rfl) ⟨⟨_, hE0⟩, rfl⟩ ?_
      refine wpOrdT_quiet [0, 1, 2, 3, 4, 5, 6, 7, 8, 9, 10, 11] [(false, 12), (false, 13)] _ (by kernel_rfl) ?_
      simp only [nthOps, nthOp, List.cons_append, List.nil_append]
      repeat (go_big_quiet_step (fail))
      refine wpQuiet_nil ?_
      refine wpOrdT_act 12 [(false, 13)] (by kernel_rfl) ?_
      intro K hK
      simp only [nthOp]
      go_wp2_with fail
      refine hK _ _ ⟨⟨_, hE0.alloc _⟩, rfl⟩ ?_
      clear hK K
      have HO1 : Hid ((wr.alloc (.cells #[.int .i64 xf, .int .i64 xa] 30)).drew.ownsRow w.heap.size 30 2 u5 k (flatP (fr.take k))) := Lib.hid (own_ext HO.out (Ext.new wr _).drew)
      have b1 : Boxed (wr.alloc (.cells #[.int .i64 xf, .int .i64 xa] 30)).drew w.heap.size 24 (.slice A cut.length c) := b.alloc _
      have bN : Blk (wr.alloc (.cells #[.int .i64 xf, .int .i64 xa] 30)).drew wr.heap.size 30 (encP (xf, xa)).toArray := Blk.new wr 30 _
      have hE1 : Ext w (wr.alloc (.cells #[.int .i64 xf, .int .i64 xa] 30)).drew := (hE.alloc _).drew
      clear b HO hE hE0 Y0 Y1
      have hz := hE1.size
      generalize (wr.alloc (.cells #[.int .i64 xf, .int .i64 xa] 30)).drew = V at *
      generalize wr.heap.size = gN at *
      refine wpOrdT_act 13 [] (by kernel_rfl) ?_
      intro K hK
      simp only [nthOp]
      go_wp2_with (at_builtin; refine wpList_app elem_rfr rfl (.tmp 24) (.tmp 36) rfl w.heap.size _ k _ (by rfl) HO1.out gN 1 1 (encP (xf, xa)) (by rfl) bN rfl (by simp [Value.oneCell', encP]) (by omega) (by omega) (by omega) hz ?_)
      intro g cap w2 o2 gr2 _ _
      have HO2 := Lib.hid o2; clear o2
      have hE2 : Ext w w2 := own_grown gr2 hE1 (fun g hg => (HO1.out.lt g hg).1)
      have b2 : Boxed w2 w.heap.size 24 (.slice A cut.length c) := b1.kept gr2 (b1.not_row (by decide) HO1.out)
      try simp only [Act.put, List.setIfInBounds_toArray, List.set_cons_succ, List.set_cons_zero]
      go_wp2
      refine hK _ _ ⟨⟨_, hE2⟩, rfl⟩ ?_
      clear hK K gr2 b1 HO1
      simp only [wpOrdT, List.drop_succ_cons, List.drop_zero]
      go_wp2_with fail
      go_roundw
      case rel => exact ⟨k + 1, by omega, by go_num, by rw [HT.out, show flatP (fr.take k ++ [(xf, xa)]) = flatP (fr.take k) ++ encP (xf, xa) by simp [flatP]]; exact HO2.out, b2, hE2⟩
      case measure => simp [intOf]; omega
    · obtain rfl : k = m := by omega
      have hfl := HF.out.1
      rw [List.take_of_length_le (by omega)] at HO
      obtain ⟨G, c', rfl, hG, hc'⟩ := rfs_of_own hfl HO.out
      have HG := Lib.hid hG; clear hG HO
      go_wp2_with fail
      have c2 := b.cell
      have Y2 := ExtOf.cell c2
      refine wp_region_ordE 8 [(true, 0), (true, 1), (true, 3), (true, 5), (false, 2), (false, 4), (false, 6), (false, 7)] (by kernel_rfl) (by kernel_rfl) ?_
      refine wpOrdT_quiet [0, 1, 3, 5] [(false, 2), (false, 4), (false, 6), (false, 7)] _ (by kernel_rfl) ?_
      simp only [nthOps, nthOp, List.cons_append, List.nil_append]
      repeat (go_big_quiet_step (fail))
      refine wpQuiet_nil ?_
      have hB_ : Ext wr wr.drew := (Ext.refl _).drew
      clear c2 Y2 b
      refine wpOrdT_act 2 [(false, 4), (false, 6), (false, 7)] (by kernel_rfl) ?_
      intro K hK
      simp only [nthOp]
      go_wp2_with fail
      refine (runRing_any A c cut F k cf fr _ hn (by omega) hc (HR.out.ext (hE.trans hB_)) (HF.out.ext (hE.trans hB_))).mono ?_
      rintro e w2 ⟨v1, rfl, hr1, hx⟩
      replace hB_ := hB_.trans hx
      have HR1 := Lib.hid hr1; clear hr1 hx
      go_wp2
      refine hK _ _ ⟨⟨_, hB_⟩, rfl⟩ ?_
      clear hK K
      refine wpOrdT_act 4 [(false, 6), (false, 7)] (by kernel_rfl) ?_
      intro K hK
      simp only [nthOp]
      go_wp2_with fail
      refine (to_any _ _ _ _).mono ?_
      rintro e w3 ⟨rfl, hx⟩
      replace hB_ := hB_.trans hx
      have HR2 := Lib.hid (HR1.out.ext hx); clear hx HR1
      go_wp2
      refine hK _ _ ⟨⟨_, hB_⟩, rfl⟩ ?_
      clear hK K
      refine wpOrdT_act 6 [(false, 7)] (by kernel_rfl) ?_
      intro K hK
      simp only [nthOp]
      go_wp2_with fail
      refine (rrun_any A c cut G k c' fr _ hn (by omega) (HR.out.ext (hE.trans hB_)) (HG.out.ext hB_)).mono ?_
      rintro e w4 ⟨v2, rfl, hr2, hx⟩
      replace hB_ := hB_.trans hx
      have HR3 := Lib.hid (HR2.out.ext hx); have HQ := Lib.hid hr2; clear hr2 hx HR2
      go_wp2
      refine hK _ _ ⟨⟨_, hB_⟩, rfl⟩ ?_
      clear hK K
      refine wpOrdT_act 7 [] (by kernel_rfl) ?_
      intro K hK
      simp only [nthOp]
      go_wp2_with fail
      refine (same_self v1 v2 _ _ HR3.out HQ.out run_len_le).mono ?_
      rintro e w5 ⟨rfl, hx⟩
      replace hB_ := hB_.trans hx
      clear hx HR3 HQ
      go_wp2
      refine hK _ _ ⟨⟨_, hB_⟩, rfl⟩ ?_
      clear hK K
      simp only [wpOrdT, List.drop_succ_cons, List.drop_zero]
      go_wp2_with fail
      go_ret
      exact ⟨rfl, hE.trans hB_⟩
end Go.Proofs.Ytnicgmgihmfjbaa
