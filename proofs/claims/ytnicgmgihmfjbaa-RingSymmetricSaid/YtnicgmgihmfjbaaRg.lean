/- Ring: Reached of the program. -/
import Derived.Test.YtnicgmgihmfjbaaRf
namespace Go.Proofs.Ytnicgmgihmfjbaa
open Go.RowKit Go.Shelf
open Rg (nodeAt link wl way)
attribute [local go_sem] Oper.semAt_some

/-- Which nodes of n are f or among vis. -/
def markL (n f : Nat) (vis : List Nat) : List Bool := (List.range n).map fun t => decide (t = f) || vis.contains t
theorem markL_len (n f : Nat) (vis : List Nat) : (markL n f vis).length = n := by simp [markL]
theorem markL_snoc (n f : Nat) (vis : List Nat) (t : Nat) : (markL n f vis).set t true = markL n f (vis ++ [t]) := by
  unfold markL
  apply List.ext_getElem
  · simp
  · intro i h1 h2
    simp only [List.length_set, List.length_map, List.length_range] at h1
    rw [List.getElem_set]
    simp only [List.getElem_map, List.getElem_range, List.contains_eq_mem, List.mem_append, List.mem_singleton]
    split
    · rename_i h; subst h; simp
    · rename_i h; simp [Ne.symm h]
theorem markL_start (n f : Nat) : (List.replicate n false).set f true = markL n f [] := by
  unfold markL
  apply List.ext_getElem
  · simp
  · intro i h1 h2
    simp only [List.length_set, List.length_replicate] at h1
    rw [List.getElem_set]
    simp only [List.getElem_map, List.getElem_range, List.getElem_replicate]
    split
    · rename_i h; subst h; simp
    · rename_i h; simp [Ne.symm h]
def reachB (cut : List Bool) (f t : Nat) : Bool := decide (t = f) || (Rg.hops cut 0 f t).isSome || (Rg.hops cut 1 f t).isSome
/-- What Reached answers. -/
def reachL (cut : List Bool) (f : Int) : List Bool := if hasB cut.length f = true then (List.range cut.length).map (reachB cut f.toNat) else []
theorem way_has {cut : List Bool} {d f t : Nat} (hf : f < cut.length) (ht : t < cut.length) : ((way cut d f).map (·.1)).contains t = (Rg.hops cut d f t).isSome := by
  rw [Bool.eq_iff_iff, List.contains_iff_mem, Option.isSome_iff_exists]
  simp only [List.mem_map]
  constructor
  · rintro ⟨⟨a, b⟩, h1, h2⟩
    dsimp only at h2; subst h2
    exact ⟨b, (Rg.way_mem hf ht).1 h1⟩
  · rintro ⟨k, hk⟩
    exact ⟨(t, k), (Rg.way_mem hf ht).2 hk, rfl⟩
theorem markL_full {cut : List Bool} {f : Nat} (hf : f < cut.length) (hb : hasB cut.length f = true) : markL cut.length f ((way cut 0 f).map (·.1) ++ (way cut 1 f).map (·.1)) = reachL cut f := by
  unfold reachL markL
  rw [if_pos hb]
  refine List.map_congr_left fun t ht => ?_
  have ht' := List.mem_range.1 ht
  unfold reachB
  rw [Int.toNat_natCast, ← way_has hf ht', ← way_has hf ht', Bool.or_assoc]
  congr 1
  rw [Bool.eq_iff_iff]
  simp only [Bool.or_eq_true, List.contains_iff_mem, List.mem_append]

theorem bool_info : (Try.prog.info? 4).map (fun i => (i.zero, i.size, i.bytes)) = some (some (.bool false), 1, 1) := by kernel_rfl
theorem hmkB (n : Nat) (W : World) (hn : n ≤ 40) :
    (Instr.makeSlice 22 (.int .i64 n) (.int .i64 n)).run Try.prog W = .ok (.slice (some ⟨W.heap.size, 0, none⟩) n n) (W.alloc (.cells ((List.replicate n false).map .bool).toArray 4)) := by
  obtain ⟨i0, hi0, hz0, hz1, hz2⟩ := info_parts bool_info
  have h := run_make (P := Try.prog) W 22 4 i0 (.bool false) Try.underlying22 hi0 hz0 .i64 .i64 (n : Int) (n : Int) (by omega) (by omega) (by rw [hz2]; omega) (by omega)
  rw [h]
  have e : madeCells (Value.bool false).cells n = (List.replicate n (Value.bool false)).toArray := madeCells_one _ _
  simp only [hz1, Nat.mul_one, Int.toNat_natCast, e, List.map_replicate]
theorem mark_cells {n f : Nat} : (Array.replicate n (Value.bool false)).setIfInBounds f (.bool true) = ((markL n f []).map Value.bool).toArray := by
  rw [← markL_start, List.map_set, List.map_replicate]
  apply Array.ext'
  rw [Array.toList_setIfInBounds, Array.toList_replicate]

/-! words for the loops -/
theorem Marks.keep' {lo : Nat} {w w' : World} : ∀ {ds : List Deferred}, (∀ d ∈ ds, ∀ D, d.target = .collected D → w.heap[D]? = some (.deferred (some [])) → w'.heap[D]? = some (.deferred (some []))) → Marks lo w ds → Marks lo w' ds
  | [], _, _ => trivial
  | d :: ds, hk, ⟨⟨D, hl, e, hh, hd⟩, h⟩ => ⟨⟨D, hl, e, hk d (by simp) D (by rw [e]) hh, hd⟩, Marks.keep' (fun d' hd' => hk d' (by simp [hd'])) h⟩
theorem Marks.bound {lo : Nat} {w : World} {ds : List Deferred} (h : Marks lo w ds) : ∀ d ∈ ds, ∀ D, d.target = .collected D → D < w.heap.size := by
  intro d hd D e
  obtain ⟨D', h1, _, h2, _⟩ := h.lt hd
  rw [h2] at e; injection e with e; omega
abbrev mk0 (D : Nat) : Deferred := { target := .collected D, args := #[] }
theorem Marks.push {lo B D : Nat} {w : World} {ds : List Deferred} (hM : Marks lo w ds) (hb : ∀ d ∈ ds, ∀ D, d.target = .collected D → D < B) (hD : B ≤ D) (hl : lo ≤ D) (hK : w.heap[D]? = some (.deferred (some []))) :
    Marks lo w ({ target := .collected D, args := #[] } :: ds) := ⟨⟨D, hl, rfl, hK, fun d' hd' e => by have := hb d' hd' D e; omega⟩, hM⟩
theorem marks_own {β : Type} {lo B : Nat} {ds : List Deferred} (h : ∀ d ∈ ds, ∀ D, d.target = .collected D → D < B) : OwnFrom B (fun (_ : β) W => Marks lo W ds) := by
  intro s X Y row hs hg hr
  refine hs.keep' fun d hd D e hh => (hg.block D (Array.getElem?_eq_some_iff.1 hh).1 (fun e' => ?_)).trans hh
  have h1 := (hr D e'.symm).1
  have h2 := h d hd D e
  omega
theorem Marks.others {lo : Nat} {w w' : World} {ds : List Deferred} (h : Marks lo w ds) (hk : KeepsOthers w w') : Marks lo w' ds := h.keep' fun _ _ D _ hh => hk.same D _ hh rfl
theorem Marks.ext {lo : Nat} {w w' : World} {ds : List Deferred} (h : Marks lo w ds) (hk : Ext w w') : Marks lo w' ds := h.keep' fun _ _ D _ hh => (hk.block D (Array.getElem?_eq_some_iff.1 hh).1).trans hh
theorem blk_own {β : Type} (B : Nat) (t : TypeId) (f : β → Array Value) : Own (fun s W => Blk W B t (f s)) := fun s X Y row hs hg hrow =>
  (hg.block B hs.lt (fun e' => by obtain ⟨o, ho, hc⟩ := hrow B e'.symm; rw [show X.heap[B]? = _ from hs] at ho; cases ho; cases hc)).trans hs
theorem _root_.Go.Boxed.far {W : World} {B : Nat} {t : TypeId} {v : Value} (h : Boxed W B t v) {p : Addr} (hp : B ≠ p.block) (u : Value) : Boxed (W.setCell p u) B t v := (Below.heap_setCell W p u B hp).trans h
theorem KpR.setCell {n₀ Br Bf g i : Nat} {W : World} (hn : n₀ ≤ g) (h1 : Br ≠ g) (h2 : Bf ≠ g) (u : Value) : KpR n₀ Br Bf W (W.setCell ⟨g, i, none⟩ u) :=
  ⟨(Below.refl _ _).setCell (p := ⟨g, i, none⟩) hn u, fun _ x => x.far h1 u, fun _ x => x.far h2 u⟩

def ReachPost (cut : List Bool) (f : Int) (w : World) (e : Ending) (w' : World) : Prop := ∃ A c, e = .returned (.slice A (reachL cut f).length c) ∧ Reads w' w'.heap.size 1 A (reachL cut f).length ((reachL cut f).map .bool) ∧ Ext w w'

set_option maxRecDepth 100000 in
set_option maxHeartbeats 1000000 in
theorem reached_bad (A : Option Addr) (c : Nat) (f : Int) (cut : List Bool) (w : World) (hn : cut.length ≤ 140737488351232) (h : hasB cut.length f = false) :
    Calls Try.prog 17 #[.agg #[.slice A cut.length c], .int .i64 f] w (ReachPost cut f w) := by
  obtain ⟨b, hE⟩ := Boxed.start w 24 (.slice A cut.length c)
  have HN := Lib.hid (show reachL cut f = [] by unfold reachL; rw [h]; rfl)
  go_enter Try.func17, Try.ntmps17
  go_wp2_with fail
  generalize w.alloc (.cells #[.slice A cut.length c] 24) = W at *
  refine (has_v _ _ _ _ _ _ hn h).mono ?_
  rintro e W1 ⟨rfl, hx⟩
  replace hE := hE.trans hx; clear hx b W
  go_wp2_with fail
  go_ret
  unfold ReachPost
  rw [HN.out]
  exact ⟨none, 0, rfl, Reads.none_, hE⟩

set_option maxRecDepth 100000 in
set_option maxHeartbeats 2000000 in
theorem reached_ok (A : Option Addr) (c f : Nat) (cut : List Bool) (w : World) (h3 : 3 ≤ cut.length) (h4 : cut.length ≤ 40) (hf : f < cut.length) (hR : Reads w w.heap.size 1 A cut.length (cut.map .bool)) :
    Calls Try.prog 17 #[.agg #[.slice A cut.length c], .int .i64 f] w (ReachPost cut f w) := by
  obtain ⟨b, hE⟩ := Boxed.start w 24 (.slice A cut.length c)
  refine calls_marks Try.func17 rfl ?_
  simp only [Try.ntmps17, List.size_toArray, List.length_cons, List.length_nil, Nat.reduceAdd, Nat.reduceSub, Array.replicate_succ, Array.replicate_zero, List.push_toArray, List.append_toArray, List.nil_append, List.cons_append]
  go_wp2_with fail
  generalize w.alloc (.cells #[.slice A cut.length c] 24) = W at *
  refine (has_t _ _ _ _ _ h3 h4 hf).mono ?_
  rintro e W1 ⟨rfl, hx⟩
  replace b := b.ext hx; replace hE := hE.trans hx
  clear hx W
  have hg := b.lt
  have c2 := b.cell
  have hmk := hmkB cut.length W1 h4
  go_wp2_with fail
  clear hmk c2
  have b' := Boxed.new (W1.alloc (.cells ((Array.replicate cut.length (Value.bool false)).setIfInBounds f (Value.bool true)) 4)) 22 (.slice (some ⟨W1.heap.size, 0, none⟩) cut.length cut.length)
  have kk := (Blk.new W1 4 ((Array.replicate cut.length (Value.bool false)).setIfInBounds f (Value.bool true))).alloc (.cells #[.slice (some ⟨W1.heap.size, 0, none⟩) cut.length cut.length] 22)
  replace b := (b.alloc (.cells ((Array.replicate cut.length (Value.bool false)).setIfInBounds f (Value.bool true)) 4)).alloc (.cells #[.slice (some ⟨W1.heap.size, 0, none⟩) cut.length cut.length] 22)
  replace hE := (hE.alloc (.cells ((Array.replicate cut.length (Value.bool false)).setIfInBounds f (Value.bool true)) 4)).alloc (.cells #[.slice (some ⟨W1.heap.size, 0, none⟩) cut.length cut.length] 22)
  simp only [World.size_alloc] at b'
  generalize hW2 : (W1.alloc (.cells ((Array.replicate cut.length (Value.bool false)).setIfInBounds f (Value.bool true)) 4)).alloc (.cells #[.slice (some ⟨W1.heap.size, 0, none⟩) cut.length cut.length] 22) = W2 at *
  clear hW2
  generalize W1.heap.size = g at *
  rw [mark_cells] at kk
  clear W1
  refine (callsIn_wide.1 (dirs_in Fence.wide 3 trivial rfl _)).mono ?_
  rintro e w7 ⟨rfl, rfl⟩
  replace b := b.alloc (.cells #[.func (.func 31) #[] #[], .func (.func 32) #[] #[]] 61)
  replace b' := b'.alloc (.cells #[.func (.func 31) #[] #[], .func (.func 32) #[] #[]] 61)
  replace kk := kk.alloc (.cells #[.func (.func 31) #[] #[], .func (.func 32) #[] #[]] 61)
  replace hE := hE.alloc (.cells #[.func (.func 31) #[] #[], .func (.func 32) #[] #[]] 61)
  generalize W2.alloc (.cells #[.func (.func 31) #[] #[], .func (.func 32) #[] #[]] 61) = V at *
  clear W2
  have hm : Marks w.heap.size V [] := trivial
  go_wp2_with fail
  refine wp_loop_rounds 3 ?_
  rw [rounds_succ]
  have hix := idx_dirs0 V
  have c2 := b.cell
  go_wp2_with fail
  clear hix c2
  refine (callsIn_wide.1 (asc_in Fence.wide 3 trivial rfl _ _ _ _ _)).mono ?_
  rintro e w7 ⟨rfl, rfl⟩
  have a1 := (Boxed.new V 24 (.slice A cut.length c)).alloc (.cells #[.int .i64 f] 3)
  have a2 := Boxed.new (V.alloc (.cells #[.slice A cut.length c] 24)) 3 (.int .i64 f)
  have hB2 := ((Ext.refl V).alloc (.cells #[.slice A cut.length c] 24)).alloc (.cells #[.int .i64 f] 3)
  simp only [World.size_alloc] at a2
  have hgV := kk.lt
  have hgV' := b'.lt
  generalize hW4 : (V.alloc (.cells #[.slice A cut.length c] 24)).alloc (.cells #[.int .i64 f] 3) = V4 at *
  clear hW4
  replace b := b.ext hB2; replace b' := b'.ext hB2; replace kk := kk.ext hB2; replace hE := hE.trans hB2; replace hm := hm.ext hB2
  clear hB2
  generalize hBr : V.heap.size = Br at *
  clear hBr V
  go_wp2_with fail
  refine wpIn_wide (n := 3) |>.1 ?_
  have hz0 := hE.size
  refine range2 (fun x => [(28, .int .i64 (x.1.1 : Int)), (29, .int .i64 (x.1.2 : Int))]) (fun x => [(28, .int .i64 (x.1.1 : Int)), (29, .int .i64 (x.1.2 : Int)), (8, .int .i64 (x.1.1 : Int))]) (asc_stops Fence.wide 2 trivial rfl (by omega) Br (Br + 1) w.heap.size c f A cut h4 hf V4 a1 a2 hz0 (hR.below hE)) rfl (by omega) rfl trivial (enters_of Try.func37 (by kernel_rfl) rfl) (fun _ _ => by simp [sets])
    KpR.trans (fun W l o o' hl => KpR.book hz0 a1.lt a2.lt W l o o' hl) (Below.refl _ _) (fun _ => rfl)
    (fun pre W => Boxed W w.heap.size 24 (.slice A cut.length c) ∧ Boxed W (g + 1) 22 (.slice (some ⟨g, 0, none⟩) cut.length cut.length) ∧ Blk W g 4 ((markL cut.length f (([] : List Nat) ++ pre.map (·.1.1))).map Value.bool).toArray ∧ Ext w W ∧ Marks w.heap.size W [])
    (fun _ _ _ => False)
    (.and ((boxed_own _ _ _).from _) (.and ((boxed_own _ _ _).from _) (.and ((blk_own _ _ _).from _) (.and (ownFrom_below (Nat.le_refl _) hz0) (marks_own hm.bound)))))
    (fun _ => ownFrom_pure _ _)
    ⟨b, b', by simpa using kk, hE, hm⟩ ?assign ?body ?done (fun _ _ _ _ _ _ h => h.elim)
  case assign =>
    intro l x W K hK
    simp only [sets, List.foldl_cons, List.foldl_nil, List.setIfInBounds_toArray, List.set_cons_succ, List.set_cons_zero] at hK ⊢
    gi_wp2
    exact hK
  case body =>
    rintro l pre x W ⟨k2, k5, kL, hx, hM⟩ _
    simp only [sets, List.foldl_cons, List.foldl_nil, List.setIfInBounds_toArray, List.set_cons_succ, List.set_cons_zero]
    obtain ⟨⟨t, hp⟩, hxw⟩ := x
    have htn := (Rg.way_node_lt (by omega) hxw).1
    dsimp only at htn
    dsimp only
    have c5 := k5.cell
    obtain ⟨u0, cL⟩ := kL.cell_some (i := t) (by rw [List.length_map, markL_len]; exact htn)
    have fL := kL.frozen t
    have KL := Lib.hid kL; clear kL
    gi_wp2
    refine ⟨KeepsOthers.setCell _ _ _, KpR.setCell (by omega) (by omega) (by omega) _, k2.far (by show _ ≠ g; omega) _, k5.far (by show _ ≠ g; omega) _, ?_, hx.setCell (by show _ ≤ g; omega) _, hM.others (KeepsOthers.setCell _ _ _)⟩
    have h1 := KL.out.setL (i := t) (.bool true)
    rw [← List.map_set, markL_snoc] at h1
    rw [List.map_append, ← List.append_assoc]
    exact h1
  case done =>
  rintro D0 ys V hD hys ⟨b0, b1, k0, hE0, hm0⟩ hK
  replace hm := hm0.push hm.bound hD (by omega) hK
  clear hm0 hK b b' kk hE a1 a2 hgV hgV' hz0 hD V4
  rw [show ys.map (·.1.1) = (way cut 0 f).map (·.1) by have := congrArg (List.map (·.1)) hys; rw [List.map_map] at this; exact this] at k0
  clear hys ys
  have b := b0; have b' := b1; have kk := k0; have hE := hE0
  clear b0 b1 k0 hE0
  go_wp2_with fail
  rw [rounds_succ]
  have hix := idx_dirs1 V
  have c2 := b.cell
  go_wp2_with fail
  clear hix c2
  refine (callsIn_wide.1 (desc_in Fence.wide 3 trivial rfl _ _ _ _ _)).mono ?_
  rintro e w7 ⟨rfl, rfl⟩
  have a1 := (Boxed.new V 24 (.slice A cut.length c)).alloc (.cells #[.int .i64 f] 3)
  have a2 := Boxed.new (V.alloc (.cells #[.slice A cut.length c] 24)) 3 (.int .i64 f)
  have hB2 := ((Ext.refl V).alloc (.cells #[.slice A cut.length c] 24)).alloc (.cells #[.int .i64 f] 3)
  simp only [World.size_alloc] at a2
  have hgV := kk.lt
  have hgV' := b'.lt
  generalize hW4 : (V.alloc (.cells #[.slice A cut.length c] 24)).alloc (.cells #[.int .i64 f] 3) = V4 at *
  clear hW4
  replace b := b.ext hB2; replace b' := b'.ext hB2; replace kk := kk.ext hB2; replace hE := hE.trans hB2; replace hm := hm.ext hB2
  clear hB2
  generalize hBr : V.heap.size = Br at *
  clear hBr V
  go_wp2_with fail
  refine wpIn_wide (n := 3) |>.1 ?_
  have hz0 := hE.size
  refine range2 (fun x => [(28, .int .i64 (x.1.1 : Int)), (29, .int .i64 (x.1.2 : Int))]) (fun x => [(28, .int .i64 (x.1.1 : Int)), (29, .int .i64 (x.1.2 : Int)), (8, .int .i64 (x.1.1 : Int))]) (desc_stops Fence.wide 2 trivial rfl (by omega) Br (Br + 1) w.heap.size c f A cut h4 hf V4 a1 a2 hz0 (hR.below hE)) rfl (by omega) rfl trivial (enters_of Try.func38 (by kernel_rfl) rfl) (fun _ _ => by simp [sets])
    KpR.trans (fun W l o o' hl => KpR.book hz0 a1.lt a2.lt W l o o' hl) (Below.refl _ _) (fun _ => rfl)
    (fun pre W => Boxed W w.heap.size 24 (.slice A cut.length c) ∧ Boxed W (g + 1) 22 (.slice (some ⟨g, 0, none⟩) cut.length cut.length) ∧ Blk W g 4 ((markL cut.length f (([] ++ (way cut 0 f).map (·.1)) ++ pre.map (·.1.1))).map Value.bool).toArray ∧ Ext w W ∧ Marks w.heap.size W [mk0 D0])
    (fun _ _ _ => False)
    (.and ((boxed_own _ _ _).from _) (.and ((boxed_own _ _ _).from _) (.and ((blk_own _ _ _).from _) (.and (ownFrom_below (Nat.le_refl _) hz0) (marks_own hm.bound)))))
    (fun _ => ownFrom_pure _ _)
    ⟨b, b', by simpa using kk, hE, hm⟩ ?assign ?body ?done (fun _ _ _ _ _ _ h => h.elim)
  case assign =>
    intro l x W K hK
    simp only [sets, List.foldl_cons, List.foldl_nil, List.setIfInBounds_toArray, List.set_cons_succ, List.set_cons_zero] at hK ⊢
    gi_wp2
    exact hK
  case body =>
    rintro l pre x W ⟨k2, k5, kL, hx, hM⟩ _
    simp only [sets, List.foldl_cons, List.foldl_nil, List.setIfInBounds_toArray, List.set_cons_succ, List.set_cons_zero]
    obtain ⟨⟨t, hp⟩, hxw⟩ := x
    have htn := (Rg.way_node_lt (by omega) hxw).1
    dsimp only at htn
    dsimp only
    have c5 := k5.cell
    obtain ⟨u0, cL⟩ := kL.cell_some (i := t) (by rw [List.length_map, markL_len]; exact htn)
    have fL := kL.frozen t
    have KL := Lib.hid kL; clear kL
    gi_wp2
    refine ⟨KeepsOthers.setCell _ _ _, KpR.setCell (by omega) (by omega) (by omega) _, k2.far (by show _ ≠ g; omega) _, k5.far (by show _ ≠ g; omega) _, ?_, hx.setCell (by show _ ≤ g; omega) _, hM.others (KeepsOthers.setCell _ _ _)⟩
    have h1 := KL.out.setL (i := t) (.bool true)
    rw [← List.map_set, markL_snoc] at h1
    rw [List.map_append, ← List.append_assoc]
    exact h1
  case done =>
  rintro D1 ys V hD hys ⟨b0, b1, k0, hE0, hm0⟩ hK
  replace hm := hm0.push hm.bound hD (by omega) hK
  clear hm0 hK b b' kk hE a1 a2 hgV hgV' hz0 hD V4
  rw [show ys.map (·.1.1) = (way cut 1 f).map (·.1) by have := congrArg (List.map (·.1)) hys; rw [List.map_map] at this; exact this] at k0
  clear hys ys
  have b := b0; have b' := b1; have kk := k0; have hE := hE0
  clear b0 b1 k0 hE0
  go_wp2_with fail
  rw [rounds_succ]
  have c5 := b'.cell
  go_wp2_with fail
  refine leaves_marks _ _ hm fun w' hs => ?_
  have hb : hasB cut.length f = true := hasB_ok h3 h4 hf
  refine ⟨_, results_tmp rfl _ _ _, ?_⟩
  rw [List.nil_append, markL_full hf hb] at kk
  have hlen : (reachL cut f).length = cut.length := by unfold reachL; rw [if_pos hb]; simp
  have kk' : Blk w' g 4 ((reachL cut f).map Value.bool).toArray := hs.2 _ _ _ _ kk
  unfold ReachPost
  rw [hlen]
  exact ⟨_, _, rfl, kk'.reads (by simp [hlen]), Below.trans hE hs.1⟩

theorem reached_any (A : Option Addr) (c : Nat) (f : Int) (cut : List Bool) (w : World) (hn : cut.length ≤ 140737488351232) (hR : Reads w w.heap.size 1 A cut.length (cut.map .bool)) :
    Calls Try.prog 17 #[.agg #[.slice A cut.length c], .int .i64 f] w (ReachPost cut f w) := by
  cases h1 : hasB cut.length f
  · exact reached_bad _ _ _ _ _ hn h1
  · have k1 := hasB_iff.1 h1
    obtain ⟨f', rfl⟩ : ∃ f' : Nat, f = f' := ⟨f.toNat, by omega⟩
    exact reached_ok A c f' cut w k1.1 k1.2.1 (by omega) hR
end Go.Proofs.Ytnicgmgihmfjbaa
