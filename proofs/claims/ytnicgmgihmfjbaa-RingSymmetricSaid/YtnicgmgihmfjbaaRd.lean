/- Ring: Hops of the program. -/
import Derived.Test.YtnicgmgihmfjbaaRc
import Derived.Test.YtnicgmgihmfjbaaOrd2
namespace Go.Proofs.Ytnicgmgihmfjbaa
open Go.RowKit Go.Shelf
open Rg (nodeAt link wl way)
attribute [local go_sem] Oper.semAt_some

def hopV : Option Nat → Value
  | some k => .tuple #[.int .i64 (k : Int), .bool true]
  | none => .tuple #[.int .i64 0, .bool false]

theorem has_t (A : Option Addr) (n c : Nat) (f : Nat) (w : World) (h3 : 3 ≤ n) (h4 : n ≤ 40) (hf : f < n) : Calls Try.prog 23 #[.agg #[.slice A n c], .int .i64 f] w fun e w' => e = .returned (.bool true) ∧ Ext w w' := by
  rw [← hasB_ok h3 h4 hf]; exact has_any A n c f w (by omega)
theorem has_f (A : Option Addr) (n c : Nat) (f : Int) (w : World) (hn : n ≤ 140737488351232) (h : hasB n f = false) : Calls Try.prog 23 #[.agg #[.slice A n c], .int .i64 f] w fun e w' => e = .returned (.bool false) ∧ Ext w w' := by
  rw [← h]; exact has_any A n c f w hn

theorem snoc_val {p : Nat × Nat → Prop} (pre : List { x // p x }) (x : Nat × Nat) (hx : p x) : List.map (fun x => x.1) (pre ++ [(⟨x, hx⟩ : { x // p x })]) = pre.map (·.1) ++ [x] := by simp
theorem Marks.one {lo D : Nat} {w : World} (hl : lo ≤ D) (hK : w.heap[D]? = some (.deferred (some []))) : Marks lo w [{ target := .collected D, args := #[] }] := ⟨⟨D, hl, rfl, hK, by simp⟩, trivial⟩
abbrev sets (l : List (Nat × Value)) (t : Array Value) : Array Value := l.foldl (fun t p => t.setIfInBounds p.1 p.2) t
theorem range2 {F : Fence} {n : Nat} {P : Program} {α : Type} {g : Operand} {ps : Array Tmp} {assign body : Code} {Q : Exit → Act → World → Prop} {a : Act} {w : World} {gf : Nat} {lb : Array Value} {encs : α → Array Value} {Kp : World → World → Prop} {S Sp : List α → Prop} {N : Nat} {w0 : World}
    (v u : α → List (Nat × Value)) (hseq : SeqStopsK F (n - 1) P gf lb encs Kp S Sp N w0) (hro : F.round = none) (h1 : 1 ≤ n) (hg : a.eval g = .func (.func gf) #[] lb) (hFg : F.fn gf) (eg : ∀ args w, (callFunc gf args).run P w = .ok (.enter gf args) w)
    (hv : ∀ x t, (ps.zip (encs x)).foldl (fun t (p, v) => t.setIfInBounds p v) t = sets (v x) t)
    (hKt : ∀ {A B C : World}, Kp A B → Kp B C → Kp A C) (hKb : ∀ (W : World) (l : Nat) (o o' : Obj), w.heap.size ≤ l → W.heap[l]? = some o → o.isCells = false → o.isWalk = false → Kp W (W.putObj l o')) (hb0 : Below w0.heap.size w0 w) (hps : ∀ x, (encs x).size = ps.size)
    (I : List α → World → Prop) (Ix : Code → List α → World → Prop) (hI : OwnFrom w.heap.size I) (hIx : ∀ c, OwnFrom w.heap.size (Ix c)) (h0 : I [] w)
    (hassign : ∀ (l : Nat) (x : α) (W : World) (K : Act → World → Prop), K { tmps := sets (u x) a.tmps, defers := [] } W →
      assign.wpIn (F.inRound l) (n - 1 - 1) P (Exit.then K (fun _ _ _ => False)) { tmps := sets (v x) a.tmps, defers := [] } W)
    (hbody : ∀ (l : Nat) (pre : List α) (x : α) (W : World), I pre W → pre.length < N → body.wpIn (F.inRound l) (n - 1 - 1) P (ownPostK Kp I Ix (pre ++ [x]) W) { tmps := sets (u x) a.tmps, defers := [] } W)
    (hdone : ∀ (D : Nat) (xs : List α) (W : World), w.heap.size ≤ D → S xs → I xs W → W.heap[D]? = some (.deferred (some [])) → Q .normal { a with defers := { target := .collected D, args := #[] } :: a.defers } W)
    (hstop : ∀ (D : Nat) (c : Code) (pre : List α) (W : World), w.heap.size ≤ D → Sp pre → Ix c pre W → W.heap[D]? = some (.deferred (some [])) → c.wpIn F n P Q { a with defers := { target := .collected D, args := #[] } :: a.defers } W) :
    (Code.rangeFunc g ps assign body).wpIn F n P Q a w :=
  wpIn_rangeFunc_ownF hro h1 hg hFg eg hseq (fun h k => hKt h k) hKb hb0 hps I Ix hI hIx h0 (fun x => { tmps := sets (u x) a.tmps, defers := [] }) (fun l x W K hK => by rw [hv]; exact hassign l x W K hK) hbody hdone hstop

theorem idx_dirs0 (w : World) : Sem.run Try.prog (Instr.index 61 (.agg #[.func (.func 31) #[] #[], .func (.func 32) #[] #[]]) (.int .i64 0)) w = .ok (.func (.func 31) #[] #[]) w := by
  simp [Instr.index, run_underlying Try.underlying61, asIntOf, go_sem, Try.isAgg60, Try.sizeOf60, part]
theorem idx_dirs1 (w : World) : Sem.run Try.prog (Instr.index 61 (.agg #[.func (.func 31) #[] #[], .func (.func 32) #[] #[]]) (.int .i64 1)) w = .ok (.func (.func 32) #[] #[]) w := by
  simp [Instr.index, run_underlying Try.underlying61, asIntOf, go_sem, Try.isAgg60, Try.sizeOf60, part]
/-- The first way's node that is t. -/
def look (t : Nat) (l : List (Nat × Nat)) : Option (Nat × Nat) := l.find? fun x => decide (x.1 = t)
theorem look_hit {t : Nat} {pre : List (Nat × Nat)} {x : Nat × Nat} (h : look t pre = none) (hx : x.1 = t) : look t (pre ++ [x]) = some x := by
  unfold look at *; rw [List.find?_append, h]; simp [hx]
theorem look_miss {t : Nat} {pre : List (Nat × Nat)} {x : Nat × Nat} (h : look t pre = none) (hx : x.1 ≠ t) : look t (pre ++ [x]) = none := by
  unfold look at *; rw [List.find?_append, h]; simp [hx]
theorem look_pre {t : Nat} {pre l : List (Nat × Nat)} {x : Nat × Nat} (h : look t pre = some x) (hp : pre <+: l) : look t l = some x := by
  obtain ⟨r, rfl⟩ := hp
  unfold look at *; rw [List.find?_append, h]; rfl
theorem look_hops {cut : List Bool} {d f t : Nat} {x : Nat × Nat} (hf : f < cut.length) (ht : t < cut.length) (h : look t (way cut d f) = some x) : Rg.hops cut d f t = some x.2 := by
  unfold look at h
  have h1 := List.mem_of_find?_eq_some h
  have h2 := List.find?_some h
  simp only [decide_eq_true_eq] at h2
  obtain ⟨a, b⟩ := x
  dsimp only at h2; subst h2
  exact (Rg.way_mem hf ht).1 h1
theorem look_none {cut : List Bool} {d f t : Nat} (hf : f < cut.length) (ht : t < cut.length) (h : look t (way cut d f) = none) : Rg.hops cut d f t = none := by
  cases hx : Rg.hops cut d f t with
  | none => rfl
  | some k =>
    have h1 := (Rg.way_mem hf ht).2 hx
    unfold look at h
    have := List.find?_eq_none.1 h _ h1
    simp at this

set_option maxRecDepth 100000 in
set_option maxHeartbeats 2000000 in
theorem hops_asc (A : Option Addr) (c f t : Nat) (cut : List Bool) (w : World) (h3 : 3 ≤ cut.length) (h4 : cut.length ≤ 40) (hf : f < cut.length) (ht : t < cut.length) (hR : Reads w w.heap.size 1 A cut.length (cut.map .bool)) :
    Calls Try.prog 16 #[.agg #[.slice A cut.length c], .int .i64 f, .int .i64 t, .int .i64 0] w fun e w' => e = .returned (hopV (Rg.hops cut 0 f t)) ∧ Ext w w' := by
  refine calls_marks Try.func16 rfl ?_
  simp only [Try.ntmps16, List.size_toArray, List.length_cons, List.length_nil, Nat.reduceAdd, Nat.reduceSub, Array.replicate_succ, Array.replicate_zero, List.push_toArray, List.append_toArray, List.nil_append, List.cons_append]
  have b4 := Boxed.new w 24 (.slice A cut.length c)
  have b6 := Boxed.new (w.alloc (.cells #[.slice A cut.length c] 24)) 3 (.int .i64 t)
  have b8 := Boxed.new ((w.alloc (.cells #[.slice A cut.length c] 24)).alloc (.cells #[.int .i64 t] 3)) 3 (.int .i64 0)
  have b9 := Boxed.new (((w.alloc (.cells #[.slice A cut.length c] 24)).alloc (.cells #[.int .i64 t] 3)).alloc (.cells #[.int .i64 0] 3)) 4 (.bool false)
  have hx0 : Ext w ((((w.alloc (.cells #[.slice A cut.length c] 24)).alloc (.cells #[.int .i64 t] 3)).alloc (.cells #[.int .i64 0] 3)).alloc (.cells #[.bool false] 4)) := (((Ext.new _ _).alloc _).alloc _).alloc _
  replace b4 := ((b4.alloc (.cells #[.int .i64 t] 3)).alloc (.cells #[.int .i64 0] 3)).alloc (.cells #[.bool false] 4)
  replace b6 := (b6.alloc (.cells #[.int .i64 0] 3)).alloc (.cells #[.bool false] 4)
  replace b8 := b8.alloc (.cells #[.bool false] 4)
  simp only [World.size_alloc] at b6 b8 b9
  go_wp2_with fail
  generalize hW0 : ((((w.alloc (.cells #[.slice A cut.length c] 24)).alloc (.cells #[.int .i64 t] 3)).alloc (.cells #[.int .i64 0] 3)).alloc (.cells #[.bool false] 4)) = W0 at *
  clear hW0
  refine (has_t _ _ _ _ _ h3 h4 hf).mono ?_
  rintro e W1 ⟨rfl, hx1⟩
  replace b4 := b4.ext hx1; replace b6 := b6.ext hx1; replace b8 := b8.ext hx1; replace b9 := b9.ext hx1; replace hx0 := hx0.trans hx1
  clear hx1 W0
  have c4 := b4.cell; have c6 := b6.cell
  go_wp2_with fail
  refine (has_t _ _ _ _ _ h3 h4 ht).mono ?_
  rintro e W2 ⟨rfl, hx1⟩
  replace b4 := b4.ext hx1; replace b6 := b6.ext hx1; replace b8 := b8.ext hx1; replace b9 := b9.ext hx1; replace hx0 := hx0.trans hx1
  clear hx1 c4 c6 W1
  have hd1 : decide ((0 : Int) < 0) = false := rfl
  go_wp2_with fail
  clear hd1
  have c4 := b4.cell
  have Y4 := ExtOf.cell c4
  refine wp_region_ordN [(true, 1), (true, 3), (true, 4), (false, 0), (false, 2), (false, 5)] (by kernel_rfl) (by kernel_rfl) ?_
  have hB_ : Ext W2 W2.drew := (Ext.refl _).drew
  refine wpOrd_quiet [1, 3, 4] [(false, 0), (false, 2), (false, 5)] _ (by kernel_rfl) ?_
  simp only [nthOps, nthOp, List.cons_append, List.nil_append]
  repeat (go_big_quiet_step (fail))
  refine wpQuiet_nil ?_
  refine wpOrd_act 0 [(false, 2), (false, 5)] (by kernel_rfl) ?_
  intro K hK
  simp only [nthOp]
  go_wp2_with fail
  refine (callsIn_wide.1 (dirs_in Fence.wide 3 trivial rfl _)).mono ?_
  rintro e w7 ⟨rfl, rfl⟩
  replace hB_ := hB_.alloc (.cells #[.func (.func 31) #[] #[], .func (.func 32) #[] #[]] 61)
  generalize W2.drew.alloc (.cells #[.func (.func 31) #[] #[], .func (.func 32) #[] #[]] 61) = W3 at *
  go_wp2
  refine hK _ _ ⟨⟨W3, hB_⟩, rfl⟩ ?_
  clear hK K
  have hix := idx_dirs0 W3
  refine wpOrd_act 2 [(false, 5)] (by kernel_rfl) ?_
  intro K hK
  simp only [nthOp]
  go_wp2_with fail
  refine hK _ _ ⟨⟨W3, hB_⟩, rfl⟩ ?_
  clear hK K
  replace b4 := b4.ext hB_; replace b6 := b6.ext hB_; replace b8 := b8.ext hB_; replace b9 := b9.ext hB_; replace hx0 := hx0.trans hB_
  refine wpOrd_act 5 [] (by kernel_rfl) ?_
  intro K hK
  simp only [nthOp]
  go_wp2_with fail
  refine (callsIn_wide.1 (asc_in Fence.wide 3 trivial rfl _ _ _ _ _)).mono ?_
  rintro e w7 ⟨rfl, rfl⟩
  have hB2 := ((Ext.refl W3).alloc (.cells #[.slice A cut.length c] 24)).alloc (.cells #[.int .i64 f] 3)
  have a1 := (Boxed.new W3 24 (.slice A cut.length c)).alloc (.cells #[.int .i64 f] 3)
  have a2 := Boxed.new (W3.alloc (.cells #[.slice A cut.length c] 24)) 3 (.int .i64 f)
  simp only [World.size_alloc] at a2
  generalize hW4 : (W3.alloc (.cells #[.slice A cut.length c] 24)).alloc (.cells #[.int .i64 f] 3) = W4 at *
  clear hW4
  go_wp2
  refine hK _ _ ⟨⟨W4, hB_.trans hB2⟩, rfl⟩ ?_
  clear hK K Y4 c4
  simp only [wpOrd]
  replace b4 := b4.ext hB2; replace b6 := b6.ext hB2; replace b8 := b8.ext hB2; replace b9 := b9.ext hB2; replace hx0 := hx0.trans hB2
  clear hB2 hB_
  go_wp2_with fail
  refine wpIn_wide (n := 3) |>.1 ?_
  clear hix
  have hz0 := hx0.size
  refine range2 (fun x => [(36, .int .i64 (x.1.1 : Int)), (37, .int .i64 (x.1.2 : Int))]) (fun x => [(36, .int .i64 (x.1.1 : Int)), (37, .int .i64 (x.1.2 : Int)), (10, .int .i64 (x.1.1 : Int)), (11, .int .i64 (x.1.2 : Int))]) (asc_stops Fence.wide 2 trivial rfl (by omega) W3.heap.size (W3.heap.size + 1) w.heap.size c f A cut h4 hf W4 a1 a2 hz0 (hR.below hx0)) rfl (by omega) rfl trivial (enters_of Try.func37 (by kernel_rfl) rfl) (fun _ _ => by simp [sets])
    KpR.trans (fun W l o o' hl => KpR.book hz0 a1.lt a2.lt W l o o' hl) (Below.refl _ _) (fun _ => rfl)
    (fun pre W => look t (pre.map (·.1)) = none ∧ Boxed W (w.heap.size + 1) 3 (.int .i64 t) ∧ Boxed W (w.heap.size + 1 + 1) 3 (.int .i64 0) ∧ Boxed W (w.heap.size + 1 + 1 + 1) 4 (.bool false) ∧ Ext w W)
    (fun c pre W => (c = .ret ∧ ∃ x, look t (pre.map (·.1)) = some x) ∧ Boxed W (w.heap.size + 1 + 1) 3 (.int .i64 (((look t (pre.map (·.1))).getD (0, 0)).2 : Nat)) ∧ Boxed W (w.heap.size + 1 + 1 + 1) 4 (.bool true) ∧ Ext w W)
    (.and (ownFrom_pure _ _) (.and ((boxed_own _ _ _).from _) (.and ((boxed_own _ _ _).from _) (.and ((boxed_own _ _ _).from _) (ownFrom_below (Nat.le_refl _) hz0)))))
    (fun c => .and (ownFrom_pure _ _) (.and ((boxed_own _ _ _).from _) (.and ((boxed_own _ _ _).from _) (ownFrom_below (Nat.le_refl _) hz0))))
    ⟨rfl, b6, b8, b9, hx0⟩ ?assign ?body ?done ?stop
  case assign =>
    intro l x W K hK
    simp only [sets, List.foldl_cons, List.foldl_nil, List.setIfInBounds_toArray, List.set_cons_succ, List.set_cons_zero] at hK ⊢
    gi_wp2
    exact hK
  case body =>
    rintro l pre x W ⟨hl, k6, k8, k9, hx⟩ _
    simp only [sets, List.foldl_cons, List.foldl_nil, List.setIfInBounds_toArray, List.set_cons_succ, List.set_cons_zero]
    have c6 := k6.cell
    have c8 := k8.cell
    have c9 := k9.cell
    have f8 := k8.frozen
    have f9 := k9.frozen
    obtain ⟨x, hxw⟩ := x
    dsimp only
    have hit := look_hit (x := x) hl
    have miss := look_miss (x := x) hl
    rw [← snoc_val pre x hxw] at hit miss
    replace hit := Lib.hid hit; replace miss := Lib.hid miss
    by_cases hxt : x.1 = t
    · have hd : decide ((x.1 : Int) = (t : Int)) = true := by simp [hxt]
      gi_wp2
      have hne : w.heap.size + 1 + 1 ≠ w.heap.size + 1 + 1 + 1 := by omega
      exact ⟨(KeepsOthers.setCell _ _ _).trans (KeepsOthers.setCell _ _ _), ⟨rfl, x, hit.out hxt⟩, by rw [hit.out hxt]; exact (k8.set _).other hne _, (k9.other hne.symm _).set _,
        (hx.setCell (p := ⟨w.heap.size + 1 + 1, 0, none⟩) (by show _ ≤ w.heap.size + 1 + 1; omega) _).setCell (p := ⟨w.heap.size + 1 + 1 + 1, 0, none⟩) (by show _ ≤ w.heap.size + 1 + 1 + 1; omega) _⟩
    · have hd : decide ((x.1 : Int) = (t : Int)) = false := by simp; omega
      gi_wp2
      exact ⟨KeepsOthers.refl _, KpR.refl _ _ _ _, miss.out hxt, k6, k8, k9, hx⟩
  case done =>
    rintro D ys W hD hys ⟨hl, k6, k8, k9, hx⟩ hK
    rw [hys] at hl; clear hys
    have c8 := k8.cell
    have c9 := k9.cell
    have f8 := k8.frozen
    have f9 := k9.frozen
    go_wp2
    have hne : w.heap.size + 1 + 1 ≠ w.heap.size + 1 + 1 + 1 := by omega
    have q8 := (k8.set (.int .i64 0)).other hne (.bool false)
    have q9 := (k9.other hne.symm (.int .i64 0)).set (.bool false)
    have hxx := (hx.setCell (p := ⟨w.heap.size + 1 + 1, 0, none⟩) (by show _ ≤ w.heap.size + 1 + 1; omega) (.int .i64 0)).setCell (p := ⟨w.heap.size + 1 + 1 + 1, 0, none⟩) (by show _ ≤ w.heap.size + 1 + 1 + 1; omega) (.bool false)
    have hKK := ((KeepsOthers.setCell W ⟨w.heap.size + 1 + 1, 0, none⟩ (.int .i64 0)).trans (KeepsOthers.setCell _ ⟨w.heap.size + 1 + 1 + 1, 0, none⟩ (.bool false))).same D _ hK rfl
    refine leaves_marks _ _ (Marks.one (lo := w.heap.size) (by omega) hKK) fun w' hs => ?_
    have r8 := Boxed.cell (hs.2 _ _ _ _ q8)
    have r9 := Boxed.cell (hs.2 _ _ _ _ q9)
    refine ⟨.tuple #[.int .i64 0, .bool false], by simp [results, Try.f16, go_sem, r8, r9], ?_, Below.trans hxx hs.1⟩
    rw [look_none hf ht hl]; rfl
  case stop =>
    rintro D c pre W hD hp ⟨⟨rfl, x, hl⟩, k8, k9, hx⟩ hK
    refine wpIn_wide.2 ?_
    go_wp2
    rw [hl] at k8
    refine leaves_marks _ _ (Marks.one (lo := w.heap.size) (by omega) hK) fun w' hs => ?_
    have r8 := Boxed.cell (hs.2 _ _ _ _ k8)
    have r9 := Boxed.cell (hs.2 _ _ _ _ k9)
    refine ⟨.tuple #[.int .i64 (x.2 : Nat), .bool true], by simp [results, Try.f16, go_sem, r8, r9], ?_, Below.trans hx hs.1⟩
    rw [look_hops hf ht (look_pre hl hp)]; rfl
set_option maxRecDepth 100000 in
set_option maxHeartbeats 2000000 in
theorem hops_desc (A : Option Addr) (c f t : Nat) (cut : List Bool) (w : World) (h3 : 3 ≤ cut.length) (h4 : cut.length ≤ 40) (hf : f < cut.length) (ht : t < cut.length) (hR : Reads w w.heap.size 1 A cut.length (cut.map .bool)) :
    Calls Try.prog 16 #[.agg #[.slice A cut.length c], .int .i64 f, .int .i64 t, .int .i64 1] w fun e w' => e = .returned (hopV (Rg.hops cut 1 f t)) ∧ Ext w w' := by
  refine calls_marks Try.func16 rfl ?_
  simp only [Try.ntmps16, List.size_toArray, List.length_cons, List.length_nil, Nat.reduceAdd, Nat.reduceSub, Array.replicate_succ, Array.replicate_zero, List.push_toArray, List.append_toArray, List.nil_append, List.cons_append]
  have b4 := Boxed.new w 24 (.slice A cut.length c)
  have b6 := Boxed.new (w.alloc (.cells #[.slice A cut.length c] 24)) 3 (.int .i64 t)
  have b8 := Boxed.new ((w.alloc (.cells #[.slice A cut.length c] 24)).alloc (.cells #[.int .i64 t] 3)) 3 (.int .i64 0)
  have b9 := Boxed.new (((w.alloc (.cells #[.slice A cut.length c] 24)).alloc (.cells #[.int .i64 t] 3)).alloc (.cells #[.int .i64 0] 3)) 4 (.bool false)
  have hx0 : Ext w ((((w.alloc (.cells #[.slice A cut.length c] 24)).alloc (.cells #[.int .i64 t] 3)).alloc (.cells #[.int .i64 0] 3)).alloc (.cells #[.bool false] 4)) := (((Ext.new _ _).alloc _).alloc _).alloc _
  replace b4 := ((b4.alloc (.cells #[.int .i64 t] 3)).alloc (.cells #[.int .i64 0] 3)).alloc (.cells #[.bool false] 4)
  replace b6 := (b6.alloc (.cells #[.int .i64 0] 3)).alloc (.cells #[.bool false] 4)
  replace b8 := b8.alloc (.cells #[.bool false] 4)
  simp only [World.size_alloc] at b6 b8 b9
  go_wp2_with fail
  generalize hW0 : ((((w.alloc (.cells #[.slice A cut.length c] 24)).alloc (.cells #[.int .i64 t] 3)).alloc (.cells #[.int .i64 0] 3)).alloc (.cells #[.bool false] 4)) = W0 at *
  clear hW0
  refine (has_t _ _ _ _ _ h3 h4 hf).mono ?_
  rintro e W1 ⟨rfl, hx1⟩
  replace b4 := b4.ext hx1; replace b6 := b6.ext hx1; replace b8 := b8.ext hx1; replace b9 := b9.ext hx1; replace hx0 := hx0.trans hx1
  clear hx1 W0
  have c4 := b4.cell; have c6 := b6.cell
  go_wp2_with fail
  refine (has_t _ _ _ _ _ h3 h4 ht).mono ?_
  rintro e W2 ⟨rfl, hx1⟩
  replace b4 := b4.ext hx1; replace b6 := b6.ext hx1; replace b8 := b8.ext hx1; replace b9 := b9.ext hx1; replace hx0 := hx0.trans hx1
  clear hx1 c4 c6 W1
  have hd1 : decide ((1 : Int) < 0) = false := rfl
  go_wp2_with fail
  clear hd1
  have c4 := b4.cell
  have Y4 := ExtOf.cell c4
  refine wp_region_ordN [(true, 1), (true, 3), (true, 4), (false, 0), (false, 2), (false, 5)] (by kernel_rfl) (by kernel_rfl) ?_
  have hB_ : Ext W2 W2.drew := (Ext.refl _).drew
  refine wpOrd_quiet [1, 3, 4] [(false, 0), (false, 2), (false, 5)] _ (by kernel_rfl) ?_
  simp only [nthOps, nthOp, List.cons_append, List.nil_append]
  repeat (go_big_quiet_step (fail))
  refine wpQuiet_nil ?_
  refine wpOrd_act 0 [(false, 2), (false, 5)] (by kernel_rfl) ?_
  intro K hK
  simp only [nthOp]
  go_wp2_with fail
  refine (callsIn_wide.1 (dirs_in Fence.wide 3 trivial rfl _)).mono ?_
  rintro e w7 ⟨rfl, rfl⟩
  replace hB_ := hB_.alloc (.cells #[.func (.func 31) #[] #[], .func (.func 32) #[] #[]] 61)
  generalize W2.drew.alloc (.cells #[.func (.func 31) #[] #[], .func (.func 32) #[] #[]] 61) = W3 at *
  go_wp2
  refine hK _ _ ⟨⟨W3, hB_⟩, rfl⟩ ?_
  clear hK K
  have hix := idx_dirs1 W3
  refine wpOrd_act 2 [(false, 5)] (by kernel_rfl) ?_
  intro K hK
  simp only [nthOp]
  go_wp2_with fail
  refine hK _ _ ⟨⟨W3, hB_⟩, rfl⟩ ?_
  clear hK K
  replace b4 := b4.ext hB_; replace b6 := b6.ext hB_; replace b8 := b8.ext hB_; replace b9 := b9.ext hB_; replace hx0 := hx0.trans hB_
  refine wpOrd_act 5 [] (by kernel_rfl) ?_
  intro K hK
  simp only [nthOp]
  go_wp2_with fail
  refine (callsIn_wide.1 (desc_in Fence.wide 3 trivial rfl _ _ _ _ _)).mono ?_
  rintro e w7 ⟨rfl, rfl⟩
  have hB2 := ((Ext.refl W3).alloc (.cells #[.slice A cut.length c] 24)).alloc (.cells #[.int .i64 f] 3)
  have a1 := (Boxed.new W3 24 (.slice A cut.length c)).alloc (.cells #[.int .i64 f] 3)
  have a2 := Boxed.new (W3.alloc (.cells #[.slice A cut.length c] 24)) 3 (.int .i64 f)
  simp only [World.size_alloc] at a2
  generalize hW4 : (W3.alloc (.cells #[.slice A cut.length c] 24)).alloc (.cells #[.int .i64 f] 3) = W4 at *
  clear hW4
  go_wp2
  refine hK _ _ ⟨⟨W4, hB_.trans hB2⟩, rfl⟩ ?_
  clear hK K Y4 c4
  simp only [wpOrd]
  replace b4 := b4.ext hB2; replace b6 := b6.ext hB2; replace b8 := b8.ext hB2; replace b9 := b9.ext hB2; replace hx0 := hx0.trans hB2
  clear hB2 hB_
  go_wp2_with fail
  refine wpIn_wide (n := 3) |>.1 ?_
  clear hix
  have hz0 := hx0.size
  refine range2 (fun x => [(36, .int .i64 (x.1.1 : Int)), (37, .int .i64 (x.1.2 : Int))]) (fun x => [(36, .int .i64 (x.1.1 : Int)), (37, .int .i64 (x.1.2 : Int)), (10, .int .i64 (x.1.1 : Int)), (11, .int .i64 (x.1.2 : Int))]) (desc_stops Fence.wide 2 trivial rfl (by omega) W3.heap.size (W3.heap.size + 1) w.heap.size c f A cut h4 hf W4 a1 a2 hz0 (hR.below hx0)) rfl (by omega) rfl trivial (enters_of Try.func38 (by kernel_rfl) rfl) (fun _ _ => by simp [sets])
    KpR.trans (fun W l o o' hl => KpR.book hz0 a1.lt a2.lt W l o o' hl) (Below.refl _ _) (fun _ => rfl)
    (fun pre W => look t (pre.map (·.1)) = none ∧ Boxed W (w.heap.size + 1) 3 (.int .i64 t) ∧ Boxed W (w.heap.size + 1 + 1) 3 (.int .i64 0) ∧ Boxed W (w.heap.size + 1 + 1 + 1) 4 (.bool false) ∧ Ext w W)
    (fun c pre W => (c = .ret ∧ ∃ x, look t (pre.map (·.1)) = some x) ∧ Boxed W (w.heap.size + 1 + 1) 3 (.int .i64 (((look t (pre.map (·.1))).getD (0, 0)).2 : Nat)) ∧ Boxed W (w.heap.size + 1 + 1 + 1) 4 (.bool true) ∧ Ext w W)
    (.and (ownFrom_pure _ _) (.and ((boxed_own _ _ _).from _) (.and ((boxed_own _ _ _).from _) (.and ((boxed_own _ _ _).from _) (ownFrom_below (Nat.le_refl _) hz0)))))
    (fun c => .and (ownFrom_pure _ _) (.and ((boxed_own _ _ _).from _) (.and ((boxed_own _ _ _).from _) (ownFrom_below (Nat.le_refl _) hz0))))
    ⟨rfl, b6, b8, b9, hx0⟩ ?assign ?body ?done ?stop
  case assign =>
    intro l x W K hK
    simp only [sets, List.foldl_cons, List.foldl_nil, List.setIfInBounds_toArray, List.set_cons_succ, List.set_cons_zero] at hK ⊢
    gi_wp2
    exact hK
  case body =>
    rintro l pre x W ⟨hl, k6, k8, k9, hx⟩ _
    simp only [sets, List.foldl_cons, List.foldl_nil, List.setIfInBounds_toArray, List.set_cons_succ, List.set_cons_zero]
    have c6 := k6.cell
    have c8 := k8.cell
    have c9 := k9.cell
    have f8 := k8.frozen
    have f9 := k9.frozen
    obtain ⟨x, hxw⟩ := x
    dsimp only
    have hit := look_hit (x := x) hl
    have miss := look_miss (x := x) hl
    rw [← snoc_val pre x hxw] at hit miss
    replace hit := Lib.hid hit; replace miss := Lib.hid miss
    by_cases hxt : x.1 = t
    · have hd : decide ((x.1 : Int) = (t : Int)) = true := by simp [hxt]
      gi_wp2
      have hne : w.heap.size + 1 + 1 ≠ w.heap.size + 1 + 1 + 1 := by omega
      exact ⟨(KeepsOthers.setCell _ _ _).trans (KeepsOthers.setCell _ _ _), ⟨rfl, x, hit.out hxt⟩, by rw [hit.out hxt]; exact (k8.set _).other hne _, (k9.other hne.symm _).set _,
        (hx.setCell (p := ⟨w.heap.size + 1 + 1, 0, none⟩) (by show _ ≤ w.heap.size + 1 + 1; omega) _).setCell (p := ⟨w.heap.size + 1 + 1 + 1, 0, none⟩) (by show _ ≤ w.heap.size + 1 + 1 + 1; omega) _⟩
    · have hd : decide ((x.1 : Int) = (t : Int)) = false := by simp; omega
      gi_wp2
      exact ⟨KeepsOthers.refl _, KpR.refl _ _ _ _, miss.out hxt, k6, k8, k9, hx⟩
  case done =>
    rintro D ys W hD hys ⟨hl, k6, k8, k9, hx⟩ hK
    rw [hys] at hl; clear hys
    have c8 := k8.cell
    have c9 := k9.cell
    have f8 := k8.frozen
    have f9 := k9.frozen
    go_wp2
    have hne : w.heap.size + 1 + 1 ≠ w.heap.size + 1 + 1 + 1 := by omega
    have q8 := (k8.set (.int .i64 0)).other hne (.bool false)
    have q9 := (k9.other hne.symm (.int .i64 0)).set (.bool false)
    have hxx := (hx.setCell (p := ⟨w.heap.size + 1 + 1, 0, none⟩) (by show _ ≤ w.heap.size + 1 + 1; omega) (.int .i64 0)).setCell (p := ⟨w.heap.size + 1 + 1 + 1, 0, none⟩) (by show _ ≤ w.heap.size + 1 + 1 + 1; omega) (.bool false)
    have hKK := ((KeepsOthers.setCell W ⟨w.heap.size + 1 + 1, 0, none⟩ (.int .i64 0)).trans (KeepsOthers.setCell _ ⟨w.heap.size + 1 + 1 + 1, 0, none⟩ (.bool false))).same D _ hK rfl
    refine leaves_marks _ _ (Marks.one (lo := w.heap.size) (by omega) hKK) fun w' hs => ?_
    have r8 := Boxed.cell (hs.2 _ _ _ _ q8)
    have r9 := Boxed.cell (hs.2 _ _ _ _ q9)
    refine ⟨.tuple #[.int .i64 0, .bool false], by simp [results, Try.f16, go_sem, r8, r9], ?_, Below.trans hxx hs.1⟩
    rw [look_none hf ht hl]; rfl
  case stop =>
    rintro D c pre W hD hp ⟨⟨rfl, x, hl⟩, k8, k9, hx⟩ hK
    refine wpIn_wide.2 ?_
    go_wp2
    rw [hl] at k8
    refine leaves_marks _ _ (Marks.one (lo := w.heap.size) (by omega) hK) fun w' hs => ?_
    have r8 := Boxed.cell (hs.2 _ _ _ _ k8)
    have r9 := Boxed.cell (hs.2 _ _ _ _ k9)
    refine ⟨.tuple #[.int .i64 (x.2 : Nat), .bool true], by simp [results, Try.f16, go_sem, r8, r9], ?_, Below.trans hx hs.1⟩
    rw [look_hops hf ht (look_pre hl hp)]; rfl
end Go.Proofs.Ytnicgmgihmfjbaa
