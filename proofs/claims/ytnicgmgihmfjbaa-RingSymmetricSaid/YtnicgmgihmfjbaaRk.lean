/- Ring: Run of the program. -/
import Derived.Test.YtnicgmgihmfjbaaRj
namespace Go.Proofs.Ytnicgmgihmfjbaa
open Go.RowKit Go.Shelf
open Rg (nodeAt link wl way Arr)
attribute [local go_sem] Oper.semAt_some

/-- Frames that lie in a slice. -/
def RFs (w : World) (F : Option Addr) (m : Nat) (fr : List (Int × Int)) : Prop := fr.length = m ∧ (0 < m → ∃ fb fo, F = some ⟨fb, fo, none⟩ ∧ fb < w.heap.size ∧ ∀ k x, fr[k]? = some x → w.cell? ⟨fb, fo + k * 2, none⟩ = some (.int .i64 x.1) ∧ w.cell? ⟨fb, fo + k * 2 + 1, none⟩ = some (.int .i64 x.2))
theorem RFs.ext {w w' : World} {F : Option Addr} {m : Nat} {fr : List (Int × Int)} (h : RFs w F m fr) (e : Ext w w') : RFs w' F m fr :=
  ⟨h.1, fun hm => by obtain ⟨fb, fo, e1, hb, hc⟩ := h.2 hm; exact ⟨fb, fo, e1, Nat.lt_of_lt_of_le hb e.size, fun k x hx => ⟨e.cell_ (hc k x hx).1, e.cell_ (hc k x hx).2⟩⟩⟩

/-- Arrivals that lie in a slice. -/
def RArr (w' : World) (v : Value) (l : List Arr) : Prop := ∃ A c, v = .slice A l.length c ∧ Reads w' w'.heap.size 4 A l.length (flatA l)
def RunPost (cut : List Bool) (fr : List (Int × Int)) (w : World) (e : Ending) (w' : World) : Prop := ∃ v, e = .returned v ∧ RArr w' v (Rg.run cut fr) ∧ Ext w w'

theorem arr_info : (Try.prog.info? 57).map (fun i => (i.zero, i.size, i.bytes)) = some (some (.agg #[.int .i64 0, .int .i64 0, .int .i64 0, .int .i64 0]), 4, 32) := by kernel_rfl
theorem flatA_append (l : List Arr) (x : Arr) : flatA (l ++ [x]) = flatA l ++ encA x := by simp [flatA]

/-- A box that holds a slice of arrivals of the call's own. -/
def LB (B lb : Nat) (W : World) (l : List Arr) : Prop := ∃ v, Boxed W lb 32 v ∧ W.ownsRow B 57 4 v l.length (flatA l) ∧ True
theorem LB.kept {B lb : Nat} {W W' : World} {l : List Arr} (h : LB B lb W l) (hg : ∀ (i : Nat) (cs : Array Value) (t : TypeId) (fr : Nat × Nat), W.heap[i]? = some (Obj.cells cs t fr) → W'.heap[i]? = some (Obj.cells cs t fr)) : LB B lb W' l := by
  obtain ⟨v, h1, h2, _⟩ := h
  refine ⟨v, hg lb _ _ _ h1, ⟨h2.1, ?_⟩, trivial⟩
  rcases h2.2 with h3 | ⟨g, cap, cur, h3, h4, h5, h6⟩
  · exact .inl h3
  · exact .inr ⟨g, cap, cur, h3, h4, hg _ _ _ _ h5, h6⟩
theorem LB.ext {B lb : Nat} {W W' : World} {l : List Arr} (h : LB B lb W l) (e : Ext W W') : LB B lb W' l := h.kept fun i _ _ _ hi => (e.block i (Array.getElem?_eq_some_iff.1 hi).1).trans hi
theorem LB.own {β : Type} (B lb : Nat) (g : β → List Arr) : Own (fun s W => LB B lb W (g s)) := holdsRow_own B lb 32 57 4 (fun s => (g s).length) (fun s => flatA (g s)) (fun _ _ => True)
theorem appended_blk {W w1 : World} {n₀ lb : Nat} {v v' : Value} {k m : Nat} {xs ys : List Value} {tmp : Obj} (_hv : Boxed W lb 32 v) (hrow : W.ownsRow n₀ 57 4 v k xs) (_hown' : w1.ownsRow n₀ 57 4 v' m ys) (hgrow : (W.alloc tmp).grownBy w1 v.ownBlock) :
    ∀ (B : Nat) (t : TypeId) (cs : Array Value), Blk W B t cs → t ≠ 57 → B ≠ lb → Blk (w1.setCell ⟨lb, 0, none⟩ v') B t cs := by
  intro B t cs hb ht hne
  refine Blk.far ?_ (p := ⟨lb, 0, none⟩) hne v'
  refine grown_blk hgrow (hb.alloc tmp) fun e => ?_
  rcases hrow.2 with ⟨rfl, _⟩ | ⟨g, cap, cur, rfl, _, hgb, _⟩
  · simp [Value.ownBlock] at e
  · obtain rfl : g = B := by simpa [Value.ownBlock] using e
    have := (show W.heap[g]? = _ from hb).symm.trans hgb
    simp at this
    exact ht this.2
theorem add_zero_addr (a : Addr) : Addr.add a 0 = a := by obtain ⟨b, o, s⟩ := a; unfold Addr.add; split <;> simp_all
theorem slice_all (F : Option Addr) (m cf : Nat) (W : World) (hc : m ≤ cf) (_hm : m ≤ 100) : (Instr.slice 25 (.slice F m cf) none (some (.int .i64 m)) none).run Try.prog W = .ok (.slice F m cf) W := by
  cases F <;> simp [Instr.slice, run_underlying Try.underlying25, Instr.sliceBounds, Instr.sliceBound, asIntOf, go_sem, Try.sizeOf29, add_zero_addr] <;> (intro h; omega)
theorem Marks.grown {lo B n : Nat} {W w' : World} {v : Value} {xs : List Value} {ds : List Deferred} (h : Marks lo W ds) (hrow : W.ownsRow B 57 4 v n xs) (hg : W.grownBy w' v.ownBlock) : Marks lo w' ds := by
  refine h.keep' fun d _ D _ hh => (hg.block D (Array.getElem?_eq_some_iff.1 hh).1 fun e => ?_).trans hh
  rcases hrow.2 with ⟨rfl, _⟩ | ⟨g, cap, cur, rfl, _, hgb, _⟩
  · simp [Value.ownBlock] at e
  · obtain rfl : g = D := by simpa [Value.ownBlock] using e.symm
    rw [hh] at hgb; cases hgb
def oneAt (cut : List Bool) (k f : Nat) (xa : Int) (d : Nat) : List Arr := Rg.oneWay cut k ((f : Int), xa) d
theorem okFrame_has {cut : List Bool} {x : Int × Int} : Rg.okFrame cut x = (hasB cut.length x.1 && decide (0 ≤ x.2 ∧ x.2 ≤ 1000000)) := by
  unfold Rg.okFrame hasB ckB; rfl
theorem item_at {cut : List Bool} {fr : List (Int × Int)} {k : Nat} {x : Int × Int} (h : fr[k]? = some x) : Rg.itemsUpto cut fr (k + 1) = Rg.itemsUpto cut fr k ++ Rg.one cut k x := by
  rw [Rg.itemsUpto_succ, List.getD_eq_getElem?_getD, h]; rfl
theorem no_item {cut : List Bool} {fr : List (Int × Int)} {k : Nat} {x : Int × Int} (h : fr[k]? = some x) (hb : hasB cut.length x.1 = false ∨ x.2 < 0 ∨ 1000000 < x.2) : Rg.itemsUpto cut fr (k + 1) = Rg.itemsUpto cut fr k := by
  rw [item_at h]
  unfold Rg.one
  rw [if_neg, List.append_nil]
  rw [okFrame_has]
  rcases hb with hb | hb
  · rw [hb]; simp
  · simp; omega
theorem an_item {cut : List Bool} {fr : List (Int × Int)} {k : Nat} {x : Int × Int} (h : fr[k]? = some x) (hb : hasB cut.length x.1 = true) (h1 : 0 ≤ x.2) (h2 : x.2 ≤ 1000000) : Rg.itemsUpto cut fr (k + 1) = Rg.itemsUpto cut fr k ++ Rg.oneWay cut k x 0 ++ Rg.oneWay cut k x 1 := by
  rw [item_at h, List.append_assoc]
  unfold Rg.one
  rw [if_pos]
  rw [okFrame_has, hb]; simp; omega
theorem cells_of_cell {w : World} {p : Addr} {v : Value} (h : w.cell? p = some v) : ∃ cs t m, w.heap[p.block]? = some (Obj.cells cs t m) := by
  unfold World.cell? at h
  split at h
  · rename_i cs t m hh; exact ⟨cs, t, m, hh⟩
  · cases h
theorem Shut.cell {lo : Nat} {w w' : World} (h : Shut lo w w') {p : Addr} {v : Value} (hc : w.cell? p = some v) : w'.cell? p = some v := by
  obtain ⟨cs, t, m, hh⟩ := cells_of_cell hc
  exact (World.cell?_of_block ((h.2 _ _ _ _ hh).trans hh.symm)).trans hc
theorem RArr.shut {lo : Nat} {w w' : World} {v : Value} {l : List Arr} (h : RArr w v l) (hs : Shut lo w w') : RArr w' v l := by
  obtain ⟨A, c, e, h1, h2⟩ := h
  refine ⟨A, c, e, h1, fun hn => ?_⟩
  obtain ⟨ad, e1, hb, hc⟩ := h2 hn
  exact ⟨ad, e1, Nat.lt_of_lt_of_le hb hs.1.size, fun j u hu => hs.cell (hc j u hu)⟩

/-- What each round of Run finds. -/
def RunI (A : Option Addr) (c : Nat) (cut : List Bool) (F : Option Addr) (m cf : Nat) (fr : List (Int × Int)) (w : World) (a : Act) (wr : World) : Prop :=
  ∃ (k : Nat) (ds : List Deferred) (u6 u7 u8 u9 u19 u20 u21 u22 u23 u24 u25 u26 u27 u28 u29 u30 u31 u32 u33 u34 u35 u36 u37 u38 u39 u40 u41 u42 u43 u44 u45 u46 u47 u61 u62 : Value), a = { tmps := #[.agg #[.slice A cut.length c], .slice F m cf, .pointer (some ⟨w.heap.size, 0, none⟩), undef, .slice none 0 0, .pointer (some ⟨w.heap.size + 1, 0, none⟩), u6, u7, u8, u9, undef, undef, .slice F m cf, .slice F m cf, .int .i64 m, .int .i64 m, .slice F m cf, .int .i64 m, .int .i64 (k : Nat), u19, u20, u21, u22, u23, u24, u25, u26, u27, u28, u29, u30, u31, u32, u33, u34, u35, u36, u37, u38, u39, u40, u41, u42, u43, u44, u45, u46, u47, undef, undef, undef, undef, undef, undef, undef, undef, undef, undef, undef, undef, undef, u61, u62, undef, undef, undef], defers := ds } ∧ k ≤ m ∧ Boxed wr w.heap.size 24 (.slice A cut.length c) ∧ LB w.heap.size (w.heap.size + 1) wr (Rg.itemsUpto cut fr k) ∧ Ext w wr ∧ Marks w.heap.size wr ds

set_option maxRecDepth 100000 in
set_option maxHeartbeats 4000000 in
theorem run_some (A : Option Addr) (c : Nat) (cut : List Bool) (F : Option Addr) (m cf : Nat) (fr : List (Int × Int)) (w : World) (hn : cut.length ≤ 140737488351232) (hm : m ≤ 100) (hc : m ≤ cf) (hR : Reads w w.heap.size 1 A cut.length (cut.map .bool)) (hF : RFs w F m fr) :
    Calls Try.prog 10 #[.agg #[.slice A cut.length c], .slice F m cf] w (RunPost cut fr w) := by
  have hmin : min (m : Int) 100 = m := by omega
  have hmax : max (m : Int) 0 = m := by omega
  have b0 := (Boxed.new w 24 (.slice A cut.length c)).alloc (.cells #[.slice none 0 0] 32)
  have b1 := Boxed.new (w.alloc (.cells #[.slice A cut.length c] 24)) 32 (.slice none 0 0)
  have hE := (Ext.new w (.cells #[.slice A cut.length c] 24)).alloc (.cells #[.slice none 0 0] 32)
  simp only [World.size_alloc] at b1
  have hsl : ∀ W : World, (Instr.slice 25 (.slice F m cf) none (some (.int .i64 m)) none).run Try.prog W = .ok (.slice F m cf) W := by
    exact fun W => slice_all F m cf W hc hm
  refine calls_marks Try.func10 rfl ?_
  simp only [Try.ntmps10, List.size_toArray, List.length_cons, List.length_nil, Nat.reduceAdd, Nat.reduceSub, Array.replicate_succ, Array.replicate_zero, List.push_toArray, List.append_toArray, List.nil_append, List.cons_append]
  go_wp2_with fail
  clear hmin hmax hsl
  generalize (w.alloc (.cells #[.slice A cut.length c] 24)).alloc (.cells #[.slice none 0 0] 32) = W0 at *
  refine wp_loop (RunI A c cut F m cf fr w) (fun a _ => m - (intOf (a.tmps.getD 18 undef)).toNat) ?_ ?_
  · exact ⟨0, [], _, _, _, _, _, _, _, _, _, _, _, _, _, _, _, _, _, _, _, _, _, _, _, _, _, _, _, _, _, _, _, _, _, _, _, rfl, Nat.zero_le _, b0, ⟨_, b1, World.ownsRow_nil _ _ _ _, trivial⟩, hE, trivial⟩
  rintro a wr ⟨k, ds, u6, u7, u8, u9, u19, u20, u21, u22, u23, u24, u25, u26, u27, u28, u29, u30, u31, u32, u33, u34, u35, u36, u37, u38, u39, u40, u41, u42, u43, u44, u45, u46, u47, u61, u62, rfl, hk, bR, hL, hX, hM⟩
  clear b0 b1 hE W0
  have HL := Lib.hid hL; clear hL
  have HM := Lib.hid hM; clear hM
  by_cases hlt : k < m
  · have hlen := hF.1
    obtain ⟨fb, fo, rfl, hfb, hfc⟩ := hF.2 (by omega)
    obtain ⟨x, hx⟩ : ∃ x, fr[k]? = some x := ⟨_, List.getElem?_eq_getElem (by omega)⟩
    obtain ⟨y0, y1⟩ := hfc k x hx
    replace y0 := hX.cell_ y0
    replace y1 := hX.cell_ y1
    have HX := Lib.hid hx; clear hx hfc hlen
    have q1 : (0 : Int) ≤ (k : Int) := by omega
    have q2 : (k : Int) < (m : Int) := by omega
    have bR2 := (bR.alloc (.cells #[.int .i64 k] 3)).alloc (.cells #[.int .i64 x.1, .int .i64 x.2] 29)
    have bK := (Boxed.new wr 3 (.int .i64 k)).alloc (.cells #[.int .i64 x.1, .int .i64 x.2] 29)
    have bF := Blk.new (wr.alloc (.cells #[.int .i64 k] 3)) 29 #[.int .i64 x.1, .int .i64 x.2]
    have hX2 := (hX.alloc (.cells #[.int .i64 k] 3)).alloc (.cells #[.int .i64 x.1, .int .i64 x.2] 29)
    have HL2 := Lib.hid ((HL.out.ext (Ext.new _ (.cells #[.int .i64 k] 3))).ext (Ext.new _ (.cells #[.int .i64 x.1, .int .i64 x.2] 29)))
    have HM2 := Lib.hid ((HM.out.ext (Ext.new _ (.cells #[.int .i64 k] 3))).ext (Ext.new _ (.cells #[.int .i64 x.1, .int .i64 x.2] 29)))
    have hkb : Hid (w.heap.size + 1 < wr.heap.size) := by have h := HL.out; obtain ⟨_, h, _⟩ := h; exact Lib.hid h.lt
    simp only [World.size_alloc] at bF
    have c2 := bR2.cell
    have cf0 := bF.cell 0
    have cf1 := bF.cell 1
    obtain ⟨xf, xa⟩ := x
    dsimp only at *
    go_wp2_with fail
    clear y0 y1 c2 cf0 cf1 HL HM bR hX
    generalize (wr.alloc (.cells #[.int .i64 k] 3)).alloc (.cells #[.int .i64 xf, .int .i64 xa] 29) = W1 at *
    generalize hkbv : wr.heap.size = kb at *
    clear hkbv wr
    cases hh : hasB cut.length xf with
    | false =>
      have HNo := Lib.hid (no_item (fr := fr) (cut := cut) HX.out (.inl hh))
      refine (has_v _ _ _ _ _ _ hn hh).mono ?_
      rintro e W2 ⟨rfl, hx⟩
      have bR3 := bR2.ext hx; have hX3 := hX2.trans hx; have HL3 := HL2.out.ext hx; have HM3 := HM2.out.ext hx
      have cf1 := (bF.ext hx).cell 1
      clear hx bR2 bK bF hX2 HL2 HM2 W1 hh
      have HL4 := Lib.hid HL3; have HM4 := Lib.hid HM3; clear HL3 HM3
      go_wp2_with fail
      exact ⟨⟨k + 1, ds, _, _, _, _, _, _, _, _, _, _, _, _, _, _, _, _, _, _, _, _, _, _, _, _, _, _, _, _, _, _, _, _, _, _, _, rfl, hlt, bR3, by rw [HNo.out]; exact HL4.out, hX3, HM4.out⟩, by simp [intOf]; omega⟩
    | true =>
      rcases (show xa < 0 ∨ (0 ≤ xa ∧ 1000000 < xa) ∨ (0 ≤ xa ∧ xa ≤ 1000000) by omega) with hxa | ⟨hxa, hxb⟩ | ⟨hxa, hxb⟩
      · have HNo := Lib.hid (no_item (fr := fr) (cut := cut) HX.out (.inr (.inl hxa)))
        have hd : decide (xa < 0) = true := by simpa using hxa
        refine (has_v _ _ _ _ _ _ hn hh).mono ?_
        rintro e W2 ⟨rfl, hx⟩
        have bR3 := bR2.ext hx; have hX3 := hX2.trans hx; have HL3 := HL2.out.ext hx; have HM3 := HM2.out.ext hx
        have cf1 := (bF.ext hx).cell 1
        clear hx bR2 bK bF hX2 HL2 HM2 W1 hh
        have HL4 := Lib.hid HL3; have HM4 := Lib.hid HM3; clear HL3 HM3
        go_wp2_with fail
        exact ⟨⟨k + 1, ds, _, _, _, _, _, _, _, _, _, _, _, _, _, _, _, _, _, _, _, _, _, _, _, _, _, _, _, _, _, _, _, _, _, _, _, rfl, hlt, bR3, by rw [HNo.out]; exact HL4.out, hX3, HM4.out⟩, by simp [intOf]; omega⟩
      · have HNo := Lib.hid (no_item (fr := fr) (cut := cut) HX.out (.inr (.inr hxb)))
        have hd : decide (xa < 0) = false := by simpa using hxa
        have hd2 : decide (1000000 < xa) = true := by simpa using hxb
        refine (has_v _ _ _ _ _ _ hn hh).mono ?_
        rintro e W2 ⟨rfl, hx⟩
        have bR3 := bR2.ext hx; have hX3 := hX2.trans hx; have HL3 := HL2.out.ext hx; have HM3 := HM2.out.ext hx
        have cf1 := (bF.ext hx).cell 1
        clear hx bR2 bK bF hX2 HL2 HM2 W1 hh
        have HL4 := Lib.hid HL3; have HM4 := Lib.hid HM3; clear HL3 HM3
        go_wp2_with fail
        exact ⟨⟨k + 1, ds, _, _, _, _, _, _, _, _, _, _, _, _, _, _, _, _, _, _, _, _, _, _, _, _, _, _, _, _, _, _, _, _, _, _, _, rfl, hlt, bR3, by rw [HNo.out]; exact HL4.out, hX3, HM4.out⟩, by simp [intOf]; omega⟩
      have HIt := Lib.hid (an_item (fr := fr) (cut := cut) HX.out hh hxa hxb)
      have k1 := hasB_iff.1 hh
      obtain ⟨f, rfl⟩ : ∃ f : Nat, xf = f := ⟨xf.toNat, by omega⟩
      have h3 : 3 ≤ cut.length := k1.1
      have h4 : cut.length ≤ 40 := k1.2.1
      have hf : f < cut.length := by omega
      clear k1
      have hd : decide (xa < 0) = false := by simpa using hxa
      have hd2 : decide (1000000 < xa) = false := by simp; omega
      refine (has_v _ _ _ _ _ _ hn hh).mono ?_
      rintro e W2 ⟨rfl, hx⟩
      have bR := bR2.ext hx; replace bK := bK.ext hx; replace bF := bF.ext hx; have hX := hX2.trans hx; have HL3 := HL2.out.ext hx; have HM3 := HM2.out.ext hx
      clear hx bR2 hX2 HL2 HM2 W1 hh
      have HL4 := Lib.hid HL3; have HM4 := Lib.hid HM3; clear HL3 HM3
      have cf1 := bF.cell 1
      go_wp2_with fail
      clear cf1 hd hd2
      refine (callsIn_wide.1 (dirs_in Fence.wide 3 trivial rfl _)).mono ?_
      rintro e w7 ⟨rfl, rfl⟩
      replace bR := bR.alloc (.cells #[.func (.func 31) #[] #[], .func (.func 32) #[] #[]] 61); replace bK := bK.alloc (.cells #[.func (.func 31) #[] #[], .func (.func 32) #[] #[]] 61); replace bF := bF.alloc (.cells #[.func (.func 31) #[] #[], .func (.func 32) #[] #[]] 61); replace hX := hX.alloc (.cells #[.func (.func 31) #[] #[], .func (.func 32) #[] #[]] 61)
      have HL := Lib.hid (HL4.out.ext (Ext.new _ (.cells #[.func (.func 31) #[] #[], .func (.func 32) #[] #[]] 61)))
      have HM := Lib.hid (HM4.out.ext (Ext.new _ (.cells #[.func (.func 31) #[] #[], .func (.func 32) #[] #[]] 61)))
      generalize W2.alloc (.cells #[.func (.func 31) #[] #[], .func (.func 32) #[] #[]] 61) = V at *
      clear W2 HL4 HM4
      have hll : Hid ((Rg.itemsUpto cut fr k).length ≤ 7800 ∧ cut.length ≤ 40 ∧ (oneAt cut k f xa 0).length ≤ 40) := Lib.hid ⟨by have := Rg.itemsUpto_length cut fr k; omega, h4, by unfold oneAt; rw [Rg.oneWay_length]; have := Rg.wl_le cut 0 f; simp; omega⟩
      have hL1V : Hid (w.heap.size + 1 < V.heap.size) := by have h := HL.out; obtain ⟨_, h, _⟩ := h; exact Lib.hid h.lt
      go_wp2_with fail
      refine wp_loop_rounds 3 ?_
      rw [rounds_succ]
      have hix := idx_dirs0 V
      have c2 := (bR.alloc (.cells #[.int .i64 0] 3)).cell
      have cf0 := (bF.alloc (.cells #[.int .i64 0] 3)).cell 0
      go_wp2_with fail
      clear hix c2 cf0
      have bD := Boxed.new V 3 (.int .i64 0)
      replace bR := bR.alloc (.cells #[.int .i64 0] 3); replace bK := bK.alloc (.cells #[.int .i64 0] 3); replace bF := bF.alloc (.cells #[.int .i64 0] 3)
      have HL1 := Lib.hid (HL.out.ext (Ext.new V (.cells #[.int .i64 0] 3))); have HM1 := Lib.hid (HM.out.ext (Ext.new V (.cells #[.int .i64 0] 3))); replace hX := hX.alloc (.cells #[.int .i64 0] 3)
      generalize hVd : V.alloc (.cells #[.int .i64 0] 3) = V1 at *
      clear hVd HL HM
      have hdb : w.heap.size + 1 < V.heap.size := by have := hL1V.out; omega
      generalize V.heap.size = db at *
      refine (callsIn_wide.1 (asc_in Fence.wide 3 trivial rfl _ _ _ _ _)).mono ?_
      rintro e w7 ⟨rfl, rfl⟩
      have a1 := (Boxed.new V1 24 (.slice A cut.length c)).alloc (.cells #[.int .i64 f] 3)
      have a2 := Boxed.new (V1.alloc (.cells #[.slice A cut.length c] 24)) 3 (.int .i64 f)
      have hB2 := ((Ext.refl V1).alloc (.cells #[.slice A cut.length c] 24)).alloc (.cells #[.int .i64 f] 3)
      simp only [World.size_alloc] at a2
      have hdV := bD.lt
      generalize hW4 : (V1.alloc (.cells #[.slice A cut.length c] 24)).alloc (.cells #[.int .i64 f] 3) = V4 at *
      clear hW4
      replace bR := bR.ext hB2; replace bK := bK.ext hB2; replace bF := bF.ext hB2; replace bD := bD.ext hB2; replace hX := hX.trans hB2
      have HL := Lib.hid (HL1.out.ext hB2); have HM := Lib.hid (HM1.out.ext hB2)
      clear hB2 HL1 HM1
      generalize hBr : V1.heap.size = Br at *
      clear hBr V1
      go_wp2_with fail
      refine wpIn_wide (n := 3) |>.1 ?_
      have hz0 := hX.size
      refine range2 (fun x => [(48, .int .i64 (x.1.1 : Int)), (49, .int .i64 (x.1.2 : Int))]) (fun x => [(48, .int .i64 (x.1.1 : Int)), (49, .int .i64 (x.1.2 : Int)), (10, .int .i64 (x.1.1 : Int)), (11, .int .i64 (x.1.2 : Int))]) (asc_stops Fence.wide 2 trivial rfl (by omega) Br (Br + 1) w.heap.size c f A cut h4 hf V4 a1 a2 hz0 (hR.below hX)) rfl (by omega) rfl trivial (enters_of Try.func37 (by kernel_rfl) rfl) (fun _ _ => by simp [sets])
        KpR.trans (fun W l o o' hl => KpR.book hz0 a1.lt a2.lt W l o o' hl) (Below.refl _ _) (fun _ => rfl)
        (fun pre W => LB w.heap.size (w.heap.size + 1) W (Rg.itemsUpto cut fr k ++ pre.map (fun y => Rg.arr k xa 0 y.1)) ∧ Boxed W w.heap.size 24 (.slice A cut.length c) ∧ Boxed W kb 3 (.int .i64 k) ∧ Blk W (kb + 1) 29 #[.int .i64 f, .int .i64 xa] ∧ Boxed W db 3 (.int .i64 0) ∧ Ext w W ∧ Marks w.heap.size W ds)
        (fun _ _ _ => False)
        (.and ((LB.own _ _ _).from _) (.and ((boxed_own _ _ _).from _) (.and ((boxed_own _ _ _).from _) (.and ((blk_own _ _ _).from _) (.and ((boxed_own _ _ _).from _) (.and (ownFrom_below (Nat.le_refl _) hz0) (marks_own HM.out.bound)))))))
        (fun _ => ownFrom_pure _ _)
        ⟨by rw [List.map_nil, List.append_nil]; exact HL.out, bR, bK, bF, bD, hX, HM.out⟩ ?assign ?body ?done (fun _ _ _ _ _ _ h => h.elim)
      case assign =>
        intro l x W K hK
        simp only [sets, List.foldl_cons, List.foldl_nil, List.setIfInBounds_toArray, List.set_cons_succ, List.set_cons_zero] at hK ⊢
        gi_wp2
        exact hK
      case body =>
        rintro l pre x W ⟨⟨v, hv, hrow, _⟩, kR, kK, kF, kD, kX, kM⟩ hlen
        simp only [sets, List.foldl_cons, List.foldl_nil, List.setIfInBounds_toArray, List.set_cons_succ, List.set_cons_zero]
        obtain ⟨⟨t, hp⟩, hxw⟩ := x
        have hb1 := (Rg.way_node_lt (by omega) hxw).2
        have hlL : (Rg.itemsUpto cut fr k ++ pre.map (fun y => Rg.arr k xa 0 y.1)).length ≤ 20000 := by
          have := hlen; have := hll.out; simp only [List.length_append, List.length_map]; omega
        dsimp only at hb1
        dsimp only
        have e1 : 0 ≤ (hp : Int) := by omega
        have e2 : (hp : Int) ≤ 40 := by omega
        clear hb1
        have c5 := hv.cell
        have cK := kK.cell
        have cF0 := kF.cell 1
        have cD := kD.cell
        generalize hLs : (Rg.itemsUpto cut fr k ++ pre.map (fun y => Rg.arr k xa 0 y.1)) = Ls at *
        have HLS := Lib.hid hLs; clear hLs
        generalize hnL : Ls.length = nL at *
        have HNL := Lib.hid hnL; clear hnL
        have HROW := Lib.hid hrow; have HV := Lib.hid hv; have HKR := Lib.hid kR; have HKK := Lib.hid kK; have HKF := Lib.hid kF; have HKD := Lib.hid kD; have HKM := Lib.hid kM
        clear hrow hv kR kK kF kD kM
        obtain ⟨i0, hi, hz0', hz1, hz2⟩ := info_parts arr_info
        have hi' := Lib.hid hi; have hz0'' := Lib.hid hz0'; have hz1' := Lib.hid hz1; have hz2' := Lib.hid hz2
        clear hi hz0' hz1 hz2
        gi_wp2_with ((gi_at_builtin; refine wpListIn_append_own _ rfl _ _ 32 rfl w.heap.size 57 i0 _ 4 32 Try.underlying32 hi'.out hz0''.out hz1'.out hz2'.out rfl (by decide) _ _ _ rfl (HROW.out.alloc _) ⟨W.heap.size, 0, none⟩ 1 1 (encA (Rg.arr k xa 0 (t, hp))) rfl rfl (fun j u hu => World.news_of_block (Blk.new W 57 (encA (Rg.arr k xa 0 (t, hp))).toArray) j u (by simpa using hu)) (by simp [encA, Value.oneCell']) (by unfold maxLen; omega) (by omega) (by have := kX.size; simp; omega) ?_))
        intro v' w1 hown' hgrow _
        obtain ⟨g', cap', rfl⟩ := ownsRow_succ hown'
        have HA := Lib.hid ((HV.out).appended (by decide) HROW.out kX.size (by omega) hown' hgrow)
        have HO := Lib.hid (appended_blk HV.out HROW.out hown' hgrow)
        have cv := HA.out.1.cell
        have fv := HA.out.1.frozen
        clear hown' hgrow
        gi_wp2
        obtain ⟨_, q2, q3, q4, q5⟩ := HA.out
        have qo := HO.out
        have hkb' := hkb.out
        have e57 : (24 : TypeId) ≠ 57 ∧ (3 : TypeId) ≠ 57 ∧ (29 : TypeId) ≠ 57 := by decide
        refine ⟨q4, ⟨q5, fun v x => qo _ _ _ x e57.1 (by omega), fun v x => qo _ _ _ x e57.2.1 (by omega)⟩, ⟨_, q2, ?_, trivial⟩, qo _ _ _ HKR.out e57.1 (by omega), qo _ _ _ HKK.out e57.2.1 (by omega), qo _ _ _ HKF.out e57.2.2 (by omega), qo _ _ _ HKD.out e57.2.1 (by omega), Below.trans kX q5, HKM.out.others q4⟩
        rw [List.map_append, List.map_cons, List.map_nil, ← List.append_assoc, HLS.out, flatA_append, List.length_append, HNL.out]
        exact q3
      case done =>
      rintro D0 ys V hD hys ⟨hL0, bR0, bK0, bF0, bD0, hX0, hM0⟩ hK
      have hm := hM0.push HM.out.bound hD (by omega) hK
      rw [show ys.map (fun y => Rg.arr k xa 0 y.1) = oneAt cut k f xa 0 by have := congrArg (List.map (Rg.arr k xa 0)) hys; rw [List.map_map] at this; exact this] at hL0
      clear HL HM hM0 hK bR bK bF bD hX a1 a2 hdV hz0 hD V4 hys ys
      have bR := bR0; have bK := bK0; have bF := bF0; have hX := hX0
      have HL := Lib.hid hL0; have HM := Lib.hid hm
      have hL1V : Hid (w.heap.size + 1 < V.heap.size) := by have h := HL.out; obtain ⟨_, h, _⟩ := h; exact Lib.hid h.lt
      clear hm hL0 bR0 bK0 bF0 bD0 hX0
      go_wp2_with fail
      rw [rounds_succ]
      have hix := idx_dirs1 V
      have c2 := (bR.alloc (.cells #[.int .i64 1] 3)).cell
      have cf0 := (bF.alloc (.cells #[.int .i64 1] 3)).cell 0
      go_wp2_with fail
      clear hix c2 cf0
      have bD := Boxed.new V 3 (.int .i64 1)
      replace bR := bR.alloc (.cells #[.int .i64 1] 3); replace bK := bK.alloc (.cells #[.int .i64 1] 3); replace bF := bF.alloc (.cells #[.int .i64 1] 3)
      have HL1 := Lib.hid (HL.out.ext (Ext.new V (.cells #[.int .i64 1] 3))); have HM1 := Lib.hid (HM.out.ext (Ext.new V (.cells #[.int .i64 1] 3))); replace hX := hX.alloc (.cells #[.int .i64 1] 3)
      generalize hVd : V.alloc (.cells #[.int .i64 1] 3) = V1 at *
      clear hVd HL HM
      have hdb : w.heap.size + 1 < V.heap.size := by have := hL1V.out; omega
      generalize V.heap.size = db at *
      refine (callsIn_wide.1 (desc_in Fence.wide 3 trivial rfl _ _ _ _ _)).mono ?_
      rintro e w7 ⟨rfl, rfl⟩
      have a1 := (Boxed.new V1 24 (.slice A cut.length c)).alloc (.cells #[.int .i64 f] 3)
      have a2 := Boxed.new (V1.alloc (.cells #[.slice A cut.length c] 24)) 3 (.int .i64 f)
      have hB2 := ((Ext.refl V1).alloc (.cells #[.slice A cut.length c] 24)).alloc (.cells #[.int .i64 f] 3)
      simp only [World.size_alloc] at a2
      have hdV := bD.lt
      generalize hW4 : (V1.alloc (.cells #[.slice A cut.length c] 24)).alloc (.cells #[.int .i64 f] 3) = V4 at *
      clear hW4
      replace bR := bR.ext hB2; replace bK := bK.ext hB2; replace bF := bF.ext hB2; replace bD := bD.ext hB2; replace hX := hX.trans hB2
      have HL := Lib.hid (HL1.out.ext hB2); have HM := Lib.hid (HM1.out.ext hB2)
      clear hB2 HL1 HM1
      generalize hBr : V1.heap.size = Br at *
      clear hBr V1
      go_wp2_with fail
      refine wpIn_wide (n := 3) |>.1 ?_
      have hz0 := hX.size
      refine range2 (fun x => [(48, .int .i64 (x.1.1 : Int)), (49, .int .i64 (x.1.2 : Int))]) (fun x => [(48, .int .i64 (x.1.1 : Int)), (49, .int .i64 (x.1.2 : Int)), (10, .int .i64 (x.1.1 : Int)), (11, .int .i64 (x.1.2 : Int))]) (desc_stops Fence.wide 2 trivial rfl (by omega) Br (Br + 1) w.heap.size c f A cut h4 hf V4 a1 a2 hz0 (hR.below hX)) rfl (by omega) rfl trivial (enters_of Try.func38 (by kernel_rfl) rfl) (fun _ _ => by simp [sets])
        KpR.trans (fun W l o o' hl => KpR.book hz0 a1.lt a2.lt W l o o' hl) (Below.refl _ _) (fun _ => rfl)
        (fun pre W => LB w.heap.size (w.heap.size + 1) W ((Rg.itemsUpto cut fr k ++ oneAt cut k f xa 0) ++ pre.map (fun y => Rg.arr k xa 1 y.1)) ∧ Boxed W w.heap.size 24 (.slice A cut.length c) ∧ Boxed W kb 3 (.int .i64 k) ∧ Blk W (kb + 1) 29 #[.int .i64 f, .int .i64 xa] ∧ Boxed W db 3 (.int .i64 1) ∧ Ext w W ∧ Marks w.heap.size W (mk0 D0 :: ds))
        (fun _ _ _ => False)
        (.and ((LB.own _ _ _).from _) (.and ((boxed_own _ _ _).from _) (.and ((boxed_own _ _ _).from _) (.and ((blk_own _ _ _).from _) (.and ((boxed_own _ _ _).from _) (.and (ownFrom_below (Nat.le_refl _) hz0) (marks_own HM.out.bound)))))))
        (fun _ => ownFrom_pure _ _)
        ⟨by rw [List.map_nil, List.append_nil]; exact HL.out, bR, bK, bF, bD, hX, HM.out⟩ ?assign ?body ?done (fun _ _ _ _ _ _ h => h.elim)
      case assign =>
        intro l x W K hK
        simp only [sets, List.foldl_cons, List.foldl_nil, List.setIfInBounds_toArray, List.set_cons_succ, List.set_cons_zero] at hK ⊢
        gi_wp2
        exact hK
      case body =>
        rintro l pre x W ⟨⟨v, hv, hrow, _⟩, kR, kK, kF, kD, kX, kM⟩ hlen
        simp only [sets, List.foldl_cons, List.foldl_nil, List.setIfInBounds_toArray, List.set_cons_succ, List.set_cons_zero]
        obtain ⟨⟨t, hp⟩, hxw⟩ := x
        have hb1 := (Rg.way_node_lt (by omega) hxw).2
        have hlL : ((Rg.itemsUpto cut fr k ++ oneAt cut k f xa 0) ++ pre.map (fun y => Rg.arr k xa 1 y.1)).length ≤ 20000 := by
          have := hlen; have := hll.out; simp only [List.length_append, List.length_map]; omega
        dsimp only at hb1
        dsimp only
        have e1 : 0 ≤ (hp : Int) := by omega
        have e2 : (hp : Int) ≤ 40 := by omega
        clear hb1
        have c5 := hv.cell
        have cK := kK.cell
        have cF0 := kF.cell 1
        have cD := kD.cell
        generalize hLs : ((Rg.itemsUpto cut fr k ++ oneAt cut k f xa 0) ++ pre.map (fun y => Rg.arr k xa 1 y.1)) = Ls at *
        have HLS := Lib.hid hLs; clear hLs
        generalize hnL : Ls.length = nL at *
        have HNL := Lib.hid hnL; clear hnL
        have HROW := Lib.hid hrow; have HV := Lib.hid hv; have HKR := Lib.hid kR; have HKK := Lib.hid kK; have HKF := Lib.hid kF; have HKD := Lib.hid kD; have HKM := Lib.hid kM
        clear hrow hv kR kK kF kD kM
        obtain ⟨i0, hi, hz0', hz1, hz2⟩ := info_parts arr_info
        have hi' := Lib.hid hi; have hz0'' := Lib.hid hz0'; have hz1' := Lib.hid hz1; have hz2' := Lib.hid hz2
        clear hi hz0' hz1 hz2
        gi_wp2_with ((gi_at_builtin; refine wpListIn_append_own _ rfl _ _ 32 rfl w.heap.size 57 i0 _ 4 32 Try.underlying32 hi'.out hz0''.out hz1'.out hz2'.out rfl (by decide) _ _ _ rfl (HROW.out.alloc _) ⟨W.heap.size, 0, none⟩ 1 1 (encA (Rg.arr k xa 1 (t, hp))) rfl rfl (fun j u hu => World.news_of_block (Blk.new W 57 (encA (Rg.arr k xa 1 (t, hp))).toArray) j u (by simpa using hu)) (by simp [encA, Value.oneCell']) (by unfold maxLen; omega) (by omega) (by have := kX.size; simp; omega) ?_))
        intro v' w1 hown' hgrow _
        obtain ⟨g', cap', rfl⟩ := ownsRow_succ hown'
        have HA := Lib.hid ((HV.out).appended (by decide) HROW.out kX.size (by omega) hown' hgrow)
        have HO := Lib.hid (appended_blk HV.out HROW.out hown' hgrow)
        have cv := HA.out.1.cell
        have fv := HA.out.1.frozen
        clear hown' hgrow
        gi_wp2
        obtain ⟨_, q2, q3, q4, q5⟩ := HA.out
        have qo := HO.out
        have hkb' := hkb.out
        have e57 : (24 : TypeId) ≠ 57 ∧ (3 : TypeId) ≠ 57 ∧ (29 : TypeId) ≠ 57 := by decide
        refine ⟨q4, ⟨q5, fun v x => qo _ _ _ x e57.1 (by omega), fun v x => qo _ _ _ x e57.2.1 (by omega)⟩, ⟨_, q2, ?_, trivial⟩, qo _ _ _ HKR.out e57.1 (by omega), qo _ _ _ HKK.out e57.2.1 (by omega), qo _ _ _ HKF.out e57.2.2 (by omega), qo _ _ _ HKD.out e57.2.1 (by omega), Below.trans kX q5, HKM.out.others q4⟩
        rw [List.map_append, List.map_cons, List.map_nil, ← List.append_assoc, HLS.out, flatA_append, List.length_append, HNL.out]
        exact q3
      case done =>
      rintro D1 ys V hD hys ⟨hL0, bR0, bK0, bF0, bD0, hX0, hM0⟩ hK
      have hm := hM0.push HM.out.bound hD (by omega) hK
      rw [show ys.map (fun y => Rg.arr k xa 1 y.1) = oneAt cut k f xa 1 by have := congrArg (List.map (Rg.arr k xa 1)) hys; rw [List.map_map] at this; exact this] at hL0
      clear HL HM hM0 hK bR bK bF bD hX a1 a2 hdV hz0 hD V4 hys ys
      have bR := bR0; have bK := bK0; have bF := bF0; have hX := hX0
      have HL := Lib.hid hL0; have HM := Lib.hid hm
      have hL1V : Hid (w.heap.size + 1 < V.heap.size) := by have h := HL.out; obtain ⟨_, h, _⟩ := h; exact Lib.hid h.lt
      clear hm hL0 bR0 bK0 bF0 bD0 hX0
      go_wp2_with fail
      rw [rounds_succ]
      go_wp2_with fail
      exact ⟨⟨k + 1, _, _, _, _, _, _, _, _, _, _, _, _, _, _, _, _, _, _, _, _, _, _, _, _, _, _, _, _, _, _, _, _, _, _, _, _, rfl, hlt, bR, by rw [HIt.out]; exact HL.out, hX, HM.out⟩, by simp [intOf]; omega⟩
  · obtain rfl : k = m := by omega
    obtain ⟨v, hv, hrow, _⟩ := HL.out
    have c5 := hv.cell
    have HROW := Lib.hid hrow; have HV := Lib.hid hv
    clear hrow hv HL
    go_wp2_with fail
    clear c5
    refine (sort_own _ v _ _ (Rg.itemsUpto_nodup cut fr k) (by have := Rg.itemsUpto_length cut fr k; omega) HROW.out).mono ?_
    rintro e w1 ⟨rfl, l', hs, hp, hr, hg⟩
    have hv1 := HV.out.kept hg (HV.out.not_row (by decide) HROW.out)
    have c5 := hv1.cell
    have HM1 := Lib.hid (HM.out.grown HROW.out hg)
    have HX1 := Lib.hid (own_grown hg hX fun g hg' => (HROW.out.lt g hg').1)
    have HR := Lib.hid (And.intro hs (And.intro hp hr))
    clear hs hp hr hg hv1 HM
    go_wp2_with fail
    refine leaves_marks _ _ HM1.out fun w2 hs2 => ?_
    refine ⟨_, results_tmp rfl _ _ _, ?_⟩
    obtain ⟨hs, hp, A1, c1, hv, hr⟩ := HR.out
    have hl' : l' = Rg.run cut fr := Rg.run_of hs fun x => by
      rw [hp.mem_iff, Rg.items, show min fr.length 100 = k by have := hF.1; omega]
    subst hl'
    refine ⟨_, rfl, RArr.shut ⟨A1, c1, ?_, ?_⟩ hs2, Below.trans HX1.out hs2.1⟩
    · rw [hp.length_eq]; exact hv
    · rw [hp.length_eq]; exact hr

theorem runRing_any (A : Option Addr) (c : Nat) (cut : List Bool) (F : Option Addr) (m cf : Nat) (fr : List (Int × Int)) (w : World) (hn : cut.length ≤ 140737488351232) (hm : m ≤ 100) (hc : m ≤ cf) (hR : Reads w w.heap.size 1 A cut.length (cut.map .bool)) (hF : RFs w F m fr) :
    Calls Try.prog 10 #[.agg #[.slice A cut.length c], .slice F m cf] w (RunPost cut fr w) := run_some A c cut F m cf fr w hn hm hc hR hF
end Go.Proofs.Ytnicgmgihmfjbaa
