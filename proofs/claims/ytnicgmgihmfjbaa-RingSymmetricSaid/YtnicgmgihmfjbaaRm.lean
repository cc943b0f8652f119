/- Ring: Run of the specification. -/
import Derived.Test.YtnicgmgihmfjbaaRk
import Derived.Test.YtnicgmgihmfjbaaRl
namespace Go.Proofs.Ytnicgmgihmfjbaa
open Go.RowKit Go.Shelf
open Rg (nodeAt link wl way Arr)

/-- What is put in when frame k has come to node t and direction d. -/
def InP (cut : List Bool) (fr : List (Int × Int)) (k : Nat) (x : Int × Int) (t d : Nat) (y : Arr) : Prop := y ∈ Rg.itemsUpto cut fr k ∨ (y ∈ Rg.one cut k x ∧ (y.n < t ∨ (y.n = t ∧ y.d < d)))
theorem one_mem {cut : List Bool} {k : Nat} {x : Int × Int} {y : Arr} (hok : Rg.okFrame cut x = true) : y ∈ Rg.one cut k x ↔ y ∈ Rg.oneWay cut k x 0 ∨ y ∈ Rg.oneWay cut k x 1 := by
  unfold Rg.one; rw [if_pos hok, List.mem_append]
theorem one_n {cut : List Bool} {k : Nat} {x : Int × Int} {y : Arr} (hok : Rg.okFrame cut x = true) (h : y ∈ Rg.one cut k x) : (0 ≤ y.n ∧ y.n < cut.length) ∧ (y.d = 0 ∨ y.d = 1) := by
  have h3 : 0 < cut.length := by simp only [Rg.okFrame, Bool.and_eq_true, decide_eq_true_eq] at hok; omega
  rcases (one_mem hok).1 h with h | h
  · obtain ⟨t, ht, e⟩ := Rg.oneWay_n h3 h
    have := (Rg.oneWay_d h).1
    omega
  · obtain ⟨t, ht, e⟩ := Rg.oneWay_n h3 h
    have := (Rg.oneWay_d h).1
    omega
theorem inP_step {cut : List Bool} {fr : List (Int × Int)} {k t d : Nat} {x : Int × Int} {y : Arr} (hok : Rg.okFrame cut x = true) (ht : t < cut.length) (hd : d = 0 ∨ d = 1) : InP cut fr k x t (d + 1) y ↔ InP cut fr k x t d y ∨ y ∈ Rg.refOne cut k x d t := by
  unfold InP
  rw [Rg.refOne_mem hok ht]
  constructor
  · rintro (h | ⟨h, h1 | ⟨h1, h2⟩⟩)
    · exact .inl (.inl h)
    · exact .inl (.inr ⟨h, .inl h1⟩)
    · by_cases h3 : y.d < d
      · exact .inl (.inr ⟨h, .inr ⟨h1, h3⟩⟩)
      · have h4 : y.d = d := by omega
        refine .inr ⟨?_, h1⟩
        rcases (one_mem hok).1 h with h | h <;> have h5 := (Rg.oneWay_d h).1 <;> rcases hd with rfl | rfl
        · exact h
        · omega
        · omega
        · exact h
  · rintro ((h | ⟨h, h1 | ⟨h1, h2⟩⟩) | ⟨h, h1⟩)
    · exact .inl h
    · exact .inr ⟨h, .inl h1⟩
    · exact .inr ⟨h, .inr ⟨h1, by omega⟩⟩
    · have h5 := (Rg.oneWay_d h).1
      refine .inr ⟨(one_mem hok).2 ?_, .inr ⟨h1, by omega⟩⟩
      rcases hd with rfl | rfl
      · exact .inl h
      · exact .inr h
theorem inP_start {cut : List Bool} {fr : List (Int × Int)} {k : Nat} {x : Int × Int} {y : Arr} (hok : Rg.okFrame cut x = true) : InP cut fr k x 0 0 y ↔ y ∈ Rg.itemsUpto cut fr k := by
  unfold InP
  constructor
  · rintro (h | ⟨h, h1⟩)
    · exact h
    · have := one_n hok h; omega
  · exact .inl
theorem inP_next {cut : List Bool} {fr : List (Int × Int)} {k t : Nat} {x : Int × Int} {y : Arr} (hok : Rg.okFrame cut x = true) : InP cut fr k x t 2 y ↔ InP cut fr k x (t + 1) 0 y := by
  unfold InP
  constructor
  · rintro (h | ⟨h, h1⟩)
    · exact .inl h
    · exact .inr ⟨h, .inl (by omega)⟩
  · rintro (h | ⟨h, h1⟩)
    · exact .inl h
    · have := one_n hok h; exact .inr ⟨h, by omega⟩
theorem inP_end {cut : List Bool} {fr : List (Int × Int)} {k : Nat} {x : Int × Int} {y : Arr} (hx : fr[k]? = some x) (hok : Rg.okFrame cut x = true) : InP cut fr k x cut.length 0 y ↔ y ∈ Rg.itemsUpto cut fr (k + 1) := by
  unfold InP
  rw [item_at hx, List.mem_append]
  constructor
  · rintro (h | ⟨h, h1⟩)
    · exact .inl h
    · exact .inr h
  · rintro (h | h)
    · exact .inl h
    · have := one_n hok h; exact .inr ⟨h, by omega⟩
theorem inP_new {cut : List Bool} {fr : List (Int × Int)} {k t d h : Nat} {x : Int × Int} (_hok : Rg.okFrame cut x = true) : ¬ InP cut fr k x t d (Rg.arr k x.2 d (t, h)) := by
  rintro (h1 | ⟨_, h1⟩)
  · obtain ⟨k', hk, h2⟩ := Rg.itemsUpto_f h1
    have := Rg.one_f h2
    simp only [Rg.arr] at this; omega
  · simp only [Rg.arr] at h1; omega

/-- What each round of the specification's Run finds. -/
def RI (w wr : World) (o : Value) (P : Arr → Prop) (b : Nat) : Prop := ∃ L : List Arr, wr.ownsRow w.heap.size 58 4 o L.length (flatA L) ∧ Rg.Srt L ∧ (∀ y, y ∈ L ↔ P y) ∧ L.length ≤ b
theorem RI.ext {w wr wr' : World} {o : Value} {P : Arr → Prop} {b : Nat} (h : RI w wr o P b) (e : Ext wr wr') : RI w wr' o P b := by
  obtain ⟨L, h1, h2⟩ := h
  exact ⟨L, own_ext h1 e, h2⟩
theorem RI.iff {w wr : World} {o : Value} {P Q : Arr → Prop} {b b' : Nat} (h : RI w wr o P b) (e : ∀ y, P y ↔ Q y) (hb : b ≤ b') : RI w wr o Q b' := by
  obtain ⟨L, h1, h2, h3, h4⟩ := h
  exact ⟨L, h1, h2, fun y => (h3 y).trans (e y), by omega⟩

theorem kept58 {B B' n : Nat} {W W' : World} {v : Value} {xs : List Value} {t : TypeId} {cs : Array Value} (h : Blk W B' t cs) (ht : t ≠ 58) (hrow : W.ownsRow B 58 4 v n xs) (hg : W.grownBy W' v.ownBlock) : Blk W' B' t cs := by
  refine grown_blk hg h fun e => ?_
  rcases hrow.2 with ⟨rfl, _⟩ | ⟨g, cap, cur, rfl, _, hgb, _⟩
  · simp [Value.ownBlock] at e
  · obtain rfl : g = B' := by simpa [Value.ownBlock] using e
    have := (show W.heap[g]? = _ from h).symm.trans hgb
    simp at this
    exact ht this.2
theorem rhops_none (A : Option Addr) (c : Nat) (f t d : Int) (cut : List Bool) (w : World) (hn : cut.length ≤ 140737488351232) (hR : Reads w w.heap.size 1 A cut.length (cut.map .bool)) (h : hopsI cut f t d = none) :
    Calls Try.prog 22 #[.agg #[.slice A cut.length c], .int .i64 f, .int .i64 t, .int .i64 d] w fun e w' => e = .returned (.tuple #[.int .i64 0, .bool false]) ∧ Ext w w' := by
  have := rhops_any A c f t d cut w hn hR; rw [h] at this; exact this
theorem rhops_some (A : Option Addr) (c : Nat) (f t d : Int) (k : Nat) (cut : List Bool) (w : World) (hn : cut.length ≤ 140737488351232) (hR : Reads w w.heap.size 1 A cut.length (cut.map .bool)) (h : hopsI cut f t d = some k) :
    Calls Try.prog 22 #[.agg #[.slice A cut.length c], .int .i64 f, .int .i64 t, .int .i64 d] w fun e w' => e = .returned (.tuple #[.int .i64 (k : Int), .bool true]) ∧ Ext w w' := by
  have := rhops_any A c f t d cut w hn hR; rw [h] at this; exact this
theorem refOne_hopsI {cut : List Bool} {k t d : Nat} {x : Int × Int} (hok : Rg.okFrame cut x = true) (hd : d = 0 ∨ d = 1) (ht : t < cut.length) : Rg.refOne cut k x d t = match hopsI cut x.1 t d with | some h => [Rg.arr k x.2 d (t, h)] | none => [] := by
  simp only [Rg.okFrame, Bool.and_eq_true, decide_eq_true_eq] at hok
  have e1 : hasB cut.length x.1 = true := hasB_iff.2 (by omega)
  have e2 : hasB cut.length (t : Int) = true := hasB_iff.2 (by omega)
  have e3 : hopsI cut x.1 t d = Rg.hops cut d x.1.toNat t := by
    unfold hopsI; rw [if_pos ⟨e1, e2, by omega⟩]; simp
  unfold Rg.refOne
  rw [e3]
  cases Rg.hops cut d x.1.toNat t <;> rfl
theorem hopsI_le {cut : List Bool} {f t d : Int} {h : Nat} (h4 : cut.length ≤ 40) (hq : hopsI cut f t d = some h) : h ≤ 40 := by
  unfold hopsI at hq
  split at hq
  · rename_i h1
    have := hasB_iff.1 h1.1
    unfold Rg.hops at hq
    split at hq
    · injection hq with hq
      have := Rg.dist_lt (d := d.toNat) (n := cut.length) (f := f.toNat) (t := t.toNat) (by omega)
      omega
    · cases hq
  · cases hq

set_option maxRecDepth 100000 in
set_option maxHeartbeats 1000000 in
theorem rrun_bad (A : Option Addr) (n c : Nat) (F : Option Addr) (m cf : Nat) (w : World) (hn : n ≤ 140737488351232) (h : ckI n = 3) :
    Calls Try.prog 11 #[.agg #[.slice A n c], .slice F m cf] w fun e w' => e = .returned (.slice none 0 0) ∧ Ext w w' := by
  obtain ⟨b, hE⟩ := Boxed.start w 36 (.slice A n c)
  go_enter Try.func11, Try.ntmps11
  go_wp2_with fail
  generalize w.alloc (.cells #[.slice A n c] 36) = W at *
  refine (rcheck_v _ _ _ _ _ hn h).mono ?_
  rintro e W1 ⟨rfl, hx⟩
  replace hE := hE.trans hx; clear hx b W
  go_wp2_with fail
  go_ret
  exact ⟨rfl, hE⟩

theorem okFrame_of {cut : List Bool} {x : Int × Int} (h3 : 3 ≤ cut.length) (h4 : cut.length ≤ 40) (hb : nodeB cut.length x.1 = true) (h1 : 0 ≤ x.2) (h2 : x.2 ≤ 1000000) : Rg.okFrame cut x = true := by
  have hb' : 0 ≤ x.1 ∧ x.1 < cut.length := by unfold nodeB at hb; simpa using hb
  simp [Rg.okFrame, h3, h4, h1, h2, hb']
theorem no_item' {cut : List Bool} {fr : List (Int × Int)} {k : Nat} {x : Int × Int} (h3 : 3 ≤ cut.length) (h4 : cut.length ≤ 40) (h : fr[k]? = some x) (hb : nodeB cut.length x.1 = false ∨ x.2 < 0 ∨ 1000000 < x.2) : Rg.itemsUpto cut fr (k + 1) = Rg.itemsUpto cut fr k := by
  refine no_item h ?_
  rw [← nodeB_has (show ckB cut.length = true by simp [ckB, h3, h4])]; exact hb

set_option maxRecDepth 100000 in
set_option maxHeartbeats 8000000 in
theorem rrun_ok (A : Option Addr) (c : Nat) (cut : List Bool) (F : Option Addr) (m cf : Nat) (fr : List (Int × Int)) (w : World) (h3 : 3 ≤ cut.length) (h4 : cut.length ≤ 40) (hm : m ≤ 100) (hR : Reads w w.heap.size 1 A cut.length (cut.map .bool)) (hF : RFs w F m fr) :
    Calls Try.prog 11 #[.agg #[.slice A cut.length c], .slice F m cf] w (RunPost cut fr w) := by
  obtain ⟨b, hE⟩ := Boxed.start w 36 (.slice A cut.length c)
  have hn : cut.length ≤ 140737488351232 := by omega
  have H0 := Lib.hid (ckI_ok h3 h4)
  have HR := Lib.hid hR; clear hR
  go_enter Try.func11, Try.ntmps11
  go_wp2_with fail
  generalize w.alloc (.cells #[.slice A cut.length c] 36) = W at *
  refine (rcheck_v _ _ _ _ _ hn H0.out).mono ?_
  rintro e W1 ⟨rfl, hx⟩
  replace hE := hE.trans hx; replace b := b.ext hx; clear hx W
  go_wp2_with fail
  go_loopw [5, 6] (fun o f wr => ∃ k : Nat, k ≤ m ∧ f = .int .i64 k ∧ RI w wr o (fun y => y ∈ Rg.itemsUpto cut fr k) (k * 80) ∧ Boxed wr w.heap.size 36 (.slice A cut.length c) ∧ Ext w wr) (fun _ f _ => m - (intOf f).toNat)
  case atStart => exact ⟨0, Nat.zero_le _, rfl, ⟨[], World.ownsRow_nil _ _ _ _, List.Pairwise.nil, by simp [Rg.itemsUpto], by simp⟩, b, hE⟩
  case round =>
    obtain ⟨k, hk, rfl, hI, bb, hX⟩ := hrel
    clear b hE
    have HI := Lib.hid hI; clear hI
    have hd100 : decide (k < 100) = decide (k < 100) := rfl
    by_cases hlt : k < m
    · obtain ⟨fb, fo, rfl, hfb, hfc⟩ := hF.2 (by omega)
      obtain ⟨x, hx⟩ : ∃ x, fr[k]? = some x := ⟨_, List.getElem?_eq_getElem (by have := hF.1; omega)⟩
      obtain ⟨y0, y1⟩ := hfc k x hx
      replace y0 := hX.cell_ y0
      replace y1 := hX.cell_ y1
      have HX := Lib.hid hx; clear hx hfc
      have q1 : (0 : Int) ≤ (k : Int) := by omega
      have q2 : (k : Int) < (m : Int) := by omega
      have q3 : decide ((k : Int) < 100) = true := by simp; omega
      obtain ⟨xf, xa⟩ := x
      dsimp only at *
      have c2 := (bb.alloc (.cells #[.int .i64 xf, .int .i64 xa] 30)).cell
      have bX := Blk.new wr 30 #[.int .i64 xf, .int .i64 xa]
      have cx0 := bX.cell 0
      go_wp2_with fail
      have hxb := bb.lt
      replace bb := bb.alloc (.cells #[.int .i64 xf, .int .i64 xa] 30)
      have HI2 := Lib.hid (HI.out.ext (Ext.new _ (.cells #[.int .i64 xf, .int .i64 xa] 30)))
      replace hX := hX.alloc (.cells #[.int .i64 xf, .int .i64 xa] 30)
      clear c2 cx0 HI
      generalize wr.alloc (.cells #[.int .i64 xf, .int .i64 xa] 30) = W at *
      generalize wr.heap.size = xb at *
      cases hh : nodeB cut.length xf with
      | false =>
        have HNo := Lib.hid (no_item' (cut := cut) h3 h4 HX.out (.inl hh))
        refine (rnode_v _ _ _ _ _ _ hn hh).mono ?_
        rintro e W2 ⟨rfl, hx⟩
        replace bb := bb.ext hx; replace bX := bX.ext hx; have HI3 := Lib.hid (HI2.out.ext hx); replace hX := hX.trans hx
        clear hx HI2 W
        have cx1 := bX.cell 1
        go_wp2_with fail
        go_roundw
        case rel => exact ⟨k + 1, hlt, by go_num, HI3.out.iff (fun y => by rw [HNo.out]) (by omega), bb, hX⟩
        case measure => simp [intOf]; omega
      | true =>
      rcases (show xa < 0 ∨ (0 ≤ xa ∧ 1000000 < xa) ∨ (0 ≤ xa ∧ xa ≤ 1000000) by omega) with hxa | ⟨hxa, hxb'⟩ | ⟨hxa, hxb'⟩
      · have HNo := Lib.hid (no_item' (cut := cut) h3 h4 HX.out (.inr (.inl hxa)))
        have hd : decide (xa < 0) = true := by simpa using hxa
        refine (rnode_v _ _ _ _ _ _ hn hh).mono ?_
        rintro e W2 ⟨rfl, hx⟩
        replace bb := bb.ext hx; replace bX := bX.ext hx; have HI3 := Lib.hid (HI2.out.ext hx); replace hX := hX.trans hx
        clear hx HI2 W
        have cx1 := bX.cell 1
        go_wp2_with fail
        go_roundw
        case rel => exact ⟨k + 1, hlt, by go_num, HI3.out.iff (fun y => by rw [HNo.out]) (by omega), bb, hX⟩
        case measure => simp [intOf]; omega
      · have HNo := Lib.hid (no_item' (cut := cut) h3 h4 HX.out (.inr (.inr hxb')))
        have hd : decide (xa < 0) = false := by simpa using hxa
        have hd2 : decide (1000000 < xa) = true := by simpa using hxb'
        refine (rnode_v _ _ _ _ _ _ hn hh).mono ?_
        rintro e W2 ⟨rfl, hx⟩
        replace bb := bb.ext hx; replace bX := bX.ext hx; have HI3 := Lib.hid (HI2.out.ext hx); replace hX := hX.trans hx
        clear hx HI2 W
        have cx1 := bX.cell 1
        go_wp2_with fail
        go_roundw
        case rel => exact ⟨k + 1, hlt, by go_num, HI3.out.iff (fun y => by rw [HNo.out]) (by omega), bb, hX⟩
        case measure => simp [intOf]; omega
      have HOK := Lib.hid (okFrame_of (x := (xf, xa)) h3 h4 hh hxa hxb')
      have hd : decide (xa < 0) = false := by simpa using hxa
      have hd2 : decide (1000000 < xa) = false := by simp; omega
      refine (rnode_v _ _ _ _ _ _ hn hh).mono ?_
      rintro e W2 ⟨rfl, hx⟩
      replace bb := bb.ext hx; replace bX := bX.ext hx; have HI3 := Lib.hid (HI2.out.ext hx); replace hX := hX.trans hx
      have HHH := Lib.hid hh
      clear hx HI2 W hh
      have cx1 := bX.cell 1
      go_wp2_with fail
      clear cx1 hd hd2
      go_loopw [5, 8] (fun o t wr => ∃ t' : Nat, t' ≤ cut.length ∧ t = .int .i64 t' ∧ RI w wr o (InP cut fr k (xf, xa) t' 0) (k * 80 + t' * 2) ∧ Boxed wr w.heap.size 36 (.slice A cut.length c) ∧ Blk wr xb 30 #[.int .i64 xf, .int .i64 xa] ∧ Ext w wr) (fun _ t _ => cut.length - (intOf t).toNat)
      case atStart => exact ⟨0, Nat.zero_le _, rfl, HI3.out.iff (fun y => (inP_start HOK.out).symm) (by omega), bb, bX, hX⟩
      case round =>
        clear bb bX hX HI3 W2
        obtain ⟨t', ht', rfl, hI, bb, bX, hX⟩ := hrel
        have HI := Lib.hid hI; clear hI
        have c2 := bb.cell
        by_cases hlt2 : t' < cut.length
        · go_wp2_with fail
          clear c2
          go_loopw [5, 9] (fun o d wr => ∃ d' : Nat, d' ≤ 2 ∧ d = .int .i64 d' ∧ RI w wr o (InP cut fr k (xf, xa) t' d') (k * 80 + t' * 2 + d') ∧ Boxed wr w.heap.size 36 (.slice A cut.length c) ∧ Blk wr xb 30 #[.int .i64 xf, .int .i64 xa] ∧ Ext w wr) (fun _ d _ => 2 - (intOf d).toNat)
          case atStart => exact ⟨0, Nat.zero_le _, rfl, HI.out, bb, bX, hX⟩
          case round =>
            clear bb bX hX HI
            obtain ⟨d', hd', rfl, hI, bb, bX, hX⟩ := hrel
            have HI := Lib.hid hI; clear hI
            by_cases hlt3 : d' < 2
            · have c2 := bb.cell
              have cx0 := bX.cell 0
              have hq : decide ((d' : Int) < 2) = true := by simp; omega
              go_wp2_with fail
              clear c2 cx0 hq
              cases hq : hopsI cut xf t' d' with
              | none =>
                have HSt := Lib.hid (fun y => inP_step (fr := fr) (k := k) (y := y) HOK.out hlt2 (show d' = 0 ∨ d' = 1 by omega))
                have HRf := Lib.hid (refOne_hopsI (k := k) HOK.out (show d' = 0 ∨ d' = 1 by omega) hlt2)
                have HQ := Lib.hid hq; clear hq
                refine (rhops_none _ _ _ _ _ _ _ hn (HR.out.ext hX) HQ.out).mono ?_
                rintro e W3 ⟨rfl, hx⟩
                replace bb := bb.ext hx; replace bX := bX.ext hx; have HI4 := Lib.hid (HI.out.ext hx); replace hX := hX.trans hx
                clear hx HI
                go_wp2_with fail
                go_roundw
                case rel => exact ⟨d' + 1, by omega, by go_num, HI4.out.iff (fun y => by rw [HSt.out y, HRf.out, HQ.out]; simp) (by omega), bb, bX, hX⟩
                case measure => simp [intOf]; omega
              | some h =>
                have HSt := Lib.hid (fun y => inP_step (fr := fr) (k := k) (y := y) HOK.out hlt2 (show d' = 0 ∨ d' = 1 by omega))
                have HRf := Lib.hid (refOne_hopsI (k := k) HOK.out (show d' = 0 ∨ d' = 1 by omega) hlt2)
                have hh40 := hopsI_le h4 hq
                have e1 : 0 ≤ (h : Int) := by omega
                have e2 : (h : Int) ≤ 40 := by omega
                have HQ := Lib.hid hq; clear hq
                refine (rhops_some _ _ _ _ _ _ _ _ hn (HR.out.ext hX) HQ.out).mono ?_
                rintro e W3 ⟨rfl, hx⟩
                replace bb := bb.ext hx; replace bX := bX.ext hx; have hI4 := HI.out.ext hx; replace hX := hX.trans hx
                clear hx HI
                obtain ⟨L, hown, hs, hmem, hlen⟩ := hI4
                have HOW := Lib.hid hown; have HS := Lib.hid hs; have HMEM := Lib.hid hmem; have HLEN := Lib.hid hlen
                clear hown hs hmem hlen
                have cx1 := bX.cell 1
                go_wp2_with fail
                clear cx1
                refine (insert_any (Rg.arr k xa d' (t', h)) L _ w.heap.size W3 HS.out (by have := HLEN.out; omega) hX.size HOW.out).mono ?_
                rintro e W4 ⟨v', rfl, hown, hg⟩
                replace bb := kept58 bb (by decide) HOW.out hg
                replace bX := kept58 bX (by decide) HOW.out hg
                replace hX := own_grown hg hX fun g hg' => (HOW.out.lt g hg').1
                have HN2 := Lib.hid hown
                clear hown hg
                go_wp2_with fail
                go_roundw
                case rel =>
                  have hnew : Rg.arr k xa d' (t', h) ∉ L := fun hin => inP_new HOK.out ((HMEM.out _).1 hin)
                  refine ⟨d' + 1, by omega, by go_num, ⟨Rg.ins (Rg.arr k xa d' (t', h)) L, ?_, Rg.ins_srt HS.out hnew, fun y => ?_, ?_⟩, bb, bX, hX⟩
                  · rw [(Rg.ins_perm _ L).length_eq]; exact HN2.out
                  · rw [(Rg.ins_perm _ L).mem_iff, HSt.out y, HRf.out, HQ.out, List.mem_cons, HMEM.out]
                    simp only [List.mem_singleton]
                    exact or_comm
                  · rw [(Rg.ins_perm _ L).length_eq, List.length_cons]; have := HLEN.out; omega
                case measure => simp [intOf]; omega
            · obtain rfl : d' = 2 := by omega
              go_wp2_with fail
              go_roundw
              case rel => exact ⟨t' + 1, hlt2, by go_num, HI.out.iff (fun y => inP_next HOK.out) (by omega), bb, bX, hX⟩
              case measure => simp [intOf]; omega
        · obtain rfl : t' = cut.length := by omega
          go_wp2_with fail
          go_roundw
          case rel => exact ⟨k + 1, hlt, by go_num, HI.out.iff (fun y => inP_end HX.out HOK.out) (by omega), bb, hX⟩
          case measure => simp [intOf]; omega
    · obtain rfl : k = m := by omega
      have q3 : decide ((k : Int) < (k : Int)) = false := by simp
      go_wp2_with fail
      go_ret
      obtain ⟨L, hown, hs, hmem, hlen⟩ := HI.out
      have hL : L = Rg.run cut fr := Rg.run_of hs fun y => by
        rw [hmem, Rg.items, show min fr.length 100 = k by have := hF.1; omega]
      subst hL
      obtain ⟨A', c', hv, _, _, hr⟩ := own_reads hown
      exact ⟨_, rfl, ⟨A', c', hv, hr⟩, hX⟩

theorem rrun_any (A : Option Addr) (c : Nat) (cut : List Bool) (F : Option Addr) (m cf : Nat) (fr : List (Int × Int)) (w : World) (hn : cut.length ≤ 140737488351232) (hm : m ≤ 100) (hR : Reads w w.heap.size 1 A cut.length (cut.map .bool)) (hF : RFs w F m fr) :
    Calls Try.prog 11 #[.agg #[.slice A cut.length c], .slice F m cf] w (RunPost cut fr w) := by
  by_cases h : 3 ≤ cut.length ∧ cut.length ≤ 40
  · exact rrun_ok A c cut F m cf fr w h.1 h.2 hm hR hF
  · refine (rrun_bad A cut.length c F m cf w hn (ckI_bad (by omega))).mono ?_
    rintro e w' ⟨rfl, hx⟩
    have h0 : Rg.run cut fr = [] := by
      have h1 : Rg.items cut fr = [] := by
        unfold Rg.items Rg.itemsUpto
        rw [List.flatMap_eq_nil_iff]
        intro k _
        unfold Rg.one
        rw [if_neg]
        simp only [Rg.okFrame, Bool.and_eq_true, decide_eq_true_eq]
        omega
      unfold Rg.run; rw [h1]; rfl
    exact ⟨_, rfl, by rw [h0]; exact ⟨none, 0, rfl, Reads.none_⟩, hx⟩
end Go.Proofs.Ytnicgmgihmfjbaa
