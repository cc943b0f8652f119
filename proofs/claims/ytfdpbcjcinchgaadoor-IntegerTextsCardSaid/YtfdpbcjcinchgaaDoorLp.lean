/- Parse and Text against the specification: the walks of IntegerTexts (printed by wip/tools/gen_texts.py). -/
import Derived.Test.YtfdpbcjcinchgaaDoorPf
import Derived.Test.YtfdpbcjcinchgaaDoorTd
import Derived.Test.YtfdpbcjcinchgaaDoorTe
namespace Go.Proofs.YtfdpbcjcinchgaaDoor
open Go.RowKit
set_option linter.unusedVariables false

theorem large1 {w : World} {g : Nat} {t : TypeId} {s : Bool} {A : Option Addr} {n c : Nat} (h : Blk w g t #[.bool s, .slice A n c]) :
    ∀ j q, [(A, n, c)][j]? = some q → w.cell? ⟨g, j * 2 + 1, none⟩ = some (.slice q.1 q.2.1 q.2.2)
  | 0, q, hq => by obtain rfl := Option.some.inj hq; exact h.cell 1
theorem large1_no {A : Option Addr} {n c : Nat} (h1 : n ≤ 40) : ([(A, n, c)].any fun q => decide (40 < q.2.1)) = false := by simp; omega
theorem large1_yes {A : Option Addr} {n c : Nat} (h1 : ¬ n ≤ 40) : ([(A, n, c)].any fun q => decide (40 < q.2.1)) = true := by simp; omega
/-- The table of powers of ten is laid. -/
def Tab (w : World) : Prop := Lib.TabIs Tryd.prog w "internal/strconv.uint64pow10" .u64 Lib.pow10Tab
theorem Tab.ext {w w' : World} (h : Tab w) (x : Ext w w') : Tab w' := tab_ext h x
theorem rValidX (v : Value) (s : Bool) (l : List Nat) (w : World) (hX : RX w v s l) :
    Calls Tryd.prog 18 #[v] w fun e w' => e = .returned (.bool (validB s l)) ∧ Ext w w' := by
  obtain ⟨A, n, c, rfl, h⟩ := hX
  exact rValid_any s A n c l w h

set_option maxRecDepth 100000 in
set_option maxHeartbeats 1600000 in
theorem texts_large (v : Value) (s0 : Bool) (l0 : List Nat) (st : ByteArray) (w : World) (hX : RX w v s0 l0) (hl : ¬ l0.length ≤ 40) :
    Calls Tryd.prog 8 #[v, .string st] w fun e w' => e = .returned (.bool true) ∧ Ext w w' := by
  obtain ⟨A0, n0, c0, rfl, hx⟩ := hX
  have hn := hx.len
  rw [hn] at hl
  have hX : RX w (iv s0 A0 n0 c0) s0 l0 := ⟨A0, n0, c0, rfl, hx⟩
  clear hx
  have HN := Lib.hid hn; clear hn
  have HLG := Lib.hid hl; clear hl
  have hE : Ext w (w.alloc (.cells #[.bool s0, .slice A0 n0 c0] 24)) := Ext.new w _
  have b2 : Blk (w.alloc (.cells #[.bool s0, .slice A0 n0 c0] 24)) (w.heap.size) 24 #[.bool s0, .slice A0 n0 c0] := Blk.new' _ _ (by simp)
  go_enter Tryd.func8, Tryd.ntmps8
  go_wp2_with fail
  generalize (w.alloc (.cells #[.bool s0, .slice A0 n0 c0] 24)) = w0 at *
  generalize hg : w.heap.size = g at *
  have HG := Lib.hid hg; clear hg
  replace hX := hX.ext hE
  refine (known_any _).mono ?_
  rintro e w1 ⟨rfl, hx_⟩
  replace b2 := b2.ext hx_
  replace hX := hX.ext hx_
  replace hE := hE.trans hx_
  clear hx_
  have k2 := b2.cell
  go_wp2_with fail
  refine (Large_any w1.heap.size 1 [(A0, n0, c0)] _ (by simp) (large1 (Blk.new w1 24 #[.bool s0, .slice A0 n0 c0]))).mono ?_
  rintro e w2 ⟨rfl, hx_⟩
  rw [large1_yes HLG.out]
  replace hE := hE.trans ((Ext.new w1 _).trans hx_)
  go_wp2
  go_ret
  exact ⟨rfl, hE⟩

set_option maxRecDepth 100000 in
set_option maxHeartbeats 1600000 in
theorem texts_long (v : Value) (s0 : Bool) (l0 : List Nat) (st : ByteArray) (w : World) (hX : RX w v s0 l0) (hl : l0.length ≤ 40) (hs : 5000 < st.size) :
    Calls Tryd.prog 8 #[v, .string st] w fun e w' => e = .returned (.bool true) ∧ Ext w w' := by
  obtain ⟨A0, n0, c0, rfl, hx⟩ := hX
  have hn := hx.len
  rw [hn] at hl
  have hX : RX w (iv s0 A0 n0 c0) s0 l0 := ⟨A0, n0, c0, rfl, hx⟩
  clear hx
  have HN := Lib.hid hn; clear hn
  have ts : decide ((5000 : Int) < (st.size : Int)) = true := by simp; omega
  have ts2 : (5000 : Int) < (st.size : Int) := by omega
  have hE : Ext w (w.alloc (.cells #[.bool s0, .slice A0 n0 c0] 24)) := Ext.new w _
  have b2 : Blk (w.alloc (.cells #[.bool s0, .slice A0 n0 c0] 24)) (w.heap.size) 24 #[.bool s0, .slice A0 n0 c0] := Blk.new' _ _ (by simp)
  go_enter Tryd.func8, Tryd.ntmps8
  go_wp2_with fail
  generalize (w.alloc (.cells #[.bool s0, .slice A0 n0 c0] 24)) = w0 at *
  generalize hg : w.heap.size = g at *
  have HG := Lib.hid hg; clear hg
  replace hX := hX.ext hE
  refine (known_any _).mono ?_
  rintro e w1 ⟨rfl, hx_⟩
  replace b2 := b2.ext hx_
  replace hX := hX.ext hx_
  replace hE := hE.trans hx_
  clear hx_
  have k2 := b2.cell
  go_wp2_with fail
  have hbs := Blk.new w1 24 #[.bool s0, .slice A0 n0 c0]
  have hx0 := Ext.new w1 (.cells #[.bool s0, .slice A0 n0 c0] 24)
  replace b2 := b2.ext hx0
  replace hX := hX.ext hx0
  replace hE := hE.trans hx0
  clear hx0
  refine (Large_any w1.heap.size 1 [(A0, n0, c0)] _ (by simp) (large1 hbs)).mono ?_
  rintro e w2 ⟨rfl, hx_⟩
  rw [large1_no (by omega)]
  replace b2 := b2.ext hx_
  replace hX := hX.ext hx_
  replace hE := hE.trans hx_
  clear hx_ hbs
  clear k2
  go_wp2
  go_ret
  exact ⟨rfl, hE⟩

set_option maxRecDepth 100000 in
set_option maxHeartbeats 3200000 in
theorem texts_bad (v : Value) (s0 : Bool) (l0 : List Nat) (st : ByteArray) (w : World) (hX : RX w v s0 l0) (hl : l0.length ≤ 40) (hs : st.size ≤ 5000) (hv : validB s0 l0 = false) :
    Calls Tryd.prog 8 #[v, .string st] w fun e w' => e = .returned (.bool true) ∧ Ext w w' := by
  obtain ⟨A0, n0, c0, rfl, hx⟩ := hX
  have hn := hx.len
  rw [hn] at hl
  have hX : RX w (iv s0 A0 n0 c0) s0 l0 := ⟨A0, n0, c0, rfl, hx⟩
  clear hx
  have HN := Lib.hid hn; clear hn
  have ts : decide ((5000 : Int) < (st.size : Int)) = false := by simp; omega
  have ts2 : ¬ (5000 : Int) < (st.size : Int) := by omega
  obtain ⟨L, hL⟩ : ∃ L, st.data.toList = L := ⟨_, rfl⟩
  have hLl : L.length ≤ 5000 := by rw [← hL, ← Lib.size_eq]; exact hs
  have HL := Lib.hid hL; have HLL := Lib.hid hLl; have HV := Lib.hid hv; clear hL hLl hv
  obtain ⟨pR, hpR⟩ : ∃ p, p = parseR L := ⟨_, rfl⟩
  have HR := Lib.hid hpR; clear hpR
  have hE : Ext w (w.alloc (.cells #[.bool s0, .slice A0 n0 c0] 24)) := Ext.new w _
  have b2 : Blk (w.alloc (.cells #[.bool s0, .slice A0 n0 c0] 24)) (w.heap.size) 24 #[.bool s0, .slice A0 n0 c0] := Blk.new' _ _ (by simp)
  go_enter Tryd.func8, Tryd.ntmps8
  go_wp2_with fail
  generalize (w.alloc (.cells #[.bool s0, .slice A0 n0 c0] 24)) = w0 at *
  generalize hg : w.heap.size = g at *
  have HG := Lib.hid hg; clear hg
  replace hX := hX.ext hE
  refine (known_any _).mono ?_
  rintro e w1 ⟨rfl, hx_⟩
  replace b2 := b2.ext hx_
  replace hX := hX.ext hx_
  replace hE := hE.trans hx_
  clear hx_
  have k2 := b2.cell
  go_wp2_with fail
  have hbs := Blk.new w1 24 #[.bool s0, .slice A0 n0 c0]
  have hx0 := Ext.new w1 (.cells #[.bool s0, .slice A0 n0 c0] 24)
  replace b2 := b2.ext hx0
  replace hX := hX.ext hx0
  replace hE := hE.trans hx0
  clear hx0
  refine (Large_any w1.heap.size 1 [(A0, n0, c0)] _ (by simp) (large1 hbs)).mono ?_
  rintro e w2 ⟨rfl, hx_⟩
  rw [large1_no (by omega)]
  replace b2 := b2.ext hx_
  replace hX := hX.ext hx_
  replace hE := hE.trans hx_
  clear hx_ hbs
  clear k2
  go_wp2_with fail
  refine (Parse_any st L _ HL.out HLL.out).mono ?_
  rintro e w3 ⟨v_, rfl, ⟨u_, rfl, hJ5⟩, hx_⟩
  replace b2 := b2.ext hx_
  replace hX := hX.ext hx_
  replace hE := hE.trans hx_
  clear hx_
  rw [← HR.out] at hJ5
  rw [← HR.out]
  obtain ⟨s5, A5, n5, c5, rfl, hJ5⟩ := hJ5.open_
  have hx_ : Ext w3 (w3.alloc (.cells #[.bool s5, .slice A5 n5 c5] 24)) := Ext.new _ _
  have b5 : Blk (w3.alloc (.cells #[.bool s5, .slice A5 n5 c5] 24)) w3.heap.size 24 #[.bool s5, .slice A5 n5 c5] := Blk.new' _ _ (by simp)
  replace b2 := b2.ext hx_
  replace hX := hX.ext hx_
  replace hJ5 := hJ5.ext hx_
  replace hE := hE.trans hx_
  clear hx_
  have k2 := b2.cell
  have k5 := b5.cell
  go_wp2_with fail
  generalize (w3.alloc (.cells #[.bool s5, .slice A5 n5 c5] 24)) = w4 at *
  generalize w3.heap.size = g5 at *
  refine (rParse_any st L _ HL.out HLL.out).mono ?_
  rintro e w5 ⟨v_, rfl, ⟨u_, rfl, hJ7⟩, hx_⟩
  replace b2 := b2.ext hx_
  replace b5 := b5.ext hx_
  replace hX := hX.ext hx_
  replace hJ5 := hJ5.ext hx_
  replace hE := hE.trans hx_
  clear hx_
  clear k2 k5
  rw [← HR.out] at hJ7
  rw [← HR.out]
  obtain ⟨s7, A7, n7, c7, rfl, hJ7⟩ := hJ7.open_
  have hx_ : Ext w5 (w5.alloc (.cells #[.bool s7, .slice A7 n7 c7] 24)) := Ext.new _ _
  have b7 : Blk (w5.alloc (.cells #[.bool s7, .slice A7 n7 c7] 24)) w5.heap.size 24 #[.bool s7, .slice A7 n7 c7] := Blk.new' _ _ (by simp)
  replace b2 := b2.ext hx_
  replace b5 := b5.ext hx_
  replace hX := hX.ext hx_
  replace hJ5 := hJ5.ext hx_
  replace hJ7 := hJ7.ext hx_
  replace hE := hE.trans hx_
  clear hx_
  have k2 := b2.cell
  have k5 := b5.cell
  have k7 := b7.cell
  go_wp2_with fail
  generalize (w5.alloc (.cells #[.bool s7, .slice A7 n7 c7] 24)) = w6 at *
  generalize w5.heap.size = g7 at *
  refine (same_true _ _ _ _ _ hJ5 hJ7).mono ?_
  rintro e w7 ⟨rfl, hx_⟩
  replace b2 := b2.ext hx_
  replace b5 := b5.ext hx_
  replace b7 := b7.ext hx_
  replace hX := hX.ext hx_
  replace hJ5 := hJ5.ext hx_
  replace hJ7 := hJ7.ext hx_
  replace hE := hE.trans hx_
  clear hx_
  clear k2 k5 k7
  have k2 := b2.cell
  have k5 := b5.cell
  have k7 := b7.cell
  go_wp2_with fail
  refine (rValidX _ s0 l0 _ hX).mono ?_
  rintro e w8 ⟨rfl, hx_⟩
  replace b2 := b2.ext hx_
  replace b5 := b5.ext hx_
  replace b7 := b7.ext hx_
  replace hX := hX.ext hx_
  replace hE := hE.trans hx_
  clear hx_
  clear k2 k5 k7
  rw [HV.out]
  have k2 := b2.cell
  have k5 := b5.cell
  have k7 := b7.cell
  go_wp2
  go_ret
  exact ⟨rfl, hE⟩

set_option maxRecDepth 100000 in
set_option maxHeartbeats 3200000 in
theorem texts_ok (v : Value) (s0 : Bool) (l0 : List Nat) (st : ByteArray) (w : World) (hX : RX w v s0 l0) (hT : Tab w) (hl : l0.length ≤ 40) (hs : st.size ≤ 5000) (hv : validB s0 l0 = true) :
    Calls Tryd.prog 8 #[v, .string st] w fun e w' => e = .returned (.bool true) ∧ Ext w w' := by
  have hri := RI.of_valid hX hv
  obtain ⟨A0, n0, c0, rfl, hx⟩ := hX
  have hn := hx.len
  rw [hn] at hl
  have hX : RX w (iv s0 A0 n0 c0) s0 l0 := ⟨A0, n0, c0, rfl, hx⟩
  clear hx
  have HN := Lib.hid hn; clear hn
  have ts : decide ((5000 : Int) < (st.size : Int)) = false := by simp; omega
  have ts2 : ¬ (5000 : Int) < (st.size : Int) := by omega
  obtain ⟨L, hL⟩ : ∃ L, st.data.toList = L := ⟨_, rfl⟩
  have hLl : L.length ≤ 5000 := by rw [← hL, ← Lib.size_eq]; exact hs
  have HL := Lib.hid hL; have HLL := Lib.hid hLl; have HV := Lib.hid hv; clear hL hLl hv
  obtain ⟨pR, hpR⟩ : ∃ p, p = parseR L := ⟨_, rfl⟩
  have HR := Lib.hid hpR; clear hpR
  obtain ⟨z, hz⟩ : ∃ z, z = zOf s0 (val l0) := ⟨_, rfl⟩
  have hI : RI w (iv s0 A0 n0 c0) z := by rw [hz]; exact hri.1
  have hzn : (digs z.natAbs).length ≤ 40 := by
    rw [hz, zOf_abs]
    have hd : Dig l0 := by obtain ⟨A, n, c, _, hx⟩ := hX; exact hx.dg
    have := HN.out
    exact digs_len_le (Nat.lt_of_lt_of_le (val_lt hd) (Nat.pow_le_pow_right (by omega) (by omega)))
  have hza : z.natAbs < lim := by rw [hz, zOf_abs]; exact hri.2
  obtain ⟨hp1, hp2⟩ := parse_text rfl hzn
  obtain ⟨tx, htx⟩ : ∃ t : ByteArray, t = ⟨(txt z).toArray⟩ := ⟨_, rfl⟩
  have htl : tx.data.toList = txt z := by rw [htx]
  have HP1 := Lib.hid hp1; have HP2 := Lib.hid hp2; have HTX := Lib.hid htx; have HTL := Lib.hid htl; have HZA := Lib.hid hza
  clear hp1 hp2 htx htl hza hzn hri hz
  have hE : Ext w (w.alloc (.cells #[.bool s0, .slice A0 n0 c0] 24)) := Ext.new w _
  have b2 : Blk (w.alloc (.cells #[.bool s0, .slice A0 n0 c0] 24)) (w.heap.size) 24 #[.bool s0, .slice A0 n0 c0] := Blk.new' _ _ (by simp)
  go_enter Tryd.func8, Tryd.ntmps8
  go_wp2_with fail
  generalize (w.alloc (.cells #[.bool s0, .slice A0 n0 c0] 24)) = w0 at *
  generalize hg : w.heap.size = g at *
  have HG := Lib.hid hg; clear hg
  replace hX := hX.ext hE
  replace hI := hI.ext hE
  replace hT := hT.ext hE
  refine (known_any _).mono ?_
  rintro e w1 ⟨rfl, hx_⟩
  replace b2 := b2.ext hx_
  replace hX := hX.ext hx_
  replace hI := hI.ext hx_
  replace hT := hT.ext hx_
  replace hE := hE.trans hx_
  clear hx_
  have k2 := b2.cell
  go_wp2_with fail
  have hbs := Blk.new w1 24 #[.bool s0, .slice A0 n0 c0]
  have hx0 := Ext.new w1 (.cells #[.bool s0, .slice A0 n0 c0] 24)
  replace b2 := b2.ext hx0
  replace hX := hX.ext hx0
  replace hI := hI.ext hx0
  replace hT := hT.ext hx0
  replace hE := hE.trans hx0
  clear hx0
  refine (Large_any w1.heap.size 1 [(A0, n0, c0)] _ (by simp) (large1 hbs)).mono ?_
  rintro e w2 ⟨rfl, hx_⟩
  rw [large1_no (by omega)]
  replace b2 := b2.ext hx_
  replace hX := hX.ext hx_
  replace hI := hI.ext hx_
  replace hT := hT.ext hx_
  replace hE := hE.trans hx_
  clear hx_ hbs
  clear k2
  go_wp2_with fail
  refine (Parse_any st L _ HL.out HLL.out).mono ?_
  rintro e w3 ⟨v_, rfl, ⟨u_, rfl, hJ5⟩, hx_⟩
  replace b2 := b2.ext hx_
  replace hX := hX.ext hx_
  replace hI := hI.ext hx_
  replace hT := hT.ext hx_
  replace hE := hE.trans hx_
  clear hx_
  rw [← HR.out] at hJ5
  rw [← HR.out]
  obtain ⟨s5, A5, n5, c5, rfl, hJ5⟩ := hJ5.open_
  have hx_ : Ext w3 (w3.alloc (.cells #[.bool s5, .slice A5 n5 c5] 24)) := Ext.new _ _
  have b5 : Blk (w3.alloc (.cells #[.bool s5, .slice A5 n5 c5] 24)) w3.heap.size 24 #[.bool s5, .slice A5 n5 c5] := Blk.new' _ _ (by simp)
  replace b2 := b2.ext hx_
  replace hX := hX.ext hx_
  replace hI := hI.ext hx_
  replace hT := hT.ext hx_
  replace hJ5 := hJ5.ext hx_
  replace hE := hE.trans hx_
  clear hx_
  have k2 := b2.cell
  have k5 := b5.cell
  go_wp2_with fail
  generalize (w3.alloc (.cells #[.bool s5, .slice A5 n5 c5] 24)) = w4 at *
  generalize w3.heap.size = g5 at *
  refine (rParse_any st L _ HL.out HLL.out).mono ?_
  rintro e w5 ⟨v_, rfl, ⟨u_, rfl, hJ7⟩, hx_⟩
  replace b2 := b2.ext hx_
  replace b5 := b5.ext hx_
  replace hX := hX.ext hx_
  replace hI := hI.ext hx_
  replace hT := hT.ext hx_
  replace hJ5 := hJ5.ext hx_
  replace hE := hE.trans hx_
  clear hx_
  clear k2 k5
  rw [← HR.out] at hJ7
  rw [← HR.out]
  obtain ⟨s7, A7, n7, c7, rfl, hJ7⟩ := hJ7.open_
  have hx_ : Ext w5 (w5.alloc (.cells #[.bool s7, .slice A7 n7 c7] 24)) := Ext.new _ _
  have b7 : Blk (w5.alloc (.cells #[.bool s7, .slice A7 n7 c7] 24)) w5.heap.size 24 #[.bool s7, .slice A7 n7 c7] := Blk.new' _ _ (by simp)
  replace b2 := b2.ext hx_
  replace b5 := b5.ext hx_
  replace hX := hX.ext hx_
  replace hI := hI.ext hx_
  replace hT := hT.ext hx_
  replace hJ5 := hJ5.ext hx_
  replace hJ7 := hJ7.ext hx_
  replace hE := hE.trans hx_
  clear hx_
  have k2 := b2.cell
  have k5 := b5.cell
  have k7 := b7.cell
  go_wp2_with fail
  generalize (w5.alloc (.cells #[.bool s7, .slice A7 n7 c7] 24)) = w6 at *
  generalize w5.heap.size = g7 at *
  refine (same_true _ _ _ _ _ hJ5 hJ7).mono ?_
  rintro e w7 ⟨rfl, hx_⟩
  replace b2 := b2.ext hx_
  replace b5 := b5.ext hx_
  replace b7 := b7.ext hx_
  replace hX := hX.ext hx_
  replace hI := hI.ext hx_
  replace hT := hT.ext hx_
  replace hJ5 := hJ5.ext hx_
  replace hJ7 := hJ7.ext hx_
  replace hE := hE.trans hx_
  clear hx_
  clear k2 k5 k7
  have k2 := b2.cell
  have k5 := b5.cell
  have k7 := b7.cell
  go_wp2_with fail
  refine (rValidX _ s0 l0 _ hX).mono ?_
  rintro e w8 ⟨rfl, hx_⟩
  replace b2 := b2.ext hx_
  replace b5 := b5.ext hx_
  replace b7 := b7.ext hx_
  replace hX := hX.ext hx_
  replace hI := hI.ext hx_
  replace hT := hT.ext hx_
  replace hE := hE.trans hx_
  clear hx_
  clear k2 k5 k7
  rw [HV.out]
  have k2 := b2.cell
  have k5 := b5.cell
  have k7 := b7.cell
  go_wp2_with fail
  refine (Text_all _ z _ hI HZA.out hT).mono ?_
  rintro e w9 ⟨rfl, hx_⟩
  replace b2 := b2.ext hx_
  replace b5 := b5.ext hx_
  replace b7 := b7.ext hx_
  replace hX := hX.ext hx_
  replace hI := hI.ext hx_
  replace hT := hT.ext hx_
  replace hE := hE.trans hx_
  clear hx_
  clear k2 k5 k7
  rw [← HTX.out]
  go_wp2_with fail
  refine (Parse_any tx (txt z) _ HTL.out (Nat.le_trans HP2.out (by decide))).mono ?_
  rintro e w10 ⟨v_, rfl, hret, hx_⟩
  replace b2 := b2.ext hx_
  replace b5 := b5.ext hx_
  replace b7 := b7.ext hx_
  replace hX := hX.ext hx_
  replace hI := hI.ext hx_
  replace hT := hT.ext hx_
  replace hE := hE.trans hx_
  clear hx_
  rw [HP1.out] at hret
  obtain ⟨u_, rfl, hJ⟩ := hret
  obtain ⟨s9, A9, n9, c9, rfl, hJ⟩ := hJ.open_
  have hx_ : Ext w10 (w10.alloc (.cells #[.bool s9, .slice A9 n9 c9] 24)) := Ext.new _ _
  have b9 : Blk (w10.alloc (.cells #[.bool s9, .slice A9 n9 c9] 24)) w10.heap.size 24 #[.bool s9, .slice A9 n9 c9] := Blk.new' _ _ (by simp)
  replace b2 := b2.ext hx_
  replace b5 := b5.ext hx_
  replace b7 := b7.ext hx_
  replace hX := hX.ext hx_
  replace hI := hI.ext hx_
  replace hT := hT.ext hx_
  replace hJ := hJ.ext hx_
  replace hE := hE.trans hx_
  clear hx_
  have k2 := b2.cell
  have k5 := b5.cell
  have k7 := b7.cell
  have k9 := b9.cell
  go_wp2_with fail
  generalize (w10.alloc (.cells #[.bool s9, .slice A9 n9 c9] 24)) = w11 at *
  generalize w10.heap.size = g9 at *
  refine (rSame_any _ _ z z _ hJ hI).mono ?_
  rintro e w12 ⟨rfl, hx_⟩
  replace b2 := b2.ext hx_
  replace b5 := b5.ext hx_
  replace b7 := b7.ext hx_
  replace b9 := b9.ext hx_
  replace hX := hX.ext hx_
  replace hI := hI.ext hx_
  replace hT := hT.ext hx_
  replace hJ := hJ.ext hx_
  replace hE := hE.trans hx_
  clear hx_
  clear k2 k5 k7 k9
  rw [show decide (z = z) = true by simp]
  go_wp2
  go_ret
  exact ⟨rfl, hE⟩

end Go.Proofs.YtfdpbcjcinchgaaDoor
