/- Contracts over any integer, valid or not: Small, Sign, Compare, Text. -/
import Derived.Test.YtfdpbcjcinchgaaDoorLb
import Derived.Test.YtfdpbcjcinchgaaDoorTe
import Derived.Test.YtfdpbcjcinchgaaDoorTg
namespace Go.Proofs.YtfdpbcjcinchgaaDoor
open Go.RowKit
set_option linter.unusedVariables false

/-- The table of powers of ten is laid. -/
def Tab (w : World) : Prop := Lib.TabIs Tryd.prog w "internal/strconv.uint64pow10" .u64 Lib.pow10Tab
theorem Tab.ext {w w' : World} (h : Tab w) (x : Ext w w') : Tab w' := tab_ext h x

theorem ValidX (v : Value) (s : Bool) (l : List Nat) (w : World) (hX : RX w v s l) :
    Calls Tryd.prog 17 #[v] w fun e w' => e = .returned (.bool (validB s l)) ∧ Ext w w' := by
  obtain ⟨A, n, c, rfl, h⟩ := hX
  exact Valid_any s A n c l w h
theorem rValidX (v : Value) (s : Bool) (l : List Nat) (w : World) (hX : RX w v s l) :
    Calls Tryd.prog 18 #[v] w fun e w' => e = .returned (.bool (validB s l)) ∧ Ext w w' := by
  obtain ⟨A, n, c, rfl, h⟩ := hX
  exact rValid_any s A n c l w h
def smallR (s : Bool) (l : List Nat) : Int × Bool := if validB s l then smallS (zOf s (val l)) else (0, false)
def signR (s : Bool) (l : List Nat) : Int := if validB s l then cmpZ (zOf s (val l)) 0 else 0
def cmpR (s : Bool) (l : List Nat) (t : Bool) (k : List Nat) : Int := if validB s l && validB t k then cmpZ (zOf s (val l)) (zOf t (val k)) else 0
def txtR (s : Bool) (l : List Nat) : ByteArray := if validB s l then ⟨(txt (zOf s (val l))).toArray⟩ else ⟨#[]⟩
theorem Small_res (v : Value) (s : Bool) (l : List Nat) (w : World) (hX : RX w v s l) :
    Calls Tryd.prog 15 #[v] w fun e w' => e = .returned (.tuple #[.int .i64 (smallR s l).1, .bool (smallR s l).2]) ∧ Ext w w' := by
  unfold smallR
  cases h : validB s l
  · simp only [Bool.false_eq_true, if_false]
    exact Small_bad v s l w hX h
  · simp only [if_true]
    obtain ⟨hx, ax⟩ := RI.of_valid hX h
    exact Small_ok v _ w hx (by rw [zOf_abs]; exact ax)
theorem rSmall_res (v : Value) (s : Bool) (l : List Nat) (w : World) (hX : RX w v s l) :
    Calls Tryd.prog 16 #[v] w fun e w' => e = .returned (.tuple #[.int .i64 (smallR s l).1, .bool (smallR s l).2]) ∧ Ext w w' := by
  unfold smallR
  cases h : validB s l
  · simp only [Bool.false_eq_true, if_false]
    exact rSmall_bad v s l w hX h
  · simp only [if_true]
    obtain ⟨hx, ax⟩ := RI.of_valid hX h
    exact rSmall_ok v _ w hx (by rw [zOf_abs]; exact ax)
theorem Sign_res (v : Value) (s : Bool) (l : List Nat) (w : World) (hX : RX w v s l) :
    Calls Tryd.prog 19 #[v] w fun e w' => e = .returned (.int .i64 (signR s l)) ∧ Ext w w' := by
  unfold signR
  cases h : validB s l
  · simp only [Bool.false_eq_true, if_false]
    exact Sign_bad v s l w hX h
  · simp only [if_true]
    obtain ⟨hx, ax⟩ := RI.of_valid hX h
    exact Sign_ok v _ w hx (by rw [zOf_abs]; exact ax)
theorem rSign_res (v : Value) (s : Bool) (l : List Nat) (w : World) (hX : RX w v s l) :
    Calls Tryd.prog 20 #[v] w fun e w' => e = .returned (.int .i64 (signR s l)) ∧ Ext w w' := by
  unfold signR
  cases h : validB s l
  · simp only [Bool.false_eq_true, if_false]
    exact rSign_bad v s l w hX h
  · simp only [if_true]
    obtain ⟨hx, ax⟩ := RI.of_valid hX h
    exact rSign_ok v _ w hx (by rw [zOf_abs]; exact ax)
theorem Compare_res (v u : Value) (s t : Bool) (l k : List Nat) (w : World) (hX : RX w v s l) (hY : RX w u t k) :
    Calls Tryd.prog 21 #[v, u] w fun e w' => e = .returned (.int .i64 (cmpR s l t k)) ∧ Ext w w' := by
  unfold cmpR
  cases h : validB s l && validB t k
  · simp only [Bool.false_eq_true, if_false]
    exact Compare_bad v u s t l k w hX hY h
  · simp only [if_true]
    obtain ⟨h1, h2⟩ := Bool.and_eq_true_iff.1 h
    obtain ⟨hx, ax⟩ := RI.of_valid hX h1
    obtain ⟨hy, ay⟩ := RI.of_valid hY h2
    exact Compare_ok v u _ _ w hx hy (by rw [zOf_abs]; exact ax) (by rw [zOf_abs]; exact ay)
theorem rCompare_res (v u : Value) (s t : Bool) (l k : List Nat) (w : World) (hX : RX w v s l) (hY : RX w u t k) :
    Calls Tryd.prog 22 #[v, u] w fun e w' => e = .returned (.int .i64 (cmpR s l t k)) ∧ Ext w w' := by
  unfold cmpR
  cases h : validB s l && validB t k
  · simp only [Bool.false_eq_true, if_false]
    exact rCompare_bad v u s t l k w hX hY h
  · simp only [if_true]
    obtain ⟨h1, h2⟩ := Bool.and_eq_true_iff.1 h
    obtain ⟨hx, ax⟩ := RI.of_valid hX h1
    obtain ⟨hy, ay⟩ := RI.of_valid hY h2
    exact rCompare_ok v u _ _ w hx hy (by rw [zOf_abs]; exact ax) (by rw [zOf_abs]; exact ay)
theorem Text_res (v : Value) (s : Bool) (l : List Nat) (w : World) (hX : RX w v s l) (htab : Tab w) :
    Calls Tryd.prog 23 #[v] w fun e w' => e = .returned (.string (txtR s l)) ∧ Ext w w' := by
  unfold txtR
  cases h : validB s l
  · simp only [Bool.false_eq_true, if_false]
    exact Text_bad v s l w hX h
  · simp only [if_true]
    obtain ⟨hx, ax⟩ := RI.of_valid hX h
    exact Text_all v _ w hx (by rw [zOf_abs]; exact ax) htab
theorem rText_res (v : Value) (s : Bool) (l : List Nat) (w : World) (hX : RX w v s l) :
    Calls Tryd.prog 24 #[v] w fun e w' => e = .returned (.string (txtR s l)) ∧ Ext w w' := by
  unfold txtR
  cases h : validB s l
  · simp only [Bool.false_eq_true, if_false]
    exact rText_bad v s l w hX h
  · simp only [if_true]
    obtain ⟨hx, ax⟩ := RI.of_valid hX h
    exact rText_ok v _ w hx (by rw [zOf_abs]; exact ax)
end Go.Proofs.YtfdpbcjcinchgaaDoor
