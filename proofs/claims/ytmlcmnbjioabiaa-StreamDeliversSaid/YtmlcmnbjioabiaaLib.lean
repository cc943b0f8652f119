/- Words for memory that all texts of this seat share: a slice that reads as a list, a block that is known whole, worlds that extend a world, and the rule for a region whose order is open. -/
import Derived.WalkKit
import Derived.WalkSpells
import Derived.WalkLawsBesides
import Derived.Lib.Hide
import Derived.Deep.QuietTactic
import Derived.BigQuiet
import Derived.Deep.AppendLies
import Derived.Deep.Draws
import Derived.Laws.OwnMore
import Derived.Laws.Rows
import Derived.KernelRfl
import Derived.Laws.BytesArg
namespace Go.Proofs.Ytmlcmnbjioabiaa
open Go.RowKit

theorem block_of_add (a : Addr) (n : Nat) : (a.add n).block = a.block := by unfold Addr.add; split <;> rfl
theorem add_of_add (a : Addr) (i j : Nat) : (a.add i).add j = a.add (i + j) := by
  unfold Addr.add
  by_cases hi : i = 0 <;> by_cases hj : j = 0 <;> simp [hi, hj, Nat.add_assoc]

/-- Nothing that existed has changed. -/
abbrev Ext (w w' : World) : Prop := Below w.heap.size w w'
theorem Ext.refl (w : World) : Ext w w := Below.refl _ _
theorem Ext.trans {a b c : World} (h : Ext a b) (k : Ext b c) : Ext a c := Below.trans h (k.mono h.size)
theorem Ext.alloc {a w : World} (h : Ext a w) (o : Obj) : Ext a (w.alloc o) := Below.alloc h h.size o
theorem Ext.drew {a w : World} (h : Ext a w) : Ext a w.drew := Below.drew h
theorem Ext.drewN {a w : World} (h : Ext a w) (n : Nat) : Ext a (w.drewN n) := ⟨h.os, h.tape, h.output, h.size, h.block⟩
theorem Ext.setCell {a w : World} (h : Ext a w) {p : Addr} (hp : a.heap.size ≤ p.block) (u : Value) : Ext a (w.setCell p u) := Below.setCell h hp u
theorem Ext.new (w : World) (o : Obj) : Ext w (w.alloc o) := (Ext.refl w).alloc o

theorem Ext.lt {w w' : World} {o : Obj} (h : Ext (w.alloc o) w') : w.heap.size < w'.heap.size := by have := h.size; simp at this; omega
theorem Ext.lt2 {w w' : World} {o o' : Obj} (h : Ext ((w.alloc o).alloc o') w') : w.heap.size + 1 < w'.heap.size := by have := h.size; simp at this; omega

/-- The slice value '.slice A n _' holds the cells xs (size cells an element) and lies below block B. -/
def Reads (w : World) (B size : Nat) (A : Option Addr) (n : Nat) (xs : List Value) : Prop :=
  xs.length = n * size ∧ (0 < n → ∃ ad, A = some ad ∧ ad.block < B ∧ ∀ j u, xs[j]? = some u → w.cell? (ad.add j) = some u)

section
variable {w w' : World} {B B' size n : Nat} {A : Option Addr} {xs : List Value}
theorem Reads.none_ : Reads w B size A 0 [] := ⟨by simp, fun h => absurd h (by omega)⟩
theorem Reads.at_ {k : Nat} (h : Reads w B 1 A n xs) (hk : k < n) : ∃ ad u, A = some ad ∧ ad.block < B ∧ xs[k]? = some u ∧ w.cell? (ad.add k) = some u := by
  obtain ⟨ad, e, hb, hc⟩ := h.2 (by omega)
  have hl : k < xs.length := by have := h.1; omega
  exact ⟨ad, xs[k], e, hb, List.getElem?_eq_getElem hl, hc k _ (List.getElem?_eq_getElem hl)⟩
theorem Reads.keep (h : Reads w B size A n xs) (hk : ∀ p : Addr, p.block < B → w'.cell? p = w.cell? p) : Reads w' B size A n xs :=
  ⟨h.1, fun hn => by
    obtain ⟨ad, e, hb, hc⟩ := h.2 hn
    exact ⟨ad, e, hb, fun j u hu => (hk _ (by rw [block_of_add]; exact hb)).trans (hc j u hu)⟩⟩
theorem Reads.more (h : Reads w B size A n xs) (hB : B ≤ B') : Reads w B' size A n xs :=
  ⟨h.1, fun hn => by
    obtain ⟨ad, e, hb, hc⟩ := h.2 hn
    exact ⟨ad, e, by omega, hc⟩⟩
theorem Reads.below (h : Reads w B size A n xs) (hb : Below B w w') : Reads w' B size A n xs := h.keep fun _ hp => hb.cell hp
/-- A slice that reads in w reads in every world that extends w. -/
theorem Reads.ext (h : Reads w w.heap.size size A n xs) (hb : Ext w w') : Reads w' w'.heap.size size A n xs := (h.below hb).more hb.size
theorem Reads.int_at {kd : IntKind} {l : List Int} {k : Nat} (h : Reads w B 1 A n (l.map (.int kd))) (hk : k < n) : ∃ ad x, A = some ad ∧ ad.block < B ∧ l[k]? = some x ∧ w.cell? (ad.add k) = some (.int kd x) := by
  obtain ⟨ad, u, e, hb, hu, hc⟩ := h.at_ hk
  simp only [List.getElem?_map, Option.map_eq_some_iff] at hu
  obtain ⟨x, hx, rfl⟩ := hu
  exact ⟨ad, x, e, hb, hx, hc⟩
theorem Reads.len {f : Int → Value} {l : List Int} (h : Reads w B 1 A n (l.map f)) : l.length = n := by simpa using h.1
end

/-- The string of bytes that are given as numbers. -/
def strOf (l : List Int) : ByteArray := ⟨(l.map fun n => UInt8.ofNat n.toNat).toArray⟩
theorem Reads.run_string {P : Program} {w : World} {B n c : Nat} {A : Option Addr} {l : List Int} (h : Reads w B 1 A n (l.map (.int .u8))) {src dst e : TypeId}
    (hs : P.underlying src = some (.slice e)) (he : P.underlying e = some (.int .u8)) (hd : P.underlying dst = some .string) :
    (convert src dst (.slice A n c)).run P w = .ok (.string (strOf l)) w := by
  have hl := h.len
  rw [run_convert_bytes_string w src dst e A n c hs he hd]
  cases A with
  | none =>
    have h0 : n = 0 := by
      rcases Nat.eq_zero_or_pos n with h0 | h0
      · exact h0
      · obtain ⟨ad, e, _⟩ := h.2 h0; cases e
    subst h0
    obtain rfl : l = [] := List.eq_nil_of_length_eq_zero hl
    simp [Conv.bytesToString, strOf]; rfl
  | some a =>
    have hc : ∀ j v, (l.map (Value.int .u8))[j]? = some v → w.cell? (a.add j) = some v := by
      intro j v hj
      rcases Nat.eq_zero_or_pos n with h0 | h0
      · subst h0
        obtain rfl : l = [] := List.eq_nil_of_length_eq_zero hl
        simp at hj
      · obtain ⟨ad, e, _, hc⟩ := h.2 h0
        injection e with e
        subst e
        exact hc j v hj
    have hld := run_loadCells_list (P := P) w a (l.map (Value.int .u8)) hc
    rw [List.length_map, hl] at hld
    rw [run_bytesToString w a n c l hld, foldl_push_bytes]
    have he0 : ByteArray.empty.data = #[] := rfl
    rw [he0]
    simp [strOf]

/-- Block g is just the cells cs of element type t, none frozen. -/
def Blk (w : World) (g : Nat) (t : TypeId) (cs : Array Value) : Prop := w.heap[g]? = some (.cells cs t (0, 0))

section
variable {w w' : World} {g : Nat} {t : TypeId} {cs : Array Value}
theorem Blk.lt (h : Blk w g t cs) : g < w.heap.size := by
  rcases Nat.lt_or_ge g w.heap.size with hlt | hge
  · exact hlt
  · unfold Blk at h; rw [Array.getElem?_eq_none hge] at h; cases h
theorem Blk.cell (h : Blk w g t cs) (i : Nat) : w.cell? ⟨g, i, none⟩ = cs[i]? := cell_of_row w g i cs t (0, 0) h
theorem Blk.frozen (h : Blk w g t cs) (i : Nat) : w.frozen? ⟨g, i, none⟩ = false := by
  unfold Blk at h
  simp [World.frozen?, h]
theorem Blk.new (w : World) (t : TypeId) (cs : Array Value) : Blk (w.alloc (.cells cs t)) w.heap.size t cs := heap_alloc_new w _
theorem Blk.new' {w : World} {g : Nat} (t : TypeId) (cs : Array Value) (h : w.heap.size = g) : Blk (w.alloc (.cells cs t)) g t cs := by subst h; exact Blk.new w t cs
theorem Blk.drew (h : Blk w g t cs) : Blk w.drew g t cs := h
theorem Blk.drewN (h : Blk w g t cs) (n : Nat) : Blk (w.drewN n) g t cs := h
theorem Blk.alloc (h : Blk w g t cs) (o : Obj) : Blk (w.alloc o) g t cs := (Below.heap_alloc w o g h.lt).trans h
theorem Blk.set_ (h : Blk w g t cs) (i : Nat) (u : Value) : Blk (w.setCell ⟨g, i, none⟩ u) g t (cs.setIfInBounds i u) := by
  unfold Blk at h ⊢
  simp [World.setCell, Array.getElem?_modify, h]
theorem Blk.far (h : Blk w g t cs) {p : Addr} (hp : g ≠ p.block) (u : Value) : Blk (w.setCell p u) g t cs := (Below.heap_setCell w p u g hp).trans h
theorem Blk.below {B : Nat} (h : Blk w g t cs) (hb : Below B w w') (hg : g < B) : Blk w' g t cs := (hb.block g hg).trans h
theorem Blk.ext (h : Blk w g t cs) (hb : Ext w w') : Blk w' g t cs := h.below hb h.lt
/-- A slice over the head of a block. -/
theorem Blk.reads {n size : Nat} (h : Blk w g t cs) (hn : cs.size = n * size) : Reads w w.heap.size size (some ⟨g, 0, none⟩) n cs.toList :=
  ⟨by simpa using hn, fun _ => ⟨_, rfl, h.lt, fun j u hu => by
    have e : Addr.add ⟨g, 0, none⟩ j = ⟨g, j, none⟩ := by unfold Addr.add; by_cases hj : j = 0 <;> simp [hj]
    rw [e, h.cell]; simpa using hu⟩⟩
end

theorem Blk.cell_some {w : World} {g i : Nat} {t : TypeId} {l : List Value} (h : Blk w g t l.toArray) (hi : i < l.length) : ∃ u, w.cell? ⟨g, i, none⟩ = some u :=
  ⟨l[i], by rw [h.cell]; simp [hi]⟩
theorem Blk.setL {w : World} {g i : Nat} {t : TypeId} {l : List Value} (h : Blk w g t l.toArray) (u : Value) : Blk (w.setCell ⟨g, i, none⟩ u) g t (l.set i u).toArray := by
  have := h.set_ i u; simpa using this
theorem madeCells_one (z : Value) (n : Nat) : madeCells #[z] n = (List.replicate n z).toArray := by
  unfold madeCells
  apply Array.ext
  · simp
  · intro i h1 h2
    simp [Nat.mod_one]

/-- The worlds that extend w, as a type: so that a fact of all of them is a plain rewrite rule. -/
structure ExtOf (w : World) where
  val : World
  ext : Ext w val

instance (w : World) : Nonempty (ExtOf w) := ⟨⟨w, Ext.refl w⟩⟩

/-- A region whose order is open and whose operations read old memory and call functions that only add memory and return one value: walked once, in the order of the text. -/
theorem wp_region_ext_lit {P : Program} {id : Nat} {Q : Exit → Act → World → Prop} {a : Act} {w : World} {l : List Oper} (hm : P.follows .mixedOrders = true) (hB : Region.lexB .any l.toArray = true)
    (h : wpQuiet P l.toArray (fun w' => ∃ x : ExtOf w, w' = x.val) (fun a' => ∀ w', (∃ x : ExtOf w, w' = x.val) → Q .normal a' w') l a) : (Code.region id l.toArray true).wp P Q a w :=
  wp_region_quiet (C := fun w' => ∃ x : ExtOf w, w' = x.val) hm hB ⟨⟨w.drew, (Ext.refl w).drew⟩, rfl⟩ (by simpa using h)

theorem Calls.ext_of {P : Program} {f : FuncId} {args : Array Value} {w : World} {x : ExtOf w} {v : Value}
    (h : Calls P f args x.val fun e w' => e = .returned v ∧ Ext x.val w') : Calls P f args x.val fun e w'' => e = .returned v ∧ ∃ y : ExtOf w, w'' = y.val :=
  h.mono fun _ w' ⟨he, hm⟩ => ⟨he, ⟨w', x.ext.trans hm⟩, rfl⟩
theorem Calls.ext_of_same {P : Program} {f : FuncId} {args : Array Value} {w : World} {x : ExtOf w} {v : Value}
    (h : Calls P f args x.val fun e w' => e = .returned v ∧ x.val = w') : Calls P f args x.val fun e w'' => e = .returned v ∧ ∃ y : ExtOf w, w'' = y.val :=
  h.mono fun _ _ ⟨he, hm⟩ => ⟨he, x, hm.symm⟩
theorem ret_int {k : IntKind} {a b : Int} (h : a = b) : Ending.returned (.int k a) = .returned (.int k b) := by rw [h]
theorem ret_bool {a b : Bool} (h : a = b) : Ending.returned (.bool a) = .returned (.bool b) := by rw [h]
end Go.Proofs.Ytmlcmnbjioabiaa
