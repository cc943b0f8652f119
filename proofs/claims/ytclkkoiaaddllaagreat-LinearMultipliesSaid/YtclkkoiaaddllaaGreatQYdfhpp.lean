/- Rows of numbers in blocks; worlds that differ in a set of blocks. -/
import Derived.Test.YtclkkoiaaddllaaGreatQGepicn
namespace Go.Proofs.YtclkkoiaaddllaaGreat
open Go.RowKit
set_option linter.unusedVariables false

/-- Only new blocks and the blocks in S differ. -/
structure Mod (S : Nat → Prop) (w w' : World) : Prop where
  os : w'.os = w.os
  tape : w'.tape = w.tape
  output : w'.output = w.output
  size : w.heap.size ≤ w'.heap.size
  block : ∀ k, k < w.heap.size → ¬ S k → w'.heap[k]? = w.heap[k]?
section
variable {S T : Nat → Prop} {w w' w'' : World}
theorem Mod.refl (S : Nat → Prop) (w : World) : Mod S w w := ⟨rfl, rfl, rfl, Nat.le_refl _, fun _ _ _ => rfl⟩
theorem Mod.trans (h : Mod S w w') (k : Mod S w' w'') : Mod S w w'' :=
  ⟨k.os.trans h.os, k.tape.trans h.tape, k.output.trans h.output, Nat.le_trans h.size k.size, fun i hi hs => (k.block i (Nat.lt_of_lt_of_le hi h.size) hs).trans (h.block i hi hs)⟩
theorem Mod.of (h : Ext w w') : Mod S w w' := ⟨h.os, h.tape, h.output, h.size, fun k hk _ => h.block k hk⟩
theorem Mod.mono (h : Mod S w w') (hs : ∀ k, S k → T k) : Mod T w w' := ⟨h.os, h.tape, h.output, h.size, fun k hk hn => h.block k hk (fun e => hn (hs k e))⟩
theorem Mod.ext (h : Mod S w w') (hs : ∀ k, k < w.heap.size → ¬ S k) : Ext w w' := ⟨h.os, h.tape, h.output, h.size, fun k hk => h.block k hk (hs k hk)⟩
theorem Mod.only {g : Nat} (h : Only g w w') (hg : S g) : Mod S w w' :=
  ⟨h.os, h.tape, h.output, h.size, fun k hk hn => h.block k hk (fun e => hn (by first | (injection e with e; exact e ▸ hg) | exact e ▸ hg))⟩
theorem Blk.mod {g : Nat} {t : TypeId} {cs : Array Value} (h : Blk w g t cs) (m : Mod S w w') (hg : ¬ S g) : Blk w' g t cs := (m.block g h.lt hg).trans h
/-- The blocks that may change hold no digits. -/
def Far (S : Nat → Prop) (w : World) : Prop := ∀ g, S g → g < w.heap.size → ∃ t cs, Blk w g t cs ∧ noIntB cs = true
theorem RM.mod {A : Option Addr} {n c : Nat} {l : List Nat} (h : RM w A n c l) (m : Mod S w w') (hS : Far S w) : RM w' A n c l := by
  refine ⟨⟨h.rd.1, fun hn => ?_⟩, h.dg, h.nc, h.cm⟩
  obtain ⟨b, o, rfl, hlt, hc⟩ := h.rd.plain hn
  obtain ⟨ad, x, e, _, hx, _, _⟩ := h.at_ hn
  have hne : ¬ S b := by
    intro hs
    obtain ⟨t, cs, hb, hcs⟩ := hS b hs hlt
    have := hc 0 _ (mg_get hx)
    rw [hb.cell] at this
    exact noIntB_spec hcs _ _ _ this
  refine ⟨_, rfl, Nat.lt_of_lt_of_le hlt m.size, fun j u hu => ?_⟩
  rw [add_plain]
  have h1 := hc j u hu
  unfold World.cell? at h1 ⊢
  have e2 := m.block b hlt hne
  simp only [e2]
  exact h1
theorem RI.mod {v : Value} {z : Int} (h : RI w v z) (m : Mod S w w') (hS : Far S w) : RI w' v z := by
  obtain ⟨A, n, c, e, h⟩ := h
  exact ⟨A, n, c, e, h.mod m hS⟩
theorem GV.mod {v : Value} {q : GQ} {n : Nat} (h : GV w v q n) (m : Mod S w w') (hS : Far S w) : GV w' v q n := by
  obtain ⟨a, b, d, ⟨s1, A1, n1, c1, s2, A2, n2, c2, s3, A3, n3, c3, e, h1, h2, h3⟩, I, Z⟩ := h
  exact ⟨a, b, d, ⟨s1, A1, n1, c1, s2, A2, n2, c2, s3, A3, n3, c3, e, h1.mod m hS, h2.mod m hS, h3.mod m hS⟩, I, Z⟩
end
theorem GV.to {w : World} {v : Value} {q : GQ} {m n : Nat} (h : GV w v q m) (hb : Bd q n) : GV w v q n := by
  obtain ⟨a, b, d, h1, I, Z⟩ := h
  exact ⟨a, b, d, h1, I, hb.sz I⟩
theorem GV.up {w : World} {v : Value} {q : GQ} {m n : Nat} (h : GV w v q m) (hn : m ≤ n) : GV w v q n := by
  obtain ⟨a, b, d, h1, I, Z⟩ := h
  exact ⟨a, b, d, h1, I, Z.mono hn⟩
/-- What a number is in memory. -/
structure En where
  s1 : Bool
  A1 : Option Addr
  n1 : Nat
  c1 : Nat
  s2 : Bool
  A2 : Option Addr
  n2 : Nat
  c2 : Nat
  s3 : Bool
  A3 : Option Addr
  n3 : Nat
  c3 : Nat
def En.v (e : En) : Value := gv e.s1 e.A1 e.n1 e.c1 e.s2 e.A2 e.n2 e.c2 e.s3 e.A3 e.n3 e.c3
def En.cells (e : En) : List Value := [.bool e.s1, .slice e.A1 e.n1 e.c1, .bool e.s2, .slice e.A2 e.n2 e.c2, .bool e.s3, .slice e.A3 e.n3 e.c3]
/-- The cells of a row. -/
def rowc (n : Nat) (f : Nat → En) : List Value := (List.range n).flatMap fun j => (f j).cells
theorem rowc_succ (n : Nat) (f : Nat → En) : rowc (n + 1) f = rowc n f ++ (f n).cells := by
  unfold rowc
  rw [List.range_succ, List.flatMap_append]
  simp
theorem rowc_len : ∀ (n : Nat) (f : Nat → En), (rowc n f).length = n * 6
  | 0, _ => rfl
  | n + 1, f => by
    rw [rowc_succ, List.length_append, rowc_len n f]
    simp [En.cells]; omega
theorem rowc_at {f : Nat → En} {j t : Nat} (ht : t < 6) : ∀ {n : Nat}, j < n → (rowc n f)[j * 6 + t]? = (f j).cells[t]?
  | 0, h => by omega
  | n + 1, h => by
    rw [rowc_succ]
    by_cases e : j = n
    · subst e
      rw [List.getElem?_append_right (by rw [rowc_len]; omega), rowc_len]
      congr 1; omega
    · rw [List.getElem?_append_left (by rw [rowc_len]; omega)]
      exact rowc_at ht (by omega)
/-- One entry set. -/
def upd {α : Type} (f : Nat → α) (j : Nat) (e : α) : Nat → α := fun i => if i = j then e else f i
theorem upd_same {α : Type} (f : Nat → α) (j : Nat) (e : α) : upd f j e j = e := by unfold upd; rw [if_pos rfl]
theorem upd_ne {α : Type} {f : Nat → α} {i j : Nat} {e : α} (h : i ≠ j) : upd f j e i = f i := by unfold upd; rw [if_neg h]
theorem setsA_list : ∀ (vs : List Value) (l : List Value) (k : Nat), setsA l.toArray k vs = ((l.take k) ++ (vs.take (l.length - k)) ++ l.drop (k + vs.length)).toArray
  | [], l, k => by simp [setsA]
  | v :: vs, l, k => by
    show setsA (l.toArray.setIfInBounds k v) (k + 1) vs = _
    rw [List.setIfInBounds_toArray, setsA_list vs]
    congr 1
    by_cases h : k < l.length
    · rw [List.length_set, List.take_set, List.drop_set_of_lt (by omega)]
      have e1 : ((l.take (k + 1)).set k v) = l.take k ++ [v] := by
        rw [List.take_succ_eq_append_getElem h, List.set_append_right _ _ (by simp; omega)]
        simp [Nat.min_eq_left (Nat.le_of_lt h)]
      rw [e1]
      have e2 : (v :: vs).take (l.length - k) = v :: vs.take (l.length - (k + 1)) := by
        rw [show l.length - k = (l.length - (k + 1)) + 1 by omega, List.take_succ_cons]
      rw [e2]
      simp only [List.length_cons, List.append_assoc, List.cons_append, List.nil_append]
      rw [show k + 1 + vs.length = k + (vs.length + 1) by omega]
    · rw [List.set_eq_of_length_le (by omega)]
      rw [List.take_of_length_le (i := k + 1) (by omega), List.take_of_length_le (i := k) (by omega), show l.length - k = 0 by omega, show l.length - (k + 1) = 0 by omega]
      simp only [List.take_zero, List.append_nil]
      rw [List.drop_eq_nil_of_le (by omega), List.drop_eq_nil_of_le (by simp only [List.length_cons]; omega)]
theorem rowc_set {f : Nat → En} {j n : Nat} (e : En) (hj : j < n) : setsA (rowc n f).toArray (j * 6) e.cells = (rowc n (upd f j e)).toArray := by
  rw [setsA_list]
  congr 1
  apply List.ext_getElem?
  intro t
  have hlen : e.cells.length = 6 := rfl
  rw [rowc_len, hlen, List.take_of_length_le (l := e.cells) (by rw [hlen]; omega)]
  have hl1 : ((rowc n f).take (j * 6)).length = j * 6 := by rw [List.length_take, rowc_len]; omega
  by_cases h1 : t < j * 6
  · rw [List.append_assoc, List.getElem?_append_left (by rw [hl1]; exact h1), List.getElem?_take_of_lt h1]
    have h2 : t = (t / 6) * 6 + t % 6 := by omega
    rw [h2, rowc_at (Nat.mod_lt _ (by omega)) (by omega), rowc_at (Nat.mod_lt _ (by omega)) (by omega), upd_ne (by omega)]
  · by_cases h2 : t < j * 6 + 6
    · rw [List.append_assoc, List.getElem?_append_right (by rw [hl1]; omega), hl1, List.getElem?_append_left (by rw [hlen]; omega)]
      have h3 : t = j * 6 + (t - j * 6) := by omega
      conv => rhs; rw [h3]
      rw [rowc_at (by omega) hj, upd_same]
    · rw [List.getElem?_append_right (by rw [List.length_append, hl1, hlen]; omega), List.length_append, hl1, hlen, List.getElem?_drop]
      rw [show j * 6 + 6 + (t - (j * 6 + 6)) = t by omega]
      by_cases h3 : t < n * 6
      · have h4 : t = (t / 6) * 6 + t % 6 := by omega
        rw [h4, rowc_at (Nat.mod_lt _ (by omega)) (by omega), rowc_at (Nat.mod_lt _ (by omega)) (by omega), upd_ne (by omega)]
      · rw [List.getElem?_eq_none (by rw [rowc_len]; omega), List.getElem?_eq_none (by rw [rowc_len]; omega)]
theorem rowc_noint (n : Nat) (f : Nat → En) : noIntB (rowc n f).toArray = true := by
  unfold noIntB
  simp only [List.all_eq_true]
  intro v hv
  unfold rowc at hv
  obtain ⟨j, _, hv⟩ := List.mem_flatMap.1 hv
  unfold En.cells at hv
  simp only [List.mem_cons, List.not_mem_nil, or_false] at hv
  rcases hv with rfl | rfl | rfl | rfl | rfl | rfl <;> rfl
/-- A block holds n numbers. -/
def RowIs (w : World) (g n : Nat) (x : Nat → GQ) : Prop := ∃ f : Nat → En, Blk w g 32 (rowc n f).toArray ∧ ∀ j, j < n → GV w (f j).v (x j) 12800
theorem RowIs.ext {w w' : World} {g n : Nat} {x : Nat → GQ} (h : RowIs w g n x) (e : Ext w w') : RowIs w' g n x := by
  obtain ⟨f, h1, h2⟩ := h
  exact ⟨f, h1.ext e, fun j hj => (h2 j hj).ext e⟩
theorem RowIs.mod {S : Nat → Prop} {w w' : World} {g n : Nat} {x : Nat → GQ} (h : RowIs w g n x) (m : Mod S w w') (hS : Far S w) (hg : ¬ S g) : RowIs w' g n x := by
  obtain ⟨f, h1, h2⟩ := h
  exact ⟨f, h1.mod m hg, fun j hj => (h2 j hj).mod m hS⟩
theorem RowIs.congr {w : World} {g n : Nat} {x y : Nat → GQ} (h : RowIs w g n x) (e : ∀ j, j < n → x j = y j) : RowIs w g n y := by
  obtain ⟨f, h1, h2⟩ := h
  exact ⟨f, h1, fun j hj => e j hj ▸ h2 j hj⟩
/-- One number of a row stored. -/
theorem RowIs.put {w : World} {g n j : Nat} {f : Nat → En} {x : Nat → GQ} {e : En} {q : GQ} (hb : Blk w g 32 (rowc n f).toArray) (hx : ∀ j, j < n → GV w (f j).v (x j) 12800) (hj : j < n) (he : GV w e.v q 12800) :
    RowIs (puts w g (j * 6) e.cells) g n (upd x j q) ∧ Mod (fun k => k = g) w (puts w g (j * 6) e.cells) := by
  have hm : Mod (fun k => k = g) w (puts w g (j * 6) e.cells) := Mod.only (puts_only _ _ _ _) rfl
  have hS : Far (fun k => k = g) w := fun k hk _ => by subst hk; exact ⟨_, _, hb, rowc_noint _ _⟩
  refine ⟨⟨upd f j e, ?_, fun i hi => ?_⟩, hm⟩
  · rw [← rowc_set e hj]
    exact puts_blk _ _ hb
  · by_cases h : i = j
    · subst h; rw [upd_same, upd_same]; exact he.mod hm hS
    · rw [upd_ne h, upd_ne h]; exact (hx i hi).mod hm hS
end Go.Proofs.YtclkkoiaaddllaaGreat
