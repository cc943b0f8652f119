/- Words and contracts that the laws share, several texts in one. -/
import Derived.WalkKit
import Derived.WalkSpells
import Derived.WalkLawsBesides
import Derived.Lib.Hide
import Derived.Deep.QuietTactic
import Derived.BigQuiet
import Derived.Deep.AppendLies
import Derived.Deep.Draws
import Derived.Laws.OwnMore
import Derived.Laws.Rows
import Derived.KernelRfl
import Derived.Laws.BytesArg
import Derived.StillTailTactics
import Derived.OrdersHeld
/- Words for memory that all texts of this seat share: a slice that reads as a list, a block that is known whole, worlds that extend a world, and the rule for a region whose order is open. -/
namespace Go.Proofs.YtclkkoiaaddllaaGreat
open Go.RowKit

theorem block_of_add (a : Addr) (n : Nat) : (a.add n).block = a.block := by unfold Addr.add; split <;> rfl
/-- Nothing that existed has changed. -/
abbrev Ext (w w' : World) : Prop := Below w.heap.size w w'
theorem Ext.refl (w : World) : Ext w w := Below.refl _ _
theorem Ext.trans {a b c : World} (h : Ext a b) (k : Ext b c) : Ext a c := Below.trans h (k.mono h.size)
theorem Ext.alloc {a w : World} (h : Ext a w) (o : Obj) : Ext a (w.alloc o) := Below.alloc h h.size o
theorem Ext.drew {a w : World} (h : Ext a w) : Ext a w.drew := Below.drew h
theorem Ext.drewN {a w : World} (h : Ext a w) (n : Nat) : Ext a (w.drewN n) := ⟨h.os, h.tape, h.output, h.size, h.block⟩
theorem Ext.setCell {a w : World} (h : Ext a w) {p : Addr} (hp : a.heap.size ≤ p.block) (u : Value) : Ext a (w.setCell p u) := Below.setCell h hp u
theorem Ext.new (w : World) (o : Obj) : Ext w (w.alloc o) := (Ext.refl w).alloc o

theorem Ext.lt {w w' : World} {o : Obj} (h : Ext (w.alloc o) w') : w.heap.size < w'.heap.size := by have := h.size; simp at this; omega
/-- The slice value '.slice A n _' holds the cells xs (size cells an element) and lies below block B. -/
def Reads (w : World) (B size : Nat) (A : Option Addr) (n : Nat) (xs : List Value) : Prop :=
  xs.length = n * size ∧ (0 < n → ∃ ad, A = some ad ∧ ad.block < B ∧ ∀ j u, xs[j]? = some u → w.cell? (ad.add j) = some u)

section
variable {w w' : World} {B B' size n : Nat} {A : Option Addr} {xs : List Value}
theorem Reads.none_ : Reads w B size A 0 [] := ⟨by simp, fun h => absurd h (by omega)⟩
theorem Reads.at_ {k : Nat} (h : Reads w B 1 A n xs) (hk : k < n) : ∃ ad u, A = some ad ∧ ad.block < B ∧ xs[k]? = some u ∧ w.cell? (ad.add k) = some u := by
  obtain ⟨ad, e, hb, hc⟩ := h.2 (by omega)
  have hl : k < xs.length := by have := h.1; omega
  exact ⟨ad, xs[k], e, hb, List.getElem?_eq_getElem hl, hc k _ (List.getElem?_eq_getElem hl)⟩
theorem Reads.keep (h : Reads w B size A n xs) (hk : ∀ p : Addr, p.block < B → w'.cell? p = w.cell? p) : Reads w' B size A n xs :=
  ⟨h.1, fun hn => by
    obtain ⟨ad, e, hb, hc⟩ := h.2 hn
    exact ⟨ad, e, hb, fun j u hu => (hk _ (by rw [block_of_add]; exact hb)).trans (hc j u hu)⟩⟩
theorem Reads.more (h : Reads w B size A n xs) (hB : B ≤ B') : Reads w B' size A n xs :=
  ⟨h.1, fun hn => by
    obtain ⟨ad, e, hb, hc⟩ := h.2 hn
    exact ⟨ad, e, by omega, hc⟩⟩
theorem Reads.below (h : Reads w B size A n xs) (hb : Below B w w') : Reads w' B size A n xs := h.keep fun _ hp => hb.cell hp
/-- A slice that reads in w reads in every world that extends w. -/
theorem Reads.ext (h : Reads w w.heap.size size A n xs) (hb : Ext w w') : Reads w' w'.heap.size size A n xs := (h.below hb).more hb.size
theorem Reads.len {f : Int → Value} {l : List Int} (h : Reads w B 1 A n (l.map f)) : l.length = n := by simpa using h.1
end

/-- Block g is just the cells cs of element type t, none frozen. -/
def Blk (w : World) (g : Nat) (t : TypeId) (cs : Array Value) : Prop := w.heap[g]? = some (.cells cs t (0, 0))

section
variable {w w' : World} {g : Nat} {t : TypeId} {cs : Array Value}
theorem Blk.lt (h : Blk w g t cs) : g < w.heap.size := by
  rcases Nat.lt_or_ge g w.heap.size with hlt | hge
  · exact hlt
  · unfold Blk at h; rw [Array.getElem?_eq_none hge] at h; cases h
theorem Blk.cell (h : Blk w g t cs) (i : Nat) : w.cell? ⟨g, i, none⟩ = cs[i]? := cell_of_row w g i cs t (0, 0) h
theorem Blk.frozen (h : Blk w g t cs) (i : Nat) : w.frozen? ⟨g, i, none⟩ = false := by
  unfold Blk at h
  simp [World.frozen?, h]
theorem Blk.new (w : World) (t : TypeId) (cs : Array Value) : Blk (w.alloc (.cells cs t)) w.heap.size t cs := heap_alloc_new w _
theorem Blk.new' {w : World} {g : Nat} (t : TypeId) (cs : Array Value) (h : w.heap.size = g) : Blk (w.alloc (.cells cs t)) g t cs := by subst h; exact Blk.new w t cs
theorem Blk.drew (h : Blk w g t cs) : Blk w.drew g t cs := h
theorem Blk.drewN (h : Blk w g t cs) (n : Nat) : Blk (w.drewN n) g t cs := h
theorem Blk.alloc (h : Blk w g t cs) (o : Obj) : Blk (w.alloc o) g t cs := (Below.heap_alloc w o g h.lt).trans h
theorem Blk.set_ (h : Blk w g t cs) (i : Nat) (u : Value) : Blk (w.setCell ⟨g, i, none⟩ u) g t (cs.setIfInBounds i u) := by
  unfold Blk at h ⊢
  simp [World.setCell, Array.getElem?_modify, h]
theorem Blk.far (h : Blk w g t cs) {p : Addr} (hp : g ≠ p.block) (u : Value) : Blk (w.setCell p u) g t cs := (Below.heap_setCell w p u g hp).trans h
theorem Blk.below {B : Nat} (h : Blk w g t cs) (hb : Below B w w') (hg : g < B) : Blk w' g t cs := (hb.block g hg).trans h
theorem Blk.ext (h : Blk w g t cs) (hb : Ext w w') : Blk w' g t cs := h.below hb h.lt
/-- A slice over the head of a block. -/
theorem Blk.reads {n size : Nat} (h : Blk w g t cs) (hn : cs.size = n * size) : Reads w w.heap.size size (some ⟨g, 0, none⟩) n cs.toList :=
  ⟨by simpa using hn, fun _ => ⟨_, rfl, h.lt, fun j u hu => by
    have e : Addr.add ⟨g, 0, none⟩ j = ⟨g, j, none⟩ := by unfold Addr.add; by_cases hj : j = 0 <;> simp [hj]
    rw [e, h.cell]; simpa using hu⟩⟩
end

theorem Blk.cell_some {w : World} {g i : Nat} {t : TypeId} {l : List Value} (h : Blk w g t l.toArray) (hi : i < l.length) : ∃ u, w.cell? ⟨g, i, none⟩ = some u :=
  ⟨l[i], by rw [h.cell]; simp [hi]⟩
theorem Blk.setL {w : World} {g i : Nat} {t : TypeId} {l : List Value} (h : Blk w g t l.toArray) (u : Value) : Blk (w.setCell ⟨g, i, none⟩ u) g t (l.set i u).toArray := by
  have := h.set_ i u; simpa using this
theorem madeCells_one (z : Value) (n : Nat) : madeCells #[z] n = (List.replicate n z).toArray := by
  unfold madeCells
  apply Array.ext
  · simp
  · intro i h1 h2
    simp [Nat.mod_one]

/-- The worlds that extend w, as a type: so that a fact of all of them is a plain rewrite rule. -/
structure ExtOf (w : World) where
  val : World
  ext : Ext w val

instance (w : World) : Nonempty (ExtOf w) := ⟨⟨w, Ext.refl w⟩⟩

theorem Calls.ext_of {P : Program} {f : FuncId} {args : Array Value} {w : World} {x : ExtOf w} {v : Value}
    (h : Calls P f args x.val fun e w' => e = .returned v ∧ Ext x.val w') : Calls P f args x.val fun e w'' => e = .returned v ∧ ∃ y : ExtOf w, w'' = y.val :=
  h.mono fun _ w' ⟨he, hm⟩ => ⟨he, ⟨w', x.ext.trans hm⟩, rfl⟩
theorem ret_int {k : IntKind} {a b : Int} (h : a = b) : Ending.returned (.int k a) = .returned (.int k b) := by rw [h]
theorem ret_bool {a b : Bool} (h : a = b) : Ending.returned (.bool a) = .returned (.bool b) := by rw [h]
end Go.Proofs.YtclkkoiaaddllaaGreat

/- A region whose order is open, walked once in the order of its text: operations that only read, and operations that add memory (new variables, slices, calls), each with a fact that later additions keep; then the stores, which wait for all of them. -/
namespace Go.Proofs.YtclkkoiaaddllaaGreat
open Go.RowKit

/-- Operations that never enter a function. -/
def plainOp : Op → Bool
  | .move _ | .assign _ | .pick _ _ _ | .load _ _ | .build _ _ | .binOp _ _ _ _ _ | .unOp _ _ _ | .convert _ _ _ | .fieldAddr _ _ _ | .field _ _ _ | .indexAddr _ _ _ | .index _ _ _ | .extract _ _ | .slice _ _ _ _ _ => true
  | .call c => match c.callee with
    | .builtin .len | .builtin .min | .builtin .max => true
    | _ => false
  | _ => false

theorem andThen_value_ne {s : Result Value} {f : FuncId} {args : Array Value} {w' : World} (h : s.andThen (fun x w => Result.ok (Next.value x) w) = .ok (.enter f args) w') : False := by
  cases s <;> simp [Result.andThen] at h

theorem plain_no_enter {P : Program} {ev : Operand → Value} {o : Oper} {w w' : World} {f : FuncId} {args : Array Value} (hp : plainOp o.op = true) (h : (execOp ev o).run P w = .ok (.enter f args) w') : False := by
  obtain ⟨dst, op, ty, pos, af, gd⟩ := o
  cases op <;> simp only [plainOp, Bool.false_eq_true] at hp <;> simp only [execOp, Sem.run_bind, Sem.run_pure] at h
  case call c =>
    obtain ⟨cal, as, ats⟩ := c
    cases cal <;> simp only [Bool.false_eq_true] at hp
    case builtin b =>
      cases b <;> simp only [Bool.false_eq_true] at hp <;> simp only [resolve, Sem.run_bind, Sem.run_pure, Result.andThen_ok, invoke, builtin] at h <;> exact andThen_value_ne h
  case pick c x y => cases hb : (asBool (ev c)).run P w <;> simp [hb, Result.andThen] at h
  all_goals first
    | exact andThen_value_ne h
    | (simp at h; done)

/-- What has come up: the value, and the heap's size before and behind. -/
def Book : Type := Nat → Option (Value × Nat × Nat)
def Book.none : Book := fun _ => Option.none
def Book.set (F : Book) (i : Nat) (e : Value × Nat × Nat) : Book := fun x => if x = i then some e else F x
theorem Book.set_comm (F : Book) {i j : Nat} (h : i ≠ j) (e f : Value × Nat × Nat) : (F.set i e).set j f = (F.set j f).set i e := by
  funext x
  unfold Book.set
  by_cases h1 : x = i <;> by_cases h2 : x = j <;> simp [h1, h2]
  · subst h1; exact absurd h2 h
  · intro h3; exact absurd h3 h
  · intro h3; exact absurd h3.symm h
theorem Book.set_self (F : Book) (i : Nat) (e : Value × Nat × Nat) : (F.set i e) i = some e := by simp [Book.set]
theorem Book.set_ne (F : Book) {i j : Nat} (e : Value × Nat × Nat) (h : j ≠ i) : (F.set i e) j = F j := by simp [Book.set, h]

/-- Is p an ancestor of k by the region's edges? -/
def anc (ops : Array Oper) : Nat → Nat → Nat → Bool
  | 0, _, _ => false
  | f + 1, k, p => match ops[k]? with
    | Option.none => false
    | some o => o.after.any fun e => Region.binds .any e && (e.on == p || anc ops f e.on p)

section
variable {P : Program} {ops : Array Oper} {w0 : World} {E : Nat → Bool} {Φ : Nat → Nat → Nat → Value → World → Prop}

/-- All that is known of the world behind the operations that have come up. -/
structure Known (w0 : World) (Φ : Nat → Nat → Nat → Value → World → Prop) (F : Book) (w : World) : Prop where
  ext : Ext w0 w
  fact : ∀ i e, F i = some e → Φ i e.2.1 e.2.2 e.1 w
  size : ∀ i e, F i = some e → e.2.2 ≤ w.heap.size
  low : ∀ i e, F i = some e → w0.heap.size ≤ e.2.1
  disj : ∀ i j e f, i ≠ j → F i = some e → F j = some f → e.2.2 ≤ f.2.1 ∨ f.2.2 ≤ e.2.1

/-- What operation k may lean on: the facts of the operations that it waits for. -/
def Kn (ops : Array Oper) (w0 : World) (Φ : Nat → Nat → Nat → Value → World → Prop) (k : Nat) (F : Book) (w : World) : Prop :=
  Ext w0 w ∧ ∀ i e, F i = some e → anc ops ops.size k i = true → Φ i e.2.1 e.2.2 e.1 w

def effUpon (P : Program) (Ψ : Nat → Nat → Value → World → Prop) (w : World) : Result Next → Prop
  | .ok (.value v) w' => Ext w w' ∧ Ψ w.heap.size w'.heap.size v w'
  | .ok (.enter f args) w1 => w1 = w ∧ Calls P f args w (fun e w' => ∃ v, e = .returned v ∧ Ext w w' ∧ Ψ w.heap.size w'.heap.size v w')
  | _ => False

/-- One operation comes up. -/
def tOp (P : Program) (ops : Array Oper) (w0 : World) (E : Nat → Bool) (Φ : Nat → Nat → Nat → Value → World → Prop) (k : Nat) (K : Book → Act → Prop) (F : Book) (a : Act) : Prop :=
  match ops[k]? with
  | Option.none => K F a
  | some o =>
    if Region.wanted o (yielded ops a.tmps) then
      if E k then
        (∀ w, Kn ops w0 Φ k F w → effUpon P (Φ k) w ((execOp a.eval o).run P w)) ∧
        (∀ v lo hi, (∃ w, Known w0 Φ (F.set k (v, lo, hi)) w) → K (F.set k (v, lo, hi)) (a.put o.dst v))
      else plainOp o.op = true ∧ ∃ v, (∀ w, Ext w0 w → o.quietAt P a (fun w' => w' = w) w v) ∧ K F (a.put o.dst v)
    else K F (a.put o.dst undef)

/-- The walk in the order of the text. -/
def wpT (P : Program) (ops : Array Oper) (w0 : World) (E : Nat → Bool) (Φ : Nat → Nat → Nat → Value → World → Prop) (Q : Book → Act → Prop) : List Oper → Nat → Book → Act → Prop
  | [], _, F, a => Q F a
  | _ :: rest, k, F, a => tOp P ops w0 E Φ k (wpT P ops w0 E Φ Q rest (k + 1)) F a

theorem tOp_mono {k : Nat} {K K' : Book → Act → Prop} {F : Book} {a : Act} (h : ∀ F a, K F a → K' F a) (hh : tOp P ops w0 E Φ k K F a) : tOp P ops w0 E Φ k K' F a := by
  unfold tOp at *
  split
  · rename_i ho; simp only [ho] at hh; exact h _ _ hh
  · rename_i o ho
    simp only [ho] at hh
    split
    · rename_i hw
      simp only [hw, if_true] at hh
      split
      · rename_i hE
        simp only [hE, if_true] at hh
        exact ⟨hh.1, fun v lo hi hx => h _ _ (hh.2 v lo hi hx)⟩
      · rename_i hE
        simp only [hE] at hh
        obtain ⟨hp, v, h1, h2⟩ := hh
        exact ⟨hp, v, h1, h _ _ h2⟩
    · rename_i hw
      simp only [hw] at hh
      exact h _ _ hh

/-- Whatever order is picked from here on: heads, then L. -/
def wpAnyT (P : Program) (ops : Array Oper) (w0 : World) (E : Nat → Bool) (Φ : Nat → Nat → Nat → Value → World → Prop) (n : Nat) (L : Array Bool → Book → Act → Prop) : Nat → Array Bool → Book → Act → Prop
  | 0, listed, F, a => L listed F a
  | f + 1, listed, F, a => Region.ready .any ops listed ≠ [] ∧ ∀ i ∈ Region.ready .any ops listed, i < n ∧ tOp P ops w0 E Φ i (wpAnyT P ops w0 E Φ n L f (listed.setIfInBounds i true)) F a

theorem Known.put {F : Book} {w w' : World} {k : Nat} {v : Value} (hstab : ∀ i lo hi v w w', Φ i lo hi v w → Ext w w' → Φ i lo hi v w') (hF : F k = Option.none) (h : Known w0 Φ F w) (hx : Ext w w') (hv : Φ k w.heap.size w'.heap.size v w') :
    Known w0 Φ (F.set k (v, w.heap.size, w'.heap.size)) w' := by
  refine ⟨h.ext.trans hx, fun i e he => ?_, fun i e he => ?_, fun i e he => ?_, fun i j e f hij he hf => ?_⟩
  · by_cases hi : i = k
    · subst hi; rw [Book.set_self] at he; cases he; exact hv
    · rw [Book.set_ne _ _ hi] at he; exact hstab _ _ _ _ _ _ (h.fact i e he) hx
  · by_cases hi : i = k
    · subst hi; rw [Book.set_self] at he; cases he; exact Nat.le_refl _
    · rw [Book.set_ne _ _ hi] at he; exact Nat.le_trans (h.size i e he) hx.size
  · by_cases hi : i = k
    · subst hi; rw [Book.set_self] at he; cases he; exact h.ext.size
    · rw [Book.set_ne _ _ hi] at he; exact h.low i e he
  · by_cases hi : i = k
    · subst hi
      rw [Book.set_self] at he; cases he
      rw [Book.set_ne _ _ (Ne.symm hij)] at hf
      exact .inr (h.size j f hf)
    · rw [Book.set_ne _ _ hi] at he
      by_cases hj : j = k
      · subst hj
        rw [Book.set_self] at hf; cases hf
        exact .inl (h.size i e he)
      · rw [Book.set_ne _ _ hj] at hf
        exact h.disj i j e f hij he hf

theorem wpOp_of_tOp {k : Nat} {F : Book} {a : Act} {w : World} {K : Book → Act → Prop} {K' : Act → World → Prop} {Q' : Exit → Act → World → Prop}
    (hstab : ∀ i lo hi v w w', Φ i lo hi v w → Ext w w' → Φ i lo hi v w') (hF : F k = Option.none) (hw : Known w0 Φ F w)
    (h : ∀ F' a' w', Known w0 Φ F' w' → (∀ j, j ≠ k → F j = Option.none → F' j = Option.none) → K F' a' → K' a' w') (hh : tOp P ops w0 E Φ k K F a) : wpOp P ops Q' k K' a w := by
  unfold tOp at hh
  unfold wpOp
  split
  · rename_i ho; simp only [ho] at hh; exact h F _ _ hw (fun _ _ h => h) hh
  · rename_i o ho
    simp only [ho] at hh
    split
    · rename_i hwt
      simp only [hwt, if_true] at hh
      refine .inl ?_
      by_cases hE : E k = true
      · simp only [hE, if_true] at hh
        obtain ⟨h1, h2⟩ := hh
        have h3 := h1 w ⟨hw.ext, fun i e he _ => hw.fact i e he⟩
        unfold Oper.wp
        generalize (execOp a.eval o).run P w = r at *
        cases r with
        | ok nx w' =>
          cases nx <;> simp only [effUpon] at h3 <;> simp only [Oper.upon]
          case value v =>
            exact h _ _ _ (hw.put hstab hF h3.1 h3.2) (fun j hj hn => by rw [Book.set_ne _ _ hj]; exact hn) (h2 v _ _ ⟨w', hw.put hstab hF h3.1 h3.2⟩)
          case enter f args =>
            obtain ⟨rfl, hc⟩ := h3
            refine hc.mono fun e w'' ⟨v, he, hx, hv⟩ => ?_
            subst he
            exact h _ _ _ (hw.put hstab hF hx hv) (fun j hj hn => by rw [Book.set_ne _ _ hj]; exact hn) (h2 v _ _ ⟨w'', hw.put hstab hF hx hv⟩)
        | halt x w' => simp only [effUpon] at h3
      · simp only [hE] at hh
        obtain ⟨_, v, h1, h2⟩ := hh
        have h3 := h1 w hw.ext
        unfold Oper.quietAt at h3
        unfold Oper.wp
        generalize (execOp a.eval o).run P w = r at *
        cases r with
        | ok nx w' =>
          cases nx <;> simp only [Oper.quietUpon] at h3 <;> simp only [Oper.upon]
          case value u => obtain ⟨rfl, rfl⟩ := h3; exact h F _ _ hw (fun _ _ h => h) h2
          case skip => obtain ⟨rfl, rfl⟩ := h3; exact h F _ _ hw (fun _ _ h => h) h2
          case enter f args =>
            obtain ⟨rfl, hc⟩ := h3
            exact hc.mono fun e w'' ⟨he, hw''⟩ => by subst he; subst hw''; exact h F _ _ hw (fun _ _ h => h) h2
        | halt x w' => simp only [Oper.quietUpon] at h3
    · rename_i hwt
      simp only [hwt] at hh
      exact h F _ _ hw (fun _ _ h => h) hh

theorem wpAny_of_headT {n g : Nat} {L : Array Bool → Book → Act → Prop} {Q' : Exit → Act → World → Prop} (hstab : ∀ i lo hi v w w', Φ i lo hi v w → Ext w w' → Φ i lo hi v w')
    (hL : ∀ listed F a w, Known w0 Φ F w → L listed F a → wpAny P .any ops Q' g listed a w) :
    ∀ (f : Nat) (listed : Array Bool) (F : Book) (a : Act) (w : World), Known w0 Φ F w → (∀ j, listed.getD j true = false → F j = Option.none) → wpAnyT P ops w0 E Φ n L f listed F a → wpAny P .any ops Q' (f + g) listed a w
  | 0, listed, F, a, w, hw, _, h => by rw [Nat.zero_add]; exact hL _ _ _ _ hw h
  | f + 1, listed, F, a, w, hw, hF, h => by
    rw [show f + 1 + g = (f + g) + 1 by omega]
    refine ⟨fun h0 => absurd h0 h.1, fun i hi => ?_⟩
    have hun := (mem_ready.1 hi).1
    refine wpOp_of_tOp hstab (hF i hun) hw (fun F' a' w' hw' hF' h' => wpAny_of_headT hstab hL f _ F' a' w' hw' (fun j hj => ?_) h') (h.2 i hi).2
    by_cases hji : j = i
    · subst hji
      exfalso
      have hlt : j < listed.size := by
        rcases Nat.lt_or_ge j listed.size with h' | h'
        · exact h'
        · simp [Array.getElem?_eq_none h'] at hun
      simp [hlt] at hj
    · rw [getD_set_ne true (Ne.symm hji)] at hj
      exact hF' j hji (hF j hj)

theorem tOp_mono' {k : Nat} {K K' : Book → Act → Prop} {F : Book} {a : Act} (hr : ∃ w, Known w0 Φ F w) (h : ∀ F' a', (F' = F ∨ ∃ e, F' = F.set k e) → (∃ w, Known w0 Φ F' w) → K F' a' → K' F' a') (hh : tOp P ops w0 E Φ k K F a) : tOp P ops w0 E Φ k K' F a := by
  unfold tOp at *
  split
  · rename_i ho; simp only [ho] at hh; exact h _ _ (.inl rfl) hr hh
  · rename_i o ho
    simp only [ho] at hh
    split
    · rename_i hw
      simp only [hw, if_true] at hh
      split
      · rename_i hE
        simp only [hE, if_true] at hh
        exact ⟨hh.1, fun v lo hi hx => h _ _ (.inr ⟨_, rfl⟩) hx (hh.2 v lo hi hx)⟩
      · rename_i hE
        simp only [hE] at hh
        obtain ⟨hp, v, h1, h2⟩ := hh
        exact ⟨hp, v, h1, h _ _ (.inl rfl) hr h2⟩
    · rename_i hw
      simp only [hw] at hh
      exact h _ _ (.inl rfl) hr hh

theorem Known.sub {F G : Book} {w : World} (h : Known w0 Φ G w) (hs : ∀ i e, F i = some e → G i = some e) : Known w0 Φ F w :=
  ⟨h.ext, fun i e he => h.fact i e (hs i e he), fun i e he => h.size i e (hs i e he), fun i e he => h.low i e (hs i e he), fun i j e f hij he hf => h.disj i j e f hij (hs i e he) (hs j f hf)⟩

theorem Book.sub_set {F : Book} {i : Nat} {e : Value × Nat × Nat} (hF : F i = Option.none) : ∀ x f, F x = some f → (F.set i e) x = some f := by
  intro x f hx
  by_cases h : x = i
  · subst h; rw [hF] at hx; cases hx
  · rw [Book.set_ne _ _ h]; exact hx
theorem Book.set_sub {F G : Book} (h : ∀ x f, F x = some f → G x = some f) {i : Nat} {e : Value × Nat × Nat} : ∀ x f, (F.set i e) x = some f → (G.set i e) x = some f := by
  intro x f hx
  by_cases hxi : x = i
  · subst hxi; rw [Book.set_self] at *; exact hx
  · rw [Book.set_ne _ _ hxi] at *; exact h x f hx

theorem Kn.set_iff {F : Book} {w : World} {k i : Nat} {e : Value × Nat × Nat} (hF : F i = Option.none) (hanc : anc ops ops.size k i = false) : Kn ops w0 Φ k (F.set i e) w ↔ Kn ops w0 Φ k F w := by
  constructor
  · exact fun h => ⟨h.1, fun x f hx ha => h.2 x f (Book.sub_set hF x f hx) ha⟩
  · refine fun h => ⟨h.1, fun x f hx ha => ?_⟩
    by_cases hxi : x = i
    · subst hxi; rw [hanc] at ha; cases ha
    · rw [Book.set_ne _ _ hxi] at hx; exact h.2 x f hx ha

theorem real_put {F : Book} {i : Nat} {a : Act} {o : Oper} (hstab : ∀ i lo hi v w w', Φ i lo hi v w → Ext w w' → Φ i lo hi v w') (hF : F i = Option.none) (hr : ∃ w, Known w0 Φ F w)
    (h1 : ∀ w, Kn ops w0 Φ i F w → effUpon P (Φ i) w ((execOp a.eval o).run P w)) : ∃ v lo hi, ∃ w, Known w0 Φ (F.set i (v, lo, hi)) w := by
  obtain ⟨w, hw⟩ := hr
  have h3 := h1 w ⟨hw.ext, fun x e he _ => hw.fact x e he⟩
  generalize (execOp a.eval o).run P w = r at *
  cases r with
  | ok nx w' =>
    cases nx <;> simp only [effUpon] at h3
    case value v => exact ⟨v, _, _, w', hw.put hstab hF h3.1 h3.2⟩
    case enter f args =>
      obtain ⟨_, hc⟩ := h3
      obtain ⟨e, w', fr, ⟨v, _, hx, hv⟩, _⟩ := hc []
      exact ⟨v, _, _, w', hw.put hstab hF hx hv⟩
  | halt x w' => simp only [effUpon] at h3

theorem quiet_unique {o : Oper} {a : Act} {u v : Value} {w : World} (hp : plainOp o.op = true) (h1 : o.quietAt P a (fun w' => w' = w) w u) (h2 : o.quietAt P a (fun w' => w' = w) w v) : u = v := by
  unfold Oper.quietAt at *
  generalize hr : (execOp a.eval o).run P w = r at *
  cases r with
  | ok nx w' =>
    cases nx <;> simp only [Oper.quietUpon] at h1 h2
    case value x => rw [← h1.2, ← h2.2]
    case skip => rw [h1.2, h2.2]
    case enter f args => exact (plain_no_enter hp hr).elim
  | halt x w' => simp only [Oper.quietUpon] at h1

/-- Two operations that are apart, and of which neither waits for the other, may come up in either order. -/
theorem tOp_swap {i j : Nat} {oi oj : Oper} {K : Book → Act → Prop} {F : Book} {a : Act} (hstab : ∀ i lo hi v w w', Φ i lo hi v w → Ext w w' → Φ i lo hi v w') (hi : ops[i]? = some oi) (hj : ops[j]? = some oj) (hij : i ≠ j)
    (hap : oi.apart ops oj = true) (hsi : ∀ cs b, oi.op ≠ .select cs b) (hsj : ∀ cs b, oj.op ≠ .select cs b) (hFi : F i = Option.none) (hFj : F j = Option.none)
    (a1 : anc ops ops.size i j = false) (a2 : anc ops ops.size j i = false) (hr : ∃ w, Known w0 Φ F w) (h : tOp P ops w0 E Φ i (tOp P ops w0 E Φ j K) F a) :
    tOp P ops w0 E Φ j (tOp P ops w0 E Φ i K) F a := by
  obtain ⟨p1, p2, p3⟩ := Oper.apart_spec hap
  have x1 : ∀ (a : Act) v, execOp (a.put oi.dst v).eval oj = execOp a.eval oj := fun a v => execOp_put oj hsj a oi.dst v p1
  have x2 : ∀ (a : Act) v, execOp (a.put oj.dst v).eval oi = execOp a.eval oi := fun a v => execOp_put oi hsi a oj.dst v p3
  have y1 : ∀ (a : Act) v, Region.wanted oj (yielded ops (a.put oi.dst v).tmps) = Region.wanted oj (yielded ops a.tmps) := fun a v => wanted_put oj a oi.dst v p1
  have y2 : ∀ (a : Act) v, Region.wanted oi (yielded ops (a.put oj.dst v).tmps) = Region.wanted oi (yielded ops a.tmps) := fun a v => wanted_put oi a oj.dst v p3
  have z : ∀ (a : Act) v u, (a.put oj.dst u).put oi.dst v = (a.put oi.dst v).put oj.dst u := fun a v u => (Act.put_comm a v u p2).symm
  have q1 : ∀ (a : Act) v w u, oj.quietAt P (a.put oi.dst v) (fun w' => w' = w) w u ↔ oj.quietAt P a (fun w' => w' = w) w u := fun a v w u => by unfold Oper.quietAt; rw [x1]
  have q2 : ∀ (a : Act) v w u, oi.quietAt P (a.put oj.dst v) (fun w' => w' = w) w u ↔ oi.quietAt P a (fun w' => w' = w) w u := fun a v w u => by unfold Oper.quietAt; rw [x2]
  unfold tOp at h ⊢
  simp only [hi, hj] at h ⊢
  simp only [y1, x1, q1] at h
  simp only [y2, x2, q2, z]
  by_cases wi : Region.wanted oi (yielded ops a.tmps) = true
  · simp only [wi, if_true] at h ⊢
    by_cases Ei : E i = true
    · simp only [Ei, if_true] at h ⊢
      obtain ⟨h1, h2⟩ := h
      obtain ⟨v0, lo0, hi0, hr0⟩ := real_put hstab hFi hr h1
      by_cases wj : Region.wanted oj (yielded ops a.tmps) = true
      · simp only [wj, if_true] at h2 ⊢
        by_cases Ej : E j = true
        · simp only [Ej, if_true] at h2 ⊢
          refine ⟨fun w hw => (h2 v0 lo0 hi0 hr0).1 w ((Kn.set_iff hFi a2).2 hw), fun u lo hi hru => ⟨fun w hw => h1 w ((Kn.set_iff hFj a1).1 hw), fun v lo' hi' hrv => ?_⟩⟩
          obtain ⟨w, hw⟩ := hrv
          have hw1 : Known w0 Φ (F.set i (v, lo', hi')) w := hw.sub (Book.set_sub (Book.sub_set hFj))
          rw [Book.set_comm _ (Ne.symm hij)] at hw ⊢
          exact (h2 v lo' hi' ⟨w, hw1⟩).2 u lo hi ⟨w, hw⟩
        · simp only [Ej] at h2 ⊢
          obtain ⟨hp, u, hu, _⟩ := h2 v0 lo0 hi0 hr0
          refine ⟨hp, u, hu, h1, fun v lo hi hrv => ?_⟩
          obtain ⟨_, u', hu', hK⟩ := h2 v lo hi hrv
          obtain ⟨w, hw⟩ := hr
          rw [quiet_unique hp (hu w hw.ext) (hu' w hw.ext)]
          exact hK
      · simp only [wj] at h2 ⊢
        exact ⟨h1, fun v lo hi hrv => h2 v lo hi hrv⟩
    · simp only [Ei] at h ⊢
      obtain ⟨hp, v, hv, h2⟩ := h
      by_cases wj : Region.wanted oj (yielded ops a.tmps) = true
      · simp only [wj, if_true] at h2 ⊢
        by_cases Ej : E j = true
        · simp only [Ej, if_true] at h2 ⊢
          exact ⟨h2.1, fun u lo hi hru => ⟨hp, v, hv, h2.2 u lo hi hru⟩⟩
        · simp only [Ej] at h2 ⊢
          obtain ⟨hp', u, hu, hK⟩ := h2
          exact ⟨hp', u, hu, hp, v, hv, hK⟩
      · simp only [wj] at h2 ⊢
        exact ⟨hp, v, hv, h2⟩
  · simp only [wi] at h ⊢
    by_cases wj : Region.wanted oj (yielded ops a.tmps) = true
    · simp only [wj, if_true] at h ⊢
      by_cases Ej : E j = true
      · simp only [Ej, if_true] at h ⊢
        exact ⟨h.1, fun u lo hi hru => h.2 u lo hi hru⟩
      · simp only [Ej] at h ⊢
        obtain ⟨hp', u, hu, hK⟩ := h
        exact ⟨hp', u, hu, hK⟩
    · simp only [wj] at h ⊢
      exact h

theorem anc_listed {n : Nat} {listed : Array Bool} (inv : HeadInv .any ops n listed) : ∀ (f k p : Nat), anc ops f k p = true → (∀ o, ops[k]? = some o → ∀ e ∈ o.after, Region.binds .any e = true → listed.getD e.on false = true) → listed.getD p false = true
  | 0, _, _, h, _ => by simp [anc] at h
  | f + 1, k, p, h, hk => by
    unfold anc at h
    split at h
    · cases h
    · rename_i o ho
      obtain ⟨e, he, hb⟩ := Array.any_eq_true'.1 h
      simp only [Bool.and_eq_true, Bool.or_eq_true, beq_iff_eq] at hb
      have h1 := hk o ho e he hb.1
      rcases hb.2 with h2 | h2
      · rw [← h2]; exact h1
      · exact anc_listed inv f e.on p h2 (fun o' ho' e' he' hb' => inv.closed e.on o' ho' h1 e' he' hb')

theorem anc_false {n : Nat} {listed : Array Bool} (inv : HeadInv .any ops n listed) {i j : Nat} (hj : j ∈ Region.ready .any ops listed) (hi : listed.getD i true = false) : anc ops ops.size j i = false := by
  cases h : anc ops ops.size j i with
  | false => rfl
  | true =>
    obtain ⟨_, oj, hoj, hall⟩ := mem_ready.1 hj
    have h1 := anc_listed inv _ _ _ h (fun o ho e he hb => by rw [hoj] at ho; injection ho with ho; subst ho; exact hall e he hb)
    rw [getD_both hi] at h1
    cases h1

theorem wpAnyT_first {n i : Nat} {oi : Oper} {L : Array Bool → Book → Act → Prop} (hstab : ∀ i lo hi v w w', Φ i lo hi v w → Ext w w' → Φ i lo hi v w') (hi : ops[i]? = some oi) (hsel : ∀ (j : Nat) (o : Oper) cs b, ops[j]? = some o → o.op ≠ .select cs b)
    (hs : Region.sinkB .any ops n = true) (hc : Region.chainB .any ops n = true) (hn : n < ops.size) (hin : i < n)
    (hdone : ∀ listed F a, L listed F a → ∀ j ∈ Region.ready .any ops listed, n ≤ j) :
    ∀ (f : Nat) (listed : Array Bool) (F : Book) (a : Act), HeadInv .any ops n listed → (∀ j, listed.getD j true = false → F j = Option.none) → (∃ w, Known w0 Φ F w) →
      (∀ j oj, ops[j]? = some oj → j ≠ i → listed.getD j true = false → (∀ e ∈ oj.after, Region.binds .any e = true → e.on ≠ i) → oi.apart ops oj = true) →
      i ∈ Region.ready .any ops listed → tOp P ops w0 E Φ i (wpAnyT P ops w0 E Φ n L f (listed.setIfInBounds i true)) F a → wpAnyT P ops w0 E Φ n L (f + 1) listed F a := by
  intro f
  induction f with
  | zero =>
    intro listed F a inv hF hr0 _ hr H
    have hun := (mem_ready.1 hr).1
    refine ⟨fun h => (by rw [h] at hr; cases hr), fun j hj => ?_⟩
    have hjn : j < n := by
      rcases Nat.lt_or_ge j n with h | h
      · exact h
      · exact absurd hj (tail_waits hs hc hn inv _ i rfl hin hun j h)
    refine ⟨hjn, ?_⟩
    by_cases hji : j = i
    · subst hji; exact H
    · exfalso
      have key : ∀ F' a', wpAnyT P ops w0 E Φ n L 0 (listed.setIfInBounds i true) F' a' → False := fun F' a' h => by
        have := hdone _ _ _ h j (ready_mono hj hji)
        omega
      unfold tOp at H
      simp only [hi] at H
      split at H
      · split at H
        · obtain ⟨v, lo, hi', hrr⟩ := real_put hstab (hF i hun) hr0 H.1
          exact key _ _ (H.2 v lo hi' hrr)
        · obtain ⟨_, v, _, h2⟩ := H
          exact key _ _ h2
      · exact key _ _ H
  | succ f ih =>
    intro listed F a inv hF hr0 hfree hr H
    have hun := (mem_ready.1 hr).1
    refine ⟨fun h => (by rw [h] at hr; cases hr), fun j hj => ?_⟩
    have hjn : j < n := by
      rcases Nat.lt_or_ge j n with h | h
      · exact h
      · exact absurd hj (tail_waits hs hc hn inv _ i rfl hin hun j h)
    refine ⟨hjn, ?_⟩
    by_cases hji : j = i
    · subst hji; exact H
    · obtain ⟨hjun, oj, hoj, hall⟩ := mem_ready.1 hj
      have hnot : ∀ e ∈ oj.after, Region.binds .any e = true → e.on ≠ i := fun e he hb heq => by
        have h1 := hall e he hb
        rw [heq, getD_both hun] at h1
        cases h1
      have H1 := tOp_mono (fun F' a' h => (h.2 j (ready_mono hj hji)).2) H
      have H2 := tOp_swap hstab hi hoj (Ne.symm hji) (hfree j oj hoj hji hjun hnot) (fun cs b => hsel i oi cs b hi) (fun cs b => hsel j oj cs b hoj) (hF i hun) (hF j hjun) (anc_false inv hr hjun) (anc_false inv hj hun) hr0 H1
      have hfree' : ∀ k ok, ops[k]? = some ok → k ≠ i → (listed.setIfInBounds j true).getD k true = false →
          (∀ e ∈ ok.after, Region.binds .any e = true → e.on ≠ i) → oi.apart ops ok = true := fun k ok hk hki hun' hno => by
        refine hfree k ok hk hki ?_ hno
        by_cases hjk : j = k
        · subst hjk; exact hjun
        · rw [getD_set_ne true hjk] at hun'; exact hun'
      refine tOp_mono' hr0 (fun F' a' hF' hr' h3 => ih (listed.setIfInBounds j true) F' a' (inv.set hj hjn) (fun x hx => ?_) hr' hfree' (ready_mono hr (Ne.symm hji)) ?_) H2
      · have hxj : x ≠ j := by
          rintro rfl
          have hlt : x < listed.size := by
            rcases Nat.lt_or_ge x listed.size with h' | h'
            · exact h'
            · simp [Array.getElem?_eq_none h'] at hjun
          simp [hlt] at hx
        rw [getD_set_ne true (Ne.symm hxj)] at hx
        rcases hF' with rfl | ⟨e, rfl⟩
        · exact hF x hx
        · rw [Book.set_ne _ _ hxj]; exact hF x hx
      · rw [Array.setIfInBounds_comm _ _ hji]
        exact h3

theorem wpAnyT_lex {n g : Nat} {Lq : Book → Act → Prop} (hstab : ∀ i lo hi v w w', Φ i lo hi v w → Ext w w' → Φ i lo hi v w') (hsel : Region.noSelect ops = true) (hs : Region.sinkB .any ops n = true) (hc : Region.chainB .any ops n = true) (hn : n < ops.size) :
    ∀ (l : List Oper) (k : Nat) (listed : Array Bool) (F : Book) (a : Act), (∀ j, j < l.length → l[j]? = ops[k + j]?) → k + l.length = n → HeadInv .any ops n listed → (∀ j, listed.getD j true = false → F j = Option.none) → (∃ w, Known w0 Φ F w) →
    Region.lexHead .any ops g l.length k listed = true → wpT P ops w0 E Φ Lq l k F a →
    wpAnyT P ops w0 E Φ n (fun listed' F' a' => Region.seqB .any ops g n listed' = true ∧ Lq F' a') l.length listed F a
  | [], k, listed, F, a, _, hk, _, _, _, hB, h => by
    have : k = n := by simpa using hk
    subst this
    exact ⟨by simpa [Region.lexHead] using hB, h⟩
  | o :: l, k, listed, F, a, hl, hk, inv, hF, hr0, hB, h => by
    have h0 : ops[k]? = some o := by simpa using (hl 0 (by simp)).symm
    simp only [List.length_cons, Region.lexHead, Bool.and_eq_true] at hB
    obtain ⟨⟨hr, hf⟩, hB'⟩ := hB
    have hkn : k < n := by simp only [List.length_cons] at hk; omega
    have hr' : k ∈ Region.ready .any ops listed := by simpa using hr
    have hun := (mem_ready.1 hr').1
    refine wpAnyT_first hstab h0 (Region.noSelect_spec hsel) hs hc hn hkn (fun listed' F' a' hL => seqB_ready hL.1) l.length listed F a inv hF hr0 (Region.free_spec h0 hf) hr' ?_
    refine tOp_mono' hr0 (fun F' a' hF' hr1 h' => wpAnyT_lex hstab hsel hs hc hn l (k + 1) _ F' a' (fun j hj => by have := hl (j + 1) (by simp; omega); simpa [Nat.add_assoc, Nat.add_comm 1 j] using this) (by simp only [List.length_cons] at hk; omega) (inv.set hr' hkn) (fun x hx => ?_) hr1 hB' h') h
    have hxk : x ≠ k := by
      rintro rfl
      have hlt : x < listed.size := by
        rcases Nat.lt_or_ge x listed.size with h' | h'
        · exact h'
        · simp [Array.getElem?_eq_none h'] at hun
      simp [hlt] at hx
    rw [getD_set_ne true (Ne.symm hxk)] at hx
    rcases hF' with rfl | ⟨e, rfl⟩
    · exact hF x hx
    · rw [Book.set_ne _ _ hxk]; exact hF x hx
end

/-- A region whose order is open: its first n operations in the order of the text (those of E add memory, with facts Φ; the others only read), then the rest, which waits for them, as it stands. -/
theorem wp_region_tame {P : Program} {id : Nat} {Q : Exit → Act → World → Prop} {a : Act} {w : World} {l : List Oper} (n : Nat) (E : Nat → Bool) (Φ : Nat → Nat → Nat → Value → World → Prop)
    (hstab : ∀ i lo hi v w w', Φ i lo hi v w → Ext w w' → Φ i lo hi v w') (hm : P.follows .mixedOrders = true) (hB : Region.lexTailB .any l.toArray n = true)
    (h : wpT P l.toArray w E Φ (fun F a' => ∀ w', Known w Φ F w' → wpList P l.toArray Q (l.drop n) a' w') (l.take n) 0 Book.none a) : (Code.region id l.toArray true).wp P Q a w := by
  simp only [Region.lexTailB, Bool.and_eq_true, decide_eq_true_eq] at hB
  obtain ⟨⟨⟨⟨hsel, hn⟩, hs⟩, hc⟩, hlex⟩ := hB
  have hn' : n < l.length := by simpa using hn
  have htl : (l.take n).length = n := by simp; omega
  have hdl : (l.drop n).length = l.toArray.size - n := by simp
  have inv0 : HeadInv .any l.toArray n (Array.replicate l.toArray.size false) :=
    ⟨by simp, fun j oj _ hl => (by rw [getD_replicate_false] at hl; cases hl), fun t _ ht => getD_in (by simpa using ht) (getD_replicate_false _ _)⟩
  have hk0 : Known w Φ Book.none { w with drawn := w.drawn + 1 } := ⟨(Ext.refl w).drew, fun _ _ h => (by cases h), fun _ _ h => (by cases h), fun _ _ h => (by cases h), fun _ _ _ _ _ h => (by cases h)⟩
  have H := wpAnyT_lex (P := P) (E := E) (g := l.toArray.size - n) hstab hsel hs hc hn (l.take n) 0 _ Book.none a (fun j hj => by
    have hj' : j < n := by rw [htl] at hj; exact hj
    simp [hj']) (by simpa using htl) inv0 (fun _ _ => rfl) ⟨_, hk0⟩ (by rw [htl]; exact hlex) h
  refine wp_region_any hm ?_
  have H2 := wpAny_of_headT (P := P) (n := n) (g := l.toArray.size - n) (Q' := Q) hstab (fun listed F a' w' hw' hL => by
    have := wpAny_of_seq (P := P) (ops := l.toArray) (md := .any) (Q' := Q) (l.drop n) n listed a' w' (fun j => by simp) (by rw [hdl]; exact hL.1) (hL.2 w' hw')
    rwa [hdl] at this) _ _ _ _ _ hk0 (fun _ _ => rfl) H
  rw [htl] at H2
  have e : n + (l.toArray.size - n) = l.toArray.size := by simp at hn ⊢; omega
  rw [e] at H2
  exact H2

section
variable {P : Program} {ops : Array Oper} {w0 : World} {E : Nat → Bool} {Φ : Nat → Nat → Nat → Value → World → Prop} {Q : Book → Act → Prop}

/-- Walking on: some operations that only read, by the kit's quiet walk. -/
theorem wpT_quiet' (m : Nat) {l : List Oper} {k : Nat} {F : Book} {a : Act} (hops : ∀ j, j < m → l[j]? = ops[k + j]?) (hE : (List.range m).all (fun j => !E (k + j) && ((ops[k + j]?).map fun o => plainOp o.op).getD false) = true)
    (h : wpQuiet P ops (fun w' => ∃ x : ExtOf w0, w' = x.val) (fun a' => wpT P ops w0 E Φ Q (l.drop m) (k + m) F a') (l.take m) a) : wpT P ops w0 E Φ Q l k F a := by
  induction m generalizing l k a with
  | zero => simpa [wpQuiet] using h
  | succ m ih =>
    cases l with
    | nil => simp [wpQuiet] at h; simpa [wpT] using h
    | cons o r =>
      have h0 : ops[k]? = some o := by simpa using (hops 0 (by omega)).symm
      have hall := List.all_eq_true.1 hE
      have e0 := hall 0 (by simp)
      simp only [Nat.add_zero, h0, Option.map_some, Option.getD_some, Bool.and_eq_true, Bool.not_eq_true'] at e0
      have hE' : (List.range m).all (fun j => !E (k + 1 + j) && ((ops[k + 1 + j]?).map fun o => plainOp o.op).getD false) = true := by
        rw [List.all_eq_true]
        intro x hx
        have := hall (x + 1) (by simp at hx ⊢; omega)
        rwa [show k + (x + 1) = k + 1 + x by omega] at this
      have ih' := fun a' => ih (l := r) (k := k + 1) (a := a') (fun j hj => by have := hops (j + 1) (by omega); simpa [Nat.add_assoc, Nat.add_comm 1 j] using this) hE'
      simp only [List.take_succ_cons, List.drop_succ_cons, wpQuiet] at h
      have ek : k + (m + 1) = k + 1 + m := by omega
      rw [ek] at h
      unfold wpT tOp
      simp only [h0]
      by_cases hw : Region.wanted o (yielded ops a.tmps) = true
      · simp only [hw, if_true] at h ⊢
        simp only [e0.1, Bool.false_eq_true, if_false]
        obtain ⟨v, h1, h2⟩ := h
        refine ⟨e0.2, v, fun w hx => ?_, ih' _ h2⟩
        have h3 := h1 w ⟨⟨w, hx⟩, rfl⟩
        unfold Oper.quietAt at *
        generalize hr : (execOp a.eval o).run P w = res at *
        cases res with
        | ok nx w' =>
          cases nx <;> simp only [Oper.quietUpon] at h3 ⊢
          case value u => exact h3
          case skip => exact h3
          case enter f args => exact (plain_no_enter e0.2 hr).elim
        | halt x w' => simp only [Oper.quietUpon] at h3
      · simp only [hw] at h ⊢
        exact ih' _ h

theorem wpT_quiet (m : Nat) {l : List Oper} {k : Nat} {F : Book} {a : Act} (hops : l.take m = (ops.toList.drop k).take m) (hE : (List.range m).all (fun j => !E (k + j) && ((ops[k + j]?).map fun o => plainOp o.op).getD false) = true)
    (h : wpQuiet P ops (fun w' => ∃ x : ExtOf w0, w' = x.val) (fun a' => wpT P ops w0 E Φ Q (l.drop m) (k + m) F a') (l.take m) a) : wpT P ops w0 E Φ Q l k F a :=
  wpT_quiet' m (fun j hj => by
    have h1 : (l.take m)[j]? = ((ops.toList.drop k).take m)[j]? := by rw [hops]
    rw [List.getElem?_take_of_lt hj, List.getElem?_take_of_lt hj, List.getElem?_drop] at h1
    simpa using h1) hE h

/-- Walking on: one operation that adds memory. -/
theorem wpT_eff {l : List Oper} {o : Oper} {k : Nat} {F : Book} {a : Act} (h0 : ops[k]? = some o) (hw : Region.wanted o (yielded ops a.tmps) = true) (hE : E k = true)
    (h1 : ∀ w, Kn ops w0 Φ k F w → effUpon P (Φ k) w ((execOp a.eval o).run P w))
    (h2 : ∀ v lo hi, (∃ w, Known w0 Φ (F.set k (v, lo, hi)) w) → wpT P ops w0 E Φ Q l (k + 1) (F.set k (v, lo, hi)) (a.put o.dst v)) : wpT P ops w0 E Φ Q (o :: l) k F a := by
  unfold wpT tOp
  simp only [h0, hw, hE, if_true]
  exact ⟨h1, h2⟩
theorem wpT_nil {k : Nat} {F : Book} {a : Act} (h : Q F a) : wpT P ops w0 E Φ Q [] k F a := h
end

theorem lt_of_cell {w : World} {p : Addr} {v : Value} (h : w.cell? p = some v) : p.block < w.heap.size := by
  rcases Nat.lt_or_ge p.block w.heap.size with hl | hl
  · exact hl
  · simp [World.cell?, Array.getElem?_eq_none hl] at h
theorem Ext.cell_ {w w' : World} (h : Ext w w') {p : Addr} {v : Value} (hc : w.cell? p = some v) : w'.cell? p = some v := (h.cell (lt_of_cell hc)).trans hc
theorem ExtOf.cell {w : World} {p : Addr} {v : Value} (h : w.cell? p = some v) (x : ExtOf w) : x.val.cell? p = some v := x.ext.cell_ h
theorem ExtOf.blk {w : World} {g : Nat} {t : TypeId} {cs : Array Value} (h : Blk w g t cs) (x : ExtOf w) (i : Nat) : x.val.cell? ⟨g, i, none⟩ = cs[i]? := (h.ext x.ext).cell i

theorem Known.get {w0 : World} {Φ : Nat → Nat → Nat → Value → World → Prop} {F : Book} {k lo hi : Nat} {v : Value} {w : World} (h : Known w0 Φ (F.set k (v, lo, hi)) w) : Φ k lo hi v w := h.fact k _ (Book.set_self _ _ _)
theorem Known.at_ {w0 : World} {Φ : Nat → Nat → Nat → Value → World → Prop} {F : Book} {w : World} (h : Known w0 Φ F w) (k : Nat) {e : Value × Nat × Nat} (he : F k = some e) : Φ k e.2.1 e.2.2 e.1 w := h.fact k e he

theorem add_head (g j : Nat) : Addr.add ⟨g, 0, none⟩ j = ⟨g, j, none⟩ := by unfold Addr.add; split <;> simp_all

theorem add_plain (b o j : Nat) : Addr.add ⟨b, o, none⟩ j = ⟨b, o + j, none⟩ := by unfold Addr.add; split <;> simp_all
/-- The same with the address written out. -/
theorem Reads.plain {w : World} {B n : Nat} {A : Option Addr} {xs : List Value} (h : Reads w B 1 A n xs) (hn : 0 < n) :
    ∃ b o, A = some ⟨b, o, none⟩ ∧ b < B ∧ ∀ (j : Nat) (u : Value), xs[j]? = some u → w.cell? ⟨b, o + j, none⟩ = some u := by
  obtain ⟨ad, e, hb, hc⟩ := h.2 hn
  have hl : 0 < xs.length := by have := h.1; omega
  have h0 := hc 0 _ (List.getElem?_eq_getElem hl)
  have hs : ad.spot = none := by
    have h0' : w.cell? ad = some xs[0] := h0
    unfold World.cell? at h0'
    split at h0'
    · split at h0'
      · cases h0'
      · rename_i hsp; simpa using hsp
    · cases h0'
  obtain ⟨b, o, sp⟩ := ad
  simp only at hs
  subst hs
  exact ⟨b, o, e, hb, fun j u hu => by rw [← add_plain]; exact hc j u hu⟩
/-- Only block g, and what is new, has changed. -/
abbrev Only (g : Nat) (w w' : World) : Prop := w.grownBy w' (some g)
section
variable {g : Nat} {w w' w'' : World}
theorem Only.refl (g : Nat) (w : World) : Only g w w := World.grownBy.refl w _
theorem Only.trans (h : Only g w w') (k : Only g w' w'') : Only g w w'' :=
  ⟨k.os.trans h.os, k.tape.trans h.tape, k.output.trans h.output, Nat.le_trans h.size k.size, fun i hi hne => (k.block i (Nat.lt_of_lt_of_le hi h.size) hne).trans (h.block i hi hne)⟩
theorem Only.of_ext (h : Ext w w') : Only g w w' := ⟨h.os, h.tape, h.output, h.size, fun i hi _ => h.block i hi⟩
theorem Only.drew (h : Only g w w') : Only g w w'.drew := ⟨h.os, h.tape, h.output, h.size, h.block⟩
theorem Only.set (w : World) (g i : Nat) (u : Value) : Only g w (w.setCell ⟨g, i, none⟩ u) :=
  ⟨rfl, rfl, rfl, by simp [World.setCell], fun k _ hne => Below.heap_setCell w ⟨g, i, none⟩ u k (fun e => hne (by rw [e]))⟩
theorem Only.cell_ (h : Only g w w') {p : Addr} {v : Value} (hc : w.cell? p = some v) (hp : p.block ≠ g) : w'.cell? p = some v :=
  (World.cell?_of_block (h.block p.block (lt_of_cell hc) (fun e => hp (by injection e)))).trans hc
theorem Only.blk (h : Only g w w') {b : Nat} {t : TypeId} {cs : Array Value} (hb : Blk w b t cs) (hp : b ≠ g) : Blk w' b t cs := (h.block b hb.lt (fun e => hp (by injection e))).trans hb
theorem Only.ext {w0 : World} (h : Only g w w') (he : Ext w0 w) (hg : w0.heap.size ≤ g) : Ext w0 w' :=
  ⟨h.os.trans he.os, h.tape.trans he.tape, h.output.trans he.output, Nat.le_trans he.size h.size, fun i hi => (h.block i (Nat.lt_of_lt_of_le hi he.size) (fun e => by injection e with e; omega)).trans (he.block i hi)⟩
theorem Only.reads (h : Only g w w') {size n : Nat} {A : Option Addr} {xs : List Value} (hr : Reads w w.heap.size size A n xs) (hA : ∀ ad, A = some ad → ad.block ≠ g) : Reads w' w'.heap.size size A n xs :=
  ⟨hr.1, fun hn => by
    obtain ⟨ad, e, hb, hc⟩ := hr.2 hn
    exact ⟨ad, e, Nat.lt_of_lt_of_le hb h.size, fun j u hu => h.cell_ (hc j u hu) (by rw [block_of_add]; exact hA ad e)⟩⟩
end

/-! Slices that the call appends to. -/
/-- What is asked of an element's type. -/
def Elem (P : Program) (t e : TypeId) (size bytes : Nat) : Prop := ∃ i z, P.underlying t = some (.slice e) ∧ P.info? e = some i ∧ i.zero = some z ∧ i.size = size ∧ i.bytes = bytes ∧ z.cells.size = size ∧ 0 < size
theorem Elem.of {P : Program} {t e : TypeId} {size bytes : Nat} {z : Value} (ht : P.underlying t = some (.slice e)) (hi : (P.info? e).map (fun i => (i.zero, i.size, i.bytes)) = some (some z, size, bytes)) (hz : z.cells.size = size) (h0 : 0 < size) : Elem P t e size bytes := by
  obtain ⟨i0, hi0, hz0, hz1, hz2⟩ := info_parts hi
  exact ⟨i0, z, ht, hi0, hz0, hz1, hz2, hz, h0⟩

theorem wpList_app {P : Program} {w : World} {ops : Array Oper} {rest : List Oper} {o : Oper} {a : Act} {Q : Exit → Act → World → Prop} {t e : TypeId} {size bytes : Nat} (E : Elem P t e size bytes) (hgd : o.guard = none) (s x : Operand)
    (ho : o.op = .call { callee := .builtin .append, args := #[s, x], argTypes := #[t, t] }) (base : Nat) (v : Value) (n : Nat) (xs : List Value) (hs : a.eval s = v) (hown : w.ownsRow base e size v n xs)
    (B m c : Nat) (news : List Value) (hx : a.eval x = .slice (some ⟨B, 0, none⟩) m c) (hB : Blk w B e news.toArray) (hl : news.length = m * size) (h1 : ∀ u ∈ news, u.oneCell' = true)
    (hm : 0 < m) (h63 : n + m ≤ 9223372036854775807) (hbytes : (n + m) * bytes ≤ 140737488355328) (hbase : base ≤ w.heap.size)
    (h : ∀ g cap w', w'.ownsRow base e size (.slice (some ⟨g, 0, none⟩) (n + m) cap) (n + m) (xs ++ news) → w.grownBy w' v.ownBlock → (v.ownBlock = some g ∨ g = w.heap.size) → g < w'.heap.size → wpList P ops Q rest (a.put o.dst (.slice (some ⟨g, 0, none⟩) (n + m) cap)) w') :
    wpList P ops Q (o :: rest) a w := by
  obtain ⟨i, z, ht, hi, hz, hsize, hby, hzs, hsz⟩ := E
  exact wpList_append_lies w hgd s x t ho base e i z size bytes ht hi hz hsize hby hzs hsz v n xs hs hown ⟨B, 0, none⟩ m c news hx hl (fun j u hu => by have := World.news_of_block hB j u; simpa using this (by simpa using hu)) h1 hm h63 hbytes hbase w.heap.size rfl h

/-- The same, the source any slice that reads. -/
theorem wpList_appR {P : Program} {w : World} {ops : Array Oper} {rest : List Oper} {o : Oper} {a : Act} {Q : Exit → Act → World → Prop} {t e : TypeId} {size bytes : Nat} (E : Elem P t e size bytes) (hgd : o.guard = none) (s x : Operand)
    (ho : o.op = .call { callee := .builtin .append, args := #[s, x], argTypes := #[t, t] }) (base : Nat) (v : Value) (n : Nat) (xs : List Value) (hs : a.eval s = v) (hown : w.ownsRow base e size v n xs)
    (A : Option Addr) (m c : Nat) (news : List Value) (hx : a.eval x = .slice A m c) (hr : Reads w w.heap.size size A m news) (h1 : ∀ u ∈ news, u.oneCell' = true)
    (hm : 0 < m) (h63 : n + m ≤ 9223372036854775807) (hbytes : (n + m) * bytes ≤ 140737488355328) (hbase : base ≤ w.heap.size)
    (h : ∀ g cap w', w'.ownsRow base e size (.slice (some ⟨g, 0, none⟩) (n + m) cap) (n + m) (xs ++ news) → w.grownBy w' v.ownBlock → (v.ownBlock = some g ∨ g = w.heap.size) → g < w'.heap.size → wpList P ops Q rest (a.put o.dst (.slice (some ⟨g, 0, none⟩) (n + m) cap)) w') :
    wpList P ops Q (o :: rest) a w := by
  obtain ⟨i, z, ht, hi, hz, hsize, hby, hzs, hsz⟩ := E
  obtain ⟨ad, rfl, _, hc⟩ := hr.2 hm
  exact wpList_append_lies w hgd s x t ho base e i z size bytes ht hi hz hsize hby hzs hsz v n xs hs hown ad m c news hx hr.1 hc h1 hm h63 hbytes hbase w.heap.size rfl h

section
variable {w w' : World} {base : Nat} {e : TypeId} {size n : Nat} {v : Value} {xs : List Value}
theorem own_reads (h : w.ownsRow base e size v n xs) : ∃ A c, v = .slice A n c ∧ n ≤ c ∧ c ≤ maxLen ∧ Reads w w.heap.size size A n xs := by
  have h1 := h.1
  rcases h.2 with ⟨rfl, rfl⟩ | ⟨g, cap, cur, rfl, _, hg, hnc, hcm, _, _⟩
  · obtain rfl : xs = [] := List.eq_nil_of_length_eq_zero (by simpa using h1)
    exact ⟨none, 0, rfl, Nat.le_refl _, Nat.zero_le _, Reads.none_⟩
  · exact ⟨_, cap, rfl, hnc, hcm, h1, fun _ => ⟨_, rfl, (Array.getElem?_eq_some_iff.1 hg).1, h.cells (g := g) rfl⟩⟩
theorem _root_.Go.World.ownsRow.less {base' : Nat} (h : w.ownsRow base e size v n xs) (hB : base' ≤ base) : w.ownsRow base' e size v n xs := by
  refine ⟨h.1, ?_⟩
  rcases h.2 with hn | ⟨g, cap, cur, hv, hb, rest⟩
  · exact .inl hn
  · exact .inr ⟨g, cap, cur, hv, Nat.le_trans hB hb, rest⟩
theorem own_grown {row : Option Nat} {w0 : World} (hx : w.grownBy w' row) (he : Ext w0 w) (hr : ∀ g, row = some g → w0.heap.size ≤ g) : Ext w0 w' :=
  Below.grown he hx he.size hr
end
end Go.Proofs.YtclkkoiaaddllaaGreat

/- A region whose order is open, walked in one order: what only reads comes as soon as it may, and what acts (calls, new memory, stores) comes one by one, in the world as it stands. -/
namespace Go.Proofs.YtclkkoiaaddllaaGreat
open Go.RowKit

theorem andThen_value_ne_skip {s : Result Value} {w' : World} (h : s.andThen (fun x w => Result.ok (Next.value x) w) = .ok .skip w') : False := by
  cases s <;> simp [Result.andThen] at h

theorem plain_no_skip {P : Program} {ev : Operand → Value} {o : Oper} {w w' : World} (hp : plainOp o.op = true) (h : (execOp ev o).run P w = .ok .skip w') : False := by
  obtain ⟨dst, op, ty, pos, af, gd⟩ := o
  cases op <;> simp only [plainOp, Bool.false_eq_true] at hp <;> simp only [execOp, Sem.run_bind, Sem.run_pure] at h
  case call c =>
    obtain ⟨cal, as, ats⟩ := c
    cases cal <;> simp only [Bool.false_eq_true] at hp
    case builtin b =>
      cases b <;> simp only [Bool.false_eq_true] at hp <;> simp only [resolve, Sem.run_bind, Sem.run_pure, Result.andThen_ok, invoke, builtin] at h <;> exact andThen_value_ne_skip h
  case pick c x y => cases hb : (asBool (ev c)).run P w <;> simp [hb, Result.andThen] at h
  all_goals first
    | exact andThen_value_ne_skip h
    | (simp at h; done)

section
variable {P : Program} {ops : Array Oper} {Q Q' : Exit → Act → World → Prop} {S : World → Prop}

theorem upon_mono2 {o : Oper} {a : Act} {K K' : Act → World → Prop} {r : Result Next} (hK : ∀ a w, K a w → K' a w) (hQ : ∀ e a w, Q e a w → Q' e a w) (h : o.upon P a K Q r) : o.upon P a K' Q' r := by
  cases r with
  | ok n w' =>
    cases n <;> simp only [Oper.upon] at h ⊢
    case value u => exact hK _ _ h
    case skip => exact hK _ _ h
    case defer d => exact hK _ _ h
    case enter f args =>
      refine Calls.mono h fun e w'' he => ?_
      cases e with
      | returned u => exact hK _ _ he
      | panicked c => exact hQ _ _ _ he
      | outgrown => exact (he : LetsOut Q).elim fun a h => h.elim fun w h => ⟨a, w, hQ _ _ _ h⟩
    case row row args => exact Rows.mono h fun u w'' he => hK _ _ he
  | halt x w' =>
    cases x <;> simp only [Oper.upon] at h ⊢
    case panic u => exact hQ _ _ _ h

theorem quiet_yields {o : Oper} {a : Act} {v : Value} (hp : plainOp o.op = true) (hw : Region.wanted o (yielded ops a.tmps) = true) (h : ∀ w, S w → o.quietAt P a S w v) : YieldsIf P ops S o v a := by
  refine .inl ⟨hw, fun w hS => ?_⟩
  have h3 := h w hS
  unfold Oper.quietAt at h3
  generalize hr : (execOp a.eval o).run P w = res at *
  cases res with
  | ok nx w' =>
    cases nx <;> simp only [Oper.quietUpon] at h3
    case value u => obtain ⟨rfl, rfl⟩ := h3; rfl
    case skip => exact (plain_no_skip hp hr).elim
    case enter f args => exact (plain_no_enter hp hr).elim
  | halt x w' => simp only [Oper.quietUpon] at h3

/-- The operation at a place of the list. -/
def nthOp : List Oper → Nat → List Oper
  | [], _ => []
  | o :: _, 0 => [o]
  | _ :: l, n + 1 => nthOp l n
def nthOps (l : List Oper) : List Nat → List Oper
  | [] => []
  | i :: is => nthOp l i ++ nthOps l is
theorem nthOp_of {l : List Oper} {i : Nat} {o : Oper} (h : l[i]? = some o) : nthOp l i = [o] := by
  induction l generalizing i with
  | nil => simp at h
  | cons x l ih =>
    cases i with
    | zero => simpa [nthOp] using h
    | succ i => simpa [nthOp] using ih (by simpa using h)

end

/-! The same with a tail that waits for all of the head and goes in the order of the text: there S is no longer asked. -/
section
variable {P : Program} {ops : Array Oper} {Q : Exit → Act → World → Prop} {S : World → Prop}
def QF : Exit → Act → World → Prop := fun _ _ _ => False

def wpAnyHL (P : Program) (ops : Array Oper) (S : World → Prop) (n : Nat) (L : Array Bool → Act → World → Prop) : Nat → Array Bool → Act → World → Prop
  | 0, listed, a, w => L listed a w
  | f + 1, listed, a, w => Region.ready .any ops listed ≠ [] ∧ ∀ i ∈ Region.ready .any ops listed, i < n ∧ wpOp P ops QF i (fun a' w' => S w' ∧ wpAnyHL P ops S n L f (listed.setIfInBounds i true) a' w') a w

theorem wpOp_mono2 {Q Q' : Exit → Act → World → Prop} {i : Nat} {a : Act} {w : World} {K K' : Act → World → Prop} (hK : ∀ a w, K a w → K' a w) (hQ : ∀ e a w, Q e a w → Q' e a w) (h : wpOp P ops Q i K a w) : wpOp P ops Q' i K' a w := by
  unfold wpOp at h ⊢
  split
  · rename_i ho; simp only [ho] at h; exact hK _ _ h
  · rename_i o ho
    simp only [ho] at h
    split
    · rename_i hw
      simp only [hw, if_true] at h
      rcases h with h | ⟨h1, a1, w1, h2⟩
      · exact .inl (upon_mono2 hK hQ h)
      · exact .inr ⟨h1, a1, w1, hQ _ _ _ h2⟩
    · rename_i hw
      simp only [hw] at h
      exact hK _ _ h

theorem wpAny_of_HL {n g : Nat} {L : Array Bool → Act → World → Prop} (hL : ∀ listed a w, L listed a w → wpAny P .any ops Q g listed a w) :
    ∀ (f : Nat) (listed : Array Bool) (a : Act) (w : World), wpAnyHL P ops S n L f listed a w → wpAny P .any ops Q (f + g) listed a w
  | 0, listed, a, w, h => by rw [Nat.zero_add]; exact hL _ _ _ h
  | f + 1, listed, a, w, h => by
    rw [show f + 1 + g = (f + g) + 1 by omega]
    exact ⟨fun h0 => absurd h0 h.1, fun i hi => wpOp_mono2 (fun a' w' h' => wpAny_of_HL hL f _ a' w' h'.2) (fun _ _ _ h => h.elim) (h.2 i hi).2⟩

theorem wpAnyHL_first {n i : Nat} {oi : Oper} {v : Value} {L : Array Bool → Act → World → Prop} (hi : ops[i]? = some oi) (hsel : ∀ (j : Nat) (o : Oper) cs b, ops[j]? = some o → o.op ≠ .select cs b)
    (hs : Region.sinkB .any ops n = true) (hc : Region.chainB .any ops n = true) (hn : n < ops.size) (hin : i < n)
    (hdone : ∀ listed a w, L listed a w → ∀ j ∈ Region.ready .any ops listed, n ≤ j) :
    ∀ (f : Nat) (listed : Array Bool) (a : Act) (w : World), HeadInv .any ops n listed →
      (∀ j oj, ops[j]? = some oj → j ≠ i → listed.getD j true = false → (∀ e ∈ oj.after, Region.binds .any e = true → e.on ≠ i) → oi.apart ops oj = true) →
      i ∈ Region.ready .any ops listed → YieldsIf P ops S oi v a → S w →
      wpAnyHL P ops S n L f (listed.setIfInBounds i true) (a.put oi.dst v) w → wpAnyHL P ops S n L (f + 1) listed a w := by
  intro f
  induction f with
  | zero =>
    intro listed a w inv _ hr hy hS H
    have hun := (mem_ready.1 hr).1
    refine ⟨fun h => (by rw [h] at hr; cases hr), fun j hj => ?_⟩
    have hjn : j < n := by
      rcases Nat.lt_or_ge j n with h | h
      · exact h
      · exact absurd hj (tail_waits hs hc hn inv _ i rfl hin hun j h)
    refine ⟨hjn, ?_⟩
    by_cases hji : j = i
    · subst hji; exact hy.wpOp hi hS ⟨hS, H⟩
    · have := hdone _ _ _ H j (ready_mono hj hji)
      omega
  | succ f ih =>
    intro listed a w inv hfree hr hy hS H
    have hun := (mem_ready.1 hr).1
    refine ⟨fun h => (by rw [h] at hr; cases hr), fun j hj => ?_⟩
    have hjn : j < n := by
      rcases Nat.lt_or_ge j n with h | h
      · exact h
      · exact absurd hj (tail_waits hs hc hn inv _ i rfl hin hun j h)
    refine ⟨hjn, ?_⟩
    by_cases hji : j = i
    · subst hji; exact hy.wpOp hi hS ⟨hS, H⟩
    · have h1 := (H.2 j (ready_mono hj hji)).2
      obtain ⟨hjun, oj, hoj, hall⟩ := mem_ready.1 hj
      have hnot : ∀ e ∈ oj.after, Region.binds .any e = true → e.on ≠ i := fun e he hb heq => by
        have h1 := hall e he hb
        rw [heq, getD_both hun] at h1
        cases h1
      have h2 := wpOp_putIf hoj (hfree j oj hoj hji hjun hnot) (fun cs b => hsel i oi cs b hi) (fun cs b => hsel j oj cs b hoj) (fun _ _ _ h => h) hy h1
      have hfree' : ∀ k ok, ops[k]? = some ok → k ≠ i → (listed.setIfInBounds j true).getD k true = false →
          (∀ e ∈ ok.after, Region.binds .any e = true → e.on ≠ i) → oi.apart ops ok = true := fun k ok hk hki hun' hno => by
        refine hfree k ok hk hki ?_ hno
        by_cases hjk : j = k
        · subst hjk; exact hjun
        · rw [getD_set_ne true hjk] at hun'; exact hun'
      refine wpOp_mono (fun a' w' h3 => ⟨h3.2.1, ih (listed.setIfInBounds j true) a' w' (inv.set hj hjn) hfree' (ready_mono hr (Ne.symm hji)) h3.1 h3.2.1 ?_⟩) h2
      rw [Array.setIfInBounds_comm _ _ hji]
      exact h3.2.2

/-- The head in the order that is given. -/
def wpOrdT (P : Program) (ops : Array Oper) (S : World → Prop) (L : Act → World → Prop) : List (Bool × Nat) → Act → World → Prop
  | [], a, w => L a w
  | (true, i) :: rest, a, w => match ops[i]? with
    | some o => if Region.wanted o (yielded ops a.tmps) then o.quiet P a S (fun a' => wpOrdT P ops S L rest a' w) else wpOrdT P ops S L rest (a.put o.dst undef) w
    | none => False
  | (false, i) :: rest, a, w => wpOp P ops QF i (fun a' w' => S w' ∧ wpOrdT P ops S L rest a' w') a w

def ordOkT (ops : Array Oper) (n : Nat) : List (Bool × Nat) → Array Bool → Bool
  | [], listed => Region.seqB .any ops (ops.size - n) n listed
  | (true, i) :: rest, listed => ((ops[i]?).map fun o => plainOp o.op).getD false && Region.free .any ops listed i && (Region.ready .any ops listed).contains i && decide (i < n) && ordOkT ops n rest (listed.setIfInBounds i true)
  | (false, i) :: rest, listed => decide (Region.ready .any ops listed = [i]) && decide (i < n) && ordOkT ops n rest (listed.setIfInBounds i true)

theorem wpAnyHL_ord {n : Nat} {L : Act → World → Prop} (hsel : Region.noSelect ops = true) (hs : Region.sinkB .any ops n = true) (hc : Region.chainB .any ops n = true) (hn : n < ops.size) :
    ∀ (ord : List (Bool × Nat)) (listed : Array Bool) (a : Act) (w : World), HeadInv .any ops n listed → ordOkT ops n ord listed = true → S w → wpOrdT P ops S L ord a w →
    wpAnyHL P ops S n (fun listed' a' w' => Region.seqB .any ops (ops.size - n) n listed' = true ∧ L a' w') ord.length listed a w
  | [], listed, a, w, _, hB, _, h => ⟨by simpa [ordOkT] using hB, h⟩
  | (true, i) :: rest, listed, a, w, inv, hB, hS, h => by
    simp only [ordOkT, Bool.and_eq_true, decide_eq_true_eq] at hB
    obtain ⟨⟨⟨⟨hp, hf⟩, hr⟩, hin⟩, hB'⟩ := hB
    have hr' : i ∈ Region.ready .any ops listed := by simpa using hr
    unfold wpOrdT at h
    cases ho : ops[i]? with
    | none => simp [ho] at h
    | some o =>
      simp only [ho] at h
      have hp' : plainOp o.op = true := by simpa [ho] using hp
      by_cases hw : Region.wanted o (yielded ops a.tmps) = true
      · rw [if_pos hw] at h
        obtain ⟨v, h1, h2⟩ := h
        exact wpAnyHL_first (v := v) ho (Region.noSelect_spec hsel) hs hc hn hin (fun _ _ _ hL => seqB_ready hL.1) _ _ _ _ inv (Region.free_spec ho hf) hr' (quiet_yields hp' hw h1) hS (wpAnyHL_ord hsel hs hc hn rest _ _ _ (inv.set hr' hin) hB' hS h2)
      · rw [if_neg hw] at h
        exact wpAnyHL_first (v := undef) ho (Region.noSelect_spec hsel) hs hc hn hin (fun _ _ _ hL => seqB_ready hL.1) _ _ _ _ inv (Region.free_spec ho hf) hr' (.inr ⟨by simpa using hw, rfl⟩) hS (wpAnyHL_ord hsel hs hc hn rest _ _ _ (inv.set hr' hin) hB' hS h)
  | (false, i) :: rest, listed, a, w, inv, hB, hS, h => by
    simp only [ordOkT, Bool.and_eq_true, decide_eq_true_eq] at hB
    unfold wpOrdT at h
    refine ⟨by rw [hB.1.1]; simp, fun j hj => ?_⟩
    have hj' := hj
    rw [hB.1.1] at hj
    obtain rfl : j = i := by simpa using hj
    exact ⟨hB.1.2, wpOp_mono (fun a' w' h => ⟨h.1, wpAnyHL_ord hsel hs hc hn rest _ _ _ (inv.set hj' hB.1.2) hB.2 h.1 h.2⟩) h⟩

/-- The beginning, with a tail from operation n on. -/
theorem wp_region_ordT {id : Nat} {a : Act} {w : World} {l : List Oper} (n : Nat) (S : World → Prop) (ord : List (Bool × Nat)) (hm : P.follows .mixedOrders = true)
    (hB : (Region.noSelect l.toArray && Region.sinkB .any l.toArray n && Region.chainB .any l.toArray n && decide (n < l.length) && decide (ord.length = n) && ordOkT l.toArray n ord (Array.replicate l.length false)) = true) (hS : S w.drew)
    (h : wpOrdT P l.toArray S (fun a' w' => wpList P l.toArray Q (l.drop n) a' w') ord a w.drew) : (Code.region id l.toArray true).wp P Q a w := by
  simp only [Bool.and_eq_true, decide_eq_true_eq] at hB
  obtain ⟨⟨⟨⟨⟨hsel, hs⟩, hc⟩, hn⟩, hlen⟩, hord⟩ := hB
  have hn' : n < l.toArray.size := by simpa using hn
  have inv0 : HeadInv .any l.toArray n (Array.replicate l.length false) :=
    ⟨by simp, fun j oj _ hl => (by rw [getD_replicate_false] at hl; cases hl), fun t _ ht => getD_in (by simpa using ht) (getD_replicate_false _ _)⟩
  have H := wpAnyHL_ord (P := P) hsel hs hc hn' ord _ a w.drew inv0 hord hS h
  have hdl : (l.drop n).length = l.toArray.size - n := by simp
  have H2 := wpAny_of_HL (P := P) (Q := Q) (n := n) (g := l.toArray.size - n) (fun listed a' w' hL => by
    have := wpAny_of_seq (P := P) (ops := l.toArray) (md := .any) (Q' := Q) (l.drop n) n listed a' w' (fun j => by simp) (by rw [hdl]; exact hL.1) hL.2
    rwa [hdl] at this) _ _ _ _ H
  rw [hlen] at H2
  have e : n + (l.toArray.size - n) = l.toArray.size := by simp at hn ⊢; omega
  rw [e] at H2
  refine wp_region_any hm ?_
  simpa using H2

/-- The beginning: nothing that is there changes in the head. -/
theorem wp_region_ordE {id : Nat} {a : Act} {w : World} {l : List Oper} (n : Nat) (ord : List (Bool × Nat)) (hm : P.follows .mixedOrders = true)
    (hB : (Region.noSelect l.toArray && Region.sinkB .any l.toArray n && Region.chainB .any l.toArray n && decide (n < l.length) && decide (ord.length = n) && ordOkT l.toArray n ord (Array.replicate l.length false)) = true)
    (h : wpOrdT P l.toArray (fun w' => ∃ x : ExtOf w, w' = x.val) (fun a' w' => wpList P l.toArray Q (l.drop n) a' w') ord a w.drew) : (Code.region id l.toArray true).wp P Q a w :=
  wp_region_ordT n _ ord hm hB ⟨⟨w.drew, (Ext.refl w).drew⟩, rfl⟩ h

theorem wpOrdT_quiet {l : List Oper} {w : World} {L : Act → World → Prop} : ∀ (is : List Nat) (rest : List (Bool × Nat)) (a : Act), is.all (fun i => decide (i < l.length)) = true →
    wpQuiet P l.toArray S (fun a' => wpOrdT P l.toArray S L rest a' w) (nthOps l is) a → wpOrdT P l.toArray S L (is.map (fun i => (true, i)) ++ rest) a w
  | [], _, _, _, h => h
  | i :: is, rest, a, hi, h => by
    simp only [List.all_cons, Bool.and_eq_true, decide_eq_true_eq] at hi
    have ho : l[i]? = some l[i] := List.getElem?_eq_getElem hi.1
    simp only [nthOps, nthOp_of ho, List.singleton_append, wpQuiet] at h
    simp only [List.map_cons, List.cons_append, wpOrdT, List.getElem?_toArray, ho]
    by_cases hw : Region.wanted l[i] (yielded l.toArray a.tmps) = true
    · rw [if_pos hw] at h ⊢
      exact Oper.quiet_mono (fun a' h' => wpOrdT_quiet is rest a' hi.2 h') h
    · rw [if_neg hw] at h ⊢
      exact wpOrdT_quiet is rest _ hi.2 h

theorem wpOrdT_act {l : List Oper} {a : Act} {w : World} {L : Act → World → Prop} (i : Nat) (rest : List (Bool × Nat)) (hi : decide (i < l.length) = true)
    (h : ∀ K : Act → World → Prop, (∀ a' w', S w' → wpOrdT P l.toArray S L rest a' w' → K a' w') → wpList P l.toArray (fun e a' w' => e = .normal ∧ K a' w') (nthOp l i) a w) :
    wpOrdT P l.toArray S L ((false, i) :: rest) a w := by
  have hi' : i < l.length := by simpa using hi
  have ho : l[i]? = some l[i] := List.getElem?_eq_getElem hi'
  have h1 := h (fun a' w' => S w' ∧ wpOrdT P l.toArray S L rest a' w') (fun _ _ h1 h2 => ⟨h1, h2⟩)
  simp only [nthOp_of ho, wpList] at h1
  unfold wpOrdT wpOp
  simp only [List.getElem?_toArray, ho]
  split
  · rename_i hw
    simp only [hw, if_true] at h1
    rcases h1 with h1 | ⟨_, _, _, h1, _⟩
    · refine .inl ?_
      have conv : ∀ r : Result Next, (l[i]).upon P a (fun a' w' => True ∧ S w' ∧ wpOrdT P l.toArray S L rest a' w') (fun e a' w' => e = .normal ∧ S w' ∧ wpOrdT P l.toArray S L rest a' w') r →
          (l[i]).upon P a (fun a' w' => S w' ∧ wpOrdT P l.toArray S L rest a' w') QF r := by
        intro r hr
        cases r with
        | ok n w' =>
          cases n <;> simp only [Oper.upon] at hr ⊢
          case value u => exact hr.2
          case skip => exact hr.2
          case defer d => exact hr.2
          case enter f args =>
            refine Calls.mono hr fun e w'' he => ?_
            cases e with
            | returned u => exact he.2
            | panicked c => cases he.1
            | outgrown => exact (he : LetsOut _).elim fun a h => h.elim fun w h => by cases h.1
          case row row args => exact Rows.mono hr fun u w'' he => he.2
        | halt x w' =>
          cases x <;> simp only [Oper.upon] at hr ⊢
          case panic u => cases hr.1
      exact conv _ h1
    · cases h1
  · rename_i hw
    simp only [hw] at h1
    exact h1.2
end
end Go.Proofs.YtclkkoiaaddllaaGreat

/- A region whose order is open and that has no tail: nothing that is there changes in it. -/
namespace Go.Proofs.YtclkkoiaaddllaaGreat
open Go.RowKit
end Go.Proofs.YtclkkoiaaddllaaGreat

/- A region whose order is open, with one operation (new memory) that may come anywhere among the calls: each place is walked. -/
namespace Go.Proofs.YtclkkoiaaddllaaGreat
open Go.RowKit

section
variable {P : Program} {ops : Array Oper} {Q : Exit → Act → World → Prop} {S : World → Prop}

/-- The head in the order that is given, operation f at any place up to the list's end, then 'post'. -/
def wpOrdF (P : Program) (ops : Array Oper) (S : World → Prop) (L : Act → World → Prop) (f : Nat) (post : List (Bool × Nat)) : List (Bool × Nat) → Act → World → Prop
  | [], a, w => wpOp P ops QF f (fun a' w' => S w' ∧ wpOrdT P ops S L post a' w') a w
  | (true, i) :: rest, a, w => match ops[i]? with
    | some o => if Region.wanted o (yielded ops a.tmps) then o.quiet P a S (fun a' => wpOrdF P ops S L f post rest a' w) else wpOrdF P ops S L f post rest (a.put o.dst undef) w
    | none => False
  | (false, i) :: rest, a, w => wpOp P ops QF i (fun a' w' => S w' ∧ wpOrdF P ops S L f post rest a' w') a w ∧ wpOp P ops QF f (fun a' w' => S w' ∧ wpOrdT P ops S L ((false, i) :: rest ++ post) a' w') a w

def ordOkF (ops : Array Oper) (n f : Nat) (post : List (Bool × Nat)) : List (Bool × Nat) → Array Bool → Bool
  | [], listed => decide (Region.ready .any ops listed = [f]) && decide (f < n) && ordOkT ops n post (listed.setIfInBounds f true)
  | (true, i) :: rest, listed => ((ops[i]?).map fun o => plainOp o.op).getD false && Region.free .any ops listed i && (Region.ready .any ops listed).contains i && decide (i < n) && ordOkF ops n f post rest (listed.setIfInBounds i true)
  | (false, i) :: rest, listed => decide (Region.ready .any ops listed = [i, f]) && decide (i < n) && decide (f < n) && ordOkF ops n f post rest (listed.setIfInBounds i true) && ordOkT ops n ((false, i) :: rest ++ post) (listed.setIfInBounds f true)

theorem wpAnyHL_ordF {n f : Nat} {post : List (Bool × Nat)} {L : Act → World → Prop} (hsel : Region.noSelect ops = true) (hs : Region.sinkB .any ops n = true) (hc : Region.chainB .any ops n = true) (hn : n < ops.size) :
    ∀ (ord : List (Bool × Nat)) (listed : Array Bool) (a : Act) (w : World), HeadInv .any ops n listed → ordOkF ops n f post ord listed = true → S w → wpOrdF P ops S L f post ord a w →
    wpAnyHL P ops S n (fun listed' a' w' => Region.seqB .any ops (ops.size - n) n listed' = true ∧ L a' w') (ord.length + (post.length + 1)) listed a w
  | [], listed, a, w, inv, hB, hS, h => by
    simp only [ordOkF, Bool.and_eq_true, decide_eq_true_eq] at hB
    unfold wpOrdF at h
    rw [show ([] : List (Bool × Nat)).length + (post.length + 1) = post.length + 1 by simp]
    refine ⟨by rw [hB.1.1]; simp, fun j hj => ?_⟩
    have hj' := hj
    rw [hB.1.1] at hj
    obtain rfl : j = f := by simpa using hj
    exact ⟨hB.1.2, wpOp_mono (fun a' w' h => ⟨h.1, wpAnyHL_ord hsel hs hc hn post _ _ _ (inv.set hj' hB.1.2) hB.2 h.1 h.2⟩) h⟩
  | (true, i) :: rest, listed, a, w, inv, hB, hS, h => by
    simp only [ordOkF, Bool.and_eq_true, decide_eq_true_eq] at hB
    obtain ⟨⟨⟨⟨hp, hf⟩, hr⟩, hin⟩, hB'⟩ := hB
    have hr' : i ∈ Region.ready .any ops listed := by simpa using hr
    unfold wpOrdF at h
    rw [show ((true, i) :: rest).length + (post.length + 1) = (rest.length + (post.length + 1)) + 1 by simp; omega]
    cases ho : ops[i]? with
    | none => simp [ho] at h
    | some o =>
      simp only [ho] at h
      have hp' : plainOp o.op = true := by simpa [ho] using hp
      by_cases hw : Region.wanted o (yielded ops a.tmps) = true
      · rw [if_pos hw] at h
        obtain ⟨v, h1, h2⟩ := h
        exact wpAnyHL_first (v := v) ho (Region.noSelect_spec hsel) hs hc hn hin (fun _ _ _ hL => seqB_ready hL.1) _ _ _ _ inv (Region.free_spec ho hf) hr' (quiet_yields hp' hw h1) hS (wpAnyHL_ordF hsel hs hc hn rest _ _ _ (inv.set hr' hin) hB' hS h2)
      · rw [if_neg hw] at h
        exact wpAnyHL_first (v := undef) ho (Region.noSelect_spec hsel) hs hc hn hin (fun _ _ _ hL => seqB_ready hL.1) _ _ _ _ inv (Region.free_spec ho hf) hr' (.inr ⟨by simpa using hw, rfl⟩) hS (wpAnyHL_ordF hsel hs hc hn rest _ _ _ (inv.set hr' hin) hB' hS h)
  | (false, i) :: rest, listed, a, w, inv, hB, hS, h => by
    simp only [ordOkF, Bool.and_eq_true, decide_eq_true_eq] at hB
    obtain ⟨⟨⟨⟨hr, hin⟩, hfn⟩, hB1⟩, hB2⟩ := hB
    unfold wpOrdF at h
    rw [show ((false, i) :: rest).length + (post.length + 1) = (rest.length + (post.length + 1)) + 1 by simp; omega]
    refine ⟨by rw [hr]; simp, fun j hj => ?_⟩
    have hj' := hj
    rw [hr] at hj
    simp only [List.mem_cons, List.not_mem_nil, or_false] at hj
    rcases hj with rfl | rfl
    · exact ⟨hin, wpOp_mono (fun a' w' h => ⟨h.1, wpAnyHL_ordF hsel hs hc hn rest _ _ _ (inv.set hj' hin) hB1 h.1 h.2⟩) h.1⟩
    · refine ⟨hfn, wpOp_mono (fun a' w' h => ⟨h.1, ?_⟩) h.2⟩
      have := wpAnyHL_ord (P := P) (S := S) (L := L) hsel hs hc hn _ _ _ _ (inv.set hj' hfn) hB2 h.1 h.2
      rw [show ((false, i) :: rest ++ post).length = rest.length + (post.length + 1) by simp; omega] at this
      exact this

/-- The beginning; what the head leaves is told by R, the tail is walked once. -/
theorem wp_region_ordF {id : Nat} {a : Act} {w : World} {l : List Oper} (n f : Nat) (pre post : List (Bool × Nat)) (R : Act → Act → World → Prop) (hm : P.follows .mixedOrders = true)
    (hB : (Region.noSelect l.toArray && Region.sinkB .any l.toArray n && Region.chainB .any l.toArray n && decide (n < l.length) && decide (pre.length + (post.length + 1) = n) && ordOkF l.toArray n f post pre (Array.replicate l.length false)) = true)
    (h : wpOrdF P l.toArray (fun w' => ∃ x : ExtOf w, w' = x.val) (fun a' w' => R a a' w') f post pre a w.drew) (hR : ∀ a' w', R a a' w' → wpList P l.toArray Q (l.drop n) a' w') : (Code.region id l.toArray true).wp P Q a w := by
  simp only [Bool.and_eq_true, decide_eq_true_eq] at hB
  obtain ⟨⟨⟨⟨⟨hsel, hs⟩, hc⟩, hn⟩, hlen⟩, hord⟩ := hB
  have hn' : n < l.toArray.size := by simpa using hn
  have inv0 : HeadInv .any l.toArray n (Array.replicate l.length false) :=
    ⟨by simp, fun j oj _ hl => (by rw [getD_replicate_false] at hl; cases hl), fun t _ ht => getD_in (by simpa using ht) (getD_replicate_false _ _)⟩
  have H := wpAnyHL_ordF (P := P) hsel hs hc hn' pre _ a w.drew inv0 hord ⟨⟨w.drew, (Ext.refl w).drew⟩, rfl⟩ h
  have hdl : (l.drop n).length = l.toArray.size - n := by simp
  have H2 := wpAny_of_HL (P := P) (Q := Q) (n := n) (g := l.toArray.size - n) (fun listed a' w' hL => by
    have := wpAny_of_seq (P := P) (ops := l.toArray) (md := .any) (Q' := Q) (l.drop n) n listed a' w' (fun j => by simp) (by rw [hdl]; exact hL.1) (hR _ _ hL.2)
    rwa [hdl] at this) _ _ _ _ H
  rw [hlen] at H2
  have e : n + (l.toArray.size - n) = l.toArray.size := by simp at hn ⊢; omega
  rw [e] at H2
  refine wp_region_any hm ?_
  simpa using H2

theorem wpOp_of {l : List Oper} {a : Act} {w : World} {M : Act → World → Prop} (i : Nat) (hi : decide (i < l.length) = true)
    (h : ∀ K : Act → World → Prop, (∀ a' w', S w' → M a' w' → K a' w') → wpList P l.toArray (fun e a' w' => e = .normal ∧ K a' w') (nthOp l i) a w) :
    wpOp P l.toArray QF i (fun a' w' => S w' ∧ M a' w') a w := wpOrdT_act (L := M) i [] hi h

theorem wpOrdF_quiet {l : List Oper} {w : World} {L : Act → World → Prop} {f : Nat} {post : List (Bool × Nat)} : ∀ (is : List Nat) (rest : List (Bool × Nat)) (a : Act), is.all (fun i => decide (i < l.length)) = true →
    wpQuiet P l.toArray S (fun a' => wpOrdF P l.toArray S L f post rest a' w) (nthOps l is) a → wpOrdF P l.toArray S L f post (is.map (fun i => (true, i)) ++ rest) a w
  | [], _, _, _, h => h
  | i :: is, rest, a, hi, h => by
    simp only [List.all_cons, Bool.and_eq_true, decide_eq_true_eq] at hi
    have ho : l[i]? = some l[i] := List.getElem?_eq_getElem hi.1
    simp only [nthOps, nthOp_of ho, List.singleton_append, wpQuiet] at h
    simp only [List.map_cons, List.cons_append, wpOrdF, List.getElem?_toArray, ho]
    by_cases hw : Region.wanted l[i] (yielded l.toArray a.tmps) = true
    · rw [if_pos hw] at h ⊢
      exact Oper.quiet_mono (fun a' h' => wpOrdF_quiet is rest a' hi.2 h') h
    · rw [if_neg hw] at h ⊢
      exact wpOrdF_quiet is rest _ hi.2 h
theorem wpOrdF_act {l : List Oper} {a : Act} {w : World} {L : Act → World → Prop} {f : Nat} {post : List (Bool × Nat)} (i : Nat) (rest : List (Bool × Nat)) (hi : decide (i < l.length) = true) (hf : decide (f < l.length) = true)
    (h : ∀ K : Act → World → Prop, (∀ a' w', S w' → wpOrdF P l.toArray S L f post rest a' w' → K a' w') → wpList P l.toArray (fun e a' w' => e = .normal ∧ K a' w') (nthOp l i) a w)
    (h2 : ∀ K : Act → World → Prop, (∀ a' w', S w' → wpOrdT P l.toArray S L ((false, i) :: rest ++ post) a' w' → K a' w') → wpList P l.toArray (fun e a' w' => e = .normal ∧ K a' w') (nthOp l f) a w) :
    wpOrdF P l.toArray S L f post ((false, i) :: rest) a w := ⟨wpOp_of i hi h, wpOp_of f hf h2⟩
theorem wpOrdF_end {l : List Oper} {a : Act} {w : World} {L : Act → World → Prop} {f : Nat} {post : List (Bool × Nat)} (hf : decide (f < l.length) = true)
    (h2 : ∀ K : Act → World → Prop, (∀ a' w', S w' → wpOrdT P l.toArray S L post a' w' → K a' w') → wpList P l.toArray (fun e a' w' => e = .normal ∧ K a' w') (nthOp l f) a w) :
    wpOrdF P l.toArray S L f post [] a w := wpOp_of f hf h2
end
end Go.Proofs.YtclkkoiaaddllaaGreat

/- Appending a slice that reads, empty or not, to a slice of the call's own. -/
namespace Go.Proofs.YtclkkoiaaddllaaGreat
open Go.RowKit

theorem run_append_zero {P : Program} (w : World) {base : Nat} {t ty e : TypeId} {size bytes : Nat} (E : Elem P t e size bytes) {v : Value} {n : Nat} {xs : List Value} (hown : w.ownsRow base e size v n xs) (A : Option Addr) (c : Nat) :
    (Builtin.append_ #[t, t] ty #[v, .slice A 0 c]).run P w = .ok v w := by
  obtain ⟨i, z, ht, hi, hz, hsize, hby, hzs, hsz⟩ := E
  rcases hown.2 with ⟨rfl, rfl⟩ | ⟨g, cap, cur, rfl, _, _, hnc, _⟩
  · cases A <;> simp [Builtin.append_, run_underlying ht, sizeOf, typeInfo, hi, Builtin.lenOf, Builtin.firstCells, loadCells, loadCellsFrom]
  · cases A <;> simp [Builtin.append_, run_underlying ht, sizeOf, typeInfo, hi, Builtin.lenOf, Builtin.firstCells, hnc, storeCells, loadCells, loadCellsFrom]

/-- The source may be empty. -/
theorem wpList_appA {P : Program} {w : World} {ops : Array Oper} {rest : List Oper} {o : Oper} {a : Act} {Q : Exit → Act → World → Prop} {t e : TypeId} {size bytes : Nat} (E : Elem P t e size bytes) (hgd : o.guard = none) (s x : Operand)
    (ho : o.op = .call { callee := .builtin .append, args := #[s, x], argTypes := #[t, t] }) (base : Nat) (v : Value) (n : Nat) (xs : List Value) (hs : a.eval s = v) (hown : w.ownsRow base e size v n xs)
    (A : Option Addr) (m c : Nat) (news : List Value) (hx : a.eval x = .slice A m c) (hr : Reads w w.heap.size size A m news) (h1 : ∀ u ∈ news, u.oneCell' = true)
    (h63 : n + m ≤ 9223372036854775807) (hbytes : (n + m) * bytes ≤ 140737488355328) (hbase : base ≤ w.heap.size)
    (h : ∀ v' w', w'.ownsRow base e size v' (n + m) (xs ++ news) → w.grownBy w' v.ownBlock → wpList P ops Q rest (a.put o.dst v') w') :
    wpList P ops Q (o :: rest) a w := by
  rcases Nat.eq_zero_or_pos m with h0 | h0
  · subst h0
    obtain rfl : news = [] := List.eq_nil_of_length_eq_zero (by simpa using hr.1)
    refine wpList_plain hgd fun _ hK => ?_
    unfold Oper.wp execOp
    simp only [ho, resolve, invoke, builtin, Sem.run_bind, Sem.run_pure, Result.andThen_ok, List.map_toArray, List.map_cons, List.map_nil, hs, hx, run_append_zero w E hown A c]
    exact hK _ _ (h v w (by simpa using hown) (World.grownBy.refl w _))
  · exact wpList_appR E hgd s x ho base v n xs hs hown A m c news hx hr h1 h0 h63 hbytes hbase (fun g cap w' h2 h3 _ _ => h _ w' h2 h3)
theorem tk1 {α : Type} {a : α} {l : List α} {i : Nat} : (a :: l).take (i + 1) = a :: l.take i := List.take_succ_cons
theorem tk0 {α : Type} {l : List α} : l.take 0 = [] := List.take_zero
theorem dp1 {α : Type} {a : α} {l : List α} {i : Nat} : (a :: l).drop (i + 1) = l.drop i := List.drop_succ_cons
theorem dp0 {α : Type} {l : List α} : l.drop 0 = l := List.drop_zero
theorem sa0 {α : Type} (l : List α) (i : Nat) (a : α) : l.toArray.setIfInBounds i a = (l.set i a).toArray := List.setIfInBounds_toArray ..
theorem sa1 {α : Type} (a : α) (l : List α) (i : Nat) (b : α) : (a :: l).set (i + 1) b = a :: l.set i b := List.set_cons_succ ..
theorem sa2 {α : Type} (a : α) (l : List α) (b : α) : (a :: l).set 0 b = b :: l := List.set_cons_zero ..
end Go.Proofs.YtclkkoiaaddllaaGreat
