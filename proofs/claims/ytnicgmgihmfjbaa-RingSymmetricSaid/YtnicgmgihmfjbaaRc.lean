/- Ring: Check, has, node; the marks that ranges over functions leave; Hops of the program. -/
import Derived.Test.YtnicgmgihmfjbaaRb
namespace Go.Proofs.Ytnicgmgihmfjbaa
open Go.RowKit Go.Shelf
open Rg (nodeAt link wl way)
attribute [local go_sem] Oper.semAt_some

/-- The length of a ring. -/
def ckB (n : Nat) : Bool := decide (3 ≤ n ∧ n ≤ 40)
def ckI (n : Nat) : Int := if ckB n then 0 else 3
def hasB (n : Nat) (f : Int) : Bool := ckB n && decide (0 ≤ f ∧ f < n)
theorem ckI_ok {n : Nat} (h1 : 3 ≤ n) (h2 : n ≤ 40) : ckI n = 0 := by simp [ckI, ckB, h1, h2]
theorem ckI_bad {n : Nat} (h : n < 3 ∨ 40 < n) : ckI n = 3 := by simp [ckI, ckB]; omega
theorem hasB_ok {n f : Nat} (h1 : 3 ≤ n) (h2 : n ≤ 40) (hf : f < n) : hasB n f = true := by simp [hasB, ckB, h1, h2, hf]
theorem hasB_iff {n : Nat} {f : Int} : hasB n f = true ↔ 3 ≤ n ∧ n ≤ 40 ∧ 0 ≤ f ∧ f < n := by simp [hasB, ckB]; omega

set_option maxRecDepth 100000 in
theorem check_any (A : Option Addr) (n c : Nat) (w : World) (hn : n ≤ 140737488351232) : Calls Try.prog 19 #[.agg #[.slice A n c]] w fun e w' => e = .returned (.int .i64 (ckI n)) ∧ Ext w w' := by
  have H : (n < 3) ∨ (3 ≤ n ∧ n ≤ 40) ∨ (3 ≤ n ∧ 40 < n) := by omega
  rcases H with h | ⟨h1, h2⟩ | ⟨h1, h2⟩
  · have hd : decide (n < 3) = true := by simpa using h
    go_enter Try.func19, Try.ntmps19
    go_wp2
    go_ret
    exact ⟨ret_int (ckI_bad (.inl h)).symm, Ext.new _ _⟩
  · have hd : decide (n < 3) = false := by simp; omega
    have hd2 : decide (40 < n) = false := by simp; omega
    go_enter Try.func19, Try.ntmps19
    go_wp2
    go_ret
    exact ⟨ret_int (ckI_ok h1 h2).symm, Ext.new _ _⟩
  · have hd : decide (n < 3) = false := by simp; omega
    have hd2 : decide (40 < n) = true := by simpa using h2
    go_enter Try.func19, Try.ntmps19
    go_wp2
    go_ret
    exact ⟨ret_int (ckI_bad (.inr h2)).symm, Ext.new _ _⟩
set_option maxRecDepth 100000 in
theorem rcheck_any (A : Option Addr) (n c : Nat) (w : World) (hn : n ≤ 140737488351232) : Calls Try.prog 20 #[.agg #[.slice A n c]] w fun e w' => e = .returned (.int .i64 (ckI n)) ∧ Ext w w' := by
  have H : (n < 3) ∨ (3 ≤ n ∧ n ≤ 40) ∨ (3 ≤ n ∧ 40 < n) := by omega
  rcases H with h | ⟨h1, h2⟩ | ⟨h1, h2⟩
  · have hd : decide (n < 3) = true := by simpa using h
    go_enter Try.func20, Try.ntmps20
    go_wp2
    go_ret
    exact ⟨ret_int (ckI_bad (.inl h)).symm, Ext.new _ _⟩
  · have hd : decide (n < 3) = false := by simp; omega
    have hd2 : decide (40 < n) = false := by simp; omega
    go_enter Try.func20, Try.ntmps20
    go_wp2
    go_ret
    exact ⟨ret_int (ckI_ok h1 h2).symm, Ext.new _ _⟩
  · have hd : decide (n < 3) = false := by simp; omega
    have hd2 : decide (40 < n) = true := by simpa using h2
    go_enter Try.func20, Try.ntmps20
    go_wp2
    go_ret
    exact ⟨ret_int (ckI_bad (.inr h2)).symm, Ext.new _ _⟩

theorem check_v (A : Option Addr) (n c : Nat) (v : Int) (w : World) (hn : n ≤ 140737488351232) (h : ckI n = v) : Calls Try.prog 19 #[.agg #[.slice A n c]] w fun e w' => e = .returned (.int .i64 v) ∧ Ext w w' := by
  subst h; exact check_any A n c w hn
theorem _root_.Go.Boxed.ext {w w' : World} {b : Nat} {t : TypeId} {v : Value} (h : Boxed w b t v) (hx : Ext w w') : Boxed w' b t v := (hx.block b h.lt).trans h

set_option maxRecDepth 100000 in
theorem has_any (A : Option Addr) (n c : Nat) (f : Int) (w : World) (hn : n ≤ 140737488351232) : Calls Try.prog 23 #[.agg #[.slice A n c], .int .i64 f] w fun e w' => e = .returned (.bool (hasB n f)) ∧ Ext w w' := by
  have hck : ckI n = 0 ∨ ckI n = 3 := by unfold ckI; split <;> simp
  have hcb : ckI n = 0 ↔ ckB n = true := by unfold ckI; split <;> simp_all
  by_cases h0 : ckI n = 0
  · have hb := hcb.1 h0
    by_cases h1 : 0 ≤ f
    · have hd : decide (0 ≤ f) = true := by simpa using h1
      have HB := Lib.hid (show hasB n f = decide (f < (n : Int)) by simp [hasB, hb, h1])
      clear hck hcb
      go_enter Try.func23, Try.ntmps23
      go_wp2_with (go_at_call 19; refine (check_v _ _ _ _ _ hn h0).mono ?_; rintro e w1 ⟨rfl, hx⟩; have hc2 := (Boxed.ext (Boxed.new w 24 (.slice A n c)) hx).cell)
      go_ret
      exact ⟨ret_bool HB.out.symm, (Ext.new _ _).trans hx⟩
    · have hd : decide (0 ≤ f) = false := by simpa using h1
      have HB := Lib.hid (show hasB n f = false by simp [hasB, h1])
      clear hck hcb
      go_enter Try.func23, Try.ntmps23
      go_wp2_with (go_at_call 19; refine (check_v _ _ _ _ _ hn h0).mono ?_; rintro e w1 ⟨rfl, hx⟩; have hc2 := (Boxed.ext (Boxed.new w 24 (.slice A n c)) hx).cell)
      go_ret
      exact ⟨ret_bool HB.out.symm, (Ext.new _ _).trans hx⟩
  · have h3 : ckI n = 3 := by rcases hck with h | h; exact absurd h h0; exact h
    have HB := Lib.hid (show hasB n f = false by unfold hasB; rw [show ckB n = false by cases hx : ckB n; rfl; exact absurd (hcb.2 hx) h0]; rfl)
    clear hck hcb h0
    go_enter Try.func23, Try.ntmps23
    go_wp2_with (go_at_call 19; refine (check_v _ _ _ _ _ hn h3).mono ?_; rintro e w1 ⟨rfl, hx⟩)
    go_ret
    exact ⟨ret_bool HB.out.symm, (Ext.new _ _).trans hx⟩

def nodeB (n : Nat) (f : Int) : Bool := decide (0 ≤ f ∧ f < n)
set_option maxRecDepth 100000 in
theorem rnode_any (A : Option Addr) (n c : Nat) (f : Int) (w : World) (_hn : n ≤ 140737488351232) : Calls Try.prog 29 #[.agg #[.slice A n c], .int .i64 f] w fun e w' => e = .returned (.bool (nodeB n f)) ∧ Ext w w' := by
  by_cases h1 : 0 ≤ f
  · have hd : decide (0 ≤ f) = true := by simpa using h1
    have HB := Lib.hid (show nodeB n f = decide (f < (n : Int)) by simp [nodeB, h1])
    go_enter Try.func29, Try.ntmps29
    go_wp2
    go_ret
    exact ⟨ret_bool HB.out.symm, Ext.new _ _⟩
  · have hd : decide (0 ≤ f) = false := by simpa using h1
    have HB := Lib.hid (show nodeB n f = false by simp [nodeB, h1])
    go_enter Try.func29, Try.ntmps29
    go_wp2
    go_ret
    exact ⟨ret_bool HB.out.symm, Ext.new _ _⟩

/-! ### marks -/
/-- The marks of ranges over functions that have ended: distinct blocks from lo on. -/
def Marks (lo : Nat) (w : World) : List Deferred → Prop
  | [] => True
  | d :: ds => (∃ D, lo ≤ D ∧ d = { target := .collected D, args := #[] } ∧ w.heap[D]? = some (.deferred (some [])) ∧ ∀ d' ∈ ds, d'.target ≠ .collected D) ∧ Marks lo w ds
theorem Marks.lt {lo : Nat} {w : World} : ∀ {ds : List Deferred}, Marks lo w ds → ∀ {d : Deferred}, d ∈ ds → ∃ D, D < w.heap.size ∧ lo ≤ D ∧ d.target = .collected D ∧ w.heap[D]? = some (.deferred (some []))
  | d :: ds, ⟨⟨D, hl, e, hh, _⟩, h⟩, d', hd => by
    rcases List.mem_cons.1 hd with rfl | hd
    · exact ⟨D, (Array.getElem?_eq_some_iff.1 hh).1, hl, by rw [e], hh⟩
    · exact h.lt hd
theorem Marks.keep {lo : Nat} {w w' : World} (hk : ∀ D, w.heap[D]? = some (.deferred (some [])) → lo ≤ D → w'.heap[D]? = some (.deferred (some []))) : ∀ {ds : List Deferred}, Marks lo w ds → Marks lo w' ds
  | [], _ => trivial
  | _ :: _, ⟨⟨D, hl, e, hh, hd⟩, h⟩ => ⟨⟨D, hl, e, hk D hh hl, hd⟩, h.keep hk⟩
theorem Marks.cons {lo D : Nat} {w w0 : World} {ds : List Deferred} (h : Marks lo w0 ds) (hD : w0.heap.size ≤ D) (hl : lo ≤ D) (hh : w.heap[D]? = some (.deferred (some [])))
    (hk : ∀ D, w0.heap[D]? = some (.deferred (some [])) → lo ≤ D → w.heap[D]? = some (.deferred (some []))) : Marks lo w ({ target := .collected D, args := #[] } :: ds) :=
  ⟨⟨D, hl, rfl, hh, fun d' hd' e => by obtain ⟨D', h1, _, h2, _⟩ := h.lt hd'; rw [h2] at e; injection e with e; omega⟩, h.keep hk⟩
/-- The marks' blocks are shut, cells stay as they are. -/
def Shut (lo : Nat) (w w' : World) : Prop := Below lo w w' ∧ ∀ (b : Nat) (cs : Array Value) (t : TypeId) (m : Nat × Nat), w.heap[b]? = some (Obj.cells cs t m) → w'.heap[b]? = some (Obj.cells cs t m)
theorem Shut.refl (lo : Nat) (w : World) : Shut lo w w := ⟨Below.refl _ _, fun _ _ _ _ h => h⟩
theorem Shut.trans {lo : Nat} {a b c : World} (h : Shut lo a b) (k : Shut lo b c) : Shut lo a c := ⟨h.1.trans k.1, fun i cs t m x => k.2 i cs t m (h.2 i cs t m x)⟩
theorem Shut.put {lo D : Nat} {w : World} (hl : lo ≤ D) (hh : w.heap[D]? = some (.deferred (some []))) : Shut lo w (w.putObj D (.deferred none)) :=
  ⟨(Below.refl lo w).grown (grownBy_putObj' w D _) (by have := (Array.getElem?_eq_some_iff.1 hh).1; omega) (fun k e => by cases e; exact hl),
   fun b cs t m h => ((grownBy_putObj' w D (.deferred none)).block b (Array.getElem?_eq_some_iff.1 h).1 (fun e => by cases e; rw [h] at hh; cases hh)).trans h⟩
theorem leaves_marks {F : Fence} {n lo : Nat} {P : Program} {fn : Func} {tmps : Array Value} {R : Ending → World → Prop} : ∀ (ds : List Deferred) (w : World), Marks lo w ds →
    (∀ w', Shut lo w w' → LeavesIn F n P fn tmps R [] .returning w') → LeavesInM F n P fn tmps R ds .returning w
  | [], w, _, h => h w (Shut.refl _ _)
  | d :: ds, w, ⟨⟨D, hl, e, hh, hd⟩, hm⟩, h => by
    refine ⟨by simp, .inl ⟨D, _, by rw [e], run_takeDeferred hh, ?_⟩⟩
    refine leaves_marks ds _ ?_ fun w' hw' => h w' ((Shut.put hl hh).trans hw')
    clear h
    have key : ∀ ds : List Deferred, (∀ d' ∈ ds, d'.target ≠ .collected D) → Marks lo w ds → Marks lo (w.putObj D (.deferred none)) ds := by
      intro ds
      induction ds with
      | nil => intro _ _; trivial
      | cons d0 ds ih =>
        rintro hne ⟨⟨D', hl', e', hh', hd'⟩, hm'⟩
        refine ⟨⟨D', hl', e', ?_, hd'⟩, ih (fun x hx => hne x (by simp [hx])) hm'⟩
        have hDD : D' ≠ D := fun e => hne d0 (by simp) (by rw [e', e])
        exact ((grownBy_putObj' w D (.deferred none)).block D' (Array.getElem?_eq_some_iff.1 hh').1 (fun e => by injection e with e; exact hDD e)).trans hh'
    exact key ds hd hm

theorem calls_marks {P : Program} {f : FuncId} {fn : Func} {c : Code} {args : Array Value} {w : World} {R : Ending → World → Prop} (hf : P.funcs[f]? = some fn) (hb : fn.body = some c)
    (h : c.wp P (bodyPostM Fence.wide 3 P fn R) { tmps := args ++ Array.replicate (fn.ntmps - args.size) undef, defers := [] } w) : Calls P f args w R :=
  (callsIn_wide (n := 3)).1 (callsIn_of_wp_marks hf hb trivial (wpIn_wide.2 h) rfl)
end Go.Proofs.Ytnicgmgihmfjbaa
