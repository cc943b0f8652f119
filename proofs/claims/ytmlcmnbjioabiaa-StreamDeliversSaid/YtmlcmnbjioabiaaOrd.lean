/- A region whose order is open, walked in one order: what only reads comes as soon as it may, and what acts (calls, new memory, stores) comes one by one, in the world as it stands. -/
import Derived.Test.YtmlcmnbjioabiaaTame
import Derived.OrdersHeld
namespace Go.Proofs.Ytmlcmnbjioabiaa
open Go.RowKit

theorem andThen_value_ne_skip {s : Result Value} {w' : World} (h : s.andThen (fun x w => Result.ok (Next.value x) w) = .ok .skip w') : False := by
  cases s <;> simp [Result.andThen] at h

theorem plain_no_skip {P : Program} {ev : Operand → Value} {o : Oper} {w w' : World} (hp : plainOp o.op = true) (h : (execOp ev o).run P w = .ok .skip w') : False := by
  obtain ⟨dst, op, ty, pos, af, gd⟩ := o
  cases op <;> simp only [plainOp, Bool.false_eq_true] at hp <;> simp only [execOp, Sem.run_bind, Sem.run_pure] at h
  case call c =>
    obtain ⟨cal, as, ats⟩ := c
    cases cal <;> simp only [Bool.false_eq_true] at hp
    case builtin b =>
      cases b <;> simp only [Bool.false_eq_true] at hp <;> simp only [resolve, Sem.run_bind, Sem.run_pure, Result.andThen_ok, invoke, builtin] at h <;> exact andThen_value_ne_skip h
  case pick c x y => cases hb : (asBool (ev c)).run P w <;> simp [hb, Result.andThen] at h
  all_goals first
    | exact andThen_value_ne_skip h
    | (simp at h; done)

section
variable {P : Program} {ops : Array Oper} {Q Q' : Exit → Act → World → Prop} {S : World → Prop}

theorem upon_mono2 {o : Oper} {a : Act} {K K' : Act → World → Prop} {r : Result Next} (hK : ∀ a w, K a w → K' a w) (hQ : ∀ e a w, Q e a w → Q' e a w) (h : o.upon P a K Q r) : o.upon P a K' Q' r := by
  cases r with
  | ok n w' =>
    cases n <;> simp only [Oper.upon] at h ⊢
    case value u => exact hK _ _ h
    case skip => exact hK _ _ h
    case defer d => exact hK _ _ h
    case enter f args =>
      refine Calls.mono h fun e w'' he => ?_
      cases e with
      | returned u => exact hK _ _ he
      | panicked c => exact hQ _ _ _ he
      | outgrown => exact (he : LetsOut Q).elim fun a h => h.elim fun w h => ⟨a, w, hQ _ _ _ h⟩
    case row row args => exact Rows.mono h fun u w'' he => hK _ _ he
  | halt x w' =>
    cases x <;> simp only [Oper.upon] at h ⊢
    case panic u => exact hQ _ _ _ h

/-- The walk in the order that is given: (true, i) only reads, (false, i) acts. -/
def wpOrd (P : Program) (ops : Array Oper) (Q : Exit → Act → World → Prop) (S : World → Prop) : List (Bool × Nat) → Act → World → Prop
  | [], a, w => Q .normal a w
  | (true, i) :: rest, a, w => match ops[i]? with
    | some o => if Region.wanted o (yielded ops a.tmps) then o.quiet P a S (fun a' => wpOrd P ops Q S rest a' w) else wpOrd P ops Q S rest (a.put o.dst undef) w
    | none => False
  | (false, i) :: rest, a, w => wpOp P ops (fun e a' w' => e ≠ .normal ∧ False ∧ Q e a' w') i (fun a' w' => S w' ∧ wpOrd P ops Q S rest a' w') a w

/-- May it go so? -/
def ordOk (ops : Array Oper) : List (Bool × Nat) → Array Bool → Bool
  | [], listed => (Region.ready .any ops listed).isEmpty
  | (true, i) :: rest, listed => ((ops[i]?).map fun o => plainOp o.op).getD false && Region.free .any ops listed i && (Region.ready .any ops listed).contains i && ordOk ops rest (listed.setIfInBounds i true)
  | (false, i) :: rest, listed => decide (Region.ready .any ops listed = [i]) && ordOk ops rest (listed.setIfInBounds i true)

theorem quiet_yields {o : Oper} {a : Act} {v : Value} (hp : plainOp o.op = true) (hw : Region.wanted o (yielded ops a.tmps) = true) (h : ∀ w, S w → o.quietAt P a S w v) : YieldsIf P ops S o v a := by
  refine .inl ⟨hw, fun w hS => ?_⟩
  have h3 := h w hS
  unfold Oper.quietAt at h3
  generalize hr : (execOp a.eval o).run P w = res at *
  cases res with
  | ok nx w' =>
    cases nx <;> simp only [Oper.quietUpon] at h3
    case value u => obtain ⟨rfl, rfl⟩ := h3; rfl
    case skip => exact (plain_no_skip hp hr).elim
    case enter f args => exact (plain_no_enter hp hr).elim
  | halt x w' => simp only [Oper.quietUpon] at h3

theorem wpAnyH_ord (hs : Region.noSelect ops = true) : ∀ (ord : List (Bool × Nat)) (listed : Array Bool) (a : Act) (w : World), ordOk ops ord listed = true → S w → wpOrd P ops Q S ord a w →
    wpAnyH P .any ops (fun e a' w' => e = .normal ∧ Q e a' w') S ord.length listed a w
  | [], listed, a, w, hB, _, h => ⟨by simpa [ordOk] using hB, rfl, h⟩
  | (true, i) :: rest, listed, a, w, hB, hS, h => by
    simp only [ordOk, Bool.and_eq_true] at hB
    obtain ⟨⟨⟨hp, hf⟩, hr⟩, hB'⟩ := hB
    unfold wpOrd at h
    cases ho : ops[i]? with
    | none => simp [ho] at h
    | some o =>
      simp only [ho] at h
      have hp' : plainOp o.op = true := by simpa [ho] using hp
      by_cases hw : Region.wanted o (yielded ops a.tmps) = true
      · rw [if_pos hw] at h
        obtain ⟨v, h1, h2⟩ := h
        exact wpAnyH_take (v := v) ho hs hf hr (fun _ _ _ h => by cases h.1) (quiet_yields hp' hw h1) hS (wpAnyH_ord hs rest _ _ _ hB' hS h2)
      · rw [if_neg hw] at h
        exact wpAnyH_take (v := undef) ho hs hf hr (fun _ _ _ h => by cases h.1) (.inr ⟨by simpa using hw, rfl⟩) hS (wpAnyH_ord hs rest _ _ _ hB' hS h)
  | (false, i) :: rest, listed, a, w, hB, hS, h => by
    simp only [ordOk, Bool.and_eq_true, decide_eq_true_eq] at hB
    unfold wpOrd at h
    refine wpAnyH_all hB.1 (by simp) (fun j hj => ?_)
    obtain rfl : j = i := by simpa using hj
    have h' : wpOp P ops (fun e a' w' => e = .normal ∧ Q e a' w') j (fun a' w' => S w' ∧ wpOrd P ops Q S rest a' w') a w := by
      unfold wpOp at h ⊢
      split
      · rename_i ho; simp only [ho] at h; exact h
      · rename_i o ho
        simp only [ho] at h
        split
        · rename_i hw
          simp only [hw, if_true] at h
          rcases h with h | ⟨h1, a1, w1, h2⟩
          · exact .inl (upon_mono2 (fun _ _ h => h) (fun _ _ _ h => h.2.1.elim) h)
          · exact h2.2.1.elim
        · rename_i hw
          simp only [hw] at h
          exact h
    exact wpOp_mono (fun a' w' h => ⟨h.1, wpAnyH_ord hs rest _ _ _ hB.2 h.1 h.2⟩) h'

theorem wpAny_mono {md : Region.Mode} (hQ : ∀ e a w, Q e a w → Q' e a w) : ∀ (fuel : Nat) (listed : Array Bool) (a : Act) (w : World), wpAny P md ops Q fuel listed a w → wpAny P md ops Q' fuel listed a w
  | 0, _, _, _, h => ⟨h.1, hQ _ _ _ h.2⟩
  | fuel + 1, listed, a, w, h => ⟨fun h0 => hQ _ _ _ (h.1 h0), fun i hi => by
      have h1 := h.2 i hi
      unfold wpOp at h1 ⊢
      split
      · rename_i ho; simp only [ho] at h1; exact wpAny_mono hQ fuel _ _ _ h1
      · rename_i o ho
        simp only [ho] at h1
        split
        · rename_i hw
          simp only [hw, if_true] at h1
          rcases h1 with h1 | ⟨h1, a1, w1, h2⟩
          · exact .inl (upon_mono2 (fun _ _ h => wpAny_mono hQ fuel _ _ _ h) hQ h1)
          · exact .inr ⟨h1, a1, w1, hQ _ _ _ h2⟩
        · rename_i hw
          simp only [hw] at h1
          exact wpAny_mono hQ fuel _ _ _ h1⟩

/-- The beginning: S holds behind the draw. -/
theorem wp_region_ord {id : Nat} {a : Act} {w : World} {l : List Oper} (S : World → Prop) (ord : List (Bool × Nat)) (hm : P.follows .mixedOrders = true) (hs : Region.noSelect l.toArray = true) (hn : l.length = ord.length)
    (hB : ordOk l.toArray ord (Array.replicate l.length false) = true) (hS : S w.drew) (h : wpOrd P l.toArray Q S ord a w.drew) : (Code.region id l.toArray true).wp P Q a w := by
  refine wp_region_any hm (wpAny_mono (Q := fun e a' w' => e = .normal ∧ Q e a' w') (fun _ _ _ h => h.2) _ _ _ _ (wpAny_of_held (S := S) _ _ _ _ ?_))
  have := wpAnyH_ord (P := P) (Q := Q) hs ord (Array.replicate l.length false) a w.drew hB hS h
  rw [← hn] at this
  simpa using this

/-- The operation at a place of the list. -/
def nthOp : List Oper → Nat → List Oper
  | [], _ => []
  | o :: _, 0 => [o]
  | _ :: l, n + 1 => nthOp l n
def nthOps (l : List Oper) : List Nat → List Oper
  | [] => []
  | i :: is => nthOp l i ++ nthOps l is
theorem nthOp_eq {l : List Oper} {i : Nat} {o : Oper} (h : nthOp l i = [o]) : l[i]? = some o := by
  induction l generalizing i with
  | nil => simp [nthOp] at h
  | cons x l ih =>
    cases i with
    | zero => simpa [nthOp] using h
    | succ i => simpa using ih (by simpa [nthOp] using h)
theorem nthOp_of {l : List Oper} {i : Nat} {o : Oper} (h : l[i]? = some o) : nthOp l i = [o] := by
  induction l generalizing i with
  | nil => simp at h
  | cons x l ih =>
    cases i with
    | zero => simpa [nthOp] using h
    | succ i => simpa [nthOp] using ih (by simpa using h)

/-- Some operations that only read. -/
theorem wpOrd_quiet {l : List Oper} {w : World} : ∀ (is : List Nat) (rest : List (Bool × Nat)) (a : Act), is.all (fun i => decide (i < l.length)) = true →
    wpQuiet P l.toArray S (fun a' => wpOrd P l.toArray Q S rest a' w) (nthOps l is) a → wpOrd P l.toArray Q S (is.map (fun i => (true, i)) ++ rest) a w
  | [], _, _, _, h => h
  | i :: is, rest, a, hi, h => by
    simp only [List.all_cons, Bool.and_eq_true, decide_eq_true_eq] at hi
    have ho : l[i]? = some l[i] := List.getElem?_eq_getElem hi.1
    simp only [nthOps, nthOp_of ho, List.singleton_append, wpQuiet] at h
    simp only [List.map_cons, List.cons_append, wpOrd, List.getElem?_toArray, ho]
    by_cases hw : Region.wanted l[i] (yielded l.toArray a.tmps) = true
    · rw [if_pos hw] at h ⊢
      exact Oper.quiet_mono (fun a' h' => wpOrd_quiet is rest a' hi.2 h') h
    · rw [if_neg hw] at h ⊢
      exact wpOrd_quiet is rest _ hi.2 h

/-- One operation that acts. -/
theorem wpOrd_act {l : List Oper} {a : Act} {w : World} (i : Nat) (rest : List (Bool × Nat)) (hi : decide (i < l.length) = true)
    (h : ∀ K : Act → World → Prop, (∀ a' w', S w' → wpOrd P l.toArray Q S rest a' w' → K a' w') → wpList P l.toArray (fun e a' w' => e = .normal ∧ K a' w') (nthOp l i) a w) :
    wpOrd P l.toArray Q S ((false, i) :: rest) a w := by
  have hi' : i < l.length := by simpa using hi
  have ho : l[i]? = some l[i] := List.getElem?_eq_getElem hi'
  have h1 := h (fun a' w' => S w' ∧ wpOrd P l.toArray Q S rest a' w') (fun _ _ h1 h2 => ⟨h1, h2⟩)
  simp only [nthOp_of ho, wpList] at h1
  unfold wpOrd wpOp
  simp only [List.getElem?_toArray, ho]
  split
  · rename_i hw
    simp only [hw, if_true] at h1
    rcases h1 with h1 | ⟨_, _, _, h1, _⟩
    · refine .inl ?_
      have conv : ∀ r : Result Next, (l[i]).upon P a (fun a' w' => True ∧ S w' ∧ wpOrd P l.toArray Q S rest a' w') (fun e a' w' => e = .normal ∧ S w' ∧ wpOrd P l.toArray Q S rest a' w') r →
          (l[i]).upon P a (fun a' w' => S w' ∧ wpOrd P l.toArray Q S rest a' w') (fun e a' w' => e ≠ .normal ∧ False ∧ Q e a' w') r := by
        intro r hr
        cases r with
        | ok n w' =>
          cases n <;> simp only [Oper.upon] at hr ⊢
          case value u => exact hr.2
          case skip => exact hr.2
          case defer d => exact hr.2
          case enter f args =>
            refine Calls.mono hr fun e w'' he => ?_
            cases e with
            | returned u => exact he.2
            | panicked c => cases he.1
            | outgrown => exact (he : LetsOut _).elim fun a h => h.elim fun w h => by cases h.1
          case row row args => exact Rows.mono hr fun u w'' he => he.2
        | halt x w' =>
          cases x <;> simp only [Oper.upon] at hr ⊢
          case panic u => cases hr.1
      exact conv _ h1
    · cases h1
  · rename_i hw
    simp only [hw] at h1
    exact h1.2
end

/-! The same with a tail that waits for all of the head and goes in the order of the text: there S is no longer asked. -/
section
variable {P : Program} {ops : Array Oper} {Q : Exit → Act → World → Prop} {S : World → Prop}
def QF : Exit → Act → World → Prop := fun _ _ _ => False

def wpAnyHL (P : Program) (ops : Array Oper) (S : World → Prop) (n : Nat) (L : Array Bool → Act → World → Prop) : Nat → Array Bool → Act → World → Prop
  | 0, listed, a, w => L listed a w
  | f + 1, listed, a, w => Region.ready .any ops listed ≠ [] ∧ ∀ i ∈ Region.ready .any ops listed, i < n ∧ wpOp P ops QF i (fun a' w' => S w' ∧ wpAnyHL P ops S n L f (listed.setIfInBounds i true) a' w') a w

theorem wpOp_mono2 {Q Q' : Exit → Act → World → Prop} {i : Nat} {a : Act} {w : World} {K K' : Act → World → Prop} (hK : ∀ a w, K a w → K' a w) (hQ : ∀ e a w, Q e a w → Q' e a w) (h : wpOp P ops Q i K a w) : wpOp P ops Q' i K' a w := by
  unfold wpOp at h ⊢
  split
  · rename_i ho; simp only [ho] at h; exact hK _ _ h
  · rename_i o ho
    simp only [ho] at h
    split
    · rename_i hw
      simp only [hw, if_true] at h
      rcases h with h | ⟨h1, a1, w1, h2⟩
      · exact .inl (upon_mono2 hK hQ h)
      · exact .inr ⟨h1, a1, w1, hQ _ _ _ h2⟩
    · rename_i hw
      simp only [hw] at h
      exact hK _ _ h

theorem wpAny_of_HL {n g : Nat} {L : Array Bool → Act → World → Prop} (hL : ∀ listed a w, L listed a w → wpAny P .any ops Q g listed a w) :
    ∀ (f : Nat) (listed : Array Bool) (a : Act) (w : World), wpAnyHL P ops S n L f listed a w → wpAny P .any ops Q (f + g) listed a w
  | 0, listed, a, w, h => by rw [Nat.zero_add]; exact hL _ _ _ h
  | f + 1, listed, a, w, h => by
    rw [show f + 1 + g = (f + g) + 1 by omega]
    exact ⟨fun h0 => absurd h0 h.1, fun i hi => wpOp_mono2 (fun a' w' h' => wpAny_of_HL hL f _ a' w' h'.2) (fun _ _ _ h => h.elim) (h.2 i hi).2⟩

theorem wpAnyHL_first {n i : Nat} {oi : Oper} {v : Value} {L : Array Bool → Act → World → Prop} (hi : ops[i]? = some oi) (hsel : ∀ (j : Nat) (o : Oper) cs b, ops[j]? = some o → o.op ≠ .select cs b)
    (hs : Region.sinkB .any ops n = true) (hc : Region.chainB .any ops n = true) (hn : n < ops.size) (hin : i < n)
    (hdone : ∀ listed a w, L listed a w → ∀ j ∈ Region.ready .any ops listed, n ≤ j) :
    ∀ (f : Nat) (listed : Array Bool) (a : Act) (w : World), HeadInv .any ops n listed →
      (∀ j oj, ops[j]? = some oj → j ≠ i → listed.getD j true = false → (∀ e ∈ oj.after, Region.binds .any e = true → e.on ≠ i) → oi.apart ops oj = true) →
      i ∈ Region.ready .any ops listed → YieldsIf P ops S oi v a → S w →
      wpAnyHL P ops S n L f (listed.setIfInBounds i true) (a.put oi.dst v) w → wpAnyHL P ops S n L (f + 1) listed a w := by
  intro f
  induction f with
  | zero =>
    intro listed a w inv _ hr hy hS H
    have hun := (mem_ready.1 hr).1
    refine ⟨fun h => (by rw [h] at hr; cases hr), fun j hj => ?_⟩
    have hjn : j < n := by
      rcases Nat.lt_or_ge j n with h | h
      · exact h
      · exact absurd hj (tail_waits hs hc hn inv _ i rfl hin hun j h)
    refine ⟨hjn, ?_⟩
    by_cases hji : j = i
    · subst hji; exact hy.wpOp hi hS ⟨hS, H⟩
    · have := hdone _ _ _ H j (ready_mono hj hji)
      omega
  | succ f ih =>
    intro listed a w inv hfree hr hy hS H
    have hun := (mem_ready.1 hr).1
    refine ⟨fun h => (by rw [h] at hr; cases hr), fun j hj => ?_⟩
    have hjn : j < n := by
      rcases Nat.lt_or_ge j n with h | h
      · exact h
      · exact absurd hj (tail_waits hs hc hn inv _ i rfl hin hun j h)
    refine ⟨hjn, ?_⟩
    by_cases hji : j = i
    · subst hji; exact hy.wpOp hi hS ⟨hS, H⟩
    · have h1 := (H.2 j (ready_mono hj hji)).2
      obtain ⟨hjun, oj, hoj, hall⟩ := mem_ready.1 hj
      have hnot : ∀ e ∈ oj.after, Region.binds .any e = true → e.on ≠ i := fun e he hb heq => by
        have h1 := hall e he hb
        rw [heq, getD_both hun] at h1
        cases h1
      have h2 := wpOp_putIf hoj (hfree j oj hoj hji hjun hnot) (fun cs b => hsel i oi cs b hi) (fun cs b => hsel j oj cs b hoj) (fun _ _ _ h => h) hy h1
      have hfree' : ∀ k ok, ops[k]? = some ok → k ≠ i → (listed.setIfInBounds j true).getD k true = false →
          (∀ e ∈ ok.after, Region.binds .any e = true → e.on ≠ i) → oi.apart ops ok = true := fun k ok hk hki hun' hno => by
        refine hfree k ok hk hki ?_ hno
        by_cases hjk : j = k
        · subst hjk; exact hjun
        · rw [getD_set_ne true hjk] at hun'; exact hun'
      refine wpOp_mono (fun a' w' h3 => ⟨h3.2.1, ih (listed.setIfInBounds j true) a' w' (inv.set hj hjn) hfree' (ready_mono hr (Ne.symm hji)) h3.1 h3.2.1 ?_⟩) h2
      rw [Array.setIfInBounds_comm _ _ hji]
      exact h3.2.2

/-- The head in the order that is given. -/
def wpOrdT (P : Program) (ops : Array Oper) (S : World → Prop) (L : Act → World → Prop) : List (Bool × Nat) → Act → World → Prop
  | [], a, w => L a w
  | (true, i) :: rest, a, w => match ops[i]? with
    | some o => if Region.wanted o (yielded ops a.tmps) then o.quiet P a S (fun a' => wpOrdT P ops S L rest a' w) else wpOrdT P ops S L rest (a.put o.dst undef) w
    | none => False
  | (false, i) :: rest, a, w => wpOp P ops QF i (fun a' w' => S w' ∧ wpOrdT P ops S L rest a' w') a w

def ordOkT (ops : Array Oper) (n : Nat) : List (Bool × Nat) → Array Bool → Bool
  | [], listed => Region.seqB .any ops (ops.size - n) n listed
  | (true, i) :: rest, listed => ((ops[i]?).map fun o => plainOp o.op).getD false && Region.free .any ops listed i && (Region.ready .any ops listed).contains i && decide (i < n) && ordOkT ops n rest (listed.setIfInBounds i true)
  | (false, i) :: rest, listed => decide (Region.ready .any ops listed = [i]) && decide (i < n) && ordOkT ops n rest (listed.setIfInBounds i true)

theorem wpAnyHL_ord {n : Nat} {L : Act → World → Prop} (hsel : Region.noSelect ops = true) (hs : Region.sinkB .any ops n = true) (hc : Region.chainB .any ops n = true) (hn : n < ops.size) :
    ∀ (ord : List (Bool × Nat)) (listed : Array Bool) (a : Act) (w : World), HeadInv .any ops n listed → ordOkT ops n ord listed = true → S w → wpOrdT P ops S L ord a w →
    wpAnyHL P ops S n (fun listed' a' w' => Region.seqB .any ops (ops.size - n) n listed' = true ∧ L a' w') ord.length listed a w
  | [], listed, a, w, _, hB, _, h => ⟨by simpa [ordOkT] using hB, h⟩
  | (true, i) :: rest, listed, a, w, inv, hB, hS, h => by
    simp only [ordOkT, Bool.and_eq_true, decide_eq_true_eq] at hB
    obtain ⟨⟨⟨⟨hp, hf⟩, hr⟩, hin⟩, hB'⟩ := hB
    have hr' : i ∈ Region.ready .any ops listed := by simpa using hr
    unfold wpOrdT at h
    cases ho : ops[i]? with
    | none => simp [ho] at h
    | some o =>
      simp only [ho] at h
      have hp' : plainOp o.op = true := by simpa [ho] using hp
      by_cases hw : Region.wanted o (yielded ops a.tmps) = true
      · rw [if_pos hw] at h
        obtain ⟨v, h1, h2⟩ := h
        exact wpAnyHL_first (v := v) ho (Region.noSelect_spec hsel) hs hc hn hin (fun _ _ _ hL => seqB_ready hL.1) _ _ _ _ inv (Region.free_spec ho hf) hr' (quiet_yields hp' hw h1) hS (wpAnyHL_ord hsel hs hc hn rest _ _ _ (inv.set hr' hin) hB' hS h2)
      · rw [if_neg hw] at h
        exact wpAnyHL_first (v := undef) ho (Region.noSelect_spec hsel) hs hc hn hin (fun _ _ _ hL => seqB_ready hL.1) _ _ _ _ inv (Region.free_spec ho hf) hr' (.inr ⟨by simpa using hw, rfl⟩) hS (wpAnyHL_ord hsel hs hc hn rest _ _ _ (inv.set hr' hin) hB' hS h)
  | (false, i) :: rest, listed, a, w, inv, hB, hS, h => by
    simp only [ordOkT, Bool.and_eq_true, decide_eq_true_eq] at hB
    unfold wpOrdT at h
    refine ⟨by rw [hB.1.1]; simp, fun j hj => ?_⟩
    have hj' := hj
    rw [hB.1.1] at hj
    obtain rfl : j = i := by simpa using hj
    exact ⟨hB.1.2, wpOp_mono (fun a' w' h => ⟨h.1, wpAnyHL_ord hsel hs hc hn rest _ _ _ (inv.set hj' hB.1.2) hB.2 h.1 h.2⟩) h⟩

/-- The beginning, with a tail from operation n on. -/
theorem wp_region_ordT {id : Nat} {a : Act} {w : World} {l : List Oper} (n : Nat) (S : World → Prop) (ord : List (Bool × Nat)) (hm : P.follows .mixedOrders = true)
    (hB : (Region.noSelect l.toArray && Region.sinkB .any l.toArray n && Region.chainB .any l.toArray n && decide (n < l.length) && decide (ord.length = n) && ordOkT l.toArray n ord (Array.replicate l.length false)) = true) (hS : S w.drew)
    (h : wpOrdT P l.toArray S (fun a' w' => wpList P l.toArray Q (l.drop n) a' w') ord a w.drew) : (Code.region id l.toArray true).wp P Q a w := by
  simp only [Bool.and_eq_true, decide_eq_true_eq] at hB
  obtain ⟨⟨⟨⟨⟨hsel, hs⟩, hc⟩, hn⟩, hlen⟩, hord⟩ := hB
  have hn' : n < l.toArray.size := by simpa using hn
  have inv0 : HeadInv .any l.toArray n (Array.replicate l.length false) :=
    ⟨by simp, fun j oj _ hl => (by rw [getD_replicate_false] at hl; cases hl), fun t _ ht => getD_in (by simpa using ht) (getD_replicate_false _ _)⟩
  have H := wpAnyHL_ord (P := P) hsel hs hc hn' ord _ a w.drew inv0 hord hS h
  have hdl : (l.drop n).length = l.toArray.size - n := by simp
  have H2 := wpAny_of_HL (P := P) (Q := Q) (n := n) (g := l.toArray.size - n) (fun listed a' w' hL => by
    have := wpAny_of_seq (P := P) (ops := l.toArray) (md := .any) (Q' := Q) (l.drop n) n listed a' w' (fun j => by simp) (by rw [hdl]; exact hL.1) hL.2
    rwa [hdl] at this) _ _ _ _ H
  rw [hlen] at H2
  have e : n + (l.toArray.size - n) = l.toArray.size := by simp at hn ⊢; omega
  rw [e] at H2
  refine wp_region_any hm ?_
  simpa using H2

/-- The beginning: nothing that is there changes in the head. -/
theorem wp_region_ordE {id : Nat} {a : Act} {w : World} {l : List Oper} (n : Nat) (ord : List (Bool × Nat)) (hm : P.follows .mixedOrders = true)
    (hB : (Region.noSelect l.toArray && Region.sinkB .any l.toArray n && Region.chainB .any l.toArray n && decide (n < l.length) && decide (ord.length = n) && ordOkT l.toArray n ord (Array.replicate l.length false)) = true)
    (h : wpOrdT P l.toArray (fun w' => ∃ x : ExtOf w, w' = x.val) (fun a' w' => wpList P l.toArray Q (l.drop n) a' w') ord a w.drew) : (Code.region id l.toArray true).wp P Q a w :=
  wp_region_ordT n _ ord hm hB ⟨⟨w.drew, (Ext.refl w).drew⟩, rfl⟩ h

theorem wpOrdT_quiet {l : List Oper} {w : World} {L : Act → World → Prop} : ∀ (is : List Nat) (rest : List (Bool × Nat)) (a : Act), is.all (fun i => decide (i < l.length)) = true →
    wpQuiet P l.toArray S (fun a' => wpOrdT P l.toArray S L rest a' w) (nthOps l is) a → wpOrdT P l.toArray S L (is.map (fun i => (true, i)) ++ rest) a w
  | [], _, _, _, h => h
  | i :: is, rest, a, hi, h => by
    simp only [List.all_cons, Bool.and_eq_true, decide_eq_true_eq] at hi
    have ho : l[i]? = some l[i] := List.getElem?_eq_getElem hi.1
    simp only [nthOps, nthOp_of ho, List.singleton_append, wpQuiet] at h
    simp only [List.map_cons, List.cons_append, wpOrdT, List.getElem?_toArray, ho]
    by_cases hw : Region.wanted l[i] (yielded l.toArray a.tmps) = true
    · rw [if_pos hw] at h ⊢
      exact Oper.quiet_mono (fun a' h' => wpOrdT_quiet is rest a' hi.2 h') h
    · rw [if_neg hw] at h ⊢
      exact wpOrdT_quiet is rest _ hi.2 h

theorem wpOrdT_act {l : List Oper} {a : Act} {w : World} {L : Act → World → Prop} (i : Nat) (rest : List (Bool × Nat)) (hi : decide (i < l.length) = true)
    (h : ∀ K : Act → World → Prop, (∀ a' w', S w' → wpOrdT P l.toArray S L rest a' w' → K a' w') → wpList P l.toArray (fun e a' w' => e = .normal ∧ K a' w') (nthOp l i) a w) :
    wpOrdT P l.toArray S L ((false, i) :: rest) a w := by
  have hi' : i < l.length := by simpa using hi
  have ho : l[i]? = some l[i] := List.getElem?_eq_getElem hi'
  have h1 := h (fun a' w' => S w' ∧ wpOrdT P l.toArray S L rest a' w') (fun _ _ h1 h2 => ⟨h1, h2⟩)
  simp only [nthOp_of ho, wpList] at h1
  unfold wpOrdT wpOp
  simp only [List.getElem?_toArray, ho]
  split
  · rename_i hw
    simp only [hw, if_true] at h1
    rcases h1 with h1 | ⟨_, _, _, h1, _⟩
    · refine .inl ?_
      have conv : ∀ r : Result Next, (l[i]).upon P a (fun a' w' => True ∧ S w' ∧ wpOrdT P l.toArray S L rest a' w') (fun e a' w' => e = .normal ∧ S w' ∧ wpOrdT P l.toArray S L rest a' w') r →
          (l[i]).upon P a (fun a' w' => S w' ∧ wpOrdT P l.toArray S L rest a' w') QF r := by
        intro r hr
        cases r with
        | ok n w' =>
          cases n <;> simp only [Oper.upon] at hr ⊢
          case value u => exact hr.2
          case skip => exact hr.2
          case defer d => exact hr.2
          case enter f args =>
            refine Calls.mono hr fun e w'' he => ?_
            cases e with
            | returned u => exact he.2
            | panicked c => cases he.1
            | outgrown => exact (he : LetsOut _).elim fun a h => h.elim fun w h => by cases h.1
          case row row args => exact Rows.mono hr fun u w'' he => he.2
        | halt x w' =>
          cases x <;> simp only [Oper.upon] at hr ⊢
          case panic u => cases hr.1
      exact conv _ h1
    · cases h1
  · rename_i hw
    simp only [hw] at h1
    exact h1.2
end
end Go.Proofs.Ytmlcmnbjioabiaa
