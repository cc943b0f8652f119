/- A region whose order is open, with one operation (new memory) that may come anywhere among the calls: each place is walked. -/
import Derived.Test.YtfdpbcjcinchgaaDoorOrd2
namespace Go.Proofs.YtfdpbcjcinchgaaDoor
open Go.RowKit

section
variable {P : Program} {ops : Array Oper} {Q : Exit → Act → World → Prop} {S : World → Prop}

/-- The head in the order that is given, operation f at any place up to the list's end, then 'post'. -/
def wpOrdF (P : Program) (ops : Array Oper) (S : World → Prop) (L : Act → World → Prop) (f : Nat) (post : List (Bool × Nat)) : List (Bool × Nat) → Act → World → Prop
  | [], a, w => wpOp P ops QF f (fun a' w' => S w' ∧ wpOrdT P ops S L post a' w') a w
  | (true, i) :: rest, a, w => match ops[i]? with
    | some o => if Region.wanted o (yielded ops a.tmps) then o.quiet P a S (fun a' => wpOrdF P ops S L f post rest a' w) else wpOrdF P ops S L f post rest (a.put o.dst undef) w
    | none => False
  | (false, i) :: rest, a, w => wpOp P ops QF i (fun a' w' => S w' ∧ wpOrdF P ops S L f post rest a' w') a w ∧ wpOp P ops QF f (fun a' w' => S w' ∧ wpOrdT P ops S L ((false, i) :: rest ++ post) a' w') a w

def ordOkF (ops : Array Oper) (n f : Nat) (post : List (Bool × Nat)) : List (Bool × Nat) → Array Bool → Bool
  | [], listed => decide (Region.ready .any ops listed = [f]) && decide (f < n) && ordOkT ops n post (listed.setIfInBounds f true)
  | (true, i) :: rest, listed => ((ops[i]?).map fun o => plainOp o.op).getD false && Region.free .any ops listed i && (Region.ready .any ops listed).contains i && decide (i < n) && ordOkF ops n f post rest (listed.setIfInBounds i true)
  | (false, i) :: rest, listed => decide (Region.ready .any ops listed = [i, f]) && decide (i < n) && decide (f < n) && ordOkF ops n f post rest (listed.setIfInBounds i true) && ordOkT ops n ((false, i) :: rest ++ post) (listed.setIfInBounds f true)

theorem wpAnyHL_ordF {n f : Nat} {post : List (Bool × Nat)} {L : Act → World → Prop} (hsel : Region.noSelect ops = true) (hs : Region.sinkB .any ops n = true) (hc : Region.chainB .any ops n = true) (hn : n < ops.size) :
    ∀ (ord : List (Bool × Nat)) (listed : Array Bool) (a : Act) (w : World), HeadInv .any ops n listed → ordOkF ops n f post ord listed = true → S w → wpOrdF P ops S L f post ord a w →
    wpAnyHL P ops S n (fun listed' a' w' => Region.seqB .any ops (ops.size - n) n listed' = true ∧ L a' w') (ord.length + (post.length + 1)) listed a w
  | [], listed, a, w, inv, hB, hS, h => by
    simp only [ordOkF, Bool.and_eq_true, decide_eq_true_eq] at hB
    unfold wpOrdF at h
    rw [show ([] : List (Bool × Nat)).length + (post.length + 1) = post.length + 1 by simp]
    refine ⟨by rw [hB.1.1]; simp, fun j hj => ?_⟩
    have hj' := hj
    rw [hB.1.1] at hj
    obtain rfl : j = f := by simpa using hj
    exact ⟨hB.1.2, wpOp_mono (fun a' w' h => ⟨h.1, wpAnyHL_ord hsel hs hc hn post _ _ _ (inv.set hj' hB.1.2) hB.2 h.1 h.2⟩) h⟩
  | (true, i) :: rest, listed, a, w, inv, hB, hS, h => by
    simp only [ordOkF, Bool.and_eq_true, decide_eq_true_eq] at hB
    obtain ⟨⟨⟨⟨hp, hf⟩, hr⟩, hin⟩, hB'⟩ := hB
    have hr' : i ∈ Region.ready .any ops listed := by simpa using hr
    unfold wpOrdF at h
    rw [show ((true, i) :: rest).length + (post.length + 1) = (rest.length + (post.length + 1)) + 1 by simp; omega]
    cases ho : ops[i]? with
    | none => simp [ho] at h
    | some o =>
      simp only [ho] at h
      have hp' : plainOp o.op = true := by simpa [ho] using hp
      by_cases hw : Region.wanted o (yielded ops a.tmps) = true
      · rw [if_pos hw] at h
        obtain ⟨v, h1, h2⟩ := h
        exact wpAnyHL_first (v := v) ho (Region.noSelect_spec hsel) hs hc hn hin (fun _ _ _ hL => seqB_ready hL.1) _ _ _ _ inv (Region.free_spec ho hf) hr' (quiet_yields hp' hw h1) hS (wpAnyHL_ordF hsel hs hc hn rest _ _ _ (inv.set hr' hin) hB' hS h2)
      · rw [if_neg hw] at h
        exact wpAnyHL_first (v := undef) ho (Region.noSelect_spec hsel) hs hc hn hin (fun _ _ _ hL => seqB_ready hL.1) _ _ _ _ inv (Region.free_spec ho hf) hr' (.inr ⟨by simpa using hw, rfl⟩) hS (wpAnyHL_ordF hsel hs hc hn rest _ _ _ (inv.set hr' hin) hB' hS h)
  | (false, i) :: rest, listed, a, w, inv, hB, hS, h => by
    simp only [ordOkF, Bool.and_eq_true, decide_eq_true_eq] at hB
    obtain ⟨⟨⟨⟨hr, hin⟩, hfn⟩, hB1⟩, hB2⟩ := hB
    unfold wpOrdF at h
    rw [show ((false, i) :: rest).length + (post.length + 1) = (rest.length + (post.length + 1)) + 1 by simp; omega]
    refine ⟨by rw [hr]; simp, fun j hj => ?_⟩
    have hj' := hj
    rw [hr] at hj
    simp only [List.mem_cons, List.not_mem_nil, or_false] at hj
    rcases hj with rfl | rfl
    · exact ⟨hin, wpOp_mono (fun a' w' h => ⟨h.1, wpAnyHL_ordF hsel hs hc hn rest _ _ _ (inv.set hj' hin) hB1 h.1 h.2⟩) h.1⟩
    · refine ⟨hfn, wpOp_mono (fun a' w' h => ⟨h.1, ?_⟩) h.2⟩
      have := wpAnyHL_ord (P := P) (S := S) (L := L) hsel hs hc hn _ _ _ _ (inv.set hj' hfn) hB2 h.1 h.2
      rw [show ((false, i) :: rest ++ post).length = rest.length + (post.length + 1) by simp; omega] at this
      exact this

/-- The beginning; what the head leaves is told by R, the tail is walked once. -/
theorem wp_region_ordF {id : Nat} {a : Act} {w : World} {l : List Oper} (n f : Nat) (pre post : List (Bool × Nat)) (R : Act → Act → World → Prop) (hm : P.follows .mixedOrders = true)
    (hB : (Region.noSelect l.toArray && Region.sinkB .any l.toArray n && Region.chainB .any l.toArray n && decide (n < l.length) && decide (pre.length + (post.length + 1) = n) && ordOkF l.toArray n f post pre (Array.replicate l.length false)) = true)
    (h : wpOrdF P l.toArray (fun w' => ∃ x : ExtOf w, w' = x.val) (fun a' w' => R a a' w') f post pre a w.drew) (hR : ∀ a' w', R a a' w' → wpList P l.toArray Q (l.drop n) a' w') : (Code.region id l.toArray true).wp P Q a w := by
  simp only [Bool.and_eq_true, decide_eq_true_eq] at hB
  obtain ⟨⟨⟨⟨⟨hsel, hs⟩, hc⟩, hn⟩, hlen⟩, hord⟩ := hB
  have hn' : n < l.toArray.size := by simpa using hn
  have inv0 : HeadInv .any l.toArray n (Array.replicate l.length false) :=
    ⟨by simp, fun j oj _ hl => (by rw [getD_replicate_false] at hl; cases hl), fun t _ ht => getD_in (by simpa using ht) (getD_replicate_false _ _)⟩
  have H := wpAnyHL_ordF (P := P) hsel hs hc hn' pre _ a w.drew inv0 hord ⟨⟨w.drew, (Ext.refl w).drew⟩, rfl⟩ h
  have hdl : (l.drop n).length = l.toArray.size - n := by simp
  have H2 := wpAny_of_HL (P := P) (Q := Q) (n := n) (g := l.toArray.size - n) (fun listed a' w' hL => by
    have := wpAny_of_seq (P := P) (ops := l.toArray) (md := .any) (Q' := Q) (l.drop n) n listed a' w' (fun j => by simp) (by rw [hdl]; exact hL.1) (hR _ _ hL.2)
    rwa [hdl] at this) _ _ _ _ H
  rw [hlen] at H2
  have e : n + (l.toArray.size - n) = l.toArray.size := by simp at hn ⊢; omega
  rw [e] at H2
  refine wp_region_any hm ?_
  simpa using H2

theorem wpOp_of {l : List Oper} {a : Act} {w : World} {M : Act → World → Prop} (i : Nat) (hi : decide (i < l.length) = true)
    (h : ∀ K : Act → World → Prop, (∀ a' w', S w' → M a' w' → K a' w') → wpList P l.toArray (fun e a' w' => e = .normal ∧ K a' w') (nthOp l i) a w) :
    wpOp P l.toArray QF i (fun a' w' => S w' ∧ M a' w') a w := wpOrdT_act (L := M) i [] hi h

theorem wpOrdF_quiet {l : List Oper} {w : World} {L : Act → World → Prop} {f : Nat} {post : List (Bool × Nat)} : ∀ (is : List Nat) (rest : List (Bool × Nat)) (a : Act), is.all (fun i => decide (i < l.length)) = true →
    wpQuiet P l.toArray S (fun a' => wpOrdF P l.toArray S L f post rest a' w) (nthOps l is) a → wpOrdF P l.toArray S L f post (is.map (fun i => (true, i)) ++ rest) a w
  | [], _, _, _, h => h
  | i :: is, rest, a, hi, h => by
    simp only [List.all_cons, Bool.and_eq_true, decide_eq_true_eq] at hi
    have ho : l[i]? = some l[i] := List.getElem?_eq_getElem hi.1
    simp only [nthOps, nthOp_of ho, List.singleton_append, wpQuiet] at h
    simp only [List.map_cons, List.cons_append, wpOrdF, List.getElem?_toArray, ho]
    by_cases hw : Region.wanted l[i] (yielded l.toArray a.tmps) = true
    · rw [if_pos hw] at h ⊢
      exact Oper.quiet_mono (fun a' h' => wpOrdF_quiet is rest a' hi.2 h') h
    · rw [if_neg hw] at h ⊢
      exact wpOrdF_quiet is rest _ hi.2 h
theorem wpOrdF_act {l : List Oper} {a : Act} {w : World} {L : Act → World → Prop} {f : Nat} {post : List (Bool × Nat)} (i : Nat) (rest : List (Bool × Nat)) (hi : decide (i < l.length) = true) (hf : decide (f < l.length) = true)
    (h : ∀ K : Act → World → Prop, (∀ a' w', S w' → wpOrdF P l.toArray S L f post rest a' w' → K a' w') → wpList P l.toArray (fun e a' w' => e = .normal ∧ K a' w') (nthOp l i) a w)
    (h2 : ∀ K : Act → World → Prop, (∀ a' w', S w' → wpOrdT P l.toArray S L ((false, i) :: rest ++ post) a' w' → K a' w') → wpList P l.toArray (fun e a' w' => e = .normal ∧ K a' w') (nthOp l f) a w) :
    wpOrdF P l.toArray S L f post ((false, i) :: rest) a w := ⟨wpOp_of i hi h, wpOp_of f hf h2⟩
theorem wpOrdF_end {l : List Oper} {a : Act} {w : World} {L : Act → World → Prop} {f : Nat} {post : List (Bool × Nat)} (hf : decide (f < l.length) = true)
    (h2 : ∀ K : Act → World → Prop, (∀ a' w', S w' → wpOrdT P l.toArray S L post a' w' → K a' w') → wpList P l.toArray (fun e a' w' => e = .normal ∧ K a' w') (nthOp l f) a w) :
    wpOrdF P l.toArray S L f post [] a w := wpOp_of f hf h2
end
end Go.Proofs.YtfdpbcjcinchgaaDoor
