/- Contracts: copies; sums of integers. -/
import Derived.Test.YtfdpbcjcinchgaaDoorIh
namespace Go.Proofs.YtfdpbcjcinchgaaDoor
open Go.RowKit
set_option linter.unusedVariables false

set_option maxRecDepth 100000 in
set_option maxHeartbeats 400000 in
theorem clone_own (A : Option Addr) (n c : Nat) (l : List Nat) (w : World) (h : RM w A n c l) (hn : n ≤ 1000000) :
    Calls Tryd.prog 52 #[.slice A n c] w fun e w' => ∃ v, e = .returned v ∧ w'.ownsRow w.heap.size 34 1 v n (mg l) ∧ Ext w w' := by
  cases A with
  | none =>
    have hn0 : n = 0 := by
      rcases Nat.eq_zero_or_pos n with h0 | h0
      · exact h0
      · obtain ⟨ad, _, e, _⟩ := h.at_ h0; cases e
    subst hn0
    obtain rfl := h.empty
    have heq := Lib.run_eql_slice_nil (P := Tryd.prog) (t := 22) (a := none) (n := 0) (c := c) (n' := 0) (c' := 0) (h := Tryd.underlying22)
    go_enter Tryd.func52, Tryd.ntmps52
    go_wp2
    all_goals
      go_ret
      exact ⟨_, rfl, World.ownsRow_nil _ _ _ _, Ext.refl _⟩
  | some ad =>
    have heq := Lib.run_eql_slice_nil (P := Tryd.prog) (t := 22) (a := some ad) (n := n) (c := c) (n' := 0) (c' := 0) (h := Tryd.underlying22)
    go_enter Tryd.func52, Tryd.ntmps52
    go_wp2_with (at_builtin; refine wpList_appA elem_u32 rfl (.tmp 5) (.tmp 6) rfl w.heap.size _ 0 [] (by rfl) (World.ownsRow_lit _ _ _ (by omega) (by omega) (by simp)) _ n _ (mg l) (by rfl) (h.ext (Ext.new w _)).rd mg_one (by omega) (by omega) (by simp) ?_)
    intro v1 w1 ho hg
    go_wp2
    go_ret
    exact ⟨_, rfl, by simpa using ho, own_grown hg (Ext.new _ _) (by simp [Value.ownBlock])⟩
theorem clone_any (A : Option Addr) (n c : Nat) (l : List Nat) (w : World) (h : RM w A n c l) (hn : n ≤ 1000000) :
    Calls Tryd.prog 52 #[.slice A n c] w fun e w' => ∃ v, e = .returned v ∧ SlM l v w' ∧ Ext w w' :=
  (clone_own A n c l w h hn).mono fun _ _ ⟨v, h1, h2, h3⟩ => ⟨v, h1, RM.of_own h2 h.dg, h3⟩

theorem Ext.undrew {w w' : World} (h : Ext w.drew w') : Ext w w' := ((Ext.refl w).drew).trans h
/-- Three boxes: two arguments and a result. -/
theorem box3 {w w1 : World} {x y r : Obj} (hx : Ext (((w.alloc x).alloc y).alloc r) w1) : Ext w w1 := (((Ext.new w _).alloc _).alloc _).trans hx
theorem box3a {w w1 : World} {cs : Array Value} {t : TypeId} {y r : Obj} (hx : Ext (((w.alloc (.cells cs t)).alloc y).alloc r) w1) : Blk w1 w.heap.size t cs := (((Blk.new w t cs).alloc _).alloc _).ext hx
theorem box3b {w w1 : World} {cs : Array Value} {t : TypeId} {x r : Obj} (hx : Ext (((w.alloc x).alloc (.cells cs t)).alloc r) w1) : Blk w1 (w.heap.size + 1) t cs := ((Blk.new' t cs (by simp)).alloc _).ext hx
theorem box3c {w w1 : World} {cs : Array Value} {t : TypeId} {x y : Obj} (hx : Ext (((w.alloc x).alloc y).alloc (.cells cs t)) w1) : Blk w1 (w.heap.size + 2) t cs := (Blk.new' t cs (by simp)).ext hx

set_option maxRecDepth 100000 in
set_option maxHeartbeats 800000 in
theorem sum_same (neg : Bool) (A B : Option Addr) (n m c d : Nat) (a b : List Nat) (w : World) (hA : RM w A n c a) (hB : RM w B m d b) (hn : n ≤ 1000000) (hm : m ≤ 1000000) :
    Calls Tryd.prog 62 #[iv neg A n c, iv neg B m d] w fun e w' => ∃ v, e = .returned v ∧ RetI (resS (zOf neg (val a + val b))) v w' ∧ Ext w w' := by
  have hnn : (neg == neg) = true := by simp
  go_enter Tryd.func62, Tryd.ntmps62
  go_wp2
  have X0 : Ext (((w.alloc (.cells #[.bool neg, .slice A n c] 24)).alloc (.cells #[.bool neg, .slice B m d] 24)).alloc (.cells #[.bool false, .slice none 0 0] 24)) (((w.alloc (.cells #[.bool neg, .slice A n c] 24)).alloc (.cells #[.bool neg, .slice B m d] 24)).alloc (.cells #[.bool false, .slice none 0 0] 24)) := Ext.refl _
  have Y0 := ExtOf.blk (box3a X0)
  have Y1 := ExtOf.blk (box3b X0)
  refine wp_region_ordE 10 [(true, 0), (true, 1), (true, 2), (true, 3), (true, 4), (true, 5), (false, 6), (false, 7), (true, 8), (true, 9)] (by kernel_rfl) (by kernel_rfl) ?_
  refine wpOrdT_quiet [0, 1, 2, 3, 4, 5] [(false, 6), (false, 7), (true, 8), (true, 9)] _ (by kernel_rfl) ?_
  simp only [nthOps, nthOp, List.cons_append, List.nil_append]
  repeat (go_big_quiet_step (fail))
  refine wpQuiet_nil ?_
  refine wpOrdT_act 6 [(false, 7), (true, 8), (true, 9)] (by kernel_rfl) ?_
  intro K hK
  simp only [nthOp]
  go_wp2_with fail
  have E0 : Ext w (((w.alloc (.cells #[.bool neg, .slice A n c] 24)).alloc (.cells #[.bool neg, .slice B m d] 24)).alloc (.cells #[.bool false, .slice none 0 0] 24)).drew := (box3 X0).drew
  refine (addMag_any A B n m c d a b _ (hA.ext E0) (hB.ext E0) hn hm).mono ?_
  rintro e w1 ⟨v1, rfl, ⟨A1, n1, c1, rfl, hR⟩, hx1⟩
  have hx1 := hx1.undrew
  go_wp2
  refine hK _ _ ⟨⟨w1, hx1⟩, rfl⟩ ?_
  clear hK K
  refine wpOrdT_act 7 [(true, 8), (true, 9)] (by kernel_rfl) ?_
  intro K hK
  simp only [nthOp]
  go_wp2_with fail
  refine (result_any neg A1 n1 c1 _ _ hR).mono ?_
  rintro e w2 ⟨v2, rfl, ⟨u, rfl, A2, n2, c2, rfl, hI⟩, hx2⟩
  rw [val_digs] at hI
  rw [val_digs]
  have hx2 := hx1.trans hx2
  go_wp2
  refine hK _ _ ⟨⟨w2, hx2⟩, rfl⟩ ?_
  clear hK K
  refine wpOrdT_quiet [8, 9] [] _ (by kernel_rfl) ?_
  simp only [nthOps, nthOp, List.cons_append, List.nil_append]
  repeat (go_big_quiet_step (fail))
  refine wpQuiet_nil ?_
  simp only [wpOrdT, List.drop_succ_cons, List.drop_zero]
  have b4 := box3c hx2
  have c4 := b4.cell
  have f4 := b4.frozen
  obtain ⟨k1, k2, k3⟩ := put2 (box3 hx2) (by omega) b4 _ A2 n2 c2
  have K1 := Lib.hid k1; have K2 := Lib.hid k2; have K3 := Lib.hid (k3 _ _ _ _ hI); clear k1 k2 k3
  go_wp2
  exact bp_int2 rfl rfl rfl K2.out ⟨_, rfl, ⟨_, rfl, _, _, _, rfl, K3.out⟩, K1.out⟩

theorem cmp_ge0 {p q : Nat} (h : q ≤ p) : decide (0 ≤ cmpN p q) = true := by
  have h1 : ¬ p < q := by omega
  by_cases h2 : q < p <;> simp [cmpN, h1, h2]
theorem cmp_lt0 {p q : Nat} (h : p < q) : decide (0 ≤ cmpN p q) = false := by unfold cmpN; simp [h]

set_option maxRecDepth 100000 in
set_option maxHeartbeats 800000 in
theorem sum_ge (neg neg' : Bool) (A B : Option Addr) (n m c d p q : Nat) (w : World) (hA : RM w A n c (digs p)) (hB : RM w B m d (digs q)) (hn : n ≤ 1000000) (hm : m ≤ 1000000) (hne : (neg == neg') = false) (hpq : q ≤ p) :
    Calls Tryd.prog 62 #[iv neg A n c, iv neg' B m d] w fun e w' => ∃ v, e = .returned v ∧ RetI (resS (zOf neg (p - q))) v w' ∧ Ext w w' := by
  have hl1 := hA.len
  have hl2 := hB.len
  have hle : m ≤ n := by
    have h1 := digs_len_le (n := q) (k := n) (Nat.lt_of_le_of_lt (show q ≤ p by omega) (lt_of_digs_len (by omega)))
    omega
  clear hl1 hl2
  have HPQ := Lib.hid hpq; clear hpq
  go_enter Tryd.func62, Tryd.ntmps62
  go_wp2_with fail
  refine (compareMag_any A B n m c d _ _ _ (hA.ext (((Ext.new w _).alloc _).alloc _)) (hB.ext (((Ext.new w _).alloc _).alloc _)) (canon_digs _) (canon_digs _)).mono ?_
  rintro e w0 ⟨rfl, hx0⟩
  rw [val_digs, val_digs]
  have hcmp := cmp_ge0 HPQ.out
  have c0 := (box3a hx0).cell
  have c1 := (box3b hx0).cell
  go_wp2
  clear c0 c1 hcmp
  have Y0 := ExtOf.blk (box3a hx0)
  have Y1 := ExtOf.blk (box3b hx0)
  refine wp_region_ordE 10 [(true, 0), (true, 1), (true, 2), (true, 3), (true, 4), (true, 5), (false, 6), (false, 7), (true, 8), (true, 9)] (by kernel_rfl) (by kernel_rfl) ?_
  refine wpOrdT_quiet [0, 1, 2, 3, 4, 5] [(false, 6), (false, 7), (true, 8), (true, 9)] _ (by kernel_rfl) ?_
  simp only [nthOps, nthOp, List.cons_append, List.nil_append]
  repeat (go_big_quiet_step (fail))
  refine wpQuiet_nil ?_
  refine wpOrdT_act 6 [(false, 7), (true, 8), (true, 9)] (by kernel_rfl) ?_
  intro K hK
  simp only [nthOp]
  go_wp2_with fail
  refine (subMag_any A B n m c d _ _ _ (hA.ext (box3 hx0).drew) (hB.ext (box3 hx0).drew) (by omega) hle (by rw [val_digs, val_digs]; have := HPQ.out; omega)).mono ?_
  rintro e w1 ⟨v1, rfl, ⟨A1, n1, c1, rfl, hR⟩, hx1⟩
  have hx1 := hx1.undrew
  go_wp2
  refine hK _ _ ⟨⟨w1, hx1⟩, rfl⟩ ?_
  clear hK K
  refine wpOrdT_act 7 [(true, 8), (true, 9)] (by kernel_rfl) ?_
  intro K hK
  simp only [nthOp]
  go_wp2_with fail
  refine (result_any neg A1 n1 c1 _ _ hR).mono ?_
  rintro e w2 ⟨v2, rfl, ⟨u, rfl, A2, n2, c2, rfl, hI⟩, hx2⟩
  rw [val_digs, val_digs, val_digs] at hI
  rw [val_digs, val_digs, val_digs]
  have hx2 := hx1.trans hx2
  go_wp2
  refine hK _ _ ⟨⟨w2, hx2⟩, rfl⟩ ?_
  clear hK K
  refine wpOrdT_quiet [8, 9] [] _ (by kernel_rfl) ?_
  simp only [nthOps, nthOp, List.cons_append, List.nil_append]
  repeat (go_big_quiet_step (fail))
  refine wpQuiet_nil ?_
  have hx2 := hx0.trans hx2
  simp only [wpOrdT, List.drop_succ_cons, List.drop_zero]
  have b4 := box3c hx2
  have c4 := b4.cell
  have f4 := b4.frozen
  obtain ⟨k1, k2, k3⟩ := put2 (box3 hx2) (by omega) b4 _ A2 n2 c2
  have K1 := Lib.hid k1; have K2 := Lib.hid k2; have K3 := Lib.hid (k3 _ _ _ _ hI); clear k1 k2 k3
  go_wp2
  exact bp_int2 rfl rfl rfl K2.out ⟨_, rfl, ⟨_, rfl, _, _, _, rfl, K3.out⟩, K1.out⟩
set_option maxRecDepth 100000 in
set_option maxHeartbeats 800000 in
theorem sum_lt (neg neg' : Bool) (A B : Option Addr) (n m c d p q : Nat) (w : World) (hA : RM w A n c (digs p)) (hB : RM w B m d (digs q)) (hn : n ≤ 1000000) (hm : m ≤ 1000000) (hne : (neg == neg') = false) (hpq : p < q) :
    Calls Tryd.prog 62 #[iv neg A n c, iv neg' B m d] w fun e w' => ∃ v, e = .returned v ∧ RetI (resS (zOf neg' (q - p))) v w' ∧ Ext w w' := by
  have hl1 := hA.len
  have hl2 := hB.len
  have hle : n ≤ m := by
    have h1 := digs_len_le (n := p) (k := m) (Nat.lt_of_le_of_lt (show p ≤ q by omega) (lt_of_digs_len (by omega)))
    omega
  clear hl1 hl2
  have HPQ := Lib.hid hpq; clear hpq
  go_enter Tryd.func62, Tryd.ntmps62
  go_wp2_with fail
  refine (compareMag_any A B n m c d _ _ _ (hA.ext (((Ext.new w _).alloc _).alloc _)) (hB.ext (((Ext.new w _).alloc _).alloc _)) (canon_digs _) (canon_digs _)).mono ?_
  rintro e w0 ⟨rfl, hx0⟩
  rw [val_digs, val_digs]
  have hcmp := cmp_lt0 HPQ.out
  have c0 := (box3a hx0).cell
  have c1 := (box3b hx0).cell
  go_wp2
  clear c0 c1 hcmp
  have Y0 := ExtOf.blk (box3a hx0)
  have Y1 := ExtOf.blk (box3b hx0)
  refine wp_region_ordE 10 [(true, 0), (true, 1), (true, 2), (true, 3), (true, 4), (true, 5), (false, 6), (false, 7), (true, 8), (true, 9)] (by kernel_rfl) (by kernel_rfl) ?_
  refine wpOrdT_quiet [0, 1, 2, 3, 4, 5] [(false, 6), (false, 7), (true, 8), (true, 9)] _ (by kernel_rfl) ?_
  simp only [nthOps, nthOp, List.cons_append, List.nil_append]
  repeat (go_big_quiet_step (fail))
  refine wpQuiet_nil ?_
  refine wpOrdT_act 6 [(false, 7), (true, 8), (true, 9)] (by kernel_rfl) ?_
  intro K hK
  simp only [nthOp]
  go_wp2_with fail
  refine (subMag_any B A m n d c _ _ _ (hB.ext (box3 hx0).drew) (hA.ext (box3 hx0).drew) (by omega) hle (by rw [val_digs, val_digs]; have := HPQ.out; omega)).mono ?_
  rintro e w1 ⟨v1, rfl, ⟨A1, n1, c1, rfl, hR⟩, hx1⟩
  have hx1 := hx1.undrew
  go_wp2
  refine hK _ _ ⟨⟨w1, hx1⟩, rfl⟩ ?_
  clear hK K
  refine wpOrdT_act 7 [(true, 8), (true, 9)] (by kernel_rfl) ?_
  intro K hK
  simp only [nthOp]
  go_wp2_with fail
  refine (result_any neg' A1 n1 c1 _ _ hR).mono ?_
  rintro e w2 ⟨v2, rfl, ⟨u, rfl, A2, n2, c2, rfl, hI⟩, hx2⟩
  rw [val_digs, val_digs, val_digs] at hI
  rw [val_digs, val_digs, val_digs]
  have hx2 := hx1.trans hx2
  go_wp2
  refine hK _ _ ⟨⟨w2, hx2⟩, rfl⟩ ?_
  clear hK K
  refine wpOrdT_quiet [8, 9] [] _ (by kernel_rfl) ?_
  simp only [nthOps, nthOp, List.cons_append, List.nil_append]
  repeat (go_big_quiet_step (fail))
  refine wpQuiet_nil ?_
  have hx2 := hx0.trans hx2
  simp only [wpOrdT, List.drop_succ_cons, List.drop_zero]
  have b4 := box3c hx2
  have c4 := b4.cell
  have f4 := b4.frozen
  obtain ⟨k1, k2, k3⟩ := put2 (box3 hx2) (by omega) b4 _ A2 n2 c2
  have K1 := Lib.hid k1; have K2 := Lib.hid k2; have K3 := Lib.hid (k3 _ _ _ _ hI); clear k1 k2 k3
  go_wp2
  exact bp_int2 rfl rfl rfl K2.out ⟨_, rfl, ⟨_, rfl, _, _, _, rfl, K3.out⟩, K1.out⟩
theorem sum_any (neg neg' : Bool) (A B : Option Addr) (n m c d p q : Nat) (w : World) (hA : RM w A n c (digs p)) (hB : RM w B m d (digs q)) (hn : n ≤ 1000000) (hm : m ≤ 1000000) :
    Calls Tryd.prog 62 #[iv neg A n c, iv neg' B m d] w fun e w' => ∃ v, e = .returned v ∧ RetI (resS (zOf neg p + zOf neg' q)) v w' ∧ Ext w w' := by
  cases hs : (neg == neg')
  · rcases Nat.lt_or_ge p q with h | h
    · have := sum_lt neg neg' A B n m c d p q w hA hB hn hm hs h
      have e : zOf neg p + zOf neg' q = zOf neg' (q - p) := by cases neg <;> cases neg' <;> simp [zOf] at hs ⊢ <;> omega
      rwa [e]
    · have := sum_ge neg neg' A B n m c d p q w hA hB hn hm hs h
      have e : zOf neg p + zOf neg' q = zOf neg (p - q) := by cases neg <;> cases neg' <;> simp [zOf] at hs ⊢ <;> omega
      rwa [e]
  · obtain rfl : neg = neg' := by simpa using hs
    have := sum_same neg A B n m c d _ _ w hA hB hn hm
    rw [val_digs, val_digs] at this
    have e : zOf neg p + zOf neg q = zOf neg (p + q) := by cases neg <;> simp [zOf] <;> omega
    rwa [e]
end Go.Proofs.YtfdpbcjcinchgaaDoor
