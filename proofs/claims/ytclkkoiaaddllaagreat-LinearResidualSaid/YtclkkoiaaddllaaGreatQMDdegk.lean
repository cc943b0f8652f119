/- Words and contracts that the laws share, several texts in one. -/
import Derived.Test.YtclkkoiaaddllaaGreatQMCmndl
import Derived.Lib.EndianBits
/- Contracts: copies; sums of integers. -/
namespace Go.Proofs.YtclkkoiaaddllaaGreat
open Go.RowKit
set_option linter.unusedVariables false

set_option maxRecDepth 100000 in
set_option maxHeartbeats 400000 in
theorem clone_own (A : Option Addr) (n c : Nat) (l : List Nat) (w : World) (h : RM w A n c l) (hn : n ≤ 1000000) :
    Calls Tryz.prog 59 #[.slice A n c] w fun e w' => ∃ v, e = .returned v ∧ w'.ownsRow w.heap.size 103 1 v n (mg l) ∧ Ext w w' := by
  cases A with
  | none =>
    have hn0 : n = 0 := by
      rcases Nat.eq_zero_or_pos n with h0 | h0
      · exact h0
      · obtain ⟨ad, _, e, _⟩ := h.at_ h0; cases e
    subst hn0
    obtain rfl := h.empty
    have heq := Lib.run_eql_slice_nil (P := Tryz.prog) (t := 28) (a := none) (n := 0) (c := c) (n' := 0) (c' := 0) (h := Tryz.underlying28)
    go_enter Tryz.func59, Tryz.ntmps59
    go_wp2
    all_goals
      go_ret
      exact ⟨_, rfl, World.ownsRow_nil _ _ _ _, Ext.refl _⟩
  | some ad =>
    have heq := Lib.run_eql_slice_nil (P := Tryz.prog) (t := 28) (a := some ad) (n := n) (c := c) (n' := 0) (c' := 0) (h := Tryz.underlying28)
    go_enter Tryz.func59, Tryz.ntmps59
    go_wp2_with (at_builtin; refine wpList_appA elem_u32 rfl (.tmp 5) (.tmp 6) rfl w.heap.size _ 0 [] (by rfl) (World.ownsRow_lit _ _ _ (by omega) (by omega) (by simp)) _ n _ (mg l) (by rfl) (h.ext (Ext.new w _)).rd mg_one (by omega) (by omega) (by simp) ?_)
    intro v1 w1 ho hg
    go_wp2
    go_ret
    exact ⟨_, rfl, by simpa using ho, own_grown hg (Ext.new _ _) (by simp [Value.ownBlock])⟩
theorem clone_any (A : Option Addr) (n c : Nat) (l : List Nat) (w : World) (h : RM w A n c l) (hn : n ≤ 1000000) :
    Calls Tryz.prog 59 #[.slice A n c] w fun e w' => ∃ v, e = .returned v ∧ SlM l v w' ∧ Ext w w' :=
  (clone_own A n c l w h hn).mono fun _ _ ⟨v, h1, h2, h3⟩ => ⟨v, h1, RM.of_own h2 h.dg, h3⟩

theorem Ext.undrew {w w' : World} (h : Ext w.drew w') : Ext w w' := ((Ext.refl w).drew).trans h
/-- Three boxes: two arguments and a result. -/
theorem box3 {w w1 : World} {x y r : Obj} (hx : Ext (((w.alloc x).alloc y).alloc r) w1) : Ext w w1 := (((Ext.new w _).alloc _).alloc _).trans hx
theorem box3a {w w1 : World} {cs : Array Value} {t : TypeId} {y r : Obj} (hx : Ext (((w.alloc (.cells cs t)).alloc y).alloc r) w1) : Blk w1 w.heap.size t cs := (((Blk.new w t cs).alloc _).alloc _).ext hx
theorem box3b {w w1 : World} {cs : Array Value} {t : TypeId} {x r : Obj} (hx : Ext (((w.alloc x).alloc (.cells cs t)).alloc r) w1) : Blk w1 (w.heap.size + 1) t cs := ((Blk.new' t cs (by simp)).alloc _).ext hx
theorem box3c {w w1 : World} {cs : Array Value} {t : TypeId} {x y : Obj} (hx : Ext (((w.alloc x).alloc y).alloc (.cells cs t)) w1) : Blk w1 (w.heap.size + 2) t cs := (Blk.new' t cs (by simp)).ext hx

set_option maxRecDepth 100000 in
set_option maxHeartbeats 800000 in
theorem sum_same (neg : Bool) (A B : Option Addr) (n m c d : Nat) (a b : List Nat) (w : World) (hA : RM w A n c a) (hB : RM w B m d b) (hn : n ≤ 1000000) (hm : m ≤ 1000000) :
    Calls Tryz.prog 145 #[iv neg A n c, iv neg B m d] w fun e w' => ∃ v, e = .returned v ∧ RetI (resS (zOf neg (val a + val b))) v w' ∧ Ext w w' := by
  have hnn : (neg == neg) = true := by simp
  go_enter Tryz.func145, Tryz.ntmps145
  go_wp2
  have X0 : Ext (((w.alloc (.cells #[.bool neg, .slice A n c] 30)).alloc (.cells #[.bool neg, .slice B m d] 30)).alloc (.cells #[.bool false, .slice none 0 0] 30)) (((w.alloc (.cells #[.bool neg, .slice A n c] 30)).alloc (.cells #[.bool neg, .slice B m d] 30)).alloc (.cells #[.bool false, .slice none 0 0] 30)) := Ext.refl _
  have Y0 := ExtOf.blk (box3a X0)
  have Y1 := ExtOf.blk (box3b X0)
  refine wp_region_ordE 10 [(true, 0), (true, 1), (true, 2), (true, 3), (true, 4), (true, 5), (false, 6), (false, 7), (true, 8), (true, 9)] (by kernel_rfl) (by kernel_rfl) ?_
  refine wpOrdT_quiet [0, 1, 2, 3, 4, 5] [(false, 6), (false, 7), (true, 8), (true, 9)] _ (by kernel_rfl) ?_
  simp only [nthOps, nthOp, List.cons_append, List.nil_append]
  repeat (go_big_quiet_step (fail))
  refine wpQuiet_nil ?_
  refine wpOrdT_act 6 [(false, 7), (true, 8), (true, 9)] (by kernel_rfl) ?_
  intro K hK
  simp only [nthOp]
  go_wp2_with fail
  have E0 : Ext w (((w.alloc (.cells #[.bool neg, .slice A n c] 30)).alloc (.cells #[.bool neg, .slice B m d] 30)).alloc (.cells #[.bool false, .slice none 0 0] 30)).drew := (box3 X0).drew
  refine (addMag_any A B n m c d a b _ (hA.ext E0) (hB.ext E0) hn hm).mono ?_
  rintro e w1 ⟨v1, rfl, ⟨A1, n1, c1, rfl, hR⟩, hx1⟩
  have hx1 := hx1.undrew
  go_wp2
  refine hK _ _ ⟨⟨w1, hx1⟩, rfl⟩ ?_
  clear hK K
  refine wpOrdT_act 7 [(true, 8), (true, 9)] (by kernel_rfl) ?_
  intro K hK
  simp only [nthOp]
  go_wp2_with fail
  refine (result_any neg A1 n1 c1 _ _ hR).mono ?_
  rintro e w2 ⟨v2, rfl, ⟨u, rfl, A2, n2, c2, rfl, hI⟩, hx2⟩
  rw [val_digs] at hI
  rw [val_digs]
  have hx2 := hx1.trans hx2
  go_wp2
  refine hK _ _ ⟨⟨w2, hx2⟩, rfl⟩ ?_
  clear hK K
  refine wpOrdT_quiet [8, 9] [] _ (by kernel_rfl) ?_
  simp only [nthOps, nthOp, List.cons_append, List.nil_append]
  repeat (go_big_quiet_step (fail))
  refine wpQuiet_nil ?_
  simp only [wpOrdT, List.drop_succ_cons, List.drop_zero]
  have b4 := box3c hx2
  have c4 := b4.cell
  have f4 := b4.frozen
  obtain ⟨k1, k2, k3⟩ := put2 (box3 hx2) (by omega) b4 _ A2 n2 c2
  have K1 := Lib.hid k1; have K2 := Lib.hid k2; have K3 := Lib.hid (k3 _ _ _ _ hI); clear k1 k2 k3
  go_wp2
  exact bp_int2 rfl rfl rfl K2.out ⟨_, rfl, ⟨_, rfl, _, _, _, rfl, K3.out⟩, K1.out⟩

theorem cmp_ge0 {p q : Nat} (h : q ≤ p) : decide (0 ≤ cmpN p q) = true := by
  have h1 : ¬ p < q := by omega
  by_cases h2 : q < p <;> simp [cmpN, h1, h2]
theorem cmp_lt0 {p q : Nat} (h : p < q) : decide (0 ≤ cmpN p q) = false := by unfold cmpN; simp [h]

set_option maxRecDepth 100000 in
set_option maxHeartbeats 800000 in
theorem sum_ge (neg neg' : Bool) (A B : Option Addr) (n m c d p q : Nat) (w : World) (hA : RM w A n c (digs p)) (hB : RM w B m d (digs q)) (hn : n ≤ 1000000) (hm : m ≤ 1000000) (hne : (neg == neg') = false) (hpq : q ≤ p) :
    Calls Tryz.prog 145 #[iv neg A n c, iv neg' B m d] w fun e w' => ∃ v, e = .returned v ∧ RetI (resS (zOf neg (p - q))) v w' ∧ Ext w w' := by
  have hl1 := hA.len
  have hl2 := hB.len
  have hle : m ≤ n := by
    have h1 := digs_len_le (n := q) (k := n) (Nat.lt_of_le_of_lt (show q ≤ p by omega) (lt_of_digs_len (by omega)))
    omega
  clear hl1 hl2
  have HPQ := Lib.hid hpq; clear hpq
  go_enter Tryz.func145, Tryz.ntmps145
  go_wp2_with fail
  refine (compareMag_any A B n m c d _ _ _ (hA.ext (((Ext.new w _).alloc _).alloc _)) (hB.ext (((Ext.new w _).alloc _).alloc _)) (canon_digs _) (canon_digs _)).mono ?_
  rintro e w0 ⟨rfl, hx0⟩
  rw [val_digs, val_digs]
  have hcmp := cmp_ge0 HPQ.out
  have c0 := (box3a hx0).cell
  have c1 := (box3b hx0).cell
  go_wp2
  clear c0 c1 hcmp
  have Y0 := ExtOf.blk (box3a hx0)
  have Y1 := ExtOf.blk (box3b hx0)
  refine wp_region_ordE 10 [(true, 0), (true, 1), (true, 2), (true, 3), (true, 4), (true, 5), (false, 6), (false, 7), (true, 8), (true, 9)] (by kernel_rfl) (by kernel_rfl) ?_
  refine wpOrdT_quiet [0, 1, 2, 3, 4, 5] [(false, 6), (false, 7), (true, 8), (true, 9)] _ (by kernel_rfl) ?_
  simp only [nthOps, nthOp, List.cons_append, List.nil_append]
  repeat (go_big_quiet_step (fail))
  refine wpQuiet_nil ?_
  refine wpOrdT_act 6 [(false, 7), (true, 8), (true, 9)] (by kernel_rfl) ?_
  intro K hK
  simp only [nthOp]
  go_wp2_with fail
  refine (subMag_any A B n m c d _ _ _ (hA.ext (box3 hx0).drew) (hB.ext (box3 hx0).drew) (by omega) hle (by rw [val_digs, val_digs]; have := HPQ.out; omega)).mono ?_
  rintro e w1 ⟨v1, rfl, ⟨A1, n1, c1, rfl, hR⟩, hx1⟩
  have hx1 := hx1.undrew
  go_wp2
  refine hK _ _ ⟨⟨w1, hx1⟩, rfl⟩ ?_
  clear hK K
  refine wpOrdT_act 7 [(true, 8), (true, 9)] (by kernel_rfl) ?_
  intro K hK
  simp only [nthOp]
  go_wp2_with fail
  refine (result_any neg A1 n1 c1 _ _ hR).mono ?_
  rintro e w2 ⟨v2, rfl, ⟨u, rfl, A2, n2, c2, rfl, hI⟩, hx2⟩
  rw [val_digs, val_digs, val_digs] at hI
  rw [val_digs, val_digs, val_digs]
  have hx2 := hx1.trans hx2
  go_wp2
  refine hK _ _ ⟨⟨w2, hx2⟩, rfl⟩ ?_
  clear hK K
  refine wpOrdT_quiet [8, 9] [] _ (by kernel_rfl) ?_
  simp only [nthOps, nthOp, List.cons_append, List.nil_append]
  repeat (go_big_quiet_step (fail))
  refine wpQuiet_nil ?_
  have hx2 := hx0.trans hx2
  simp only [wpOrdT, List.drop_succ_cons, List.drop_zero]
  have b4 := box3c hx2
  have c4 := b4.cell
  have f4 := b4.frozen
  obtain ⟨k1, k2, k3⟩ := put2 (box3 hx2) (by omega) b4 _ A2 n2 c2
  have K1 := Lib.hid k1; have K2 := Lib.hid k2; have K3 := Lib.hid (k3 _ _ _ _ hI); clear k1 k2 k3
  go_wp2
  exact bp_int2 rfl rfl rfl K2.out ⟨_, rfl, ⟨_, rfl, _, _, _, rfl, K3.out⟩, K1.out⟩
set_option maxRecDepth 100000 in
set_option maxHeartbeats 800000 in
theorem sum_lt (neg neg' : Bool) (A B : Option Addr) (n m c d p q : Nat) (w : World) (hA : RM w A n c (digs p)) (hB : RM w B m d (digs q)) (hn : n ≤ 1000000) (hm : m ≤ 1000000) (hne : (neg == neg') = false) (hpq : p < q) :
    Calls Tryz.prog 145 #[iv neg A n c, iv neg' B m d] w fun e w' => ∃ v, e = .returned v ∧ RetI (resS (zOf neg' (q - p))) v w' ∧ Ext w w' := by
  have hl1 := hA.len
  have hl2 := hB.len
  have hle : n ≤ m := by
    have h1 := digs_len_le (n := p) (k := m) (Nat.lt_of_le_of_lt (show p ≤ q by omega) (lt_of_digs_len (by omega)))
    omega
  clear hl1 hl2
  have HPQ := Lib.hid hpq; clear hpq
  go_enter Tryz.func145, Tryz.ntmps145
  go_wp2_with fail
  refine (compareMag_any A B n m c d _ _ _ (hA.ext (((Ext.new w _).alloc _).alloc _)) (hB.ext (((Ext.new w _).alloc _).alloc _)) (canon_digs _) (canon_digs _)).mono ?_
  rintro e w0 ⟨rfl, hx0⟩
  rw [val_digs, val_digs]
  have hcmp := cmp_lt0 HPQ.out
  have c0 := (box3a hx0).cell
  have c1 := (box3b hx0).cell
  go_wp2
  clear c0 c1 hcmp
  have Y0 := ExtOf.blk (box3a hx0)
  have Y1 := ExtOf.blk (box3b hx0)
  refine wp_region_ordE 10 [(true, 0), (true, 1), (true, 2), (true, 3), (true, 4), (true, 5), (false, 6), (false, 7), (true, 8), (true, 9)] (by kernel_rfl) (by kernel_rfl) ?_
  refine wpOrdT_quiet [0, 1, 2, 3, 4, 5] [(false, 6), (false, 7), (true, 8), (true, 9)] _ (by kernel_rfl) ?_
  simp only [nthOps, nthOp, List.cons_append, List.nil_append]
  repeat (go_big_quiet_step (fail))
  refine wpQuiet_nil ?_
  refine wpOrdT_act 6 [(false, 7), (true, 8), (true, 9)] (by kernel_rfl) ?_
  intro K hK
  simp only [nthOp]
  go_wp2_with fail
  refine (subMag_any B A m n d c _ _ _ (hB.ext (box3 hx0).drew) (hA.ext (box3 hx0).drew) (by omega) hle (by rw [val_digs, val_digs]; have := HPQ.out; omega)).mono ?_
  rintro e w1 ⟨v1, rfl, ⟨A1, n1, c1, rfl, hR⟩, hx1⟩
  have hx1 := hx1.undrew
  go_wp2
  refine hK _ _ ⟨⟨w1, hx1⟩, rfl⟩ ?_
  clear hK K
  refine wpOrdT_act 7 [(true, 8), (true, 9)] (by kernel_rfl) ?_
  intro K hK
  simp only [nthOp]
  go_wp2_with fail
  refine (result_any neg' A1 n1 c1 _ _ hR).mono ?_
  rintro e w2 ⟨v2, rfl, ⟨u, rfl, A2, n2, c2, rfl, hI⟩, hx2⟩
  rw [val_digs, val_digs, val_digs] at hI
  rw [val_digs, val_digs, val_digs]
  have hx2 := hx1.trans hx2
  go_wp2
  refine hK _ _ ⟨⟨w2, hx2⟩, rfl⟩ ?_
  clear hK K
  refine wpOrdT_quiet [8, 9] [] _ (by kernel_rfl) ?_
  simp only [nthOps, nthOp, List.cons_append, List.nil_append]
  repeat (go_big_quiet_step (fail))
  refine wpQuiet_nil ?_
  have hx2 := hx0.trans hx2
  simp only [wpOrdT, List.drop_succ_cons, List.drop_zero]
  have b4 := box3c hx2
  have c4 := b4.cell
  have f4 := b4.frozen
  obtain ⟨k1, k2, k3⟩ := put2 (box3 hx2) (by omega) b4 _ A2 n2 c2
  have K1 := Lib.hid k1; have K2 := Lib.hid k2; have K3 := Lib.hid (k3 _ _ _ _ hI); clear k1 k2 k3
  go_wp2
  exact bp_int2 rfl rfl rfl K2.out ⟨_, rfl, ⟨_, rfl, _, _, _, rfl, K3.out⟩, K1.out⟩
theorem sum_any (neg neg' : Bool) (A B : Option Addr) (n m c d p q : Nat) (w : World) (hA : RM w A n c (digs p)) (hB : RM w B m d (digs q)) (hn : n ≤ 1000000) (hm : m ≤ 1000000) :
    Calls Tryz.prog 145 #[iv neg A n c, iv neg' B m d] w fun e w' => ∃ v, e = .returned v ∧ RetI (resS (zOf neg p + zOf neg' q)) v w' ∧ Ext w w' := by
  cases hs : (neg == neg')
  · rcases Nat.lt_or_ge p q with h | h
    · have := sum_lt neg neg' A B n m c d p q w hA hB hn hm hs h
      have e : zOf neg p + zOf neg' q = zOf neg' (q - p) := by cases neg <;> cases neg' <;> simp [zOf] at hs ⊢ <;> omega
      rwa [e]
    · have := sum_ge neg neg' A B n m c d p q w hA hB hn hm hs h
      have e : zOf neg p + zOf neg' q = zOf neg (p - q) := by cases neg <;> cases neg' <;> simp [zOf] at hs ⊢ <;> omega
      rwa [e]
  · obtain rfl : neg = neg' := by simpa using hs
    have := sum_same neg A B n m c d _ _ w hA hB hn hm
    rw [val_digs, val_digs] at this
    have e : zOf neg p + zOf neg q = zOf neg (p + q) := by cases neg <;> simp [zOf] <;> omega
    rwa [e]
end Go.Proofs.YtclkkoiaaddllaaGreat

/- Contracts: sums, differences and products of integers, valid or not. -/
namespace Go.Proofs.YtclkkoiaaddllaaGreat
open Go.RowKit
set_option linter.unusedVariables false

theorem RM.le400 {w : World} {A : Option Addr} {n c : Nat} {z : Int} (h : RM w A n c (digs z.natAbs)) (hz : z.natAbs < lim) : n ≤ 400 := by
  have h1 := h.len
  have h2 := len_lim hz
  omega
theorem zOf_abs_of (z : Int) : zOf (decide (z < 0)) z.natAbs = z := by
  by_cases h : z < 0 <;> simp [zOf, h] <;> omega

theorem zOf_not_of (z : Int) : zOf (!decide (z < 0)) z.natAbs = -z := by
  by_cases h : z < 0 <;> simp [zOf, h] <;> omega
/-! Valid arguments. -/
set_option maxRecDepth 100000 in
set_option maxHeartbeats 800000 in
theorem Add_ok (v u : Value) (x y : Int) (w : World) (hX : RI w v x) (hY : RI w u y) (ax : x.natAbs < lim) (ay : y.natAbs < lim) :
    Calls Tryz.prog 123 #[v, u] w fun e w' => ∃ v, e = .returned v ∧ RetI (resS (x + y)) v w' ∧ Ext w w' := by
  have HV1 := Lib.hid (RI.valid hX ax)
  have HV2 := Lib.hid (RI.valid hY ay)
  obtain ⟨A, n, c, rfl, hx⟩ := hX
  obtain ⟨B, m, d, rfl, hy⟩ := hY
  have hn := hx.le400 ax
  have hm := hy.le400 ay
  go_enter Tryz.func123, Tryz.ntmps123
  go_wp2_with fail
  refine (Valid_any _ A n c _ _ (hx.ext (((Ext.new w _).alloc _).alloc _))).mono ?_
  rintro e w1 ⟨rfl, hx1⟩
  rw [HV1.out]
  have c0 := (box3a hx1).cell
  have c1 := (box3b hx1).cell
  go_wp2_with fail
  refine (Valid_any _ B m d _ _ (hy.ext (box3 hx1))).mono ?_
  rintro e w2 ⟨rfl, hx2⟩
  rw [HV2.out]
  clear c0 c1
  have hx2 := hx1.trans hx2
  have c0 := (box3a hx2).cell
  have c1 := (box3b hx2).cell
  go_wp2_with fail
  clear c0 c1
  refine (sum_any _ _ A B n m c d _ _ _ (hx.ext (box3 hx2)) (hy.ext (box3 hx2)) (by omega) (by omega)).mono ?_
  rintro e w3 ⟨v2, rfl, ⟨u, rfl, A2, n2, c2, rfl, hI⟩, hx3⟩
  rw [zOf_abs_of, zOf_abs_of] at hI
  rw [zOf_abs_of, zOf_abs_of]
  have hx3 := hx2.trans hx3
  have b4 := box3c hx3
  have c4 := b4.cell
  have f4 := b4.frozen
  obtain ⟨k1, k2, k3⟩ := put2 (box3 hx3) (by omega) b4 _ A2 n2 c2
  have K1 := Lib.hid k1; have K2 := Lib.hid k2; have K3 := Lib.hid (k3 _ _ _ _ hI); clear k1 k2 k3
  go_wp2
  exact bp_int2 rfl rfl rfl K2.out ⟨_, rfl, ⟨_, rfl, _, _, _, rfl, K3.out⟩, K1.out⟩

set_option maxRecDepth 100000 in
set_option maxHeartbeats 800000 in
theorem Sub_ok (v u : Value) (x y : Int) (w : World) (hX : RI w v x) (hY : RI w u y) (ax : x.natAbs < lim) (ay : y.natAbs < lim) :
    Calls Tryz.prog 147 #[v, u] w fun e w' => ∃ v, e = .returned v ∧ RetI (resS (x - y)) v w' ∧ Ext w w' := by
  have HV1 := Lib.hid (RI.valid hX ax)
  have HV2 := Lib.hid (RI.valid hY ay)
  obtain ⟨A, n, c, rfl, hx⟩ := hX
  obtain ⟨B, m, d, rfl, hy⟩ := hY
  have hn := hx.le400 ax
  have hm := hy.le400 ay
  go_enter Tryz.func147, Tryz.ntmps147
  go_wp2_with fail
  refine (Valid_any _ A n c _ _ (hx.ext (((Ext.new w _).alloc _).alloc _))).mono ?_
  rintro e w1 ⟨rfl, hx1⟩
  rw [HV1.out]
  have c0 := (box3a hx1).cell
  have c1 := (box3b hx1).cell
  go_wp2_with fail
  refine (Valid_any _ B m d _ _ (hy.ext (box3 hx1))).mono ?_
  rintro e w2 ⟨rfl, hx2⟩
  rw [HV2.out]
  clear c0 c1
  have hx2 := hx1.trans hx2
  have c0 := (box3a hx2).cell
  have c1 := (box3b hx2).cell
  go_wp2_with fail
  clear c0 c1
  refine (sum_any _ _ A B n m c d _ _ _ (hx.ext (box3 hx2)) (hy.ext (box3 hx2)) (by omega) (by omega)).mono ?_
  rintro e w3 ⟨v2, rfl, ⟨u, rfl, A2, n2, c2, rfl, hI⟩, hx3⟩
  rw [zOf_abs_of, zOf_not_of, ← Int.sub_eq_add_neg] at hI
  rw [zOf_abs_of, zOf_not_of, ← Int.sub_eq_add_neg]
  have hx3 := hx2.trans hx3
  have b4 := box3c hx3
  have c4 := b4.cell
  have f4 := b4.frozen
  obtain ⟨k1, k2, k3⟩ := put2 (box3 hx3) (by omega) b4 _ A2 n2 c2
  have K1 := Lib.hid k1; have K2 := Lib.hid k2; have K3 := Lib.hid (k3 _ _ _ _ hI); clear k1 k2 k3
  go_wp2
  exact bp_int2 rfl rfl rfl K2.out ⟨_, rfl, ⟨_, rfl, _, _, _, rfl, K3.out⟩, K1.out⟩

theorem mul_digs_len {p q : Nat} (hp : p < lim) (hq : q < lim) : (digs (p * q)).length ≤ 800 := by
  have h : p * q < 4294967296 ^ (limK + limK) := by
    rw [Nat.pow_add]
    exact Nat.mul_lt_mul'' hp hq
  exact show (digs (p * q)).length ≤ limK + limK from digs_len_le h
theorem zOf_mul (x y : Int) : zOf (decide (x < 0) != decide (y < 0)) (x.natAbs * y.natAbs) = x * y := by
  by_cases hx : x < 0
  · by_cases hy : y < 0
    · simp only [hx, hy, decide_true, bne_self_eq_false, zOf, Bool.false_eq_true, if_false]
      have h1 : (x.natAbs : Int) = -x := by omega
      have h2 : (y.natAbs : Int) = -y := by omega
      push_cast; rw [h1, h2, Int.neg_mul_neg]
    · simp only [hx, hy, decide_true, decide_false, zOf]
      have h1 : (x.natAbs : Int) = -x := by omega
      have h2 : (y.natAbs : Int) = y := by omega
      simp only [show (true != false) = true from rfl, if_true]
      push_cast; rw [h1, h2, Int.neg_mul, Int.neg_neg]
  · by_cases hy : y < 0
    · simp only [hx, hy, decide_true, decide_false, zOf]
      have h1 : (x.natAbs : Int) = x := by omega
      have h2 : (y.natAbs : Int) = -y := by omega
      simp only [show (false != true) = true from rfl, if_true]
      push_cast; rw [h1, h2, Int.mul_neg, Int.neg_neg]
    · simp only [hx, hy, decide_false, bne_self_eq_false, zOf, Bool.false_eq_true, if_false]
      have h1 : (x.natAbs : Int) = x := by omega
      have h2 : (y.natAbs : Int) = y := by omega
      push_cast; rw [h1, h2]

theorem zOf_mul' (x y : Int) : zOf (!(decide (x < 0) == decide (y < 0))) (x.natAbs * y.natAbs) = x * y := zOf_mul x y
set_option maxRecDepth 100000 in
set_option maxHeartbeats 800000 in
theorem Mul_ok (v u : Value) (x y : Int) (w : World) (hX : RI w v x) (hY : RI w u y) (ax : x.natAbs < lim) (ay : y.natAbs < lim) :
    Calls Tryz.prog 122 #[v, u] w fun e w' => ∃ v, e = .returned v ∧ RetI (resS (x * y)) v w' ∧ Ext w w' := by
  have HV1 := Lib.hid (RI.valid hX ax)
  have HV2 := Lib.hid (RI.valid hY ay)
  obtain ⟨A, n, c, rfl, hx⟩ := hX
  obtain ⟨B, m, d, rfl, hy⟩ := hY
  have hn := hx.le400 ax
  have hm := hy.le400 ay
  go_enter Tryz.func122, Tryz.ntmps122
  go_wp2_with fail
  refine (Valid_any _ A n c _ _ (hx.ext (((Ext.new w _).alloc _).alloc _))).mono ?_
  rintro e w1 ⟨rfl, hx1⟩
  rw [HV1.out]
  have c0 := (box3a hx1).cell
  have c1 := (box3b hx1).cell
  go_wp2_with fail
  refine (Valid_any _ B m d _ _ (hy.ext (box3 hx1))).mono ?_
  rintro e w2 ⟨rfl, hx2⟩
  rw [HV2.out]
  clear c0 c1
  have hx2 := hx1.trans hx2
  have c0 := (box3a hx2).cell
  have c1 := (box3b hx2).cell
  go_wp2
  clear c0 c1
  have Y0 := ExtOf.blk (box3a hx2)
  have Y1 := ExtOf.blk (box3b hx2)
  refine wp_region_ordE 13 [(true, 0), (true, 1), (true, 2), (true, 3), (true, 4), (true, 5), (true, 6), (true, 7), (true, 8), (false, 9), (false, 10), (true, 11), (true, 12)] (by kernel_rfl) (by kernel_rfl) ?_
  refine wpOrdT_quiet [0, 1, 2, 3, 4, 5, 6, 7, 8] [(false, 9), (false, 10), (true, 11), (true, 12)] _ (by kernel_rfl) ?_
  simp only [nthOps, nthOp, List.cons_append, List.nil_append]
  repeat (go_big_quiet_step (fail))
  refine wpQuiet_nil ?_
  refine wpOrdT_act 9 [(false, 10), (true, 11), (true, 12)] (by kernel_rfl) ?_
  intro K hK
  simp only [nthOp]
  go_wp2_with fail
  refine (mulMag_any A B n m c d _ _ _ (hx.ext (box3 hx2).drew) (hy.ext (box3 hx2).drew) (by omega) (by omega)).mono ?_
  rintro e w3 ⟨v1, rfl, ⟨A1, n1, c1, rfl, hR⟩, hxw3⟩
  have hxw3 := Ext.undrew hxw3
  go_wp2
  refine hK _ _ ⟨⟨w3, hxw3⟩, rfl⟩ ?_
  clear hK K
  refine wpOrdT_act 10 [(true, 11), (true, 12)] (by kernel_rfl) ?_
  intro K hK
  simp only [nthOp]
  go_wp2_with fail
  refine (result_any _ A1 n1 c1 _ _ hR).mono ?_
  rintro e w5 ⟨v5, rfl, ⟨u, rfl, A2, n2, c2, rfl, hI⟩, hxw5⟩
  have hxw5 := hxw3.trans hxw5
  go_wp2
  refine hK _ _ ⟨⟨w5, hxw5⟩, rfl⟩ ?_
  clear hK K
  rw [val_digs, val_digs, val_digs, zOf_mul'] at hI
  simp only [val_digs, zOf_mul']
  refine wpOrdT_quiet [11, 12] [] _ (by kernel_rfl) ?_
  simp only [nthOps, nthOp, List.cons_append, List.nil_append]
  repeat (go_big_quiet_step (fail))
  refine wpQuiet_nil ?_
  have hx5 := hx2.trans hxw5
  simp only [wpOrdT, List.drop_succ_cons, List.drop_zero]
  have b4 := box3c hx5
  have c4 := b4.cell
  have f4 := b4.frozen
  obtain ⟨k1, k2, k3⟩ := put2 (box3 hx5) (by omega) b4 _ A2 n2 c2
  have K1 := Lib.hid k1; have K2 := Lib.hid k2; have K3 := Lib.hid (k3 _ _ _ _ hI); clear k1 k2 k3
  go_wp2
  exact bp_int2 rfl rfl rfl K2.out ⟨_, rfl, ⟨_, rfl, _, _, _, rfl, K3.out⟩, K1.out⟩

set_option maxRecDepth 100000 in
set_option maxHeartbeats 800000 in
theorem rMul_ok (v u : Value) (x y : Int) (w : World) (hX : RI w v x) (hY : RI w u y) (ax : x.natAbs < lim) (ay : y.natAbs < lim) :
    Calls Tryz.prog 74 #[v, u] w fun e w' => ∃ v, e = .returned v ∧ RetI (resS (x * y)) v w' ∧ Ext w w' := by
  have HV1 := Lib.hid (RI.valid hX ax)
  have HV2 := Lib.hid (RI.valid hY ay)
  obtain ⟨A, n, c, rfl, hx⟩ := hX
  obtain ⟨B, m, d, rfl, hy⟩ := hY
  have hn := hx.le400 ax
  have hm := hy.le400 ay
  go_enter Tryz.func74, Tryz.ntmps74
  go_wp2_with fail
  refine (rValid_any _ A n c _ _ (hx.ext (((Ext.new w _).alloc _).alloc _))).mono ?_
  rintro e w1 ⟨rfl, hx1⟩
  rw [HV1.out]
  have c0 := (box3a hx1).cell
  have c1 := (box3b hx1).cell
  go_wp2_with fail
  refine (rValid_any _ B m d _ _ (hy.ext (box3 hx1))).mono ?_
  rintro e w2 ⟨rfl, hx2⟩
  rw [HV2.out]
  clear c0 c1
  have hx2 := hx1.trans hx2
  have c0 := (box3a hx2).cell
  have c1 := (box3b hx2).cell
  go_wp2
  clear c0 c1
  have Y0 := ExtOf.blk (box3a hx2)
  have Y1 := ExtOf.blk (box3b hx2)
  refine wp_region_ordE 14 [(true, 0), (true, 1), (true, 2), (true, 3), (true, 4), (true, 5), (true, 6), (true, 7), (true, 8), (false, 9), (false, 10), (false, 11), (true, 12), (true, 13)] (by kernel_rfl) (by kernel_rfl) ?_
  refine wpOrdT_quiet [0, 1, 2, 3, 4, 5, 6, 7, 8] [(false, 9), (false, 10), (false, 11), (true, 12), (true, 13)] _ (by kernel_rfl) ?_
  simp only [nthOps, nthOp, List.cons_append, List.nil_append]
  repeat (go_big_quiet_step (fail))
  refine wpQuiet_nil ?_
  refine wpOrdT_act 9 [(false, 10), (false, 11), (true, 12), (true, 13)] (by kernel_rfl) ?_
  intro K hK
  simp only [nthOp]
  go_wp2_with fail
  refine (rtimes_any A B n m c d _ _ _ (hx.ext (box3 hx2).drew) (hy.ext (box3 hx2).drew) (by omega) (by omega)).mono ?_
  rintro e w3 ⟨v1, rfl, ⟨A1, n1, c1, rfl, hR⟩, hxw3⟩
  have hxw3 := Ext.undrew hxw3
  go_wp2
  refine hK _ _ ⟨⟨w3, hxw3⟩, rfl⟩ ?_
  clear hK K
  rw [val_digs, val_digs] at hR
  have hn1 : n1 ≤ 1000000 := by have := hR.len; have := mul_digs_len ax ay; omega
  refine wpOrdT_act 10 [(false, 11), (true, 12), (true, 13)] (by kernel_rfl) ?_
  intro K hK
  simp only [nthOp]
  go_wp2_with fail
  refine (rmade_any _ A1 n1 c1 _ _ hR hn1).mono ?_
  rintro e w4 ⟨v4, rfl, hI4, hxw4⟩
  have hxw4 := hxw3.trans hxw4
  go_wp2
  refine hK _ _ ⟨⟨w4, hxw4⟩, rfl⟩ ?_
  clear hK K
  rw [val_digs, zOf_mul'] at hI4
  refine wpOrdT_act 11 [(true, 12), (true, 13)] (by kernel_rfl) ?_
  intro K hK
  simp only [nthOp]
  go_wp2_with fail
  refine (rresult_any v4 _ _ hI4).mono ?_
  rintro e w5 ⟨v5, rfl, ⟨u, rfl, A2, n2, c2, rfl, hI⟩, hxw5⟩
  have hxw5 := hxw4.trans hxw5
  go_wp2
  refine hK _ _ ⟨⟨w5, hxw5⟩, rfl⟩ ?_
  clear hK K
  refine wpOrdT_quiet [12, 13] [] _ (by kernel_rfl) ?_
  simp only [nthOps, nthOp, List.cons_append, List.nil_append]
  repeat (go_big_quiet_step (fail))
  refine wpQuiet_nil ?_
  have hx5 := hx2.trans hxw5
  simp only [wpOrdT, List.drop_succ_cons, List.drop_zero]
  have b4 := box3c hx5
  have c4 := b4.cell
  have f4 := b4.frozen
  obtain ⟨k1, k2, k3⟩ := put2 (box3 hx5) (by omega) b4 _ A2 n2 c2
  have K1 := Lib.hid k1; have K2 := Lib.hid k2; have K3 := Lib.hid (k3 _ _ _ _ hI); clear k1 k2 k3
  go_wp2
  exact bp_int2 rfl rfl rfl K2.out ⟨_, rfl, ⟨_, rfl, _, _, _, rfl, K3.out⟩, K1.out⟩

theorem zOf_same {x y : Int} (h : decide (x < 0) = decide (y < 0)) : zOf (decide (x < 0)) (x.natAbs + y.natAbs) = x + y := by
  by_cases hx : x < 0
  · have hy : y < 0 := by simpa [hx] using h
    simp [zOf, hx]; omega
  · have hy : ¬ y < 0 := by simpa [hx] using h
    simp [zOf, hx]; omega
theorem zOf_diff {x y : Int} (h : ¬ decide (x < 0) = decide (y < 0)) (hle : y.natAbs ≤ x.natAbs) : zOf (decide (x < 0)) (x.natAbs - y.natAbs) = x + y := by
  by_cases hx : x < 0
  · have hy : ¬ y < 0 := by simpa [hx] using h
    simp [zOf, hx]; omega
  · have hy : y < 0 := by simpa [hx] using h
    simp [zOf, hx]; omega

set_option maxRecDepth 100000 in
set_option maxHeartbeats 800000 in
theorem rAdd_same (v u : Value) (x y : Int) (w : World) (hX : RI w v x) (hY : RI w u y) (ax : x.natAbs < lim) (ay : y.natAbs < lim) (hs : decide (x < 0) = decide (y < 0)) :
    Calls Tryz.prog 75 #[v, u] w fun e w' => ∃ v, e = .returned v ∧ RetI (resS (x + y)) v w' ∧ Ext w w' := by
  have HV1 := Lib.hid (RI.valid hX ax)
  have HV2 := Lib.hid (RI.valid hY ay)
  obtain ⟨A, n, c, rfl, hx⟩ := hX
  obtain ⟨B, m, d, rfl, hy⟩ := hY
  have hn := hx.le400 ax
  have hm := hy.le400 ay
  have hs1 : (decide (x < 0) == decide (y < 0)) = true := by simpa using hs
  have HS := Lib.hid hs; clear hs
  go_enter Tryz.func75, Tryz.ntmps75
  go_wp2_with fail
  refine (rValid_any _ A n c _ _ (hx.ext (((Ext.new w _).alloc _).alloc _))).mono ?_
  rintro e w1 ⟨rfl, hx1⟩
  rw [HV1.out]
  have c0 := (box3a hx1).cell
  have c1 := (box3b hx1).cell
  go_wp2_with fail
  refine (rValid_any _ B m d _ _ (hy.ext (box3 hx1))).mono ?_
  rintro e w2 ⟨rfl, hx2⟩
  rw [HV2.out]
  clear c0 c1
  have hx2 := hx1.trans hx2
  have c0 := (box3a hx2).cell
  have c1 := (box3b hx2).cell
  go_wp2
  clear c0 c1
  have Y0 := ExtOf.blk (box3a hx2)
  have Y1 := ExtOf.blk (box3b hx2)
  refine wp_region_ordE 11 [(true, 0), (true, 1), (true, 2), (true, 3), (true, 4), (true, 5), (false, 6), (false, 7), (false, 8), (true, 9), (true, 10)] (by kernel_rfl) (by kernel_rfl) ?_
  refine wpOrdT_quiet [0, 1, 2, 3, 4, 5] [(false, 6), (false, 7), (false, 8), (true, 9), (true, 10)] _ (by kernel_rfl) ?_
  simp only [nthOps, nthOp, List.cons_append, List.nil_append]
  repeat (go_big_quiet_step (fail))
  refine wpQuiet_nil ?_
  refine wpOrdT_act 6 [(false, 7), (false, 8), (true, 9), (true, 10)] (by kernel_rfl) ?_
  intro K hK
  simp only [nthOp]
  go_wp2_with fail
  refine (rplus_any A B n m c d _ _ _ (hx.ext (box3 hx2).drew) (hy.ext (box3 hx2).drew) (by omega) (by omega)).mono ?_
  rintro e w3 ⟨v1, rfl, ⟨l1, ⟨A1, n1, c1, rfl, hR⟩, hval, hlen⟩, hxw3⟩
  have hxw3 := Ext.undrew hxw3
  go_wp2
  refine hK _ _ ⟨⟨w3, hxw3⟩, rfl⟩ ?_
  clear hK K
  rw [val_digs, val_digs] at hval
  have hn1 : n1 ≤ 1000000 := by have := hR.len; omega
  refine wpOrdT_act 7 [(false, 8), (true, 9), (true, 10)] (by kernel_rfl) ?_
  intro K hK
  simp only [nthOp]
  go_wp2_with fail
  refine (rmade_any _ A1 n1 c1 _ _ hR hn1).mono ?_
  rintro e w4 ⟨v4, rfl, hI4, hxw4⟩
  have hxw4 := hxw3.trans hxw4
  go_wp2
  refine hK _ _ ⟨⟨w4, hxw4⟩, rfl⟩ ?_
  clear hK K
  rw [hval, zOf_same HS.out] at hI4
  refine wpOrdT_act 8 [(true, 9), (true, 10)] (by kernel_rfl) ?_
  intro K hK
  simp only [nthOp]
  go_wp2_with fail
  refine (rresult_any v4 _ _ hI4).mono ?_
  rintro e w5 ⟨v5, rfl, ⟨u, rfl, A2, n2, c2, rfl, hI⟩, hxw5⟩
  have hxw5 := hxw4.trans hxw5
  go_wp2
  refine hK _ _ ⟨⟨w5, hxw5⟩, rfl⟩ ?_
  clear hK K
  refine wpOrdT_quiet [9, 10] [] _ (by kernel_rfl) ?_
  simp only [nthOps, nthOp, List.cons_append, List.nil_append]
  repeat (go_big_quiet_step (fail))
  refine wpQuiet_nil ?_
  have hx5 := hx2.trans hxw5
  simp only [wpOrdT, List.drop_succ_cons, List.drop_zero]
  have b4 := box3c hx5
  have c4 := b4.cell
  have f4 := b4.frozen
  obtain ⟨k1, k2, k3⟩ := put2 (box3 hx5) (by omega) b4 _ A2 n2 c2
  have K1 := Lib.hid k1; have K2 := Lib.hid k2; have K3 := Lib.hid (k3 _ _ _ _ hI); clear k1 k2 k3
  go_wp2
  exact bp_int2 rfl rfl rfl K2.out ⟨_, rfl, ⟨_, rfl, _, _, _, rfl, K3.out⟩, K1.out⟩

set_option maxRecDepth 100000 in
set_option maxHeartbeats 800000 in
theorem rAdd_ge (v u : Value) (x y : Int) (w : World) (hX : RI w v x) (hY : RI w u y) (ax : x.natAbs < lim) (ay : y.natAbs < lim) (hs : ¬ decide (x < 0) = decide (y < 0)) (hle : y.natAbs ≤ x.natAbs) :
    Calls Tryz.prog 75 #[v, u] w fun e w' => ∃ v, e = .returned v ∧ RetI (resS (x + y)) v w' ∧ Ext w w' := by
  have HV1 := Lib.hid (RI.valid hX ax)
  have HV2 := Lib.hid (RI.valid hY ay)
  obtain ⟨A, n, c, rfl, hx⟩ := hX
  obtain ⟨B, m, d, rfl, hy⟩ := hY
  have hn := hx.le400 ax
  have hm := hy.le400 ay
  have hs1 : (decide (x < 0) == decide (y < 0)) = false := by simpa using hs
  have HS := Lib.hid hs; clear hs
  have HL := Lib.hid hle; clear hle
  have hmn : m ≤ n := by
    have h0 := HL.out
    have h1 := hx.len
    have h2 := hy.len
    have h3 := digs_len_le (n := y.natAbs) (k := n) (Nat.lt_of_le_of_lt (show y.natAbs ≤ x.natAbs by omega) (lt_of_digs_len (by omega)))
    omega
  go_enter Tryz.func75, Tryz.ntmps75
  go_wp2_with fail
  refine (rValid_any _ A n c _ _ (hx.ext (((Ext.new w _).alloc _).alloc _))).mono ?_
  rintro e w1 ⟨rfl, hx1⟩
  rw [HV1.out]
  have c0 := (box3a hx1).cell
  have c1 := (box3b hx1).cell
  go_wp2_with fail
  refine (rValid_any _ B m d _ _ (hy.ext (box3 hx1))).mono ?_
  rintro e w2 ⟨rfl, hx2⟩
  rw [HV2.out]
  clear c0 c1
  have hx2 := hx1.trans hx2
  have c0 := (box3a hx2).cell
  have c1 := (box3b hx2).cell
  go_wp2_with fail
  clear c0 c1
  refine (rcompare_any A B n m c d _ _ _ (hx.ext (box3 hx2)) (hy.ext (box3 hx2)) (canon_digs _) (canon_digs _)).mono ?_
  rintro e w0 ⟨rfl, hx0⟩
  rw [val_digs, val_digs]
  have hcmp := cmp_ge0 HL.out
  have hx2 := hx2.trans hx0
  have c0 := (box3a hx2).cell
  have c1 := (box3b hx2).cell
  go_wp2
  clear c0 c1 hcmp
  have Y0 := ExtOf.blk (box3a hx2)
  have Y1 := ExtOf.blk (box3b hx2)
  refine wp_region_ordE 11 [(true, 0), (true, 1), (true, 2), (true, 3), (true, 4), (true, 5), (false, 6), (false, 7), (false, 8), (true, 9), (true, 10)] (by kernel_rfl) (by kernel_rfl) ?_
  refine wpOrdT_quiet [0, 1, 2, 3, 4, 5] [(false, 6), (false, 7), (false, 8), (true, 9), (true, 10)] _ (by kernel_rfl) ?_
  simp only [nthOps, nthOp, List.cons_append, List.nil_append]
  repeat (go_big_quiet_step (fail))
  refine wpQuiet_nil ?_
  refine wpOrdT_act 6 [(false, 7), (false, 8), (true, 9), (true, 10)] (by kernel_rfl) ?_
  intro K hK
  simp only [nthOp]
  go_wp2_with fail
  refine (rminus_any A B n m c d _ _ _ (hx.ext (box3 hx2).drew) (hy.ext (box3 hx2).drew) (by omega) hmn (by rw [val_digs, val_digs]; have := HL.out; omega)).mono ?_
  rintro e w3 ⟨v1, rfl, ⟨A1, n1, c1, rfl, hR⟩, hxw3⟩
  have hxw3 := Ext.undrew hxw3
  go_wp2
  refine hK _ _ ⟨⟨w3, hxw3⟩, rfl⟩ ?_
  clear hK K
  rw [val_digs, val_digs] at hR
  have hn1 : n1 ≤ 1000000 := by
    have h1 := hR.len
    have h2 := len_lim (m := x.natAbs - y.natAbs) (by omega)
    omega
  refine wpOrdT_act 7 [(false, 8), (true, 9), (true, 10)] (by kernel_rfl) ?_
  intro K hK
  simp only [nthOp]
  go_wp2_with fail
  refine (rmade_any _ A1 n1 c1 _ _ hR hn1).mono ?_
  rintro e w4 ⟨v4, rfl, hI4, hxw4⟩
  have hxw4 := hxw3.trans hxw4
  go_wp2
  refine hK _ _ ⟨⟨w4, hxw4⟩, rfl⟩ ?_
  clear hK K
  rw [val_digs, zOf_diff HS.out HL.out] at hI4
  refine wpOrdT_act 8 [(true, 9), (true, 10)] (by kernel_rfl) ?_
  intro K hK
  simp only [nthOp]
  go_wp2_with fail
  refine (rresult_any v4 _ _ hI4).mono ?_
  rintro e w5 ⟨v5, rfl, ⟨u, rfl, A2, n2, c2, rfl, hI⟩, hxw5⟩
  have hxw5 := hxw4.trans hxw5
  go_wp2
  refine hK _ _ ⟨⟨w5, hxw5⟩, rfl⟩ ?_
  clear hK K
  refine wpOrdT_quiet [9, 10] [] _ (by kernel_rfl) ?_
  simp only [nthOps, nthOp, List.cons_append, List.nil_append]
  repeat (go_big_quiet_step (fail))
  refine wpQuiet_nil ?_
  have hx5 := hx2.trans hxw5
  simp only [wpOrdT, List.drop_succ_cons, List.drop_zero]
  have b4 := box3c hx5
  have c4 := b4.cell
  have f4 := b4.frozen
  obtain ⟨k1, k2, k3⟩ := put2 (box3 hx5) (by omega) b4 _ A2 n2 c2
  have K1 := Lib.hid k1; have K2 := Lib.hid k2; have K3 := Lib.hid (k3 _ _ _ _ hI); clear k1 k2 k3
  go_wp2
  exact bp_int2 rfl rfl rfl K2.out ⟨_, rfl, ⟨_, rfl, _, _, _, rfl, K3.out⟩, K1.out⟩

set_option maxRecDepth 100000 in
set_option maxHeartbeats 800000 in
theorem rAdd_lt (v u : Value) (x y : Int) (w : World) (hX : RI w v x) (hY : RI w u y) (ax : x.natAbs < lim) (ay : y.natAbs < lim) (hs : ¬ decide (x < 0) = decide (y < 0)) (hle : x.natAbs < y.natAbs) :
    Calls Tryz.prog 75 #[v, u] w fun e w' => ∃ v, e = .returned v ∧ RetI (resS (x + y)) v w' ∧ Ext w w' := by
  have HV1 := Lib.hid (RI.valid hX ax)
  have HV2 := Lib.hid (RI.valid hY ay)
  obtain ⟨A, n, c, rfl, hx⟩ := hX
  obtain ⟨B, m, d, rfl, hy⟩ := hY
  have hn := hx.le400 ax
  have hm := hy.le400 ay
  have hs1 : (decide (x < 0) == decide (y < 0)) = false := by simpa using hs
  have HS := Lib.hid hs; clear hs
  have HL := Lib.hid hle; clear hle
  have hmn : n ≤ m := by
    have h0 := HL.out
    have h1 := hy.len
    have h2 := hx.len
    have h3 := digs_len_le (n := x.natAbs) (k := m) (Nat.lt_of_le_of_lt (show x.natAbs ≤ y.natAbs by omega) (lt_of_digs_len (by omega)))
    omega
  go_enter Tryz.func75, Tryz.ntmps75
  go_wp2_with fail
  refine (rValid_any _ A n c _ _ (hx.ext (((Ext.new w _).alloc _).alloc _))).mono ?_
  rintro e w1 ⟨rfl, hx1⟩
  rw [HV1.out]
  have c0 := (box3a hx1).cell
  have c1 := (box3b hx1).cell
  go_wp2_with fail
  refine (rValid_any _ B m d _ _ (hy.ext (box3 hx1))).mono ?_
  rintro e w2 ⟨rfl, hx2⟩
  rw [HV2.out]
  clear c0 c1
  have hx2 := hx1.trans hx2
  have c0 := (box3a hx2).cell
  have c1 := (box3b hx2).cell
  go_wp2_with fail
  clear c0 c1
  refine (rcompare_any A B n m c d _ _ _ (hx.ext (box3 hx2)) (hy.ext (box3 hx2)) (canon_digs _) (canon_digs _)).mono ?_
  rintro e w0 ⟨rfl, hx0⟩
  rw [val_digs, val_digs]
  have hcmp := cmp_lt0 HL.out
  have hx2 := hx2.trans hx0
  have c0 := (box3a hx2).cell
  have c1 := (box3b hx2).cell
  go_wp2
  clear c0 c1 hcmp
  have Y0 := ExtOf.blk (box3a hx2)
  have Y1 := ExtOf.blk (box3b hx2)
  refine wp_region_ordE 11 [(true, 0), (true, 1), (true, 2), (true, 3), (true, 4), (true, 5), (false, 6), (false, 7), (false, 8), (true, 9), (true, 10)] (by kernel_rfl) (by kernel_rfl) ?_
  refine wpOrdT_quiet [0, 1, 2, 3, 4, 5] [(false, 6), (false, 7), (false, 8), (true, 9), (true, 10)] _ (by kernel_rfl) ?_
  simp only [nthOps, nthOp, List.cons_append, List.nil_append]
  repeat (go_big_quiet_step (fail))
  refine wpQuiet_nil ?_
  refine wpOrdT_act 6 [(false, 7), (false, 8), (true, 9), (true, 10)] (by kernel_rfl) ?_
  intro K hK
  simp only [nthOp]
  go_wp2_with fail
  refine (rminus_any B A m n d c _ _ _ (hy.ext (box3 hx2).drew) (hx.ext (box3 hx2).drew) (by omega) hmn (by rw [val_digs, val_digs]; have := HL.out; omega)).mono ?_
  rintro e w3 ⟨v1, rfl, ⟨A1, n1, c1, rfl, hR⟩, hxw3⟩
  have hxw3 := Ext.undrew hxw3
  go_wp2
  refine hK _ _ ⟨⟨w3, hxw3⟩, rfl⟩ ?_
  clear hK K
  rw [val_digs, val_digs] at hR
  have hn1 : n1 ≤ 1000000 := by
    have h1 := hR.len
    have h2 := len_lim (m := y.natAbs - x.natAbs) (by omega)
    omega
  refine wpOrdT_act 7 [(false, 8), (true, 9), (true, 10)] (by kernel_rfl) ?_
  intro K hK
  simp only [nthOp]
  go_wp2_with fail
  refine (rmade_any _ A1 n1 c1 _ _ hR hn1).mono ?_
  rintro e w4 ⟨v4, rfl, hI4, hxw4⟩
  have hxw4 := hxw3.trans hxw4
  go_wp2
  refine hK _ _ ⟨⟨w4, hxw4⟩, rfl⟩ ?_
  clear hK K
  rw [val_digs, zOf_diff (fun h => HS.out h.symm) (Nat.le_of_lt HL.out), Int.add_comm] at hI4
  refine wpOrdT_act 8 [(true, 9), (true, 10)] (by kernel_rfl) ?_
  intro K hK
  simp only [nthOp]
  go_wp2_with fail
  refine (rresult_any v4 _ _ hI4).mono ?_
  rintro e w5 ⟨v5, rfl, ⟨u, rfl, A2, n2, c2, rfl, hI⟩, hxw5⟩
  have hxw5 := hxw4.trans hxw5
  go_wp2
  refine hK _ _ ⟨⟨w5, hxw5⟩, rfl⟩ ?_
  clear hK K
  refine wpOrdT_quiet [9, 10] [] _ (by kernel_rfl) ?_
  simp only [nthOps, nthOp, List.cons_append, List.nil_append]
  repeat (go_big_quiet_step (fail))
  refine wpQuiet_nil ?_
  have hx5 := hx2.trans hxw5
  simp only [wpOrdT, List.drop_succ_cons, List.drop_zero]
  have b4 := box3c hx5
  have c4 := b4.cell
  have f4 := b4.frozen
  obtain ⟨k1, k2, k3⟩ := put2 (box3 hx5) (by omega) b4 _ A2 n2 c2
  have K1 := Lib.hid k1; have K2 := Lib.hid k2; have K3 := Lib.hid (k3 _ _ _ _ hI); clear k1 k2 k3
  go_wp2
  exact bp_int2 rfl rfl rfl K2.out ⟨_, rfl, ⟨_, rfl, _, _, _, rfl, K3.out⟩, K1.out⟩

theorem rAdd_ok (v u : Value) (x y : Int) (w : World) (hX : RI w v x) (hY : RI w u y) (ax : x.natAbs < lim) (ay : y.natAbs < lim) :
    Calls Tryz.prog 75 #[v, u] w fun e w' => ∃ v, e = .returned v ∧ RetI (resS (x + y)) v w' ∧ Ext w w' := by
  by_cases hs : decide (x < 0) = decide (y < 0)
  · exact rAdd_same v u x y w hX hY ax ay hs
  · rcases Nat.lt_or_ge x.natAbs y.natAbs with h | h
    · exact rAdd_lt v u x y w hX hY ax ay hs h
    · exact rAdd_ge v u x y w hX hY ax ay hs h
end Go.Proofs.YtclkkoiaaddllaaGreat

/- Contracts: negation, the reference's difference, comparisons and signs. -/
namespace Go.Proofs.YtclkkoiaaddllaaGreat
open Go.RowKit
set_option linter.unusedVariables false

theorem box2 {w w1 : World} {x r : Obj} (hx : Ext ((w.alloc x).alloc r) w1) : Ext w w1 := ((Ext.new w _).alloc _).trans hx
theorem box2a {w w1 : World} {cs : Array Value} {t : TypeId} {r : Obj} (hx : Ext ((w.alloc (.cells cs t)).alloc r) w1) : Blk w1 w.heap.size t cs := ((Blk.new w t cs).alloc _).ext hx
theorem box2b {w w1 : World} {cs : Array Value} {t : TypeId} {x : Obj} (hx : Ext ((w.alloc x).alloc (.cells cs t)) w1) : Blk w1 (w.heap.size + 1) t cs := (Blk.new' t cs (by simp)).ext hx

set_option maxRecDepth 100000 in
set_option maxHeartbeats 800000 in
theorem Neg_ok (v : Value) (x z : Int) (w : World) (hX : RI w v x) (ax : x.natAbs < lim) (hz : z = -x) :
    Calls Tryz.prog 136 #[v] w fun e w' => ∃ v, e = .returned v ∧ RetI (z, 0) v w' ∧ Ext w w' := by
  have HZ := Lib.hid hz
  have HV1 := Lib.hid (RI.valid hX ax)
  obtain ⟨A, n, c, rfl, hx⟩ := hX
  have hn := hx.le400 ax
  have HS := Lib.hid (resS_ok (z := z) (by omega))
  clear hz
  go_enter Tryz.func136, Tryz.ntmps136
  go_wp2_with fail
  refine (Valid_any _ A n c _ _ (hx.ext ((Ext.new w _).alloc _))).mono ?_
  rintro e w1 ⟨rfl, hx1⟩
  rw [HV1.out]
  go_wp2
  have Y0 := ExtOf.blk (box2a hx1)
  refine wp_region_ordE 9 [(true, 0), (true, 1), (true, 2), (true, 3), (true, 4), (false, 5), (false, 6), (true, 7), (true, 8)] (by kernel_rfl) (by kernel_rfl) ?_
  refine wpOrdT_quiet [0, 1, 2, 3, 4] [(false, 5), (false, 6), (true, 7), (true, 8)] _ (by kernel_rfl) ?_
  simp only [nthOps, nthOp, List.cons_append, List.nil_append]
  repeat (go_big_quiet_step (fail))
  refine wpQuiet_nil ?_
  refine wpOrdT_act 5 [(false, 6), (true, 7), (true, 8)] (by kernel_rfl) ?_
  intro K hK
  simp only [nthOp]
  go_wp2_with fail
  refine (clone_any A n c _ _ (hx.ext (box2 hx1).drew) (by omega)).mono ?_
  rintro e w3 ⟨v1, rfl, ⟨A1, n1, c1, rfl, hR⟩, hxw3⟩
  have hxw3 := Ext.undrew hxw3
  go_wp2
  refine hK _ _ ⟨⟨w3, hxw3⟩, rfl⟩ ?_
  clear hK K
  refine wpOrdT_act 6 [(true, 7), (true, 8)] (by kernel_rfl) ?_
  intro K hK
  simp only [nthOp]
  go_wp2_with fail
  refine (result_any _ A1 n1 c1 _ _ hR).mono ?_
  rintro e w5 ⟨v5, rfl, ⟨u, rfl, A2, n2, c2, rfl, hI⟩, hxw5⟩
  have hxw5 := hxw3.trans hxw5
  go_wp2
  refine hK _ _ ⟨⟨w5, hxw5⟩, rfl⟩ ?_
  clear hK K
  rw [val_digs, zOf_not_of, ← HZ.out, HS.out] at hI
  simp only [val_digs, zOf_not_of, ← HZ.out, HS.out]
  refine wpOrdT_quiet [7, 8] [] _ (by kernel_rfl) ?_
  simp only [nthOps, nthOp, List.cons_append, List.nil_append]
  repeat (go_big_quiet_step (fail))
  refine wpQuiet_nil ?_
  have hx5 := hx1.trans hxw5
  simp only [wpOrdT, List.drop_succ_cons, List.drop_zero]
  have b4 := box2b hx5
  have c4 := b4.cell
  have f4 := b4.frozen
  obtain ⟨k1, k2, k3⟩ := put2 (box2 hx5) (by omega) b4 _ A2 n2 c2
  have K1 := Lib.hid k1; have K2 := Lib.hid k2; have K3 := Lib.hid (k3 _ _ _ _ hI); clear k1 k2 k3
  go_wp2
  exact bp_int2 rfl rfl rfl K2.out ⟨_, rfl, ⟨_, rfl, _, _, _, rfl, K3.out⟩, K1.out⟩

set_option maxRecDepth 100000 in
set_option maxHeartbeats 800000 in
theorem rNeg_ok (v : Value) (x z : Int) (w : World) (hX : RI w v x) (ax : x.natAbs < lim) (hz : z = -x) :
    Calls Tryz.prog 110 #[v] w fun e w' => ∃ v, e = .returned v ∧ RetI (z, 0) v w' ∧ Ext w w' := by
  have HZ := Lib.hid hz
  have HV1 := Lib.hid (RI.valid hX ax)
  obtain ⟨A, n, c, rfl, hx⟩ := hX
  have hn := hx.le400 ax
  clear hz
  go_enter Tryz.func110, Tryz.ntmps110
  go_wp2_with fail
  refine (rValid_any _ A n c _ _ (hx.ext ((Ext.new w _).alloc _))).mono ?_
  rintro e w1 ⟨rfl, hx1⟩
  rw [HV1.out]
  have c0 := (box2a hx1).cell
  go_wp2_with fail
  clear c0
  refine (rmade_any _ A n c _ _ (hx.ext (box2 hx1)) (by omega)).mono ?_
  rintro e w3 ⟨v2, rfl, ⟨A2, n2, c2, rfl, hI⟩, hx3⟩
  rw [val_digs, zOf_not_of, ← HZ.out] at hI
  rw [val_digs, zOf_not_of, ← HZ.out]
  have hx3 := hx1.trans hx3
  have b4 := box2b hx3
  have c4 := b4.cell
  have f4 := b4.frozen
  obtain ⟨k1, k2, k3⟩ := put2 (box2 hx3) (by omega) b4 _ A2 n2 c2
  have K1 := Lib.hid k1; have K2 := Lib.hid k2; have K3 := Lib.hid (k3 _ _ _ _ hI); clear k1 k2 k3
  go_wp2
  exact bp_int2 rfl rfl rfl K2.out ⟨_, rfl, ⟨_, rfl, _, _, _, rfl, K3.out⟩, K1.out⟩

/-! The reference's difference: it negates first. -/
set_option maxRecDepth 100000 in
set_option maxHeartbeats 800000 in
theorem rSub_ok (v u : Value) (x y : Int) (w : World) (hX : RI w v x) (hY : RI w u y) (ax : x.natAbs < lim) (ay : y.natAbs < lim) :
    Calls Tryz.prog 73 #[v, u] w fun e w' => ∃ v, e = .returned v ∧ RetI (resS (x - y)) v w' ∧ Ext w w' := by
  obtain ⟨z, hz⟩ : ∃ z, z = -y := ⟨_, rfl⟩
  have HV1 := Lib.hid (RI.valid hX ax)
  obtain ⟨A, n, c, rfl, hx⟩ := hX
  obtain ⟨B, m, d, rfl, hy⟩ := hY
  have az : z.natAbs < lim := by omega
  have HZ := Lib.hid hz; clear hz
  go_enter Tryz.func73, Tryz.ntmps73
  go_wp2_with fail
  refine (rNeg_ok (iv (decide (y < 0)) B m d) y z _ (show RI _ _ _ from ⟨_, _, _, rfl, hy.ext (((Ext.new w _).alloc _).alloc _)⟩) ay HZ.out).mono ?_
  rintro e w1 ⟨v1, rfl, ⟨u1, rfl, A1, n1, c1, rfl, hI1⟩, hx1⟩
  have b0 := ((box3a hx1).alloc (.cells #[.bool (decide (z < 0)), .slice A1 n1 c1] 30)).cell
  go_wp2_with fail
  refine (rValid_any _ A n c _ _ (hx.ext ((box3 hx1).alloc _))).mono ?_
  rintro e w2 ⟨rfl, hx2⟩
  clear b0
  rw [HV1.out]
  have b0 := ((box3a hx1).ext ((Ext.new w1 _).trans hx2)).cell
  have b1 := ((Blk.new w1 30 #[.bool (decide (z < 0)), .slice A1 n1 c1]).ext hx2).cell
  have hxx := hx1.trans ((Ext.new w1 _).trans hx2)
  go_wp2_with fail
  clear b0 b1
  refine (rAdd_ok _ _ x z _ (show RI _ _ _ from ⟨_, _, _, rfl, hx.ext (box3 hxx)⟩) (show RI _ _ _ from ⟨_, _, _, rfl, hI1.ext ((Ext.new w1 _).trans hx2)⟩) ax az).mono ?_
  rintro e w3 ⟨v2, rfl, ⟨u, rfl, A2, n2, c2, rfl, hI⟩, hx3⟩
  rw [HZ.out, ← Int.sub_eq_add_neg] at hI
  rw [show x + z = x - y by rw [HZ.out, Int.sub_eq_add_neg]]
  have hx3 := hxx.trans hx3
  have b4 := box3c hx3
  have c4 := b4.cell
  have f4 := b4.frozen
  obtain ⟨k1, k2, k3⟩ := put2 (box3 hx3) (by omega) b4 _ A2 n2 c2
  have K1 := Lib.hid k1; have K2 := Lib.hid k2; have K3 := Lib.hid (k3 _ _ _ _ hI); clear k1 k2 k3
  go_wp2
  exact bp_int2 rfl rfl rfl K2.out ⟨_, rfl, ⟨_, rfl, _, _, _, rfl, K3.out⟩, K1.out⟩

/-! Comparisons. -/
def cmpZ (a b : Int) : Int := if a < b then -1 else if b < a then 1 else 0
theorem cmpZ_np {x y : Int} (hx : x < 0) (hy : ¬ y < 0) : -1 = cmpZ x y := by unfold cmpZ; rw [if_pos (by omega)]
theorem cmpZ_pn {x y : Int} (hx : ¬ x < 0) (hy : y < 0) : 1 = cmpZ x y := by unfold cmpZ; rw [if_neg (by omega), if_pos (by omega)]
theorem cmpZ_pp {x y : Int} (hx : ¬ x < 0) (hy : ¬ y < 0) : cmpN x.natAbs y.natAbs = cmpZ x y := by
  unfold cmpZ cmpN
  by_cases h1 : x < y
  · rw [if_pos h1, if_pos (by omega)]
  · rw [if_neg h1, if_neg (by omega)]
    by_cases h2 : y < x
    · rw [if_pos h2, if_pos (by omega)]
    · rw [if_neg h2, if_neg (by omega)]
theorem cmpZ_nn {x y : Int} (hx : x < 0) (hy : y < 0) : cmpN y.natAbs x.natAbs = cmpZ x y := by
  unfold cmpZ cmpN
  by_cases h1 : x < y
  · rw [if_pos h1, if_pos (by omega)]
  · rw [if_neg h1, if_neg (by omega)]
    by_cases h2 : y < x
    · rw [if_pos h2, if_pos (by omega)]
    · rw [if_neg h2, if_neg (by omega)]

set_option maxRecDepth 100000 in
set_option maxHeartbeats 800000 in
theorem Compare_ok (v u : Value) (x y : Int) (w : World) (hX : RI w v x) (hY : RI w u y) (ax : x.natAbs < lim) (ay : y.natAbs < lim) :
    Calls Tryz.prog 118 #[v, u] w fun e w' => e = .returned (.int .i64 (cmpZ x y)) ∧ Ext w w' := by
  have HV1 := Lib.hid (RI.valid hX ax)
  have HV2 := Lib.hid (RI.valid hY ay)
  obtain ⟨A, n, c, rfl, hx⟩ := hX
  obtain ⟨B, m, d, rfl, hy⟩ := hY
  go_enter Tryz.func118, Tryz.ntmps118
  go_wp2_with fail
  refine (Valid_any _ A n c _ _ (hx.ext ((Ext.new w _).alloc _))).mono ?_
  rintro e w1 ⟨rfl, hx1⟩
  rw [HV1.out]
  have c0 := (box2a hx1).cell
  have c1 := (box2b hx1).cell
  go_wp2_with fail
  refine (Valid_any _ B m d _ _ (hy.ext (box2 hx1))).mono ?_
  rintro e w2 ⟨rfl, hx2⟩
  rw [HV2.out]
  clear c0 c1
  have hx2 := hx1.trans hx2
  have c0 := (box2a hx2).cell
  have c1 := (box2b hx2).cell
  by_cases h1 : x < 0
  · have d1 : decide (x < 0) = true := decide_eq_true h1
    by_cases h2 : y < 0
    · have d2 : decide (y < 0) = true := decide_eq_true h2
      go_wp2_with fail
      clear c0 c1
      refine (compareMag_any B A m n d c _ _ _ (hy.ext (box2 hx2)) (hx.ext (box2 hx2)) (canon_digs _) (canon_digs _)).mono ?_
      rintro e w3 ⟨rfl, hx3⟩
      go_wp2
      go_ret
      exact ⟨ret_int (by rw [val_digs, val_digs, cmpZ_nn (x := x) (y := y) (by omega) (by omega)]), (box2 hx2).trans hx3⟩
    · have d2 : decide (y < 0) = false := decide_eq_false h2
      go_wp2
      go_ret
      exact ⟨ret_int (cmpZ_np (by omega) (by omega)), box2 hx2⟩
  · have d1 : decide (x < 0) = false := decide_eq_false h1
    by_cases h2 : y < 0
    · have d2 : decide (y < 0) = true := decide_eq_true h2
      go_wp2
      go_ret
      exact ⟨ret_int (cmpZ_pn (by omega) (by omega)), box2 hx2⟩
    · have d2 : decide (y < 0) = false := decide_eq_false h2
      go_wp2_with fail
      clear c0 c1
      refine (compareMag_any A B n m c d _ _ _ (hx.ext (box2 hx2)) (hy.ext (box2 hx2)) (canon_digs _) (canon_digs _)).mono ?_
      rintro e w3 ⟨rfl, hx3⟩
      go_wp2
      go_ret
      exact ⟨ret_int (by rw [val_digs, val_digs, cmpZ_pp (x := x) (y := y) (by omega) (by omega)]), (box2 hx2).trans hx3⟩
set_option maxRecDepth 100000 in
set_option maxHeartbeats 800000 in
theorem rCompare_ok (v u : Value) (x y : Int) (w : World) (hX : RI w v x) (hY : RI w u y) (ax : x.natAbs < lim) (ay : y.natAbs < lim) :
    Calls Tryz.prog 69 #[v, u] w fun e w' => e = .returned (.int .i64 (cmpZ x y)) ∧ Ext w w' := by
  have HV1 := Lib.hid (RI.valid hX ax)
  have HV2 := Lib.hid (RI.valid hY ay)
  obtain ⟨A, n, c, rfl, hx⟩ := hX
  obtain ⟨B, m, d, rfl, hy⟩ := hY
  go_enter Tryz.func69, Tryz.ntmps69
  go_wp2_with fail
  refine (rValid_any _ A n c _ _ (hx.ext ((Ext.new w _).alloc _))).mono ?_
  rintro e w1 ⟨rfl, hx1⟩
  rw [HV1.out]
  have c0 := (box2a hx1).cell
  have c1 := (box2b hx1).cell
  go_wp2_with fail
  refine (rValid_any _ B m d _ _ (hy.ext (box2 hx1))).mono ?_
  rintro e w2 ⟨rfl, hx2⟩
  rw [HV2.out]
  clear c0 c1
  have hx2 := hx1.trans hx2
  have c0 := (box2a hx2).cell
  have c1 := (box2b hx2).cell
  by_cases h1 : x < 0
  · have d1 : decide (x < 0) = true := decide_eq_true h1
    by_cases h2 : y < 0
    · have d2 : decide (y < 0) = true := decide_eq_true h2
      go_wp2_with fail
      clear c0 c1
      refine (rcompare_any B A m n d c _ _ _ (hy.ext (box2 hx2)) (hx.ext (box2 hx2)) (canon_digs _) (canon_digs _)).mono ?_
      rintro e w3 ⟨rfl, hx3⟩
      go_wp2
      go_ret
      exact ⟨ret_int (by rw [val_digs, val_digs, cmpZ_nn (x := x) (y := y) (by omega) (by omega)]), (box2 hx2).trans hx3⟩
    · have d2 : decide (y < 0) = false := decide_eq_false h2
      go_wp2
      go_ret
      exact ⟨ret_int (cmpZ_np (by omega) (by omega)), box2 hx2⟩
  · have d1 : decide (x < 0) = false := decide_eq_false h1
    by_cases h2 : y < 0
    · have d2 : decide (y < 0) = true := decide_eq_true h2
      go_wp2
      go_ret
      exact ⟨ret_int (cmpZ_pn (by omega) (by omega)), box2 hx2⟩
    · have d2 : decide (y < 0) = false := decide_eq_false h2
      go_wp2_with fail
      clear c0 c1
      refine (rcompare_any A B n m c d _ _ _ (hx.ext (box2 hx2)) (hy.ext (box2 hx2)) (canon_digs _) (canon_digs _)).mono ?_
      rintro e w3 ⟨rfl, hx3⟩
      go_wp2
      go_ret
      exact ⟨ret_int (by rw [val_digs, val_digs, cmpZ_pp (x := x) (y := y) (by omega) (by omega)]), (box2 hx2).trans hx3⟩
end Go.Proofs.YtclkkoiaaddllaaGreat

/- Contracts: signs, words, small numbers. -/
namespace Go.Proofs.YtclkkoiaaddllaaGreat
open Go.RowKit
set_option linter.unusedVariables false

set_option maxRecDepth 100000 in
set_option maxHeartbeats 400000 in
theorem Sign_ok (v : Value) (x : Int) (w : World) (hX : RI w v x) (ax : x.natAbs < lim) :
    Calls Tryz.prog 80 #[v] w fun e w' => e = .returned (.int .i64 (cmpZ x 0)) ∧ Ext w w' := by
  obtain ⟨A, n, c, rfl, hx⟩ := hX
  go_enter Tryz.func80, Tryz.ntmps80
  go_wp2_with fail
  refine (Compare_ok _ _ x 0 _ (show RI _ _ _ from ⟨_, _, _, rfl, hx.ext (Ext.new w _)⟩) (RI.zero _) ax (by unfold lim; exact Nat.pow_pos (by omega))).mono ?_
  rintro e w1 ⟨rfl, hx1⟩
  go_wp2
  go_ret
  exact ⟨rfl, (Ext.new w _).trans hx1⟩
set_option maxRecDepth 100000 in
set_option maxHeartbeats 400000 in
theorem rSign_ok (v : Value) (x : Int) (w : World) (hX : RI w v x) (ax : x.natAbs < lim) :
    Calls Tryz.prog 51 #[v] w fun e w' => e = .returned (.int .i64 (cmpZ x 0)) ∧ Ext w w' := by
  obtain ⟨A, n, c, rfl, hx⟩ := hX
  go_enter Tryz.func51, Tryz.ntmps51
  go_wp2_with fail
  refine (rCompare_ok _ _ x 0 _ (show RI _ _ _ from ⟨_, _, _, rfl, hx.ext (Ext.new w _)⟩) (RI.zero _) ax (by unfold lim; exact Nat.pow_pos (by omega))).mono ?_
  rintro e w1 ⟨rfl, hx1⟩
  go_wp2
  go_ret
  exact ⟨rfl, (Ext.new w _).trans hx1⟩
theorem or_zero {x : Nat} (hx : x < 18446744073709551616) : bits .or .u64 ((0 : Nat) : Int) (x : Int) = (x : Int) := by
  rw [u64_or_nat 0 x (by omega) hx]; simp
theorem or_lo {a x : Nat} (ha : a < 4294967296) (hx : x < 4294967296) : bits .or .u64 (a : Int) ((x : Int) * 4294967296) = ((a + 4294967296 * x : Nat) : Int) := by
  rw [u64_or32 _ _ (by omega) (by omega) (by omega) (by omega) (by omega)]; omega
theorem or_hi {a x : Nat} (ha : a < 4294967296) (hx : x < 4294967296) : bits .or .u64 ((a : Int) * 4294967296) (x : Int) = ((x + 4294967296 * a : Nat) : Int) := by
  rw [bits_join .u64 64 (by decide) wraps_u64 32 _ _ (by omega) (by omega) (by omega) (by omega) (by omega) (by omega)]; omega

set_option maxRecDepth 100000 in
set_option maxHeartbeats 800000 in
theorem word_any (A : Option Addr) (n c : Nat) (l : List Nat) (w : World) (h : RM w A n c l) (hn : n ≤ 2) :
    Calls Tryz.prog 143 #[.slice A n c] w fun e w' => e = .returned (.int .u64 (val l : Int)) ∧ w = w' := by
  have HL := Lib.hid h.len
  go_enter Tryz.func143, Tryz.ntmps143
  go_wp2
  go_loop [3, 8] (fun wv i => ∃ k : Nat, k ≤ n ∧ i = .int .i64 k ∧ wv = .int .u64 (val (l.take k) : Int)) (fun _ i => n - (intOf i).toNat)
  case atStart => exact ⟨0, by omega, rfl, rfl⟩
  case round =>
    obtain ⟨k, hk, rfl, rfl⟩ := hrel
    by_cases hlt : k < n
    · obtain ⟨ad, x, rfl, _, hx, hx32, hcx⟩ := h.at_ hlt
      have HX := Lib.hid (val_take_succ hx)
      rcases (show k = 0 ∨ k = 1 by omega) with rfl | rfl
      · have e0 : val (l.take 0) = 0 := rfl
        have hc0 : w.cell? ad = some (.int .u32 (x : Int)) := hcx
        clear hx
        go_wp2
        go_round
        case rel => exact ⟨1, by omega, by go_num, congrArg (fun z : Int => Value.int .u64 z) (by rw [show bits .or .u64 ((val [] : Nat) : Int) (x : Int) = (x : Int) from or_zero (by omega), HX.out]; simp [val])⟩
        case measure => simp [intOf] <;> omega
      · have hb := val_lt (h.dg.take 1)
        rw [List.length_take] at hb
        have hb' : val (l.take 1) < 4294967296 := Nat.lt_of_lt_of_le hb (by have := HL.out; rw [Nat.min_eq_left (by omega)]; exact Nat.le_refl _)
        clear hb hx
        have hc0 : w.cell? ⟨ad.block, ad.off + 1, none⟩ = some (.int .u32 (x : Int)) := by simpa [Addr.add] using hcx
        go_wp2
        go_round
        case rel => exact ⟨2, by omega, by go_num, congrArg (fun z : Int => Value.int .u64 z) (by rw [or_lo hb' hx32, HX.out])⟩
        case measure => simp [intOf] <;> omega
    · go_wp2
      go_ret
      exact ⟨ret_int (by rw [List.take_of_length_le (by rw [HL.out]; omega)]), rfl⟩

theorem xor_ones {m : Nat} (h : m < 18446744073709551616) : 18446744073709551615 ^^^ m = 18446744073709551615 - m := by
  have h1 : (BitVec.allOnes 64 ^^^ BitVec.ofNat 64 m).toNat = (BitVec.allOnes 64).toNat ^^^ (BitVec.ofNat 64 m).toNat := BitVec.toNat_xor _ _
  rw [BitVec.allOnes_xor, BitVec.toNat_not, BitVec.toNat_ofNat, BitVec.toNat_allOnes, Nat.mod_eq_of_lt (by omega)] at h1
  exact h1.symm
theorem u64_not {m : Nat} (h : m < 18446744073709551616) : bits .xor .u64 IntKind.u64.max (m : Int) = ((18446744073709551615 - m : Nat) : Int) := by
  rw [show IntKind.u64.max = ((18446744073709551615 : Nat) : Int) from rfl, u64_xor_nat _ _ (by omega) h, xor_ones h]
theorem val_drop {l : List Nat} {k x : Nat} (h : l[k]? = some x) : val (l.drop k) = x + 4294967296 * val (l.drop (k + 1)) := by
  obtain ⟨h1, rfl⟩ := List.getElem?_eq_some_iff.1 h
  rw [List.drop_eq_getElem_cons h1, val]

end Go.Proofs.YtclkkoiaaddllaaGreat

/- Contracts: the reference's equality, absolute value and Of. -/
namespace Go.Proofs.YtclkkoiaaddllaaGreat
open Go.RowKit
set_option linter.unusedVariables false

theorem cmpN_zero {p q : Nat} : (cmpN p q == 0) = decide (p = q) := by
  unfold cmpN
  rcases Nat.lt_trichotomy p q with h | h | h
  · simp [h]; omega
  · simp [h]
  · have : ¬ p < q := by omega
    simp [h, this]; omega
theorem abs_same {x y : Int} (h : decide (x < 0) = decide (y < 0)) : decide (x.natAbs = y.natAbs) = decide (x = y) := by
  by_cases hx : x < 0
  · have hy : y < 0 := by simpa [hx] using h
    rw [decide_eq_decide]; omega
  · have hy : ¬ y < 0 := by simpa [hx] using h
    rw [decide_eq_decide]; omega

set_option maxRecDepth 100000 in
set_option maxHeartbeats 400000 in
theorem rSame_any (v u : Value) (x y : Int) (w : World) (hX : RI w v x) (hY : RI w u y) :
    Calls Tryz.prog 41 #[v, u] w fun e w' => e = .returned (.bool (decide (x = y))) ∧ Ext w w' := by
  obtain ⟨A, n, c, rfl, hx⟩ := hX
  obtain ⟨B, m, d, rfl, hy⟩ := hY
  by_cases hs : decide (x < 0) = decide (y < 0)
  · have hs1 : (decide (x < 0) == decide (y < 0)) = true := by simpa using hs
    have HS := Lib.hid hs; clear hs
    go_enter Tryz.func41, Tryz.ntmps41
    go_wp2_with fail
    refine (rcompare_any A B n m c d _ _ _ (hx.ext ((Ext.new w _).alloc _)) (hy.ext ((Ext.new w _).alloc _)) (canon_digs _) (canon_digs _)).mono ?_
    rintro e w1 ⟨rfl, hx1⟩
    go_wp2
    go_ret
    refine ⟨ret_bool ?_, ((Ext.new w _).alloc _).trans hx1⟩
    rw [val_digs, val_digs, cmpN_zero, abs_same HS.out]
  · have hs1 : (decide (x < 0) == decide (y < 0)) = false := by simpa using hs
    have hne : x ≠ y := fun e => hs (by rw [e])
    go_enter Tryz.func41, Tryz.ntmps41
    go_wp2
    go_ret
    exact ⟨ret_bool (by simp [hne]), (Ext.new w _).alloc _⟩

theorem u64_back {m : Nat} (h0 : 0 < m) (h : m ≤ 9223372036854775808) : IntKind.u64.wrap (bits .xor .u64 IntKind.u64.max (IntKind.u64.wrap (-(m : Int))) + 1) = (m : Int) := by
  have e : IntKind.u64.wrap (-(m : Int)) = ((18446744073709551616 - m : Nat) : Int) := by rw [u64_wrap]; omega
  rw [e, u64_not (by omega), u64_wrap]; omega

set_option maxRecDepth 100000 in
set_option maxHeartbeats 400000 in
theorem rOf_any (n : Int) (w : World) (h1 : -9223372036854775808 ≤ n) (h2 : n ≤ 9223372036854775807) :
    Calls Tryz.prog 76 #[.int .i64 n] w fun e w' => ∃ v, e = .returned v ∧ RI w' v n ∧ Ext w w' := by
  obtain ⟨z, hz⟩ : ∃ z, z = n := ⟨_, rfl⟩
  by_cases h0 : n < 0
  · obtain ⟨m, rfl⟩ : ∃ m : Nat, n = -(m : Int) := ⟨n.natAbs, by omega⟩
    rw [← hz]
    have HZ := Lib.hid hz; clear hz
    rw [HZ.out]
    go_enter Tryz.func76, Tryz.ntmps76
    go_wp2_with fail
    rw [u64_back (by omega) (by omega)]
    refine (rdigits_any m _ (by omega)).mono ?_
    rintro e w1 ⟨v1, rfl, ⟨A1, n1, c1, rfl, hR⟩, hx1⟩
    go_wp2_with fail
    have hn1 : n1 ≤ 1000000 := by
      have h1 := hR.len
      have h2 := digs_len_le (n := m) (k := 2) (by omega)
      omega
    refine (rmade_any true A1 n1 c1 _ _ hR hn1).mono ?_
    rintro e w3 ⟨v2, rfl, ⟨A2, n2, c2, rfl, hI⟩, hx3⟩
    rw [val_digs, zOf_min, ← HZ.out] at hI
    rw [val_digs, zOf_min, ← HZ.out]
    have hx3 := hx1.trans hx3
    have b4 := (Blk.new w 30 _).ext hx3
    have c4 := b4.cell
    have f4 := b4.frozen
    obtain ⟨k1, k2, k3⟩ := put2 ((Ext.new w _).trans hx3) (by omega) b4 (decide (z < 0)) A2 n2 c2
    have K1 := Lib.hid k1; have K2 := Lib.hid k2; have K3 := Lib.hid (k3 _ _ _ _ hI); clear k1 k2 k3
    go_wp2
    exact bp_int1 rfl rfl rfl K2.out ⟨_, rfl, HZ.out.subst (motive := fun t => RI _ (iv (decide (z < 0)) A2 n2 c2) t) (show RI _ (iv (decide (z < 0)) A2 n2 c2) z from ⟨_, _, _, rfl, K3.out⟩), K1.out⟩
  · obtain ⟨m, rfl⟩ : ∃ m : Nat, n = (m : Int) := ⟨n.natAbs, by omega⟩
    rw [← hz]
    have HZ := Lib.hid hz; clear hz
    rw [HZ.out]
    go_enter Tryz.func76, Tryz.ntmps76
    go_wp2_with fail
    refine (rdigits_any m _ (by omega)).mono ?_
    rintro e w1 ⟨v1, rfl, ⟨A1, n1, c1, rfl, hR⟩, hx1⟩
    go_wp2_with fail
    have hn1 : n1 ≤ 1000000 := by
      have h1 := hR.len
      have h2 := digs_len_le (n := m) (k := 2) (by omega)
      omega
    refine (rmade_any false A1 n1 c1 _ _ hR hn1).mono ?_
    rintro e w3 ⟨v2, rfl, ⟨A2, n2, c2, rfl, hI⟩, hx3⟩
    rw [val_digs, zOf_pos, ← HZ.out] at hI
    rw [val_digs, zOf_pos, ← HZ.out]
    have hx3 := hx1.trans hx3
    have b4 := (Blk.new w 30 _).ext hx3
    have c4 := b4.cell
    have f4 := b4.frozen
    obtain ⟨k1, k2, k3⟩ := put2 ((Ext.new w _).trans hx3) (by omega) b4 (decide (z < 0)) A2 n2 c2
    have K1 := Lib.hid k1; have K2 := Lib.hid k2; have K3 := Lib.hid (k3 _ _ _ _ hI); clear k1 k2 k3
    go_wp2
    exact bp_int1 rfl rfl rfl K2.out ⟨_, rfl, HZ.out.subst (motive := fun t => RI _ (iv (decide (z < 0)) A2 n2 c2) t) (show RI _ (iv (decide (z < 0)) A2 n2 c2) z from ⟨_, _, _, rfl, K3.out⟩), K1.out⟩
end Go.Proofs.YtclkkoiaaddllaaGreat
