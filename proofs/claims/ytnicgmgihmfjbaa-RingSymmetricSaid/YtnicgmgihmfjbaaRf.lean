/- Ring: Hops of the specification. -/
import Derived.Test.YtnicgmgihmfjbaaRe
namespace Go.Proofs.Ytnicgmgihmfjbaa
open Go.RowKit Go.Shelf
open Rg (nodeAt link wl way)
attribute [local go_sem] Oper.semAt_some

theorem rcheck_v (A : Option Addr) (n c : Nat) (v : Int) (w : World) (hn : n ≤ 140737488351232) (h : ckI n = v) : Calls Try.prog 20 #[.agg #[.slice A n c]] w fun e w' => e = .returned (.int .i64 v) ∧ Ext w w' := by
  subst h; exact rcheck_any A n c w hn
theorem rnode_v (A : Option Addr) (n c : Nat) (f : Int) (v : Bool) (w : World) (hn : n ≤ 140737488351232) (h : nodeB n f = v) : Calls Try.prog 29 #[.agg #[.slice A n c], .int .i64 f] w fun e w' => e = .returned (.bool v) ∧ Ext w w' := by
  rw [← h]; exact rnode_any A n c f w hn
theorem nodeB_has {n : Nat} {f : Int} (h : ckB n = true) : nodeB n f = hasB n f := by unfold nodeB hasB; rw [h]; rfl

theorem Boxed.start (w : World) (t : TypeId) (v : Value) : Boxed (w.alloc (.cells #[v] t)) w.heap.size t v ∧ Ext w (w.alloc (.cells #[v] t)) := ⟨Boxed.new w t v, Ext.new _ _⟩

set_option maxRecDepth 100000 in
set_option maxHeartbeats 1000000 in
theorem rhops_bad (A : Option Addr) (n c : Nat) (f t d : Int) (w : World) (hn : n ≤ 140737488351232)
    (h : ckI n = 3 ∨ (ckI n = 0 ∧ nodeB n f = false) ∨ (ckI n = 0 ∧ nodeB n f = true ∧ nodeB n t = false) ∨ (ckI n = 0 ∧ nodeB n f = true ∧ nodeB n t = true ∧ f = t) ∨ (ckI n = 0 ∧ nodeB n f = true ∧ nodeB n t = true ∧ f ≠ t ∧ d ≠ 0 ∧ d ≠ 1)) :
    Calls Try.prog 22 #[.agg #[.slice A n c], .int .i64 f, .int .i64 t, .int .i64 d] w fun e w' => e = .returned (hopV none) ∧ Ext w w' := by
  obtain ⟨b, hE⟩ := Boxed.start w 36 (.slice A n c)
  rcases h with h | ⟨h0, h⟩ | ⟨h0, h1, h⟩ | ⟨h0, h1, h2, h⟩ | ⟨h0, h1, h2, h, h3, h4⟩
  · go_enter Try.func22, Try.ntmps22
    go_wp2_with fail
    generalize w.alloc (.cells #[.slice A n c] 36) = W at *
    refine (rcheck_v _ _ _ _ _ hn h).mono ?_
    rintro e W1 ⟨rfl, hx⟩
    replace hE := hE.trans hx; clear hx b W
    go_wp2_with fail
    go_ret2
    exact ⟨rfl, hE⟩
  · go_enter Try.func22, Try.ntmps22
    go_wp2_with fail
    generalize w.alloc (.cells #[.slice A n c] 36) = W at *
    refine (rcheck_v _ _ _ _ _ hn h0).mono ?_
    rintro e W1 ⟨rfl, hx⟩
    replace hE := hE.trans hx; replace b := b.ext hx; clear hx W
    have c4 := b.cell
    go_wp2_with fail
    refine (rnode_v _ _ _ _ _ _ hn h).mono ?_
    rintro e W2 ⟨rfl, hx⟩
    replace hE := hE.trans hx; clear hx c4 b W1
    go_wp2_with fail
    go_ret2
    exact ⟨rfl, hE⟩
  · go_enter Try.func22, Try.ntmps22
    go_wp2_with fail
    generalize w.alloc (.cells #[.slice A n c] 36) = W at *
    refine (rcheck_v _ _ _ _ _ hn h0).mono ?_
    rintro e W1 ⟨rfl, hx⟩
    replace hE := hE.trans hx; replace b := b.ext hx; clear hx W
    have c4 := b.cell
    go_wp2_with fail
    refine (rnode_v _ _ _ _ _ _ hn h1).mono ?_
    rintro e W2 ⟨rfl, hx⟩
    replace hE := hE.trans hx; replace b := b.ext hx; clear hx c4 W1
    have c4 := b.cell
    go_wp2_with fail
    refine (rnode_v _ _ _ _ _ _ hn h).mono ?_
    rintro e W1 ⟨rfl, hx⟩
    replace hE := hE.trans hx; clear hx c4 b W2
    go_wp2_with fail
    go_ret2
    exact ⟨rfl, hE⟩
  · subst h
    skip
    skip
    go_enter Try.func22, Try.ntmps22
    go_wp2_with fail
    generalize w.alloc (.cells #[.slice A n c] 36) = W at *
    refine (rcheck_v _ _ _ _ _ hn h0).mono ?_
    rintro e W1 ⟨rfl, hx⟩
    replace hE := hE.trans hx; replace b := b.ext hx; clear hx W
    have c4 := b.cell
    go_wp2_with fail
    refine (rnode_v _ _ _ _ _ _ hn h1).mono ?_
    rintro e W2 ⟨rfl, hx⟩
    replace hE := hE.trans hx; replace b := b.ext hx; clear hx c4 W1
    have c4 := b.cell
    go_wp2_with fail
    refine (rnode_v _ _ _ _ _ _ hn h2).mono ?_
    rintro e W1 ⟨rfl, hx⟩
    replace hE := hE.trans hx; clear hx c4 b W2
    go_wp2_with fail
    go_ret2
    exact ⟨rfl, hE⟩
  · have q1 : (f == t) = false := by simpa using h
    have q2 : (d != 0) = true := by simpa using h3
    have q3 : (d != 1) = true := by simpa using h4
    go_enter Try.func22, Try.ntmps22
    go_wp2_with fail
    generalize w.alloc (.cells #[.slice A n c] 36) = W at *
    refine (rcheck_v _ _ _ _ _ hn h0).mono ?_
    rintro e W1 ⟨rfl, hx⟩
    replace hE := hE.trans hx; replace b := b.ext hx; clear hx W
    have c4 := b.cell
    go_wp2_with fail
    refine (rnode_v _ _ _ _ _ _ hn h1).mono ?_
    rintro e W2 ⟨rfl, hx⟩
    replace hE := hE.trans hx; replace b := b.ext hx; clear hx c4 W1
    have c4 := b.cell
    go_wp2_with fail
    refine (rnode_v _ _ _ _ _ _ hn h2).mono ?_
    rintro e W1 ⟨rfl, hx⟩
    replace hE := hE.trans hx; clear hx c4 b W2
    go_wp2_with fail
    go_ret2
    exact ⟨rfl, hE⟩

set_option maxRecDepth 100000 in
set_option maxHeartbeats 2000000 in
theorem rhops_asc (A : Option Addr) (c f t : Nat) (cut : List Bool) (w : World) (h3 : 3 ≤ cut.length) (h4 : cut.length ≤ 40) (hf : f < cut.length) (ht : t < cut.length) (hne : f ≠ t) (hR : Reads w w.heap.size 1 A cut.length (cut.map .bool)) :
    Calls Try.prog 22 #[.agg #[.slice A cut.length c], .int .i64 f, .int .i64 t, .int .i64 0] w fun e w' => e = .returned (hopV (Rg.hops cut 0 f t)) ∧ Ext w w' := by
  obtain ⟨b, hE⟩ := Boxed.start w 36 (.slice A cut.length c)
  have hn : cut.length ≤ 140737488351232 := by omega
  have h0 : ckI cut.length = 0 := ckI_ok h3 h4
  have h1 : nodeB cut.length f = true := by unfold nodeB; simp; exact hf
  have h2 : nodeB cut.length t = true := by unfold nodeB; simp; exact ht
  have HH := Lib.hid (And.intro h0 (And.intro h1 h2)); clear h0 h1 h2
  go_enter Try.func22, Try.ntmps22
  go_wp2_with fail
  generalize w.alloc (.cells #[.slice A cut.length c] 36) = W at *
  refine (rcheck_v _ _ _ _ _ hn HH.out.1).mono ?_
  rintro e W1 ⟨rfl, hx⟩
  replace hE := hE.trans hx; replace b := b.ext hx; clear hx W
  have c4 := b.cell
  go_wp2_with fail
  refine (rnode_v _ _ _ _ _ _ hn HH.out.2.1).mono ?_
  rintro e W2 ⟨rfl, hx⟩
  replace hE := hE.trans hx; replace b := b.ext hx; clear hx c4 W1
  have c4 := b.cell
  go_wp2_with fail
  refine (rnode_v _ _ _ _ _ _ hn HH.out.2.2).mono ?_
  rintro e W1 ⟨rfl, hx⟩
  replace hE := hE.trans hx; replace b := b.ext hx; clear hx c4 W2
  have c4 := b.cell
  have hd0 : ((f : Int) == (t : Int)) = false := by simp; omega
  go_wp2_with fail
  clear hd0 c4
  go_loopw [11, 12] (fun k at' wr => ∃ j : Nat, j ≤ wl cut 0 f ∧ j ≤ Rg.dist 0 cut.length f t ∧ k = .int .i64 j ∧ at' = .int .i64 (nodeAt 0 cut.length f j : Nat) ∧ Boxed wr w.heap.size 36 (.slice A cut.length c) ∧ Ext w wr) (fun k _ _ => cut.length - (intOf k).toNat)
  case atStart => exact ⟨0, Nat.zero_le _, Nat.zero_le _, rfl, by rw [Rg.nodeAt_zero hf], b, hE⟩
  case round =>
    obtain ⟨j, hj, hjd, rfl, rfl, bb, hX⟩ := hrel
    clear b hE
    have hwl := Rg.wl_le cut 0 f
    have hdl : Rg.dist 0 cut.length f t < cut.length := Rg.dist_lt (by omega)
    have hnl : nodeAt 0 cut.length f j < cut.length := Rg.nodeAt_lt (by omega)
    have hnl' : nodeAt 0 cut.length f (j + 1) < cut.length := Rg.nodeAt_lt (by omega)
    by_cases he : nodeAt 0 cut.length f j = t
    · have hdd : ((nodeAt 0 cut.length f j : Nat) != (t : Int)) = false := by simp [he]
      have HK := Lib.hid ((Rg.nodeAt_iff hf ht (by omega)).1 he); clear he
      go_wp2_with fail
      go_ret2
      refine ⟨?_, hX⟩
      rw [show Rg.hops cut 0 f t = some j by unfold Rg.hops; rw [if_pos ⟨hne, by have := HK.out; omega⟩, ← HK.out]]; rfl
    · have hdd : ((nodeAt 0 cut.length f j : Nat) != (t : Int)) = true := by simp; omega
      have hk : j ≠ Rg.dist 0 cut.length f t := fun h => he ((Rg.nodeAt_iff hf ht (by omega)).2 h)
      go_wp2_with fail
      have hlk : link 0 cut.length f j < cut.length := Rg.link_lt (by omega)
      have hm0 : ((nodeAt 0 cut.length f j : Nat) + 1 : Int) % (cut.length : Int) = (nodeAt 0 cut.length f (j + 1) : Nat) := by
        rw [← Rg.nodeAt_succ0 hf (by omega)]; simp
      have hm1 : ((nodeAt 1 cut.length f j : Nat) + (cut.length : Int) - 1) % (cut.length : Int) = (nodeAt 1 cut.length f (j + 1) : Nat) := by
        rw [← Rg.nodeAt_succ1 hf (by omega)]; rw [show ((nodeAt 1 cut.length f j : Nat) + (cut.length : Int) - 1) = ((nodeAt 1 cut.length f j + cut.length - 1 : Nat) : Int) by omega]; exact (Int.natCast_emod _ _).symm
      obtain ⟨ad, hA, hab, hcell⟩ := Reads.bool_at (hR.below hX) hlk
      subst hA
      obtain ⟨bk, off, ix⟩ := ad
      have c4 := bb.cell
      go_region
      have hcd : wr.drew.cell? (Addr.add ⟨bk, off, ix⟩ (link 0 cut.length f j)) = some (.bool (cut.getD (link 0 cut.length f j) false)) := hcell
      have cd4 : wr.drew.cell? ⟨w.heap.size, 0, none⟩ = some (.slice (some ⟨bk, off, ix⟩) cut.length c) := c4
      clear hcell c4
      simp only [Rg.link0] at hcd
      cases hcut : cut.getD (link 0 cut.length f j) false with
      | true =>
        have hcut' := hcut
        simp only [Rg.link0] at hcut'
        rw [hcut'] at hcd
        clear hcut'
        have HC := Lib.hid hcut; clear hcut
        go_wp2_with fail
        go_ret2
        refine ⟨?_, hX.trans (Ext.refl _).drew⟩
        rw [show Rg.hops cut 0 f t = none by
          unfold Rg.hops; rw [if_neg]; rintro ⟨_, h⟩
          have := Rg.wl_open (cut := cut) (d := 0) (f := f) (j := j) (by omega)
          rw [HC.out] at this; cases this]; rfl
      | false =>
        have hcut' := hcut
        simp only [Rg.link0] at hcut'
        rw [hcut'] at hcd
        clear hcut'
        have HC := Lib.hid hcut; clear hcut
        go_wp2_with fail
        go_roundw
        case rel => exact ⟨j + 1, Rg.wl_more (by omega) hj HC.out, by omega, by go_num, by first | rfl | rw [hm0], bb.ext (Ext.refl _).drew, hX.trans (Ext.refl _).drew⟩
        case measure => simp [intOf]; omega
set_option maxRecDepth 100000 in
set_option maxHeartbeats 2000000 in
theorem rhops_desc (A : Option Addr) (c f t : Nat) (cut : List Bool) (w : World) (h3 : 3 ≤ cut.length) (h4 : cut.length ≤ 40) (hf : f < cut.length) (ht : t < cut.length) (hne : f ≠ t) (hR : Reads w w.heap.size 1 A cut.length (cut.map .bool)) :
    Calls Try.prog 22 #[.agg #[.slice A cut.length c], .int .i64 f, .int .i64 t, .int .i64 1] w fun e w' => e = .returned (hopV (Rg.hops cut 1 f t)) ∧ Ext w w' := by
  obtain ⟨b, hE⟩ := Boxed.start w 36 (.slice A cut.length c)
  have hn : cut.length ≤ 140737488351232 := by omega
  have h0 : ckI cut.length = 0 := ckI_ok h3 h4
  have h1 : nodeB cut.length f = true := by unfold nodeB; simp; exact hf
  have h2 : nodeB cut.length t = true := by unfold nodeB; simp; exact ht
  have HH := Lib.hid (And.intro h0 (And.intro h1 h2)); clear h0 h1 h2
  go_enter Try.func22, Try.ntmps22
  go_wp2_with fail
  generalize w.alloc (.cells #[.slice A cut.length c] 36) = W at *
  refine (rcheck_v _ _ _ _ _ hn HH.out.1).mono ?_
  rintro e W1 ⟨rfl, hx⟩
  replace hE := hE.trans hx; replace b := b.ext hx; clear hx W
  have c4 := b.cell
  go_wp2_with fail
  refine (rnode_v _ _ _ _ _ _ hn HH.out.2.1).mono ?_
  rintro e W2 ⟨rfl, hx⟩
  replace hE := hE.trans hx; replace b := b.ext hx; clear hx c4 W1
  have c4 := b.cell
  go_wp2_with fail
  refine (rnode_v _ _ _ _ _ _ hn HH.out.2.2).mono ?_
  rintro e W1 ⟨rfl, hx⟩
  replace hE := hE.trans hx; replace b := b.ext hx; clear hx c4 W2
  have c4 := b.cell
  have hd0 : ((f : Int) == (t : Int)) = false := by simp; omega
  go_wp2_with fail
  clear hd0 c4
  go_loopw [11, 12] (fun k at' wr => ∃ j : Nat, j ≤ wl cut 1 f ∧ j ≤ Rg.dist 1 cut.length f t ∧ k = .int .i64 j ∧ at' = .int .i64 (nodeAt 1 cut.length f j : Nat) ∧ Boxed wr w.heap.size 36 (.slice A cut.length c) ∧ Ext w wr) (fun k _ _ => cut.length - (intOf k).toNat)
  case atStart => exact ⟨0, Nat.zero_le _, Nat.zero_le _, rfl, by rw [Rg.nodeAt_zero hf], b, hE⟩
  case round =>
    obtain ⟨j, hj, hjd, rfl, rfl, bb, hX⟩ := hrel
    clear b hE
    have hwl := Rg.wl_le cut 1 f
    have hdl : Rg.dist 1 cut.length f t < cut.length := Rg.dist_lt (by omega)
    have hnl : nodeAt 1 cut.length f j < cut.length := Rg.nodeAt_lt (by omega)
    have hnl' : nodeAt 1 cut.length f (j + 1) < cut.length := Rg.nodeAt_lt (by omega)
    by_cases he : nodeAt 1 cut.length f j = t
    · have hdd : ((nodeAt 1 cut.length f j : Nat) != (t : Int)) = false := by simp [he]
      have HK := Lib.hid ((Rg.nodeAt_iff hf ht (by omega)).1 he); clear he
      go_wp2_with fail
      go_ret2
      refine ⟨?_, hX⟩
      rw [show Rg.hops cut 1 f t = some j by unfold Rg.hops; rw [if_pos ⟨hne, by have := HK.out; omega⟩, ← HK.out]]; rfl
    · have hdd : ((nodeAt 1 cut.length f j : Nat) != (t : Int)) = true := by simp; omega
      have hk : j ≠ Rg.dist 1 cut.length f t := fun h => he ((Rg.nodeAt_iff hf ht (by omega)).2 h)
      go_wp2_with fail
      have hlk : link 1 cut.length f j < cut.length := Rg.link_lt (by omega)
      have hm0 : ((nodeAt 0 cut.length f j : Nat) + 1 : Int) % (cut.length : Int) = (nodeAt 0 cut.length f (j + 1) : Nat) := by
        rw [← Rg.nodeAt_succ0 hf (by omega)]; simp
      have hm1 : ((nodeAt 1 cut.length f j : Nat) + (cut.length : Int) - 1) % (cut.length : Int) = (nodeAt 1 cut.length f (j + 1) : Nat) := by
        rw [← Rg.nodeAt_succ1 hf (by omega)]; rw [show ((nodeAt 1 cut.length f j : Nat) + (cut.length : Int) - 1) = ((nodeAt 1 cut.length f j + cut.length - 1 : Nat) : Int) by omega]; exact (Int.natCast_emod _ _).symm
      obtain ⟨ad, hA, hab, hcell⟩ := Reads.bool_at (hR.below hX) hlk
      subst hA
      obtain ⟨bk, off, ix⟩ := ad
      have c4 := bb.cell
      go_region
      have hcd : wr.drew.cell? (Addr.add ⟨bk, off, ix⟩ (link 1 cut.length f j)) = some (.bool (cut.getD (link 1 cut.length f j) false)) := hcell
      have cd4 : wr.drew.cell? ⟨w.heap.size, 0, none⟩ = some (.slice (some ⟨bk, off, ix⟩) cut.length c) := c4
      clear hcell c4
      simp only [Rg.link1] at hcd
      cases hcut : cut.getD (link 1 cut.length f j) false with
      | true =>
        have hcut' := hcut
        simp only [Rg.link1] at hcut'
        rw [hcut'] at hcd
        clear hcut'
        have HC := Lib.hid hcut; clear hcut
        go_wp2_with fail
        go_ret2
        refine ⟨?_, hX.trans (Ext.refl _).drew⟩
        rw [show Rg.hops cut 1 f t = none by
          unfold Rg.hops; rw [if_neg]; rintro ⟨_, h⟩
          have := Rg.wl_open (cut := cut) (d := 1) (f := f) (j := j) (by omega)
          rw [HC.out] at this; cases this]; rfl
      | false =>
        have hcut' := hcut
        simp only [Rg.link1] at hcut'
        rw [hcut'] at hcd
        clear hcut'
        have HC := Lib.hid hcut; clear hcut
        go_wp2_with fail
        go_roundw
        case rel => exact ⟨j + 1, Rg.wl_more (by omega) hj HC.out, by omega, by go_num, by first | rfl | rw [hm1], bb.ext (Ext.refl _).drew, hX.trans (Ext.refl _).drew⟩
        case measure => simp [intOf]; omega

theorem rhops_any (A : Option Addr) (c : Nat) (f t d : Int) (cut : List Bool) (w : World) (hn : cut.length ≤ 140737488351232) (hR : Reads w w.heap.size 1 A cut.length (cut.map .bool)) :
    Calls Try.prog 22 #[.agg #[.slice A cut.length c], .int .i64 f, .int .i64 t, .int .i64 d] w fun e w' => e = .returned (hopV (hopsI cut f t d)) ∧ Ext w w' := by
  have hck : ckI cut.length = 0 ∨ ckI cut.length = 3 := by unfold ckI; split <;> simp
  rcases hck with h0 | h0
  · have hb : ckB cut.length = true := by
      cases hb : ckB cut.length
      · unfold ckI at h0; rw [hb] at h0; simp at h0
      · rfl
    cases h1 : nodeB cut.length f
    · rw [hopsI_no (.inl (by rw [← nodeB_has hb]; exact h1))]; exact rhops_bad _ _ _ _ _ _ _ hn (.inr (.inl ⟨h0, h1⟩))
    cases h2 : nodeB cut.length t
    · rw [hopsI_no (.inr (.inl (by rw [← nodeB_has hb]; exact h2)))]; exact rhops_bad _ _ _ _ _ _ _ hn (.inr (.inr (.inl ⟨h0, h1, h2⟩)))
    by_cases hft : f = t
    · rw [show hopsI cut f t d = none by subst hft; exact hopsI_self]; exact rhops_bad _ _ _ _ _ _ _ hn (.inr (.inr (.inr (.inl ⟨h0, h1, h2, hft⟩))))
    by_cases hd : d = 0 ∨ d = 1
    · have e1 : hasB cut.length f = true := by rw [← nodeB_has hb]; exact h1
      have e2 : hasB cut.length t = true := by rw [← nodeB_has hb]; exact h2
      have k1 := hasB_iff.1 e1
      have k2 := hasB_iff.1 e2
      obtain ⟨f', rfl⟩ : ∃ f' : Nat, f = f' := ⟨f.toNat, by omega⟩
      obtain ⟨t', rfl⟩ : ∃ t' : Nat, t = t' := ⟨t.toNat, by omega⟩
      rcases hd with rfl | rfl
      · rw [show hopsI cut f' t' 0 = Rg.hops cut 0 f' t' by simp [hopsI, e1, e2]]
        exact rhops_asc A c f' t' cut w k1.1 k1.2.1 (by omega) (by omega) (by omega) hR
      · rw [show hopsI cut f' t' 1 = Rg.hops cut 1 f' t' by simp [hopsI, e1, e2]]
        exact rhops_desc A c f' t' cut w k1.1 k1.2.1 (by omega) (by omega) (by omega) hR
    · rw [hopsI_no (.inr (.inr (by omega)))]; exact rhops_bad _ _ _ _ _ _ _ hn (.inr (.inr (.inr (.inr ⟨h0, h1, h2, hft, by omega, by omega⟩))))
  · rw [hopsI_no (.inl (by unfold hasB; rw [show ckB cut.length = false by
      cases hb : ckB cut.length
      · rfl
      · unfold ckI at h0; rw [hb] at h0; simp at h0]; rfl))]
    exact rhops_bad _ _ _ _ _ _ _ hn (.inl h0)
end Go.Proofs.Ytnicgmgihmfjbaa
