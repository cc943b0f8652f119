/- Ring: the two iterators (ascending, descending), their makers and the table of the two. -/
import Derived.RangeFuncNested
import Derived.RangeFuncBox
import Derived.RangeFuncBound
import Derived.RangeFuncCalls
import Derived.RangeFuncLeaves
import Derived.Shelf.Abstract
import Derived.Shelf.RegionOpen
import Derived.OwnWalkIn
import Derived.TacticsInMore
import Derived.LoopNIn
import Derived.LoopIn
import Derived.Laws.EntriesVeiled
import Derived.Test.YtnicgmgihmfjbaaProg
import Derived.Test.YtnicgmgihmfjbaaRa
import Derived.Test.YtnicgmgihmfjbaaTame
namespace Go.Proofs.Ytnicgmgihmfjbaa
open Go.RowKit Go.Shelf
open Rg (nodeAt link wl way)
attribute [local go_sem] Oper.semAt_some

/-- What a round keeps: old memory, and the two boxes of the iterator. -/
def KpR (n₀ Br Bf : Nat) (W W' : World) : Prop := Below n₀ W W' ∧ (∀ v, Boxed W Br 24 v → Boxed W' Br 24 v) ∧ (∀ v, Boxed W Bf 3 v → Boxed W' Bf 3 v)
theorem KpR.refl (n₀ Br Bf : Nat) (W : World) : KpR n₀ Br Bf W W := ⟨Below.refl _ _, fun _ h => h, fun _ h => h⟩
theorem KpR.trans {n₀ Br Bf : Nat} {A B C : World} (h : KpR n₀ Br Bf A B) (k : KpR n₀ Br Bf B C) : KpR n₀ Br Bf A C := ⟨h.1.trans k.1, fun v x => k.2.1 v (h.2.1 v x), fun v x => k.2.2 v (h.2.2 v x)⟩
theorem KpR.book {n₀ Br Bf : Nat} {w : World} (hn : n₀ ≤ w.heap.size) (hr : Br < w.heap.size) (hf : Bf < w.heap.size) (W : World) (l : Nat) (o o' : Obj) (hl : w.heap.size ≤ l) (h : W.heap[l]? = some o) (h1 : o.isCells = false) (h2 : o.isWalk = false) :
    KpR n₀ Br Bf W (W.putObj l o') :=
  ⟨belowK_b hn W l o o' hl h h1 h2, fun _ x => x.kept (grownBy_putObj' W l o') (fun e => by cases e; omega), fun _ x => x.kept (grownBy_putObj' W l o') (fun e => by cases e; omega)⟩

def upto {α : Type} (f : Nat → α) (k : Nat) : List α := (List.range k).map f
theorem upto_succ {α : Type} (f : Nat → α) (k : Nat) : upto f (k + 1) = upto f k ++ [f k] := by simp [upto, List.range_succ]
theorem upto_length {α : Type} (f : Nat → α) (k : Nat) : (upto f k).length = k := by simp [upto]
theorem upto_way {cut : List Bool} {d f k : Nat} (h : k ≤ wl cut d f) : upto (fun j => (nodeAt d cut.length f (j + 1), j + 1)) k <+: way cut d f := by
  refine ⟨(way cut d f).drop k, ?_⟩
  rw [show upto (fun j => (nodeAt d cut.length f (j + 1), j + 1)) k = (way cut d f).take k by simp [upto, way, ← List.map_take, List.take_range, Nat.min_eq_left h]]
  exact List.take_append_drop _ _

theorem Reads.bool_at {w : World} {B n k : Nat} {A : Option Addr} {l : List Bool} (h : Reads w B 1 A n (l.map .bool)) (hk : k < n) : ∃ ad, A = some ad ∧ ad.block < B ∧ w.cell? (ad.add k) = some (.bool (l.getD k false)) := by
  obtain ⟨ad, u, e, hb, hu, hc⟩ := h.at_ hk
  refine ⟨ad, e, hb, ?_⟩
  rw [List.getElem?_map] at hu
  rw [hc, List.getD_eq_getElem?_getD]
  cases hx : l[k]? with
  | none => rw [hx] at hu; simp at hu
  | some b => rw [hx] at hu; simp at hu; simp [hu]

abbrev encS (x : Nat × Nat) : Array Value := #[.int .i64 (x.1 : Int), .int .i64 (x.2 : Int)]

theorem way_end {cut : List Bool} {d f k : Nat} {J : List (Nat × Nat) → World → Prop} {w : World} (h : wl cut d f = k) (hJ : J (upto (fun j => (nodeAt d cut.length f (j + 1), j + 1)) k) w) : J (way cut d f) w := by
  subst h; exact hJ

set_option maxRecDepth 100000 in
set_option maxHeartbeats 2000000 in
theorem asc1_in (F : Fence) (n : Nat) (hF : F.fn 37) (hro : F.round = none) (hn : 1 ≤ n) (l Br Bf n₀ cap f : Nat) (A : Option Addr) (cut : List Bool) (hl : cut.length ≤ 40) (hf : f < cut.length) (J Jx : List (Nat × Nat) → World → Prop)
    (hY : ∀ pre x W, J pre W → pre ++ [x] <+: way cut 0 f → YieldAt F (n - 1) Try.prog l (encS x) W fun e W' =>
      (e = .returned (.bool true) ∧ J (pre ++ [x]) W' ∧ KpR n₀ Br Bf W W') ∨ (e = .returned (.bool false) ∧ Jx (pre ++ [x]) W'))
    (W : World) (hBr : Boxed W Br 24 (.slice A cut.length cap)) (hBf : Boxed W Bf 3 (.int .i64 f)) (hR : Reads W n₀ 1 A cut.length (cut.map .bool)) (h0 : J [] W) :
    CallsIn F n Try.prog 37 #[.func (.yield l) #[] #[], .pointer (some ⟨Br, 0, none⟩), .pointer (some ⟨Bf, 0, none⟩)] W fun e W' => (∃ v, e = .returned v) ∧
      ((∃ ys, ys = way cut 0 f ∧ J ys W') ∨ (∃ pre, pre <+: way cut 0 f ∧ Jx pre W')) := by
  refine callsIn_of_wp Try.func37 rfl hF ?_ hro
  simp only [Try.ntmps37, List.size_toArray, List.length_cons, List.length_nil, Nat.reduceAdd, Nat.reduceSub, Array.replicate_succ, Array.replicate_zero, List.push_toArray, List.append_toArray, List.nil_append, List.cons_append]
  have c1 := hBr.cell
  have c2 := hBf.cell
  gi_wp2
  gi_loopw [5, 6] (fun nd i wr => ∃ k : Nat, k ≤ wl cut 0 f ∧ nd = .int .i64 (nodeAt 0 cut.length f k : Nat) ∧ i = .int .i64 (k + 1 : Nat) ∧ J (upto (fun j => (nodeAt 0 cut.length f (j + 1), j + 1)) k) wr ∧ KpR n₀ Br Bf W wr)
    (fun _ i _ => cut.length - (intOf i).toNat)
  case atStart => exact ⟨0, Nat.zero_le _, by rw [Rg.nodeAt_zero hf], rfl, h0, KpR.refl _ _ _ _⟩
  case round =>
    obtain ⟨k, hk, rfl, rfl, hJs, hnx⟩ := hrel
    clear c1 c2
    have c1 := (hnx.2.1 _ hBr).cell
    have hwl := Rg.wl_le cut 0 f
    have hnl : nodeAt 0 cut.length f k < cut.length := Rg.nodeAt_lt (by omega)
    obtain ⟨ad, hA, hab, hcell⟩ := Reads.bool_at (hR.below hnx.1) hnl
    subst hA
    obtain ⟨b, off, ix⟩ := ad
    by_cases hlt : k + 1 < cut.length
    · cases hcut : cut.getD (nodeAt 0 cut.length f k) false with
      | true =>
        rw [hcut] at hcell
        gi_wp2
        refine bodyPost_ret (results_none rfl _ _ _) rfl ?_
        have hwk : wl cut 0 f = k := Rg.wl_of (by omega) (fun j hj => Rg.wl_open (by omega)) (fun _ => hcut)
        exact ⟨⟨_, rfl⟩, .inl (way_end hwk hJs)⟩
      | false =>
        rw [hcut] at hcell
        obtain ⟨fn, tmps, assign, body, hy, hR1⟩ := hY _ (nodeAt 0 cut.length f (k + 1), k + 1) wr hJs (by have := upto_way (Rg.wl_more (k := k) (by omega) hk hcut); rw [upto_succ] at this; exact this)
        have hm : ((nodeAt 0 cut.length f k : Nat) + 1 : Int) % (cut.length : Int) = (nodeAt 0 cut.length f (k + 1) : Nat) := by
          rw [← Rg.nodeAt_succ0 hf (by omega)]; simp
        simp only [encS, Int.natCast_add, Int.natCast_one] at hy
        gi_wp2
        refine hR1.mono ?_
        rintro e W3 (⟨rfl, hJ3, hk3⟩ | ⟨rfl, hJx3⟩)
        · clear hm hy
          gi_wp2
          go_roundw
          case rel => exact ⟨k + 1, Rg.wl_more (by omega) hk hcut, rfl, by go_num, by rw [upto_succ]; exact hJ3, hnx.trans hk3⟩
          case measure => simp [intOf]; omega
        · clear hm hy
          gi_wp2
          refine bodyPost_ret (results_none rfl _ _ _) rfl ?_
          exact ⟨⟨_, rfl⟩, .inr ⟨_, upto_way (Rg.wl_more (k := k) (by omega) hk hcut), by rw [upto_succ]; exact hJx3⟩⟩
    · gi_wp2
      go_end0
      have hwk : wl cut 0 f = k := Rg.wl_of (by omega) (fun j hj => Rg.wl_open (by omega)) (fun h => by omega)
      exact ⟨⟨_, rfl⟩, .inl (way_end hwk hJs)⟩

set_option maxRecDepth 100000 in
set_option maxHeartbeats 2000000 in
theorem desc1_in (F : Fence) (n : Nat) (hF : F.fn 38) (hro : F.round = none) (hn : 1 ≤ n) (l Br Bf n₀ cap f : Nat) (A : Option Addr) (cut : List Bool) (hl : cut.length ≤ 40) (hf : f < cut.length) (J Jx : List (Nat × Nat) → World → Prop)
    (hY : ∀ pre x W, J pre W → pre ++ [x] <+: way cut 1 f → YieldAt F (n - 1) Try.prog l (encS x) W fun e W' =>
      (e = .returned (.bool true) ∧ J (pre ++ [x]) W' ∧ KpR n₀ Br Bf W W') ∨ (e = .returned (.bool false) ∧ Jx (pre ++ [x]) W'))
    (W : World) (hBr : Boxed W Br 24 (.slice A cut.length cap)) (hBf : Boxed W Bf 3 (.int .i64 f)) (hR : Reads W n₀ 1 A cut.length (cut.map .bool)) (h0 : J [] W) :
    CallsIn F n Try.prog 38 #[.func (.yield l) #[] #[], .pointer (some ⟨Br, 0, none⟩), .pointer (some ⟨Bf, 0, none⟩)] W fun e W' => (∃ v, e = .returned v) ∧
      ((∃ ys, ys = way cut 1 f ∧ J ys W') ∨ (∃ pre, pre <+: way cut 1 f ∧ Jx pre W')) := by
  refine callsIn_of_wp Try.func38 rfl hF ?_ hro
  simp only [Try.ntmps38, List.size_toArray, List.length_cons, List.length_nil, Nat.reduceAdd, Nat.reduceSub, Array.replicate_succ, Array.replicate_zero, List.push_toArray, List.append_toArray, List.nil_append, List.cons_append]
  have c1 := hBr.cell
  have c2 := hBf.cell
  gi_wp2
  gi_loopw [5, 6] (fun nd i wr => ∃ k : Nat, k ≤ wl cut 1 f ∧ nd = .int .i64 (nodeAt 1 cut.length f k : Nat) ∧ i = .int .i64 (k + 1 : Nat) ∧ J (upto (fun j => (nodeAt 1 cut.length f (j + 1), j + 1)) k) wr ∧ KpR n₀ Br Bf W wr)
    (fun _ i _ => cut.length - (intOf i).toNat)
  case atStart => exact ⟨0, Nat.zero_le _, by rw [Rg.nodeAt_zero hf], rfl, h0, KpR.refl _ _ _ _⟩
  case round =>
    obtain ⟨k, hk, rfl, rfl, hJs, hnx⟩ := hrel
    clear c1 c2
    have c1 := (hnx.2.1 _ hBr).cell
    have hwl := Rg.wl_le cut 1 f
    have hnl0 : nodeAt 1 cut.length f k < cut.length := Rg.nodeAt_lt (by omega)
    have hnl : nodeAt 1 cut.length f (k + 1) < cut.length := Rg.nodeAt_lt (by omega)
    obtain ⟨ad, hA, hab, hcell⟩ := Reads.bool_at (hR.below hnx.1) hnl
    subst hA
    obtain ⟨b, off, ix⟩ := ad
    by_cases hlt : k + 1 < cut.length
    · cases hcut : cut.getD (nodeAt 1 cut.length f (k + 1)) false with
      | true =>
        rw [hcut] at hcell
        have hm : ((nodeAt 1 cut.length f k : Nat) + (cut.length : Int) - 1) % (cut.length : Int) = (nodeAt 1 cut.length f (k + 1) : Nat) := by
          rw [← Rg.nodeAt_succ1 hf (by omega)]; rw [show ((nodeAt 1 cut.length f k : Nat) + (cut.length : Int) - 1) = ((nodeAt 1 cut.length f k + cut.length - 1 : Nat) : Int) by omega]; exact (Int.natCast_emod _ _).symm
        gi_wp2
        refine ⟨fun _ h => (by cases h), ?_⟩
        gi_wp2
        refine bodyPost_ret (results_none rfl _ _ _) rfl ?_
        have hwk : wl cut 1 f = k := Rg.wl_of (by omega) (fun j hj => Rg.wl_open (by omega)) (fun _ => hcut)
        exact ⟨⟨_, rfl⟩, .inl ⟨_, rfl, way_end hwk hJs⟩⟩
      | false =>
        rw [hcut] at hcell
        obtain ⟨fn, tmps, assign, body, hy, hR1⟩ := hY _ (nodeAt 1 cut.length f (k + 1), k + 1) wr hJs (by have := upto_way (Rg.wl_more (k := k) (by omega) hk hcut); rw [upto_succ] at this; exact this)
        have hm : ((nodeAt 1 cut.length f k : Nat) + (cut.length : Int) - 1) % (cut.length : Int) = (nodeAt 1 cut.length f (k + 1) : Nat) := by
          rw [← Rg.nodeAt_succ1 hf (by omega)]; rw [show ((nodeAt 1 cut.length f k : Nat) + (cut.length : Int) - 1) = ((nodeAt 1 cut.length f k + cut.length - 1 : Nat) : Int) by omega]; exact (Int.natCast_emod _ _).symm
        simp only [encS, Int.natCast_add, Int.natCast_one] at hy
        gi_wp2
        refine hR1.mono ?_
        rintro e W3 (⟨rfl, hJ3, hk3⟩ | ⟨rfl, hJx3⟩)
        · clear hm hy
          gi_wp2
          go_roundw
          case rel => exact ⟨k + 1, Rg.wl_more (by omega) hk hcut, rfl, by go_num, by rw [upto_succ]; exact hJ3, hnx.trans hk3⟩
          case measure => simp [intOf]; omega
        · clear hm hy
          gi_wp2
          refine bodyPost_ret (results_none rfl _ _ _) rfl ?_
          exact ⟨⟨_, rfl⟩, .inr ⟨_, upto_way (Rg.wl_more (k := k) (by omega) hk hcut), by rw [upto_succ]; exact hJx3⟩⟩
    · gi_wp2
      go_end0
      have hwk : wl cut 1 f = k := Rg.wl_of (by omega) (fun j hj => Rg.wl_open (by omega)) (fun h => by omega)
      exact ⟨⟨_, rfl⟩, .inl (way_end hwk hJs)⟩

set_option maxRecDepth 100000 in
theorem asc_in (F : Fence) (n : Nat) (hF : F.fn 31) (hro : F.round = none) (a : Option Addr) (len cap : Nat) (f : Int) (w : World) :
    CallsIn F n Try.prog 31 #[.agg #[.slice a len cap], .int .i64 f] w fun e w' => e = .returned (.func (.func 37) #[] #[.pointer (some ⟨w.heap.size, 0, none⟩), .pointer (some ⟨w.heap.size + 1, 0, none⟩)]) ∧ w' = (w.alloc (.cells #[.slice a len cap] 24)).alloc (.cells #[.int .i64 f] 3) := by
  refine callsIn_of_wp Try.func31 rfl hF ?_ hro
  simp only [Try.ntmps31, List.size_toArray, List.length_cons, List.length_nil, Nat.reduceAdd, Nat.reduceSub, Array.replicate_succ, Array.replicate_zero, List.push_toArray, List.append_toArray, List.nil_append, List.cons_append]
  gi_wp2
  go_ret
  exact ⟨rfl, rfl⟩
set_option maxRecDepth 100000 in
theorem desc_in (F : Fence) (n : Nat) (hF : F.fn 32) (hro : F.round = none) (a : Option Addr) (len cap : Nat) (f : Int) (w : World) :
    CallsIn F n Try.prog 32 #[.agg #[.slice a len cap], .int .i64 f] w fun e w' => e = .returned (.func (.func 38) #[] #[.pointer (some ⟨w.heap.size, 0, none⟩), .pointer (some ⟨w.heap.size + 1, 0, none⟩)]) ∧ w' = (w.alloc (.cells #[.slice a len cap] 24)).alloc (.cells #[.int .i64 f] 3) := by
  refine callsIn_of_wp Try.func32 rfl hF ?_ hro
  simp only [Try.ntmps32, List.size_toArray, List.length_cons, List.length_nil, Nat.reduceAdd, Nat.reduceSub, Array.replicate_succ, Array.replicate_zero, List.push_toArray, List.append_toArray, List.nil_append, List.cons_append]
  gi_wp2
  go_ret
  exact ⟨rfl, rfl⟩

/-- What a way hands over. -/
abbrev Wy (cut : List Bool) (d f : Nat) := { x : Nat × Nat // x ∈ way cut d f }
abbrev encW {cut : List Bool} {d f : Nat} (x : Wy cut d f) : Array Value := encS x.1
theorem asc_stops (F : Fence) (n : Nat) (hF : F.fn 37) (hro : F.round = none) (hn : 1 ≤ n) (Br Bf n₀ cap f : Nat) (A : Option Addr) (cut : List Bool) (hl : cut.length ≤ 40) (hf : f < cut.length) (w : World)
    (hBr : Boxed w Br 24 (.slice A cut.length cap)) (hBf : Boxed w Bf 3 (.int .i64 f)) (hn₀ : n₀ ≤ w.heap.size) (hR : Reads w n₀ 1 A cut.length (cut.map .bool)) :
    SeqStopsK F n Try.prog 37 #[.pointer (some ⟨Br, 0, none⟩), .pointer (some ⟨Bf, 0, none⟩)] (encW (cut := cut) (d := 0) (f := f)) (KpR n₀ Br Bf) (fun ys => ys.map (·.1) = way cut 0 f) (fun pre => pre.map (·.1) <+: way cut 0 f) (cut.length - 1) w := fun l J Jx W hW _ _ hY h0 => by
  refine (asc1_in F n hF hro hn l Br Bf n₀ cap f A cut hl hf (fun p W => ∃ p' : List (Wy cut 0 f), p'.map (·.1) = p ∧ J p' W) (fun p W => ∃ p' : List (Wy cut 0 f), p'.map (·.1) = p ∧ Jx p' W) ?_ W ((hW.block Br hBr.lt).trans hBr) ((hW.block Bf hBf.lt).trans hBf) (hR.below (hW.mono hn₀)) ⟨[], rfl, h0⟩).mono ?_
  · rintro pre x W1 ⟨p', rfl, hJ⟩ hp
    have hx : x ∈ way cut 0 f := hp.subset (by simp)
    have hl : p'.length < cut.length - 1 := by
      have h1 := hp.length_le
      have h2 := Rg.wl_le cut 0 f
      rw [Rg.way_length] at h1
      simp at h1; omega
    refine (hY p' ⟨x, hx⟩ W1 hJ hl).mono ?_
    rintro e W' (⟨he, hj, hk⟩ | ⟨he, hj⟩)
    · exact .inl ⟨he, ⟨_, by simp, hj⟩, hk⟩
    · exact .inr ⟨he, ⟨_, by simp, hj⟩⟩
  · rintro e W' ⟨hv, (⟨ys, rfl, p', hp, hj⟩ | ⟨pre, hpre, p', rfl, hj⟩)⟩
    · exact ⟨hv, .inl ⟨p', hp, hj⟩⟩
    · exact ⟨hv, .inr ⟨p', hpre, hj⟩⟩
theorem desc_stops (F : Fence) (n : Nat) (hF : F.fn 38) (hro : F.round = none) (hn : 1 ≤ n) (Br Bf n₀ cap f : Nat) (A : Option Addr) (cut : List Bool) (hl : cut.length ≤ 40) (hf : f < cut.length) (w : World)
    (hBr : Boxed w Br 24 (.slice A cut.length cap)) (hBf : Boxed w Bf 3 (.int .i64 f)) (hn₀ : n₀ ≤ w.heap.size) (hR : Reads w n₀ 1 A cut.length (cut.map .bool)) :
    SeqStopsK F n Try.prog 38 #[.pointer (some ⟨Br, 0, none⟩), .pointer (some ⟨Bf, 0, none⟩)] (encW (cut := cut) (d := 1) (f := f)) (KpR n₀ Br Bf) (fun ys => ys.map (·.1) = way cut 1 f) (fun pre => pre.map (·.1) <+: way cut 1 f) (cut.length - 1) w := fun l J Jx W hW _ _ hY h0 => by
  refine (desc1_in F n hF hro hn l Br Bf n₀ cap f A cut hl hf (fun p W => ∃ p' : List (Wy cut 1 f), p'.map (·.1) = p ∧ J p' W) (fun p W => ∃ p' : List (Wy cut 1 f), p'.map (·.1) = p ∧ Jx p' W) ?_ W ((hW.block Br hBr.lt).trans hBr) ((hW.block Bf hBf.lt).trans hBf) (hR.below (hW.mono hn₀)) ⟨[], rfl, h0⟩).mono ?_
  · rintro pre x W1 ⟨p', rfl, hJ⟩ hp
    have hx : x ∈ way cut 1 f := hp.subset (by simp)
    have hl : p'.length < cut.length - 1 := by
      have h1 := hp.length_le
      have h2 := Rg.wl_le cut 1 f
      rw [Rg.way_length] at h1
      simp at h1; omega
    refine (hY p' ⟨x, hx⟩ W1 hJ hl).mono ?_
    rintro e W' (⟨he, hj, hk⟩ | ⟨he, hj⟩)
    · exact .inl ⟨he, ⟨_, by simp, hj⟩, hk⟩
    · exact .inr ⟨he, ⟨_, by simp, hj⟩⟩
  · rintro e W' ⟨hv, (⟨ys, rfl, p', hp, hj⟩ | ⟨pre, hpre, p', rfl, hj⟩)⟩
    · exact ⟨hv, .inl ⟨p', hp, hj⟩⟩
    · exact ⟨hv, .inr ⟨p', hpre, hj⟩⟩

set_option maxRecDepth 100000 in
theorem dirs_in (F : Fence) (n : Nat) (hF : F.fn 24) (hro : F.round = none) (w : World) :
    CallsIn F n Try.prog 24 #[] w fun e w' => e = .returned (.agg #[.func (.func 31) #[] #[], .func (.func 32) #[] #[]]) ∧ w' = w.alloc (.cells #[.func (.func 31) #[] #[], .func (.func 32) #[] #[]] 61) := by
  refine callsIn_of_wp Try.func24 rfl hF ?_ hro
  simp only [Try.ntmps24, List.size_toArray, List.length_nil, Nat.reduceSub, Array.replicate_succ, Array.replicate_zero, List.push_toArray, List.append_toArray, List.nil_append, List.cons_append]
  gi_wp2
  exact bodyPost_ret (v := .agg #[.func (.func 31) #[] #[], .func (.func 32) #[] #[]]) (by simp [results, Try.results24, go_sem]) rfl ⟨rfl, rfl⟩
end Go.Proofs.Ytnicgmgihmfjbaa
