/- Ring: Hops of the program where it fails; Hops of the specification. -/
import Derived.Test.YtnicgmgihmfjbaaRd
namespace Go.Proofs.Ytnicgmgihmfjbaa
open Go.RowKit Go.Shelf
open Rg (nodeAt link wl way)
attribute [local go_sem] Oper.semAt_some

/-- What Hops answers. -/
def hopsI (cut : List Bool) (f t d : Int) : Option Nat := if hasB cut.length f = true ∧ hasB cut.length t = true ∧ (d = 0 ∨ d = 1) then Rg.hops cut d.toNat f.toNat t.toNat else none
theorem hopsI_no {cut : List Bool} {f t d : Int} (h : hasB cut.length f = false ∨ hasB cut.length t = false ∨ (d ≠ 0 ∧ d ≠ 1)) : hopsI cut f t d = none := by
  unfold hopsI
  rw [if_neg]
  rintro ⟨h1, h2, h3⟩
  rcases h with h | h | h
  · rw [h] at h1; cases h1
  · rw [h] at h2; cases h2
  · omega
theorem hopsI_self {cut : List Bool} {f d : Int} : hopsI cut f f d = none := by
  unfold hopsI
  split
  · unfold Rg.hops; simp
  · rfl

theorem has_v (A : Option Addr) (n c : Nat) (f : Int) (v : Bool) (w : World) (hn : n ≤ 140737488351232) (h : hasB n f = v) : Calls Try.prog 23 #[.agg #[.slice A n c], .int .i64 f] w fun e w' => e = .returned (.bool v) ∧ Ext w w' := by
  rw [← h]; exact has_any A n c f w hn

/-- Four boxes of Hops. -/
def HB (w0 W : World) (A : Option Addr) (n c : Nat) (t : Int) : Prop := Boxed W w0.heap.size 24 (.slice A n c) ∧ Boxed W (w0.heap.size + 1) 3 (.int .i64 t) ∧ Boxed W (w0.heap.size + 1 + 1) 3 (.int .i64 0) ∧ Boxed W (w0.heap.size + 1 + 1 + 1) 4 (.bool false) ∧ Ext w0 W
theorem HB.start (w : World) (A : Option Addr) (n c : Nat) (t : Int) : HB w ((((w.alloc (.cells #[.slice A n c] 24)).alloc (.cells #[.int .i64 t] 3)).alloc (.cells #[.int .i64 0] 3)).alloc (.cells #[.bool false] 4)) A n c t := by
  refine ⟨(((Boxed.new w 24 _).alloc _).alloc _).alloc _, ?_, ?_, ?_, (((Ext.new _ _).alloc _).alloc _).alloc _⟩
  · have := ((Boxed.new (w.alloc (.cells #[.slice A n c] 24)) 3 (.int .i64 t)).alloc (.cells #[.int .i64 0] 3)).alloc (.cells #[.bool false] 4)
    simpa only [World.size_alloc] using this
  · have := (Boxed.new ((w.alloc (.cells #[.slice A n c] 24)).alloc (.cells #[.int .i64 t] 3)) 3 (.int .i64 0)).alloc (.cells #[.bool false] 4)
    simpa only [World.size_alloc] using this
  · have := Boxed.new (((w.alloc (.cells #[.slice A n c] 24)).alloc (.cells #[.int .i64 t] 3)).alloc (.cells #[.int .i64 0] 3)) 4 (.bool false)
    simpa only [World.size_alloc] using this
theorem HB.ext {w0 W W' : World} {A : Option Addr} {n c : Nat} {t : Int} (h : HB w0 W A n c t) (e : Ext W W') : HB w0 W' A n c t := ⟨h.1.ext e, h.2.1.ext e, h.2.2.1.ext e, h.2.2.2.1.ext e, h.2.2.2.2.trans e⟩

set_option maxRecDepth 100000 in
set_option maxHeartbeats 1000000 in
theorem hops_bad (A : Option Addr) (n c : Nat) (f t d : Int) (w : World) (hn : n ≤ 140737488351232) (h : hasB n f = false ∨ (hasB n f = true ∧ hasB n t = false) ∨ (hasB n f = true ∧ hasB n t = true ∧ d < 0) ∨ (hasB n f = true ∧ hasB n t = true ∧ 0 ≤ d ∧ 1 < d)) :
    Calls Try.prog 16 #[.agg #[.slice A n c], .int .i64 f, .int .i64 t, .int .i64 d] w fun e w' => e = .returned (hopV none) ∧ Ext w w' := by
  have H := HB.start w A n c t
  have hne : w.heap.size + 1 + 1 ≠ w.heap.size + 1 + 1 + 1 := by omega
  have fin : ∀ W, HB w W A n c t → ((W.setCell ⟨w.heap.size + 1 + 1, 0, none⟩ (.int .i64 0)).setCell ⟨w.heap.size + 1 + 1 + 1, 0, none⟩ (.bool false)).cell? ⟨w.heap.size + 1 + 1, 0, none⟩ = some (.int .i64 0) ∧
      ((W.setCell ⟨w.heap.size + 1 + 1, 0, none⟩ (.int .i64 0)).setCell ⟨w.heap.size + 1 + 1 + 1, 0, none⟩ (.bool false)).cell? ⟨w.heap.size + 1 + 1 + 1, 0, none⟩ = some (.bool false) ∧
      Ext w ((W.setCell ⟨w.heap.size + 1 + 1, 0, none⟩ (.int .i64 0)).setCell ⟨w.heap.size + 1 + 1 + 1, 0, none⟩ (.bool false)) := fun W h =>
    ⟨((h.2.2.1.set (.int .i64 0)).other hne (.bool false)).cell, ((h.2.2.2.1.other hne.symm (.int .i64 0)).set (.bool false)).cell,
      (h.2.2.2.2.setCell (p := ⟨w.heap.size + 1 + 1, 0, none⟩) (by show _ ≤ w.heap.size + 1 + 1; omega) _).setCell (p := ⟨w.heap.size + 1 + 1 + 1, 0, none⟩) (by show _ ≤ w.heap.size + 1 + 1 + 1; omega) _⟩
  have FIN := Lib.hid fin; clear fin
  rcases h with h | ⟨h1, h⟩ | ⟨h1, h2, h⟩ | ⟨h1, h2, h3, h⟩
  · go_enter Try.func16, Try.ntmps16
    go_wp2_with fail
    generalize ((((w.alloc (.cells #[.slice A n c] 24)).alloc (.cells #[.int .i64 t] 3)).alloc (.cells #[.int .i64 0] 3)).alloc (.cells #[.bool false] 4)) = W at *
    refine (has_v _ _ _ _ _ _ hn h).mono ?_
    rintro e W1 ⟨rfl, hx⟩
    replace H := H.ext hx; clear hx W
    have c8 := H.2.2.1.cell; have c9 := H.2.2.2.1.cell; have f8 := H.2.2.1.frozen; have f9 := H.2.2.2.1.frozen
    go_wp2_with fail
    obtain ⟨r8, r9, hE⟩ := FIN.out _ H
    exact bodyPost_ret (v := .tuple #[.int .i64 0, .bool false]) (by simp [results, Try.results16, go_sem, r8, r9]) rfl ⟨rfl, hE⟩
  · go_enter Try.func16, Try.ntmps16
    go_wp2_with fail
    generalize ((((w.alloc (.cells #[.slice A n c] 24)).alloc (.cells #[.int .i64 t] 3)).alloc (.cells #[.int .i64 0] 3)).alloc (.cells #[.bool false] 4)) = W at *
    refine (has_v _ _ _ _ _ _ hn h1).mono ?_
    rintro e W1 ⟨rfl, hx⟩
    replace H := H.ext hx; clear hx W
    have c8 := H.2.2.1.cell; have c9 := H.2.2.2.1.cell; have f8 := H.2.2.1.frozen; have f9 := H.2.2.2.1.frozen
    have c4 := H.1.cell; have c6 := H.2.1.cell
    go_wp2_with fail
    refine (has_v _ _ _ _ _ _ hn h).mono ?_
    rintro e W ⟨rfl, hx⟩
    clear c4 c6 c8 c9 f8 f9
    replace H := H.ext hx; clear hx W1
    have c8 := H.2.2.1.cell; have c9 := H.2.2.2.1.cell; have f8 := H.2.2.1.frozen; have f9 := H.2.2.2.1.frozen
    go_wp2_with fail
    obtain ⟨r8, r9, hE⟩ := FIN.out _ H
    exact bodyPost_ret (v := .tuple #[.int .i64 0, .bool false]) (by simp [results, Try.results16, go_sem, r8, r9]) rfl ⟨rfl, hE⟩
  · go_enter Try.func16, Try.ntmps16
    go_wp2_with fail
    generalize ((((w.alloc (.cells #[.slice A n c] 24)).alloc (.cells #[.int .i64 t] 3)).alloc (.cells #[.int .i64 0] 3)).alloc (.cells #[.bool false] 4)) = W at *
    refine (has_v _ _ _ _ _ _ hn h1).mono ?_
    rintro e W1 ⟨rfl, hx⟩
    replace H := H.ext hx; clear hx W
    have c8 := H.2.2.1.cell; have c9 := H.2.2.2.1.cell; have f8 := H.2.2.1.frozen; have f9 := H.2.2.2.1.frozen
    have c4 := H.1.cell; have c6 := H.2.1.cell
    go_wp2_with fail
    refine (has_v _ _ _ _ _ _ hn h2).mono ?_
    rintro e W ⟨rfl, hx⟩
    clear c4 c6 c8 c9 f8 f9
    replace H := H.ext hx; clear hx W1
    have c8 := H.2.2.1.cell; have c9 := H.2.2.2.1.cell; have f8 := H.2.2.1.frozen; have f9 := H.2.2.2.1.frozen
    go_wp2_with fail
    obtain ⟨r8, r9, hE⟩ := FIN.out _ H
    exact bodyPost_ret (v := .tuple #[.int .i64 0, .bool false]) (by simp [results, Try.results16, go_sem, r8, r9]) rfl ⟨rfl, hE⟩
  · go_enter Try.func16, Try.ntmps16
    go_wp2_with fail
    generalize ((((w.alloc (.cells #[.slice A n c] 24)).alloc (.cells #[.int .i64 t] 3)).alloc (.cells #[.int .i64 0] 3)).alloc (.cells #[.bool false] 4)) = W at *
    refine (has_v _ _ _ _ _ _ hn h1).mono ?_
    rintro e W1 ⟨rfl, hx⟩
    replace H := H.ext hx; clear hx W
    have c8 := H.2.2.1.cell; have c9 := H.2.2.2.1.cell; have f8 := H.2.2.1.frozen; have f9 := H.2.2.2.1.frozen
    have c4 := H.1.cell; have c6 := H.2.1.cell
    go_wp2_with fail
    refine (has_v _ _ _ _ _ _ hn h2).mono ?_
    rintro e W ⟨rfl, hx⟩
    clear c4 c6 c8 c9 f8 f9
    replace H := H.ext hx; clear hx W1
    have c8 := H.2.2.1.cell; have c9 := H.2.2.2.1.cell; have f8 := H.2.2.1.frozen; have f9 := H.2.2.2.1.frozen
    go_wp2_with fail
    obtain ⟨r8, r9, hE⟩ := FIN.out _ H
    exact bodyPost_ret (v := .tuple #[.int .i64 0, .bool false]) (by simp [results, Try.results16, go_sem, r8, r9]) rfl ⟨rfl, hE⟩

theorem hops_any (A : Option Addr) (c : Nat) (f t d : Int) (cut : List Bool) (w : World) (hn : cut.length ≤ 140737488351232) (hR : Reads w w.heap.size 1 A cut.length (cut.map .bool)) :
    Calls Try.prog 16 #[.agg #[.slice A cut.length c], .int .i64 f, .int .i64 t, .int .i64 d] w fun e w' => e = .returned (hopV (hopsI cut f t d)) ∧ Ext w w' := by
  cases h1 : hasB cut.length f
  · rw [hopsI_no (.inl h1)]; exact hops_bad _ _ _ _ _ _ _ hn (.inl h1)
  cases h2 : hasB cut.length t
  · rw [hopsI_no (.inr (.inl h2))]; exact hops_bad _ _ _ _ _ _ _ hn (.inr (.inl ⟨h1, h2⟩))
  have k1 := hasB_iff.1 h1
  have k2 := hasB_iff.1 h2
  obtain ⟨f', rfl⟩ : ∃ f' : Nat, f = f' := ⟨f.toNat, by omega⟩
  obtain ⟨t', rfl⟩ : ∃ t' : Nat, t = t' := ⟨t.toNat, by omega⟩
  rcases Int.lt_trichotomy d 0 with hd | rfl | hd
  · rw [hopsI_no (.inr (.inr (by omega)))]; exact hops_bad _ _ _ _ _ _ _ hn (.inr (.inr (.inl ⟨h1, h2, hd⟩)))
  · rw [show hopsI cut f' t' 0 = Rg.hops cut 0 f' t' by simp [hopsI, h1, h2]]
    exact hops_asc A c f' t' cut w k1.1 k1.2.1 (by omega) (by omega) hR
  · by_cases hd1 : d = 1
    · subst hd1
      rw [show hopsI cut f' t' 1 = Rg.hops cut 1 f' t' by simp [hopsI, h1, h2]]
      exact hops_desc A c f' t' cut w k1.1 k1.2.1 (by omega) (by omega) hR
    · rw [hopsI_no (.inr (.inr (by omega)))]; exact hops_bad _ _ _ _ _ _ _ hn (.inr (.inr (.inr ⟨h1, h2, by omega, by omega⟩)))
end Go.Proofs.Ytnicgmgihmfjbaa
