/- The channels of a case. -/
import Derived.Test.YtmlcmnbjioabiaaSl
namespace Go.Proofs.Ytmlcmnbjioabiaa
open Go.RowKit

def chanAt (sm : Nat → Nat → Int) (i k : Nat) : Int := sm i k % 32767 - 16383
def chanRow (sm : Nat → Nat → Int) (i : Nat) : List Int := (List.range 12).map (chanAt sm i)
def chan (sm : Nat → Nat → Int) : List (List Int) := (List.range 3).map (chanRow sm)
theorem elem_row : Elem Try.prog 35 22 1 24 := Elem.of Try.underlying35 (z := .slice none 0 0) (by kernel_rfl) rfl (by omega)

set_option maxHeartbeats 1000000 in
theorem channels_any (cs : Array Value) (sm : Nat → Nat → Int) (h : ∀ i k, i < 3 → k < 12 → cs[2 + i * 12 + k]? = some (.int .i64 (sm i k))) (w : World) :
    Calls Try.prog 23 #[.agg cs] w fun e w' => ∃ D c, e = .returned (.slice D 3 c) ∧ RRows w' D 3 (chan sm) ∧ Ext w w' := by
  have HH := Lib.hid h; clear h
  go_enter Try.func23, Try.ntmps23
  go_wp2_with fail
  go_loopw [3, 4] (fun o i wr => ∃ k : Nat, k ≤ 3 ∧ i = .int .i64 k ∧ ∃ vs : List Value, vs.length = k ∧ (∀ j v, vs[j]? = some v → wr.ownsRow (w.heap.size + 1) 3 1 v 12 ((chanRow sm j).map (.int .i64))) ∧ wr.ownsRow (w.heap.size + 1) 22 1 o k vs ∧ Blk wr w.heap.size 55 cs ∧ Ext w wr) (fun _ i _ => 3 - (intOf i).toNat)
  case atStart => exact ⟨0, by omega, rfl, [], rfl, by simp, World.ownsRow_nil _ _ _ _, Blk.new _ _ _, Ext.new _ _⟩
  case round =>
    obtain ⟨k, hk, rfl, vs, hvl, hvs, hown, hB, hext⟩ := hrel
    have HVS := Lib.hid hvs; clear hvs
    have HOWN := Lib.hid hown; clear hown
    have HVL := Lib.hid hvl; clear hvl
    by_cases hlt : k < 3
    · obtain ⟨wo, rfl⟩ : ∃ wo : World, wo = wr := ⟨_, rfl⟩
      have hd : decide ((k : Int) < 3) = true := by simp; omega
      go_wp2_with fail
      go_loopw [5, 6] (fun x i wr => ∃ c : Nat, c ≤ 12 ∧ i = .int .i64 c ∧ wr.ownsRow wo.heap.size 3 1 x c (((List.range c).map (chanAt sm k)).map (.int .i64)) ∧ Ext wo wr) (fun _ i _ => 12 - (intOf i).toNat)
      case atStart => exact ⟨0, by omega, rfl, World.ownsRow_nil _ _ _ _, Ext.refl _⟩
      case round =>
        obtain ⟨c, hc, rfl, hx, hex⟩ := hrel
        have HX := Lib.hid hx; clear hx
        have hB1 := hB.ext hex
        have hlow := hB.lt
        have hz := hex.size
        by_cases hlt2 : c < 12
        · have hcell : wr.cell? ⟨w.heap.size, 2 + k * 12 + c, none⟩ = some (.int .i64 (sm k c)) := (hB1.cell _).trans (HH.out k c hlt hlt2)
          have q1 : (0 : Int) ≤ (k : Int) := by omega
          have q2 : (k : Int) < 3 := by omega
          have q3 : (0 : Int) ≤ (c : Int) := by omega
          have q4 : (c : Int) < 12 := by omega
          have h1 := Int.emod_nonneg (sm k c) (show (32767 : Int) ≠ 0 by omega)
          have h2 := Int.emod_lt_of_pos (sm k c) (show (0 : Int) < 32767 by omega)
          go_wp2_with (first | (go_at_call 22; refine (within_any _ _ _ (by omega) (by omega)).mono ?_; rintro e w' ⟨rfl, rfl⟩) | (at_builtin; refine wpList_app elem_int rfl (.tmp 15) (.tmp 24) rfl wo.heap.size _ c _ (by rfl) (HX.out.alloc _) wr.heap.size 1 1 [.int .i64 (chanAt sm k c)] (by rfl) (Blk.new _ _ _) rfl (by simp [Value.oneCell']) (by omega) (by omega) (by omega) (by simp; omega) ?_))
          intro g cap w2 o2 gr2 _ _
          have HO := Lib.hid o2; clear o2
          try simp only [Act.put, List.setIfInBounds_toArray, List.set_cons_succ, List.set_cons_zero]
          go_wp2_with fail
          go_roundw
          case rel => exact ⟨c + 1, by omega, by go_num, by have := HO.out; rw [List.range_succ, List.map_append, List.map_append, List.map_map]; exact this, own_grown gr2 (hex.alloc _) (fun g hg => (HX.out.lt g hg).1)⟩
          case measure => simp [intOf]; omega
        · obtain rfl : c = 12 := by omega
          obtain ⟨g, cap, rfl, _, _⟩ := HX.out.form (by omega)
          have HO' := own_ext HOWN.out hex
          go_wp2_with (at_builtin; refine wpList_app elem_row rfl (.tmp 26) (.tmp 28) rfl (w.heap.size + 1) _ k vs (by rfl) (HO'.alloc _) wr.heap.size 1 1 [.slice (some ⟨g, 0, none⟩) 12 cap] (by rfl) (Blk.new _ _ _) rfl (by simp [Value.oneCell']) (by omega) (by omega) (by omega) (by simp; omega) ?_)
          intro g2 cap2 w2 o2 gr2 _ _
          have HO := Lib.hid o2; clear o2
          try simp only [Act.put, List.setIfInBounds_toArray, List.set_cons_succ, List.set_cons_zero]
          go_wp2_with fail
          go_roundw
          case rel =>
            refine ⟨k + 1, by omega, by go_num, vs ++ [.slice (some ⟨g, 0, none⟩) 12 cap], by simp [HVL.out], ?_, HO.out, ?_, ?_⟩
            · intro j v hv
              rcases Nat.lt_or_ge j vs.length with hj | hj
              · rw [List.getElem?_append_left hj] at hv
                have r1 := (own_ext (HVS.out j v hv) hex).alloc (.cells #[.slice (some ⟨g, 0, none⟩) 12 cap] 22)
                exact r1.kept gr2 (own_ne_type r1 (HO'.alloc _) (by decide))
              · rw [List.getElem?_append_right hj] at hv
                have hjk : j = k := by
                  have := HVL.out
                  have h3 : j - vs.length < 1 := by
                    rcases Nat.lt_or_ge (j - vs.length) 1 with h | h
                    · exact h
                    · rw [List.getElem?_eq_none (by simpa using h)] at hv; cases hv
                  omega
                subst hjk
                have : j - vs.length = 0 := by have := HVL.out; omega
                rw [this] at hv
                simp at hv
                subst hv
                have r1 := (HX.out.less (base' := w.heap.size + 1) (by omega)).alloc (.cells #[.slice (some ⟨g, 0, none⟩) 12 cap] 22)
                exact r1.kept gr2 (own_ne_type r1 (HO'.alloc _) (by decide))
            · exact grown_blk gr2 (hB1.alloc _) (own_blk_ne HO' (by omega))
            · exact own_grown gr2 ((hext.trans hex).alloc _) (fun g hg => by have := (HO'.lt g hg).1; omega)
          case measure => simp [intOf]; omega
    · obtain rfl : k = 3 := by omega
      go_wp2_with fail
      go_ret
      obtain ⟨A, c, hv, _, _, hr⟩ := own_reads HOWN.out
      refine ⟨A, c, congrArg Ending.returned hv, ?_, hext⟩
      obtain ⟨bk, off, rfl, hb, hcells⟩ := hr.plain (by omega)
      refine ⟨by simp [chan], fun _ => ⟨⟨bk, off, none⟩, rfl, hb, fun i r hi => ?_⟩⟩
      have hi3 : i < 3 := by
        have := (List.getElem?_eq_some_iff.1 hi).1
        simpa [chan] using this
      have hr' : r = chanRow sm i := by
        unfold chan at hi
        rw [List.getElem?_map, List.getElem?_range hi3] at hi
        simpa using hi.symm
      subst hr'
      have hil : i < vs.length := by have := HVL.out; omega
      obtain ⟨A', c', hv', _, hc', hR'⟩ := own_reads (HVS.out i _ (List.getElem?_eq_getElem hil))
      refine ⟨A', 12, c', ?_, hR', by omega⟩
      rw [← hv', add_plain]
      exact hcells i _ (List.getElem?_eq_getElem hil)
end Go.Proofs.Ytmlcmnbjioabiaa
