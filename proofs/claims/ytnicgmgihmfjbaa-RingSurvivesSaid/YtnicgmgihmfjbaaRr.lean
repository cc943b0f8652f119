/- Ring: the walk of RingSurvives. -/
import Derived.Test.YtnicgmgihmfjbaaRq
namespace Go.Proofs.Ytnicgmgihmfjbaa
open Go.RowKit Go.Shelf
open Rg (nodeAt link wl way Arr dist)

theorem cut1_cells {n c : Nat} : (Array.replicate n (Value.bool false)).setIfInBounds c (.bool true) = ((cut1 n c).map Value.bool).toArray := by
  rw [List.map_set, List.map_replicate]
  apply Array.ext'
  rw [Array.toList_setIfInBounds, Array.toList_replicate]

set_option maxRecDepth 100000 in
set_option maxHeartbeats 4000000 in
theorem survives_law (n0 f0 c0 : Int) (w : World) : Calls Try.prog 5 #[.int .i64 n0, .int .i64 f0, .int .i64 c0] w fun e w' => e = .returned (.bool true) ∧ Ext w w' := by
  have b1 := Int.emod_nonneg n0 (show (38 : Int) ≠ 0 by omega)
  have b2 := Int.emod_lt_of_pos n0 (show (0 : Int) < 38 by omega)
  obtain ⟨n, hn⟩ : ∃ n : Nat, 3 + n0 % 38 = (n : Int) := ⟨(3 + n0 % 38).toNat, by omega⟩
  have h3 : 3 ≤ n := by omega
  have h4 : n ≤ 40 := by omega
  have b3 := Int.emod_nonneg f0 (show (n : Int) ≠ 0 by omega)
  have b4 := Int.emod_lt_of_pos f0 (show (0 : Int) < n by omega)
  obtain ⟨f, hf0⟩ : ∃ f : Nat, f0 % (n : Int) = (f : Int) := ⟨(f0 % (n : Int)).toNat, by omega⟩
  have hf : f < n := by omega
  have b5 := Int.emod_nonneg c0 (show (n : Int) ≠ 0 by omega)
  have b6 := Int.emod_lt_of_pos c0 (show (0 : Int) < n by omega)
  obtain ⟨cc, hc0⟩ : ∃ cc : Nat, c0 % (n : Int) = (cc : Int) := ⟨(c0 % (n : Int)).toNat, by omega⟩
  have hcc : cc < n := by omega
  go_enter Try.func5, Try.ntmps5
  go_wp2_with fail
  refine (known_any _).mono ?_
  rintro e w1 ⟨rfl, hE⟩
  go_wp2_with fail
  refine (within_any _ _ _ (by omega) (by omega)).mono ?_
  rintro e w2 ⟨rfl, rfl⟩
  go_wp2_with fail
  refine (within_any _ _ _ (by omega) (by omega)).mono ?_
  rintro e w2 ⟨rfl, rfl⟩
  have hmk := hmkB n w1 h4
  go_wp2_with fail
  clear hmk
  have kB := (Blk.new w1 4 (Array.replicate n (Value.bool false))).alloc (.cells #[.slice (some ⟨w1.heap.size, 0, none⟩) n n] 24)
  have k5 := Boxed.new (w1.alloc (.cells (Array.replicate n (Value.bool false)) 4)) 24 (.slice (some ⟨w1.heap.size, 0, none⟩) n n)
  have hg1 := hE.size
  replace hE := (hE.alloc (.cells (Array.replicate n (Value.bool false)) 4)).alloc (.cells #[.slice (some ⟨w1.heap.size, 0, none⟩) n n] 24)
  simp only [World.size_alloc] at k5
  generalize (w1.alloc (.cells (Array.replicate n (Value.bool false)) 4)).alloc (.cells #[.slice (some ⟨w1.heap.size, 0, none⟩) n n] 24) = W at *
  generalize w1.heap.size = g at *
  have Y5 := ExtOf.cell k5.cell
  refine wp_region_ordE 5 [(true, 0), (true, 1), (true, 2), (true, 3), (false, 4)] (by kernel_rfl) (by kernel_rfl) ?_
  refine wpOrdT_quiet [0, 1, 2, 3] [(false, 4)] _ (by kernel_rfl) ?_
  simp only [nthOps, nthOp, List.cons_append, List.nil_append]
  repeat (go_big_quiet_step (fail))
  refine wpQuiet_nil ?_
  refine wpOrdT_act 4 [] (by kernel_rfl) ?_
  intro K hK
  simp only [nthOp]
  go_wp2_with fail
  refine (within_any _ _ _ (by omega) (by omega)).mono ?_
  rintro e w2 ⟨rfl, rfl⟩
  go_wp2
  refine hK _ _ ⟨⟨_, (Ext.refl W).drew⟩, rfl⟩ ?_
  clear hK K Y5
  simp only [wpOrdT, List.drop_succ_cons, List.drop_zero]
  have kB2 : Blk W.drew g 4 (Array.replicate n (Value.bool false)) := kB
  have hcell : W.drew.cell? ⟨g, cc, none⟩ = some (.bool false) := by rw [kB2.cell]; simp [hcc]
  have hfr := kB2.frozen cc
  have c5 := k5.cell
  go_wp2_with fail
  clear hcell hfr c5 kB2
  have kB3 : Blk (W.setCell ⟨g, cc, none⟩ (.bool true)).drew g 4 ((cut1 n cc).map Value.bool).toArray := by
    rw [← cut1_cells]; exact kB.set_ cc (.bool true)
  replace k5 : Boxed (W.setCell ⟨g, cc, none⟩ (.bool true)).drew (g + 1) 24 (.slice (some ⟨g, 0, none⟩) n n) := k5.far (p := ⟨g, cc, none⟩) (by show g + 1 ≠ g; omega) _
  replace hE : Ext w (W.setCell ⟨g, cc, none⟩ (.bool true)).drew := (hE.setCell (p := ⟨g, cc, none⟩) hg1 _).drew
  clear kB
  generalize (W.setCell ⟨g, cc, none⟩ (.bool true)).drew = W2 at *
  clear W
  have hl : (cut1 n cc).length = n := cut1_len
  have hR : Reads W2 W2.heap.size 1 (some ⟨g, 0, none⟩) n ((cut1 n cc).map .bool) := kB3.reads (n := n) (size := 1) (by simp)
  have H1 := Lib.hid (fun k (hk : k < n) (hne : f ≠ k) => survives_at (t := k) h3 h4 hf hcc hk hne)
  have H3 := Lib.hid (survives_len h3 h4 hf hcc)
  generalize cut1 n cc = cut at *
  have HLN := Lib.hid hl; clear hl
  have HR := Lib.hid hR; clear hR kB3
  have hhas := Lib.hid (hasB_ok h3 h4 hf)
  refine (arrivals_n _ n f W2 HLN.out (by omega) HR.out).mono ?_
  rintro e w2 ⟨v, rfl, hr, hx⟩
  generalize Rg.run cut [((f : Int), 0)] = L at *
  obtain ⟨A, c, rfl, hrd⟩ := hr
  have hlen : L.length ≤ 100000 := by have := H3.out; omega
  generalize hm : L.length = m at *
  have HA : Hid (RArr w2 (.slice A m c) L) := Lib.hid ⟨A, c, by rw [hm], by rw [hm]; exact hrd⟩
  have HM := Lib.hid hm; clear hm hrd
  have hfin : ((m : Int) == (n : Int) - 1) = true := by have := H3.out; have := HM.out; simp; omega
  replace k5 := k5.ext hx; replace hE := hE.trans hx
  have HR2 := Lib.hid (HR.out.ext hx); clear hx HR W2
  have c5 := k5.cell
  go_wp2_with fail
  clear c5
  refine (reached_n _ n f w2 HLN.out (by omega) HR2.out).mono ?_
  rintro e w3 ⟨B, d, rfl, hb, hx⟩
  have hrl : (reachL cut f).length = n := by unfold reachL; rw [if_pos (by rw [HLN.out]; exact hhas.out)]; simp [HLN.out]
  rw [hrl] at hb ⊢
  have HRC := Lib.hid (fun k (hk : k < n) => show (reachL cut f).getD k false = reachB cut f k by
    unfold reachL; rw [if_pos (by rw [HLN.out]; exact hhas.out), List.getD_eq_getElem?_getD, List.getElem?_map, List.getElem?_range (by rw [HLN.out]; exact hk)]; rfl)
  generalize reachL cut f = rl at *
  have HB := Lib.hid hb; clear hb hrl
  replace k5 := k5.ext hx; replace hE := hE.trans hx
  have HA3 := Lib.hid (HA.out.ext hx); clear hx HA HR2
  go_wp2_with fail
  go_loopw [10] (fun i wr => ∃ k : Nat, k ≤ n ∧ i = .int .i64 k ∧ RArr wr (.slice A m c) L ∧ Reads wr wr.heap.size 1 B n (rl.map .bool) ∧ Ext w wr) (fun i _ => n - (intOf i).toNat)
  case atStart => exact ⟨0, Nat.zero_le _, rfl, HA3.out, HB.out, hE⟩
  case round =>
    clear k5 HA3 HB hE
    obtain ⟨k, hk, rfl, hA, hR, hE⟩ := hrel
    have HA := Lib.hid hA; have HR := Lib.hid hR; clear hA hR
    by_cases hlt : k < n
    · by_cases hkf : k = f
      · subst hkf
        have hq : ((k : Int) != (k : Int)) = false := by simp
        go_wp2_with fail
        refine (count_n _ L k _ _ wr HA.out (by rw [HM.out]; exact hlen) rfl rfl).mono ?_
        rintro e w3 ⟨rfl, hx⟩
        generalize lstL L k = q0
        generalize cntL L k = q1
        have HA2 := Lib.hid (HA.out.ext hx); have HR2 := Lib.hid (HR.out.ext hx); replace hE := hE.trans hx
        clear hx HA HR
        obtain ⟨ad, hA1, hab, hcell⟩ := Reads.bool_at HR2.out hlt
        rw [HRC.out k hlt, reach_self] at hcell
        subst hA1
        have p1 : (0 : Int) ≤ (k : Int) := by omega
        have p2 : (k : Int) < (n : Int) := by omega
        obtain ⟨bk, off, ix⟩ := ad
        go_wp2_with fail
        go_roundw
        case rel => exact ⟨k + 1, by omega, by go_num, HA2.out, HR2.out, hE⟩
        case measure => simp [intOf]; omega
      · have hne : f ≠ k := fun h => hkf h.symm
        have hq : ((k : Int) != (f : Int)) = true := by simp; omega
        have HT := Lib.hid (H1.out k hlt hne)
        obtain ⟨q0, hq0⟩ : ∃ q0 : Int, lstL L k = q0 := ⟨_, rfl⟩
        have hq1 : q0 ≤ (n : Int) - 1 := by have := HT.out.2.1; omega
        have hq2 : decide ((n : Int) - 1 < q0) = false := by simp; omega
        have HQ0 := Lib.hid hq0; clear hq0
        go_wp2_with fail
        refine (count_n _ L k 1 q0 wr HA.out (by rw [HM.out]; exact hlen) HT.out.1 HQ0.out).mono ?_
        rintro e w3 ⟨rfl, hx⟩
        have HA2 := Lib.hid (HA.out.ext hx); have HR2 := Lib.hid (HR.out.ext hx); replace hE := hE.trans hx
        clear hx HA HR
        obtain ⟨ad, hA1, hab, hcell⟩ := Reads.bool_at HR2.out hlt
        rw [HRC.out k hlt, HT.out.2.2] at hcell
        subst hA1
        have p1 : (0 : Int) ≤ (k : Int) := by omega
        have p2 : (k : Int) < (n : Int) := by omega
        obtain ⟨bk, off, ix⟩ := ad
        go_wp2_with fail
        go_roundw
        case rel => exact ⟨k + 1, by omega, by go_num, HA2.out, HR2.out, hE⟩
        case measure => simp [intOf]; omega
    · obtain rfl : k = n := by omega
      go_wp2_with fail
      go_ret
      exact ⟨rfl, hE⟩
end Go.Proofs.Ytnicgmgihmfjbaa
