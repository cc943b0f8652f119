/- Ring: the walks of RingTwice and RingSurvives. -/
import Derived.Test.YtnicgmgihmfjbaaRp
namespace Go.Proofs.Ytnicgmgihmfjbaa
open Go.RowKit Go.Shelf
open Rg (nodeAt link wl way Arr dist)

section
variable {n : Nat} {cut : List Bool}
theorem arrivals_n (A : Option Addr) (c : Nat) (f : Int) (w : World) (hl : cut.length = n) (hn : n ≤ 140737488351232) (hR : Reads w w.heap.size 1 A n (cut.map .bool)) :
    Calls Try.prog 14 #[.agg #[.slice A n c], .int .i64 f] w (RunPost cut [(f, 0)] w) := by subst hl; exact arrivals_any A c f cut w hn hR
theorem hops_n (A : Option Addr) (c : Nat) (f t d : Int) (q : Nat) (w : World) (hl : cut.length = n) (hn : n ≤ 140737488351232) (hR : Reads w w.heap.size 1 A n (cut.map .bool)) (h : hopsI cut f t d = some q) :
    Calls Try.prog 16 #[.agg #[.slice A n c], .int .i64 f, .int .i64 t, .int .i64 d] w fun e w' => e = .returned (.tuple #[.int .i64 (q : Int), .bool true]) ∧ Ext w w' := by
  subst hl
  have := hops_any A c f t d cut w hn hR; rw [h] at this; exact this
theorem reached_n (A : Option Addr) (c : Nat) (f : Int) (w : World) (hl : cut.length = n) (hn : n ≤ 140737488351232) (hR : Reads w w.heap.size 1 A n (cut.map .bool)) :
    Calls Try.prog 17 #[.agg #[.slice A n c], .int .i64 f] w (ReachPost cut f w) := by subst hl; exact reached_any A c f cut w hn hR
end
theorem count_n (v1 : Value) (l : List Arr) (t : Int) (c : Nat) (m : Int) (w : World) (h1 : RArr w v1 l) (hl : l.length ≤ 100000) (hc : cntL l t = c) (hm : lstL l t = m) :
    Calls Try.prog 15 #[v1, .int .i64 t] w fun e w' => e = .returned (.tuple #[.int .i64 (c : Nat), .int .i64 m]) ∧ Ext w w' := by
  subst hc hm; exact count_any v1 l t w h1 hl
theorem hopsI_nat {cut : List Bool} {f t d : Nat} (h3 : 3 ≤ cut.length) (h4 : cut.length ≤ 40) (hf : f < cut.length) (ht : t < cut.length) (hd : d = 0 ∨ d = 1) : hopsI cut f t d = Rg.hops cut d f t := by
  unfold hopsI
  rw [if_pos ⟨hasB_ok h3 h4 hf, hasB_ok h3 h4 ht, by omega⟩]; simp
theorem run_len_le {cut : List Bool} {fr : List (Int × Int)} : (Rg.run cut fr).length ≤ 100000 := by have := Rg.run_length cut fr; omega

set_option maxRecDepth 100000 in
set_option maxHeartbeats 4000000 in
theorem twice_law (n0 f0 : Int) (w : World) : Calls Try.prog 4 #[.int .i64 n0, .int .i64 f0] w fun e w' => e = .returned (.bool true) ∧ Ext w w' := by
  have b1 := Int.emod_nonneg n0 (show (38 : Int) ≠ 0 by omega)
  have b2 := Int.emod_lt_of_pos n0 (show (0 : Int) < 38 by omega)
  obtain ⟨n, hn⟩ : ∃ n : Nat, 3 + n0 % 38 = (n : Int) := ⟨(3 + n0 % 38).toNat, by omega⟩
  have h3 : 3 ≤ n := by omega
  have h4 : n ≤ 40 := by omega
  have b3 := Int.emod_nonneg f0 (show (n : Int) ≠ 0 by omega)
  have b4 := Int.emod_lt_of_pos f0 (show (0 : Int) < n by omega)
  obtain ⟨f, hf0⟩ : ∃ f : Nat, f0 % (n : Int) = (f : Int) := ⟨(f0 % (n : Int)).toNat, by omega⟩
  have hf : f < n := by omega
  go_enter Try.func4, Try.ntmps4
  go_wp2_with fail
  refine (known_any _).mono ?_
  rintro e w1 ⟨rfl, hE⟩
  go_wp2_with fail
  refine (within_any _ _ _ (by omega) (by omega)).mono ?_
  rintro e w2 ⟨rfl, rfl⟩
  go_wp2_with fail
  refine (within_any _ _ _ (by omega) (by omega)).mono ?_
  rintro e w2 ⟨rfl, rfl⟩
  have hmk := hmkB n w1 h4
  go_wp2_with fail
  clear hmk
  have kB := (Blk.new w1 4 (Array.replicate n (Value.bool false))).alloc (.cells #[.slice (some ⟨w1.heap.size, 0, none⟩) n n] 24)
  have k5 := Boxed.new (w1.alloc (.cells (Array.replicate n (Value.bool false)) 4)) 24 (.slice (some ⟨w1.heap.size, 0, none⟩) n n)
  replace hE := (hE.alloc (.cells (Array.replicate n (Value.bool false)) 4)).alloc (.cells #[.slice (some ⟨w1.heap.size, 0, none⟩) n n] 24)
  simp only [World.size_alloc] at k5
  generalize (w1.alloc (.cells (Array.replicate n (Value.bool false)) 4)).alloc (.cells #[.slice (some ⟨w1.heap.size, 0, none⟩) n n] 24) = W at *
  generalize w1.heap.size = g at *
  have hl : (List.replicate n false).length = n := by simp
  have hR : Reads W W.heap.size 1 (some ⟨g, 0, none⟩) n ((List.replicate n false).map .bool) := by
    have := kB.reads (n := n) (size := 1) (by simp)
    simpa using this
  have H1 := Lib.hid (fun k (hk : k < n) (hne : f ≠ k) => twice_at (t := k) h3 h4 hf hk hne)
  have H2 := Lib.hid (twice_self h3 h4 hf)
  have H3 := Lib.hid (twice_len h3 h4 hf)
  have H4 := Lib.hid (fun k d (hk : k < n) (hne : f ≠ k) (hd : d = 0 ∨ d = 1) => show hopsI (List.replicate n false) f k (d : Nat) = some (dist d n f k) by rw [hopsI_nat (by rw [hl]; exact h3) (by rw [hl]; exact h4) (by rw [hl]; exact hf) (by rw [hl]; exact hk) hd, hops_free hf hk hne])
  generalize List.replicate n false = cut at *
  have HLN := Lib.hid hl; clear hl
  have HR := Lib.hid hR; clear hR kB
  refine (arrivals_n _ n f W HLN.out (by omega) HR.out).mono ?_
  rintro e w2 ⟨v, rfl, hr, hx⟩
  generalize Rg.run cut [((f : Int), 0)] = L at *
  obtain ⟨A, c, rfl, hrd⟩ := hr
  have hlen : L.length ≤ 100000 := by have := H3.out; omega
  generalize hm : L.length = m at *
  have HA : Hid (RArr w2 (.slice A m c) L) := Lib.hid ⟨A, c, by rw [hm], by rw [hm]; exact hrd⟩
  have HM := Lib.hid hm; clear hm hrd
  have hfin : ((m : Int) == 2 * ((n : Int) - 1)) = true := by have := H3.out; have := HM.out; simp; omega
  replace k5 := k5.ext hx; replace hE := hE.trans hx
  have HR2 := Lib.hid (HR.out.ext hx); clear hx HR W
  go_wp2_with fail
  go_loopw [7] (fun i wr => ∃ k : Nat, k ≤ n ∧ i = .int .i64 k ∧ Boxed wr (g + 1) 24 (.slice (some ⟨g, 0, none⟩) n n) ∧ RArr wr (.slice A m c) L ∧ Reads wr wr.heap.size 1 (some ⟨g, 0, none⟩) n (cut.map .bool) ∧ Ext w wr) (fun i _ => n - (intOf i).toNat)
  case atStart => exact ⟨0, Nat.zero_le _, rfl, k5, HA.out, HR2.out, hE⟩
  case round =>
    clear k5 HA HR2 hE
    obtain ⟨k, hk, rfl, k5, hA, hR, hE⟩ := hrel
    have HA := Lib.hid hA; have HR := Lib.hid hR; clear hA hR
    by_cases hlt : k < n
    · by_cases hkf : k = f
      · subst hkf
        have hq : ((k : Int) == (k : Int)) = true := by simp
        go_wp2_with fail
        refine (count_n _ L k 0 _ wr HA.out (by rw [HM.out]; exact hlen) H2.out rfl).mono ?_
        rintro e w3 ⟨rfl, hx⟩
        generalize lstL L k = q0
        replace k5 := k5.ext hx; have HA2 := Lib.hid (HA.out.ext hx); have HR2 := Lib.hid (HR.out.ext hx); replace hE := hE.trans hx
        clear hx HA HR
        go_wp2_with fail
        go_roundw
        case rel => exact ⟨k + 1, by omega, by go_num, k5, HA2.out, HR2.out, hE⟩
        case measure => simp [intOf]; omega
      · have hne : f ≠ k := fun h => hkf h.symm
        have hq : ((k : Int) == (f : Int)) = false := by simp; omega
        have HT := Lib.hid (H1.out k hlt hne)
        have HD0 := Lib.hid (H4.out k 0 hlt hne (.inl rfl)); have HD1 := Lib.hid (H4.out k 1 hlt hne (.inr rfl))
        have hs := Rg.dist_sum hf hlt hne
        generalize dist 0 n f k = D0 at *
        generalize dist 1 n f k = D1 at *
        have hsum : ((D0 : Int) + (D1 : Int) != (n : Int)) = false := by simp; omega
        have d0 : (0 : Int) ≤ (D0 : Int) := by omega
        have d1 : (D0 : Int) ≤ 100 := by omega
        have d2 : (0 : Int) ≤ (D1 : Int) := by omega
        have d3 : (D1 : Int) ≤ 100 := by omega
        clear hs
        go_wp2_with fail
        refine (count_n _ L k 2 _ wr HA.out (by rw [HM.out]; exact hlen) HT.out.1 HT.out.2).mono ?_
        rintro e w3 ⟨rfl, hx⟩
        replace k5 := k5.ext hx; have HA2 := Lib.hid (HA.out.ext hx); have HR2 := Lib.hid (HR.out.ext hx); replace hE := hE.trans hx
        clear hx HA HR
        have c5 := k5.cell
        go_wp2_with fail
        clear c5
        refine (hops_n _ n f k 0 D0 w3 HLN.out (by omega) HR2.out HD0.out).mono ?_
        rintro e w4 ⟨rfl, hx⟩
        replace k5 := k5.ext hx; have HA := Lib.hid (HA2.out.ext hx); have HR := Lib.hid (HR2.out.ext hx); replace hE := hE.trans hx
        clear hx HA2 HR2
        have c5 := k5.cell
        go_wp2_with fail
        clear c5
        refine (hops_n _ n f k 1 D1 w4 HLN.out (by omega) HR.out HD1.out).mono ?_
        rintro e w5 ⟨rfl, hx⟩
        replace k5 := k5.ext hx; have HA2 := Lib.hid (HA.out.ext hx); have HR2 := Lib.hid (HR.out.ext hx); replace hE := hE.trans hx
        clear hx HA HR
        go_wp2_with fail
        go_roundw
        case rel => exact ⟨k + 1, by omega, by go_num, k5, HA2.out, HR2.out, hE⟩
        case measure => simp [intOf]; omega
    · obtain rfl : k = n := by omega
      go_wp2_with fail
      go_ret
      exact ⟨rfl, hE⟩
end Go.Proofs.Ytnicgmgihmfjbaa
