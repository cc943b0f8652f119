/- Ring: the walk of RingSymmetric. -/
import Derived.Test.YtnicgmgihmfjbaaRt
namespace Go.Proofs.Ytnicgmgihmfjbaa
open Go.RowKit Go.Shelf
open Rg (nodeAt link wl way Arr dist)

theorem reached_i (A : Option Addr) (c i : Nat) (cut : List Bool) (w : World) (h3 : 3 ≤ cut.length) (h4 : cut.length ≤ 40) (hi : i < cut.length) (hR : Reads w w.heap.size 1 A cut.length (cut.map .bool)) :
    Calls Try.prog 17 #[.agg #[.slice A cut.length c], .int .i64 i] w fun e w' => ∃ B d, e = .returned (.slice B cut.length d) ∧ (∃ rl : List Bool, Reads w' w'.heap.size 1 B cut.length (rl.map .bool) ∧ ∀ k, k < cut.length → rl.getD k false = reachB cut i k) ∧ Ext w w' := by
  have hb : hasB cut.length i = true := hasB_ok h3 h4 hi
  have hl : (reachL cut i).length = cut.length := by unfold reachL; rw [if_pos hb]; simp
  refine (reached_any A c i cut w (by omega) hR).mono ?_
  rintro e w' ⟨B, d, rfl, hr, hx⟩
  rw [hl] at hr ⊢
  refine ⟨B, d, rfl, ⟨_, hr, fun k hk => ?_⟩, hx⟩
  unfold reachL
  rw [if_pos hb, List.getD_eq_getElem?_getD, List.getElem?_map, List.getElem?_range hk]
  simp
set_option maxRecDepth 100000 in
theorem check_big (A : Option Addr) (n c : Nat) (w : World) (h2 : 40 < n) (hn : n ≤ 9223372036854775807) : Calls Try.prog 19 #[.agg #[.slice A n c]] w fun e w' => e = .returned (.int .i64 3) ∧ Ext w w' := by
  have hd : decide (n < 3) = false := by simp; omega
  have hd2 : decide (40 < n) = true := by simpa using h2
  go_enter Try.func19, Try.ntmps19
  go_wp2
  go_ret
  exact ⟨rfl, Ext.new _ _⟩
theorem check_w (A : Option Addr) (n c : Nat) (v : Int) (w : World) (hn : n ≤ 9223372036854775807) (h : ckI n = v) : Calls Try.prog 19 #[.agg #[.slice A n c]] w fun e w' => e = .returned (.int .i64 v) ∧ Ext w w' := by
  by_cases h2 : 40 < n
  · rw [← h, ckI_bad (.inr h2)]; exact check_big A n c w h2 hn
  · exact check_v A n c v w (by omega) h
theorem cutsL_snoc (l : List Bool) (b : Bool) : cutsL (l ++ [b]) = cutsL l + if b then 1 else 0 := by
  unfold cutsL; rw [List.filter_append, List.length_append]; cases b <;> rfl
theorem cutsL_le (l : List Bool) : cutsL l ≤ l.length := List.length_filter_le _ _
theorem take_snocB {l : List Bool} {k : Nat} (h : k < l.length) : l.take (k + 1) = l.take k ++ [l.getD k false] := by
  rw [List.take_succ_eq_append_getElem h, List.getD_eq_getElem?_getD, List.getElem?_eq_getElem h]; rfl
theorem partsL_succ (cut : List Bool) (k : Nat) : partsL cut (k + 1) = partsL cut k + if firstB cut k then 1 else 0 := by
  unfold partsL; rw [List.range_succ, List.filter_append, List.length_append]
  cases h : firstB cut k <;> simp [h]
theorem partsL_le (cut : List Bool) (k : Nat) : partsL cut k ≤ k := by
  unfold partsL; have := List.length_filter_le (firstB cut) (List.range k); simpa using this

set_option maxRecDepth 100000 in
set_option maxHeartbeats 8000000 in
theorem symmetric_law (A : Option Addr) (c : Nat) (cut : List Bool) (w : World) (hn0 : cut.length ≤ 9223372036854775807) (hR : Reads w w.heap.size 1 A cut.length (cut.map .bool)) :
    Calls Try.prog 7 #[.agg #[.slice A cut.length c]] w fun e w' => e = .returned (.bool true) ∧ Ext w w' := by
  obtain ⟨b, hE⟩ := Boxed.start w 24 (.slice A cut.length c)
  obtain ⟨z, hz⟩ : ∃ z, ckI cut.length = z := ⟨_, rfl⟩
  by_cases hbig : 14 < cut.length
  · have hd : decide (14 < cut.length) = true := by simpa using hbig
    have hz2 : z = 0 ∨ z = 3 := by rw [← hz]; unfold ckI; split <;> simp
    have HZ := Lib.hid hz; clear hz
    rcases hz2 with rfl | rfl
    · go_enter Try.func7, Try.ntmps7
      go_wp2_with fail
      generalize w.alloc (.cells #[.slice A cut.length c] 24) = W at *
      refine (known_any _).mono ?_
      rintro e w1 ⟨rfl, hx⟩
      replace b := b.ext hx; replace hE := hE.trans hx; clear hx W
      have c2 := b.cell
      go_wp2_with fail
      clear c2
      refine (check_w _ _ _ _ _ hn0 HZ.out).mono ?_
      rintro e w2 ⟨rfl, hx⟩
      replace b := b.ext hx; replace hE := hE.trans hx; clear hx w1
      have c2 := b.cell
      go_wp2_with fail
      go_ret
      exact ⟨rfl, hE⟩
    · go_enter Try.func7, Try.ntmps7
      go_wp2_with fail
      generalize w.alloc (.cells #[.slice A cut.length c] 24) = W at *
      refine (known_any _).mono ?_
      rintro e w1 ⟨rfl, hx⟩
      replace b := b.ext hx; replace hE := hE.trans hx; clear hx W
      have c2 := b.cell
      go_wp2_with fail
      clear c2
      refine (check_w _ _ _ _ _ hn0 HZ.out).mono ?_
      rintro e w2 ⟨rfl, hx⟩
      replace b := b.ext hx; replace hE := hE.trans hx; clear hx w1
      have c2 := b.cell
      go_wp2_with fail
      go_ret
      exact ⟨rfl, hE⟩
  have hd : decide (14 < cut.length) = false := by simpa using hbig
  have hn : cut.length ≤ 140737488351232 := by omega
  by_cases h3 : cut.length < 3
  · have HZ : Hid (ckI cut.length = 3) := Lib.hid (ckI_bad (.inl h3))
    have HR := Lib.hid hR; clear hR hz
    have HN : Hid (reachL cut 0 = []) := Lib.hid (by unfold reachL; rw [if_neg]; intro h; have := hasB_iff.1 h; omega)
    go_enter Try.func7, Try.ntmps7
    go_wp2_with fail
    generalize w.alloc (.cells #[.slice A cut.length c] 24) = W at *
    refine (known_any _).mono ?_
    rintro e w1 ⟨rfl, hx⟩
    replace b := b.ext hx; replace hE := hE.trans hx; clear hx W
    have c2 := b.cell
    go_wp2_with fail
    clear c2
    refine (check_v _ _ _ _ _ hn HZ.out).mono ?_
    rintro e w2 ⟨rfl, hx⟩
    replace b := b.ext hx; replace hE := hE.trans hx; clear hx w1
    have c2 := b.cell
    go_wp2_with fail
    clear c2
    refine (reached_r A c 0 cut [] 0 _ hn (HR.out.ext hE) HN.out rfl).mono ?_
    rintro e w3 ⟨B, d, rfl, _, hx⟩
    replace hE := hE.trans hx; clear hx b
    go_wp2_with fail
    go_ret
    exact ⟨rfl, hE⟩
  have h3' : 3 ≤ cut.length := by omega
  have h4' : cut.length ≤ 40 := by omega
  have HZ : Hid (ckI cut.length = 0) := Lib.hid (ckI_ok h3' h4')
  have HR := Lib.hid hR; clear hR hz
  go_enter Try.func7, Try.ntmps7
  go_wp2_with fail
  generalize w.alloc (.cells #[.slice A cut.length c] 24) = W at *
  refine (known_any _).mono ?_
  rintro e w1 ⟨rfl, hx⟩
  replace b := b.ext hx; replace hE := hE.trans hx; clear hx W
  have c2 := b.cell
  go_wp2_with fail
  clear c2
  refine (check_v _ _ _ _ _ hn HZ.out).mono ?_
  rintro e w2 ⟨rfl, hx⟩
  replace b := b.ext hx; replace hE := hE.trans hx; clear hx w1
  have c2 := b.cell
  go_wp2_with fail
  clear c2 hd
  go_loopw [4, 5] (fun q i wr => ∃ k : Nat, k ≤ cut.length ∧ i = .int .i64 k ∧ (∃ c0 : Nat, c0 ≤ k ∧ q = .int .i64 c0 ∧ cutsL (cut.take k) = c0) ∧ Boxed wr w.heap.size 24 (.slice A cut.length c) ∧ Ext w wr) (fun _ i _ => cut.length - (intOf i).toNat)
  case atStart => exact ⟨0, Nat.zero_le _, rfl, ⟨0, Nat.le_refl _, rfl, rfl⟩, b, hE⟩
  case round =>
    clear b hE
    obtain ⟨k, hk, rfl, ⟨c0, hc0, rfl, hcu⟩, b, hE⟩ := hrel
    have HCU := Lib.hid hcu; clear hcu
    by_cases hlt : k < cut.length
    · obtain ⟨ad, hA, _, hcell⟩ := Reads.bool_at (HR.out.ext hE) hlt
      subst hA
      obtain ⟨bk, off, ix⟩ := ad
      have HTS := Lib.hid (take_snocB hlt)
      have HCS := Lib.hid (cutsL_snoc (cut.take k) (cut.getD k false))
      have c2 := b.cell
      have p1 : (0 : Int) ≤ (c0 : Int) := by omega
      have p2 : (c0 : Int) ≤ 100 := by omega
      cases hcut : cut.getD k false
      · rw [hcut] at hcell HCS
        have HCUT := Lib.hid hcut; clear hcut
        go_wp2_with fail
        clear c2 hcell
        refine (reached_i (some ⟨bk, off, ix⟩) c k cut _ h3' h4' hlt (HR.out.ext hE)).mono ?_
        rintro e w3 ⟨B1, d1, rfl, ⟨rl, hrl, hrk⟩, hx⟩
        replace b := b.ext hx; replace hE := hE.trans hx
        have HA := Lib.hid hrl; have HAK := Lib.hid hrk
        clear hx hrl hrk
        go_wp2_with fail
        go_loopw [7] (fun i wr => ∃ k2 : Nat, k2 ≤ cut.length ∧ i = .int .i64 k2 ∧ Reads wr wr.heap.size 1 B1 cut.length (rl.map .bool) ∧ Boxed wr w.heap.size 24 (.slice (some ⟨bk, off, ix⟩) cut.length c) ∧ Ext w wr) (fun i _ => cut.length - (intOf i).toNat)
        case atStart => exact ⟨0, Nat.zero_le _, rfl, HA.out, b, hE⟩
        case round =>
          clear b hE HA
          obtain ⟨k2, hk2, rfl, hA, b, hE⟩ := hrel
          have HA := Lib.hid hA; clear hA
          by_cases hlt2 : k2 < cut.length
          · have c2 := b.cell
            go_wp2_with fail
            clear c2
            refine (reached_i (some ⟨bk, off, ix⟩) c k2 cut _ h3' h4' hlt2 (HR.out.ext hE)).mono ?_
            rintro e w4 ⟨B2, d2, rfl, ⟨rl2, hrl, hrk⟩, hx⟩
            replace b := b.ext hx; replace hE := hE.trans hx
            have HA2 := Lib.hid (HA.out.ext hx)
            obtain ⟨ad1, hA1, _, hc1⟩ := Reads.bool_at HA2.out hlt2
            obtain ⟨ad2, hA2, _, hc2⟩ := Reads.bool_at hrl hlt
            rw [HAK.out k2 hlt2, reach_sym hlt hlt2] at hc1
            rw [hrk k hlt] at hc2
            subst hA1 hA2
            clear hx hrl hrk HA
            obtain ⟨k1, o1, i1⟩ := ad1
            obtain ⟨k3, o2, i2⟩ := ad2
            obtain ⟨q, hq⟩ : ∃ q : Int, (((hopsI cut k k2 0).getD 0 : Nat) : Int) = q := ⟨_, rfl⟩
            obtain ⟨bb, hbb⟩ : ∃ bb : Bool, (hopsI cut k k2 0).isSome = bb := ⟨_, rfl⟩
            have heq : hopsI cut k2 k 1 = hopsI cut k k2 0 := by
              have e0 := hopsI_nat (d := 0) h3' h4' hlt hlt2 (.inl rfl)
              have e1 := hopsI_nat (d := 1) h3' h4' hlt2 hlt (.inr rfl)
              have := hops_back hlt hlt2
              rw [← e0, ← e1] at this; exact this.symm
            have HQ := Lib.hid hq; have HBB := Lib.hid hbb; have HEQ := Lib.hid heq; clear hq hbb heq
            have hqq : (bb != bb) = false := by cases bb <;> rfl
            generalize reachB cut k2 k = r0 at *
            have hrr : (r0 != r0) = false := by cases r0 <;> rfl
            have Y1 := ExtOf.cell hc1; have Y2 := ExtOf.cell hc2
            have p3 : (0 : Int) ≤ (k : Int) := by omega
            have p4 : (k : Int) < (cut.length : Int) := by omega
            have p5 : (0 : Int) ≤ (k2 : Int) := by omega
            have p6 : (k2 : Int) < (cut.length : Int) := by omega
            clear hc1 hc2
            go_wp2_with fail
            refine wp_region_ext_lit (by kernel_rfl) (by kernel_rfl) ?_
            repeat (go_big_quiet_step (fail))
            refine wpQuiet_nil ?_
            intro W5 hW
            obtain ⟨xe, rfl⟩ := hW
            replace b := b.ext xe.ext; replace hE := hE.trans xe.ext
            have HA3 := Lib.hid (HA2.out.ext xe.ext)
            clear Y1 Y2 HA2 hrr
            generalize xe.val = W5 at *
            clear xe
            have c2 := b.cell
            go_wp2_with fail
            clear c2
            refine (hops_p _ c k k2 0 q bb cut _ hn (HR.out.ext hE) HQ.out HBB.out).mono ?_
            rintro e w5 ⟨rfl, hx⟩
            replace b := b.ext hx; replace hE := hE.trans hx; have HA4 := Lib.hid (HA3.out.ext hx); clear hx HA3
            have c2 := b.cell
            go_wp2_with fail
            clear c2
            refine (hops_p _ c k2 k 1 q bb cut _ hn (HR.out.ext hE) (by rw [HEQ.out]; exact HQ.out) (by rw [HEQ.out]; exact HBB.out)).mono ?_
            rintro e w6 ⟨rfl, hx⟩
            replace b := b.ext hx; replace hE := hE.trans hx; have HA5 := Lib.hid (HA4.out.ext hx); clear hx HA4
            go_wp2_with fail
            go_roundw
            case rel => exact ⟨k2 + 1, by omega, by go_num, HA5.out, b, hE⟩
            case measure => simp [intOf]; omega
          · obtain rfl : k2 = cut.length := by omega
            go_wp2_with fail
            go_roundw
            case rel => exact ⟨k + 1, by omega, by go_num, ⟨c0, by omega, by first | rfl | go_num, by rw [HTS.out, HCUT.out, HCS.out, HCU.out]; rfl⟩, b, hE⟩
            case measure => simp [intOf]; omega
      · rw [hcut] at hcell HCS
        have HCUT := Lib.hid hcut; clear hcut
        go_wp2_with fail
        clear c2 hcell
        refine (reached_i (some ⟨bk, off, ix⟩) c k cut _ h3' h4' hlt (HR.out.ext hE)).mono ?_
        rintro e w3 ⟨B1, d1, rfl, ⟨rl, hrl, hrk⟩, hx⟩
        replace b := b.ext hx; replace hE := hE.trans hx
        have HA := Lib.hid hrl; have HAK := Lib.hid hrk
        clear hx hrl hrk
        go_wp2_with fail
        go_loopw [7] (fun i wr => ∃ k2 : Nat, k2 ≤ cut.length ∧ i = .int .i64 k2 ∧ Reads wr wr.heap.size 1 B1 cut.length (rl.map .bool) ∧ Boxed wr w.heap.size 24 (.slice (some ⟨bk, off, ix⟩) cut.length c) ∧ Ext w wr) (fun i _ => cut.length - (intOf i).toNat)
        case atStart => exact ⟨0, Nat.zero_le _, rfl, HA.out, b, hE⟩
        case round =>
          clear b hE HA
          obtain ⟨k2, hk2, rfl, hA, b, hE⟩ := hrel
          have HA := Lib.hid hA; clear hA
          by_cases hlt2 : k2 < cut.length
          · have c2 := b.cell
            go_wp2_with fail
            clear c2
            refine (reached_i (some ⟨bk, off, ix⟩) c k2 cut _ h3' h4' hlt2 (HR.out.ext hE)).mono ?_
            rintro e w4 ⟨B2, d2, rfl, ⟨rl2, hrl, hrk⟩, hx⟩
            replace b := b.ext hx; replace hE := hE.trans hx
            have HA2 := Lib.hid (HA.out.ext hx)
            obtain ⟨ad1, hA1, _, hc1⟩ := Reads.bool_at HA2.out hlt2
            obtain ⟨ad2, hA2, _, hc2⟩ := Reads.bool_at hrl hlt
            rw [HAK.out k2 hlt2, reach_sym hlt hlt2] at hc1
            rw [hrk k hlt] at hc2
            subst hA1 hA2
            clear hx hrl hrk HA
            obtain ⟨k1, o1, i1⟩ := ad1
            obtain ⟨k3, o2, i2⟩ := ad2
            obtain ⟨q, hq⟩ : ∃ q : Int, (((hopsI cut k k2 0).getD 0 : Nat) : Int) = q := ⟨_, rfl⟩
            obtain ⟨bb, hbb⟩ : ∃ bb : Bool, (hopsI cut k k2 0).isSome = bb := ⟨_, rfl⟩
            have heq : hopsI cut k2 k 1 = hopsI cut k k2 0 := by
              have e0 := hopsI_nat (d := 0) h3' h4' hlt hlt2 (.inl rfl)
              have e1 := hopsI_nat (d := 1) h3' h4' hlt2 hlt (.inr rfl)
              have := hops_back hlt hlt2
              rw [← e0, ← e1] at this; exact this.symm
            have HQ := Lib.hid hq; have HBB := Lib.hid hbb; have HEQ := Lib.hid heq; clear hq hbb heq
            have hqq : (bb != bb) = false := by cases bb <;> rfl
            generalize reachB cut k2 k = r0 at *
            have hrr : (r0 != r0) = false := by cases r0 <;> rfl
            have Y1 := ExtOf.cell hc1; have Y2 := ExtOf.cell hc2
            have p3 : (0 : Int) ≤ (k : Int) := by omega
            have p4 : (k : Int) < (cut.length : Int) := by omega
            have p5 : (0 : Int) ≤ (k2 : Int) := by omega
            have p6 : (k2 : Int) < (cut.length : Int) := by omega
            clear hc1 hc2
            go_wp2_with fail
            refine wp_region_ext_lit (by kernel_rfl) (by kernel_rfl) ?_
            repeat (go_big_quiet_step (fail))
            refine wpQuiet_nil ?_
            intro W5 hW
            obtain ⟨xe, rfl⟩ := hW
            replace b := b.ext xe.ext; replace hE := hE.trans xe.ext
            have HA3 := Lib.hid (HA2.out.ext xe.ext)
            clear Y1 Y2 HA2 hrr
            generalize xe.val = W5 at *
            clear xe
            have c2 := b.cell
            go_wp2_with fail
            clear c2
            refine (hops_p _ c k k2 0 q bb cut _ hn (HR.out.ext hE) HQ.out HBB.out).mono ?_
            rintro e w5 ⟨rfl, hx⟩
            replace b := b.ext hx; replace hE := hE.trans hx; have HA4 := Lib.hid (HA3.out.ext hx); clear hx HA3
            have c2 := b.cell
            go_wp2_with fail
            clear c2
            refine (hops_p _ c k2 k 1 q bb cut _ hn (HR.out.ext hE) (by rw [HEQ.out]; exact HQ.out) (by rw [HEQ.out]; exact HBB.out)).mono ?_
            rintro e w6 ⟨rfl, hx⟩
            replace b := b.ext hx; replace hE := hE.trans hx; have HA5 := Lib.hid (HA4.out.ext hx); clear hx HA4
            go_wp2_with fail
            go_roundw
            case rel => exact ⟨k2 + 1, by omega, by go_num, HA5.out, b, hE⟩
            case measure => simp [intOf]; omega
          · obtain rfl : k2 = cut.length := by omega
            go_wp2_with fail
            go_roundw
            case rel => exact ⟨k + 1, by omega, by go_num, ⟨c0 + 1, by omega, by first | rfl | go_num, by rw [HTS.out, HCUT.out, HCS.out, HCU.out]; rfl⟩, b, hE⟩
            case measure => simp [intOf]; omega
    · obtain rfl : k = cut.length := by omega
      rw [List.take_of_length_le (Nat.le_refl _)] at HCU
      have hpe := parts_eq h3'
      rw [HCU.out] at hpe
      have HPE := Lib.hid hpe; clear hpe
      go_wp2_with fail
      go_loopw [13, 14] (fun p i wr => ∃ k : Nat, k ≤ cut.length ∧ i = .int .i64 k ∧ (∃ p0 : Nat, p0 ≤ k ∧ p = .int .i64 p0 ∧ partsL cut k = p0) ∧ Boxed wr w.heap.size 24 (.slice A cut.length c) ∧ Ext w wr) (fun _ i _ => cut.length - (intOf i).toNat)
      case atStart => exact ⟨0, Nat.zero_le _, rfl, ⟨0, Nat.le_refl _, rfl, rfl⟩, b, hE⟩
      case round =>
        clear b hE
        obtain ⟨k, hk, rfl, ⟨p0, hp0, rfl, hpa⟩, b, hE⟩ := hrel
        have HPA := Lib.hid hpa; clear hpa
        by_cases hlt : k < cut.length
        · have c2 := b.cell
          have p1 : (0 : Int) ≤ (p0 : Int) := by omega
          have p2 : (p0 : Int) ≤ 100 := by omega
          go_wp2_with fail
          clear c2
          refine (reached_i A c k cut _ h3' h4' hlt (HR.out.ext hE)).mono ?_
          rintro e w3 ⟨B1, d1, rfl, ⟨rl, hrl, hrk⟩, hx⟩
          replace b := b.ext hx; replace hE := hE.trans hx
          have HA := Lib.hid hrl; have HAK := Lib.hid hrk
          clear hx hrl hrk
          go_wp2_with fail
          go_loopw [15, 17] (fun fi i wr => ∃ k2 : Nat, k2 ≤ k ∧ i = .int .i64 k2 ∧ (∃ b0 : Bool, fi = .bool b0 ∧ ((List.range k2).all fun q => !reachB cut k q) = b0) ∧ Reads wr wr.heap.size 1 B1 cut.length (rl.map .bool) ∧ Boxed wr w.heap.size 24 (.slice A cut.length c) ∧ Ext w wr) (fun _ i _ => k - (intOf i).toNat)
          case atStart => exact ⟨0, Nat.zero_le _, rfl, ⟨true, rfl, rfl⟩, HA.out, b, hE⟩
          case round =>
            clear b hE HA
            obtain ⟨k2, hk2, rfl, ⟨b0, rfl, hb0⟩, hA, b, hE⟩ := hrel
            have HA := Lib.hid hA; have HB0 := Lib.hid hb0; clear hA hb0
            by_cases hlt2 : k2 < k
            · have hlt3 : k2 < cut.length := by omega
              obtain ⟨ad1, hA1, _, hc1⟩ := Reads.bool_at HA.out hlt3
              rw [HAK.out k2 hlt3] at hc1
              subst hA1
              obtain ⟨k1, o1, i1⟩ := ad1
              obtain ⟨r0, hr0⟩ : ∃ r0, reachB cut k k2 = r0 := ⟨_, rfl⟩
              rw [hr0] at hc1
              have HNX : Hid (((List.range (k2 + 1)).all fun q => !reachB cut k q) = (b0 && !r0)) := Lib.hid (by rw [List.range_succ, List.all_append, HB0.out]; simp [hr0])
              clear hr0
              have p5 : (0 : Int) ≤ (k2 : Int) := by omega
              have p6 : (k2 : Int) < (cut.length : Int) := by omega
              cases b0 <;> cases r0
              all_goals
                go_wp2_with fail
                go_roundw
                case rel => exact ⟨k2 + 1, by omega, by go_num, ⟨_, rfl, HNX.out⟩, HA.out, b, hE⟩
                case measure => simp [intOf]; omega
            · obtain rfl : k2 = k := by omega
              have HF0 : Hid (firstB cut k2 = b0) := HB0
              have HPS := Lib.hid (partsL_succ cut k2)
              cases b0
              · go_wp2_with fail
                go_roundw
                case rel => exact ⟨k2 + 1, by omega, by go_num, ⟨p0, by omega, rfl, by rw [HPS.out, HF0.out, HPA.out]; rfl⟩, b, hE⟩
                case measure => simp [intOf]; omega
              · go_wp2_with fail
                go_roundw
                case rel => exact ⟨k2 + 1, by omega, by go_num, ⟨p0 + 1, by omega, by go_num, by rw [HPS.out, HF0.out, HPA.out]; rfl⟩, b, hE⟩
                case measure => simp [intOf]; omega
        · obtain rfl : k = cut.length := by omega
          have hfin : ((p0 : Int) == max (c0 : Int) 1) = true := by have := HPE.out; have := HPA.out; simp; omega
          go_wp2_with fail
          go_ret
          exact ⟨rfl, hE⟩
end Go.Proofs.Ytnicgmgihmfjbaa
