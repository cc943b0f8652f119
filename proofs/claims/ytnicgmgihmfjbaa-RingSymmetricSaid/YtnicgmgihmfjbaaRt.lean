/- Ring: the walk of RingWays. -/
import Derived.Test.YtnicgmgihmfjbaaRs
namespace Go.Proofs.Ytnicgmgihmfjbaa
open Go.RowKit Go.Shelf
open Rg (nodeAt link wl way Arr dist)

theorem hops_p (A : Option Addr) (c : Nat) (f t d q : Int) (b : Bool) (cut : List Bool) (w : World) (hn : cut.length ≤ 140737488351232) (hR : Reads w w.heap.size 1 A cut.length (cut.map .bool)) (hq : (((hopsI cut f t d).getD 0 : Nat) : Int) = q) (hb : (hopsI cut f t d).isSome = b) :
    Calls Try.prog 16 #[.agg #[.slice A cut.length c], .int .i64 f, .int .i64 t, .int .i64 d] w fun e w' => e = .returned (.tuple #[.int .i64 q, .bool b]) ∧ Ext w w' := by
  have := hops_any A c f t d cut w hn hR; rw [hopV_eq, hq, hb] at this; exact this
theorem rhops_p (A : Option Addr) (c : Nat) (f t d q : Int) (b : Bool) (cut : List Bool) (w : World) (hn : cut.length ≤ 140737488351232) (hR : Reads w w.heap.size 1 A cut.length (cut.map .bool)) (hq : (((hopsI cut f t d).getD 0 : Nat) : Int) = q) (hb : (hopsI cut f t d).isSome = b) :
    Calls Try.prog 22 #[.agg #[.slice A cut.length c], .int .i64 f, .int .i64 t, .int .i64 d] w fun e w' => e = .returned (.tuple #[.int .i64 q, .bool b]) ∧ Ext w w' := by
  have := rhops_any A c f t d cut w hn hR; rw [hopV_eq, hq, hb] at this; exact this

theorem reached_r (A : Option Addr) (c : Nat) (f : Int) (cut rl : List Bool) (rn : Nat) (w : World) (hn : cut.length ≤ 140737488351232) (hR : Reads w w.heap.size 1 A cut.length (cut.map .bool)) (h : reachL cut f = rl) (hl : rl.length = rn) :
    Calls Try.prog 17 #[.agg #[.slice A cut.length c], .int .i64 f] w fun e w' => ∃ B d, e = .returned (.slice B rn d) ∧ Reads w' w'.heap.size 1 B rn (rl.map .bool) ∧ Ext w w' := by
  subst h hl; exact reached_any A c f cut w hn hR
theorem rreached_r (A : Option Addr) (c : Nat) (f : Int) (cut rl : List Bool) (rn : Nat) (w : World) (hn : cut.length ≤ 140737488351232) (hR : Reads w w.heap.size 1 A cut.length (cut.map .bool)) (h : reachL cut f = rl) (hl : rl.length = rn) :
    Calls Try.prog 18 #[.agg #[.slice A cut.length c], .int .i64 f] w fun e w' => ∃ B d, e = .returned (.slice B rn d) ∧ Reads w' w'.heap.size 1 B rn (rl.map .bool) ∧ Ext w w' := by
  subst h hl; exact rreached_any A c f cut w hn hR
theorem same_n (v1 v2 : Value) (l : List Arr) (w : World) (h1 : RArr w v1 l) (h2 : RArr w v2 l) (hl : l.length ≤ 100000) :
    Calls Try.prog 9 #[v1, v2] w fun e w' => e = .returned (.bool true) ∧ Ext w w' := same_self v1 v2 l w h1 h2 hl

set_option maxRecDepth 100000 in
set_option maxHeartbeats 8000000 in
theorem ways_law (A : Option Addr) (c : Nat) (cut : List Bool) (f t : Int) (w : World) (hn0 : cut.length ≤ 9223372036854775807) (hR : Reads w w.heap.size 1 A cut.length (cut.map .bool)) :
    Calls Try.prog 6 #[.agg #[.slice A cut.length c], .int .i64 f, .int .i64 t] w fun e w' => e = .returned (.bool true) ∧ Ext w w' := by
  obtain ⟨b, hE⟩ := Boxed.start w 24 (.slice A cut.length c)
  by_cases hbig : 100 < cut.length
  · have hd : decide (100 < cut.length) = true := by simpa using hbig
    go_enter Try.func6, Try.ntmps6
    go_wp2_with fail
    generalize w.alloc (.cells #[.slice A cut.length c] 24) = W at *
    refine (known_any _).mono ?_
    rintro e w1 ⟨rfl, hx⟩
    replace b := b.ext hx; replace hE := hE.trans hx; clear hx W
    have c2 := b.cell
    go_wp2_with fail
    go_ret
    exact ⟨rfl, hE⟩
  have hd : decide (100 < cut.length) = false := by simpa using hbig
  have hn : cut.length ≤ 140737488351232 := by omega
  have HR := Lib.hid hR; clear hR
  go_enter Try.func6, Try.ntmps6
  go_wp2_with fail
  generalize w.alloc (.cells #[.slice A cut.length c] 24) = W at *
  refine (known_any _).mono ?_
  rintro e w1 ⟨rfl, hx⟩
  replace b := b.ext hx; replace hE := hE.trans hx; clear hx W
  have c2 := b.cell
  go_wp2_with fail
  clear hd
  have Y2 := ExtOf.cell c2
  obtain ⟨rl, hrl⟩ : ∃ rl, reachL cut f = rl := ⟨_, rfl⟩
  obtain ⟨rn, hrn⟩ : ∃ rn, rl.length = rn := ⟨_, rfl⟩
  have hrn40 : rn ≤ 40 := by
    subst hrl; rw [← hrn]; unfold reachL; split
    · rename_i h; have := hasB_iff.1 h; simp; omega
    · simp
  have HL := Lib.hid (And.intro hrl hrn); clear hrl hrn
  refine wp_region_ordE 8 [(true, 0), (true, 1), (true, 3), (true, 5), (false, 2), (false, 4), (false, 6), (true, 7)] (by kernel_rfl) (by kernel_rfl) ?_
  refine wpOrdT_quiet [0, 1, 3, 5] [(false, 2), (false, 4), (false, 6), (true, 7)] _ (by kernel_rfl) ?_
  simp only [nthOps, nthOp, List.cons_append, List.nil_append]
  repeat (go_big_quiet_step (fail))
  refine wpQuiet_nil ?_
  have hB_ : Ext w1 w1.drew := (Ext.refl _).drew
  clear c2 Y2
  refine wpOrdT_act 2 [(false, 4), (false, 6), (true, 7)] (by kernel_rfl) ?_
  intro K hK
  simp only [nthOp]
  go_wp2_with fail
  refine (reached_r A c f cut rl rn _ hn (HR.out.ext (hE.trans hB_)) HL.out.1 HL.out.2).mono ?_
  rintro e w2 ⟨B1, d1, rfl, hr1, hx⟩
  replace hB_ := hB_.trans hx
  have HR1 := Lib.hid hr1; clear hr1 hx
  go_wp2
  refine hK _ _ ⟨⟨_, hB_⟩, rfl⟩ ?_
  clear hK K
  refine wpOrdT_act 4 [(false, 6), (true, 7)] (by kernel_rfl) ?_
  intro K hK
  simp only [nthOp]
  go_wp2_with fail
  refine (to_any _ _ _ _).mono ?_
  rintro e w3 ⟨rfl, hx⟩
  replace hB_ := hB_.trans hx
  have HR2 := Lib.hid (HR1.out.ext hx); clear hx HR1
  go_wp2
  refine hK _ _ ⟨⟨_, hB_⟩, rfl⟩ ?_
  clear hK K
  refine wpOrdT_act 6 [(true, 7)] (by kernel_rfl) ?_
  intro K hK
  simp only [nthOp]
  go_wp2_with fail
  refine (rreached_r A c f cut rl rn _ hn (HR.out.ext (hE.trans hB_)) HL.out.1 HL.out.2).mono ?_
  rintro e w4 ⟨B2, d2, rfl, hr2, hx⟩
  replace hB_ := hB_.trans hx
  have HA := Lib.hid (HR2.out.ext hx); have HB := Lib.hid hr2; clear hr2 hx HR2
  go_wp2
  refine hK _ _ ⟨⟨_, hB_⟩, rfl⟩ ?_
  clear hK K
  refine wpOrdT_quiet [7] [] _ (by kernel_rfl) ?_
  simp only [nthOps, nthOp, List.cons_append, List.nil_append]
  repeat (go_big_quiet_step (fail))
  refine wpQuiet_nil ?_
  simp only [wpOrdT, List.drop_succ_cons, List.drop_zero]
  replace b := b.ext hB_; replace hE := hE.trans hB_
  clear hB_ w3
  go_wp2_with fail
  have c2 := b.cell
  have Y2 := ExtOf.cell c2
  have hck : ∃ z, ckI cut.length = z := ⟨_, rfl⟩
  obtain ⟨z, hz⟩ := hck
  have HZ := Lib.hid hz; clear hz
  refine wp_region_ordN [(true, 0), (true, 2), (false, 1), (false, 3), (false, 4), (true, 5), (true, 6), (true, 7), (true, 8), (true, 9), (true, 10), (true, 11), (true, 12), (true, 13), (true, 14), (true, 15), (true, 17), (true, 19), (false, 16), (false, 18), (false, 20), (false, 21), (true, 22), (true, 23)] (by kernel_rfl) (by kernel_rfl) ?_
  refine wpOrd_quiet [0, 2] [(false, 1), (false, 3), (false, 4), (true, 5), (true, 6), (true, 7), (true, 8), (true, 9), (true, 10), (true, 11), (true, 12), (true, 13), (true, 14), (true, 15), (true, 17), (true, 19), (false, 16), (false, 18), (false, 20), (false, 21), (true, 22), (true, 23)] _ (by kernel_rfl) ?_
  simp only [nthOps, nthOp, List.cons_append, List.nil_append]
  repeat (go_big_quiet_step (fail))
  refine wpQuiet_nil ?_
  have hB_ : Ext w4 w4.drew := (Ext.refl _).drew
  refine wpOrd_act 1 [(false, 3), (false, 4), (true, 5), (true, 6), (true, 7), (true, 8), (true, 9), (true, 10), (true, 11), (true, 12), (true, 13), (true, 14), (true, 15), (true, 17), (true, 19), (false, 16), (false, 18), (false, 20), (false, 21), (true, 22), (true, 23)] (by kernel_rfl) ?_
  intro K hK
  simp only [nthOp]
  go_wp2_with fail
  refine (check_v _ _ _ _ _ hn HZ.out).mono ?_
  rintro e w5 ⟨rfl, hx⟩
  replace hB_ := hB_.trans hx; clear hx
  go_wp2
  refine hK _ _ ⟨⟨_, hB_⟩, rfl⟩ ?_
  clear hK K
  refine wpOrd_act 3 [(false, 4), (true, 5), (true, 6), (true, 7), (true, 8), (true, 9), (true, 10), (true, 11), (true, 12), (true, 13), (true, 14), (true, 15), (true, 17), (true, 19), (false, 16), (false, 18), (false, 20), (false, 21), (true, 22), (true, 23)] (by kernel_rfl) ?_
  intro K hK
  simp only [nthOp]
  go_wp2_with fail
  refine (to_any _ _ _ _).mono ?_
  rintro e w6 ⟨rfl, hx⟩
  replace hB_ := hB_.trans hx; clear hx
  go_wp2
  refine hK _ _ ⟨⟨_, hB_⟩, rfl⟩ ?_
  clear hK K
  refine wpOrd_act 4 [(true, 5), (true, 6), (true, 7), (true, 8), (true, 9), (true, 10), (true, 11), (true, 12), (true, 13), (true, 14), (true, 15), (true, 17), (true, 19), (false, 16), (false, 18), (false, 20), (false, 21), (true, 22), (true, 23)] (by kernel_rfl) ?_
  intro K hK
  simp only [nthOp]
  go_wp2_with fail
  refine (rcheck_v _ _ _ _ _ hn HZ.out).mono ?_
  rintro e w7 ⟨rfl, hx⟩
  replace hB_ := hB_.trans hx; clear hx
  go_wp2
  refine hK _ _ ⟨⟨_, hB_⟩, rfl⟩ ?_
  clear hK K
  refine wpOrd_quiet [5, 6, 7, 8, 9, 10, 11, 12, 13, 14, 15, 17, 19] [(false, 16), (false, 18), (false, 20), (false, 21), (true, 22), (true, 23)] _ (by kernel_rfl) ?_
  simp only [nthOps, nthOp, List.cons_append, List.nil_append]
  repeat (go_big_quiet_step (fail))
  refine wpQuiet_nil ?_
  refine wpOrd_act 16 [(false, 18), (false, 20), (false, 21), (true, 22), (true, 23)] (by kernel_rfl) ?_
  intro K hK
  simp only [nthOp]
  go_wp2_with fail
  refine (arrivals_any A c f cut _ hn (HR.out.ext (hE.trans hB_))).mono ?_
  rintro e w8 ⟨v1, rfl, hr1, hx⟩
  replace hB_ := hB_.trans hx
  have HV1 := Lib.hid hr1; clear hx hr1
  go_wp2
  refine hK _ _ ⟨⟨_, hB_⟩, rfl⟩ ?_
  clear hK K
  refine wpOrd_act 18 [(false, 20), (false, 21), (true, 22), (true, 23)] (by kernel_rfl) ?_
  intro K hK
  simp only [nthOp]
  go_wp2_with fail
  refine (to_any _ _ _ _).mono ?_
  rintro e w9 ⟨rfl, hx⟩
  replace hB_ := hB_.trans hx
  have HV2 := Lib.hid (HV1.out.ext hx); clear hx HV1
  go_wp2
  refine hK _ _ ⟨⟨_, hB_⟩, rfl⟩ ?_
  clear hK K
  refine wpOrd_act 20 [(false, 21), (true, 22), (true, 23)] (by kernel_rfl) ?_
  intro K hK
  simp only [nthOp]
  go_wp2_with fail
  refine (rarrivals_any A c f cut _ hn (HR.out.ext (hE.trans hB_))).mono ?_
  rintro e w10 ⟨v2, rfl, hr2, hx⟩
  replace hB_ := hB_.trans hx
  have HV3 := Lib.hid (HV2.out.ext hx); have HV4 := Lib.hid hr2; clear hx hr2 HV2
  go_wp2
  refine hK _ _ ⟨⟨_, hB_⟩, rfl⟩ ?_
  clear hK K
  refine wpOrd_act 21 [(true, 22), (true, 23)] (by kernel_rfl) ?_
  intro K hK
  simp only [nthOp]
  go_wp2_with fail
  refine (same_n v1 v2 _ _ HV3.out HV4.out run_len_le).mono ?_
  rintro e w11 ⟨rfl, hx⟩
  replace hB_ := hB_.trans hx; clear hx HV3 HV4
  go_wp2
  refine hK _ _ ⟨⟨_, hB_⟩, rfl⟩ ?_
  clear hK K
  refine wpOrd_quiet [22, 23] [] _ (by kernel_rfl) ?_
  simp only [nthOps, nthOp, List.cons_append, List.nil_append]
  repeat (go_big_quiet_step (fail))
  refine wpQuiet_nil ?_
  simp only [wpOrd]
  clear c2 Y2
  replace b := b.ext hB_
  have HA2 := Lib.hid (HA.out.ext hB_); have HB2 := Lib.hid (HB.out.ext hB_)
  replace hE := hE.trans hB_
  clear hB_ HA HB w10 w9 w8 w7 w6 w5
  go_wp2_with fail
  go_loopw [9] (fun i wr => ∃ k : Nat, k ≤ rn ∧ i = .int .i64 k ∧ Reads wr wr.heap.size 1 B1 rn (rl.map .bool) ∧ Reads wr wr.heap.size 1 B2 rn (rl.map .bool) ∧ Boxed wr w.heap.size 24 (.slice A cut.length c) ∧ Ext w wr) (fun i _ => rn - (intOf i).toNat)
  case atStart => exact ⟨0, Nat.zero_le _, rfl, HA2.out, HB2.out, b, hE⟩
  case round =>
    clear HA2 HB2 b hE
    obtain ⟨k, hk, rfl, hA, hB, b, hE⟩ := hrel
    have HA := Lib.hid hA; have HB := Lib.hid hB; clear hA hB
    by_cases hlt : k < rn
    · obtain ⟨ad1, hA1, _, hc1⟩ := Reads.bool_at HA.out hlt
      obtain ⟨ad2, hA2, _, hc2⟩ := Reads.bool_at HB.out hlt
      subst hA1 hA2
      obtain ⟨k1, o1, i1⟩ := ad1
      obtain ⟨k2, o2, i2⟩ := ad2
      generalize rl.getD k false = q0 at *
      have p1 : (0 : Int) ≤ (k : Int) := by omega
      have p2 : (k : Int) < (rn : Int) := by omega
      have hqq : (q0 != q0) = false := by cases q0 <;> rfl
      go_wp2_with fail
      go_region
      go_wp2_with fail
      go_roundw
      case rel => exact ⟨k + 1, by omega, by go_num, HA.out.ext (Ext.refl _).drew, HB.out.ext (Ext.refl _).drew, b.ext (Ext.refl _).drew, hE.trans (Ext.refl _).drew⟩
      case measure => simp [intOf]; omega
    · obtain rfl : k = rn := by omega
      clear HA HB
      go_wp2_with fail
      go_loopw [10] (fun i wr => ∃ k' : Nat, k' ≤ 4 ∧ i = .int .i64 ((k' : Int) - 1) ∧ Boxed wr w.heap.size 24 (.slice A cut.length c) ∧ Ext w wr) (fun i _ => (3 - intOf i).toNat)
      case atStart => exact ⟨0, by omega, rfl, b, hE⟩
      case round =>
        clear b hE
        obtain ⟨k', hk', rfl, b, hE⟩ := hrel
        obtain ⟨dd, hdd⟩ : ∃ dd : Int, (k' : Int) - 1 = dd := ⟨_, rfl⟩
        rw [hdd]
        have hdd1 : -1 ≤ dd := by omega
        have hdd2 : dd ≤ 3 := by omega
        have HDD := Lib.hid hdd; clear hdd
        have c2 := b.cell
        by_cases hlt3 : dd < 3
        · obtain ⟨q, hq⟩ : ∃ q : Int, (((hopsI cut f t dd).getD 0 : Nat) : Int) = q := ⟨_, rfl⟩
          obtain ⟨bb, hbb⟩ : ∃ bb : Bool, (hopsI cut f t dd).isSome = bb := ⟨_, rfl⟩
          have HQ := Lib.hid hq; have HBB := Lib.hid hbb; clear hq hbb
          have hqq : (bb != bb) = false := by cases bb <;> rfl
          go_wp2_with fail
          clear c2
          refine (hops_p A c f t dd q bb cut _ hn (HR.out.ext hE) HQ.out HBB.out).mono ?_
          rintro e w5 ⟨rfl, hx⟩
          replace b := b.ext hx; replace hE := hE.trans hx; clear hx
          have c2 := b.cell
          go_wp2_with fail
          clear c2
          refine (to_any _ _ _ _).mono ?_
          rintro e w6 ⟨rfl, hx⟩
          replace b := b.ext hx; replace hE := hE.trans hx; clear hx
          go_wp2_with fail
          refine (rhops_p A c f t dd q bb cut _ hn (HR.out.ext hE) HQ.out HBB.out).mono ?_
          rintro e w7 ⟨rfl, hx⟩
          replace b := b.ext hx; replace hE := hE.trans hx; clear hx
          go_wp2_with fail
          go_roundw
          case rel => exact ⟨k' + 1, by have := HDD.out; omega, by congr 1; have := HDD.out; omega, b, hE⟩
          case measure => simp [intOf]; omega
        · go_wp2_with fail
          go_ret
          exact ⟨rfl, hE⟩
end Go.Proofs.Ytnicgmgihmfjbaa
