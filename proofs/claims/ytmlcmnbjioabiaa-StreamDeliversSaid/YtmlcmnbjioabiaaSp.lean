/- Split, with the place of its frames: a new block, and their samples in blocks behind it. -/
import Derived.Test.YtmlcmnbjioabiaaSo
namespace Go.Proofs.Ytmlcmnbjioabiaa
open Go.RowKit Go.ChangeShapes Go.WideShapes Go.ChangeAt Go.Joins Go.Deep

def SplitOwn (unit step : Int) (sy : Bool) (ch : List (List Int)) (w : World) (e : Ending) (w' : World) : Prop :=
  Ext w w' ∧ ((splitErr unit step sy ch 12 0 = 0 ∧ ∃ c, ∃ rows : List (List Value), e = .returned (.tuple #[.slice (some ⟨w.heap.size, 0, none⟩) 12 c, .int .i64 0]) ∧ rows.length = 12 ∧ (∀ j r, rows[j]? = some r → FrOwn w' w.heap.size (splitFr unit step sy ch j) r) ∧ Blk w' w.heap.size 24 rows.flatten.toArray) ∨
    (splitErr unit step sy ch 12 0 ≠ 0 ∧ e = .returned (.tuple #[.slice none 0 0, .int .i64 (splitErr unit step sy ch 12 0)])))

set_option maxHeartbeats 1000000 in
theorem split_own (unit step : Int) (sy : Bool) (A : Option Addr) (n c : Nat) (ch : List (List Int)) (w : World) (hch : RRows w A n ch) (h1 : btw step 0 1099511627776 = true) (h2 : btw n 1 8 = true) (h3 : ∀ r ∈ ch, r.length = 12) :
    Calls Try.prog 16 #[.int .i64 unit, .int .i64 step, .bool sy, .slice A n c] w (SplitOwn unit step sy ch w) := by
  have hn := btw_iff.1 h2
  have hn1 : 1 ≤ n := by omega
  have hn8 : n ≤ 8 := by omega
  clear hn
  have HCH := Lib.hid hch; clear hch
  have H3 := Lib.hid h3; clear h3
  have hmk := hmk12
  obtain ⟨i0, hi0, hz0, hz1, hz2⟩ := info_parts int_info
  have hmk2 := fun W => run_make (P := Try.prog) W 22 3 i0 (.int .i64 0) Try.underlying22 hi0 hz0 .i64 .i64 (n : Int) (n : Int) (by omega) (by omega) (by rw [hz2]; omega) (by omega)
  go_enter Try.func16, Try.ntmps16
  go_wp2_with (go_at_call 26; refine (between_any _ _ _ _).mono ?_; rintro e w' ⟨rfl, rfl⟩)
  go_loop [27] (fun i => ∃ k : Nat, k ≤ n ∧ i = .int .i64 k) (fun i => n - (intOf i).toNat)
  case atStart => exact ⟨0, Nat.zero_le _, rfl⟩
  case round =>
    obtain ⟨k, hk, rfl⟩ := hrel
    by_cases hlt : k < n
    · obtain ⟨ad, r, Ai, ni, ci, rfl, hr, hc, hR, hni⟩ := HCH.out.at_ hlt
      have hn12 : ni = 12 := by have := hR.len; rw [← this]; exact H3.out r (List.mem_of_getElem? hr)
      subst hn12
      have HR := Lib.hid hr; clear hr
      go_wp2_with fail
      go_round
      case rel => exact ⟨k + 1, by omega, by go_num⟩
      case measure => simp [intOf]; omega
    · go_wp2_with fail
      go_loopw [38] (fun i wr => ∃ k : Nat, k ≤ 12 ∧ i = .int .i64 k ∧ ∃ rows : List (List Value), rows.length = k ∧ (∀ j r, rows[j]? = some r → FrOwn wr w.heap.size (splitFr unit step sy ch j) r) ∧ Blk wr w.heap.size 24 (rows.flatten ++ zfs (12 - k)).toArray ∧ Ext w wr ∧ splitErr unit step sy ch 12 0 = splitErr unit step sy ch (12 - k) k) (fun i _ => 12 - (intOf i).toNat)
      case atStart => exact ⟨0, by omega, rfl, [], rfl, by simp, by simpa using Blk.new w 24 _, Ext.new _ _, rfl⟩
      case round =>
        obtain ⟨k, hk, rfl, rows, hrl, hrows, hblk, hext, herr⟩ := hrel
        have HERR := Lib.hid herr; clear herr
        by_cases hlt2 : k < 12
        · go_wp2_with fail
          refine wp_region_tame 13 (fun i => i == 3 || i == 7 || i == 10 || i == 12) (phiSplit (countF step k) n) (phiSplit_stab _ _) (by kernel_rfl) (by kernel_rfl) ?_
          simp only [List.take_succ_cons, List.take_zero, List.drop_succ_cons, List.drop_zero]
          refine wpT_quiet 3 (by rfl) (by kernel_rfl) ?_
          simp only [List.take_succ_cons, List.take_zero, List.drop_succ_cons, List.drop_zero]
          repeat (go_big_quiet_step (fail))
          refine wpQuiet_nil ?_
          refine wpT_eff (by rfl) (by rfl) (by rfl) ?_ ?_
          · intro W hK
            go_simp
            exact ⟨rfl, (count_any _ _ _).mono fun e w' ⟨he, hw⟩ => ⟨_, he, hw ▸ Ext.refl _, rfl⟩⟩
          intro v lo3 hi3 hr
          obtain rfl : v = _ := hr.elim fun _ h => h.get
          clear hr
          try simp only [Act.put, List.setIfInBounds_toArray, List.set_cons_succ, List.set_cons_zero]
          refine wpT_quiet 3 (by rfl) (by kernel_rfl) ?_
          simp only [List.take_succ_cons, List.take_zero, List.drop_succ_cons, List.drop_zero]
          repeat (go_big_quiet_step (fail))
          refine wpQuiet_nil ?_
          refine wpT_eff (by rfl) (by rfl) (by rfl) ?_ ?_
          · intro W hK
            go_simp
            rw [madeCells_one]
            exact ⟨Ext.new _ _, rfl, by simp, Blk.new _ _ _⟩
          intro v lo7 hi7 hr
          obtain ⟨W7, hW7⟩ := hr
          obtain ⟨rfl, hl7, _⟩ : phiSplit (countF step k) n 7 lo7 hi7 v W7 := hW7.get
          clear hW7
          try simp only [Act.put, List.setIfInBounds_toArray, List.set_cons_succ, List.set_cons_zero]
          refine wpT_quiet 2 (by rfl) (by kernel_rfl) ?_
          simp only [List.take_succ_cons, List.take_zero, List.drop_succ_cons, List.drop_zero]
          repeat (go_big_quiet_step (fail))
          refine wpQuiet_nil ?_
          refine wpT_eff (by rfl) (by rfl) (by rfl) ?_ ?_
          · intro W hK
            go_simp
            rw [madeCells_one]
            exact ⟨Ext.new _ _, rfl, by simp, Blk.new _ _ _⟩
          intro v lo10 hi10 hr
          obtain ⟨W10, hW10⟩ := hr
          obtain ⟨rfl, hl10, _⟩ : phiSplit (countF step k) n 10 lo10 hi10 v W10 := hW10.get
          clear hW10
          try simp only [Act.put, List.setIfInBounds_toArray, List.set_cons_succ, List.set_cons_zero]
          refine wpT_quiet 1 (by rfl) (by kernel_rfl) ?_
          simp only [List.take_succ_cons, List.take_zero, List.drop_succ_cons, List.drop_zero]
          repeat (go_big_quiet_step (fail))
          refine wpQuiet_nil ?_
          refine wpT_eff (by rfl) (by rfl) (by rfl) ?_ ?_
          · intro W hK
            go_simp
            exact ⟨Ext.new _ _, rfl, by simp, Blk.new _ _ _⟩
          intro v lo12 hi12 hr
          obtain ⟨W12, hW12⟩ := hr
          obtain ⟨rfl, hl12, _⟩ : phiSplit (countF step k) n 12 lo12 hi12 v W12 := hW12.get
          clear hW12
          try simp only [Act.put, List.setIfInBounds_toArray, List.set_cons_succ, List.set_cons_zero]
          refine wpT_nil ?_
          intro w1 hK
          have b7 : Blk w1 lo7 3 _ := (hK.at_ 7 (by rfl)).2.2
          have b10 : Blk w1 lo10 3 _ := (hK.at_ 10 (by rfl)).2.2
          have b12 : Blk w1 lo12 24 _ := (hK.at_ 12 (by rfl)).2.2
          have e1 : Ext wr w1 := hK.ext
          have n1 : lo7 ≠ lo10 := by rcases hK.disj 7 10 _ _ (by omega) (by rfl) (by rfl) with h | h <;> (simp only at h; omega)
          have n2 : lo7 ≠ lo12 := by rcases hK.disj 7 12 _ _ (by omega) (by rfl) (by rfl) with h | h <;> (simp only at h; omega)
          have n3 : lo10 ≠ lo12 := by rcases hK.disj 10 12 _ _ (by omega) (by rfl) (by rfl) with h | h <;> (simp only at h; omega)
          have g7 : wr.heap.size ≤ lo7 := hK.low 7 _ (by rfl)
          have g10 : wr.heap.size ≤ lo10 := hK.low 10 _ (by rfl)
          have g12 : wr.heap.size ≤ lo12 := hK.low 12 _ (by rfl)
          clear hK
          have c12 := b12.cell
          have f12 := b12.frozen
          obtain ⟨wo, rfl⟩ : ∃ wo : World, wo = wr := ⟨_, rfl⟩
          go_wp2_with fail
          clear c12 f12
          go_loopw [55] (fun i wr => ∃ cc : Nat, cc ≤ n ∧ i = .int .i64 cc ∧ Blk wr lo7 3 ((fillRow ch k cc n).map (.int .i64)).toArray ∧ Blk wr lo10 3 (List.replicate n (.int .i64 0)).toArray ∧
            Blk wr lo12 24 #[.int .i64 unit, .int .i64 (countF step k), .bool sy, .slice (some ⟨lo7, 0, none⟩) n n, .slice (some ⟨lo10, 0, none⟩) n n] ∧ ∃ W2, Only lo12 w1 W2 ∧ Only lo7 W2 wr) (fun i _ => n - (intOf i).toNat)
          case atStart =>
            refine ⟨0, Nat.zero_le _, rfl, ?_, ?_, ?_, _, ((((Only.set w1 lo12 0 _).trans (Only.set _ lo12 1 _)).trans (Only.set _ lo12 2 _)).trans (Only.set _ lo12 3 _)).trans (Only.set _ lo12 4 _), Only.refl _ _⟩
            · rw [fillRow_zero]
              exact (((((Only.set w1 lo12 0 (.int .i64 unit)).trans (Only.set _ lo12 1 _)).trans (Only.set _ lo12 2 _)).trans (Only.set _ lo12 3 _)).trans (Only.set _ lo12 4 _)).blk b7 n2
            · exact (((((Only.set w1 lo12 0 (.int .i64 unit)).trans (Only.set _ lo12 1 _)).trans (Only.set _ lo12 2 _)).trans (Only.set _ lo12 3 _)).trans (Only.set _ lo12 4 _)).blk b10 n3
            · exact ((((b12.set_ 0 _).set_ 1 _).set_ 2 _).set_ 3 _).set_ 4 _
          case round =>
            obtain ⟨cc, hcc, rfl, k7, k10, k12, W2, o1, o2⟩ := hrel
            have hew : Ext w wr := o2.ext (o1.ext (hext.trans e1) (Nat.le_trans hext.size g12)) (Nat.le_trans hext.size g7)
            by_cases hlt3 : cc < n
            · obtain ⟨ad, r, Ai, ni, ci, rfl, hr, hc, hR, hni⟩ := (HCH.out.ext hew).at_ hlt3
              have hn12 : ni = 12 := by have := hR.len; rw [← this]; exact H3.out r (List.mem_of_getElem? hr)
              subst hn12
              obtain ⟨bd, x, rfl, _, hx, hcx⟩ := hR.int_at hlt2
              have HR := Lib.hid hr; clear hr
              have HX := Lib.hid hx; clear hx
              have HK7 := Lib.hid k7; clear k7
              go_wp2_with fail
              have p1 := ExtOf.blk k12
              have p2 := ExtOf.cell hcx
              have q1 : (0 : Int) ≤ (k : Int) := by omega
              have q2 : (k : Int) < 12 := by omega
              refine wp_region_reads 7 (by kernel_rfl) (by kernel_rfl) (by kernel_rfl) ?_
              simp only [List.take_succ_cons, List.take_zero, List.drop_succ_cons, List.drop_zero]
              repeat (go_big_quiet_step (fail))
              refine wpQuiet_nil ?_
              intro W3 hW3
              have k7' := HK7.out.ext hW3
              obtain ⟨old, c7⟩ := k7'.cell_some (i := cc) (by simp [fillRow_len HCH.out.1 hcc]; omega)
              have f7 := k7'.frozen cc
              go_wp2_with fail
              go_roundw
              case rel =>
                refine ⟨cc + 1, by omega, by go_num, ?_, (Only.set _ _ _ _).blk (k10.ext hW3) (Ne.symm n1), (Only.set _ _ _ _).blk (k12.ext hW3) (Ne.symm n2), W2, o1, (o2.trans (Only.of_ext hW3)).trans (Only.set _ _ _ _)⟩
                have hk := k7'.setL (i := cc) (.int .i64 x)
                rw [← List.map_set, fillRow_set HCH.out.1 hlt3 HR.out HX.out] at hk
                exact hk
              case measure => simp [intOf]; omega
            · obtain rfl : cc = n := by omega
              rw [fillRow_all HCH.out.1] at k7
              have HK7 := Lib.hid k7; clear k7
              have c12 := k12.cell
              have hfr : RFr wr (splitFr unit step sy ch k) (some ⟨lo7, 0, none⟩) (some ⟨lo10, 0, none⟩) cc cc cc cc := ⟨by have := HK7.out.reads (n := cc) (size := 1) (by simp [splitRow, HCH.out.1]); simpa [splitFr] using this, by have := k10.reads (n := cc) (size := 1) (by simp); simpa [splitFr, HCH.out.1] using this, by omega, by omega⟩
              have HFR := Lib.hid hfr; clear hfr
              have HB := Lib.hid hblk; clear hblk
              have HROWS := Lib.hid hrows; clear hrows
              have HRL := Lib.hid hrl; clear hrl
              go_wp2_with fail
              refine (check_raw unit (countF step k) sy (splitRow ch k) (List.replicate ch.length 0) _ _ _ _ _ _ _ HFR.out).mono ?_
              rintro e w4 ⟨rfl, hb4⟩
              have hck : checkF ⟨unit, countF step k, sy, splitRow ch k, List.replicate ch.length 0⟩ = checkF (splitFr unit step sy ch k) := rfl
              rw [hck]
              clear hck
              generalize hX : checkF (splitFr unit step sy ch k) = X
              have HX := Lib.hid hX; clear hX
              by_cases hX0 : X = 0
              · subst hX0
                have k12' := k12.ext hb4
                have c12' := k12'.cell
                have l1 : w.heap.size < wo.heap.size := HB.out.lt
                have hb5 : Blk w4 w.heap.size 24 (rows.flatten ++ zfs (12 - k)).toArray := (o2.blk (o1.blk (HB.out.ext e1) (by omega)) (by omega)).ext hb4
                have hfl : (rows.flatten ++ zfs (12 - k)).length = 60 := by rw [List.length_append, zfs_len, rows_len HRL.out (fun r hr => FrOwn.len5 HROWS.out hr)]; omega
                obtain ⟨v0, d0⟩ := hb5.cell_some (i := k * 5) (by omega)
                obtain ⟨v1, d1⟩ := hb5.cell_some (i := k * 5 + 1) (by omega)
                obtain ⟨v2, d2⟩ := hb5.cell_some (i := k * 5 + 2) (by omega)
                obtain ⟨v3, d3⟩ := hb5.cell_some (i := k * 5 + 3) (by omega)
                obtain ⟨v4, d4⟩ := hb5.cell_some (i := k * 5 + 4) (by omega)
                have f5 := hb5.frozen
                have HB5 := Lib.hid hb5; clear hb5
                clear hfl
                go_wp2_with fail
                go_roundw
                case rel =>
                  refine ⟨k + 1, by omega, by go_num, rows ++ [[.int .i64 unit, .int .i64 (countF step k), .bool sy, .slice (some ⟨lo7, 0, none⟩) cc cc, .slice (some ⟨lo10, 0, none⟩) cc cc]], by simp [HRL.out], ?_, ?_, ?_, ?_⟩
                  · intro j r hj
                    have s5 : Only w.heap.size w4 _ := ((((Only.set w4 w.heap.size (k * 5) (.int .i64 unit)).trans (Only.set _ w.heap.size (k * 5 + 1) (.int .i64 (countF step k)))).trans (Only.set _ w.heap.size (k * 5 + 2) (.bool sy))).trans (Only.set _ w.heap.size (k * 5 + 3) (.slice (some ⟨lo7, 0, none⟩) cc cc))).trans (Only.set _ w.heap.size (k * 5 + 4) (.slice (some ⟨lo10, 0, none⟩) cc cc))
                    have sz1 : wo.heap.size ≤ w4.heap.size := Nat.le_trans e1.size (Nat.le_trans o1.size (Nat.le_trans o2.size hb4.size))
                    rw [List.getElem?_append] at hj
                    split at hj
                    · refine (HROWS.out j r hj).blocks (fun q hq1 hq2 => ?_) (Nat.le_trans sz1 s5.size)
                      have z1 := e1.size
                      have z2 := o1.size
                      have z3 := o2.size
                      exact (s5.block q (by omega) (fun e => by injection e with e; omega)).trans ((hb4.block q (by omega)).trans ((o2.block q (by omega) (fun e => by injection e with e; omega)).trans ((o1.block q (by omega) (fun e => by injection e with e; omega)).trans (e1.block q hq2))))
                    · have hj' : j = k := by
                        have := (List.getElem?_eq_some_iff.1 hj).1
                        have h0 := HRL.out
                        simp at this; omega
                      subst hj'
                      simp only [HRL.out, Nat.sub_self, List.getElem?_cons_zero, Option.some.injEq] at hj
                      subst hj
                      have a1 : w.heap.size < lo7 := by omega
                      have a2 : w.heap.size < lo10 := by omega
                      have fr5 : RFr w4 (splitFr unit step sy ch j) (some ⟨lo7, 0, none⟩) (some ⟨lo10, 0, none⟩) cc cc cc cc := HFR.out.ext hb4
                      have b7' := (HK7.out.ext hb4).lt
                      have b10' := (k10.ext hb4).lt
                      refine ⟨lo7, lo10, cc, cc, cc, cc, rfl, ⟨s5.reads fr5.hS (fun ad e => by injection e with e; subst e; show lo7 ≠ w.heap.size; omega), s5.reads fr5.hQ (fun ad e => by injection e with e; subst e; show lo10 ≠ w.heap.size; omega), fr5.hn, fr5.hm⟩, a1, a2, Nat.lt_of_lt_of_le b7' s5.size, Nat.lt_of_lt_of_le b10' s5.size⟩
                  · have hb6 := ((((HB5.out.setL (i := k * 5) (.int .i64 unit)).setL (i := k * 5 + 1) (.int .i64 (countF step k))).setL (i := k * 5 + 2) (.bool sy)).setL (i := k * 5 + 3) (.slice (some ⟨lo7, 0, none⟩) cc cc)).setL (i := k * 5 + 4) (.slice (some ⟨lo10, 0, none⟩) cc cc)
                    rw [rows_set HRL.out hlt2 (fun r hr => FrOwn.len5 HROWS.out hr)] at hb6
                    exact hb6
                  · have s5 : Only w.heap.size w4 _ := ((((Only.set w4 w.heap.size (k * 5) (.int .i64 unit)).trans (Only.set _ w.heap.size (k * 5 + 1) (.int .i64 (countF step k)))).trans (Only.set _ w.heap.size (k * 5 + 2) (.bool sy))).trans (Only.set _ w.heap.size (k * 5 + 3) (.slice (some ⟨lo7, 0, none⟩) cc cc))).trans (Only.set _ w.heap.size (k * 5 + 4) (.slice (some ⟨lo10, 0, none⟩) cc cc))
                    exact s5.ext (hew.trans hb4) (Nat.le_refl _)
                  · rw [HERR.out, show 12 - k = (12 - (k + 1)) + 1 by omega, splitErr, if_pos HX.out]
                case measure => simp [intOf]; omega
              · have hXb : (X != 0) = true := by simp [hX0]
                go_wp2_with fail
                go_ret2
                refine ⟨hew.trans hb4, .inr ?_⟩
                have : splitErr unit step sy ch 12 0 = X := by rw [HERR.out, show 12 - k = (12 - (k + 1)) + 1 by omega, splitErr, if_neg (by rw [HX.out]; exact hX0), HX.out]
                rw [this]
                exact ⟨hX0, rfl⟩
        · go_wp2_with fail
          go_ret2
          obtain rfl : k = 12 := by omega
          exact ⟨hext, .inl ⟨by rw [HERR.out]; rfl, _, rows, rfl, hrl, hrows, by simpa [zfs] using hblk⟩⟩
end Go.Proofs.Ytmlcmnbjioabiaa
