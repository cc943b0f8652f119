/- The reference's Split. -/
import Derived.Test.YtmlcmnbjioabiaaSf
namespace Go.Proofs.Ytmlcmnbjioabiaa
open Go.RowKit

theorem elem_int : Elem Try.prog 22 3 1 8 := Elem.of Try.underlying22 (z := .int .i64 0) (by kernel_rfl) rfl (by omega)
theorem elem_rframe : Elem Try.prog 39 29 5 72 := Elem.of Try.underlying39 (z := .agg #[.int .i64 0, .int .i64 0, .bool false, .slice none 0 0, .slice none 0 0]) (by kernel_rfl) rfl (by omega)

/-- The cells of a frame whose slices were appended to. -/
def FrA (w : World) (B : Nat) (f : Fr) (cs : List Value) : Prop := ∃ vS vQ n m, cs = [.int .i64 f.unit, .int .i64 f.count, .bool f.sy, vS, vQ] ∧ w.ownsRow B 3 1 vS n (f.S.map (.int .i64)) ∧ w.ownsRow B 3 1 vQ m (f.Q.map (.int .i64))
theorem FrA.ext {w w' : World} {B : Nat} {f : Fr} {cs : List Value} (h : FrA w B f cs) (hx : Ext w w') : FrA w' B f cs := by
  obtain ⟨vS, vQ, n, m, h1, h2, h3⟩ := h
  exact ⟨vS, vQ, n, m, h1, own_ext h2 hx, own_ext h3 hx⟩
theorem FrA.grown {w w' : World} {B B' : Nat} {f : Fr} {cs : List Value} {o : Value} {k : Nat} {xs : List Value} (h : FrA w B f cs) (ho : w.ownsRow B' 29 5 o k xs) (hx : w.grownBy w' o.ownBlock) : FrA w' B f cs := by
  obtain ⟨vS, vQ, n, m, h1, h2, h3⟩ := h
  exact ⟨vS, vQ, n, m, h1, h2.kept hx (own_ne_type h2 ho (by decide)), h3.kept hx (own_ne_type h3 ho (by decide))⟩
theorem FrA.less {w : World} {B B' : Nat} {f : Fr} {cs : List Value} (h : FrA w B f cs) (hB : B' ≤ B) : FrA w B' f cs := by
  obtain ⟨vS, vQ, n, m, h1, h2, h3⟩ := h
  exact ⟨vS, vQ, n, m, h1, h2.less hB, h3.less hB⟩
theorem FrA.cells {w : World} {B : Nat} {f : Fr} {cs : List Value} (h : FrA w B f cs) : FrCells w f cs := by
  obtain ⟨vS, vQ, n, m, h1, h2, h3⟩ := h
  obtain ⟨A, c, rfl, hc, hm, hr⟩ := own_reads h2
  obtain ⟨A', c', rfl, hc', hm', hr'⟩ := own_reads h3
  unfold maxLen at hm hm'
  exact ⟨A, A', n, m, c, c', h1, hr, hr', by omega, by omega⟩
theorem FrA.len5 {w : World} {B : Nat} {F : Nat → Fr} {rows : List (List Value)} (h : ∀ j r, rows[j]? = some r → FrA w B (F j) r) {r : List Value} (hr : r ∈ rows) : r.length = 5 := by
  obtain ⟨j, hj, rfl⟩ := List.getElem_of_mem hr
  obtain ⟨vS, vQ, n, m, h1, _⟩ := h j _ (List.getElem?_eq_getElem hj)
  rw [h1]; rfl

def phiApp (x : Int) : Nat → Nat → Nat → Value → World → Prop
  | 9, lo, hi, v, w => v = .slice (some ⟨lo, 0, none⟩) 1 1 ∧ lo < hi ∧ Blk w lo 3 #[.int .i64 x]
  | _, _, _, _, _ => True
theorem phiApp_stab (x : Int) : ∀ i lo hi v w w', phiApp x i lo hi v w → Ext w w' → phiApp x i lo hi v w' := by
  intro i lo hi v w w' h e
  unfold phiApp at *
  split <;> simp_all
  exact h.2.2.ext e

set_option maxHeartbeats 1000000 in
theorem rsplit_mid (unit step : Int) (sy : Bool) (A : Option Addr) (n c : Nat) (ch : List (List Int)) (w : World) (hch : RRows w A n ch) (h1 : btw step 0 1099511627776 = true) (h2 : btw n 1 8 = true) (h3 : ∀ r ∈ ch, r.length = 12) :
    Calls Try.prog 17 #[.int .i64 unit, .int .i64 step, .bool sy, .slice A n c] w (SplitPost unit step sy ch w) := by
  have hn := btw_iff.1 h2
  have hn1 : 1 ≤ n := by omega
  have hn8 : n ≤ 8 := by omega
  clear hn
  have HCH := Lib.hid hch; clear hch
  have H3 := Lib.hid h3; clear h3
  go_enter Try.func17, Try.ntmps17
  go_wp2_with (go_at_call 27; refine (rbetween_any _ _ _ _).mono ?_; rintro e w' ⟨rfl, rfl⟩)
  go_loop [10] (fun i => ∃ k : Nat, k ≤ n ∧ i = .int .i64 k) (fun i => n - (intOf i).toNat)
  case atStart => exact ⟨0, Nat.zero_le _, rfl⟩
  case round =>
    obtain ⟨k, hk, rfl⟩ := hrel
    by_cases hlt : k < n
    · obtain ⟨ad, r, Ai, ni, ci, rfl, hr, hc, hR, hni⟩ := HCH.out.at_ hlt
      have hn12 : ni = 12 := by have := hR.len; rw [← this]; exact H3.out r (List.mem_of_getElem? hr)
      subst hn12
      have HR := Lib.hid hr; clear hr
      go_wp2_with fail
      go_round
      case rel => exact ⟨k + 1, by omega, by go_num⟩
      case measure => simp [intOf]; omega
    · go_wp2_with fail
      go_loopw [11, 12] (fun o i wr => ∃ k : Nat, k ≤ 12 ∧ i = .int .i64 k ∧ ∃ rows : List (List Value), rows.length = k ∧ (∀ j r, rows[j]? = some r → FrA wr w.heap.size (splitFr unit step sy ch j) r) ∧ wr.ownsRow w.heap.size 29 5 o k rows.flatten ∧ Ext w wr ∧ splitErr unit step sy ch 12 0 = splitErr unit step sy ch (12 - k) k) (fun _ i _ => 12 - (intOf i).toNat)
      case atStart => exact ⟨0, by omega, rfl, [], rfl, by simp, World.ownsRow_nil _ _ _ _, Ext.refl _, rfl⟩
      case round =>
        obtain ⟨k, hk, rfl, rows, hrl, hrows, hown, hext, herr⟩ := hrel
        have HERR := Lib.hid herr; clear herr
        have HOWN := Lib.hid hown; clear hown
        have HROWS := Lib.hid hrows; clear hrows
        have HRL := Lib.hid hrl; clear hrl
        by_cases hlt2 : k < 12
        · obtain ⟨wo, rfl⟩ : ∃ wo : World, wo = wr := ⟨_, rfl⟩
          go_wp2_with (go_at_call 15; refine (rcount_any _ _ _).mono ?_; rintro e w' ⟨rfl, rfl⟩)
          go_loopw [14] (fun i wr => ∃ cc : Nat, cc ≤ n ∧ i = .int .i64 cc ∧ ∃ vS vQ, Blk wr wo.heap.size 29 #[.int .i64 unit, .int .i64 (countF step k), .bool sy, vS, vQ] ∧ wr.ownsRow (wo.heap.size + 1) 3 1 vS cc ((splitRow (ch.take cc) k).map (.int .i64)) ∧
            wr.ownsRow (wo.heap.size + 1) 3 1 vQ cc (List.replicate cc (.int .i64 0)) ∧ (vS.ownBlock = none ∨ vS.ownBlock ≠ vQ.ownBlock) ∧ Ext wo wr) (fun i _ => n - (intOf i).toNat)
          case atStart =>
            exact ⟨0, Nat.zero_le _, rfl, _, _, Blk.new _ _ _, World.ownsRow_nil _ _ _ _, World.ownsRow_nil _ _ _ _, .inl rfl, Ext.new _ _⟩
          case round =>
            obtain ⟨cc, hcc, rfl, vS, vQ, hB, oS, oQ, hne, hex⟩ := hrel
            have hlow := hB.lt
            by_cases hlt3 : cc < n
            · obtain ⟨ad, r, Ai, ni, ci, rfl, hr, hc, hR, hni⟩ := (HCH.out.ext (hext.trans hex)).at_ hlt3
              have hn12 : ni = 12 := by have := hR.len; rw [← this]; exact H3.out r (List.mem_of_getElem? hr)
              subst hn12
              obtain ⟨bd, x, rfl, _, hx, hcx⟩ := hR.int_at hlt2
              have HR := Lib.hid hr; clear hr
              have HX := Lib.hid hx; clear hx
              have HS := Lib.hid oS; clear oS
              have HQ := Lib.hid oQ; clear oQ
              have HNE := Lib.hid hne; clear hne
              go_wp2_with fail
              have p1 := ExtOf.blk hB
              have p2 := ExtOf.cell hcx
              have p3 := ExtOf.cell hc
              have q1 : (0 : Int) ≤ (k : Int) := by omega
              have q2 : (k : Int) < 12 := by omega
              have q3 : (0 : Int) ≤ (cc : Int) := by omega
              have q4 : (cc : Int) < (n : Int) := by omega
              refine wp_region_tame 10 (fun i => i == 9) (phiApp x) (phiApp_stab _) (by kernel_rfl) (by kernel_rfl) ?_
              simp only [List.take_succ_cons, List.take_zero, List.drop_succ_cons, List.drop_zero]
              refine wpT_quiet 9 (by rfl) (by kernel_rfl) ?_
              simp only [List.take_succ_cons, List.take_zero, List.drop_succ_cons, List.drop_zero]
              repeat (go_big_quiet_step (fail))
              refine wpQuiet_nil ?_
              refine wpT_eff (by rfl) (by rfl) (by rfl) ?_ ?_
              · intro W hK
                go_simp
                exact ⟨Ext.new _ _, rfl, by simp, Blk.new _ _ _⟩
              intro v lo hi hr
              obtain ⟨W9, hW9⟩ := hr
              obtain ⟨rfl, hl9, _⟩ : phiApp x 9 lo hi v W9 := hW9.get
              clear hW9
              try simp only [Act.put, List.setIfInBounds_toArray, List.set_cons_succ, List.set_cons_zero]
              refine wpT_nil ?_
              intro w1 hK
              have b9 : Blk w1 lo 3 _ := (hK.at_ 9 (by rfl)).2.2
              have e1 : Ext wr w1 := hK.ext
              have g9 : wr.heap.size ≤ lo := hK.low 9 _ (by rfl)
              clear hK p1 p2 p3
              refine wpList_app elem_int rfl (.tmp 52) (.tmp 60) rfl (wo.heap.size + 1) vS cc _ (by rfl) (own_ext HS.out e1) lo 1 1 [.int .i64 x] (by rfl) b9 rfl (by simp [Value.oneCell']) (by omega) (by omega) (by omega) (by have := e1.size; omega) ?_
              intro gS capS w2 oS2 gr2 at2 lt2
              have sS := own_ext HS.out e1
              have hB1 := hB.ext e1
              have nS : vS.ownBlock ≠ some wo.heap.size := own_blk_ne sS (by omega)
              have hB2 := grown_blk gr2 hB1 nS
              have oQ2 := (own_ext HQ.out e1).kept gr2 (by rcases HNE.out with h | h
                                                           · rw [h]; cases vQ.ownBlock <;> simp
                                                           · exact .inr (Ne.symm h))
              have c2 := hB2.cell
              have f2 := hB2.frozen
              have HS2 := Lib.hid oS2; clear oS2
              have HQ2 := Lib.hid oQ2; clear oQ2 sS
              have AT2 := Lib.hid at2; clear at2
              have nQ : vQ.ownBlock ≠ some wo.heap.size := own_blk_ne HQ2.out (by omega)
              have z1 := e1.size
              have z2 := gr2.size
              have oQ3 := own_only HQ2.out (Only.set w2 wo.heap.size 3 (.slice (some ⟨gS, 0, none⟩) (cc + 1) capS)) nQ
              have HQ3 := Lib.hid oQ3; clear oQ3
              try simp only [Act.put, List.setIfInBounds_toArray, List.set_cons_succ, List.set_cons_zero]
              go_wp2_with (at_builtin; refine wpList_app elem_int rfl (.tmp 64) (.tmp 65) rfl (wo.heap.size + 1) vQ cc _ (by rfl) (HQ3.out.alloc _) w2.heap.size 1 1 [.int .i64 0] (by rfl) (Blk.new' 3 _ (by simp [World.setCell])) rfl (by simp [Value.oneCell']) (by omega) (by omega) (by omega) ?_ ?_)
              · simp [World.setCell]; omega
              intro gQ capQ w4 oQ4 gr4 at4 lt4
              have hB3 : Blk _ wo.heap.size 29 _ := (hB2.set_ 3 (.slice (some ⟨gS, 0, none⟩) (cc + 1) capS)).alloc (.cells #[.int .i64 0] 3)
              have hB4 := grown_blk gr4 hB3 nQ
              have nG : vQ.ownBlock = none ∨ vQ.ownBlock ≠ some gS := by
                rcases AT2.out with h | h
                · rcases HNE.out with h' | h'
                  · rw [h'] at h; cases h
                  · rw [h] at h'; exact .inr (Ne.symm h')
                · right
                  intro h'
                  have := ((own_ext HQ.out e1).lt gS h').2
                  omega
              have nGb : gS ≠ wo.heap.size := fun h => by have := (HS2.out.lt gS rfl).1; omega
              have oS3 := (own_only HS2.out (Only.set w2 wo.heap.size 3 (.slice (some ⟨gS, 0, none⟩) (cc + 1) capS)) (by simpa [Value.ownBlock] using nGb)).alloc (.cells #[.int .i64 0] 3)
              have oS4 := oS3.kept gr4 (.inr (by rcases nG with h | h
                                                 · rw [h]; simp [Value.ownBlock]
                                                 · exact Ne.symm h))
              have nGQ : gS ≠ gQ := by
                rcases at4 with h | h
                · rcases nG with h' | h'
                  · rw [h'] at h; cases h
                  · rintro rfl; exact h' h
                · first | omega | (simp [World.setCell] at h; omega)
              have nQb : gQ ≠ wo.heap.size := fun h => by have := (oQ4.lt gQ rfl).1; omega
              have c4 := hB4.cell
              have f4 := hB4.frozen
              have HS4 := Lib.hid oS4; clear oS4 oS3
              have HQ4 := Lib.hid oQ4; clear oQ4
              have HB4 := Lib.hid hB4; clear hB4 hB3 hB2 hB1 c2 f2 at4
              try simp only [List.setIfInBounds_toArray, List.set_cons_succ, List.set_cons_zero] at c4
              try simp only [Act.put, List.setIfInBounds_toArray, List.set_cons_succ, List.set_cons_zero]
              go_wp2_with fail
              go_roundw
              case rel =>
                refine ⟨cc + 1, by omega, by go_num, .slice (some ⟨gS, 0, none⟩) (cc + 1) capS, .slice (some ⟨gQ, 0, none⟩) (cc + 1) capQ, ?_, ?_, ?_, .inr (by simpa [Value.ownBlock] using nGQ), ?_⟩
                · exact HB4.out.set_ 4 _
                · rw [splitRow_snoc HR.out HX.out, List.map_append]
                  exact own_only HS4.out (Only.set _ _ _ _) (by simpa [Value.ownBlock] using nGb)
                · rw [List.replicate_succ']
                  exact own_only HQ4.out (Only.set _ _ _ _) (by simpa [Value.ownBlock] using nQb)
                · have x1 : Ext wo w2 := own_grown gr2 (hex.trans e1) (fun g hg => by have := (HS.out.lt g hg).1; omega)
                  have x3 : Ext wo ((w2.setCell ⟨wo.heap.size, 3, none⟩ (.slice (some ⟨gS, 0, none⟩) (cc + 1) capS)).alloc (.cells #[.int .i64 0] 3)) := (x1.setCell (Nat.le_refl _) _).alloc _
                  exact (own_grown gr4 x3 (fun g hg => by have := (HQ2.out.lt g hg).1; omega)).setCell (Nat.le_refl _) _
              case measure => simp [intOf]; omega
            · obtain rfl : cc = n := by omega
              have hfa : FrA wr w.heap.size (splitFr unit step sy ch k) [.int .i64 unit, .int .i64 (countF step k), .bool sy, vS, vQ] := by
                refine ⟨vS, vQ, cc, cc, rfl, ?_, ?_⟩
                · have := oS.less (show w.heap.size ≤ wo.heap.size + 1 by have := hext.size; omega)
                  rwa [List.take_of_length_le (by have := HCH.out.1; omega)] at this
                · have := oQ.less (show w.heap.size ≤ wo.heap.size + 1 by have := hext.size; omega)
                  simpa [splitFr, HCH.out.1] using this
              obtain ⟨AS, cS, rfl, hcS, hmS, rS⟩ := own_reads oS
              obtain ⟨AQ, cQ, rfl, hcQ, hmQ, rQ⟩ := own_reads oQ
              have hfr : RFr wr (splitFr unit step sy ch k) AS AQ cc cc cS cQ := ⟨by rw [List.take_of_length_le (by have := HCH.out.1; omega)] at rS; exact rS, by simpa [splitFr, HCH.out.1] using rQ, by omega, by omega⟩
              have HFR := Lib.hid hfr; clear hfr
              have HFA := Lib.hid hfa; clear hfa oS oQ rS rQ hne
              have c12 := hB.cell
              go_wp2_with fail
              refine (rcheck_raw unit (countF step k) sy (splitRow ch k) (List.replicate ch.length 0) _ _ _ _ _ _ _ HFR.out).mono ?_
              rintro e w4 ⟨rfl, hb4⟩
              have hck : checkF ⟨unit, countF step k, sy, splitRow ch k, List.replicate ch.length 0⟩ = checkF (splitFr unit step sy ch k) := rfl
              rw [hck]
              clear hck
              generalize hX : checkF (splitFr unit step sy ch k) = X
              have HX := Lib.hid hX; clear hX
              by_cases hX0 : X = 0
              · subst hX0
                have c12' := (hB.ext hb4).cell
                have l12 := (hB.ext hb4).lt
                clear c12
                have oO := own_ext (own_ext HOWN.out hex) hb4
                have HOO := Lib.hid oO; clear oO
                go_wp2_with (at_builtin; refine wpList_app elem_rframe rfl (.tmp 73) (.tmp 75) rfl w.heap.size u11 k _ (by rfl) (HOO.out.alloc _) w4.heap.size 1 1 [.int .i64 unit, .int .i64 (countF step k), .bool sy, .slice AS cc cS, .slice AQ cc cQ] (by rfl) (Blk.new _ _ _) rfl (by simp [Value.oneCell']) (by omega) (by omega) (by omega) ?_ ?_)
                · have := hext.size; simp; omega
                intro gO capO w5 oO5 gr5 at5 lt5
                have HO5 := Lib.hid oO5; clear oO5
                try simp only [Act.put, List.setIfInBounds_toArray, List.set_cons_succ, List.set_cons_zero]
                go_wp2_with fail
                go_roundw
                case rel =>
                  refine ⟨k + 1, by omega, by go_num, rows ++ [[.int .i64 unit, .int .i64 (countF step k), .bool sy, .slice AS cc cS, .slice AQ cc cQ]], by simp [HRL.out], ?_, ?_, ?_, ?_⟩
                  · intro j r hj
                    rw [List.getElem?_append] at hj
                    split at hj
                    · exact ((((HROWS.out j r hj).ext hex).ext hb4).ext (Ext.new _ _)).grown (HOO.out.alloc _) gr5
                    · have hj' : j = k := by
                        have := (List.getElem?_eq_some_iff.1 hj).1
                        have h0 := HRL.out
                        simp at this; omega
                      subst hj'
                      simp only [HRL.out, Nat.sub_self, List.getElem?_cons_zero, Option.some.injEq] at hj
                      subst hj
                      exact ((HFA.out.ext hb4).ext (Ext.new _ _)).grown (HOO.out.alloc _) gr5
                  · simpa using HO5.out
                  · exact own_grown gr5 (((hext.trans hex).trans hb4).alloc _) (fun g hg => (HOO.out.lt g hg).1)
                  · rw [HERR.out, show 12 - k = (12 - (k + 1)) + 1 by omega, splitErr, if_pos HX.out]
                case measure => simp [intOf]; omega
              · have hXb : (X != 0) = true := by simp [hX0]
                go_wp2_with fail
                go_ret2
                refine ⟨(hext.trans hex).trans hb4, .inr ?_⟩
                have : splitErr unit step sy ch 12 0 = X := by rw [HERR.out, show 12 - k = (12 - (k + 1)) + 1 by omega, splitErr, if_neg (by rw [HX.out]; exact hX0), HX.out]
                rw [this]
                exact ⟨hX0, rfl⟩
        · go_wp2_with fail
          go_ret2
          obtain rfl : k = 12 := by omega
          obtain ⟨g, cap, hv, hg1, hg2⟩ := HOWN.out.form (by omega)
          have hcl := HOWN.out.cells (g := g) (by rw [hv]; rfl)
          refine ⟨hext, .inl ⟨by rw [HERR.out]; rfl, some ⟨g, 0, none⟩, cap, ?_, by simp [splitL], fun _ => ⟨_, rfl, hg2, fun i f hf => ?_⟩⟩⟩
          · exact congrArg (fun v => Ending.returned (.tuple #[v, .int .i64 0])) hv
          have hi : i < 12 := by have := (List.getElem?_eq_some_iff.1 hf).1; simpa [splitL] using this
          have hfi : f = splitFr unit step sy ch i := by simp [splitL, hi] at hf; exact hf.symm
          subst hfi
          have hri : rows[i]? = some (rows[i]'(by have := HRL.out; omega)) := List.getElem?_eq_getElem (by have := HRL.out; omega)
          refine ⟨_, (HROWS.out i _ hri).cells, fun j v hv => ?_⟩
          have hj5 : j < 5 := by have := (List.getElem?_eq_some_iff.1 hv).1; rw [FrA.len5 HROWS.out (List.mem_of_getElem? hri)] at this; exact this
          have := flat_at (rows := rows) (i := i) (j := j) (fun r hr => FrA.len5 HROWS.out hr) (by have := HRL.out; omega) hj5
          rw [← add_head]; exact hcl (i * 5 + j) v (this.trans hv)
theorem rsplit_bad (unit step : Int) (sy : Bool) (A : Option Addr) (n c : Nat) (ch : List (List Int)) (w : World) (hch : RRows w A n ch) (hn : n ≤ 9223372036854775807) (h : btw step 0 1099511627776 = false ∨ btw n 1 8 = false ∨ ch.all (fun r => r.length == 12) = false) :
    Calls Try.prog 17 #[.int .i64 unit, .int .i64 step, .bool sy, .slice A n c] w fun e w' => e = .returned (.tuple #[.slice none 0 0, .int .i64 (splitE unit step sy ch)]) ∧ Ext w w' := by
  have hl := hch.1
  have HCH := Lib.hid hch; clear hch
  have HL := Lib.hid hl; clear hl
  cases h1 : btw step 0 1099511627776
  · have HE := Lib.hid (show 1 = splitE unit step sy ch by simp [splitE, h1])
    clear h
    go_enter Try.func17, Try.ntmps17
    go_wp2_with (go_at_call 27; refine (rbetween_any _ _ _ _).mono ?_; rintro e w' ⟨rfl, rfl⟩)
    go_ret2
    exact ⟨ret_tup2 HE.out, Ext.refl _⟩
  cases h2 : btw n 1 8
  · have HE := Lib.hid (show 3 = splitE unit step sy ch by rw [← HL.out] at h2; simp [splitE, h1, h2])
    clear h
    go_enter Try.func17, Try.ntmps17
    go_wp2_with (go_at_call 27; refine (rbetween_any _ _ _ _).mono ?_; rintro e w' ⟨rfl, rfl⟩)
    go_ret2
    exact ⟨ret_tup2 HE.out, Ext.refl _⟩
  have h3 : ch.all (fun r => r.length == 12) = false := by rcases h with h | h | h <;> simp_all
  have HE := Lib.hid (show 3 = splitE unit step sy ch by rw [← HL.out] at h2; simp [splitE, h1, h2, h3])
  have H3 := Lib.hid h3
  clear h h3
  go_enter Try.func17, Try.ntmps17
  go_wp2_with (go_at_call 27; refine (rbetween_any _ _ _ _).mono ?_; rintro e w' ⟨rfl, rfl⟩)
  go_loop [10] (fun i => ∃ k : Nat, k ≤ n ∧ i = .int .i64 k ∧ ∀ j r, j < k → ch[j]? = some r → r.length = 12) (fun i => n - (intOf i).toNat)
  case atStart => exact ⟨0, Nat.zero_le _, rfl, fun j r hj => absurd hj (by omega)⟩
  case round =>
    obtain ⟨k, hk, rfl, hall⟩ := hrel
    have HALL := Lib.hid hall; clear hall
    by_cases hlt : k < n
    · obtain ⟨ad, r, Ai, ni, ci, rfl, hr, hc, hR, hni⟩ := HCH.out.at_ hlt
      have hrl := hR.len
      have HR := Lib.hid hr; clear hr
      have HRL := Lib.hid hrl; clear hrl
      by_cases h12 : ni = 12
      · subst h12
        go_wp2_with fail
        go_round
        case rel =>
          refine ⟨k + 1, by omega, by go_num, fun j r' hj hr' => ?_⟩
          by_cases hjk : j = k
          · subst hjk; rw [HR.out] at hr'; injection hr' with hr'; subst hr'; exact HRL.out
          · exact HALL.out j r' (by omega) hr'
        case measure => simp [intOf]; omega
      · have hb : ((ni : Int) != 12) = true := by simp; omega
        go_wp2_with fail
        go_ret2
        exact ⟨ret_tup2 HE.out, Ext.refl _⟩
    · exfalso
      have h3 := H3.out
      rw [List.all_eq_false] at h3
      obtain ⟨r, hr, hr2⟩ := h3
      obtain ⟨j, hj, rfl⟩ := List.getElem_of_mem hr
      have := HALL.out j ch[j] (by have := HL.out; omega) (List.getElem?_eq_getElem hj)
      simp [this] at hr2
end Go.Proofs.Ytmlcmnbjioabiaa
