/- StreamSplits returns true for every input: Split returns the specified frames or error for any channels. No conditions. -/
import Derived.Test.YtmlcmnbjioabiaaSg
import Derived.Test.YtmlcmnbjioabiaaStreamChecks
namespace Go.Proofs.Ytmlcmnbjioabiaa
open Go.RowKit Go.ChangeShapes Go.WideShapes Go.ChangeAt Go.Joins Go.Deep

theorem RFrames.at_ {w : World} {A : Option Addr} {n k : Nat} {fs : List Fr} (h : RFrames w A n fs) (hk : k < n) :
    ∃ g f A1 B1 n1 m1 c1 d1, A = some ⟨g, 0, none⟩ ∧ g < w.heap.size ∧ fs[k]? = some f ∧ RFr w f A1 B1 n1 m1 c1 d1 ∧ w.cell? ⟨g, k * 5, none⟩ = some (.int .i64 f.unit) ∧ w.cell? ⟨g, k * 5 + 1, none⟩ = some (.int .i64 f.count) ∧
      w.cell? ⟨g, k * 5 + 2, none⟩ = some (.bool f.sy) ∧ w.cell? ⟨g, k * 5 + 3, none⟩ = some (.slice A1 n1 c1) ∧ w.cell? ⟨g, k * 5 + 4, none⟩ = some (.slice B1 m1 d1) := by
  obtain ⟨g, hA, hg, hc⟩ := h.2 (by omega)
  have hl : k < fs.length := by have := h.1; omega
  obtain ⟨cs, ⟨A1, B1, n1, m1, c1, d1, rfl, hr⟩, hv⟩ := hc k _ (List.getElem?_eq_getElem hl)
  exact ⟨g, _, A1, B1, n1, m1, c1, d1, hA, hg, List.getElem?_eq_getElem hl, hr, hv 0 _ rfl, hv 1 _ rfl, hv 2 _ rfl, hv 3 _ rfl, hv 4 _ rfl⟩

theorem splitE_mid {unit step : Int} {sy : Bool} {ch : List (List Int)} (h1 : btw step 0 1099511627776 = true) (h2 : btw ch.length 1 8 = true) (h3 : ch.all (fun r => r.length == 12) = true) : splitE unit step sy ch = splitErr unit step sy ch 12 0 := by
  simp [splitE, h1, h2, h3]

/-- Both Splits together. -/
def BothPost (w : World) (e : Ending) (w' : World) : Prop :=
  Ext w w' ∧ ∃ (B : Option Addr) (n c : Nat) (E : Int) (fs : List Fr), e = .returned (.tuple #[.slice B n c, .int .i64 E]) ∧ n ≤ 12 ∧ RFrames w' B n fs
def SplitSays (E : Int) (fs : List Fr) (w : World) (e : Ending) (w' : World) : Prop :=
  Ext w w' ∧ ∃ (B : Option Addr) (c : Nat), e = .returned (.tuple #[.slice B fs.length c, .int .i64 E]) ∧ RFrames w' B fs.length fs

theorem split_any (unit step : Int) (sy : Bool) (A : Option Addr) (n c : Nat) (ch : List (List Int)) (w : World) (hch : RRows w A n ch) (hn : n ≤ 9223372036854775807) :
    Calls Try.prog 16 #[.int .i64 unit, .int .i64 step, .bool sy, .slice A n c] w (SplitSays (splitE unit step sy ch) (splitFs unit step sy ch) w) := by
  have hl := hch.1
  by_cases h : btw step 0 1099511627776 = true ∧ btw n 1 8 = true ∧ ch.all (fun r => r.length == 12) = true
  · obtain ⟨h1, h2, h3⟩ := h
    have he := splitE_mid (unit := unit) (sy := sy) h1 (by rw [hl]; exact h2) h3
    have hm := split_mid unit step sy A n c ch w hch h1 h2 (fun r hr => by have := List.all_eq_true.1 h3 r hr; simpa using this)
    rw [he]
    by_cases h0 : splitErr unit step sy ch 12 0 = 0
    · rw [show splitFs unit step sy ch = splitL unit step sy ch 12 by unfold splitFs; rw [he, if_pos h0]]
      refine hm.mono fun e w' ⟨hx, hr⟩ => ⟨hx, ?_⟩
      rcases hr with ⟨_, B, c', he', hf⟩ | ⟨hne, _⟩
      · refine ⟨B, c', ?_, ?_⟩
        · rw [h0]; simpa [splitL] using he'
        · simpa [splitL] using hf
      · exact absurd h0 hne
    · rw [show splitFs unit step sy ch = [] by unfold splitFs; rw [he, if_neg h0]]
      refine hm.mono fun e w' ⟨hx, hr⟩ => ⟨hx, ?_⟩
      rcases hr with ⟨h0', _⟩ | ⟨_, he'⟩
      · exact absurd h0' h0
      · exact ⟨none, 0, he', rfl, fun h => absurd h (by simp)⟩
  · have hb : btw step 0 1099511627776 = false ∨ btw n 1 8 = false ∨ ch.all (fun r => r.length == 12) = false := by
      cases h1 : btw step 0 1099511627776 <;> cases h2 : btw n 1 8 <;> cases h3 : ch.all (fun r => r.length == 12) <;> simp_all
    have hne : splitE unit step sy ch ≠ 0 := by
      unfold splitE
      rw [hl]
      rcases hb with h1 | h1 | h1
      · simp [h1]
      · simp [h1]; split <;> simp
      · simp [h1]; split <;> simp
    rw [show splitFs unit step sy ch = [] by unfold splitFs; rw [if_neg hne]]
    exact (split_bad unit step sy A n c ch w hch hn hb).mono fun e w' ⟨he, hx⟩ => ⟨hx, none, 0, he, rfl, fun h => absurd h (by simp)⟩
theorem rsplit_any (unit step : Int) (sy : Bool) (A : Option Addr) (n c : Nat) (ch : List (List Int)) (w : World) (hch : RRows w A n ch) (hn : n ≤ 9223372036854775807) :
    Calls Try.prog 17 #[.int .i64 unit, .int .i64 step, .bool sy, .slice A n c] w (SplitSays (splitE unit step sy ch) (splitFs unit step sy ch) w) := by
  have hl := hch.1
  by_cases h : btw step 0 1099511627776 = true ∧ btw n 1 8 = true ∧ ch.all (fun r => r.length == 12) = true
  · obtain ⟨h1, h2, h3⟩ := h
    have he := splitE_mid (unit := unit) (sy := sy) h1 (by rw [hl]; exact h2) h3
    have hm := rsplit_mid unit step sy A n c ch w hch h1 h2 (fun r hr => by have := List.all_eq_true.1 h3 r hr; simpa using this)
    rw [he]
    by_cases h0 : splitErr unit step sy ch 12 0 = 0
    · rw [show splitFs unit step sy ch = splitL unit step sy ch 12 by unfold splitFs; rw [he, if_pos h0]]
      refine hm.mono fun e w' ⟨hx, hr⟩ => ⟨hx, ?_⟩
      rcases hr with ⟨_, B, c', he', hf⟩ | ⟨hne, _⟩
      · refine ⟨B, c', ?_, ?_⟩
        · rw [h0]; simpa [splitL] using he'
        · simpa [splitL] using hf
      · exact absurd h0 hne
    · rw [show splitFs unit step sy ch = [] by unfold splitFs; rw [he, if_neg h0]]
      refine hm.mono fun e w' ⟨hx, hr⟩ => ⟨hx, ?_⟩
      rcases hr with ⟨h0', _⟩ | ⟨_, he'⟩
      · exact absurd h0' h0
      · exact ⟨none, 0, he', rfl, fun h => absurd h (by simp)⟩
  · have hb : btw step 0 1099511627776 = false ∨ btw n 1 8 = false ∨ ch.all (fun r => r.length == 12) = false := by
      cases h1 : btw step 0 1099511627776 <;> cases h2 : btw n 1 8 <;> cases h3 : ch.all (fun r => r.length == 12) <;> simp_all
    have hne : splitE unit step sy ch ≠ 0 := by
      unfold splitE
      rw [hl]
      rcases hb with h1 | h1 | h1
      · simp [h1]
      · simp [h1]; split <;> simp
      · simp [h1]; split <;> simp
    rw [show splitFs unit step sy ch = [] by unfold splitFs; rw [if_neg hne]]
    exact (rsplit_bad unit step sy A n c ch w hch hn hb).mono fun e w' ⟨he, hx⟩ => ⟨hx, none, 0, he, rfl, fun h => absurd h (by simp)⟩

theorem splitFs_len (unit step : Int) (sy : Bool) (ch : List (List Int)) : (splitFs unit step sy ch).length ≤ 12 := by unfold splitFs; split <;> simp [splitL]

set_option maxHeartbeats 1000000 in
theorem splits_any (unit step : Int) (A : Option Addr) (n c : Nat) (ch : List (List Int)) (w : World) (hch : RRows w A n ch) (hn : n ≤ 9223372036854775807) :
    Calls Try.prog 4 #[.int .i64 unit, .int .i64 step, .slice A n c] w fun e w' => e = .returned (.bool true) ∧ Ext w w' := by
  have HCH := Lib.hid hch; clear hch
  by_cases h20 : n ≤ 20
  · go_enter Try.func4, Try.ntmps4
    go_wp2_with fail
    refine (known_any _).mono ?_
    rintro e w1 ⟨rfl, hb1⟩
    go_wp2_with fail
    generalize hsy : (step.tmod 2 == 0) = sy
    have HSY := Lib.hid hsy; clear hsy
    refine (split_any unit step sy A n c ch _ (HCH.out.ext hb1) hn).mono ?_
    rintro e w2 ⟨hb2, B, cB, rfl, hfB⟩
    have hlen := splitFs_len unit step sy ch
    generalize hE : splitE unit step sy ch = E at *
    generalize hF : splitFs unit step sy ch = fs at *
    generalize hN : fs.length = N at *
    have HE := Lib.hid hE; clear hE
    have HFs := Lib.hid hF; clear hF
    have HN := Lib.hid hN; clear hN
    have HFB := Lib.hid hfB; clear hfB
    go_wp2_with fail
    rw [HSY.out]
    refine (rsplit_any unit step sy A n c ch _ (HCH.out.ext (hb1.trans hb2)) hn).mono ?_
    rintro e w3 ⟨hb3, B', cB', rfl, hfB'⟩
    rw [HE.out]
    rw [HFs.out, HN.out] at hfB'
    rw [HFs.out, HN.out]
    have HFB' := Lib.hid hfB'; clear hfB'
    have hb02 := hb1.trans (hb2.trans hb3)
    go_wp2_with fail
    go_loopw [11] (fun i wr => ∃ k : Nat, k ≤ N ∧ i = .int .i64 k ∧ Ext w3 wr) (fun i _ => N - (intOf i).toNat)
    case atStart => exact ⟨0, Nat.zero_le _, rfl, Ext.refl _⟩
    case round =>
      obtain ⟨k, hk, rfl, hex⟩ := hrel
      by_cases hlt : k < N
      · obtain ⟨g, f, A1, B1, n1, m1, c1, d1, rfl, hg, hf, hr, y0, y1, y2, y3, y4⟩ := ((HFB.out.ext hb3).ext hex).at_ hlt
        obtain ⟨g', f', A2, B2, n2, m2, c2, d2, rfl, hg', hf', hr', z0, z1, z2, z3, z4⟩ := (HFB'.out.ext hex).at_ hlt
        obtain rfl : f = f' := by rw [hf] at hf'; injection hf'
        obtain ⟨unit', count', sy', S', Q'⟩ := f
        have HR := Lib.hid hr; clear hr
        have HR' := Lib.hid hr'; clear hr'
        clear hf hf'
        dsimp only at y0 y1 y2 z0 z1 z2
        have Y0 := ExtOf.cell y0; have Y1 := ExtOf.cell y1; have Y2 := ExtOf.cell y2; have Y3 := ExtOf.cell y3; have Y4 := ExtOf.cell y4
        have Z0 := ExtOf.cell z0; have Z1 := ExtOf.cell z1; have Z2 := ExtOf.cell z2; have Z3 := ExtOf.cell z3; have Z4 := ExtOf.cell z4
        have q1 : (0 : Int) ≤ (k : Int) := by omega
        have q2 : (k : Int) < (N : Int) := by omega
        go_wp2_with fail
        refine wp_region_ext_lit (by kernel_rfl) (by kernel_rfl) ?_
        have hself := sameF_self ⟨unit', count', sy', S', Q'⟩
        repeat (go_big_quiet_step (first
          | (go_at_call 11; exact Calls.ext_of (to_raw _ _ _ _ _ _ _ _ _ _))
          | (go_at_call 13; exact Calls.ext_of (rsame_raw _ _ _ _ _ _ _ _ _ _ _ _ _ _ _ _ _ _ _ _ _ _ _ (HR.out.ext (ExtOf.ext _)) (HR'.out.ext (ExtOf.ext _))))))
        refine wpQuiet_nil ?_
        intro W hW
        obtain ⟨x, rfl⟩ := hW
        go_wp2_with fail
        go_roundw
        case rel => exact ⟨k + 1, by omega, by go_num, hex.trans x.ext⟩
        case measure => simp [intOf]; omega
      · go_wp2_with fail
        go_ret
        exact ⟨rfl, hb02.trans hex⟩
  · go_enter Try.func4, Try.ntmps4
    go_wp2_with fail
    refine (known_any _).mono ?_
    rintro e w1 ⟨rfl, hb1⟩
    go_wp2_with fail
    go_ret
    exact ⟨rfl, hb1⟩

theorem choose_list {p : Nat → List Int → Prop} (n : Nat) (h : ∀ i, i < n → ∃ l, p i l) : ∃ rows : List (List Int), rows.length = n ∧ ∀ i r, rows[i]? = some r → p i r := by
  induction n with
  | zero => exact ⟨[], rfl, by simp⟩
  | succ n ih =>
    obtain ⟨rows, h1, h2⟩ := ih (fun i hi => h i (by omega))
    obtain ⟨l, hl⟩ := h n (by omega)
    refine ⟨rows ++ [l], by simp [h1], fun i r hr => ?_⟩
    rw [List.getElem?_append] at hr
    split at hr
    · exact h2 i r hr
    · have hi : i = n := by
        have := (List.getElem?_eq_some_iff.1 hr).1
        simp at this; omega
      subst hi
      simp only [h1, Nat.sub_self, List.getElem?_cons_zero, Option.some.injEq] at hr
      subst hr
      exact hl

theorem open_rows {H : Type} {enc : TypeId × Value → H} {w : World} {base : Nat} {spare : Nat → Bool} {held : Bool} {fuel : Nat} {v : Value} {x : DataW H × List MemPlace} (h : DataW.trod enc Try.prog w base spare held fuel 35 [v] = some x) :
    ∃ (A : Option Addr) (n c : Nat) (rows : List (List Int)), v = .slice A n c ∧ RRows w A n rows ∧ n ≤ c ∧ c ≤ maxLen := by
  rcases open_slice1 Try.underlying35 Try.cells22 h with ⟨hcs, _⟩ | ⟨a, len, cap, m, nf, V, D, Pl, hcs, _, hl, hm, hmm, _, hi⟩
  · injection hcs with hcs
    exact ⟨none, 0, 0, [], hcs, ⟨rfl, fun h => absurd h (by omega)⟩, Nat.le_refl _, Nat.zero_le _⟩
  · injection hcs with hcs
    have hml : len ≤ m := by rw [hmm]; split <;> omega
    obtain ⟨rows, hr1, hr2⟩ := choose_list (p := fun i l => ∃ Ai ni ci, V i = .slice Ai ni ci ∧ Reads w w.heap.size 1 Ai ni (l.map (.int .i64)) ∧ ni ≤ 9223372036854775807) len (fun i hilt => by
      obtain ⟨Ai, ni, ci, l, h1, h2, h3, h4, _⟩ := open_reads Try.underlying22 Try.underlying3 Try.cells3 (hi i (by omega)).2
      unfold maxLen at h4
      exact ⟨l, Ai, ni, ci, h1, h2, by omega⟩)
    refine ⟨some a, len, cap, rows, hcs, ⟨hr1, fun hn => ⟨a, rfl, ?_, fun i r hr => ?_⟩⟩, hl, hm⟩
    · have := lt_of_cell (hi 0 (by omega)).1
      simpa [block_of_add] using this
    · have hil : i < len := by have := (List.getElem?_eq_some_iff.1 hr).1; omega
      obtain ⟨Ai, ni, ci, h1, h2, h3⟩ := hr2 i r hr
      exact ⟨Ai, ni, ci, by rw [← h1]; exact (hi i (by omega)).1, h2, h3⟩

set_option maxRecDepth 100000 in
theorem streamSplits_lifted (os : Os) (started : os.Started) (H : Type) (enc : TypeId × Value → H) :
    ReturnsInHanded {} Try.checked os 4 .any (Rows.streamSplitsSpec.pre6 enc Try.prog Try.f4 Rows.streamSplitsRow.domain false) (Rows.streamSplitsSpec.post enc Try.prog Try.f4 false true false false) := by
  refine returnsInHanded_of_change (C := Try.checked) Try.own started (by kernel_rfl) Try.func4
    (ChangeSpec.witness6 (enc := enc) (C := Try.checked) false ⟨#[], #[.int .i64 0, .int .i64 0, .slice none 0 0], []⟩ 8 (by kernel_rfl) (by kernel_rfl) (by kernel_rfl) (by kernel_rfl)) ?_
  intro W base args ds gs before hval0 hW hcnd _
  have hval : ∀ (j : Nat) t v, Try.f4.params[j]? = some t → args[j]? = some v → Value.okWide Try.prog W .any base t v := hval0
  have hW' := hW
  obtain ⟨p, q, hA0, hV, rfl, hfz, hnd⟩ := hW
  obtain ⟨rfl, rfl⟩ := trodVars_none hV
  have hA : DataW.TrodAll enc Try.prog W 0 (fun _ => true) true Try.f4.params.toList args.toList ds p := hA0
  have hA1 := hA
  simp only [List.append_nil] at hW'
  rw [Try.params4] at hA hval
  obtain ⟨v0, v1, v2, d0, d1, d2, p0, p1, p2, rfl, rfl, rfl, h0, h1, h2⟩ := trodAll_three hA
  obtain ⟨unit, rfl, rfl, rfl, w0⟩ := open_int Try.underlying3 (hval 0 3 v0 rfl rfl) h0
  obtain ⟨step, rfl, rfl, rfl, w1⟩ := open_int Try.underlying3 (hval 1 3 v1 rfl rfl) h1
  obtain ⟨a0, len0, cap0, rfl⟩ := okWide_slice Try.underlying35 (hval 2 35 v2 rfl rfl)
  obtain ⟨fuel, hf⟩ := h2
  obtain ⟨A, n, c, rows, hv, hrr, hnc, hcm⟩ := open_rows hf
  rw [hv]
  unfold maxLen at hcm
  refine (splits_any unit step A n c rows W hrr (by omega)).mono fun e W' ⟨he, hb⟩ => ?_
  subst he
  rw [← hv]
  exact ⟨_, rfl, post_law Try.laidOut rfl rfl Try.underlying4 (by rw [Try.params4]; intro t ht; simp at ht; rcases ht with rfl | rfl <;> exact ⟨by kernel_rfl, of_decide_eq_true (by kernel_rfl)⟩) hW' hA1 rfl rfl rfl hb⟩

theorem streamSplits_holds : Rows.StreamSplitsSaid :=
  OpenClaim.holds_of_wide 4 Try.f4 rfl rfl rfl rfl rfl rfl rfl ⟨rfl, rfl, rfl, rfl, rfl⟩ rfl rfl rfl rfl rfl (by kernel_rfl) Try.func4 (by kernel_rfl)
    (of_decide_eq_true (by kernel_rfl)) (by unfold Func.isWrapper; first | (rw [if_pos (by decide +kernel)]; kernel_rfl) | (rw [if_neg (by decide +kernel)]; exact ⟨rfl, rfl⟩))
    (fun os started H enc _ => streamSplits_lifted os started H enc)
#print axioms streamSplits_holds
end Go.Proofs.Ytmlcmnbjioabiaa
