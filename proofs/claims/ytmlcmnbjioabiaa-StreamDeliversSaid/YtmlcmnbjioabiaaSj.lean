/- The reference's Decode. -/
import Derived.Test.YtmlcmnbjioabiaaSi
namespace Go.Proofs.Ytmlcmnbjioabiaa
open Go.RowKit

theorem sep_some {b : Option Nat} {g : Nat} (h : b = none ∨ b ≠ some g) : (some g : Option Nat) ≠ b := by
  rcases h with h | h
  · rw [h]; simp
  · exact Ne.symm h
theorem sep_symm {a b : Option Nat} (h : a = none ∨ a ≠ b) : b = none ∨ b ≠ a := by
  rcases h with h | h
  · rw [h]; cases b <;> simp
  · exact .inr (Ne.symm h)
set_option maxHeartbeats 400000 in
theorem two_any (b o n c : Nat) (x y : Int) (w : World) (h0 : w.cell? ⟨b, o, none⟩ = some (.int .u8 x)) (h1 : w.cell? ⟨b, o + 1, none⟩ = some (.int .u8 y)) (hn : 2 ≤ n) (hx : 0 ≤ x) (hx' : x ≤ 255) (hy : 0 ≤ y) (hy' : y ≤ 255) :
    Calls Try.prog 32 #[.slice (some ⟨b, o, none⟩) n c] w fun e w' => e = .returned (.int .i64 (x * 256 + y)) ∧ Ext w w' := by
  have ho := or_byte_i64 x y hx (by omega) hy hy'
  have q : (2 : Int) ≤ (n : Int) := by omega
  have P0 := ExtOf.cell h0
  have P1 := ExtOf.cell h1
  go_enter Try.func32, Try.ntmps32
  go_wp2_with fail
  refine wp_region_ext_lit (by kernel_rfl) (by kernel_rfl) ?_
  repeat (go_big_quiet_step (fail))
  refine wpQuiet_nil ?_
  intro W hW
  obtain ⟨x, rfl⟩ := hW
  go_wp2_with fail
  go_ret
  exact ⟨rfl, x.ext⟩

def phiRDec (u v : Int) : Nat → Nat → Nat → Value → World → Prop
  | 2, _, _, x, _ => x = .int .i64 u
  | 5, _, _, x, _ => x = .int .i64 v
  | 11, lo, hi, x, w => x = .pointer (some ⟨lo, 0, none⟩) ∧ lo < hi ∧ Blk w lo 29 #[.int .i64 0, .int .i64 0, .bool false, .slice none 0 0, .slice none 0 0]
  | _, _, _, _, _ => True
theorem phiRDec_stab (u v : Int) : ∀ i lo hi x w w', phiRDec u v i lo hi x w → Ext w w' → phiRDec u v i lo hi x w' := by
  intro i lo hi x w w' h e
  unfold phiRDec at *
  split <;> simp_all
  exact h.2.2.ext e

set_option maxHeartbeats 2000000 in
theorem rdecode_mid (bk off m c : Nat) (l : List Int) (w : World) (x6 : Int) (hl : l.length = 8 + 3 * m) (hblk : bk < w.heap.size) (hget : ∀ k, k < 8 + 3 * m → ∃ x, l[k]? = some x ∧ w.cell? ⟨bk, off + k, none⟩ = some (.int .u8 x) ∧ 0 ≤ x ∧ x ≤ 255)
    (e0 : l[0]? = some 136) (e1 : l[1]? = some 186) (e6 : l[6]? = some x6) (e7 : l[7]? = some (m : Int)) (h6 : ¬ 1 < x6) (b6 : 0 ≤ x6) (hm : m ≤ 255) (hn : 8 + 3 * m ≤ c) (hc : c ≤ 9223372036854775807) :
    Calls Try.prog 21 #[.slice (some ⟨bk, off, none⟩) (8 + 3 * m) c] w (DecPost l w) := by
  have HG := Lib.hid hget; clear hget
  have HL := Lib.hid hl; clear hl
  have b7' : (m : Int) ≤ 255 := by omega
  obtain ⟨c0', c0e⟩ : ∃ x, l[0]? = some x ∧ w.cell? ⟨bk, off, none⟩ = some (.int .u8 x) := by obtain ⟨x, h1, h2, _⟩ := HG.out 0 (by omega); exact ⟨x, h1, h2⟩
  have c0 : w.cell? ⟨bk, off, none⟩ = some (.int .u8 136) := by obtain ⟨h1, h2⟩ := c0e; rw [e0] at h1; injection h1 with h1; rw [h1]; exact h2
  have c1 : w.cell? ⟨bk, off + 1, none⟩ = some (.int .u8 186) := by obtain ⟨x, h1, h2, _⟩ := HG.out 1 (by omega); rw [e1] at h1; injection h1 with h1; rw [h1]; exact h2
  have c6 : w.cell? ⟨bk, off + 6, none⟩ = some (.int .u8 x6) := by obtain ⟨x, h1, h2, _⟩ := HG.out 6 (by omega); rw [e6] at h1; injection h1 with h1; rw [h1]; exact h2
  have c7 : w.cell? ⟨bk, off + 7, none⟩ = some (.int .u8 (m : Int)) := by obtain ⟨x, h1, h2, _⟩ := HG.out 7 (by omega); rw [e7] at h1; injection h1 with h1; rw [h1]; exact h2
  clear c0e c0'
  have HE6 := Lib.hid e6; have HE7 := Lib.hid e7; have HE0 := Lib.hid e0; have HE1 := Lib.hid e1
  clear e0 e1 e6 e7
  have a0 := cell_alloc c0
  have a1 := cell_alloc c1
  have a6 := cell_alloc c6
  have a7 := cell_alloc c7
  obtain ⟨x2, e2, c2, b2', b2''⟩ := HG.out 2 (by omega)
  obtain ⟨x3, e3, c3, b3, b3'⟩ := HG.out 3 (by omega)
  obtain ⟨x4, e4, c4, b4, b4'⟩ := HG.out 4 (by omega)
  obtain ⟨x5, e5, c5, b5, b5'⟩ := HG.out 5 (by omega)
  have HE2 := Lib.hid e2; have HE3 := Lib.hid e3; have HE4 := Lib.hid e4; have HE5 := Lib.hid e5
  clear e2 e3 e4 e5
  have d1 : decide (8 + 3 * (m : Int) < 8) = false := by simp; omega
  have d2 : decide (1 < x6) = false := by simp; omega
  have d3 : decide (8 + 3 * (m : Int) < 8 + 3 * (m : Int)) = false := by simp
  have hc2 : ¬ c = 2 := by omega
  have hc4 : ¬ c = 4 := by omega
  go_enter Try.func21, Try.ntmps21
  go_wp2_with fail
  have A6 := ExtOf.cell (a6 (.cells #[.int .i64 0, .int .i64 0, .bool false, .slice none 0 0, .slice none 0 0] 29))
  refine wp_region_tame 12 (fun i => i == 2 || i == 5 || i == 11) (phiRDec (x2 * 256 + x3) (x4 * 256 + x5)) (phiRDec_stab _ _) (by kernel_rfl) (by kernel_rfl) ?_
  simp only [List.take_succ_cons, List.take_zero, List.drop_succ_cons, List.drop_zero]
  refine wpT_quiet 2 (by rfl) (by kernel_rfl) ?_
  simp only [List.take_succ_cons, List.take_zero, List.drop_succ_cons, List.drop_zero]
  repeat (go_big_quiet_step (fail))
  refine wpQuiet_nil ?_
  refine wpT_eff (by rfl) (by rfl) (by rfl) ?_ ?_
  · intro W hK
    go_simp
    refine ⟨rfl, (two_any bk (off + 2) _ _ x2 x3 W (hK.1.cell_ (cell_alloc c2 _)) (hK.1.cell_ (cell_alloc c3 _)) (by omega) b2' b2'' b3 b3').mono fun e w' ⟨he, hw⟩ => ⟨_, he, hw, rfl⟩⟩
  intro v lo2 hi2 hr
  obtain rfl : v = _ := hr.elim fun _ h => h.get
  clear hr
  try simp only [Act.put, List.setIfInBounds_toArray, List.set_cons_succ, List.set_cons_zero]
  refine wpT_quiet 2 (by rfl) (by kernel_rfl) ?_
  simp only [List.take_succ_cons, List.take_zero, List.drop_succ_cons, List.drop_zero]
  repeat (go_big_quiet_step (fail))
  refine wpQuiet_nil ?_
  refine wpT_eff (by rfl) (by rfl) (by rfl) ?_ ?_
  · intro W hK
    go_simp
    refine ⟨rfl, (two_any bk (off + 4) _ _ x4 x5 W (hK.1.cell_ (cell_alloc c4 _)) (hK.1.cell_ (cell_alloc c5 _)) (by omega) b4 b4' b5 b5').mono fun e w' ⟨he, hw⟩ => ⟨_, he, hw, rfl⟩⟩
  intro v lo5 hi5 hr
  obtain rfl : v = _ := hr.elim fun _ h => h.get
  clear hr
  try simp only [Act.put, List.setIfInBounds_toArray, List.set_cons_succ, List.set_cons_zero]
  refine wpT_quiet 5 (by rfl) (by kernel_rfl) ?_
  simp only [List.take_succ_cons, List.take_zero, List.drop_succ_cons, List.drop_zero]
  repeat (go_big_quiet_step (fail))
  refine wpQuiet_nil ?_
  refine wpT_eff (by rfl) (by rfl) (by rfl) ?_ ?_
  · intro W hK
    go_simp
    exact ⟨Ext.new _ _, rfl, by simp, Blk.new _ _ _⟩
  intro v lo12 hi12 hr
  obtain ⟨W12, hW12⟩ := hr
  obtain ⟨rfl, hl12, _⟩ : phiRDec (x2 * 256 + x3) (x4 * 256 + x5) 11 lo12 hi12 v W12 := hW12.get
  clear hW12
  try simp only [Act.put, List.setIfInBounds_toArray, List.set_cons_succ, List.set_cons_zero]
  refine wpT_nil ?_
  intro w1 hK
  have k12 : Blk w1 lo12 29 _ := (hK.at_ 11 (by rfl)).2.2
  have xe : Ext _ w1 := hK.ext
  have g12 := hK.low 11 _ (by rfl)
  simp at g12
  clear hK A6
  have c12 := k12.cell
  have f12 := k12.frozen
  go_wp2_with fail
  clear c12 f12
  have l12 := k12.lt
  have z1 := xe.size
  simp at z1
  go_loopw [6] (fun i wr => ∃ k : Nat, k ≤ m ∧ i = .int .i64 k ∧ ∃ vS vQ, Blk wr lo12 29 #[.int .i64 (x2 * 256 + x3), .int .i64 (x4 * 256 + x5), .bool (x6 == 1), vS, vQ] ∧ wr.ownsRow w1.heap.size 3 1 vS k ((decS l k).map (.int .i64)) ∧
    wr.ownsRow w1.heap.size 3 1 vQ k ((decQ l k).map (.int .i64)) ∧ (vS.ownBlock = none ∨ vS.ownBlock ≠ vQ.ownBlock) ∧ Blk wr w.heap.size 29 #[.int .i64 0, .int .i64 0, .bool false, .slice none 0 0, .slice none 0 0] ∧ Ext w wr ∧ w1.heap.size ≤ wr.heap.size) (fun i _ => m - (intOf i).toNat)
  case atStart =>
    have s5 : Only lo12 w1 _ := ((((Only.set w1 lo12 0 (.int .i64 (x2 * 256 + x3))).trans (Only.set _ lo12 1 (.int .i64 (x4 * 256 + x5)))).trans (Only.set _ lo12 2 (.bool (x6 == 1)))).trans (Only.set _ lo12 3 (.slice none 0 0))).trans (Only.set _ lo12 4 (.slice none 0 0))
    refine ⟨0, Nat.zero_le _, rfl, .slice none 0 0, .slice none 0 0, ?_, World.ownsRow_nil _ _ _ _, World.ownsRow_nil _ _ _ _, .inl rfl, ?_, ?_, s5.size⟩
    · exact ((((k12.set_ 0 _).set_ 1 _).set_ 2 _).set_ 3 _).set_ 4 _
    · exact s5.blk ((Blk.new w _ _).ext xe) (by omega)
    · exact s5.ext ((Ext.new _ _).trans xe) (by omega)
  case round =>
    obtain ⟨k, hk, rfl, vS, vQ, hB, oS, oQ, hne, rb, hex, zr⟩ := hrel
    clear k12
    by_cases hlt : k < m
    · obtain ⟨p0, pe0, pc0, pb0, pb0'⟩ := HG.out (8 + 3 * k) (by omega)
      obtain ⟨p1, pe1, pc1, pb1, pb1'⟩ := HG.out (8 + 3 * k + 1) (by omega)
      obtain ⟨p2, pe2, pc2, pb2, pb2'⟩ := HG.out (8 + 3 * k + 2) (by omega)
      have pd0 := hex.cell_ pc0
      have pd1 := hex.cell_ pc1
      have pd2 := hex.cell_ pc2
      rw [← Nat.add_assoc off (8 + 3 * k) 1] at pd1
      rw [show off + (8 + 3 * k + 2) = off + (10 + 3 * k) by omega] at pd2
      have HP := Lib.hid (And.intro (byt_some pe0) (And.intro (byt_some pe1) (byt_some pe2)))
      clear pe0 pe1 pe2 pc0 pc1 pc2
      have hcc : ¬ c = 8 + 3 * k := by omega
      have HS := Lib.hid oS; clear oS
      have HQ := Lib.hid oQ; clear oQ
      have HNE := Lib.hid hne; clear hne
      go_wp2_with fail
      refine (two_any bk (off + (8 + 3 * k)) _ _ p0 p1 _ pd0 pd1 (by omega) pb0 pb0' pb1 pb1').mono ?_
      rintro e wa ⟨rfl, xa⟩
      have hB1 := hB.ext xa
      have c1a := hB1.cell
      have za := xa.size
      have oS1 := own_ext HS.out xa
      have nS : vS.ownBlock ≠ some lo12 := own_blk_ne oS1 (by omega)
      have HS1 := Lib.hid oS1; clear oS1
      by_cases hs : 32768 ≤ p0 * 256 + p1
      case pos =>
        have hsv : s16 (p0 * 256 + p1) = p0 * 256 + p1 - 65536 := by unfold s16; rw [if_pos hs]
        have HSV := Lib.hid hsv; clear hsv
        go_wp2_with (at_builtin; refine wpList_app elem_int rfl (.tmp 74) (.tmp 76) rfl w1.heap.size vS k _ (by rfl) (HS1.out.alloc _) wa.heap.size 1 1 [.int .i64 (p0 * 256 + p1 - 65536)] (by rfl) (Blk.new _ _ _) rfl (by simp [Value.oneCell']) (by omega) (by omega) (by omega) ?_ ?_)
        · simp; omega
        intro gS capS w2 oS2 gr2 at2 lt2
        have hB2 := grown_blk gr2 (hB1.alloc _) nS
        have oQ2 := ((own_ext HQ.out xa).alloc (.cells #[.int .i64 (p0 * 256 + p1 - 65536)] 3)).kept gr2 (sep_symm HNE.out)
        have c2 := hB2.cell
        have f2 := hB2.frozen
        have HS2 := Lib.hid oS2; clear oS2
        have HQ2 := Lib.hid oQ2; clear oQ2
        have AT2 := Lib.hid at2; clear at2
        have nQ : vQ.ownBlock ≠ some lo12 := own_blk_ne HQ2.out (by omega)
        have nGb : gS ≠ lo12 := fun h => by have := (HS2.out.lt gS rfl).1; omega
        have z2 := gr2.size
        simp at z2
        have x2e : Ext w w2 := own_grown gr2 ((hex.trans xa).alloc _) (fun g hg => by have := (HS1.out.lt g hg).1; omega)
        clear c1a
        try simp only [Act.put, List.setIfInBounds_toArray, List.set_cons_succ, List.set_cons_zero]
        go_wp2_with fail
        have so : Only lo12 w2 (w2.setCell ⟨lo12, 3, none⟩ (.slice (some ⟨gS, 0, none⟩) (k + 1) capS)) := Only.set _ _ _ _
        have hB3 : Blk _ lo12 29 _ := hB2.set_ 3 (.slice (some ⟨gS, 0, none⟩) (k + 1) capS)
        have x3e := so.ext x2e (by omega)
        have P12 := ExtOf.blk hB3
        have P2 := ExtOf.cell (x3e.cell_ ((hex.cell (p := ⟨bk, off + (10 + 3 * k), none⟩) hblk).symm.trans pd2))
        have q3 : (0 : Int) ≤ 10 + 3 * (k : Int) := by omega
        have q4 : 10 + 3 * (k : Int) < 8 + 3 * (m : Int) := by omega
        have q5 : IntKind.i64.wrap (3 * (k : Int)) = 3 * (k : Int) := IntWalk.i64_in _ (by omega)
        have q6 : IntKind.i64.wrap (10 + 3 * (k : Int)) = 10 + 3 * (k : Int) := IntWalk.i64_in _ (by omega)
        have q7 : (10 + 3 * (k : Int)).toNat = 10 + 3 * k := by omega
        refine wp_region_tame 10 (fun i => i == 9) (phiApp p2) (phiApp_stab _) (by kernel_rfl) (by kernel_rfl) ?_
        simp only [List.take_succ_cons, List.take_zero, List.drop_succ_cons, List.drop_zero]
        refine wpT_quiet 9 (by rfl) (by kernel_rfl) ?_
        simp only [List.take_succ_cons, List.take_zero, List.drop_succ_cons, List.drop_zero]
        repeat (go_big_quiet_step (fail))
        refine wpQuiet_nil ?_
        refine wpT_eff (by rfl) (by rfl) (by rfl) ?_ ?_
        · intro W hK
          go_simp
          exact ⟨Ext.new _ _, rfl, by simp, Blk.new _ _ _⟩
        intro v lo hi hr
        obtain ⟨W9, hW9⟩ := hr
        obtain ⟨rfl, hl9, _⟩ : phiApp p2 9 lo hi v W9 := hW9.get
        clear hW9
        try simp only [Act.put, List.setIfInBounds_toArray, List.set_cons_succ, List.set_cons_zero]
        refine wpT_nil ?_
        intro w3 hK
        have b9 : Blk w3 lo 3 _ := (hK.at_ 9 (by rfl)).2.2
        have e3 := hK.ext
        have z3 := e3.size
        simp [World.setCell] at z3
        clear hK P12 P2
        have oQ3 := own_ext (own_only HQ2.out so nQ) e3
        refine wpList_app elem_int rfl (.tmp 80) (.tmp 88) rfl w1.heap.size vQ k _ (by rfl) oQ3 lo 1 1 [.int .i64 p2] (by rfl) b9 rfl (by simp [Value.oneCell']) (by omega) (by omega) (by omega) (by omega) ?_
        intro gQ capQ w4 oQ4 gr4 at4 lt4
        have hB4 := grown_blk gr4 (hB3.ext e3) nQ
        have nG : vQ.ownBlock = none ∨ vQ.ownBlock ≠ some gS := by
          rcases AT2.out with h | h
          · rcases HNE.out with h' | h'
            · rw [h'] at h; cases h
            · rw [h] at h'; exact .inr (Ne.symm h')
          · right
            intro h'
            have := ((own_ext HQ.out xa).lt gS h').2
            try simp at h
            omega
        have oS3 := own_ext (own_only HS2.out so (by simpa [Value.ownBlock] using nGb)) e3
        have oS4 := oS3.kept gr4 (.inr (by exact sep_some nG))
        have nGQ : gS ≠ gQ := by
          rcases at4 with h | h
          · rcases nG with h' | h'
            · rw [h'] at h; cases h
            · rintro rfl; exact h' h
          · have := (oS3.lt gS rfl).2; omega
        have nQb : gQ ≠ lo12 := fun h => by have := (oQ4.lt gQ rfl).1; omega
        have c4 := hB4.cell
        have f4 := hB4.frozen
        have HS4 := Lib.hid oS4; clear oS4 oS3
        have HQ4 := Lib.hid oQ4; clear oQ4
        have HB4 := Lib.hid hB4; clear hB4 hB3 hB2 hB1 c2 f2 at4
        have x4e : Ext w w4 := own_grown gr4 (x3e.trans e3) (fun g hg => by have := (oQ3.lt g hg).1; omega)
        have rb4 : Blk w4 w.heap.size 29 _ := grown_blk gr4 ((so.blk (grown_blk gr2 ((rb.ext xa).alloc _) (own_blk_ne HS1.out (by omega))) (by omega)).ext e3) (own_blk_ne oQ3 (by omega))
        have z4 := gr4.size
        clear oQ3
        try simp only [List.setIfInBounds_toArray, List.set_cons_succ, List.set_cons_zero] at c4
        clear q3 q4 q5 q6 q7
        try simp only [Act.put, List.setIfInBounds_toArray, List.set_cons_succ, List.set_cons_zero]
        go_wp2_with fail
        go_roundw
        case rel =>
          refine ⟨k + 1, by omega, by go_num, .slice (some ⟨gS, 0, none⟩) (k + 1) capS, .slice (some ⟨gQ, 0, none⟩) (k + 1) capQ, ?_, ?_, ?_, .inr (by simpa [Value.ownBlock] using nGQ), (Only.set _ _ _ _).blk rb4 (by omega), (Only.set w4 lo12 4 _).ext x4e (by omega), ?_⟩
          · exact HB4.out.set_ 4 _
          · have h := own_only HS4.out (Only.set w4 lo12 4 (.slice (some ⟨gQ, 0, none⟩) (k + 1) capQ)) (by simpa [Value.ownBlock] using nGb)
            rw [show decS l (k + 1) = decS l k ++ [p0 * 256 + p1 - 65536] by simp only [decS, List.range_succ, List.map_append, List.map_cons, List.map_nil]; rw [HP.out.1, HP.out.2.1, HSV.out], List.map_append]
            exact h
          · have h := own_only HQ4.out (Only.set w4 lo12 4 (.slice (some ⟨gQ, 0, none⟩) (k + 1) capQ)) (by simpa [Value.ownBlock] using nQb)
            rw [show decQ l (k + 1) = decQ l k ++ [p2] by simp only [decQ, List.range_succ, List.map_append, List.map_cons, List.map_nil]; rw [HP.out.2.2], List.map_append]
            exact h
          · simp [World.setCell]; omega
        case measure => simp [intOf]; omega
      case neg =>
        have hsv : s16 (p0 * 256 + p1) = p0 * 256 + p1 := by unfold s16; rw [if_neg hs]
        have HSV := Lib.hid hsv; clear hsv
        go_wp2_with (at_builtin; refine wpList_app elem_int rfl (.tmp 74) (.tmp 76) rfl w1.heap.size vS k _ (by rfl) (HS1.out.alloc _) wa.heap.size 1 1 [.int .i64 (p0 * 256 + p1)] (by rfl) (Blk.new _ _ _) rfl (by simp [Value.oneCell']) (by omega) (by omega) (by omega) ?_ ?_)
        · simp; omega
        intro gS capS w2 oS2 gr2 at2 lt2
        have hB2 := grown_blk gr2 (hB1.alloc _) nS
        have oQ2 := ((own_ext HQ.out xa).alloc (.cells #[.int .i64 (p0 * 256 + p1)] 3)).kept gr2 (sep_symm HNE.out)
        have c2 := hB2.cell
        have f2 := hB2.frozen
        have HS2 := Lib.hid oS2; clear oS2
        have HQ2 := Lib.hid oQ2; clear oQ2
        have AT2 := Lib.hid at2; clear at2
        have nQ : vQ.ownBlock ≠ some lo12 := own_blk_ne HQ2.out (by omega)
        have nGb : gS ≠ lo12 := fun h => by have := (HS2.out.lt gS rfl).1; omega
        have z2 := gr2.size
        simp at z2
        have x2e : Ext w w2 := own_grown gr2 ((hex.trans xa).alloc _) (fun g hg => by have := (HS1.out.lt g hg).1; omega)
        clear c1a
        try simp only [Act.put, List.setIfInBounds_toArray, List.set_cons_succ, List.set_cons_zero]
        go_wp2_with fail
        have so : Only lo12 w2 (w2.setCell ⟨lo12, 3, none⟩ (.slice (some ⟨gS, 0, none⟩) (k + 1) capS)) := Only.set _ _ _ _
        have hB3 : Blk _ lo12 29 _ := hB2.set_ 3 (.slice (some ⟨gS, 0, none⟩) (k + 1) capS)
        have x3e := so.ext x2e (by omega)
        have P12 := ExtOf.blk hB3
        have P2 := ExtOf.cell (x3e.cell_ ((hex.cell (p := ⟨bk, off + (10 + 3 * k), none⟩) hblk).symm.trans pd2))
        have q3 : (0 : Int) ≤ 10 + 3 * (k : Int) := by omega
        have q4 : 10 + 3 * (k : Int) < 8 + 3 * (m : Int) := by omega
        have q5 : IntKind.i64.wrap (3 * (k : Int)) = 3 * (k : Int) := IntWalk.i64_in _ (by omega)
        have q6 : IntKind.i64.wrap (10 + 3 * (k : Int)) = 10 + 3 * (k : Int) := IntWalk.i64_in _ (by omega)
        have q7 : (10 + 3 * (k : Int)).toNat = 10 + 3 * k := by omega
        refine wp_region_tame 10 (fun i => i == 9) (phiApp p2) (phiApp_stab _) (by kernel_rfl) (by kernel_rfl) ?_
        simp only [List.take_succ_cons, List.take_zero, List.drop_succ_cons, List.drop_zero]
        refine wpT_quiet 9 (by rfl) (by kernel_rfl) ?_
        simp only [List.take_succ_cons, List.take_zero, List.drop_succ_cons, List.drop_zero]
        repeat (go_big_quiet_step (fail))
        refine wpQuiet_nil ?_
        refine wpT_eff (by rfl) (by rfl) (by rfl) ?_ ?_
        · intro W hK
          go_simp
          exact ⟨Ext.new _ _, rfl, by simp, Blk.new _ _ _⟩
        intro v lo hi hr
        obtain ⟨W9, hW9⟩ := hr
        obtain ⟨rfl, hl9, _⟩ : phiApp p2 9 lo hi v W9 := hW9.get
        clear hW9
        try simp only [Act.put, List.setIfInBounds_toArray, List.set_cons_succ, List.set_cons_zero]
        refine wpT_nil ?_
        intro w3 hK
        have b9 : Blk w3 lo 3 _ := (hK.at_ 9 (by rfl)).2.2
        have e3 := hK.ext
        have z3 := e3.size
        simp [World.setCell] at z3
        clear hK P12 P2
        have oQ3 := own_ext (own_only HQ2.out so nQ) e3
        refine wpList_app elem_int rfl (.tmp 80) (.tmp 88) rfl w1.heap.size vQ k _ (by rfl) oQ3 lo 1 1 [.int .i64 p2] (by rfl) b9 rfl (by simp [Value.oneCell']) (by omega) (by omega) (by omega) (by omega) ?_
        intro gQ capQ w4 oQ4 gr4 at4 lt4
        have hB4 := grown_blk gr4 (hB3.ext e3) nQ
        have nG : vQ.ownBlock = none ∨ vQ.ownBlock ≠ some gS := by
          rcases AT2.out with h | h
          · rcases HNE.out with h' | h'
            · rw [h'] at h; cases h
            · rw [h] at h'; exact .inr (Ne.symm h')
          · right
            intro h'
            have := ((own_ext HQ.out xa).lt gS h').2
            try simp at h
            omega
        have oS3 := own_ext (own_only HS2.out so (by simpa [Value.ownBlock] using nGb)) e3
        have oS4 := oS3.kept gr4 (.inr (by exact sep_some nG))
        have nGQ : gS ≠ gQ := by
          rcases at4 with h | h
          · rcases nG with h' | h'
            · rw [h'] at h; cases h
            · rintro rfl; exact h' h
          · have := (oS3.lt gS rfl).2; omega
        have nQb : gQ ≠ lo12 := fun h => by have := (oQ4.lt gQ rfl).1; omega
        have c4 := hB4.cell
        have f4 := hB4.frozen
        have HS4 := Lib.hid oS4; clear oS4 oS3
        have HQ4 := Lib.hid oQ4; clear oQ4
        have HB4 := Lib.hid hB4; clear hB4 hB3 hB2 hB1 c2 f2 at4
        have x4e : Ext w w4 := own_grown gr4 (x3e.trans e3) (fun g hg => by have := (oQ3.lt g hg).1; omega)
        have rb4 : Blk w4 w.heap.size 29 _ := grown_blk gr4 ((so.blk (grown_blk gr2 ((rb.ext xa).alloc _) (own_blk_ne HS1.out (by omega))) (by omega)).ext e3) (own_blk_ne oQ3 (by omega))
        have z4 := gr4.size
        clear oQ3
        try simp only [List.setIfInBounds_toArray, List.set_cons_succ, List.set_cons_zero] at c4
        clear q3 q4 q5 q6 q7
        try simp only [Act.put, List.setIfInBounds_toArray, List.set_cons_succ, List.set_cons_zero]
        go_wp2_with fail
        go_roundw
        case rel =>
          refine ⟨k + 1, by omega, by go_num, .slice (some ⟨gS, 0, none⟩) (k + 1) capS, .slice (some ⟨gQ, 0, none⟩) (k + 1) capQ, ?_, ?_, ?_, .inr (by simpa [Value.ownBlock] using nGQ), (Only.set _ _ _ _).blk rb4 (by omega), (Only.set w4 lo12 4 _).ext x4e (by omega), ?_⟩
          · exact HB4.out.set_ 4 _
          · have h := own_only HS4.out (Only.set w4 lo12 4 (.slice (some ⟨gQ, 0, none⟩) (k + 1) capQ)) (by simpa [Value.ownBlock] using nGb)
            rw [show decS l (k + 1) = decS l k ++ [p0 * 256 + p1] by simp only [decS, List.range_succ, List.map_append, List.map_cons, List.map_nil]; rw [HP.out.1, HP.out.2.1, HSV.out], List.map_append]
            exact h
          · have h := own_only HQ4.out (Only.set w4 lo12 4 (.slice (some ⟨gQ, 0, none⟩) (k + 1) capQ)) (by simpa [Value.ownBlock] using nQb)
            rw [show decQ l (k + 1) = decQ l k ++ [p2] by simp only [decQ, List.range_succ, List.map_append, List.map_cons, List.map_nil]; rw [HP.out.2.2], List.map_append]
            exact h
          · simp [World.setCell]; omega
        case measure => simp [intOf]; omega
    · obtain rfl : k = m := by omega
      obtain ⟨AS, cS, rfl, hcS, hmS, rS⟩ := own_reads oS
      obtain ⟨AQ, cQ, rfl, hcQ, hmQ, rQ⟩ := own_reads oQ
      have t7 := byt_some HE7.out
      have hraw : decRaw l = ⟨x2 * 256 + x3, x4 * 256 + x5, x6 == 1, decS l k, decQ l k⟩ := by
        unfold decRaw
        rw [byt_some HE2.out, byt_some HE3.out, byt_some HE4.out, byt_some HE5.out, byt_some HE6.out, t7]
        rfl
      have hE : decE l = checkF (decRaw l) := by
        unfold decE
        rw [if_neg (by have := HL.out; omega), if_neg (by rw [byt_some HE0.out, byt_some HE1.out]; simp), if_neg (by rw [byt_some HE6.out]; omega), if_neg (by rw [t7, HL.out]; omega), if_neg (by rw [t7, HL.out]; omega)]
      have hfr : RFr wr (decRaw l) AS AQ k k cS cQ := by
        rw [hraw]
        exact ⟨rS, rQ, by omega, by omega⟩
      have hAS : ∀ ad, AS = some ad → ad.block ≠ w.heap.size := fun ad e h => by have := (oS.lt ad.block (by rw [e]; rfl)).1; omega
      have hAQ : ∀ ad, AQ = some ad → ad.block ≠ w.heap.size := fun ad e h => by have := (oQ.lt ad.block (by rw [e]; rfl)).1; omega
      have HRAW := Lib.hid hraw; clear hraw
      have HFR := Lib.hid hfr; clear hfr
      have HE := Lib.hid hE; clear hE t7
      have HAS := Lib.hid hAS; have HAQ := Lib.hid hAQ
      clear hAS hAQ oS oQ rS rQ hne
      have c12 := hB.cell
      go_wp2_with fail
      refine (rcheck_raw (x2 * 256 + x3) (x4 * 256 + x5) (x6 == 1) (decS l k) (decQ l k) _ _ _ _ _ _ _ (by have := HFR.out; rw [HRAW.out] at this; exact this)).mono ?_
      rintro e w4 ⟨rfl, hb4⟩
      rw [← HRAW.out]
      generalize hX : checkF (decRaw l) = X
      rw [hX] at HE
      have HX := Lib.hid hX; clear hX
      have cb := (rb.ext hb4).cell
      have fb := (rb.ext hb4).frozen
      have c12' := (hB.ext hb4).cell
      clear c12
      by_cases hX0 : X = 0
      · subst hX0
        go_wp2_with fail
        have hfin : decFr l = ⟨x2 * 256 + x3, x4 * 256 + x5, x6 == 1, decS l k, decQ l k⟩ := by unfold decFr; rw [HE.out, if_pos rfl, HRAW.out]
        have s5 : Only w.heap.size w4 _ := ((((Only.set w4 w.heap.size 0 (.int .i64 (x2 * 256 + x3))).trans (Only.set _ w.heap.size 1 (.int .i64 (x4 * 256 + x5)))).trans (Only.set _ w.heap.size 2 (.bool (x6 == 1)))).trans (Only.set _ w.heap.size 3 (.slice AS k cS))).trans (Only.set _ w.heap.size 4 (.slice AQ k cQ))
        have hb5 : Blk _ w.heap.size 29 _ := (((((rb.ext hb4).set_ 0 (.int .i64 (x2 * 256 + x3))).set_ 1 (.int .i64 (x4 * 256 + x5))).set_ 2 (.bool (x6 == 1))).set_ 3 (.slice AS k cS)).set_ 4 (.slice AQ k cQ)
        have cb5 := hb5.cell
        refine bodyPost_ret (v := .tuple #[.agg #[.int .i64 (x2 * 256 + x3), .int .i64 (x4 * 256 + x5), .bool (x6 == 1), .slice AS k cS, .slice AQ k cQ], .int .i64 0]) (by simp [results, Try.results21, go_sem, cb5]) rfl ?_
        refine ⟨AS, AQ, k, k, cS, cQ, ?_, ?_, s5.ext (hex.trans hb4) (Nat.le_refl _)⟩
        · rw [hfin, HE.out]
        · rw [show decFr l = decRaw l by rw [hfin, HRAW.out]]
          have fr := HFR.out.ext hb4
          exact ⟨s5.reads fr.hS HAS.out, s5.reads fr.hQ HAQ.out, fr.hn, fr.hm⟩
      · have hXb : (X != 0) = true := by simp [hX0]
        go_wp2_with fail
        have s5 : Only w.heap.size w4 _ := ((((Only.set w4 w.heap.size 0 (.int .i64 0)).trans (Only.set _ w.heap.size 1 (.int .i64 0))).trans (Only.set _ w.heap.size 2 (.bool false))).trans (Only.set _ w.heap.size 3 (.slice none 0 0))).trans (Only.set _ w.heap.size 4 (.slice none 0 0))
        have hb5 : Blk _ w.heap.size 29 _ := (((((rb.ext hb4).set_ 0 (.int .i64 0)).set_ 1 (.int .i64 0)).set_ 2 (.bool false)).set_ 3 (.slice none 0 0)).set_ 4 (.slice none 0 0)
        have cb5 := hb5.cell
        refine bodyPost_ret (v := .tuple #[.agg #[.int .i64 0, .int .i64 0, .bool false, .slice none 0 0, .slice none 0 0], .int .i64 X]) (by simp [results, Try.results21, go_sem, cb5]) rfl ?_
        exact dec_err HE.out hX0 (s5.ext (hex.trans hb4) (Nat.le_refl _))

set_option maxHeartbeats 1000000 in
theorem rdecode_any (A : Option Addr) (n c : Nat) (l : List Int) (w : World) (hr : Reads w w.heap.size 1 A n (l.map (.int .u8))) (hb : ∀ x ∈ l, 0 ≤ x ∧ x ≤ 255) (hn : n ≤ c) (hc : c ≤ 9223372036854775807) :
    Calls Try.prog 21 #[.slice A n c] w (DecPost l w) := by
  have hl := hr.len
  by_cases h8 : n < 8
  · have HE := Lib.hid (show decE l = 13 by unfold decE; rw [if_pos (by omega)])
    clear hl
    go_enter Try.func21, Try.ntmps21
    go_wp2_with fail
    refine bodyPost_ret (v := .tuple #[.agg #[.int .i64 0, .int .i64 0, .bool false, .slice none 0 0, .slice none 0 0], .int .i64 13]) (by simp [results, Try.results21, go_sem]) rfl (dec_err HE.out (by omega) (Ext.new _ _))
  obtain ⟨bk, off, rfl, hblk, hcells⟩ := hr.plain (by omega)
  have get : ∀ k, k < n → ∃ x, l[k]? = some x ∧ w.cell? ⟨bk, off + k, none⟩ = some (.int .u8 x) ∧ 0 ≤ x ∧ x ≤ 255 := fun k hk => by
    have hk' : k < l.length := by omega
    exact ⟨l[k], List.getElem?_eq_getElem hk', hcells k _ (by simp [hk']), hb _ (List.getElem_mem hk')⟩
  clear hcells
  obtain ⟨x0, e0, c0', b0, b0'⟩ := get 0 (by omega)
  have c0 : w.cell? ⟨bk, off, none⟩ = some (.int .u8 x0) := c0'
  clear c0'
  obtain ⟨x1, e1, c1, b1, b1'⟩ := get 1 (by omega)
  obtain ⟨x6, e6, c6, b6, b6'⟩ := get 6 (by omega)
  obtain ⟨x7, e7, c7, b7, b7'⟩ := get 7 (by omega)
  have HL := Lib.hid hl; clear hl
  have HB := Lib.hid hb; clear hb
  have HR := Lib.hid hr; clear hr
  have HG := Lib.hid get; clear get
  have y0 := byt_some e0
  have y1 := byt_some e1
  have y6 := byt_some e6
  have y7 := byt_some e7
  have HE0 := Lib.hid e0; have HE1 := Lib.hid e1; have HE6 := Lib.hid e6; have HE7 := Lib.hid e7
  clear e0 e1 e6 e7
  have a0 := cell_alloc c0
  have a1 := cell_alloc c1
  have a6 := cell_alloc c6
  have a7 := cell_alloc c7
  have q8 : (8 : Int) ≤ (n : Int) := by omega
  have Y := Lib.hid (And.intro y0 (And.intro y1 (And.intro y6 y7)))
  clear y0 y1 y6 y7
  by_cases h0 : x0 = 136
  case neg =>
    have h0' : (x0 != 136) = true := by simp [h0]
    have HE := Lib.hid (show decE l = 15 by unfold decE; rw [if_neg (by have := HL.out; omega), if_pos (by left; rw [Y.out.1]; exact h0)])
    go_enter Try.func21, Try.ntmps21
    go_wp2_with fail
    refine bodyPost_ret (v := .tuple #[.agg #[.int .i64 0, .int .i64 0, .bool false, .slice none 0 0, .slice none 0 0], .int .i64 15]) (by simp [results, Try.results21, go_sem]) rfl (dec_err HE.out (by omega) (Ext.new _ _))
  subst h0
  by_cases h1 : x1 = 186
  case neg =>
    have h1' : (x1 != 186) = true := by simp [h1]
    have HE := Lib.hid (show decE l = 15 by unfold decE; rw [if_neg (by have := HL.out; omega), if_pos (by right; rw [Y.out.2.1]; exact h1)])
    go_enter Try.func21, Try.ntmps21
    go_wp2_with fail
    refine bodyPost_ret (v := .tuple #[.agg #[.int .i64 0, .int .i64 0, .bool false, .slice none 0 0, .slice none 0 0], .int .i64 15]) (by simp [results, Try.results21, go_sem]) rfl (dec_err HE.out (by omega) (Ext.new _ _))
  subst h1
  by_cases h6 : 1 < x6
  · have HE := Lib.hid (show decE l = 16 by unfold decE; rw [if_neg (by have := HL.out; omega), if_neg (by rw [Y.out.1, Y.out.2.1]; simp), if_pos (by rw [Y.out.2.2.1]; exact h6)])
    go_enter Try.func21, Try.ntmps21
    go_wp2_with fail
    refine bodyPost_ret (v := .tuple #[.agg #[.int .i64 0, .int .i64 0, .bool false, .slice none 0 0, .slice none 0 0], .int .i64 16]) (by simp [results, Try.results21, go_sem]) rfl (dec_err HE.out (by omega) (Ext.new _ _))
  rcases Int.lt_trichotomy (n : Int) (8 + 3 * x7) with hlt | heq | hgt
  · have HE := Lib.hid (show decE l = 13 by unfold decE; rw [if_neg (by have := HL.out; omega), if_neg (by rw [Y.out.1, Y.out.2.1]; simp), if_neg (by rw [Y.out.2.2.1]; exact h6), if_pos (by rw [Y.out.2.2.2, HL.out]; exact hlt)])
    go_enter Try.func21, Try.ntmps21
    go_wp2_with fail
    refine bodyPost_ret (v := .tuple #[.agg #[.int .i64 0, .int .i64 0, .bool false, .slice none 0 0, .slice none 0 0], .int .i64 13]) (by simp [results, Try.results21, go_sem]) rfl (dec_err HE.out (by omega) (Ext.new _ _))
  · obtain ⟨m, rfl⟩ := Int.eq_ofNat_of_zero_le b7
    obtain rfl : n = 8 + 3 * m := by omega
    exact rdecode_mid bk off m c l w x6 HL.out hblk HG.out HE0.out HE1.out HE6.out HE7.out h6 b6 (by omega) hn hc
  · have HE := Lib.hid (show decE l = 14 by unfold decE; rw [if_neg (by have := HL.out; omega), if_neg (by rw [Y.out.1, Y.out.2.1]; simp), if_neg (by rw [Y.out.2.2.1]; exact h6), if_neg (by rw [Y.out.2.2.2, HL.out]; omega), if_pos (by rw [Y.out.2.2.2, HL.out]; exact hgt)])
    go_enter Try.func21, Try.ntmps21
    go_wp2_with fail
    refine bodyPost_ret (v := .tuple #[.agg #[.int .i64 0, .int .i64 0, .bool false, .slice none 0 0, .slice none 0 0], .int .i64 14]) (by simp [results, Try.results21, go_sem]) rfl (dec_err HE.out (by omega) (Ext.new _ _))
end Go.Proofs.Ytmlcmnbjioabiaa
