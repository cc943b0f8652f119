/- The reference's Encode. -/
import Derived.Test.YtmlcmnbjioabiaaSg
namespace Go.Proofs.Ytmlcmnbjioabiaa
open Go.RowKit

theorem elem_byte : Elem Try.prog 43 5 1 1 := Elem.of Try.underlying43 (z := .int .u8 0) (by kernel_rfl) rfl (by omega)

/-- A new slice with this content. -/
def NewBytes (l : List Int) (w : World) (e : Ending) (w' : World) : Prop :=
  ∃ g cap, e = .returned (.slice (some ⟨g, 0, none⟩) l.length cap) ∧ w'.ownsRow w.heap.size 5 1 (.slice (some ⟨g, 0, none⟩) l.length cap) l.length (l.map (.int .u8)) ∧ Ext w w'

set_option maxHeartbeats 1000000 in
theorem big_any (x : Int) (hx : -9223372036854775808 ≤ x ∧ x ≤ 9223372036854775807) (w : World) : Calls Try.prog 30 #[.int .i64 x, .int .i64 2] w (NewBytes (b2 x) w) := by
  obtain ⟨hx1, hx2⟩ := hx
  go_enter Try.func30, Try.ntmps30
  go_wp2_with fail
  go_loopw [5, 6] (fun o i wr => Ext w wr ∧ ((i = .int .i64 1 ∧ o = .slice none 0 0) ∨ (i = .int .i64 0 ∧ wr.ownsRow w.heap.size 5 1 o 1 [.int .u8 (x / 256 % 256)]) ∨ (i = .int .i64 (-1) ∧ wr.ownsRow w.heap.size 5 1 o 2 [.int .u8 (x / 256 % 256), .int .u8 (x % 256)]))) (fun _ i _ => (intOf i + 1).toNat)
  case atStart => exact ⟨Ext.refl _, .inl ⟨rfl, rfl⟩⟩
  case round =>
    obtain ⟨hex, ⟨rfl, rfl⟩ | ⟨rfl, ho⟩ | ⟨rfl, ho⟩⟩ := hrel
    · have hz := hex.size
      go_wp2_with (at_builtin; refine wpList_app elem_byte rfl (.tmp 13) (.tmp 20) rfl w.heap.size (.slice none 0 0) 0 [] (by rfl) (World.ownsRow_nil _ _ _ _) wr.heap.size 1 1 [.int .u8 (x / 256 % 256)] (by rfl) (Blk.new _ _ _) rfl (by simp [Value.oneCell']) (by omega) (by omega) (by omega) (by simp; omega) ?_)
      intro g cap w2 o2 gr2 _ _
      have HO := Lib.hid o2; clear o2
      try simp only [Act.put, List.setIfInBounds_toArray, List.set_cons_succ, List.set_cons_zero]
      go_wp2_with fail
      go_roundw
      case rel => exact ⟨own_grown gr2 (hex.alloc _) (fun g hg => by cases hg), .inr (.inl ⟨rfl, HO.out⟩)⟩
      case measure => simp [intOf]
    · have hz := hex.size
      have HO := Lib.hid ho; clear ho
      go_wp2_with (at_builtin; refine wpList_app elem_byte rfl (.tmp 13) (.tmp 20) rfl w.heap.size _ 1 _ (by rfl) (HO.out.alloc _) wr.heap.size 1 1 [.int .u8 (x % 256)] (by rfl) (Blk.new _ _ _) rfl (by simp [Value.oneCell']) (by omega) (by omega) (by omega) (by simp; omega) ?_)
      intro g cap w2 o2 gr2 _ _
      have HO2 := Lib.hid o2; clear o2
      try simp only [Act.put, List.setIfInBounds_toArray, List.set_cons_succ, List.set_cons_zero]
      go_wp2_with fail
      go_roundw
      case rel => exact ⟨own_grown gr2 (hex.alloc _) (fun g hg => (HO.out.lt g hg).1), .inr (.inr ⟨rfl, HO2.out⟩)⟩
      case measure => simp [intOf]
    · have HO := Lib.hid ho; clear ho
      go_wp2_with fail
      go_ret
      obtain ⟨g, cap, hv, _, _⟩ := HO.out.form (by omega)
      refine ⟨g, cap, ?_, ?_, hex⟩
      · exact congrArg Ending.returned hv
      · have := HO.out; rw [hv] at this; exact this

theorem own_reads' {w : World} {base : Nat} {e : TypeId} {size n g cap : Nat} {xs : List Value} (h : w.ownsRow base e size (.slice (some ⟨g, 0, none⟩) n cap) n xs) : Reads w w.heap.size size (some ⟨g, 0, none⟩) n xs := by
  obtain ⟨A, c, hv, _, _, hr⟩ := own_reads h
  injection hv with h1
  subst h1
  exact hr

theorem checkF_bounds {f : Fr} (h : checkF f = 0) : ∀ (k : Nat) (x y : Int), f.S[k]? = some x → f.Q[k]? = some y → (-16383 ≤ x ∧ x ≤ 16383) ∧ (0 ≤ y ∧ y ≤ 255) := by
  have key : ∀ (S Q : List Int), checkList S Q = 0 → ∀ (k : Nat) (x y : Int), S[k]? = some x → Q[k]? = some y → (-16383 ≤ x ∧ x ≤ 16383) ∧ (0 ≤ y ∧ y ≤ 255) := by
    intro S
    induction S with
    | nil => intro Q _ k x y hx; simp at hx
    | cons s r ih =>
      intro Q hq k x y hx hy
      cases Q with
      | nil => simp at hy
      | cons q t =>
        unfold checkList at hq
        split at hq
        · cases hq
        · rename_i hb
          simp [btw] at hb
          cases k with
          | zero => simp at hx hy; subst hx hy; omega
          | succ k => exact ih t hq k x y (by simpa using hx) (by simpa using hy)
  unfold checkF at h
  split at h
  · cases h
  · split at h
    · cases h
    · exact key _ _ h

set_option maxHeartbeats 1000000 in
theorem rencode_true (unit count : Int) (S Q : List Int) (A B : Option Addr) (n m c d : Nat) (w : World) (hf : RFr w ⟨unit, count, true, S, Q⟩ A B n m c d) (hok : checkF ⟨unit, count, true, S, Q⟩ = 0) :
    Calls Try.prog 19 #[.agg #[.int .i64 unit, .int .i64 count, .bool true, .slice A n c, .slice B m d]] w fun e w' => ∃ D k, e = .returned (.tuple #[.slice D (8 + 3 * n) k, .int .i64 0]) ∧ Ext w w' ∧ Reads w' w'.heap.size 1 D (8 + 3 * n) ((encF ⟨unit, count, true, S, Q⟩).map (.int .u8)) := by
  have hz := checkF_zero hok
  have hbd := checkF_bounds hok
  have eS := hf.hS.len
  have eQ := hf.hQ.len
  dsimp only at hz eS eQ hbd
  have hn8 : n ≤ 8 := by omega
  obtain rfl : n = m := by omega
  have hu1 : 0 ≤ unit := by omega
  have hu2 : unit ≤ 999 := by omega
  have hc1 : 0 ≤ count := by omega
  have hc2 : count ≤ 599 := by omega
  have HS := Lib.hid eS; have HQ := Lib.hid eQ
  have HBD := Lib.hid hbd
  clear eS eQ hz hbd
  have HF := Lib.hid hf; clear hf
  have H0 := Lib.hid hok; clear hok
  go_enter Try.func19, Try.ntmps19
  go_wp2_with fail
  refine (rcheck_raw unit count _ S Q A B n n c d _ (HF.out.ext (Ext.new _ _))).mono ?_
  rintro e w1 ⟨rfl, hb1⟩
  rw [H0.out]
  have bb := ((Blk.new w 29 _).ext hb1)
  have b0 := bb.cell
  have hz1' := hb1.lt
  have HF1 := Lib.hid (HF.out.ext ((Ext.new _ _).trans hb1))
  have ew1 : Ext w w1 := (Ext.new _ _).trans hb1
  go_wp2_with fail
  refine (big_any unit ⟨by omega, by omega⟩ _).mono ?_
  rintro e w2 ⟨g2, cap2, rfl, o2, x2⟩
  have oh : w2.ownsRow w1.heap.size 5 1 (.slice (some ⟨w1.heap.size, 0, none⟩) 2 2) 2 [.int .u8 136, .int .u8 186] := own_ext (World.ownsRow_lit w1 #[.int .u8 136, .int .u8 186] 2 (Nat.le_refl _) (by unfold maxLen; omega) rfl) x2
  have s2 := x2.size
  simp at s2
  go_wp2_with (at_builtin; refine wpList_appR elem_byte rfl (.tmp 12) (.tmp 15) rfl w1.heap.size _ 2 _ (by rfl) oh _ 2 _ _ (by rfl) (own_reads' o2) (by simp [Value.oneCell', b2]) (by omega) (by omega) (by omega) (by omega) ?_)
  intro g3 cap3 w3 o3 gr3 _ lt3
  have hno : ∀ g, w1.heap.size ≤ g → (some g : Option Nat) ≠ some w.heap.size := fun g hg e => by injection e with e; omega
  have bb3 : Blk w3 w.heap.size 29 _ := grown_blk gr3 ((bb.alloc _).ext x2) (hno _ (Nat.le_refl _))
  have x3 : Ext w1 w3 := own_grown gr3 ((Ext.new _ _).trans x2) (fun g hg => (oh.lt g hg).1)
  have HO3 := Lib.hid o3
  clear o3 gr3 oh o2 b0
  have c3 := bb3.cell
  have z3 := x3.size
  try simp only [Act.put, List.setIfInBounds_toArray, List.set_cons_succ, List.set_cons_zero]
  go_wp2_with fail
  refine (big_any count ⟨by omega, by omega⟩ _).mono ?_
  rintro e w4 ⟨g4, cap4, rfl, o4, x4⟩
  have oh4 := own_ext HO3.out x4
  have z4 := x4.size
  go_wp2_with (at_builtin; refine wpList_appR elem_byte rfl (.tmp 17) (.tmp 20) rfl w1.heap.size _ 4 _ (by rfl) oh4 _ 2 _ _ (by rfl) (own_reads' o4) (by simp [Value.oneCell', b2]) (by omega) (by omega) (by omega) (by omega) ?_)
  intro g5 cap5 w5 o5 gr5 _ lt5
  have bb5 := grown_blk gr5 (bb3.ext x4) (hno _ (oh4.lt _ rfl).1)
  have x5 : Ext w1 w5 := own_grown gr5 (x3.trans x4) (fun g hg => (oh4.lt g hg).1)
  have HO5 := Lib.hid o5
  clear o5 gr5 oh4 o4 c3 bb3
  have c5 := bb5.cell
  have z5 := x5.size
  try simp only [Act.put, List.setIfInBounds_toArray, List.set_cons_succ, List.set_cons_zero]
  go_wp2_with (at_builtin; refine wpList_app elem_byte rfl (.tmp 24) (.tmp 25) rfl w1.heap.size _ 6 _ (by rfl) (HO5.out.alloc _) w5.heap.size 1 1 [.int .u8 1] (by rfl) (Blk.new _ _ _) rfl (by simp [Value.oneCell']) (by omega) (by omega) (by omega) (by simp; omega) ?_)
  intro g6 cap6 w6 o6 gr6 _ lt6
  have bb6 := grown_blk gr6 (bb5.alloc _) (hno _ (HO5.out.lt _ rfl).1)
  have x6 : Ext w1 w6 := own_grown gr6 (x5.alloc _) (fun g hg => (HO5.out.lt g hg).1)
  have HO6 := Lib.hid o6
  clear o6 gr6 c5 bb5 HO5
  have c6 := bb6.cell
  have z6 := x6.size
  try simp only [Act.put, List.setIfInBounds_toArray, List.set_cons_succ, List.set_cons_zero]
  go_wp2_with (at_builtin; refine wpList_app elem_byte rfl (.tmp 30) (.tmp 35) rfl w1.heap.size _ 7 _ (by rfl) (HO6.out.alloc _) w6.heap.size 1 1 [.int .u8 (n : Int)] (by rfl) (Blk.new _ _ _) rfl (by simp [Value.oneCell']) (by omega) (by omega) (by omega) (by simp; omega) ?_)
  intro g7 cap7 w7 o7 gr7 _ lt7
  have bb7 := grown_blk gr7 (bb6.alloc _) (hno _ (HO6.out.lt _ rfl).1)
  have x7 : Ext w1 w7 := own_grown gr7 (x6.alloc _) (fun g hg => (HO6.out.lt g hg).1)
  have HO7 := Lib.hid o7
  clear o7 gr7 c6 bb6 HO6
  have z7 := x7.size
  try simp only [Act.put, List.setIfInBounds_toArray, List.set_cons_succ, List.set_cons_zero]
  go_wp2_with fail
  go_loopw [5, 6] (fun b i wr => ∃ k : Nat, k ≤ n ∧ i = .int .i64 k ∧ wr.ownsRow w1.heap.size 5 1 b (8 + 3 * k) ((encHead ⟨unit, count, true, S, Q⟩ ++ encBody (S.take k) (Q.take k)).map (.int .u8)) ∧
      Blk wr w.heap.size 29 #[.int .i64 unit, .int .i64 count, .bool true, .slice A n c, .slice B n d] ∧ Ext w1 wr) (fun _ i _ => n - (intOf i).toNat)
  case atStart =>
    refine ⟨0, Nat.zero_le _, rfl, ?_, bb7, x7⟩
    have := HO7.out
    simpa [encHead, encBody, b2, HS.out] using this
  case round =>
    obtain ⟨k, hk, rfl, hown, hblk, hex⟩ := hrel
    have zr := hex.size
    have cr := hblk.cell
    clear bb7 HO7
    by_cases hlt : k < n
    · obtain ⟨ad, x, rfl, hb, hx, hcx⟩ := (HF1.out.hS.below hex).int_at hlt
      obtain ⟨bd, y, rfl, hb', hy, hcy⟩ := (HF1.out.hQ.below hex).int_at hlt
      have hxy := HBD.out k x y hx hy
      have HX := Lib.hid hx; clear hx
      have HY := Lib.hid hy; clear hy
      have HOW := Lib.hid hown; clear hown
      have hy1 : 0 ≤ y := by omega
      have hy2 : y ≤ 255 := by omega
      go_wp2_with fail
      refine (big_any x ⟨by omega, by omega⟩ _).mono ?_
      rintro e w8 ⟨g8, cap8, rfl, o8, x8⟩
      have oh8 := own_ext HOW.out x8
      have z8 := x8.size
      go_wp2_with (at_builtin; refine wpList_appR elem_byte rfl (.tmp 44) (.tmp 50) rfl w1.heap.size _ (8 + 3 * k) _ (by rfl) oh8 _ 2 _ _ (by rfl) (own_reads' o8) (by simp [Value.oneCell', b2]) (by omega) (by omega) (by omega) (by omega) ?_)
      intro g9 cap9 w9 o9 gr9 _ lt9
      have bb9 := grown_blk gr9 (hblk.ext x8) (fun e => hno _ (oh8.lt _ e).1 rfl)
      have x9 : Ext w1 w9 := own_grown gr9 (hex.trans x8) (fun g hg => (oh8.lt g hg).1)
      have HO9 := Lib.hid o9
      clear o9 gr9 oh8 o8 cr
      have c9 := bb9.cell
      have z9 := x9.size
      have cy9 : w9.cell? (bd.add k) = some (.int .i64 y) := (x9.cell (p := bd.add k) (by rw [block_of_add]; exact hb')).trans ((hex.cell (p := bd.add k) (by rw [block_of_add]; exact hb')).symm.trans hcy)
      try simp only [Act.put, List.setIfInBounds_toArray, List.set_cons_succ, List.set_cons_zero]
      go_wp2_with (at_builtin; refine wpList_app elem_byte rfl (.tmp 52) (.tmp 59) rfl w1.heap.size _ (8 + 3 * k + 2) _ (by rfl) (HO9.out.alloc _) w9.heap.size 1 1 [.int .u8 y] (by rfl) (Blk.new _ _ _) rfl (by simp [Value.oneCell']) (by omega) (by omega) (by omega) (by simp; omega) ?_)
      intro g10 cap10 w10 o10 gr10 _ lt10
      have bb10 := grown_blk gr10 (bb9.alloc _) (fun e => hno _ (HO9.out.lt _ e).1 rfl)
      have x10 : Ext w1 w10 := own_grown gr10 (x9.alloc _) (fun g hg => (HO9.out.lt g hg).1)
      have HO10 := Lib.hid o10
      clear o10 gr10 c9 bb9 HO9
      try simp only [Act.put, List.setIfInBounds_toArray, List.set_cons_succ, List.set_cons_zero]
      go_wp2_with fail
      go_roundw
      case rel =>
        refine ⟨k + 1, by omega, by go_num, ?_, bb10, x10⟩
        have := HO10.out
        rw [encBody_snoc HX.out HY.out, show 8 + 3 * (k + 1) = 8 + 3 * k + 2 + 1 by omega, Int.emod_eq_of_lt hy1 (by omega : y < 256)]
        simpa [b2] using this
      case measure => simp [intOf]; omega
    · obtain rfl : k = n := by omega
      have HOW := Lib.hid hown; clear hown
      go_wp2_with fail
      go_ret2
      obtain ⟨g, cap, hv, _, _⟩ := HOW.out.form (by omega)
      have hr := own_reads' (by have := HOW.out; rw [hv] at this; exact this)
      refine ⟨some ⟨g, 0, none⟩, cap, ?_, ew1.trans hex, ?_⟩
      · exact congrArg (fun v => Ending.returned (.tuple #[v, .int .i64 0])) hv
      · simpa [encF, List.take_of_length_le, HS.out, HQ.out] using hr
set_option maxHeartbeats 1000000 in
theorem rencode_false (unit count : Int) (S Q : List Int) (A B : Option Addr) (n m c d : Nat) (w : World) (hf : RFr w ⟨unit, count, false, S, Q⟩ A B n m c d) (hok : checkF ⟨unit, count, false, S, Q⟩ = 0) :
    Calls Try.prog 19 #[.agg #[.int .i64 unit, .int .i64 count, .bool false, .slice A n c, .slice B m d]] w fun e w' => ∃ D k, e = .returned (.tuple #[.slice D (8 + 3 * n) k, .int .i64 0]) ∧ Ext w w' ∧ Reads w' w'.heap.size 1 D (8 + 3 * n) ((encF ⟨unit, count, false, S, Q⟩).map (.int .u8)) := by
  have hz := checkF_zero hok
  have hbd := checkF_bounds hok
  have eS := hf.hS.len
  have eQ := hf.hQ.len
  dsimp only at hz eS eQ hbd
  have hn8 : n ≤ 8 := by omega
  obtain rfl : n = m := by omega
  have hu1 : 0 ≤ unit := by omega
  have hu2 : unit ≤ 999 := by omega
  have hc1 : 0 ≤ count := by omega
  have hc2 : count ≤ 599 := by omega
  have HS := Lib.hid eS; have HQ := Lib.hid eQ
  have HBD := Lib.hid hbd
  clear eS eQ hz hbd
  have HF := Lib.hid hf; clear hf
  have H0 := Lib.hid hok; clear hok
  go_enter Try.func19, Try.ntmps19
  go_wp2_with fail
  refine (rcheck_raw unit count _ S Q A B n n c d _ (HF.out.ext (Ext.new _ _))).mono ?_
  rintro e w1 ⟨rfl, hb1⟩
  rw [H0.out]
  have bb := ((Blk.new w 29 _).ext hb1)
  have b0 := bb.cell
  have hz1' := hb1.lt
  have HF1 := Lib.hid (HF.out.ext ((Ext.new _ _).trans hb1))
  have ew1 : Ext w w1 := (Ext.new _ _).trans hb1
  go_wp2_with fail
  refine (big_any unit ⟨by omega, by omega⟩ _).mono ?_
  rintro e w2 ⟨g2, cap2, rfl, o2, x2⟩
  have oh : w2.ownsRow w1.heap.size 5 1 (.slice (some ⟨w1.heap.size, 0, none⟩) 2 2) 2 [.int .u8 136, .int .u8 186] := own_ext (World.ownsRow_lit w1 #[.int .u8 136, .int .u8 186] 2 (Nat.le_refl _) (by unfold maxLen; omega) rfl) x2
  have s2 := x2.size
  simp at s2
  go_wp2_with (at_builtin; refine wpList_appR elem_byte rfl (.tmp 12) (.tmp 15) rfl w1.heap.size _ 2 _ (by rfl) oh _ 2 _ _ (by rfl) (own_reads' o2) (by simp [Value.oneCell', b2]) (by omega) (by omega) (by omega) (by omega) ?_)
  intro g3 cap3 w3 o3 gr3 _ lt3
  have hno : ∀ g, w1.heap.size ≤ g → (some g : Option Nat) ≠ some w.heap.size := fun g hg e => by injection e with e; omega
  have bb3 : Blk w3 w.heap.size 29 _ := grown_blk gr3 ((bb.alloc _).ext x2) (hno _ (Nat.le_refl _))
  have x3 : Ext w1 w3 := own_grown gr3 ((Ext.new _ _).trans x2) (fun g hg => (oh.lt g hg).1)
  have HO3 := Lib.hid o3
  clear o3 gr3 oh o2 b0
  have c3 := bb3.cell
  have z3 := x3.size
  try simp only [Act.put, List.setIfInBounds_toArray, List.set_cons_succ, List.set_cons_zero]
  go_wp2_with fail
  refine (big_any count ⟨by omega, by omega⟩ _).mono ?_
  rintro e w4 ⟨g4, cap4, rfl, o4, x4⟩
  have oh4 := own_ext HO3.out x4
  have z4 := x4.size
  go_wp2_with (at_builtin; refine wpList_appR elem_byte rfl (.tmp 17) (.tmp 20) rfl w1.heap.size _ 4 _ (by rfl) oh4 _ 2 _ _ (by rfl) (own_reads' o4) (by simp [Value.oneCell', b2]) (by omega) (by omega) (by omega) (by omega) ?_)
  intro g5 cap5 w5 o5 gr5 _ lt5
  have bb5 := grown_blk gr5 (bb3.ext x4) (hno _ (oh4.lt _ rfl).1)
  have x5 : Ext w1 w5 := own_grown gr5 (x3.trans x4) (fun g hg => (oh4.lt g hg).1)
  have HO5 := Lib.hid o5
  clear o5 gr5 oh4 o4 c3 bb3
  have c5 := bb5.cell
  have z5 := x5.size
  try simp only [Act.put, List.setIfInBounds_toArray, List.set_cons_succ, List.set_cons_zero]
  go_wp2_with (at_builtin; refine wpList_app elem_byte rfl (.tmp 27) (.tmp 28) rfl w1.heap.size _ 6 _ (by rfl) (HO5.out.alloc _) w5.heap.size 1 1 [.int .u8 0] (by rfl) (Blk.new _ _ _) rfl (by simp [Value.oneCell']) (by omega) (by omega) (by omega) (by simp; omega) ?_)
  intro g6 cap6 w6 o6 gr6 _ lt6
  have bb6 := grown_blk gr6 (bb5.alloc _) (hno _ (HO5.out.lt _ rfl).1)
  have x6 : Ext w1 w6 := own_grown gr6 (x5.alloc _) (fun g hg => (HO5.out.lt g hg).1)
  have HO6 := Lib.hid o6
  clear o6 gr6 c5 bb5 HO5
  have c6 := bb6.cell
  have z6 := x6.size
  try simp only [Act.put, List.setIfInBounds_toArray, List.set_cons_succ, List.set_cons_zero]
  go_wp2_with (at_builtin; refine wpList_app elem_byte rfl (.tmp 30) (.tmp 35) rfl w1.heap.size _ 7 _ (by rfl) (HO6.out.alloc _) w6.heap.size 1 1 [.int .u8 (n : Int)] (by rfl) (Blk.new _ _ _) rfl (by simp [Value.oneCell']) (by omega) (by omega) (by omega) (by simp; omega) ?_)
  intro g7 cap7 w7 o7 gr7 _ lt7
  have bb7 := grown_blk gr7 (bb6.alloc _) (hno _ (HO6.out.lt _ rfl).1)
  have x7 : Ext w1 w7 := own_grown gr7 (x6.alloc _) (fun g hg => (HO6.out.lt g hg).1)
  have HO7 := Lib.hid o7
  clear o7 gr7 c6 bb6 HO6
  have z7 := x7.size
  try simp only [Act.put, List.setIfInBounds_toArray, List.set_cons_succ, List.set_cons_zero]
  go_wp2_with fail
  go_loopw [5, 6] (fun b i wr => ∃ k : Nat, k ≤ n ∧ i = .int .i64 k ∧ wr.ownsRow w1.heap.size 5 1 b (8 + 3 * k) ((encHead ⟨unit, count, false, S, Q⟩ ++ encBody (S.take k) (Q.take k)).map (.int .u8)) ∧
      Blk wr w.heap.size 29 #[.int .i64 unit, .int .i64 count, .bool false, .slice A n c, .slice B n d] ∧ Ext w1 wr) (fun _ i _ => n - (intOf i).toNat)
  case atStart =>
    refine ⟨0, Nat.zero_le _, rfl, ?_, bb7, x7⟩
    have := HO7.out
    simpa [encHead, encBody, b2, HS.out] using this
  case round =>
    obtain ⟨k, hk, rfl, hown, hblk, hex⟩ := hrel
    have zr := hex.size
    have cr := hblk.cell
    clear bb7 HO7
    by_cases hlt : k < n
    · obtain ⟨ad, x, rfl, hb, hx, hcx⟩ := (HF1.out.hS.below hex).int_at hlt
      obtain ⟨bd, y, rfl, hb', hy, hcy⟩ := (HF1.out.hQ.below hex).int_at hlt
      have hxy := HBD.out k x y hx hy
      have HX := Lib.hid hx; clear hx
      have HY := Lib.hid hy; clear hy
      have HOW := Lib.hid hown; clear hown
      have hy1 : 0 ≤ y := by omega
      have hy2 : y ≤ 255 := by omega
      go_wp2_with fail
      refine (big_any x ⟨by omega, by omega⟩ _).mono ?_
      rintro e w8 ⟨g8, cap8, rfl, o8, x8⟩
      have oh8 := own_ext HOW.out x8
      have z8 := x8.size
      go_wp2_with (at_builtin; refine wpList_appR elem_byte rfl (.tmp 44) (.tmp 50) rfl w1.heap.size _ (8 + 3 * k) _ (by rfl) oh8 _ 2 _ _ (by rfl) (own_reads' o8) (by simp [Value.oneCell', b2]) (by omega) (by omega) (by omega) (by omega) ?_)
      intro g9 cap9 w9 o9 gr9 _ lt9
      have bb9 := grown_blk gr9 (hblk.ext x8) (fun e => hno _ (oh8.lt _ e).1 rfl)
      have x9 : Ext w1 w9 := own_grown gr9 (hex.trans x8) (fun g hg => (oh8.lt g hg).1)
      have HO9 := Lib.hid o9
      clear o9 gr9 oh8 o8 cr
      have c9 := bb9.cell
      have z9 := x9.size
      have cy9 : w9.cell? (bd.add k) = some (.int .i64 y) := (x9.cell (p := bd.add k) (by rw [block_of_add]; exact hb')).trans ((hex.cell (p := bd.add k) (by rw [block_of_add]; exact hb')).symm.trans hcy)
      try simp only [Act.put, List.setIfInBounds_toArray, List.set_cons_succ, List.set_cons_zero]
      go_wp2_with (at_builtin; refine wpList_app elem_byte rfl (.tmp 52) (.tmp 59) rfl w1.heap.size _ (8 + 3 * k + 2) _ (by rfl) (HO9.out.alloc _) w9.heap.size 1 1 [.int .u8 y] (by rfl) (Blk.new _ _ _) rfl (by simp [Value.oneCell']) (by omega) (by omega) (by omega) (by simp; omega) ?_)
      intro g10 cap10 w10 o10 gr10 _ lt10
      have bb10 := grown_blk gr10 (bb9.alloc _) (fun e => hno _ (HO9.out.lt _ e).1 rfl)
      have x10 : Ext w1 w10 := own_grown gr10 (x9.alloc _) (fun g hg => (HO9.out.lt g hg).1)
      have HO10 := Lib.hid o10
      clear o10 gr10 c9 bb9 HO9
      try simp only [Act.put, List.setIfInBounds_toArray, List.set_cons_succ, List.set_cons_zero]
      go_wp2_with fail
      go_roundw
      case rel =>
        refine ⟨k + 1, by omega, by go_num, ?_, bb10, x10⟩
        have := HO10.out
        rw [encBody_snoc HX.out HY.out, show 8 + 3 * (k + 1) = 8 + 3 * k + 2 + 1 by omega, Int.emod_eq_of_lt hy1 (by omega : y < 256)]
        simpa [b2] using this
      case measure => simp [intOf]; omega
    · obtain rfl : k = n := by omega
      have HOW := Lib.hid hown; clear hown
      go_wp2_with fail
      go_ret2
      obtain ⟨g, cap, hv, _, _⟩ := HOW.out.form (by omega)
      have hr := own_reads' (by have := HOW.out; rw [hv] at this; exact this)
      refine ⟨some ⟨g, 0, none⟩, cap, ?_, ew1.trans hex, ?_⟩
      · exact congrArg (fun v => Ending.returned (.tuple #[v, .int .i64 0])) hv
      · simpa [encF, List.take_of_length_le, HS.out, HQ.out] using hr

theorem rencode_err (unit count : Int) (sy : Bool) (S Q : List Int) (A B : Option Addr) (n m c d : Nat) (w : World) (hf : RFr w ⟨unit, count, sy, S, Q⟩ A B n m c d) (hok : checkF ⟨unit, count, sy, S, Q⟩ ≠ 0) :
    Calls Try.prog 19 #[.agg #[.int .i64 unit, .int .i64 count, .bool sy, .slice A n c, .slice B m d]] w fun e w' => e = .returned (.tuple #[.slice none 0 0, .int .i64 (checkF ⟨unit, count, sy, S, Q⟩)]) ∧ Ext w w' := by
  have HF := Lib.hid hf; clear hf
  generalize hX : checkF ⟨unit, count, sy, S, Q⟩ = X at *
  have HX := Lib.hid hX; clear hX
  have h1 : (X != 0) = true := by simpa using hok
  go_enter Try.func19, Try.ntmps19
  go_wp2_with fail
  refine (rcheck_raw unit count _ S Q A B n m c d _ (HF.out.ext (Ext.new _ _))).mono ?_
  rintro e w1 ⟨rfl, hb1⟩
  rw [HX.out]
  go_wp2_with fail
  go_ret2
  exact ⟨rfl, (Ext.new _ _).trans hb1⟩
end Go.Proofs.Ytmlcmnbjioabiaa
