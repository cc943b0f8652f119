/- Decode. -/
import Derived.Test.YtmlcmnbjioabiaaSh
namespace Go.Proofs.Ytmlcmnbjioabiaa
open Go.RowKit

theorem cell_alloc {w : World} {p : Addr} {v : Value} (h : w.cell? p = some v) (o : Obj) : (w.alloc o).cell? p = some v := (Ext.new w o).cell_ h

set_option maxHeartbeats 400000 in
theorem compare_any (x y : Int) (w : World) : Calls Try.prog 31 #[.int .i64 x, .int .i64 y] w fun e w' => e = .returned (.int .i64 (if x < y then -1 else if y < x then 1 else 0)) ∧ w = w' := by
  rcases Int.lt_trichotomy x y with h | h | h
  · go_enter Try.func31, Try.ntmps31
    go_wp2
    go_ret
    exact ⟨ret_int rfl, rfl⟩
  · subst h
    go_enter Try.func31, Try.ntmps31
    go_wp2
    go_ret
    exact ⟨ret_int (by simp), rfl⟩
  · have h' : ¬ x < y := by omega
    go_enter Try.func31, Try.ntmps31
    go_wp2
    go_ret
    exact ⟨ret_int rfl, rfl⟩

theorem nat_or_byte (a b : Nat) (hb : b < 256) : a * 256 ||| b = a * 256 + b := by
  have := Nat.shiftLeft_add_eq_or_of_lt (i := 8) (b := b) (by omega) a
  rw [Nat.shiftLeft_eq] at this
  exact this.symm
theorem ofInt_i64 (a : Nat) (ha : a < 9223372036854775808) : (BitVec.ofInt 64 (a : Int)).toNat = a := by
  rw [BitVec.ofInt_natCast, BitVec.toNat_ofNat]; exact Nat.mod_eq_of_lt (by omega)
theorem or_byte_i64 (a b : Int) (ha : 0 ≤ a) (ha' : a ≤ 65535) (hb : 0 ≤ b) (hb' : b ≤ 255) : bits .or .i64 (a * 256) b = a * 256 + b := by
  obtain ⟨a, rfl⟩ := Int.eq_ofNat_of_zero_le ha
  obtain ⟨b, rfl⟩ := Int.eq_ofNat_of_zero_le hb
  have e : ((a : Int) * 256) = ((a * 256 : Nat) : Int) := by omega
  rw [e]
  show IntKind.i64.wrap ((BitVec.ofInt 64 ((a * 256 : Nat) : Int) ||| BitVec.ofInt 64 (b : Int)).toNat : Int) = _
  rw [BitVec.toNat_or, ofInt_i64 _ (by omega), ofInt_i64 _ (by omega), nat_or_byte a b (by omega), IntKind.wrap_i64]
  omega
theorem ofInt_u16 (a : Nat) (ha : a < 65536) : (BitVec.ofInt 16 (a : Int)).toNat = a := by
  rw [BitVec.ofInt_natCast, BitVec.toNat_ofNat]; exact Nat.mod_eq_of_lt (by omega)
theorem or_byte_u16 (a b : Int) (ha : 0 ≤ a) (ha' : a ≤ 255) (hb : 0 ≤ b) (hb' : b ≤ 255) : bits .or .u16 (a * 256) b = a * 256 + b := by
  obtain ⟨a, rfl⟩ := Int.eq_ofNat_of_zero_le ha
  obtain ⟨b, rfl⟩ := Int.eq_ofNat_of_zero_le hb
  have e : ((a : Int) * 256) = ((a * 256 : Nat) : Int) := by omega
  rw [e]
  show IntKind.u16.wrap ((BitVec.ofInt 16 ((a * 256 : Nat) : Int) ||| BitVec.ofInt 16 (b : Int)).toNat : Int) = _
  rw [BitVec.toNat_or, ofInt_u16 _ (by omega), ofInt_u16 _ (by omega), nat_or_byte a b (by omega), IntKind.wrap_u16]
  omega
theorem i16_s16 (u : Int) (h : 0 ≤ u) (h' : u ≤ 65535) : IntKind.i16.wrap u = s16 u := by
  unfold s16
  simp [IntKind.wrap, IntKind.bits, IntKind.signed]
  omega

theorem s16_bd {u : Int} (h : 0 ≤ u) (h' : u ≤ 65535) : -32768 ≤ s16 u ∧ s16 u ≤ 32767 := by unfold s16; split <;> omega
/-- What the Decodes return. -/
def DecPost (l : List Int) (w : World) (e : Ending) (w' : World) : Prop :=
  ∃ A B n m c d, e = .returned (.tuple #[.agg #[.int .i64 (decFr l).unit, .int .i64 (decFr l).count, .bool (decFr l).sy, .slice A n c, .slice B m d], .int .i64 (decE l)]) ∧ RFr w' (decFr l) A B n m c d ∧ Ext w w'

theorem dec_err {l : List Int} {w w' : World} {E : Int} (hE : decE l = E) (h0 : E ≠ 0) (hx : Ext w w') : DecPost l w (.returned (.tuple #[.agg #[.int .i64 0, .int .i64 0, .bool false, .slice none 0 0, .slice none 0 0], .int .i64 E])) w' := by
  have : decFr l = zeroFr := by unfold decFr; rw [hE, if_neg h0]
  refine ⟨none, none, 0, 0, 0, 0, ?_, ?_, hx⟩
  · rw [this, hE]; rfl
  · rw [this]; exact ⟨Reads.none_, Reads.none_, by omega, by omega⟩

theorem byt_some {l : List Int} {k : Nat} {x : Int} (h : l[k]? = some x) : byt l k = x := by simp [byt, h]

def phiDec (n : Nat) : Nat → Nat → Nat → Value → World → Prop
  | 25, lo, hi, v, w => v = .slice (some ⟨lo, 0, none⟩) n n ∧ lo < hi ∧ Blk w lo 3 (List.replicate n (.int .i64 0)).toArray
  | 27, lo, hi, v, w => v = .slice (some ⟨lo, 0, none⟩) n n ∧ lo < hi ∧ Blk w lo 3 (List.replicate n (.int .i64 0)).toArray
  | 29, lo, hi, v, w => v = .pointer (some ⟨lo, 0, none⟩) ∧ lo < hi ∧ Blk w lo 24 #[.int .i64 0, .int .i64 0, .bool false, .slice none 0 0, .slice none 0 0]
  | _, _, _, _, _ => True
theorem phiDec_stab (n : Nat) : ∀ i lo hi v w w', phiDec n i lo hi v w → Ext w w' → phiDec n i lo hi v w' := by
  intro i lo hi v w w' h e
  unfold phiDec at *
  split <;> simp_all
  · exact h.2.2.ext e
  · exact h.2.2.ext e
  · exact h.2.2.ext e

set_option maxHeartbeats 2000000 in
theorem decode_mid (bk off m c : Nat) (l : List Int) (w : World) (x6 : Int) (hl : l.length = 8 + 3 * m) (hblk : bk < w.heap.size) (hget : ∀ k, k < 8 + 3 * m → ∃ x, l[k]? = some x ∧ w.cell? ⟨bk, off + k, none⟩ = some (.int .u8 x) ∧ 0 ≤ x ∧ x ≤ 255)
    (e0 : l[0]? = some 136) (e1 : l[1]? = some 186) (e6 : l[6]? = some x6) (e7 : l[7]? = some (m : Int)) (h6 : ¬ 1 < x6) (b6 : 0 ≤ x6) (hm : m ≤ 255) (hn : 8 + 3 * m ≤ c) (hc : c ≤ 9223372036854775807) :
    Calls Try.prog 20 #[.slice (some ⟨bk, off, none⟩) (8 + 3 * m) c] w (DecPost l w) := by
  have HG := Lib.hid hget; clear hget
  have HL := Lib.hid hl; clear hl
  have b7' : (m : Int) ≤ 255 := by omega
  obtain ⟨c0', c0e⟩ : ∃ x, l[0]? = some x ∧ w.cell? ⟨bk, off, none⟩ = some (.int .u8 x) := by obtain ⟨x, h1, h2, _⟩ := HG.out 0 (by omega); exact ⟨x, h1, h2⟩
  have c0 : w.cell? ⟨bk, off, none⟩ = some (.int .u8 136) := by obtain ⟨h1, h2⟩ := c0e; rw [e0] at h1; injection h1 with h1; rw [h1]; exact h2
  have c1 : w.cell? ⟨bk, off + 1, none⟩ = some (.int .u8 186) := by obtain ⟨x, h1, h2, _⟩ := HG.out 1 (by omega); rw [e1] at h1; injection h1 with h1; rw [h1]; exact h2
  have c6 : w.cell? ⟨bk, off + 6, none⟩ = some (.int .u8 x6) := by obtain ⟨x, h1, h2, _⟩ := HG.out 6 (by omega); rw [e6] at h1; injection h1 with h1; rw [h1]; exact h2
  have c7 : w.cell? ⟨bk, off + 7, none⟩ = some (.int .u8 (m : Int)) := by obtain ⟨x, h1, h2, _⟩ := HG.out 7 (by omega); rw [e7] at h1; injection h1 with h1; rw [h1]; exact h2
  clear c0e c0'
  have HE6 := Lib.hid e6; have HE7 := Lib.hid e7; have HE0 := Lib.hid e0; have HE1 := Lib.hid e1
  clear e0 e1 e6 e7
  have a0 := cell_alloc c0
  have a1 := cell_alloc c1
  have a6 := cell_alloc c6
  have a7 := cell_alloc c7
  obtain ⟨x2, e2, c2, b2', b2''⟩ := HG.out 2 (by omega)
  obtain ⟨x3, e3, c3, b3, b3'⟩ := HG.out 3 (by omega)
  obtain ⟨x4, e4, c4, b4, b4'⟩ := HG.out 4 (by omega)
  obtain ⟨x5, e5, c5, b5, b5'⟩ := HG.out 5 (by omega)
  have a2 := cell_alloc c2
  have a3 := cell_alloc c3
  have a4 := cell_alloc c4
  have a5 := cell_alloc c5
  have HE2 := Lib.hid e2; have HE3 := Lib.hid e3; have HE4 := Lib.hid e4; have HE5 := Lib.hid e5
  clear e2 e3 e4 e5
  have d1 : decide (8 + 3 * (m : Int) < 8) = false := by simp; omega
  have d2 : decide (1 < x6) = false := by simp; omega
  obtain ⟨i0, hi0, hz0, hz1, hz2⟩ := info_parts int_info
  have hmk := fun W => run_make (P := Try.prog) W 22 3 i0 (.int .i64 0) Try.underlying22 hi0 hz0 .i64 .i64 (m : Int) (m : Int) (by omega) (by omega) (by rw [hz2]; omega) (by omega)
  have ho1 := or_byte_i64 x2 x3 b2' (by omega) b3 b3'
  have ho2 := or_byte_i64 x4 x5 b4 (by omega) b5 b5'
  go_enter Try.func20, Try.ntmps20
  go_wp2_with fail
  refine (compare_any _ _ _).mono ?_
  rintro e w1 ⟨rfl, rfl⟩
  rw [show (if 8 + 3 * (m : Int) < 8 + 3 * (m : Int) then (-1 : Int) else if 8 + 3 * (m : Int) < 8 + 3 * (m : Int) then 1 else 0) = 0 from by simp]
  go_wp2_with fail
  have A2 := ExtOf.cell (a2 (.cells #[.int .i64 0, .int .i64 0, .bool false, .slice none 0 0, .slice none 0 0] 24))
  have A3 := ExtOf.cell (a3 (.cells #[.int .i64 0, .int .i64 0, .bool false, .slice none 0 0, .slice none 0 0] 24))
  have A4 := ExtOf.cell (a4 (.cells #[.int .i64 0, .int .i64 0, .bool false, .slice none 0 0, .slice none 0 0] 24))
  have A5 := ExtOf.cell (a5 (.cells #[.int .i64 0, .int .i64 0, .bool false, .slice none 0 0, .slice none 0 0] 24))
  have A6 := ExtOf.cell (a6 (.cells #[.int .i64 0, .int .i64 0, .bool false, .slice none 0 0, .slice none 0 0] 24))
  refine wp_region_tame 30 (fun i => i == 25 || i == 27 || i == 29) (phiDec m) (phiDec_stab _) (by kernel_rfl) (by kernel_rfl) ?_
  simp only [List.take_succ_cons, List.take_zero, List.drop_succ_cons, List.drop_zero]
  refine wpT_quiet 25 (by rfl) (by kernel_rfl) ?_
  simp only [List.take_succ_cons, List.take_zero, List.drop_succ_cons, List.drop_zero]
  repeat (go_big_quiet_step (fail))
  refine wpQuiet_nil ?_
  refine wpT_eff (by rfl) (by rfl) (by rfl) ?_ ?_
  · intro W hK
    go_simp
    rw [madeCells_one]
    exact ⟨Ext.new _ _, rfl, by simp, Blk.new _ _ _⟩
  intro v lo7 hi7 hr
  obtain ⟨W7, hW7⟩ := hr
  obtain ⟨rfl, hl7, _⟩ : phiDec m 25 lo7 hi7 v W7 := hW7.get
  clear hW7
  try simp only [Act.put, List.setIfInBounds_toArray, List.set_cons_succ, List.set_cons_zero]
  refine wpT_quiet 1 (by rfl) (by kernel_rfl) ?_
  simp only [List.take_succ_cons, List.take_zero, List.drop_succ_cons, List.drop_zero]
  repeat (go_big_quiet_step (fail))
  refine wpQuiet_nil ?_
  refine wpT_eff (by rfl) (by rfl) (by rfl) ?_ ?_
  · intro W hK
    go_simp
    rw [madeCells_one]
    exact ⟨Ext.new _ _, rfl, by simp, Blk.new _ _ _⟩
  intro v lo10 hi10 hr
  obtain ⟨W10, hW10⟩ := hr
  obtain ⟨rfl, hl10, _⟩ : phiDec m 27 lo10 hi10 v W10 := hW10.get
  clear hW10
  try simp only [Act.put, List.setIfInBounds_toArray, List.set_cons_succ, List.set_cons_zero]
  refine wpT_quiet 1 (by rfl) (by kernel_rfl) ?_
  simp only [List.take_succ_cons, List.take_zero, List.drop_succ_cons, List.drop_zero]
  repeat (go_big_quiet_step (fail))
  refine wpQuiet_nil ?_
  refine wpT_eff (by rfl) (by rfl) (by rfl) ?_ ?_
  · intro W hK
    go_simp
    exact ⟨Ext.new _ _, rfl, by simp, Blk.new _ _ _⟩
  intro v lo12 hi12 hr
  obtain ⟨W12, hW12⟩ := hr
  obtain ⟨rfl, hl12, _⟩ : phiDec m 29 lo12 hi12 v W12 := hW12.get
  clear hW12
  try simp only [Act.put, List.setIfInBounds_toArray, List.set_cons_succ, List.set_cons_zero]
  refine wpT_nil ?_
  intro w1 hK
  have k7 : Blk w1 lo7 3 _ := (hK.at_ 25 (by rfl)).2.2
  have k10 : Blk w1 lo10 3 _ := (hK.at_ 27 (by rfl)).2.2
  have k12 : Blk w1 lo12 24 _ := (hK.at_ 29 (by rfl)).2.2
  have xe : Ext _ w1 := hK.ext
  have n1 : lo7 ≠ lo10 := by rcases hK.disj 25 27 _ _ (by omega) (by rfl) (by rfl) with h | h <;> (simp only at h; omega)
  have n2 : lo7 ≠ lo12 := by rcases hK.disj 25 29 _ _ (by omega) (by rfl) (by rfl) with h | h <;> (simp only at h; omega)
  have n3 : lo10 ≠ lo12 := by rcases hK.disj 27 29 _ _ (by omega) (by rfl) (by rfl) with h | h <;> (simp only at h; omega)
  have g7 := hK.low 25 _ (by rfl)
  have g10 := hK.low 27 _ (by rfl)
  have g12 := hK.low 29 _ (by rfl)
  simp at g7 g10 g12
  clear hK A2 A3 A4 A5 A6
  have c12 := k12.cell
  have f12 := k12.frozen
  go_wp2_with fail
  clear c12 f12 hmk
  have l12 := k12.lt
  go_loopw [75] (fun i wr => ∃ k : Nat, k ≤ m ∧ i = .int .i64 k ∧ Blk wr lo7 3 ((part (fun k => s16 (byt l (8 + 3 * k) * 256 + byt l (8 + 3 * k + 1))) k m).map (.int .i64)).toArray ∧ Blk wr lo10 3 ((part (fun k => byt l (8 + 3 * k + 2)) k m).map (.int .i64)).toArray ∧
    Blk wr lo12 24 #[.int .i64 (x2 * 256 + x3), .int .i64 (x4 * 256 + x5), .bool (x6 == 1), .slice (some ⟨lo7, 0, none⟩) m m, .slice (some ⟨lo10, 0, none⟩) m m] ∧ Blk wr w.heap.size 24 #[.int .i64 0, .int .i64 0, .bool false, .slice none 0 0, .slice none 0 0] ∧ Ext w wr) (fun i _ => m - (intOf i).toNat)
  case atStart =>
    have s5 : Only lo12 w1 _ := ((((Only.set w1 lo12 0 (.int .i64 (x2 * 256 + x3))).trans (Only.set _ lo12 1 (.int .i64 (x4 * 256 + x5)))).trans (Only.set _ lo12 2 (.bool (x6 == 1)))).trans (Only.set _ lo12 3 (.slice (some ⟨lo7, 0, none⟩) m m))).trans (Only.set _ lo12 4 (.slice (some ⟨lo10, 0, none⟩) m m))
    refine ⟨0, Nat.zero_le _, rfl, ?_, ?_, ?_, ?_, ?_⟩
    · rw [part_zero, List.map_replicate]; exact s5.blk k7 n2
    · rw [part_zero, List.map_replicate]; exact s5.blk k10 n3
    · exact ((((k12.set_ 0 _).set_ 1 _).set_ 2 _).set_ 3 _).set_ 4 _
    · exact s5.blk ((Blk.new w _ _).ext xe) (by omega)
    · exact s5.ext ((Ext.new _ _).trans xe) (by omega)
  case round =>
    obtain ⟨k, hk, rfl, r7, r10, r12, rb, hex⟩ := hrel
    clear k7 k10 k12
    by_cases hlt : k < m
    · obtain ⟨p0, pe0, pc0, pb0, pb0'⟩ := HG.out (8 + 3 * k) (by omega)
      obtain ⟨p1, pe1, pc1, pb1, pb1'⟩ := HG.out (8 + 3 * k + 1) (by omega)
      obtain ⟨p2, pe2, pc2, pb2, pb2'⟩ := HG.out (8 + 3 * k + 2) (by omega)
      have pd0 := hex.cell_ pc0
      have pd1 := hex.cell_ pc1
      have pd2 := hex.cell_ pc2
      rw [← Nat.add_assoc off (8 + 3 * k) 1] at pd1
      rw [← Nat.add_assoc off (8 + 3 * k) 2] at pd2
      have HP := Lib.hid (And.intro (byt_some pe0) (And.intro (byt_some pe1) (byt_some pe2)))
      clear pe0 pe1 pe2 pc0 pc1 pc2
      have hcc : ¬ c = 8 + 3 * k := by omega
      have R7 := Lib.hid r7; clear r7
      have R10 := Lib.hid r10; clear r10
      go_wp2_with fail
      have P0 := ExtOf.cell pd0
      have P1 := ExtOf.cell pd1
      have P2 := ExtOf.cell pd2
      have P12 := ExtOf.blk r12
      have u1 : IntKind.u16.wrap (p0 * 256) = p0 * 256 := by rw [IntKind.wrap_u16]; omega
      have u2 := or_byte_u16 p0 p1 pb0 pb0' pb1 pb1'
      have u3 := i16_s16 (p0 * 256 + p1) (by omega) (by omega)
      have u4 := (s16_bd (u := p0 * 256 + p1) (by omega) (by omega)).1
      have u5 := (s16_bd (u := p0 * 256 + p1) (by omega) (by omega)).2
      have u6 : IntKind.i64.wrap (s16 (p0 * 256 + p1)) = s16 (p0 * 256 + p1) := IntWalk.i64_in _ (by omega)
      refine wp_region_reads 15 (by kernel_rfl) (by kernel_rfl) (by kernel_rfl) ?_
      simp only [List.take_succ_cons, List.take_zero, List.drop_succ_cons, List.drop_zero]
      repeat (go_big_quiet_step (fail))
      refine wpQuiet_nil ?_
      intro W3 hW3
      have k7' := R7.out.ext hW3
      obtain ⟨old, c7'⟩ := k7'.cell_some (i := k) (by rw [List.length_map, part_len hk]; omega)
      have f7' := k7'.frozen k
      have K7' := Lib.hid k7'; clear k7'
      clear P0 P1 P2 P12 u1 u2 u3 u6
      go_wp2_with fail
      have s1 : Only lo7 W3 (W3.setCell ⟨lo7, k, none⟩ (.int .i64 (s16 (p0 * 256 + p1)))) := Only.set _ _ _ _
      have e3 : Ext w (W3.setCell ⟨lo7, k, none⟩ (.int .i64 (s16 (p0 * 256 + p1)))) := s1.ext (hex.trans hW3) (by omega)
      have P2 := ExtOf.cell (s1.cell_ (hW3.cell_ pd2) (by show bk ≠ lo7; omega))
      have P12 := ExtOf.blk (s1.blk (r12.ext hW3) (by omega))
      refine wp_region_reads 7 (by kernel_rfl) (by kernel_rfl) (by kernel_rfl) ?_
      simp only [List.take_succ_cons, List.take_zero, List.drop_succ_cons, List.drop_zero]
      repeat (go_big_quiet_step (fail))
      refine wpQuiet_nil ?_
      intro W4 hW4
      have k10' := (s1.blk (R10.out.ext hW3) (by omega)).ext hW4
      obtain ⟨old2, c10'⟩ := k10'.cell_some (i := k) (by rw [List.length_map, part_len hk]; omega)
      have f10' := k10'.frozen k
      have K10' := Lib.hid k10'; clear k10'
      clear P2 P12
      go_wp2_with fail
      have s2 : Only lo10 W4 (W4.setCell ⟨lo10, k, none⟩ (.int .i64 p2)) := Only.set _ _ _ _
      go_roundw
      case rel =>
        refine ⟨k + 1, by omega, by go_num, ?_, ?_, s2.blk ((s1.blk (r12.ext hW3) (by omega)).ext hW4) (by omega), s2.blk ((s1.blk (rb.ext hW3) (by omega)).ext hW4) (by omega), s2.ext (e3.trans hW4) (by omega)⟩
        · have h := K7'.out.setL (i := k) (.int .i64 (s16 (p0 * 256 + p1)))
          rw [← List.map_set] at h
          have hs : s16 (p0 * 256 + p1) = (fun k => s16 (byt l (8 + 3 * k) * 256 + byt l (8 + 3 * k + 1))) k := by show _ = s16 _; rw [HP.out.1, HP.out.2.1]
          have e : (part (fun k => s16 (byt l (8 + 3 * k) * 256 + byt l (8 + 3 * k + 1))) k m).set k (s16 (p0 * 256 + p1)) = part (fun k => s16 (byt l (8 + 3 * k) * 256 + byt l (8 + 3 * k + 1))) (k + 1) m := by rw [hs, part_set hlt]
          rw [e] at h
          exact s2.blk (h.ext hW4) (by omega)
        · have h := K10'.out.setL (i := k) (.int .i64 p2)
          rw [← List.map_set] at h
          have hs : p2 = (fun k => byt l (8 + 3 * k + 2)) k := HP.out.2.2.symm
          have e : (part (fun k => byt l (8 + 3 * k + 2)) k m).set k p2 = part (fun k => byt l (8 + 3 * k + 2)) (k + 1) m := by rw [hs, part_set hlt]
          rw [e] at h
          exact h
      case measure => simp [intOf]; omega
    · obtain rfl : k = m := by omega
      rw [part_all] at r7 r10
      have t7 := byt_some HE7.out
      have hraw : decRaw l = ⟨x2 * 256 + x3, x4 * 256 + x5, x6 == 1, decS l k, decQ l k⟩ := by
        unfold decRaw
        rw [byt_some HE2.out, byt_some HE3.out, byt_some HE4.out, byt_some HE5.out, byt_some HE6.out, t7]
        rfl
      have hE : decE l = checkF (decRaw l) := by
        unfold decE
        rw [if_neg (by have := HL.out; omega), if_neg (by rw [byt_some HE0.out, byt_some HE1.out]; simp), if_neg (by rw [byt_some HE6.out]; omega), if_neg (by rw [t7, HL.out]; omega), if_neg (by rw [t7, HL.out]; omega)]
      have hfr : RFr wr (decRaw l) (some ⟨lo7, 0, none⟩) (some ⟨lo10, 0, none⟩) k k k k := by
        rw [hraw]
        exact ⟨by have := r7.reads (n := k) (size := 1) (by simp); simpa [decS] using this, by have := r10.reads (n := k) (size := 1) (by simp); simpa [decQ] using this, by omega, by omega⟩
      have HRAW := Lib.hid hraw; clear hraw
      have HFR := Lib.hid hfr; clear hfr
      have HE := Lib.hid hE; clear hE t7
      have c12 := r12.cell
      clear r7 r10
      go_wp2_with fail
      refine (check_raw (x2 * 256 + x3) (x4 * 256 + x5) (x6 == 1) (decS l k) (decQ l k) _ _ _ _ _ _ _ (by have := HFR.out; rw [HRAW.out] at this; exact this)).mono ?_
      rintro e w4 ⟨rfl, hb4⟩
      rw [← HRAW.out]
      generalize hX : checkF (decRaw l) = X
      rw [hX] at HE
      have HX := Lib.hid hX; clear hX
      have cb := (rb.ext hb4).cell
      have fb := (rb.ext hb4).frozen
      have c12' := (r12.ext hb4).cell
      clear c12
      by_cases hX0 : X = 0
      · subst hX0
        go_wp2_with fail
        have hfin : decFr l = ⟨x2 * 256 + x3, x4 * 256 + x5, x6 == 1, decS l k, decQ l k⟩ := by unfold decFr; rw [HE.out, if_pos rfl, HRAW.out]
        have s5 : Only w.heap.size w4 _ := ((((Only.set w4 w.heap.size 0 (.int .i64 (x2 * 256 + x3))).trans (Only.set _ w.heap.size 1 (.int .i64 (x4 * 256 + x5)))).trans (Only.set _ w.heap.size 2 (.bool (x6 == 1)))).trans (Only.set _ w.heap.size 3 (.slice (some ⟨lo7, 0, none⟩) k k))).trans (Only.set _ w.heap.size 4 (.slice (some ⟨lo10, 0, none⟩) k k))
        have hb5 : Blk _ w.heap.size 24 _ := (((((rb.ext hb4).set_ 0 (.int .i64 (x2 * 256 + x3))).set_ 1 (.int .i64 (x4 * 256 + x5))).set_ 2 (.bool (x6 == 1))).set_ 3 (.slice (some ⟨lo7, 0, none⟩) k k)).set_ 4 (.slice (some ⟨lo10, 0, none⟩) k k)
        have cb5 := hb5.cell
        refine bodyPost_ret (v := .tuple #[.agg #[.int .i64 (x2 * 256 + x3), .int .i64 (x4 * 256 + x5), .bool (x6 == 1), .slice (some ⟨lo7, 0, none⟩) k k, .slice (some ⟨lo10, 0, none⟩) k k], .int .i64 0]) (by simp [results, Try.results20, go_sem, cb5]) rfl ?_
        refine ⟨some ⟨lo7, 0, none⟩, some ⟨lo10, 0, none⟩, k, k, k, k, ?_, ?_, s5.ext (hex.trans hb4) (Nat.le_refl _)⟩
        · rw [hfin, HE.out]
        · rw [show decFr l = decRaw l by rw [hfin, HRAW.out]]
          have fr := HFR.out.ext hb4
          exact ⟨s5.reads fr.hS (fun ad e => by injection e with e; subst e; show lo7 ≠ _; omega), s5.reads fr.hQ (fun ad e => by injection e with e; subst e; show lo10 ≠ _; omega), fr.hn, fr.hm⟩
      · have hXb : (X != 0) = true := by simp [hX0]
        go_wp2_with fail
        have s5 : Only w.heap.size w4 _ := ((((Only.set w4 w.heap.size 0 (.int .i64 0)).trans (Only.set _ w.heap.size 1 (.int .i64 0))).trans (Only.set _ w.heap.size 2 (.bool false))).trans (Only.set _ w.heap.size 3 (.slice none 0 0))).trans (Only.set _ w.heap.size 4 (.slice none 0 0))
        have hb5 : Blk _ w.heap.size 24 _ := (((((rb.ext hb4).set_ 0 (.int .i64 0)).set_ 1 (.int .i64 0)).set_ 2 (.bool false)).set_ 3 (.slice none 0 0)).set_ 4 (.slice none 0 0)
        have cb5 := hb5.cell
        refine bodyPost_ret (v := .tuple #[.agg #[.int .i64 0, .int .i64 0, .bool false, .slice none 0 0, .slice none 0 0], .int .i64 X]) (by simp [results, Try.results20, go_sem, cb5]) rfl ?_
        exact dec_err HE.out hX0 (s5.ext (hex.trans hb4) (Nat.le_refl _))

set_option maxHeartbeats 1000000 in
theorem decode_any (A : Option Addr) (n c : Nat) (l : List Int) (w : World) (hr : Reads w w.heap.size 1 A n (l.map (.int .u8))) (hb : ∀ x ∈ l, 0 ≤ x ∧ x ≤ 255) (hn : n ≤ c) (hc : c ≤ 9223372036854775807) :
    Calls Try.prog 20 #[.slice A n c] w (DecPost l w) := by
  have hl := hr.len
  by_cases h8 : n < 8
  · have HE := Lib.hid (show decE l = 13 by unfold decE; rw [if_pos (by omega)])
    clear hl
    go_enter Try.func20, Try.ntmps20
    go_wp2_with fail
    refine bodyPost_ret (v := .tuple #[.agg #[.int .i64 0, .int .i64 0, .bool false, .slice none 0 0, .slice none 0 0], .int .i64 13]) (by simp [results, Try.results20, go_sem]) rfl (dec_err HE.out (by omega) (Ext.new _ _))
  obtain ⟨bk, off, rfl, hblk, hcells⟩ := hr.plain (by omega)
  have get : ∀ k, k < n → ∃ x, l[k]? = some x ∧ w.cell? ⟨bk, off + k, none⟩ = some (.int .u8 x) ∧ 0 ≤ x ∧ x ≤ 255 := fun k hk => by
    have hk' : k < l.length := by omega
    exact ⟨l[k], List.getElem?_eq_getElem hk', hcells k _ (by simp [hk']), hb _ (List.getElem_mem hk')⟩
  clear hcells
  obtain ⟨x0, e0, c0', b0, b0'⟩ := get 0 (by omega)
  have c0 : w.cell? ⟨bk, off, none⟩ = some (.int .u8 x0) := c0'
  clear c0'
  obtain ⟨x1, e1, c1, b1, b1'⟩ := get 1 (by omega)
  obtain ⟨x6, e6, c6, b6, b6'⟩ := get 6 (by omega)
  obtain ⟨x7, e7, c7, b7, b7'⟩ := get 7 (by omega)
  have HL := Lib.hid hl; clear hl
  have HB := Lib.hid hb; clear hb
  have HR := Lib.hid hr; clear hr
  have HG := Lib.hid get; clear get
  have y0 := byt_some e0
  have y1 := byt_some e1
  have y6 := byt_some e6
  have y7 := byt_some e7
  have HE0 := Lib.hid e0; have HE1 := Lib.hid e1; have HE6 := Lib.hid e6; have HE7 := Lib.hid e7
  clear e0 e1 e6 e7
  have a0 := cell_alloc c0
  have a1 := cell_alloc c1
  have a6 := cell_alloc c6
  have a7 := cell_alloc c7
  have q8 : (8 : Int) ≤ (n : Int) := by omega
  have Y := Lib.hid (And.intro y0 (And.intro y1 (And.intro y6 y7)))
  clear y0 y1 y6 y7
  by_cases h0 : x0 = 136
  case neg =>
    have h0' : (x0 != 136) = true := by simp [h0]
    have HE := Lib.hid (show decE l = 15 by unfold decE; rw [if_neg (by have := HL.out; omega), if_pos (by left; rw [Y.out.1]; exact h0)])
    go_enter Try.func20, Try.ntmps20
    go_wp2_with fail
    refine bodyPost_ret (v := .tuple #[.agg #[.int .i64 0, .int .i64 0, .bool false, .slice none 0 0, .slice none 0 0], .int .i64 15]) (by simp [results, Try.results20, go_sem]) rfl (dec_err HE.out (by omega) (Ext.new _ _))
  subst h0
  by_cases h1 : x1 = 186
  case neg =>
    have h1' : (x1 != 186) = true := by simp [h1]
    have HE := Lib.hid (show decE l = 15 by unfold decE; rw [if_neg (by have := HL.out; omega), if_pos (by right; rw [Y.out.2.1]; exact h1)])
    go_enter Try.func20, Try.ntmps20
    go_wp2_with fail
    refine bodyPost_ret (v := .tuple #[.agg #[.int .i64 0, .int .i64 0, .bool false, .slice none 0 0, .slice none 0 0], .int .i64 15]) (by simp [results, Try.results20, go_sem]) rfl (dec_err HE.out (by omega) (Ext.new _ _))
  subst h1
  by_cases h6 : 1 < x6
  · have HE := Lib.hid (show decE l = 16 by unfold decE; rw [if_neg (by have := HL.out; omega), if_neg (by rw [Y.out.1, Y.out.2.1]; simp), if_pos (by rw [Y.out.2.2.1]; exact h6)])
    go_enter Try.func20, Try.ntmps20
    go_wp2_with fail
    refine bodyPost_ret (v := .tuple #[.agg #[.int .i64 0, .int .i64 0, .bool false, .slice none 0 0, .slice none 0 0], .int .i64 16]) (by simp [results, Try.results20, go_sem]) rfl (dec_err HE.out (by omega) (Ext.new _ _))
  rcases Int.lt_trichotomy (n : Int) (8 + 3 * x7) with hlt | heq | hgt
  · have HE := Lib.hid (show decE l = 13 by unfold decE; rw [if_neg (by have := HL.out; omega), if_neg (by rw [Y.out.1, Y.out.2.1]; simp), if_neg (by rw [Y.out.2.2.1]; exact h6), if_pos (by rw [Y.out.2.2.2, HL.out]; exact hlt)])
    have k1 : (if (n : Int) < 8 + 3 * x7 then (-1 : Int) else if 8 + 3 * x7 < (n : Int) then 1 else 0) = -1 := by rw [if_pos hlt]
    have K1 := Lib.hid k1; clear k1
    go_enter Try.func20, Try.ntmps20
    go_wp2_with fail
    refine (compare_any _ _ _).mono ?_
    rintro e w1 ⟨rfl, rfl⟩
    rw [K1.out]
    go_wp2_with fail
    refine bodyPost_ret (v := .tuple #[.agg #[.int .i64 0, .int .i64 0, .bool false, .slice none 0 0, .slice none 0 0], .int .i64 13]) (by simp [results, Try.results20, go_sem]) rfl (dec_err HE.out (by omega) (Ext.new _ _))
  · obtain ⟨m, rfl⟩ := Int.eq_ofNat_of_zero_le b7
    obtain rfl : n = 8 + 3 * m := by omega
    exact decode_mid bk off m c l w x6 HL.out hblk HG.out HE0.out HE1.out HE6.out HE7.out h6 b6 (by omega) hn hc
  · have HE := Lib.hid (show decE l = 14 by unfold decE; rw [if_neg (by have := HL.out; omega), if_neg (by rw [Y.out.1, Y.out.2.1]; simp), if_neg (by rw [Y.out.2.2.1]; exact h6), if_neg (by rw [Y.out.2.2.2, HL.out]; omega), if_pos (by rw [Y.out.2.2.2, HL.out]; exact hgt)])
    have k1 : (if (n : Int) < 8 + 3 * x7 then (-1 : Int) else if 8 + 3 * x7 < (n : Int) then 1 else 0) = 1 := by rw [if_neg (by omega), if_pos hgt]
    have K1 := Lib.hid k1; clear k1
    go_enter Try.func20, Try.ntmps20
    go_wp2_with fail
    refine (compare_any _ _ _).mono ?_
    rintro e w1 ⟨rfl, rfl⟩
    rw [K1.out]
    go_wp2_with fail
    refine bodyPost_ret (v := .tuple #[.agg #[.int .i64 0, .int .i64 0, .bool false, .slice none 0 0, .slice none 0 0], .int .i64 14]) (by simp [results, Try.results20, go_sem]) rfl (dec_err HE.out (by omega) (Ext.new _ _))
end Go.Proofs.Ytmlcmnbjioabiaa
