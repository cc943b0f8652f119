/- Lists of channels and of frames in memory. -/
import Derived.Test.YtmlcmnbjioabiaaSe
import Derived.Test.YtmlcmnbjioabiaaTame
namespace Go.Proofs.Ytmlcmnbjioabiaa
open Go.RowKit

/-- A slice of slices of ints. -/
def RRows (w : World) (A : Option Addr) (n : Nat) (rows : List (List Int)) : Prop :=
  rows.length = n ∧ (0 < n → ∃ ad, A = some ad ∧ ad.block < w.heap.size ∧ ∀ i r, rows[i]? = some r →
    ∃ Ai ni ci, w.cell? (ad.add i) = some (.slice Ai ni ci) ∧ Reads w w.heap.size 1 Ai ni (r.map (.int .i64)) ∧ ni ≤ 9223372036854775807)
theorem RRows.ext {w w' : World} {A : Option Addr} {n : Nat} {rows : List (List Int)} (h : RRows w A n rows) (e : Ext w w') : RRows w' A n rows :=
  ⟨h.1, fun hn => by
    obtain ⟨ad, hA, hb, hc⟩ := h.2 hn
    refine ⟨ad, hA, Nat.lt_of_lt_of_le hb e.size, fun i r hr => ?_⟩
    obtain ⟨Ai, ni, ci, h1, h2, h3⟩ := hc i r hr
    exact ⟨Ai, ni, ci, e.cell_ h1, h2.ext e, h3⟩⟩
theorem RRows.at_ {w : World} {A : Option Addr} {n k : Nat} {rows : List (List Int)} (h : RRows w A n rows) (hk : k < n) :
    ∃ ad r Ai ni ci, A = some ad ∧ rows[k]? = some r ∧ w.cell? (ad.add k) = some (.slice Ai ni ci) ∧ Reads w w.heap.size 1 Ai ni (r.map (.int .i64)) ∧ ni ≤ 9223372036854775807 := by
  obtain ⟨ad, hA, _, hc⟩ := h.2 (by omega)
  have hl : k < rows.length := by have := h.1; omega
  obtain ⟨Ai, ni, ci, h1, h2, h3⟩ := hc k _ (List.getElem?_eq_getElem hl)
  exact ⟨ad, _, Ai, ni, ci, hA, List.getElem?_eq_getElem hl, h1, h2, h3⟩

/-- The five cells of a frame. -/
def FrCells (w : World) (f : Fr) (cs : List Value) : Prop := ∃ A B n m c d, cs = [.int .i64 f.unit, .int .i64 f.count, .bool f.sy, .slice A n c, .slice B m d] ∧ RFr w f A B n m c d
theorem FrCells.ext {w w' : World} {f : Fr} {cs : List Value} (h : FrCells w f cs) (e : Ext w w') : FrCells w' f cs := by
  obtain ⟨A, B, n, m, c, d, h1, h2⟩ := h
  exact ⟨A, B, n, m, c, d, h1, h2.ext e⟩
/-- A slice of frames. -/
def RFrames (w : World) (A : Option Addr) (n : Nat) (fs : List Fr) : Prop :=
  fs.length = n ∧ (0 < n → ∃ g, A = some ⟨g, 0, none⟩ ∧ g < w.heap.size ∧ ∀ i f, fs[i]? = some f → ∃ cs, FrCells w f cs ∧ ∀ j v, cs[j]? = some v → w.cell? ⟨g, i * 5 + j, none⟩ = some v)
theorem RFrames.ext {w w' : World} {A : Option Addr} {n : Nat} {fs : List Fr} (h : RFrames w A n fs) (e : Ext w w') : RFrames w' A n fs :=
  ⟨h.1, fun hn => by
    obtain ⟨ad, hA, hb, hc⟩ := h.2 hn
    refine ⟨ad, hA, Nat.lt_of_lt_of_le hb e.size, fun i f hf => ?_⟩
    obtain ⟨cs, h1, h2⟩ := hc i f hf
    exact ⟨cs, h1.ext e, fun j v hv => e.cell_ (h2 j v hv)⟩⟩

theorem int_info : (Try.prog.info? 3).map (fun i => (i.zero, i.size, i.bytes)) = some (some (.int .i64 0), 1, 8) := by kernel_rfl

theorem fillRow_zero (ch : List (List Int)) (k n : Nat) : (fillRow ch k 0 n).map (Value.int .i64) = List.replicate n (.int .i64 0) := by simp [fillRow, splitRow]
/-- The split's facts: the counter, two new slices of zeros, a new frame. -/
def phiSplit (cnt : Int) (n : Nat) : Nat → Nat → Nat → Value → World → Prop
  | 3, _, _, v, _ => v = .int .i64 cnt
  | 7, lo, hi, v, w => v = .slice (some ⟨lo, 0, none⟩) n n ∧ lo < hi ∧ Blk w lo 3 (List.replicate n (.int .i64 0)).toArray
  | 10, lo, hi, v, w => v = .slice (some ⟨lo, 0, none⟩) n n ∧ lo < hi ∧ Blk w lo 3 (List.replicate n (.int .i64 0)).toArray
  | 12, lo, hi, v, w => v = .pointer (some ⟨lo, 0, none⟩) ∧ lo < hi ∧ Blk w lo 24 #[.int .i64 0, .int .i64 0, .bool false, .slice none 0 0, .slice none 0 0]
  | _, _, _, _, _ => True
theorem phiSplit_stab (cnt : Int) (n : Nat) : ∀ i lo hi v w w', phiSplit cnt n i lo hi v w → Ext w w' → phiSplit cnt n i lo hi v w' := by
  intro i lo hi v w w' h e
  unfold phiSplit at *
  split <;> simp_all
  · exact h.2.2.ext e
  · exact h.2.2.ext e
  · exact h.2.2.ext e

def zfr : List Value := [.int .i64 0, .int .i64 0, .bool false, .slice none 0 0, .slice none 0 0]
def zfs (n : Nat) : List Value := (List.replicate n zfr).flatten
theorem zfs_len (n : Nat) : (zfs n).length = 5 * n := by simp [zfs, zfr]; omega

/-- The cells of a frame that the call made, whose slices lie behind block g. -/
def FrOwn (w : World) (g : Nat) (f : Fr) (cs : List Value) : Prop := ∃ a b n m c d, cs = [.int .i64 f.unit, .int .i64 f.count, .bool f.sy, .slice (some ⟨a, 0, none⟩) n c, .slice (some ⟨b, 0, none⟩) m d] ∧ RFr w f (some ⟨a, 0, none⟩) (some ⟨b, 0, none⟩) n m c d ∧ g < a ∧ g < b ∧ a < w.heap.size ∧ b < w.heap.size
theorem Reads.blocks {w w' : World} {a n : Nat} {xs : List Value} (h : Reads w w.heap.size 1 (some ⟨a, 0, none⟩) n xs) (hb : w'.heap[a]? = w.heap[a]?) (hs : w.heap.size ≤ w'.heap.size) : Reads w' w'.heap.size 1 (some ⟨a, 0, none⟩) n xs :=
  ⟨h.1, fun hn => by
    obtain ⟨ad, e, hb1, hc⟩ := h.2 hn
    refine ⟨ad, e, by omega, fun j u hu => ?_⟩
    injection e with e
    subst e
    exact (World.cell?_of_block (w := w) (by rw [block_of_add]; exact hb)).trans (hc j u hu)⟩
theorem FrOwn.blocks {w w' : World} {g : Nat} {f : Fr} {cs : List Value} (h : FrOwn w g f cs) (hb : ∀ k, g < k → k < w.heap.size → w'.heap[k]? = w.heap[k]?) (hs : w.heap.size ≤ w'.heap.size) : FrOwn w' g f cs := by
  obtain ⟨a, b, n, m, c, d, h1, h2, h3, h4, h5, h6⟩ := h
  exact ⟨a, b, n, m, c, d, h1, ⟨h2.hS.blocks (hb a h3 h5) hs, h2.hQ.blocks (hb b h4 h6) hs, h2.hn, h2.hm⟩, h3, h4, by omega, by omega⟩
theorem FrOwn.cells {w : World} {g : Nat} {f : Fr} {cs : List Value} (h : FrOwn w g f cs) : FrCells w f cs := by
  obtain ⟨a, b, n, m, c, d, h1, h2, _⟩ := h
  exact ⟨_, _, _, _, _, _, h1, h2⟩

theorem hmk12 (W : World) : (Instr.makeSlice 36 (.int .i64 12) (.int .i64 12)).run Try.prog W = .ok (.slice (some ⟨W.heap.size, 0, none⟩) 12 12) (W.alloc (.cells (zfs 12).toArray 24)) := by kernel_rfl

/-- What Split returns for channels of 12 samples. -/
def SplitPost (unit step : Int) (sy : Bool) (ch : List (List Int)) (w : World) (e : Ending) (w' : World) : Prop :=
  Ext w w' ∧ ((splitErr unit step sy ch 12 0 = 0 ∧ ∃ B c, e = .returned (.tuple #[.slice B 12 c, .int .i64 0]) ∧ RFrames w' B 12 (splitL unit step sy ch 12)) ∨
    (splitErr unit step sy ch 12 0 ≠ 0 ∧ e = .returned (.tuple #[.slice none 0 0, .int .i64 (splitErr unit step sy ch 12 0)])))

theorem rows_len {rows : List (List Value)} {k : Nat} (hl : rows.length = k) (h5 : ∀ r ∈ rows, r.length = 5) : rows.flatten.length = k * 5 := by
  subst hl
  induction rows with
  | nil => rfl
  | cons r t ih =>
    have := ih (fun r hr => h5 r (List.mem_cons_of_mem _ hr))
    have h := h5 r (by simp)
    simp [this, h]; omega
theorem FrOwn.len5 {w : World} {g : Nat} {F : Nat → Fr} {rows : List (List Value)} (h : ∀ j r, rows[j]? = some r → FrOwn w g (F j) r) {r : List Value} (hr : r ∈ rows) : r.length = 5 := by
  obtain ⟨j, hj, rfl⟩ := List.getElem_of_mem hr
  obtain ⟨a, b, n, m, c, d, h1, _⟩ := h j _ (List.getElem?_eq_getElem hj)
  rw [h1]; rfl
theorem flat_at {rows : List (List Value)} {i j : Nat} (h5 : ∀ r ∈ rows, r.length = 5) (hi : i < rows.length) (hj : j < 5) : rows.flatten[i * 5 + j]? = rows[i][j]? := by
  induction rows generalizing i with
  | nil => simp at hi
  | cons r t ih =>
    have h := h5 r (by simp)
    cases i with
    | zero => simp; rw [List.getElem?_append_left (by omega)]
    | succ i =>
      have := ih (i := i) (fun r hr => h5 r (List.mem_cons_of_mem _ hr)) (by simpa using hi)
      simp only [List.flatten_cons, List.getElem_cons_succ]
      rw [List.getElem?_append_right (by omega), ← this]
      congr 1; omega
theorem rows_set {rows : List (List Value)} {k : Nat} (hl : rows.length = k) (hk : k < 12) (h5 : ∀ r ∈ rows, r.length = 5) (a b c d e : Value) :
    (((((rows.flatten ++ zfs (12 - k)).set (k * 5) a).set (k * 5 + 1) b).set (k * 5 + 2) c).set (k * 5 + 3) d).set (k * 5 + 4) e = (rows ++ [[a, b, c, d, e]]).flatten ++ zfs (12 - (k + 1)) := by
  have hf := rows_len hl h5
  rw [show 12 - k = (12 - (k + 1)) + 1 by omega]
  generalize 12 - (k + 1) = m
  rw [show zfs (m + 1) = zfr ++ zfs m by simp [zfs, List.replicate_succ]]
  rw [List.flatten_append]
  generalize rows.flatten = L at hf ⊢
  rw [← hf]
  simp [zfr]

set_option maxHeartbeats 1000000 in
theorem split_mid (unit step : Int) (sy : Bool) (A : Option Addr) (n c : Nat) (ch : List (List Int)) (w : World) (hch : RRows w A n ch) (h1 : btw step 0 1099511627776 = true) (h2 : btw n 1 8 = true) (h3 : ∀ r ∈ ch, r.length = 12) :
    Calls Try.prog 16 #[.int .i64 unit, .int .i64 step, .bool sy, .slice A n c] w (SplitPost unit step sy ch w) := by
  have hn := btw_iff.1 h2
  have hn1 : 1 ≤ n := by omega
  have hn8 : n ≤ 8 := by omega
  clear hn
  have HCH := Lib.hid hch; clear hch
  have H3 := Lib.hid h3; clear h3
  have hmk := hmk12
  obtain ⟨i0, hi0, hz0, hz1, hz2⟩ := info_parts int_info
  have hmk2 := fun W => run_make (P := Try.prog) W 22 3 i0 (.int .i64 0) Try.underlying22 hi0 hz0 .i64 .i64 (n : Int) (n : Int) (by omega) (by omega) (by rw [hz2]; omega) (by omega)
  go_enter Try.func16, Try.ntmps16
  go_wp2_with (go_at_call 26; refine (between_any _ _ _ _).mono ?_; rintro e w' ⟨rfl, rfl⟩)
  go_loop [27] (fun i => ∃ k : Nat, k ≤ n ∧ i = .int .i64 k) (fun i => n - (intOf i).toNat)
  case atStart => exact ⟨0, Nat.zero_le _, rfl⟩
  case round =>
    obtain ⟨k, hk, rfl⟩ := hrel
    by_cases hlt : k < n
    · obtain ⟨ad, r, Ai, ni, ci, rfl, hr, hc, hR, hni⟩ := HCH.out.at_ hlt
      have hn12 : ni = 12 := by have := hR.len; rw [← this]; exact H3.out r (List.mem_of_getElem? hr)
      subst hn12
      have HR := Lib.hid hr; clear hr
      go_wp2_with fail
      go_round
      case rel => exact ⟨k + 1, by omega, by go_num⟩
      case measure => simp [intOf]; omega
    · go_wp2_with fail
      go_loopw [38] (fun i wr => ∃ k : Nat, k ≤ 12 ∧ i = .int .i64 k ∧ ∃ rows : List (List Value), rows.length = k ∧ (∀ j r, rows[j]? = some r → FrOwn wr w.heap.size (splitFr unit step sy ch j) r) ∧ Blk wr w.heap.size 24 (rows.flatten ++ zfs (12 - k)).toArray ∧ Ext w wr ∧ splitErr unit step sy ch 12 0 = splitErr unit step sy ch (12 - k) k) (fun i _ => 12 - (intOf i).toNat)
      case atStart => exact ⟨0, by omega, rfl, [], rfl, by simp, by simpa using Blk.new w 24 _, Ext.new _ _, rfl⟩
      case round =>
        obtain ⟨k, hk, rfl, rows, hrl, hrows, hblk, hext, herr⟩ := hrel
        have HERR := Lib.hid herr; clear herr
        by_cases hlt2 : k < 12
        · go_wp2_with fail
          refine wp_region_tame 13 (fun i => i == 3 || i == 7 || i == 10 || i == 12) (phiSplit (countF step k) n) (phiSplit_stab _ _) (by kernel_rfl) (by kernel_rfl) ?_
          simp only [List.take_succ_cons, List.take_zero, List.drop_succ_cons, List.drop_zero]
          refine wpT_quiet 3 (by rfl) (by kernel_rfl) ?_
          simp only [List.take_succ_cons, List.take_zero, List.drop_succ_cons, List.drop_zero]
          repeat (go_big_quiet_step (fail))
          refine wpQuiet_nil ?_
          refine wpT_eff (by rfl) (by rfl) (by rfl) ?_ ?_
          · intro W hK
            go_simp
            exact ⟨rfl, (count_any _ _ _).mono fun e w' ⟨he, hw⟩ => ⟨_, he, hw ▸ Ext.refl _, rfl⟩⟩
          intro v lo3 hi3 hr
          obtain rfl : v = _ := hr.elim fun _ h => h.get
          clear hr
          try simp only [Act.put, List.setIfInBounds_toArray, List.set_cons_succ, List.set_cons_zero]
          refine wpT_quiet 3 (by rfl) (by kernel_rfl) ?_
          simp only [List.take_succ_cons, List.take_zero, List.drop_succ_cons, List.drop_zero]
          repeat (go_big_quiet_step (fail))
          refine wpQuiet_nil ?_
          refine wpT_eff (by rfl) (by rfl) (by rfl) ?_ ?_
          · intro W hK
            go_simp
            rw [madeCells_one]
            exact ⟨Ext.new _ _, rfl, by simp, Blk.new _ _ _⟩
          intro v lo7 hi7 hr
          obtain ⟨W7, hW7⟩ := hr
          obtain ⟨rfl, hl7, _⟩ : phiSplit (countF step k) n 7 lo7 hi7 v W7 := hW7.get
          clear hW7
          try simp only [Act.put, List.setIfInBounds_toArray, List.set_cons_succ, List.set_cons_zero]
          refine wpT_quiet 2 (by rfl) (by kernel_rfl) ?_
          simp only [List.take_succ_cons, List.take_zero, List.drop_succ_cons, List.drop_zero]
          repeat (go_big_quiet_step (fail))
          refine wpQuiet_nil ?_
          refine wpT_eff (by rfl) (by rfl) (by rfl) ?_ ?_
          · intro W hK
            go_simp
            rw [madeCells_one]
            exact ⟨Ext.new _ _, rfl, by simp, Blk.new _ _ _⟩
          intro v lo10 hi10 hr
          obtain ⟨W10, hW10⟩ := hr
          obtain ⟨rfl, hl10, _⟩ : phiSplit (countF step k) n 10 lo10 hi10 v W10 := hW10.get
          clear hW10
          try simp only [Act.put, List.setIfInBounds_toArray, List.set_cons_succ, List.set_cons_zero]
          refine wpT_quiet 1 (by rfl) (by kernel_rfl) ?_
          simp only [List.take_succ_cons, List.take_zero, List.drop_succ_cons, List.drop_zero]
          repeat (go_big_quiet_step (fail))
          refine wpQuiet_nil ?_
          refine wpT_eff (by rfl) (by rfl) (by rfl) ?_ ?_
          · intro W hK
            go_simp
            exact ⟨Ext.new _ _, rfl, by simp, Blk.new _ _ _⟩
          intro v lo12 hi12 hr
          obtain ⟨W12, hW12⟩ := hr
          obtain ⟨rfl, hl12, _⟩ : phiSplit (countF step k) n 12 lo12 hi12 v W12 := hW12.get
          clear hW12
          try simp only [Act.put, List.setIfInBounds_toArray, List.set_cons_succ, List.set_cons_zero]
          refine wpT_nil ?_
          intro w1 hK
          have b7 : Blk w1 lo7 3 _ := (hK.at_ 7 (by rfl)).2.2
          have b10 : Blk w1 lo10 3 _ := (hK.at_ 10 (by rfl)).2.2
          have b12 : Blk w1 lo12 24 _ := (hK.at_ 12 (by rfl)).2.2
          have e1 : Ext wr w1 := hK.ext
          have n1 : lo7 ≠ lo10 := by rcases hK.disj 7 10 _ _ (by omega) (by rfl) (by rfl) with h | h <;> (simp only at h; omega)
          have n2 : lo7 ≠ lo12 := by rcases hK.disj 7 12 _ _ (by omega) (by rfl) (by rfl) with h | h <;> (simp only at h; omega)
          have n3 : lo10 ≠ lo12 := by rcases hK.disj 10 12 _ _ (by omega) (by rfl) (by rfl) with h | h <;> (simp only at h; omega)
          have g7 : wr.heap.size ≤ lo7 := hK.low 7 _ (by rfl)
          have g10 : wr.heap.size ≤ lo10 := hK.low 10 _ (by rfl)
          have g12 : wr.heap.size ≤ lo12 := hK.low 12 _ (by rfl)
          clear hK
          have c12 := b12.cell
          have f12 := b12.frozen
          obtain ⟨wo, rfl⟩ : ∃ wo : World, wo = wr := ⟨_, rfl⟩
          go_wp2_with fail
          clear c12 f12
          go_loopw [55] (fun i wr => ∃ cc : Nat, cc ≤ n ∧ i = .int .i64 cc ∧ Blk wr lo7 3 ((fillRow ch k cc n).map (.int .i64)).toArray ∧ Blk wr lo10 3 (List.replicate n (.int .i64 0)).toArray ∧
            Blk wr lo12 24 #[.int .i64 unit, .int .i64 (countF step k), .bool sy, .slice (some ⟨lo7, 0, none⟩) n n, .slice (some ⟨lo10, 0, none⟩) n n] ∧ ∃ W2, Only lo12 w1 W2 ∧ Only lo7 W2 wr) (fun i _ => n - (intOf i).toNat)
          case atStart =>
            refine ⟨0, Nat.zero_le _, rfl, ?_, ?_, ?_, _, ((((Only.set w1 lo12 0 _).trans (Only.set _ lo12 1 _)).trans (Only.set _ lo12 2 _)).trans (Only.set _ lo12 3 _)).trans (Only.set _ lo12 4 _), Only.refl _ _⟩
            · rw [fillRow_zero]
              exact (((((Only.set w1 lo12 0 (.int .i64 unit)).trans (Only.set _ lo12 1 _)).trans (Only.set _ lo12 2 _)).trans (Only.set _ lo12 3 _)).trans (Only.set _ lo12 4 _)).blk b7 n2
            · exact (((((Only.set w1 lo12 0 (.int .i64 unit)).trans (Only.set _ lo12 1 _)).trans (Only.set _ lo12 2 _)).trans (Only.set _ lo12 3 _)).trans (Only.set _ lo12 4 _)).blk b10 n3
            · exact ((((b12.set_ 0 _).set_ 1 _).set_ 2 _).set_ 3 _).set_ 4 _
          case round =>
            obtain ⟨cc, hcc, rfl, k7, k10, k12, W2, o1, o2⟩ := hrel
            have hew : Ext w wr := o2.ext (o1.ext (hext.trans e1) (Nat.le_trans hext.size g12)) (Nat.le_trans hext.size g7)
            by_cases hlt3 : cc < n
            · obtain ⟨ad, r, Ai, ni, ci, rfl, hr, hc, hR, hni⟩ := (HCH.out.ext hew).at_ hlt3
              have hn12 : ni = 12 := by have := hR.len; rw [← this]; exact H3.out r (List.mem_of_getElem? hr)
              subst hn12
              obtain ⟨bd, x, rfl, _, hx, hcx⟩ := hR.int_at hlt2
              have HR := Lib.hid hr; clear hr
              have HX := Lib.hid hx; clear hx
              have HK7 := Lib.hid k7; clear k7
              go_wp2_with fail
              have p1 := ExtOf.blk k12
              have p2 := ExtOf.cell hcx
              have q1 : (0 : Int) ≤ (k : Int) := by omega
              have q2 : (k : Int) < 12 := by omega
              refine wp_region_reads 7 (by kernel_rfl) (by kernel_rfl) (by kernel_rfl) ?_
              simp only [List.take_succ_cons, List.take_zero, List.drop_succ_cons, List.drop_zero]
              repeat (go_big_quiet_step (fail))
              refine wpQuiet_nil ?_
              intro W3 hW3
              have k7' := HK7.out.ext hW3
              obtain ⟨old, c7⟩ := k7'.cell_some (i := cc) (by simp [fillRow_len HCH.out.1 hcc]; omega)
              have f7 := k7'.frozen cc
              go_wp2_with fail
              go_roundw
              case rel =>
                refine ⟨cc + 1, by omega, by go_num, ?_, (Only.set _ _ _ _).blk (k10.ext hW3) (Ne.symm n1), (Only.set _ _ _ _).blk (k12.ext hW3) (Ne.symm n2), W2, o1, (o2.trans (Only.of_ext hW3)).trans (Only.set _ _ _ _)⟩
                have hk := k7'.setL (i := cc) (.int .i64 x)
                rw [← List.map_set, fillRow_set HCH.out.1 hlt3 HR.out HX.out] at hk
                exact hk
              case measure => simp [intOf]; omega
            · obtain rfl : cc = n := by omega
              rw [fillRow_all HCH.out.1] at k7
              have HK7 := Lib.hid k7; clear k7
              have c12 := k12.cell
              have hfr : RFr wr (splitFr unit step sy ch k) (some ⟨lo7, 0, none⟩) (some ⟨lo10, 0, none⟩) cc cc cc cc := ⟨by have := HK7.out.reads (n := cc) (size := 1) (by simp [splitRow, HCH.out.1]); simpa [splitFr] using this, by have := k10.reads (n := cc) (size := 1) (by simp); simpa [splitFr, HCH.out.1] using this, by omega, by omega⟩
              have HFR := Lib.hid hfr; clear hfr
              have HB := Lib.hid hblk; clear hblk
              have HROWS := Lib.hid hrows; clear hrows
              have HRL := Lib.hid hrl; clear hrl
              go_wp2_with fail
              refine (check_raw unit (countF step k) sy (splitRow ch k) (List.replicate ch.length 0) _ _ _ _ _ _ _ HFR.out).mono ?_
              rintro e w4 ⟨rfl, hb4⟩
              have hck : checkF ⟨unit, countF step k, sy, splitRow ch k, List.replicate ch.length 0⟩ = checkF (splitFr unit step sy ch k) := rfl
              rw [hck]
              clear hck
              generalize hX : checkF (splitFr unit step sy ch k) = X
              have HX := Lib.hid hX; clear hX
              by_cases hX0 : X = 0
              · subst hX0
                have k12' := k12.ext hb4
                have c12' := k12'.cell
                have l1 : w.heap.size < wo.heap.size := HB.out.lt
                have hb5 : Blk w4 w.heap.size 24 (rows.flatten ++ zfs (12 - k)).toArray := (o2.blk (o1.blk (HB.out.ext e1) (by omega)) (by omega)).ext hb4
                have hfl : (rows.flatten ++ zfs (12 - k)).length = 60 := by rw [List.length_append, zfs_len, rows_len HRL.out (fun r hr => FrOwn.len5 HROWS.out hr)]; omega
                obtain ⟨v0, d0⟩ := hb5.cell_some (i := k * 5) (by omega)
                obtain ⟨v1, d1⟩ := hb5.cell_some (i := k * 5 + 1) (by omega)
                obtain ⟨v2, d2⟩ := hb5.cell_some (i := k * 5 + 2) (by omega)
                obtain ⟨v3, d3⟩ := hb5.cell_some (i := k * 5 + 3) (by omega)
                obtain ⟨v4, d4⟩ := hb5.cell_some (i := k * 5 + 4) (by omega)
                have f5 := hb5.frozen
                have HB5 := Lib.hid hb5; clear hb5
                clear hfl
                go_wp2_with fail
                go_roundw
                case rel =>
                  refine ⟨k + 1, by omega, by go_num, rows ++ [[.int .i64 unit, .int .i64 (countF step k), .bool sy, .slice (some ⟨lo7, 0, none⟩) cc cc, .slice (some ⟨lo10, 0, none⟩) cc cc]], by simp [HRL.out], ?_, ?_, ?_, ?_⟩
                  · intro j r hj
                    have s5 : Only w.heap.size w4 _ := ((((Only.set w4 w.heap.size (k * 5) (.int .i64 unit)).trans (Only.set _ w.heap.size (k * 5 + 1) (.int .i64 (countF step k)))).trans (Only.set _ w.heap.size (k * 5 + 2) (.bool sy))).trans (Only.set _ w.heap.size (k * 5 + 3) (.slice (some ⟨lo7, 0, none⟩) cc cc))).trans (Only.set _ w.heap.size (k * 5 + 4) (.slice (some ⟨lo10, 0, none⟩) cc cc))
                    have sz1 : wo.heap.size ≤ w4.heap.size := Nat.le_trans e1.size (Nat.le_trans o1.size (Nat.le_trans o2.size hb4.size))
                    rw [List.getElem?_append] at hj
                    split at hj
                    · refine (HROWS.out j r hj).blocks (fun q hq1 hq2 => ?_) (Nat.le_trans sz1 s5.size)
                      have z1 := e1.size
                      have z2 := o1.size
                      have z3 := o2.size
                      exact (s5.block q (by omega) (fun e => by injection e with e; omega)).trans ((hb4.block q (by omega)).trans ((o2.block q (by omega) (fun e => by injection e with e; omega)).trans ((o1.block q (by omega) (fun e => by injection e with e; omega)).trans (e1.block q hq2))))
                    · have hj' : j = k := by
                        have := (List.getElem?_eq_some_iff.1 hj).1
                        have h0 := HRL.out
                        simp at this; omega
                      subst hj'
                      simp only [HRL.out, Nat.sub_self, List.getElem?_cons_zero, Option.some.injEq] at hj
                      subst hj
                      have a1 : w.heap.size < lo7 := by omega
                      have a2 : w.heap.size < lo10 := by omega
                      have fr5 : RFr w4 (splitFr unit step sy ch j) (some ⟨lo7, 0, none⟩) (some ⟨lo10, 0, none⟩) cc cc cc cc := HFR.out.ext hb4
                      have b7' := (HK7.out.ext hb4).lt
                      have b10' := (k10.ext hb4).lt
                      refine ⟨lo7, lo10, cc, cc, cc, cc, rfl, ⟨s5.reads fr5.hS (fun ad e => by injection e with e; subst e; show lo7 ≠ w.heap.size; omega), s5.reads fr5.hQ (fun ad e => by injection e with e; subst e; show lo10 ≠ w.heap.size; omega), fr5.hn, fr5.hm⟩, a1, a2, Nat.lt_of_lt_of_le b7' s5.size, Nat.lt_of_lt_of_le b10' s5.size⟩
                  · have hb6 := ((((HB5.out.setL (i := k * 5) (.int .i64 unit)).setL (i := k * 5 + 1) (.int .i64 (countF step k))).setL (i := k * 5 + 2) (.bool sy)).setL (i := k * 5 + 3) (.slice (some ⟨lo7, 0, none⟩) cc cc)).setL (i := k * 5 + 4) (.slice (some ⟨lo10, 0, none⟩) cc cc)
                    rw [rows_set HRL.out hlt2 (fun r hr => FrOwn.len5 HROWS.out hr)] at hb6
                    exact hb6
                  · have s5 : Only w.heap.size w4 _ := ((((Only.set w4 w.heap.size (k * 5) (.int .i64 unit)).trans (Only.set _ w.heap.size (k * 5 + 1) (.int .i64 (countF step k)))).trans (Only.set _ w.heap.size (k * 5 + 2) (.bool sy))).trans (Only.set _ w.heap.size (k * 5 + 3) (.slice (some ⟨lo7, 0, none⟩) cc cc))).trans (Only.set _ w.heap.size (k * 5 + 4) (.slice (some ⟨lo10, 0, none⟩) cc cc))
                    exact s5.ext (hew.trans hb4) (Nat.le_refl _)
                  · rw [HERR.out, show 12 - k = (12 - (k + 1)) + 1 by omega, splitErr, if_pos HX.out]
                case measure => simp [intOf]; omega
              · have hXb : (X != 0) = true := by simp [hX0]
                go_wp2_with fail
                go_ret2
                refine ⟨hew.trans hb4, .inr ?_⟩
                have : splitErr unit step sy ch 12 0 = X := by rw [HERR.out, show 12 - k = (12 - (k + 1)) + 1 by omega, splitErr, if_neg (by rw [HX.out]; exact hX0), HX.out]
                rw [this]
                exact ⟨hX0, rfl⟩
        · go_wp2_with fail
          go_ret2
          obtain rfl : k = 12 := by omega
          refine ⟨hext, .inl ⟨by rw [HERR.out]; rfl, _, _, rfl, by simp [splitL], fun _ => ⟨_, rfl, hblk.lt, fun i f hf => ?_⟩⟩⟩
          have hi : i < 12 := by have := (List.getElem?_eq_some_iff.1 hf).1; simpa [splitL] using this
          have hfi : f = splitFr unit step sy ch i := by simp [splitL, hi] at hf; exact hf.symm
          subst hfi
          have hri : rows[i]? = some rows[i] := List.getElem?_eq_getElem (by omega)
          refine ⟨rows[i], (hrows i _ hri).cells, fun j v hv => ?_⟩
          rw [hblk.cell]
          have hj5 : j < 5 := by have := (List.getElem?_eq_some_iff.1 hv).1; rw [FrOwn.len5 hrows (List.mem_of_getElem? hri)] at this; exact this
          have := flat_at (rows := rows) (i := i) (j := j) (fun r hr => FrOwn.len5 hrows hr) (by omega) hj5
          simp only [Nat.sub_self, zfs, List.replicate_zero, List.flatten_nil, List.append_nil, List.getElem?_toArray]
          rw [this, ← hv]

theorem split_bad (unit step : Int) (sy : Bool) (A : Option Addr) (n c : Nat) (ch : List (List Int)) (w : World) (hch : RRows w A n ch) (hn : n ≤ 9223372036854775807) (h : btw step 0 1099511627776 = false ∨ btw n 1 8 = false ∨ ch.all (fun r => r.length == 12) = false) :
    Calls Try.prog 16 #[.int .i64 unit, .int .i64 step, .bool sy, .slice A n c] w fun e w' => e = .returned (.tuple #[.slice none 0 0, .int .i64 (splitE unit step sy ch)]) ∧ Ext w w' := by
  have hl := hch.1
  have HCH := Lib.hid hch; clear hch
  have HL := Lib.hid hl; clear hl
  cases h1 : btw step 0 1099511627776
  · have HE := Lib.hid (show 1 = splitE unit step sy ch by simp [splitE, h1])
    clear h
    go_enter Try.func16, Try.ntmps16
    go_wp2_with (go_at_call 26; refine (between_any _ _ _ _).mono ?_; rintro e w' ⟨rfl, rfl⟩)
    go_ret2
    exact ⟨ret_tup2 HE.out, Ext.refl _⟩
  cases h2 : btw n 1 8
  · have HE := Lib.hid (show 3 = splitE unit step sy ch by rw [← HL.out] at h2; simp [splitE, h1, h2])
    clear h
    go_enter Try.func16, Try.ntmps16
    go_wp2_with (go_at_call 26; refine (between_any _ _ _ _).mono ?_; rintro e w' ⟨rfl, rfl⟩)
    go_ret2
    exact ⟨ret_tup2 HE.out, Ext.refl _⟩
  have h3 : ch.all (fun r => r.length == 12) = false := by rcases h with h | h | h <;> simp_all
  have HE := Lib.hid (show 3 = splitE unit step sy ch by rw [← HL.out] at h2; simp [splitE, h1, h2, h3])
  have H3 := Lib.hid h3
  clear h h3
  go_enter Try.func16, Try.ntmps16
  go_wp2_with (go_at_call 26; refine (between_any _ _ _ _).mono ?_; rintro e w' ⟨rfl, rfl⟩)
  go_loop [27] (fun i => ∃ k : Nat, k ≤ n ∧ i = .int .i64 k ∧ ∀ j r, j < k → ch[j]? = some r → r.length = 12) (fun i => n - (intOf i).toNat)
  case atStart => exact ⟨0, Nat.zero_le _, rfl, fun j r hj => absurd hj (by omega)⟩
  case round =>
    obtain ⟨k, hk, rfl, hall⟩ := hrel
    have HALL := Lib.hid hall; clear hall
    by_cases hlt : k < n
    · obtain ⟨ad, r, Ai, ni, ci, rfl, hr, hc, hR, hni⟩ := HCH.out.at_ hlt
      have hrl := hR.len
      have HR := Lib.hid hr; clear hr
      have HRL := Lib.hid hrl; clear hrl
      by_cases h12 : ni = 12
      · subst h12
        go_wp2_with fail
        go_round
        case rel =>
          refine ⟨k + 1, by omega, by go_num, fun j r' hj hr' => ?_⟩
          by_cases hjk : j = k
          · subst hjk; rw [HR.out] at hr'; injection hr' with hr'; subst hr'; exact HRL.out
          · exact HALL.out j r' (by omega) hr'
        case measure => simp [intOf]; omega
      · have hb : ((ni : Int) != 12) = true := by simp; omega
        go_wp2_with fail
        go_ret2
        exact ⟨ret_tup2 HE.out, Ext.refl _⟩
    · exfalso
      have h3 := H3.out
      rw [List.all_eq_false] at h3
      obtain ⟨r, hr, hr2⟩ := h3
      obtain ⟨j, hj, rfl⟩ := List.getElem_of_mem hr
      have := HALL.out j ch[j] (by have := HL.out; omega) (List.getElem?_eq_getElem hj)
      simp [this] at hr2
end Go.Proofs.Ytmlcmnbjioabiaa
