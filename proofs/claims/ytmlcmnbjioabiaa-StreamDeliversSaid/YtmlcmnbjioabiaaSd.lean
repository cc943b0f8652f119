/- The bytes of a frame. -/
import Derived.Test.YtmlcmnbjioabiaaSc
import Derived.Deep.RegionHeld3
import Derived.Laws.CopyOwn
import Derived.StillTailTactics
namespace Go.Proofs.Ytmlcmnbjioabiaa
open Go.RowKit

theorem byte_info : (Try.prog.info? 5).map (fun i => (i.zero, i.size, i.bytes)) = some (some (.int .u8 0), 1, 1) := by kernel_rfl

theorem check_raw (unit count : Int) (sy : Bool) (S Q : List Int) (A B : Option Addr) (n m c d : Nat) (w : World) (hf : RFr w ⟨unit, count, sy, S, Q⟩ A B n m c d) :
    Calls Try.prog 9 #[.agg #[.int .i64 unit, .int .i64 count, .bool sy, .slice A n c, .slice B m d]] w fun e w' => e = .returned (.int .i64 (checkF ⟨unit, count, sy, S, Q⟩)) ∧ Ext w w' := check_any ⟨unit, count, sy, S, Q⟩ A B n m c d w hf
theorem byte_size : (Try.prog.info? 5).map (·.size) = some 1 := by kernel_rfl
theorem encF_row0 {F : Fr} {n : Nat} (hS : F.S.length = n) : (encRow F n 0) = [136, 186, F.unit / 256 % 256, F.unit % 256, F.count / 256 % 256, F.count % 256, (if F.sy then 1 else 0), (n : Int)] ++ List.replicate (3 * n) 0 := by
  simp [encRow, encHead, encBody, b2, hS]

theorem encRow_len {F : Fr} {n k : Nat} (hQ : F.Q.length = n) (hS : F.S.length = n) (hk : k ≤ n) : ((encRow F n k).map (Value.int .u8)).length = 8 + 3 * n := by
  have e0 : (encHead F).length = 8 := by simp [encHead, b2]
  have e1 : (encBody (F.S.take k) (F.Q.take k)).length = 3 * k := by rw [encBody_len (by simp; omega)]; simp; omega
  simp [encRow, e0, e1]; omega
theorem rep2 {α : Type} (z : α) (n : Nat) : List.replicate (8 + 3 * n) z = z :: z :: z :: z :: z :: z :: z :: z :: List.replicate (3 * n) z := by
  rw [show 8 + 3 * n = 3 * n + 8 by omega]; rfl
theorem row_true {α : Type} {Z : List α} {z : α} {n : Nat} (hZ : Z = List.replicate (8 + 3 * n) z) (a b c d e f g h : α) :
    ((splice Z 0 [a, b, c, d, e, f]).set 6 g).set 7 h = [a, b, c, d, e, f, g, h] ++ List.replicate (3 * n) z := by
  rw [hZ, rep2]; simp [splice]
theorem row_false {α : Type} {Z : List α} {z : α} {n : Nat} (hZ : Z = List.replicate (8 + 3 * n) z) (a b c d e f h : α) :
    (splice Z 0 [a, b, c, d, e, f]).set 7 h = [a, b, c, d, e, f, z, h] ++ List.replicate (3 * n) z := by
  rw [hZ, rep2]; simp [splice]
theorem encRow_step {F : Fr} {n k : Nat} {x q : Int} (hQ : F.Q.length = n) (hS : F.S.length = n) (hk : k < n) (hx : F.S[k]? = some x) (hq : F.Q[k]? = some q) :
    splice ((encRow F n k).map (Value.int .u8)) (8 + 3 * k) [.int .u8 (x / 256 % 256), .int .u8 (x % 256), .int .u8 (q % 256)] = (encRow F n (k + 1)).map (Value.int .u8) := by
  have e0 : (encHead F).length = 8 := by simp [encHead, b2]
  have e1 : (encBody (F.S.take k) (F.Q.take k)).length = 3 * k := by rw [encBody_len (by simp; omega)]; simp; omega
  have e3 : 3 * (n - k) = 3 * (n - (k + 1)) + 3 := by omega
  unfold encRow
  rw [encBody_snoc hx hq, e3]
  generalize encBody (F.S.take k) (F.Q.take k) = E at *
  generalize encHead F = H at *
  generalize n - (k + 1) = r at *
  rw [show List.replicate (3 * r + 3) (0 : Int) = [0, 0, 0] ++ List.replicate (3 * r) 0 from rfl]
  have e4 : ((H ++ E).map (Value.int .u8)).length = 8 + 3 * k := by simp; omega
  generalize hL : (H ++ E).map (Value.int .u8) = L at *
  generalize hR : (List.replicate (3 * r) (0 : Int)).map (Value.int .u8) = R at *
  have e5 : (H ++ (E ++ ([0, 0, 0] ++ List.replicate (3 * r) (0 : Int)))).map (Value.int .u8) = L ++ ([.int .u8 0, .int .u8 0, .int .u8 0] ++ R) := by rw [← hL, ← hR]; simp
  have e6 : (H ++ (E ++ [x / 256 % 256, x % 256, q % 256] ++ List.replicate (3 * r) (0 : Int))).map (Value.int .u8) = L ++ ([.int .u8 (x / 256 % 256), .int .u8 (x % 256), .int .u8 (q % 256)] ++ R) := by rw [← hL, ← hR]; simp
  rw [e5, e6, ← e4]
  simp [splice, List.drop_append]

set_option maxHeartbeats 400000 in
theorem encode_true (unit count : Int) (S Q : List Int) (A B : Option Addr) (n m c d : Nat) (w : World) (hf : RFr w ⟨unit, count, true, S, Q⟩ A B n m c d) (hok : checkF ⟨unit, count, true, S, Q⟩ = 0) :
    Calls Try.prog 18 #[.agg #[.int .i64 unit, .int .i64 count, .bool true, .slice A n c, .slice B m d]] w fun e w' => ∃ D, e = .returned (.tuple #[.slice D (8 + 3 * n) (8 + 3 * n), .int .i64 0]) ∧ Ext w w' ∧ Reads w' w'.heap.size 1 D (8 + 3 * n) ((encF ⟨unit, count, true, S, Q⟩).map (.int .u8)) := by
  have hz := checkF_zero hok
  have eS := hf.hS.len
  have eQ := hf.hQ.len
  dsimp only at hz eS eQ
  have hn8 : n ≤ 8 := by omega
  obtain rfl : n = m := by omega
  have HS := Lib.hid eS; have HQ := Lib.hid eQ
  clear eS eQ hz
  obtain ⟨i0, hi0, hz0, hz1, hz2⟩ := info_parts byte_info
  have HF := Lib.hid hf; clear hf
  have hmk := fun W => run_make (P := Try.prog) W 43 5 i0 (.int .u8 0) Try.underlying43 hi0 hz0 .i64 .i64 (8 + 3 * (n : Int)) (8 + 3 * (n : Int)) (by omega) (by omega) (by rw [hz2]; omega) (by omega)
  have H0 := Lib.hid hok; clear hok
  obtain ⟨Z, hZ⟩ : ∃ Z : List Value, Z = List.replicate (8 + 3 * n) (.int .u8 0) := ⟨_, rfl⟩
  have HZ := Lib.hid hZ; clear hZ
  go_enter Try.func18, Try.ntmps18
  go_wp2_with fail
  refine (check_raw unit count _ S Q A B n n c d _ (HF.out.ext (Ext.new _ _))).mono ?_
  rintro e w1 ⟨rfl, hb1⟩
  rw [H0.out]
  have b0 := fun i => ((Blk.new w 24 _).ext hb1).cell i
  have hz1' := hb1.lt
  go_wp2_with (with_reducible refine wpList_copy_splice rfl (.tmp 19) (.tmp 34) 43 43 rfl 5 Try.underlying43 byte_size _ _ _ _ _ _ rfl rfl w1.heap.size 0 Z 5 ?h1 [.int .u8 136, .int .u8 186, .int .u8 (unit / 256 % 256), .int .u8 (unit % 256), .int .u8 (count / 256 % 256), .int .u8 (count % 256)] ?h2 ?h3 ?h4 ?h5 w1.heap.size w1 ?h6 ?h7 ?h8)
  case h1 => rw [madeCells_one, ← HZ.out]; exact (Blk.new w1 5 _).alloc _
  case h2 => show 6 = min 6 (8 + 3 * n); omega
  case h4 => rw [HZ.out]; simp; omega
  case h5 => simp [Value.oneCell']
  case h6 => exact (Ext.new _ _).alloc _
  case h7 => exact Nat.le_refl _
  case h8 =>
    intro w2 HG2 hB2
    have hG2 : Blk w2 w1.heap.size 5 _ := HG2.out
    clear HG2
    have hl2 : 8 ≤ (splice Z 0 [.int .u8 136, .int .u8 186, .int .u8 (unit / 256 % 256), .int .u8 (unit % 256), .int .u8 (count / 256 % 256), .int .u8 (count % 256)]).length := by
      rw [length_splice _ _ _ (by rw [HZ.out]; simp; omega), HZ.out]; simp
    obtain ⟨u6, c6⟩ := hG2.cell_some (i := 6) (by omega)
    obtain ⟨u7, c7⟩ := hG2.cell_some (i := 7) (by omega)
    have f6 := hG2.frozen 6
    have f7 := hG2.frozen 7
    have hl1 := hG2.lt
    have b2 : ∀ i, w2.cell? ⟨w.heap.size, i, none⟩ = _ := fun i => (hB2.cell (p := ⟨w.heap.size, i, none⟩) hz1').trans (b0 i)
    have HG2 := Lib.hid hG2; clear hG2
    go_wp2_with fail
    go_loopw [49] (fun i wr => ∃ k : Nat, k ≤ n ∧ i = .int .i64 k ∧ Blk wr w1.heap.size 5 ((encRow ⟨unit, count, true, S, Q⟩ n k).map (.int .u8)).toArray ∧ Below w1.heap.size w1 wr) (fun i _ => n - (intOf i).toNat)
    case atStart =>
      refine ⟨0, Nat.zero_le _, rfl, ?_, ((hB2.setCell (Nat.le_refl _) _).setCell (Nat.le_refl _) _)⟩
      have hb := (HG2.out.setL (i := 6) (.int .u8 1)).setL (i := 7) (.int .u8 (n : Int))
      rw [row_true HZ.out] at hb
      rw [encF_row0 HS.out]
      simpa using hb
    case round =>
      obtain ⟨k, hk, rfl, hG, hB⟩ := hrel
      have hbr : ∀ i, wr.cell? ⟨w.heap.size, i, none⟩ = _ := fun i => (hB.cell (p := ⟨w.heap.size, i, none⟩) hz1').trans (b0 i)
      clear b2 c6 c7 f6 f7 HG2 hl2 b0 hmk
      by_cases hlt : k < n
      · obtain ⟨ad, x, rfl, hb, hx, hcx⟩ := ((HF.out.hS.ext ((Ext.new _ _).trans hb1)).below hB).int_at hlt
        obtain ⟨bd, y, rfl, hb', hy, hcy⟩ := ((HF.out.hQ.ext ((Ext.new _ _).trans hb1)).below hB).int_at hlt
        have HX := Lib.hid hx; clear hx
        have HY := Lib.hid hy; clear hy
        have hlr := hG.lt
        have HGr := Lib.hid hG
        clear hG
        go_wp2_with fail
        have hgb := hB
        have hk1 : (0 : Int) ≤ (k : Int) := by omega
        have hk2 : (k : Int) < (n : Int) := by omega
        have hs1 : (0 : Int) ≤ 8 + 3 * (k : Int) := by omega
        have hs2 : 8 + 3 * (k : Int) ≤ 8 + 3 * (n : Int) := by omega
        have hs3 : (8 + 3 * (k : Int)).toNat = 8 + 3 * k := by omega
        have hs4 : ¬ (3 * n = 3 * k) := by omega
        have hs5 : IntKind.i64.wrap (3 * (k : Int)) = 3 * (k : Int) := IntWalk.i64_in _ (by omega)
        have hs7 : IntKind.u8.wrap (x / 256) = x / 256 % 256 := by rw [IntKind.wrap_u8]
        have hs8 : IntKind.u8.wrap x = x % 256 := by rw [IntKind.wrap_u8]
        have hs9 : IntKind.u8.wrap y = y % 256 := by rw [IntKind.wrap_u8]
        have hs6 : IntKind.i64.wrap (8 + 3 * (k : Int)) = 8 + 3 * (k : Int) := IntWalk.i64_in _ (by omega)
        go_region_held3 (fun w' => w'.cell? ⟨w.heap.size, 4, none⟩ = some (.slice (some bd) n d) ∧ w'.cell? (bd.add k) = some (.int .i64 y)) (first | go_keep | exact ⟨(hB3.cell (p := ⟨w.heap.size, 4, none⟩) hz1').trans (hbr 4), (hB3.cell (p := bd.add k) (by rw [block_of_add]; exact hb')).trans hcy⟩) ((refine step_copy_splice (by rfl) (.tmp 58) (.tmp 70) 43 43 (by rfl) 5 Try.underlying43 byte_size _ _ _ _ _ _ (by rfl) (by rfl) w1.heap.size (8 + 3 * k) ((encRow ⟨unit, count, true, S, Q⟩ n k).map (.int .u8)) 5 (by exact (HGr.out.alloc _).drew) [.int .u8 (x / 256 % 256), .int .u8 (x % 256), .int .u8 (y % 256)] (by show 3 = min 3 _; omega) (fun _ => ⟨by simp, _, rfl, by go_simp⟩) (by rw [encRow_len HQ.out HS.out hk, List.length_cons, List.length_cons, List.length_cons, List.length_nil]; omega) (by simp [Value.oneCell']) w1.heap.size wr (by exact ((Below.refl _ _).alloc (by omega) _).drew) (Nat.le_refl _) ?_; intro w3 HG3 hB3))
        have hG3 : Blk w3 w1.heap.size 5 _ := HG3.out
        rw [encRow_step HQ.out HS.out hlt HX.out HY.out] at hG3
        have HG4 := Lib.hid hG3
        clear HG3 hG3 hs1 hs2 hs3 hs4 hs5 hs6 hs7 hs8 hs9
        go_wp2_with fail
        go_roundw
        case rel => exact ⟨k + 1, by omega, by go_num, HG4.out, hB.trans hB3⟩
        case measure => simp [intOf]; omega
      · go_wp2_with fail
        go_ret2
        obtain rfl : k = n := by omega
        refine ⟨_, rfl, ((Ext.new _ _).trans hb1).trans hB, ?_⟩
        have := hG.reads (n := 8 + 3 * k) (size := 1) (by have := encRow_len (F := ⟨unit, count, true, S, Q⟩) HQ.out HS.out hk; simp at this ⊢; omega)
        simpa [encRow, encF, List.take_of_length_le, HS.out, HQ.out] using this
set_option maxHeartbeats 400000 in
theorem encode_false (unit count : Int) (S Q : List Int) (A B : Option Addr) (n m c d : Nat) (w : World) (hf : RFr w ⟨unit, count, false, S, Q⟩ A B n m c d) (hok : checkF ⟨unit, count, false, S, Q⟩ = 0) :
    Calls Try.prog 18 #[.agg #[.int .i64 unit, .int .i64 count, .bool false, .slice A n c, .slice B m d]] w fun e w' => ∃ D, e = .returned (.tuple #[.slice D (8 + 3 * n) (8 + 3 * n), .int .i64 0]) ∧ Ext w w' ∧ Reads w' w'.heap.size 1 D (8 + 3 * n) ((encF ⟨unit, count, false, S, Q⟩).map (.int .u8)) := by
  have hz := checkF_zero hok
  have eS := hf.hS.len
  have eQ := hf.hQ.len
  dsimp only at hz eS eQ
  have hn8 : n ≤ 8 := by omega
  obtain rfl : n = m := by omega
  have HS := Lib.hid eS; have HQ := Lib.hid eQ
  clear eS eQ hz
  obtain ⟨i0, hi0, hz0, hz1, hz2⟩ := info_parts byte_info
  have HF := Lib.hid hf; clear hf
  have hmk := fun W => run_make (P := Try.prog) W 43 5 i0 (.int .u8 0) Try.underlying43 hi0 hz0 .i64 .i64 (8 + 3 * (n : Int)) (8 + 3 * (n : Int)) (by omega) (by omega) (by rw [hz2]; omega) (by omega)
  have H0 := Lib.hid hok; clear hok
  obtain ⟨Z, hZ⟩ : ∃ Z : List Value, Z = List.replicate (8 + 3 * n) (.int .u8 0) := ⟨_, rfl⟩
  have HZ := Lib.hid hZ; clear hZ
  go_enter Try.func18, Try.ntmps18
  go_wp2_with fail
  refine (check_raw unit count _ S Q A B n n c d _ (HF.out.ext (Ext.new _ _))).mono ?_
  rintro e w1 ⟨rfl, hb1⟩
  rw [H0.out]
  have b0 := fun i => ((Blk.new w 24 _).ext hb1).cell i
  have hz1' := hb1.lt
  go_wp2_with (with_reducible refine wpList_copy_splice rfl (.tmp 19) (.tmp 34) 43 43 rfl 5 Try.underlying43 byte_size _ _ _ _ _ _ rfl rfl w1.heap.size 0 Z 5 ?h1 [.int .u8 136, .int .u8 186, .int .u8 (unit / 256 % 256), .int .u8 (unit % 256), .int .u8 (count / 256 % 256), .int .u8 (count % 256)] ?h2 ?h3 ?h4 ?h5 w1.heap.size w1 ?h6 ?h7 ?h8)
  case h1 => rw [madeCells_one, ← HZ.out]; exact (Blk.new w1 5 _).alloc _
  case h2 => show 6 = min 6 (8 + 3 * n); omega
  case h4 => rw [HZ.out]; simp; omega
  case h5 => simp [Value.oneCell']
  case h6 => exact (Ext.new _ _).alloc _
  case h7 => exact Nat.le_refl _
  case h8 =>
    intro w2 HG2 hB2
    have hG2 : Blk w2 w1.heap.size 5 _ := HG2.out
    clear HG2
    have hl2 : 8 ≤ (splice Z 0 [.int .u8 136, .int .u8 186, .int .u8 (unit / 256 % 256), .int .u8 (unit % 256), .int .u8 (count / 256 % 256), .int .u8 (count % 256)]).length := by
      rw [length_splice _ _ _ (by rw [HZ.out]; simp; omega), HZ.out]; simp
    obtain ⟨u6, c6⟩ := hG2.cell_some (i := 6) (by omega)
    obtain ⟨u7, c7⟩ := hG2.cell_some (i := 7) (by omega)
    have f6 := hG2.frozen 6
    have f7 := hG2.frozen 7
    have hl1 := hG2.lt
    have b2 : ∀ i, w2.cell? ⟨w.heap.size, i, none⟩ = _ := fun i => (hB2.cell (p := ⟨w.heap.size, i, none⟩) hz1').trans (b0 i)
    have HG2 := Lib.hid hG2; clear hG2
    go_wp2_with fail
    go_loopw [49] (fun i wr => ∃ k : Nat, k ≤ n ∧ i = .int .i64 k ∧ Blk wr w1.heap.size 5 ((encRow ⟨unit, count, false, S, Q⟩ n k).map (.int .u8)).toArray ∧ Below w1.heap.size w1 wr) (fun i _ => n - (intOf i).toNat)
    case atStart =>
      refine ⟨0, Nat.zero_le _, rfl, ?_, ((hB2).setCell (Nat.le_refl _) _)⟩
      have hb := (HG2.out).setL (i := 7) (.int .u8 (n : Int))
      rw [row_false HZ.out] at hb
      rw [encF_row0 HS.out]
      simpa using hb
    case round =>
      obtain ⟨k, hk, rfl, hG, hB⟩ := hrel
      have hbr : ∀ i, wr.cell? ⟨w.heap.size, i, none⟩ = _ := fun i => (hB.cell (p := ⟨w.heap.size, i, none⟩) hz1').trans (b0 i)
      clear b2 c6 c7 f6 f7 HG2 hl2 b0 hmk
      by_cases hlt : k < n
      · obtain ⟨ad, x, rfl, hb, hx, hcx⟩ := ((HF.out.hS.ext ((Ext.new _ _).trans hb1)).below hB).int_at hlt
        obtain ⟨bd, y, rfl, hb', hy, hcy⟩ := ((HF.out.hQ.ext ((Ext.new _ _).trans hb1)).below hB).int_at hlt
        have HX := Lib.hid hx; clear hx
        have HY := Lib.hid hy; clear hy
        have hlr := hG.lt
        have HGr := Lib.hid hG
        clear hG
        go_wp2_with fail
        have hgb := hB
        have hk1 : (0 : Int) ≤ (k : Int) := by omega
        have hk2 : (k : Int) < (n : Int) := by omega
        have hs1 : (0 : Int) ≤ 8 + 3 * (k : Int) := by omega
        have hs2 : 8 + 3 * (k : Int) ≤ 8 + 3 * (n : Int) := by omega
        have hs3 : (8 + 3 * (k : Int)).toNat = 8 + 3 * k := by omega
        have hs4 : ¬ (3 * n = 3 * k) := by omega
        have hs5 : IntKind.i64.wrap (3 * (k : Int)) = 3 * (k : Int) := IntWalk.i64_in _ (by omega)
        have hs7 : IntKind.u8.wrap (x / 256) = x / 256 % 256 := by rw [IntKind.wrap_u8]
        have hs8 : IntKind.u8.wrap x = x % 256 := by rw [IntKind.wrap_u8]
        have hs9 : IntKind.u8.wrap y = y % 256 := by rw [IntKind.wrap_u8]
        have hs6 : IntKind.i64.wrap (8 + 3 * (k : Int)) = 8 + 3 * (k : Int) := IntWalk.i64_in _ (by omega)
        go_region_held3 (fun w' => w'.cell? ⟨w.heap.size, 4, none⟩ = some (.slice (some bd) n d) ∧ w'.cell? (bd.add k) = some (.int .i64 y)) (first | go_keep | exact ⟨(hB3.cell (p := ⟨w.heap.size, 4, none⟩) hz1').trans (hbr 4), (hB3.cell (p := bd.add k) (by rw [block_of_add]; exact hb')).trans hcy⟩) ((refine step_copy_splice (by rfl) (.tmp 58) (.tmp 70) 43 43 (by rfl) 5 Try.underlying43 byte_size _ _ _ _ _ _ (by rfl) (by rfl) w1.heap.size (8 + 3 * k) ((encRow ⟨unit, count, false, S, Q⟩ n k).map (.int .u8)) 5 (by exact (HGr.out.alloc _).drew) [.int .u8 (x / 256 % 256), .int .u8 (x % 256), .int .u8 (y % 256)] (by show 3 = min 3 _; omega) (fun _ => ⟨by simp, _, rfl, by go_simp⟩) (by rw [encRow_len HQ.out HS.out hk, List.length_cons, List.length_cons, List.length_cons, List.length_nil]; omega) (by simp [Value.oneCell']) w1.heap.size wr (by exact ((Below.refl _ _).alloc (by omega) _).drew) (Nat.le_refl _) ?_; intro w3 HG3 hB3))
        have hG3 : Blk w3 w1.heap.size 5 _ := HG3.out
        rw [encRow_step HQ.out HS.out hlt HX.out HY.out] at hG3
        have HG4 := Lib.hid hG3
        clear HG3 hG3 hs1 hs2 hs3 hs4 hs5 hs6 hs7 hs8 hs9
        go_wp2_with fail
        go_roundw
        case rel => exact ⟨k + 1, by omega, by go_num, HG4.out, hB.trans hB3⟩
        case measure => simp [intOf]; omega
      · go_wp2_with fail
        go_ret2
        obtain rfl : k = n := by omega
        refine ⟨_, rfl, ((Ext.new _ _).trans hb1).trans hB, ?_⟩
        have := hG.reads (n := 8 + 3 * k) (size := 1) (by have := encRow_len (F := ⟨unit, count, false, S, Q⟩) HQ.out HS.out hk; simp at this ⊢; omega)
        simpa [encRow, encF, List.take_of_length_le, HS.out, HQ.out] using this

/-- Encode of a frame with an error. -/
theorem encode_err (unit count : Int) (sy : Bool) (S Q : List Int) (A B : Option Addr) (n m c d : Nat) (w : World) (hf : RFr w ⟨unit, count, sy, S, Q⟩ A B n m c d) (hok : checkF ⟨unit, count, sy, S, Q⟩ ≠ 0) :
    Calls Try.prog 18 #[.agg #[.int .i64 unit, .int .i64 count, .bool sy, .slice A n c, .slice B m d]] w fun e w' => e = .returned (.tuple #[.slice none 0 0, .int .i64 (checkF ⟨unit, count, sy, S, Q⟩)]) ∧ Ext w w' := by
  have HF := Lib.hid hf; clear hf
  generalize hX : checkF ⟨unit, count, sy, S, Q⟩ = X at *
  have HX := Lib.hid hX; clear hX
  have h1 : (X != 0) = true := by simpa using hok
  go_enter Try.func18, Try.ntmps18
  go_wp2_with fail
  refine (check_raw unit count _ S Q A B n m c d _ (HF.out.ext (Ext.new _ _))).mono ?_
  rintro e w1 ⟨rfl, hb1⟩
  rw [HX.out]
  go_wp2_with fail
  go_ret2
  exact ⟨rfl, (Ext.new _ _).trans hb1⟩
end Go.Proofs.Ytmlcmnbjioabiaa
