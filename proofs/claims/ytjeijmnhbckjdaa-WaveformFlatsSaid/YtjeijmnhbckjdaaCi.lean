/- The walk of WaveformFlats. -/
import Derived.Test.YtjeijmnhbckjdaaCd
import Derived.Test.YtjeijmnhbckjdaaCf
import Derived.Test.YtjeijmnhbckjdaaGh
namespace Go.Proofs.Ytjeijmnhbckjdaa
open Go.RowKit
set_option linter.unusedVariables false

theorem wpList_load_row_w {P : Program} {ops : Array Oper} {rest : List Oper} {o : Oper} {a : Act} {w : World} {Q : Exit → Act → World → Prop} (hw : Region.wanted o (yielded ops a.tmps) = true) (ty : TypeId) (x : Operand) (ho : o.op = .load ty x)
    (g : Nat) (hx : a.eval x = .pointer (some ⟨g, 0, none⟩)) (t : TypeId) (cs : Array Value) (fr : Nat × Nat) (d : TypeDesc) (hg : w.heap[g]? = some (.cells cs t fr))
    (hu : P.underlying ty = some d) (hd : (match d with | .struct _ | .array _ _ => true | _ => false) = true) (hi : (P.info? ty).map (·.size) = some cs.size)
    (h : wpList P ops Q rest (a.put o.dst (.agg cs)) w) : wpList P ops Q (o :: rest) a w := by
  unfold wpList
  rw [if_pos hw]
  exact .inl (wp_load_row ty x ho g hx t cs fr d hg hu hd hi h)
set_option maxRecDepth 100000 in
set_option maxHeartbeats 6400000 in
theorem flats_large (s1 s2 s3 s4 s5 s6 : Bool) (A1 A2 A3 A4 A5 A6 : Option Addr) (n1 c1 n2 c2 n3 c3 n4 c4 n5 c5 n6 c6 : Nat) (g : Nat → Int) (L : Int) (w : World) (hs : ((decide (n1 ≤ 6) && decide (n2 ≤ 6) && decide (n3 ≤ 6)) && (decide (n4 ≤ 6) && decide (n5 ≤ 6) && decide (n6 ≤ 6))) = false) (a1 : -9223372036854775808 ≤ L) (a2 : L ≤ 9223372036854775807) :
    Calls Try.prog 6 #[.agg (row12 g), pv s1 A1 n1 c1 s2 A2 n2 c2 s3 A3 n3 c3 s4 A4 n4 c4 s5 A5 n5 c5 s6 A6 n6 c6, .int .i64 L] w fun e w' => e = .returned (.bool true) ∧ Ext w w' := by
  have HS := Lib.hid hs; clear hs
  have hsz := a12_size (row12_size g)
  have HSZ := Lib.hid hsz; clear hsz
  have HAT : Hid (∀ j, j < 12 → (row12 g)[j]? = some (.int .i64 (g j))) := Lib.hid fun j hj => row12_at hj
  have HFA : Hid (∀ w, Calls Try.prog 13 #[.agg (row12 g), .int .i64 L] w fun e w' => e = .returned (.bool (flatB g L 12)) ∧ Ext w w') := Lib.hid fun w => flat_any g L a1 a2 w
  generalize hr : row12 g = R at *
  clear hr
  have hB3 : Blk ((w.alloc (.cells R 31)).alloc (.cells #[.bool s1, .slice A1 n1 c1, .bool s2, .slice A2 n2 c2, .bool s3, .slice A3 n3 c3, .bool s4, .slice A4 n4 c4, .bool s5, .slice A5 n5 c5, .bool s6, .slice A6 n6 c6] 28)) w.heap.size 31 R := (Blk.new _ _ _).alloc _
  have hB4 : Blk ((w.alloc (.cells R 31)).alloc (.cells #[.bool s1, .slice A1 n1 c1, .bool s2, .slice A2 n2 c2, .bool s3, .slice A3 n3 c3, .bool s4, .slice A4 n4 c4, .bool s5, .slice A5 n5 c5, .bool s6, .slice A6 n6 c6] 28)) (w.heap.size + 1) 28 #[.bool s1, .slice A1 n1 c1, .bool s2, .slice A2 n2 c2, .bool s3, .slice A3 n3 c3, .bool s4, .slice A4 n4 c4, .bool s5, .slice A5 n5 c5, .bool s6, .slice A6 n6 c6] := Blk.new' _ _ (by simp)
  have hE : Ext w ((w.alloc (.cells R 31)).alloc (.cells #[.bool s1, .slice A1 n1 c1, .bool s2, .slice A2 n2 c2, .bool s3, .slice A3 n3 c3, .bool s4, .slice A4 n4 c4, .bool s5, .slice A5 n5 c5, .bool s6, .slice A6 n6 c6] 28)) := ((Ext.new _ _).alloc _)
  go_enter Try.func6, Try.ntmps6
  go_wp2_with (first | (refine wpList_load_row rfl 31 _ rfl w.heap.size (by rfl) 31 R (0, 0) _ hB3 Try.underlying31 rfl HSZ.out ?_))
  generalize ((w.alloc (.cells R 31)).alloc (.cells #[.bool s1, .slice A1 n1 c1, .bool s2, .slice A2 n2 c2, .bool s3, .slice A3 n3 c3, .bool s4, .slice A4 n4 c4, .bool s5, .slice A5 n5 c5, .bool s6, .slice A6 n6 c6] 28)) = w1 at hB3 hB4 hE ⊢
  generalize w.heap.size + 1 = g4 at hB4 ⊢
  generalize w.heap.size = g3 at hB3 ⊢
  have HE := Lib.hid hE; clear hE
  go_loopw [7, 15] (fun b i wr => ∃ k : Nat, k ≤ 12 ∧ i = .int .i64 k ∧ b = .bool (flatB g L k) ∧ Ext w1 wr) (fun _ i _ => 12 - (intOf i).toNat)
  case atStart => exact ⟨0, by omega, rfl, rfl, Ext.refl _⟩
  case round =>
    obtain ⟨k, hk, rfl, rfl, hx⟩ := hrel
    by_cases hlt : k < 12
    · have hd : decide ((k : Int) < 12) = true := by simp; omega
      have hat := idx12 hlt (HAT.out k hlt) wr
      have hsu := flatB_succ g L k
      generalize flatB g L k = b0 at hsu ⊢
      by_cases hL : 1 ≤ L
      · have dL : decide (1 ≤ L) = true := by simpa using hL
        have LM := IntWalk.wrap64_in (-L) (by omega)
        rw [dL] at hsu
        generalize hb1 : (g k == L) = b1 at hsu
        generalize hb2 : (g k == -L) = b2 at hsu
        have HSU := Lib.hid hsu; clear hsu
        cases b0 <;> cases b1 <;> cases b2
        all_goals
          go_wp2_with fail
          go_roundw
          case rel => exact ⟨k + 1, by omega, by go_num, by rw [HSU.out]; rfl, hx⟩
          case measure => simp [intOf]; omega
      · have dL : decide (1 ≤ L) = false := by simpa using hL
        rw [dL] at hsu
        have HSU := Lib.hid hsu; clear hsu
        cases b0
        all_goals
          go_wp2_with fail
          go_roundw
          case rel => exact ⟨k + 1, by omega, by go_num, by rw [HSU.out]; rfl, hx⟩
          case measure => simp [intOf]; omega
    · obtain rfl : k = 12 := by omega
      replace hB3 := hB3.ext hx; replace hB4 := hB4.ext hx
      have HE2 := Lib.hid (HE.out.trans hx); clear HE hx
      go_wp2_with (first | (refine wpList_load_row rfl 28 _ rfl g4 (by rfl) 28 _ (0, 0) _ hB4 Try.underlying28 rfl (phasor_size rfl) ?_) | (refine wpList_load_row rfl 31 _ rfl g3 (by rfl) 31 R (0, 0) _ hB3 Try.underlying31 rfl HSZ.out ?_) | (refine wpList_load_row_w (by rfl) 28 _ rfl g4 (by rfl) 28 _ (0, 0) _ hB4 Try.underlying28 rfl (phasor_size rfl) ?_) | (refine wpList_load_row_w (by rfl) 31 _ rfl g3 (by rfl) 31 R (0, 0) _ hB3 Try.underlying31 rfl HSZ.out ?_))
      refine (HFA.out _).mono ?_
      rintro e w2 ⟨rfl, hx⟩
      replace hB3 := hB3.ext hx; replace hB4 := hB4.ext hx; have HE3 := Lib.hid (HE2.out.trans hx); clear HE2 hx
      have hbb : (flatB g L 12 != flatB g L 12) = false := by simp
      have hbe : (flatB g L 12 == flatB g L 12) = true := by simp
      go_wp2_with (first | (refine wpList_load_row rfl 28 _ rfl g4 (by rfl) 28 _ (0, 0) _ hB4 Try.underlying28 rfl (phasor_size rfl) ?_) | (refine wpList_load_row rfl 31 _ rfl g3 (by rfl) 31 R (0, 0) _ hB3 Try.underlying31 rfl HSZ.out ?_) | (refine wpList_load_row_w (by rfl) 28 _ rfl g4 (by rfl) 28 _ (0, 0) _ hB4 Try.underlying28 rfl (phasor_size rfl) ?_) | (refine wpList_load_row_w (by rfl) 31 _ rfl g3 (by rfl) 31 R (0, 0) _ hB3 Try.underlying31 rfl HSZ.out ?_))
      refine (wsmall_any s1 s2 s3 s4 s5 s6 A1 A2 A3 A4 A5 A6 n1 c1 n2 c2 n3 c3 n4 c4 n5 c5 n6 c6 _).mono ?_
      rintro e w3 ⟨rfl, hx⟩
      rw [HS.out]
      replace hB3 := hB3.ext hx; replace hB4 := hB4.ext hx; have HE4 := Lib.hid (HE3.out.trans hx); clear HE3 hx
      go_wp2_with (first | (refine wpList_load_row rfl 28 _ rfl g4 (by rfl) 28 _ (0, 0) _ hB4 Try.underlying28 rfl (phasor_size rfl) ?_) | (refine wpList_load_row rfl 31 _ rfl g3 (by rfl) 31 R (0, 0) _ hB3 Try.underlying31 rfl HSZ.out ?_) | (refine wpList_load_row_w (by rfl) 28 _ rfl g4 (by rfl) 28 _ (0, 0) _ hB4 Try.underlying28 rfl (phasor_size rfl) ?_) | (refine wpList_load_row_w (by rfl) 31 _ rfl g3 (by rfl) 31 R (0, 0) _ hB3 Try.underlying31 rfl HSZ.out ?_))
      refine (lwknown_ok _).mono ?_
      rintro e w4 ⟨rfl, hx⟩
      replace hB3 := hB3.ext hx; replace hB4 := hB4.ext hx; have HE5 := Lib.hid (HE4.out.trans hx); clear HE4 hx
      go_wp2_with (first | (refine wpList_load_row rfl 28 _ rfl g4 (by rfl) 28 _ (0, 0) _ hB4 Try.underlying28 rfl (phasor_size rfl) ?_) | (refine wpList_load_row rfl 31 _ rfl g3 (by rfl) 31 R (0, 0) _ hB3 Try.underlying31 rfl HSZ.out ?_) | (refine wpList_load_row_w (by rfl) 28 _ rfl g4 (by rfl) 28 _ (0, 0) _ hB4 Try.underlying28 rfl (phasor_size rfl) ?_) | (refine wpList_load_row_w (by rfl) 31 _ rfl g3 (by rfl) 31 R (0, 0) _ hB3 Try.underlying31 rfl HSZ.out ?_))
      refine (HFA.out _).mono ?_
      rintro e w5 ⟨rfl, hx⟩
      go_wp2_with fail
      go_ret
      exact ⟨ret_bool' (by simp), HE5.out.trans hx⟩
set_option maxRecDepth 100000 in
set_option maxHeartbeats 6400000 in
theorem flats_bad (s1 s2 s3 s4 s5 s6 : Bool) (A1 A2 A3 A4 A5 A6 : Option Addr) (n1 c1 n2 c2 n3 c3 n4 c4 n5 c5 n6 c6 : Nat) (g h : Nat → Int) (L : Int) (w : World) (hs : ((decide (n1 ≤ 6) && decide (n2 ≤ 6) && decide (n3 ≤ 6)) && (decide (n4 ≤ 6) && decide (n5 ≤ 6) && decide (n6 ≤ 6))) = true) (a1 : -9223372036854775808 ≤ L) (a2 : L ≤ 9223372036854775807) (hch : ∀ w', Ext w w' → Calls Try.prog 9 #[pv s1 A1 n1 c1 s2 A2 n2 c2 s3 A3 n3 c3 s4 A4 n4 c4 s5 A5 n5 c5 s6 A6 n6 c6, .int .i64 1, .int .i64 L] w' fun e w'' => e = .returned (.tuple #[.agg (row12 h), .int .i64 1]) ∧ Ext w' w'')  :
    Calls Try.prog 6 #[.agg (row12 g), pv s1 A1 n1 c1 s2 A2 n2 c2 s3 A3 n3 c3 s4 A4 n4 c4 s5 A5 n5 c5 s6 A6 n6 c6, .int .i64 L] w fun e w' => e = .returned (.bool true) ∧ Ext w w' := by
  have HS := Lib.hid hs; have HCH := Lib.hid hch; clear hs hch
  have hsz := a12_size (row12_size g)
  have HSZ := Lib.hid hsz; clear hsz
  have HAT : Hid (∀ j, j < 12 → (row12 g)[j]? = some (.int .i64 (g j))) := Lib.hid fun j hj => row12_at hj
  have HFA : Hid (∀ w, Calls Try.prog 13 #[.agg (row12 g), .int .i64 L] w fun e w' => e = .returned (.bool (flatB g L 12)) ∧ Ext w w') := Lib.hid fun w => flat_any g L a1 a2 w
  generalize hr : row12 g = R at *
  clear hr
  have hB3 : Blk ((w.alloc (.cells R 31)).alloc (.cells #[.bool s1, .slice A1 n1 c1, .bool s2, .slice A2 n2 c2, .bool s3, .slice A3 n3 c3, .bool s4, .slice A4 n4 c4, .bool s5, .slice A5 n5 c5, .bool s6, .slice A6 n6 c6] 28)) w.heap.size 31 R := (Blk.new _ _ _).alloc _
  have hB4 : Blk ((w.alloc (.cells R 31)).alloc (.cells #[.bool s1, .slice A1 n1 c1, .bool s2, .slice A2 n2 c2, .bool s3, .slice A3 n3 c3, .bool s4, .slice A4 n4 c4, .bool s5, .slice A5 n5 c5, .bool s6, .slice A6 n6 c6] 28)) (w.heap.size + 1) 28 #[.bool s1, .slice A1 n1 c1, .bool s2, .slice A2 n2 c2, .bool s3, .slice A3 n3 c3, .bool s4, .slice A4 n4 c4, .bool s5, .slice A5 n5 c5, .bool s6, .slice A6 n6 c6] := Blk.new' _ _ (by simp)
  have hE : Ext w ((w.alloc (.cells R 31)).alloc (.cells #[.bool s1, .slice A1 n1 c1, .bool s2, .slice A2 n2 c2, .bool s3, .slice A3 n3 c3, .bool s4, .slice A4 n4 c4, .bool s5, .slice A5 n5 c5, .bool s6, .slice A6 n6 c6] 28)) := ((Ext.new _ _).alloc _)
  go_enter Try.func6, Try.ntmps6
  go_wp2_with (first | (refine wpList_load_row rfl 31 _ rfl w.heap.size (by rfl) 31 R (0, 0) _ hB3 Try.underlying31 rfl HSZ.out ?_))
  generalize ((w.alloc (.cells R 31)).alloc (.cells #[.bool s1, .slice A1 n1 c1, .bool s2, .slice A2 n2 c2, .bool s3, .slice A3 n3 c3, .bool s4, .slice A4 n4 c4, .bool s5, .slice A5 n5 c5, .bool s6, .slice A6 n6 c6] 28)) = w1 at hB3 hB4 hE ⊢
  generalize w.heap.size + 1 = g4 at hB4 ⊢
  generalize w.heap.size = g3 at hB3 ⊢
  have HE := Lib.hid hE; clear hE
  go_loopw [7, 15] (fun b i wr => ∃ k : Nat, k ≤ 12 ∧ i = .int .i64 k ∧ b = .bool (flatB g L k) ∧ Ext w1 wr) (fun _ i _ => 12 - (intOf i).toNat)
  case atStart => exact ⟨0, by omega, rfl, rfl, Ext.refl _⟩
  case round =>
    obtain ⟨k, hk, rfl, rfl, hx⟩ := hrel
    by_cases hlt : k < 12
    · have hd : decide ((k : Int) < 12) = true := by simp; omega
      have hat := idx12 hlt (HAT.out k hlt) wr
      have hsu := flatB_succ g L k
      generalize flatB g L k = b0 at hsu ⊢
      by_cases hL : 1 ≤ L
      · have dL : decide (1 ≤ L) = true := by simpa using hL
        have LM := IntWalk.wrap64_in (-L) (by omega)
        rw [dL] at hsu
        generalize hb1 : (g k == L) = b1 at hsu
        generalize hb2 : (g k == -L) = b2 at hsu
        have HSU := Lib.hid hsu; clear hsu
        cases b0 <;> cases b1 <;> cases b2
        all_goals
          go_wp2_with fail
          go_roundw
          case rel => exact ⟨k + 1, by omega, by go_num, by rw [HSU.out]; rfl, hx⟩
          case measure => simp [intOf]; omega
      · have dL : decide (1 ≤ L) = false := by simpa using hL
        rw [dL] at hsu
        have HSU := Lib.hid hsu; clear hsu
        cases b0
        all_goals
          go_wp2_with fail
          go_roundw
          case rel => exact ⟨k + 1, by omega, by go_num, by rw [HSU.out]; rfl, hx⟩
          case measure => simp [intOf]; omega
    · obtain rfl : k = 12 := by omega
      replace hB3 := hB3.ext hx; replace hB4 := hB4.ext hx
      have HE2 := Lib.hid (HE.out.trans hx); clear HE hx
      go_wp2_with (first | (refine wpList_load_row rfl 28 _ rfl g4 (by rfl) 28 _ (0, 0) _ hB4 Try.underlying28 rfl (phasor_size rfl) ?_) | (refine wpList_load_row rfl 31 _ rfl g3 (by rfl) 31 R (0, 0) _ hB3 Try.underlying31 rfl HSZ.out ?_) | (refine wpList_load_row_w (by rfl) 28 _ rfl g4 (by rfl) 28 _ (0, 0) _ hB4 Try.underlying28 rfl (phasor_size rfl) ?_) | (refine wpList_load_row_w (by rfl) 31 _ rfl g3 (by rfl) 31 R (0, 0) _ hB3 Try.underlying31 rfl HSZ.out ?_))
      refine (HFA.out _).mono ?_
      rintro e w2 ⟨rfl, hx⟩
      replace hB3 := hB3.ext hx; replace hB4 := hB4.ext hx; have HE3 := Lib.hid (HE2.out.trans hx); clear HE2 hx
      have hbb : (flatB g L 12 != flatB g L 12) = false := by simp
      go_wp2_with (first | (refine wpList_load_row rfl 28 _ rfl g4 (by rfl) 28 _ (0, 0) _ hB4 Try.underlying28 rfl (phasor_size rfl) ?_) | (refine wpList_load_row rfl 31 _ rfl g3 (by rfl) 31 R (0, 0) _ hB3 Try.underlying31 rfl HSZ.out ?_) | (refine wpList_load_row_w (by rfl) 28 _ rfl g4 (by rfl) 28 _ (0, 0) _ hB4 Try.underlying28 rfl (phasor_size rfl) ?_) | (refine wpList_load_row_w (by rfl) 31 _ rfl g3 (by rfl) 31 R (0, 0) _ hB3 Try.underlying31 rfl HSZ.out ?_))
      refine (wsmall_any s1 s2 s3 s4 s5 s6 A1 A2 A3 A4 A5 A6 n1 c1 n2 c2 n3 c3 n4 c4 n5 c5 n6 c6 _).mono ?_
      rintro e w3 ⟨rfl, hx⟩
      rw [HS.out]
      replace hB3 := hB3.ext hx; replace hB4 := hB4.ext hx; have HE4 := Lib.hid (HE3.out.trans hx); clear HE3 hx
      go_wp2_with (first | (refine wpList_load_row rfl 28 _ rfl g4 (by rfl) 28 _ (0, 0) _ hB4 Try.underlying28 rfl (phasor_size rfl) ?_) | (refine wpList_load_row rfl 31 _ rfl g3 (by rfl) 31 R (0, 0) _ hB3 Try.underlying31 rfl HSZ.out ?_) | (refine wpList_load_row_w (by rfl) 28 _ rfl g4 (by rfl) 28 _ (0, 0) _ hB4 Try.underlying28 rfl (phasor_size rfl) ?_) | (refine wpList_load_row_w (by rfl) 31 _ rfl g3 (by rfl) 31 R (0, 0) _ hB3 Try.underlying31 rfl HSZ.out ?_))
      refine (HCH.out _ HE4.out).mono ?_
      rintro e w4 ⟨rfl, hx⟩
      have HE5 := Lib.hid (HE4.out.trans hx); clear HE4 hx hB3 hB4
      have hE2 := HE5.out.alloc (.cells (row12 h) 31); have hB9 := Blk.new w4 31 (row12 h)
      clear HE5
      have hs12 := a12_size (row12_size h)
      have HS12 := Lib.hid hs12; clear hs12
      have HEQ := Lib.hid (z12_row h); have HON := Lib.hid (row12_one h)
      have HAT2 : Hid (∀ j, j < 12 → (row12 h)[j]? = some (.int .i64 (h j))) := Lib.hid fun j hj => row12_at hj
      generalize row12 h = R2 at *
      go_wp2_with (first | (refine wpList_load_row rfl 31 _ rfl w4.heap.size (by rfl) 31 R2 (0, 0) _ hB9 Try.underlying31 rfl HS12.out ?_) | (refine wpList_store_row rfl 31 _ _ rfl w4.heap.size R2 rfl rfl 31 #[.int .i64 0, .int .i64 0, .int .i64 0, .int .i64 0, .int .i64 0, .int .i64 0, .int .i64 0, .int .i64 0, .int .i64 0, .int .i64 0, .int .i64 0, .int .i64 0] (Blk.new w4 31 _) HS12.out HEQ.out HON.out ?_; rw [World.setRow_alloc_new]))
      generalize w4.alloc (.cells R2 31) = w5 at hE2 ⊢
      generalize w4.heap.size = g9 at *
      clear hB9
      have HE6 := Lib.hid hE2; clear hE2
      go_loopw [60] (fun i wr => ∃ k : Nat, k ≤ 12 ∧ i = .int .i64 k ∧ Ext w5 wr) (fun i _ => 12 - (intOf i).toNat)
      case atStart => exact ⟨0, by omega, rfl, Ext.refl _⟩
      case round =>
        obtain ⟨k, hk, rfl, hx⟩ := hrel
        clear hlt
        by_cases hlt : k < 12
        · have hd : decide ((k : Int) < 12) = true := by simp; omega
          have hat := idx12 hlt (HAT2.out k hlt) wr

          go_wp2_with fail
          go_roundw
          case rel => exact ⟨k + 1, by omega, by go_num, hx⟩
          case measure => simp [intOf]; omega
        · obtain rfl : k = 12 := by omega
          go_wp2_with fail
          refine (lwknown_ok _).mono ?_
          rintro e w6 ⟨rfl, hx6⟩
          go_wp2_with fail
          go_ret
          exact ⟨rfl, HE6.out.trans (hx.trans hx6)⟩
set_option maxRecDepth 100000 in
set_option maxHeartbeats 6400000 in
theorem flats_ok (s1 s2 s3 s4 s5 s6 : Bool) (A1 A2 A3 A4 A5 A6 : Option Addr) (n1 c1 n2 c2 n3 c3 n4 c4 n5 c5 n6 c6 : Nat) (g h : Nat → Int) (L : Int) (w : World) (hs : ((decide (n1 ≤ 6) && decide (n2 ≤ 6) && decide (n3 ≤ 6)) && (decide (n4 ≤ 6) && decide (n5 ≤ 6) && decide (n6 ≤ 6))) = true) (a1 : -9223372036854775808 ≤ L) (a2 : L ≤ 9223372036854775807) (hch : ∀ w', Ext w w' → Calls Try.prog 9 #[pv s1 A1 n1 c1 s2 A2 n2 c2 s3 A3 n3 c3 s4 A4 n4 c4 s5 A5 n5 c5 s6 A6 n6 c6, .int .i64 1, .int .i64 L] w' fun e w'' => e = .returned (.tuple #[.agg (row12 h), .int .i64 0]) ∧ Ext w' w'') (hh : ∀ j, j < 12 → -L ≤ h j ∧ h j ≤ L) (HL : Hid (1 ≤ L)) :
    Calls Try.prog 6 #[.agg (row12 g), pv s1 A1 n1 c1 s2 A2 n2 c2 s3 A3 n3 c3 s4 A4 n4 c4 s5 A5 n5 c5 s6 A6 n6 c6, .int .i64 L] w fun e w' => e = .returned (.bool true) ∧ Ext w w' := by
  have HS := Lib.hid hs; have HCH := Lib.hid hch; clear hs hch
  have hsz := a12_size (row12_size g)
  have HSZ := Lib.hid hsz; clear hsz
  have HAT : Hid (∀ j, j < 12 → (row12 g)[j]? = some (.int .i64 (g j))) := Lib.hid fun j hj => row12_at hj
  have HFA : Hid (∀ w, Calls Try.prog 13 #[.agg (row12 g), .int .i64 L] w fun e w' => e = .returned (.bool (flatB g L 12)) ∧ Ext w w') := Lib.hid fun w => flat_any g L a1 a2 w
  generalize hr : row12 g = R at *
  clear hr
  have hB3 : Blk ((w.alloc (.cells R 31)).alloc (.cells #[.bool s1, .slice A1 n1 c1, .bool s2, .slice A2 n2 c2, .bool s3, .slice A3 n3 c3, .bool s4, .slice A4 n4 c4, .bool s5, .slice A5 n5 c5, .bool s6, .slice A6 n6 c6] 28)) w.heap.size 31 R := (Blk.new _ _ _).alloc _
  have hB4 : Blk ((w.alloc (.cells R 31)).alloc (.cells #[.bool s1, .slice A1 n1 c1, .bool s2, .slice A2 n2 c2, .bool s3, .slice A3 n3 c3, .bool s4, .slice A4 n4 c4, .bool s5, .slice A5 n5 c5, .bool s6, .slice A6 n6 c6] 28)) (w.heap.size + 1) 28 #[.bool s1, .slice A1 n1 c1, .bool s2, .slice A2 n2 c2, .bool s3, .slice A3 n3 c3, .bool s4, .slice A4 n4 c4, .bool s5, .slice A5 n5 c5, .bool s6, .slice A6 n6 c6] := Blk.new' _ _ (by simp)
  have hE : Ext w ((w.alloc (.cells R 31)).alloc (.cells #[.bool s1, .slice A1 n1 c1, .bool s2, .slice A2 n2 c2, .bool s3, .slice A3 n3 c3, .bool s4, .slice A4 n4 c4, .bool s5, .slice A5 n5 c5, .bool s6, .slice A6 n6 c6] 28)) := ((Ext.new _ _).alloc _)
  go_enter Try.func6, Try.ntmps6
  go_wp2_with (first | (refine wpList_load_row rfl 31 _ rfl w.heap.size (by rfl) 31 R (0, 0) _ hB3 Try.underlying31 rfl HSZ.out ?_))
  generalize ((w.alloc (.cells R 31)).alloc (.cells #[.bool s1, .slice A1 n1 c1, .bool s2, .slice A2 n2 c2, .bool s3, .slice A3 n3 c3, .bool s4, .slice A4 n4 c4, .bool s5, .slice A5 n5 c5, .bool s6, .slice A6 n6 c6] 28)) = w1 at hB3 hB4 hE ⊢
  generalize w.heap.size + 1 = g4 at hB4 ⊢
  generalize w.heap.size = g3 at hB3 ⊢
  have HE := Lib.hid hE; clear hE
  go_loopw [7, 15] (fun b i wr => ∃ k : Nat, k ≤ 12 ∧ i = .int .i64 k ∧ b = .bool (flatB g L k) ∧ Ext w1 wr) (fun _ i _ => 12 - (intOf i).toNat)
  case atStart => exact ⟨0, by omega, rfl, rfl, Ext.refl _⟩
  case round =>
    obtain ⟨k, hk, rfl, rfl, hx⟩ := hrel
    by_cases hlt : k < 12
    · have hd : decide ((k : Int) < 12) = true := by simp; omega
      have hat := idx12 hlt (HAT.out k hlt) wr
      have hsu := flatB_succ g L k
      generalize flatB g L k = b0 at hsu ⊢
      by_cases hL : 1 ≤ L
      · have dL : decide (1 ≤ L) = true := by simpa using hL
        have LM := IntWalk.wrap64_in (-L) (by omega)
        rw [dL] at hsu
        generalize hb1 : (g k == L) = b1 at hsu
        generalize hb2 : (g k == -L) = b2 at hsu
        have HSU := Lib.hid hsu; clear hsu
        cases b0 <;> cases b1 <;> cases b2
        all_goals
          go_wp2_with fail
          go_roundw
          case rel => exact ⟨k + 1, by omega, by go_num, by rw [HSU.out]; rfl, hx⟩
          case measure => simp [intOf]; omega
      · have dL : decide (1 ≤ L) = false := by simpa using hL
        rw [dL] at hsu
        have HSU := Lib.hid hsu; clear hsu
        cases b0
        all_goals
          go_wp2_with fail
          go_roundw
          case rel => exact ⟨k + 1, by omega, by go_num, by rw [HSU.out]; rfl, hx⟩
          case measure => simp [intOf]; omega
    · obtain rfl : k = 12 := by omega
      replace hB3 := hB3.ext hx; replace hB4 := hB4.ext hx
      have HE2 := Lib.hid (HE.out.trans hx); clear HE hx
      go_wp2_with (first | (refine wpList_load_row rfl 28 _ rfl g4 (by rfl) 28 _ (0, 0) _ hB4 Try.underlying28 rfl (phasor_size rfl) ?_) | (refine wpList_load_row rfl 31 _ rfl g3 (by rfl) 31 R (0, 0) _ hB3 Try.underlying31 rfl HSZ.out ?_) | (refine wpList_load_row_w (by rfl) 28 _ rfl g4 (by rfl) 28 _ (0, 0) _ hB4 Try.underlying28 rfl (phasor_size rfl) ?_) | (refine wpList_load_row_w (by rfl) 31 _ rfl g3 (by rfl) 31 R (0, 0) _ hB3 Try.underlying31 rfl HSZ.out ?_))
      refine (HFA.out _).mono ?_
      rintro e w2 ⟨rfl, hx⟩
      replace hB3 := hB3.ext hx; replace hB4 := hB4.ext hx; have HE3 := Lib.hid (HE2.out.trans hx); clear HE2 hx
      have hbb : (flatB g L 12 != flatB g L 12) = false := by simp
      go_wp2_with (first | (refine wpList_load_row rfl 28 _ rfl g4 (by rfl) 28 _ (0, 0) _ hB4 Try.underlying28 rfl (phasor_size rfl) ?_) | (refine wpList_load_row rfl 31 _ rfl g3 (by rfl) 31 R (0, 0) _ hB3 Try.underlying31 rfl HSZ.out ?_) | (refine wpList_load_row_w (by rfl) 28 _ rfl g4 (by rfl) 28 _ (0, 0) _ hB4 Try.underlying28 rfl (phasor_size rfl) ?_) | (refine wpList_load_row_w (by rfl) 31 _ rfl g3 (by rfl) 31 R (0, 0) _ hB3 Try.underlying31 rfl HSZ.out ?_))
      refine (wsmall_any s1 s2 s3 s4 s5 s6 A1 A2 A3 A4 A5 A6 n1 c1 n2 c2 n3 c3 n4 c4 n5 c5 n6 c6 _).mono ?_
      rintro e w3 ⟨rfl, hx⟩
      rw [HS.out]
      replace hB3 := hB3.ext hx; replace hB4 := hB4.ext hx; have HE4 := Lib.hid (HE3.out.trans hx); clear HE3 hx
      go_wp2_with (first | (refine wpList_load_row rfl 28 _ rfl g4 (by rfl) 28 _ (0, 0) _ hB4 Try.underlying28 rfl (phasor_size rfl) ?_) | (refine wpList_load_row rfl 31 _ rfl g3 (by rfl) 31 R (0, 0) _ hB3 Try.underlying31 rfl HSZ.out ?_) | (refine wpList_load_row_w (by rfl) 28 _ rfl g4 (by rfl) 28 _ (0, 0) _ hB4 Try.underlying28 rfl (phasor_size rfl) ?_) | (refine wpList_load_row_w (by rfl) 31 _ rfl g3 (by rfl) 31 R (0, 0) _ hB3 Try.underlying31 rfl HSZ.out ?_))
      refine (HCH.out _ HE4.out).mono ?_
      rintro e w4 ⟨rfl, hx⟩
      have HE5 := Lib.hid (HE4.out.trans hx); clear HE4 hx hB3 hB4
      have hE2 := HE5.out.alloc (.cells (row12 h) 31); have hB9 := Blk.new w4 31 (row12 h)
      clear HE5
      have hs12 := a12_size (row12_size h)
      have HS12 := Lib.hid hs12; clear hs12
      have HEQ := Lib.hid (z12_row h); have HON := Lib.hid (row12_one h)
      have HAT2 : Hid (∀ j, j < 12 → (row12 h)[j]? = some (.int .i64 (h j))) := Lib.hid fun j hj => row12_at hj
      generalize row12 h = R2 at *
      go_wp2_with (first | (refine wpList_load_row rfl 31 _ rfl w4.heap.size (by rfl) 31 R2 (0, 0) _ hB9 Try.underlying31 rfl HS12.out ?_) | (refine wpList_store_row rfl 31 _ _ rfl w4.heap.size R2 rfl rfl 31 #[.int .i64 0, .int .i64 0, .int .i64 0, .int .i64 0, .int .i64 0, .int .i64 0, .int .i64 0, .int .i64 0, .int .i64 0, .int .i64 0, .int .i64 0, .int .i64 0] (Blk.new w4 31 _) HS12.out HEQ.out HON.out ?_; rw [World.setRow_alloc_new]))
      generalize w4.alloc (.cells R2 31) = w5 at hE2 ⊢
      generalize w4.heap.size = g9 at *
      clear hB9
      have HE6 := Lib.hid hE2; clear hE2
      go_loopw [60] (fun i wr => ∃ k : Nat, k ≤ 12 ∧ i = .int .i64 k ∧ Ext w5 wr) (fun i _ => 12 - (intOf i).toNat)
      case atStart => exact ⟨0, by omega, rfl, Ext.refl _⟩
      case round =>
        obtain ⟨k, hk, rfl, hx⟩ := hrel
        clear hlt
        by_cases hlt : k < 12
        · have hd : decide ((k : Int) < 12) = true := by simp; omega
          have hat := idx12 hlt (HAT2.out k hlt) wr
          have l1 := HL.out
          have hb := hh k hlt
          have LM := IntWalk.wrap64_in (-L) (by omega)
          have t1 : decide (L < h k) = false := by simp; omega
          have t2 : decide (h k < -L) = false := by simp; omega
          go_wp2_with fail
          go_roundw
          case rel => exact ⟨k + 1, by omega, by go_num, hx⟩
          case measure => simp [intOf]; omega
        · obtain rfl : k = 12 := by omega
          go_wp2_with fail
          refine (lwknown_ok _).mono ?_
          rintro e w6 ⟨rfl, hx6⟩
          go_wp2_with fail
          go_ret
          exact ⟨rfl, HE6.out.trans (hx.trans hx6)⟩
end Go.Proofs.Ytjeijmnhbckjdaa
