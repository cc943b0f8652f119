/- The sanity check of the waveform's laws. -/
import Derived.Test.YtclkkoiaaddllaaGreatCb
import Derived.Test.YtclkkoiaaddllaaGreatCc
namespace Go.Proofs.YtclkkoiaaddllaaGreat
open Go.RowKit
set_option linter.unusedVariables false

theorem channel_row (v : Value) (p : PQ) (n : Nat) (r L : Int) (f : Nat → Int) (w : World) (hX : PV w v p n) (hn : 8 * n + 400 ≤ 12800) (r1 : 1 ≤ r) (r2 : r ≤ 10000) (l1 : 1 ≤ L) (l2 : L ≤ 16383) (hf : ∀ k, k < 12 → Rd (p * PQ.zp k) r (f k)) :
    Calls Tryz.prog 24 #[v, .int .i64 r, .int .i64 L] w fun e w' => e = .returned (.tuple #[.agg (row12 fun j => lm L (f j)), .int .i64 0]) ∧ Ext w w' := by
  rw [← smp_row]
  exact channel_q v p n r L f w hX hn r1 r2 l1 l2 hf
set_option maxRecDepth 100000 in
theorem eq_ten (w : World) : Sem.run Tryz.prog (Op.equalIn 10000 48 (.agg #[.int .i64 10, .int .i64 9, .int .i64 5, .int .i64 0, .int .i64 (-5), .int .i64 (-9), .int .i64 (-10), .int .i64 (-9), .int .i64 (-5), .int .i64 0, .int .i64 5, .int .i64 9]) (.agg #[.int .i64 10, .int .i64 9, .int .i64 5, .int .i64 0, .int .i64 (-5), .int .i64 (-9), .int .i64 (-10), .int .i64 (-9), .int .i64 (-5), .int .i64 0, .int .i64 5, .int .i64 9])) w = .ok true w := by
  kernel_rfl
set_option maxRecDepth 100000 in
set_option maxHeartbeats 3200000 in
theorem lwknown_ok (w : World) : Calls Tryz.prog 26 #[] w fun e w' => e = .returned (.bool true) ∧ Ext w w' := by
  go_enter Tryz.func26, Tryz.ntmps26
  go_wp2_with fail
  refine (qInt_ok 10 0 _ (by omega) (by omega) (by omega) (by omega)).mono ?_
  rintro e w1 ⟨v1, rfl, hv1, hx1⟩
  have hg1 : GV w1 v1 (GQ.i 10 0) 4 := ⟨10, 0, 1, hv1, is_i 10 0, ⟨by decide, by decide, by decide⟩⟩
  go_wp2_with fail
  refine (qPlain_ok v1 (GQ.i 10 0) 4 _ hg1 (by omega)).mono ?_
  rintro e w2 ⟨v2, rfl, hv2, hx2⟩
  go_wp2_with fail
  refine (channel_row v2 (PQ.plain (GQ.i 10 0)) 4 1 100 ten _ hv2 (by omega) (by omega) (by omega) (by omega) (by omega) ten_rd).mono ?_
  rintro e w3 ⟨rfl, hx3⟩
  rw [smp_ten]
  have hE := hx1.trans (hx2.trans hx3)
  have hq := eq_ten (w3.alloc (.cells #[.int .i64 10, .int .i64 9, .int .i64 5, .int .i64 0, .int .i64 (-5), .int .i64 (-9), .int .i64 (-10), .int .i64 (-9), .int .i64 (-5), .int .i64 0, .int .i64 5, .int .i64 9] 48))
  go_wp2_with fail
  go_ret
  exact ⟨rfl, hE.alloc _⟩
end Go.Proofs.YtclkkoiaaddllaaGreat
