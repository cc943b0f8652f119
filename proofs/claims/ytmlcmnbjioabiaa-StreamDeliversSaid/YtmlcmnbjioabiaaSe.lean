/- The sanity check; StreamChecks. -/
import Derived.Test.YtmlcmnbjioabiaaSd
namespace Go.Proofs.Ytmlcmnbjioabiaa
open Go.RowKit

theorem check_known : checkF ⟨1, 2, true, [-1], [0]⟩ = 0 := by decide
theorem enc_known : strOf (encF ⟨1, 2, true, [-1], [0]⟩) = ⟨#[136, 186, 0, 1, 0, 2, 1, 1, 255, 255, 0]⟩ := by decide +kernel

set_option maxHeartbeats 400000 in
theorem known_any (w : World) : Calls Try.prog 8 #[] w fun e w' => e = .returned (.bool true) ∧ Ext w w' := by
  go_enter Try.func8, Try.ntmps8
  go_wp2_with fail
  refine (encode_true 1 2 [-1] [0] _ _ 1 1 1 1 _ ⟨?_, ?_, by omega, by omega⟩ check_known).mono ?_
  · exact ((Blk.new w 3 #[.int .i64 (-1)]).alloc _).reads rfl
  · exact (Blk.new' (w := w.alloc _) (g := w.heap.size + 1) 3 #[.int .i64 0] (by simp)).reads rfl
  · rintro e w1 ⟨D, rfl, hb, hr⟩
    have hs := fun c => hr.run_string (P := Try.prog) (c := c) (src := 43) (dst := 9) Try.underlying43 Try.underlying5 Try.underlying9
    rw [enc_known] at hs
    go_wp2_with (go_at_call 14; refine (count_any 1 3 _).mono ?_; rintro e w' ⟨rfl, rfl⟩)
    go_ret
    exact ⟨rfl, ((Ext.new _ _).alloc _).trans hb⟩

theorem rcheck_raw (unit count : Int) (sy : Bool) (S Q : List Int) (A B : Option Addr) (n m c d : Nat) (w : World) (hf : RFr w ⟨unit, count, sy, S, Q⟩ A B n m c d) :
    Calls Try.prog 10 #[.agg #[.int .i64 unit, .int .i64 count, .bool sy, .slice A n c, .slice B m d]] w fun e w' => e = .returned (.int .i64 (checkF ⟨unit, count, sy, S, Q⟩)) ∧ Ext w w' := rcheck_any ⟨unit, count, sy, S, Q⟩ A B n m c d w hf
theorem to_raw (unit count : Int) (sy : Bool) (A B : Option Addr) (n m c d : Nat) (w : World) :
    Calls Try.prog 11 #[.agg #[.int .i64 unit, .int .i64 count, .bool sy, .slice A n c, .slice B m d]] w fun e w' => e = .returned (.agg #[.int .i64 unit, .int .i64 count, .bool sy, .slice A n c, .slice B m d]) ∧ Ext w w' := to_any ⟨unit, count, sy, [], []⟩ A B n m c d w
theorem same_raw (unit count unit' count' : Int) (sy sy' : Bool) (S Q S' Q' : List Int) (A B A' B' : Option Addr) (n m c d n' m' c' d' : Nat) (w : World) (hf : RFr w ⟨unit, count, sy, S, Q⟩ A B n m c d) (hg : RFr w ⟨unit', count', sy', S', Q'⟩ A' B' n' m' c' d') :
    Calls Try.prog 12 #[.agg #[.int .i64 unit, .int .i64 count, .bool sy, .slice A n c, .slice B m d], .agg #[.int .i64 unit', .int .i64 count', .bool sy', .slice A' n' c', .slice B' m' d']] w fun e w' => e = .returned (.bool (sameF ⟨unit, count, sy, S, Q⟩ ⟨unit', count', sy', S', Q'⟩)) ∧ Ext w w' := same_any ⟨unit, count, sy, S, Q⟩ ⟨unit', count', sy', S', Q'⟩ A B A' B' n m c d n' m' c' d' w hf hg
theorem rsame_raw (unit count unit' count' : Int) (sy sy' : Bool) (S Q S' Q' : List Int) (A B A' B' : Option Addr) (n m c d n' m' c' d' : Nat) (w : World) (hf : RFr w ⟨unit, count, sy, S, Q⟩ A B n m c d) (hg : RFr w ⟨unit', count', sy', S', Q'⟩ A' B' n' m' c' d') :
    Calls Try.prog 13 #[.agg #[.int .i64 unit, .int .i64 count, .bool sy, .slice A n c, .slice B m d], .agg #[.int .i64 unit', .int .i64 count', .bool sy', .slice A' n' c', .slice B' m' d']] w fun e w' => e = .returned (.bool (sameF ⟨unit, count, sy, S, Q⟩ ⟨unit', count', sy', S', Q'⟩)) ∧ Ext w w' := rsame_any ⟨unit, count, sy, S, Q⟩ ⟨unit', count', sy', S', Q'⟩ A B A' B' n m c d n' m' c' d' w hf hg

set_option maxHeartbeats 1000000 in
theorem checks_any (unit count unit' count' : Int) (sy sy' : Bool) (S Q S' Q' : List Int) (A B A' B' : Option Addr) (n m c d n' m' c' d' : Nat) (step : Int) (w : World)
    (hf : RFr w ⟨unit, count, sy, S, Q⟩ A B n m c d) (hg : RFr w ⟨unit', count', sy', S', Q'⟩ A' B' n' m' c' d') :
    Calls Try.prog 3 #[.agg #[.int .i64 unit, .int .i64 count, .bool sy, .slice A n c, .slice B m d], .agg #[.int .i64 unit', .int .i64 count', .bool sy', .slice A' n' c', .slice B' m' d'], .int .i64 step] w
      fun e w' => e = .returned (.bool true) ∧ Ext w w' := by
  have HF := Lib.hid hf; clear hf
  have HG := Lib.hid hg; clear hg
  go_enter Try.func3, Try.ntmps3
  go_wp2_with fail
  refine (known_any _).mono ?_
  rintro e w1 ⟨rfl, hb1⟩
  have b0 := fun i => (((Blk.new w 24 _).alloc _).ext hb1).cell i
  have b1 := fun i => ((Blk.new' (w := w.alloc _) (g := w.heap.size + 1) 24 _ (by simp)).ext hb1).cell i
  have HF1 := Lib.hid (HF.out.ext (((Ext.new _ _).alloc _).trans hb1))
  have HG1 := Lib.hid (HG.out.ext (((Ext.new _ _).alloc _).trans hb1))
  have e1 : Ext w w1 := ((Ext.new _ _).alloc _).trans hb1
  go_wp2_with fail
  · go_ret; exact ⟨rfl, e1⟩
  · have l2 := hb1.lt2
    have l1 : w.heap.size < w1.heap.size := by omega
    have c0 : ∀ (x : ExtOf w1) (i : Nat), x.val.cell? ⟨w.heap.size, i, none⟩ = _ := fun x i => (x.ext.cell (p := ⟨w.heap.size, i, none⟩) l1).trans (b0 i)
    have c1 : ∀ (x : ExtOf w1) (i : Nat), x.val.cell? ⟨w.heap.size + 1, i, none⟩ = _ := fun x i => (x.ext.cell (p := ⟨w.heap.size + 1, i, none⟩) l2).trans (b1 i)
    have hss := sameF_self ⟨unit, count, sy, S, Q⟩
    refine wp_region_ext_lit (by kernel_rfl) (by kernel_rfl) ?_
    repeat (go_big_quiet_step (first
      | (go_at_call 9; exact Calls.ext_of (check_raw _ _ _ _ _ _ _ _ _ _ _ _ (HF1.out.ext (ExtOf.ext _))))
      | (go_at_call 10; exact Calls.ext_of (rcheck_raw _ _ _ _ _ _ _ _ _ _ _ _ (HF1.out.ext (ExtOf.ext _))))
      | (go_at_call 11; exact Calls.ext_of (to_raw _ _ _ _ _ _ _ _ _ _))
      | (go_at_call 12; exact Calls.ext_of (same_raw _ _ _ _ _ _ _ _ _ _ _ _ _ _ _ _ _ _ _ _ _ _ _ (HF1.out.ext (ExtOf.ext _)) (HG1.out.ext (ExtOf.ext _))))
      | (go_at_call 12; exact Calls.ext_of (same_raw _ _ _ _ _ _ _ _ _ _ _ _ _ _ _ _ _ _ _ _ _ _ _ (HF1.out.ext (ExtOf.ext _)) (HF1.out.ext (ExtOf.ext _))))
      | (go_at_call 13; exact Calls.ext_of (rsame_raw _ _ _ _ _ _ _ _ _ _ _ _ _ _ _ _ _ _ _ _ _ _ _ (HF1.out.ext (ExtOf.ext _)) (HG1.out.ext (ExtOf.ext _))))
      | (go_at_call 14; exact Calls.ext_of_same (count_any _ _ _))
      | (go_at_call 15; exact Calls.ext_of_same (rcount_any _ _ _))))
    refine wpQuiet_nil ?_
    intro W hW
    obtain ⟨x, rfl⟩ := hW
    go_wp2_with fail
    go_ret
    exact ⟨rfl, e1.trans x.ext⟩
  · go_ret; exact ⟨rfl, e1⟩
  · go_ret; exact ⟨rfl, e1⟩
  · go_ret; exact ⟨rfl, e1⟩
end Go.Proofs.Ytmlcmnbjioabiaa
