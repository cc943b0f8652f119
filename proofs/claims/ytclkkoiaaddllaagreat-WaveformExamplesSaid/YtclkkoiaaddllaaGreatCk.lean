/- An empty station has no name: station.Check and waveform.Waves refuse it. -/
import Derived.Test.YtclkkoiaaddllaaGreatMC
namespace Go.Proofs.YtclkkoiaaddllaaGreat
open Go.RowKit
set_option linter.unusedVariables false

theorem bp_tmps2 {P : Program} {fn : Func} {R : Ending → World → Prop} {a : Act} {w : World} {t u : Nat} (hr : fn.results = #[.tmp t, .tmp u]) (hd : a.defers = []) (hR : R (.returned (.tuple #[a.tmps.getD t undef, a.tmps.getD u undef])) w) : bodyPost P fn R .ret a w :=
  bodyPost_ret (v := .tuple #[a.tmps.getD t undef, a.tmps.getD u undef]) (by simp [results, hr]) hd hR
set_option maxRecDepth 100000 in
set_option maxHeartbeats 1600000 in
theorem sname_empty (w : World) : Calls Tryz.prog 95 #[.string ByteArray.empty] w fun e w' => e = .returned (.bool false) ∧ Ext w w' := by
  go_enter Tryz.func95, Tryz.ntmps95
  go_wp2_with fail
  go_ret
  exact ⟨rfl, Ext.refl _⟩
set_option maxRecDepth 100000 in
set_option maxHeartbeats 1600000 in
theorem scheck_empty (w : World) : Calls Tryz.prog 56 #[.agg #[.string ByteArray.empty, .slice none 0 0, .slice none 0 0, .slice none 0 0, .slice none 0 0]] w fun e w' => e = .returned (.int .i64 7) ∧ Ext w w' := by
  go_enter Tryz.func56, Tryz.ntmps56
  go_wp2_with fail
  refine (sname_empty _).mono ?_
  rintro e w2 ⟨rfl, hx⟩
  go_wp2_with fail
  go_ret
  exact ⟨rfl, ((Ext.refl _).alloc _).trans hx⟩
set_option maxRecDepth 100000 in
set_option maxHeartbeats 1600000 in
theorem waves_empty (cs : Array Value) (w : World) : Calls Tryz.prog 25 #[.agg #[.string ByteArray.empty, .slice none 0 0, .slice none 0 0, .slice none 0 0, .slice none 0 0], .agg cs] w fun e w' => e = .returned (.tuple #[.slice none 0 0, .int .i64 7]) ∧ Ext w w' := by
  go_enter Tryz.func25, Tryz.ntmps25
  go_wp2_with fail
  refine (scheck_empty _).mono ?_
  rintro e w2 ⟨rfl, hx⟩
  go_wp2_with fail
  exact bp_tmps2 rfl rfl ⟨rfl, (((Ext.refl _).alloc _).alloc _).trans hx⟩
end Go.Proofs.YtclkkoiaaddllaaGreat

