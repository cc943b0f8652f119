/- An empty station has no name: station.Check and waveform.Waves refuse it. -/
import Derived.Test.YtclkkoiaaddllaaGreatQMCkdch
namespace Go.Proofs.YtclkkoiaaddllaaGreat
open Go.RowKit
set_option linter.unusedVariables false

theorem bp_tmps2 {P : Program} {fn : Func} {R : Ending → World → Prop} {a : Act} {w : World} {t u : Nat} (hr : fn.results = #[.tmp t, .tmp u]) (hd : a.defers = []) (hR : R (.returned (.tuple #[a.tmps.getD t undef, a.tmps.getD u undef])) w) : bodyPost P fn R .ret a w :=
  bodyPost_ret (v := .tuple #[a.tmps.getD t undef, a.tmps.getD u undef]) (by simp [results, hr]) hd hR
end Go.Proofs.YtclkkoiaaddllaaGreat
