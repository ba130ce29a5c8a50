/- The plain statement that is left of ConfigChecks, over numbers alone, is proved. Conditions: the numbers' own ranges. -/
import Derived.Test.YtalmkdahapemcaaConfig
import Derived.Test.YtalmkdahapemcaaSays
import Derived.Test.YtalmkdahapemcaaPAx1
import Derived.Test.YtalmkdahapemcaaSaysConfigChecks
namespace Go.Proofs.Ytalmkdahapemcaa.Pure
open Go.RowKit Go.Proofs.Ytalmkdahapemcaa.PA Go.Proofs.YtalmkdahapemcaaW.PrintWords Go.Proofs.YtalmkdahapemcaaW.PrintLast
theorem shown_true : millstreamlaw05_shown.f = some true := by decide +kernel
theorem ConfigChecks : millstreamlaw05_ConfigChecks.Claim := by
  intro c hc
  unfold millstreamlaw05_ConfigChecks.f
  rw [cfg_f, ref_f]
  simp only [Option.bind_some, if_true]
  have e : config_Steps.f c.f0 c.f1 c.f2 c.f3 c.f4 c.f5 c.f6 c.f7 c.f8 c.f9 c.f10 c.f11 = millstreamref05_Steps.f c.f0 c.f1 c.f2 c.f3 c.f4 c.f5 c.f6 c.f7 c.f8 c.f9 c.f10 c.f11 := rfl
  rw [e]
  unfold millstreamref05_Steps.f
  rw [shown_true]
  simp only [Option.bind_some, if_true]
  split <;> rfl
end Go.Proofs.Ytalmkdahapemcaa.Pure
