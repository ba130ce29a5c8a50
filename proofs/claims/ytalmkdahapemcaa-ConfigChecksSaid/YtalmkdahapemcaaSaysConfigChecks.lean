/- The pure statement that is left of ConfigChecks. Conditions: the numbers' own ranges. -/
import Derived.Test.YtalmkdahapemcaaSays
import Derived.Test.YtalmkdahapemcaaPAx1
namespace Go.Proofs.Ytalmkdahapemcaa.PA
open Go.RowKit Go.Proofs.YtalmkdahapemcaaW.PrintWords Go.Proofs.YtalmkdahapemcaaW.PrintLast Go.Proofs.YtalmkdahapemcaaA
/-- ConfigChecks -/
def millstreamlaw05_ConfigChecks.Claim : Prop := ∀ (x0 : S23), W23 x0 → millstreamlaw05_ConfigChecks.f x0.f0 x0.f1 x0.f2 x0.f3 x0.f4 x0.f5 x0.f6 x0.f7 x0.f8 x0.f9 x0.f10 x0.f11 = some true
end Go.Proofs.Ytalmkdahapemcaa.PA
