/- The pure statement that is left of ConfigLonger. Conditions: the numbers' own ranges. -/
import Derived.Test.YtalmkdahapemcaaSays
import Derived.Test.YtalmkdahapemcaaPAx5
namespace Go.Proofs.Ytalmkdahapemcaa.PA
open Go.RowKit Go.Proofs.YtalmkdahapemcaaW.PrintWords Go.Proofs.YtalmkdahapemcaaW.PrintLast Go.Proofs.YtalmkdahapemcaaA
/-- ConfigLonger -/
def millstreamlaw05_ConfigLonger.Claim : Prop := ∀ (x0 : S23) (x1 : S23), W23 x0 → W23 x1 → ∃ k, millstreamlaw05_ConfigLonger.f k x0.f0 x0.f1 x0.f2 x0.f3 x0.f4 x0.f5 x0.f6 x0.f7 x0.f8 x0.f9 x0.f10 x0.f11 x1.f0 x1.f1 x1.f2 x1.f3 x1.f4 x1.f5 x1.f6 x1.f7 x1.f8 x1.f9 x1.f10 x1.f11 = some true
end Go.Proofs.Ytalmkdahapemcaa.PA
