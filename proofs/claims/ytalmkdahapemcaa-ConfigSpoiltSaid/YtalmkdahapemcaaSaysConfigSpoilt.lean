/- The pure statement that is left of ConfigSpoilt. Conditions: the numbers' own ranges. -/
import Derived.Test.YtalmkdahapemcaaSays
import Derived.Test.YtalmkdahapemcaaPAx2
namespace Go.Proofs.Ytalmkdahapemcaa.PA
open Go.RowKit Go.Proofs.YtalmkdahapemcaaW.PrintWords Go.Proofs.YtalmkdahapemcaaW.PrintLast Go.Proofs.YtalmkdahapemcaaA
/-- ConfigSpoilt -/
def millstreamlaw05_ConfigSpoilt.Claim : Prop := ∀ (x0 : S23) (x1 : Int) (x2 : Bool), W23 x0 → Inu8 x1 → ∃ k, millstreamlaw05_ConfigSpoilt.f k x0.f0 x0.f1 x0.f2 x0.f3 x0.f4 x0.f5 x0.f6 x0.f7 x0.f8 x0.f9 x0.f10 x0.f11 x1 x2 = some true
end Go.Proofs.Ytalmkdahapemcaa.PA
