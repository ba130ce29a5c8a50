/- The pure statement that is left of ConfigFirst. Conditions: the numbers' own ranges. -/
import Derived.Test.YtalmkdahapemcaaSays
import Derived.Test.YtalmkdahapemcaaPAx4
namespace Go.Proofs.Ytalmkdahapemcaa.PA
open Go.RowKit Go.Proofs.YtalmkdahapemcaaW.PrintWords Go.Proofs.YtalmkdahapemcaaW.PrintLast Go.Proofs.YtalmkdahapemcaaA
/-- ConfigFirst -/
def millstreamlaw05_ConfigFirst.Claim : Prop := ∀ (x0 : S23) (x1 : Int) (x2 : Int), W23 x0 → Ini64 x1 → Ini64 x2 → ∃ k, millstreamlaw05_ConfigFirst.f k x0.f0 x0.f1 x0.f2 x0.f3 x0.f4 x0.f5 x0.f6 x0.f7 x0.f8 x0.f9 x0.f10 x0.f11 x1 x2 = some true
end Go.Proofs.Ytalmkdahapemcaa.PA
