/- The pure statement that is left of ArenaBuilds. Conditions: the numbers' own ranges. -/
import Derived.Test.YtdfcioadccijfaaSays
import Derived.Test.YtdfcioadccijfaaPAx12
namespace Go.Proofs.Ytdfcioadccijfaa.PA
open Go.RowKit Go.Proofs.YtdfcioadccijfaaW.PrintWords Go.Proofs.YtdfcioadccijfaaW.PrintLast Go.Proofs.YtdfcioadccijfaaA
/-- ArenaBuilds -/
def millstreamlaw06_ArenaBuilds.Claim : Prop := ∀ (x0 : S23), W23 x0 → ∃ k, millstreamlaw06_ArenaBuilds.f k x0.f0 x0.f1 x0.f2 x0.f3 x0.f4 x0.f5 x0.f6 x0.f7 x0.f8 x0.f9 x0.f10 x0.f11 = some true
end Go.Proofs.Ytdfcioadccijfaa.PA
