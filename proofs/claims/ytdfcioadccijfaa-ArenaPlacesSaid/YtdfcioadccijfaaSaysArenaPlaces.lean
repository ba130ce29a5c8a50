/- The pure statement that is left of ArenaPlaces. Conditions: the numbers' own ranges. -/
import Derived.Test.YtdfcioadccijfaaSays
import Derived.Test.YtdfcioadccijfaaPAx7
namespace Go.Proofs.Ytdfcioadccijfaa.PA
open Go.RowKit Go.Proofs.YtdfcioadccijfaaW.PrintWords Go.Proofs.YtdfcioadccijfaaW.PrintLast Go.Proofs.YtdfcioadccijfaaA
/-- ArenaPlaces -/
def millstreamlaw06_ArenaPlaces.Claim : Prop := ∀ (x0 : S23) (x1 : Int) (x2 : Int) (x3 : Int) (x4 : Int), W23 x0 → Ini64 x1 → Ini64 x2 → Ini64 x3 → Ini64 x4 → ∃ k, millstreamlaw06_ArenaPlaces.f k x0.f0 x0.f1 x0.f2 x0.f3 x0.f4 x0.f5 x0.f6 x0.f7 x0.f8 x0.f9 x0.f10 x0.f11 x1 x2 x3 x4 = some true
end Go.Proofs.Ytdfcioadccijfaa.PA
