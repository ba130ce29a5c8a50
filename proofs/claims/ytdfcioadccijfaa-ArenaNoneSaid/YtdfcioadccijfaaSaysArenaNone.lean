/- The pure statement that is left of ArenaNone. Conditions: the numbers' own ranges. -/
import Derived.Test.YtdfcioadccijfaaSays
import Derived.Test.YtdfcioadccijfaaPAx15
namespace Go.Proofs.Ytdfcioadccijfaa.PA
open Go.RowKit Go.Proofs.YtdfcioadccijfaaW.PrintWords Go.Proofs.YtdfcioadccijfaaW.PrintLast Go.Proofs.YtdfcioadccijfaaA
/-- ArenaNone -/
def millstreamlaw06_ArenaNone.Claim : Prop := ∀ (x0 : S23) (x1 : Int), W23 x0 → Inu8 x1 → ∃ k, millstreamlaw06_ArenaNone.f k x0.f0 x0.f1 x0.f2 x0.f3 x0.f4 x0.f5 x0.f6 x0.f7 x0.f8 x0.f9 x0.f10 x0.f11 x1 = some true
end Go.Proofs.Ytdfcioadccijfaa.PA
