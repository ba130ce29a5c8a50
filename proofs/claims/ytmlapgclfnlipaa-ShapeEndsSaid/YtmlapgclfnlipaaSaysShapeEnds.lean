/- The pure statement that is left of ShapeEnds. Conditions: the numbers' own ranges. -/
import Derived.Test.YtmlapgclfnlipaaSays
import Derived.Test.YtmlapgclfnlipaaPAx4
namespace Go.Proofs.Ytmlapgclfnlipaa.PA
open Go.RowKit Go.Proofs.YtmlapgclfnlipaaW.PrintWords Go.Proofs.YtmlapgclfnlipaaW.PrintLast Go.Proofs.YtmlapgclfnlipaaA
/-- ShapeEnds -/
def millstreamlaw07_ShapeEnds.Claim : Prop := ∀ (x0 : Int) (x1 : Int), Inu8 x0 → Inu16 x1 → ∃ k, millstreamlaw07_ShapeEnds.f k x0 x1 = some true
end Go.Proofs.Ytmlapgclfnlipaa.PA
