/- The pure statement that is left of ShapeKids. Conditions: the numbers' own ranges. -/
import Derived.Test.YtmlapgclfnlipaaSays
import Derived.Test.YtmlapgclfnlipaaPAx3
namespace Go.Proofs.Ytmlapgclfnlipaa.PA
open Go.RowKit Go.Proofs.YtmlapgclfnlipaaW.PrintWords Go.Proofs.YtmlapgclfnlipaaW.PrintLast Go.Proofs.YtmlapgclfnlipaaA
/-- ShapeKids -/
def millstreamlaw07_ShapeKids.Claim : Prop := ∀ (x0 : Int), Inu16 x0 → ∃ k, millstreamlaw07_ShapeKids.f k x0 = some true
end Go.Proofs.Ytmlapgclfnlipaa.PA
