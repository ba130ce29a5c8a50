/- The pure statement that is left of ShapeLeaves. Conditions: the numbers' own ranges. -/
import Derived.Test.YtmlapgclfnlipaaSays
import Derived.Test.YtmlapgclfnlipaaPAx4
namespace Go.Proofs.Ytmlapgclfnlipaa.PA
open Go.RowKit Go.Proofs.YtmlapgclfnlipaaW.PrintWords Go.Proofs.YtmlapgclfnlipaaW.PrintLast Go.Proofs.YtmlapgclfnlipaaA
/-- ShapeLeaves -/
def millstreamlaw07_ShapeLeaves.Claim : Prop := ∀ (x0 : Int), Inu8 x0 → ∃ k, millstreamlaw07_ShapeLeaves.f k x0 = some true
end Go.Proofs.Ytmlapgclfnlipaa.PA
