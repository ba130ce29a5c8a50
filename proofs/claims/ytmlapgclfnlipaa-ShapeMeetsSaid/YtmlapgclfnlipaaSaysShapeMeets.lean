/- The pure statement that is left of ShapeMeets. Conditions: the numbers' own ranges. -/
import Derived.Test.YtmlapgclfnlipaaSays
import Derived.Test.YtmlapgclfnlipaaPAx5
namespace Go.Proofs.Ytmlapgclfnlipaa.PA
open Go.RowKit Go.Proofs.YtmlapgclfnlipaaW.PrintWords Go.Proofs.YtmlapgclfnlipaaW.PrintLast Go.Proofs.YtmlapgclfnlipaaA
/-- ShapeMeets -/
def millstreamlaw07_ShapeMeets.Claim : Prop := ∀ (x0 : Int) (x1 : Int) (x2 : Int), Inu8 x0 → Inu16 x1 → Inu16 x2 → ∃ k, millstreamlaw07_ShapeMeets.f k x0 x1 x2 = some true
end Go.Proofs.Ytmlapgclfnlipaa.PA
