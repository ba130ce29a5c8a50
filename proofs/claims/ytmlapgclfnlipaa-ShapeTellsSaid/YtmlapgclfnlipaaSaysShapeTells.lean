/- The pure statement that is left of ShapeTells. Conditions: the numbers' own ranges. -/
import Derived.Test.YtmlapgclfnlipaaSays
import Derived.Test.YtmlapgclfnlipaaPAx3
namespace Go.Proofs.Ytmlapgclfnlipaa.PA
open Go.RowKit Go.Proofs.YtmlapgclfnlipaaW.PrintWords Go.Proofs.YtmlapgclfnlipaaW.PrintLast Go.Proofs.YtmlapgclfnlipaaA
/-- ShapeTells -/
def millstreamlaw07_ShapeTells.Claim : Prop := ∀ (x0 : Int) (x1 : Int) (x2 : Int) (x3 : Int), Inu8 x0 → Inu16 x1 → Inu16 x2 → Ini64 x3 → ∃ k, millstreamlaw07_ShapeTells.f k x0 x1 x2 x3 = some true
end Go.Proofs.Ytmlapgclfnlipaa.PA
