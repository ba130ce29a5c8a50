/- The pure statement that is left of ShapeTurns. Conditions: the numbers' own ranges. -/
import Derived.Test.YtmlapgclfnlipaaSays
import Derived.Test.YtmlapgclfnlipaaPAx4
namespace Go.Proofs.Ytmlapgclfnlipaa.PA
open Go.RowKit Go.Proofs.YtmlapgclfnlipaaW.PrintWords Go.Proofs.YtmlapgclfnlipaaW.PrintLast Go.Proofs.YtmlapgclfnlipaaA
/-- ShapeTurns -/
def millstreamlaw07_ShapeTurns.Claim : Prop := ∀ (x0 : Int) (x1 : Int) (x2 : Int), Inu8 x0 → Inu16 x1 → Inu8 x2 → ∃ k, millstreamlaw07_ShapeTurns.f k x0 x1 x2 = some true
end Go.Proofs.Ytmlapgclfnlipaa.PA
