/- What each argument of the laws of this seat says, once it is read as data, and the pure statement that is left of each law. Conditions: none but the numbers' own ranges. -/
import Derived.Test.YtokcblafahiphaaArg
import Derived.Test.YtokcblafahiphaaPAx0
import Derived.Test.YtokcblafahiphaaPAx1
import Derived.Test.YtokcblafahiphaaPAx2
import Derived.Test.YtokcblafahiphaaPAx3
import Derived.Test.YtokcblafahiphaaPAx4
import Derived.Test.YtokcblafahiphaaPAx5
set_option linter.unusedVariables false
set_option linter.unusedSimpArgs false
namespace Go.Proofs.Ytokcblafahiphaa.PA
open Go.RowKit Go.Proofs.YtokcblafahiphaaW.PrintWords Go.Proofs.YtokcblafahiphaaW.PrintLast Go.Proofs.YtokcblafahiphaaA

def Ini64 (x : Int) : Prop := -9223372036854775808 ≤ x ∧ x ≤ 9223372036854775807
theorem ini64_of {x : Int} (h : (Lit.int .i64 x).wf = true) : Ini64 x := by
  have h' : IntKind.i64.min ≤ x ∧ x ≤ IntKind.i64.max := by simpa [Lit.wf] using h
  have e1 : IntKind.i64.min = -9223372036854775808 := by decide
  have e2 : IntKind.i64.max = 9223372036854775807 := by decide
  unfold Ini64; omega
theorem reads_i64 {P : Program} {t : TypeId} (h : P.underlying t = some (.int .i64)) : Reads P t (Kd.int .i64) Ini64 := (Reads.int h).imp (fun _ => ini64_of)
def Inu8 (x : Int) : Prop := 0 ≤ x ∧ x ≤ 255
theorem inu8_of {x : Int} (h : (Lit.int .u8 x).wf = true) : Inu8 x := by
  have h' : IntKind.u8.min ≤ x ∧ x ≤ IntKind.u8.max := by simpa [Lit.wf] using h
  have e1 : IntKind.u8.min = 0 := by decide
  have e2 : IntKind.u8.max = 255 := by decide
  unfold Inu8; omega
theorem reads_u8 {P : Program} {t : TypeId} (h : P.underlying t = some (.int .u8)) : Reads P t (Kd.int .u8) Inu8 := (Reads.int h).imp (fun _ => inu8_of)
/-- oper.Op -/
def W23 (x : S23) : Prop := Ini64 x.f0 ∧ Ini64 x.f1
theorem reads23 : Reads Try.prog 23 k23 W23 := by
  have h := Reads.struct (β := S23) (fun x : S23 => (x.f0, x.f1)) (fun a => ⟨a.1, a.2⟩) (fun _ => rfl) Try.underlying23 (by kernel_rfl) (FReads.cons (reads_i64 Try.underlying3) rfl (by kernel_rfl) rfl (FReads.one (reads_i64 Try.underlying3) rfl (by kernel_rfl)))
  exact h.imp (fun x hx => by unfold W23; exact hx)
/-- OperApplies -/
def millstreamlaw01_OperApplies.Claim : Prop := ∀ (x0 : S23) (x1 : Int) (x2 : Int) (x3 : Int) (x4 : Bool), W23 x0 → Ini64 x1 → Ini64 x2 → Ini64 x3 → ∃ k, millstreamlaw01_OperApplies.f k x0.f0 x0.f1 x1 x2 x3 x4 = some true
/-- OperBounds -/
def millstreamlaw01_OperBounds.Claim : Prop := ∀ (x0 : Int) (x1 : Int) (x2 : Int) (x3 : Int) (x4 : Bool), Ini64 x0 → Ini64 x1 → Ini64 x2 → Ini64 x3 → ∃ k, millstreamlaw01_OperBounds.f k x0 x1 x2 x3 x4 = some true
/-- OperBack -/
def millstreamlaw01_OperBack.Claim : Prop := ∀ (x0 : Int) (x1 : Int) (x2 : Int) (x3 : Int), Ini64 x0 → Ini64 x1 → Ini64 x2 → Ini64 x3 → ∃ k, millstreamlaw01_OperBack.f k x0 x1 x2 x3 = some true
/-- OperTwice -/
def millstreamlaw01_OperTwice.Claim : Prop := ∀ (x0 : Int) (x1 : Int) (x2 : Int) (x3 : Int), Inu8 x0 → Ini64 x1 → Ini64 x2 → Ini64 x3 → ∃ k, millstreamlaw01_OperTwice.f k x0 x1 x2 x3 = some true
/-- OperOrder -/
def millstreamlaw01_OperOrder.Claim : Prop := ∀ (x0 : Int) (x1 : Int) (x2 : Int) (x3 : Int), Inu8 x0 → Ini64 x1 → Ini64 x2 → Ini64 x3 → ∃ k, millstreamlaw01_OperOrder.f k x0 x1 x2 x3 = some true
/-- OperRefuses -/
def millstreamlaw01_OperRefuses.Claim : Prop := ∀ (x0 : S23) (x1 : Int) (x2 : Int) (x3 : Int), W23 x0 → Ini64 x1 → Ini64 x2 → Ini64 x3 → ∃ k, millstreamlaw01_OperRefuses.f k x0.f0 x0.f1 x1 x2 x3 = some true
/-- OperWider -/
def millstreamlaw01_OperWider.Claim : Prop := ∀ (x0 : Int) (x1 : Int) (x2 : Int) (x3 : Int) (x4 : Int), Ini64 x0 → Ini64 x1 → Ini64 x2 → Ini64 x3 → Ini64 x4 → ∃ k, millstreamlaw01_OperWider.f k x0 x1 x2 x3 x4 = some true
end Go.Proofs.Ytokcblafahiphaa.PA
