/- What each argument of the laws of this seat says, once it is read as data, and the pure statement that is left of each law. Conditions: none but the numbers' own ranges. -/
import Derived.Test.YtmlapgclfnlipaaArg
import Derived.Test.YtmlapgclfnlipaaPAx0
set_option linter.unusedVariables false
set_option linter.unusedSimpArgs false
namespace Go.Proofs.Ytmlapgclfnlipaa.PA
open Go.RowKit Go.Proofs.YtmlapgclfnlipaaW.PrintWords Go.Proofs.YtmlapgclfnlipaaW.PrintLast Go.Proofs.YtmlapgclfnlipaaA

def Ini64 (x : Int) : Prop := -9223372036854775808 ≤ x ∧ x ≤ 9223372036854775807
theorem ini64_of {x : Int} (h : (Lit.int .i64 x).wf = true) : Ini64 x := by
  have h' : IntKind.i64.min ≤ x ∧ x ≤ IntKind.i64.max := by simpa [Lit.wf] using h
  have e1 : IntKind.i64.min = -9223372036854775808 := by decide
  have e2 : IntKind.i64.max = 9223372036854775807 := by decide
  unfold Ini64; omega
theorem reads_i64 {P : Program} {t : TypeId} (h : P.underlying t = some (.int .i64)) : Reads P t (Kd.int .i64) Ini64 := (Reads.int h).imp (fun _ => ini64_of)
def Inu16 (x : Int) : Prop := 0 ≤ x ∧ x ≤ 65535
theorem inu16_of {x : Int} (h : (Lit.int .u16 x).wf = true) : Inu16 x := by
  have h' : IntKind.u16.min ≤ x ∧ x ≤ IntKind.u16.max := by simpa [Lit.wf] using h
  have e1 : IntKind.u16.min = 0 := by decide
  have e2 : IntKind.u16.max = 65535 := by decide
  unfold Inu16; omega
theorem reads_u16 {P : Program} {t : TypeId} (h : P.underlying t = some (.int .u16)) : Reads P t (Kd.int .u16) Inu16 := (Reads.int h).imp (fun _ => inu16_of)
def Inu8 (x : Int) : Prop := 0 ≤ x ∧ x ≤ 255
theorem inu8_of {x : Int} (h : (Lit.int .u8 x).wf = true) : Inu8 x := by
  have h' : IntKind.u8.min ≤ x ∧ x ≤ IntKind.u8.max := by simpa [Lit.wf] using h
  have e1 : IntKind.u8.min = 0 := by decide
  have e2 : IntKind.u8.max = 255 := by decide
  unfold Inu8; omega
theorem reads_u8 {P : Program} {t : TypeId} (h : P.underlying t = some (.int .u8)) : Reads P t (Kd.int .u8) Inu8 := (Reads.int h).imp (fun _ => inu8_of)
end Go.Proofs.Ytmlapgclfnlipaa.PA
