/- What each argument of the laws of this seat says, once it is read as data, and the pure statement that is left of each law. Conditions: none but the numbers' own ranges. -/
import Derived.Test.YtdfcioadccijfaaArg
import Derived.Test.YtdfcioadccijfaaPAx0
set_option linter.unusedVariables false
set_option linter.unusedSimpArgs false
namespace Go.Proofs.Ytdfcioadccijfaa.PA
open Go.RowKit Go.Proofs.YtdfcioadccijfaaW.PrintWords Go.Proofs.YtdfcioadccijfaaW.PrintLast Go.Proofs.YtdfcioadccijfaaA

def Ini64 (x : Int) : Prop := -9223372036854775808 ≤ x ∧ x ≤ 9223372036854775807
theorem ini64_of {x : Int} (h : (Lit.int .i64 x).wf = true) : Ini64 x := by
  have h' : IntKind.i64.min ≤ x ∧ x ≤ IntKind.i64.max := by simpa [Lit.wf] using h
  have e1 : IntKind.i64.min = -9223372036854775808 := by decide
  have e2 : IntKind.i64.max = 9223372036854775807 := by decide
  unfold Ini64; omega
theorem reads_i64 {P : Program} {t : TypeId} (h : P.underlying t = some (.int .i64)) : Reads P t (Kd.int .i64) Ini64 := (Reads.int h).imp (fun _ => ini64_of)
def Inu8 (x : Int) : Prop := 0 ≤ x ∧ x ≤ 255
theorem inu8_of {x : Int} (h : (Lit.int .u8 x).wf = true) : Inu8 x := by
  have h' : IntKind.u8.min ≤ x ∧ x ≤ IntKind.u8.max := by simpa [Lit.wf] using h
  have e1 : IntKind.u8.min = 0 := by decide
  have e2 : IntKind.u8.max = 255 := by decide
  unfold Inu8; omega
theorem reads_u8 {P : Program} {t : TypeId} (h : P.underlying t = some (.int .u8)) : Reads P t (Kd.int .u8) Inu8 := (Reads.int h).imp (fun _ => inu8_of)
/-- config.Config -/
def W23 (x : S23) : Prop := Ini64 x.f0 ∧ Ini64 x.f1 ∧ Ini64 x.f2 ∧ Ini64 x.f3 ∧ Ini64 x.f4 ∧ Ini64 x.f5 ∧ Ini64 x.f6 ∧ Ini64 x.f7 ∧ True ∧ Ini64 x.f9 ∧ Ini64 x.f10 ∧ Ini64 x.f11
theorem reads23 : Reads Try.prog 23 k23 W23 := by
  have h := Reads.struct (β := S23) (fun x : S23 => (x.f0, x.f1, x.f2, x.f3, x.f4, x.f5, x.f6, x.f7, x.f8, x.f9, x.f10, x.f11)) (fun a => ⟨a.1, a.2.1, a.2.2.1, a.2.2.2.1, a.2.2.2.2.1, a.2.2.2.2.2.1, a.2.2.2.2.2.2.1, a.2.2.2.2.2.2.2.1, a.2.2.2.2.2.2.2.2.1, a.2.2.2.2.2.2.2.2.2.1, a.2.2.2.2.2.2.2.2.2.2.1, a.2.2.2.2.2.2.2.2.2.2.2⟩) (fun _ => rfl) Try.underlying23 (by kernel_rfl) (FReads.cons (reads_i64 Try.underlying3) rfl (by kernel_rfl) rfl (FReads.cons (reads_i64 Try.underlying3) rfl (by kernel_rfl) rfl (FReads.cons (reads_i64 Try.underlying3) rfl (by kernel_rfl) rfl (FReads.cons (reads_i64 Try.underlying3) rfl (by kernel_rfl) rfl (FReads.cons (reads_i64 Try.underlying3) rfl (by kernel_rfl) rfl (FReads.cons (reads_i64 Try.underlying3) rfl (by kernel_rfl) rfl (FReads.cons (reads_i64 Try.underlying3) rfl (by kernel_rfl) rfl (FReads.cons (reads_i64 Try.underlying3) rfl (by kernel_rfl) rfl (FReads.cons (Reads.bool Try.underlying4) rfl (by kernel_rfl) rfl (FReads.cons (reads_i64 Try.underlying3) rfl (by kernel_rfl) rfl (FReads.cons (reads_i64 Try.underlying3) rfl (by kernel_rfl) rfl (FReads.one (reads_i64 Try.underlying3) rfl (by kernel_rfl)))))))))))))
  exact h.imp (fun x hx => by unfold W23; exact hx)
end Go.Proofs.Ytdfcioadccijfaa.PA
