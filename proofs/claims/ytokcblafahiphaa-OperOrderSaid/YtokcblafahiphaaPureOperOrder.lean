/- The plain statement that is left of OperOrder, over numbers alone, is proved. Conditions: the numbers' own ranges. -/
import Derived.Test.YtokcblafahiphaaOperLaws
namespace Go.Proofs.Ytokcblafahiphaa.Pure
open Go.RowKit Go.Proofs.Ytokcblafahiphaa.PA Go.Proofs.YtokcblafahiphaaW.PrintWords Go.Proofs.YtokcblafahiphaaW.PrintLast
theorem OperOrder : millstreamlaw01_OperOrder.Claim := by
  intro t v w x ht hv hw hx
  refine ⟨6, ?_⟩
  unfold millstreamlaw01_OperOrder.f
  obtain ⟨g, hg, h1, h6⟩ : ∃ g, wrap64 (1 + Int.tmod (wrap64 t) 6) = g ∧ 1 ≤ g ∧ g ≤ 6 := by
    refine ⟨_, rfl, ?_⟩
    unfold Inu8 at ht
    have e : wrap64 t = t := by unfold wrap64; omega
    rw [e, Int.tmod_eq_emod_of_nonneg (by omega)]
    unfold wrap64
    omega
  rw [hg]
  rw [oper_Apply_eq 6 (by decide) hv hx zero_in zero_in]
  simp only [Option.bind_some]
  rw [oper_Apply_eq 6 (by decide) hw (ap_in hv hx zero_in zero_in) zero_in zero_in]
  simp only [Option.bind_some]
  rw [oper_Apply_eq 6 (by decide) hw hx zero_in zero_in]
  simp only [Option.bind_some]
  rw [oper_Apply_eq 6 (by decide) hv (ap_in hw hx zero_in zero_in) zero_in zero_in]
  simp only [Option.bind_some]
  rw [if_pos (ap_swap h1 h6), shown_true 6 (by decide)]
  rfl
end Go.Proofs.Ytokcblafahiphaa.Pure
