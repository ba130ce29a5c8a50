/- The plain statement that is left of OperTwice, over numbers alone, is proved. Conditions: the numbers' own ranges. -/
import Derived.Test.YtokcblafahiphaaOperLaws
namespace Go.Proofs.Ytokcblafahiphaa.Pure
open Go.RowKit Go.Proofs.Ytokcblafahiphaa.PA Go.Proofs.YtokcblafahiphaaW.PrintWords Go.Proofs.YtokcblafahiphaaW.PrintLast
theorem OperTwice : millstreamlaw01_OperTwice.Claim := by
  intro t v w x ht hv hw hx
  refine ⟨6, ?_⟩
  unfold millstreamlaw01_OperTwice.f
  obtain ⟨g, hg, h3, h7⟩ : ∃ g, wrap64 (3 + Int.tmod (wrap64 t) 5) = g ∧ 3 ≤ g ∧ g ≤ 7 := by
    refine ⟨_, rfl, ?_⟩
    unfold Inu8 at ht
    have e : wrap64 t = t := by unfold wrap64; omega
    rw [e, Int.tmod_eq_emod_of_nonneg (by omega)]
    unfold wrap64
    omega
  rw [hg]
  rw [oper_Apply_eq 6 (by decide) hv hx zero_in zero_in]
  simp only [Option.bind_some]
  rw [oper_Apply_eq 6 (by decide) hv (ap_in hv hx zero_in zero_in) zero_in zero_in]
  simp only [Option.bind_some]
  rw [oper_Apply_eq 6 (by decide) hv hx zero_in zero_in, ap1]
  simp only [Option.bind_some]
  rw [oper_Apply_eq 6 (by decide) hw (w64_in (x + v)) zero_in zero_in, ap1]
  simp only [Option.bind_some]
  rw [oper_Apply_eq 6 (by decide) (w64_in (v + w)) hx zero_in zero_in, ap1]
  simp only [Option.bind_some]
  obtain ⟨h1, h2⟩ := ap_twice (v := v) (x := x) (lo := 0) (hi := 0) h3 h7
  have h4 : (ap g v (ap g v x 0 0).1 0 0).2 = true := (ap_twice h3 h7).2
  have e : wrap64 (wrap64 (x + v) + w) = wrap64 (x + wrap64 (v + w)) := by unfold wrap64; omega
  rw [if_pos h1.symm, if_pos h2, if_pos h4, if_pos e, shown_true 6 (by decide)]
  rfl
end Go.Proofs.Ytokcblafahiphaa.Pure
