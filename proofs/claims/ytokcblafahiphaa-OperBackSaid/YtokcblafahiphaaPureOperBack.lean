/- The plain statement that is left of OperBack, over numbers alone, is proved. Conditions: the numbers' own ranges. -/
import Derived.Test.YtokcblafahiphaaOperLaws
namespace Go.Proofs.Ytokcblafahiphaa.Pure
open Go.RowKit Go.Proofs.Ytokcblafahiphaa.PA Go.Proofs.YtokcblafahiphaaW.PrintWords Go.Proofs.YtokcblafahiphaaW.PrintLast
theorem OperBack : millstreamlaw01_OperBack.Claim := by
  intro v x lo hi hv hx hlo hhi
  refine ⟨6, ?_⟩
  unfold millstreamlaw01_OperBack.f
  rw [oper_Apply_eq 6 (by decide) hv hx hlo hhi, ap1]
  simp only [Option.bind_some]
  rw [oper_Apply_eq 6 (by decide) hv (w64_in (x + v)) hlo hhi, ap2]
  simp only [Option.bind_some]
  have e : wrap64 (wrap64 (x + v) - v) = x := by unfold Ini64 at *; unfold wrap64; omega
  rw [e, if_pos rfl, if_true, shown_true 6 (by decide)]
  simp only [Option.bind_some, Bool.not_true]
  simp only [millstreamlaw01_OperBack.j0]
  simp only [Bool.false_eq_true, if_false]
  have ht : ∀ k, millstreamlaw01_OperBack.j1 (k + 1) v x lo hi true = some true := by
    intro k; simp only [millstreamlaw01_OperBack.j1]; rfl
  by_cases hm : v = -9223372036854775808
  · rw [if_pos hm]; exact ht _
  rw [if_neg hm]
  by_cases h1 : x < lo
  · rw [if_pos h1]; exact ht _
  rw [if_neg h1]
  by_cases h2 : x > hi
  · rw [decide_eq_true h2]; exact ht _
  rw [decide_eq_false h2]
  simp only [millstreamlaw01_OperBack.j1]
  simp only [Bool.false_eq_true, if_false]
  have hn : Ini64 (wrap64 (-v)) := w64_in _
  have en : wrap64 (-v) = -v := by unfold Ini64 at *; unfold wrap64; omega
  have i := ap_in (tag := 8) hv hx hlo hhi
  rw [oper_Apply_eq 4 (by decide) hv hx hlo hhi]
  simp only [Option.bind_some]
  rw [oper_Apply_eq 4 (by decide) hn i hlo hhi, en]
  simp only [Option.bind_some]
  rw [ap8]
  by_cases hb : lo ≤ x + v ∧ x + v ≤ hi
  · rw [if_pos hb, ap8]
    simp only []
    rw [if_pos (show lo ≤ x + v + -v ∧ x + v + -v ≤ hi by omega)]
    simp only [if_true]
    congr 1
    rw [beq_iff_eq]
    omega
  · rw [if_neg hb]; simp
end Go.Proofs.Ytokcblafahiphaa.Pure
