/- ArenaNone: beyond its range each place is none. Conditions: none. -/
import Derived.Test.YtdfcioadccijfaaLaw06
import Derived.Test.YtdfcioadccijfaaSays
import Derived.Test.YtdfcioadccijfaaPAx15
import Derived.Test.YtdfcioadccijfaaPAx2
import Derived.Test.YtdfcioadccijfaaSaysArenaNone
set_option linter.unusedVariables false
set_option linter.unusedSimpArgs false
namespace Go.Proofs.Ytdfcioadccijfaa.Pure
open Go.RowKit Go.Proofs.Ytdfcioadccijfaa.PA Go.Proofs.YtdfcioadccijfaaW.PrintWords Go.Proofs.YtdfcioadccijfaaW.PrintLast
theorem ArenaNone : millstreamlaw06_ArenaNone.Claim := by
  intro x0 x1 _ hx1
  have h0 : 0 ≤ x1 ∧ x1 ≤ 255 := by unfold Inu8 at hx1; omega
  refine ⟨21, ?_⟩
  unfold millstreamlaw06_ArenaNone.f
  rw [may_f]
  simp only [Option.bind_some]
  by_cases hc : millstreamref05_Check.v x0.f0 x0.f1 x0.f2 x0.f3 x0.f4 x0.f5 x0.f6 x0.f7 x0.f8 x0.f9 x0.f10 x0.f11 = 0
  · rw [if_pos (beq_iff_eq.mpr hc), shown_k 21 (by omega)]
    have m := cfg_ok hc
    obtain ⟨h1, h2, h3, h4, h5, h6, h7, h8, h9⟩ := cfg_ok hc
    have hp := pw_in x0.f3
    simp only [Option.bind_some, Bool.not_true, millstreamlaw06_ArenaNone.j0]
    rw [if_neg (by simp), w64 (x := x1) (by omega) (by omega), w64 (x := -1 - x1) (by omega) (by omega), w64 (x := x0.f1 + x1) (by omega) (by omega), w64 (x := -x1) (by omega) (by omega), w64 (x := x0.f4 + 1) (by omega) (by omega), w64 (x := x0.f4 + 1 + x1) (by omega) (by omega), w64 (x := x0.f5 + x1) (by omega) (by omega), w64 (x := x0.f0 + x1) (by omega) (by omega)]
    rw [cell_eq m, if_pos (by omega)]
    simp only [Option.bind_some]
    rw [if_pos (by trivial), cell_eq m, if_pos (by omega)]
    simp only [Option.bind_some]
    rw [if_pos (by trivial), node_eq m, if_pos (by omega)]
    simp only [Option.bind_some]
    rw [if_pos (by trivial), nodes_eq m]
    simp only [Option.bind_some]
    rw [w64 (x := pw x0.f3 - 1 + 1) (by omega) (by omega), w64 (x := pw x0.f3 - 1 + 1 + x1) (by omega) (by omega), node_eq m, if_pos (by omega)]
    simp only [Option.bind_some]
    rw [if_pos (by trivial), slot_eq m, if_pos (by omega)]
    simp only [Option.bind_some]
    rw [if_pos (by trivial), slot_eq m, if_pos (by omega)]
    simp only [Option.bind_some]
    rw [if_pos (by trivial), slot_eq m, if_pos (by omega)]
    simp only [Option.bind_some]
    rw [if_pos (by trivial), slot_eq m, if_pos (by omega)]
    simp only [Option.bind_some]
    rw [if_pos (by trivial), line_eq m, if_pos (by omega)]
    simp only [Option.bind_some]
    rw [if_pos (by trivial), line_eq m, if_pos (by omega)]
    simp only [Option.bind_some]
    rw [if_pos (by trivial), result_eq m, if_pos (by omega)]
    simp only [Option.bind_some]
    rw [if_pos (by trivial), result_eq m, if_pos (by omega)]
    rfl
  · rw [if_neg (by simpa using hc)]
    simp only [millstreamlaw06_ArenaNone.j0]
    rw [if_pos trivial, shown_k 20 (by omega)]
    rfl
end Go.Proofs.Ytdfcioadccijfaa.Pure
