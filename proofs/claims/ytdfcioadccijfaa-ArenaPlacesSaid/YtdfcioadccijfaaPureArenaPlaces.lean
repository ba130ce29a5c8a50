/- ArenaPlaces: both sides are one function of whole numbers. Conditions: none. -/
import Derived.Test.YtdfcioadccijfaaLaw06
import Derived.Test.YtdfcioadccijfaaSays
import Derived.Test.YtdfcioadccijfaaPAx2
import Derived.Test.YtdfcioadccijfaaPAx7
import Derived.Test.YtdfcioadccijfaaSaysArenaPlaces
set_option linter.unusedVariables false
set_option linter.unusedSimpArgs false
namespace Go.Proofs.Ytdfcioadccijfaa.Pure
open Go.RowKit Go.Proofs.Ytdfcioadccijfaa.PA Go.Proofs.YtdfcioadccijfaaW.PrintWords Go.Proofs.YtdfcioadccijfaaW.PrintLast
theorem ArenaPlaces : millstreamlaw06_ArenaPlaces.Claim := by
  intro x0 x1 x2 x3 x4 _ _ _ _ _
  refine ⟨21, ?_⟩
  unfold millstreamlaw06_ArenaPlaces.f
  rw [may_f]
  simp only [Option.bind_some]
  by_cases hc : millstreamref05_Check.v x0.f0 x0.f1 x0.f2 x0.f3 x0.f4 x0.f5 x0.f6 x0.f7 x0.f8 x0.f9 x0.f10 x0.f11 = 0
  · rw [if_pos (beq_iff_eq.mpr hc), shown_k 21 (by omega)]
    have m := cfg_ok hc
    simp only [Option.bind_some, Bool.not_true, millstreamlaw06_ArenaPlaces.j0]
    rw [if_neg (by simp), nodes_eq m, ref_nodes m 20 (by omega)]
    simp only [Option.bind_some]
    rw [if_pos (by trivial), size_eq m, ref_size m 20 (by omega)]
    simp only [Option.bind_some]
    rw [if_pos (by trivial), cell_eq m, ref_cell m 20 (by omega)]
    simp only [Option.bind_some]
    rw [if_pos (by trivial), node_eq m, ref_node m 20 (by omega)]
    simp only [Option.bind_some]
    rw [if_pos (by trivial), slot_eq m, ref_slot m 20 (by omega)]
    simp only [Option.bind_some]
    rw [if_pos (by trivial), line_eq m, ref_line m 20 (by omega)]
    simp only [Option.bind_some]
    rw [if_pos (by trivial), result_eq m, ref_result m 20 (by omega)]
    simp only [Option.bind_some, beq_self_eq_true]
  · rw [if_neg (by simpa using hc)]
    simp only [millstreamlaw06_ArenaPlaces.j0]
    rw [if_pos trivial, shown_k 20 (by omega)]
    rfl
end Go.Proofs.Ytdfcioadccijfaa.Pure
