/- The pure statement that is left of ScriptEncodes. Conditions: the numbers' own ranges. -/
import Derived.Test.YtkdbccloniaogaaF5x4
import Derived.Test.YtkdbccloniaogaaSimPure
set_option linter.unusedVariables false
set_option linter.unusedSimpArgs false
set_option maxRecDepth 10000
namespace Go.Proofs.YtkdbccloniaogaaS
open Go Go.Proofs
theorem pureScriptEncodes (x0 : List (List PV)) (h0 : Wf (PV.list 38 x0)) (hmean : Meant Try.prog [PV.list 38 x0]) : ∃ N, f4 N x0 = some ⟨true⟩ := by
  refine ⟨0, ?_⟩
  unfold f4 f4t0
  refine run_test (fun h => rfl) (fun hb => ?_)
  have hb := of_decide_eq_false hb
  refine run_true (decide_eq_true (by omega)) (run_true (decide_eq_true (show x0.length ≤ 1000000 by omega)) (run_true (decide_eq_true (by omega)) ?_))
  simp [Tr.run]
end Go.Proofs.YtkdbccloniaogaaS
