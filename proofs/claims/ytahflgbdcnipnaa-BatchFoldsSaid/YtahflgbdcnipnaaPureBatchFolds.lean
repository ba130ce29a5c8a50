/- The pure statement that is left of BatchFolds. Conditions: the numbers' own ranges. -/
import Derived.Test.YtahflgbdcnipnaaFacts02
import Derived.Test.YtahflgbdcnipnaaSimPure
set_option linter.unusedVariables false
set_option linter.unusedSimpArgs false
set_option maxRecDepth 10000
namespace Go.Proofs.YtahflgbdcnipnaaS
open Go Go.Proofs
theorem pureBatchFolds (x0 : List (List PV)) (x1 : List (List PV)) (x2 : Int) (x3 : Int) (x4 : Int) (h0 : Wf (PV.list 44 x0)) (h1 : Wf (PV.list 44 x1)) (h2 : Wf (PV.int .i64 x2)) (h3 : Wf (PV.int .i64 x3)) (h4 : Wf (PV.int .i64 x4)) (hm : Meant Try.prog [PV.list 44 x0, PV.list 44 x1, PV.int .i64 x2, PV.int .i64 x3, PV.int .i64 x4]) : ∃ N, f4 N x0 x1 x2 x3 x4 = some ⟨true⟩ := by
  refine ⟨0, ?_⟩
  refine run_test (fun h => rfl) (fun l0 => ?_)
  refine run_test (fun h => rfl) (fun l1 => ?_)
  have l0 := of_decide_eq_false l0
  have l1 := of_decide_eq_false l1
  have p0 := priorsOf_len x0 x2 x3 x4
  have p1 := priorsOf_len x1 (allOf x0 x2 x3 x4) x3 x4
  have hj : f12 0 [[PV.list 44 x0], [PV.list 44 x1]] = some ⟨x0 ++ x1⟩ := by
    rw [join_val (by simp) (by rw [flat_two, List.length_append]; omega), flat_two]
  refine run_true (mill_ok (by omega)) (run_true (mill_ok (by omega)) (run_true (most_ok (by omega)) (run_true (mill_ok (by omega)) (run_true (most_ok (by omega)) ?_))))
  simp only [hj, Option.isSome_some, Option.getD_some]
  refine run_true rfl (run_true (mill_ok (by rw [List.length_append]; omega)) (run_true (mill_ok (by omega)) ?_))
  refine run_true (by rw [allOf_append]; exact beq_self_eq_true _) (run_true (mill_ok (by rw [List.length_append]; omega)) ?_)
  refine run_true (decide_eq_true (huge_ok (by rw [priorsOf_len, List.length_append]; omega))) ?_
  rw [priorsOf_append]
  exact congrArg (fun b => some (f4o.r0 b)) (alike1_refl _)
end Go.Proofs.YtahflgbdcnipnaaS
