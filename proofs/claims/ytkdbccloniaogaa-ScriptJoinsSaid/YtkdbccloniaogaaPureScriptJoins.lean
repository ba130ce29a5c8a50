/- The pure statement that is left of ScriptJoins. Conditions: the numbers' own ranges. -/
import Derived.Test.YtkdbccloniaogaaFacts09
import Derived.Test.YtkdbccloniaogaaF5x7
import Derived.Test.YtkdbccloniaogaaSimPure
set_option linter.unusedVariables false
set_option linter.unusedSimpArgs false
set_option maxRecDepth 10000
namespace Go.Proofs.YtkdbccloniaogaaS
open Go Go.Proofs
theorem pureScriptJoins (x0 : S23) (x1 : List (List PV)) (x2 : List (List PV)) (h0 : Wf (S23v x0)) (h1 : Wf (PV.list 38 x1)) (h2 : Wf (PV.list 38 x2)) (hmean : Meant Try.prog [S23v x0, PV.list 38 x1, PV.list 38 x2]) : ∃ N, f7 N x0 x1 x2 = some ⟨true⟩ := by
  refine ⟨0, ?_⟩
  unfold f7 f7t0
  refine run_test (fun h => rfl) (fun hb1 => ?_)
  refine run_test (fun h => rfl) (fun hb2 => ?_)
  have hb1 := of_decide_eq_false hb1
  have hb2 := of_decide_eq_false hb2
  have L1 : x1.length ≤ 100 := by omega
  have L2 : x2.length ≤ 100 := by omega
  have L12 : (x1 ++ x2).length = x1.length + x2.length := List.length_append
  have e1 := encs_le x1
  have e2 := encs_le x2
  have mo : ∀ {n : Nat}, n ≤ 1000 → decide (n ≤ most) = true := fun h => decide_eq_true (show _ ≤ 1000000 by omega)
  refine run_true (mo (by omega)) (run_true (mo (by omega)) (run_true (decide_eq_true (by omega)) (run_true (decide_eq_true (by omega)) (run_true (decide_eq_true (by omega)) (run_true (decide_eq_true (by omega)) (run_true (decide_eq_true (by omega)) (run_true (decide_eq_true (by omega)) (run_true (decide_eq_true (by rw [strOf_size, strOf_size]; omega)) (run_false ?_ ?_)))))))))
  · rw [encs_append, strOf_append]
    simp
  have a1 := all11_small x0 x1 (by omega)
  have a2 := all11_small x0 x2 (by omega)
  have a3 := all11_small x0 (x1 ++ x2) (by omega)
  cases hc : (chk5 x0 != 0) with
  | true =>
    rw [hc] at a1 a2 a3
    simp only [cond_true] at a1 a2 a3
    rw [a1, a3]
    refine run_true hc (run_true (by simp) ?_)
    simp [Tr.run]
  | false =>
    rw [hc] at a1 a2 a3
    simp only [cond_false] at a1 a2 a3
    rw [a1, a2, a3, scanL_append]
    by_cases q1 : (scanL (chkE11 x0) x1 0).2 = 0
    · rw [if_pos q1, Nat.zero_add, show x1.length = 0 + x1.length by omega, scanL_shift]
      refine run_false (by rw [q1]; rfl) ?_
      by_cases q2 : (scanL (chkE11 x0) x2 0).2 = 0
      · rw [if_pos q2]
        refine run_false (by rw [q2]; rfl) (run_true rfl ?_)
        rfl
      · rw [if_neg q2]
        have hat := scanL_at q2
        refine run_true (by simpa using q2) (run_true (by simp) ?_)
        show some (f7o.r0 ((scanL (chkE11 x0) x2 0).1 + (x1.length : Int) == IntKind.i64.wrap (((0 + x1.length : Nat) : Int) + (scanL (chkE11 x0) x2 0).1))) = _
        rw [wrap_small (by omega) (by omega)]
        have : ((scanL (chkE11 x0) x2 0).1 + (x1.length : Int) == ((0 + x1.length : Nat) : Int) + (scanL (chkE11 x0) x2 0).1) = true := by
          simp only [beq_iff_eq]
          omega
        rw [this]
    · rw [if_neg q1]
      refine run_true (by simpa using q1) (run_true (by simp) ?_)
      simp [Tr.run]
end Go.Proofs.YtkdbccloniaogaaS
