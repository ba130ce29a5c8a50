/- The pure statement that is left of ThreadWaits. Conditions: the numbers' own ranges. -/
import Derived.Test.YtnpohdnijgkkdaaFacts10
import Derived.Test.YtnpohdnijgkkdaaSimPure
set_option linter.unusedVariables false
set_option maxRecDepth 10000
namespace Go.Proofs.YtnpohdnijgkkdaaS
open Go Go.Proofs
theorem pureThreadWaits (x0 : S23) (x1 : Int) (x2 : Int) (h0 : Wf (S23v x0)) (h1 : Wf (PV.int .u16 x1)) (h2 : Wf (PV.int .u16 x2)) (hm : Meant Try.prog [S23v x0, PV.int .u16 x1, PV.int .u16 x2]) : ∃ N, f5 N x0 x1 x2 = some ⟨true⟩ := by
  refine ⟨0, ?_⟩
  refine run_true (f9_isSome _) ?_
  refine run_test (fun h => rfl) (fun h => ?_)
  obtain ⟨g0, g1, g2, g3, g4, g5⟩ := f9_ok (by simpa using h)
  clear h
  simp only at g0 g1 g2 g3 g4 g5
  have r1 := wf_u16 h1
  have r2 := wf_u16 h2
  have w1 : IntKind.i64.wrap x1 = x1 := wrap_small (by omega) (by omega)
  have w2 : IntKind.i64.wrap x2 = x2 := wrap_small (by omega) (by omega)
  have m0 : 0 ≤ x2.tmod 2000 := Int.tmod_nonneg _ (by omega)
  have m1 : x2.tmod 2000 < 2000 := Int.tmod_lt_of_pos _ (by omega)
  have w3 : IntKind.i64.wrap (x1 + x2.tmod 2000) = x1 + x2.tmod 2000 := wrap_small (by omega) (by omega)
  have w4 : IntKind.i64.wrap (x1 + x0.a7) = x1 + x0.a7 := wrap_small (by omega) (by omega)
  simp only [f11_val (k := 0) g2 g3 (by omega) (by omega), f20_val]
  refine run_true rfl (run_true rfl ?_)
  have key : late (bif decide (x0.a7 > 0) then IntKind.i64.wrap (IntKind.i64.wrap x1 + x0.a7) else 0) (IntKind.i64.wrap (IntKind.i64.wrap x1 + (IntKind.i64.wrap x2).tmod 2000)) = (decide (x0.a7 > 0) && decide ((IntKind.i64.wrap x2).tmod 2000 ≥ x0.a7)) := by
    rw [w1, w2, w3, w4]
    unfold late
    by_cases e : x0.a7 > 0
    · rw [decide_eq_true e]
      simp only [cond_true, Bool.true_and]
      rw [decide_eq_true (show 0 < x1 + x0.a7 by omega), Bool.true_and]
      exact decide_eq_decide.2 (by omega)
    · rw [decide_eq_false e]
      rfl
  refine run_test (fun h => ?_) (fun h => ?_)
  · refine congrArg (fun b => some (f5o.r0 b)) ?_
    refine (congrArg (fun b => b == decide ((IntKind.i64.wrap x2).tmod 2000 ≥ x0.a7)) (key.trans (by rw [h, Bool.true_and]))).trans (beq_self_eq_true _)
  · refine congrArg (fun b => some (f5o.r0 b)) ?_
    refine (congrArg (fun b => b == false) (key.trans (by rw [h, Bool.false_and]))).trans rfl
end Go.Proofs.YtnpohdnijgkkdaaS
