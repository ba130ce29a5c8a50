/- The pure statement that is left of ShareSteps. Conditions: the numbers' own ranges. -/
import Derived.Test.YtjoebchkchoomaaFacts11c
import Derived.Test.YtjoebchkchoomaaF5x3
import Derived.Test.YtjoebchkchoomaaSimPure
set_option linter.unusedVariables false
set_option linter.unusedSimpArgs false
set_option maxRecDepth 10000
namespace Go.Proofs.YtjoebchkchoomaaS
open Go Go.Proofs
theorem pureShareSteps (x0 : S38) (h0 : Wf (S38v x0)) (hmean : Meant Try.prog [S38v x0]) : ∃ N, f3 N x0 = some ⟨true⟩ := by
  refine ⟨0, ?_⟩
  unfold f3 f3t0
  refine run_test (fun h => rfl) (fun hb => ?_)
  refine run_test (fun h => rfl) (fun hm => ?_)
  have hs := small_of hb
  have hM := may_of (x := x0) (by simpa using hm)
  have hN := nums_of h0 hmean
  have hG := good_of hs hM
  have hf := fits_of hs
  have hgQ : goodQB (itsR x0) = true := goodQ_iff.2 ⟨hG.d4, hG.lw, hG.lb⟩
  have hl := left_fits hf (step_left x0)
  have hse : Fits (settleR x0) := by
    rw [settle_same x0]
    exact ⟨hf.w, hf.n, hf.b, hf.k, hf.h, hf.t, hf.l, hf.bx⟩
  have e1 : f14 0 (itsR (stepT x0)) (stepQ (itsR x0)) = some ⟨true⟩ := by
    rw [its_step hN]
    exact alike_its hl
  have e2 : f14 0 (itsR (settleR x0)) (settleQ (itsR x0)) = some ⟨true⟩ := by
    rw [its_settle]
    exact alike_its hse
  refine run_true (good_iff.2 hG) (run_true (its_ok hf) (run_true hgQ (run_true ?_ (run_true (its_ok hl) (run_true ?_ (run_true ?_ (run_true (its_ok hse) (run_true (its_ok hf) (run_true ?_ ?_)))))))))
  · show (stepB x0 == stepB x0) = true
    simp
  · show (f14 0 (itsR (stepT x0)) (stepQ (itsR x0))).isSome = true
    rw [e1]
    rfl
  · show ((f14 0 (itsR (stepT x0)) (stepQ (itsR x0))).getD f14d).y1 = true
    rw [e1]
    rfl
  · show (f14 0 (itsR (settleR x0)) (settleQ (itsR x0))).isSome = true
    rw [e2]
    rfl
  · show some (f3o.r0 ((f14 0 (itsR (settleR x0)) (settleQ (itsR x0))).getD f14d).y1) = _
    rw [e2]
    rfl
end Go.Proofs.YtjoebchkchoomaaS
