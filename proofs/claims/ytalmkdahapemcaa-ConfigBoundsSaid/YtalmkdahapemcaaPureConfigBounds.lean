/- The pure statement that is left of ConfigBounds. Conditions: the numbers' own ranges. -/
import Derived.Test.YtalmkdahapemcaaFacts05
import Derived.Test.YtalmkdahapemcaaSimPure
set_option linter.unusedVariables false
set_option maxRecDepth 10000
namespace Go.Proofs.YtalmkdahapemcaaS
open Go Go.Proofs
theorem pureConfigBounds (x0 : S23) (x1 : Int) (x2 : Int) (h0 : Wf (S23v x0)) (h1 : Wf (PV.int .i64 x1)) (h2 : Wf (PV.int .i64 x2)) (hm : Meant Try.prog [S23v x0, PV.int .i64 x1, PV.int .i64 x2]) : ∃ N, f5 N x0 x1 x2 = some ⟨true⟩ := by
  refine ⟨0, ?_⟩
  unfold f5 f5t0
  simp only [f9_val, Option.isSome_some, Option.getD_some]
  refine run_test (fun h => ?_) (fun h => ?_)
  · exact run_true rfl (congrArg (fun b => some (f5o.r0 b)) (beq_self_eq_true _))
  have h0 : config_Check.v x0.a0 x0.a1 x0.a2 x0.a3 x0.a4 x0.a5 x0.a6 x0.a7 false x0.a9 x0.a10 x0.a11 = 0 := by simpa [chk5] using h
  have m := cfg_ok h0
  refine run_true rfl (run_false (by rw [h0]; rfl) ?_)
  have e0 : chk5 ⟨x0.a0, x0.a1, x0.a2, x0.a3, x0.a4, x0.a5, x0.a6, x0.a7, false, x1, x2, x1⟩ = 0 := cfg_free m (by simp)
  refine run_test (fun g => ?_) (fun g => ?_)
  · have g' := of_decide_eq_true g
    have e1 : chk5 ⟨x0.a0, x0.a1, x0.a2, x0.a3, x0.a4, x0.a5, x0.a6, x0.a7, true, x1, x2, x1⟩ = 58 := cfg_58 (j' := x1) (k' := x2) (l' := x1) m (by omega)
    have e2 : chk5 ⟨x0.a0, x0.a1, x0.a2, x0.a3, x0.a4, x0.a5, x0.a6, x0.a7, true, x1, x2, x2⟩ = 58 := cfg_58 (j' := x1) (k' := x2) (l' := x2) m (by omega)
    exact run_true (by rw [e0]; rfl) (run_true (beq_iff_eq.2 e1) (congrArg (fun b => some (f5o.r0 b)) (beq_iff_eq.2 e2)))
  · have g' := of_decide_eq_false g
    have e1 : chk5 ⟨x0.a0, x0.a1, x0.a2, x0.a3, x0.a4, x0.a5, x0.a6, x0.a7, true, x1, x2, x1⟩ = 0 := cfg_free (j' := x1) (k' := x2) (l' := x1) m (by intro; omega)
    have e2 : chk5 ⟨x0.a0, x0.a1, x0.a2, x0.a3, x0.a4, x0.a5, x0.a6, x0.a7, true, x1, x2, x2⟩ = 0 := cfg_free (j' := x1) (k' := x2) (l' := x2) m (by intro; omega)
    exact run_true (by rw [e0]; rfl) (run_true (beq_iff_eq.2 e1) (congrArg (fun b => some (f5o.r0 b)) (beq_iff_eq.2 e2)))
end Go.Proofs.YtalmkdahapemcaaS
