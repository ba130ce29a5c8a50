/- The pure statement that is left of ThreadKeeps. Conditions: the numbers' own ranges. -/
import Derived.Test.YtnpohdnijgkkdaaFacts10
import Derived.Test.YtnpohdnijgkkdaaSimPure
set_option linter.unusedVariables false
set_option maxRecDepth 10000
namespace Go.Proofs.YtnpohdnijgkkdaaS
open Go Go.Proofs
theorem pureThreadKeeps (x0 : S23) (x1 : Int) (x2 : S30) (x3 : S30) (x4 : Int) (x5 : S25) (x6 : Int) (h0 : Wf (S23v x0)) (h1 : Wf (PV.int .u8 x1)) (h2 : Wf (S30v x2)) (h3 : Wf (S30v x3)) (h4 : Wf (PV.int .i64 x4)) (h5 : Wf (S25v x5)) (h6 : Wf (PV.int .i64 x6)) (hm : Meant Try.prog [S23v x0, PV.int .u8 x1, S30v x2, S30v x3, PV.int .i64 x4, S25v x5, PV.int .i64 x6]) : ∃ N, f6 N x0 x1 x2 x3 x4 x5 x6 = some ⟨true⟩ := by
  refine ⟨0, ?_⟩
  refine run_true (f9_isSome _) ?_
  refine run_test (fun h => rfl) (fun h => ?_)
  obtain ⟨g0, g1, g2, g3, g4, g5⟩ := f9_ok (by simpa using h)
  clear h
  simp only at g0 g1 g2 g3 g4 g5
  obtain ⟨hk0, hk1⟩ := kth (wf_u8 h1) g0 g1
  refine run_true (decide_eq_true (by omega)) ?_
  simp only [f11_val g2 g3 hk0 hk1]
  refine run_true rfl (run_true rfl ?_)
  have e := fun y => f23_val (x := beginT x0.a3 x0.a7 ((IntKind.i64.wrap x1).tmod x0.a0) x3.a12 x4 x5 x6) (y := y) (show 1 ≤ 4611686018427387904 by omega) (show 0 ≤ 4611686018427387904 by omega) (show 0 ≤ 4611686018427387904 by omega)
  have e' := (e (beginT x0.a3 x0.a7 ((IntKind.i64.wrap x1).tmod x0.a0) x3.a12 x4 x5 x6)).trans (congrArg (fun b => some (f23o.r0 b)) (same23_refl _))
  refine run_true ?_ ?_
  · exact (congrArg Option.isSome e').trans rfl
  · exact congrArg (fun o => some (f6o.r0 (Option.getD o f23d).y1)) e'
end Go.Proofs.YtnpohdnijgkkdaaS
