/- The pure statement that is left of ThreadBegins. Conditions: the numbers' own ranges. -/
import Derived.Test.YtnpohdnijgkkdaaFacts10
import Derived.Test.YtnpohdnijgkkdaaSimPure
set_option linter.unusedVariables false
set_option maxRecDepth 10000
namespace Go.Proofs.YtnpohdnijgkkdaaS
open Go Go.Proofs
theorem pureThreadBegins (x0 : S23) (x1 : Int) (x2 : S30) (x3 : Int) (x4 : S25) (x5 : Int) (h0 : Wf (S23v x0)) (h1 : Wf (PV.int .u8 x1)) (h2 : Wf (S30v x2)) (h3 : Wf (PV.int .i64 x3)) (h4 : Wf (S25v x4)) (h5 : Wf (PV.int .i64 x5)) (hm : Meant Try.prog [S23v x0, PV.int .u8 x1, S30v x2, PV.int .i64 x3, S25v x4, PV.int .i64 x5]) : ∃ N, f3 N x0 x1 x2 x3 x4 x5 = some ⟨true⟩ := by
  refine ⟨0, ?_⟩
  have hl : ∀ (l : List (List PV)), decide ((l.length : Int) > 20) = false → l.length ≤ 20 := fun l h => by
    have := of_decide_eq_false h
    omega
  refine run_true (f9_isSome _) ?_
  refine run_test (fun h => rfl) (fun h => ?_)
  obtain ⟨g0, g1, g2, g3, g4, g5⟩ := f9_ok (by simpa using h)
  clear h
  simp only at g0 g1 g2 g3 g4 g5
  obtain ⟨hk0, hk1⟩ := kth (wf_u8 h1) g0 g1
  refine run_test (fun h => rfl) (fun l4 => ?_)
  refine run_test (fun h => rfl) (fun l5 => ?_)
  refine run_test (fun h => rfl) (fun l6 => ?_)
  refine run_true (decide_eq_true (by omega)) ?_
  simp only [f11_val g2 g3 hk0 hk1]
  refine run_true rfl ?_
  refine run_true rfl (run_true rfl (run_true rfl (run_true rfl ?_)))
  refine run_true ?_ ?_
  · have := hl _ l4
    have := hl _ l5
    have m4 : x2.a4.length ≤ most := show x2.a4.length ≤ 1000000 by omega
    have m5 : x2.a5.length ≤ most := show x2.a5.length ≤ 1000000 by omega
    rw [decide_eq_true m4, decide_eq_true m5]
    rfl
  have e := @f14_val ⟨x0.a0, x0.a1, x0.a2, x0.a3, x0.a4, x0.a5, x0.a6, x0.a7, x0.a8, x0.a9, x0.a10, x0.a11⟩ ((IntKind.i64.wrap x1).tmod x0.a0) (fib x2) x3 ⟨x4.a0, x4.a1⟩ x5 g2 g3 hk0 hk1
  refine run_true ((congrArg Option.isSome e).trans rfl) ?_
  have e2 := (congrArg (fun o => Option.getD o f14d) e).trans (Option.getD_some ..)
  refine run_true ?_ ?_
  · exact (congrArg (pre12 _) e2).trans rfl
  refine run_true ?_ rfl
  exact (congrArg (same12 _) e2).trans (same12_begin _ _ _ _ _ _ _)
end Go.Proofs.YtnpohdnijgkkdaaS
