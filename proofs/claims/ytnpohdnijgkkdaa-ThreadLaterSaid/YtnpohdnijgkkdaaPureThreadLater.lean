/- The pure statement that is left of ThreadLater. Conditions: the numbers' own ranges. -/
import Derived.Test.YtnpohdnijgkkdaaF5
import Derived.Test.YtnpohdnijgkkdaaSimPure
set_option linter.unusedVariables false
set_option maxRecDepth 10000
namespace Go.Proofs.YtnpohdnijgkkdaaS
open Go Go.Proofs
def late (until_ now : Int) : Bool := decide (0 < until_) && decide (until_ ≤ now)
theorem f20_val (x : S55) : f20 0 x = some ⟨late x.a32 x.a13⟩ := by
  unfold f20 late
  refine run_test (fun h => ?_) (fun h => ?_)
  · rw [h, Bool.true_and]; rfl
  · rw [h, Bool.false_and]; rfl
theorem pureThreadLater (x0 : S55) (x1 : Int) (h0 : Wf (S55v x0)) (h1 : Wf (PV.int .u16 x1)) (hm : Meant Try.prog [S55v x0, PV.int .u16 x1]) : ∃ N, f7 N x0 x1 = some ⟨true⟩ := by
  refine ⟨0, ?_⟩
  have r1 := wf_u16 h1
  have w1 : IntKind.i64.wrap x1 = x1 := wrap_small (by omega) (by omega)
  refine run_test (fun h => rfl) (fun h => ?_)
  have g1 := of_decide_eq_false h
  refine run_test (fun h => rfl) (fun h => ?_)
  have g2 := of_decide_eq_false h
  have w2 : IntKind.i64.wrap (x0.a13 - x1) = x0.a13 - x1 := wrap_small (by omega) (by omega)
  have w3 : IntKind.i64.wrap (x0.a13 + x1) = x0.a13 + x1 := wrap_small (by omega) (by omega)
  simp only [f20_val, w1, w2, w3, Option.isSome_some, Option.getD_some, Tr.run, cond_true]
  have m1 : late x0.a32 x0.a13 = true → late x0.a32 (x0.a13 + x1) = true := by
    unfold late
    simp only [Bool.and_eq_true, decide_eq_true_eq]
    omega
  have m2 : late x0.a32 x0.a13 = false → late x0.a32 (x0.a13 - x1) = false := by
    unfold late
    simp only [Bool.and_eq_false_iff, decide_eq_false_iff_not]
    omega
  cases e : late x0.a32 x0.a13
  · rw [m2 e]
    cases late x0.a32 (x0.a13 + x1) <;> rfl
  · rw [m1 e]
    rfl
end Go.Proofs.YtnpohdnijgkkdaaS
