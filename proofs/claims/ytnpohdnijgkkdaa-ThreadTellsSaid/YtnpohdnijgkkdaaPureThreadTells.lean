/- The pure statement that is left of ThreadTells. Conditions: the numbers' own ranges. -/
import Derived.Test.YtnpohdnijgkkdaaFacts10
import Derived.Test.YtnpohdnijgkkdaaSimPure
set_option linter.unusedVariables false
set_option maxRecDepth 10000
namespace Go.Proofs.YtnpohdnijgkkdaaS
open Go Go.Proofs
theorem pureThreadTells (x0 : S55) (x1 : S30) (h0 : Wf (S55v x0)) (h1 : Wf (S30v x1)) (hm : Meant Try.prog [S55v x0, S30v x1]) : ∃ N, f4 N x0 x1 = some ⟨true⟩ := by
  refine ⟨0, ?_⟩
  have hl : ∀ (l : List (List PV)), decide ((l.length : Int) > 20) = false → l.length ≤ 20 := fun l h => by
    have := of_decide_eq_false h
    omega
  refine run_test (fun h => rfl) (fun hb => ?_)
  refine run_test (fun h => rfl) (fun l4 => ?_)
  refine run_test (fun h => rfl) (fun l5 => ?_)
  refine run_test (fun h => rfl) (fun l6 => ?_)
  have l4 := hl _ l4
  have l5 := hl _ l5
  have l6 := hl _ l6
  obtain ⟨b1, b2, b3, b4, b5, b6⟩ := big_no hb
  simp only [f20_val, f21_val, f22_val hb, Option.isSome_some, Option.getD_some]
  have p1 : (decide (x1.a4.length ≤ most) && decide (x1.a5.length ≤ most)) = true := by rw [most_ok (by omega), most_ok (by omega)]; rfl
  refine run_true p1 ?_
  refine run_true (beq_self_eq_true _) ?_
  refine run_true rfl (run_true rfl (run_true rfl ?_))
  refine run_true (beq_self_eq_true _) ?_
  have e1 := f23_val (x := ⟨x0.a16, x0.a17, x0.a18, x0.a19, x0.a20, x0.a21, x0.a22, x0.a23, x0.a24, x0.a25, x0.a26, x0.a27, x0.a28, x0.a29, x0.a30, x0.a31, x0.a32⟩) (y := x1) (huge_ok (show x0.a20.length ≤ 1000 by omega)) (huge_ok (show x0.a21.length ≤ 1000 by omega)) (huge_ok (show x0.a22.length ≤ 1000 by omega))
  have e2 := f23_val (x := x1) (y := x1) (huge_ok (by omega)) (huge_ok (by omega)) (huge_ok (by omega))
  rw [e1, e2]
  refine run_true rfl ?_
  refine run_true (by rw [most_ok (by omega), most_ok (by omega)]; rfl) ?_
  refine run_true p1 ?_
  refine run_true ?_ ?_
  · show (decide (x0.a20.length ≤ huge) && (decide (x0.a22.length ≤ huge) && decide (x0.a21.length ≤ huge))) = true
    rw [decide_eq_true (huge_ok (by omega)), decide_eq_true (huge_ok (by omega)), decide_eq_true (huge_ok (by omega))]
    rfl
  refine run_true ?_ ?_
  · refine (congrArg (fun b => b == _) (same_eq _ _)).trans (beq_self_eq_true _)
  · refine run_true rfl ?_
    exact congrArg (fun b => some (f4o.r0 b)) (same23_refl x1)
end Go.Proofs.YtnpohdnijgkkdaaS
