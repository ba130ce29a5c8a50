/- The pure statement that is left of BatchJoins. Conditions: the numbers' own ranges. -/
import Derived.Test.YtahflgbdcnipnaaFacts02b
import Derived.Test.YtahflgbdcnipnaaF6
import Derived.Test.YtahflgbdcnipnaaSimPure
set_option linter.unusedVariables false
set_option linter.unusedSimpArgs false
set_option maxRecDepth 10000
namespace Go.Proofs.YtahflgbdcnipnaaS
open Go Go.Proofs
theorem upto_any {xs : List (List PV)} (m : Int) (hl : xs.length ≤ 1000) : f14 0 xs m = some ⟨xs.take (uptoN xs m)⟩ := by
  have e : (if (0 : Int) < (if (xs.length : Int) < m then (xs.length : Int) else m) then (if (xs.length : Int) < m then (xs.length : Int) else m) else 0) = ((uptoN xs m : Nat) : Int) := by
    unfold uptoN
    split <;> split <;> omega
  have hn : uptoN xs m ≤ xs.length := Nat.min_le_left _ _
  unfold f14 f14t0
  rw [e]
  refine run_true ?_ (run_true ?_ rfl)
  · rw [decide_eq_true (show (0 : Int) ≤ ((0 : Nat) : Int) by omega), decide_eq_true (show ((0 : Nat) : Int) ≤ ((uptoN xs m : Nat) : Int) by omega), decide_eq_true (show ((uptoN xs m : Nat) : Int) ≤ (xs.length : Int) by omega)]
    rfl
  · refine decide_eq_true ?_
    show (List.drop 0 (List.take (uptoN xs m) xs)).length ≤ 1000000
    rw [List.drop_zero, List.length_take]
    omega
theorem flat_three (t : Nat) (a b c : List (List PV)) : flat [[PV.list t a], [PV.list t b], [PV.list t c]] = a ++ (b ++ c) := by simp [flat, row44, pList]
theorem pureBatchJoins (x0 : List (List PV)) (x1 : List (List PV)) (x2 : List (List PV)) (x3 : Int) (h0 : Wf (PV.list 44 x0)) (h1 : Wf (PV.list 44 x1)) (h2 : Wf (PV.list 44 x2)) (h3 : Wf (PV.int .i64 x3)) (hmean : Meant Try.prog [PV.list 44 x0, PV.list 44 x1, PV.list 44 x2, PV.int .i64 x3]) : ∃ N, f3 N x0 x1 x2 x3 = some ⟨true⟩ := by
  refine ⟨0, ?_⟩
  unfold f3 f3t0
  refine run_test (fun h => rfl) (fun hb0 => ?_)
  refine run_test (fun h => rfl) (fun hb1 => ?_)
  refine run_test (fun h => rfl) (fun hb2 => ?_)
  have hb0 := of_decide_eq_false hb0
  have hb1 := of_decide_eq_false hb1
  have hb2 := of_decide_eq_false hb2
  have L0 : x0.length ≤ 50 := by omega
  have L1 : x1.length ≤ 50 := by omega
  have L2 : x2.length ≤ 50 := by omega
  have ej : f12 0 [[PV.list 44 x0], [PV.list 44 x1], [PV.list 44 x2]] = some ⟨x0 ++ (x1 ++ x2)⟩ := by
    rw [join_val (by simp) (by rw [flat_three]; simp only [List.length_append]; omega), flat_three]
  have lj : (x0 ++ (x1 ++ x2)).length ≤ 1000 := by simp only [List.length_append]; omega
  have mo : ∀ {n : Nat}, n ≤ 1000 → decide (n ≤ most) = true := fun h => decide_eq_true (show _ ≤ 1000000 by omega)
  have hu : ∀ {n : Nat}, n ≤ 1000 → decide (n ≤ huge) = true := fun h => decide_eq_true (show _ ≤ 4611686018427387904 by omega)
  have hn : uptoN x0 x3 ≤ x0.length := Nat.min_le_left _ _
  have lu : (x0.take (uptoN x0 x3)).length ≤ 1000 := by rw [List.length_take]; omega
  have p13 : pre13 [[PV.list 49 x0], [PV.list 49 x1], [PV.list 49 x2]] = true := by
    unfold pre13
    rw [flat_three, mo lj]
    rfl
  simp only [ej, upto_any x3 (show x0.length ≤ 1000 by omega), flat_three, Option.getD_some, Option.isSome_some]
  refine run_true rfl (run_true (mo lj) (run_true (mo (by omega)) (run_true (mo (by omega)) (run_true (mo (by omega)) (run_true p13 (run_true (hu lj) (run_true (alike3_refl _) (run_true rfl (run_true (mo lu) (run_true (mo (by omega)) (run_true (mo (by omega)) (run_true (hu lu) (run_true (alike3_refl _) ?_)))))))))))))
  rfl
end Go.Proofs.YtahflgbdcnipnaaS
