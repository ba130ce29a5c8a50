/- The pure statement that is left of ThreadSame. Conditions: the numbers' own ranges. -/
import Derived.Test.YtnpohdnijgkkdaaF5x8
import Derived.Test.YtnpohdnijgkkdaaFacts10
import Derived.Test.YtnpohdnijgkkdaaSimPure
set_option linter.unusedVariables false
set_option linter.unusedSimpArgs false
set_option maxRecDepth 10000
namespace Go.Proofs.YtnpohdnijgkkdaaS
open Go Go.Proofs
noncomputable def setS (x : S30) (K : Nat) (v : Int) : S30 := { a0 := bif decide (K = 0) then v else x.a0, a1 := bif decide (K = 1) then v else x.a1, a2 := bif decide (K = 2) then v else x.a2, a3 := bif decide (K = 3) then v else x.a3, a4 := x.a4, a5 := x.a5, a6 := x.a6, a7 := bif decide (K = 4) then v else x.a7, a8 := bif decide (K = 5) then v else x.a8, a9 := bif decide (K = 6) then v else x.a9, a10 := bif decide (K = 7) then v else x.a10, a11 := bif decide (K = 8) then v else x.a11, a12 := bif decide (K = 9) then v else x.a12, a13 := bif decide (K = 10) then v else x.a13, a14 := bif decide (K = 11) then v else x.a14, a15 := bif decide (K = 12) then v else x.a15, a16 := bif decide (K = 13) then v else x.a16 }
noncomputable def fldS (x : S30) (K : Nat) : Int := bif decide (K = 0) then x.a0 else bif decide (K = 1) then x.a1 else bif decide (K = 2) then x.a2 else bif decide (K = 3) then x.a3 else bif decide (K = 4) then x.a7 else bif decide (K = 5) then x.a8 else bif decide (K = 6) then x.a9 else bif decide (K = 7) then x.a10 else bif decide (K = 8) then x.a11 else bif decide (K = 9) then x.a12 else bif decide (K = 10) then x.a13 else bif decide (K = 11) then x.a14 else bif decide (K = 12) then x.a15 else bif decide (K = 13) then x.a16 else 0
noncomputable def moreS (x : S30) (v : Int) : S30 := ⟨x.a0, x.a1, x.a2, x.a3, x.a4, x.a5, x.a6 ++ [[PV.int .i64 v]], x.a7, x.a8, x.a9, x.a10, x.a11, x.a12, x.a13, x.a14, x.a15, x.a16⟩
theorem same_lists (x y : S30) (h4 : y.a4 = x.a4) (h5 : y.a5 = x.a5) (h6 : y.a6 = x.a6) : same23 x y = nums12 (fib x) (fib y) := by
  unfold same23
  rw [nums_eq, h4, h5, h6, alike1_refl, alike2_refl, alike3_refl]
  simp
theorem set_case (K : Nat) (h : K < 14) : K = 0 ∨ K = 1 ∨ K = 2 ∨ K = 3 ∨ K = 4 ∨ K = 5 ∨ K = 6 ∨ K = 7 ∨ K = 8 ∨ K = 9 ∨ K = 10 ∨ K = 11 ∨ K = 12 ∨ K = 13 := by omega
theorem same_set (x : S30) (K : Nat) (v : Int) (h : K < 14) : same23 x (setS x K v) = (fldS x K == v) := by
  rw [same_lists x (setS x K v) rfl rfl rfl]
  rcases set_case K h with rfl | rfl | rfl | rfl | rfl | rfl | rfl | rfl | rfl | rfl | rfl | rfl | rfl | rfl <;> simp [nums12, fib, setS, fldS]
theorem same_set' (x : S30) (K : Nat) (v : Int) (h : K < 14) : same23 (setS x K v) x = (fldS x K == v) := by
  rw [same_lists (setS x K v) x rfl rfl rfl]
  rcases set_case K h with rfl | rfl | rfl | rfl | rfl | rfl | rfl | rfl | rfl | rfl | rfl | rfl | rfl | rfl <;> simp [nums12, fib, setS, fldS] <;> first | exact BEq.comm | exact eq_comm | exact ⟨Eq.symm, Eq.symm⟩
theorem same_more (x : S30) (v : Int) : same23 x (moreS x v) = false := by
  unfold same23 moreS
  have : alike same1 x.a6 (x.a6 ++ [[PV.int .i64 v]]) = false := by
    unfold alike
    simp
  simp [this]
set_option maxHeartbeats 1000000 in
theorem pureThreadSame (x0 : S30) (x1 : Int) (x2 : Int) (h0 : Wf (S30v x0)) (h1 : Wf (PV.int .u8 x1)) (h2 : Wf (PV.int .i64 x2)) (hm : Meant Try.prog [S30v x0, PV.int .u8 x1, PV.int .i64 x2]) : ∃ N, f8 N x0 x1 x2 = some ⟨true⟩ := by
  refine ⟨0, ?_⟩
  refine run_test (fun h => rfl) (fun h => ?_)
  have g1 := of_decide_eq_false h
  refine run_test (fun h => rfl) (fun h => ?_)
  have g2 := of_decide_eq_false h
  refine run_test (fun h => rfl) (fun h => ?_)
  have g3 := of_decide_eq_false h
  have r1 := wf_u8 h1
  have w1 : IntKind.i64.wrap x1 = x1 := wrap_small (by omega) (by omega)
  have k0 : 0 ≤ (IntKind.i64.wrap x1).tmod 14 := by rw [w1]; exact Int.tmod_nonneg _ r1.1
  have k1 : (IntKind.i64.wrap x1).tmod 14 < 14 := Int.tmod_lt_of_pos _ (by omega)
  have hK : ((IntKind.i64.wrap x1).tmod ((14 : Nat) : Int)).toNat < 14 := by
    have : ((14 : Nat) : Int) = 14 := rfl
    rw [this]
    omega
  refine run_true ?_ ?_
  · show (decide ((0 : Int) ≤ (IntKind.i64.wrap x1).tmod 14) && decide ((IntKind.i64.wrap x1).tmod 14 < 14)) = true
    rw [decide_eq_true k0, decide_eq_true k1]
    rfl
  refine run_true ?_ ?_
  · show (decide ((0 : Int) ≤ (IntKind.i64.wrap x1).tmod 14) && decide ((IntKind.i64.wrap x1).tmod 14 < 14)) = true
    rw [decide_eq_true k0, decide_eq_true k1]
    rfl
  refine run_true (most_ok (by omega)) (run_true (most_ok (show x0.a6.length + 1 ≤ 1000 by omega)) ?_)
  have hu : ∀ n : Nat, ¬ ((n : Int) > 20) → n ≤ huge := fun n h => huge_ok (by omega)
  have e1 : f23 0 x0 (setS x0 ((IntKind.i64.wrap x1).tmod ((14 : Nat) : Int)).toNat x2) = some ⟨fldS x0 ((IntKind.i64.wrap x1).tmod ((14 : Nat) : Int)).toNat == x2⟩ := (f23_val (hu _ g1) (hu _ g2) (hu _ g3)).trans (congrArg (fun b => some (f23o.r0 b)) (same_set _ _ _ hK))
  have e2 : f23 0 (setS x0 ((IntKind.i64.wrap x1).tmod ((14 : Nat) : Int)).toNat x2) x0 = some ⟨fldS x0 ((IntKind.i64.wrap x1).tmod ((14 : Nat) : Int)).toNat == x2⟩ := (f23_val (x := setS x0 ((IntKind.i64.wrap x1).tmod ((14 : Nat) : Int)).toNat x2) (y := x0) (hu _ g1) (hu _ g2) (hu _ g3)).trans (congrArg (fun b => some (f23o.r0 b)) (same_set' x0 _ x2 hK))
  have e3 : f23 0 x0 (moreS x0 x2) = some ⟨false⟩ := (f23_val (hu _ g1) (hu _ g2) (hu _ g3)).trans (congrArg (fun b => some (f23o.r0 b)) (same_more _ _))
  have s1 : (f23 0 x0 (setS x0 ((IntKind.i64.wrap x1).tmod ((14 : Nat) : Int)).toNat x2)).isSome = true := by rw [e1]; rfl
  have s2 : (f23 0 (setS x0 ((IntKind.i64.wrap x1).tmod ((14 : Nat) : Int)).toNat x2) x0).isSome = true := by rw [e2]; rfl
  have s3 : (f23 0 x0 (moreS x0 x2)).isSome = true := by rw [e3]; rfl
  refine run_true s1 ?_
  refine run_true ?_ ?_
  · show (((f23 0 x0 (setS x0 ((IntKind.i64.wrap x1).tmod ((14 : Nat) : Int)).toNat x2)).getD f23d).y1 == (fldS x0 ((IntKind.i64.wrap x1).tmod ((14 : Nat) : Int)).toNat == x2)) = true
    rw [e1]
    exact beq_self_eq_true _
  refine run_true s3 ?_
  refine run_true ?_ ?_
  · show (!((f23 0 x0 (moreS x0 x2)).getD f23d).y1) = true
    rw [e3]
    rfl
  refine run_true s2 ?_
  show some (f8o.r0 (((f23 0 (setS x0 ((IntKind.i64.wrap x1).tmod ((14 : Nat) : Int)).toNat x2) x0).getD f23d).y1 == (fldS x0 ((IntKind.i64.wrap x1).tmod ((14 : Nat) : Int)).toNat == x2))) = _
  rw [e2]
  exact congrArg (fun b => some (f8o.r0 b)) (beq_self_eq_true _)
end Go.Proofs.YtnpohdnijgkkdaaS
