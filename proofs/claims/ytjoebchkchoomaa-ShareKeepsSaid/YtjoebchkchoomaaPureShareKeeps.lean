/- The pure statement that is left of ShareKeeps. Conditions: the numbers' own ranges. -/
import Derived.Test.YtjoebchkchoomaaFacts11c
import Derived.Test.YtjoebchkchoomaaF5x7
import Derived.Test.YtjoebchkchoomaaSimPure
set_option linter.unusedVariables false
set_option linter.unusedSimpArgs false
set_option maxRecDepth 10000
namespace Go.Proofs.YtjoebchkchoomaaS
open Go Go.Proofs
theorem f47_refl {xs : List (List PV)} (h : xs.length ≤ 1000) : f47 0 xs xs = some ⟨true⟩ := by
  unfold f47
  refine run_true (decide_eq_true (huge_ok h)) ?_
  rw [alike1_refl]
  rfl
theorem f49_refl {xs : List (List PV)} (h : xs.length ≤ 1000) : f49 0 xs xs = some ⟨true⟩ := by
  unfold f49
  refine run_true (decide_eq_true (huge_ok h)) ?_
  rw [alike2_refl]
  rfl
theorem f50_refl {xs : List (List PV)} (h : xs.length ≤ 1000) : f50 0 xs xs = some ⟨true⟩ := by
  unfold f50
  refine run_true (decide_eq_true (huge_ok h)) ?_
  rw [alike3_refl]
  rfl
theorem same_thread (y : S33) (h4 : y.a4.length ≤ 1000) (h5 : y.a5.length ≤ 1000) (h6 : y.a6.length ≤ 1000) : f25 0 y y = some ⟨true⟩ := by
  unfold f25 f25t0
  rw [f47_refl (xs := [_, _, _, _, _, _, _, _, _, _, _, _, _, _]) (by simp), f47_refl h6, f49_refl h5, f50_refl h4]
  rfl
theorem pureShareKeeps (x0 : S38) (h0 : Wf (S38v x0)) (hmean : Meant Try.prog [S38v x0]) : ∃ N, f7 N x0 = some ⟨true⟩ := by
  refine ⟨0, ?_⟩
  unfold f7 f7t0
  refine run_test (fun h => rfl) (fun hb => ?_)
  refine run_test (fun h => rfl) (fun hm => ?_)
  have hs := small_of hb
  have hM := may_of (x := x0) (by simpa using hm)
  have hG := good_of hs hM
  have hf := fits_of hs
  have hl := (step_left x0).same
  refine run_true (good_iff.2 hG) ?_
  rw [hl]
  dsimp only
  have hse : ({ settleR x0 with a16 := x0.a16, a36 := x0.a36 } : S38) = x0 := by
    rw [settle_same x0]
  have e := same_thread ⟨x0.a16, x0.a17, x0.a18, x0.a19, x0.a20, x0.a21, x0.a22, x0.a23, x0.a24, x0.a25, x0.a26, x0.a27, x0.a28, x0.a29, x0.a30, x0.a31, x0.a32⟩ hf.b hf.k hf.h
  have e2 : f14 0 (itsR { settleR x0 with a16 := x0.a16, a36 := x0.a36 }) (itsR x0) = some ⟨true⟩ := by
    rw [hse]
    exact alike_its hf
  refine run_true ?_ (run_true ?_ (run_true ?_ (run_true (its_ok hf) (run_true ?_ (run_true ?_ (run_true ?_ (run_true ?_ (run_true ?_ ?_))))))))
  · rw [e]
    rfl
  · rw [e]
    rfl
  · show itsOk { settleR x0 with a16 := x0.a16, a36 := x0.a36 } = true
    rw [hse]
    exact its_ok hf
  · show (f14 0 (itsR { settleR x0 with a16 := x0.a16, a36 := x0.a36 }) (itsR x0)).isSome = true
    rw [e2]
    rfl
  · show ((f14 0 (itsR { settleR x0 with a16 := x0.a16, a36 := x0.a36 }) (itsR x0)).getD f14d).y1 = true
    rw [e2]
    rfl
  · simp
  · simp
  · simp
  · simp [Tr.run]
end Go.Proofs.YtjoebchkchoomaaS
