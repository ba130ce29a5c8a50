/- The pure statement that is left of CommitAlone. Conditions: the numbers' own ranges. -/
import Derived.Test.YtfkndbihfdjinaaFacts12b
import Derived.Test.YtfkndbihfdjinaaF5
import Derived.Test.YtfkndbihfdjinaaSimPure
set_option linter.unusedVariables false
set_option linter.unusedSimpArgs false
set_option maxRecDepth 10000
namespace Go.Proofs.YtfkndbihfdjinaaS
open Go Go.Proofs
theorem pureCommitAlone (x0 : S38) (h0 : Wf (S38v x0)) (hmean : Meant Try.prog [S38v x0]) : ∃ N, f3 N x0 = some ⟨true⟩ := by
  refine ⟨0, ?_⟩
  unfold f3 f3t0
  refine run_test (fun h => rfl) (fun hb => ?_)
  refine run_test (fun h => rfl) (fun hm => ?_)
  have hs := small_of hb
  have hM := may_of (x := x0) (by simpa using hm)
  have hN := nums_of h0 hmean
  obtain ⟨_, c0, c1, d0, d4⟩ := cell_val hM
  have hG := good_of hs hM
  have hcell := in_dec c0 c1
  have hX := hN.ws _ c0 c1
  have hR := allR_eq x0.a9 x0.a10 hN.lo x0.a20 (wordAt x0.a14 (cellT x0)) hN.es hX
  refine run_true (decide_eq_true d4) (run_true hcell (run_true (most_ok (by have := hs.b; omega)) (run_true (decide_eq_true (huge_ok (by have := hs.b; omega))) ?_)))
  have g1 : Good ({ x0 with a16 := 2, a35 := [], a36 := false } : S38) := ⟨hG.d0, hG.d4, hG.c0, hG.c1, hG.lw, hG.lb, by show 0 ≤ 1000; omega⟩
  refine run_true (good_iff.2 g1) ?_
  cases hq : (cellY x0 == cellX x0) with
  | true =>
    have e1 : stepT { x0 with a16 := 2, a35 := [], a36 := false } = commitR { x0 with a16 := 2, a35 := [], a36 := false } (cellX x0) := by
      have hq' : (cellY { x0 with a16 := 2, a35 := [], a36 := false } == cellX { x0 with a16 := 2, a35 := [], a36 := false }) = true := hq
      unfold stepT
      rw [hq']
      rfl
    obtain ⟨k1, k2, k3, k4, k5⟩ := commit_eqs { x0 with a16 := 2, a35 := [], a36 := false } (cellX x0)
    rw [← e1] at k1 k2 k3 k4 k5
    have k1 : (stepT { x0 with a16 := 2, a35 := [], a36 := false }).a14 = x0.a14 := k1
    have hy : allR x0.a20 (wordAt x0.a14 (cellT x0)) x0.a9 x0.a10 = wordAt x0.a14 (cellT x0) := hR.trans (beq_iff_eq.1 hq)
    refine run_false ?_ (run_false ?_ (run_true ?_ (run_true ?_ (run_true ?_ (run_true ?_ ?_)))))
    · show ((_ : Int) != (_ : Int)) = false
      rw [k1]
      simp
    · show (wordAt x0.a14 (cellT x0) != allR x0.a20 (wordAt x0.a14 (cellT x0)) x0.a9 x0.a10) = false
      rw [hy]
      simp
    · rw [k1]
      exact hcell
    · rw [k1]
      show (wordAt x0.a14 (cellT x0) == allR x0.a20 (wordAt x0.a14 (cellT x0)) x0.a9 x0.a10) = true
      rw [hy]
      simp
    · rw [k3, log_len]
      simp
    · rw [k4]
      show (wordAt x0.a14 (cellT x0) == wordAt x0.a14 (cellT x0)) = true
      simp
    · refine congrArg (fun b => some (f3o.r0 b)) ?_
      rw [k5]
      show ((false || !decide (0 < (x0.a21.length : Int))) == ((x0.a21.length : Int) == 0)) = true
      cases x0.a21 with
      | nil => rfl
      | cons a l => simp; omega
  | false =>
    have e1 : stepT { x0 with a16 := 2, a35 := [], a36 := false } = { x0 with a16 := 3, a30 := cellX x0, a31 := cellY x0, a35 := [], a36 := false } := by
      have hq' : (cellY { x0 with a16 := 2, a35 := [], a36 := false } == cellX { x0 with a16 := 2, a35 := [], a36 := false }) = false := hq
      unfold stepT
      rw [hq']
      rfl
    have hy : allR x0.a20 (wordAt x0.a14 (cellT x0)) x0.a9 x0.a10 = cellY x0 := hR
    have hne : (wordAt x0.a14 (cellT x0) != cellY x0) = true := by
      have : cellY x0 ≠ cellX x0 := by simpa using hq
      simpa using fun e => this e.symm
    have g2 : Good ({ x0 with a16 := 3, a30 := cellX x0, a31 := cellY x0, a35 := [], a36 := false } : S38) := ⟨hG.d0, hG.d4, hG.c0, hG.c1, hG.lw, hG.lb, by show 0 ≤ 1000; omega⟩
    have e2 : stepT { x0 with a16 := 3, a30 := cellX x0, a31 := cellY x0, a35 := [], a36 := false } = commitR (turnedR { x0 with a16 := 3, a30 := cellX x0, a31 := cellY x0, a35 := [], a36 := false }) (cellX x0) := by
      have hq' : (cellX { x0 with a16 := 3, a30 := cellX x0, a31 := cellY x0, a35 := [], a36 := false } == cellX x0) = true := by
        show (cellX x0 == cellX x0) = true
        simp
      unfold stepT comparedR
      dsimp only
      rw [hq']
      rfl
    obtain ⟨k1, k2, k3, k4, k5⟩ := commit_eqs (turnedR { x0 with a16 := 3, a30 := cellX x0, a31 := cellY x0, a35 := [], a36 := false }) (cellX x0)
    rw [← e2, ← e1] at k1 k2 k3 k4 k5
    have k1 : (stepT (stepT { x0 with a16 := 2, a35 := [], a36 := false })).a14 = x0.a14.set (cellT x0).toNat [PV.int .i64 (cellY x0)] := by
      rw [k1]
      rw [e1]
      rfl
    have hlen : ((x0.a14.set (cellT x0).toNat [PV.int .i64 (cellY x0)]).length : Int) = (x0.a14.length : Int) := by simp
    have hat := set_at (v := cellY x0) c0 c1
    refine run_false ?_ (run_true ?_ (run_false ?_ (run_false ?_ (run_true ?_ (run_false ?_ (run_true ?_ (run_false ?_ (run_false ?_ (run_true ?_ (run_true ?_ (run_true ?_ (run_true ?_ ?_))))))))))))
    · rw [e1]
      show ((x0.a14.length : Int) != (x0.a14.length : Int)) = false
      simp
    · show (wordAt x0.a14 (cellT x0) != allR x0.a20 (wordAt x0.a14 (cellT x0)) x0.a9 x0.a10) = true
      rw [hy]
      exact hne
    · rw [e1]
      rfl
    · rw [e1]
      rfl
    · rw [e1]
      exact hcell
    · rw [e1]
      show (wordAt x0.a14 (cellT x0) != wordAt x0.a14 (cellT x0)) = false
      simp
    · rw [e1]
      exact good_iff.2 g2
    · rw [e1]
      rfl
    · rw [k1, hlen]
      simp
    · rw [k1, hlen]
      exact hcell
    · rw [k1]
      show (wordAt (x0.a14.set (cellT x0).toNat [PV.int .i64 (cellY x0)]) (cellT x0) == allR x0.a20 (wordAt x0.a14 (cellT x0)) x0.a9 x0.a10) = true
      rw [hat, hy]
      simp
    · rw [k3, log_len, e1]
      show (((([] : List (List PV)).length + x0.a20.length : Nat) : Int) == (x0.a20.length : Int)) = true
      simp
    · rw [k4]
      show (wordAt x0.a14 (cellT x0) == wordAt x0.a14 (cellT x0)) = true
      simp
    · refine congrArg (fun b => some (f3o.r0 b)) ?_
      rw [k5, e1]
      show ((false || !decide (0 < (x0.a21.length : Int))) == ((x0.a21.length : Int) == 0)) = true
      cases x0.a21 with
      | nil => rfl
      | cons a l => simp; omega
end Go.Proofs.YtfkndbihfdjinaaS
