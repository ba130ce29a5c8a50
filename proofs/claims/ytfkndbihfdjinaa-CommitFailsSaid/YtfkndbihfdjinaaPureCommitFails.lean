/- The pure statement that is left of CommitFails. Conditions: the numbers' own ranges. -/
import Derived.Test.YtfkndbihfdjinaaFacts12c
import Derived.Test.YtfkndbihfdjinaaF5x5
import Derived.Test.YtfkndbihfdjinaaSimPure
set_option linter.unusedVariables false
set_option linter.unusedSimpArgs false
set_option maxRecDepth 10000
namespace Go.Proofs.YtfkndbihfdjinaaS
open Go Go.Proofs
theorem pureCommitFails (x0 : S38) (x1 : Int) (h0 : Wf (S38v x0)) (h1 : Wf (PV.int .i64 x1)) (hmean : Meant Try.prog [S38v x0, PV.int .i64 x1]) : ∃ N, f5 N x0 x1 = some ⟨true⟩ := by
  refine ⟨0, ?_⟩
  unfold f5 f5t0
  refine run_test (fun h => rfl) (fun hb => ?_)
  refine run_test (fun h => rfl) (fun hm => ?_)
  refine run_test (fun h => rfl) (fun w1 => ?_)
  refine run_test (fun h => rfl) (fun w2 => ?_)
  have w1 := of_decide_eq_false w1
  have w2 := of_decide_eq_false w2
  have hs := small_of hb
  have hM := may_of (x := x0) (by simpa using hm)
  obtain ⟨_, c0, c1, d0, d4⟩ := cell_val hM
  have hG := good_of hs hM
  have hcell := in_dec c0 c1
  have w8 : x0.a5 ≤ 8 := hM.c.w2
  refine run_true (decide_eq_true d4) (run_true (most_ok (by have := hs.w; omega)) (run_true hcell ?_))
  obtain ⟨u, hu⟩ : ∃ u : S38, u = { x0 with a14 := x0.a14.set (cellT x0).toNat [PV.int .i64 x1], a16 := 3 } := ⟨_, rfl⟩
  have hlen : ((x0.a14.set (cellT x0).toNat [PV.int .i64 x1]).length : Int) = (x0.a14.length : Int) := by simp
  have hat := set_at (v := x1) c0 c1
  have g1 : Good u := by
    subst hu
    exact ⟨hG.d0, hG.d4, hG.c0, by show _ < (((x0.a14.set (cellT x0).toNat [PV.int .i64 x1]).length : Nat) : Int); rw [hlen]; exact hG.c1, by simpa using hG.lw, hG.lb, hG.ll⟩
  have hx : cellX u = x1 := by
    subst hu
    exact hat
  refine run_true (b := goodB { x0 with a14 := x0.a14.set (cellT x0).toNat [PV.int .i64 x1], a16 := 3 }) (by rw [← hu]; exact good_iff.2 g1) ?_
  have hst := step_case u
  have e14 : u.a14 = x0.a14.set (cellT x0).toNat [PV.int .i64 x1] := by rw [hu]
  cases hst with
  | turned h e r =>
    obtain ⟨k1, k2, k3, k4, k5⟩ := commit_eqs (turnedR u) u.a30
    rw [← r] at k1 k2 k3 k4 k5
    have k1 : (stepT u).a14 = (x0.a14.set (cellT x0).toNat [PV.int .i64 x1]).set (cellT x0).toNat [PV.int .i64 x0.a31] := by
      rw [k1, hu]
      rfl
    rw [List.set_set] at k1
    have k3 : (stepT u).a35.length = x0.a35.length + x0.a20.length := by
      rw [k3, log_len, hu]
      rfl
    rw [hu] at k1 k3
    have h30 : x1 = x0.a30 := by
      rw [hx] at e
      rw [e, hu]
    refine run_false ?_ (run_true ?_ (run_true ?_ (run_true ?_ ?_)))
    · show ((((stepT { x0 with a14 := x0.a14.set (cellT x0).toNat [PV.int .i64 x1], a16 := 3 }).a14.length : Nat) : Int) != (((x0.a14.set (cellT x0).toNat [PV.int .i64 x1]).length : Nat) : Int)) = false
      rw [k1]
      simp
    · simpa using h30
    · show (decide (0 ≤ cellT x0) && decide (cellT x0 < (((stepT { x0 with a14 := x0.a14.set (cellT x0).toNat [PV.int .i64 x1], a16 := 3 }).a14.length : Nat) : Int))) = true
      rw [k1]
      simpa using hcell
    · show (wordAt (stepT { x0 with a14 := x0.a14.set (cellT x0).toNat [PV.int .i64 x1], a16 := 3 }).a14 (cellT x0) == x0.a31) = true
      rw [k1, set_at c0 c1]
      simp
    · refine congrArg (fun b => some (f5o.r0 b)) ?_
      show ((((stepT { x0 with a14 := x0.a14.set (cellT x0).toNat [PV.int .i64 x1], a16 := 3 }).a35.length : Nat) : Int) == _) = true
      rw [k3]
      exact len_sum (by have := hs.l; omega) (by have := hs.b; omega)
  | failed h e r =>
    have h30 : (x1 == x0.a30) = false := by
      rw [hx] at e
      have : u.a30 = x0.a30 := by rw [hu]
      rw [this] at e
      simpa using e
    obtain ⟨g2, g3⟩ := wider_ok (n := x0.a28) (m := x0.a5) (by omega) (by omega) w8
    rw [hu] at r
    refine run_false ?_ (run_false h30 (run_true ?_ (run_true ?_ (run_true ?_ (run_true ?_ (run_true ?_ (run_true ?_ ?_)))))))
    · show ((((stepT { x0 with a14 := x0.a14.set (cellT x0).toNat [PV.int .i64 x1], a16 := 3 }).a14.length : Nat) : Int) != (((x0.a14.set (cellT x0).toNat [PV.int .i64 x1]).length : Nat) : Int)) = false
      rw [r]
      simp
    · show (decide (0 ≤ cellT x0) && decide (cellT x0 < (((stepT { x0 with a14 := x0.a14.set (cellT x0).toNat [PV.int .i64 x1], a16 := 3 }).a14.length : Nat) : Int))) = true
      rw [r]
      simpa using hcell
    · show (wordAt (stepT { x0 with a14 := x0.a14.set (cellT x0).toNat [PV.int .i64 x1], a16 := 3 }).a14 (cellT x0) == x1) = true
      rw [r]
      show (wordAt (x0.a14.set (cellT x0).toNat [PV.int .i64 x1]) (cellT x0) == x1) = true
      rw [hat]
      simp
    · show ((((stepT { x0 with a14 := x0.a14.set (cellT x0).toNat [PV.int .i64 x1], a16 := 3 }).a35.length : Nat) : Int) == _) = true
      rw [r]
      simp
    · show ((stepT { x0 with a14 := x0.a14.set (cellT x0).toNat [PV.int .i64 x1], a16 := 3 }).a16 == 2) = true
      rw [r]
      rfl
    · show decide ((stepT { x0 with a14 := x0.a14.set (cellT x0).toNat [PV.int .i64 x1], a16 := 3 }).a28 ≥ x0.a28) = true
      rw [r]
      exact decide_eq_true g2
    · show decide ((stepT { x0 with a14 := x0.a14.set (cellT x0).toNat [PV.int .i64 x1], a16 := 3 }).a28 ≤ x0.a5) = true
      rw [r]
      exact decide_eq_true g3
    · refine congrArg (fun b => some (f5o.r0 b)) ?_
      show ((stepT { x0 with a14 := x0.a14.set (cellT x0).toNat [PV.int .i64 x1], a16 := 3 }).a36 == x0.a36) = true
      rw [r]
      simp
  | none h h2 r => exact absurd (by rw [hu]) h
  | same h e r => exact absurd (by rw [hu]) h
  | onward h e r => rw [hu] at h; exact absurd (show (3 : Int) = 25 from h) (by decide)
  | looked h e r => rw [hu] at h; exact absurd (show (3 : Int) = 2 from h) (by decide)
end Go.Proofs.YtfkndbihfdjinaaS
