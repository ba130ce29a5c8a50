/- The pure statement that is left of CommitRace. Conditions: the numbers' own ranges. -/
import Derived.Test.YtfkndbihfdjinaaFacts12c
import Derived.Test.YtfkndbihfdjinaaF5x6
import Derived.Test.YtfkndbihfdjinaaSimPure
set_option linter.unusedVariables false
set_option linter.unusedSimpArgs false
set_option maxRecDepth 10000
namespace Go.Proofs.YtfkndbihfdjinaaS
open Go Go.Proofs
theorem pureCommitRace (x0 : S38) (x1 : Int) (x2 : List (List PV)) (h0 : Wf (S38v x0)) (h1 : Wf (PV.int .u8 x1)) (h2 : Wf (PV.list 51 x2)) (hmean : Meant Try.prog [S38v x0, PV.int .u8 x1, PV.list 51 x2]) : ∃ N, f6 N x0 x1 x2 = some ⟨true⟩ := by
  refine ⟨0, ?_⟩
  unfold f6 f6t0
  refine run_test (fun h => rfl) (fun hb => ?_)
  refine run_test (fun h => rfl) (fun hm => ?_)
  refine run_test (fun h => rfl) (fun l2 => ?_)
  refine run_test (fun h => rfl) (fun t2 => ?_)
  have l2 := of_decide_eq_false l2
  have t2 := of_decide_eq_false t2
  have hs := small_of hb
  have hM := may_of (x := x0) (by simpa using hm)
  obtain ⟨_, c0, c1, d0, d4⟩ := cell_val hM
  have hG := good_of hs hM
  have hcell := in_dec c0 c1
  have t16 : x0.a0 ≤ 16 := hM.c.t2
  refine run_true (decide_eq_true (by rw [wrap_small (by omega) (by omega)]; omega)) (run_true (decide_eq_true (by omega)) ?_)
  obtain ⟨tt, htt⟩ : ∃ t : Int, t = (IntKind.i64.wrap (IntKind.i64.wrap (x0.a12 + (1 : Int)) + (IntKind.i64.wrap x1).tmod (IntKind.i64.wrap (x0.a0 - (1 : Int))))).tmod x0.a0 := ⟨_, rfl⟩
  have g1 : Good ({ x0 with a16 := 2 } : S38) := ⟨hG.d0, hG.d4, hG.c0, hG.c1, hG.lw, hG.lb, hG.ll⟩
  have g2 : Good ({ x0 with a12 := tt, a16 := 2, a20 := x2 } : S38) := ⟨hG.d0, hG.d4, hG.c0, hG.c1, hG.lw, by show x2.length ≤ 1000; omega, hG.ll⟩
  rw [← htt]
  refine run_true (good_iff.2 g1) (run_true (good_iff.2 g2) ?_)
  refine run_test (fun h => rfl) (fun p3 => ?_)
  refine run_test (fun h => rfl) (fun q3 => ?_)
  have p3 : (stepT { x0 with a16 := 2 }).a16 = 3 := by simpa using p3
  have q3 : (stepT { x0 with a12 := tt, a16 := 2, a20 := x2 }).a16 = 3 := by simpa using q3
  have P : cellY { x0 with a16 := 2 } ≠ cellX x0 ∧ stepT { x0 with a16 := 2 } = { x0 with a16 := 3, a30 := cellX x0, a31 := cellY x0 } := by
    cases step_case { x0 with a16 := 2 } with
    | turned h e r => exact absurd h (show ¬ ((2 : Int) = 3) by decide)
    | failed h e r => exact absurd h (show ¬ ((2 : Int) = 3) by decide)
    | none h h2 r => exact absurd rfl h2
    | same h e r => rw [r] at p3; exact absurd p3 (commit_phase _ _)
    | onward h e r => exact absurd h (show ¬ ((2 : Int) = 25) by decide)
    | looked h e r => exact ⟨e, r⟩
  have Q : stepT { x0 with a12 := tt, a16 := 2, a20 := x2 } = { x0 with a12 := tt, a16 := 3, a20 := x2, a30 := cellX x0, a31 := cellY { x0 with a12 := tt, a16 := 2, a20 := x2 } } := by
    cases step_case { x0 with a12 := tt, a16 := 2, a20 := x2 } with
    | turned h e r => exact absurd h (show ¬ ((2 : Int) = 3) by decide)
    | failed h e r => exact absurd h (show ¬ ((2 : Int) = 3) by decide)
    | none h h2 r => exact absurd rfl h2
    | same h e r => rw [r] at q3; exact absurd q3 (commit_phase _ _)
    | onward h e r => exact absurd h (show ¬ ((2 : Int) = 25) by decide)
    | looked h e r => exact r
  obtain ⟨Pn, P⟩ := P
  have Pn : cellY x0 ≠ cellX x0 := Pn
  have g3 : Good ({ x0 with a16 := 3, a30 := cellX x0, a31 := cellY x0 } : S38) := ⟨hG.d0, hG.d4, hG.c0, hG.c1, hG.lw, hG.lb, hG.ll⟩
  have X : (stepT { x0 with a16 := 3, a30 := cellX x0, a31 := cellY x0 }) = commitR (turnedR { x0 with a16 := 3, a30 := cellX x0, a31 := cellY x0 }) (cellX x0) := by
    cases step_case { x0 with a16 := 3, a30 := cellX x0, a31 := cellY x0 } with
    | turned h e r => exact r
    | failed h e r => exact absurd rfl e
    | none h h2 r => exact absurd rfl h
    | same h e r => exact absurd rfl h
    | onward h e r => exact absurd h (show ¬ ((3 : Int) = 25) by decide)
    | looked h e r => exact absurd h (show ¬ ((3 : Int) = 2) by decide)
  obtain ⟨k1, k2, k3, k4, k5⟩ := commit_eqs (turnedR { x0 with a16 := 3, a30 := cellX x0, a31 := cellY x0 }) (cellX x0)
  have X2 : stepT (stepT { x0 with a16 := 2 }) = commitR (turnedR { x0 with a16 := 3, a30 := cellX x0, a31 := cellY x0 }) (cellX x0) := by
    rw [P]
    exact X
  rw [← X2] at k1 k2 k3 k4 k5
  have k1 : (stepT (stepT { x0 with a16 := 2 })).a14 = x0.a14.set (cellT x0).toNat [PV.int .i64 (cellY x0)] := k1
  have k2 : (stepT (stepT { x0 with a16 := 2 })).a15 = x0.a15 := k2
  have k3 : (stepT (stepT { x0 with a16 := 2 })).a35.length = x0.a35.length + x0.a20.length := by
    rw [k3, log_len]
    rfl
  have hlen : ((x0.a14.set (cellT x0).toNat [PV.int .i64 (cellY x0)]).length : Int) = (x0.a14.length : Int) := by simp
  have hat := set_at (v := cellY x0) c0 c1
  have hq2 : ∀ z : S38, z = { stepT { x0 with a12 := tt, a16 := 2, a20 := x2 } with a14 := (stepT (stepT { x0 with a16 := 2 })).a14, a15 := (stepT (stepT { x0 with a16 := 2 })).a15 } → Good z ∧ stepB z = true ∧ (stepT z).a35 = x0.a35 ∧ (stepT z).a16 = 2 ∧ (stepT z).a14 = x0.a14.set (cellT x0).toNat [PV.int .i64 (cellY x0)] := by
    intro z hz
    rw [k1, k2, Q] at hz
    have gz : Good z := by
      subst hz
      exact ⟨hG.d0, hG.d4, hG.c0, by show cellT x0 < (((x0.a14.set (cellT x0).toNat [PV.int .i64 (cellY x0)]).length : Nat) : Int); rw [hlen]; exact hG.c1, by simpa using hG.lw, by show x2.length ≤ 1000; omega, hG.ll⟩
    refine ⟨gz, by subst hz; rfl, ?_⟩
    cases step_case z with
    | turned h e r =>
      exfalso
      subst hz
      have e : wordAt (x0.a14.set (cellT x0).toNat [PV.int .i64 (cellY x0)]) (cellT x0) = cellX x0 := e
      rw [hat] at e
      exact Pn e
    | failed h e r =>
      rw [r]
      subst hz
      exact ⟨rfl, rfl, rfl⟩
    | none h h2 r => subst hz; exact absurd rfl h
    | same h e r => subst hz; exact absurd rfl h
    | onward h e r => subst hz; exact absurd h (show ¬ ((3 : Int) = 25) by decide)
    | looked h e r => subst hz; exact absurd h (show ¬ ((3 : Int) = 2) by decide)
  obtain ⟨m1, m2, m3, m4, m5⟩ := hq2 _ rfl
  refine run_true (by rw [P]; exact good_iff.2 g3) (run_true (good_iff.2 m1) (run_true (decide_eq_true d4) (run_true (by rw [P]; rfl) (run_true m2 (run_true ?_ (run_true ?_ (run_true ?_ (run_true ?_ (run_true ?_ ?_)))))))))
  · rw [k3]
    exact len_sum (by have := hs.l; omega) (by have := hs.b; omega)
  · refine beq_iff_eq.2 ?_
    exact congrArg (fun l : List (List PV) => ((l.length : Nat) : Int)) m3
  · exact beq_iff_eq.2 m4
  · refine beq_iff_eq.2 ?_
    exact (congrArg (fun l : List (List PV) => ((l.length : Nat) : Int)) m5).trans hlen
  · have := congrArg (fun l : List (List PV) => (decide ((0 : Int) ≤ cellT x0) && decide (cellT x0 < ((l.length : Nat) : Int)))) m5
    refine this.trans ?_
    rw [hlen]
    exact hcell
  · refine congrArg (fun b => some (f6o.r0 b)) (beq_iff_eq.2 ?_)
    have := congrArg (fun l : List (List PV) => wordAt l (cellT x0)) m5
    refine this.trans ?_
    rw [hat, P]
end Go.Proofs.YtfkndbihfdjinaaS
