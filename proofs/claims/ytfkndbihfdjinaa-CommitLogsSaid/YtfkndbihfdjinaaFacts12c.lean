/- What a step comes to, case by case. Conditions: none. -/
import Derived.Test.YtfkndbihfdjinaaFacts12b
set_option linter.unusedVariables false
set_option linter.unusedSimpArgs false
set_option maxRecDepth 10000
namespace Go.Proofs.YtfkndbihfdjinaaS
open Go Go.Proofs
inductive Case (x : S38) : Prop where
  | turned (h : x.a16 = 3) (e : cellX x = x.a30) (r : stepT x = commitR (turnedR x) x.a30)
  | failed (h : x.a16 = 3) (e : cellX x ≠ x.a30) (r : stepT x = { x with a28 := widerR x.a28 x.a5, a16 := 2 })
  | none (h : x.a16 ≠ 3) (h2 : x.a16 ≠ 2) (r : stepT x = x)
  | same (h : x.a16 ≠ 3) (e : cellY x = cellX x) (r : stepT x = commitR x (cellX x))
  | onward (h : x.a16 = 25) (e : cellY x ≠ cellX x) (r : stepT x = onwardR x)
  | looked (h : x.a16 = 2) (e : cellY x ≠ cellX x) (r : stepT x = { x with a16 := 3, a30 := cellX x, a31 := cellY x })
theorem step_case (x : S38) : Case x := by
  by_cases h3 : x.a16 = 3
  · have q3 : (x.a16 == 3) = true := by simpa using h3
    by_cases e : cellX x = x.a30
    · refine .turned h3 e ?_
      unfold stepT comparedR
      rw [q3, show (cellX x == x.a30) = true from by simpa using e]
      rfl
    · refine .failed h3 e ?_
      unfold stepT comparedR
      rw [q3, show (cellX x == x.a30) = false from by simpa using e]
      rfl
  · have q3 : (x.a16 == 3) = false := by simpa using h3
    by_cases h2 : x.a16 = 2
    · have q2 : ((x.a16 != 2) && (x.a16 != 25)) = false := by simp [h2]
      by_cases e : cellY x = cellX x
      · refine .same h3 e ?_
        unfold stepT
        rw [q3, q2, show (cellY x == cellX x) = true from by simpa using e]
        rfl
      · refine .looked h2 e ?_
        unfold stepT
        rw [q3, q2, show (cellY x == cellX x) = false from by simpa using e, show (x.a16 == 25) = false from by simp [h2]]
        rfl
    · by_cases h25 : x.a16 = 25
      · have q2 : ((x.a16 != 2) && (x.a16 != 25)) = false := by simp [h25]
        by_cases e : cellY x = cellX x
        · refine .same h3 e ?_
          unfold stepT
          rw [q3, q2, show (cellY x == cellX x) = true from by simpa using e]
          rfl
        · refine .onward h25 e ?_
          unfold stepT
          rw [q3, q2, show (cellY x == cellX x) = false from by simpa using e, show (x.a16 == 25) = true from by simp [h25]]
          rfl
      · have q2 : ((x.a16 != 2) && (x.a16 != 25)) = true := by simp [h2, h25]
        refine .none h3 h2 ?_
        unfold stepT
        rw [q3, q2]
        rfl
theorem commit_phase (x : S38) (v : Int) : (commitR x v).a16 ≠ 3 := by
  unfold commitR settleR
  cases (decide ((0 : Int) ≤ 0) && decide ((0 : Int) < (x.a21.length : Int))) <;> dsimp <;> decide
theorem onward_eqs (x : S38) : (onwardR x).a14 = x.a14 ∧ (onwardR x).a15 = x.a15 ∧ (onwardR x).a35 = x.a35 := by
  unfold onwardR
  cases (decide (x.a26 < x.a4) && !lateR x) <;> exact ⟨rfl, rfl, rfl⟩
theorem wider_ok {n m : Int} (h0 : 1 ≤ n) (h1 : n ≤ m) (h2 : m ≤ 8) : n ≤ widerR n m ∧ widerR n m ≤ m := by
  unfold widerR
  rw [wrap_small (n := n * 2) (by omega) (by omega)]
  by_cases h : n < m
  · rw [decide_eq_true h, cond_true]
    split <;> omega
  · rw [decide_eq_false h, cond_false]
    split <;> omega
theorem len_sum {a b : Nat} (ha : a ≤ 1000) (hb : b ≤ 1000) : (((a + b : Nat) : Int) == IntKind.i64.wrap ((a : Int) + (b : Int))) = true := by
  rw [wrap_small (by omega) (by omega)]
  simp
theorem ne_refl (x : Int) : (x != x) = false := by simp
theorem eq_refl' (x : Int) : (x == x) = true := by simp
end Go.Proofs.YtfkndbihfdjinaaS
