/- The plain statement that is left of OperRefuses, over numbers alone, is proved. Conditions: the numbers' own ranges. -/
import Derived.Test.YtokcblafahiphaaOperLaws
namespace Go.Proofs.Ytokcblafahiphaa.Pure
open Go.RowKit Go.Proofs.Ytokcblafahiphaa.PA Go.Proofs.YtokcblafahiphaaW.PrintWords Go.Proofs.YtokcblafahiphaaW.PrintLast
theorem refused {tag v x lo hi : Int} (h : (ap tag v x lo hi).2 = false) : (ap tag v x lo hi).1 = x ∧ (tag < 1 ∨ 7 < tag) := by
  unfold ap at *
  by_cases h1 : tag = 1
  · rw [if_pos h1] at h; simp at h
  rw [if_neg h1] at *
  by_cases h2 : tag = 2
  · rw [if_pos h2] at h; simp at h
  rw [if_neg h2] at *
  by_cases h3 : tag = 3
  · rw [if_pos h3] at h; simp at h
  rw [if_neg h3] at *
  by_cases h4 : tag = 4
  · rw [if_pos h4] at h; simp at h
  rw [if_neg h4] at *
  by_cases h5 : tag = 5
  · rw [if_pos h5] at h; simp at h
  rw [if_neg h5] at *
  by_cases h6 : tag = 6
  · rw [if_pos h6] at h; simp at h
  rw [if_neg h6] at *
  by_cases h7 : tag = 7
  · rw [if_pos h7] at h; simp at h
  rw [if_neg h7] at *
  refine ⟨?_, by omega⟩
  by_cases h8 : tag = 8
  · rw [if_pos h8] at *; split at h
    · simp at h
    · rw [if_neg (by assumption)]
  rw [if_neg h8] at *
  by_cases h9 : tag = 9
  · rw [if_pos h9] at *; split at h
    · rw [if_pos (by assumption)]
    · split at h <;> simp at h
  rw [if_neg h9] at *
theorem done {tag v x lo hi : Int} (h : (ap tag v x lo hi).2 = true) : 1 ≤ tag ∧ tag ≤ 9 := by
  by_cases h0 : 1 ≤ tag ∧ tag ≤ 9
  · exact h0
  · unfold ap at h
    rw [if_neg (by omega), if_neg (by omega), if_neg (by omega), if_neg (by omega), if_neg (by omega), if_neg (by omega), if_neg (by omega), if_neg (by omega), if_neg (by omega)] at h
    simp at h
theorem may_f (tag v : Int) : oper_May.f tag v false = some (decide (1 ≤ tag ∧ tag ≤ 7)) := by
  unfold oper_May.f oper_Known.f
  simp only [Bool.false_eq_true, if_false]
  by_cases h1 : 1 ≤ tag
  · rw [if_pos h1]; simp only [Option.bind_some]
    by_cases h9 : tag ≤ 9
    · rw [if_pos (by simpa using h9)]; congr 1; apply decide_eq_decide.2; omega
    · rw [if_neg (by simpa using h9)]; congr 1; symm; apply decide_eq_false; omega
  · rw [if_neg h1]; simp only [Option.bind_some, Bool.false_eq_true, if_false]; congr 1; symm; apply decide_eq_false; omega
theorem OperRefuses : millstreamlaw01_OperRefuses.Claim := by
  intro o x lo hi ho hx hlo hhi
  obtain ⟨ht, hv⟩ := ho
  refine ⟨6, ?_⟩
  unfold millstreamlaw01_OperRefuses.f
  rw [oper_Apply_eq 6 (by decide) hv hx hlo hhi]
  simp only [Option.bind_some]
  have hj : ∀ k, millstreamlaw01_OperRefuses.j0 (k + 1) false o.f0 o.f1 = some true := by
    intro k
    simp only [millstreamlaw01_OperRefuses.j0]
    simp only [Bool.false_eq_true, if_false]
    rw [may_f]
    simp only [Option.bind_some]
    by_cases hm : 1 ≤ o.f0 ∧ o.f0 ≤ 7
    · rw [if_pos (by simpa using hm)]
      unfold oper_May.f
      rw [if_pos rfl, if_neg (by omega)]
      simp only [Option.bind_some]
      congr 1
      simp; omega
    · rw [if_neg (by simpa using hm)]
  have hkn : oper_Known.f o.f0 = some (decide (1 ≤ o.f0 ∧ o.f0 ≤ 9)) := by
    unfold oper_Known.f
    by_cases h1 : 1 ≤ o.f0
    · rw [if_pos h1]; congr 1; apply decide_eq_decide.2; omega
    · rw [if_neg h1]; congr 1; symm; apply decide_eq_false; omega
  rw [hkn, may_f, shown_true 6 (by decide)]
  simp only [Option.bind_some, Bool.not_true]
  have h0 := hj 5
  cases hr : (ap o.f0 o.f1 x lo hi).2 with
  | true =>
    have := done hr
    rw [if_pos rfl, if_pos (by simpa using this)]
    split <;> exact h0
  | false =>
    obtain ⟨h1, h2⟩ := refused hr
    rw [if_neg (by simp), if_pos h1]
    have e : decide (1 ≤ o.f0 ∧ o.f0 ≤ 7) = false := by apply decide_eq_false; omega
    rw [e]
    simp only [Bool.false_eq_true, if_false]
    split <;> exact h0
end Go.Proofs.Ytokcblafahiphaa.Pure
