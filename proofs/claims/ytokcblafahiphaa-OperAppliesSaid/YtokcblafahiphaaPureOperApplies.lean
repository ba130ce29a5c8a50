/- The plain statement that is left of OperApplies, over numbers alone, is proved. Conditions: the numbers' own ranges. -/
import Derived.Test.YtokcblafahiphaaOperLaws
namespace Go.Proofs.Ytokcblafahiphaa.Pure
open Go.RowKit Go.Proofs.Ytokcblafahiphaa.PA Go.Proofs.YtokcblafahiphaaW.PrintWords Go.Proofs.YtokcblafahiphaaW.PrintLast
theorem OperApplies : millstreamlaw01_OperApplies.Claim := by
  intro o x lo hi b ho hx hlo hhi
  obtain ⟨ht, hv⟩ := ho
  refine ⟨2, ?_⟩
  unfold millstreamlaw01_OperApplies.f
  rw [oper_Apply_eq 2 (by decide) hv hx hlo hhi, ref_Apply_eq 2 (by decide) hv hx hlo hhi]
  simp only [Option.bind_some, beq_self_eq_true, if_true]
  have hm : oper_May.f o.f0 o.f1 b = millstreamref01_May.f o.f0 o.f1 b := by
    unfold oper_May.f millstreamref01_May.f oper_Known.f
    cases b
    · simp only [Bool.false_eq_true, if_false]
      by_cases h1 : 1 ≤ o.f0
      · rw [if_pos h1, if_pos (by omega : o.f0 ≥ 1)]
        simp only [Option.bind_some]
        by_cases h9 : o.f0 ≤ 9
        · rw [if_pos (by simpa using h9)]; congr 1; apply decide_eq_decide.2; omega
        · rw [if_neg (by simpa using h9)]; congr 1; symm; apply decide_eq_false; omega
      · rw [if_neg h1, if_neg (by omega : ¬ o.f0 ≥ 1)]; rfl
    · simp only [if_true]
      by_cases h8 : o.f0 = 8
      · rw [if_pos h8, if_neg (by omega)]; simp [h8]
      · rw [if_neg h8]
        by_cases h9 : o.f0 = 9
        · rw [if_pos h9, if_pos h9]
        · rw [if_neg h9, if_neg h9]; simp [h8]
  have hk : oper_Known.f o.f0 = millstreamref01_Known.f o.f0 := rfl
  rw [hm, hk]
  have hm2 : ∃ r, millstreamref01_May.f o.f0 o.f1 b = some r := by
    unfold millstreamref01_May.f; repeat' split
    all_goals exact ⟨_, rfl⟩
  have hk2 : ∃ r, millstreamref01_Known.f o.f0 = some r := by
    unfold millstreamref01_Known.f; split <;> exact ⟨_, rfl⟩
  obtain ⟨r, hr⟩ := hm2
  obtain ⟨q, hq⟩ := hk2
  rw [hr, hq]
  simp only [Option.bind_some, beq_self_eq_true, if_true]
  rw [shown_true 2 (by decide)]
  rfl
end Go.Proofs.Ytokcblafahiphaa.Pure
