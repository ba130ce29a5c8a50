/- The plain statement that is left of ConfigLonger, over numbers alone, is proved. Conditions: the numbers' own ranges. -/
import Derived.Test.YtalmkdahapemcaaConfig
import Derived.Test.YtalmkdahapemcaaSays
import Derived.Test.YtalmkdahapemcaaPAx1
import Derived.Test.YtalmkdahapemcaaPAx5
import Derived.Test.YtalmkdahapemcaaSaysConfigLonger
namespace Go.Proofs.Ytalmkdahapemcaa.Pure
open Go.RowKit Go.Proofs.Ytalmkdahapemcaa.PA Go.Proofs.YtalmkdahapemcaaW.PrintWords Go.Proofs.YtalmkdahapemcaaW.PrintLast
theorem shown_true : millstreamlaw05_shown.f = some true := by decide +kernel
theorem steps_v {a b c d e f g h : Int} {i : Bool} {j k l : Int} (m : MayBe a b c d e f g h i j k l) : config_Steps.f a b c d e f g h i j k l = some (20 + 8 * d + e * (20 + 2 * g)) := by
  obtain ⟨h1, h2, h3, h4, h5, h6, h7, h8, h9⟩ := m
  unfold config_Steps.f
  have e1 : wrap64 (2 * g) = 2 * g := by unfold wrap64; omega
  have e2 : wrap64 (20 + 2 * g) = 20 + 2 * g := by unfold wrap64; omega
  have e3 : wrap64 (8 * d) = 8 * d := by unfold wrap64; omega
  have e4 : wrap64 (20 + 8 * d) = 20 + 8 * d := by unfold wrap64; omega
  have he : e = 0 ∨ e = 1 ∨ e = 2 ∨ e = 3 := by omega
  rw [e1, e2, e3, e4]
  congr 1
  rcases he with rfl | rfl | rfl | rfl <;> (unfold wrap64; omega)
theorem ConfigLonger : millstreamlaw05_ConfigLonger.Claim := by
  intro c d hc hd
  refine ⟨5, ?_⟩
  unfold millstreamlaw05_ConfigLonger.f
  simp only [cfg_f, ref_f, Option.bind_some]
  have hs : millstreamlaw05_ConfigLonger.j0 5 true c.f0 c.f1 c.f2 c.f3 c.f4 c.f5 c.f6 c.f7 c.f8 c.f9 c.f10 c.f11 d.f0 d.f1 d.f2 d.f3 d.f4 d.f5 d.f6 d.f7 d.f8 d.f9 d.f10 d.f11 = some true := by
    simp only [millstreamlaw05_ConfigLonger.j0]
    rw [if_pos (by simp), shown_true, cfg_f, ref_f]
    simp
  by_cases h0 : config_Check.v c.f0 c.f1 c.f2 c.f3 c.f4 c.f5 c.f6 c.f7 c.f8 c.f9 c.f10 c.f11 = 0
  · rw [if_pos h0]
    by_cases h1 : config_Check.v d.f0 d.f1 d.f2 d.f3 d.f4 d.f5 d.f6 d.f7 d.f8 d.f9 d.f10 d.f11 = 0
    · rw [if_pos h1, if_pos h0, if_pos h1, shown_true]
      simp only [Option.bind_some, Bool.not_true]
      simp only [millstreamlaw05_ConfigLonger.j0]
      have m := cfg_ok h0
      have m' := cfg_ok h1
      simp only [Bool.false_eq_true, if_false]
      rw [steps_v m, steps_v m']
      simp only [Option.bind_some]
      obtain ⟨_, _, _, d1, l1, _, s1, _, _⟩ := m
      obtain ⟨_, _, _, d2, l2, _, s2, _, _⟩ := m'
      have p1 : 0 ≤ c.f4 * (20 + 2 * c.f6) := Int.mul_nonneg (by omega) (by omega)
      rw [if_pos (by omega)]
      by_cases q1 : c.f3 > d.f3
      · rw [if_pos q1]
      rw [if_neg q1]
      by_cases q2 : c.f4 > d.f4
      · rw [if_pos q2]
      rw [if_neg q2]
      by_cases q3 : c.f6 > d.f6
      · rw [if_pos q3]
      rw [if_neg q3]
      have p2 : c.f4 * (20 + 2 * c.f6) ≤ d.f4 * (20 + 2 * d.f6) := Int.mul_le_mul (by omega) (by omega) (by omega) (by omega)
      congr 1
      rw [decide_eq_true_eq]
      omega
    · rw [if_neg h1]; exact hs
  · rw [if_neg h0]; exact hs
end Go.Proofs.Ytalmkdahapemcaa.Pure
