/- The plain statement that is left of ConfigFirst, over numbers alone, is proved. Conditions: the numbers' own ranges. -/
import Derived.Test.YtalmkdahapemcaaConfig
import Derived.Test.YtalmkdahapemcaaSays
import Derived.Test.YtalmkdahapemcaaPAx1
import Derived.Test.YtalmkdahapemcaaPAx4
import Derived.Test.YtalmkdahapemcaaSaysConfigFirst
namespace Go.Proofs.Ytalmkdahapemcaa.Pure
open Go.RowKit Go.Proofs.Ytalmkdahapemcaa.PA Go.Proofs.YtalmkdahapemcaaW.PrintWords Go.Proofs.YtalmkdahapemcaaW.PrintLast
theorem shown_true : millstreamlaw05_shown.f = some true := by decide +kernel
theorem first_j4 {a b c d e f g h : Int} {i : Bool} {j k l : Int} (m : MayBe a b c d e f g h i j k l) (n : Nat) (t w q : Int) (hq : q = if t < 1 ∨ t > 16 then 50 else if w < 0 ∨ w > 1000 then 57 else 0) :
    millstreamlaw05_ConfigFirst.j4 (n + 1) q t b c d e f g w i j k l t 0 c d e f g w i j k l = some true := by
  obtain ⟨h1, h2, h3, h4, h5, h6, h7, h8, h9⟩ := m
  simp only [millstreamlaw05_ConfigFirst.j4, cfg_f, Option.bind_some]
  have hb : ¬ (i = true ∧ (l < j ∨ k < l)) := by rintro ⟨hi, hh⟩; have := h9 hi; omega
  have he : config_Check.v t b c d e f g w i j k l = q := by
    rw [hq]; unfold config_Check.v
    by_cases ht : t < 1 ∨ t > 16
    · rw [if_pos ht, if_pos ht]
    · rw [if_neg ht, if_neg ht, if_neg (by omega), if_neg (by omega), if_neg (by omega), if_neg (by omega), if_neg (by omega), if_neg (by omega)]
      by_cases hw : w < 0 ∨ w > 1000
      · rw [if_pos hw, if_pos hw]
      · rw [if_neg hw, if_neg hw, if_neg hb]
  rw [he]
  by_cases ht : t < 1 ∨ t > 16
  · have e2 : config_Check.v t 0 c d e f g w i j k l = 50 := by unfold config_Check.v; rw [if_pos ht]
    rw [e2, hq, if_pos ht]; rfl
  · have e2 : config_Check.v t 0 c d e f g w i j k l = 51 := by unfold config_Check.v; rw [if_neg ht, if_pos (by omega)]
    rw [e2]
    have : q ≠ 50 := by rw [hq, if_neg ht]; split <;> decide
    rw [if_neg this, if_pos rfl]; rfl
theorem ConfigFirst : millstreamlaw05_ConfigFirst.Claim := by
  intro c t w hc ht hw
  refine ⟨9, ?_⟩
  unfold millstreamlaw05_ConfigFirst.f
  rw [ref_f]
  simp only [Option.bind_some]
  by_cases h0 : config_Check.v c.f0 c.f1 c.f2 c.f3 c.f4 c.f5 c.f6 c.f7 c.f8 c.f9 c.f10 c.f11 = 0
  · rw [if_pos h0, shown_true]
    simp only [Option.bind_some, Bool.not_true]
    have m := cfg_ok h0
    simp only [millstreamlaw05_ConfigFirst.j0, millstreamlaw05_ConfigFirst.j1, millstreamlaw05_ConfigFirst.j2, millstreamlaw05_ConfigFirst.j3]
    simp only [Bool.false_eq_true, if_false, if_true, decide_eq_true_eq]
    by_cases w0 : w < 0
    · rw [if_pos w0]
      by_cases t0 : t < 1
      · rw [if_pos t0]; exact first_j4 m _ _ _ _ (by rw [if_pos (by omega)])
      · rw [if_neg t0]
        by_cases t1 : t > 16
        · rw [if_pos t1]; exact first_j4 m _ _ _ _ (by rw [if_pos (by omega)])
        · rw [if_neg t1]; exact first_j4 m _ _ _ _ (by rw [if_neg (by omega), if_pos (by omega)])
    · rw [if_neg w0]
      by_cases w1 : w > 1000
      · rw [if_pos w1]
        by_cases t0 : t < 1
        · rw [if_pos t0]; exact first_j4 m _ _ _ _ (by rw [if_pos (by omega)])
        · rw [if_neg t0]
          by_cases t1 : t > 16
          · rw [if_pos t1]; exact first_j4 m _ _ _ _ (by rw [if_pos (by omega)])
          · rw [if_neg t1]; exact first_j4 m _ _ _ _ (by rw [if_neg (by omega), if_pos (by omega)])
      · rw [if_neg w1]
        by_cases t0 : t < 1
        · rw [if_pos t0]; exact first_j4 m _ _ _ _ (by rw [if_pos (by omega)])
        · rw [if_neg t0]
          by_cases t1 : t > 16
          · rw [if_pos t1]; exact first_j4 m _ _ _ _ (by rw [if_pos (by omega)])
          · rw [if_neg t1]; exact first_j4 m _ _ _ _ (by rw [if_neg (by omega), if_neg (by omega)])
  · rw [if_neg h0]
    simp only [millstreamlaw05_ConfigFirst.j0]
    simp [shown_true]
end Go.Proofs.Ytalmkdahapemcaa.Pure
