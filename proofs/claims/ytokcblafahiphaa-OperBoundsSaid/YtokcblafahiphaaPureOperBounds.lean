/- The plain statement that is left of OperBounds, over numbers alone, is proved. Conditions: the numbers' own ranges. -/
import Derived.Test.YtokcblafahiphaaOperLaws
namespace Go.Proofs.Ytokcblafahiphaa.Pure
open Go.RowKit Go.Proofs.Ytokcblafahiphaa.PA Go.Proofs.YtokcblafahiphaaW.PrintWords Go.Proofs.YtokcblafahiphaaW.PrintLast
theorem bounds_j1 {v x lo hi tag : Int} {take : Bool} (k : Nat) (hv : Ini64 v) (hx : Ini64 x) (hlo : Ini64 lo) (hhi : Ini64 hi) (h1 : lo ≤ x) (h2 : x ≤ hi) (ht : tag = if take = true then 9 else 8) :
    millstreamlaw01_OperBounds.j1 (k + 4) v x lo hi take tag v = some true := by
  simp only [millstreamlaw01_OperBounds.j1]
  rw [oper_Apply_eq (k + 3) (by omega) hv hx hlo hhi]
  simp only [Option.bind_some]
  have i := ap_in (tag := tag) hv hx hlo hhi
  unfold Ini64 at *
  cases take
  · simp only [Bool.false_eq_true, if_false] at ht
    subst ht
    rw [ap8] at *
    by_cases hb : lo ≤ x + v ∧ x + v ≤ hi
    · rw [if_pos hb] at *
      simp only [] at *
      rw [if_neg (by omega), if_neg (by omega), if_true]
      simp only [millstreamlaw01_OperBounds.j2]
      simp only [Bool.false_eq_true, if_false, if_true]
      rw [if_pos (by unfold wrap64; omega)]
      have e : decide (v ≥ 0) = decide (x + v ≥ x) := by apply decide_eq_decide.2; omega
      rw [e]; simp
    · rw [if_neg hb] at *
      simp only [] at *
      rw [if_neg (by omega), if_neg (by omega)]
      simp only [millstreamlaw01_OperBounds.j2]
      simp
  · simp only [if_true] at ht
    subst ht
    rw [ap9] at *
    by_cases h0 : v < 0 ∨ x < lo
    · rw [if_pos h0] at *
      simp only [] at *
      rw [if_neg (by omega), if_neg (by omega)]
      simp only [millstreamlaw01_OperBounds.j2]
      have e : decide (v ≥ 0) = false := by apply decide_eq_false; omega
      simp [e]
    · rw [if_neg h0] at *
      by_cases hg : x - v < lo
      · rw [if_pos hg] at *
        simp only [] at *
        rw [if_neg (by omega), if_neg (by omega), if_true]
        simp only [millstreamlaw01_OperBounds.j2]
        have e : decide (v ≥ 0) = true := by apply decide_eq_true; omega
        rw [e]
        simp only [Bool.false_eq_true, if_false, if_true, beq_self_eq_true, u64w]
        rw [if_pos h1, if_pos (by omega)]
      · rw [if_neg hg] at *
        simp only [] at *
        rw [if_neg (by omega), if_neg (by omega), if_true]
        simp only [millstreamlaw01_OperBounds.j2]
        have e : decide (v ≥ 0) = true := by apply decide_eq_true; omega
        rw [e]
        simp only [Bool.false_eq_true, if_false, if_true, beq_self_eq_true, u64w]
        rw [if_pos (by omega), if_pos (by omega)]
        split
        · rfl
        · congr 1
          rw [beq_iff_eq]
          omega
theorem OperBounds : millstreamlaw01_OperBounds.Claim := by
  intro v x lo hi take hv hx hlo hhi
  refine ⟨6, ?_⟩
  unfold millstreamlaw01_OperBounds.f
  have hs : ∀ k, 2 ≤ k → ∀ b, millstreamlaw01_OperBounds.j0 (k + 1) v x lo hi b true = some true := by
    intro k hk b
    simp only [millstreamlaw01_OperBounds.j0]
    rw [if_true, shown_true k hk]
    rfl
  by_cases h1 : x < lo
  · rw [if_pos h1]; exact hs 5 (by decide) _
  rw [if_neg h1]
  by_cases h2 : x > hi
  · rw [if_pos h2]; exact hs 5 (by decide) _
  rw [if_neg h2, shown_true 6 (by decide)]
  simp only [Option.bind_some, Bool.not_true]
  simp only [millstreamlaw01_OperBounds.j0]
  simp only [Bool.false_eq_true, if_false]
  cases take
  · simp only [Bool.false_eq_true, if_false]; exact bounds_j1 1 hv hx hlo hhi (by omega) (by omega) rfl
  · rw [if_pos rfl]; exact bounds_j1 1 hv hx hlo hhi (by omega) (by omega) rfl
end Go.Proofs.Ytokcblafahiphaa.Pure
