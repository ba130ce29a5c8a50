/- The plain statement that is left of OperWider, over numbers alone, is proved. Conditions: the numbers' own ranges. -/
import Derived.Test.YtokcblafahiphaaOperLaws
namespace Go.Proofs.Ytokcblafahiphaa.Pure
open Go.RowKit Go.Proofs.Ytokcblafahiphaa.PA Go.Proofs.YtokcblafahiphaaW.PrintWords Go.Proofs.YtokcblafahiphaaW.PrintLast
theorem OperWider : millstreamlaw01_OperWider.Claim := by
  intro v x lo hi more hv hx hlo hhi hm
  refine ⟨6, ?_⟩
  unfold millstreamlaw01_OperWider.f
  have hs : ∀ k, 2 ≤ k → millstreamlaw01_OperWider.j0 (k + 1) v x lo hi more true = some true := by
    intro k hk
    simp only [millstreamlaw01_OperWider.j0]
    rw [if_true, shown_true k hk]
    rfl
  have h0 := hs 5 (by decide)
  by_cases h1 : lo > hi
  · rw [if_pos h1]; exact h0
  rw [if_neg h1]
  by_cases h2 : more < 0
  · rw [if_pos h2]; exact h0
  rw [if_neg h2]
  by_cases h3 : lo < -4611686018427387904
  · rw [if_pos h3]; exact h0
  rw [if_neg h3]
  by_cases h4 : hi > 4611686018427387903
  · rw [if_pos h4]; exact h0
  rw [if_neg h4]
  by_cases h5 : more > 4611686018427387904
  · rw [if_pos h5]; exact h0
  rw [if_neg h5, shown_true 6 (by decide)]
  simp only [Option.bind_some, Bool.not_true]
  simp only [millstreamlaw01_OperWider.j0]
  simp only [Bool.false_eq_true, if_false]
  have e1 : wrap64 (lo - more) = lo - more := by unfold wrap64; omega
  have e2 : wrap64 (hi + more) = hi + more := by unfold wrap64; omega
  have i1 : Ini64 (lo - more) := by unfold Ini64; omega
  have i2 : Ini64 (hi + more) := by unfold Ini64; omega
  rw [e1, e2]
  rw [oper_Apply_eq 5 (by decide) hv hx hlo hhi, ap8]
  simp only [Option.bind_some]
  rw [oper_Apply_eq 5 (by decide) hv hx i1 i2, ap8]
  simp only [Option.bind_some]
  rw [oper_Apply_eq 5 (by decide) hv hx hlo hhi, ap9]
  simp only [Option.bind_some]
  rw [oper_Apply_eq 5 (by decide) hv hx i1 i2, ap9]
  simp only [Option.bind_some]
  have ht : (if (if v < 0 ∨ x < lo then (x, false) else if x - v < lo then (lo, true) else (x - v, true)).2 = true then
      (if (if v < 0 ∨ x < lo - more then (x, false) else if x - v < lo - more then (lo - more, true) else (x - v, true)).2 = true then
        some (decide ((if v < 0 ∨ x < lo - more then (x, false) else if x - v < lo - more then (lo - more, true) else (x - v, true)).1 ≤ (if v < 0 ∨ x < lo then (x, false) else if x - v < lo then (lo, true) else (x - v, true)).1)) else some false) else some true) = some true := by
    by_cases h6 : v < 0 ∨ x < lo
    · rw [if_pos h6]; simp
    · rw [if_neg h6, if_neg (show ¬ (v < 0 ∨ x < lo - more) by omega)]
      by_cases h7 : x - v < lo
      · rw [if_pos h7]
        by_cases h8 : x - v < lo - more
        · rw [if_pos h8]; simp; omega
        · rw [if_neg h8]; simp; omega
      · rw [if_neg h7, if_neg (show ¬ x - v < lo - more by omega)]; simp
  by_cases hb : lo ≤ x + v ∧ x + v ≤ hi
  · rw [if_pos hb, if_pos (show lo - more ≤ x + v ∧ x + v ≤ hi + more by omega)]
    simp only [if_true]
    exact ht
  · rw [if_neg hb]
    simp only [Bool.false_eq_true, if_false]
    exact ht
end Go.Proofs.Ytokcblafahiphaa.Pure
