/- What a config's check answers: the program's and the reference's are one function. Conditions: none. -/
import Derived.Test.YtdfcioadccijfaaSays
import Derived.Test.YtdfcioadccijfaaPAx2
set_option linter.unusedVariables false
set_option linter.unusedSimpArgs false
namespace Go.Proofs.Ytdfcioadccijfaa.PA
open Go.RowKit Go.Proofs.YtdfcioadccijfaaW.PrintWords Go.Proofs.YtdfcioadccijfaaW.PrintLast
theorem ref_f (a b c d e f g h : Int) (i : Bool) (j k l : Int) : millstreamref05_Check.f a b c d e f g h i j k l = some (millstreamref05_Check.v a b c d e f g h i j k l) := rfl
/-- A config that may be. -/
structure MayBe (a b c d e f g h : Int) (i : Bool) (j k l : Int) : Prop where
  t : 1 ≤ a ∧ a ≤ 16
  it : 1 ≤ b ∧ b ≤ 4
  ba : 1 ≤ c ∧ c ≤ 3
  de : 0 ≤ d ∧ d ≤ 4
  la : 0 ≤ e ∧ e ≤ 3
  wi : 1 ≤ f ∧ f ≤ 8
  sp : 0 ≤ g ∧ g ≤ 20
  wa : 0 ≤ h ∧ h ≤ 1000
  bo : i = true → j ≤ l ∧ l ≤ k
theorem cfg_ok {a b c d e f g h : Int} {i : Bool} {j k l : Int} (hc : millstreamref05_Check.v a b c d e f g h i j k l = 0) : MayBe a b c d e f g h i j k l := by
  unfold millstreamref05_Check.v at hc
  split at hc
  · cases hc
  split at hc
  · cases hc
  split at hc
  · cases hc
  split at hc
  · cases hc
  split at hc
  · cases hc
  split at hc
  · cases hc
  split at hc
  · cases hc
  split at hc
  · cases hc
  split at hc
  · cases hc
  · rename_i h1 h2 h3 h4 h5 h6 h7 h8 h9
    refine ⟨by omega, by omega, by omega, by omega, by omega, by omega, by omega, by omega, ?_⟩
    intro hi
    have : ¬ (l < j ∨ k < l) := fun hh => h9 ⟨hi, hh⟩
    omega
theorem cfg_of {a b c d e f g h : Int} {i : Bool} {j k l : Int} (m : MayBe a b c d e f g h i j k l) : millstreamref05_Check.v a b c d e f g h i j k l = 0 := by
  obtain ⟨h1, h2, h3, h4, h5, h6, h7, h8, h9⟩ := m
  unfold millstreamref05_Check.v
  rw [if_neg (by omega), if_neg (by omega), if_neg (by omega), if_neg (by omega), if_neg (by omega), if_neg (by omega), if_neg (by omega), if_neg (by omega), if_neg]
  rintro ⟨hi, hh⟩
  have := h9 hi
  omega
end Go.Proofs.Ytdfcioadccijfaa.PA
