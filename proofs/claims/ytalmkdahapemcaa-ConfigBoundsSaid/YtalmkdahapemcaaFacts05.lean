/- What a config's check answers, the document's too. Conditions: none. -/
import Derived.Test.YtalmkdahapemcaaF4
import Derived.Test.YtalmkdahapemcaaSimPure
set_option linter.unusedVariables false
set_option linter.unusedSimpArgs false
set_option maxRecDepth 10000
namespace Go.Proofs.YtalmkdahapemcaaS
open Go Go.Proofs Go.RowKit
/-- A config that may be. -/
structure MayBe (a b c d e f g h : Int) (i : Bool) (j k l : Int) : Prop where
  t : 1 ≤ a ∧ a ≤ 16
  it : 1 ≤ b ∧ b ≤ 4
  ba : 1 ≤ c ∧ c ≤ 3
  de : 0 ≤ d ∧ d ≤ 4
  la : 0 ≤ e ∧ e ≤ 3
  wi : 1 ≤ f ∧ f ≤ 8
  sp : 0 ≤ g ∧ g ≤ 20
  wa : 0 ≤ h ∧ h ≤ 1000
  bo : i = true → j ≤ l ∧ l ≤ k
theorem cfg_ok {a b c d e f g h : Int} {i : Bool} {j k l : Int} (hc : config_Check.v a b c d e f g h i j k l = 0) : MayBe a b c d e f g h i j k l := by
  unfold config_Check.v at hc
  split at hc
  · cases hc
  split at hc
  · cases hc
  split at hc
  · cases hc
  split at hc
  · cases hc
  split at hc
  · cases hc
  split at hc
  · cases hc
  split at hc
  · cases hc
  split at hc
  · cases hc
  split at hc
  · cases hc
  · rename_i h1 h2 h3 h4 h5 h6 h7 h8 h9
    refine ⟨by omega, by omega, by omega, by omega, by omega, by omega, by omega, by omega, ?_⟩
    intro hi
    have : ¬ (l < j ∨ k < l) := fun hh => h9 ⟨hi, hh⟩
    omega
theorem cfg_of {a b c d e f g h : Int} {i : Bool} {j k l : Int} (m : MayBe a b c d e f g h i j k l) : config_Check.v a b c d e f g h i j k l = 0 := by
  obtain ⟨h1, h2, h3, h4, h5, h6, h7, h8, h9⟩ := m
  unfold config_Check.v
  rw [if_neg (by omega), if_neg (by omega), if_neg (by omega), if_neg (by omega), if_neg (by omega), if_neg (by omega), if_neg (by omega), if_neg (by omega), if_neg]
  rintro ⟨hi, hh⟩
  have := h9 hi
  omega
theorem cfg_58 {a b c d e f g h : Int} {i : Bool} {j k l j' k' l' : Int} (m : MayBe a b c d e f g h i j k l) (hb : l' < j' ∨ k' < l') : config_Check.v a b c d e f g h true j' k' l' = 58 := by
  obtain ⟨h1, h2, h3, h4, h5, h6, h7, h8, h9⟩ := m
  unfold config_Check.v
  rw [if_neg (by omega), if_neg (by omega), if_neg (by omega), if_neg (by omega), if_neg (by omega), if_neg (by omega), if_neg (by omega), if_neg (by omega), if_pos ⟨rfl, hb⟩]
theorem cfg_free {a b c d e f g h : Int} {i : Bool} {j k l j' k' l' : Int} {i' : Bool} (m : MayBe a b c d e f g h i j k l) (hb : i' = true → j' ≤ l' ∧ l' ≤ k') : config_Check.v a b c d e f g h i' j' k' l' = 0 :=
  cfg_of ⟨m.t, m.it, m.ba, m.de, m.la, m.wi, m.sp, m.wa, hb⟩
theorem f9_val (x : S24) : f9 0 x = some ⟨config_Check.v x.a0 x.a1 x.a2 x.a3 x.a4 x.a5 x.a6 x.a7 x.a8 x.a9 x.a10 x.a11⟩ := by
  unfold f9 f9t0 config_Check.v
  refine run_test (fun h => ?_) (fun h => ?_)
  · have := of_decide_eq_true h
    rw [if_pos (.inl this)]; rfl
  have k0 := of_decide_eq_false h
  clear h
  refine run_test (fun h => ?_) (fun h => ?_)
  · have := of_decide_eq_true h
    rw [if_pos (.inr this)]; rfl
  have l0 := of_decide_eq_false h
  clear h
  rw [if_neg (by omega)]
  refine run_test (fun h => ?_) (fun h => ?_)
  · have := of_decide_eq_true h
    rw [if_pos (.inl this)]; rfl
  have k1 := of_decide_eq_false h
  clear h
  refine run_test (fun h => ?_) (fun h => ?_)
  · have := of_decide_eq_true h
    rw [if_pos (.inr this)]; rfl
  have l1 := of_decide_eq_false h
  clear h
  rw [if_neg (by omega)]
  refine run_test (fun h => ?_) (fun h => ?_)
  · have := of_decide_eq_true h
    rw [if_pos (.inl this)]; rfl
  have k2 := of_decide_eq_false h
  clear h
  refine run_test (fun h => ?_) (fun h => ?_)
  · have := of_decide_eq_true h
    rw [if_pos (.inr this)]; rfl
  have l2 := of_decide_eq_false h
  clear h
  rw [if_neg (by omega)]
  refine run_test (fun h => ?_) (fun h => ?_)
  · have := of_decide_eq_true h
    rw [if_pos (.inl this)]; rfl
  have k3 := of_decide_eq_false h
  clear h
  refine run_test (fun h => ?_) (fun h => ?_)
  · have := of_decide_eq_true h
    rw [if_pos (.inr this)]; rfl
  have l3 := of_decide_eq_false h
  clear h
  rw [if_neg (by omega)]
  refine run_test (fun h => ?_) (fun h => ?_)
  · have := of_decide_eq_true h
    rw [if_pos (.inl this)]; rfl
  have k4 := of_decide_eq_false h
  clear h
  refine run_test (fun h => ?_) (fun h => ?_)
  · have := of_decide_eq_true h
    rw [if_pos (.inr this)]; rfl
  have l4 := of_decide_eq_false h
  clear h
  rw [if_neg (by omega)]
  refine run_test (fun h => ?_) (fun h => ?_)
  · have := of_decide_eq_true h
    rw [if_pos (.inl this)]; rfl
  have k5 := of_decide_eq_false h
  clear h
  refine run_test (fun h => ?_) (fun h => ?_)
  · have := of_decide_eq_true h
    rw [if_pos (.inr this)]; rfl
  have l5 := of_decide_eq_false h
  clear h
  rw [if_neg (by omega)]
  refine run_test (fun h => ?_) (fun h => ?_)
  · have := of_decide_eq_true h
    rw [if_pos (.inl this)]; rfl
  have k6 := of_decide_eq_false h
  clear h
  refine run_test (fun h => ?_) (fun h => ?_)
  · have := of_decide_eq_true h
    rw [if_pos (.inr this)]; rfl
  have l6 := of_decide_eq_false h
  clear h
  rw [if_neg (by omega)]
  refine run_test (fun h => ?_) (fun h => ?_)
  · have := of_decide_eq_true h
    rw [if_pos (.inl this)]; rfl
  have k7 := of_decide_eq_false h
  clear h
  refine run_test (fun h => ?_) (fun h => ?_)
  · have := of_decide_eq_true h
    rw [if_pos (.inr this)]; rfl
  have l7 := of_decide_eq_false h
  clear h
  rw [if_neg (by omega)]
  refine run_test (fun h => ?_) (fun h => ?_)
  · refine run_test (fun g => ?_) (fun g => ?_)
    · have := of_decide_eq_true g
      rw [if_pos ⟨h, .inl (by omega)⟩]; rfl
    · have g' := of_decide_eq_false g
      refine run_test (fun g2 => ?_) (fun g2 => ?_)
      · have := of_decide_eq_true g2
        rw [if_pos ⟨h, .inr (by omega)⟩]; rfl
      · have := of_decide_eq_false g2
        rw [if_neg (by rintro ⟨_, q⟩; omega)]; rfl
  · rw [if_neg (by rw [h]; rintro ⟨q, _⟩; cases q)]; rfl
end Go.Proofs.YtalmkdahapemcaaS
