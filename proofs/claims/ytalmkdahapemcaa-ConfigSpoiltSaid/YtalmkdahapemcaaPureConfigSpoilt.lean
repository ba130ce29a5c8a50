/- The plain statement that is left of ConfigSpoilt, over numbers alone, is proved. Conditions: the numbers' own ranges. -/
import Derived.Test.YtalmkdahapemcaaConfig
import Derived.Test.YtalmkdahapemcaaSays
import Derived.Test.YtalmkdahapemcaaPAx1
import Derived.Test.YtalmkdahapemcaaPAx2
import Derived.Test.YtalmkdahapemcaaSaysConfigSpoilt
namespace Go.Proofs.Ytalmkdahapemcaa.Pure
open Go.RowKit Go.Proofs.Ytalmkdahapemcaa.PA Go.Proofs.YtalmkdahapemcaaW.PrintWords Go.Proofs.YtalmkdahapemcaaW.PrintLast
theorem shown_true : millstreamlaw05_shown.f = some true := by decide +kernel
theorem lows (k : Int) (h0 : 0 ≤ k) (h7 : k ≤ 7) : rd [0, 0, 0, -1, -1, 0, -1, -1] k = if k = 0 then 0 else if k = 1 then 0 else if k = 2 then 0 else if k = 3 then -1 else if k = 4 then -1 else if k = 5 then 0 else -1 := by
  have h : k = 0 ∨ k = 1 ∨ k = 2 ∨ k = 3 ∨ k = 4 ∨ k = 5 ∨ k = 6 ∨ k = 7 := by omega
  rcases h with rfl | rfl | rfl | rfl | rfl | rfl | rfl | rfl <;> decide
theorem highs (k : Int) (h0 : 0 ≤ k) (h7 : k ≤ 7) : rd [17, 5, 4, 5, 4, 9, 21, 1001] k = if k = 0 then 17 else if k = 1 then 5 else if k = 2 then 4 else if k = 3 then 5 else if k = 4 then 4 else if k = 5 then 9 else if k = 6 then 21 else 1001 := by
  have h : k = 0 ∨ k = 1 ∨ k = 2 ∨ k = 3 ∨ k = 4 ∨ k = 5 ∨ k = 6 ∨ k = 7 := by omega
  rcases h with rfl | rfl | rfl | rfl | rfl | rfl | rfl | rfl <;> decide
theorem spoilt {a b c d e f g h : Int} {i : Bool} {j l m : Int} (mb : MayBe a b c d e f g h i j l m) (k v : Int) (n : Nat) (h0 : 0 ≤ k) (h7 : k ≤ 7)
    (hv : (k = 0 → v < 1 ∨ v > 16) ∧ (k = 1 → v < 1 ∨ v > 4) ∧ (k = 2 → v < 1 ∨ v > 3) ∧ (k = 3 → v < 0 ∨ v > 4) ∧ (k = 4 → v < 0 ∨ v > 3) ∧ (k = 5 → v < 1 ∨ v > 8) ∧ (k = 6 → v < 0 ∨ v > 20) ∧ (k = 7 → v < 0 ∨ v > 1000)) :
    millstreamlaw05_ConfigSpoilt.j1 (n + 1) k v a b c d e f g h i j l m = some true := by
  obtain ⟨m1, m2, m3, m4, m5, m6, m7, m8, m9⟩ := mb
  obtain ⟨v0, v1, v2, v3, v4, v5, v6, v7⟩ := hv
  have e : ∀ x y : Int, x = y → some (x == y) = some true := fun x y h => by rw [h]; simp
  simp only [millstreamlaw05_ConfigSpoilt.j1, cfg_f, Option.bind_some]
  have hk : k = 0 ∨ k = 1 ∨ k = 2 ∨ k = 3 ∨ k = 4 ∨ k = 5 ∨ k = 6 ∨ k = 7 := by omega
  rcases hk with rfl | rfl | rfl | rfl | rfl | rfl | rfl | rfl
  · rw [if_pos rfl]; apply e; unfold config_Check.v; rw [if_pos (v0 rfl)]; decide +kernel
  · rw [if_neg (by decide), if_pos rfl]; apply e; unfold config_Check.v; rw [if_neg (by omega), if_pos (v1 rfl)]; decide +kernel
  · rw [if_neg (by decide), if_neg (by decide), if_pos rfl]; apply e; unfold config_Check.v; rw [if_neg (by omega), if_neg (by omega), if_pos (v2 rfl)]; decide +kernel
  · rw [if_neg (by decide), if_neg (by decide), if_neg (by decide), if_pos rfl]; apply e; unfold config_Check.v; rw [if_neg (by omega), if_neg (by omega), if_neg (by omega), if_pos (v3 rfl)]; decide +kernel
  · rw [if_neg (by decide), if_neg (by decide), if_neg (by decide), if_neg (by decide), if_pos rfl]; apply e; unfold config_Check.v; rw [if_neg (by omega), if_neg (by omega), if_neg (by omega), if_neg (by omega), if_pos (v4 rfl)]; decide +kernel
  · rw [if_neg (by decide), if_neg (by decide), if_neg (by decide), if_neg (by decide), if_neg (by decide), if_pos rfl]; apply e; unfold config_Check.v; rw [if_neg (by omega), if_neg (by omega), if_neg (by omega), if_neg (by omega), if_neg (by omega), if_pos (v5 rfl)]; decide +kernel
  · rw [if_neg (by decide), if_neg (by decide), if_neg (by decide), if_neg (by decide), if_neg (by decide), if_neg (by decide), if_pos rfl]; apply e; unfold config_Check.v; rw [if_neg (by omega), if_neg (by omega), if_neg (by omega), if_neg (by omega), if_neg (by omega), if_neg (by omega), if_pos (v6 rfl)]; decide +kernel
  · rw [if_neg (by decide), if_neg (by decide), if_neg (by decide), if_neg (by decide), if_neg (by decide), if_neg (by decide), if_neg (by decide), if_pos rfl]; apply e; unfold config_Check.v; rw [if_neg (by omega), if_neg (by omega), if_neg (by omega), if_neg (by omega), if_neg (by omega), if_neg (by omega), if_neg (by omega), if_pos (v7 rfl)]; decide +kernel
theorem ConfigSpoilt : millstreamlaw05_ConfigSpoilt.Claim := by
  intro c t below hc ht
  refine ⟨5, ?_⟩
  unfold millstreamlaw05_ConfigSpoilt.f
  rw [cfg_f, ref_f]
  simp only [Option.bind_some]
  by_cases h0 : config_Check.v c.f0 c.f1 c.f2 c.f3 c.f4 c.f5 c.f6 c.f7 c.f8 c.f9 c.f10 c.f11 = 0
  · rw [if_pos h0, if_pos h0, shown_true]
    simp only [Option.bind_some, Bool.not_true]
    simp only [millstreamlaw05_ConfigSpoilt.j0]
    simp only [Bool.false_eq_true, if_false, Option.bind_some]
    obtain ⟨k, hk, h1, h2⟩ : ∃ k, Int.tmod (wrap64 t) 8 = k ∧ 0 ≤ k ∧ k ≤ 7 := by
      refine ⟨_, rfl, ?_⟩
      unfold Inu8 at ht
      have e : wrap64 t = t := by unfold wrap64; omega
      rw [e, Int.tmod_eq_emod_of_nonneg (by omega)]
      omega
    rw [hk, if_pos h1, if_pos (show k < (([17, 5, 4, 5, 4, 9, 21, 1001] : List Int).length : Int) by simp; omega), if_pos (show k < (([0, 0, 0, -1, -1, 0, -1, -1] : List Int).length : Int) by simp; omega), lows k h1 h2, highs k h1 h2]
    have mb := cfg_ok h0
    cases below
    · rw [if_neg (by simp)]
      refine spoilt mb k _ 3 h1 h2 ⟨?_, ?_, ?_, ?_, ?_, ?_, ?_, ?_⟩ <;> rintro rfl <;> simp
    · rw [if_pos rfl]
      refine spoilt mb k _ 3 h1 h2 ⟨?_, ?_, ?_, ?_, ?_, ?_, ?_, ?_⟩ <;> rintro rfl <;> simp
  · rw [if_neg h0]
    simp only [millstreamlaw05_ConfigSpoilt.j0]
    rw [if_pos (by simp), shown_true, cfg_f, ref_f]
    simp
end Go.Proofs.Ytalmkdahapemcaa.Pure
