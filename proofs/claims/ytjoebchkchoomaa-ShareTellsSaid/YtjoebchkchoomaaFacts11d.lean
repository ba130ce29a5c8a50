/- What a step does to the words. Conditions: none. -/
import Derived.Test.YtjoebchkchoomaaFacts11c
set_option linter.unusedVariables false
set_option linter.unusedSimpArgs false
set_option maxRecDepth 10000
namespace Go.Proofs.YtjoebchkchoomaaS
open Go Go.Proofs
def Words (x y : S38) : Prop := y.a14 = x.a14 ∨ (x.a16 = 15 ∧ hasKid x = true ∧ inB x.a14 (resT x (kidT x)) = true ∧ ∃ v : Int, y.a14 = x.a14.set (resT x (kidT x)).toNat [PV.int .i64 v]) ∨ (x.a16 = 16 ∧ hasKid x = true ∧ inB x.a14 (lineT x (kidT x)) = true ∧ ∃ v : Int, y.a14 = x.a14.set (lineT x (kidT x)).toNat [PV.int .i64 v])
theorem step_words (x : S38) : Words x (stepT x) := by
  have refl : Words x x := .inl rfl
  unfold stepT
  cases h13 : (x.a16 == 13)
  · cases h14 : (x.a16 == 14)
    · cases h15 : (x.a16 == 15)
      · cases h16 : (x.a16 == 16)
        · exact refl
        · simp only [cond_true, cond_false]
          unfold tellR
          cases hk : hasKid x
          · exact refl
          · cases hi : inB x.a14 (lineT x (kidT x))
            · exact refl
            · simp only [cond_true]
              refine .inr (.inr ⟨by simpa using h16, hk, hi, 5, ?_⟩)
              rw [(settle_eqs _).1]
      · simp only [cond_true, cond_false]
        unfold shareR
        cases hk : hasKid x
        · exact refl
        · cases hi : inB x.a14 (resT x (kidT x))
          · exact refl
          · exact .inr (.inl ⟨by simpa using h15, hk, hi, _, rfl⟩)
    · simp only [cond_true, cond_false]
      unfold fetchR
      cases hi : inB x.a14 (resT x x.a12)
      · exact refl
      · refine .inl ?_
        simp only [cond_true]
        rw [(settle_eqs _).1]
  · simp only [cond_true, cond_false]
    unfold waitR
    cases hi : inB x.a14 (lineT x x.a12)
    · exact refl
    · cases (wordAt x.a14 (lineT x x.a12) == 5)
      · exact refl
      · exact .inl rfl
end Go.Proofs.YtjoebchkchoomaaS
