/- Common to the statements of chapter 6: shown is so, and a config may be or may not. Conditions: none. -/
import Derived.Test.YtdfcioadccijfaaArena
import Derived.Test.YtdfcioadccijfaaRefArena
import Derived.Test.YtdfcioadccijfaaSays
import Derived.Test.YtdfcioadccijfaaPAx2
import Derived.Test.YtdfcioadccijfaaPAx4
set_option linter.unusedVariables false
set_option linter.unusedSimpArgs false
namespace Go.Proofs.Ytdfcioadccijfaa.PA
open Go.RowKit Go.Proofs.YtdfcioadccijfaaW.PrintWords Go.Proofs.YtdfcioadccijfaaW.PrintLast Go.Proofs.YtdfcioadccijfaaW.PrintMore
theorem upto {α : Type} {f : Nat → Option α} (hm : ∀ k, LeO (f k) (f (k + 1))) {k0 : Nat} {r : α} (h : f k0 = some r) : ∀ n, f (n + k0) = some r
  | 0 => by simpa using h
  | n + 1 => by
    have := hm (n + k0) r (upto hm h n)
    rwa [show n + 1 + k0 = n + k0 + 1 by omega]
theorem shown_g : millstreamlaw06_shown.g 8 = some true := by decide +kernel
theorem shown_8 : millstreamlaw06_shown.f 8 = some true := by unfold millstreamlaw06_shown.f; rw [if_pos shown_g]
theorem shown_k (k : Nat) (hk : 8 ≤ k) : millstreamlaw06_shown.f k = some true := by
  obtain ⟨n, rfl⟩ : ∃ n, k = n + 8 := ⟨k - 8, by omega⟩
  exact upto millstreamlaw06_shown.mono shown_8 n
theorem may_f (a b c d e f g h : Int) (i : Bool) (j k l : Int) : millstreamlaw06_may.f a b c d e f g h i j k l = some (millstreamref05_Check.v a b c d e f g h i j k l == 0) := rfl
/-- So from some fuel on. -/
def Lst {α : Type} (f : Nat → Option α) (r : α) : Prop := ∃ K, ∀ k, K ≤ k → f k = some r
theorem Lst.step {α : Type} {f g : Nat → Option α} {r : α} (K0 : Nat) (h : ∀ k, K0 ≤ k → f (k + 1) = g k) (hg : Lst g r) : Lst f r := by
  obtain ⟨K, hK⟩ := hg
  refine ⟨K + K0 + 1, fun k hk => ?_⟩
  obtain ⟨k, rfl⟩ : ∃ n, k = n + 1 := ⟨k - 1, by omega⟩
  rw [h k (by omega)]
  exact hK k (by omega)
theorem Lst.now {α : Type} {f : Nat → Option α} {r : α} (K0 : Nat) (h : ∀ k, K0 ≤ k → f (k + 1) = some r) : Lst f r := by
  refine ⟨K0 + 1, fun k hk => ?_⟩
  obtain ⟨k, rfl⟩ : ∃ n, k = n + 1 := ⟨k - 1, by omega⟩
  exact h k (by omega)
theorem Lst.get {α : Type} {f : Nat → Option α} {r : α} (h : Lst f r) : ∃ k, f k = some r := by
  obtain ⟨K, h⟩ := h
  exact ⟨K, h K (Nat.le_refl _)⟩
end Go.Proofs.Ytdfcioadccijfaa.PA
