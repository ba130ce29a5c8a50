/- What one op does within bounds. Conditions: the cell is within. -/
import Derived.Test.YtahflgbdcnipnaaFacts02b
set_option linter.unusedVariables false
set_option linter.unusedSimpArgs false
set_option maxRecDepth 10000
namespace Go.Proofs.YtahflgbdcnipnaaS
open Go Go.Proofs
set_option maxHeartbeats 2000000 in
theorem f26_within {tag v x lo hi : Int} (ht : tag = 8 ∨ tag = 9) (h1 : lo ≤ x) (h2 : x ≤ hi) (o : f26o) (h : f26 0 ⟨tag, v⟩ x lo hi = some o) : lo ≤ o.y1 ∧ o.y1 ≤ hi := by
  unfold f26 f26t0 at h
  generalize IntKind.i64.wrap (x + v) = s at h
  generalize IntKind.i64.wrap (x - v) = y at h
  rcases ht with rfl | rfl
  all_goals
    simp [Tr.run, cond_eq_ite] at h
    repeat' split at h
    all_goals (injection h with h; subst h; constructor <;> simp_all <;> omega)
end Go.Proofs.YtahflgbdcnipnaaS
