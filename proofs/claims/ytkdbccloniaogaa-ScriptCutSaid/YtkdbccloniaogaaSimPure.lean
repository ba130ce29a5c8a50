/- Small laws for the plain forms. Conditions: none. -/
import Derived.Test.YtkdbccloniaogaaSimArg
import Derived.Test.YtkdbccloniaogaaSimGrow
set_option linter.unusedVariables false
namespace Go.Proofs.YtkdbccloniaogaaS
open Go Go.RowKit

theorem bif_elim {α : Type} {b : Bool} {x y z : α} (h1 : b = true → x = z) (h2 : b = false → y = z) : (bif b then x else y) = z := by
  cases b
  · exact h2 rfl
  · exact h1 rfl
theorem bif_true {α : Type} {b : Bool} {x y z : α} (hb : b = true) (h : x = z) : (bif b then x else y) = z := by
  subst hb
  exact h
theorem bif_false {α : Type} {b : Bool} {x y z : α} (hb : b = false) (h : y = z) : (bif b then x else y) = z := by
  subst hb
  exact h
theorem run_test {α : Type} {b : Bool} {x y : Tr α} {z : Option α} (h1 : b = true → x.run = z) (h2 : b = false → y.run = z) : (Tr.test b x y).run = z := by
  cases b
  · exact h2 rfl
  · exact h1 rfl
theorem run_true {α : Type} {b : Bool} {x y : Tr α} {z : Option α} (hb : b = true) (h1 : x.run = z) : (Tr.test b x y).run = z := by
  subst hb
  exact h1
theorem run_false {α : Type} {b : Bool} {x y : Tr α} {z : Option α} (hb : b = false) (h1 : y.run = z) : (Tr.test b x y).run = z := by
  subst hb
  exact h1
/-- A tree without a failing end. -/
def Tr.whole {α : Type} : Tr α → Bool
  | .ret _ => true
  | .test _ x y => x.whole && y.whole
  | _ => false
theorem Tr.whole_some {α : Type} : ∀ {t : Tr α}, t.whole = true → t.run.isSome = true
  | .ret _, _ => rfl
  | .test b x y, h => by
    simp only [Tr.whole, Bool.and_eq_true] at h
    cases b
    · exact Tr.whole_some (t := y) h.2
    · exact Tr.whole_some (t := x) h.1
theorem test_some {α : Type} {b : Bool} {x y : Tr α} {r : Option α} (h : (Tr.test b x y).run = r) : (b = true ∧ x.run = r) ∨ (b = false ∧ y.run = r) := by
  cases b
  · exact .inr ⟨rfl, h⟩
  · exact .inl ⟨rfl, h⟩
theorem some_getD {α : Type} {o : Option α} (d : α) (h : o.isSome = true) : o = some (o.getD d) := by
  cases o with
  | none => cases h
  | some x => rfl
theorem wf_range {k : IntKind} {n : Int} (h : Wf (.int k n)) : k.min ≤ n ∧ n ≤ k.max := by
  simp only [Wf] at h
  simpa [Lit.wf] using h
theorem wf_i64 {n : Int} (h : Wf (.int .i64 n)) : -9223372036854775808 ≤ n ∧ n ≤ 9223372036854775807 := wf_range h
theorem wf_u64 {n : Int} (h : Wf (.int .u64 n)) : 0 ≤ n ∧ n ≤ 18446744073709551615 := wf_range h
theorem wf_u32 {n : Int} (h : Wf (.int .u32 n)) : 0 ≤ n ∧ n ≤ 4294967295 := wf_range h
theorem wf_u16 {n : Int} (h : Wf (.int .u16 n)) : 0 ≤ n ∧ n ≤ 65535 := wf_range h
theorem wf_u8 {n : Int} (h : Wf (.int .u8 n)) : 0 ≤ n ∧ n ≤ 255 := wf_range h
end Go.Proofs.YtkdbccloniaogaaS
