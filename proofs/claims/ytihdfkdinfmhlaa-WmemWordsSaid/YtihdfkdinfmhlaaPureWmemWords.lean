/- The pure statement that is left of WmemWords. Conditions: the numbers' own ranges. -/
import Derived.Test.YtihdfkdinfmhlaaF4x3
import Derived.Test.YtihdfkdinfmhlaaFacts03
import Derived.Test.YtihdfkdinfmhlaaSimPure
set_option linter.unusedVariables false
set_option linter.unusedSimpArgs false
set_option maxRecDepth 10000
namespace Go.Proofs.YtihdfkdinfmhlaaS
open Go Go.Proofs
theorem pureWmemWords (x0 : S25) (x1 : Int) (x2 : Int) (x3 : Int) (h0 : Wf (S25v x0)) (h1 : Wf (PV.int .i64 x1)) (h2 : Wf (PV.int .i64 x2)) (h3 : Wf (PV.int .i64 x3)) (hm : Meant Try.prog [S25v x0, PV.int .i64 x1, PV.int .i64 x2, PV.int .i64 x3]) : ∃ N, f3 N x0 x1 x2 x3 = some ⟨true⟩ := by
  refine ⟨0, ?_⟩
  cases hl : long x0 with
  | true =>
    show (bif long x0 then _ else _) = _
    rw [hl]; rfl
  | false =>
  obtain ⟨g1, g2, g3⟩ := long_no hl
  have hs := short_of hl
  have hM : ∀ w, (memOk ⟨w, x0.a1⟩ && decide (x0.a1.length ≤ most)) = true := fun w => mem_ok w x0.a1 hs
  have hM0 : (memOk x0 && decide (x0.a1.length ≤ most)) = true := mem_ok x0.a0 x0.a1 hs
  have hP0 : pre20 ⟨x0.a0, x0.a1.map box81⟩ = true := pre_ok _ _ (by omega) hs
  have hP1 : ∀ (k : Nat) v, pre20 ⟨x0.a0.set k v, x0.a1.map box81⟩ = true := fun k v => pre_ok _ _ (by simp; omega) hs
  by_cases hin : 0 ≤ x1 ∧ x1 < (x0.a0.length : Int)
  · obtain ⟨k0, k1⟩ := hin
    have e12 := f12_in x0 x1 k0 k1
    have e13 := f13_in ⟨x0.a0, x0.a1.map box81⟩ x1 k0 k1
    have e14 := f14_in x0 x1 x3 k0 k1 (by omega)
    have e15 := f15_in ⟨x0.a0, x0.a1.map box81⟩ x1 x3 k0 k1 (show x0.a0.length ≤ 1000 by omega)
    have e16 := f16_in x0 x1 x3 k0 k1 (by omega)
    have e17 := f17_in ⟨x0.a0, x0.a1.map box81⟩ x1 x3 k0 k1 (show x0.a0.length ≤ 1000 by omega)
    by_cases eo : word x0.a0 x1 = x2
    · have e18 := f18_eq x0 x1 x2 x3 k0 k1 (by omega) eo
      have e19 := f19_eq ⟨x0.a0, x0.a1.map box81⟩ x1 x2 x3 k0 k1 (show x0.a0.length ≤ 1000 by omega) eo
      simp only [f3, f3c0, f3c1, f3c10, f3c11, f3c12, f3c13, f3c14, f3c15, f3c16, f3c17, f3c18, f3c19, f3c2, f3c20, f3c21, f3c22, f3c23, f3c24, f3c25, f3c26, f3c27, f3c3, f3c4, f3c5, f3c6, f3c7, f3c8, f3c9, hl, e12, e13, e14, e15, e16, e17, e18, e19, hM, hM0, hP0, hP1, same20_refl, Option.isSome_some, Option.getD_some, beq_self_eq_true, cond_true, cond_false, Tr.run]
    · have e18 := f18_ne x0 x1 x2 x3 k0 k1 (by omega) eo
      have e19 := f19_ne ⟨x0.a0, x0.a1.map box81⟩ x1 x2 x3 k0 k1 (show x0.a0.length ≤ 1000 by omega) eo
      simp only [f3, f3c0, f3c1, f3c10, f3c11, f3c12, f3c13, f3c14, f3c15, f3c16, f3c17, f3c18, f3c19, f3c2, f3c20, f3c21, f3c22, f3c23, f3c24, f3c25, f3c26, f3c27, f3c3, f3c4, f3c5, f3c6, f3c7, f3c8, f3c9, hl, e12, e13, e14, e15, e16, e17, e18, e19, hM, hM0, hP0, hP1, same20_refl, Option.isSome_some, Option.getD_some, beq_self_eq_true, cond_true, cond_false, Tr.run]
  · have ho : x1 < 0 ∨ (x0.a0.length : Int) ≤ x1 := by omega
    have e12 := f12_out x0 x1 ho
    have e13 := f13_out ⟨x0.a0, x0.a1.map box81⟩ x1 ho
    have e14 := f14_out x0 x1 x3 ho
    have e15 := f15_out ⟨x0.a0, x0.a1.map box81⟩ x1 x3 ho
    have e16 := f16_out x0 x1 x3 ho
    have e17 := f17_out ⟨x0.a0, x0.a1.map box81⟩ x1 x3 ho
    have e18 := f18_out x0 x1 x2 x3 ho
    have e19 := f19_out ⟨x0.a0, x0.a1.map box81⟩ x1 x2 x3 ho
    simp only [f3, f3c0, f3c1, f3c10, f3c11, f3c12, f3c13, f3c14, f3c15, f3c16, f3c17, f3c18, f3c19, f3c2, f3c20, f3c21, f3c22, f3c23, f3c24, f3c25, f3c26, f3c27, f3c3, f3c4, f3c5, f3c6, f3c7, f3c8, f3c9, hl, e12, e13, e14, e15, e16, e17, e18, e19, hM, hM0, hP0, hP1, same20_refl, Option.isSome_some, Option.getD_some, beq_self_eq_true, cond_true, cond_false, Tr.run]
end Go.Proofs.YtihdfkdinfmhlaaS
