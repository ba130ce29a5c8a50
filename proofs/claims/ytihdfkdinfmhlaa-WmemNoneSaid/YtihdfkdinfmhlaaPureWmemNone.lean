/- The pure statement that is left of WmemNone. Conditions: the numbers' own ranges. -/
import Derived.Test.YtihdfkdinfmhlaaF4x7
import Derived.Test.YtihdfkdinfmhlaaFacts03
import Derived.Test.YtihdfkdinfmhlaaSimPure
set_option linter.unusedVariables false
set_option linter.unusedSimpArgs false
set_option maxRecDepth 10000
namespace Go.Proofs.YtihdfkdinfmhlaaS
open Go Go.Proofs
theorem pureWmemNone (x0 : S25) (x1 : Int) (x2 : Bool) (x3 : Int) (h0 : Wf (S25v x0)) (h1 : Wf (PV.int .u8 x1)) (h2 : Wf (PV.bool x2)) (h3 : Wf (PV.int .i64 x3)) (hm : Meant Try.prog [S25v x0, PV.int .u8 x1, PV.bool x2, PV.int .i64 x3]) : ∃ N, f7 N x0 x1 x2 x3 = some ⟨true⟩ := by
  refine ⟨0, ?_⟩
  cases hl : long x0 with
  | true =>
    show (bif long x0 then _ else _) = _
    rw [hl]; rfl
  | false =>
  obtain ⟨g1, g2, g3⟩ := long_no hl
  have hs := short_of hl
  have r1 := wf_u8 h1
  have hM : (memOk ⟨x0.a0, x0.a1⟩ && decide (x0.a1.length ≤ most)) = true := mem_ok _ x0.a1 hs
  have hM0 : (memOk x0 && decide (x0.a1.length ≤ most)) = true := mem_ok x0.a0 x0.a1 hs
  have hP0 : pre20 ⟨x0.a0, x0.a1.map box81⟩ = true := pre_ok _ _ (by omega) hs
  have z0 : (((([] : List (List PV)).length : Nat) : Int) == 0) = true := rfl
  have w1 : IntKind.i64.wrap x1 = x1 := wrap_small (by omega) (by omega)
  have w2 : IntKind.i64.wrap (-1 - x1) = -1 - x1 := wrap_small (by omega) (by omega)
  have w3 : IntKind.i64.wrap ((x0.a0.length : Int) + x1) = (x0.a0.length : Int) + x1 := wrap_small (by omega) (by omega)
  have w4 : IntKind.i64.wrap ((x0.a1.length : Int) + x1) = (x0.a1.length : Int) + x1 := wrap_small (by omega) (by omega)
  cases x2 with
  | true =>
    have oa : (-1 - x1) < 0 ∨ (x0.a0.length : Int) ≤ (-1 - x1) := by omega
    have ob : (-1 - x1) < 0 ∨ (x0.a1.length : Int) ≤ (-1 - x1) := by omega
    have e12 := f12_out x0 _ oa
    have e14 := f14_out x0 _ x3 oa
    have e18 := f18_out x0 _ 0 x3 oa
    have e16 := f16_out x0 _ x3 oa
    have e21 := f21_out x0 _ ob
    have e23 := f23_out x0 _ [[PV.int .i64 x3, PV.int .i64 0, PV.int .i64 0]] ob
    simp only [f7, f7c0, f7c1, f7c10, f7c11, f7c12, f7c13, f7c14, f7c15, f7c16, f7c17, f7c18, f7c19, f7c2, f7c20, f7c21, f7c22, f7c23, f7c24, f7c25, f7c26, f7c27, f7c28, f7c29, f7c3, f7c30, f7c31, f7c32, f7c34, f7c35, f7c36, f7c37, f7c38, f7c39, f7c4, f7c40, f7c41, f7c42, f7c43, f7c44, f7c45, f7c46, f7c47, f7c48, f7c49, f7c5, f7c50, f7c51, f7c52, f7c53, f7c54, f7c55, f7c56, f7c57, f7c58, f7c59, f7c6, f7c60, f7c61, f7c62, f7c63, f7c64, f7c7, f7c8, f7c9, f7t33, f7t65, hl, w1, w2, e12, e14, e18, e16, e21, e23, hM, hM0, hP0, z0, same20_refl, Option.isSome_some, Option.getD_some, beq_self_eq_true, Bool.not_false, cond_true, cond_false, Tr.run]
  | false =>
    have oa : ((x0.a0.length : Int) + x1) < 0 ∨ (x0.a0.length : Int) ≤ ((x0.a0.length : Int) + x1) := by omega
    have ob : ((x0.a1.length : Int) + x1) < 0 ∨ (x0.a1.length : Int) ≤ ((x0.a1.length : Int) + x1) := by omega
    have e12 := f12_out x0 _ oa
    have e14 := f14_out x0 _ x3 oa
    have e18 := f18_out x0 _ 0 x3 oa
    have e16 := f16_out x0 _ x3 oa
    have e21 := f21_out x0 _ ob
    have e23 := f23_out x0 _ [[PV.int .i64 x3, PV.int .i64 0, PV.int .i64 0]] ob
    simp only [f7, f7c0, f7c1, f7c10, f7c11, f7c12, f7c13, f7c14, f7c15, f7c16, f7c17, f7c18, f7c19, f7c2, f7c20, f7c21, f7c22, f7c23, f7c24, f7c25, f7c26, f7c27, f7c28, f7c29, f7c3, f7c30, f7c31, f7c32, f7c34, f7c35, f7c36, f7c37, f7c38, f7c39, f7c4, f7c40, f7c41, f7c42, f7c43, f7c44, f7c45, f7c46, f7c47, f7c48, f7c49, f7c5, f7c50, f7c51, f7c52, f7c53, f7c54, f7c55, f7c56, f7c57, f7c58, f7c59, f7c6, f7c60, f7c61, f7c62, f7c63, f7c64, f7c7, f7c8, f7c9, f7t33, f7t65, hl, w1, w3, w4, e12, e14, e18, e16, e21, e23, hM, hM0, hP0, z0, same20_refl, Option.isSome_some, Option.getD_some, beq_self_eq_true, Bool.not_false, cond_true, cond_false, Tr.run]
end Go.Proofs.YtihdfkdinfmhlaaS
