/- The pure statement that is left of WmemSwaps. Conditions: the numbers' own ranges. -/
import Derived.Test.YtihdfkdinfmhlaaF4x8
import Derived.Test.YtihdfkdinfmhlaaFacts03
import Derived.Test.YtihdfkdinfmhlaaSimPure
set_option linter.unusedVariables false
set_option linter.unusedSimpArgs false
set_option maxRecDepth 10000
namespace Go.Proofs.YtihdfkdinfmhlaaS
open Go Go.Proofs
theorem pureWmemSwaps (x0 : S25) (x1 : Int) (x2 : Int) (x3 : Int) (h0 : Wf (S25v x0)) (h1 : Wf (PV.int .u8 x1)) (h2 : Wf (PV.int .i64 x2)) (h3 : Wf (PV.int .i64 x3)) (hm : Meant Try.prog [S25v x0, PV.int .u8 x1, PV.int .i64 x2, PV.int .i64 x3]) : ∃ N, f8 N x0 x1 x2 x3 = some ⟨true⟩ := by
  refine ⟨0, ?_⟩
  refine run_test (fun h => rfl) (fun hl => ?_)
  refine run_test (fun h => rfl) (fun he => ?_)
  have hn : (x0.a0.length : Int) ≠ 0 := by simpa using he
  refine run_true (decide_eq_true hn) ?_
  obtain ⟨g1, g2, g3⟩ := long_no hl
  have hs := short_of hl
  obtain ⟨k0, k1⟩ := place_of (wf_u8 h1) hn
  generalize (IntKind.i64.wrap x1).tmod (x0.a0.length : Int) = k at k0 k1
  have e1 := f16_in x0 k x2 k0 k1 (by omega)
  have e2 := f16_in ⟨x0.a0.set k.toNat [PV.int .i64 x2], x0.a1⟩ k x3 k0 (by simpa using k1) (by simp; omega)
  have e3 := f14_in x0 k x3 k0 k1 (by omega)
  simp only [List.set_set] at e2
  have w1 : (word x0.a0 k == pInt ((x0.a0.getD k.toNat []).headD PV.undef)) = true := beq_self_eq_true _
  have q1 : (decide (0 ≤ k) && decide (k < (x0.a0.length : Int))) = true := by rw [decide_eq_true k0, decide_eq_true k1]; rfl
  simp only [e1, e2, e3, Option.isSome_some, Option.getD_some, word_set k0 k1]
  refine run_true rfl (run_true rfl (run_true rfl (run_true rfl (run_true rfl (run_true rfl (run_true q1 (run_true w1 (run_true (beq_self_eq_true _) ?_))))))))
  refine run_true (mem_ok _ _ hs) (run_true (mem_ok _ _ hs) (run_true (pre_ok _ _ (by simp; omega) hs) ?_))
  exact congrArg (fun b => some (f8o.r0 b)) (same20_refl _)
end Go.Proofs.YtihdfkdinfmhlaaS
