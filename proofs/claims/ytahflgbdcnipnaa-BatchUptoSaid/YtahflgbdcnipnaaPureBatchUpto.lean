/- The pure statement that is left of BatchUpto. Conditions: the numbers' own ranges. -/
import Derived.Test.YtahflgbdcnipnaaFacts02b
import Derived.Test.YtahflgbdcnipnaaSimPure
set_option linter.unusedVariables false
set_option linter.unusedSimpArgs false
set_option maxRecDepth 10000
namespace Go.Proofs.YtahflgbdcnipnaaS
open Go Go.Proofs
theorem pureBatchUpto (x0 : List (List PV)) (x1 : Int) (x2 : Int) (x3 : Int) (x4 : Int) (h0 : Wf (PV.list 44 x0)) (h1 : Wf (PV.int .u8 x1)) (h2 : Wf (PV.int .i64 x2)) (h3 : Wf (PV.int .i64 x3)) (h4 : Wf (PV.int .i64 x4)) (hm : Meant Try.prog [PV.list 44 x0, PV.int .u8 x1, PV.int .i64 x2, PV.int .i64 x3, PV.int .i64 x4]) : ∃ N, f5 N x0 x1 x2 x3 x4 = some ⟨true⟩ := by
  refine ⟨0, ?_⟩
  refine run_test (fun h => rfl) (fun l0 => ?_)
  have l0 := of_decide_eq_false l0
  have r1 := wf_u8 h1
  have w0 : IntKind.i64.wrap ((x0.length : Int) + 1) = (x0.length : Int) + 1 := wrap_small (by omega) (by omega)
  have w1 : IntKind.i64.wrap x1 = x1 := wrap_small (by omega) (by omega)
  have k0 : 0 ≤ x1.tmod ((x0.length : Int) + 1) := Int.tmod_nonneg _ (by omega)
  have k1 : x1.tmod ((x0.length : Int) + 1) < (x0.length : Int) + 1 := Int.tmod_lt_of_pos _ (by omega)
  simp only [w0, w1]
  generalize x1.tmod ((x0.length : Int) + 1) = k at k0 k1
  have hu := upto_val (xs := x0) k0 (by omega) (by omega)
  have hp := priorsOf_len x0 x2 x3 x4
  have hlen : (x0.take k.toNat).length = k.toNat := by
    rw [List.length_take]
    omega
  refine run_true (decide_eq_true (by omega)) ?_
  simp only [hu, Option.isSome_some, Option.getD_some]
  refine run_true rfl (run_true (mill_ok (by omega)) (run_true (mill_ok (by omega)) (run_false (by simp [hp]) (run_true rfl (run_false ?_ ?_)))))
  · rw [hlen]
    simp
    omega
  refine run_test (fun h => ?_) (fun h => ?_)
  · have e : k = (x0.length : Int) := by simpa using h
    refine run_true (mill_ok (by omega)) ?_
    have e2 : x0.take k.toNat = x0 := List.take_of_length_le (by omega)
    rw [e2]
    exact congrArg (fun b => some (f5o.r0 b)) (beq_self_eq_true _)
  · have e : k ≠ (x0.length : Int) := by simpa using h
    refine run_true ?_ ?_
    · rw [hp, decide_eq_true k0, decide_eq_true (show k < (x0.length : Int) by omega)]
      rfl
    · rw [prior_at x0 x2 x3 x4 k.toNat (by omega)]
      exact congrArg (fun b => some (f5o.r0 b)) (beq_self_eq_true _)
end Go.Proofs.YtahflgbdcnipnaaS
