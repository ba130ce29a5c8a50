/- The pure statement that is left of ScriptDecodes. Conditions: the numbers' own ranges. -/
import Derived.Test.YtkdbccloniaogaaF5x5
import Derived.Test.YtkdbccloniaogaaSimPure
set_option linter.unusedVariables false
set_option linter.unusedSimpArgs false
set_option maxRecDepth 10000
namespace Go.Proofs.YtkdbccloniaogaaS
open Go Go.Proofs
theorem decR_len {n0 : Int} : ∀ (f : Nat) (out : List (List PV)) (s : ByteArray), (decR n0 f out s).1.length ≤ out.length + s.size
  | 0, out, s => by simp only [decR]; omega
  | f + 1, out, s => by
    rcases Nat.eq_zero_or_pos s.size with h0 | h0
    · rw [decR_end h0]
      exact Nat.le_add_right _ _
    · by_cases k : hd s < 1 ∨ 3 < hd s
      · rw [decR_stop h0 k]
        exact Nat.zero_le _
      · have k1 : 1 ≤ hd s := by omega
        have k3 : hd s ≤ 3 := by omega
        rcases Nat.lt_or_ge s.size (sizeK (hd s)) with hz | hz
        · rw [decR_short h0 k1 k3 hz]
          exact Nat.zero_le _
        · rw [decR_next h0 k1 k3 hz]
          have h1 := decR_len (n0 := n0) f (out ++ [(dec1 s).1]) (dec1 s).2
          have h2 := dec1_size k1 k3
          have h3 := sizeK_pos (hd s)
          simp only [List.length_append, List.length_cons, List.length_nil] at h1
          omega
theorem same5_refl (xs : List (List PV)) : alike same5 xs xs = true := by
  unfold alike
  rw [beq_self_eq_true, Bool.true_and, all_range']
  intro j _ _
  simp [same5]
theorem pureScriptDecodes (x0 : ByteArray) (h0 : Wf (PV.str x0)) (hm : Meant Try.prog [PV.str x0]) : ∃ N, f5 N x0 = some ⟨true⟩ := by
  refine ⟨0, ?_⟩
  refine run_test (fun h => rfl) (fun hb => ?_)
  have hb := of_decide_eq_false hb
  have hl := decR_len (n0 := x0.size) (x0.size + 9) [] x0
  have hl' : (dec18 x0).1.length ≤ 2000 := by
    have : (dec18 x0).1.length ≤ 0 + x0.size := hl
    omega
  refine run_true (decide_eq_true (by omega)) (run_true (decide_eq_true (by omega)) (run_true (decide_eq_true (show (dec18 x0).1.length ≤ 1000000 by omega)) (run_true (decide_eq_true (show (dec18 x0).1.length ≤ 4611686018427387904 by omega)) (run_true (same5_refl _) (run_true (beq_self_eq_true _) ?_)))))
  exact congrArg (fun b => some (f5o.r0 b)) (beq_self_eq_true _)
end Go.Proofs.YtkdbccloniaogaaS
