/- The reference's Encode, whole. Conditions: none. -/
import Derived.Test.YtkdbccloniaogaaU7
set_option linter.unusedVariables false
set_option linter.unusedSimpArgs false
set_option maxRecDepth 10000
namespace Go.Proofs.YtkdbccloniaogaaS
open Go Go.Proofs
noncomputable def back17 (x0 : List (List PV)) : f17L0e → Option f17o
  | .e0 => Tr.run (.ret (.r0 (strOf ((5 : Nat), ([] : List (List PV))).snd)))
  | .e1 w => Tr.run (.ret (.r0 (strOf w)))
  | .e2 w => Tr.run (.ret (.r0 (strOf w)))
  | .e3 => Tr.run (.ret (.r0 (strOf [u8 (kindOf (x0.getD 0 []))])))
  | .e4 w => Tr.run (.ret (.r0 (strOf w)))
theorem f17_eq (N : Nat) (x0 : List (List PV)) : f17 N x0 = (loopN (f17L0r N x0) N .s0).bind (back17 x0) := by
  unfold f17
  congr 1
theorem end17 {N : Nat} {x0 : List (List PV)} {σ : f17L0s} {i : Nat} {acc : List (List PV)} (h : St17 x0 σ i acc) (hi : i = x0.length) : ∃ z, f17L0r N x0 σ = some (.inr z) ∧ back17 x0 z = some ⟨strOf acc⟩ := by
  cases h with
  | s1 => exact ⟨.e1 acc, bif_false (decide_eq_false (by omega)) rfl, rfl⟩
  | s2 => exact ⟨.e2 acc, bif_false (decide_eq_false (by omega)) rfl, rfl⟩
  | s3 => exact ⟨.e3, bif_false (decide_eq_false (by omega)) rfl, rfl⟩
  | s4 => exact ⟨.e4 acc, bif_false (decide_eq_false (by omega)) rfl, rfl⟩
theorem next17 {N : Nat} (hN : 9 ≤ N) {x0 : List (List PV)} {σ : f17L0s} {i : Nat} {acc : List (List PV)} (h : St17 x0 σ i acc) (hi : i < x0.length) (hl : x0.length ≤ 10000) (ha : acc.length ≤ 200000) : ∃ σ', f17L0r N x0 σ = some (.inl σ') ∧ St17 x0 σ' (i + 1) (acc ++ enc1 (x0.getD i [])) := by
  cases h with
  | s1 => exact r171 hN ha hi hl
  | s2 => exact r172 hN ha hi hl
  | s3 => exact r173 hN hi hl
  | s4 => exact r174 hN ha hi hl
theorem run17 {N : Nat} (hN : 9 ≤ N) {x0 : List (List PV)} (hl : x0.length ≤ 10000) : ∀ (m i : Nat) (σ : f17L0s), i + m = x0.length → St17 x0 σ i (encs (x0.take i)) → (loopN (f17L0r N x0) (m + 1) σ).bind (back17 x0) = some ⟨strOf (encs x0)⟩
  | 0, i, σ, h, hs => by
    obtain ⟨z, h1, h2⟩ := end17 (N := N) hs (by omega)
    rw [loopN_end h1]
    rw [List.take_of_length_le (by omega)] at h2
    exact h2
  | m + 1, i, σ, h, hs => by
    have he := encs_le (x0.take i)
    rw [List.length_take] at he
    obtain ⟨σ', h1, h2⟩ := next17 hN hs (by omega) hl (by omega)
    rw [loopN_next h1]
    rw [← encs_next (by omega)] at h2
    exact run17 hN hl m (i + 1) σ' (by omega) h2
theorem f17_val {x0 : List (List PV)} (hl : x0.length ≤ 10000) : f17 (x0.length + 9) x0 = some ⟨strOf (encs x0)⟩ := by
  rw [f17_eq]
  rcases Nat.eq_zero_or_pos x0.length with h0 | h0
  · have e : x0 = [] := List.length_eq_zero_iff.1 h0
    subst e
    rfl
  · obtain ⟨σ, h1, h2⟩ := r170 (N := x0.length + 9) (by omega) h0 hl
    have e1 : encs (x0.take 1) = enc1 (x0.getD 0 []) := by
      have := encs_next (xs := x0) (i := 0) h0
      rw [this]
      rfl
    have h3 : (loopN (f17L0r (x0.length + 9) x0) (x0.length - 1 + 1 + 1) .s0).bind (back17 x0) = some ⟨strOf (encs x0)⟩ := by
      rw [loopN_next h1]
      exact run17 (by omega) hl (x0.length - 1) 1 σ (by omega) (by rw [e1]; exact h2)
    obtain ⟨z, h4, h5⟩ := Option.bind_eq_some_iff.1 h3
    have h6 := loopN_more _ _ _ h4 8
    rw [show x0.length - 1 + 1 + 1 + 8 = x0.length + 9 by omega] at h6
    rw [h6]
    exact h5
noncomputable def f17P : Ora := ⟨fun ps => okPs [(false, [.list 42])] ps && decide ((pList (ps.headD .undef)).length ≤ 10000), fun ps => .pv (.str (strOf (encs (pList (ps.headD .undef)))))⟩
theorem f17P_spec : Spec Try.prog 17 f17P := spec_at 100 [(false, [.list 42])] (fun ps => decide ((pList (ps.headD .undef)).length ≤ 10000)) _ mixed fun ps hm hs hp => by
  have hc : canPs [(false, [.list 42])] ps = [PV.list 42 (pList (ps.headD PV.undef))] := by kernel_rfl
  refine ⟨E1r ((pList (ps.headD .undef)).length + 9), _, rfl, E1r_ok _, ?_, .inl rfl⟩
  rw [hc, f17_run, f17_val (of_decide_eq_true hp)]
  rfl
end Go.Proofs.YtkdbccloniaogaaS
