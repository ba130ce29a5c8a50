/- Whether two threads are the same, as the document has it, in plain words. Conditions: none. -/
import Derived.Test.YtnpohdnijgkkdaaU2
import Derived.Test.YtnpohdnijgkkdaaF2b
set_option linter.unusedVariables false
set_option maxRecDepth 10000
namespace Go.Proofs.YtnpohdnijgkkdaaS
open Go Go.Proofs
/-- The numbers of two threads are the same. -/
def nums12 (x0 x1 : S41) : Bool := (x0.a0 == x1.a0) && ((x0.a1 == x1.a1) && ((x0.a2 == x1.a2 && (x0.a3 == x1.a3 && true)) && ((x0.a7 == x1.a7) && ((x0.a8 == x1.a8) && ((x0.a9 == x1.a9) && ((x0.a10 == x1.a10) && ((x0.a11 == x1.a11) && ((x0.a12 == x1.a12) && ((x0.a13 == x1.a13) && ((x0.a14 == x1.a14) && ((x0.a15 == x1.a15) && ((x0.a16 == x1.a16)))))))))))))
def same12 (x0 x1 : S41) : Bool := alike same3 x0.a4 x1.a4 && (alike same1 x0.a6 x1.a6 && (alike same2 x0.a5 x1.a5 && nums12 x0 x1))
theorem tree12 (x0 x1 : S41) : (f12t6 x0 x1).run = some (.r0 (nums12 x0 x1)) := by
  unfold f12t6 nums12
  simp only [Tr.run]
  cases (x0.a0 == x1.a0) <;> first | rfl | skip
  cases (x0.a1 == x1.a1) <;> first | rfl | skip
  cases (x0.a2 == x1.a2 && (x0.a3 == x1.a3 && true)) <;> first | rfl | skip
  cases (x0.a7 == x1.a7) <;> first | rfl | skip
  cases (x0.a8 == x1.a8) <;> first | rfl | skip
  cases (x0.a9 == x1.a9) <;> first | rfl | skip
  cases (x0.a10 == x1.a10) <;> first | rfl | skip
  cases (x0.a11 == x1.a11) <;> first | rfl | skip
  cases (x0.a12 == x1.a12) <;> first | rfl | skip
  cases (x0.a13 == x1.a13) <;> first | rfl | skip
  cases (x0.a14 == x1.a14) <;> first | rfl | skip
  cases (x0.a15 == x1.a15) <;> first | rfl | skip
theorem val12 {x0 x1 : S41} (h1 : f25O.pre [PV.list 86 x0.a4, PV.list 86 x1.a4] = true) (h2 : f26O.pre [PV.list 3 x0.a6, PV.list 3 x1.a6] = true) (hl : x0.a5.length ≤ huge) : ∃ N, f12 N x0 x1 = some (.r0 (same12 x0 x1)) := by
  refine ⟨x0.a5.length + 1, ?_⟩
  unfold f12 same12
  rw [h1, cond_true]
  cases alike same3 x0.a4 x1.a4 with
  | false => rfl
  | true =>
  simp only [Bool.not_true, cond_false, Bool.true_and]
  rw [h2, cond_true]
  cases alike same1 x0.a6 x1.a6 with
  | false => rfl
  | true =>
  simp only [Bool.not_true, cond_false, Bool.true_and]
  unfold alike
  by_cases e : x0.a5.length = x1.a5.length
  · have e1 : ((x0.a5.length : Int) != (x1.a5.length : Int)) = false := by simp [e]
    have e2 : (x0.a5.length == x1.a5.length) = true := by simp [e]
    have hl' : x0.a5.length ≤ 4611686018427387904 := hl
    rw [e1, cond_false, e2, Bool.true_and]
    have h := loop_all (stp := f12L0r (x0.a5.length + 1) x0 x1) (fun i => .s0 (i : Int)) .e0 .e1 (same2 x0.a5 x1.a5) x0.a5.length
      (fun i hi hp => by
        have h1 : decide ((i : Int) < (x0.a5.length : Int)) = true := decide_eq_true (by omega)
        have h2 : decide ((0 : Int) ≤ (i : Int)) = true := decide_eq_true (by omega)
        have h3 : decide ((i : Int) < (x1.a5.length : Int)) = true := decide_eq_true (by omega)
        unfold same2 at hp
        simp only [f12L0r, f12L0it5, Tr.run, Int.toNat_natCast, h1, h2, h3, wrap_next (i := i) (by omega), Bool.and_self, cond_true, hp, Bool.not_true, cond_false])
      (fun i hi hp => by
        have h1 : decide ((i : Int) < (x0.a5.length : Int)) = true := decide_eq_true (by omega)
        have h2 : decide ((0 : Int) ≤ (i : Int)) = true := decide_eq_true (by omega)
        have h3 : decide ((i : Int) < (x1.a5.length : Int)) = true := decide_eq_true (by omega)
        unfold same2 at hp
        simp only [f12L0r, f12L0it5, Tr.run, Int.toNat_natCast, h1, h2, h3, Bool.and_self, cond_true, hp, Bool.not_false, cond_true])
      (by
        have h1 : decide ((x0.a5.length : Int) < (x0.a5.length : Int)) = false := decide_eq_false (by omega)
        simp only [f12L0r, f12L0it5, Tr.run, h1, cond_false]) x0.a5.length 0 (by omega)
    have h' : loopN (f12L0r (x0.a5.length + 1) x0 x1) (x0.a5.length + 1) (.s0 (0 : Int)) = some (bif (List.range' 0 x0.a5.length).all (same2 x0.a5 x1.a5) then .e1 else .e0) := h
    rw [h']
    cases (List.range' 0 x0.a5.length).all (same2 x0.a5 x1.a5) with
    | false => rfl
    | true => exact tree12 x0 x1
  · have e1 : ((x0.a5.length : Int) != (x1.a5.length : Int)) = true := by
      simp only [bne_iff_ne]
      omega
    have e2 : (x0.a5.length == x1.a5.length) = false := by simp [e]
    rw [e1, cond_true, e2, Bool.false_and, Bool.false_and]
    rfl
noncomputable def pre12 (x0 x1 : S41) : Bool := f25O.pre [PV.list 86 x0.a4, PV.list 86 x1.a4] && (f26O.pre [PV.list 3 x0.a6, PV.list 3 x1.a6] && decide (x0.a5.length ≤ huge))
noncomputable def f12O : Ora := ⟨fun ps => okPs [S41k, S41k] ps && pre12 (S41r (ps.headD .undef)) (S41r (ps.tail.headD .undef)), fun ps => .pv (.bool (same12 (S41r (ps.headD .undef)) (S41r (ps.tail.headD .undef))))⟩
theorem f12_spec : Spec Try.prog 12 f12O := spec_at 100 [S41k, S41k] (fun ps => pre12 (S41r (ps.headD .undef)) (S41r (ps.tail.headD .undef))) _ mixed fun ps hm hs hp => by
  unfold pre12 at hp
  simp only [Bool.and_eq_true] at hp
  have hc : canPs [S41k, S41k] ps = [S41v (S41r (ps.headD PV.undef)), S41v (S41r (ps.tail.headD PV.undef))] := by kernel_rfl
  obtain ⟨N, h1⟩ := val12 hp.1 hp.2.1 (of_decide_eq_true hp.2.2)
  refine ⟨E1 N, _, rfl, E1_ok N, ?_, .inl rfl⟩
  rw [hc, f12_run, h1]
  rfl
end Go.Proofs.YtnpohdnijgkkdaaS
