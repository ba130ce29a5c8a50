/- Places in plain words, and whether two threads are the same. Conditions: none. -/
import Derived.Test.YtjoebchkchoomaaF3
import Derived.Test.YtjoebchkchoomaaSimPure
set_option linter.unusedVariables false
set_option linter.unusedSimpArgs false
set_option maxRecDepth 10000
namespace Go.Proofs.YtjoebchkchoomaaS
open Go Go.Proofs
/-- The numbers of two threads are the same. -/
def numsR (x0 x1 : S51) : Bool := (x0.a0 == x1.a0) && ((x0.a1 == x1.a1) && ((x0.a2 == x1.a2 && (x0.a3 == x1.a3 && true)) && ((x0.a7 == x1.a7) && ((x0.a8 == x1.a8) && ((x0.a9 == x1.a9) && ((x0.a10 == x1.a10) && ((x0.a11 == x1.a11) && ((x0.a12 == x1.a12) && ((x0.a13 == x1.a13) && ((x0.a14 == x1.a14) && ((x0.a15 == x1.a15) && ((x0.a16 == x1.a16)))))))))))))
def sameT (x0 x1 : S51) : Bool := alike same3 x0.a4 x1.a4 && (alike same1 x0.a6 x1.a6 && (alike same2 x0.a5 x1.a5 && numsR x0 x1))
theorem treeT (x0 x1 : S51) : (f40t6 x0 x1).run = some (.r0 (numsR x0 x1)) := by
  unfold f40t6 numsR
  simp only [Tr.run]
  cases (x0.a0 == x1.a0) <;> first | rfl | skip
  cases (x0.a1 == x1.a1) <;> first | rfl | skip
  cases (x0.a2 == x1.a2 && (x0.a3 == x1.a3 && true)) <;> first | rfl | skip
  cases (x0.a7 == x1.a7) <;> first | rfl | skip
  cases (x0.a8 == x1.a8) <;> first | rfl | skip
  cases (x0.a9 == x1.a9) <;> first | rfl | skip
  cases (x0.a10 == x1.a10) <;> first | rfl | skip
  cases (x0.a11 == x1.a11) <;> first | rfl | skip
  cases (x0.a12 == x1.a12) <;> first | rfl | skip
  cases (x0.a13 == x1.a13) <;> first | rfl | skip
  cases (x0.a14 == x1.a14) <;> first | rfl | skip
  cases (x0.a15 == x1.a15) <;> first | rfl | skip
theorem val40 {x0 x1 : S51} (h1 : decide (x0.a4.length ≤ huge) = true) (h2 : decide (x0.a6.length ≤ huge) = true) (hl : x0.a5.length ≤ huge) : ∃ N, f40 N x0 x1 = some (.r0 (sameT x0 x1)) := by
  refine ⟨x0.a5.length + 1, ?_⟩
  unfold f40 sameT
  rw [h1, cond_true]
  cases alike same3 x0.a4 x1.a4 with
  | false => rfl
  | true =>
  simp only [Bool.not_true, cond_false, Bool.true_and]
  rw [h2, cond_true]
  cases alike same1 x0.a6 x1.a6 with
  | false => rfl
  | true =>
  simp only [Bool.not_true, cond_false, Bool.true_and]
  unfold alike
  by_cases e : x0.a5.length = x1.a5.length
  · have e1 : ((x0.a5.length : Int) != (x1.a5.length : Int)) = false := by simp [e]
    have e2 : (x0.a5.length == x1.a5.length) = true := by simp [e]
    have hl' : x0.a5.length ≤ 4611686018427387904 := hl
    rw [e1, cond_false, e2, Bool.true_and]
    have h := loop_all (stp := f40L0r (x0.a5.length + 1) x0 x1) (fun i => .s0 (i : Int)) .e0 .e1 (same2 x0.a5 x1.a5) x0.a5.length
      (fun i hi hp => by
        have h1 : decide ((i : Int) < (x0.a5.length : Int)) = true := decide_eq_true (by omega)
        have h2 : decide ((0 : Int) ≤ (i : Int)) = true := decide_eq_true (by omega)
        have h3 : decide ((i : Int) < (x1.a5.length : Int)) = true := decide_eq_true (by omega)
        unfold same2 at hp
        simp only [f40L0r, f40L0it5, Tr.run, Int.toNat_natCast, h1, h2, h3, wrap_next (i := i) (by omega), Bool.and_self, cond_true, hp, Bool.not_true, cond_false])
      (fun i hi hp => by
        have h1 : decide ((i : Int) < (x0.a5.length : Int)) = true := decide_eq_true (by omega)
        have h2 : decide ((0 : Int) ≤ (i : Int)) = true := decide_eq_true (by omega)
        have h3 : decide ((i : Int) < (x1.a5.length : Int)) = true := decide_eq_true (by omega)
        unfold same2 at hp
        simp only [f40L0r, f40L0it5, Tr.run, Int.toNat_natCast, h1, h2, h3, Bool.and_self, cond_true, hp, Bool.not_false, cond_true])
      (by
        have h1 : decide ((x0.a5.length : Int) < (x0.a5.length : Int)) = false := decide_eq_false (by omega)
        simp only [f40L0r, f40L0it5, Tr.run, h1, cond_false]) x0.a5.length 0 (by omega)
    have h' : loopN (f40L0r (x0.a5.length + 1) x0 x1) (x0.a5.length + 1) (.s0 (0 : Int)) = some (bif (List.range' 0 x0.a5.length).all (same2 x0.a5 x1.a5) then .e1 else .e0) := h
    rw [h']
    cases (List.range' 0 x0.a5.length).all (same2 x0.a5 x1.a5) with
    | false => rfl
    | true => exact treeT x0 x1
  · have e1 : ((x0.a5.length : Int) != (x1.a5.length : Int)) = true := by
      simp only [bne_iff_ne]
      omega
    have e2 : (x0.a5.length == x1.a5.length) = false := by simp [e]
    rw [e1, cond_true, e2, Bool.false_and, Bool.false_and]
    rfl
noncomputable def preT (x0 x1 : S51) : Bool := decide (x0.a4.length ≤ huge) && (decide (x0.a6.length ≤ huge) && decide (x0.a5.length ≤ huge))
noncomputable def f40O : Ora := ⟨fun ps => okPs [S51k, S51k] ps && preT (S51r (ps.headD .undef)) (S51r (ps.tail.headD .undef)), fun ps => .pv (.bool (sameT (S51r (ps.headD .undef)) (S51r (ps.tail.headD .undef))))⟩
theorem f40_spec : Spec Try.prog 40 f40O := spec_at 100 [S51k, S51k] (fun ps => preT (S51r (ps.headD .undef)) (S51r (ps.tail.headD .undef))) _ mixed fun ps hm hs hp => by
  unfold preT at hp
  simp only [Bool.and_eq_true] at hp
  have hc : canPs [S51k, S51k] ps = [S51v (S51r (ps.headD PV.undef)), S51v (S51r (ps.tail.headD PV.undef))] := by kernel_rfl
  obtain ⟨N, h1⟩ := val40 hp.1 hp.2.1 (of_decide_eq_true hp.2.2)
  refine ⟨E3 N, _, rfl, E3_ok N, ?_, .inl rfl⟩
  rw [hc, f40_run, h1]
  rfl
def blockOf (d l w : Int) : Int := IntKind.i64.wrap (IntKind.i64.wrap ((1 : Int) + nodesR d) + IntKind.i64.wrap (l * w))
def cellOf (n d l w i : Int) : Int := bif decide (i < 0) then -1 else bif decide (i ≥ n) then -1 else IntKind.i64.wrap (i * blockOf d l w)
def lineOf (t n d l w i : Int) : Int := bif decide (i < 0) then -1 else bif decide (i ≥ t) then -1 else IntKind.i64.wrap (IntKind.i64.wrap (n * blockOf d l w) + IntKind.i64.wrap ((2 : Int) * i))
def resultOf (t n d l w i : Int) : Int := bif decide (i < 0) then -1 else bif decide (i ≥ t) then -1 else IntKind.i64.wrap (IntKind.i64.wrap (IntKind.i64.wrap (n * blockOf d l w) + IntKind.i64.wrap ((2 : Int) * i)) + (1 : Int))
def sizeOf (t n d l w : Int) : Int := IntKind.i64.wrap (IntKind.i64.wrap (n * blockOf d l w) + IntKind.i64.wrap ((2 : Int) * t))
theorem nodes_shl {d : Int} (h0 : 0 ≤ d) (h1 : d ≤ 4) : IntKind.i64.wrap (IntKind.i64.wrap ((1 : Int) * (2 : Int) ^ min d.toNat IntKind.i64.bits) - (1 : Int)) = nodesR d := by
  have : d = 0 ∨ d = 1 ∨ d = 2 ∨ d = 3 ∨ d = 4 := by omega
  rcases this with rfl | rfl | rfl | rfl | rfl <;> rfl
theorem f44_val {x : S43} (h : x.a3 ≤ 4) : f44 0 x = some ⟨blockOf x.a3 x.a4 x.a5⟩ := run_true (decide_eq_true h) rfl
theorem f69_val {x : S23} (h0 : 0 ≤ x.a3) (h1 : x.a3 ≤ 4) : f69 0 x = some ⟨1, IntKind.i64.wrap (1 + nodesR x.a3), blockOf x.a3 x.a4 x.a5, IntKind.i64.wrap (x.a1 * blockOf x.a3 x.a4 x.a5)⟩ := by
  unfold f69 f69t0
  rw [nodes_shl h0 h1]
  exact run_true (decide_eq_true h0) rfl
theorem f53_val {x : S23} {i : Int} (h0 : 0 ≤ x.a3) (h1 : x.a3 ≤ 4) : f53 0 x i = some ⟨cellOf x.a1 x.a3 x.a4 x.a5 i⟩ := by
  unfold f53 f53t0 cellOf
  refine run_test (fun k => by rw [k]; rfl) (fun k => ?_)
  rw [k]
  refine run_test (fun k => by rw [k]; rfl) (fun k => ?_)
  rw [k, f69_val h0 h1]
  exact run_true rfl rfl
theorem f55_val {x : S23} {i : Int} (h0 : 0 ≤ x.a3) (h1 : x.a3 ≤ 4) : f55 0 x i = some ⟨lineOf x.a0 x.a1 x.a3 x.a4 x.a5 i⟩ := by
  unfold f55 f55t0 lineOf
  refine run_test (fun k => by rw [k]; rfl) (fun k => ?_)
  rw [k]
  refine run_test (fun k => by rw [k]; rfl) (fun k => ?_)
  rw [k, f69_val h0 h1]
  exact run_true rfl rfl
theorem f20_val {x : S43} {i : Int} (h : x.a3 ≤ 4) : f20 0 x i = some ⟨lineOf x.a0 x.a1 x.a3 x.a4 x.a5 i⟩ := by
  unfold f20 f20t0 lineOf
  refine run_test (fun k => by rw [k]; rfl) (fun k => ?_)
  rw [k]
  refine run_test (fun k => by rw [k]; rfl) (fun k => ?_)
  rw [k, f44_val h]
  exact run_true rfl rfl
theorem f56_val {x : S23} {i : Int} (h0 : 0 ≤ x.a3) (h1 : x.a3 ≤ 4) : f56 0 x i = some ⟨resultOf x.a0 x.a1 x.a3 x.a4 x.a5 i⟩ := by
  unfold f56 f56t0 resultOf
  refine run_test (fun k => by rw [k]; rfl) (fun k => ?_)
  rw [k]
  refine run_test (fun k => by rw [k]; rfl) (fun k => ?_)
  rw [k, f69_val h0 h1]
  exact run_true rfl rfl
theorem f19_val {x : S43} {i : Int} (h : x.a3 ≤ 4) : f19 0 x i = some ⟨resultOf x.a0 x.a1 x.a3 x.a4 x.a5 i⟩ := by
  unfold f19 f19t0 resultOf
  refine run_test (fun k => by rw [k]; rfl) (fun k => ?_)
  rw [k]
  refine run_test (fun k => by rw [k]; rfl) (fun k => ?_)
  rw [k, f44_val h]
  exact run_true rfl rfl
theorem f27_val {x : S43} (h : x.a3 ≤ 4) : f27 0 x = some ⟨sizeOf x.a0 x.a1 x.a3 x.a4 x.a5⟩ := by
  unfold f27 f27t0 sizeOf
  rw [f44_val h]
  exact run_true rfl rfl
end Go.Proofs.YtjoebchkchoomaaS
