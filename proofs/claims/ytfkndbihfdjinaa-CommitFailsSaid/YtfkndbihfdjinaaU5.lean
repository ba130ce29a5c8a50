/- The memory of the small case. Conditions: none. -/
import Derived.Test.YtfkndbihfdjinaaU4
set_option linter.unusedVariables false
set_option linter.unusedSimpArgs false
set_option maxRecDepth 10000
namespace Go.Proofs.YtfkndbihfdjinaaS
open Go Go.Proofs
noncomputable def EB (N : Nat) : Env := ((E1 N).add 27 f27O).add 28 f28O
theorem EB_ok (N : Nat) : (EB N).Ok := ((E1_ok N).add f27_spec).add f28_spec
def conf0 : S23 := ⟨3, 1, 1, 0, 0, 1, 0, 0, false, 0, 0, 5⟩
def mem0 : S27 := ⟨[[PV.int .i64 5], [PV.int .i64 0], [PV.int .i64 0], [PV.int .i64 0], [PV.int .i64 0], [PV.int .i64 0], [PV.int .i64 0]], [[PV.list 51 []], [PV.list 51 []], [PV.list 51 []]]⟩
theorem f19_at : (evRes (EB 5) 100 19 [S23v conf0]).run = some (.pv (S27v mem0)) := by kernel_rfl
def isConf0 (x : S23) : Bool := (x.a0 == 3) && (x.a1 == 1) && (x.a2 == 1) && (x.a3 == 0) && (x.a4 == 0) && (x.a5 == 1) && (x.a6 == 0) && (x.a7 == 0) && (x.a8 == false) && (x.a9 == 0) && (x.a10 == 0) && (x.a11 == 5)
theorem isConf0_eq {x : S23} (h : isConf0 x = true) : x = conf0 := by
  obtain ⟨a0, a1, a2, a3, a4, a5, a6, a7, a8, a9, a10, a11⟩ := x
  simp [isConf0] at h
  simp [conf0, h]
noncomputable def f19P : Ora := ⟨fun ps => okPs [S23k] ps && isConf0 (S23r (ps.headD PV.undef)), fun ps => .pv (S27v mem0)⟩
theorem f19P_spec : Spec Try.prog 19 f19P := spec_at 100 [S23k] (fun ps => isConf0 (S23r (ps.headD PV.undef))) _ mixed fun ps hm hs hp => by
  have hc : canPs [S23k] ps = [S23v (S23r (ps.headD PV.undef))] := by kernel_rfl
  refine ⟨EB 5, _, rfl, EB_ok 5, ?_, .inl rfl⟩
  rw [hc, isConf0_eq hp]
  exact f19_at
end Go.Proofs.YtfkndbihfdjinaaS
