/- The law in plain form, printed. Conditions: none. -/
import Derived.Test.YtalmkdahapemcaaChk
set_option linter.unusedVariables false
set_option maxRecDepth 10000
namespace Go.Proofs.YtalmkdahapemcaaS
open Go Go.Proofs
noncomputable def E1 (N : Nat) : Env := ((E0 N).add 8 f8O).add 9 f9O
theorem E1_ok (N : Nat) : (E1 N).Ok := ((E0_ok N).add f8_spec).add f9_spec
set_option maxHeartbeats 4000000
structure f10o where
  r0 ::
  (y1 : Int)
noncomputable def f10W (o : f10o) : Res := (fun y1 => Res.pv (PV.int IntKind.i64 y1)) o.y1
noncomputable def f10t0 (x0 : S23) : Tr f10o := (.ret (.r0 (IntKind.i64.wrap (IntKind.i64.wrap ((20 : Int) + IntKind.i64.wrap ((8 : Int) * x0.a3)) + IntKind.i64.wrap (x0.a4 * IntKind.i64.wrap ((20 : Int) + IntKind.i64.wrap ((2 : Int) * x0.a6)))))))
noncomputable def f10 (N : Nat) (x0 : S23) : Option f10o := Tr.run (f10t0 x0)
theorem f10_run (N : Nat) (x0 : S23) : (evRes (E1 N) (100 : Nat) (10 : Nat) [(S23v x0)]).run = (f10 N x0).map f10W := (Tr.run_of (g := (f10t0 x0)) (f := f10W) (by kernel_rfl))
def f10s : List PK := [S23k]
noncomputable def f10a (ps : List PV) : Option f10o := f10 0 (S23r (ps.headD PV.undef))
noncomputable def f10d : f10o := ⟨0⟩
noncomputable def f10O : Ora := ⟨fun ps => okPs f10s ps && (f10a ps).isSome, fun ps => (f10W ((f10a ps).getD f10d)).plain⟩
theorem f10_spec : Spec Try.prog 10 f10O := spec_at 100 f10s (fun ps => (f10a ps).isSome) _ mixed fun ps hm hs hp => by
  cases h : f10a ps with
  | none => rw [h] at hp; cases hp
  | some o =>

    refine ⟨E1 0, f10W o, rfl, E1_ok 0, ?_, .inr ?_⟩
    · rw [show canPs f10s ps = [S23v (S23r (ps.headD PV.undef))] from by kernel_rfl, f10_run 0]
      show (f10a ps).map f10W = _
      rw [h]; rfl
    · rfl
structure f11o where
  r0 ::
  (y1 : Int)
noncomputable def f11W (o : f11o) : Res := (fun y1 => Res.pv (PV.int IntKind.i64 y1)) o.y1
noncomputable def f11t0 (x0 : S24) : Tr f11o := (.ret (.r0 (IntKind.i64.wrap (IntKind.i64.wrap ((20 : Int) + IntKind.i64.wrap ((8 : Int) * x0.a3)) + IntKind.i64.wrap (x0.a4 * IntKind.i64.wrap ((20 : Int) + IntKind.i64.wrap ((2 : Int) * x0.a6)))))))
noncomputable def f11 (N : Nat) (x0 : S24) : Option f11o := Tr.run (f11t0 x0)
theorem f11_run (N : Nat) (x0 : S24) : (evRes (E1 N) (100 : Nat) (11 : Nat) [(S24v x0)]).run = (f11 N x0).map f11W := (Tr.run_of (g := (f11t0 x0)) (f := f11W) (by kernel_rfl))
def f11s : List PK := [S24k]
noncomputable def f11a (ps : List PV) : Option f11o := f11 0 (S24r (ps.headD PV.undef))
noncomputable def f11d : f11o := ⟨0⟩
noncomputable def f11O : Ora := ⟨fun ps => okPs f11s ps && (f11a ps).isSome, fun ps => (f11W ((f11a ps).getD f11d)).plain⟩
theorem f11_spec : Spec Try.prog 11 f11O := spec_at 100 f11s (fun ps => (f11a ps).isSome) _ mixed fun ps hm hs hp => by
  cases h : f11a ps with
  | none => rw [h] at hp; cases hp
  | some o =>

    refine ⟨E1 0, f11W o, rfl, E1_ok 0, ?_, .inr ?_⟩
    · rw [show canPs f11s ps = [S24v (S24r (ps.headD PV.undef))] from by kernel_rfl, f11_run 0]
      show (f11a ps).map f11W = _
      rw [h]; rfl
    · rfl
end Go.Proofs.YtalmkdahapemcaaS
