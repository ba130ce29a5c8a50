/- The case that must go well, in plain form, printed. Conditions: none. -/
import Derived.Test.YtnpohdnijgkkdaaF3
set_option linter.unusedVariables false
set_option maxRecDepth 10000
namespace Go.Proofs.YtnpohdnijgkkdaaS
open Go Go.Proofs
noncomputable def E3 (N : Nat) : Env := ((E2 N).add 22 f22O).add 23 f23O
theorem E3_ok (N : Nat) : (E3 N).Ok := ((E2_ok N).add f22_spec).add f23_spec
set_option maxHeartbeats 4000000
structure f10o where
  r0 ::
  (y0 : Bool)
noncomputable def f10W (o : f10o) : Res := (fun y0 => Res.pv (PV.bool y0)) o.y0
noncomputable def f10 (N : Nat)  : Option f10o := Tr.run (.ret (.r0 (true)))
theorem f10_run (N : Nat)  : (evRes (E3 N) (100 : Nat) (10 : Nat) []).run = (f10 N ).map f10W := (Tr.run_of (g := (.ret (.r0 (true)))) (f := f10W) (by kernel_rfl))
def f10s : List PK := []
noncomputable def f10a (ps : List PV) : Option f10o := f10 0 
noncomputable def f10d : f10o := ⟨false⟩
noncomputable def f10O : Ora := ⟨fun ps => okPs f10s ps && (f10a ps).isSome, fun ps => (f10W ((f10a ps).getD f10d)).plain⟩
theorem f10_spec : Spec Try.prog 10 f10O := spec_at 100 f10s (fun ps => (f10a ps).isSome) _ mixed fun ps hm hs hp => by
  cases h : f10a ps with
  | none => rw [h] at hp; cases hp
  | some o =>

    refine ⟨E3 0, f10W o, rfl, E3_ok 0, ?_, .inr ?_⟩
    · rw [show canPs f10s ps = [] from by kernel_rfl, f10_run 0]
      show (f10a ps).map f10W = _
      rw [h]; rfl
    · rfl
end Go.Proofs.YtnpohdnijgkkdaaS
