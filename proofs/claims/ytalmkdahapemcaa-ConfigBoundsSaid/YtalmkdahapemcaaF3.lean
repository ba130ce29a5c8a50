/- The small case in plain form, printed. Conditions: none. -/
import Derived.Test.YtalmkdahapemcaaF2
set_option linter.unusedVariables false
set_option maxRecDepth 10000
namespace Go.Proofs.YtalmkdahapemcaaS
open Go Go.Proofs
noncomputable def E2 (N : Nat) : Env := ((E1 N).add 10 f10O).add 11 f11O
theorem E2_ok (N : Nat) : (E2 N).Ok := ((E1_ok N).add f10_spec).add f11_spec
set_option maxHeartbeats 4000000
structure f12o where
  r0 ::
  (y0 : Bool)
noncomputable def f12W (o : f12o) : Res := (fun y0 => Res.pv (PV.bool y0)) o.y0
noncomputable def f12 (N : Nat)  : Option f12o := Tr.run (.ret (.r0 (true)))
theorem f12_run (N : Nat)  : (evRes (E2 N) (100 : Nat) (12 : Nat) []).run = (f12 N ).map f12W := (Tr.run_of (g := (.ret (.r0 (true)))) (f := f12W) (by kernel_rfl))
def f12s : List PK := []
noncomputable def f12a (ps : List PV) : Option f12o := f12 0 
noncomputable def f12d : f12o := ⟨false⟩
noncomputable def f12O : Ora := ⟨fun ps => okPs f12s ps && (f12a ps).isSome, fun ps => (f12W ((f12a ps).getD f12d)).plain⟩
theorem f12_spec : Spec Try.prog 12 f12O := spec_at 100 f12s (fun ps => (f12a ps).isSome) _ mixed fun ps hm hs hp => by
  cases h : f12a ps with
  | none => rw [h] at hp; cases hp
  | some o =>

    refine ⟨E2 0, f12W o, rfl, E2_ok 0, ?_, .inr ?_⟩
    · rw [show canPs f12s ps = [] from by kernel_rfl, f12_run 0]
      show (f12a ps).map f12W = _
      rw [h]; rfl
    · rfl
end Go.Proofs.YtalmkdahapemcaaS
