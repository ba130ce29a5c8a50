/- The small case in plain form, printed. Conditions: none. -/
import Derived.Test.YtkdbccloniaogaaU2
import Derived.Test.YtkdbccloniaogaaU3
import Derived.Test.YtkdbccloniaogaaU6
import Derived.Test.YtkdbccloniaogaaTak
set_option linter.unusedVariables false
set_option linter.unusedSimpArgs false
set_option maxRecDepth 10000
namespace Go.Proofs.YtkdbccloniaogaaS
open Go Go.Proofs
noncomputable def E4 (N : Nat) : Env := ((((E0t N).add 11 f11P).add 14 f14O).add 16 f16P).add 18 f18P
theorem E4_ok (N : Nat) : (E4 N).Ok := ((((E0t_ok N).add f11P_spec).add f14_spec).add f16P_spec).add f18P_spec
set_option maxHeartbeats 4000000
structure f9o where
  r0 ::
  (y0 : Bool)
noncomputable def f9W (o : f9o) : Res := (fun y0 => Res.pv (PV.bool y0)) o.y0
noncomputable def f9 (N : Nat)  : Option f9o := Tr.run (.ret (.r0 (true)))
theorem f9_run (N : Nat)  : (evRes (E4 N) (100 : Nat) (9 : Nat) []).run = (f9 N ).map f9W := (Tr.run_of (g := (.ret (.r0 (true)))) (f := f9W) (by kernel_rfl))
def f9s : List PK := []
noncomputable def f9a (ps : List PV) : Option f9o := f9 0 
noncomputable def f9d : f9o := ⟨false⟩
noncomputable def f9O : Ora := ⟨fun ps => okPs f9s ps && (f9a ps).isSome, fun ps => (f9W ((f9a ps).getD f9d)).plain⟩
theorem f9_spec : Spec Try.prog 9 f9O := spec_at 100 f9s (fun ps => (f9a ps).isSome) _ mixed fun ps hm hs hp => by
  cases h : f9a ps with
  | none => rw [h] at hp; cases hp
  | some o =>

    refine ⟨E4 0, f9W o, rfl, E4_ok 0, ?_, .inr ?_⟩
    · rw [show canPs f9s ps = [] from by kernel_rfl, f9_run 0]
      show (f9a ps).map f9W = _
      rw [h]; rfl
    · rfl
end Go.Proofs.YtkdbccloniaogaaS
