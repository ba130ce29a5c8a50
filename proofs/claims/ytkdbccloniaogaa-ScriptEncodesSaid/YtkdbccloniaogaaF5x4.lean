/- A law in plain form, printed. Conditions: none. -/
import Derived.Test.YtkdbccloniaogaaF4
import Derived.Test.YtkdbccloniaogaaU8
set_option linter.unusedVariables false
set_option linter.unusedSimpArgs false
set_option maxRecDepth 10000
namespace Go.Proofs.YtkdbccloniaogaaS
open Go Go.Proofs
noncomputable def E8 (N : Nat) : Env := ((((E0 N).add 9 f9O).add 10 f10O).add 16 f16P).add 17 f17P
theorem E8_ok (N : Nat) : (E8 N).Ok := ((((E0_ok N).add f9_spec).add f10_spec).add f16P_spec).add f17P_spec
set_option maxHeartbeats 4000000
structure f4o where
  r0 ::
  (y1 : Bool)
noncomputable def f4W (o : f4o) : Res := (fun y1 => Res.pv (PV.bool y1)) o.y1
noncomputable def f4t0 (x0 : List (List PV)) : Tr f4o := (.test (decide ((↑x0.length : Int) > (300 : Int))) (.ret (.r0 (true))) (.test (decide (x0.length ≤ (10000 : Nat))) (.test (decide (x0.length ≤ most)) (.test (decide (x0.length ≤ (10000 : Nat))) (.ret (.r0 ((strOf (encs x0)).toList == (strOf (encs x0)).toList))) .fail) .fail) .fail))
noncomputable def f4 (N : Nat) (x0 : List (List PV)) : Option f4o := Tr.run (f4t0 x0)
theorem f4_run (N : Nat) (x0 : List (List PV)) : (evRes (E8 N) (100 : Nat) (4 : Nat) [PV.list (38 : Nat) x0]).run = (f4 N x0).map f4W := (Tr.run_of (g := (f4t0 x0)) (f := f4W) (by kernel_rfl))
def f4s : List PK := [(false, [K.list 38])]
noncomputable def f4a (ps : List PV) : Option f4o := f4 0 (pList (ps.headD PV.undef))
noncomputable def f4d : f4o := ⟨false⟩
noncomputable def f4O : Ora := ⟨fun ps => okPs f4s ps && (f4a ps).isSome, fun ps => (f4W ((f4a ps).getD f4d)).plain⟩
theorem f4_spec : Spec Try.prog 4 f4O := spec_at 100 f4s (fun ps => (f4a ps).isSome) _ mixed fun ps hm hs hp => by
  cases h : f4a ps with
  | none => rw [h] at hp; cases hp
  | some o =>

    refine ⟨E8 0, f4W o, rfl, E8_ok 0, ?_, .inr ?_⟩
    · rw [show canPs f4s ps = [PV.list 38 (pList (ps.headD PV.undef))] from by kernel_rfl, f4_run 0]
      show (f4a ps).map f4W = _
      rw [h]; rfl
    · rfl
end Go.Proofs.YtkdbccloniaogaaS
