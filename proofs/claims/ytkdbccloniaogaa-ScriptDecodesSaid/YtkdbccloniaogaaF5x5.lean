/- A law in plain form, printed. Conditions: none. -/
import Derived.Test.YtkdbccloniaogaaF4
import Derived.Test.YtkdbccloniaogaaU9
set_option linter.unusedVariables false
set_option linter.unusedSimpArgs false
set_option maxRecDepth 10000
namespace Go.Proofs.YtkdbccloniaogaaS
open Go Go.Proofs
noncomputable def E9 (N : Nat) : Env := (((((E0 N).add 9 f9O).add 10 f10O).add 18 f18P).add 19 f19P).add 20 f20O
theorem E9_ok (N : Nat) : (E9 N).Ok := (((((E0_ok N).add f9_spec).add f10_spec).add f18P_spec).add f19P_spec).add f20_spec
set_option maxHeartbeats 4000000
structure f5o where
  r0 ::
  (y1 : Bool)
noncomputable def f5W (o : f5o) : Res := (fun y1 => Res.pv (PV.bool y1)) o.y1
noncomputable def f5t0 (x0 : ByteArray) : Tr f5o := (.test (decide ((↑x0.size : Int) > (2000 : Int))) (.ret (.r0 (true))) (.test (decide (x0.size ≤ (900000 : Nat))) (.test (decide (x0.size ≤ (900000 : Nat))) (.test (decide ((dec18 x0).fst.length ≤ most)) (.test (decide ((dec18 x0).fst.length ≤ huge)) (.test (alike same5 (dec18 x0).fst (dec18 x0).fst) (.test ((dec18 x0).snd.fst == (dec18 x0).snd.fst) (.ret (.r0 ((dec18 x0).snd.snd == (dec18 x0).snd.snd))) (.ret (.r0 (false)))) (.ret (.r0 (false)))) .fail) .fail) .fail) .fail))
noncomputable def f5 (N : Nat) (x0 : ByteArray) : Option f5o := Tr.run (f5t0 x0)
theorem f5_run (N : Nat) (x0 : ByteArray) : (evRes (E9 N) (100 : Nat) (5 : Nat) [PV.str x0]).run = (f5 N x0).map f5W := (Tr.run_of (g := (f5t0 x0)) (f := f5W) (by kernel_rfl))
def f5s : List PK := [(false, [K.str])]
noncomputable def f5a (ps : List PV) : Option f5o := f5 0 (pStr (ps.headD PV.undef))
noncomputable def f5d : f5o := ⟨false⟩
noncomputable def f5O : Ora := ⟨fun ps => okPs f5s ps && (f5a ps).isSome, fun ps => (f5W ((f5a ps).getD f5d)).plain⟩
theorem f5_spec : Spec Try.prog 5 f5O := spec_at 100 f5s (fun ps => (f5a ps).isSome) _ mixed fun ps hm hs hp => by
  cases h : f5a ps with
  | none => rw [h] at hp; cases hp
  | some o =>

    refine ⟨E9 0, f5W o, rfl, E9_ok 0, ?_, .inr ?_⟩
    · rw [show canPs f5s ps = [PV.str (pStr (ps.headD PV.undef))] from by kernel_rfl, f5_run 0]
      show (f5a ps).map f5W = _
      rw [h]; rfl
    · rfl
end Go.Proofs.YtkdbccloniaogaaS
