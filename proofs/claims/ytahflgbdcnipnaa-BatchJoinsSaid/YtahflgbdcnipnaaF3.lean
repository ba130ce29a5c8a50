/- The small case in plain form, printed. Conditions: none. -/
import Derived.Test.YtahflgbdcnipnaaF2
set_option linter.unusedVariables false
set_option linter.unusedSimpArgs false
set_option maxRecDepth 10000
namespace Go.Proofs.YtahflgbdcnipnaaS
open Go Go.Proofs
noncomputable def E3 (N : Nat) : Env := ((E2 N).add 12 f12O).add 20 f20O
theorem E3_ok (N : Nat) : (E3 N).Ok := ((E2_ok N).add f12_spec).add f20_spec
set_option maxHeartbeats 4000000
structure f9o where
  r0 ::
  (y0 : Bool)
noncomputable def f9W (o : f9o) : Res := (fun y0 => Res.pv (PV.bool y0)) o.y0
noncomputable def f9 (N : Nat)  : Option f9o := Tr.run (.ret (.r0 (true)))
theorem f9_run (N : Nat)  : (evRes (E3 N) (100 : Nat) (9 : Nat) []).run = (f9 N ).map f9W := (Tr.run_of (g := (.ret (.r0 (true)))) (f := f9W) (by kernel_rfl))
def f9s : List PK := []
noncomputable def f9a (ps : List PV) : Option f9o := f9 0 
noncomputable def f9d : f9o := ⟨false⟩
noncomputable def f9O : Ora := ⟨fun ps => okPs f9s ps && (f9a ps).isSome, fun ps => (f9W ((f9a ps).getD f9d)).plain⟩
theorem f9_spec : Spec Try.prog 9 f9O := spec_at 100 f9s (fun ps => (f9a ps).isSome) _ mixed fun ps hm hs hp => by
  cases h : f9a ps with
  | none => rw [h] at hp; cases hp
  | some o =>

    refine ⟨E3 0, f9W o, rfl, E3_ok 0, ?_, .inr ?_⟩
    · rw [show canPs f9s ps = [] from by kernel_rfl, f9_run 0]
      show (f9a ps).map f9W = _
      rw [h]; rfl
    · rfl
end Go.Proofs.YtahflgbdcnipnaaS
