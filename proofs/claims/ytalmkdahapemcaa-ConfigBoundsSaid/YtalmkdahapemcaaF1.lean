/- Functions of the chapter in plain form, printed, with their proofs. Conditions: none. -/
import Derived.Test.YtalmkdahapemcaaF0
set_option linter.unusedVariables false
set_option maxRecDepth 10000
namespace Go.Proofs.YtalmkdahapemcaaS
open Go Go.Proofs
set_option maxHeartbeats 4000000
inductive f8o where
noncomputable def f8W  : f8o → Res := fun x => nomatch x
noncomputable def f8 (N : Nat) (x0 : S23) : Option f8o := Tr.run .fail
theorem f8_run (N : Nat) (x0 : S23) : (evRes (E0 N) (100 : Nat) (8 : Nat) [(S23v x0)]).run = (f8 N x0).map f8W := (Tr.run_of (g := .fail) (f := f8W) (by kernel_rfl))
structure f9o where
  r0 ::
  (y1 : Int)
noncomputable def f9W (o : f9o) : Res := (fun y1 => Res.pv (PV.int IntKind.i64 y1)) o.y1
noncomputable def f9t0 (x0 : S24) : Tr f9o := (.test (decide (x0.a0 < (1 : Int))) (.ret (.r0 ((50 : Int)))) (.test (decide (x0.a0 > (16 : Int))) (.ret (.r0 ((50 : Int)))) (.test (decide (x0.a1 < (1 : Int))) (.ret (.r0 ((51 : Int)))) (.test (decide (x0.a1 > (4 : Int))) (.ret (.r0 ((51 : Int)))) (.test (decide (x0.a2 < (1 : Int))) (.ret (.r0 ((52 : Int)))) (.test (decide (x0.a2 > (3 : Int))) (.ret (.r0 ((52 : Int)))) (.test (decide (x0.a3 < (0 : Int))) (.ret (.r0 ((53 : Int)))) (.test (decide (x0.a3 > (4 : Int))) (.ret (.r0 ((53 : Int)))) (.test (decide (x0.a4 < (0 : Int))) (.ret (.r0 ((54 : Int)))) (.test (decide (x0.a4 > (3 : Int))) (.ret (.r0 ((54 : Int)))) (.test (decide (x0.a5 < (1 : Int))) (.ret (.r0 ((55 : Int)))) (.test (decide (x0.a5 > (8 : Int))) (.ret (.r0 ((55 : Int)))) (.test (decide (x0.a6 < (0 : Int))) (.ret (.r0 ((56 : Int)))) (.test (decide (x0.a6 > (20 : Int))) (.ret (.r0 ((56 : Int)))) (.test (decide (x0.a7 < (0 : Int))) (.ret (.r0 ((57 : Int)))) (.test (decide (x0.a7 > (1000 : Int))) (.ret (.r0 ((57 : Int)))) (.test (x0.a8) (.test (decide (x0.a9 > x0.a11)) (.ret (.r0 ((58 : Int)))) (.test (decide (x0.a11 > x0.a10)) (.ret (.r0 ((58 : Int)))) (.ret (.r0 ((0 : Int)))))) (.ret (.r0 ((0 : Int)))))))))))))))))))))
noncomputable def f9 (N : Nat) (x0 : S24) : Option f9o := Tr.run (f9t0 x0)
theorem f9_run (N : Nat) (x0 : S24) : (evRes (E0 N) (100 : Nat) (9 : Nat) [(S24v x0)]).run = (f9 N x0).map f9W := (Tr.run_of (g := (f9t0 x0)) (f := f9W) (by kernel_rfl))
def f9s : List PK := [S24k]
noncomputable def f9a (ps : List PV) : Option f9o := f9 0 (S24r (ps.headD PV.undef))
noncomputable def f9d : f9o := ⟨0⟩
noncomputable def f9O : Ora := ⟨fun ps => okPs f9s ps && (f9a ps).isSome, fun ps => (f9W ((f9a ps).getD f9d)).plain⟩
theorem f9_spec : Spec Try.prog 9 f9O := spec_at 100 f9s (fun ps => (f9a ps).isSome) _ mixed fun ps hm hs hp => by
  cases h : f9a ps with
  | none => rw [h] at hp; cases hp
  | some o =>

    refine ⟨E0 0, f9W o, rfl, E0_ok 0, ?_, .inr ?_⟩
    · rw [show canPs f9s ps = [S24v (S24r (ps.headD PV.undef))] from by kernel_rfl, f9_run 0]
      show (f9a ps).map f9W = _
      rw [h]; rfl
    · rfl
end Go.Proofs.YtalmkdahapemcaaS
