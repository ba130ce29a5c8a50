/- The law in plain form, printed. Conditions: none. -/
import Derived.Test.YtalmkdahapemcaaF3
set_option linter.unusedVariables false
set_option maxRecDepth 10000
namespace Go.Proofs.YtalmkdahapemcaaS
open Go Go.Proofs
noncomputable def E3 (N : Nat) : Env := (E2 N).add 12 f12O
theorem E3_ok (N : Nat) : (E3 N).Ok := (E2_ok N).add f12_spec
set_option maxHeartbeats 4000000
structure f5o where
  r0 ::
  (y1 : Bool)
noncomputable def f5W (o : f5o) : Res := (fun y1 => Res.pv (PV.bool y1)) o.y1
noncomputable def f5t0 (x0 : S23) (x1 : Int) (x2 : Int) : Tr f5o := (.test (chk5 { a0 := x0.a0, a1 := x0.a1, a2 := x0.a2, a3 := x0.a3, a4 := x0.a4, a5 := x0.a5, a6 := x0.a6, a7 := x0.a7, a8 := false, a9 := x0.a9, a10 := x0.a10, a11 := x0.a11 } != (0 : Int)) (.test ((f9 (0 : Nat) { a0 := x0.a0, a1 := x0.a1, a2 := x0.a2, a3 := x0.a3, a4 := x0.a4, a5 := x0.a5, a6 := x0.a6, a7 := x0.a7, a8 := false, a9 := x0.a9, a10 := x0.a10, a11 := x0.a11 }).isSome) (.ret (.r0 (chk5 { a0 := x0.a0, a1 := x0.a1, a2 := x0.a2, a3 := x0.a3, a4 := x0.a4, a5 := x0.a5, a6 := x0.a6, a7 := x0.a7, a8 := false, a9 := x0.a9, a10 := x0.a10, a11 := x0.a11 } == ((f9 (0 : Nat) { a0 := x0.a0, a1 := x0.a1, a2 := x0.a2, a3 := x0.a3, a4 := x0.a4, a5 := x0.a5, a6 := x0.a6, a7 := x0.a7, a8 := false, a9 := x0.a9, a10 := x0.a10, a11 := x0.a11 }).getD f9d).y1))) .fail) (.test ((f9 (0 : Nat) { a0 := x0.a0, a1 := x0.a1, a2 := x0.a2, a3 := x0.a3, a4 := x0.a4, a5 := x0.a5, a6 := x0.a6, a7 := x0.a7, a8 := false, a9 := x0.a9, a10 := x0.a10, a11 := x0.a11 }).isSome) (.test (((f9 (0 : Nat) { a0 := x0.a0, a1 := x0.a1, a2 := x0.a2, a3 := x0.a3, a4 := x0.a4, a5 := x0.a5, a6 := x0.a6, a7 := x0.a7, a8 := false, a9 := x0.a9, a10 := x0.a10, a11 := x0.a11 }).getD f9d).y1 != (0 : Int)) (.test ((f9 (0 : Nat) { a0 := x0.a0, a1 := x0.a1, a2 := x0.a2, a3 := x0.a3, a4 := x0.a4, a5 := x0.a5, a6 := x0.a6, a7 := x0.a7, a8 := false, a9 := x0.a9, a10 := x0.a10, a11 := x0.a11 }).isSome) (.ret (.r0 (chk5 { a0 := x0.a0, a1 := x0.a1, a2 := x0.a2, a3 := x0.a3, a4 := x0.a4, a5 := x0.a5, a6 := x0.a6, a7 := x0.a7, a8 := false, a9 := x0.a9, a10 := x0.a10, a11 := x0.a11 } == ((f9 (0 : Nat) { a0 := x0.a0, a1 := x0.a1, a2 := x0.a2, a3 := x0.a3, a4 := x0.a4, a5 := x0.a5, a6 := x0.a6, a7 := x0.a7, a8 := false, a9 := x0.a9, a10 := x0.a10, a11 := x0.a11 }).getD f9d).y1))) .fail) (.test (decide (x1 > x2)) (.test (chk5 { a0 := x0.a0, a1 := x0.a1, a2 := x0.a2, a3 := x0.a3, a4 := x0.a4, a5 := x0.a5, a6 := x0.a6, a7 := x0.a7, a8 := false, a9 := x1, a10 := x2, a11 := x1 } == (0 : Int)) (.test (chk5 { a0 := x0.a0, a1 := x0.a1, a2 := x0.a2, a3 := x0.a3, a4 := x0.a4, a5 := x0.a5, a6 := x0.a6, a7 := x0.a7, a8 := true, a9 := x1, a10 := x2, a11 := x1 } == (58 : Int)) (.ret (.r0 (chk5 { a0 := x0.a0, a1 := x0.a1, a2 := x0.a2, a3 := x0.a3, a4 := x0.a4, a5 := x0.a5, a6 := x0.a6, a7 := x0.a7, a8 := true, a9 := x1, a10 := x2, a11 := x2 } == (58 : Int)))) (.ret (.r0 (false)))) (.ret (.r0 (false)))) (.test (chk5 { a0 := x0.a0, a1 := x0.a1, a2 := x0.a2, a3 := x0.a3, a4 := x0.a4, a5 := x0.a5, a6 := x0.a6, a7 := x0.a7, a8 := false, a9 := x1, a10 := x2, a11 := x1 } == (0 : Int)) (.test (chk5 { a0 := x0.a0, a1 := x0.a1, a2 := x0.a2, a3 := x0.a3, a4 := x0.a4, a5 := x0.a5, a6 := x0.a6, a7 := x0.a7, a8 := true, a9 := x1, a10 := x2, a11 := x1 } == (0 : Int)) (.ret (.r0 (chk5 { a0 := x0.a0, a1 := x0.a1, a2 := x0.a2, a3 := x0.a3, a4 := x0.a4, a5 := x0.a5, a6 := x0.a6, a7 := x0.a7, a8 := true, a9 := x1, a10 := x2, a11 := x2 } == (0 : Int)))) (.ret (.r0 (false)))) (.ret (.r0 (false)))))) .fail))
noncomputable def f5 (N : Nat) (x0 : S23) (x1 : Int) (x2 : Int) : Option f5o := Tr.run (f5t0 x0 x1 x2)
theorem f5_run (N : Nat) (x0 : S23) (x1 : Int) (x2 : Int) : (evRes (E3 N) (100 : Nat) (5 : Nat) [(S23v x0), PV.int IntKind.i64 x1, PV.int IntKind.i64 x2]).run = (f5 N x0 x1 x2).map f5W := (Tr.run_of (g := (f5t0 x0 x1 x2)) (f := f5W) (by kernel_rfl))
def f5s : List PK := [S23k, (false, [K.int .i64]), (false, [K.int .i64])]
noncomputable def f5a (ps : List PV) : Option f5o := f5 0 (S23r (ps.headD PV.undef)) (pInt (ps.tail.headD PV.undef)) (pInt (ps.tail.tail.headD PV.undef))
noncomputable def f5d : f5o := ⟨false⟩
noncomputable def f5O : Ora := ⟨fun ps => okPs f5s ps && (f5a ps).isSome, fun ps => (f5W ((f5a ps).getD f5d)).plain⟩
theorem f5_spec : Spec Try.prog 5 f5O := spec_at 100 f5s (fun ps => (f5a ps).isSome) _ mixed fun ps hm hs hp => by
  cases h : f5a ps with
  | none => rw [h] at hp; cases hp
  | some o =>

    refine ⟨E3 0, f5W o, rfl, E3_ok 0, ?_, .inr ?_⟩
    · rw [show canPs f5s ps = [S23v (S23r (ps.headD PV.undef)), PV.int IntKind.i64 (pInt (ps.tail.headD PV.undef)), PV.int IntKind.i64 (pInt (ps.tail.tail.headD PV.undef))] from by kernel_rfl, f5_run 0]
      show (f5a ps).map f5W = _
      rw [h]; rfl
    · rfl
end Go.Proofs.YtalmkdahapemcaaS
