/- The law BatchJoins in plain form, printed. Conditions: none. -/
import Derived.Test.YtahflgbdcnipnaaU2
import Derived.Test.YtahflgbdcnipnaaF4
set_option linter.unusedVariables false
set_option linter.unusedSimpArgs false
set_option maxRecDepth 10000
namespace Go.Proofs.YtahflgbdcnipnaaS
open Go Go.Proofs
noncomputable def E6 (N : Nat) : Env := ((E4 N).add 13 f13O).add 15 f15O
theorem E6_ok (N : Nat) : (E6 N).Ok := ((E4_ok N).add f13_spec).add f15_spec
set_option maxHeartbeats 4000000
structure f3o where
  r0 ::
  (y1 : Bool)
noncomputable def f3W (o : f3o) : Res := (fun y1 => Res.pv (PV.bool y1)) o.y1
noncomputable def f3t0 (x0 : List (List PV)) (x1 : List (List PV)) (x2 : List (List PV)) (x3 : Int) : Tr f3o := (.test (decide ((↑x0.length : Int) > (50 : Int))) (.ret (.r0 (true))) (.test (decide ((↑x1.length : Int) > (50 : Int))) (.ret (.r0 (true))) (.test (decide ((↑x2.length : Int) > (50 : Int))) (.ret (.r0 (true))) (.test ((f12 (0 : Nat) [[PV.list (44 : Nat) x0], [PV.list (44 : Nat) x1], [PV.list (44 : Nat) x2]]).isSome) (.test (decide (((f12 (0 : Nat) [[PV.list (44 : Nat) x0], [PV.list (44 : Nat) x1], [PV.list (44 : Nat) x2]]).getD f12d).y0.length ≤ most)) (.test (decide (x0.length ≤ most)) (.test (decide (x1.length ≤ most)) (.test (decide (x2.length ≤ most)) (.test (pre13 [[PV.list (49 : Nat) x0], [PV.list (49 : Nat) x1], [PV.list (49 : Nat) x2]]) (.test (decide (((f12 (0 : Nat) [[PV.list (44 : Nat) x0], [PV.list (44 : Nat) x1], [PV.list (44 : Nat) x2]]).getD f12d).y0.length ≤ huge)) (.test (alike same3 ((f12 (0 : Nat) [[PV.list (44 : Nat) x0], [PV.list (44 : Nat) x1], [PV.list (44 : Nat) x2]]).getD f12d).y0 (flat [[PV.list (49 : Nat) x0], [PV.list (49 : Nat) x1], [PV.list (49 : Nat) x2]])) (.test ((f14 (0 : Nat) x0 x3).isSome) (.test (decide (((f14 (0 : Nat) x0 x3).getD f14d).y1.length ≤ most)) (.test (decide (x0.length ≤ most)) (.test (decide (x0.length ≤ most)) (.test (decide (((f14 (0 : Nat) x0 x3).getD f14d).y1.length ≤ huge)) (.test (alike same3 ((f14 (0 : Nat) x0 x3).getD f14d).y1 (List.take (uptoN x0 x3) x0)) (.ret (.r0 (true))) (.ret (.r0 (false)))) .fail) .fail) .fail) .fail) .fail) (.ret (.r0 (false)))) .fail) .fail) .fail) .fail) .fail) .fail) .fail))))
noncomputable def f3 (N : Nat) (x0 : List (List PV)) (x1 : List (List PV)) (x2 : List (List PV)) (x3 : Int) : Option f3o := Tr.run (f3t0 x0 x1 x2 x3)
theorem f3_run (N : Nat) (x0 : List (List PV)) (x1 : List (List PV)) (x2 : List (List PV)) (x3 : Int) : (evRes (E6 N) (100 : Nat) (3 : Nat) [PV.list (44 : Nat) x0, PV.list (44 : Nat) x1, PV.list (44 : Nat) x2, PV.int IntKind.i64 x3]).run = (f3 N x0 x1 x2 x3).map f3W := (Tr.run_of (g := (f3t0 x0 x1 x2 x3)) (f := f3W) (by kernel_rfl))
def f3s : List PK := [(false, [K.list 44]), (false, [K.list 44]), (false, [K.list 44]), (false, [K.int .i64])]
noncomputable def f3a (ps : List PV) : Option f3o := f3 0 (pList (ps.headD PV.undef)) (pList (ps.tail.headD PV.undef)) (pList (ps.tail.tail.headD PV.undef)) (pInt (ps.tail.tail.tail.headD PV.undef))
noncomputable def f3d : f3o := ⟨false⟩
noncomputable def f3O : Ora := ⟨fun ps => okPs f3s ps && (f3a ps).isSome, fun ps => (f3W ((f3a ps).getD f3d)).plain⟩
theorem f3_spec : Spec Try.prog 3 f3O := spec_at 100 f3s (fun ps => (f3a ps).isSome) _ mixed fun ps hm hs hp => by
  cases h : f3a ps with
  | none => rw [h] at hp; cases hp
  | some o =>

    refine ⟨E6 0, f3W o, rfl, E6_ok 0, ?_, .inr ?_⟩
    · rw [show canPs f3s ps = [PV.list 44 (pList (ps.headD PV.undef)), PV.list 44 (pList (ps.tail.headD PV.undef)), PV.list 44 (pList (ps.tail.tail.headD PV.undef)), PV.int IntKind.i64 (pInt (ps.tail.tail.tail.headD PV.undef))] from by kernel_rfl, f3_run 0]
      show (f3a ps).map f3W = _
      rw [h]; rfl
    · rfl
end Go.Proofs.YtahflgbdcnipnaaS
