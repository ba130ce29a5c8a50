/- A law in plain form, printed. Conditions: none. -/
import Derived.Test.YtkdbccloniaogaaF4
set_option linter.unusedVariables false
set_option linter.unusedSimpArgs false
set_option maxRecDepth 10000
namespace Go.Proofs.YtkdbccloniaogaaS
open Go Go.Proofs
noncomputable def E5 (N : Nat) : Env := (((((((((E0 N).add 9 f9O).add 10 f10O).add 11 f11P).add 12 f12P).add 13 f13O).add 14 f14O).add 15 f15O).add 16 f16P).add 18 f18P
theorem E5_ok (N : Nat) : (E5 N).Ok := (((((((((E0_ok N).add f9_spec).add f10_spec).add f11P_spec).add f12P_spec).add f13_spec).add f14_spec).add f15_spec).add f16P_spec).add f18P_spec
set_option maxHeartbeats 4000000
structure f7o where
  r0 ::
  (y1 : Bool)
noncomputable def f7W (o : f7o) : Res := (fun y1 => Res.pv (PV.bool y1)) o.y1
noncomputable def f7t0 (x0 : S23) (x1 : List (List PV)) (x2 : List (List PV)) : Tr f7o := (.test (decide ((↑x1.length : Int) > (100 : Int))) (.ret (.r0 (true))) (.test (decide ((↑x2.length : Int) > (100 : Int))) (.ret (.r0 (true))) (.test (decide (x1.length ≤ most)) (.test (decide (x1.length + x2.length ≤ most)) (.test (decide (x1.length ≤ (1000000 : Nat))) (.test (decide (x2.length ≤ (1000000 : Nat))) (.test (decide ((x1 ++ x2).length ≤ (1000000 : Nat))) (.test (decide ((x1 ++ x2).length ≤ (10000 : Nat))) (.test (decide (x1.length ≤ (10000 : Nat))) (.test (decide (x2.length ≤ (10000 : Nat))) (.test (decide ((strOf (encs x1)).size + (strOf (encs x2)).size ≤ (4611686018427387904 : Nat))) (.test (!(strOf (encs (x1 ++ x2))).toList == (strOf (encs x1) ++ strOf (encs x2)).toList) (.ret (.r0 (false))) (.test ((all11R x0 x1).snd != (0 : Int)) (.test ((all11R x0 (x1 ++ x2)).snd == (all11R x0 x1).snd) (.ret (.r0 ((all11R x0 (x1 ++ x2)).fst == (all11R x0 x1).fst))) (.ret (.r0 (false)))) (.test ((all11R x0 x2).snd != (0 : Int)) (.test ((all11R x0 (x1 ++ x2)).snd == (all11R x0 x2).snd) (.ret (.r0 ((all11R x0 (x1 ++ x2)).fst == IntKind.i64.wrap ((↑x1.length : Int) + (all11R x0 x2).fst)))) (.ret (.r0 (false)))) (.test ((all11R x0 (x1 ++ x2)).snd == (0 : Int)) (.ret (.r0 ((all11R x0 (x1 ++ x2)).fst == (0 : Int)))) (.ret (.r0 (false))))))) .fail) .fail) .fail) .fail) .fail) .fail) .fail) .fail) .fail)))
noncomputable def f7 (N : Nat) (x0 : S23) (x1 : List (List PV)) (x2 : List (List PV)) : Option f7o := Tr.run (f7t0 x0 x1 x2)
theorem f7_run (N : Nat) (x0 : S23) (x1 : List (List PV)) (x2 : List (List PV)) : (evRes (E5 N) (100 : Nat) (7 : Nat) [(S23v x0), PV.list (38 : Nat) x1, PV.list (38 : Nat) x2]).run = (f7 N x0 x1 x2).map f7W := (Tr.run_of (g := (f7t0 x0 x1 x2)) (f := f7W) (by kernel_rfl))
def f7s : List PK := [S23k, (false, [K.list 38]), (false, [K.list 38])]
noncomputable def f7a (ps : List PV) : Option f7o := f7 0 (S23r (ps.headD PV.undef)) (pList (ps.tail.headD PV.undef)) (pList (ps.tail.tail.headD PV.undef))
noncomputable def f7d : f7o := ⟨false⟩
noncomputable def f7O : Ora := ⟨fun ps => okPs f7s ps && (f7a ps).isSome, fun ps => (f7W ((f7a ps).getD f7d)).plain⟩
theorem f7_spec : Spec Try.prog 7 f7O := spec_at 100 f7s (fun ps => (f7a ps).isSome) _ mixed fun ps hm hs hp => by
  cases h : f7a ps with
  | none => rw [h] at hp; cases hp
  | some o =>

    refine ⟨E5 0, f7W o, rfl, E5_ok 0, ?_, .inr ?_⟩
    · rw [show canPs f7s ps = [S23v (S23r (ps.headD PV.undef)), PV.list 38 (pList (ps.tail.headD PV.undef)), PV.list 38 (pList (ps.tail.tail.headD PV.undef))] from by kernel_rfl, f7_run 0]
      show (f7a ps).map f7W = _
      rw [h]; rfl
    · rfl
end Go.Proofs.YtkdbccloniaogaaS
