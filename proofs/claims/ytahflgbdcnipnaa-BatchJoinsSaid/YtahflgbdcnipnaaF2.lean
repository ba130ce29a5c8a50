/- More functions of the chapter in plain form, printed. Conditions: none. -/
import Derived.Test.YtahflgbdcnipnaaJ3
import Derived.Test.YtahflgbdcnipnaaU1
set_option linter.unusedVariables false
set_option linter.unusedSimpArgs false
set_option maxRecDepth 10000
namespace Go.Proofs.YtahflgbdcnipnaaS
open Go Go.Proofs
noncomputable def E2 (N : Nat) : Env := (((((((((E1 N).add 10 f10O).add 11 f11O).add 14 f14O).add 16 f16O).add 17 f17O).add 18 f18O).add 19 f19O).add 21 f21O).add 26 f26O
theorem E2_ok (N : Nat) : (E2 N).Ok := (((((((((E1_ok N).add f10_spec).add f11_spec).add f14_spec).add f16_spec).add f17_spec).add f18_spec).add f19_spec).add f21_spec).add f26_spec
set_option maxHeartbeats 4000000
structure f12o where
  r0 ::
  (y0 : List (List PV))
noncomputable def f12W (o : f12o) : Res := (fun y0 => Res.pv (PV.list (44 : Nat) y0)) o.y0
def f12rs : List PK := [(false, [K.list 44])]
noncomputable def f12 (N : Nat) (x0 : List (List PV)) : Option f12o := Tr.run (.test (pre21 x0) (.ret (.r0 (flat x0))) .fail)
theorem f12_run (N : Nat) (x0 : List (List PV)) : (evFit f12rs (evRes (E2 N) (100 : Nat) (12 : Nat) [PV.list (22 : Nat) x0])).run = (f12 N x0).map f12W := (Tr.run_of (g := (.test (pre21 x0) (.ret (.r0 (flat x0))) .fail)) (f := f12W) (by kernel_rfl))
def f12s : List PK := [(false, [K.list 22])]
noncomputable def f12a (ps : List PV) : Option f12o := f12 0 (pList (ps.headD PV.undef))
noncomputable def f12d : f12o := ⟨[]⟩
noncomputable def f12O : Ora := ⟨fun ps => okPs f12s ps && (f12a ps).isSome, fun ps => (f12W ((f12a ps).getD f12d)).plain⟩
theorem f12_spec : Spec Try.prog 12 f12O := spec_fit 100 f12rs f12s (fun ps => (f12a ps).isSome) _ mixed fun ps hm hs hp => by
  cases h : f12a ps with
  | none => rw [h] at hp; cases hp
  | some o =>

    refine ⟨E2 0, f12W o, rfl, E2_ok 0, ?_, .inr ?_⟩
    · rw [show canPs f12s ps = [PV.list 22 (pList (ps.headD PV.undef))] from by kernel_rfl, f12_run 0]
      show (f12a ps).map f12W = _
      rw [h]; rfl
    · rfl
structure f20o where
  r0 ::
  (y0 : Bool)
noncomputable def f20W (o : f20o) : Res := (fun y0 => Res.pv (PV.bool y0)) o.y0
noncomputable def f20 (N : Nat) (x0 : List (List PV)) (x1 : Int) (x2 : Int) (x3 : Int) : Option f20o := Tr.run (.test (decide (x0.length < (1000000 : Nat))) (.ret (.r0 (allOf x0 x1 x2 x3 == x1))) .fail)
theorem f20_run (N : Nat) (x0 : List (List PV)) (x1 : Int) (x2 : Int) (x3 : Int) : (evRes (E2 N) (100 : Nat) (20 : Nat) [PV.list (44 : Nat) x0, PV.int IntKind.i64 x1, PV.int IntKind.i64 x2, PV.int IntKind.i64 x3]).run = (f20 N x0 x1 x2 x3).map f20W := (Tr.run_of (g := (.test (decide (x0.length < (1000000 : Nat))) (.ret (.r0 (allOf x0 x1 x2 x3 == x1))) .fail)) (f := f20W) (by kernel_rfl))
def f20s : List PK := [(false, [K.list 44]), (false, [K.int .i64]), (false, [K.int .i64]), (false, [K.int .i64])]
noncomputable def f20a (ps : List PV) : Option f20o := f20 0 (pList (ps.headD PV.undef)) (pInt (ps.tail.headD PV.undef)) (pInt (ps.tail.tail.headD PV.undef)) (pInt (ps.tail.tail.tail.headD PV.undef))
noncomputable def f20d : f20o := ⟨false⟩
noncomputable def f20O : Ora := ⟨fun ps => okPs f20s ps && (f20a ps).isSome, fun ps => (f20W ((f20a ps).getD f20d)).plain⟩
theorem f20_spec : Spec Try.prog 20 f20O := spec_at 100 f20s (fun ps => (f20a ps).isSome) _ mixed fun ps hm hs hp => by
  cases h : f20a ps with
  | none => rw [h] at hp; cases hp
  | some o =>

    refine ⟨E2 0, f20W o, rfl, E2_ok 0, ?_, .inr ?_⟩
    · rw [show canPs f20s ps = [PV.list 44 (pList (ps.headD PV.undef)), PV.int IntKind.i64 (pInt (ps.tail.headD PV.undef)), PV.int IntKind.i64 (pInt (ps.tail.tail.headD PV.undef)), PV.int IntKind.i64 (pInt (ps.tail.tail.tail.headD PV.undef))] from by kernel_rfl, f20_run 0]
      show (f20a ps).map f20W = _
      rw [h]; rfl
    · rfl
end Go.Proofs.YtahflgbdcnipnaaS
