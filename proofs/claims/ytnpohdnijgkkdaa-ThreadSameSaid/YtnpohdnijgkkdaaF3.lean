/- More functions of the chapter in plain form, printed. Conditions: none. -/
import Derived.Test.YtnpohdnijgkkdaaU3
set_option linter.unusedVariables false
set_option maxRecDepth 10000
namespace Go.Proofs.YtnpohdnijgkkdaaS
open Go Go.Proofs
noncomputable def E2 (N : Nat) : Env := ((((((((((E1 N).add 11 f11O).add 12 f12O).add 13 f13O).add 14 f14O).add 18 f18O).add 29 f29O).add 31 f31O).add 32 f32O).add 33 f33O).add 34 f34O
theorem E2_ok (N : Nat) : (E2 N).Ok := ((((((((((E1_ok N).add f11_spec).add f12_spec).add f13_spec).add f14_spec).add f18_spec).add f29_spec).add f31_spec).add f32_spec).add f33_spec).add f34_spec
set_option maxHeartbeats 4000000
abbrev f22o := S65
noncomputable def f22W (o : f22o) : Res := Res.pv (S65v o)
noncomputable def f22t0 (x0 : S55) : Tr f22o := (.test (f29O.pre [PV.agg [PV.list (3 : Nat) x0.a14, PV.list (26 : Nat) x0.a15]]) (.test (f13O.pre [PV.agg [PV.int IntKind.i64 x0.a16, PV.int IntKind.i64 x0.a17, PV.int IntKind.i64 x0.a18, PV.int IntKind.i64 x0.a19, PV.list (77 : Nat) x0.a20, PV.list (84 : Nat) x0.a21, PV.list (3 : Nat) x0.a22, PV.int IntKind.i64 x0.a23, PV.int IntKind.i64 x0.a24, PV.int IntKind.i64 x0.a25, PV.int IntKind.i64 x0.a26, PV.int IntKind.i64 x0.a27, PV.int IntKind.i64 x0.a28, PV.int IntKind.i64 x0.a29, PV.int IntKind.i64 x0.a30, PV.int IntKind.i64 x0.a31, PV.int IntKind.i64 x0.a32]]) (.test (f30O.pre [PV.list (94 : Nat) x0.a35]) (.ret (.mk (x0.a0) (x0.a1) (x0.a2) (x0.a3) (x0.a4) (x0.a5) (x0.a6) (x0.a7) (x0.a8) (x0.a9) (x0.a10) (x0.a11) (x0.a12) (x0.a13) (x0.a14) (List.map box86 x0.a15) (x0.a16) (x0.a17) (x0.a18) (x0.a19) (x0.a20) (x0.a21) (x0.a22) (x0.a23) (x0.a24) (x0.a25) (x0.a26) (x0.a27) (x0.a28) (x0.a29) (x0.a30) (x0.a31) (x0.a32) (x0.a33) (x0.a34) (x0.a35) (x0.a36))) .fail) .fail) .fail)
noncomputable def f22 (N : Nat) (x0 : S55) : Option f22o := Tr.run (f22t0 x0)
theorem f22_run (N : Nat) (x0 : S55) : (evRes (E2 N) (100 : Nat) (22 : Nat) [(S55v x0)]).run = (f22 N x0).map f22W := (Tr.run_of (g := (f22t0 x0)) (f := f22W) (by kernel_rfl))
def f22s : List PK := [S55k]
noncomputable def f22a (ps : List PV) : Option f22o := f22 0 (S55r (ps.headD PV.undef))
noncomputable def f22d : f22o := ⟨0, 0, 0, 0, 0, 0, 0, 0, false, 0, 0, 0, 0, 0, [], [], 0, 0, 0, 0, [], [], [], 0, 0, 0, 0, 0, 0, 0, 0, 0, 0, [], 0, [], false⟩
noncomputable def f22O : Ora := ⟨fun ps => okPs f22s ps && (f22a ps).isSome, fun ps => (f22W ((f22a ps).getD f22d)).plain⟩
theorem f22_spec : Spec Try.prog 22 f22O := spec_at 100 f22s (fun ps => (f22a ps).isSome) _ mixed fun ps hm hs hp => by
  cases h : f22a ps with
  | none => rw [h] at hp; cases hp
  | some o =>

    refine ⟨E2 0, f22W o, rfl, E2_ok 0, ?_, .inr ?_⟩
    · rw [show canPs f22s ps = [S55v (S55r (ps.headD PV.undef))] from by kernel_rfl, f22_run 0]
      show (f22a ps).map f22W = _
      rw [h]; rfl
    · rfl
structure f23o where
  r0 ::
  (y1 : Bool)
noncomputable def f23W (o : f23o) : Res := (fun y1 => Res.pv (PV.bool y1)) o.y1
noncomputable def f23t0 (x0 : S30) (x1 : S30) : Tr f23o := (.test (((f31a [PV.list (3 : Nat) [[PV.int IntKind.i64 x0.a0], [PV.int IntKind.i64 x0.a1], [PV.int IntKind.i64 x0.a2], [PV.int IntKind.i64 x0.a3], [PV.int IntKind.i64 x0.a7], [PV.int IntKind.i64 x0.a8], [PV.int IntKind.i64 x0.a9], [PV.int IntKind.i64 x0.a10], [PV.int IntKind.i64 x0.a11], [PV.int IntKind.i64 x0.a12], [PV.int IntKind.i64 x0.a13], [PV.int IntKind.i64 x0.a14], [PV.int IntKind.i64 x0.a15], [PV.int IntKind.i64 x0.a16]], PV.list (3 : Nat) [[PV.int IntKind.i64 x1.a0], [PV.int IntKind.i64 x1.a1], [PV.int IntKind.i64 x1.a2], [PV.int IntKind.i64 x1.a3], [PV.int IntKind.i64 x1.a7], [PV.int IntKind.i64 x1.a8], [PV.int IntKind.i64 x1.a9], [PV.int IntKind.i64 x1.a10], [PV.int IntKind.i64 x1.a11], [PV.int IntKind.i64 x1.a12], [PV.int IntKind.i64 x1.a13], [PV.int IntKind.i64 x1.a14], [PV.int IntKind.i64 x1.a15], [PV.int IntKind.i64 x1.a16]]]).getD f31d).y0) (.test (f31O.pre [PV.list (3 : Nat) x0.a6, PV.list (3 : Nat) x1.a6]) (.test (((f31a [PV.list (3 : Nat) x0.a6, PV.list (3 : Nat) x1.a6]).getD f31d).y0) (.test (f33O.pre [PV.list (84 : Nat) x0.a5, PV.list (84 : Nat) x1.a5]) (.test (((f33a [PV.list (84 : Nat) x0.a5, PV.list (84 : Nat) x1.a5]).getD f33d).y0) (.test (f34O.pre [PV.list (77 : Nat) x0.a4, PV.list (77 : Nat) x1.a4]) (.ret (.r0 (((f34a [PV.list (77 : Nat) x0.a4, PV.list (77 : Nat) x1.a4]).getD f34d).y0))) .fail) (.ret (.r0 (false)))) .fail) (.ret (.r0 (false)))) .fail) (.ret (.r0 (false))))
noncomputable def f23 (N : Nat) (x0 : S30) (x1 : S30) : Option f23o := Tr.run (f23t0 x0 x1)
theorem f23_run (N : Nat) (x0 : S30) (x1 : S30) : (evRes (E2 N) (100 : Nat) (23 : Nat) [(S30v x0), (S30v x1)]).run = (f23 N x0 x1).map f23W := (Tr.run_of (g := (f23t0 x0 x1)) (f := f23W) (by kernel_rfl))
def f23s : List PK := [S30k, S30k]
noncomputable def f23a (ps : List PV) : Option f23o := f23 0 (S30r (ps.headD PV.undef)) (S30r (ps.tail.headD PV.undef))
noncomputable def f23d : f23o := ⟨false⟩
noncomputable def f23O : Ora := ⟨fun ps => okPs f23s ps && (f23a ps).isSome, fun ps => (f23W ((f23a ps).getD f23d)).plain⟩
theorem f23_spec : Spec Try.prog 23 f23O := spec_at 100 f23s (fun ps => (f23a ps).isSome) _ mixed fun ps hm hs hp => by
  cases h : f23a ps with
  | none => rw [h] at hp; cases hp
  | some o =>

    refine ⟨E2 0, f23W o, rfl, E2_ok 0, ?_, .inr ?_⟩
    · rw [show canPs f23s ps = [S30v (S30r (ps.headD PV.undef)), S30v (S30r (ps.tail.headD PV.undef))] from by kernel_rfl, f23_run 0]
      show (f23a ps).map f23W = _
      rw [h]; rfl
    · rfl
end Go.Proofs.YtnpohdnijgkkdaaS
