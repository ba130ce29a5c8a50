/- Functions of the chapter in plain form, printed. Conditions: none. -/
import Derived.Test.YtfkndbihfdjinaaC1
set_option linter.unusedVariables false
set_option linter.unusedSimpArgs false
set_option maxRecDepth 10000
namespace Go.Proofs.YtfkndbihfdjinaaS
open Go Go.Proofs
noncomputable def E1 (N : Nat) : Env := (E0 N).add 49 f49O
theorem E1_ok (N : Nat) : (E1 N).Ok := (E0_ok N).add f49_spec
set_option maxHeartbeats 4000000
structure f8o where
  r0 ::
  (y7 : Bool)
noncomputable def f8W (o : f8o) : Res := (fun y7 => Res.pv (PV.bool y7)) o.y7
noncomputable def f8L0c (N : Nat) (x0 : S38) : Code := Tr.waitC (evRes (E1 N) (100 : Nat) (8 : Nat) [(S38v x0)])
inductive f8L0s where
  | s0 (y3 : Int)
noncomputable def f8L0S (x0 : S38) : f8L0s → St
  | .s0 y3 => { tmps := [AV.pv PV.undef, AV.ptr (1 : Nat) (0 : Nat), AV.pv PV.undef, AV.pv (PV.int IntKind.i64 y3), AV.pv PV.undef, AV.pv PV.undef, AV.pv PV.undef, AV.pv PV.undef, AV.pv PV.undef, AV.pv PV.undef, AV.pv PV.undef, AV.pv PV.undef, AV.pv PV.undef, AV.pv PV.undef, AV.pv PV.undef, AV.pv PV.undef, AV.pv PV.undef, AV.pv PV.undef, AV.pv PV.undef, AV.pv PV.undef, AV.pv PV.undef, AV.pv PV.undef, AV.pv PV.undef, AV.pv PV.undef, AV.pv PV.undef, AV.pv PV.undef, AV.pv PV.undef, AV.pv PV.undef, AV.pv PV.undef, AV.pv PV.undef, AV.pv PV.undef, AV.pv PV.undef, AV.pv PV.undef, AV.pv PV.undef, AV.pv PV.undef, AV.pv PV.undef, AV.pv PV.undef, AV.pv PV.undef, AV.pv PV.undef, AV.pv PV.undef, AV.pv PV.undef, AV.pv PV.undef, AV.pv PV.undef, AV.pv PV.undef, AV.pv PV.undef, AV.pv PV.undef, AV.pv PV.undef, AV.pv PV.undef, AV.pv PV.undef, AV.pv PV.undef, AV.pv PV.undef, AV.pv PV.undef, AV.pv PV.undef, AV.pv PV.undef, AV.pv PV.undef, AV.pv PV.undef, AV.pv PV.undef, AV.pv PV.undef, AV.pv PV.undef, AV.pv PV.undef, AV.pv PV.undef, AV.pv PV.undef, AV.pv PV.undef, AV.pv PV.undef, AV.pv PV.undef, AV.pv PV.undef, AV.pv PV.undef, AV.pv PV.undef, AV.pv PV.undef, AV.pv PV.undef], stack := [], mem := [((1 : Nat), Ob.box [AV.pv (PV.int IntKind.i64 x0.a0), AV.pv (PV.int IntKind.i64 x0.a1), AV.pv (PV.int IntKind.i64 x0.a2), AV.pv (PV.int IntKind.i64 x0.a3), AV.pv (PV.int IntKind.i64 x0.a4), AV.pv (PV.int IntKind.i64 x0.a5), AV.pv (PV.int IntKind.i64 x0.a6), AV.pv (PV.int IntKind.i64 x0.a7), AV.pv (PV.bool x0.a8), AV.pv (PV.int IntKind.i64 x0.a9), AV.pv (PV.int IntKind.i64 x0.a10), AV.pv (PV.int IntKind.i64 x0.a11), AV.pv (PV.int IntKind.i64 x0.a12), AV.pv (PV.int IntKind.i64 x0.a13), AV.pv (PV.list (3 : Nat) x0.a14), AV.pv (PV.list (30 : Nat) x0.a15), AV.pv (PV.int IntKind.i64 x0.a16), AV.pv (PV.int IntKind.i64 x0.a17), AV.pv (PV.int IntKind.i64 x0.a18), AV.pv (PV.int IntKind.i64 x0.a19), AV.pv (PV.list (51 : Nat) x0.a20), AV.pv (PV.list (94 : Nat) x0.a21), AV.pv (PV.list (3 : Nat) x0.a22), AV.pv (PV.int IntKind.i64 x0.a23), AV.pv (PV.int IntKind.i64 x0.a24), AV.pv (PV.int IntKind.i64 x0.a25), AV.pv (PV.int IntKind.i64 x0.a26), AV.pv (PV.int IntKind.i64 x0.a27), AV.pv (PV.int IntKind.i64 x0.a28), AV.pv (PV.int IntKind.i64 x0.a29), AV.pv (PV.int IntKind.i64 x0.a30), AV.pv (PV.int IntKind.i64 x0.a31), AV.pv (PV.int IntKind.i64 x0.a32), AV.pv (PV.list (3 : Nat) x0.a33), AV.pv (PV.int IntKind.i64 x0.a34), AV.pv (PV.list (49 : Nat) x0.a35), AV.pv (PV.bool x0.a36)])], cur := (0 : Nat), ctr := (1 : Nat), fn := (8 : Nat) }
inductive f8L0e where
  | e0 
  | e1 
noncomputable def f8L0T (x0 : S38) : f8L0e → (Ex × St)
  | .e0  => (Ex.ret, { tmps := [AV.pv PV.undef, AV.ptr (1 : Nat) (0 : Nat), AV.pv (PV.bool true), AV.pv PV.undef, AV.pv PV.undef, AV.pv PV.undef, AV.pv PV.undef, AV.pv PV.undef, AV.pv PV.undef, AV.pv PV.undef, AV.pv PV.undef, AV.pv PV.undef, AV.pv PV.undef, AV.pv PV.undef, AV.pv PV.undef, AV.pv PV.undef, AV.pv PV.undef, AV.pv PV.undef, AV.pv PV.undef, AV.pv PV.undef, AV.pv PV.undef, AV.pv PV.undef, AV.pv PV.undef, AV.pv PV.undef, AV.pv PV.undef, AV.pv PV.undef, AV.pv PV.undef, AV.pv PV.undef, AV.pv PV.undef, AV.pv PV.undef, AV.pv PV.undef, AV.pv PV.undef, AV.pv PV.undef, AV.pv PV.undef, AV.pv PV.undef, AV.pv PV.undef, AV.pv PV.undef, AV.pv PV.undef, AV.pv PV.undef, AV.pv PV.undef, AV.pv PV.undef, AV.pv PV.undef, AV.pv PV.undef, AV.pv PV.undef, AV.pv PV.undef, AV.pv PV.undef, AV.pv PV.undef, AV.pv PV.undef, AV.pv PV.undef, AV.pv PV.undef, AV.pv PV.undef, AV.pv PV.undef, AV.pv PV.undef, AV.pv PV.undef, AV.pv PV.undef, AV.pv PV.undef, AV.pv PV.undef, AV.pv PV.undef, AV.pv PV.undef, AV.pv PV.undef, AV.pv PV.undef, AV.pv PV.undef, AV.pv PV.undef, AV.pv PV.undef, AV.pv PV.undef, AV.pv PV.undef, AV.pv PV.undef, AV.pv PV.undef, AV.pv PV.undef, AV.pv PV.undef], stack := [], mem := [((1 : Nat), Ob.box [AV.pv (PV.int IntKind.i64 x0.a0), AV.pv (PV.int IntKind.i64 x0.a1), AV.pv (PV.int IntKind.i64 x0.a2), AV.pv (PV.int IntKind.i64 x0.a3), AV.pv (PV.int IntKind.i64 x0.a4), AV.pv (PV.int IntKind.i64 x0.a5), AV.pv (PV.int IntKind.i64 x0.a6), AV.pv (PV.int IntKind.i64 x0.a7), AV.pv (PV.bool x0.a8), AV.pv (PV.int IntKind.i64 x0.a9), AV.pv (PV.int IntKind.i64 x0.a10), AV.pv (PV.int IntKind.i64 x0.a11), AV.pv (PV.int IntKind.i64 x0.a12), AV.pv (PV.int IntKind.i64 x0.a13), AV.pv (PV.list (3 : Nat) x0.a14), AV.pv (PV.list (30 : Nat) x0.a15), AV.pv (PV.int IntKind.i64 x0.a16), AV.pv (PV.int IntKind.i64 x0.a17), AV.pv (PV.int IntKind.i64 x0.a18), AV.pv (PV.int IntKind.i64 x0.a19), AV.pv (PV.list (51 : Nat) x0.a20), AV.pv (PV.list (94 : Nat) x0.a21), AV.pv (PV.list (3 : Nat) x0.a22), AV.pv (PV.int IntKind.i64 x0.a23), AV.pv (PV.int IntKind.i64 x0.a24), AV.pv (PV.int IntKind.i64 x0.a25), AV.pv (PV.int IntKind.i64 x0.a26), AV.pv (PV.int IntKind.i64 x0.a27), AV.pv (PV.int IntKind.i64 x0.a28), AV.pv (PV.int IntKind.i64 x0.a29), AV.pv (PV.int IntKind.i64 x0.a30), AV.pv (PV.int IntKind.i64 x0.a31), AV.pv (PV.int IntKind.i64 x0.a32), AV.pv (PV.list (3 : Nat) x0.a33), AV.pv (PV.int IntKind.i64 x0.a34), AV.pv (PV.list (49 : Nat) x0.a35), AV.pv (PV.bool x0.a36)])], cur := (0 : Nat), ctr := (1 : Nat), fn := (8 : Nat) })
  | .e1  => (Ex.exit (0 : Nat), { tmps := [AV.pv PV.undef, AV.ptr (1 : Nat) (0 : Nat), AV.pv PV.undef, AV.pv PV.undef, AV.pv PV.undef, AV.pv PV.undef, AV.pv PV.undef, AV.pv PV.undef, AV.pv PV.undef, AV.pv PV.undef, AV.pv PV.undef, AV.pv PV.undef, AV.pv PV.undef, AV.pv PV.undef, AV.pv PV.undef, AV.pv PV.undef, AV.pv PV.undef, AV.pv PV.undef, AV.pv PV.undef, AV.pv PV.undef, AV.pv PV.undef, AV.pv PV.undef, AV.pv PV.undef, AV.pv PV.undef, AV.pv PV.undef, AV.pv PV.undef, AV.pv PV.undef, AV.pv PV.undef, AV.pv PV.undef, AV.pv PV.undef, AV.pv PV.undef, AV.pv PV.undef, AV.pv PV.undef, AV.pv PV.undef, AV.pv PV.undef, AV.pv PV.undef, AV.pv PV.undef, AV.pv PV.undef, AV.pv PV.undef, AV.pv PV.undef, AV.pv PV.undef, AV.pv PV.undef, AV.pv PV.undef, AV.pv PV.undef, AV.pv PV.undef, AV.pv PV.undef, AV.pv PV.undef, AV.pv PV.undef, AV.pv PV.undef, AV.pv PV.undef, AV.pv PV.undef, AV.pv PV.undef, AV.pv PV.undef, AV.pv PV.undef, AV.pv PV.undef, AV.pv PV.undef, AV.pv PV.undef, AV.pv PV.undef, AV.pv PV.undef, AV.pv PV.undef, AV.pv PV.undef, AV.pv PV.undef, AV.pv PV.undef, AV.pv PV.undef, AV.pv PV.undef, AV.pv PV.undef, AV.pv PV.undef, AV.pv PV.undef, AV.pv PV.undef, AV.pv PV.undef], stack := [], mem := [((1 : Nat), Ob.box [AV.pv (PV.int IntKind.i64 x0.a0), AV.pv (PV.int IntKind.i64 x0.a1), AV.pv (PV.int IntKind.i64 x0.a2), AV.pv (PV.int IntKind.i64 x0.a3), AV.pv (PV.int IntKind.i64 x0.a4), AV.pv (PV.int IntKind.i64 x0.a5), AV.pv (PV.int IntKind.i64 x0.a6), AV.pv (PV.int IntKind.i64 x0.a7), AV.pv (PV.bool x0.a8), AV.pv (PV.int IntKind.i64 x0.a9), AV.pv (PV.int IntKind.i64 x0.a10), AV.pv (PV.int IntKind.i64 x0.a11), AV.pv (PV.int IntKind.i64 x0.a12), AV.pv (PV.int IntKind.i64 x0.a13), AV.pv (PV.list (3 : Nat) x0.a14), AV.pv (PV.list (30 : Nat) x0.a15), AV.pv (PV.int IntKind.i64 x0.a16), AV.pv (PV.int IntKind.i64 x0.a17), AV.pv (PV.int IntKind.i64 x0.a18), AV.pv (PV.int IntKind.i64 x0.a19), AV.pv (PV.list (51 : Nat) x0.a20), AV.pv (PV.list (94 : Nat) x0.a21), AV.pv (PV.list (3 : Nat) x0.a22), AV.pv (PV.int IntKind.i64 x0.a23), AV.pv (PV.int IntKind.i64 x0.a24), AV.pv (PV.int IntKind.i64 x0.a25), AV.pv (PV.int IntKind.i64 x0.a26), AV.pv (PV.int IntKind.i64 x0.a27), AV.pv (PV.int IntKind.i64 x0.a28), AV.pv (PV.int IntKind.i64 x0.a29), AV.pv (PV.int IntKind.i64 x0.a30), AV.pv (PV.int IntKind.i64 x0.a31), AV.pv (PV.int IntKind.i64 x0.a32), AV.pv (PV.list (3 : Nat) x0.a33), AV.pv (PV.int IntKind.i64 x0.a34), AV.pv (PV.list (49 : Nat) x0.a35), AV.pv (PV.bool x0.a36)])], cur := (0 : Nat), ctr := (1 : Nat), fn := (8 : Nat) })
noncomputable def f8L0it5 (x0 : S38) (z4 : Int) : Tr (f8L0s ⊕ f8L0e) := (.test (decide (z4 < (↑x0.a15.length : Int))) (.test (decide (z4 < (20 : Int))) (.test (decide ((0 : Int) ≤ z4) && decide (z4 < (↑x0.a15.length : Int))) (.test (decide ((↑(pList ((x0.a15.getD z4.toNat []).headD PV.undef)).length : Int) > (20 : Int))) (.ret (.inr (.e0))) (.ret (.inl (.s0 (IntKind.i64.wrap (z4 + (1 : Int))))))) .fail) (.ret (.inr (.e1)))) (.ret (.inr (.e1))))
noncomputable def f8L0r (N : Nat) (x0 : S38) : f8L0s → Option (f8L0s ⊕ f8L0e)
  | .s0 z4 => Tr.run (f8L0it5 x0 z4)
theorem f8L0_step (N : Nat) (x0 : S38) : ∀ x, (roundAt (E1 N) (95 : Nat) (8 : Nat) (1 : Nat) (f8L0c N x0) (f8L0S x0 x)).run = (f8L0r N x0 x).map (sumMap (f8L0S x0) (f8L0T x0))
  | .s0 z4 => (Tr.run_of (g := (f8L0it5 x0 z4)) (f := (sumMap (f8L0S x0) (f8L0T x0))) (by kernel_rfl))
noncomputable def f8t6 (x0 : S38) : Tr f8o := (.test (decide ((↑x0.a14.length : Int) > (400 : Int))) (.ret (.r0 (true))) (.test (decide ((↑x0.a15.length : Int) > (16 : Int))) (.ret (.r0 (true))) (.test (decide ((↑x0.a20.length : Int) > (20 : Int))) (.ret (.r0 (true))) (.test (decide ((↑x0.a21.length : Int) > (20 : Int))) (.ret (.r0 (true))) (.test (decide ((↑x0.a22.length : Int) > (20 : Int))) (.ret (.r0 (true))) (.test (decide ((↑x0.a33.length : Int) > (100 : Int))) (.ret (.r0 (true))) (.ret (.r0 (decide ((↑x0.a35.length : Int) > (50 : Int)))))))))))
noncomputable def f8 (N : Nat) (x0 : S38) : Option f8o := ((loopN (f8L0r N x0) N (.s0 ((0 : Int)))).bind (fun
    | .e0  => Tr.run (.ret (.r0 (true)))
    | .e1  => Tr.run (f8t6 x0)))
theorem f8_run (N : Nat) (x0 : S38) : (evRes (E1 N) (100 : Nat) (8 : Nat) [(S38v x0)]).run = (f8 N x0).map f8W := (wait_run (wrap := f8W) (E := E1 N) (n := (95 : Nat)) (f := (8 : Nat)) (c0 := (1 : Nat)) (c := (f8L0c N x0)) (s := Tr.waitS (evRes (E1 N) (100 : Nat) (8 : Nat) [(S38v x0)])) (f8L0S x0) (f8L0T x0) (f8L0r N x0) (.s0 ((0 : Int))) _ (f8L0_step N x0) (by kernel_rfl) (by kernel_rfl) (by kernel_rfl) (by kernel_rfl) (by kernel_rfl) (fun
    | .e0  => (Tr.run_of (g := (.ret (.r0 (true)))) (f := f8W) (by kernel_rfl))
    | .e1  => (Tr.run_of (g := (f8t6 x0)) (f := f8W) (by kernel_rfl))))
inductive f13o where
  | r0 (y15 : List (List PV))
  | r1 (y16 : List (List PV))
noncomputable def f13W  : f13o → Res
  | .r0 y15 => Res.pv (PV.list (63 : Nat) y15)
  | .r1 y16 => Res.fresh (63 : Nat) y16
def f13rs : List PK := [(false, [K.list 63])]
noncomputable def f13L0c (N : Nat) (x0 : List (List PV)) : Code := Tr.waitC (evFit f13rs (evRes (E1 N) (100 : Nat) (13 : Nat) [PV.list (51 : Nat) x0]))
inductive f13L0s where
  | s0 
  | s1 
  | s2 (y5 : Int) (y6 : List (List PV))
noncomputable def f13L0S (x0 : List (List PV)) : f13L0s → St
  | .s0  => { tmps := [AV.pv (PV.list (51 : Nat) x0), AV.pv PV.undef, AV.pv PV.undef, AV.lit (63 : Nat) [], AV.pv (PV.int IntKind.i64 (0 : Int)), AV.pv PV.undef, AV.pv PV.undef, AV.pv PV.undef, AV.pv PV.undef, AV.pv PV.undef, AV.pv PV.undef, AV.pv PV.undef, AV.pv PV.undef, AV.pv PV.undef, AV.pv PV.undef, AV.pv PV.undef, AV.pv PV.undef, AV.pv PV.undef, AV.pv PV.undef, AV.pv PV.undef, AV.pv PV.undef, AV.pv PV.undef, AV.pv PV.undef, AV.pv PV.undef, AV.pv PV.undef, AV.pv PV.undef, AV.pv PV.undef], stack := [], mem := [], cur := (0 : Nat), ctr := (1 : Nat), fn := (13 : Nat) }
  | .s1  => { tmps := [AV.pv (PV.list (51 : Nat) x0), AV.pv PV.undef, AV.pv PV.undef, AV.own (525 : Nat), AV.pv (PV.int IntKind.i64 (1 : Int)), AV.pv PV.undef, AV.pv PV.undef, AV.pv PV.undef, AV.pv PV.undef, AV.pv PV.undef, AV.pv PV.undef, AV.pv PV.undef, AV.pv PV.undef, AV.pv PV.undef, AV.pv PV.undef, AV.pv PV.undef, AV.pv PV.undef, AV.pv PV.undef, AV.pv PV.undef, AV.pv PV.undef, AV.pv PV.undef, AV.pv PV.undef, AV.pv PV.undef, AV.pv PV.undef, AV.pv PV.undef, AV.pv PV.undef, AV.pv PV.undef], stack := [], mem := [((525 : Nat), Ob.row (2 : Nat) (63 : Nat) [[PV.int IntKind.i64 (pInt ((x0.getD (Int.toNat (0 : Int)) []).headD PV.undef)), PV.int IntKind.i64 (pInt ((x0.getD (Int.toNat (0 : Int)) []).tail.headD PV.undef)), PV.int IntKind.i64 (pInt ((x0.getD (Int.toNat (0 : Int)) []).tail.tail.headD PV.undef))]])], cur := (0 : Nat), ctr := (1 : Nat), fn := (13 : Nat) }
  | .s2 y5 y6 => { tmps := [AV.pv (PV.list (51 : Nat) x0), AV.pv PV.undef, AV.pv PV.undef, AV.own (525 : Nat), AV.pv (PV.int IntKind.i64 y5), AV.pv PV.undef, AV.pv PV.undef, AV.pv PV.undef, AV.pv PV.undef, AV.pv PV.undef, AV.pv PV.undef, AV.pv PV.undef, AV.pv PV.undef, AV.pv PV.undef, AV.pv PV.undef, AV.pv PV.undef, AV.pv PV.undef, AV.pv PV.undef, AV.pv PV.undef, AV.pv PV.undef, AV.pv PV.undef, AV.pv PV.undef, AV.pv PV.undef, AV.pv PV.undef, AV.pv PV.undef, AV.pv PV.undef, AV.pv PV.undef], stack := [], mem := [((525 : Nat), Ob.row (1 : Nat) (63 : Nat) y6)], cur := (0 : Nat), ctr := (1 : Nat), fn := (13 : Nat) }
inductive f13L0e where
  | e0 
  | e1 
  | e2 (y7 : List (List PV))
noncomputable def f13L0T (x0 : List (List PV)) : f13L0e → (Ex × St)
  | .e0  => (Ex.exit (0 : Nat), { tmps := [AV.pv PV.undef, AV.pv PV.undef, AV.pv PV.undef, AV.lit (63 : Nat) [], AV.pv PV.undef, AV.pv PV.undef, AV.pv PV.undef, AV.pv PV.undef, AV.pv PV.undef, AV.pv PV.undef, AV.pv PV.undef, AV.pv PV.undef, AV.pv PV.undef, AV.pv PV.undef, AV.pv PV.undef, AV.pv PV.undef, AV.pv PV.undef, AV.pv PV.undef, AV.pv PV.undef, AV.pv PV.undef, AV.pv PV.undef, AV.pv PV.undef, AV.pv PV.undef, AV.pv PV.undef, AV.pv PV.undef, AV.pv PV.undef, AV.pv PV.undef], stack := [], mem := [], cur := (0 : Nat), ctr := (1 : Nat), fn := (13 : Nat) })
  | .e1  => (Ex.exit (0 : Nat), { tmps := [AV.pv PV.undef, AV.pv PV.undef, AV.pv PV.undef, AV.own (525 : Nat), AV.pv PV.undef, AV.pv PV.undef, AV.pv PV.undef, AV.pv PV.undef, AV.pv PV.undef, AV.pv PV.undef, AV.pv PV.undef, AV.pv PV.undef, AV.pv PV.undef, AV.pv PV.undef, AV.pv PV.undef, AV.pv PV.undef, AV.pv PV.undef, AV.pv PV.undef, AV.pv PV.undef, AV.pv PV.undef, AV.pv PV.undef, AV.pv PV.undef, AV.pv PV.undef, AV.pv PV.undef, AV.pv PV.undef, AV.pv PV.undef, AV.pv PV.undef], stack := [], mem := [((525 : Nat), Ob.row (2 : Nat) (63 : Nat) [[PV.int IntKind.i64 (pInt ((x0.getD (Int.toNat (0 : Int)) []).headD PV.undef)), PV.int IntKind.i64 (pInt ((x0.getD (Int.toNat (0 : Int)) []).tail.headD PV.undef)), PV.int IntKind.i64 (pInt ((x0.getD (Int.toNat (0 : Int)) []).tail.tail.headD PV.undef))]])], cur := (0 : Nat), ctr := (1 : Nat), fn := (13 : Nat) })
  | .e2 y7 => (Ex.exit (0 : Nat), { tmps := [AV.pv PV.undef, AV.pv PV.undef, AV.pv PV.undef, AV.own (525 : Nat), AV.pv PV.undef, AV.pv PV.undef, AV.pv PV.undef, AV.pv PV.undef, AV.pv PV.undef, AV.pv PV.undef, AV.pv PV.undef, AV.pv PV.undef, AV.pv PV.undef, AV.pv PV.undef, AV.pv PV.undef, AV.pv PV.undef, AV.pv PV.undef, AV.pv PV.undef, AV.pv PV.undef, AV.pv PV.undef, AV.pv PV.undef, AV.pv PV.undef, AV.pv PV.undef, AV.pv PV.undef, AV.pv PV.undef, AV.pv PV.undef, AV.pv PV.undef], stack := [], mem := [((525 : Nat), Ob.row (1 : Nat) (63 : Nat) y7)], cur := (0 : Nat), ctr := (1 : Nat), fn := (13 : Nat) })
noncomputable def f13L0it8 (x0 : List (List PV)) : Tr (f13L0s ⊕ f13L0e) := (.test (decide ((0 : Int) < (↑x0.length : Int))) (.test (decide ((0 : Int) ≤ (0 : Int)) && decide ((0 : Int) < (↑x0.length : Int))) (.test (decide ((0 : Int) ≤ (0 : Int)) && decide ((0 : Int) < (↑x0.length : Int))) (.ret (.inl (.s1))) .fail) .fail) (.ret (.inr (.e0))))
noncomputable def f13L0it9 (x0 : List (List PV)) : Tr (f13L0s ⊕ f13L0e) := (.test (decide ((1 : Int) < (↑x0.length : Int))) (.test (decide ((0 : Int) ≤ (1 : Int)) && decide ((1 : Int) < (↑x0.length : Int))) (.test (decide ((0 : Int) ≤ (1 : Int)) && decide ((1 : Int) < (↑x0.length : Int))) (.ret (.inl (.s2 ((2 : Int)) ([[PV.int IntKind.i64 (pInt ((x0.getD (Int.toNat (0 : Int)) []).headD PV.undef)), PV.int IntKind.i64 (pInt ((x0.getD (Int.toNat (0 : Int)) []).tail.headD PV.undef)), PV.int IntKind.i64 (pInt ((x0.getD (Int.toNat (0 : Int)) []).tail.tail.headD PV.undef))], [PV.int IntKind.i64 (pInt ((x0.getD (Int.toNat (1 : Int)) []).headD PV.undef)), PV.int IntKind.i64 (pInt ((x0.getD (Int.toNat (1 : Int)) []).tail.headD PV.undef)), PV.int IntKind.i64 (pInt ((x0.getD (Int.toNat (1 : Int)) []).tail.tail.headD PV.undef))]])))) .fail) .fail) (.ret (.inr (.e1))))
noncomputable def f13L0it12 (x0 : List (List PV)) (z10 : Int) (z11 : List (List PV)) : Tr (f13L0s ⊕ f13L0e) := (.test (decide (z10 < (↑x0.length : Int))) (.test (decide ((0 : Int) ≤ z10) && decide (z10 < (↑x0.length : Int))) (.test (decide ((0 : Int) ≤ z10) && decide (z10 < (↑x0.length : Int))) (.test (decide (z11.length + [[PV.int IntKind.i64 (pInt ((x0.getD z10.toNat []).headD PV.undef)), PV.int IntKind.i64 (pInt ((x0.getD z10.toNat []).tail.headD PV.undef)), PV.int IntKind.i64 (pInt ((x0.getD z10.toNat []).tail.tail.headD PV.undef))]].length ≤ most)) (.ret (.inl (.s2 (IntKind.i64.wrap (z10 + (1 : Int))) (z11 ++ [[PV.int IntKind.i64 (pInt ((x0.getD z10.toNat []).headD PV.undef)), PV.int IntKind.i64 (pInt ((x0.getD z10.toNat []).tail.headD PV.undef)), PV.int IntKind.i64 (pInt ((x0.getD z10.toNat []).tail.tail.headD PV.undef))]])))) .fail) .fail) .fail) (.ret (.inr (.e2 (z11)))))
noncomputable def f13L0r (N : Nat) (x0 : List (List PV)) : f13L0s → Option (f13L0s ⊕ f13L0e)
  | .s0  => Tr.run (f13L0it8 x0)
  | .s1  => Tr.run (f13L0it9 x0)
  | .s2 z10 z11 => Tr.run (f13L0it12 x0 z10 z11)
theorem f13L0_step (N : Nat) (x0 : List (List PV)) : ∀ x, (roundAt (E1 N) (94 : Nat) (13 : Nat) (1 : Nat) (f13L0c N x0) (f13L0S x0 x)).run = (f13L0r N x0 x).map (sumMap (f13L0S x0) (f13L0T x0))
  | .s0  => (Tr.run_of (g := (f13L0it8 x0)) (f := (sumMap (f13L0S x0) (f13L0T x0))) (by kernel_rfl))
  | .s1  => (Tr.run_of (g := (f13L0it9 x0)) (f := (sumMap (f13L0S x0) (f13L0T x0))) (by kernel_rfl))
  | .s2 z10 z11 => (Tr.run_of (g := (f13L0it12 x0 z10 z11)) (f := (sumMap (f13L0S x0) (f13L0T x0))) (by kernel_rfl))
noncomputable def f13t13 (x0 : List (List PV)) : Tr f13o := (.ret (.r1 ([[PV.int IntKind.i64 (pInt ((x0.getD (Int.toNat (0 : Int)) []).headD PV.undef)), PV.int IntKind.i64 (pInt ((x0.getD (Int.toNat (0 : Int)) []).tail.headD PV.undef)), PV.int IntKind.i64 (pInt ((x0.getD (Int.toNat (0 : Int)) []).tail.tail.headD PV.undef))]])))
noncomputable def f13 (N : Nat) (x0 : List (List PV)) : Option f13o := ((loopN (f13L0r N x0) N (.s0)).bind (fun
    | .e0  => Tr.run (.ret (.r0 ([])))
    | .e1  => Tr.run (f13t13 x0)
    | .e2 w14 => Tr.run (.ret (.r0 (w14)))))
theorem f13_run (N : Nat) (x0 : List (List PV)) : (evFit f13rs (evRes (E1 N) (100 : Nat) (13 : Nat) [PV.list (51 : Nat) x0])).run = (f13 N x0).map f13W := (wait_run (wrap := f13W) (E := E1 N) (n := (94 : Nat)) (f := (13 : Nat)) (c0 := (1 : Nat)) (c := (f13L0c N x0)) (s := Tr.waitS (evFit f13rs (evRes (E1 N) (100 : Nat) (13 : Nat) [PV.list (51 : Nat) x0]))) (f13L0S x0) (f13L0T x0) (f13L0r N x0) (.s0) _ (f13L0_step N x0) (by kernel_rfl) (by kernel_rfl) (by kernel_rfl) (by kernel_rfl) (by kernel_rfl) (fun
    | .e0  => (Tr.run_of (g := (.ret (.r0 ([])))) (f := f13W) (by kernel_rfl))
    | .e1  => (Tr.run_of (g := (f13t13 x0)) (f := f13W) (by kernel_rfl))
    | .e2 w14 => (Tr.run_of (g := (.ret (.r0 (w14)))) (f := f13W) (by kernel_rfl))))
structure f15o where
  r0 ::
  (y1 : Int) (y2 : Bool)
noncomputable def f15W (o : f15o) : Res := (fun y1 y2 => Res.pv (PV.tup [PV.int IntKind.i64 y1, PV.bool y2])) o.y1 o.y2
noncomputable def f15t0 (x0 : S54) (x1 : Int) (x2 : Int) (x3 : Int) : Tr f15o := (.test (x0.a0 == (1 : Int)) (.ret (.r0 (IntKind.i64.wrap (x1 + x0.a1)) (true))) (.test (x0.a0 == (2 : Int)) (.ret (.r0 (IntKind.i64.wrap (x1 - x0.a1)) (true))) (.test (x0.a0 == (3 : Int)) (.ret (.r0 (IntKind.i64.wrap (↑(BitVec.ofInt IntKind.i64.bits x1 ||| BitVec.ofInt IntKind.i64.bits x0.a1).toNat : Int)) (true))) (.test (x0.a0 == (4 : Int)) (.ret (.r0 (IntKind.i64.wrap (↑(BitVec.ofInt IntKind.i64.bits x1 &&& BitVec.ofInt IntKind.i64.bits x0.a1).toNat : Int)) (true))) (.test (x0.a0 == (5 : Int)) (.ret (.r0 (if x1 < x0.a1 then x0.a1 else x1) (true))) (.test (x0.a0 == (6 : Int)) (.ret (.r0 (if x0.a1 < x1 then x0.a1 else x1) (true))) (.test (x0.a0 == (7 : Int)) (.ret (.r0 (x0.a1) (true))) (.test (x0.a0 == (8 : Int)) (.test (!decide (x0.a1 ≥ (0 : Int)) == decide (IntKind.i64.wrap (x1 + x0.a1) ≥ x1)) (.ret (.r0 (x1) (false))) (.test (decide (IntKind.i64.wrap (x1 + x0.a1) < x2)) (.ret (.r0 (x1) (false))) (.test (decide (IntKind.i64.wrap (x1 + x0.a1) > x3)) (.ret (.r0 (x1) (false))) (.ret (.r0 (IntKind.i64.wrap (x1 + x0.a1)) (true)))))) (.test (x0.a0 == (9 : Int)) (.test (decide (x0.a1 < (0 : Int))) (.ret (.r0 (x1) (false))) (.test (decide (x1 < x2)) (.ret (.r0 (x1) (false))) (.test (decide (IntKind.u64.wrap x0.a1 ≥ IntKind.u64.wrap (IntKind.u64.wrap x1 - IntKind.u64.wrap x2))) (.ret (.r0 (x2) (true))) (.ret (.r0 (IntKind.i64.wrap (x1 - x0.a1)) (true)))))) (.ret (.r0 (x1) (false))))))))))))
noncomputable def f15 (N : Nat) (x0 : S54) (x1 : Int) (x2 : Int) (x3 : Int) : Option f15o := Tr.run (f15t0 x0 x1 x2 x3)
theorem f15_run (N : Nat) (x0 : S54) (x1 : Int) (x2 : Int) (x3 : Int) : (evRes (E1 N) (100 : Nat) (15 : Nat) [(S54v x0), PV.int IntKind.i64 x1, PV.int IntKind.i64 x2, PV.int IntKind.i64 x3]).run = (f15 N x0 x1 x2 x3).map f15W := (Tr.run_of (g := (f15t0 x0 x1 x2 x3)) (f := f15W) (by kernel_rfl))
def f15s : List PK := [S54k, (false, [K.int .i64]), (false, [K.int .i64]), (false, [K.int .i64])]
noncomputable def f15a (ps : List PV) : Option f15o := f15 0 (S54r (ps.headD PV.undef)) (pInt (ps.tail.headD PV.undef)) (pInt (ps.tail.tail.headD PV.undef)) (pInt (ps.tail.tail.tail.headD PV.undef))
noncomputable def f15d : f15o := ⟨0, false⟩
noncomputable def f15O : Ora := ⟨fun ps => okPs f15s ps && (f15a ps).isSome, fun ps => (f15W ((f15a ps).getD f15d)).plain⟩
theorem f15_spec : Spec Try.prog 15 f15O := spec_at 100 f15s (fun ps => (f15a ps).isSome) _ mixed fun ps hm hs hp => by
  cases h : f15a ps with
  | none => rw [h] at hp; cases hp
  | some o =>

    refine ⟨E1 0, f15W o, rfl, E1_ok 0, ?_, .inr ?_⟩
    · rw [show canPs f15s ps = [S54v (S54r (ps.headD PV.undef)), PV.int IntKind.i64 (pInt (ps.tail.headD PV.undef)), PV.int IntKind.i64 (pInt (ps.tail.tail.headD PV.undef)), PV.int IntKind.i64 (pInt (ps.tail.tail.tail.headD PV.undef))] from by kernel_rfl, f15_run 0]
      show (f15a ps).map f15W = _
      rw [h]; rfl
    · rfl
structure f16o where
  r0 ::
  (y6 : Bool)
noncomputable def f16W (o : f16o) : Res := (fun y6 => Res.pv (PV.bool y6)) o.y6
noncomputable def f16L0c (N : Nat) (x0 : List (List PV)) (x1 : List (List PV)) : Code := Tr.waitC (Tr.sub [false] (Tr.sub [false] (evRes (E1 N) (100 : Nat) (16 : Nat) [PV.list (63 : Nat) x0, PV.list (63 : Nat) x1])))
inductive f16L0s where
  | s0 (y3 : Int)
noncomputable def f16L0S (x0 : List (List PV)) (x1 : List (List PV)) : f16L0s → St
  | .s0 y3 => { tmps := [AV.pv (PV.list (63 : Nat) x0), AV.pv (PV.list (63 : Nat) x1), AV.pv PV.undef, AV.pv PV.undef, AV.pv PV.undef, AV.pv (PV.int IntKind.i64 y3), AV.pv PV.undef, AV.pv PV.undef, AV.pv PV.undef, AV.pv PV.undef, AV.pv PV.undef, AV.pv PV.undef, AV.pv PV.undef, AV.pv PV.undef, AV.pv PV.undef, AV.pv PV.undef, AV.pv PV.undef, AV.pv PV.undef, AV.pv PV.undef, AV.pv PV.undef, AV.pv PV.undef, AV.pv PV.undef, AV.pv PV.undef, AV.pv PV.undef, AV.pv PV.undef, AV.pv PV.undef], stack := [], mem := [], cur := (0 : Nat), ctr := (1 : Nat), fn := (16 : Nat) }
inductive f16L0e where
  | e0 
  | e1 
noncomputable def f16L0T (x0 : List (List PV)) (x1 : List (List PV)) : f16L0e → (Ex × St)
  | .e0  => (Ex.ret, { tmps := [AV.pv PV.undef, AV.pv PV.undef, AV.pv PV.undef, AV.pv PV.undef, AV.pv (PV.bool false), AV.pv PV.undef, AV.pv PV.undef, AV.pv PV.undef, AV.pv PV.undef, AV.pv PV.undef, AV.pv PV.undef, AV.pv PV.undef, AV.pv PV.undef, AV.pv PV.undef, AV.pv PV.undef, AV.pv PV.undef, AV.pv PV.undef, AV.pv PV.undef, AV.pv PV.undef, AV.pv PV.undef, AV.pv PV.undef, AV.pv PV.undef, AV.pv PV.undef, AV.pv PV.undef, AV.pv PV.undef, AV.pv PV.undef], stack := [], mem := [], cur := (0 : Nat), ctr := (1 : Nat), fn := (16 : Nat) })
  | .e1  => (Ex.exit (0 : Nat), { tmps := [AV.pv PV.undef, AV.pv PV.undef, AV.pv PV.undef, AV.pv PV.undef, AV.pv PV.undef, AV.pv PV.undef, AV.pv PV.undef, AV.pv PV.undef, AV.pv PV.undef, AV.pv PV.undef, AV.pv PV.undef, AV.pv PV.undef, AV.pv PV.undef, AV.pv PV.undef, AV.pv PV.undef, AV.pv PV.undef, AV.pv PV.undef, AV.pv PV.undef, AV.pv PV.undef, AV.pv PV.undef, AV.pv PV.undef, AV.pv PV.undef, AV.pv PV.undef, AV.pv PV.undef, AV.pv PV.undef, AV.pv PV.undef], stack := [], mem := [], cur := (0 : Nat), ctr := (1 : Nat), fn := (16 : Nat) })
noncomputable def f16L0it5 (x0 : List (List PV)) (x1 : List (List PV)) (z4 : Int) : Tr (f16L0s ⊕ f16L0e) := (.test (decide (z4 < (↑x0.length : Int))) (.test (decide ((0 : Int) ≤ z4) && decide (z4 < (↑x0.length : Int))) (.test (decide ((0 : Int) ≤ z4) && decide (z4 < (↑x1.length : Int))) (.test (!(pInt ((x0.getD z4.toNat []).headD PV.undef) == pInt ((x1.getD z4.toNat []).headD PV.undef) && (pInt ((x0.getD z4.toNat []).tail.headD PV.undef) == pInt ((x1.getD z4.toNat []).tail.headD PV.undef) && (pInt ((x0.getD z4.toNat []).tail.tail.headD PV.undef) == pInt ((x1.getD z4.toNat []).tail.tail.headD PV.undef) && true) && true))) (.ret (.inr (.e0))) (.ret (.inl (.s0 (IntKind.i64.wrap (z4 + (1 : Int))))))) .fail) .fail) (.ret (.inr (.e1))))
noncomputable def f16L0r (N : Nat) (x0 : List (List PV)) (x1 : List (List PV)) : f16L0s → Option (f16L0s ⊕ f16L0e)
  | .s0 z4 => Tr.run (f16L0it5 x0 x1 z4)
theorem f16L0_step (N : Nat) (x0 : List (List PV)) (x1 : List (List PV)) : ∀ x, (roundAt (E1 N) (94 : Nat) (16 : Nat) (1 : Nat) (f16L0c N x0 x1) (f16L0S x0 x1 x)).run = (f16L0r N x0 x1 x).map (sumMap (f16L0S x0 x1) (f16L0T x0 x1))
  | .s0 z4 => (Tr.run_of (g := (f16L0it5 x0 x1 z4)) (f := (sumMap (f16L0S x0 x1) (f16L0T x0 x1))) (by kernel_rfl))
noncomputable def f16 (N : Nat) (x0 : List (List PV)) (x1 : List (List PV)) : Option f16o := (bif ((↑x0.length : Int) != (↑x1.length : Int)) then (Tr.run (.ret (.r0 (false)))) else ((loopN (f16L0r N x0 x1) N (.s0 ((0 : Int)))).bind (fun
    | .e0  => Tr.run (.ret (.r0 (false)))
    | .e1  => Tr.run (.ret (.r0 (true))))))
theorem f16_run (N : Nat) (x0 : List (List PV)) (x1 : List (List PV)) : (evRes (E1 N) (100 : Nat) (16 : Nat) [PV.list (63 : Nat) x0, PV.list (63 : Nat) x1]).run = (f16 N x0 x1).map f16W := (test_run (t := (evRes (E1 N) (100 : Nat) (16 : Nat) [PV.list (63 : Nat) x0, PV.list (63 : Nat) x1])) (b := (↑x0.length : Int) != (↑x1.length : Int)) (by kernel_rfl) (by kernel_rfl) (Tr.run_of (g := (.ret (.r0 (false)))) (f := f16W) (by kernel_rfl)) (skip_run [false] (by kernel_rfl) (wait_run (wrap := f16W) (E := E1 N) (n := (94 : Nat)) (f := (16 : Nat)) (c0 := (1 : Nat)) (c := (f16L0c N x0 x1)) (s := Tr.waitS (Tr.sub [false] (Tr.sub [false] (evRes (E1 N) (100 : Nat) (16 : Nat) [PV.list (63 : Nat) x0, PV.list (63 : Nat) x1])))) (f16L0S x0 x1) (f16L0T x0 x1) (f16L0r N x0 x1) (.s0 ((0 : Int))) _ (f16L0_step N x0 x1) (by kernel_rfl) (by kernel_rfl) (by kernel_rfl) (by kernel_rfl) (by kernel_rfl) (fun
    | .e0  => (Tr.run_of (g := (.ret (.r0 (false)))) (f := f16W) (by kernel_rfl))
    | .e1  => (Tr.run_of (g := (.ret (.r0 (true)))) (f := f16W) (by kernel_rfl))))))
structure f17o where
  r0 ::
  (y1 : Int)
noncomputable def f17W (o : f17o) : Res := (fun y1 => Res.pv (PV.int IntKind.i64 y1)) o.y1
noncomputable def f17t0 (x0 : S42) : Tr f17o := (.test (decide (x0.a0 < (1 : Int))) (.ret (.r0 ((50 : Int)))) (.test (decide (x0.a0 > (16 : Int))) (.ret (.r0 ((50 : Int)))) (.test (decide (x0.a1 < (1 : Int))) (.ret (.r0 ((51 : Int)))) (.test (decide (x0.a1 > (4 : Int))) (.ret (.r0 ((51 : Int)))) (.test (decide (x0.a2 < (1 : Int))) (.ret (.r0 ((52 : Int)))) (.test (decide (x0.a2 > (3 : Int))) (.ret (.r0 ((52 : Int)))) (.test (decide (x0.a3 < (0 : Int))) (.ret (.r0 ((53 : Int)))) (.test (decide (x0.a3 > (4 : Int))) (.ret (.r0 ((53 : Int)))) (.test (decide (x0.a4 < (0 : Int))) (.ret (.r0 ((54 : Int)))) (.test (decide (x0.a4 > (3 : Int))) (.ret (.r0 ((54 : Int)))) (.test (decide (x0.a5 < (1 : Int))) (.ret (.r0 ((55 : Int)))) (.test (decide (x0.a5 > (8 : Int))) (.ret (.r0 ((55 : Int)))) (.test (decide (x0.a6 < (0 : Int))) (.ret (.r0 ((56 : Int)))) (.test (decide (x0.a6 > (20 : Int))) (.ret (.r0 ((56 : Int)))) (.test (decide (x0.a7 < (0 : Int))) (.ret (.r0 ((57 : Int)))) (.test (decide (x0.a7 > (1000 : Int))) (.ret (.r0 ((57 : Int)))) (.test (x0.a8) (.test (decide (x0.a9 > x0.a11)) (.ret (.r0 ((58 : Int)))) (.test (decide (x0.a11 > x0.a10)) (.ret (.r0 ((58 : Int)))) (.ret (.r0 ((0 : Int)))))) (.ret (.r0 ((0 : Int)))))))))))))))))))))
noncomputable def f17 (N : Nat) (x0 : S42) : Option f17o := Tr.run (f17t0 x0)
theorem f17_run (N : Nat) (x0 : S42) : (evRes (E1 N) (100 : Nat) (17 : Nat) [(S42v x0)]).run = (f17 N x0).map f17W := (Tr.run_of (g := (f17t0 x0)) (f := f17W) (by kernel_rfl))
def f17s : List PK := [S42k]
noncomputable def f17a (ps : List PV) : Option f17o := f17 0 (S42r (ps.headD PV.undef))
noncomputable def f17d : f17o := ⟨0⟩
noncomputable def f17O : Ora := ⟨fun ps => okPs f17s ps && (f17a ps).isSome, fun ps => (f17W ((f17a ps).getD f17d)).plain⟩
theorem f17_spec : Spec Try.prog 17 f17O := spec_at 100 f17s (fun ps => (f17a ps).isSome) _ mixed fun ps hm hs hp => by
  cases h : f17a ps with
  | none => rw [h] at hp; cases hp
  | some o =>

    refine ⟨E1 0, f17W o, rfl, E1_ok 0, ?_, .inr ?_⟩
    · rw [show canPs f17s ps = [S42v (S42r (ps.headD PV.undef))] from by kernel_rfl, f17_run 0]
      show (f17a ps).map f17W = _
      rw [h]; rfl
    · rfl
abbrev f26o := S27
noncomputable def f26W (o : f26o) : Res := Res.pv (S27v o)
def f26rs : List PK := [(true, [K.list 3, K.list 30])]
noncomputable def f26t0 (x0 : Int) (x1 : Int) : Tr f26o := (.test (decide (x0 < (1 : Int))) (.test (decide (x1 < (1 : Int))) (.ret (.mk ([]) ([]))) (.test (decide (x1 > (10000 : Int))) (.ret (.mk ([]) ([]))) (.test (decide ((0 : Int) ≤ x1) && decide (x1 ≤ x1) && decide (x1 ≤ (↑most : Int))) (.ret (.mk ([]) (List.replicate x1.toNat [PV.list (51 : Nat) []]))) .fail))) (.test (decide (x0 > (10000 : Int))) (.test (decide (x1 < (1 : Int))) (.ret (.mk ([]) ([]))) (.test (decide (x1 > (10000 : Int))) (.ret (.mk ([]) ([]))) (.test (decide ((0 : Int) ≤ x1) && decide (x1 ≤ x1) && decide (x1 ≤ (↑most : Int))) (.ret (.mk ([]) (List.replicate x1.toNat [PV.list (51 : Nat) []]))) .fail))) (.test (decide ((0 : Int) ≤ x0) && decide (x0 ≤ x0) && decide (x0 ≤ (↑most : Int))) (.test (decide (x1 < (1 : Int))) (.ret (.mk (List.replicate x0.toNat [PV.int IntKind.i64 (0 : Int)]) ([]))) (.test (decide (x1 > (10000 : Int))) (.ret (.mk (List.replicate x0.toNat [PV.int IntKind.i64 (0 : Int)]) ([]))) (.test (decide ((0 : Int) ≤ x1) && decide (x1 ≤ x1) && decide (x1 ≤ (↑most : Int))) (.ret (.mk (List.replicate x0.toNat [PV.int IntKind.i64 (0 : Int)]) (List.replicate x1.toNat [PV.list (51 : Nat) []]))) .fail))) .fail)))
noncomputable def f26 (N : Nat) (x0 : Int) (x1 : Int) : Option f26o := Tr.run (f26t0 x0 x1)
theorem f26_run (N : Nat) (x0 : Int) (x1 : Int) : (evFit f26rs (evRes (E1 N) (100 : Nat) (26 : Nat) [PV.int IntKind.i64 x0, PV.int IntKind.i64 x1])).run = (f26 N x0 x1).map f26W := (Tr.run_of (g := (f26t0 x0 x1)) (f := f26W) (by kernel_rfl))
def f26s : List PK := [(false, [K.int .i64]), (false, [K.int .i64])]
noncomputable def f26a (ps : List PV) : Option f26o := f26 0 (pInt (ps.headD PV.undef)) (pInt (ps.tail.headD PV.undef))
noncomputable def f26d : f26o := ⟨[], []⟩
noncomputable def f26O : Ora := ⟨fun ps => okPs f26s ps && (f26a ps).isSome, fun ps => (f26W ((f26a ps).getD f26d)).plain⟩
theorem f26_spec : Spec Try.prog 26 f26O := spec_fit 100 f26rs f26s (fun ps => (f26a ps).isSome) _ mixed fun ps hm hs hp => by
  cases h : f26a ps with
  | none => rw [h] at hp; cases hp
  | some o =>

    refine ⟨E1 0, f26W o, rfl, E1_ok 0, ?_, .inr ?_⟩
    · rw [show canPs f26s ps = [PV.int IntKind.i64 (pInt (ps.headD PV.undef)), PV.int IntKind.i64 (pInt (ps.tail.headD PV.undef))] from by kernel_rfl, f26_run 0]
      show (f26a ps).map f26W = _
      rw [h]; rfl
    · rfl
structure f29o where
  r0 ::
  (y12 : Int)
noncomputable def f29W (o : f29o) : Res := (fun y12 => Res.pv (PV.int IntKind.i64 y12)) o.y12
noncomputable def f29L0c (N : Nat) (x0 : S42) : Code := Tr.waitC (evRes (E1 N) (100 : Nat) (29 : Nat) [(S42v x0)])
inductive f29L0s where
  | s0 (y5 : Int) (y6 : Int)
noncomputable def f29L0S (x0 : S42) : f29L0s → St
  | .s0 y5 y6 => { tmps := [AV.pv PV.undef, AV.ptr (1 : Nat) (0 : Nat), AV.pv PV.undef, AV.pv (PV.int IntKind.i64 y5), AV.pv (PV.int IntKind.i64 y6), AV.pv PV.undef, AV.pv PV.undef, AV.pv PV.undef, AV.pv PV.undef, AV.pv PV.undef, AV.pv PV.undef, AV.pv PV.undef, AV.pv PV.undef, AV.pv PV.undef, AV.pv PV.undef], stack := [], mem := [((1 : Nat), Ob.box [AV.pv (PV.int IntKind.i64 x0.a0), AV.pv (PV.int IntKind.i64 x0.a1), AV.pv (PV.int IntKind.i64 x0.a2), AV.pv (PV.int IntKind.i64 x0.a3), AV.pv (PV.int IntKind.i64 x0.a4), AV.pv (PV.int IntKind.i64 x0.a5), AV.pv (PV.int IntKind.i64 x0.a6), AV.pv (PV.int IntKind.i64 x0.a7), AV.pv (PV.bool x0.a8), AV.pv (PV.int IntKind.i64 x0.a9), AV.pv (PV.int IntKind.i64 x0.a10), AV.pv (PV.int IntKind.i64 x0.a11)])], cur := (0 : Nat), ctr := (1 : Nat), fn := (29 : Nat) }
inductive f29L0e where
  | e0 (y7 : Int)
noncomputable def f29L0T (x0 : S42) : f29L0e → (Ex × St)
  | .e0 y7 => (Ex.exit (0 : Nat), { tmps := [AV.pv PV.undef, AV.pv PV.undef, AV.pv PV.undef, AV.pv (PV.int IntKind.i64 y7), AV.pv PV.undef, AV.pv PV.undef, AV.pv PV.undef, AV.pv PV.undef, AV.pv PV.undef, AV.pv PV.undef, AV.pv PV.undef, AV.pv PV.undef, AV.pv PV.undef, AV.pv PV.undef, AV.pv PV.undef], stack := [], mem := [], cur := (0 : Nat), ctr := (1 : Nat), fn := (29 : Nat) })
noncomputable def f29L0it10 (x0 : S42) (z8 : Int) (z9 : Int) : Tr (f29L0s ⊕ f29L0e) := (.test (decide (z9 < x0.a3)) (.ret (.inl (.s0 (IntKind.i64.wrap ((2 : Int) * z8)) (IntKind.i64.wrap (z9 + (1 : Int)))))) (.ret (.inr (.e0 (z8)))))
noncomputable def f29L0r (N : Nat) (x0 : S42) : f29L0s → Option (f29L0s ⊕ f29L0e)
  | .s0 z8 z9 => Tr.run (f29L0it10 x0 z8 z9)
theorem f29L0_step (N : Nat) (x0 : S42) : ∀ x, (roundAt (E1 N) (94 : Nat) (29 : Nat) (1 : Nat) (f29L0c N x0) (f29L0S x0 x)).run = (f29L0r N x0 x).map (sumMap (f29L0S x0) (f29L0T x0))
  | .s0 z8 z9 => (Tr.run_of (g := (f29L0it10 x0 z8 z9)) (f := (sumMap (f29L0S x0) (f29L0T x0))) (by kernel_rfl))
noncomputable def f29 (N : Nat) (x0 : S42) : Option f29o := ((loopN (f29L0r N x0) N (.s0 ((1 : Int)) ((0 : Int)))).bind (fun
    | .e0 w11 => Tr.run (.ret (.r0 (IntKind.i64.wrap (w11 - (1 : Int)))))))
theorem f29_run (N : Nat) (x0 : S42) : (evRes (E1 N) (100 : Nat) (29 : Nat) [(S42v x0)]).run = (f29 N x0).map f29W := (wait_run (wrap := f29W) (E := E1 N) (n := (94 : Nat)) (f := (29 : Nat)) (c0 := (1 : Nat)) (c := (f29L0c N x0)) (s := Tr.waitS (evRes (E1 N) (100 : Nat) (29 : Nat) [(S42v x0)])) (f29L0S x0) (f29L0T x0) (f29L0r N x0) (.s0 ((1 : Int)) ((0 : Int))) _ (f29L0_step N x0) (by kernel_rfl) (by kernel_rfl) (by kernel_rfl) (by kernel_rfl) (by kernel_rfl) (fun
    | .e0 w11 => (Tr.run_of (g := (.ret (.r0 (IntKind.i64.wrap (w11 - (1 : Int)))))) (f := f29W) (by kernel_rfl))))
structure f30o where
  r0 ::
  (y1 : Int) (y2 : Int)
noncomputable def f30W (o : f30o) : Res := (fun y1 y2 => Res.pv (PV.tup [PV.int IntKind.i64 y1, PV.int IntKind.i64 y2])) o.y1 o.y2
noncomputable def f30t0 (x0 : S27) (x1 : Int) : Tr f30o := (.test (decide (x1 < (0 : Int))) (.ret (.r0 ((0 : Int)) ((30 : Int)))) (.test (decide (x1 ≥ (↑x0.a0.length : Int))) (.ret (.r0 ((0 : Int)) ((30 : Int)))) (.test (decide ((0 : Int) ≤ x1) && decide (x1 < (↑x0.a0.length : Int))) (.ret (.r0 (pInt ((x0.a0.getD x1.toNat []).headD PV.undef)) ((0 : Int)))) .fail)))
noncomputable def f30 (N : Nat) (x0 : S27) (x1 : Int) : Option f30o := Tr.run (f30t0 x0 x1)
theorem f30_run (N : Nat) (x0 : S27) (x1 : Int) : (evRes (E1 N) (100 : Nat) (30 : Nat) [(S27v x0), PV.int IntKind.i64 x1]).run = (f30 N x0 x1).map f30W := (Tr.run_of (g := (f30t0 x0 x1)) (f := f30W) (by kernel_rfl))
def f30s : List PK := [S27k, (false, [K.int .i64])]
noncomputable def f30a (ps : List PV) : Option f30o := f30 0 (S27r (ps.headD PV.undef)) (pInt (ps.tail.headD PV.undef))
noncomputable def f30d : f30o := ⟨0, 0⟩
noncomputable def f30O : Ora := ⟨fun ps => okPs f30s ps && (f30a ps).isSome, fun ps => (f30W ((f30a ps).getD f30d)).plain⟩
theorem f30_spec : Spec Try.prog 30 f30O := spec_at 100 f30s (fun ps => (f30a ps).isSome) _ mixed fun ps hm hs hp => by
  cases h : f30a ps with
  | none => rw [h] at hp; cases hp
  | some o =>

    refine ⟨E1 0, f30W o, rfl, E1_ok 0, ?_, .inr ?_⟩
    · rw [show canPs f30s ps = [S27v (S27r (ps.headD PV.undef)), PV.int IntKind.i64 (pInt (ps.tail.headD PV.undef))] from by kernel_rfl, f30_run 0]
      show (f30a ps).map f30W = _
      rw [h]; rfl
    · rfl
abbrev f33o := S38
noncomputable def f33W (o : f33o) : Res := Res.pv (S38v o)
def f33rs : List PK := [(true, [K.int .i64, K.int .i64, K.int .i64, K.int .i64, K.int .i64, K.int .i64, K.int .i64, K.int .i64, K.bool, K.int .i64, K.int .i64, K.int .i64, K.int .i64, K.int .i64, K.list 3, K.list 30, K.int .i64, K.int .i64, K.int .i64, K.int .i64, K.list 51, K.list 94, K.list 3, K.int .i64, K.int .i64, K.int .i64, K.int .i64, K.int .i64, K.int .i64, K.int .i64, K.int .i64, K.int .i64, K.int .i64, K.list 3, K.int .i64, K.list 49, K.bool])]
noncomputable def f33t0 (x0 : S38) : Tr f33o := (.test (decide (x0.a25 < (0 : Int))) (.ret (.mk (x0.a0) (x0.a1) (x0.a2) (x0.a3) (x0.a4) (x0.a5) (x0.a6) (x0.a7) (x0.a8) (x0.a9) (x0.a10) (x0.a11) (x0.a12) (x0.a13) (x0.a14) (x0.a15) ((0 : Int)) (x0.a17) (x0.a18) (x0.a19) (x0.a20) (x0.a21) (x0.a22) (x0.a23) (x0.a24) (x0.a25) (x0.a26) (x0.a27) (x0.a28) (x0.a29) (x0.a30) (x0.a31) (x0.a32) (x0.a33) (x0.a34) (x0.a35) (true))) (.test (decide (x0.a25 ≥ (↑x0.a21.length : Int))) (.ret (.mk (x0.a0) (x0.a1) (x0.a2) (x0.a3) (x0.a4) (x0.a5) (x0.a6) (x0.a7) (x0.a8) (x0.a9) (x0.a10) (x0.a11) (x0.a12) (x0.a13) (x0.a14) (x0.a15) ((0 : Int)) (x0.a17) (x0.a18) (x0.a19) (x0.a20) (x0.a21) (x0.a22) (x0.a23) (x0.a24) (x0.a25) (x0.a26) (x0.a27) (x0.a28) (x0.a29) (x0.a30) (x0.a31) (x0.a32) (x0.a33) (x0.a34) (x0.a35) (true))) (.test (decide ((0 : Int) ≤ x0.a25) && decide (x0.a25 < (↑x0.a21.length : Int))) (.ret (.mk (x0.a0) (x0.a1) (x0.a2) (x0.a3) (x0.a4) (x0.a5) (x0.a6) (x0.a7) (x0.a8) (x0.a9) (x0.a10) (x0.a11) (x0.a12) (x0.a13) (x0.a14) (x0.a15) ((15 : Int)) (x0.a17) (x0.a18) (x0.a19) (x0.a20) (x0.a21) (x0.a22) (x0.a23) (x0.a24) (x0.a25) (x0.a26) (x0.a27) (x0.a28) (x0.a29) (x0.a30) (x0.a31) (x0.a32) (x0.a33) (x0.a34) (x0.a35) (x0.a36))) .fail)))
noncomputable def f33 (N : Nat) (x0 : S38) : Option f33o := Tr.run (f33t0 x0)
theorem f33_run (N : Nat) (x0 : S38) : (evFit f33rs (evRes (E1 N) (100 : Nat) (33 : Nat) [(S38v x0)])).run = (f33 N x0).map f33W := (Tr.run_of (g := (f33t0 x0)) (f := f33W) (by kernel_rfl))
def f33s : List PK := [S38k]
noncomputable def f33a (ps : List PV) : Option f33o := f33 0 (S38r (ps.headD PV.undef))
noncomputable def f33d : f33o := ⟨0, 0, 0, 0, 0, 0, 0, 0, false, 0, 0, 0, 0, 0, [], [], 0, 0, 0, 0, [], [], [], 0, 0, 0, 0, 0, 0, 0, 0, 0, 0, [], 0, [], false⟩
noncomputable def f33O : Ora := ⟨fun ps => okPs f33s ps && (f33a ps).isSome, fun ps => (f33W ((f33a ps).getD f33d)).plain⟩
theorem f33_spec : Spec Try.prog 33 f33O := spec_fit 100 f33rs f33s (fun ps => (f33a ps).isSome) _ mixed fun ps hm hs hp => by
  cases h : f33a ps with
  | none => rw [h] at hp; cases hp
  | some o =>

    refine ⟨E1 0, f33W o, rfl, E1_ok 0, ?_, .inr ?_⟩
    · rw [show canPs f33s ps = [S38v (S38r (ps.headD PV.undef))] from by kernel_rfl, f33_run 0]
      show (f33a ps).map f33W = _
      rw [h]; rfl
    · rfl
structure f34o where
  r0 ::
  (y0 : Bool)
noncomputable def f34W (o : f34o) : Res := (fun y0 => Res.pv (PV.bool y0)) o.y0
noncomputable def f34 (N : Nat) (x0 : S38) : Option f34o := Tr.run (.test (decide ((0 : Int) < x0.a32)) (.ret (.r0 (decide (x0.a32 ≤ x0.a13)))) (.ret (.r0 (false))))
theorem f34_run (N : Nat) (x0 : S38) : (evRes (E1 N) (100 : Nat) (34 : Nat) [(S38v x0)]).run = (f34 N x0).map f34W := (Tr.run_of (g := (.test (decide ((0 : Int) < x0.a32)) (.ret (.r0 (decide (x0.a32 ≤ x0.a13)))) (.ret (.r0 (false))))) (f := f34W) (by kernel_rfl))
def f34s : List PK := [S38k]
noncomputable def f34a (ps : List PV) : Option f34o := f34 0 (S38r (ps.headD PV.undef))
noncomputable def f34d : f34o := ⟨false⟩
noncomputable def f34O : Ora := ⟨fun ps => okPs f34s ps && (f34a ps).isSome, fun ps => (f34W ((f34a ps).getD f34d)).plain⟩
theorem f34_spec : Spec Try.prog 34 f34O := spec_at 100 f34s (fun ps => (f34a ps).isSome) _ mixed fun ps hm hs hp => by
  cases h : f34a ps with
  | none => rw [h] at hp; cases hp
  | some o =>

    refine ⟨E1 0, f34W o, rfl, E1_ok 0, ?_, .inr ?_⟩
    · rw [show canPs f34s ps = [S38v (S38r (ps.headD PV.undef))] from by kernel_rfl, f34_run 0]
      show (f34a ps).map f34W = _
      rw [h]; rfl
    · rfl
structure f35o where
  r0 ::
  (y1 : List (List PV)) (y2 : List (List PV)) (y3 : Bool) (y4 : Int)
noncomputable def f35W (o : f35o) : Res := (fun y1 y2 y3 y4 => Res.pv (PV.tup [PV.agg [PV.list (3 : Nat) y1, PV.list (30 : Nat) y2], PV.bool y3, PV.int IntKind.i64 y4])) o.y1 o.y2 o.y3 o.y4
def f35rs : List PK := [(true, [K.list 3, K.list 30]), (false, [K.bool]), (false, [K.int .i64])]
noncomputable def f35t0 (x0 : S27) (x1 : Int) (x2 : Int) (x3 : Int) : Tr f35o := (.test (decide (x1 < (0 : Int))) (.ret (.r0 (x0.a0) (x0.a1) (false) ((30 : Int)))) (.test (decide (x1 ≥ (↑x0.a0.length : Int))) (.ret (.r0 (x0.a0) (x0.a1) (false) ((30 : Int)))) (.test (decide ((0 : Int) ≤ x1) && decide (x1 < (↑x0.a0.length : Int))) (.test (pInt ((x0.a0.getD x1.toNat []).headD PV.undef) == x2) (.test (decide (x0.a0.length ≤ most)) (.test (decide ((0 : Int) ≤ x1) && decide (x1 < (↑x0.a0.length : Int))) (.ret (.r0 (x0.a0.set x1.toNat [PV.int IntKind.i64 x3]) (x0.a1) (pInt ((x0.a0.getD x1.toNat []).headD PV.undef) == x2) ((0 : Int)))) .fail) .fail) (.ret (.r0 (x0.a0) (x0.a1) (pInt ((x0.a0.getD x1.toNat []).headD PV.undef) == x2) ((0 : Int))))) .fail)))
noncomputable def f35 (N : Nat) (x0 : S27) (x1 : Int) (x2 : Int) (x3 : Int) : Option f35o := Tr.run (f35t0 x0 x1 x2 x3)
theorem f35_run (N : Nat) (x0 : S27) (x1 : Int) (x2 : Int) (x3 : Int) : (evFit f35rs (evRes (E1 N) (100 : Nat) (35 : Nat) [(S27v x0), PV.int IntKind.i64 x1, PV.int IntKind.i64 x2, PV.int IntKind.i64 x3])).run = (f35 N x0 x1 x2 x3).map f35W := (Tr.run_of (g := (f35t0 x0 x1 x2 x3)) (f := f35W) (by kernel_rfl))
def f35s : List PK := [S27k, (false, [K.int .i64]), (false, [K.int .i64]), (false, [K.int .i64])]
noncomputable def f35a (ps : List PV) : Option f35o := f35 0 (S27r (ps.headD PV.undef)) (pInt (ps.tail.headD PV.undef)) (pInt (ps.tail.tail.headD PV.undef)) (pInt (ps.tail.tail.tail.headD PV.undef))
noncomputable def f35d : f35o := ⟨[], [], false, 0⟩
noncomputable def f35O : Ora := ⟨fun ps => okPs f35s ps && (f35a ps).isSome, fun ps => (f35W ((f35a ps).getD f35d)).plain⟩
theorem f35_spec : Spec Try.prog 35 f35O := spec_fit 100 f35rs f35s (fun ps => (f35a ps).isSome) _ mixed fun ps hm hs hp => by
  cases h : f35a ps with
  | none => rw [h] at hp; cases hp
  | some o =>

    refine ⟨E1 0, f35W o, rfl, E1_ok 0, ?_, .inr ?_⟩
    · rw [show canPs f35s ps = [S27v (S27r (ps.headD PV.undef)), PV.int IntKind.i64 (pInt (ps.tail.headD PV.undef)), PV.int IntKind.i64 (pInt (ps.tail.tail.headD PV.undef)), PV.int IntKind.i64 (pInt (ps.tail.tail.tail.headD PV.undef))] from by kernel_rfl, f35_run 0]
      show (f35a ps).map f35W = _
      rw [h]; rfl
    · rfl
abbrev f38o := S85
noncomputable def f38W (o : f38o) : Res := Res.pv (S85v o)
noncomputable def f38t0 (x0 : S23) : Tr f38o := (.test (decide ((0 : Int) ≤ x0.a3)) (.ret (.mk ((1 : Int)) (IntKind.i64.wrap ((1 : Int) + IntKind.i64.wrap (IntKind.i64.wrap ((1 : Int) * (2 : Int) ^ min x0.a3.toNat IntKind.i64.bits) - (1 : Int)))) (IntKind.i64.wrap (IntKind.i64.wrap ((1 : Int) + IntKind.i64.wrap (IntKind.i64.wrap ((1 : Int) * (2 : Int) ^ min x0.a3.toNat IntKind.i64.bits) - (1 : Int))) + IntKind.i64.wrap (x0.a4 * x0.a5))) (IntKind.i64.wrap (x0.a1 * IntKind.i64.wrap (IntKind.i64.wrap ((1 : Int) + IntKind.i64.wrap (IntKind.i64.wrap ((1 : Int) * (2 : Int) ^ min x0.a3.toNat IntKind.i64.bits) - (1 : Int))) + IntKind.i64.wrap (x0.a4 * x0.a5)))))) .fail)
noncomputable def f38 (N : Nat) (x0 : S23) : Option f38o := Tr.run (f38t0 x0)
theorem f38_run (N : Nat) (x0 : S23) : (evRes (E1 N) (100 : Nat) (38 : Nat) [(S23v x0)]).run = (f38 N x0).map f38W := (Tr.run_of (g := (f38t0 x0)) (f := f38W) (by kernel_rfl))
def f38s : List PK := [S23k]
noncomputable def f38a (ps : List PV) : Option f38o := f38 0 (S23r (ps.headD PV.undef))
noncomputable def f38d : f38o := ⟨0, 0, 0, 0⟩
noncomputable def f38O : Ora := ⟨fun ps => okPs f38s ps && (f38a ps).isSome, fun ps => (f38W ((f38a ps).getD f38d)).plain⟩
theorem f38_spec : Spec Try.prog 38 f38O := spec_at 100 f38s (fun ps => (f38a ps).isSome) _ mixed fun ps hm hs hp => by
  cases h : f38a ps with
  | none => rw [h] at hp; cases hp
  | some o =>

    refine ⟨E1 0, f38W o, rfl, E1_ok 0, ?_, .inr ?_⟩
    · rw [show canPs f38s ps = [S23v (S23r (ps.headD PV.undef))] from by kernel_rfl, f38_run 0]
      show (f38a ps).map f38W = _
      rw [h]; rfl
    · rfl
structure f48o where
  r0 ::
  (y1 : Int) (y2 : Bool)
noncomputable def f48W (o : f48o) : Res := (fun y1 y2 => Res.pv (PV.tup [PV.int IntKind.i64 y1, PV.bool y2])) o.y1 o.y2
noncomputable def f48t0 (x0 : S29) (x1 : Int) (x2 : Int) (x3 : Int) : Tr f48o := (.test (x0.a0 == (2 : Int)) (.ret (.r0 (IntKind.i64.wrap (x1 + IntKind.i64.wrap ((0 : Int) - x0.a1))) (true))) (.test (x0.a0 == (1 : Int)) (.ret (.r0 (IntKind.i64.wrap (x1 + x0.a1)) (true))) (.test (x0.a0 == (3 : Int)) (.ret (.r0 (IntKind.i64.wrap (↑(BitVec.ofInt IntKind.i64.bits x1 ||| BitVec.ofInt IntKind.i64.bits x0.a1).toNat : Int)) (true))) (.test (x0.a0 == (4 : Int)) (.ret (.r0 (IntKind.i64.wrap (↑(BitVec.ofInt IntKind.i64.bits x1 &&& BitVec.ofInt IntKind.i64.bits x0.a1).toNat : Int)) (true))) (.test (x0.a0 == (5 : Int)) (.ret (.r0 (if x0.a1 < x1 then x1 else x0.a1) (true))) (.test (x0.a0 == (6 : Int)) (.ret (.r0 (if x1 < x0.a1 then x1 else x0.a1) (true))) (.test (x0.a0 == (7 : Int)) (.ret (.r0 (x0.a1) (true))) (.test (x0.a0 == (9 : Int)) (.test (decide (x0.a1 < (0 : Int))) (.ret (.r0 (x1) (false))) (.test (decide (x1 < x2)) (.ret (.r0 (x1) (false))) (.test (decide (IntKind.i64.wrap (x1 - x0.a1) ≤ x1)) (.test (decide (IntKind.i64.wrap (x1 - x0.a1) ≥ x2)) (.ret (.r0 (IntKind.i64.wrap (x1 - x0.a1)) (true))) (.ret (.r0 (x2) (true)))) (.ret (.r0 (x2) (true)))))) (.test (x0.a0 == (8 : Int)) (.test (decide (x0.a1 ≥ (0 : Int))) (.test (decide (IntKind.i64.wrap (x1 + x0.a1) ≥ x1)) (.test (decide (IntKind.i64.wrap (x1 + x0.a1) < x2)) (.ret (.r0 (x1) (false))) (.test (!decide (IntKind.i64.wrap (x1 + x0.a1) > x3)) (.ret (.r0 (IntKind.i64.wrap (x1 + x0.a1)) (true))) (.ret (.r0 (x1) (false))))) (.test (decide (x0.a1 < (0 : Int))) (.test (decide (IntKind.i64.wrap (x1 + x0.a1) < x1)) (.test (decide (IntKind.i64.wrap (x1 + x0.a1) < x2)) (.ret (.r0 (x1) (false))) (.test (!decide (IntKind.i64.wrap (x1 + x0.a1) > x3)) (.ret (.r0 (IntKind.i64.wrap (x1 + x0.a1)) (true))) (.ret (.r0 (x1) (false))))) (.ret (.r0 (x1) (false)))) (.ret (.r0 (x1) (false))))) (.test (decide (x0.a1 < (0 : Int))) (.test (decide (IntKind.i64.wrap (x1 + x0.a1) < x1)) (.test (decide (IntKind.i64.wrap (x1 + x0.a1) < x2)) (.ret (.r0 (x1) (false))) (.test (!decide (IntKind.i64.wrap (x1 + x0.a1) > x3)) (.ret (.r0 (IntKind.i64.wrap (x1 + x0.a1)) (true))) (.ret (.r0 (x1) (false))))) (.ret (.r0 (x1) (false)))) (.ret (.r0 (x1) (false))))) (.ret (.r0 (x1) (false))))))))))))
noncomputable def f48 (N : Nat) (x0 : S29) (x1 : Int) (x2 : Int) (x3 : Int) : Option f48o := Tr.run (f48t0 x0 x1 x2 x3)
theorem f48_run (N : Nat) (x0 : S29) (x1 : Int) (x2 : Int) (x3 : Int) : (evRes (E1 N) (100 : Nat) (48 : Nat) [(S29v x0), PV.int IntKind.i64 x1, PV.int IntKind.i64 x2, PV.int IntKind.i64 x3]).run = (f48 N x0 x1 x2 x3).map f48W := (Tr.run_of (g := (f48t0 x0 x1 x2 x3)) (f := f48W) (by kernel_rfl))
def f48s : List PK := [S29k, (false, [K.int .i64]), (false, [K.int .i64]), (false, [K.int .i64])]
noncomputable def f48a (ps : List PV) : Option f48o := f48 0 (S29r (ps.headD PV.undef)) (pInt (ps.tail.headD PV.undef)) (pInt (ps.tail.tail.headD PV.undef)) (pInt (ps.tail.tail.tail.headD PV.undef))
noncomputable def f48d : f48o := ⟨0, false⟩
noncomputable def f48O : Ora := ⟨fun ps => okPs f48s ps && (f48a ps).isSome, fun ps => (f48W ((f48a ps).getD f48d)).plain⟩
theorem f48_spec : Spec Try.prog 48 f48O := spec_at 100 f48s (fun ps => (f48a ps).isSome) _ mixed fun ps hm hs hp => by
  cases h : f48a ps with
  | none => rw [h] at hp; cases hp
  | some o =>

    refine ⟨E1 0, f48W o, rfl, E1_ok 0, ?_, .inr ?_⟩
    · rw [show canPs f48s ps = [S29v (S29r (ps.headD PV.undef)), PV.int IntKind.i64 (pInt (ps.tail.headD PV.undef)), PV.int IntKind.i64 (pInt (ps.tail.tail.headD PV.undef)), PV.int IntKind.i64 (pInt (ps.tail.tail.tail.headD PV.undef))] from by kernel_rfl, f48_run 0]
      show (f48a ps).map f48W = _
      rw [h]; rfl
    · rfl
end Go.Proofs.YtfkndbihfdjinaaS
