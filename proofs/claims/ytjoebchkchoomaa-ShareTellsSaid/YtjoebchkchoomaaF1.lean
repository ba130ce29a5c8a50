/- Functions of the chapter in plain form, printed. Conditions: none. -/
import Derived.Test.YtjoebchkchoomaaC1
set_option linter.unusedVariables false
set_option linter.unusedSimpArgs false
set_option maxRecDepth 10000
namespace Go.Proofs.YtjoebchkchoomaaS
open Go Go.Proofs
noncomputable def E1 (N : Nat) : Env := ((E0 N).add 76 f76O).add 82 f82O
theorem E1_ok (N : Nat) : (E1 N).Ok := ((E0_ok N).add f76_spec).add f82_spec
set_option maxHeartbeats 4000000
structure f8o where
  r0 ::
  (y7 : Bool)
noncomputable def f8W (o : f8o) : Res := (fun y7 => Res.pv (PV.bool y7)) o.y7
noncomputable def f8L0c (N : Nat) (x0 : S38) : Code := Tr.waitC (evRes (E1 N) (100 : Nat) (8 : Nat) [(S38v x0)])
inductive f8L0s where
  | s0 (y3 : Int)
noncomputable def f8L0S (x0 : S38) : f8L0s → St
  | .s0 y3 => { tmps := [AV.pv PV.undef, AV.ptr (1 : Nat) (0 : Nat), AV.pv PV.undef, AV.pv (PV.int IntKind.i64 y3), AV.pv PV.undef, AV.pv PV.undef, AV.pv PV.undef, AV.pv PV.undef, AV.pv PV.undef, AV.pv PV.undef, AV.pv PV.undef, AV.pv PV.undef, AV.pv PV.undef, AV.pv PV.undef, AV.pv PV.undef, AV.pv PV.undef, AV.pv PV.undef, AV.pv PV.undef, AV.pv PV.undef, AV.pv PV.undef, AV.pv PV.undef, AV.pv PV.undef, AV.pv PV.undef, AV.pv PV.undef, AV.pv PV.undef, AV.pv PV.undef, AV.pv PV.undef, AV.pv PV.undef, AV.pv PV.undef, AV.pv PV.undef, AV.pv PV.undef, AV.pv PV.undef, AV.pv PV.undef, AV.pv PV.undef, AV.pv PV.undef, AV.pv PV.undef, AV.pv PV.undef, AV.pv PV.undef, AV.pv PV.undef, AV.pv PV.undef, AV.pv PV.undef, AV.pv PV.undef, AV.pv PV.undef, AV.pv PV.undef, AV.pv PV.undef, AV.pv PV.undef, AV.pv PV.undef, AV.pv PV.undef, AV.pv PV.undef, AV.pv PV.undef, AV.pv PV.undef, AV.pv PV.undef, AV.pv PV.undef, AV.pv PV.undef, AV.pv PV.undef, AV.pv PV.undef, AV.pv PV.undef, AV.pv PV.undef, AV.pv PV.undef, AV.pv PV.undef, AV.pv PV.undef, AV.pv PV.undef, AV.pv PV.undef, AV.pv PV.undef, AV.pv PV.undef, AV.pv PV.undef, AV.pv PV.undef, AV.pv PV.undef, AV.pv PV.undef, AV.pv PV.undef], stack := [], mem := [((1 : Nat), Ob.box [AV.pv (PV.int IntKind.i64 x0.a0), AV.pv (PV.int IntKind.i64 x0.a1), AV.pv (PV.int IntKind.i64 x0.a2), AV.pv (PV.int IntKind.i64 x0.a3), AV.pv (PV.int IntKind.i64 x0.a4), AV.pv (PV.int IntKind.i64 x0.a5), AV.pv (PV.int IntKind.i64 x0.a6), AV.pv (PV.int IntKind.i64 x0.a7), AV.pv (PV.bool x0.a8), AV.pv (PV.int IntKind.i64 x0.a9), AV.pv (PV.int IntKind.i64 x0.a10), AV.pv (PV.int IntKind.i64 x0.a11), AV.pv (PV.int IntKind.i64 x0.a12), AV.pv (PV.int IntKind.i64 x0.a13), AV.pv (PV.list (3 : Nat) x0.a14), AV.pv (PV.list (30 : Nat) x0.a15), AV.pv (PV.int IntKind.i64 x0.a16), AV.pv (PV.int IntKind.i64 x0.a17), AV.pv (PV.int IntKind.i64 x0.a18), AV.pv (PV.int IntKind.i64 x0.a19), AV.pv (PV.list (78 : Nat) x0.a20), AV.pv (PV.list (66 : Nat) x0.a21), AV.pv (PV.list (3 : Nat) x0.a22), AV.pv (PV.int IntKind.i64 x0.a23), AV.pv (PV.int IntKind.i64 x0.a24), AV.pv (PV.int IntKind.i64 x0.a25), AV.pv (PV.int IntKind.i64 x0.a26), AV.pv (PV.int IntKind.i64 x0.a27), AV.pv (PV.int IntKind.i64 x0.a28), AV.pv (PV.int IntKind.i64 x0.a29), AV.pv (PV.int IntKind.i64 x0.a30), AV.pv (PV.int IntKind.i64 x0.a31), AV.pv (PV.int IntKind.i64 x0.a32), AV.pv (PV.list (3 : Nat) x0.a33), AV.pv (PV.int IntKind.i64 x0.a34), AV.pv (PV.list (117 : Nat) x0.a35), AV.pv (PV.bool x0.a36)])], cur := (0 : Nat), ctr := (1 : Nat), fn := (8 : Nat) }
inductive f8L0e where
  | e0 
  | e1 
noncomputable def f8L0T (x0 : S38) : f8L0e → (Ex × St)
  | .e0  => (Ex.ret, { tmps := [AV.pv PV.undef, AV.ptr (1 : Nat) (0 : Nat), AV.pv (PV.bool true), AV.pv PV.undef, AV.pv PV.undef, AV.pv PV.undef, AV.pv PV.undef, AV.pv PV.undef, AV.pv PV.undef, AV.pv PV.undef, AV.pv PV.undef, AV.pv PV.undef, AV.pv PV.undef, AV.pv PV.undef, AV.pv PV.undef, AV.pv PV.undef, AV.pv PV.undef, AV.pv PV.undef, AV.pv PV.undef, AV.pv PV.undef, AV.pv PV.undef, AV.pv PV.undef, AV.pv PV.undef, AV.pv PV.undef, AV.pv PV.undef, AV.pv PV.undef, AV.pv PV.undef, AV.pv PV.undef, AV.pv PV.undef, AV.pv PV.undef, AV.pv PV.undef, AV.pv PV.undef, AV.pv PV.undef, AV.pv PV.undef, AV.pv PV.undef, AV.pv PV.undef, AV.pv PV.undef, AV.pv PV.undef, AV.pv PV.undef, AV.pv PV.undef, AV.pv PV.undef, AV.pv PV.undef, AV.pv PV.undef, AV.pv PV.undef, AV.pv PV.undef, AV.pv PV.undef, AV.pv PV.undef, AV.pv PV.undef, AV.pv PV.undef, AV.pv PV.undef, AV.pv PV.undef, AV.pv PV.undef, AV.pv PV.undef, AV.pv PV.undef, AV.pv PV.undef, AV.pv PV.undef, AV.pv PV.undef, AV.pv PV.undef, AV.pv PV.undef, AV.pv PV.undef, AV.pv PV.undef, AV.pv PV.undef, AV.pv PV.undef, AV.pv PV.undef, AV.pv PV.undef, AV.pv PV.undef, AV.pv PV.undef, AV.pv PV.undef, AV.pv PV.undef, AV.pv PV.undef], stack := [], mem := [((1 : Nat), Ob.box [AV.pv (PV.int IntKind.i64 x0.a0), AV.pv (PV.int IntKind.i64 x0.a1), AV.pv (PV.int IntKind.i64 x0.a2), AV.pv (PV.int IntKind.i64 x0.a3), AV.pv (PV.int IntKind.i64 x0.a4), AV.pv (PV.int IntKind.i64 x0.a5), AV.pv (PV.int IntKind.i64 x0.a6), AV.pv (PV.int IntKind.i64 x0.a7), AV.pv (PV.bool x0.a8), AV.pv (PV.int IntKind.i64 x0.a9), AV.pv (PV.int IntKind.i64 x0.a10), AV.pv (PV.int IntKind.i64 x0.a11), AV.pv (PV.int IntKind.i64 x0.a12), AV.pv (PV.int IntKind.i64 x0.a13), AV.pv (PV.list (3 : Nat) x0.a14), AV.pv (PV.list (30 : Nat) x0.a15), AV.pv (PV.int IntKind.i64 x0.a16), AV.pv (PV.int IntKind.i64 x0.a17), AV.pv (PV.int IntKind.i64 x0.a18), AV.pv (PV.int IntKind.i64 x0.a19), AV.pv (PV.list (78 : Nat) x0.a20), AV.pv (PV.list (66 : Nat) x0.a21), AV.pv (PV.list (3 : Nat) x0.a22), AV.pv (PV.int IntKind.i64 x0.a23), AV.pv (PV.int IntKind.i64 x0.a24), AV.pv (PV.int IntKind.i64 x0.a25), AV.pv (PV.int IntKind.i64 x0.a26), AV.pv (PV.int IntKind.i64 x0.a27), AV.pv (PV.int IntKind.i64 x0.a28), AV.pv (PV.int IntKind.i64 x0.a29), AV.pv (PV.int IntKind.i64 x0.a30), AV.pv (PV.int IntKind.i64 x0.a31), AV.pv (PV.int IntKind.i64 x0.a32), AV.pv (PV.list (3 : Nat) x0.a33), AV.pv (PV.int IntKind.i64 x0.a34), AV.pv (PV.list (117 : Nat) x0.a35), AV.pv (PV.bool x0.a36)])], cur := (0 : Nat), ctr := (1 : Nat), fn := (8 : Nat) })
  | .e1  => (Ex.exit (0 : Nat), { tmps := [AV.pv PV.undef, AV.ptr (1 : Nat) (0 : Nat), AV.pv PV.undef, AV.pv PV.undef, AV.pv PV.undef, AV.pv PV.undef, AV.pv PV.undef, AV.pv PV.undef, AV.pv PV.undef, AV.pv PV.undef, AV.pv PV.undef, AV.pv PV.undef, AV.pv PV.undef, AV.pv PV.undef, AV.pv PV.undef, AV.pv PV.undef, AV.pv PV.undef, AV.pv PV.undef, AV.pv PV.undef, AV.pv PV.undef, AV.pv PV.undef, AV.pv PV.undef, AV.pv PV.undef, AV.pv PV.undef, AV.pv PV.undef, AV.pv PV.undef, AV.pv PV.undef, AV.pv PV.undef, AV.pv PV.undef, AV.pv PV.undef, AV.pv PV.undef, AV.pv PV.undef, AV.pv PV.undef, AV.pv PV.undef, AV.pv PV.undef, AV.pv PV.undef, AV.pv PV.undef, AV.pv PV.undef, AV.pv PV.undef, AV.pv PV.undef, AV.pv PV.undef, AV.pv PV.undef, AV.pv PV.undef, AV.pv PV.undef, AV.pv PV.undef, AV.pv PV.undef, AV.pv PV.undef, AV.pv PV.undef, AV.pv PV.undef, AV.pv PV.undef, AV.pv PV.undef, AV.pv PV.undef, AV.pv PV.undef, AV.pv PV.undef, AV.pv PV.undef, AV.pv PV.undef, AV.pv PV.undef, AV.pv PV.undef, AV.pv PV.undef, AV.pv PV.undef, AV.pv PV.undef, AV.pv PV.undef, AV.pv PV.undef, AV.pv PV.undef, AV.pv PV.undef, AV.pv PV.undef, AV.pv PV.undef, AV.pv PV.undef, AV.pv PV.undef, AV.pv PV.undef], stack := [], mem := [((1 : Nat), Ob.box [AV.pv (PV.int IntKind.i64 x0.a0), AV.pv (PV.int IntKind.i64 x0.a1), AV.pv (PV.int IntKind.i64 x0.a2), AV.pv (PV.int IntKind.i64 x0.a3), AV.pv (PV.int IntKind.i64 x0.a4), AV.pv (PV.int IntKind.i64 x0.a5), AV.pv (PV.int IntKind.i64 x0.a6), AV.pv (PV.int IntKind.i64 x0.a7), AV.pv (PV.bool x0.a8), AV.pv (PV.int IntKind.i64 x0.a9), AV.pv (PV.int IntKind.i64 x0.a10), AV.pv (PV.int IntKind.i64 x0.a11), AV.pv (PV.int IntKind.i64 x0.a12), AV.pv (PV.int IntKind.i64 x0.a13), AV.pv (PV.list (3 : Nat) x0.a14), AV.pv (PV.list (30 : Nat) x0.a15), AV.pv (PV.int IntKind.i64 x0.a16), AV.pv (PV.int IntKind.i64 x0.a17), AV.pv (PV.int IntKind.i64 x0.a18), AV.pv (PV.int IntKind.i64 x0.a19), AV.pv (PV.list (78 : Nat) x0.a20), AV.pv (PV.list (66 : Nat) x0.a21), AV.pv (PV.list (3 : Nat) x0.a22), AV.pv (PV.int IntKind.i64 x0.a23), AV.pv (PV.int IntKind.i64 x0.a24), AV.pv (PV.int IntKind.i64 x0.a25), AV.pv (PV.int IntKind.i64 x0.a26), AV.pv (PV.int IntKind.i64 x0.a27), AV.pv (PV.int IntKind.i64 x0.a28), AV.pv (PV.int IntKind.i64 x0.a29), AV.pv (PV.int IntKind.i64 x0.a30), AV.pv (PV.int IntKind.i64 x0.a31), AV.pv (PV.int IntKind.i64 x0.a32), AV.pv (PV.list (3 : Nat) x0.a33), AV.pv (PV.int IntKind.i64 x0.a34), AV.pv (PV.list (117 : Nat) x0.a35), AV.pv (PV.bool x0.a36)])], cur := (0 : Nat), ctr := (1 : Nat), fn := (8 : Nat) })
noncomputable def f8L0it5 (x0 : S38) (z4 : Int) : Tr (f8L0s ⊕ f8L0e) := (.test (decide (z4 < (↑x0.a15.length : Int))) (.test (decide (z4 < (20 : Int))) (.test (decide ((0 : Int) ≤ z4) && decide (z4 < (↑x0.a15.length : Int))) (.test (decide ((↑(pList ((x0.a15.getD z4.toNat []).headD PV.undef)).length : Int) > (20 : Int))) (.ret (.inr (.e0))) (.ret (.inl (.s0 (IntKind.i64.wrap (z4 + (1 : Int))))))) .fail) (.ret (.inr (.e1)))) (.ret (.inr (.e1))))
noncomputable def f8L0r (N : Nat) (x0 : S38) : f8L0s → Option (f8L0s ⊕ f8L0e)
  | .s0 z4 => Tr.run (f8L0it5 x0 z4)
theorem f8L0_step (N : Nat) (x0 : S38) : ∀ x, (roundAt (E1 N) (95 : Nat) (8 : Nat) (1 : Nat) (f8L0c N x0) (f8L0S x0 x)).run = (f8L0r N x0 x).map (sumMap (f8L0S x0) (f8L0T x0))
  | .s0 z4 => (Tr.run_of (g := (f8L0it5 x0 z4)) (f := (sumMap (f8L0S x0) (f8L0T x0))) (by kernel_rfl))
noncomputable def f8t6 (x0 : S38) : Tr f8o := (.test (decide ((↑x0.a14.length : Int) > (400 : Int))) (.ret (.r0 (true))) (.test (decide ((↑x0.a15.length : Int) > (16 : Int))) (.ret (.r0 (true))) (.test (decide ((↑x0.a20.length : Int) > (20 : Int))) (.ret (.r0 (true))) (.test (decide ((↑x0.a21.length : Int) > (20 : Int))) (.ret (.r0 (true))) (.test (decide ((↑x0.a22.length : Int) > (20 : Int))) (.ret (.r0 (true))) (.test (decide ((↑x0.a33.length : Int) > (100 : Int))) (.ret (.r0 (true))) (.ret (.r0 (decide ((↑x0.a35.length : Int) > (50 : Int)))))))))))
noncomputable def f8 (N : Nat) (x0 : S38) : Option f8o := ((loopN (f8L0r N x0) N (.s0 ((0 : Int)))).bind (fun
    | .e0  => Tr.run (.ret (.r0 (true)))
    | .e1  => Tr.run (f8t6 x0)))
theorem f8_run (N : Nat) (x0 : S38) : (evRes (E1 N) (100 : Nat) (8 : Nat) [(S38v x0)]).run = (f8 N x0).map f8W := (wait_run (wrap := f8W) (E := E1 N) (n := (95 : Nat)) (f := (8 : Nat)) (c0 := (1 : Nat)) (c := (f8L0c N x0)) (s := Tr.waitS (evRes (E1 N) (100 : Nat) (8 : Nat) [(S38v x0)])) (f8L0S x0) (f8L0T x0) (f8L0r N x0) (.s0 ((0 : Int))) _ (f8L0_step N x0) (by kernel_rfl) (by kernel_rfl) (by kernel_rfl) (by kernel_rfl) (by kernel_rfl) (fun
    | .e0  => (Tr.run_of (g := (.ret (.r0 (true)))) (f := f8W) (by kernel_rfl))
    | .e1  => (Tr.run_of (g := (f8t6 x0)) (f := f8W) (by kernel_rfl))))
structure f17o where
  r0 ::
  (y6 : Bool)
noncomputable def f17W (o : f17o) : Res := (fun y6 => Res.pv (PV.bool y6)) o.y6
noncomputable def f17L0c (N : Nat) (x0 : List (List PV)) (x1 : List (List PV)) : Code := Tr.waitC (Tr.sub [false] (Tr.sub [false] (evRes (E1 N) (100 : Nat) (17 : Nat) [PV.list (96 : Nat) x0, PV.list (96 : Nat) x1])))
inductive f17L0s where
  | s0 (y3 : Int)
noncomputable def f17L0S (x0 : List (List PV)) (x1 : List (List PV)) : f17L0s → St
  | .s0 y3 => { tmps := [AV.pv (PV.list (96 : Nat) x0), AV.pv (PV.list (96 : Nat) x1), AV.pv PV.undef, AV.pv PV.undef, AV.pv PV.undef, AV.pv (PV.int IntKind.i64 y3), AV.pv PV.undef, AV.pv PV.undef, AV.pv PV.undef, AV.pv PV.undef, AV.pv PV.undef, AV.pv PV.undef, AV.pv PV.undef, AV.pv PV.undef, AV.pv PV.undef, AV.pv PV.undef, AV.pv PV.undef, AV.pv PV.undef, AV.pv PV.undef, AV.pv PV.undef, AV.pv PV.undef, AV.pv PV.undef, AV.pv PV.undef, AV.pv PV.undef, AV.pv PV.undef, AV.pv PV.undef], stack := [], mem := [], cur := (0 : Nat), ctr := (1 : Nat), fn := (17 : Nat) }
inductive f17L0e where
  | e0 
  | e1 
noncomputable def f17L0T (x0 : List (List PV)) (x1 : List (List PV)) : f17L0e → (Ex × St)
  | .e0  => (Ex.ret, { tmps := [AV.pv PV.undef, AV.pv PV.undef, AV.pv PV.undef, AV.pv PV.undef, AV.pv (PV.bool false), AV.pv PV.undef, AV.pv PV.undef, AV.pv PV.undef, AV.pv PV.undef, AV.pv PV.undef, AV.pv PV.undef, AV.pv PV.undef, AV.pv PV.undef, AV.pv PV.undef, AV.pv PV.undef, AV.pv PV.undef, AV.pv PV.undef, AV.pv PV.undef, AV.pv PV.undef, AV.pv PV.undef, AV.pv PV.undef, AV.pv PV.undef, AV.pv PV.undef, AV.pv PV.undef, AV.pv PV.undef, AV.pv PV.undef], stack := [], mem := [], cur := (0 : Nat), ctr := (1 : Nat), fn := (17 : Nat) })
  | .e1  => (Ex.exit (0 : Nat), { tmps := [AV.pv PV.undef, AV.pv PV.undef, AV.pv PV.undef, AV.pv PV.undef, AV.pv PV.undef, AV.pv PV.undef, AV.pv PV.undef, AV.pv PV.undef, AV.pv PV.undef, AV.pv PV.undef, AV.pv PV.undef, AV.pv PV.undef, AV.pv PV.undef, AV.pv PV.undef, AV.pv PV.undef, AV.pv PV.undef, AV.pv PV.undef, AV.pv PV.undef, AV.pv PV.undef, AV.pv PV.undef, AV.pv PV.undef, AV.pv PV.undef, AV.pv PV.undef, AV.pv PV.undef, AV.pv PV.undef, AV.pv PV.undef], stack := [], mem := [], cur := (0 : Nat), ctr := (1 : Nat), fn := (17 : Nat) })
noncomputable def f17L0it5 (x0 : List (List PV)) (x1 : List (List PV)) (z4 : Int) : Tr (f17L0s ⊕ f17L0e) := (.test (decide (z4 < (↑x0.length : Int))) (.test (decide ((0 : Int) ≤ z4) && decide (z4 < (↑x0.length : Int))) (.test (decide ((0 : Int) ≤ z4) && decide (z4 < (↑x1.length : Int))) (.test (!(pInt ((x0.getD z4.toNat []).headD PV.undef) == pInt ((x1.getD z4.toNat []).headD PV.undef) && (pInt ((x0.getD z4.toNat []).tail.headD PV.undef) == pInt ((x1.getD z4.toNat []).tail.headD PV.undef) && (pInt ((x0.getD z4.toNat []).tail.tail.headD PV.undef) == pInt ((x1.getD z4.toNat []).tail.tail.headD PV.undef) && true) && true))) (.ret (.inr (.e0))) (.ret (.inl (.s0 (IntKind.i64.wrap (z4 + (1 : Int))))))) .fail) .fail) (.ret (.inr (.e1))))
noncomputable def f17L0r (N : Nat) (x0 : List (List PV)) (x1 : List (List PV)) : f17L0s → Option (f17L0s ⊕ f17L0e)
  | .s0 z4 => Tr.run (f17L0it5 x0 x1 z4)
theorem f17L0_step (N : Nat) (x0 : List (List PV)) (x1 : List (List PV)) : ∀ x, (roundAt (E1 N) (94 : Nat) (17 : Nat) (1 : Nat) (f17L0c N x0 x1) (f17L0S x0 x1 x)).run = (f17L0r N x0 x1 x).map (sumMap (f17L0S x0 x1) (f17L0T x0 x1))
  | .s0 z4 => (Tr.run_of (g := (f17L0it5 x0 x1 z4)) (f := (sumMap (f17L0S x0 x1) (f17L0T x0 x1))) (by kernel_rfl))
noncomputable def f17 (N : Nat) (x0 : List (List PV)) (x1 : List (List PV)) : Option f17o := (bif ((↑x0.length : Int) != (↑x1.length : Int)) then (Tr.run (.ret (.r0 (false)))) else ((loopN (f17L0r N x0 x1) N (.s0 ((0 : Int)))).bind (fun
    | .e0  => Tr.run (.ret (.r0 (false)))
    | .e1  => Tr.run (.ret (.r0 (true))))))
theorem f17_run (N : Nat) (x0 : List (List PV)) (x1 : List (List PV)) : (evRes (E1 N) (100 : Nat) (17 : Nat) [PV.list (96 : Nat) x0, PV.list (96 : Nat) x1]).run = (f17 N x0 x1).map f17W := (test_run (t := (evRes (E1 N) (100 : Nat) (17 : Nat) [PV.list (96 : Nat) x0, PV.list (96 : Nat) x1])) (b := (↑x0.length : Int) != (↑x1.length : Int)) (by kernel_rfl) (by kernel_rfl) (Tr.run_of (g := (.ret (.r0 (false)))) (f := f17W) (by kernel_rfl)) (skip_run [false] (by kernel_rfl) (wait_run (wrap := f17W) (E := E1 N) (n := (94 : Nat)) (f := (17 : Nat)) (c0 := (1 : Nat)) (c := (f17L0c N x0 x1)) (s := Tr.waitS (Tr.sub [false] (Tr.sub [false] (evRes (E1 N) (100 : Nat) (17 : Nat) [PV.list (96 : Nat) x0, PV.list (96 : Nat) x1])))) (f17L0S x0 x1) (f17L0T x0 x1) (f17L0r N x0 x1) (.s0 ((0 : Int))) _ (f17L0_step N x0 x1) (by kernel_rfl) (by kernel_rfl) (by kernel_rfl) (by kernel_rfl) (by kernel_rfl) (fun
    | .e0  => (Tr.run_of (g := (.ret (.r0 (false)))) (f := f17W) (by kernel_rfl))
    | .e1  => (Tr.run_of (g := (.ret (.r0 (true)))) (f := f17W) (by kernel_rfl))))))
inductive f18o where
  | r0 (y15 : List (List PV))
  | r1 (y16 : List (List PV))
noncomputable def f18W  : f18o → Res
  | .r0 y15 => Res.pv (PV.list (96 : Nat) y15)
  | .r1 y16 => Res.fresh (96 : Nat) y16
def f18rs : List PK := [(false, [K.list 96])]
noncomputable def f18L0c (N : Nat) (x0 : List (List PV)) : Code := Tr.waitC (evFit f18rs (evRes (E1 N) (100 : Nat) (18 : Nat) [PV.list (78 : Nat) x0]))
inductive f18L0s where
  | s0 
  | s1 
  | s2 (y5 : Int) (y6 : List (List PV))
noncomputable def f18L0S (x0 : List (List PV)) : f18L0s → St
  | .s0  => { tmps := [AV.pv (PV.list (78 : Nat) x0), AV.pv PV.undef, AV.pv PV.undef, AV.lit (96 : Nat) [], AV.pv (PV.int IntKind.i64 (0 : Int)), AV.pv PV.undef, AV.pv PV.undef, AV.pv PV.undef, AV.pv PV.undef, AV.pv PV.undef, AV.pv PV.undef, AV.pv PV.undef, AV.pv PV.undef, AV.pv PV.undef, AV.pv PV.undef, AV.pv PV.undef, AV.pv PV.undef, AV.pv PV.undef, AV.pv PV.undef, AV.pv PV.undef, AV.pv PV.undef, AV.pv PV.undef, AV.pv PV.undef, AV.pv PV.undef, AV.pv PV.undef, AV.pv PV.undef, AV.pv PV.undef], stack := [], mem := [], cur := (0 : Nat), ctr := (1 : Nat), fn := (18 : Nat) }
  | .s1  => { tmps := [AV.pv (PV.list (78 : Nat) x0), AV.pv PV.undef, AV.pv PV.undef, AV.own (525 : Nat), AV.pv (PV.int IntKind.i64 (1 : Int)), AV.pv PV.undef, AV.pv PV.undef, AV.pv PV.undef, AV.pv PV.undef, AV.pv PV.undef, AV.pv PV.undef, AV.pv PV.undef, AV.pv PV.undef, AV.pv PV.undef, AV.pv PV.undef, AV.pv PV.undef, AV.pv PV.undef, AV.pv PV.undef, AV.pv PV.undef, AV.pv PV.undef, AV.pv PV.undef, AV.pv PV.undef, AV.pv PV.undef, AV.pv PV.undef, AV.pv PV.undef, AV.pv PV.undef, AV.pv PV.undef], stack := [], mem := [((525 : Nat), Ob.row (2 : Nat) (96 : Nat) [[PV.int IntKind.i64 (pInt ((x0.getD (Int.toNat (0 : Int)) []).headD PV.undef)), PV.int IntKind.i64 (pInt ((x0.getD (Int.toNat (0 : Int)) []).tail.headD PV.undef)), PV.int IntKind.i64 (pInt ((x0.getD (Int.toNat (0 : Int)) []).tail.tail.headD PV.undef))]])], cur := (0 : Nat), ctr := (1 : Nat), fn := (18 : Nat) }
  | .s2 y5 y6 => { tmps := [AV.pv (PV.list (78 : Nat) x0), AV.pv PV.undef, AV.pv PV.undef, AV.own (525 : Nat), AV.pv (PV.int IntKind.i64 y5), AV.pv PV.undef, AV.pv PV.undef, AV.pv PV.undef, AV.pv PV.undef, AV.pv PV.undef, AV.pv PV.undef, AV.pv PV.undef, AV.pv PV.undef, AV.pv PV.undef, AV.pv PV.undef, AV.pv PV.undef, AV.pv PV.undef, AV.pv PV.undef, AV.pv PV.undef, AV.pv PV.undef, AV.pv PV.undef, AV.pv PV.undef, AV.pv PV.undef, AV.pv PV.undef, AV.pv PV.undef, AV.pv PV.undef, AV.pv PV.undef], stack := [], mem := [((525 : Nat), Ob.row (1 : Nat) (96 : Nat) y6)], cur := (0 : Nat), ctr := (1 : Nat), fn := (18 : Nat) }
inductive f18L0e where
  | e0 
  | e1 
  | e2 (y7 : List (List PV))
noncomputable def f18L0T (x0 : List (List PV)) : f18L0e → (Ex × St)
  | .e0  => (Ex.exit (0 : Nat), { tmps := [AV.pv PV.undef, AV.pv PV.undef, AV.pv PV.undef, AV.lit (96 : Nat) [], AV.pv PV.undef, AV.pv PV.undef, AV.pv PV.undef, AV.pv PV.undef, AV.pv PV.undef, AV.pv PV.undef, AV.pv PV.undef, AV.pv PV.undef, AV.pv PV.undef, AV.pv PV.undef, AV.pv PV.undef, AV.pv PV.undef, AV.pv PV.undef, AV.pv PV.undef, AV.pv PV.undef, AV.pv PV.undef, AV.pv PV.undef, AV.pv PV.undef, AV.pv PV.undef, AV.pv PV.undef, AV.pv PV.undef, AV.pv PV.undef, AV.pv PV.undef], stack := [], mem := [], cur := (0 : Nat), ctr := (1 : Nat), fn := (18 : Nat) })
  | .e1  => (Ex.exit (0 : Nat), { tmps := [AV.pv PV.undef, AV.pv PV.undef, AV.pv PV.undef, AV.own (525 : Nat), AV.pv PV.undef, AV.pv PV.undef, AV.pv PV.undef, AV.pv PV.undef, AV.pv PV.undef, AV.pv PV.undef, AV.pv PV.undef, AV.pv PV.undef, AV.pv PV.undef, AV.pv PV.undef, AV.pv PV.undef, AV.pv PV.undef, AV.pv PV.undef, AV.pv PV.undef, AV.pv PV.undef, AV.pv PV.undef, AV.pv PV.undef, AV.pv PV.undef, AV.pv PV.undef, AV.pv PV.undef, AV.pv PV.undef, AV.pv PV.undef, AV.pv PV.undef], stack := [], mem := [((525 : Nat), Ob.row (2 : Nat) (96 : Nat) [[PV.int IntKind.i64 (pInt ((x0.getD (Int.toNat (0 : Int)) []).headD PV.undef)), PV.int IntKind.i64 (pInt ((x0.getD (Int.toNat (0 : Int)) []).tail.headD PV.undef)), PV.int IntKind.i64 (pInt ((x0.getD (Int.toNat (0 : Int)) []).tail.tail.headD PV.undef))]])], cur := (0 : Nat), ctr := (1 : Nat), fn := (18 : Nat) })
  | .e2 y7 => (Ex.exit (0 : Nat), { tmps := [AV.pv PV.undef, AV.pv PV.undef, AV.pv PV.undef, AV.own (525 : Nat), AV.pv PV.undef, AV.pv PV.undef, AV.pv PV.undef, AV.pv PV.undef, AV.pv PV.undef, AV.pv PV.undef, AV.pv PV.undef, AV.pv PV.undef, AV.pv PV.undef, AV.pv PV.undef, AV.pv PV.undef, AV.pv PV.undef, AV.pv PV.undef, AV.pv PV.undef, AV.pv PV.undef, AV.pv PV.undef, AV.pv PV.undef, AV.pv PV.undef, AV.pv PV.undef, AV.pv PV.undef, AV.pv PV.undef, AV.pv PV.undef, AV.pv PV.undef], stack := [], mem := [((525 : Nat), Ob.row (1 : Nat) (96 : Nat) y7)], cur := (0 : Nat), ctr := (1 : Nat), fn := (18 : Nat) })
noncomputable def f18L0it8 (x0 : List (List PV)) : Tr (f18L0s ⊕ f18L0e) := (.test (decide ((0 : Int) < (↑x0.length : Int))) (.test (decide ((0 : Int) ≤ (0 : Int)) && decide ((0 : Int) < (↑x0.length : Int))) (.test (decide ((0 : Int) ≤ (0 : Int)) && decide ((0 : Int) < (↑x0.length : Int))) (.ret (.inl (.s1))) .fail) .fail) (.ret (.inr (.e0))))
noncomputable def f18L0it9 (x0 : List (List PV)) : Tr (f18L0s ⊕ f18L0e) := (.test (decide ((1 : Int) < (↑x0.length : Int))) (.test (decide ((0 : Int) ≤ (1 : Int)) && decide ((1 : Int) < (↑x0.length : Int))) (.test (decide ((0 : Int) ≤ (1 : Int)) && decide ((1 : Int) < (↑x0.length : Int))) (.ret (.inl (.s2 ((2 : Int)) ([[PV.int IntKind.i64 (pInt ((x0.getD (Int.toNat (0 : Int)) []).headD PV.undef)), PV.int IntKind.i64 (pInt ((x0.getD (Int.toNat (0 : Int)) []).tail.headD PV.undef)), PV.int IntKind.i64 (pInt ((x0.getD (Int.toNat (0 : Int)) []).tail.tail.headD PV.undef))], [PV.int IntKind.i64 (pInt ((x0.getD (Int.toNat (1 : Int)) []).headD PV.undef)), PV.int IntKind.i64 (pInt ((x0.getD (Int.toNat (1 : Int)) []).tail.headD PV.undef)), PV.int IntKind.i64 (pInt ((x0.getD (Int.toNat (1 : Int)) []).tail.tail.headD PV.undef))]])))) .fail) .fail) (.ret (.inr (.e1))))
noncomputable def f18L0it12 (x0 : List (List PV)) (z10 : Int) (z11 : List (List PV)) : Tr (f18L0s ⊕ f18L0e) := (.test (decide (z10 < (↑x0.length : Int))) (.test (decide ((0 : Int) ≤ z10) && decide (z10 < (↑x0.length : Int))) (.test (decide ((0 : Int) ≤ z10) && decide (z10 < (↑x0.length : Int))) (.test (decide (z11.length + [[PV.int IntKind.i64 (pInt ((x0.getD z10.toNat []).headD PV.undef)), PV.int IntKind.i64 (pInt ((x0.getD z10.toNat []).tail.headD PV.undef)), PV.int IntKind.i64 (pInt ((x0.getD z10.toNat []).tail.tail.headD PV.undef))]].length ≤ most)) (.ret (.inl (.s2 (IntKind.i64.wrap (z10 + (1 : Int))) (z11 ++ [[PV.int IntKind.i64 (pInt ((x0.getD z10.toNat []).headD PV.undef)), PV.int IntKind.i64 (pInt ((x0.getD z10.toNat []).tail.headD PV.undef)), PV.int IntKind.i64 (pInt ((x0.getD z10.toNat []).tail.tail.headD PV.undef))]])))) .fail) .fail) .fail) (.ret (.inr (.e2 (z11)))))
noncomputable def f18L0r (N : Nat) (x0 : List (List PV)) : f18L0s → Option (f18L0s ⊕ f18L0e)
  | .s0  => Tr.run (f18L0it8 x0)
  | .s1  => Tr.run (f18L0it9 x0)
  | .s2 z10 z11 => Tr.run (f18L0it12 x0 z10 z11)
theorem f18L0_step (N : Nat) (x0 : List (List PV)) : ∀ x, (roundAt (E1 N) (94 : Nat) (18 : Nat) (1 : Nat) (f18L0c N x0) (f18L0S x0 x)).run = (f18L0r N x0 x).map (sumMap (f18L0S x0) (f18L0T x0))
  | .s0  => (Tr.run_of (g := (f18L0it8 x0)) (f := (sumMap (f18L0S x0) (f18L0T x0))) (by kernel_rfl))
  | .s1  => (Tr.run_of (g := (f18L0it9 x0)) (f := (sumMap (f18L0S x0) (f18L0T x0))) (by kernel_rfl))
  | .s2 z10 z11 => (Tr.run_of (g := (f18L0it12 x0 z10 z11)) (f := (sumMap (f18L0S x0) (f18L0T x0))) (by kernel_rfl))
noncomputable def f18t13 (x0 : List (List PV)) : Tr f18o := (.ret (.r1 ([[PV.int IntKind.i64 (pInt ((x0.getD (Int.toNat (0 : Int)) []).headD PV.undef)), PV.int IntKind.i64 (pInt ((x0.getD (Int.toNat (0 : Int)) []).tail.headD PV.undef)), PV.int IntKind.i64 (pInt ((x0.getD (Int.toNat (0 : Int)) []).tail.tail.headD PV.undef))]])))
noncomputable def f18 (N : Nat) (x0 : List (List PV)) : Option f18o := ((loopN (f18L0r N x0) N (.s0)).bind (fun
    | .e0  => Tr.run (.ret (.r0 ([])))
    | .e1  => Tr.run (f18t13 x0)
    | .e2 w14 => Tr.run (.ret (.r0 (w14)))))
theorem f18_run (N : Nat) (x0 : List (List PV)) : (evFit f18rs (evRes (E1 N) (100 : Nat) (18 : Nat) [PV.list (78 : Nat) x0])).run = (f18 N x0).map f18W := (wait_run (wrap := f18W) (E := E1 N) (n := (94 : Nat)) (f := (18 : Nat)) (c0 := (1 : Nat)) (c := (f18L0c N x0)) (s := Tr.waitS (evFit f18rs (evRes (E1 N) (100 : Nat) (18 : Nat) [PV.list (78 : Nat) x0]))) (f18L0S x0) (f18L0T x0) (f18L0r N x0) (.s0) _ (f18L0_step N x0) (by kernel_rfl) (by kernel_rfl) (by kernel_rfl) (by kernel_rfl) (by kernel_rfl) (fun
    | .e0  => (Tr.run_of (g := (.ret (.r0 ([])))) (f := f18W) (by kernel_rfl))
    | .e1  => (Tr.run_of (g := (f18t13 x0)) (f := f18W) (by kernel_rfl))
    | .e2 w14 => (Tr.run_of (g := (.ret (.r0 (w14)))) (f := f18W) (by kernel_rfl))))
structure f21o where
  r0 ::
  (y0 : Bool)
noncomputable def f21W (o : f21o) : Res := (fun y0 => Res.pv (PV.bool y0)) o.y0
noncomputable def f21 (N : Nat) (x0 : S33) : Option f21o := Tr.run (.ret (.r0 (x0.a0 != (0 : Int))))
theorem f21_run (N : Nat) (x0 : S33) : (evRes (E1 N) (100 : Nat) (21 : Nat) [(S33v x0)]).run = (f21 N x0).map f21W := (Tr.run_of (g := (.ret (.r0 (x0.a0 != (0 : Int))))) (f := f21W) (by kernel_rfl))
def f21s : List PK := [S33k]
noncomputable def f21a (ps : List PV) : Option f21o := f21 0 (S33r (ps.headD PV.undef))
noncomputable def f21d : f21o := ⟨false⟩
noncomputable def f21O : Ora := ⟨fun ps => okPs f21s ps && (f21a ps).isSome, fun ps => (f21W ((f21a ps).getD f21d)).plain⟩
theorem f21_spec : Spec Try.prog 21 f21O := spec_at 100 f21s (fun ps => (f21a ps).isSome) _ mixed fun ps hm hs hp => by
  cases h : f21a ps with
  | none => rw [h] at hp; cases hp
  | some o =>

    refine ⟨E1 0, f21W o, rfl, E1_ok 0, ?_, .inr ?_⟩
    · rw [show canPs f21s ps = [S33v (S33r (ps.headD PV.undef))] from by kernel_rfl, f21_run 0]
      show (f21a ps).map f21W = _
      rw [h]; rfl
    · rfl
inductive f23o where
  | r0 (y15 : List (List PV))
  | r1 (y16 : List (List PV))
noncomputable def f23W  : f23o → Res
  | .r0 y15 => Res.pv (PV.list (96 : Nat) y15)
  | .r1 y16 => Res.fresh (96 : Nat) y16
def f23rs : List PK := [(false, [K.list 96])]
noncomputable def f23L0c (N : Nat) (x0 : List (List PV)) (x1 : Int) : Code := Tr.waitC (evFit f23rs (evRes (E1 N) (100 : Nat) (23 : Nat) [PV.list (96 : Nat) x0, PV.int IntKind.i64 x1]))
inductive f23L0s where
  | s0 
  | s1 
  | s2 (y5 : Int) (y6 : List (List PV))
noncomputable def f23L0S (x0 : List (List PV)) (x1 : Int) : f23L0s → St
  | .s0  => { tmps := [AV.pv (PV.list (96 : Nat) x0), AV.pv (PV.int IntKind.i64 x1), AV.pv PV.undef, AV.pv PV.undef, AV.pv PV.undef, AV.lit (96 : Nat) [], AV.pv (PV.int IntKind.i64 (0 : Int)), AV.pv PV.undef, AV.pv PV.undef, AV.pv PV.undef, AV.pv PV.undef, AV.pv PV.undef, AV.pv PV.undef, AV.pv PV.undef, AV.pv PV.undef, AV.pv PV.undef, AV.pv PV.undef, AV.pv PV.undef, AV.pv PV.undef, AV.pv PV.undef, AV.pv PV.undef, AV.pv PV.undef, AV.pv PV.undef, AV.pv PV.undef, AV.pv PV.undef, AV.pv PV.undef, AV.pv PV.undef], stack := [], mem := [], cur := (0 : Nat), ctr := (1 : Nat), fn := (23 : Nat) }
  | .s1  => { tmps := [AV.pv (PV.list (96 : Nat) x0), AV.pv (PV.int IntKind.i64 x1), AV.pv PV.undef, AV.pv PV.undef, AV.pv PV.undef, AV.own (525 : Nat), AV.pv (PV.int IntKind.i64 (1 : Int)), AV.pv PV.undef, AV.pv PV.undef, AV.pv PV.undef, AV.pv PV.undef, AV.pv PV.undef, AV.pv PV.undef, AV.pv PV.undef, AV.pv PV.undef, AV.pv PV.undef, AV.pv PV.undef, AV.pv PV.undef, AV.pv PV.undef, AV.pv PV.undef, AV.pv PV.undef, AV.pv PV.undef, AV.pv PV.undef, AV.pv PV.undef, AV.pv PV.undef, AV.pv PV.undef, AV.pv PV.undef], stack := [], mem := [((525 : Nat), Ob.row (2 : Nat) (96 : Nat) [[PV.int IntKind.i64 (pInt ((x0.getD (Int.toNat (0 : Int)) []).headD PV.undef)), PV.int IntKind.i64 (pInt ((x0.getD (Int.toNat (0 : Int)) []).tail.headD PV.undef)), PV.int IntKind.i64 (pInt ((x0.getD (Int.toNat (0 : Int)) []).tail.tail.headD PV.undef))]])], cur := (0 : Nat), ctr := (1 : Nat), fn := (23 : Nat) }
  | .s2 y5 y6 => { tmps := [AV.pv (PV.list (96 : Nat) x0), AV.pv (PV.int IntKind.i64 x1), AV.pv PV.undef, AV.pv PV.undef, AV.pv PV.undef, AV.own (525 : Nat), AV.pv (PV.int IntKind.i64 y5), AV.pv PV.undef, AV.pv PV.undef, AV.pv PV.undef, AV.pv PV.undef, AV.pv PV.undef, AV.pv PV.undef, AV.pv PV.undef, AV.pv PV.undef, AV.pv PV.undef, AV.pv PV.undef, AV.pv PV.undef, AV.pv PV.undef, AV.pv PV.undef, AV.pv PV.undef, AV.pv PV.undef, AV.pv PV.undef, AV.pv PV.undef, AV.pv PV.undef, AV.pv PV.undef, AV.pv PV.undef], stack := [], mem := [((525 : Nat), Ob.row (1 : Nat) (96 : Nat) y6)], cur := (0 : Nat), ctr := (1 : Nat), fn := (23 : Nat) }
inductive f23L0e where
  | e0 
  | e1 
  | e2 (y7 : List (List PV))
noncomputable def f23L0T (x0 : List (List PV)) (x1 : Int) : f23L0e → (Ex × St)
  | .e0  => (Ex.exit (0 : Nat), { tmps := [AV.pv PV.undef, AV.pv PV.undef, AV.pv PV.undef, AV.pv PV.undef, AV.pv PV.undef, AV.lit (96 : Nat) [], AV.pv PV.undef, AV.pv PV.undef, AV.pv PV.undef, AV.pv PV.undef, AV.pv PV.undef, AV.pv PV.undef, AV.pv PV.undef, AV.pv PV.undef, AV.pv PV.undef, AV.pv PV.undef, AV.pv PV.undef, AV.pv PV.undef, AV.pv PV.undef, AV.pv PV.undef, AV.pv PV.undef, AV.pv PV.undef, AV.pv PV.undef, AV.pv PV.undef, AV.pv PV.undef, AV.pv PV.undef, AV.pv PV.undef], stack := [], mem := [], cur := (0 : Nat), ctr := (1 : Nat), fn := (23 : Nat) })
  | .e1  => (Ex.exit (0 : Nat), { tmps := [AV.pv PV.undef, AV.pv PV.undef, AV.pv PV.undef, AV.pv PV.undef, AV.pv PV.undef, AV.own (525 : Nat), AV.pv PV.undef, AV.pv PV.undef, AV.pv PV.undef, AV.pv PV.undef, AV.pv PV.undef, AV.pv PV.undef, AV.pv PV.undef, AV.pv PV.undef, AV.pv PV.undef, AV.pv PV.undef, AV.pv PV.undef, AV.pv PV.undef, AV.pv PV.undef, AV.pv PV.undef, AV.pv PV.undef, AV.pv PV.undef, AV.pv PV.undef, AV.pv PV.undef, AV.pv PV.undef, AV.pv PV.undef, AV.pv PV.undef], stack := [], mem := [((525 : Nat), Ob.row (2 : Nat) (96 : Nat) [[PV.int IntKind.i64 (pInt ((x0.getD (Int.toNat (0 : Int)) []).headD PV.undef)), PV.int IntKind.i64 (pInt ((x0.getD (Int.toNat (0 : Int)) []).tail.headD PV.undef)), PV.int IntKind.i64 (pInt ((x0.getD (Int.toNat (0 : Int)) []).tail.tail.headD PV.undef))]])], cur := (0 : Nat), ctr := (1 : Nat), fn := (23 : Nat) })
  | .e2 y7 => (Ex.exit (0 : Nat), { tmps := [AV.pv PV.undef, AV.pv PV.undef, AV.pv PV.undef, AV.pv PV.undef, AV.pv PV.undef, AV.own (525 : Nat), AV.pv PV.undef, AV.pv PV.undef, AV.pv PV.undef, AV.pv PV.undef, AV.pv PV.undef, AV.pv PV.undef, AV.pv PV.undef, AV.pv PV.undef, AV.pv PV.undef, AV.pv PV.undef, AV.pv PV.undef, AV.pv PV.undef, AV.pv PV.undef, AV.pv PV.undef, AV.pv PV.undef, AV.pv PV.undef, AV.pv PV.undef, AV.pv PV.undef, AV.pv PV.undef, AV.pv PV.undef, AV.pv PV.undef], stack := [], mem := [((525 : Nat), Ob.row (1 : Nat) (96 : Nat) y7)], cur := (0 : Nat), ctr := (1 : Nat), fn := (23 : Nat) })
noncomputable def f23L0it8 (x0 : List (List PV)) (x1 : Int) : Tr (f23L0s ⊕ f23L0e) := (.test (decide ((0 : Int) < (↑x0.length : Int))) (.test (decide ((0 : Int) < x1)) (.test (decide ((0 : Int) ≤ (0 : Int)) && decide ((0 : Int) < (↑x0.length : Int))) (.ret (.inl (.s1))) .fail) (.ret (.inr (.e0)))) (.ret (.inr (.e0))))
noncomputable def f23L0it9 (x0 : List (List PV)) (x1 : Int) : Tr (f23L0s ⊕ f23L0e) := (.test (decide ((1 : Int) < (↑x0.length : Int))) (.test (decide ((1 : Int) < x1)) (.test (decide ((0 : Int) ≤ (1 : Int)) && decide ((1 : Int) < (↑x0.length : Int))) (.ret (.inl (.s2 ((2 : Int)) ([[PV.int IntKind.i64 (pInt ((x0.getD (Int.toNat (0 : Int)) []).headD PV.undef)), PV.int IntKind.i64 (pInt ((x0.getD (Int.toNat (0 : Int)) []).tail.headD PV.undef)), PV.int IntKind.i64 (pInt ((x0.getD (Int.toNat (0 : Int)) []).tail.tail.headD PV.undef))], [PV.int IntKind.i64 (pInt ((x0.getD (Int.toNat (1 : Int)) []).headD PV.undef)), PV.int IntKind.i64 (pInt ((x0.getD (Int.toNat (1 : Int)) []).tail.headD PV.undef)), PV.int IntKind.i64 (pInt ((x0.getD (Int.toNat (1 : Int)) []).tail.tail.headD PV.undef))]])))) .fail) (.ret (.inr (.e1)))) (.ret (.inr (.e1))))
noncomputable def f23L0it12 (x0 : List (List PV)) (x1 : Int) (z10 : Int) (z11 : List (List PV)) : Tr (f23L0s ⊕ f23L0e) := (.test (decide (z10 < (↑x0.length : Int))) (.test (decide (z10 < x1)) (.test (decide ((0 : Int) ≤ z10) && decide (z10 < (↑x0.length : Int))) (.test (decide (z11.length + [[PV.int IntKind.i64 (pInt ((x0.getD z10.toNat []).headD PV.undef)), PV.int IntKind.i64 (pInt ((x0.getD z10.toNat []).tail.headD PV.undef)), PV.int IntKind.i64 (pInt ((x0.getD z10.toNat []).tail.tail.headD PV.undef))]].length ≤ most)) (.ret (.inl (.s2 (IntKind.i64.wrap (z10 + (1 : Int))) (z11 ++ [[PV.int IntKind.i64 (pInt ((x0.getD z10.toNat []).headD PV.undef)), PV.int IntKind.i64 (pInt ((x0.getD z10.toNat []).tail.headD PV.undef)), PV.int IntKind.i64 (pInt ((x0.getD z10.toNat []).tail.tail.headD PV.undef))]])))) .fail) .fail) (.ret (.inr (.e2 (z11))))) (.ret (.inr (.e2 (z11)))))
noncomputable def f23L0r (N : Nat) (x0 : List (List PV)) (x1 : Int) : f23L0s → Option (f23L0s ⊕ f23L0e)
  | .s0  => Tr.run (f23L0it8 x0 x1)
  | .s1  => Tr.run (f23L0it9 x0 x1)
  | .s2 z10 z11 => Tr.run (f23L0it12 x0 x1 z10 z11)
theorem f23L0_step (N : Nat) (x0 : List (List PV)) (x1 : Int) : ∀ x, (roundAt (E1 N) (94 : Nat) (23 : Nat) (1 : Nat) (f23L0c N x0 x1) (f23L0S x0 x1 x)).run = (f23L0r N x0 x1 x).map (sumMap (f23L0S x0 x1) (f23L0T x0 x1))
  | .s0  => (Tr.run_of (g := (f23L0it8 x0 x1)) (f := (sumMap (f23L0S x0 x1) (f23L0T x0 x1))) (by kernel_rfl))
  | .s1  => (Tr.run_of (g := (f23L0it9 x0 x1)) (f := (sumMap (f23L0S x0 x1) (f23L0T x0 x1))) (by kernel_rfl))
  | .s2 z10 z11 => (Tr.run_of (g := (f23L0it12 x0 x1 z10 z11)) (f := (sumMap (f23L0S x0 x1) (f23L0T x0 x1))) (by kernel_rfl))
noncomputable def f23t13 (x0 : List (List PV)) (x1 : Int) : Tr f23o := (.ret (.r1 ([[PV.int IntKind.i64 (pInt ((x0.getD (Int.toNat (0 : Int)) []).headD PV.undef)), PV.int IntKind.i64 (pInt ((x0.getD (Int.toNat (0 : Int)) []).tail.headD PV.undef)), PV.int IntKind.i64 (pInt ((x0.getD (Int.toNat (0 : Int)) []).tail.tail.headD PV.undef))]])))
noncomputable def f23 (N : Nat) (x0 : List (List PV)) (x1 : Int) : Option f23o := ((loopN (f23L0r N x0 x1) N (.s0)).bind (fun
    | .e0  => Tr.run (.ret (.r0 ([])))
    | .e1  => Tr.run (f23t13 x0 x1)
    | .e2 w14 => Tr.run (.ret (.r0 (w14)))))
theorem f23_run (N : Nat) (x0 : List (List PV)) (x1 : Int) : (evFit f23rs (evRes (E1 N) (100 : Nat) (23 : Nat) [PV.list (96 : Nat) x0, PV.int IntKind.i64 x1])).run = (f23 N x0 x1).map f23W := (wait_run (wrap := f23W) (E := E1 N) (n := (94 : Nat)) (f := (23 : Nat)) (c0 := (1 : Nat)) (c := (f23L0c N x0 x1)) (s := Tr.waitS (evFit f23rs (evRes (E1 N) (100 : Nat) (23 : Nat) [PV.list (96 : Nat) x0, PV.int IntKind.i64 x1]))) (f23L0S x0 x1) (f23L0T x0 x1) (f23L0r N x0 x1) (.s0) _ (f23L0_step N x0 x1) (by kernel_rfl) (by kernel_rfl) (by kernel_rfl) (by kernel_rfl) (by kernel_rfl) (fun
    | .e0  => (Tr.run_of (g := (.ret (.r0 ([])))) (f := f23W) (by kernel_rfl))
    | .e1  => (Tr.run_of (g := (f23t13 x0 x1)) (f := f23W) (by kernel_rfl))
    | .e2 w14 => (Tr.run_of (g := (.ret (.r0 (w14)))) (f := f23W) (by kernel_rfl))))
structure f24o where
  r0 ::
  (y0 : Int)
noncomputable def f24W (o : f24o) : Res := (fun y0 => Res.pv (PV.int IntKind.i64 y0)) o.y0
noncomputable def f24 (N : Nat)  : Option f24o := Tr.run (.ret (.r0 ((5 : Int))))
theorem f24_run (N : Nat)  : (evRes (E1 N) (100 : Nat) (24 : Nat) []).run = (f24 N ).map f24W := (Tr.run_of (g := (.ret (.r0 ((5 : Int))))) (f := f24W) (by kernel_rfl))
def f24s : List PK := []
noncomputable def f24a (ps : List PV) : Option f24o := f24 0 
noncomputable def f24d : f24o := ⟨0⟩
noncomputable def f24O : Ora := ⟨fun ps => okPs f24s ps && (f24a ps).isSome, fun ps => (f24W ((f24a ps).getD f24d)).plain⟩
theorem f24_spec : Spec Try.prog 24 f24O := spec_at 100 f24s (fun ps => (f24a ps).isSome) _ mixed fun ps hm hs hp => by
  cases h : f24a ps with
  | none => rw [h] at hp; cases hp
  | some o =>

    refine ⟨E1 0, f24W o, rfl, E1_ok 0, ?_, .inr ?_⟩
    · rw [show canPs f24s ps = [] from by kernel_rfl, f24_run 0]
      show (f24a ps).map f24W = _
      rw [h]; rfl
    · rfl
structure f26o where
  r0 ::
  (y1 : Int)
noncomputable def f26W (o : f26o) : Res := (fun y1 => Res.pv (PV.int IntKind.i64 y1)) o.y1
noncomputable def f26t0 (x0 : S43) : Tr f26o := (.test (decide (x0.a0 < (1 : Int))) (.ret (.r0 ((50 : Int)))) (.test (decide (x0.a0 > (16 : Int))) (.ret (.r0 ((50 : Int)))) (.test (decide (x0.a1 < (1 : Int))) (.ret (.r0 ((51 : Int)))) (.test (decide (x0.a1 > (4 : Int))) (.ret (.r0 ((51 : Int)))) (.test (decide (x0.a2 < (1 : Int))) (.ret (.r0 ((52 : Int)))) (.test (decide (x0.a2 > (3 : Int))) (.ret (.r0 ((52 : Int)))) (.test (decide (x0.a3 < (0 : Int))) (.ret (.r0 ((53 : Int)))) (.test (decide (x0.a3 > (4 : Int))) (.ret (.r0 ((53 : Int)))) (.test (decide (x0.a4 < (0 : Int))) (.ret (.r0 ((54 : Int)))) (.test (decide (x0.a4 > (3 : Int))) (.ret (.r0 ((54 : Int)))) (.test (decide (x0.a5 < (1 : Int))) (.ret (.r0 ((55 : Int)))) (.test (decide (x0.a5 > (8 : Int))) (.ret (.r0 ((55 : Int)))) (.test (decide (x0.a6 < (0 : Int))) (.ret (.r0 ((56 : Int)))) (.test (decide (x0.a6 > (20 : Int))) (.ret (.r0 ((56 : Int)))) (.test (decide (x0.a7 < (0 : Int))) (.ret (.r0 ((57 : Int)))) (.test (decide (x0.a7 > (1000 : Int))) (.ret (.r0 ((57 : Int)))) (.test (x0.a8) (.test (decide (x0.a9 > x0.a11)) (.ret (.r0 ((58 : Int)))) (.test (decide (x0.a11 > x0.a10)) (.ret (.r0 ((58 : Int)))) (.ret (.r0 ((0 : Int)))))) (.ret (.r0 ((0 : Int)))))))))))))))))))))
noncomputable def f26 (N : Nat) (x0 : S43) : Option f26o := Tr.run (f26t0 x0)
theorem f26_run (N : Nat) (x0 : S43) : (evRes (E1 N) (100 : Nat) (26 : Nat) [(S43v x0)]).run = (f26 N x0).map f26W := (Tr.run_of (g := (f26t0 x0)) (f := f26W) (by kernel_rfl))
def f26s : List PK := [S43k]
noncomputable def f26a (ps : List PV) : Option f26o := f26 0 (S43r (ps.headD PV.undef))
noncomputable def f26d : f26o := ⟨0⟩
noncomputable def f26O : Ora := ⟨fun ps => okPs f26s ps && (f26a ps).isSome, fun ps => (f26W ((f26a ps).getD f26d)).plain⟩
theorem f26_spec : Spec Try.prog 26 f26O := spec_at 100 f26s (fun ps => (f26a ps).isSome) _ mixed fun ps hm hs hp => by
  cases h : f26a ps with
  | none => rw [h] at hp; cases hp
  | some o =>

    refine ⟨E1 0, f26W o, rfl, E1_ok 0, ?_, .inr ?_⟩
    · rw [show canPs f26s ps = [S43v (S43r (ps.headD PV.undef))] from by kernel_rfl, f26_run 0]
      show (f26a ps).map f26W = _
      rw [h]; rfl
    · rfl
structure f33o where
  r0 ::
  (y1 : Int) (y2 : Int)
noncomputable def f33W (o : f33o) : Res := (fun y1 y2 => Res.pv (PV.tup [PV.int IntKind.i64 y1, PV.int IntKind.i64 y2])) o.y1 o.y2
noncomputable def f33t0 (x0 : S46) (x1 : Int) : Tr f33o := (.test (decide (x1 < (0 : Int))) (.ret (.r0 ((0 : Int)) ((30 : Int)))) (.test (decide (x1 ≥ (↑x0.a0.length : Int))) (.ret (.r0 ((0 : Int)) ((30 : Int)))) (.test (decide ((0 : Int) ≤ x1) && decide (x1 < (↑x0.a0.length : Int))) (.ret (.r0 (pInt ((x0.a0.getD x1.toNat []).headD PV.undef)) ((0 : Int)))) .fail)))
noncomputable def f33 (N : Nat) (x0 : S46) (x1 : Int) : Option f33o := Tr.run (f33t0 x0 x1)
theorem f33_run (N : Nat) (x0 : S46) (x1 : Int) : (evRes (E1 N) (100 : Nat) (33 : Nat) [(S46v x0), PV.int IntKind.i64 x1]).run = (f33 N x0 x1).map f33W := (Tr.run_of (g := (f33t0 x0 x1)) (f := f33W) (by kernel_rfl))
def f33s : List PK := [S46k, (false, [K.int .i64])]
noncomputable def f33a (ps : List PV) : Option f33o := f33 0 (S46r (ps.headD PV.undef)) (pInt (ps.tail.headD PV.undef))
noncomputable def f33d : f33o := ⟨0, 0⟩
noncomputable def f33O : Ora := ⟨fun ps => okPs f33s ps && (f33a ps).isSome, fun ps => (f33W ((f33a ps).getD f33d)).plain⟩
theorem f33_spec : Spec Try.prog 33 f33O := spec_at 100 f33s (fun ps => (f33a ps).isSome) _ mixed fun ps hm hs hp => by
  cases h : f33a ps with
  | none => rw [h] at hp; cases hp
  | some o =>

    refine ⟨E1 0, f33W o, rfl, E1_ok 0, ?_, .inr ?_⟩
    · rw [show canPs f33s ps = [S46v (S46r (ps.headD PV.undef)), PV.int IntKind.i64 (pInt (ps.tail.headD PV.undef))] from by kernel_rfl, f33_run 0]
      show (f33a ps).map f33W = _
      rw [h]; rfl
    · rfl
structure f34o where
  r0 ::
  (y0 : Int)
noncomputable def f34W (o : f34o) : Res := (fun y0 => Res.pv (PV.int IntKind.i64 y0)) o.y0
noncomputable def f34 (N : Nat)  : Option f34o := Tr.run (.ret (.r0 ((5 : Int))))
theorem f34_run (N : Nat)  : (evRes (E1 N) (100 : Nat) (34 : Nat) []).run = (f34 N ).map f34W := (Tr.run_of (g := (.ret (.r0 ((5 : Int))))) (f := f34W) (by kernel_rfl))
def f34s : List PK := []
noncomputable def f34a (ps : List PV) : Option f34o := f34 0 
noncomputable def f34d : f34o := ⟨0⟩
noncomputable def f34O : Ora := ⟨fun ps => okPs f34s ps && (f34a ps).isSome, fun ps => (f34W ((f34a ps).getD f34d)).plain⟩
theorem f34_spec : Spec Try.prog 34 f34O := spec_at 100 f34s (fun ps => (f34a ps).isSome) _ mixed fun ps hm hs hp => by
  cases h : f34a ps with
  | none => rw [h] at hp; cases hp
  | some o =>

    refine ⟨E1 0, f34W o, rfl, E1_ok 0, ?_, .inr ?_⟩
    · rw [show canPs f34s ps = [] from by kernel_rfl, f34_run 0]
      show (f34a ps).map f34W = _
      rw [h]; rfl
    · rfl
inductive f38o where
  | r0 (y15 : List (List PV))
  | r1 (y16 : List (List PV))
noncomputable def f38W  : f38o → Res
  | .r0 y15 => Res.pv (PV.list (119 : Nat) y15)
  | .r1 y16 => Res.fresh (119 : Nat) y16
def f38rs : List PK := [(false, [K.list 119])]
noncomputable def f38L0c (N : Nat) (x0 : List (List PV)) : Code := Tr.waitC (evFit f38rs (evRes (E1 N) (100 : Nat) (38 : Nat) [PV.list (117 : Nat) x0]))
inductive f38L0s where
  | s0 
  | s1 
  | s2 (y5 : Int) (y6 : List (List PV))
noncomputable def f38L0S (x0 : List (List PV)) : f38L0s → St
  | .s0  => { tmps := [AV.pv (PV.list (117 : Nat) x0), AV.pv PV.undef, AV.pv PV.undef, AV.lit (119 : Nat) [], AV.pv (PV.int IntKind.i64 (0 : Int)), AV.pv PV.undef, AV.pv PV.undef, AV.pv PV.undef, AV.pv PV.undef, AV.pv PV.undef, AV.pv PV.undef, AV.pv PV.undef, AV.pv PV.undef, AV.pv PV.undef, AV.pv PV.undef, AV.pv PV.undef, AV.pv PV.undef, AV.pv PV.undef, AV.pv PV.undef, AV.pv PV.undef, AV.pv PV.undef, AV.pv PV.undef, AV.pv PV.undef, AV.pv PV.undef, AV.pv PV.undef, AV.pv PV.undef, AV.pv PV.undef, AV.pv PV.undef, AV.pv PV.undef, AV.pv PV.undef, AV.pv PV.undef, AV.pv PV.undef, AV.pv PV.undef, AV.pv PV.undef, AV.pv PV.undef, AV.pv PV.undef, AV.pv PV.undef, AV.pv PV.undef, AV.pv PV.undef, AV.pv PV.undef, AV.pv PV.undef, AV.pv PV.undef], stack := [], mem := [], cur := (0 : Nat), ctr := (1 : Nat), fn := (38 : Nat) }
  | .s1  => { tmps := [AV.pv (PV.list (117 : Nat) x0), AV.pv PV.undef, AV.pv PV.undef, AV.own (540 : Nat), AV.pv (PV.int IntKind.i64 (1 : Int)), AV.pv PV.undef, AV.pv PV.undef, AV.pv PV.undef, AV.pv PV.undef, AV.pv PV.undef, AV.pv PV.undef, AV.pv PV.undef, AV.pv PV.undef, AV.pv PV.undef, AV.pv PV.undef, AV.pv PV.undef, AV.pv PV.undef, AV.pv PV.undef, AV.pv PV.undef, AV.pv PV.undef, AV.pv PV.undef, AV.pv PV.undef, AV.pv PV.undef, AV.pv PV.undef, AV.pv PV.undef, AV.pv PV.undef, AV.pv PV.undef, AV.pv PV.undef, AV.pv PV.undef, AV.pv PV.undef, AV.pv PV.undef, AV.pv PV.undef, AV.pv PV.undef, AV.pv PV.undef, AV.pv PV.undef, AV.pv PV.undef, AV.pv PV.undef, AV.pv PV.undef, AV.pv PV.undef, AV.pv PV.undef, AV.pv PV.undef, AV.pv PV.undef], stack := [], mem := [((540 : Nat), Ob.row (2 : Nat) (119 : Nat) [[PV.int IntKind.i64 (pInt ((x0.getD (Int.toNat (0 : Int)) []).headD PV.undef)), PV.int IntKind.i64 (pInt ((x0.getD (Int.toNat (0 : Int)) []).tail.headD PV.undef)), PV.int IntKind.i64 (pInt ((x0.getD (Int.toNat (0 : Int)) []).tail.tail.headD PV.undef)), PV.int IntKind.i64 (pInt ((x0.getD (Int.toNat (0 : Int)) []).tail.tail.tail.headD PV.undef)), PV.int IntKind.i64 (pInt ((x0.getD (Int.toNat (0 : Int)) []).tail.tail.tail.tail.headD PV.undef)), PV.int IntKind.i64 (pInt ((x0.getD (Int.toNat (0 : Int)) []).tail.tail.tail.tail.tail.headD PV.undef))]])], cur := (0 : Nat), ctr := (1 : Nat), fn := (38 : Nat) }
  | .s2 y5 y6 => { tmps := [AV.pv (PV.list (117 : Nat) x0), AV.pv PV.undef, AV.pv PV.undef, AV.own (540 : Nat), AV.pv (PV.int IntKind.i64 y5), AV.pv PV.undef, AV.pv PV.undef, AV.pv PV.undef, AV.pv PV.undef, AV.pv PV.undef, AV.pv PV.undef, AV.pv PV.undef, AV.pv PV.undef, AV.pv PV.undef, AV.pv PV.undef, AV.pv PV.undef, AV.pv PV.undef, AV.pv PV.undef, AV.pv PV.undef, AV.pv PV.undef, AV.pv PV.undef, AV.pv PV.undef, AV.pv PV.undef, AV.pv PV.undef, AV.pv PV.undef, AV.pv PV.undef, AV.pv PV.undef, AV.pv PV.undef, AV.pv PV.undef, AV.pv PV.undef, AV.pv PV.undef, AV.pv PV.undef, AV.pv PV.undef, AV.pv PV.undef, AV.pv PV.undef, AV.pv PV.undef, AV.pv PV.undef, AV.pv PV.undef, AV.pv PV.undef, AV.pv PV.undef, AV.pv PV.undef, AV.pv PV.undef], stack := [], mem := [((540 : Nat), Ob.row (1 : Nat) (119 : Nat) y6)], cur := (0 : Nat), ctr := (1 : Nat), fn := (38 : Nat) }
inductive f38L0e where
  | e0 
  | e1 
  | e2 (y7 : List (List PV))
noncomputable def f38L0T (x0 : List (List PV)) : f38L0e → (Ex × St)
  | .e0  => (Ex.exit (0 : Nat), { tmps := [AV.pv PV.undef, AV.pv PV.undef, AV.pv PV.undef, AV.lit (119 : Nat) [], AV.pv PV.undef, AV.pv PV.undef, AV.pv PV.undef, AV.pv PV.undef, AV.pv PV.undef, AV.pv PV.undef, AV.pv PV.undef, AV.pv PV.undef, AV.pv PV.undef, AV.pv PV.undef, AV.pv PV.undef, AV.pv PV.undef, AV.pv PV.undef, AV.pv PV.undef, AV.pv PV.undef, AV.pv PV.undef, AV.pv PV.undef, AV.pv PV.undef, AV.pv PV.undef, AV.pv PV.undef, AV.pv PV.undef, AV.pv PV.undef, AV.pv PV.undef, AV.pv PV.undef, AV.pv PV.undef, AV.pv PV.undef, AV.pv PV.undef, AV.pv PV.undef, AV.pv PV.undef, AV.pv PV.undef, AV.pv PV.undef, AV.pv PV.undef, AV.pv PV.undef, AV.pv PV.undef, AV.pv PV.undef, AV.pv PV.undef, AV.pv PV.undef, AV.pv PV.undef], stack := [], mem := [], cur := (0 : Nat), ctr := (1 : Nat), fn := (38 : Nat) })
  | .e1  => (Ex.exit (0 : Nat), { tmps := [AV.pv PV.undef, AV.pv PV.undef, AV.pv PV.undef, AV.own (540 : Nat), AV.pv PV.undef, AV.pv PV.undef, AV.pv PV.undef, AV.pv PV.undef, AV.pv PV.undef, AV.pv PV.undef, AV.pv PV.undef, AV.pv PV.undef, AV.pv PV.undef, AV.pv PV.undef, AV.pv PV.undef, AV.pv PV.undef, AV.pv PV.undef, AV.pv PV.undef, AV.pv PV.undef, AV.pv PV.undef, AV.pv PV.undef, AV.pv PV.undef, AV.pv PV.undef, AV.pv PV.undef, AV.pv PV.undef, AV.pv PV.undef, AV.pv PV.undef, AV.pv PV.undef, AV.pv PV.undef, AV.pv PV.undef, AV.pv PV.undef, AV.pv PV.undef, AV.pv PV.undef, AV.pv PV.undef, AV.pv PV.undef, AV.pv PV.undef, AV.pv PV.undef, AV.pv PV.undef, AV.pv PV.undef, AV.pv PV.undef, AV.pv PV.undef, AV.pv PV.undef], stack := [], mem := [((540 : Nat), Ob.row (2 : Nat) (119 : Nat) [[PV.int IntKind.i64 (pInt ((x0.getD (Int.toNat (0 : Int)) []).headD PV.undef)), PV.int IntKind.i64 (pInt ((x0.getD (Int.toNat (0 : Int)) []).tail.headD PV.undef)), PV.int IntKind.i64 (pInt ((x0.getD (Int.toNat (0 : Int)) []).tail.tail.headD PV.undef)), PV.int IntKind.i64 (pInt ((x0.getD (Int.toNat (0 : Int)) []).tail.tail.tail.headD PV.undef)), PV.int IntKind.i64 (pInt ((x0.getD (Int.toNat (0 : Int)) []).tail.tail.tail.tail.headD PV.undef)), PV.int IntKind.i64 (pInt ((x0.getD (Int.toNat (0 : Int)) []).tail.tail.tail.tail.tail.headD PV.undef))]])], cur := (0 : Nat), ctr := (1 : Nat), fn := (38 : Nat) })
  | .e2 y7 => (Ex.exit (0 : Nat), { tmps := [AV.pv PV.undef, AV.pv PV.undef, AV.pv PV.undef, AV.own (540 : Nat), AV.pv PV.undef, AV.pv PV.undef, AV.pv PV.undef, AV.pv PV.undef, AV.pv PV.undef, AV.pv PV.undef, AV.pv PV.undef, AV.pv PV.undef, AV.pv PV.undef, AV.pv PV.undef, AV.pv PV.undef, AV.pv PV.undef, AV.pv PV.undef, AV.pv PV.undef, AV.pv PV.undef, AV.pv PV.undef, AV.pv PV.undef, AV.pv PV.undef, AV.pv PV.undef, AV.pv PV.undef, AV.pv PV.undef, AV.pv PV.undef, AV.pv PV.undef, AV.pv PV.undef, AV.pv PV.undef, AV.pv PV.undef, AV.pv PV.undef, AV.pv PV.undef, AV.pv PV.undef, AV.pv PV.undef, AV.pv PV.undef, AV.pv PV.undef, AV.pv PV.undef, AV.pv PV.undef, AV.pv PV.undef, AV.pv PV.undef, AV.pv PV.undef, AV.pv PV.undef], stack := [], mem := [((540 : Nat), Ob.row (1 : Nat) (119 : Nat) y7)], cur := (0 : Nat), ctr := (1 : Nat), fn := (38 : Nat) })
noncomputable def f38L0it8 (x0 : List (List PV)) : Tr (f38L0s ⊕ f38L0e) := (.test (decide ((0 : Int) < (↑x0.length : Int))) (.test (decide ((0 : Int) ≤ (0 : Int)) && decide ((0 : Int) < (↑x0.length : Int))) (.test (decide ((0 : Int) ≤ (0 : Int)) && decide ((0 : Int) < (↑x0.length : Int))) (.test (decide ((0 : Int) ≤ (0 : Int)) && decide ((0 : Int) < (↑x0.length : Int))) (.test (decide ((0 : Int) ≤ (0 : Int)) && decide ((0 : Int) < (↑x0.length : Int))) (.test (decide ((0 : Int) ≤ (0 : Int)) && decide ((0 : Int) < (↑x0.length : Int))) (.ret (.inl (.s1))) .fail) .fail) .fail) .fail) .fail) (.ret (.inr (.e0))))
noncomputable def f38L0it9 (x0 : List (List PV)) : Tr (f38L0s ⊕ f38L0e) := (.test (decide ((1 : Int) < (↑x0.length : Int))) (.test (decide ((0 : Int) ≤ (1 : Int)) && decide ((1 : Int) < (↑x0.length : Int))) (.test (decide ((0 : Int) ≤ (1 : Int)) && decide ((1 : Int) < (↑x0.length : Int))) (.test (decide ((0 : Int) ≤ (1 : Int)) && decide ((1 : Int) < (↑x0.length : Int))) (.test (decide ((0 : Int) ≤ (1 : Int)) && decide ((1 : Int) < (↑x0.length : Int))) (.test (decide ((0 : Int) ≤ (1 : Int)) && decide ((1 : Int) < (↑x0.length : Int))) (.ret (.inl (.s2 ((2 : Int)) ([[PV.int IntKind.i64 (pInt ((x0.getD (Int.toNat (0 : Int)) []).headD PV.undef)), PV.int IntKind.i64 (pInt ((x0.getD (Int.toNat (0 : Int)) []).tail.headD PV.undef)), PV.int IntKind.i64 (pInt ((x0.getD (Int.toNat (0 : Int)) []).tail.tail.headD PV.undef)), PV.int IntKind.i64 (pInt ((x0.getD (Int.toNat (0 : Int)) []).tail.tail.tail.headD PV.undef)), PV.int IntKind.i64 (pInt ((x0.getD (Int.toNat (0 : Int)) []).tail.tail.tail.tail.headD PV.undef)), PV.int IntKind.i64 (pInt ((x0.getD (Int.toNat (0 : Int)) []).tail.tail.tail.tail.tail.headD PV.undef))], [PV.int IntKind.i64 (pInt ((x0.getD (Int.toNat (1 : Int)) []).headD PV.undef)), PV.int IntKind.i64 (pInt ((x0.getD (Int.toNat (1 : Int)) []).tail.headD PV.undef)), PV.int IntKind.i64 (pInt ((x0.getD (Int.toNat (1 : Int)) []).tail.tail.headD PV.undef)), PV.int IntKind.i64 (pInt ((x0.getD (Int.toNat (1 : Int)) []).tail.tail.tail.headD PV.undef)), PV.int IntKind.i64 (pInt ((x0.getD (Int.toNat (1 : Int)) []).tail.tail.tail.tail.headD PV.undef)), PV.int IntKind.i64 (pInt ((x0.getD (Int.toNat (1 : Int)) []).tail.tail.tail.tail.tail.headD PV.undef))]])))) .fail) .fail) .fail) .fail) .fail) (.ret (.inr (.e1))))
noncomputable def f38L0it12 (x0 : List (List PV)) (z10 : Int) (z11 : List (List PV)) : Tr (f38L0s ⊕ f38L0e) := (.test (decide (z10 < (↑x0.length : Int))) (.test (decide ((0 : Int) ≤ z10) && decide (z10 < (↑x0.length : Int))) (.test (decide ((0 : Int) ≤ z10) && decide (z10 < (↑x0.length : Int))) (.test (decide ((0 : Int) ≤ z10) && decide (z10 < (↑x0.length : Int))) (.test (decide ((0 : Int) ≤ z10) && decide (z10 < (↑x0.length : Int))) (.test (decide ((0 : Int) ≤ z10) && decide (z10 < (↑x0.length : Int))) (.test (decide (z11.length + [[PV.int IntKind.i64 (pInt ((x0.getD z10.toNat []).headD PV.undef)), PV.int IntKind.i64 (pInt ((x0.getD z10.toNat []).tail.headD PV.undef)), PV.int IntKind.i64 (pInt ((x0.getD z10.toNat []).tail.tail.headD PV.undef)), PV.int IntKind.i64 (pInt ((x0.getD z10.toNat []).tail.tail.tail.headD PV.undef)), PV.int IntKind.i64 (pInt ((x0.getD z10.toNat []).tail.tail.tail.tail.headD PV.undef)), PV.int IntKind.i64 (pInt ((x0.getD z10.toNat []).tail.tail.tail.tail.tail.headD PV.undef))]].length ≤ most)) (.ret (.inl (.s2 (IntKind.i64.wrap (z10 + (1 : Int))) (z11 ++ [[PV.int IntKind.i64 (pInt ((x0.getD z10.toNat []).headD PV.undef)), PV.int IntKind.i64 (pInt ((x0.getD z10.toNat []).tail.headD PV.undef)), PV.int IntKind.i64 (pInt ((x0.getD z10.toNat []).tail.tail.headD PV.undef)), PV.int IntKind.i64 (pInt ((x0.getD z10.toNat []).tail.tail.tail.headD PV.undef)), PV.int IntKind.i64 (pInt ((x0.getD z10.toNat []).tail.tail.tail.tail.headD PV.undef)), PV.int IntKind.i64 (pInt ((x0.getD z10.toNat []).tail.tail.tail.tail.tail.headD PV.undef))]])))) .fail) .fail) .fail) .fail) .fail) .fail) (.ret (.inr (.e2 (z11)))))
noncomputable def f38L0r (N : Nat) (x0 : List (List PV)) : f38L0s → Option (f38L0s ⊕ f38L0e)
  | .s0  => Tr.run (f38L0it8 x0)
  | .s1  => Tr.run (f38L0it9 x0)
  | .s2 z10 z11 => Tr.run (f38L0it12 x0 z10 z11)
theorem f38L0_step (N : Nat) (x0 : List (List PV)) : ∀ x, (roundAt (E1 N) (94 : Nat) (38 : Nat) (1 : Nat) (f38L0c N x0) (f38L0S x0 x)).run = (f38L0r N x0 x).map (sumMap (f38L0S x0) (f38L0T x0))
  | .s0  => (Tr.run_of (g := (f38L0it8 x0)) (f := (sumMap (f38L0S x0) (f38L0T x0))) (by kernel_rfl))
  | .s1  => (Tr.run_of (g := (f38L0it9 x0)) (f := (sumMap (f38L0S x0) (f38L0T x0))) (by kernel_rfl))
  | .s2 z10 z11 => (Tr.run_of (g := (f38L0it12 x0 z10 z11)) (f := (sumMap (f38L0S x0) (f38L0T x0))) (by kernel_rfl))
noncomputable def f38t13 (x0 : List (List PV)) : Tr f38o := (.ret (.r1 ([[PV.int IntKind.i64 (pInt ((x0.getD (Int.toNat (0 : Int)) []).headD PV.undef)), PV.int IntKind.i64 (pInt ((x0.getD (Int.toNat (0 : Int)) []).tail.headD PV.undef)), PV.int IntKind.i64 (pInt ((x0.getD (Int.toNat (0 : Int)) []).tail.tail.headD PV.undef)), PV.int IntKind.i64 (pInt ((x0.getD (Int.toNat (0 : Int)) []).tail.tail.tail.headD PV.undef)), PV.int IntKind.i64 (pInt ((x0.getD (Int.toNat (0 : Int)) []).tail.tail.tail.tail.headD PV.undef)), PV.int IntKind.i64 (pInt ((x0.getD (Int.toNat (0 : Int)) []).tail.tail.tail.tail.tail.headD PV.undef))]])))
noncomputable def f38 (N : Nat) (x0 : List (List PV)) : Option f38o := ((loopN (f38L0r N x0) N (.s0)).bind (fun
    | .e0  => Tr.run (.ret (.r0 ([])))
    | .e1  => Tr.run (f38t13 x0)
    | .e2 w14 => Tr.run (.ret (.r0 (w14)))))
theorem f38_run (N : Nat) (x0 : List (List PV)) : (evFit f38rs (evRes (E1 N) (100 : Nat) (38 : Nat) [PV.list (117 : Nat) x0])).run = (f38 N x0).map f38W := (wait_run (wrap := f38W) (E := E1 N) (n := (94 : Nat)) (f := (38 : Nat)) (c0 := (1 : Nat)) (c := (f38L0c N x0)) (s := Tr.waitS (evFit f38rs (evRes (E1 N) (100 : Nat) (38 : Nat) [PV.list (117 : Nat) x0]))) (f38L0S x0) (f38L0T x0) (f38L0r N x0) (.s0) _ (f38L0_step N x0) (by kernel_rfl) (by kernel_rfl) (by kernel_rfl) (by kernel_rfl) (by kernel_rfl) (fun
    | .e0  => (Tr.run_of (g := (.ret (.r0 ([])))) (f := f38W) (by kernel_rfl))
    | .e1  => (Tr.run_of (g := (f38t13 x0)) (f := f38W) (by kernel_rfl))
    | .e2 w14 => (Tr.run_of (g := (.ret (.r0 (w14)))) (f := f38W) (by kernel_rfl))))
structure f42o where
  r0 ::
  (y6 : Bool)
noncomputable def f42W (o : f42o) : Res := (fun y6 => Res.pv (PV.bool y6)) o.y6
noncomputable def f42L0c (N : Nat) (x0 : List (List PV)) (x1 : List (List PV)) : Code := Tr.waitC (Tr.sub [false] (Tr.sub [false] (evRes (E1 N) (100 : Nat) (42 : Nat) [PV.list (119 : Nat) x0, PV.list (119 : Nat) x1])))
inductive f42L0s where
  | s0 (y3 : Int)
noncomputable def f42L0S (x0 : List (List PV)) (x1 : List (List PV)) : f42L0s → St
  | .s0 y3 => { tmps := [AV.pv (PV.list (119 : Nat) x0), AV.pv (PV.list (119 : Nat) x1), AV.pv PV.undef, AV.pv PV.undef, AV.pv PV.undef, AV.pv (PV.int IntKind.i64 y3), AV.pv PV.undef, AV.pv PV.undef, AV.pv PV.undef, AV.pv PV.undef, AV.pv PV.undef, AV.pv PV.undef, AV.pv PV.undef, AV.pv PV.undef, AV.pv PV.undef, AV.pv PV.undef, AV.pv PV.undef, AV.pv PV.undef, AV.pv PV.undef, AV.pv PV.undef, AV.pv PV.undef, AV.pv PV.undef, AV.pv PV.undef, AV.pv PV.undef, AV.pv PV.undef, AV.pv PV.undef], stack := [], mem := [], cur := (0 : Nat), ctr := (1 : Nat), fn := (42 : Nat) }
inductive f42L0e where
  | e0 
  | e1 
noncomputable def f42L0T (x0 : List (List PV)) (x1 : List (List PV)) : f42L0e → (Ex × St)
  | .e0  => (Ex.ret, { tmps := [AV.pv PV.undef, AV.pv PV.undef, AV.pv PV.undef, AV.pv PV.undef, AV.pv (PV.bool false), AV.pv PV.undef, AV.pv PV.undef, AV.pv PV.undef, AV.pv PV.undef, AV.pv PV.undef, AV.pv PV.undef, AV.pv PV.undef, AV.pv PV.undef, AV.pv PV.undef, AV.pv PV.undef, AV.pv PV.undef, AV.pv PV.undef, AV.pv PV.undef, AV.pv PV.undef, AV.pv PV.undef, AV.pv PV.undef, AV.pv PV.undef, AV.pv PV.undef, AV.pv PV.undef, AV.pv PV.undef, AV.pv PV.undef], stack := [], mem := [], cur := (0 : Nat), ctr := (1 : Nat), fn := (42 : Nat) })
  | .e1  => (Ex.exit (0 : Nat), { tmps := [AV.pv PV.undef, AV.pv PV.undef, AV.pv PV.undef, AV.pv PV.undef, AV.pv PV.undef, AV.pv PV.undef, AV.pv PV.undef, AV.pv PV.undef, AV.pv PV.undef, AV.pv PV.undef, AV.pv PV.undef, AV.pv PV.undef, AV.pv PV.undef, AV.pv PV.undef, AV.pv PV.undef, AV.pv PV.undef, AV.pv PV.undef, AV.pv PV.undef, AV.pv PV.undef, AV.pv PV.undef, AV.pv PV.undef, AV.pv PV.undef, AV.pv PV.undef, AV.pv PV.undef, AV.pv PV.undef, AV.pv PV.undef], stack := [], mem := [], cur := (0 : Nat), ctr := (1 : Nat), fn := (42 : Nat) })
noncomputable def f42L0it5 (x0 : List (List PV)) (x1 : List (List PV)) (z4 : Int) : Tr (f42L0s ⊕ f42L0e) := (.test (decide (z4 < (↑x0.length : Int))) (.test (decide ((0 : Int) ≤ z4) && decide (z4 < (↑x0.length : Int))) (.test (decide ((0 : Int) ≤ z4) && decide (z4 < (↑x1.length : Int))) (.test (!(pInt ((x0.getD z4.toNat []).headD PV.undef) == pInt ((x1.getD z4.toNat []).headD PV.undef) && (pInt ((x0.getD z4.toNat []).tail.headD PV.undef) == pInt ((x1.getD z4.toNat []).tail.headD PV.undef) && (pInt ((x0.getD z4.toNat []).tail.tail.headD PV.undef) == pInt ((x1.getD z4.toNat []).tail.tail.headD PV.undef) && (pInt ((x0.getD z4.toNat []).tail.tail.tail.headD PV.undef) == pInt ((x1.getD z4.toNat []).tail.tail.tail.headD PV.undef) && true) && (pInt ((x0.getD z4.toNat []).tail.tail.tail.tail.headD PV.undef) == pInt ((x1.getD z4.toNat []).tail.tail.tail.tail.headD PV.undef) && (pInt ((x0.getD z4.toNat []).tail.tail.tail.tail.tail.headD PV.undef) == pInt ((x1.getD z4.toNat []).tail.tail.tail.tail.tail.headD PV.undef) && true)))))) (.ret (.inr (.e0))) (.ret (.inl (.s0 (IntKind.i64.wrap (z4 + (1 : Int))))))) .fail) .fail) (.ret (.inr (.e1))))
noncomputable def f42L0r (N : Nat) (x0 : List (List PV)) (x1 : List (List PV)) : f42L0s → Option (f42L0s ⊕ f42L0e)
  | .s0 z4 => Tr.run (f42L0it5 x0 x1 z4)
theorem f42L0_step (N : Nat) (x0 : List (List PV)) (x1 : List (List PV)) : ∀ x, (roundAt (E1 N) (94 : Nat) (42 : Nat) (1 : Nat) (f42L0c N x0 x1) (f42L0S x0 x1 x)).run = (f42L0r N x0 x1 x).map (sumMap (f42L0S x0 x1) (f42L0T x0 x1))
  | .s0 z4 => (Tr.run_of (g := (f42L0it5 x0 x1 z4)) (f := (sumMap (f42L0S x0 x1) (f42L0T x0 x1))) (by kernel_rfl))
noncomputable def f42 (N : Nat) (x0 : List (List PV)) (x1 : List (List PV)) : Option f42o := (bif ((↑x0.length : Int) != (↑x1.length : Int)) then (Tr.run (.ret (.r0 (false)))) else ((loopN (f42L0r N x0 x1) N (.s0 ((0 : Int)))).bind (fun
    | .e0  => Tr.run (.ret (.r0 (false)))
    | .e1  => Tr.run (.ret (.r0 (true))))))
theorem f42_run (N : Nat) (x0 : List (List PV)) (x1 : List (List PV)) : (evRes (E1 N) (100 : Nat) (42 : Nat) [PV.list (119 : Nat) x0, PV.list (119 : Nat) x1]).run = (f42 N x0 x1).map f42W := (test_run (t := (evRes (E1 N) (100 : Nat) (42 : Nat) [PV.list (119 : Nat) x0, PV.list (119 : Nat) x1])) (b := (↑x0.length : Int) != (↑x1.length : Int)) (by kernel_rfl) (by kernel_rfl) (Tr.run_of (g := (.ret (.r0 (false)))) (f := f42W) (by kernel_rfl)) (skip_run [false] (by kernel_rfl) (wait_run (wrap := f42W) (E := E1 N) (n := (94 : Nat)) (f := (42 : Nat)) (c0 := (1 : Nat)) (c := (f42L0c N x0 x1)) (s := Tr.waitS (Tr.sub [false] (Tr.sub [false] (evRes (E1 N) (100 : Nat) (42 : Nat) [PV.list (119 : Nat) x0, PV.list (119 : Nat) x1])))) (f42L0S x0 x1) (f42L0T x0 x1) (f42L0r N x0 x1) (.s0 ((0 : Int))) _ (f42L0_step N x0 x1) (by kernel_rfl) (by kernel_rfl) (by kernel_rfl) (by kernel_rfl) (by kernel_rfl) (fun
    | .e0  => (Tr.run_of (g := (.ret (.r0 (false)))) (f := f42W) (by kernel_rfl))
    | .e1  => (Tr.run_of (g := (.ret (.r0 (true)))) (f := f42W) (by kernel_rfl))))))
structure f43o where
  r0 ::
  (y1 : Int) (y2 : Int) (y3 : Bool)
noncomputable def f43W (o : f43o) : Res := (fun y1 y2 y3 => Res.pv (PV.tup [PV.agg [PV.int IntKind.i64 y1, PV.int IntKind.i64 y2], PV.bool y3])) o.y1 o.y2 o.y3
noncomputable def f43t0 (x0 : S80) : Tr f43o := (.test (decide (x0.a25 < (0 : Int))) (.ret (.r0 ((0 : Int)) ((0 : Int)) (false))) (.test (decide (x0.a25 ≥ (↑x0.a21.length : Int))) (.ret (.r0 ((0 : Int)) ((0 : Int)) (false))) (.test (decide ((0 : Int) ≤ x0.a25) && decide (x0.a25 < (↑x0.a21.length : Int))) (.ret (.r0 (pInt ((x0.a21.getD x0.a25.toNat []).headD PV.undef)) (pInt ((x0.a21.getD x0.a25.toNat []).tail.headD PV.undef)) (true))) .fail)))
noncomputable def f43 (N : Nat) (x0 : S80) : Option f43o := Tr.run (f43t0 x0)
theorem f43_run (N : Nat) (x0 : S80) : (evRes (E1 N) (100 : Nat) (43 : Nat) [(S80v x0)]).run = (f43 N x0).map f43W := (Tr.run_of (g := (f43t0 x0)) (f := f43W) (by kernel_rfl))
def f43s : List PK := [S80k]
noncomputable def f43a (ps : List PV) : Option f43o := f43 0 (S80r (ps.headD PV.undef))
noncomputable def f43d : f43o := ⟨0, 0, false⟩
noncomputable def f43O : Ora := ⟨fun ps => okPs f43s ps && (f43a ps).isSome, fun ps => (f43W ((f43a ps).getD f43d)).plain⟩
theorem f43_spec : Spec Try.prog 43 f43O := spec_at 100 f43s (fun ps => (f43a ps).isSome) _ mixed fun ps hm hs hp => by
  cases h : f43a ps with
  | none => rw [h] at hp; cases hp
  | some o =>

    refine ⟨E1 0, f43W o, rfl, E1_ok 0, ?_, .inr ?_⟩
    · rw [show canPs f43s ps = [S80v (S80r (ps.headD PV.undef))] from by kernel_rfl, f43_run 0]
      show (f43a ps).map f43W = _
      rw [h]; rfl
    · rfl
structure f45o where
  r0 ::
  (y1 : Int) (y2 : Bool)
noncomputable def f45W (o : f45o) : Res := (fun y1 y2 => Res.pv (PV.tup [PV.int IntKind.i64 y1, PV.bool y2])) o.y1 o.y2
noncomputable def f45t0 (x0 : S47) (x1 : Int) (x2 : Int) (x3 : Int) : Tr f45o := (.test (x0.a0 == (1 : Int)) (.ret (.r0 (IntKind.i64.wrap (x1 + x0.a1)) (true))) (.test (x0.a0 == (2 : Int)) (.ret (.r0 (IntKind.i64.wrap (x1 - x0.a1)) (true))) (.test (x0.a0 == (3 : Int)) (.ret (.r0 (IntKind.i64.wrap (↑(BitVec.ofInt IntKind.i64.bits x1 ||| BitVec.ofInt IntKind.i64.bits x0.a1).toNat : Int)) (true))) (.test (x0.a0 == (4 : Int)) (.ret (.r0 (IntKind.i64.wrap (↑(BitVec.ofInt IntKind.i64.bits x1 &&& BitVec.ofInt IntKind.i64.bits x0.a1).toNat : Int)) (true))) (.test (x0.a0 == (5 : Int)) (.ret (.r0 (if x1 < x0.a1 then x0.a1 else x1) (true))) (.test (x0.a0 == (6 : Int)) (.ret (.r0 (if x0.a1 < x1 then x0.a1 else x1) (true))) (.test (x0.a0 == (7 : Int)) (.ret (.r0 (x0.a1) (true))) (.test (x0.a0 == (8 : Int)) (.test (!decide (x0.a1 ≥ (0 : Int)) == decide (IntKind.i64.wrap (x1 + x0.a1) ≥ x1)) (.ret (.r0 (x1) (false))) (.test (decide (IntKind.i64.wrap (x1 + x0.a1) < x2)) (.ret (.r0 (x1) (false))) (.test (decide (IntKind.i64.wrap (x1 + x0.a1) > x3)) (.ret (.r0 (x1) (false))) (.ret (.r0 (IntKind.i64.wrap (x1 + x0.a1)) (true)))))) (.test (x0.a0 == (9 : Int)) (.test (decide (x0.a1 < (0 : Int))) (.ret (.r0 (x1) (false))) (.test (decide (x1 < x2)) (.ret (.r0 (x1) (false))) (.test (decide (IntKind.u64.wrap x0.a1 ≥ IntKind.u64.wrap (IntKind.u64.wrap x1 - IntKind.u64.wrap x2))) (.ret (.r0 (x2) (true))) (.ret (.r0 (IntKind.i64.wrap (x1 - x0.a1)) (true)))))) (.ret (.r0 (x1) (false))))))))))))
noncomputable def f45 (N : Nat) (x0 : S47) (x1 : Int) (x2 : Int) (x3 : Int) : Option f45o := Tr.run (f45t0 x0 x1 x2 x3)
theorem f45_run (N : Nat) (x0 : S47) (x1 : Int) (x2 : Int) (x3 : Int) : (evRes (E1 N) (100 : Nat) (45 : Nat) [(S47v x0), PV.int IntKind.i64 x1, PV.int IntKind.i64 x2, PV.int IntKind.i64 x3]).run = (f45 N x0 x1 x2 x3).map f45W := (Tr.run_of (g := (f45t0 x0 x1 x2 x3)) (f := f45W) (by kernel_rfl))
def f45s : List PK := [S47k, (false, [K.int .i64]), (false, [K.int .i64]), (false, [K.int .i64])]
noncomputable def f45a (ps : List PV) : Option f45o := f45 0 (S47r (ps.headD PV.undef)) (pInt (ps.tail.headD PV.undef)) (pInt (ps.tail.tail.headD PV.undef)) (pInt (ps.tail.tail.tail.headD PV.undef))
noncomputable def f45d : f45o := ⟨0, false⟩
noncomputable def f45O : Ora := ⟨fun ps => okPs f45s ps && (f45a ps).isSome, fun ps => (f45W ((f45a ps).getD f45d)).plain⟩
theorem f45_spec : Spec Try.prog 45 f45O := spec_at 100 f45s (fun ps => (f45a ps).isSome) _ mixed fun ps hm hs hp => by
  cases h : f45a ps with
  | none => rw [h] at hp; cases hp
  | some o =>

    refine ⟨E1 0, f45W o, rfl, E1_ok 0, ?_, .inr ?_⟩
    · rw [show canPs f45s ps = [S47v (S47r (ps.headD PV.undef)), PV.int IntKind.i64 (pInt (ps.tail.headD PV.undef)), PV.int IntKind.i64 (pInt (ps.tail.tail.headD PV.undef)), PV.int IntKind.i64 (pInt (ps.tail.tail.tail.headD PV.undef))] from by kernel_rfl, f45_run 0]
      show (f45a ps).map f45W = _
      rw [h]; rfl
    · rfl
structure f46o where
  r0 ::
  (y0 : Int)
noncomputable def f46W (o : f46o) : Res := (fun y0 => Res.pv (PV.int IntKind.i64 y0)) o.y0
noncomputable def f46 (N : Nat) (x0 : S100) : Option f46o := Tr.run (.ret (.r0 (IntKind.i64.wrap (IntKind.i64.wrap ((8 : Int) * IntKind.i64.wrap (x0.a1 + (1 : Int))) + x0.a0))))
theorem f46_run (N : Nat) (x0 : S100) : (evRes (E1 N) (100 : Nat) (46 : Nat) [(S100v x0)]).run = (f46 N x0).map f46W := (Tr.run_of (g := (.ret (.r0 (IntKind.i64.wrap (IntKind.i64.wrap ((8 : Int) * IntKind.i64.wrap (x0.a1 + (1 : Int))) + x0.a0))))) (f := f46W) (by kernel_rfl))
def f46s : List PK := [S100k]
noncomputable def f46a (ps : List PV) : Option f46o := f46 0 (S100r (ps.headD PV.undef))
noncomputable def f46d : f46o := ⟨0⟩
noncomputable def f46O : Ora := ⟨fun ps => okPs f46s ps && (f46a ps).isSome, fun ps => (f46W ((f46a ps).getD f46d)).plain⟩
theorem f46_spec : Spec Try.prog 46 f46O := spec_at 100 f46s (fun ps => (f46a ps).isSome) _ mixed fun ps hm hs hp => by
  cases h : f46a ps with
  | none => rw [h] at hp; cases hp
  | some o =>

    refine ⟨E1 0, f46W o, rfl, E1_ok 0, ?_, .inr ?_⟩
    · rw [show canPs f46s ps = [S100v (S100r (ps.headD PV.undef))] from by kernel_rfl, f46_run 0]
      show (f46a ps).map f46W = _
      rw [h]; rfl
    · rfl
structure f48o where
  r0 ::
  (y1 : List (List PV))
noncomputable def f48W (o : f48o) : Res := (fun y1 => Res.pv (PV.list (3 : Nat) y1)) o.y1
def f48rs : List PK := [(false, [K.list 3])]
noncomputable def f48t0 (x0 : S33) : Tr f48o := (.ret (.r0 ([[PV.int IntKind.i64 x0.a0], [PV.int IntKind.i64 x0.a1], [PV.int IntKind.i64 x0.a2], [PV.int IntKind.i64 x0.a3], [PV.int IntKind.i64 x0.a7], [PV.int IntKind.i64 x0.a8], [PV.int IntKind.i64 x0.a9], [PV.int IntKind.i64 x0.a10], [PV.int IntKind.i64 x0.a11], [PV.int IntKind.i64 x0.a12], [PV.int IntKind.i64 x0.a13], [PV.int IntKind.i64 x0.a14], [PV.int IntKind.i64 x0.a15], [PV.int IntKind.i64 x0.a16]])))
noncomputable def f48 (N : Nat) (x0 : S33) : Option f48o := Tr.run (f48t0 x0)
theorem f48_run (N : Nat) (x0 : S33) : (evFit f48rs (evRes (E1 N) (100 : Nat) (48 : Nat) [(S33v x0)])).run = (f48 N x0).map f48W := (Tr.run_of (g := (f48t0 x0)) (f := f48W) (by kernel_rfl))
def f48s : List PK := [S33k]
noncomputable def f48a (ps : List PV) : Option f48o := f48 0 (S33r (ps.headD PV.undef))
noncomputable def f48d : f48o := ⟨[]⟩
noncomputable def f48O : Ora := ⟨fun ps => okPs f48s ps && (f48a ps).isSome, fun ps => (f48W ((f48a ps).getD f48d)).plain⟩
theorem f48_spec : Spec Try.prog 48 f48O := spec_fit 100 f48rs f48s (fun ps => (f48a ps).isSome) _ mixed fun ps hm hs hp => by
  cases h : f48a ps with
  | none => rw [h] at hp; cases hp
  | some o =>

    refine ⟨E1 0, f48W o, rfl, E1_ok 0, ?_, .inr ?_⟩
    · rw [show canPs f48s ps = [S33v (S33r (ps.headD PV.undef))] from by kernel_rfl, f48_run 0]
      show (f48a ps).map f48W = _
      rw [h]; rfl
    · rfl
abbrev f51o := S27
noncomputable def f51W (o : f51o) : Res := Res.pv (S27v o)
def f51rs : List PK := [(true, [K.list 3, K.list 30])]
noncomputable def f51t0 (x0 : Int) (x1 : Int) : Tr f51o := (.test (decide (x0 < (1 : Int))) (.test (decide (x1 < (1 : Int))) (.ret (.mk ([]) ([]))) (.test (decide (x1 > (10000 : Int))) (.ret (.mk ([]) ([]))) (.test (decide ((0 : Int) ≤ x1) && decide (x1 ≤ x1) && decide (x1 ≤ (↑most : Int))) (.ret (.mk ([]) (List.replicate x1.toNat [PV.list (78 : Nat) []]))) .fail))) (.test (decide (x0 > (10000 : Int))) (.test (decide (x1 < (1 : Int))) (.ret (.mk ([]) ([]))) (.test (decide (x1 > (10000 : Int))) (.ret (.mk ([]) ([]))) (.test (decide ((0 : Int) ≤ x1) && decide (x1 ≤ x1) && decide (x1 ≤ (↑most : Int))) (.ret (.mk ([]) (List.replicate x1.toNat [PV.list (78 : Nat) []]))) .fail))) (.test (decide ((0 : Int) ≤ x0) && decide (x0 ≤ x0) && decide (x0 ≤ (↑most : Int))) (.test (decide (x1 < (1 : Int))) (.ret (.mk (List.replicate x0.toNat [PV.int IntKind.i64 (0 : Int)]) ([]))) (.test (decide (x1 > (10000 : Int))) (.ret (.mk (List.replicate x0.toNat [PV.int IntKind.i64 (0 : Int)]) ([]))) (.test (decide ((0 : Int) ≤ x1) && decide (x1 ≤ x1) && decide (x1 ≤ (↑most : Int))) (.ret (.mk (List.replicate x0.toNat [PV.int IntKind.i64 (0 : Int)]) (List.replicate x1.toNat [PV.list (78 : Nat) []]))) .fail))) .fail)))
noncomputable def f51 (N : Nat) (x0 : Int) (x1 : Int) : Option f51o := Tr.run (f51t0 x0 x1)
theorem f51_run (N : Nat) (x0 : Int) (x1 : Int) : (evFit f51rs (evRes (E1 N) (100 : Nat) (51 : Nat) [PV.int IntKind.i64 x0, PV.int IntKind.i64 x1])).run = (f51 N x0 x1).map f51W := (Tr.run_of (g := (f51t0 x0 x1)) (f := f51W) (by kernel_rfl))
def f51s : List PK := [(false, [K.int .i64]), (false, [K.int .i64])]
noncomputable def f51a (ps : List PV) : Option f51o := f51 0 (pInt (ps.headD PV.undef)) (pInt (ps.tail.headD PV.undef))
noncomputable def f51d : f51o := ⟨[], []⟩
noncomputable def f51O : Ora := ⟨fun ps => okPs f51s ps && (f51a ps).isSome, fun ps => (f51W ((f51a ps).getD f51d)).plain⟩
theorem f51_spec : Spec Try.prog 51 f51O := spec_fit 100 f51rs f51s (fun ps => (f51a ps).isSome) _ mixed fun ps hm hs hp => by
  cases h : f51a ps with
  | none => rw [h] at hp; cases hp
  | some o =>

    refine ⟨E1 0, f51W o, rfl, E1_ok 0, ?_, .inr ?_⟩
    · rw [show canPs f51s ps = [PV.int IntKind.i64 (pInt (ps.headD PV.undef)), PV.int IntKind.i64 (pInt (ps.tail.headD PV.undef))] from by kernel_rfl, f51_run 0]
      show (f51a ps).map f51W = _
      rw [h]; rfl
    · rfl
structure f54o where
  r0 ::
  (y1 : Int) (y2 : Int)
noncomputable def f54W (o : f54o) : Res := (fun y1 y2 => Res.pv (PV.tup [PV.int IntKind.i64 y1, PV.int IntKind.i64 y2])) o.y1 o.y2
noncomputable def f54t0 (x0 : S27) (x1 : Int) : Tr f54o := (.test (decide (x1 < (0 : Int))) (.ret (.r0 ((0 : Int)) ((30 : Int)))) (.test (decide (x1 ≥ (↑x0.a0.length : Int))) (.ret (.r0 ((0 : Int)) ((30 : Int)))) (.test (decide ((0 : Int) ≤ x1) && decide (x1 < (↑x0.a0.length : Int))) (.ret (.r0 (pInt ((x0.a0.getD x1.toNat []).headD PV.undef)) ((0 : Int)))) .fail)))
noncomputable def f54 (N : Nat) (x0 : S27) (x1 : Int) : Option f54o := Tr.run (f54t0 x0 x1)
theorem f54_run (N : Nat) (x0 : S27) (x1 : Int) : (evRes (E1 N) (100 : Nat) (54 : Nat) [(S27v x0), PV.int IntKind.i64 x1]).run = (f54 N x0 x1).map f54W := (Tr.run_of (g := (f54t0 x0 x1)) (f := f54W) (by kernel_rfl))
def f54s : List PK := [S27k, (false, [K.int .i64])]
noncomputable def f54a (ps : List PV) : Option f54o := f54 0 (S27r (ps.headD PV.undef)) (pInt (ps.tail.headD PV.undef))
noncomputable def f54d : f54o := ⟨0, 0⟩
noncomputable def f54O : Ora := ⟨fun ps => okPs f54s ps && (f54a ps).isSome, fun ps => (f54W ((f54a ps).getD f54d)).plain⟩
theorem f54_spec : Spec Try.prog 54 f54O := spec_at 100 f54s (fun ps => (f54a ps).isSome) _ mixed fun ps hm hs hp => by
  cases h : f54a ps with
  | none => rw [h] at hp; cases hp
  | some o =>

    refine ⟨E1 0, f54W o, rfl, E1_ok 0, ?_, .inr ?_⟩
    · rw [show canPs f54s ps = [S27v (S27r (ps.headD PV.undef)), PV.int IntKind.i64 (pInt (ps.tail.headD PV.undef))] from by kernel_rfl, f54_run 0]
      show (f54a ps).map f54W = _
      rw [h]; rfl
    · rfl
structure f58o where
  r0 ::
  (y1 : List (List PV))
noncomputable def f58W (o : f58o) : Res := (fun y1 => Res.fresh (78 : Nat) y1) o.y1
def f58rs : List PK := [(false, [K.list 78])]
noncomputable def f58t0 (x0 : List (List PV)) (x1 : Int) : Tr f58o := (.test (decide ((0 : Int) ≤ (↑(0 : Nat) : Int)) && decide ((↑(0 : Nat) : Int) ≤ if (0 : Int) < if (↑x0.length : Int) < x1 then (↑x0.length : Int) else x1 then if (↑x0.length : Int) < x1 then (↑x0.length : Int) else x1 else (0 : Int)) && decide ((if (0 : Int) < if (↑x0.length : Int) < x1 then (↑x0.length : Int) else x1 then if (↑x0.length : Int) < x1 then (↑x0.length : Int) else x1 else (0 : Int)) ≤ (↑x0.length : Int))) (.test (decide ((List.drop (↑(0 : Nat) : Int).toNat (List.take (if (0 : Int) < if (↑x0.length : Int) < x1 then (↑x0.length : Int) else x1 then if (↑x0.length : Int) < x1 then (↑x0.length : Int) else x1 else (0 : Int)).toNat x0)).length ≤ most)) (.ret (.r0 (List.drop (↑(0 : Nat) : Int).toNat (List.take (if (0 : Int) < if (↑x0.length : Int) < x1 then (↑x0.length : Int) else x1 then if (↑x0.length : Int) < x1 then (↑x0.length : Int) else x1 else (0 : Int)).toNat x0)))) .fail) .fail)
noncomputable def f58 (N : Nat) (x0 : List (List PV)) (x1 : Int) : Option f58o := Tr.run (f58t0 x0 x1)
theorem f58_run (N : Nat) (x0 : List (List PV)) (x1 : Int) : (evFit f58rs (evRes (E1 N) (100 : Nat) (58 : Nat) [PV.list (78 : Nat) x0, PV.int IntKind.i64 x1])).run = (f58 N x0 x1).map f58W := (Tr.run_of (g := (f58t0 x0 x1)) (f := f58W) (by kernel_rfl))
def f58s : List PK := [(false, [K.list 78]), (false, [K.int .i64])]
noncomputable def f58a (ps : List PV) : Option f58o := f58 0 (pList (ps.headD PV.undef)) (pInt (ps.tail.headD PV.undef))
noncomputable def f58d : f58o := ⟨[]⟩
noncomputable def f58O : Ora := ⟨fun ps => okPs f58s ps && (f58a ps).isSome, fun ps => (f58W ((f58a ps).getD f58d)).plain⟩
theorem f58_spec : Spec Try.prog 58 f58O := spec_fit 100 f58rs f58s (fun ps => (f58a ps).isSome) _ mixed fun ps hm hs hp => by
  cases h : f58a ps with
  | none => rw [h] at hp; cases hp
  | some o =>

    refine ⟨E1 0, f58W o, rfl, E1_ok 0, ?_, .inr ?_⟩
    · rw [show canPs f58s ps = [PV.list 78 (pList (ps.headD PV.undef)), PV.int IntKind.i64 (pInt (ps.tail.headD PV.undef))] from by kernel_rfl, f58_run 0]
      show (f58a ps).map f58W = _
      rw [h]; rfl
    · rfl
structure f59o where
  r0 ::
  (y1 : List (List PV)) (y2 : List (List PV)) (y3 : Int)
noncomputable def f59W (o : f59o) : Res := (fun y1 y2 y3 => Res.pv (PV.tup [PV.agg [PV.list (3 : Nat) y1, PV.list (30 : Nat) y2], PV.int IntKind.i64 y3])) o.y1 o.y2 o.y3
def f59rs : List PK := [(true, [K.list 3, K.list 30]), (false, [K.int .i64])]
noncomputable def f59t0 (x0 : S27) (x1 : Int) (x2 : Int) : Tr f59o := (.test (decide (x1 < (0 : Int))) (.ret (.r0 (x0.a0) (x0.a1) ((30 : Int)))) (.test (decide (x1 ≥ (↑x0.a0.length : Int))) (.ret (.r0 (x0.a0) (x0.a1) ((30 : Int)))) (.test (decide ((0 : Int) ≤ x1) && decide (x1 < (↑x0.a0.length : Int))) (.test (decide (x0.a0.length ≤ most)) (.test (decide ((0 : Int) ≤ x1) && decide (x1 < (↑x0.a0.length : Int))) (.ret (.r0 (x0.a0.set x1.toNat [PV.int IntKind.i64 x2]) (x0.a1) ((0 : Int)))) .fail) .fail) .fail)))
noncomputable def f59 (N : Nat) (x0 : S27) (x1 : Int) (x2 : Int) : Option f59o := Tr.run (f59t0 x0 x1 x2)
theorem f59_run (N : Nat) (x0 : S27) (x1 : Int) (x2 : Int) : (evFit f59rs (evRes (E1 N) (100 : Nat) (59 : Nat) [(S27v x0), PV.int IntKind.i64 x1, PV.int IntKind.i64 x2])).run = (f59 N x0 x1 x2).map f59W := (Tr.run_of (g := (f59t0 x0 x1 x2)) (f := f59W) (by kernel_rfl))
def f59s : List PK := [S27k, (false, [K.int .i64]), (false, [K.int .i64])]
noncomputable def f59a (ps : List PV) : Option f59o := f59 0 (S27r (ps.headD PV.undef)) (pInt (ps.tail.headD PV.undef)) (pInt (ps.tail.tail.headD PV.undef))
noncomputable def f59d : f59o := ⟨[], [], 0⟩
noncomputable def f59O : Ora := ⟨fun ps => okPs f59s ps && (f59a ps).isSome, fun ps => (f59W ((f59a ps).getD f59d)).plain⟩
theorem f59_spec : Spec Try.prog 59 f59O := spec_fit 100 f59rs f59s (fun ps => (f59a ps).isSome) _ mixed fun ps hm hs hp => by
  cases h : f59a ps with
  | none => rw [h] at hp; cases hp
  | some o =>

    refine ⟨E1 0, f59W o, rfl, E1_ok 0, ?_, .inr ?_⟩
    · rw [show canPs f59s ps = [S27v (S27r (ps.headD PV.undef)), PV.int IntKind.i64 (pInt (ps.tail.headD PV.undef)), PV.int IntKind.i64 (pInt (ps.tail.tail.headD PV.undef))] from by kernel_rfl, f59_run 0]
      show (f59a ps).map f59W = _
      rw [h]; rfl
    · rfl
structure f60o where
  r0 ::
  (y1 : List (List PV)) (y2 : List (List PV)) (y3 : Int)
noncomputable def f60W (o : f60o) : Res := (fun y1 y2 y3 => Res.pv (PV.tup [PV.agg [PV.list (3 : Nat) y1, PV.list (48 : Nat) y2], PV.int IntKind.i64 y3])) o.y1 o.y2 o.y3
def f60rs : List PK := [(true, [K.list 3, K.list 48]), (false, [K.int .i64])]
noncomputable def f60t0 (x0 : S46) (x1 : Int) (x2 : Int) : Tr f60o := (.test (decide (x1 < (0 : Int))) (.ret (.r0 (x0.a0) (x0.a1) ((30 : Int)))) (.test (decide (x1 ≥ (↑x0.a0.length : Int))) (.ret (.r0 (x0.a0) (x0.a1) ((30 : Int)))) (.test (decide (x0.a0.length ≤ most)) (.test (decide ((0 : Int) ≤ x1) && decide (x1 < (↑x0.a0.length : Int))) (.ret (.r0 (x0.a0.set x1.toNat [PV.int IntKind.i64 x2]) (x0.a1) ((0 : Int)))) .fail) .fail)))
noncomputable def f60 (N : Nat) (x0 : S46) (x1 : Int) (x2 : Int) : Option f60o := Tr.run (f60t0 x0 x1 x2)
theorem f60_run (N : Nat) (x0 : S46) (x1 : Int) (x2 : Int) : (evFit f60rs (evRes (E1 N) (100 : Nat) (60 : Nat) [(S46v x0), PV.int IntKind.i64 x1, PV.int IntKind.i64 x2])).run = (f60 N x0 x1 x2).map f60W := (Tr.run_of (g := (f60t0 x0 x1 x2)) (f := f60W) (by kernel_rfl))
def f60s : List PK := [S46k, (false, [K.int .i64]), (false, [K.int .i64])]
noncomputable def f60a (ps : List PV) : Option f60o := f60 0 (S46r (ps.headD PV.undef)) (pInt (ps.tail.headD PV.undef)) (pInt (ps.tail.tail.headD PV.undef))
noncomputable def f60d : f60o := ⟨[], [], 0⟩
noncomputable def f60O : Ora := ⟨fun ps => okPs f60s ps && (f60a ps).isSome, fun ps => (f60W ((f60a ps).getD f60d)).plain⟩
theorem f60_spec : Spec Try.prog 60 f60O := spec_fit 100 f60rs f60s (fun ps => (f60a ps).isSome) _ mixed fun ps hm hs hp => by
  cases h : f60a ps with
  | none => rw [h] at hp; cases hp
  | some o =>

    refine ⟨E1 0, f60W o, rfl, E1_ok 0, ?_, .inr ?_⟩
    · rw [show canPs f60s ps = [S46v (S46r (ps.headD PV.undef)), PV.int IntKind.i64 (pInt (ps.tail.headD PV.undef)), PV.int IntKind.i64 (pInt (ps.tail.tail.headD PV.undef))] from by kernel_rfl, f60_run 0]
      show (f60a ps).map f60W = _
      rw [h]; rfl
    · rfl
structure f61o where
  r0 ::
  (y6 : Bool)
noncomputable def f61W (o : f61o) : Res := (fun y6 => Res.pv (PV.bool y6)) o.y6
noncomputable def f61L0c (N : Nat) (x0 : List (List PV)) (x1 : List (List PV)) : Code := Tr.waitC (Tr.sub [false] (Tr.sub [false] (evRes (E1 N) (100 : Nat) (61 : Nat) [PV.list (3 : Nat) x0, PV.list (3 : Nat) x1])))
inductive f61L0s where
  | s0 (y3 : Int)
noncomputable def f61L0S (x0 : List (List PV)) (x1 : List (List PV)) : f61L0s → St
  | .s0 y3 => { tmps := [AV.pv (PV.list (3 : Nat) x0), AV.pv (PV.list (3 : Nat) x1), AV.pv PV.undef, AV.pv PV.undef, AV.pv PV.undef, AV.pv (PV.int IntKind.i64 y3), AV.pv PV.undef, AV.pv PV.undef, AV.pv PV.undef, AV.pv PV.undef, AV.pv PV.undef, AV.pv PV.undef, AV.pv PV.undef, AV.pv PV.undef, AV.pv PV.undef, AV.pv PV.undef, AV.pv PV.undef, AV.pv PV.undef, AV.pv PV.undef, AV.pv PV.undef, AV.pv PV.undef, AV.pv PV.undef, AV.pv PV.undef, AV.pv PV.undef, AV.pv PV.undef, AV.pv PV.undef], stack := [], mem := [], cur := (0 : Nat), ctr := (1 : Nat), fn := (61 : Nat) }
inductive f61L0e where
  | e0 
  | e1 
noncomputable def f61L0T (x0 : List (List PV)) (x1 : List (List PV)) : f61L0e → (Ex × St)
  | .e0  => (Ex.ret, { tmps := [AV.pv PV.undef, AV.pv PV.undef, AV.pv PV.undef, AV.pv PV.undef, AV.pv (PV.bool false), AV.pv PV.undef, AV.pv PV.undef, AV.pv PV.undef, AV.pv PV.undef, AV.pv PV.undef, AV.pv PV.undef, AV.pv PV.undef, AV.pv PV.undef, AV.pv PV.undef, AV.pv PV.undef, AV.pv PV.undef, AV.pv PV.undef, AV.pv PV.undef, AV.pv PV.undef, AV.pv PV.undef, AV.pv PV.undef, AV.pv PV.undef, AV.pv PV.undef, AV.pv PV.undef, AV.pv PV.undef, AV.pv PV.undef], stack := [], mem := [], cur := (0 : Nat), ctr := (1 : Nat), fn := (61 : Nat) })
  | .e1  => (Ex.exit (0 : Nat), { tmps := [AV.pv PV.undef, AV.pv PV.undef, AV.pv PV.undef, AV.pv PV.undef, AV.pv PV.undef, AV.pv PV.undef, AV.pv PV.undef, AV.pv PV.undef, AV.pv PV.undef, AV.pv PV.undef, AV.pv PV.undef, AV.pv PV.undef, AV.pv PV.undef, AV.pv PV.undef, AV.pv PV.undef, AV.pv PV.undef, AV.pv PV.undef, AV.pv PV.undef, AV.pv PV.undef, AV.pv PV.undef, AV.pv PV.undef, AV.pv PV.undef, AV.pv PV.undef, AV.pv PV.undef, AV.pv PV.undef, AV.pv PV.undef], stack := [], mem := [], cur := (0 : Nat), ctr := (1 : Nat), fn := (61 : Nat) })
noncomputable def f61L0it5 (x0 : List (List PV)) (x1 : List (List PV)) (z4 : Int) : Tr (f61L0s ⊕ f61L0e) := (.test (decide (z4 < (↑x0.length : Int))) (.test (decide ((0 : Int) ≤ z4) && decide (z4 < (↑x0.length : Int))) (.test (decide ((0 : Int) ≤ z4) && decide (z4 < (↑x1.length : Int))) (.test (pInt ((x0.getD z4.toNat []).headD PV.undef) != pInt ((x1.getD z4.toNat []).headD PV.undef)) (.ret (.inr (.e0))) (.ret (.inl (.s0 (IntKind.i64.wrap (z4 + (1 : Int))))))) .fail) .fail) (.ret (.inr (.e1))))
noncomputable def f61L0r (N : Nat) (x0 : List (List PV)) (x1 : List (List PV)) : f61L0s → Option (f61L0s ⊕ f61L0e)
  | .s0 z4 => Tr.run (f61L0it5 x0 x1 z4)
theorem f61L0_step (N : Nat) (x0 : List (List PV)) (x1 : List (List PV)) : ∀ x, (roundAt (E1 N) (94 : Nat) (61 : Nat) (1 : Nat) (f61L0c N x0 x1) (f61L0S x0 x1 x)).run = (f61L0r N x0 x1 x).map (sumMap (f61L0S x0 x1) (f61L0T x0 x1))
  | .s0 z4 => (Tr.run_of (g := (f61L0it5 x0 x1 z4)) (f := (sumMap (f61L0S x0 x1) (f61L0T x0 x1))) (by kernel_rfl))
noncomputable def f61 (N : Nat) (x0 : List (List PV)) (x1 : List (List PV)) : Option f61o := (bif ((↑x0.length : Int) != (↑x1.length : Int)) then (Tr.run (.ret (.r0 (false)))) else ((loopN (f61L0r N x0 x1) N (.s0 ((0 : Int)))).bind (fun
    | .e0  => Tr.run (.ret (.r0 (false)))
    | .e1  => Tr.run (.ret (.r0 (true))))))
theorem f61_run (N : Nat) (x0 : List (List PV)) (x1 : List (List PV)) : (evRes (E1 N) (100 : Nat) (61 : Nat) [PV.list (3 : Nat) x0, PV.list (3 : Nat) x1]).run = (f61 N x0 x1).map f61W := (test_run (t := (evRes (E1 N) (100 : Nat) (61 : Nat) [PV.list (3 : Nat) x0, PV.list (3 : Nat) x1])) (b := (↑x0.length : Int) != (↑x1.length : Int)) (by kernel_rfl) (by kernel_rfl) (Tr.run_of (g := (.ret (.r0 (false)))) (f := f61W) (by kernel_rfl)) (skip_run [false] (by kernel_rfl) (wait_run (wrap := f61W) (E := E1 N) (n := (94 : Nat)) (f := (61 : Nat)) (c0 := (1 : Nat)) (c := (f61L0c N x0 x1)) (s := Tr.waitS (Tr.sub [false] (Tr.sub [false] (evRes (E1 N) (100 : Nat) (61 : Nat) [PV.list (3 : Nat) x0, PV.list (3 : Nat) x1])))) (f61L0S x0 x1) (f61L0T x0 x1) (f61L0r N x0 x1) (.s0 ((0 : Int))) _ (f61L0_step N x0 x1) (by kernel_rfl) (by kernel_rfl) (by kernel_rfl) (by kernel_rfl) (by kernel_rfl) (fun
    | .e0  => (Tr.run_of (g := (.ret (.r0 (false)))) (f := f61W) (by kernel_rfl))
    | .e1  => (Tr.run_of (g := (.ret (.r0 (true)))) (f := f61W) (by kernel_rfl))))))
structure f62o where
  r0 ::
  (y12 : Int)
noncomputable def f62W (o : f62o) : Res := (fun y12 => Res.pv (PV.int IntKind.i64 y12)) o.y12
noncomputable def f62L0c (N : Nat) (x0 : S43) : Code := Tr.waitC (evRes (E1 N) (100 : Nat) (62 : Nat) [(S43v x0)])
inductive f62L0s where
  | s0 (y5 : Int) (y6 : Int)
noncomputable def f62L0S (x0 : S43) : f62L0s → St
  | .s0 y5 y6 => { tmps := [AV.pv PV.undef, AV.ptr (1 : Nat) (0 : Nat), AV.pv PV.undef, AV.pv (PV.int IntKind.i64 y5), AV.pv (PV.int IntKind.i64 y6), AV.pv PV.undef, AV.pv PV.undef, AV.pv PV.undef, AV.pv PV.undef, AV.pv PV.undef, AV.pv PV.undef, AV.pv PV.undef, AV.pv PV.undef, AV.pv PV.undef, AV.pv PV.undef], stack := [], mem := [((1 : Nat), Ob.box [AV.pv (PV.int IntKind.i64 x0.a0), AV.pv (PV.int IntKind.i64 x0.a1), AV.pv (PV.int IntKind.i64 x0.a2), AV.pv (PV.int IntKind.i64 x0.a3), AV.pv (PV.int IntKind.i64 x0.a4), AV.pv (PV.int IntKind.i64 x0.a5), AV.pv (PV.int IntKind.i64 x0.a6), AV.pv (PV.int IntKind.i64 x0.a7), AV.pv (PV.bool x0.a8), AV.pv (PV.int IntKind.i64 x0.a9), AV.pv (PV.int IntKind.i64 x0.a10), AV.pv (PV.int IntKind.i64 x0.a11)])], cur := (0 : Nat), ctr := (1 : Nat), fn := (62 : Nat) }
inductive f62L0e where
  | e0 (y7 : Int)
noncomputable def f62L0T (x0 : S43) : f62L0e → (Ex × St)
  | .e0 y7 => (Ex.exit (0 : Nat), { tmps := [AV.pv PV.undef, AV.pv PV.undef, AV.pv PV.undef, AV.pv (PV.int IntKind.i64 y7), AV.pv PV.undef, AV.pv PV.undef, AV.pv PV.undef, AV.pv PV.undef, AV.pv PV.undef, AV.pv PV.undef, AV.pv PV.undef, AV.pv PV.undef, AV.pv PV.undef, AV.pv PV.undef, AV.pv PV.undef], stack := [], mem := [], cur := (0 : Nat), ctr := (1 : Nat), fn := (62 : Nat) })
noncomputable def f62L0it10 (x0 : S43) (z8 : Int) (z9 : Int) : Tr (f62L0s ⊕ f62L0e) := (.test (decide (z9 < x0.a3)) (.ret (.inl (.s0 (IntKind.i64.wrap ((2 : Int) * z8)) (IntKind.i64.wrap (z9 + (1 : Int)))))) (.ret (.inr (.e0 (z8)))))
noncomputable def f62L0r (N : Nat) (x0 : S43) : f62L0s → Option (f62L0s ⊕ f62L0e)
  | .s0 z8 z9 => Tr.run (f62L0it10 x0 z8 z9)
theorem f62L0_step (N : Nat) (x0 : S43) : ∀ x, (roundAt (E1 N) (94 : Nat) (62 : Nat) (1 : Nat) (f62L0c N x0) (f62L0S x0 x)).run = (f62L0r N x0 x).map (sumMap (f62L0S x0) (f62L0T x0))
  | .s0 z8 z9 => (Tr.run_of (g := (f62L0it10 x0 z8 z9)) (f := (sumMap (f62L0S x0) (f62L0T x0))) (by kernel_rfl))
noncomputable def f62 (N : Nat) (x0 : S43) : Option f62o := ((loopN (f62L0r N x0) N (.s0 ((1 : Int)) ((0 : Int)))).bind (fun
    | .e0 w11 => Tr.run (.ret (.r0 (IntKind.i64.wrap (w11 - (1 : Int)))))))
theorem f62_run (N : Nat) (x0 : S43) : (evRes (E1 N) (100 : Nat) (62 : Nat) [(S43v x0)]).run = (f62 N x0).map f62W := (wait_run (wrap := f62W) (E := E1 N) (n := (94 : Nat)) (f := (62 : Nat)) (c0 := (1 : Nat)) (c := (f62L0c N x0)) (s := Tr.waitS (evRes (E1 N) (100 : Nat) (62 : Nat) [(S43v x0)])) (f62L0S x0) (f62L0T x0) (f62L0r N x0) (.s0 ((1 : Int)) ((0 : Int))) _ (f62L0_step N x0) (by kernel_rfl) (by kernel_rfl) (by kernel_rfl) (by kernel_rfl) (by kernel_rfl) (fun
    | .e0 w11 => (Tr.run_of (g := (.ret (.r0 (IntKind.i64.wrap (w11 - (1 : Int)))))) (f := f62W) (by kernel_rfl))))
structure f64o where
  r0 ::
  (y6 : Bool)
noncomputable def f64W (o : f64o) : Res := (fun y6 => Res.pv (PV.bool y6)) o.y6
noncomputable def f64L0c (N : Nat) (x0 : List (List PV)) (x1 : List (List PV)) : Code := Tr.waitC (Tr.sub [false] (Tr.sub [false] (evRes (E1 N) (100 : Nat) (64 : Nat) [PV.list (3 : Nat) x0, PV.list (3 : Nat) x1])))
inductive f64L0s where
  | s0 (y3 : Int)
noncomputable def f64L0S (x0 : List (List PV)) (x1 : List (List PV)) : f64L0s → St
  | .s0 y3 => { tmps := [AV.pv (PV.list (3 : Nat) x0), AV.pv (PV.list (3 : Nat) x1), AV.pv PV.undef, AV.pv PV.undef, AV.pv PV.undef, AV.pv PV.undef, AV.pv PV.undef, AV.pv PV.undef, AV.pv PV.undef, AV.pv PV.undef, AV.pv PV.undef, AV.pv PV.undef, AV.pv (PV.int IntKind.i64 (↑x0.length : Int)), AV.pv (PV.int IntKind.i64 y3), AV.pv PV.undef, AV.pv PV.undef, AV.pv PV.undef, AV.pv PV.undef, AV.pv PV.undef, AV.pv PV.undef, AV.pv PV.undef, AV.pv PV.undef, AV.pv PV.undef, AV.pv PV.undef, AV.pv PV.undef, AV.pv PV.undef], stack := [], mem := [], cur := (0 : Nat), ctr := (1 : Nat), fn := (64 : Nat) }
inductive f64L0e where
  | e0 
  | e1 
noncomputable def f64L0T (x0 : List (List PV)) (x1 : List (List PV)) : f64L0e → (Ex × St)
  | .e0  => (Ex.ret, { tmps := [AV.pv PV.undef, AV.pv PV.undef, AV.pv PV.undef, AV.pv PV.undef, AV.pv (PV.bool false), AV.pv PV.undef, AV.pv PV.undef, AV.pv PV.undef, AV.pv PV.undef, AV.pv PV.undef, AV.pv PV.undef, AV.pv PV.undef, AV.pv PV.undef, AV.pv PV.undef, AV.pv PV.undef, AV.pv PV.undef, AV.pv PV.undef, AV.pv PV.undef, AV.pv PV.undef, AV.pv PV.undef, AV.pv PV.undef, AV.pv PV.undef, AV.pv PV.undef, AV.pv PV.undef, AV.pv PV.undef, AV.pv PV.undef], stack := [], mem := [], cur := (0 : Nat), ctr := (1 : Nat), fn := (64 : Nat) })
  | .e1  => (Ex.exit (0 : Nat), { tmps := [AV.pv PV.undef, AV.pv PV.undef, AV.pv PV.undef, AV.pv PV.undef, AV.pv PV.undef, AV.pv PV.undef, AV.pv PV.undef, AV.pv PV.undef, AV.pv PV.undef, AV.pv PV.undef, AV.pv PV.undef, AV.pv PV.undef, AV.pv PV.undef, AV.pv PV.undef, AV.pv PV.undef, AV.pv PV.undef, AV.pv PV.undef, AV.pv PV.undef, AV.pv PV.undef, AV.pv PV.undef, AV.pv PV.undef, AV.pv PV.undef, AV.pv PV.undef, AV.pv PV.undef, AV.pv PV.undef, AV.pv PV.undef], stack := [], mem := [], cur := (0 : Nat), ctr := (1 : Nat), fn := (64 : Nat) })
noncomputable def f64L0it5 (x0 : List (List PV)) (x1 : List (List PV)) (z4 : Int) : Tr (f64L0s ⊕ f64L0e) := (.test (decide (z4 < (↑x0.length : Int))) (.test (decide ((0 : Int) ≤ z4) && decide (z4 < (↑x0.length : Int))) (.test (decide ((0 : Int) ≤ z4) && decide (z4 < (↑x1.length : Int))) (.test (pInt ((x0.getD z4.toNat []).headD PV.undef) != pInt ((x1.getD z4.toNat []).headD PV.undef)) (.ret (.inr (.e0))) (.ret (.inl (.s0 (IntKind.i64.wrap (z4 + (1 : Int))))))) .fail) .fail) (.ret (.inr (.e1))))
noncomputable def f64L0r (N : Nat) (x0 : List (List PV)) (x1 : List (List PV)) : f64L0s → Option (f64L0s ⊕ f64L0e)
  | .s0 z4 => Tr.run (f64L0it5 x0 x1 z4)
theorem f64L0_step (N : Nat) (x0 : List (List PV)) (x1 : List (List PV)) : ∀ x, (roundAt (E1 N) (94 : Nat) (64 : Nat) (1 : Nat) (f64L0c N x0 x1) (f64L0S x0 x1 x)).run = (f64L0r N x0 x1 x).map (sumMap (f64L0S x0 x1) (f64L0T x0 x1))
  | .s0 z4 => (Tr.run_of (g := (f64L0it5 x0 x1 z4)) (f := (sumMap (f64L0S x0 x1) (f64L0T x0 x1))) (by kernel_rfl))
noncomputable def f64 (N : Nat) (x0 : List (List PV)) (x1 : List (List PV)) : Option f64o := (bif ((↑x0.length : Int) != (↑x1.length : Int)) then (Tr.run (.ret (.r0 (false)))) else ((loopN (f64L0r N x0 x1) N (.s0 ((0 : Int)))).bind (fun
    | .e0  => Tr.run (.ret (.r0 (false)))
    | .e1  => Tr.run (.ret (.r0 (true))))))
theorem f64_run (N : Nat) (x0 : List (List PV)) (x1 : List (List PV)) : (evRes (E1 N) (100 : Nat) (64 : Nat) [PV.list (3 : Nat) x0, PV.list (3 : Nat) x1]).run = (f64 N x0 x1).map f64W := (test_run (t := (evRes (E1 N) (100 : Nat) (64 : Nat) [PV.list (3 : Nat) x0, PV.list (3 : Nat) x1])) (b := (↑x0.length : Int) != (↑x1.length : Int)) (by kernel_rfl) (by kernel_rfl) (Tr.run_of (g := (.ret (.r0 (false)))) (f := f64W) (by kernel_rfl)) (skip_run [false] (by kernel_rfl) (wait_run (wrap := f64W) (E := E1 N) (n := (94 : Nat)) (f := (64 : Nat)) (c0 := (1 : Nat)) (c := (f64L0c N x0 x1)) (s := Tr.waitS (Tr.sub [false] (Tr.sub [false] (evRes (E1 N) (100 : Nat) (64 : Nat) [PV.list (3 : Nat) x0, PV.list (3 : Nat) x1])))) (f64L0S x0 x1) (f64L0T x0 x1) (f64L0r N x0 x1) (.s0 ((0 : Int))) _ (f64L0_step N x0 x1) (by kernel_rfl) (by kernel_rfl) (by kernel_rfl) (by kernel_rfl) (by kernel_rfl) (fun
    | .e0  => (Tr.run_of (g := (.ret (.r0 (false)))) (f := f64W) (by kernel_rfl))
    | .e1  => (Tr.run_of (g := (.ret (.r0 (true)))) (f := f64W) (by kernel_rfl))))))
structure f65o where
  r0 ::
  (y6 : Bool)
noncomputable def f65W (o : f65o) : Res := (fun y6 => Res.pv (PV.bool y6)) o.y6
noncomputable def f65L0c (N : Nat) (x0 : List (List PV)) (x1 : List (List PV)) : Code := Tr.waitC (Tr.sub [false] (Tr.sub [false] (evRes (E1 N) (100 : Nat) (65 : Nat) [PV.list (66 : Nat) x0, PV.list (66 : Nat) x1])))
inductive f65L0s where
  | s0 (y3 : Int)
noncomputable def f65L0S (x0 : List (List PV)) (x1 : List (List PV)) : f65L0s → St
  | .s0 y3 => { tmps := [AV.pv (PV.list (66 : Nat) x0), AV.pv (PV.list (66 : Nat) x1), AV.pv PV.undef, AV.pv PV.undef, AV.pv PV.undef, AV.pv PV.undef, AV.pv PV.undef, AV.pv PV.undef, AV.pv PV.undef, AV.pv PV.undef, AV.pv PV.undef, AV.pv PV.undef, AV.pv (PV.int IntKind.i64 (↑x0.length : Int)), AV.pv (PV.int IntKind.i64 y3), AV.pv PV.undef, AV.pv PV.undef, AV.pv PV.undef, AV.pv PV.undef, AV.pv PV.undef, AV.pv PV.undef, AV.pv PV.undef, AV.pv PV.undef, AV.pv PV.undef, AV.pv PV.undef, AV.pv PV.undef, AV.pv PV.undef], stack := [], mem := [], cur := (0 : Nat), ctr := (1 : Nat), fn := (65 : Nat) }
inductive f65L0e where
  | e0 
  | e1 
noncomputable def f65L0T (x0 : List (List PV)) (x1 : List (List PV)) : f65L0e → (Ex × St)
  | .e0  => (Ex.ret, { tmps := [AV.pv PV.undef, AV.pv PV.undef, AV.pv PV.undef, AV.pv PV.undef, AV.pv (PV.bool false), AV.pv PV.undef, AV.pv PV.undef, AV.pv PV.undef, AV.pv PV.undef, AV.pv PV.undef, AV.pv PV.undef, AV.pv PV.undef, AV.pv PV.undef, AV.pv PV.undef, AV.pv PV.undef, AV.pv PV.undef, AV.pv PV.undef, AV.pv PV.undef, AV.pv PV.undef, AV.pv PV.undef, AV.pv PV.undef, AV.pv PV.undef, AV.pv PV.undef, AV.pv PV.undef, AV.pv PV.undef, AV.pv PV.undef], stack := [], mem := [], cur := (0 : Nat), ctr := (1 : Nat), fn := (65 : Nat) })
  | .e1  => (Ex.exit (0 : Nat), { tmps := [AV.pv PV.undef, AV.pv PV.undef, AV.pv PV.undef, AV.pv PV.undef, AV.pv PV.undef, AV.pv PV.undef, AV.pv PV.undef, AV.pv PV.undef, AV.pv PV.undef, AV.pv PV.undef, AV.pv PV.undef, AV.pv PV.undef, AV.pv PV.undef, AV.pv PV.undef, AV.pv PV.undef, AV.pv PV.undef, AV.pv PV.undef, AV.pv PV.undef, AV.pv PV.undef, AV.pv PV.undef, AV.pv PV.undef, AV.pv PV.undef, AV.pv PV.undef, AV.pv PV.undef, AV.pv PV.undef, AV.pv PV.undef], stack := [], mem := [], cur := (0 : Nat), ctr := (1 : Nat), fn := (65 : Nat) })
noncomputable def f65L0it5 (x0 : List (List PV)) (x1 : List (List PV)) (z4 : Int) : Tr (f65L0s ⊕ f65L0e) := (.test (decide (z4 < (↑x0.length : Int))) (.test (decide ((0 : Int) ≤ z4) && decide (z4 < (↑x0.length : Int))) (.test (decide ((0 : Int) ≤ z4) && decide (z4 < (↑x1.length : Int))) (.test (!(pInt ((x0.getD z4.toNat []).headD PV.undef) == pInt ((x1.getD z4.toNat []).headD PV.undef) && (pInt ((x0.getD z4.toNat []).tail.headD PV.undef) == pInt ((x1.getD z4.toNat []).tail.headD PV.undef) && true))) (.ret (.inr (.e0))) (.ret (.inl (.s0 (IntKind.i64.wrap (z4 + (1 : Int))))))) .fail) .fail) (.ret (.inr (.e1))))
noncomputable def f65L0r (N : Nat) (x0 : List (List PV)) (x1 : List (List PV)) : f65L0s → Option (f65L0s ⊕ f65L0e)
  | .s0 z4 => Tr.run (f65L0it5 x0 x1 z4)
theorem f65L0_step (N : Nat) (x0 : List (List PV)) (x1 : List (List PV)) : ∀ x, (roundAt (E1 N) (94 : Nat) (65 : Nat) (1 : Nat) (f65L0c N x0 x1) (f65L0S x0 x1 x)).run = (f65L0r N x0 x1 x).map (sumMap (f65L0S x0 x1) (f65L0T x0 x1))
  | .s0 z4 => (Tr.run_of (g := (f65L0it5 x0 x1 z4)) (f := (sumMap (f65L0S x0 x1) (f65L0T x0 x1))) (by kernel_rfl))
noncomputable def f65 (N : Nat) (x0 : List (List PV)) (x1 : List (List PV)) : Option f65o := (bif ((↑x0.length : Int) != (↑x1.length : Int)) then (Tr.run (.ret (.r0 (false)))) else ((loopN (f65L0r N x0 x1) N (.s0 ((0 : Int)))).bind (fun
    | .e0  => Tr.run (.ret (.r0 (false)))
    | .e1  => Tr.run (.ret (.r0 (true))))))
theorem f65_run (N : Nat) (x0 : List (List PV)) (x1 : List (List PV)) : (evRes (E1 N) (100 : Nat) (65 : Nat) [PV.list (66 : Nat) x0, PV.list (66 : Nat) x1]).run = (f65 N x0 x1).map f65W := (test_run (t := (evRes (E1 N) (100 : Nat) (65 : Nat) [PV.list (66 : Nat) x0, PV.list (66 : Nat) x1])) (b := (↑x0.length : Int) != (↑x1.length : Int)) (by kernel_rfl) (by kernel_rfl) (Tr.run_of (g := (.ret (.r0 (false)))) (f := f65W) (by kernel_rfl)) (skip_run [false] (by kernel_rfl) (wait_run (wrap := f65W) (E := E1 N) (n := (94 : Nat)) (f := (65 : Nat)) (c0 := (1 : Nat)) (c := (f65L0c N x0 x1)) (s := Tr.waitS (Tr.sub [false] (Tr.sub [false] (evRes (E1 N) (100 : Nat) (65 : Nat) [PV.list (66 : Nat) x0, PV.list (66 : Nat) x1])))) (f65L0S x0 x1) (f65L0T x0 x1) (f65L0r N x0 x1) (.s0 ((0 : Int))) _ (f65L0_step N x0 x1) (by kernel_rfl) (by kernel_rfl) (by kernel_rfl) (by kernel_rfl) (by kernel_rfl) (fun
    | .e0  => (Tr.run_of (g := (.ret (.r0 (false)))) (f := f65W) (by kernel_rfl))
    | .e1  => (Tr.run_of (g := (.ret (.r0 (true)))) (f := f65W) (by kernel_rfl))))))
structure f66o where
  r0 ::
  (y6 : Bool)
noncomputable def f66W (o : f66o) : Res := (fun y6 => Res.pv (PV.bool y6)) o.y6
noncomputable def f66L0c (N : Nat) (x0 : List (List PV)) (x1 : List (List PV)) : Code := Tr.waitC (Tr.sub [false] (Tr.sub [false] (evRes (E1 N) (100 : Nat) (66 : Nat) [PV.list (78 : Nat) x0, PV.list (78 : Nat) x1])))
inductive f66L0s where
  | s0 (y3 : Int)
noncomputable def f66L0S (x0 : List (List PV)) (x1 : List (List PV)) : f66L0s → St
  | .s0 y3 => { tmps := [AV.pv (PV.list (78 : Nat) x0), AV.pv (PV.list (78 : Nat) x1), AV.pv PV.undef, AV.pv PV.undef, AV.pv PV.undef, AV.pv PV.undef, AV.pv PV.undef, AV.pv PV.undef, AV.pv PV.undef, AV.pv PV.undef, AV.pv PV.undef, AV.pv PV.undef, AV.pv (PV.int IntKind.i64 (↑x0.length : Int)), AV.pv (PV.int IntKind.i64 y3), AV.pv PV.undef, AV.pv PV.undef, AV.pv PV.undef, AV.pv PV.undef, AV.pv PV.undef, AV.pv PV.undef, AV.pv PV.undef, AV.pv PV.undef, AV.pv PV.undef, AV.pv PV.undef, AV.pv PV.undef, AV.pv PV.undef], stack := [], mem := [], cur := (0 : Nat), ctr := (1 : Nat), fn := (66 : Nat) }
inductive f66L0e where
  | e0 
  | e1 
noncomputable def f66L0T (x0 : List (List PV)) (x1 : List (List PV)) : f66L0e → (Ex × St)
  | .e0  => (Ex.ret, { tmps := [AV.pv PV.undef, AV.pv PV.undef, AV.pv PV.undef, AV.pv PV.undef, AV.pv (PV.bool false), AV.pv PV.undef, AV.pv PV.undef, AV.pv PV.undef, AV.pv PV.undef, AV.pv PV.undef, AV.pv PV.undef, AV.pv PV.undef, AV.pv PV.undef, AV.pv PV.undef, AV.pv PV.undef, AV.pv PV.undef, AV.pv PV.undef, AV.pv PV.undef, AV.pv PV.undef, AV.pv PV.undef, AV.pv PV.undef, AV.pv PV.undef, AV.pv PV.undef, AV.pv PV.undef, AV.pv PV.undef, AV.pv PV.undef], stack := [], mem := [], cur := (0 : Nat), ctr := (1 : Nat), fn := (66 : Nat) })
  | .e1  => (Ex.exit (0 : Nat), { tmps := [AV.pv PV.undef, AV.pv PV.undef, AV.pv PV.undef, AV.pv PV.undef, AV.pv PV.undef, AV.pv PV.undef, AV.pv PV.undef, AV.pv PV.undef, AV.pv PV.undef, AV.pv PV.undef, AV.pv PV.undef, AV.pv PV.undef, AV.pv PV.undef, AV.pv PV.undef, AV.pv PV.undef, AV.pv PV.undef, AV.pv PV.undef, AV.pv PV.undef, AV.pv PV.undef, AV.pv PV.undef, AV.pv PV.undef, AV.pv PV.undef, AV.pv PV.undef, AV.pv PV.undef, AV.pv PV.undef, AV.pv PV.undef], stack := [], mem := [], cur := (0 : Nat), ctr := (1 : Nat), fn := (66 : Nat) })
noncomputable def f66L0it5 (x0 : List (List PV)) (x1 : List (List PV)) (z4 : Int) : Tr (f66L0s ⊕ f66L0e) := (.test (decide (z4 < (↑x0.length : Int))) (.test (decide ((0 : Int) ≤ z4) && decide (z4 < (↑x0.length : Int))) (.test (decide ((0 : Int) ≤ z4) && decide (z4 < (↑x1.length : Int))) (.test (!(pInt ((x0.getD z4.toNat []).headD PV.undef) == pInt ((x1.getD z4.toNat []).headD PV.undef) && (pInt ((x0.getD z4.toNat []).tail.headD PV.undef) == pInt ((x1.getD z4.toNat []).tail.headD PV.undef) && (pInt ((x0.getD z4.toNat []).tail.tail.headD PV.undef) == pInt ((x1.getD z4.toNat []).tail.tail.headD PV.undef) && true) && true))) (.ret (.inr (.e0))) (.ret (.inl (.s0 (IntKind.i64.wrap (z4 + (1 : Int))))))) .fail) .fail) (.ret (.inr (.e1))))
noncomputable def f66L0r (N : Nat) (x0 : List (List PV)) (x1 : List (List PV)) : f66L0s → Option (f66L0s ⊕ f66L0e)
  | .s0 z4 => Tr.run (f66L0it5 x0 x1 z4)
theorem f66L0_step (N : Nat) (x0 : List (List PV)) (x1 : List (List PV)) : ∀ x, (roundAt (E1 N) (94 : Nat) (66 : Nat) (1 : Nat) (f66L0c N x0 x1) (f66L0S x0 x1 x)).run = (f66L0r N x0 x1 x).map (sumMap (f66L0S x0 x1) (f66L0T x0 x1))
  | .s0 z4 => (Tr.run_of (g := (f66L0it5 x0 x1 z4)) (f := (sumMap (f66L0S x0 x1) (f66L0T x0 x1))) (by kernel_rfl))
noncomputable def f66 (N : Nat) (x0 : List (List PV)) (x1 : List (List PV)) : Option f66o := (bif ((↑x0.length : Int) != (↑x1.length : Int)) then (Tr.run (.ret (.r0 (false)))) else ((loopN (f66L0r N x0 x1) N (.s0 ((0 : Int)))).bind (fun
    | .e0  => Tr.run (.ret (.r0 (false)))
    | .e1  => Tr.run (.ret (.r0 (true))))))
theorem f66_run (N : Nat) (x0 : List (List PV)) (x1 : List (List PV)) : (evRes (E1 N) (100 : Nat) (66 : Nat) [PV.list (78 : Nat) x0, PV.list (78 : Nat) x1]).run = (f66 N x0 x1).map f66W := (test_run (t := (evRes (E1 N) (100 : Nat) (66 : Nat) [PV.list (78 : Nat) x0, PV.list (78 : Nat) x1])) (b := (↑x0.length : Int) != (↑x1.length : Int)) (by kernel_rfl) (by kernel_rfl) (Tr.run_of (g := (.ret (.r0 (false)))) (f := f66W) (by kernel_rfl)) (skip_run [false] (by kernel_rfl) (wait_run (wrap := f66W) (E := E1 N) (n := (94 : Nat)) (f := (66 : Nat)) (c0 := (1 : Nat)) (c := (f66L0c N x0 x1)) (s := Tr.waitS (Tr.sub [false] (Tr.sub [false] (evRes (E1 N) (100 : Nat) (66 : Nat) [PV.list (78 : Nat) x0, PV.list (78 : Nat) x1])))) (f66L0S x0 x1) (f66L0T x0 x1) (f66L0r N x0 x1) (.s0 ((0 : Int))) _ (f66L0_step N x0 x1) (by kernel_rfl) (by kernel_rfl) (by kernel_rfl) (by kernel_rfl) (by kernel_rfl) (fun
    | .e0  => (Tr.run_of (g := (.ret (.r0 (false)))) (f := f66W) (by kernel_rfl))
    | .e1  => (Tr.run_of (g := (.ret (.r0 (true)))) (f := f66W) (by kernel_rfl))))))
abbrev f69o := S125
noncomputable def f69W (o : f69o) : Res := Res.pv (S125v o)
noncomputable def f69t0 (x0 : S23) : Tr f69o := (.test (decide ((0 : Int) ≤ x0.a3)) (.ret (.mk ((1 : Int)) (IntKind.i64.wrap ((1 : Int) + IntKind.i64.wrap (IntKind.i64.wrap ((1 : Int) * (2 : Int) ^ min x0.a3.toNat IntKind.i64.bits) - (1 : Int)))) (IntKind.i64.wrap (IntKind.i64.wrap ((1 : Int) + IntKind.i64.wrap (IntKind.i64.wrap ((1 : Int) * (2 : Int) ^ min x0.a3.toNat IntKind.i64.bits) - (1 : Int))) + IntKind.i64.wrap (x0.a4 * x0.a5))) (IntKind.i64.wrap (x0.a1 * IntKind.i64.wrap (IntKind.i64.wrap ((1 : Int) + IntKind.i64.wrap (IntKind.i64.wrap ((1 : Int) * (2 : Int) ^ min x0.a3.toNat IntKind.i64.bits) - (1 : Int))) + IntKind.i64.wrap (x0.a4 * x0.a5)))))) .fail)
noncomputable def f69 (N : Nat) (x0 : S23) : Option f69o := Tr.run (f69t0 x0)
theorem f69_run (N : Nat) (x0 : S23) : (evRes (E1 N) (100 : Nat) (69 : Nat) [(S23v x0)]).run = (f69 N x0).map f69W := (Tr.run_of (g := (f69t0 x0)) (f := f69W) (by kernel_rfl))
def f69s : List PK := [S23k]
noncomputable def f69a (ps : List PV) : Option f69o := f69 0 (S23r (ps.headD PV.undef))
noncomputable def f69d : f69o := ⟨0, 0, 0, 0⟩
noncomputable def f69O : Ora := ⟨fun ps => okPs f69s ps && (f69a ps).isSome, fun ps => (f69W ((f69a ps).getD f69d)).plain⟩
theorem f69_spec : Spec Try.prog 69 f69O := spec_at 100 f69s (fun ps => (f69a ps).isSome) _ mixed fun ps hm hs hp => by
  cases h : f69a ps with
  | none => rw [h] at hp; cases hp
  | some o =>

    refine ⟨E1 0, f69W o, rfl, E1_ok 0, ?_, .inr ?_⟩
    · rw [show canPs f69s ps = [S23v (S23r (ps.headD PV.undef))] from by kernel_rfl, f69_run 0]
      show (f69a ps).map f69W = _
      rw [h]; rfl
    · rfl
structure f81o where
  r0 ::
  (y1 : Int) (y2 : Bool)
noncomputable def f81W (o : f81o) : Res := (fun y1 y2 => Res.pv (PV.tup [PV.int IntKind.i64 y1, PV.bool y2])) o.y1 o.y2
noncomputable def f81t0 (x0 : S29) (x1 : Int) (x2 : Int) (x3 : Int) : Tr f81o := (.test (x0.a0 == (2 : Int)) (.ret (.r0 (IntKind.i64.wrap (x1 + IntKind.i64.wrap ((0 : Int) - x0.a1))) (true))) (.test (x0.a0 == (1 : Int)) (.ret (.r0 (IntKind.i64.wrap (x1 + x0.a1)) (true))) (.test (x0.a0 == (3 : Int)) (.ret (.r0 (IntKind.i64.wrap (↑(BitVec.ofInt IntKind.i64.bits x1 ||| BitVec.ofInt IntKind.i64.bits x0.a1).toNat : Int)) (true))) (.test (x0.a0 == (4 : Int)) (.ret (.r0 (IntKind.i64.wrap (↑(BitVec.ofInt IntKind.i64.bits x1 &&& BitVec.ofInt IntKind.i64.bits x0.a1).toNat : Int)) (true))) (.test (x0.a0 == (5 : Int)) (.ret (.r0 (if x0.a1 < x1 then x1 else x0.a1) (true))) (.test (x0.a0 == (6 : Int)) (.ret (.r0 (if x1 < x0.a1 then x1 else x0.a1) (true))) (.test (x0.a0 == (7 : Int)) (.ret (.r0 (x0.a1) (true))) (.test (x0.a0 == (9 : Int)) (.test (decide (x0.a1 < (0 : Int))) (.ret (.r0 (x1) (false))) (.test (decide (x1 < x2)) (.ret (.r0 (x1) (false))) (.test (decide (IntKind.i64.wrap (x1 - x0.a1) ≤ x1)) (.test (decide (IntKind.i64.wrap (x1 - x0.a1) ≥ x2)) (.ret (.r0 (IntKind.i64.wrap (x1 - x0.a1)) (true))) (.ret (.r0 (x2) (true)))) (.ret (.r0 (x2) (true)))))) (.test (x0.a0 == (8 : Int)) (.test (decide (x0.a1 ≥ (0 : Int))) (.test (decide (IntKind.i64.wrap (x1 + x0.a1) ≥ x1)) (.test (decide (IntKind.i64.wrap (x1 + x0.a1) < x2)) (.ret (.r0 (x1) (false))) (.test (!decide (IntKind.i64.wrap (x1 + x0.a1) > x3)) (.ret (.r0 (IntKind.i64.wrap (x1 + x0.a1)) (true))) (.ret (.r0 (x1) (false))))) (.test (decide (x0.a1 < (0 : Int))) (.test (decide (IntKind.i64.wrap (x1 + x0.a1) < x1)) (.test (decide (IntKind.i64.wrap (x1 + x0.a1) < x2)) (.ret (.r0 (x1) (false))) (.test (!decide (IntKind.i64.wrap (x1 + x0.a1) > x3)) (.ret (.r0 (IntKind.i64.wrap (x1 + x0.a1)) (true))) (.ret (.r0 (x1) (false))))) (.ret (.r0 (x1) (false)))) (.ret (.r0 (x1) (false))))) (.test (decide (x0.a1 < (0 : Int))) (.test (decide (IntKind.i64.wrap (x1 + x0.a1) < x1)) (.test (decide (IntKind.i64.wrap (x1 + x0.a1) < x2)) (.ret (.r0 (x1) (false))) (.test (!decide (IntKind.i64.wrap (x1 + x0.a1) > x3)) (.ret (.r0 (IntKind.i64.wrap (x1 + x0.a1)) (true))) (.ret (.r0 (x1) (false))))) (.ret (.r0 (x1) (false)))) (.ret (.r0 (x1) (false))))) (.ret (.r0 (x1) (false))))))))))))
noncomputable def f81 (N : Nat) (x0 : S29) (x1 : Int) (x2 : Int) (x3 : Int) : Option f81o := Tr.run (f81t0 x0 x1 x2 x3)
theorem f81_run (N : Nat) (x0 : S29) (x1 : Int) (x2 : Int) (x3 : Int) : (evRes (E1 N) (100 : Nat) (81 : Nat) [(S29v x0), PV.int IntKind.i64 x1, PV.int IntKind.i64 x2, PV.int IntKind.i64 x3]).run = (f81 N x0 x1 x2 x3).map f81W := (Tr.run_of (g := (f81t0 x0 x1 x2 x3)) (f := f81W) (by kernel_rfl))
def f81s : List PK := [S29k, (false, [K.int .i64]), (false, [K.int .i64]), (false, [K.int .i64])]
noncomputable def f81a (ps : List PV) : Option f81o := f81 0 (S29r (ps.headD PV.undef)) (pInt (ps.tail.headD PV.undef)) (pInt (ps.tail.tail.headD PV.undef)) (pInt (ps.tail.tail.tail.headD PV.undef))
noncomputable def f81d : f81o := ⟨0, false⟩
noncomputable def f81O : Ora := ⟨fun ps => okPs f81s ps && (f81a ps).isSome, fun ps => (f81W ((f81a ps).getD f81d)).plain⟩
theorem f81_spec : Spec Try.prog 81 f81O := spec_at 100 f81s (fun ps => (f81a ps).isSome) _ mixed fun ps hm hs hp => by
  cases h : f81a ps with
  | none => rw [h] at hp; cases hp
  | some o =>

    refine ⟨E1 0, f81W o, rfl, E1_ok 0, ?_, .inr ?_⟩
    · rw [show canPs f81s ps = [S29v (S29r (ps.headD PV.undef)), PV.int IntKind.i64 (pInt (ps.tail.headD PV.undef)), PV.int IntKind.i64 (pInt (ps.tail.tail.headD PV.undef)), PV.int IntKind.i64 (pInt (ps.tail.tail.tail.headD PV.undef))] from by kernel_rfl, f81_run 0]
      show (f81a ps).map f81W = _
      rw [h]; rfl
    · rfl
abbrev f15o := S38
noncomputable def f15W (o : f15o) : Res := Res.pv (S38v o)
def f15rs : List PK := [(true, [K.int .i64, K.int .i64, K.int .i64, K.int .i64, K.int .i64, K.int .i64, K.int .i64, K.int .i64, K.bool, K.int .i64, K.int .i64, K.int .i64, K.int .i64, K.int .i64, K.list 3, K.list 30, K.int .i64, K.int .i64, K.int .i64, K.int .i64, K.list 78, K.list 66, K.list 3, K.int .i64, K.int .i64, K.int .i64, K.int .i64, K.int .i64, K.int .i64, K.int .i64, K.int .i64, K.int .i64, K.int .i64, K.list 3, K.int .i64, K.list 117, K.bool])]
noncomputable def f15t0 (x0 : S38) : Tr f15o := (.test (decide (x0.a25 < (0 : Int))) (.ret (.mk (x0.a0) (x0.a1) (x0.a2) (x0.a3) (x0.a4) (x0.a5) (x0.a6) (x0.a7) (x0.a8) (x0.a9) (x0.a10) (x0.a11) (x0.a12) (x0.a13) (x0.a14) (x0.a15) ((0 : Int)) (x0.a17) (x0.a18) (x0.a19) (x0.a20) (x0.a21) (x0.a22) (x0.a23) (x0.a24) (x0.a25) (x0.a26) (x0.a27) (x0.a28) (x0.a29) (x0.a30) (x0.a31) (x0.a32) (x0.a33) (x0.a34) (x0.a35) (true))) (.test (decide (x0.a25 ≥ (↑x0.a21.length : Int))) (.ret (.mk (x0.a0) (x0.a1) (x0.a2) (x0.a3) (x0.a4) (x0.a5) (x0.a6) (x0.a7) (x0.a8) (x0.a9) (x0.a10) (x0.a11) (x0.a12) (x0.a13) (x0.a14) (x0.a15) ((0 : Int)) (x0.a17) (x0.a18) (x0.a19) (x0.a20) (x0.a21) (x0.a22) (x0.a23) (x0.a24) (x0.a25) (x0.a26) (x0.a27) (x0.a28) (x0.a29) (x0.a30) (x0.a31) (x0.a32) (x0.a33) (x0.a34) (x0.a35) (true))) (.test (decide ((0 : Int) ≤ x0.a25) && decide (x0.a25 < (↑x0.a21.length : Int))) (.ret (.mk (x0.a0) (x0.a1) (x0.a2) (x0.a3) (x0.a4) (x0.a5) (x0.a6) (x0.a7) (x0.a8) (x0.a9) (x0.a10) (x0.a11) (x0.a12) (x0.a13) (x0.a14) (x0.a15) ((15 : Int)) (x0.a17) (x0.a18) (x0.a19) (x0.a20) (x0.a21) (x0.a22) (x0.a23) (x0.a24) (x0.a25) (x0.a26) (x0.a27) (x0.a28) (x0.a29) (x0.a30) (x0.a31) (x0.a32) (x0.a33) (x0.a34) (x0.a35) (x0.a36))) .fail)))
noncomputable def f15 (N : Nat) (x0 : S38) : Option f15o := Tr.run (f15t0 x0)
theorem f15_run (N : Nat) (x0 : S38) : (evFit f15rs (evRes (E1 N) (100 : Nat) (15 : Nat) [(S38v x0)])).run = (f15 N x0).map f15W := (Tr.run_of (g := (f15t0 x0)) (f := f15W) (by kernel_rfl))
def f15s : List PK := [S38k]
noncomputable def f15a (ps : List PV) : Option f15o := f15 0 (S38r (ps.headD PV.undef))
noncomputable def f15d : f15o := ⟨0, 0, 0, 0, 0, 0, 0, 0, false, 0, 0, 0, 0, 0, [], [], 0, 0, 0, 0, [], [], [], 0, 0, 0, 0, 0, 0, 0, 0, 0, 0, [], 0, [], false⟩
noncomputable def f15O : Ora := ⟨fun ps => okPs f15s ps && (f15a ps).isSome, fun ps => (f15W ((f15a ps).getD f15d)).plain⟩
theorem f15_spec : Spec Try.prog 15 f15O := spec_fit 100 f15rs f15s (fun ps => (f15a ps).isSome) _ mixed fun ps hm hs hp => by
  cases h : f15a ps with
  | none => rw [h] at hp; cases hp
  | some o =>

    refine ⟨E1 0, f15W o, rfl, E1_ok 0, ?_, .inr ?_⟩
    · rw [show canPs f15s ps = [S38v (S38r (ps.headD PV.undef))] from by kernel_rfl, f15_run 0]
      show (f15a ps).map f15W = _
      rw [h]; rfl
    · rfl
abbrev f16o := S55
noncomputable def f16W (o : f16o) : Res := Res.pv (S55v o)
def f16rs : List PK := [(true, [K.int .i64, K.int .i64, K.int .i64, K.int .i64, K.int .i64, K.int .i64, K.int .i64, K.int .i64, K.bool, K.int .i64, K.int .i64, K.int .i64, K.int .i64, K.int .i64, K.list 3, K.list 48, K.int .i64, K.int .i64, K.int .i64, K.int .i64, K.list 96, K.list 113, K.list 3, K.int .i64, K.int .i64, K.int .i64, K.int .i64, K.int .i64, K.int .i64, K.int .i64, K.int .i64, K.int .i64, K.int .i64, K.list 3, K.int .i64, K.list 119, K.bool])]
noncomputable def f16t0 (x0 : S55) : Tr f16o := (.test (decide (x0.a25 ≥ (0 : Int))) (.test (decide (x0.a25 < (↑x0.a21.length : Int))) (.ret (.mk (x0.a0) (x0.a1) (x0.a2) (x0.a3) (x0.a4) (x0.a5) (x0.a6) (x0.a7) (x0.a8) (x0.a9) (x0.a10) (x0.a11) (x0.a12) (x0.a13) (x0.a14) (x0.a15) ((15 : Int)) (x0.a17) (x0.a18) (x0.a19) (x0.a20) (x0.a21) (x0.a22) (x0.a23) (x0.a24) (x0.a25) (x0.a26) (x0.a27) (x0.a28) (x0.a29) (x0.a30) (x0.a31) (x0.a32) (x0.a33) (x0.a34) (x0.a35) (x0.a36))) (.ret (.mk (x0.a0) (x0.a1) (x0.a2) (x0.a3) (x0.a4) (x0.a5) (x0.a6) (x0.a7) (x0.a8) (x0.a9) (x0.a10) (x0.a11) (x0.a12) (x0.a13) (x0.a14) (x0.a15) ((0 : Int)) (x0.a17) (x0.a18) (x0.a19) (x0.a20) (x0.a21) (x0.a22) (x0.a23) (x0.a24) (x0.a25) (x0.a26) (x0.a27) (x0.a28) (x0.a29) (x0.a30) (x0.a31) (x0.a32) (x0.a33) (x0.a34) (x0.a35) (true)))) (.ret (.mk (x0.a0) (x0.a1) (x0.a2) (x0.a3) (x0.a4) (x0.a5) (x0.a6) (x0.a7) (x0.a8) (x0.a9) (x0.a10) (x0.a11) (x0.a12) (x0.a13) (x0.a14) (x0.a15) ((0 : Int)) (x0.a17) (x0.a18) (x0.a19) (x0.a20) (x0.a21) (x0.a22) (x0.a23) (x0.a24) (x0.a25) (x0.a26) (x0.a27) (x0.a28) (x0.a29) (x0.a30) (x0.a31) (x0.a32) (x0.a33) (x0.a34) (x0.a35) (true))))
noncomputable def f16 (N : Nat) (x0 : S55) : Option f16o := Tr.run (f16t0 x0)
theorem f16_run (N : Nat) (x0 : S55) : (evFit f16rs (evRes (E1 N) (100 : Nat) (16 : Nat) [(S55v x0)])).run = (f16 N x0).map f16W := (Tr.run_of (g := (f16t0 x0)) (f := f16W) (by kernel_rfl))
def f16s : List PK := [S55k]
noncomputable def f16a (ps : List PV) : Option f16o := f16 0 (S55r (ps.headD PV.undef))
noncomputable def f16d : f16o := ⟨0, 0, 0, 0, 0, 0, 0, 0, false, 0, 0, 0, 0, 0, [], [], 0, 0, 0, 0, [], [], [], 0, 0, 0, 0, 0, 0, 0, 0, 0, 0, [], 0, [], false⟩
noncomputable def f16O : Ora := ⟨fun ps => okPs f16s ps && (f16a ps).isSome, fun ps => (f16W ((f16a ps).getD f16d)).plain⟩
theorem f16_spec : Spec Try.prog 16 f16O := spec_fit 100 f16rs f16s (fun ps => (f16a ps).isSome) _ mixed fun ps hm hs hp => by
  cases h : f16a ps with
  | none => rw [h] at hp; cases hp
  | some o =>

    refine ⟨E1 0, f16W o, rfl, E1_ok 0, ?_, .inr ?_⟩
    · rw [show canPs f16s ps = [S55v (S55r (ps.headD PV.undef))] from by kernel_rfl, f16_run 0]
      show (f16a ps).map f16W = _
      rw [h]; rfl
    · rfl
end Go.Proofs.YtjoebchkchoomaaS
