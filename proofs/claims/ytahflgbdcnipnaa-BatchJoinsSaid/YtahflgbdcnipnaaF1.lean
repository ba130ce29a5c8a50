/- Functions of the chapter in plain form, printed. Conditions: none. -/
import Derived.Test.YtahflgbdcnipnaaC1
set_option linter.unusedVariables false
set_option linter.unusedSimpArgs false
set_option maxRecDepth 10000
namespace Go.Proofs.YtahflgbdcnipnaaS
open Go Go.Proofs
noncomputable def E1 (N : Nat) : Env := (E0 N).add 22 f22O
theorem E1_ok (N : Nat) : (E1 N).Ok := (E0_ok N).add f22_spec
set_option maxHeartbeats 4000000
structure f10o where
  r0 ::
  (y6 : Bool)
noncomputable def f10W (o : f10o) : Res := (fun y6 => Res.pv (PV.bool y6)) o.y6
noncomputable def f10L0c (N : Nat) (x0 : List (List PV)) (x1 : List (List PV)) : Code := Tr.waitC (Tr.sub [false] (Tr.sub [false] (evRes (E1 N) (100 : Nat) (10 : Nat) [PV.list (49 : Nat) x0, PV.list (49 : Nat) x1])))
inductive f10L0s where
  | s0 (y3 : Int)
noncomputable def f10L0S (x0 : List (List PV)) (x1 : List (List PV)) : f10L0s → St
  | .s0 y3 => { tmps := [AV.pv (PV.list (49 : Nat) x0), AV.pv (PV.list (49 : Nat) x1), AV.pv PV.undef, AV.pv PV.undef, AV.pv PV.undef, AV.pv (PV.int IntKind.i64 y3), AV.pv PV.undef, AV.pv PV.undef, AV.pv PV.undef, AV.pv PV.undef, AV.pv PV.undef, AV.pv PV.undef, AV.pv PV.undef, AV.pv PV.undef, AV.pv PV.undef, AV.pv PV.undef, AV.pv PV.undef, AV.pv PV.undef, AV.pv PV.undef, AV.pv PV.undef, AV.pv PV.undef, AV.pv PV.undef, AV.pv PV.undef, AV.pv PV.undef, AV.pv PV.undef, AV.pv PV.undef], stack := [], mem := [], cur := (0 : Nat), ctr := (1 : Nat), fn := (10 : Nat) }
inductive f10L0e where
  | e0 
  | e1 
noncomputable def f10L0T (x0 : List (List PV)) (x1 : List (List PV)) : f10L0e → (Ex × St)
  | .e0  => (Ex.ret, { tmps := [AV.pv PV.undef, AV.pv PV.undef, AV.pv PV.undef, AV.pv PV.undef, AV.pv (PV.bool false), AV.pv PV.undef, AV.pv PV.undef, AV.pv PV.undef, AV.pv PV.undef, AV.pv PV.undef, AV.pv PV.undef, AV.pv PV.undef, AV.pv PV.undef, AV.pv PV.undef, AV.pv PV.undef, AV.pv PV.undef, AV.pv PV.undef, AV.pv PV.undef, AV.pv PV.undef, AV.pv PV.undef, AV.pv PV.undef, AV.pv PV.undef, AV.pv PV.undef, AV.pv PV.undef, AV.pv PV.undef, AV.pv PV.undef], stack := [], mem := [], cur := (0 : Nat), ctr := (1 : Nat), fn := (10 : Nat) })
  | .e1  => (Ex.exit (0 : Nat), { tmps := [AV.pv PV.undef, AV.pv PV.undef, AV.pv PV.undef, AV.pv PV.undef, AV.pv PV.undef, AV.pv PV.undef, AV.pv PV.undef, AV.pv PV.undef, AV.pv PV.undef, AV.pv PV.undef, AV.pv PV.undef, AV.pv PV.undef, AV.pv PV.undef, AV.pv PV.undef, AV.pv PV.undef, AV.pv PV.undef, AV.pv PV.undef, AV.pv PV.undef, AV.pv PV.undef, AV.pv PV.undef, AV.pv PV.undef, AV.pv PV.undef, AV.pv PV.undef, AV.pv PV.undef, AV.pv PV.undef, AV.pv PV.undef], stack := [], mem := [], cur := (0 : Nat), ctr := (1 : Nat), fn := (10 : Nat) })
noncomputable def f10L0it5 (x0 : List (List PV)) (x1 : List (List PV)) (z4 : Int) : Tr (f10L0s ⊕ f10L0e) := (.test (decide (z4 < (↑x0.length : Int))) (.test (decide ((0 : Int) ≤ z4) && decide (z4 < (↑x0.length : Int))) (.test (decide ((0 : Int) ≤ z4) && decide (z4 < (↑x1.length : Int))) (.test (!(pInt ((x0.getD z4.toNat []).headD PV.undef) == pInt ((x1.getD z4.toNat []).headD PV.undef) && (pInt ((x0.getD z4.toNat []).tail.headD PV.undef) == pInt ((x1.getD z4.toNat []).tail.headD PV.undef) && (pInt ((x0.getD z4.toNat []).tail.tail.headD PV.undef) == pInt ((x1.getD z4.toNat []).tail.tail.headD PV.undef) && true) && true))) (.ret (.inr (.e0))) (.ret (.inl (.s0 (IntKind.i64.wrap (z4 + (1 : Int))))))) .fail) .fail) (.ret (.inr (.e1))))
noncomputable def f10L0r (N : Nat) (x0 : List (List PV)) (x1 : List (List PV)) : f10L0s → Option (f10L0s ⊕ f10L0e)
  | .s0 z4 => Tr.run (f10L0it5 x0 x1 z4)
theorem f10L0_step (N : Nat) (x0 : List (List PV)) (x1 : List (List PV)) : ∀ x, (roundAt (E1 N) (94 : Nat) (10 : Nat) (1 : Nat) (f10L0c N x0 x1) (f10L0S x0 x1 x)).run = (f10L0r N x0 x1 x).map (sumMap (f10L0S x0 x1) (f10L0T x0 x1))
  | .s0 z4 => (Tr.run_of (g := (f10L0it5 x0 x1 z4)) (f := (sumMap (f10L0S x0 x1) (f10L0T x0 x1))) (by kernel_rfl))
noncomputable def f10 (N : Nat) (x0 : List (List PV)) (x1 : List (List PV)) : Option f10o := (bif ((↑x0.length : Int) != (↑x1.length : Int)) then (Tr.run (.ret (.r0 (false)))) else ((loopN (f10L0r N x0 x1) N (.s0 ((0 : Int)))).bind (fun
    | .e0  => Tr.run (.ret (.r0 (false)))
    | .e1  => Tr.run (.ret (.r0 (true))))))
theorem f10_run (N : Nat) (x0 : List (List PV)) (x1 : List (List PV)) : (evRes (E1 N) (100 : Nat) (10 : Nat) [PV.list (49 : Nat) x0, PV.list (49 : Nat) x1]).run = (f10 N x0 x1).map f10W := (test_run (t := (evRes (E1 N) (100 : Nat) (10 : Nat) [PV.list (49 : Nat) x0, PV.list (49 : Nat) x1])) (b := (↑x0.length : Int) != (↑x1.length : Int)) (by kernel_rfl) (by kernel_rfl) (Tr.run_of (g := (.ret (.r0 (false)))) (f := f10W) (by kernel_rfl)) (skip_run [false] (by kernel_rfl) (wait_run (wrap := f10W) (E := E1 N) (n := (94 : Nat)) (f := (10 : Nat)) (c0 := (1 : Nat)) (c := (f10L0c N x0 x1)) (s := Tr.waitS (Tr.sub [false] (Tr.sub [false] (evRes (E1 N) (100 : Nat) (10 : Nat) [PV.list (49 : Nat) x0, PV.list (49 : Nat) x1])))) (f10L0S x0 x1) (f10L0T x0 x1) (f10L0r N x0 x1) (.s0 ((0 : Int))) _ (f10L0_step N x0 x1) (by kernel_rfl) (by kernel_rfl) (by kernel_rfl) (by kernel_rfl) (by kernel_rfl) (fun
    | .e0  => (Tr.run_of (g := (.ret (.r0 (false)))) (f := f10W) (by kernel_rfl))
    | .e1  => (Tr.run_of (g := (.ret (.r0 (true)))) (f := f10W) (by kernel_rfl))))))
inductive f11o where
  | r0 (y15 : List (List PV))
  | r1 (y16 : List (List PV))
noncomputable def f11W  : f11o → Res
  | .r0 y15 => Res.pv (PV.list (49 : Nat) y15)
  | .r1 y16 => Res.fresh (49 : Nat) y16
def f11rs : List PK := [(false, [K.list 49])]
noncomputable def f11L0c (N : Nat) (x0 : List (List PV)) : Code := Tr.waitC (evFit f11rs (evRes (E1 N) (100 : Nat) (11 : Nat) [PV.list (44 : Nat) x0]))
inductive f11L0s where
  | s0 
  | s1 
  | s2 (y5 : Int) (y6 : List (List PV))
noncomputable def f11L0S (x0 : List (List PV)) : f11L0s → St
  | .s0  => { tmps := [AV.pv (PV.list (44 : Nat) x0), AV.pv PV.undef, AV.pv PV.undef, AV.lit (49 : Nat) [], AV.pv (PV.int IntKind.i64 (0 : Int)), AV.pv PV.undef, AV.pv PV.undef, AV.pv PV.undef, AV.pv PV.undef, AV.pv PV.undef, AV.pv PV.undef, AV.pv PV.undef, AV.pv PV.undef, AV.pv PV.undef, AV.pv PV.undef, AV.pv PV.undef, AV.pv PV.undef, AV.pv PV.undef, AV.pv PV.undef, AV.pv PV.undef, AV.pv PV.undef, AV.pv PV.undef, AV.pv PV.undef, AV.pv PV.undef, AV.pv PV.undef, AV.pv PV.undef, AV.pv PV.undef], stack := [], mem := [], cur := (0 : Nat), ctr := (1 : Nat), fn := (11 : Nat) }
  | .s1  => { tmps := [AV.pv (PV.list (44 : Nat) x0), AV.pv PV.undef, AV.pv PV.undef, AV.own (525 : Nat), AV.pv (PV.int IntKind.i64 (1 : Int)), AV.pv PV.undef, AV.pv PV.undef, AV.pv PV.undef, AV.pv PV.undef, AV.pv PV.undef, AV.pv PV.undef, AV.pv PV.undef, AV.pv PV.undef, AV.pv PV.undef, AV.pv PV.undef, AV.pv PV.undef, AV.pv PV.undef, AV.pv PV.undef, AV.pv PV.undef, AV.pv PV.undef, AV.pv PV.undef, AV.pv PV.undef, AV.pv PV.undef, AV.pv PV.undef, AV.pv PV.undef, AV.pv PV.undef, AV.pv PV.undef], stack := [], mem := [((525 : Nat), Ob.row (2 : Nat) (49 : Nat) [[PV.int IntKind.i64 (pInt ((x0.getD (Int.toNat (0 : Int)) []).headD PV.undef)), PV.int IntKind.i64 (pInt ((x0.getD (Int.toNat (0 : Int)) []).tail.headD PV.undef)), PV.int IntKind.i64 (pInt ((x0.getD (Int.toNat (0 : Int)) []).tail.tail.headD PV.undef))]])], cur := (0 : Nat), ctr := (1 : Nat), fn := (11 : Nat) }
  | .s2 y5 y6 => { tmps := [AV.pv (PV.list (44 : Nat) x0), AV.pv PV.undef, AV.pv PV.undef, AV.own (525 : Nat), AV.pv (PV.int IntKind.i64 y5), AV.pv PV.undef, AV.pv PV.undef, AV.pv PV.undef, AV.pv PV.undef, AV.pv PV.undef, AV.pv PV.undef, AV.pv PV.undef, AV.pv PV.undef, AV.pv PV.undef, AV.pv PV.undef, AV.pv PV.undef, AV.pv PV.undef, AV.pv PV.undef, AV.pv PV.undef, AV.pv PV.undef, AV.pv PV.undef, AV.pv PV.undef, AV.pv PV.undef, AV.pv PV.undef, AV.pv PV.undef, AV.pv PV.undef, AV.pv PV.undef], stack := [], mem := [((525 : Nat), Ob.row (1 : Nat) (49 : Nat) y6)], cur := (0 : Nat), ctr := (1 : Nat), fn := (11 : Nat) }
inductive f11L0e where
  | e0 
  | e1 
  | e2 (y7 : List (List PV))
noncomputable def f11L0T (x0 : List (List PV)) : f11L0e → (Ex × St)
  | .e0  => (Ex.exit (0 : Nat), { tmps := [AV.pv PV.undef, AV.pv PV.undef, AV.pv PV.undef, AV.lit (49 : Nat) [], AV.pv PV.undef, AV.pv PV.undef, AV.pv PV.undef, AV.pv PV.undef, AV.pv PV.undef, AV.pv PV.undef, AV.pv PV.undef, AV.pv PV.undef, AV.pv PV.undef, AV.pv PV.undef, AV.pv PV.undef, AV.pv PV.undef, AV.pv PV.undef, AV.pv PV.undef, AV.pv PV.undef, AV.pv PV.undef, AV.pv PV.undef, AV.pv PV.undef, AV.pv PV.undef, AV.pv PV.undef, AV.pv PV.undef, AV.pv PV.undef, AV.pv PV.undef], stack := [], mem := [], cur := (0 : Nat), ctr := (1 : Nat), fn := (11 : Nat) })
  | .e1  => (Ex.exit (0 : Nat), { tmps := [AV.pv PV.undef, AV.pv PV.undef, AV.pv PV.undef, AV.own (525 : Nat), AV.pv PV.undef, AV.pv PV.undef, AV.pv PV.undef, AV.pv PV.undef, AV.pv PV.undef, AV.pv PV.undef, AV.pv PV.undef, AV.pv PV.undef, AV.pv PV.undef, AV.pv PV.undef, AV.pv PV.undef, AV.pv PV.undef, AV.pv PV.undef, AV.pv PV.undef, AV.pv PV.undef, AV.pv PV.undef, AV.pv PV.undef, AV.pv PV.undef, AV.pv PV.undef, AV.pv PV.undef, AV.pv PV.undef, AV.pv PV.undef, AV.pv PV.undef], stack := [], mem := [((525 : Nat), Ob.row (2 : Nat) (49 : Nat) [[PV.int IntKind.i64 (pInt ((x0.getD (Int.toNat (0 : Int)) []).headD PV.undef)), PV.int IntKind.i64 (pInt ((x0.getD (Int.toNat (0 : Int)) []).tail.headD PV.undef)), PV.int IntKind.i64 (pInt ((x0.getD (Int.toNat (0 : Int)) []).tail.tail.headD PV.undef))]])], cur := (0 : Nat), ctr := (1 : Nat), fn := (11 : Nat) })
  | .e2 y7 => (Ex.exit (0 : Nat), { tmps := [AV.pv PV.undef, AV.pv PV.undef, AV.pv PV.undef, AV.own (525 : Nat), AV.pv PV.undef, AV.pv PV.undef, AV.pv PV.undef, AV.pv PV.undef, AV.pv PV.undef, AV.pv PV.undef, AV.pv PV.undef, AV.pv PV.undef, AV.pv PV.undef, AV.pv PV.undef, AV.pv PV.undef, AV.pv PV.undef, AV.pv PV.undef, AV.pv PV.undef, AV.pv PV.undef, AV.pv PV.undef, AV.pv PV.undef, AV.pv PV.undef, AV.pv PV.undef, AV.pv PV.undef, AV.pv PV.undef, AV.pv PV.undef, AV.pv PV.undef], stack := [], mem := [((525 : Nat), Ob.row (1 : Nat) (49 : Nat) y7)], cur := (0 : Nat), ctr := (1 : Nat), fn := (11 : Nat) })
noncomputable def f11L0it8 (x0 : List (List PV)) : Tr (f11L0s ⊕ f11L0e) := (.test (decide ((0 : Int) < (↑x0.length : Int))) (.test (decide ((0 : Int) ≤ (0 : Int)) && decide ((0 : Int) < (↑x0.length : Int))) (.test (decide ((0 : Int) ≤ (0 : Int)) && decide ((0 : Int) < (↑x0.length : Int))) (.ret (.inl (.s1))) .fail) .fail) (.ret (.inr (.e0))))
noncomputable def f11L0it9 (x0 : List (List PV)) : Tr (f11L0s ⊕ f11L0e) := (.test (decide ((1 : Int) < (↑x0.length : Int))) (.test (decide ((0 : Int) ≤ (1 : Int)) && decide ((1 : Int) < (↑x0.length : Int))) (.test (decide ((0 : Int) ≤ (1 : Int)) && decide ((1 : Int) < (↑x0.length : Int))) (.ret (.inl (.s2 ((2 : Int)) ([[PV.int IntKind.i64 (pInt ((x0.getD (Int.toNat (0 : Int)) []).headD PV.undef)), PV.int IntKind.i64 (pInt ((x0.getD (Int.toNat (0 : Int)) []).tail.headD PV.undef)), PV.int IntKind.i64 (pInt ((x0.getD (Int.toNat (0 : Int)) []).tail.tail.headD PV.undef))], [PV.int IntKind.i64 (pInt ((x0.getD (Int.toNat (1 : Int)) []).headD PV.undef)), PV.int IntKind.i64 (pInt ((x0.getD (Int.toNat (1 : Int)) []).tail.headD PV.undef)), PV.int IntKind.i64 (pInt ((x0.getD (Int.toNat (1 : Int)) []).tail.tail.headD PV.undef))]])))) .fail) .fail) (.ret (.inr (.e1))))
noncomputable def f11L0it12 (x0 : List (List PV)) (z10 : Int) (z11 : List (List PV)) : Tr (f11L0s ⊕ f11L0e) := (.test (decide (z10 < (↑x0.length : Int))) (.test (decide ((0 : Int) ≤ z10) && decide (z10 < (↑x0.length : Int))) (.test (decide ((0 : Int) ≤ z10) && decide (z10 < (↑x0.length : Int))) (.test (decide (z11.length + [[PV.int IntKind.i64 (pInt ((x0.getD z10.toNat []).headD PV.undef)), PV.int IntKind.i64 (pInt ((x0.getD z10.toNat []).tail.headD PV.undef)), PV.int IntKind.i64 (pInt ((x0.getD z10.toNat []).tail.tail.headD PV.undef))]].length ≤ most)) (.ret (.inl (.s2 (IntKind.i64.wrap (z10 + (1 : Int))) (z11 ++ [[PV.int IntKind.i64 (pInt ((x0.getD z10.toNat []).headD PV.undef)), PV.int IntKind.i64 (pInt ((x0.getD z10.toNat []).tail.headD PV.undef)), PV.int IntKind.i64 (pInt ((x0.getD z10.toNat []).tail.tail.headD PV.undef))]])))) .fail) .fail) .fail) (.ret (.inr (.e2 (z11)))))
noncomputable def f11L0r (N : Nat) (x0 : List (List PV)) : f11L0s → Option (f11L0s ⊕ f11L0e)
  | .s0  => Tr.run (f11L0it8 x0)
  | .s1  => Tr.run (f11L0it9 x0)
  | .s2 z10 z11 => Tr.run (f11L0it12 x0 z10 z11)
theorem f11L0_step (N : Nat) (x0 : List (List PV)) : ∀ x, (roundAt (E1 N) (94 : Nat) (11 : Nat) (1 : Nat) (f11L0c N x0) (f11L0S x0 x)).run = (f11L0r N x0 x).map (sumMap (f11L0S x0) (f11L0T x0))
  | .s0  => (Tr.run_of (g := (f11L0it8 x0)) (f := (sumMap (f11L0S x0) (f11L0T x0))) (by kernel_rfl))
  | .s1  => (Tr.run_of (g := (f11L0it9 x0)) (f := (sumMap (f11L0S x0) (f11L0T x0))) (by kernel_rfl))
  | .s2 z10 z11 => (Tr.run_of (g := (f11L0it12 x0 z10 z11)) (f := (sumMap (f11L0S x0) (f11L0T x0))) (by kernel_rfl))
noncomputable def f11t13 (x0 : List (List PV)) : Tr f11o := (.ret (.r1 ([[PV.int IntKind.i64 (pInt ((x0.getD (Int.toNat (0 : Int)) []).headD PV.undef)), PV.int IntKind.i64 (pInt ((x0.getD (Int.toNat (0 : Int)) []).tail.headD PV.undef)), PV.int IntKind.i64 (pInt ((x0.getD (Int.toNat (0 : Int)) []).tail.tail.headD PV.undef))]])))
noncomputable def f11 (N : Nat) (x0 : List (List PV)) : Option f11o := ((loopN (f11L0r N x0) N (.s0)).bind (fun
    | .e0  => Tr.run (.ret (.r0 ([])))
    | .e1  => Tr.run (f11t13 x0)
    | .e2 w14 => Tr.run (.ret (.r0 (w14)))))
theorem f11_run (N : Nat) (x0 : List (List PV)) : (evFit f11rs (evRes (E1 N) (100 : Nat) (11 : Nat) [PV.list (44 : Nat) x0])).run = (f11 N x0).map f11W := (wait_run (wrap := f11W) (E := E1 N) (n := (94 : Nat)) (f := (11 : Nat)) (c0 := (1 : Nat)) (c := (f11L0c N x0)) (s := Tr.waitS (evFit f11rs (evRes (E1 N) (100 : Nat) (11 : Nat) [PV.list (44 : Nat) x0]))) (f11L0S x0) (f11L0T x0) (f11L0r N x0) (.s0) _ (f11L0_step N x0) (by kernel_rfl) (by kernel_rfl) (by kernel_rfl) (by kernel_rfl) (by kernel_rfl) (fun
    | .e0  => (Tr.run_of (g := (.ret (.r0 ([])))) (f := f11W) (by kernel_rfl))
    | .e1  => (Tr.run_of (g := (f11t13 x0)) (f := f11W) (by kernel_rfl))
    | .e2 w14 => (Tr.run_of (g := (.ret (.r0 (w14)))) (f := f11W) (by kernel_rfl))))
inductive f13o where
  | r0 (y14 : List (List PV))
  | r1 (y15 : List (List PV))
noncomputable def f13W  : f13o → Res
  | .r0 y14 => Res.pv (PV.list (49 : Nat) y14)
  | .r1 y15 => Res.fresh (49 : Nat) y15
def f13rs : List PK := [(false, [K.list 49])]
noncomputable def f13L0c (N : Nat) (x0 : List (List PV)) : Code := Tr.waitC (evFit f13rs (evRes (E1 N) (100 : Nat) (13 : Nat) [PV.list (25 : Nat) x0]))
inductive f13L0s where
  | s0 
  | s1 
  | s2 (y5 : Int) (y6 : List (List PV))
noncomputable def f13L0S (x0 : List (List PV)) : f13L0s → St
  | .s0  => { tmps := [AV.pv (PV.list (25 : Nat) x0), AV.pv PV.undef, AV.pv PV.undef, AV.lit (49 : Nat) [], AV.pv (PV.int IntKind.i64 (0 : Int)), AV.pv PV.undef, AV.pv PV.undef, AV.pv PV.undef, AV.pv PV.undef, AV.pv PV.undef, AV.pv PV.undef, AV.pv PV.undef, AV.pv PV.undef, AV.pv PV.undef, AV.pv PV.undef, AV.pv PV.undef, AV.pv PV.undef, AV.pv PV.undef, AV.pv PV.undef], stack := [], mem := [], cur := (0 : Nat), ctr := (1 : Nat), fn := (13 : Nat) }
  | .s1  => { tmps := [AV.pv (PV.list (25 : Nat) x0), AV.pv PV.undef, AV.pv PV.undef, AV.own (517 : Nat), AV.pv (PV.int IntKind.i64 (1 : Int)), AV.pv PV.undef, AV.pv PV.undef, AV.pv PV.undef, AV.pv PV.undef, AV.pv PV.undef, AV.pv PV.undef, AV.pv PV.undef, AV.pv PV.undef, AV.pv PV.undef, AV.pv PV.undef, AV.pv PV.undef, AV.pv PV.undef, AV.pv PV.undef, AV.pv PV.undef], stack := [], mem := [((517 : Nat), Ob.row (2 : Nat) (49 : Nat) (pList ((x0.getD (Int.toNat (0 : Int)) []).headD PV.undef)))], cur := (0 : Nat), ctr := (1 : Nat), fn := (13 : Nat) }
  | .s2 y5 y6 => { tmps := [AV.pv (PV.list (25 : Nat) x0), AV.pv PV.undef, AV.pv PV.undef, AV.own (517 : Nat), AV.pv (PV.int IntKind.i64 y5), AV.pv PV.undef, AV.pv PV.undef, AV.pv PV.undef, AV.pv PV.undef, AV.pv PV.undef, AV.pv PV.undef, AV.pv PV.undef, AV.pv PV.undef, AV.pv PV.undef, AV.pv PV.undef, AV.pv PV.undef, AV.pv PV.undef, AV.pv PV.undef, AV.pv PV.undef], stack := [], mem := [((517 : Nat), Ob.row (1 : Nat) (49 : Nat) y6)], cur := (0 : Nat), ctr := (1 : Nat), fn := (13 : Nat) }
inductive f13L0e where
  | e0 
  | e1 
  | e2 (y7 : List (List PV))
noncomputable def f13L0T (x0 : List (List PV)) : f13L0e → (Ex × St)
  | .e0  => (Ex.exit (0 : Nat), { tmps := [AV.pv PV.undef, AV.pv PV.undef, AV.pv PV.undef, AV.lit (49 : Nat) [], AV.pv PV.undef, AV.pv PV.undef, AV.pv PV.undef, AV.pv PV.undef, AV.pv PV.undef, AV.pv PV.undef, AV.pv PV.undef, AV.pv PV.undef, AV.pv PV.undef, AV.pv PV.undef, AV.pv PV.undef, AV.pv PV.undef, AV.pv PV.undef, AV.pv PV.undef, AV.pv PV.undef], stack := [], mem := [], cur := (0 : Nat), ctr := (1 : Nat), fn := (13 : Nat) })
  | .e1  => (Ex.exit (0 : Nat), { tmps := [AV.pv PV.undef, AV.pv PV.undef, AV.pv PV.undef, AV.own (517 : Nat), AV.pv PV.undef, AV.pv PV.undef, AV.pv PV.undef, AV.pv PV.undef, AV.pv PV.undef, AV.pv PV.undef, AV.pv PV.undef, AV.pv PV.undef, AV.pv PV.undef, AV.pv PV.undef, AV.pv PV.undef, AV.pv PV.undef, AV.pv PV.undef, AV.pv PV.undef, AV.pv PV.undef], stack := [], mem := [((517 : Nat), Ob.row (2 : Nat) (49 : Nat) (pList ((x0.getD (Int.toNat (0 : Int)) []).headD PV.undef)))], cur := (0 : Nat), ctr := (1 : Nat), fn := (13 : Nat) })
  | .e2 y7 => (Ex.exit (0 : Nat), { tmps := [AV.pv PV.undef, AV.pv PV.undef, AV.pv PV.undef, AV.own (517 : Nat), AV.pv PV.undef, AV.pv PV.undef, AV.pv PV.undef, AV.pv PV.undef, AV.pv PV.undef, AV.pv PV.undef, AV.pv PV.undef, AV.pv PV.undef, AV.pv PV.undef, AV.pv PV.undef, AV.pv PV.undef, AV.pv PV.undef, AV.pv PV.undef, AV.pv PV.undef, AV.pv PV.undef], stack := [], mem := [((517 : Nat), Ob.row (1 : Nat) (49 : Nat) y7)], cur := (0 : Nat), ctr := (1 : Nat), fn := (13 : Nat) })
noncomputable def f13L0it8 (x0 : List (List PV)) : Tr (f13L0s ⊕ f13L0e) := (.test (decide ((0 : Int) < (↑x0.length : Int))) (.test (decide ((0 : Int) ≤ (0 : Int)) && decide ((0 : Int) < (↑x0.length : Int))) (.test (decide ((pList ((x0.getD (Int.toNat (0 : Int)) []).headD PV.undef)).length ≤ most)) (.ret (.inl (.s1))) .fail) .fail) (.ret (.inr (.e0))))
noncomputable def f13L0it9 (x0 : List (List PV)) : Tr (f13L0s ⊕ f13L0e) := (.test (decide ((1 : Int) < (↑x0.length : Int))) (.test (decide ((0 : Int) ≤ (1 : Int)) && decide ((1 : Int) < (↑x0.length : Int))) (.test (decide ((pList ((x0.getD (Int.toNat (0 : Int)) []).headD PV.undef)).length + (pList ((x0.getD (Int.toNat (1 : Int)) []).headD PV.undef)).length ≤ most)) (.ret (.inl (.s2 ((2 : Int)) (pList ((x0.getD (Int.toNat (0 : Int)) []).headD PV.undef) ++ pList ((x0.getD (Int.toNat (1 : Int)) []).headD PV.undef))))) .fail) .fail) (.ret (.inr (.e1))))
noncomputable def f13L0it12 (x0 : List (List PV)) (z10 : Int) (z11 : List (List PV)) : Tr (f13L0s ⊕ f13L0e) := (.test (decide (z10 < (↑x0.length : Int))) (.test (decide ((0 : Int) ≤ z10) && decide (z10 < (↑x0.length : Int))) (.test (decide (z11.length + (pList ((x0.getD z10.toNat []).headD PV.undef)).length ≤ most)) (.ret (.inl (.s2 (IntKind.i64.wrap (z10 + (1 : Int))) (z11 ++ pList ((x0.getD z10.toNat []).headD PV.undef))))) .fail) .fail) (.ret (.inr (.e2 (z11)))))
noncomputable def f13L0r (N : Nat) (x0 : List (List PV)) : f13L0s → Option (f13L0s ⊕ f13L0e)
  | .s0  => Tr.run (f13L0it8 x0)
  | .s1  => Tr.run (f13L0it9 x0)
  | .s2 z10 z11 => Tr.run (f13L0it12 x0 z10 z11)
theorem f13L0_step (N : Nat) (x0 : List (List PV)) : ∀ x, (roundAt (E1 N) (94 : Nat) (13 : Nat) (1 : Nat) (f13L0c N x0) (f13L0S x0 x)).run = (f13L0r N x0 x).map (sumMap (f13L0S x0) (f13L0T x0))
  | .s0  => (Tr.run_of (g := (f13L0it8 x0)) (f := (sumMap (f13L0S x0) (f13L0T x0))) (by kernel_rfl))
  | .s1  => (Tr.run_of (g := (f13L0it9 x0)) (f := (sumMap (f13L0S x0) (f13L0T x0))) (by kernel_rfl))
  | .s2 z10 z11 => (Tr.run_of (g := (f13L0it12 x0 z10 z11)) (f := (sumMap (f13L0S x0) (f13L0T x0))) (by kernel_rfl))
noncomputable def f13 (N : Nat) (x0 : List (List PV)) : Option f13o := ((loopN (f13L0r N x0) N (.s0)).bind (fun
    | .e0  => Tr.run (.ret (.r0 ([])))
    | .e1  => Tr.run (.ret (.r1 (pList ((x0.getD (Int.toNat (0 : Int)) []).headD PV.undef))))
    | .e2 w13 => Tr.run (.ret (.r0 (w13)))))
theorem f13_run (N : Nat) (x0 : List (List PV)) : (evFit f13rs (evRes (E1 N) (100 : Nat) (13 : Nat) [PV.list (25 : Nat) x0])).run = (f13 N x0).map f13W := (wait_run (wrap := f13W) (E := E1 N) (n := (94 : Nat)) (f := (13 : Nat)) (c0 := (1 : Nat)) (c := (f13L0c N x0)) (s := Tr.waitS (evFit f13rs (evRes (E1 N) (100 : Nat) (13 : Nat) [PV.list (25 : Nat) x0]))) (f13L0S x0) (f13L0T x0) (f13L0r N x0) (.s0) _ (f13L0_step N x0) (by kernel_rfl) (by kernel_rfl) (by kernel_rfl) (by kernel_rfl) (by kernel_rfl) (fun
    | .e0  => (Tr.run_of (g := (.ret (.r0 ([])))) (f := f13W) (by kernel_rfl))
    | .e1  => (Tr.run_of (g := (.ret (.r1 (pList ((x0.getD (Int.toNat (0 : Int)) []).headD PV.undef))))) (f := f13W) (by kernel_rfl))
    | .e2 w13 => (Tr.run_of (g := (.ret (.r0 (w13)))) (f := f13W) (by kernel_rfl))))
structure f14o where
  r0 ::
  (y1 : List (List PV))
noncomputable def f14W (o : f14o) : Res := (fun y1 => Res.fresh (44 : Nat) y1) o.y1
def f14rs : List PK := [(false, [K.list 44])]
noncomputable def f14t0 (x0 : List (List PV)) (x1 : Int) : Tr f14o := (.test (decide ((0 : Int) ≤ (↑(0 : Nat) : Int)) && decide ((↑(0 : Nat) : Int) ≤ if (0 : Int) < if (↑x0.length : Int) < x1 then (↑x0.length : Int) else x1 then if (↑x0.length : Int) < x1 then (↑x0.length : Int) else x1 else (0 : Int)) && decide ((if (0 : Int) < if (↑x0.length : Int) < x1 then (↑x0.length : Int) else x1 then if (↑x0.length : Int) < x1 then (↑x0.length : Int) else x1 else (0 : Int)) ≤ (↑x0.length : Int))) (.test (decide ((List.drop (↑(0 : Nat) : Int).toNat (List.take (if (0 : Int) < if (↑x0.length : Int) < x1 then (↑x0.length : Int) else x1 then if (↑x0.length : Int) < x1 then (↑x0.length : Int) else x1 else (0 : Int)).toNat x0)).length ≤ most)) (.ret (.r0 (List.drop (↑(0 : Nat) : Int).toNat (List.take (if (0 : Int) < if (↑x0.length : Int) < x1 then (↑x0.length : Int) else x1 then if (↑x0.length : Int) < x1 then (↑x0.length : Int) else x1 else (0 : Int)).toNat x0)))) .fail) .fail)
noncomputable def f14 (N : Nat) (x0 : List (List PV)) (x1 : Int) : Option f14o := Tr.run (f14t0 x0 x1)
theorem f14_run (N : Nat) (x0 : List (List PV)) (x1 : Int) : (evFit f14rs (evRes (E1 N) (100 : Nat) (14 : Nat) [PV.list (44 : Nat) x0, PV.int IntKind.i64 x1])).run = (f14 N x0 x1).map f14W := (Tr.run_of (g := (f14t0 x0 x1)) (f := f14W) (by kernel_rfl))
def f14s : List PK := [(false, [K.list 44]), (false, [K.int .i64])]
noncomputable def f14a (ps : List PV) : Option f14o := f14 0 (pList (ps.headD PV.undef)) (pInt (ps.tail.headD PV.undef))
noncomputable def f14d : f14o := ⟨[]⟩
noncomputable def f14O : Ora := ⟨fun ps => okPs f14s ps && (f14a ps).isSome, fun ps => (f14W ((f14a ps).getD f14d)).plain⟩
theorem f14_spec : Spec Try.prog 14 f14O := spec_fit 100 f14rs f14s (fun ps => (f14a ps).isSome) _ mixed fun ps hm hs hp => by
  cases h : f14a ps with
  | none => rw [h] at hp; cases hp
  | some o =>

    refine ⟨E1 0, f14W o, rfl, E1_ok 0, ?_, .inr ?_⟩
    · rw [show canPs f14s ps = [PV.list 44 (pList (ps.headD PV.undef)), PV.int IntKind.i64 (pInt (ps.tail.headD PV.undef))] from by kernel_rfl, f14_run 0]
      show (f14a ps).map f14W = _
      rw [h]; rfl
    · rfl
inductive f15o where
  | r0 (y15 : List (List PV))
  | r1 (y16 : List (List PV))
noncomputable def f15W  : f15o → Res
  | .r0 y15 => Res.pv (PV.list (49 : Nat) y15)
  | .r1 y16 => Res.fresh (49 : Nat) y16
def f15rs : List PK := [(false, [K.list 49])]
noncomputable def f15L0c (N : Nat) (x0 : List (List PV)) (x1 : Int) : Code := Tr.waitC (evFit f15rs (evRes (E1 N) (100 : Nat) (15 : Nat) [PV.list (49 : Nat) x0, PV.int IntKind.i64 x1]))
inductive f15L0s where
  | s0 
  | s1 
  | s2 (y5 : Int) (y6 : List (List PV))
noncomputable def f15L0S (x0 : List (List PV)) (x1 : Int) : f15L0s → St
  | .s0  => { tmps := [AV.pv (PV.list (49 : Nat) x0), AV.pv (PV.int IntKind.i64 x1), AV.pv PV.undef, AV.pv PV.undef, AV.pv PV.undef, AV.lit (49 : Nat) [], AV.pv (PV.int IntKind.i64 (0 : Int)), AV.pv PV.undef, AV.pv PV.undef, AV.pv PV.undef, AV.pv PV.undef, AV.pv PV.undef, AV.pv PV.undef, AV.pv PV.undef, AV.pv PV.undef, AV.pv PV.undef, AV.pv PV.undef, AV.pv PV.undef, AV.pv PV.undef, AV.pv PV.undef, AV.pv PV.undef, AV.pv PV.undef, AV.pv PV.undef, AV.pv PV.undef, AV.pv PV.undef, AV.pv PV.undef, AV.pv PV.undef], stack := [], mem := [], cur := (0 : Nat), ctr := (1 : Nat), fn := (15 : Nat) }
  | .s1  => { tmps := [AV.pv (PV.list (49 : Nat) x0), AV.pv (PV.int IntKind.i64 x1), AV.pv PV.undef, AV.pv PV.undef, AV.pv PV.undef, AV.own (525 : Nat), AV.pv (PV.int IntKind.i64 (1 : Int)), AV.pv PV.undef, AV.pv PV.undef, AV.pv PV.undef, AV.pv PV.undef, AV.pv PV.undef, AV.pv PV.undef, AV.pv PV.undef, AV.pv PV.undef, AV.pv PV.undef, AV.pv PV.undef, AV.pv PV.undef, AV.pv PV.undef, AV.pv PV.undef, AV.pv PV.undef, AV.pv PV.undef, AV.pv PV.undef, AV.pv PV.undef, AV.pv PV.undef, AV.pv PV.undef, AV.pv PV.undef], stack := [], mem := [((525 : Nat), Ob.row (2 : Nat) (49 : Nat) [[PV.int IntKind.i64 (pInt ((x0.getD (Int.toNat (0 : Int)) []).headD PV.undef)), PV.int IntKind.i64 (pInt ((x0.getD (Int.toNat (0 : Int)) []).tail.headD PV.undef)), PV.int IntKind.i64 (pInt ((x0.getD (Int.toNat (0 : Int)) []).tail.tail.headD PV.undef))]])], cur := (0 : Nat), ctr := (1 : Nat), fn := (15 : Nat) }
  | .s2 y5 y6 => { tmps := [AV.pv (PV.list (49 : Nat) x0), AV.pv (PV.int IntKind.i64 x1), AV.pv PV.undef, AV.pv PV.undef, AV.pv PV.undef, AV.own (525 : Nat), AV.pv (PV.int IntKind.i64 y5), AV.pv PV.undef, AV.pv PV.undef, AV.pv PV.undef, AV.pv PV.undef, AV.pv PV.undef, AV.pv PV.undef, AV.pv PV.undef, AV.pv PV.undef, AV.pv PV.undef, AV.pv PV.undef, AV.pv PV.undef, AV.pv PV.undef, AV.pv PV.undef, AV.pv PV.undef, AV.pv PV.undef, AV.pv PV.undef, AV.pv PV.undef, AV.pv PV.undef, AV.pv PV.undef, AV.pv PV.undef], stack := [], mem := [((525 : Nat), Ob.row (1 : Nat) (49 : Nat) y6)], cur := (0 : Nat), ctr := (1 : Nat), fn := (15 : Nat) }
inductive f15L0e where
  | e0 
  | e1 
  | e2 (y7 : List (List PV))
noncomputable def f15L0T (x0 : List (List PV)) (x1 : Int) : f15L0e → (Ex × St)
  | .e0  => (Ex.exit (0 : Nat), { tmps := [AV.pv PV.undef, AV.pv PV.undef, AV.pv PV.undef, AV.pv PV.undef, AV.pv PV.undef, AV.lit (49 : Nat) [], AV.pv PV.undef, AV.pv PV.undef, AV.pv PV.undef, AV.pv PV.undef, AV.pv PV.undef, AV.pv PV.undef, AV.pv PV.undef, AV.pv PV.undef, AV.pv PV.undef, AV.pv PV.undef, AV.pv PV.undef, AV.pv PV.undef, AV.pv PV.undef, AV.pv PV.undef, AV.pv PV.undef, AV.pv PV.undef, AV.pv PV.undef, AV.pv PV.undef, AV.pv PV.undef, AV.pv PV.undef, AV.pv PV.undef], stack := [], mem := [], cur := (0 : Nat), ctr := (1 : Nat), fn := (15 : Nat) })
  | .e1  => (Ex.exit (0 : Nat), { tmps := [AV.pv PV.undef, AV.pv PV.undef, AV.pv PV.undef, AV.pv PV.undef, AV.pv PV.undef, AV.own (525 : Nat), AV.pv PV.undef, AV.pv PV.undef, AV.pv PV.undef, AV.pv PV.undef, AV.pv PV.undef, AV.pv PV.undef, AV.pv PV.undef, AV.pv PV.undef, AV.pv PV.undef, AV.pv PV.undef, AV.pv PV.undef, AV.pv PV.undef, AV.pv PV.undef, AV.pv PV.undef, AV.pv PV.undef, AV.pv PV.undef, AV.pv PV.undef, AV.pv PV.undef, AV.pv PV.undef, AV.pv PV.undef, AV.pv PV.undef], stack := [], mem := [((525 : Nat), Ob.row (2 : Nat) (49 : Nat) [[PV.int IntKind.i64 (pInt ((x0.getD (Int.toNat (0 : Int)) []).headD PV.undef)), PV.int IntKind.i64 (pInt ((x0.getD (Int.toNat (0 : Int)) []).tail.headD PV.undef)), PV.int IntKind.i64 (pInt ((x0.getD (Int.toNat (0 : Int)) []).tail.tail.headD PV.undef))]])], cur := (0 : Nat), ctr := (1 : Nat), fn := (15 : Nat) })
  | .e2 y7 => (Ex.exit (0 : Nat), { tmps := [AV.pv PV.undef, AV.pv PV.undef, AV.pv PV.undef, AV.pv PV.undef, AV.pv PV.undef, AV.own (525 : Nat), AV.pv PV.undef, AV.pv PV.undef, AV.pv PV.undef, AV.pv PV.undef, AV.pv PV.undef, AV.pv PV.undef, AV.pv PV.undef, AV.pv PV.undef, AV.pv PV.undef, AV.pv PV.undef, AV.pv PV.undef, AV.pv PV.undef, AV.pv PV.undef, AV.pv PV.undef, AV.pv PV.undef, AV.pv PV.undef, AV.pv PV.undef, AV.pv PV.undef, AV.pv PV.undef, AV.pv PV.undef, AV.pv PV.undef], stack := [], mem := [((525 : Nat), Ob.row (1 : Nat) (49 : Nat) y7)], cur := (0 : Nat), ctr := (1 : Nat), fn := (15 : Nat) })
noncomputable def f15L0it8 (x0 : List (List PV)) (x1 : Int) : Tr (f15L0s ⊕ f15L0e) := (.test (decide ((0 : Int) < (↑x0.length : Int))) (.test (decide ((0 : Int) < x1)) (.test (decide ((0 : Int) ≤ (0 : Int)) && decide ((0 : Int) < (↑x0.length : Int))) (.ret (.inl (.s1))) .fail) (.ret (.inr (.e0)))) (.ret (.inr (.e0))))
noncomputable def f15L0it9 (x0 : List (List PV)) (x1 : Int) : Tr (f15L0s ⊕ f15L0e) := (.test (decide ((1 : Int) < (↑x0.length : Int))) (.test (decide ((1 : Int) < x1)) (.test (decide ((0 : Int) ≤ (1 : Int)) && decide ((1 : Int) < (↑x0.length : Int))) (.ret (.inl (.s2 ((2 : Int)) ([[PV.int IntKind.i64 (pInt ((x0.getD (Int.toNat (0 : Int)) []).headD PV.undef)), PV.int IntKind.i64 (pInt ((x0.getD (Int.toNat (0 : Int)) []).tail.headD PV.undef)), PV.int IntKind.i64 (pInt ((x0.getD (Int.toNat (0 : Int)) []).tail.tail.headD PV.undef))], [PV.int IntKind.i64 (pInt ((x0.getD (Int.toNat (1 : Int)) []).headD PV.undef)), PV.int IntKind.i64 (pInt ((x0.getD (Int.toNat (1 : Int)) []).tail.headD PV.undef)), PV.int IntKind.i64 (pInt ((x0.getD (Int.toNat (1 : Int)) []).tail.tail.headD PV.undef))]])))) .fail) (.ret (.inr (.e1)))) (.ret (.inr (.e1))))
noncomputable def f15L0it12 (x0 : List (List PV)) (x1 : Int) (z10 : Int) (z11 : List (List PV)) : Tr (f15L0s ⊕ f15L0e) := (.test (decide (z10 < (↑x0.length : Int))) (.test (decide (z10 < x1)) (.test (decide ((0 : Int) ≤ z10) && decide (z10 < (↑x0.length : Int))) (.test (decide (z11.length + [[PV.int IntKind.i64 (pInt ((x0.getD z10.toNat []).headD PV.undef)), PV.int IntKind.i64 (pInt ((x0.getD z10.toNat []).tail.headD PV.undef)), PV.int IntKind.i64 (pInt ((x0.getD z10.toNat []).tail.tail.headD PV.undef))]].length ≤ most)) (.ret (.inl (.s2 (IntKind.i64.wrap (z10 + (1 : Int))) (z11 ++ [[PV.int IntKind.i64 (pInt ((x0.getD z10.toNat []).headD PV.undef)), PV.int IntKind.i64 (pInt ((x0.getD z10.toNat []).tail.headD PV.undef)), PV.int IntKind.i64 (pInt ((x0.getD z10.toNat []).tail.tail.headD PV.undef))]])))) .fail) .fail) (.ret (.inr (.e2 (z11))))) (.ret (.inr (.e2 (z11)))))
noncomputable def f15L0r (N : Nat) (x0 : List (List PV)) (x1 : Int) : f15L0s → Option (f15L0s ⊕ f15L0e)
  | .s0  => Tr.run (f15L0it8 x0 x1)
  | .s1  => Tr.run (f15L0it9 x0 x1)
  | .s2 z10 z11 => Tr.run (f15L0it12 x0 x1 z10 z11)
theorem f15L0_step (N : Nat) (x0 : List (List PV)) (x1 : Int) : ∀ x, (roundAt (E1 N) (94 : Nat) (15 : Nat) (1 : Nat) (f15L0c N x0 x1) (f15L0S x0 x1 x)).run = (f15L0r N x0 x1 x).map (sumMap (f15L0S x0 x1) (f15L0T x0 x1))
  | .s0  => (Tr.run_of (g := (f15L0it8 x0 x1)) (f := (sumMap (f15L0S x0 x1) (f15L0T x0 x1))) (by kernel_rfl))
  | .s1  => (Tr.run_of (g := (f15L0it9 x0 x1)) (f := (sumMap (f15L0S x0 x1) (f15L0T x0 x1))) (by kernel_rfl))
  | .s2 z10 z11 => (Tr.run_of (g := (f15L0it12 x0 x1 z10 z11)) (f := (sumMap (f15L0S x0 x1) (f15L0T x0 x1))) (by kernel_rfl))
noncomputable def f15t13 (x0 : List (List PV)) (x1 : Int) : Tr f15o := (.ret (.r1 ([[PV.int IntKind.i64 (pInt ((x0.getD (Int.toNat (0 : Int)) []).headD PV.undef)), PV.int IntKind.i64 (pInt ((x0.getD (Int.toNat (0 : Int)) []).tail.headD PV.undef)), PV.int IntKind.i64 (pInt ((x0.getD (Int.toNat (0 : Int)) []).tail.tail.headD PV.undef))]])))
noncomputable def f15 (N : Nat) (x0 : List (List PV)) (x1 : Int) : Option f15o := ((loopN (f15L0r N x0 x1) N (.s0)).bind (fun
    | .e0  => Tr.run (.ret (.r0 ([])))
    | .e1  => Tr.run (f15t13 x0 x1)
    | .e2 w14 => Tr.run (.ret (.r0 (w14)))))
theorem f15_run (N : Nat) (x0 : List (List PV)) (x1 : Int) : (evFit f15rs (evRes (E1 N) (100 : Nat) (15 : Nat) [PV.list (49 : Nat) x0, PV.int IntKind.i64 x1])).run = (f15 N x0 x1).map f15W := (wait_run (wrap := f15W) (E := E1 N) (n := (94 : Nat)) (f := (15 : Nat)) (c0 := (1 : Nat)) (c := (f15L0c N x0 x1)) (s := Tr.waitS (evFit f15rs (evRes (E1 N) (100 : Nat) (15 : Nat) [PV.list (49 : Nat) x0, PV.int IntKind.i64 x1]))) (f15L0S x0 x1) (f15L0T x0 x1) (f15L0r N x0 x1) (.s0) _ (f15L0_step N x0 x1) (by kernel_rfl) (by kernel_rfl) (by kernel_rfl) (by kernel_rfl) (by kernel_rfl) (fun
    | .e0  => (Tr.run_of (g := (.ret (.r0 ([])))) (f := f15W) (by kernel_rfl))
    | .e1  => (Tr.run_of (g := (f15t13 x0 x1)) (f := f15W) (by kernel_rfl))
    | .e2 w14 => (Tr.run_of (g := (.ret (.r0 (w14)))) (f := f15W) (by kernel_rfl))))
structure f18o where
  r0 ::
  (y6 : Bool)
noncomputable def f18W (o : f18o) : Res := (fun y6 => Res.pv (PV.bool y6)) o.y6
noncomputable def f18L0c (N : Nat) (x0 : List (List PV)) (x1 : List (List PV)) : Code := Tr.waitC (Tr.sub [false] (Tr.sub [false] (evRes (E1 N) (100 : Nat) (18 : Nat) [PV.list (3 : Nat) x0, PV.list (3 : Nat) x1])))
inductive f18L0s where
  | s0 (y3 : Int)
noncomputable def f18L0S (x0 : List (List PV)) (x1 : List (List PV)) : f18L0s → St
  | .s0 y3 => { tmps := [AV.pv (PV.list (3 : Nat) x0), AV.pv (PV.list (3 : Nat) x1), AV.pv PV.undef, AV.pv PV.undef, AV.pv PV.undef, AV.pv (PV.int IntKind.i64 y3), AV.pv PV.undef, AV.pv PV.undef, AV.pv PV.undef, AV.pv PV.undef, AV.pv PV.undef, AV.pv PV.undef, AV.pv PV.undef, AV.pv PV.undef, AV.pv PV.undef, AV.pv PV.undef, AV.pv PV.undef, AV.pv PV.undef, AV.pv PV.undef, AV.pv PV.undef, AV.pv PV.undef, AV.pv PV.undef, AV.pv PV.undef, AV.pv PV.undef, AV.pv PV.undef, AV.pv PV.undef], stack := [], mem := [], cur := (0 : Nat), ctr := (1 : Nat), fn := (18 : Nat) }
inductive f18L0e where
  | e0 
  | e1 
noncomputable def f18L0T (x0 : List (List PV)) (x1 : List (List PV)) : f18L0e → (Ex × St)
  | .e0  => (Ex.ret, { tmps := [AV.pv PV.undef, AV.pv PV.undef, AV.pv PV.undef, AV.pv PV.undef, AV.pv (PV.bool false), AV.pv PV.undef, AV.pv PV.undef, AV.pv PV.undef, AV.pv PV.undef, AV.pv PV.undef, AV.pv PV.undef, AV.pv PV.undef, AV.pv PV.undef, AV.pv PV.undef, AV.pv PV.undef, AV.pv PV.undef, AV.pv PV.undef, AV.pv PV.undef, AV.pv PV.undef, AV.pv PV.undef, AV.pv PV.undef, AV.pv PV.undef, AV.pv PV.undef, AV.pv PV.undef, AV.pv PV.undef, AV.pv PV.undef], stack := [], mem := [], cur := (0 : Nat), ctr := (1 : Nat), fn := (18 : Nat) })
  | .e1  => (Ex.exit (0 : Nat), { tmps := [AV.pv PV.undef, AV.pv PV.undef, AV.pv PV.undef, AV.pv PV.undef, AV.pv PV.undef, AV.pv PV.undef, AV.pv PV.undef, AV.pv PV.undef, AV.pv PV.undef, AV.pv PV.undef, AV.pv PV.undef, AV.pv PV.undef, AV.pv PV.undef, AV.pv PV.undef, AV.pv PV.undef, AV.pv PV.undef, AV.pv PV.undef, AV.pv PV.undef, AV.pv PV.undef, AV.pv PV.undef, AV.pv PV.undef, AV.pv PV.undef, AV.pv PV.undef, AV.pv PV.undef, AV.pv PV.undef, AV.pv PV.undef], stack := [], mem := [], cur := (0 : Nat), ctr := (1 : Nat), fn := (18 : Nat) })
noncomputable def f18L0it5 (x0 : List (List PV)) (x1 : List (List PV)) (z4 : Int) : Tr (f18L0s ⊕ f18L0e) := (.test (decide (z4 < (↑x0.length : Int))) (.test (decide ((0 : Int) ≤ z4) && decide (z4 < (↑x0.length : Int))) (.test (decide ((0 : Int) ≤ z4) && decide (z4 < (↑x1.length : Int))) (.test (pInt ((x0.getD z4.toNat []).headD PV.undef) != pInt ((x1.getD z4.toNat []).headD PV.undef)) (.ret (.inr (.e0))) (.ret (.inl (.s0 (IntKind.i64.wrap (z4 + (1 : Int))))))) .fail) .fail) (.ret (.inr (.e1))))
noncomputable def f18L0r (N : Nat) (x0 : List (List PV)) (x1 : List (List PV)) : f18L0s → Option (f18L0s ⊕ f18L0e)
  | .s0 z4 => Tr.run (f18L0it5 x0 x1 z4)
theorem f18L0_step (N : Nat) (x0 : List (List PV)) (x1 : List (List PV)) : ∀ x, (roundAt (E1 N) (94 : Nat) (18 : Nat) (1 : Nat) (f18L0c N x0 x1) (f18L0S x0 x1 x)).run = (f18L0r N x0 x1 x).map (sumMap (f18L0S x0 x1) (f18L0T x0 x1))
  | .s0 z4 => (Tr.run_of (g := (f18L0it5 x0 x1 z4)) (f := (sumMap (f18L0S x0 x1) (f18L0T x0 x1))) (by kernel_rfl))
noncomputable def f18 (N : Nat) (x0 : List (List PV)) (x1 : List (List PV)) : Option f18o := (bif ((↑x0.length : Int) != (↑x1.length : Int)) then (Tr.run (.ret (.r0 (false)))) else ((loopN (f18L0r N x0 x1) N (.s0 ((0 : Int)))).bind (fun
    | .e0  => Tr.run (.ret (.r0 (false)))
    | .e1  => Tr.run (.ret (.r0 (true))))))
theorem f18_run (N : Nat) (x0 : List (List PV)) (x1 : List (List PV)) : (evRes (E1 N) (100 : Nat) (18 : Nat) [PV.list (3 : Nat) x0, PV.list (3 : Nat) x1]).run = (f18 N x0 x1).map f18W := (test_run (t := (evRes (E1 N) (100 : Nat) (18 : Nat) [PV.list (3 : Nat) x0, PV.list (3 : Nat) x1])) (b := (↑x0.length : Int) != (↑x1.length : Int)) (by kernel_rfl) (by kernel_rfl) (Tr.run_of (g := (.ret (.r0 (false)))) (f := f18W) (by kernel_rfl)) (skip_run [false] (by kernel_rfl) (wait_run (wrap := f18W) (E := E1 N) (n := (94 : Nat)) (f := (18 : Nat)) (c0 := (1 : Nat)) (c := (f18L0c N x0 x1)) (s := Tr.waitS (Tr.sub [false] (Tr.sub [false] (evRes (E1 N) (100 : Nat) (18 : Nat) [PV.list (3 : Nat) x0, PV.list (3 : Nat) x1])))) (f18L0S x0 x1) (f18L0T x0 x1) (f18L0r N x0 x1) (.s0 ((0 : Int))) _ (f18L0_step N x0 x1) (by kernel_rfl) (by kernel_rfl) (by kernel_rfl) (by kernel_rfl) (by kernel_rfl) (fun
    | .e0  => (Tr.run_of (g := (.ret (.r0 (false)))) (f := f18W) (by kernel_rfl))
    | .e1  => (Tr.run_of (g := (.ret (.r0 (true)))) (f := f18W) (by kernel_rfl))))))
structure f19o where
  r0 ::
  (y1 : Bool)
noncomputable def f19W (o : f19o) : Res := (fun y1 => Res.pv (PV.bool y1)) o.y1
noncomputable def f19t0 (x0 : S41) (x1 : Bool) : Tr f19o := (.test (x1) (.test (x0.a0 == (8 : Int)) (.ret (.r0 (true))) (.test (x0.a0 == (9 : Int)) (.ret (.r0 (decide (x0.a1 ≥ (0 : Int))))) (.ret (.r0 (false))))) (.test (decide (x0.a0 ≥ (1 : Int))) (.ret (.r0 (decide (x0.a0 ≤ (7 : Int))))) (.ret (.r0 (false)))))
noncomputable def f19 (N : Nat) (x0 : S41) (x1 : Bool) : Option f19o := Tr.run (f19t0 x0 x1)
theorem f19_run (N : Nat) (x0 : S41) (x1 : Bool) : (evRes (E1 N) (100 : Nat) (19 : Nat) [(S41v x0), PV.bool x1]).run = (f19 N x0 x1).map f19W := (Tr.run_of (g := (f19t0 x0 x1)) (f := f19W) (by kernel_rfl))
def f19s : List PK := [S41k, (false, [K.bool])]
noncomputable def f19a (ps : List PV) : Option f19o := f19 0 (S41r (ps.headD PV.undef)) (pBool (ps.tail.headD PV.undef))
noncomputable def f19d : f19o := ⟨false⟩
noncomputable def f19O : Ora := ⟨fun ps => okPs f19s ps && (f19a ps).isSome, fun ps => (f19W ((f19a ps).getD f19d)).plain⟩
theorem f19_spec : Spec Try.prog 19 f19O := spec_at 100 f19s (fun ps => (f19a ps).isSome) _ mixed fun ps hm hs hp => by
  cases h : f19a ps with
  | none => rw [h] at hp; cases hp
  | some o =>

    refine ⟨E1 0, f19W o, rfl, E1_ok 0, ?_, .inr ?_⟩
    · rw [show canPs f19s ps = [S41v (S41r (ps.headD PV.undef)), PV.bool (pBool (ps.tail.headD PV.undef))] from by kernel_rfl, f19_run 0]
      show (f19a ps).map f19W = _
      rw [h]; rfl
    · rfl
structure f26o where
  r0 ::
  (y1 : Int) (y2 : Bool)
noncomputable def f26W (o : f26o) : Res := (fun y1 y2 => Res.pv (PV.tup [PV.int IntKind.i64 y1, PV.bool y2])) o.y1 o.y2
noncomputable def f26t0 (x0 : S42) (x1 : Int) (x2 : Int) (x3 : Int) : Tr f26o := (.test (x0.a0 == (2 : Int)) (.ret (.r0 (IntKind.i64.wrap (x1 + IntKind.i64.wrap ((0 : Int) - x0.a1))) (true))) (.test (x0.a0 == (1 : Int)) (.ret (.r0 (IntKind.i64.wrap (x1 + x0.a1)) (true))) (.test (x0.a0 == (3 : Int)) (.ret (.r0 (IntKind.i64.wrap (↑(BitVec.ofInt IntKind.i64.bits x1 ||| BitVec.ofInt IntKind.i64.bits x0.a1).toNat : Int)) (true))) (.test (x0.a0 == (4 : Int)) (.ret (.r0 (IntKind.i64.wrap (↑(BitVec.ofInt IntKind.i64.bits x1 &&& BitVec.ofInt IntKind.i64.bits x0.a1).toNat : Int)) (true))) (.test (x0.a0 == (5 : Int)) (.ret (.r0 (if x0.a1 < x1 then x1 else x0.a1) (true))) (.test (x0.a0 == (6 : Int)) (.ret (.r0 (if x1 < x0.a1 then x1 else x0.a1) (true))) (.test (x0.a0 == (7 : Int)) (.ret (.r0 (x0.a1) (true))) (.test (x0.a0 == (9 : Int)) (.test (decide (x0.a1 < (0 : Int))) (.ret (.r0 (x1) (false))) (.test (decide (x1 < x2)) (.ret (.r0 (x1) (false))) (.test (decide (IntKind.i64.wrap (x1 - x0.a1) ≤ x1)) (.test (decide (IntKind.i64.wrap (x1 - x0.a1) ≥ x2)) (.ret (.r0 (IntKind.i64.wrap (x1 - x0.a1)) (true))) (.ret (.r0 (x2) (true)))) (.ret (.r0 (x2) (true)))))) (.test (x0.a0 == (8 : Int)) (.test (decide (x0.a1 ≥ (0 : Int))) (.test (decide (IntKind.i64.wrap (x1 + x0.a1) ≥ x1)) (.test (decide (IntKind.i64.wrap (x1 + x0.a1) < x2)) (.ret (.r0 (x1) (false))) (.test (!decide (IntKind.i64.wrap (x1 + x0.a1) > x3)) (.ret (.r0 (IntKind.i64.wrap (x1 + x0.a1)) (true))) (.ret (.r0 (x1) (false))))) (.test (decide (x0.a1 < (0 : Int))) (.test (decide (IntKind.i64.wrap (x1 + x0.a1) < x1)) (.test (decide (IntKind.i64.wrap (x1 + x0.a1) < x2)) (.ret (.r0 (x1) (false))) (.test (!decide (IntKind.i64.wrap (x1 + x0.a1) > x3)) (.ret (.r0 (IntKind.i64.wrap (x1 + x0.a1)) (true))) (.ret (.r0 (x1) (false))))) (.ret (.r0 (x1) (false)))) (.ret (.r0 (x1) (false))))) (.test (decide (x0.a1 < (0 : Int))) (.test (decide (IntKind.i64.wrap (x1 + x0.a1) < x1)) (.test (decide (IntKind.i64.wrap (x1 + x0.a1) < x2)) (.ret (.r0 (x1) (false))) (.test (!decide (IntKind.i64.wrap (x1 + x0.a1) > x3)) (.ret (.r0 (IntKind.i64.wrap (x1 + x0.a1)) (true))) (.ret (.r0 (x1) (false))))) (.ret (.r0 (x1) (false)))) (.ret (.r0 (x1) (false))))) (.ret (.r0 (x1) (false))))))))))))
noncomputable def f26 (N : Nat) (x0 : S42) (x1 : Int) (x2 : Int) (x3 : Int) : Option f26o := Tr.run (f26t0 x0 x1 x2 x3)
theorem f26_run (N : Nat) (x0 : S42) (x1 : Int) (x2 : Int) (x3 : Int) : (evRes (E1 N) (100 : Nat) (26 : Nat) [(S42v x0), PV.int IntKind.i64 x1, PV.int IntKind.i64 x2, PV.int IntKind.i64 x3]).run = (f26 N x0 x1 x2 x3).map f26W := (Tr.run_of (g := (f26t0 x0 x1 x2 x3)) (f := f26W) (by kernel_rfl))
def f26s : List PK := [S42k, (false, [K.int .i64]), (false, [K.int .i64]), (false, [K.int .i64])]
noncomputable def f26a (ps : List PV) : Option f26o := f26 0 (S42r (ps.headD PV.undef)) (pInt (ps.tail.headD PV.undef)) (pInt (ps.tail.tail.headD PV.undef)) (pInt (ps.tail.tail.tail.headD PV.undef))
noncomputable def f26d : f26o := ⟨0, false⟩
noncomputable def f26O : Ora := ⟨fun ps => okPs f26s ps && (f26a ps).isSome, fun ps => (f26W ((f26a ps).getD f26d)).plain⟩
theorem f26_spec : Spec Try.prog 26 f26O := spec_at 100 f26s (fun ps => (f26a ps).isSome) _ mixed fun ps hm hs hp => by
  cases h : f26a ps with
  | none => rw [h] at hp; cases hp
  | some o =>

    refine ⟨E1 0, f26W o, rfl, E1_ok 0, ?_, .inr ?_⟩
    · rw [show canPs f26s ps = [S42v (S42r (ps.headD PV.undef)), PV.int IntKind.i64 (pInt (ps.tail.headD PV.undef)), PV.int IntKind.i64 (pInt (ps.tail.tail.headD PV.undef)), PV.int IntKind.i64 (pInt (ps.tail.tail.tail.headD PV.undef))] from by kernel_rfl, f26_run 0]
      show (f26a ps).map f26W = _
      rw [h]; rfl
    · rfl
structure f27o where
  r0 ::
  (y1 : Bool)
noncomputable def f27W (o : f27o) : Res := (fun y1 => Res.pv (PV.bool y1)) o.y1
noncomputable def f27t0 (x0 : Int) (x1 : Int) (x2 : Int) (x3 : Int) : Tr f27o := (.test (decide (x1 ≥ (0 : Int))) (.test (decide (IntKind.i64.wrap (x0 + x1) ≥ x0)) (.test (decide (IntKind.i64.wrap (x0 + x1) < x2)) (.ret (.r0 (true))) (.ret (.r0 (decide (IntKind.i64.wrap (x0 + x1) > x3))))) (.test (decide (x1 < (0 : Int))) (.test (decide (IntKind.i64.wrap (x0 + x1) < x0)) (.test (decide (IntKind.i64.wrap (x0 + x1) < x2)) (.ret (.r0 (true))) (.ret (.r0 (decide (IntKind.i64.wrap (x0 + x1) > x3))))) (.ret (.r0 (true)))) (.ret (.r0 (true))))) (.test (decide (x1 < (0 : Int))) (.test (decide (IntKind.i64.wrap (x0 + x1) < x0)) (.test (decide (IntKind.i64.wrap (x0 + x1) < x2)) (.ret (.r0 (true))) (.ret (.r0 (decide (IntKind.i64.wrap (x0 + x1) > x3))))) (.ret (.r0 (true)))) (.ret (.r0 (true)))))
noncomputable def f27 (N : Nat) (x0 : Int) (x1 : Int) (x2 : Int) (x3 : Int) : Option f27o := Tr.run (f27t0 x0 x1 x2 x3)
theorem f27_run (N : Nat) (x0 : Int) (x1 : Int) (x2 : Int) (x3 : Int) : (evRes (E1 N) (100 : Nat) (27 : Nat) [PV.int IntKind.i64 x0, PV.int IntKind.i64 x1, PV.int IntKind.i64 x2, PV.int IntKind.i64 x3]).run = (f27 N x0 x1 x2 x3).map f27W := (Tr.run_of (g := (f27t0 x0 x1 x2 x3)) (f := f27W) (by kernel_rfl))
def f27s : List PK := [(false, [K.int .i64]), (false, [K.int .i64]), (false, [K.int .i64]), (false, [K.int .i64])]
noncomputable def f27a (ps : List PV) : Option f27o := f27 0 (pInt (ps.headD PV.undef)) (pInt (ps.tail.headD PV.undef)) (pInt (ps.tail.tail.headD PV.undef)) (pInt (ps.tail.tail.tail.headD PV.undef))
noncomputable def f27d : f27o := ⟨false⟩
noncomputable def f27O : Ora := ⟨fun ps => okPs f27s ps && (f27a ps).isSome, fun ps => (f27W ((f27a ps).getD f27d)).plain⟩
theorem f27_spec : Spec Try.prog 27 f27O := spec_at 100 f27s (fun ps => (f27a ps).isSome) _ mixed fun ps hm hs hp => by
  cases h : f27a ps with
  | none => rw [h] at hp; cases hp
  | some o =>

    refine ⟨E1 0, f27W o, rfl, E1_ok 0, ?_, .inr ?_⟩
    · rw [show canPs f27s ps = [PV.int IntKind.i64 (pInt (ps.headD PV.undef)), PV.int IntKind.i64 (pInt (ps.tail.headD PV.undef)), PV.int IntKind.i64 (pInt (ps.tail.tail.headD PV.undef)), PV.int IntKind.i64 (pInt (ps.tail.tail.tail.headD PV.undef))] from by kernel_rfl, f27_run 0]
      show (f27a ps).map f27W = _
      rw [h]; rfl
    · rfl
end Go.Proofs.YtahflgbdcnipnaaS
