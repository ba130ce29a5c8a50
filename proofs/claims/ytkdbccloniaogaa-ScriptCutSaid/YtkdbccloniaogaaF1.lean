/- Functions of the chapter in plain form, printed. Conditions: none. -/
import Derived.Test.YtkdbccloniaogaaF0
set_option linter.unusedVariables false
set_option linter.unusedSimpArgs false
set_option maxRecDepth 10000
namespace Go.Proofs.YtkdbccloniaogaaS
open Go Go.Proofs
set_option maxHeartbeats 4000000
structure f13o where
  r0 ::
  (y1 : Int)
noncomputable def f13W (o : f13o) : Res := (fun y1 => Res.pv (PV.int IntKind.i64 y1)) o.y1
noncomputable def f13t0 (x0 : S26) : Tr f13o := (.test (decide (x0.a0 < (1 : Int))) (.ret (.r0 ((50 : Int)))) (.test (decide (x0.a0 > (16 : Int))) (.ret (.r0 ((50 : Int)))) (.test (decide (x0.a1 < (1 : Int))) (.ret (.r0 ((51 : Int)))) (.test (decide (x0.a1 > (4 : Int))) (.ret (.r0 ((51 : Int)))) (.test (decide (x0.a2 < (1 : Int))) (.ret (.r0 ((52 : Int)))) (.test (decide (x0.a2 > (3 : Int))) (.ret (.r0 ((52 : Int)))) (.test (decide (x0.a3 < (0 : Int))) (.ret (.r0 ((53 : Int)))) (.test (decide (x0.a3 > (4 : Int))) (.ret (.r0 ((53 : Int)))) (.test (decide (x0.a4 < (0 : Int))) (.ret (.r0 ((54 : Int)))) (.test (decide (x0.a4 > (3 : Int))) (.ret (.r0 ((54 : Int)))) (.test (decide (x0.a5 < (1 : Int))) (.ret (.r0 ((55 : Int)))) (.test (decide (x0.a5 > (8 : Int))) (.ret (.r0 ((55 : Int)))) (.test (decide (x0.a6 < (0 : Int))) (.ret (.r0 ((56 : Int)))) (.test (decide (x0.a6 > (20 : Int))) (.ret (.r0 ((56 : Int)))) (.test (decide (x0.a7 < (0 : Int))) (.ret (.r0 ((57 : Int)))) (.test (decide (x0.a7 > (1000 : Int))) (.ret (.r0 ((57 : Int)))) (.test (x0.a8) (.test (decide (x0.a9 > x0.a11)) (.ret (.r0 ((58 : Int)))) (.test (decide (x0.a11 > x0.a10)) (.ret (.r0 ((58 : Int)))) (.ret (.r0 ((0 : Int)))))) (.ret (.r0 ((0 : Int)))))))))))))))))))))
noncomputable def f13 (N : Nat) (x0 : S26) : Option f13o := Tr.run (f13t0 x0)
theorem f13_run (N : Nat) (x0 : S26) : (evRes (E0 N) (100 : Nat) (13 : Nat) [(S26v x0)]).run = (f13 N x0).map f13W := (Tr.run_of (g := (f13t0 x0)) (f := f13W) (by kernel_rfl))
def f13s : List PK := [S26k]
noncomputable def f13a (ps : List PV) : Option f13o := f13 0 (S26r (ps.headD PV.undef))
noncomputable def f13d : f13o := ⟨0⟩
noncomputable def f13O : Ora := ⟨fun ps => okPs f13s ps && (f13a ps).isSome, fun ps => (f13W ((f13a ps).getD f13d)).plain⟩
theorem f13_spec : Spec Try.prog 13 f13O := spec_at 100 f13s (fun ps => (f13a ps).isSome) _ mixed fun ps hm hs hp => by
  cases h : f13a ps with
  | none => rw [h] at hp; cases hp
  | some o =>

    refine ⟨E0 0, f13W o, rfl, E0_ok 0, ?_, .inr ?_⟩
    · rw [show canPs f13s ps = [S26v (S26r (ps.headD PV.undef))] from by kernel_rfl, f13_run 0]
      show (f13a ps).map f13W = _
      rw [h]; rfl
    · rfl
structure f14o where
  r0 ::
  (y1 : Int)
noncomputable def f14W (o : f14o) : Res := (fun y1 => Res.pv (PV.int IntKind.i64 y1)) o.y1
noncomputable def f14t0 (x0 : S23) (x1 : S38) : Tr f14o := (.test (x1.a0 == (1 : Int)) (.test (decide ((0 : Int) ≤ x1.a1)) (.test (!decide (x1.a1 < x0.a0)) (.ret (.r0 ((91 : Int)))) (.test (x1.a0 == (2 : Int)) (.ret (.r0 ((0 : Int)))) (.test (decide ((0 : Int) ≤ x1.a2)) (.test (!decide (x1.a2 < x0.a1)) (.ret (.r0 ((92 : Int)))) (.test (!x0.a8) (.test (decide ((1 : Int) ≤ x1.a3)) (.test (decide (x1.a3 ≤ (9 : Int))) (.test (!decide (x1.a3 < (8 : Int))) (.ret (.r0 ((93 : Int)))) (.ret (.r0 ((0 : Int))))) (.ret (.r0 ((93 : Int))))) (.ret (.r0 ((93 : Int))))) (.test (x1.a3 == (9 : Int)) (.test (!decide (x1.a4 ≥ (0 : Int))) (.ret (.r0 ((93 : Int)))) (.ret (.r0 ((0 : Int))))) (.test (!x1.a3 == (8 : Int)) (.ret (.r0 ((93 : Int)))) (.ret (.r0 ((0 : Int)))))))) (.ret (.r0 ((92 : Int))))))) (.ret (.r0 ((91 : Int))))) (.test (x1.a0 == (2 : Int)) (.test (decide ((0 : Int) ≤ x1.a1)) (.test (!decide (x1.a1 < x0.a0)) (.ret (.r0 ((91 : Int)))) (.test (x1.a0 == (2 : Int)) (.ret (.r0 ((0 : Int)))) (.test (decide ((0 : Int) ≤ x1.a2)) (.test (!decide (x1.a2 < x0.a1)) (.ret (.r0 ((92 : Int)))) (.test (!x0.a8) (.test (decide ((1 : Int) ≤ x1.a3)) (.test (decide (x1.a3 ≤ (9 : Int))) (.test (!decide (x1.a3 < (8 : Int))) (.ret (.r0 ((93 : Int)))) (.ret (.r0 ((0 : Int))))) (.ret (.r0 ((93 : Int))))) (.ret (.r0 ((93 : Int))))) (.test (x1.a3 == (9 : Int)) (.test (!decide (x1.a4 ≥ (0 : Int))) (.ret (.r0 ((93 : Int)))) (.ret (.r0 ((0 : Int))))) (.test (!x1.a3 == (8 : Int)) (.ret (.r0 ((93 : Int)))) (.ret (.r0 ((0 : Int)))))))) (.ret (.r0 ((92 : Int))))))) (.ret (.r0 ((91 : Int))))) (.test (x1.a0 == (3 : Int)) (.ret (.r0 ((0 : Int)))) (.ret (.r0 ((90 : Int)))))))
noncomputable def f14 (N : Nat) (x0 : S23) (x1 : S38) : Option f14o := Tr.run (f14t0 x0 x1)
theorem f14_run (N : Nat) (x0 : S23) (x1 : S38) : (evRes (E0 N) (100 : Nat) (14 : Nat) [(S23v x0), (S38v x1)]).run = (f14 N x0 x1).map f14W := (Tr.run_of (g := (f14t0 x0 x1)) (f := f14W) (by kernel_rfl))
def f14s : List PK := [S23k, S38k]
noncomputable def f14a (ps : List PV) : Option f14o := f14 0 (S23r (ps.headD PV.undef)) (S38r (ps.tail.headD PV.undef))
noncomputable def f14d : f14o := ⟨0⟩
noncomputable def f14O : Ora := ⟨fun ps => okPs f14s ps && (f14a ps).isSome, fun ps => (f14W ((f14a ps).getD f14d)).plain⟩
theorem f14_spec : Spec Try.prog 14 f14O := spec_at 100 f14s (fun ps => (f14a ps).isSome) _ mixed fun ps hm hs hp => by
  cases h : f14a ps with
  | none => rw [h] at hp; cases hp
  | some o =>

    refine ⟨E0 0, f14W o, rfl, E0_ok 0, ?_, .inr ?_⟩
    · rw [show canPs f14s ps = [S23v (S23r (ps.headD PV.undef)), S38v (S38r (ps.tail.headD PV.undef))] from by kernel_rfl, f14_run 0]
      show (f14a ps).map f14W = _
      rw [h]; rfl
    · rfl
structure f15o where
  r0 ::
  (y1 : Int)
noncomputable def f15W (o : f15o) : Res := (fun y1 => Res.pv (PV.int IntKind.i64 y1)) o.y1
noncomputable def f15t0 (x0 : S26) (x1 : S42) : Tr f15o := (.test (decide (x1.a0 < (1 : Int))) (.ret (.r0 ((90 : Int)))) (.test (decide (x1.a0 > (3 : Int))) (.ret (.r0 ((90 : Int)))) (.test (x1.a0 == (3 : Int)) (.ret (.r0 ((0 : Int)))) (.test (decide (x1.a1 < (0 : Int))) (.ret (.r0 ((91 : Int)))) (.test (decide (x1.a1 ≥ x0.a0)) (.ret (.r0 ((91 : Int)))) (.test (x1.a0 == (2 : Int)) (.ret (.r0 ((0 : Int)))) (.test (decide (x1.a2 < (0 : Int))) (.ret (.r0 ((92 : Int)))) (.test (decide (x1.a2 ≥ x0.a1)) (.ret (.r0 ((92 : Int)))) (.test (x0.a8) (.test (x1.a3 == (8 : Int)) (.ret (.r0 ((0 : Int)))) (.test (x1.a3 == (9 : Int)) (.test (!decide (x1.a4 ≥ (0 : Int))) (.ret (.r0 ((93 : Int)))) (.ret (.r0 ((0 : Int))))) (.ret (.r0 ((93 : Int)))))) (.test (decide (x1.a3 ≥ (1 : Int))) (.test (!decide (x1.a3 ≤ (7 : Int))) (.ret (.r0 ((93 : Int)))) (.ret (.r0 ((0 : Int))))) (.ret (.r0 ((93 : Int))))))))))))))
noncomputable def f15 (N : Nat) (x0 : S26) (x1 : S42) : Option f15o := Tr.run (f15t0 x0 x1)
theorem f15_run (N : Nat) (x0 : S26) (x1 : S42) : (evRes (E0 N) (100 : Nat) (15 : Nat) [(S26v x0), (S42v x1)]).run = (f15 N x0 x1).map f15W := (Tr.run_of (g := (f15t0 x0 x1)) (f := f15W) (by kernel_rfl))
def f15s : List PK := [S26k, S42k]
noncomputable def f15a (ps : List PV) : Option f15o := f15 0 (S26r (ps.headD PV.undef)) (S42r (ps.tail.headD PV.undef))
noncomputable def f15d : f15o := ⟨0⟩
noncomputable def f15O : Ora := ⟨fun ps => okPs f15s ps && (f15a ps).isSome, fun ps => (f15W ((f15a ps).getD f15d)).plain⟩
theorem f15_spec : Spec Try.prog 15 f15O := spec_at 100 f15s (fun ps => (f15a ps).isSome) _ mixed fun ps hm hs hp => by
  cases h : f15a ps with
  | none => rw [h] at hp; cases hp
  | some o =>

    refine ⟨E0 0, f15W o, rfl, E0_ok 0, ?_, .inr ?_⟩
    · rw [show canPs f15s ps = [S26v (S26r (ps.headD PV.undef)), S42v (S42r (ps.tail.headD PV.undef))] from by kernel_rfl, f15_run 0]
      show (f15a ps).map f15W = _
      rw [h]; rfl
    · rfl
structure f20o where
  r0 ::
  (y6 : Bool)
noncomputable def f20W (o : f20o) : Res := (fun y6 => Res.pv (PV.bool y6)) o.y6
noncomputable def f20L0c (N : Nat) (x0 : List (List PV)) (x1 : List (List PV)) : Code := Tr.waitC (Tr.sub [false] (Tr.sub [false] (evRes (E0 N) (100 : Nat) (20 : Nat) [PV.list (42 : Nat) x0, PV.list (42 : Nat) x1])))
inductive f20L0s where
  | s0 (y3 : Int)
noncomputable def f20L0S (x0 : List (List PV)) (x1 : List (List PV)) : f20L0s → St
  | .s0 y3 => { tmps := [AV.pv (PV.list (42 : Nat) x0), AV.pv (PV.list (42 : Nat) x1), AV.pv PV.undef, AV.pv PV.undef, AV.pv PV.undef, AV.pv (PV.int IntKind.i64 y3), AV.pv PV.undef, AV.pv PV.undef, AV.pv PV.undef, AV.pv PV.undef, AV.pv PV.undef, AV.pv PV.undef, AV.pv PV.undef, AV.pv PV.undef, AV.pv PV.undef, AV.pv PV.undef, AV.pv PV.undef, AV.pv PV.undef, AV.pv PV.undef, AV.pv PV.undef, AV.pv PV.undef, AV.pv PV.undef, AV.pv PV.undef, AV.pv PV.undef, AV.pv PV.undef, AV.pv PV.undef], stack := [], mem := [], cur := (0 : Nat), ctr := (1 : Nat), fn := (20 : Nat) }
inductive f20L0e where
  | e0 
  | e1 
noncomputable def f20L0T (x0 : List (List PV)) (x1 : List (List PV)) : f20L0e → (Ex × St)
  | .e0  => (Ex.ret, { tmps := [AV.pv PV.undef, AV.pv PV.undef, AV.pv PV.undef, AV.pv PV.undef, AV.pv (PV.bool false), AV.pv PV.undef, AV.pv PV.undef, AV.pv PV.undef, AV.pv PV.undef, AV.pv PV.undef, AV.pv PV.undef, AV.pv PV.undef, AV.pv PV.undef, AV.pv PV.undef, AV.pv PV.undef, AV.pv PV.undef, AV.pv PV.undef, AV.pv PV.undef, AV.pv PV.undef, AV.pv PV.undef, AV.pv PV.undef, AV.pv PV.undef, AV.pv PV.undef, AV.pv PV.undef, AV.pv PV.undef, AV.pv PV.undef], stack := [], mem := [], cur := (0 : Nat), ctr := (1 : Nat), fn := (20 : Nat) })
  | .e1  => (Ex.exit (0 : Nat), { tmps := [AV.pv PV.undef, AV.pv PV.undef, AV.pv PV.undef, AV.pv PV.undef, AV.pv PV.undef, AV.pv PV.undef, AV.pv PV.undef, AV.pv PV.undef, AV.pv PV.undef, AV.pv PV.undef, AV.pv PV.undef, AV.pv PV.undef, AV.pv PV.undef, AV.pv PV.undef, AV.pv PV.undef, AV.pv PV.undef, AV.pv PV.undef, AV.pv PV.undef, AV.pv PV.undef, AV.pv PV.undef, AV.pv PV.undef, AV.pv PV.undef, AV.pv PV.undef, AV.pv PV.undef, AV.pv PV.undef, AV.pv PV.undef], stack := [], mem := [], cur := (0 : Nat), ctr := (1 : Nat), fn := (20 : Nat) })
noncomputable def f20L0it5 (x0 : List (List PV)) (x1 : List (List PV)) (z4 : Int) : Tr (f20L0s ⊕ f20L0e) := (.test (decide (z4 < (↑x0.length : Int))) (.test (decide ((0 : Int) ≤ z4) && decide (z4 < (↑x0.length : Int))) (.test (decide ((0 : Int) ≤ z4) && decide (z4 < (↑x1.length : Int))) (.test (!(pInt ((x0.getD z4.toNat []).headD PV.undef) == pInt ((x1.getD z4.toNat []).headD PV.undef) && (pInt ((x0.getD z4.toNat []).tail.headD PV.undef) == pInt ((x1.getD z4.toNat []).tail.headD PV.undef) && (pInt ((x0.getD z4.toNat []).tail.tail.headD PV.undef) == pInt ((x1.getD z4.toNat []).tail.tail.headD PV.undef) && (pInt ((x0.getD z4.toNat []).tail.tail.tail.headD PV.undef) == pInt ((x1.getD z4.toNat []).tail.tail.tail.headD PV.undef) && (pInt ((x0.getD z4.toNat []).tail.tail.tail.tail.headD PV.undef) == pInt ((x1.getD z4.toNat []).tail.tail.tail.tail.headD PV.undef) && true) && true))))) (.ret (.inr (.e0))) (.ret (.inl (.s0 (IntKind.i64.wrap (z4 + (1 : Int))))))) .fail) .fail) (.ret (.inr (.e1))))
noncomputable def f20L0r (N : Nat) (x0 : List (List PV)) (x1 : List (List PV)) : f20L0s → Option (f20L0s ⊕ f20L0e)
  | .s0 z4 => Tr.run (f20L0it5 x0 x1 z4)
theorem f20L0_step (N : Nat) (x0 : List (List PV)) (x1 : List (List PV)) : ∀ x, (roundAt (E0 N) (94 : Nat) (20 : Nat) (1 : Nat) (f20L0c N x0 x1) (f20L0S x0 x1 x)).run = (f20L0r N x0 x1 x).map (sumMap (f20L0S x0 x1) (f20L0T x0 x1))
  | .s0 z4 => (Tr.run_of (g := (f20L0it5 x0 x1 z4)) (f := (sumMap (f20L0S x0 x1) (f20L0T x0 x1))) (by kernel_rfl))
noncomputable def f20 (N : Nat) (x0 : List (List PV)) (x1 : List (List PV)) : Option f20o := (bif ((↑x0.length : Int) != (↑x1.length : Int)) then (Tr.run (.ret (.r0 (false)))) else ((loopN (f20L0r N x0 x1) N (.s0 ((0 : Int)))).bind (fun
    | .e0  => Tr.run (.ret (.r0 (false)))
    | .e1  => Tr.run (.ret (.r0 (true))))))
theorem f20_run (N : Nat) (x0 : List (List PV)) (x1 : List (List PV)) : (evRes (E0 N) (100 : Nat) (20 : Nat) [PV.list (42 : Nat) x0, PV.list (42 : Nat) x1]).run = (f20 N x0 x1).map f20W := (test_run (t := (evRes (E0 N) (100 : Nat) (20 : Nat) [PV.list (42 : Nat) x0, PV.list (42 : Nat) x1])) (b := (↑x0.length : Int) != (↑x1.length : Int)) (by kernel_rfl) (by kernel_rfl) (Tr.run_of (g := (.ret (.r0 (false)))) (f := f20W) (by kernel_rfl)) (skip_run [false] (by kernel_rfl) (wait_run (wrap := f20W) (E := E0 N) (n := (94 : Nat)) (f := (20 : Nat)) (c0 := (1 : Nat)) (c := (f20L0c N x0 x1)) (s := Tr.waitS (Tr.sub [false] (Tr.sub [false] (evRes (E0 N) (100 : Nat) (20 : Nat) [PV.list (42 : Nat) x0, PV.list (42 : Nat) x1])))) (f20L0S x0 x1) (f20L0T x0 x1) (f20L0r N x0 x1) (.s0 ((0 : Int))) _ (f20L0_step N x0 x1) (by kernel_rfl) (by kernel_rfl) (by kernel_rfl) (by kernel_rfl) (by kernel_rfl) (fun
    | .e0  => (Tr.run_of (g := (.ret (.r0 (false)))) (f := f20W) (by kernel_rfl))
    | .e1  => (Tr.run_of (g := (.ret (.r0 (true)))) (f := f20W) (by kernel_rfl))))))
inductive f10o where
  | r0 (y15 : List (List PV))
  | r1 (y16 : List (List PV))
noncomputable def f10W  : f10o → Res
  | .r0 y15 => Res.pv (PV.list (42 : Nat) y15)
  | .r1 y16 => Res.fresh (42 : Nat) y16
def f10rs : List PK := [(false, [K.list 42])]
noncomputable def f10L0c (N : Nat) (x0 : List (List PV)) : Code := Tr.waitC (evFit f10rs (evRes (E0 N) (100 : Nat) (10 : Nat) [PV.list (38 : Nat) x0]))
inductive f10L0s where
  | s0 
  | s1 
  | s2 (y5 : Int) (y6 : List (List PV))
noncomputable def f10L0S (x0 : List (List PV)) : f10L0s → St
  | .s0  => { tmps := [AV.pv (PV.list (38 : Nat) x0), AV.pv PV.undef, AV.pv PV.undef, AV.lit (42 : Nat) [], AV.pv (PV.int IntKind.i64 (0 : Int)), AV.pv PV.undef, AV.pv PV.undef, AV.pv PV.undef, AV.pv PV.undef, AV.pv PV.undef, AV.pv PV.undef, AV.pv PV.undef, AV.pv PV.undef, AV.pv PV.undef, AV.pv PV.undef, AV.pv PV.undef, AV.pv PV.undef, AV.pv PV.undef, AV.pv PV.undef, AV.pv PV.undef, AV.pv PV.undef, AV.pv PV.undef, AV.pv PV.undef, AV.pv PV.undef, AV.pv PV.undef, AV.pv PV.undef, AV.pv PV.undef, AV.pv PV.undef, AV.pv PV.undef, AV.pv PV.undef, AV.pv PV.undef, AV.pv PV.undef, AV.pv PV.undef, AV.pv PV.undef, AV.pv PV.undef, AV.pv PV.undef, AV.pv PV.undef], stack := [], mem := [], cur := (0 : Nat), ctr := (1 : Nat), fn := (10 : Nat) }
  | .s1  => { tmps := [AV.pv (PV.list (38 : Nat) x0), AV.pv PV.undef, AV.pv PV.undef, AV.own (535 : Nat), AV.pv (PV.int IntKind.i64 (1 : Int)), AV.pv PV.undef, AV.pv PV.undef, AV.pv PV.undef, AV.pv PV.undef, AV.pv PV.undef, AV.pv PV.undef, AV.pv PV.undef, AV.pv PV.undef, AV.pv PV.undef, AV.pv PV.undef, AV.pv PV.undef, AV.pv PV.undef, AV.pv PV.undef, AV.pv PV.undef, AV.pv PV.undef, AV.pv PV.undef, AV.pv PV.undef, AV.pv PV.undef, AV.pv PV.undef, AV.pv PV.undef, AV.pv PV.undef, AV.pv PV.undef, AV.pv PV.undef, AV.pv PV.undef, AV.pv PV.undef, AV.pv PV.undef, AV.pv PV.undef, AV.pv PV.undef, AV.pv PV.undef, AV.pv PV.undef, AV.pv PV.undef, AV.pv PV.undef], stack := [], mem := [((535 : Nat), Ob.row (2 : Nat) (42 : Nat) [[PV.int IntKind.i64 (pInt ((x0.getD (Int.toNat (0 : Int)) []).headD PV.undef)), PV.int IntKind.i64 (pInt ((x0.getD (Int.toNat (0 : Int)) []).tail.headD PV.undef)), PV.int IntKind.i64 (pInt ((x0.getD (Int.toNat (0 : Int)) []).tail.tail.headD PV.undef)), PV.int IntKind.i64 (pInt ((x0.getD (Int.toNat (0 : Int)) []).tail.tail.tail.headD PV.undef)), PV.int IntKind.i64 (pInt ((x0.getD (Int.toNat (0 : Int)) []).tail.tail.tail.tail.headD PV.undef))]])], cur := (0 : Nat), ctr := (1 : Nat), fn := (10 : Nat) }
  | .s2 y5 y6 => { tmps := [AV.pv (PV.list (38 : Nat) x0), AV.pv PV.undef, AV.pv PV.undef, AV.own (535 : Nat), AV.pv (PV.int IntKind.i64 y5), AV.pv PV.undef, AV.pv PV.undef, AV.pv PV.undef, AV.pv PV.undef, AV.pv PV.undef, AV.pv PV.undef, AV.pv PV.undef, AV.pv PV.undef, AV.pv PV.undef, AV.pv PV.undef, AV.pv PV.undef, AV.pv PV.undef, AV.pv PV.undef, AV.pv PV.undef, AV.pv PV.undef, AV.pv PV.undef, AV.pv PV.undef, AV.pv PV.undef, AV.pv PV.undef, AV.pv PV.undef, AV.pv PV.undef, AV.pv PV.undef, AV.pv PV.undef, AV.pv PV.undef, AV.pv PV.undef, AV.pv PV.undef, AV.pv PV.undef, AV.pv PV.undef, AV.pv PV.undef, AV.pv PV.undef, AV.pv PV.undef, AV.pv PV.undef], stack := [], mem := [((535 : Nat), Ob.row (1 : Nat) (42 : Nat) y6)], cur := (0 : Nat), ctr := (1 : Nat), fn := (10 : Nat) }
inductive f10L0e where
  | e0 
  | e1 
  | e2 (y7 : List (List PV))
noncomputable def f10L0T (x0 : List (List PV)) : f10L0e → (Ex × St)
  | .e0  => (Ex.exit (0 : Nat), { tmps := [AV.pv PV.undef, AV.pv PV.undef, AV.pv PV.undef, AV.lit (42 : Nat) [], AV.pv PV.undef, AV.pv PV.undef, AV.pv PV.undef, AV.pv PV.undef, AV.pv PV.undef, AV.pv PV.undef, AV.pv PV.undef, AV.pv PV.undef, AV.pv PV.undef, AV.pv PV.undef, AV.pv PV.undef, AV.pv PV.undef, AV.pv PV.undef, AV.pv PV.undef, AV.pv PV.undef, AV.pv PV.undef, AV.pv PV.undef, AV.pv PV.undef, AV.pv PV.undef, AV.pv PV.undef, AV.pv PV.undef, AV.pv PV.undef, AV.pv PV.undef, AV.pv PV.undef, AV.pv PV.undef, AV.pv PV.undef, AV.pv PV.undef, AV.pv PV.undef, AV.pv PV.undef, AV.pv PV.undef, AV.pv PV.undef, AV.pv PV.undef, AV.pv PV.undef], stack := [], mem := [], cur := (0 : Nat), ctr := (1 : Nat), fn := (10 : Nat) })
  | .e1  => (Ex.exit (0 : Nat), { tmps := [AV.pv PV.undef, AV.pv PV.undef, AV.pv PV.undef, AV.own (535 : Nat), AV.pv PV.undef, AV.pv PV.undef, AV.pv PV.undef, AV.pv PV.undef, AV.pv PV.undef, AV.pv PV.undef, AV.pv PV.undef, AV.pv PV.undef, AV.pv PV.undef, AV.pv PV.undef, AV.pv PV.undef, AV.pv PV.undef, AV.pv PV.undef, AV.pv PV.undef, AV.pv PV.undef, AV.pv PV.undef, AV.pv PV.undef, AV.pv PV.undef, AV.pv PV.undef, AV.pv PV.undef, AV.pv PV.undef, AV.pv PV.undef, AV.pv PV.undef, AV.pv PV.undef, AV.pv PV.undef, AV.pv PV.undef, AV.pv PV.undef, AV.pv PV.undef, AV.pv PV.undef, AV.pv PV.undef, AV.pv PV.undef, AV.pv PV.undef, AV.pv PV.undef], stack := [], mem := [((535 : Nat), Ob.row (2 : Nat) (42 : Nat) [[PV.int IntKind.i64 (pInt ((x0.getD (Int.toNat (0 : Int)) []).headD PV.undef)), PV.int IntKind.i64 (pInt ((x0.getD (Int.toNat (0 : Int)) []).tail.headD PV.undef)), PV.int IntKind.i64 (pInt ((x0.getD (Int.toNat (0 : Int)) []).tail.tail.headD PV.undef)), PV.int IntKind.i64 (pInt ((x0.getD (Int.toNat (0 : Int)) []).tail.tail.tail.headD PV.undef)), PV.int IntKind.i64 (pInt ((x0.getD (Int.toNat (0 : Int)) []).tail.tail.tail.tail.headD PV.undef))]])], cur := (0 : Nat), ctr := (1 : Nat), fn := (10 : Nat) })
  | .e2 y7 => (Ex.exit (0 : Nat), { tmps := [AV.pv PV.undef, AV.pv PV.undef, AV.pv PV.undef, AV.own (535 : Nat), AV.pv PV.undef, AV.pv PV.undef, AV.pv PV.undef, AV.pv PV.undef, AV.pv PV.undef, AV.pv PV.undef, AV.pv PV.undef, AV.pv PV.undef, AV.pv PV.undef, AV.pv PV.undef, AV.pv PV.undef, AV.pv PV.undef, AV.pv PV.undef, AV.pv PV.undef, AV.pv PV.undef, AV.pv PV.undef, AV.pv PV.undef, AV.pv PV.undef, AV.pv PV.undef, AV.pv PV.undef, AV.pv PV.undef, AV.pv PV.undef, AV.pv PV.undef, AV.pv PV.undef, AV.pv PV.undef, AV.pv PV.undef, AV.pv PV.undef, AV.pv PV.undef, AV.pv PV.undef, AV.pv PV.undef, AV.pv PV.undef, AV.pv PV.undef, AV.pv PV.undef], stack := [], mem := [((535 : Nat), Ob.row (1 : Nat) (42 : Nat) y7)], cur := (0 : Nat), ctr := (1 : Nat), fn := (10 : Nat) })
noncomputable def f10L0it8 (x0 : List (List PV)) : Tr (f10L0s ⊕ f10L0e) := (.test (decide ((0 : Int) < (↑x0.length : Int))) (.test (decide ((0 : Int) ≤ (0 : Int)) && decide ((0 : Int) < (↑x0.length : Int))) (.test (decide ((0 : Int) ≤ (0 : Int)) && decide ((0 : Int) < (↑x0.length : Int))) (.test (decide ((0 : Int) ≤ (0 : Int)) && decide ((0 : Int) < (↑x0.length : Int))) (.test (decide ((0 : Int) ≤ (0 : Int)) && decide ((0 : Int) < (↑x0.length : Int))) (.ret (.inl (.s1))) .fail) .fail) .fail) .fail) (.ret (.inr (.e0))))
noncomputable def f10L0it9 (x0 : List (List PV)) : Tr (f10L0s ⊕ f10L0e) := (.test (decide ((1 : Int) < (↑x0.length : Int))) (.test (decide ((0 : Int) ≤ (1 : Int)) && decide ((1 : Int) < (↑x0.length : Int))) (.test (decide ((0 : Int) ≤ (1 : Int)) && decide ((1 : Int) < (↑x0.length : Int))) (.test (decide ((0 : Int) ≤ (1 : Int)) && decide ((1 : Int) < (↑x0.length : Int))) (.test (decide ((0 : Int) ≤ (1 : Int)) && decide ((1 : Int) < (↑x0.length : Int))) (.ret (.inl (.s2 ((2 : Int)) ([[PV.int IntKind.i64 (pInt ((x0.getD (Int.toNat (0 : Int)) []).headD PV.undef)), PV.int IntKind.i64 (pInt ((x0.getD (Int.toNat (0 : Int)) []).tail.headD PV.undef)), PV.int IntKind.i64 (pInt ((x0.getD (Int.toNat (0 : Int)) []).tail.tail.headD PV.undef)), PV.int IntKind.i64 (pInt ((x0.getD (Int.toNat (0 : Int)) []).tail.tail.tail.headD PV.undef)), PV.int IntKind.i64 (pInt ((x0.getD (Int.toNat (0 : Int)) []).tail.tail.tail.tail.headD PV.undef))], [PV.int IntKind.i64 (pInt ((x0.getD (Int.toNat (1 : Int)) []).headD PV.undef)), PV.int IntKind.i64 (pInt ((x0.getD (Int.toNat (1 : Int)) []).tail.headD PV.undef)), PV.int IntKind.i64 (pInt ((x0.getD (Int.toNat (1 : Int)) []).tail.tail.headD PV.undef)), PV.int IntKind.i64 (pInt ((x0.getD (Int.toNat (1 : Int)) []).tail.tail.tail.headD PV.undef)), PV.int IntKind.i64 (pInt ((x0.getD (Int.toNat (1 : Int)) []).tail.tail.tail.tail.headD PV.undef))]])))) .fail) .fail) .fail) .fail) (.ret (.inr (.e1))))
noncomputable def f10L0it12 (x0 : List (List PV)) (z10 : Int) (z11 : List (List PV)) : Tr (f10L0s ⊕ f10L0e) := (.test (decide (z10 < (↑x0.length : Int))) (.test (decide ((0 : Int) ≤ z10) && decide (z10 < (↑x0.length : Int))) (.test (decide ((0 : Int) ≤ z10) && decide (z10 < (↑x0.length : Int))) (.test (decide ((0 : Int) ≤ z10) && decide (z10 < (↑x0.length : Int))) (.test (decide ((0 : Int) ≤ z10) && decide (z10 < (↑x0.length : Int))) (.test (decide (z11.length + [[PV.int IntKind.i64 (pInt ((x0.getD z10.toNat []).headD PV.undef)), PV.int IntKind.i64 (pInt ((x0.getD z10.toNat []).tail.headD PV.undef)), PV.int IntKind.i64 (pInt ((x0.getD z10.toNat []).tail.tail.headD PV.undef)), PV.int IntKind.i64 (pInt ((x0.getD z10.toNat []).tail.tail.tail.headD PV.undef)), PV.int IntKind.i64 (pInt ((x0.getD z10.toNat []).tail.tail.tail.tail.headD PV.undef))]].length ≤ most)) (.ret (.inl (.s2 (IntKind.i64.wrap (z10 + (1 : Int))) (z11 ++ [[PV.int IntKind.i64 (pInt ((x0.getD z10.toNat []).headD PV.undef)), PV.int IntKind.i64 (pInt ((x0.getD z10.toNat []).tail.headD PV.undef)), PV.int IntKind.i64 (pInt ((x0.getD z10.toNat []).tail.tail.headD PV.undef)), PV.int IntKind.i64 (pInt ((x0.getD z10.toNat []).tail.tail.tail.headD PV.undef)), PV.int IntKind.i64 (pInt ((x0.getD z10.toNat []).tail.tail.tail.tail.headD PV.undef))]])))) .fail) .fail) .fail) .fail) .fail) (.ret (.inr (.e2 (z11)))))
noncomputable def f10L0r (N : Nat) (x0 : List (List PV)) : f10L0s → Option (f10L0s ⊕ f10L0e)
  | .s0  => Tr.run (f10L0it8 x0)
  | .s1  => Tr.run (f10L0it9 x0)
  | .s2 z10 z11 => Tr.run (f10L0it12 x0 z10 z11)
theorem f10L0_step (N : Nat) (x0 : List (List PV)) : ∀ x, (roundAt (E0 N) (94 : Nat) (10 : Nat) (1 : Nat) (f10L0c N x0) (f10L0S x0 x)).run = (f10L0r N x0 x).map (sumMap (f10L0S x0) (f10L0T x0))
  | .s0  => (Tr.run_of (g := (f10L0it8 x0)) (f := (sumMap (f10L0S x0) (f10L0T x0))) (by kernel_rfl))
  | .s1  => (Tr.run_of (g := (f10L0it9 x0)) (f := (sumMap (f10L0S x0) (f10L0T x0))) (by kernel_rfl))
  | .s2 z10 z11 => (Tr.run_of (g := (f10L0it12 x0 z10 z11)) (f := (sumMap (f10L0S x0) (f10L0T x0))) (by kernel_rfl))
noncomputable def f10t13 (x0 : List (List PV)) : Tr f10o := (.ret (.r1 ([[PV.int IntKind.i64 (pInt ((x0.getD (Int.toNat (0 : Int)) []).headD PV.undef)), PV.int IntKind.i64 (pInt ((x0.getD (Int.toNat (0 : Int)) []).tail.headD PV.undef)), PV.int IntKind.i64 (pInt ((x0.getD (Int.toNat (0 : Int)) []).tail.tail.headD PV.undef)), PV.int IntKind.i64 (pInt ((x0.getD (Int.toNat (0 : Int)) []).tail.tail.tail.headD PV.undef)), PV.int IntKind.i64 (pInt ((x0.getD (Int.toNat (0 : Int)) []).tail.tail.tail.tail.headD PV.undef))]])))
noncomputable def f10 (N : Nat) (x0 : List (List PV)) : Option f10o := ((loopN (f10L0r N x0) N (.s0)).bind (fun
    | .e0  => Tr.run (.ret (.r0 ([])))
    | .e1  => Tr.run (f10t13 x0)
    | .e2 w14 => Tr.run (.ret (.r0 (w14)))))
theorem f10_run (N : Nat) (x0 : List (List PV)) : (evFit f10rs (evRes (E0 N) (100 : Nat) (10 : Nat) [PV.list (38 : Nat) x0])).run = (f10 N x0).map f10W := (wait_run (wrap := f10W) (E := E0 N) (n := (94 : Nat)) (f := (10 : Nat)) (c0 := (1 : Nat)) (c := (f10L0c N x0)) (s := Tr.waitS (evFit f10rs (evRes (E0 N) (100 : Nat) (10 : Nat) [PV.list (38 : Nat) x0]))) (f10L0S x0) (f10L0T x0) (f10L0r N x0) (.s0) _ (f10L0_step N x0) (by kernel_rfl) (by kernel_rfl) (by kernel_rfl) (by kernel_rfl) (by kernel_rfl) (fun
    | .e0  => (Tr.run_of (g := (.ret (.r0 ([])))) (f := f10W) (by kernel_rfl))
    | .e1  => (Tr.run_of (g := (f10t13 x0)) (f := f10W) (by kernel_rfl))
    | .e2 w14 => (Tr.run_of (g := (.ret (.r0 (w14)))) (f := f10W) (by kernel_rfl))))
structure f23o where
  r0 ::
  (y1 : Bool)
noncomputable def f23W (o : f23o) : Res := (fun y1 => Res.pv (PV.bool y1)) o.y1
noncomputable def f23t0 (x0 : S36) (x1 : Bool) : Tr f23o := (.test (!x1) (.test (decide ((1 : Int) ≤ x0.a0)) (.test (decide (x0.a0 ≤ (9 : Int))) (.ret (.r0 (decide (x0.a0 < (8 : Int))))) (.ret (.r0 (false)))) (.ret (.r0 (false)))) (.test (x0.a0 == (9 : Int)) (.ret (.r0 (decide (x0.a1 ≥ (0 : Int))))) (.ret (.r0 (x0.a0 == (8 : Int))))))
noncomputable def f23 (N : Nat) (x0 : S36) (x1 : Bool) : Option f23o := Tr.run (f23t0 x0 x1)
theorem f23_run (N : Nat) (x0 : S36) (x1 : Bool) : (evRes (E0 N) (100 : Nat) (23 : Nat) [(S36v x0), PV.bool x1]).run = (f23 N x0 x1).map f23W := (Tr.run_of (g := (f23t0 x0 x1)) (f := f23W) (by kernel_rfl))
def f23s : List PK := [S36k, (false, [K.bool])]
noncomputable def f23a (ps : List PV) : Option f23o := f23 0 (S36r (ps.headD PV.undef)) (pBool (ps.tail.headD PV.undef))
noncomputable def f23d : f23o := ⟨false⟩
noncomputable def f23O : Ora := ⟨fun ps => okPs f23s ps && (f23a ps).isSome, fun ps => (f23W ((f23a ps).getD f23d)).plain⟩
theorem f23_spec : Spec Try.prog 23 f23O := spec_at 100 f23s (fun ps => (f23a ps).isSome) _ mixed fun ps hm hs hp => by
  cases h : f23a ps with
  | none => rw [h] at hp; cases hp
  | some o =>

    refine ⟨E0 0, f23W o, rfl, E0_ok 0, ?_, .inr ?_⟩
    · rw [show canPs f23s ps = [S36v (S36r (ps.headD PV.undef)), PV.bool (pBool (ps.tail.headD PV.undef))] from by kernel_rfl, f23_run 0]
      show (f23a ps).map f23W = _
      rw [h]; rfl
    · rfl
structure f24o where
  r0 ::
  (y1 : Bool)
noncomputable def f24W (o : f24o) : Res := (fun y1 => Res.pv (PV.bool y1)) o.y1
noncomputable def f24t0 (x0 : S40) (x1 : Bool) : Tr f24o := (.test (x1) (.test (x0.a0 == (8 : Int)) (.ret (.r0 (true))) (.test (x0.a0 == (9 : Int)) (.ret (.r0 (decide (x0.a1 ≥ (0 : Int))))) (.ret (.r0 (false))))) (.test (decide (x0.a0 ≥ (1 : Int))) (.ret (.r0 (decide (x0.a0 ≤ (7 : Int))))) (.ret (.r0 (false)))))
noncomputable def f24 (N : Nat) (x0 : S40) (x1 : Bool) : Option f24o := Tr.run (f24t0 x0 x1)
theorem f24_run (N : Nat) (x0 : S40) (x1 : Bool) : (evRes (E0 N) (100 : Nat) (24 : Nat) [(S40v x0), PV.bool x1]).run = (f24 N x0 x1).map f24W := (Tr.run_of (g := (f24t0 x0 x1)) (f := f24W) (by kernel_rfl))
def f24s : List PK := [S40k, (false, [K.bool])]
noncomputable def f24a (ps : List PV) : Option f24o := f24 0 (S40r (ps.headD PV.undef)) (pBool (ps.tail.headD PV.undef))
noncomputable def f24d : f24o := ⟨false⟩
noncomputable def f24O : Ora := ⟨fun ps => okPs f24s ps && (f24a ps).isSome, fun ps => (f24W ((f24a ps).getD f24d)).plain⟩
theorem f24_spec : Spec Try.prog 24 f24O := spec_at 100 f24s (fun ps => (f24a ps).isSome) _ mixed fun ps hm hs hp => by
  cases h : f24a ps with
  | none => rw [h] at hp; cases hp
  | some o =>

    refine ⟨E0 0, f24W o, rfl, E0_ok 0, ?_, .inr ?_⟩
    · rw [show canPs f24s ps = [S40v (S40r (ps.headD PV.undef)), PV.bool (pBool (ps.tail.headD PV.undef))] from by kernel_rfl, f24_run 0]
      show (f24a ps).map f24W = _
      rw [h]; rfl
    · rfl
structure f26o where
  r0 ::
  (y13 : List (List PV))
noncomputable def f26W (o : f26o) : Res := (fun y13 => Res.pv (PV.list (5 : Nat) y13)) o.y13
def f26rs : List PK := [(false, [K.list 5])]
noncomputable def f26L0c (N : Nat) (x0 : S38) : Code := Tr.waitC (evFit f26rs (evRes (E0 N) (100 : Nat) (26 : Nat) [(S38v x0)]))
inductive f26L0s where
  | s0 
  | s1 
  | s2 (y5 : Int) (y6 : List (List PV))
noncomputable def f26L0S (x0 : S38) : f26L0s → St
  | .s0  => { tmps := [AV.pv PV.undef, AV.ptr (1 : Nat) (0 : Nat), AV.pv PV.undef, AV.lit (5 : Nat) [[PV.int IntKind.u8 (IntKind.u8.wrap x0.a0)], [PV.int IntKind.u8 (IntKind.u8.wrap x0.a1)], [PV.int IntKind.u8 (IntKind.u8.wrap x0.a2)], [PV.int IntKind.u8 (IntKind.u8.wrap x0.a3)]], AV.pv (PV.int IntKind.i64 (56 : Int)), AV.pv PV.undef, AV.pv PV.undef, AV.pv PV.undef, AV.pv PV.undef, AV.pv PV.undef, AV.pv PV.undef, AV.pv PV.undef, AV.pv PV.undef, AV.pv PV.undef, AV.pv PV.undef, AV.pv PV.undef, AV.pv PV.undef, AV.pv PV.undef, AV.pv PV.undef, AV.pv PV.undef, AV.pv PV.undef, AV.pv PV.undef, AV.pv PV.undef, AV.pv PV.undef, AV.pv PV.undef, AV.pv PV.undef, AV.pv PV.undef, AV.pv PV.undef, AV.pv PV.undef, AV.pv PV.undef, AV.pv PV.undef, AV.pv PV.undef, AV.pv PV.undef], stack := [], mem := [((1 : Nat), Ob.box [AV.pv (PV.int IntKind.i64 x0.a0), AV.pv (PV.int IntKind.i64 x0.a1), AV.pv (PV.int IntKind.i64 x0.a2), AV.pv (PV.int IntKind.i64 x0.a3), AV.pv (PV.int IntKind.i64 x0.a4)])], cur := (0 : Nat), ctr := (1 : Nat), fn := (26 : Nat) }
  | .s1  => { tmps := [AV.pv PV.undef, AV.ptr (1 : Nat) (0 : Nat), AV.pv PV.undef, AV.own (531 : Nat), AV.pv (PV.int IntKind.i64 (48 : Int)), AV.pv PV.undef, AV.pv PV.undef, AV.pv PV.undef, AV.pv PV.undef, AV.pv PV.undef, AV.pv PV.undef, AV.pv PV.undef, AV.pv PV.undef, AV.pv PV.undef, AV.pv PV.undef, AV.pv PV.undef, AV.pv PV.undef, AV.pv PV.undef, AV.pv PV.undef, AV.pv PV.undef, AV.pv PV.undef, AV.pv PV.undef, AV.pv PV.undef, AV.pv PV.undef, AV.pv PV.undef, AV.pv PV.undef, AV.pv PV.undef, AV.pv PV.undef, AV.pv PV.undef, AV.pv PV.undef, AV.pv PV.undef, AV.pv PV.undef, AV.pv PV.undef], stack := [], mem := [((531 : Nat), Ob.row (2 : Nat) (5 : Nat) [[PV.int IntKind.u8 (IntKind.u8.wrap x0.a0)], [PV.int IntKind.u8 (IntKind.u8.wrap x0.a1)], [PV.int IntKind.u8 (IntKind.u8.wrap x0.a2)], [PV.int IntKind.u8 (IntKind.u8.wrap x0.a3)], [PV.int IntKind.u8 (IntKind.u8.wrap (x0.a4.fdiv ((2 : Int) ^ min (Int.toNat (56 : Int)) IntKind.i64.bits)))]]), ((1 : Nat), Ob.box [AV.pv (PV.int IntKind.i64 x0.a0), AV.pv (PV.int IntKind.i64 x0.a1), AV.pv (PV.int IntKind.i64 x0.a2), AV.pv (PV.int IntKind.i64 x0.a3), AV.pv (PV.int IntKind.i64 x0.a4)])], cur := (0 : Nat), ctr := (1 : Nat), fn := (26 : Nat) }
  | .s2 y5 y6 => { tmps := [AV.pv PV.undef, AV.ptr (1 : Nat) (0 : Nat), AV.pv PV.undef, AV.own (531 : Nat), AV.pv (PV.int IntKind.i64 y5), AV.pv PV.undef, AV.pv PV.undef, AV.pv PV.undef, AV.pv PV.undef, AV.pv PV.undef, AV.pv PV.undef, AV.pv PV.undef, AV.pv PV.undef, AV.pv PV.undef, AV.pv PV.undef, AV.pv PV.undef, AV.pv PV.undef, AV.pv PV.undef, AV.pv PV.undef, AV.pv PV.undef, AV.pv PV.undef, AV.pv PV.undef, AV.pv PV.undef, AV.pv PV.undef, AV.pv PV.undef, AV.pv PV.undef, AV.pv PV.undef, AV.pv PV.undef, AV.pv PV.undef, AV.pv PV.undef, AV.pv PV.undef, AV.pv PV.undef, AV.pv PV.undef], stack := [], mem := [((531 : Nat), Ob.row (1 : Nat) (5 : Nat) y6), ((1 : Nat), Ob.box [AV.pv (PV.int IntKind.i64 x0.a0), AV.pv (PV.int IntKind.i64 x0.a1), AV.pv (PV.int IntKind.i64 x0.a2), AV.pv (PV.int IntKind.i64 x0.a3), AV.pv (PV.int IntKind.i64 x0.a4)])], cur := (0 : Nat), ctr := (1 : Nat), fn := (26 : Nat) }
inductive f26L0e where
  | e0 (y7 : List (List PV))
noncomputable def f26L0T (x0 : S38) : f26L0e → (Ex × St)
  | .e0 y7 => (Ex.exit (0 : Nat), { tmps := [AV.pv PV.undef, AV.pv PV.undef, AV.pv PV.undef, AV.own (531 : Nat), AV.pv PV.undef, AV.pv PV.undef, AV.pv PV.undef, AV.pv PV.undef, AV.pv PV.undef, AV.pv PV.undef, AV.pv PV.undef, AV.pv PV.undef, AV.pv PV.undef, AV.pv PV.undef, AV.pv PV.undef, AV.pv PV.undef, AV.pv PV.undef, AV.pv PV.undef, AV.pv PV.undef, AV.pv PV.undef, AV.pv PV.undef, AV.pv PV.undef, AV.pv PV.undef, AV.pv PV.undef, AV.pv PV.undef, AV.pv PV.undef, AV.pv PV.undef, AV.pv PV.undef, AV.pv PV.undef, AV.pv PV.undef, AV.pv PV.undef, AV.pv PV.undef, AV.pv PV.undef], stack := [], mem := [((531 : Nat), Ob.row (1 : Nat) (5 : Nat) y7)], cur := (0 : Nat), ctr := (1 : Nat), fn := (26 : Nat) })
noncomputable def f26L0it8 (x0 : S38) : Tr (f26L0s ⊕ f26L0e) := (.ret (.inl (.s2 ((40 : Int)) ([[PV.int IntKind.u8 (IntKind.u8.wrap x0.a0)], [PV.int IntKind.u8 (IntKind.u8.wrap x0.a1)], [PV.int IntKind.u8 (IntKind.u8.wrap x0.a2)], [PV.int IntKind.u8 (IntKind.u8.wrap x0.a3)], [PV.int IntKind.u8 (IntKind.u8.wrap (x0.a4.fdiv ((2 : Int) ^ min (Int.toNat (56 : Int)) IntKind.i64.bits)))], [PV.int IntKind.u8 (IntKind.u8.wrap (x0.a4.fdiv ((2 : Int) ^ min (Int.toNat (48 : Int)) IntKind.i64.bits)))]]))))
noncomputable def f26L0it11 (x0 : S38) (z9 : Int) (z10 : List (List PV)) : Tr (f26L0s ⊕ f26L0e) := (.test (decide (z9 ≥ (0 : Int))) (.test (decide ((0 : Int) ≤ z9)) (.test (decide (z10.length + [[PV.int IntKind.u8 (IntKind.u8.wrap (x0.a4.fdiv ((2 : Int) ^ min z9.toNat IntKind.i64.bits)))]].length ≤ most)) (.ret (.inl (.s2 (IntKind.i64.wrap (z9 - (8 : Int))) (z10 ++ [[PV.int IntKind.u8 (IntKind.u8.wrap (x0.a4.fdiv ((2 : Int) ^ min z9.toNat IntKind.i64.bits)))]])))) .fail) .fail) (.ret (.inr (.e0 (z10)))))
noncomputable def f26L0r (N : Nat) (x0 : S38) : f26L0s → Option (f26L0s ⊕ f26L0e)
  | .s0  => Tr.run (.ret (.inl (.s1)))
  | .s1  => Tr.run (f26L0it8 x0)
  | .s2 z9 z10 => Tr.run (f26L0it11 x0 z9 z10)
theorem f26L0_step (N : Nat) (x0 : S38) : ∀ x, (roundAt (E0 N) (94 : Nat) (26 : Nat) (1 : Nat) (f26L0c N x0) (f26L0S x0 x)).run = (f26L0r N x0 x).map (sumMap (f26L0S x0) (f26L0T x0))
  | .s0  => (Tr.run_of (g := (.ret (.inl (.s1)))) (f := (sumMap (f26L0S x0) (f26L0T x0))) (by kernel_rfl))
  | .s1  => (Tr.run_of (g := (f26L0it8 x0)) (f := (sumMap (f26L0S x0) (f26L0T x0))) (by kernel_rfl))
  | .s2 z9 z10 => (Tr.run_of (g := (f26L0it11 x0 z9 z10)) (f := (sumMap (f26L0S x0) (f26L0T x0))) (by kernel_rfl))
noncomputable def f26 (N : Nat) (x0 : S38) : Option f26o := ((loopN (f26L0r N x0) N (.s0)).bind (fun
    | .e0 w12 => Tr.run (.ret (.r0 (w12)))))
theorem f26_run (N : Nat) (x0 : S38) : (evFit f26rs (evRes (E0 N) (100 : Nat) (26 : Nat) [(S38v x0)])).run = (f26 N x0).map f26W := (wait_run (wrap := f26W) (E := E0 N) (n := (94 : Nat)) (f := (26 : Nat)) (c0 := (1 : Nat)) (c := (f26L0c N x0)) (s := Tr.waitS (evFit f26rs (evRes (E0 N) (100 : Nat) (26 : Nat) [(S38v x0)]))) (f26L0S x0) (f26L0T x0) (f26L0r N x0) (.s0) _ (f26L0_step N x0) (by kernel_rfl) (by kernel_rfl) (by kernel_rfl) (by kernel_rfl) (by kernel_rfl) (fun
    | .e0 w12 => (Tr.run_of (g := (.ret (.r0 (w12)))) (f := f26W) (by kernel_rfl))))
structure f27o where
  r0 ::
  (y1 : Int)
noncomputable def f27W (o : f27o) : Res := (fun y1 => Res.pv (PV.int IntKind.i64 y1)) o.y1
noncomputable def f27t0 (x0 : Int) : Tr f27o := (.test (x0 == (1 : Int)) (.ret (.r0 ((12 : Int)))) (.test (x0 == (2 : Int)) (.ret (.r0 ((2 : Int)))) (.ret (.r0 ((1 : Int))))))
noncomputable def f27 (N : Nat) (x0 : Int) : Option f27o := Tr.run (f27t0 x0)
theorem f27_run (N : Nat) (x0 : Int) : (evRes (E0 N) (100 : Nat) (27 : Nat) [PV.int IntKind.i64 x0]).run = (f27 N x0).map f27W := (Tr.run_of (g := (f27t0 x0)) (f := f27W) (by kernel_rfl))
def f27s : List PK := [(false, [K.int .i64])]
noncomputable def f27a (ps : List PV) : Option f27o := f27 0 (pInt (ps.headD PV.undef))
noncomputable def f27d : f27o := ⟨0⟩
noncomputable def f27O : Ora := ⟨fun ps => okPs f27s ps && (f27a ps).isSome, fun ps => (f27W ((f27a ps).getD f27d)).plain⟩
theorem f27_spec : Spec Try.prog 27 f27O := spec_at 100 f27s (fun ps => (f27a ps).isSome) _ mixed fun ps hm hs hp => by
  cases h : f27a ps with
  | none => rw [h] at hp; cases hp
  | some o =>

    refine ⟨E0 0, f27W o, rfl, E0_ok 0, ?_, .inr ?_⟩
    · rw [show canPs f27s ps = [PV.int IntKind.i64 (pInt (ps.headD PV.undef))] from by kernel_rfl, f27_run 0]
      show (f27a ps).map f27W = _
      rw [h]; rfl
    · rfl
end Go.Proofs.YtkdbccloniaogaaS
