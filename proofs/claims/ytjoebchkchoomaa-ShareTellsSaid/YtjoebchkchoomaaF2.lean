/- More functions of the chapter in plain form, printed. Conditions: none. -/
import Derived.Test.YtjoebchkchoomaaIt2
import Derived.Test.YtjoebchkchoomaaU1
set_option linter.unusedVariables false
set_option linter.unusedSimpArgs false
set_option maxRecDepth 10000
namespace Go.Proofs.YtjoebchkchoomaaS
open Go Go.Proofs
noncomputable def E2 (N : Nat) : Env := ((((((((((((((((((((((((((((((E1 N).add 8 f8O).add 15 f15O).add 16 f16O).add 17 f17O).add 18 f18O).add 21 f21O).add 23 f23O).add 24 f24O).add 26 f26O).add 33 f33O).add 34 f34O).add 38 f38O).add 42 f42O).add 43 f43O).add 45 f45O).add 46 f46O).add 48 f48O).add 51 f51O).add 54 f54O).add 57 f57O).add 58 f58O).add 59 f59O).add 60 f60O).add 61 f61O).add 62 f62O).add 64 f64O).add 65 f65O).add 66 f66O).add 69 f69O).add 81 f81O
theorem E2_ok (N : Nat) : (E2 N).Ok := ((((((((((((((((((((((((((((((E1_ok N).add f8_spec).add f15_spec).add f16_spec).add f17_spec).add f18_spec).add f21_spec).add f23_spec).add f24_spec).add f26_spec).add f33_spec).add f34_spec).add f38_spec).add f42_spec).add f43_spec).add f45_spec).add f46_spec).add f48_spec).add f51_spec).add f54_spec).add f57_spec).add f58_spec).add f59_spec).add f60_spec).add f61_spec).add f62_spec).add f64_spec).add f65_spec).add f66_spec).add f69_spec).add f81_spec
set_option maxHeartbeats 4000000
structure f44o where
  r0 ::
  (y1 : Int)
noncomputable def f44W (o : f44o) : Res := (fun y1 => Res.pv (PV.int IntKind.i64 y1)) o.y1
noncomputable def f44t0 (x0 : S43) : Tr f44o := (.test (decide (x0.a3 ≤ (4 : Int))) (.ret (.r0 (IntKind.i64.wrap (IntKind.i64.wrap ((1 : Int) + nodesR x0.a3) + IntKind.i64.wrap (x0.a4 * x0.a5))))) .fail)
noncomputable def f44 (N : Nat) (x0 : S43) : Option f44o := Tr.run (f44t0 x0)
theorem f44_run (N : Nat) (x0 : S43) : (evRes (E2 N) (100 : Nat) (44 : Nat) [(S43v x0)]).run = (f44 N x0).map f44W := (Tr.run_of (g := (f44t0 x0)) (f := f44W) (by kernel_rfl))
def f44s : List PK := [S43k]
noncomputable def f44a (ps : List PV) : Option f44o := f44 0 (S43r (ps.headD PV.undef))
noncomputable def f44d : f44o := ⟨0⟩
noncomputable def f44O : Ora := ⟨fun ps => okPs f44s ps && (f44a ps).isSome, fun ps => (f44W ((f44a ps).getD f44d)).plain⟩
theorem f44_spec : Spec Try.prog 44 f44O := spec_at 100 f44s (fun ps => (f44a ps).isSome) _ mixed fun ps hm hs hp => by
  cases h : f44a ps with
  | none => rw [h] at hp; cases hp
  | some o =>

    refine ⟨E2 0, f44W o, rfl, E2_ok 0, ?_, .inr ?_⟩
    · rw [show canPs f44s ps = [S43v (S43r (ps.headD PV.undef))] from by kernel_rfl, f44_run 0]
      show (f44a ps).map f44W = _
      rw [h]; rfl
    · rfl
structure f22o where
  r0 ::
  (y12 : Int)
noncomputable def f22W (o : f22o) : Res := (fun y12 => Res.pv (PV.int IntKind.i64 y12)) o.y12
noncomputable def f22L0c (N : Nat) (x0 : List (List PV)) (x1 : Int) (x2 : Int) (x3 : Int) : Code := Tr.waitC (evRes (E2 N) (100 : Nat) (22 : Nat) [PV.list (96 : Nat) x0, PV.int IntKind.i64 x1, PV.int IntKind.i64 x2, PV.int IntKind.i64 x3])
inductive f22L0s where
  | s0 (y5 : Int) (y6 : Int)
noncomputable def f22L0S (x0 : List (List PV)) (x1 : Int) (x2 : Int) (x3 : Int) : f22L0s → St
  | .s0 y5 y6 => { tmps := [AV.pv (PV.list (96 : Nat) x0), AV.pv (PV.int IntKind.i64 y5), AV.pv (PV.int IntKind.i64 x2), AV.pv (PV.int IntKind.i64 x3), AV.pv PV.undef, AV.pv PV.undef, AV.pv PV.undef, AV.pv PV.undef, AV.pv PV.undef, AV.pv (PV.int IntKind.i64 y6), AV.pv PV.undef, AV.pv PV.undef, AV.pv PV.undef, AV.pv PV.undef, AV.pv PV.undef, AV.pv PV.undef, AV.pv PV.undef, AV.pv PV.undef, AV.pv PV.undef, AV.pv PV.undef, AV.pv PV.undef, AV.pv PV.undef, AV.pv PV.undef, AV.pv PV.undef, AV.pv PV.undef, AV.pv PV.undef, AV.pv PV.undef, AV.pv PV.undef, AV.pv PV.undef], stack := [], mem := [], cur := (0 : Nat), ctr := (1 : Nat), fn := (22 : Nat) }
inductive f22L0e where
  | e0 (y7 : Int)
noncomputable def f22L0T (x0 : List (List PV)) (x1 : Int) (x2 : Int) (x3 : Int) : f22L0e → (Ex × St)
  | .e0 y7 => (Ex.exit (0 : Nat), { tmps := [AV.pv PV.undef, AV.pv (PV.int IntKind.i64 y7), AV.pv PV.undef, AV.pv PV.undef, AV.pv PV.undef, AV.pv PV.undef, AV.pv PV.undef, AV.pv PV.undef, AV.pv PV.undef, AV.pv PV.undef, AV.pv PV.undef, AV.pv PV.undef, AV.pv PV.undef, AV.pv PV.undef, AV.pv PV.undef, AV.pv PV.undef, AV.pv PV.undef, AV.pv PV.undef, AV.pv PV.undef, AV.pv PV.undef, AV.pv PV.undef, AV.pv PV.undef, AV.pv PV.undef, AV.pv PV.undef, AV.pv PV.undef, AV.pv PV.undef, AV.pv PV.undef, AV.pv PV.undef, AV.pv PV.undef], stack := [], mem := [], cur := (0 : Nat), ctr := (1 : Nat), fn := (22 : Nat) })
noncomputable def f22L0it10 (x0 : List (List PV)) (x1 : Int) (x2 : Int) (x3 : Int) (z8 : Int) (z9 : Int) : Tr (f22L0s ⊕ f22L0e) := (.test (decide (z9 < (↑x0.length : Int))) (.test (decide ((0 : Int) ≤ z9) && decide (z9 < (↑x0.length : Int))) (.test ((f45 (0 : Nat) { a0 := pInt ((x0.getD z9.toNat []).tail.headD PV.undef), a1 := pInt ((x0.getD z9.toNat []).tail.tail.headD PV.undef) } z8 x2 x3).isSome) (.ret (.inl (.s0 (((f45 (0 : Nat) { a0 := pInt ((x0.getD z9.toNat []).tail.headD PV.undef), a1 := pInt ((x0.getD z9.toNat []).tail.tail.headD PV.undef) } z8 x2 x3).getD f45d).y1) (IntKind.i64.wrap (z9 + (1 : Int)))))) .fail) .fail) (.ret (.inr (.e0 (z8)))))
noncomputable def f22L0r (N : Nat) (x0 : List (List PV)) (x1 : Int) (x2 : Int) (x3 : Int) : f22L0s → Option (f22L0s ⊕ f22L0e)
  | .s0 z8 z9 => Tr.run (f22L0it10 x0 x1 x2 x3 z8 z9)
theorem f22L0_step (N : Nat) (x0 : List (List PV)) (x1 : Int) (x2 : Int) (x3 : Int) : ∀ x, (roundAt (E2 N) (95 : Nat) (22 : Nat) (1 : Nat) (f22L0c N x0 x1 x2 x3) (f22L0S x0 x1 x2 x3 x)).run = (f22L0r N x0 x1 x2 x3 x).map (sumMap (f22L0S x0 x1 x2 x3) (f22L0T x0 x1 x2 x3))
  | .s0 z8 z9 => (Tr.run_of (g := (f22L0it10 x0 x1 x2 x3 z8 z9)) (f := (sumMap (f22L0S x0 x1 x2 x3) (f22L0T x0 x1 x2 x3))) (by kernel_rfl))
noncomputable def f22 (N : Nat) (x0 : List (List PV)) (x1 : Int) (x2 : Int) (x3 : Int) : Option f22o := ((loopN (f22L0r N x0 x1 x2 x3) N (.s0 (x1) ((0 : Int)))).bind (fun
    | .e0 w11 => Tr.run (.ret (.r0 (w11)))))
theorem f22_run (N : Nat) (x0 : List (List PV)) (x1 : Int) (x2 : Int) (x3 : Int) : (evRes (E2 N) (100 : Nat) (22 : Nat) [PV.list (96 : Nat) x0, PV.int IntKind.i64 x1, PV.int IntKind.i64 x2, PV.int IntKind.i64 x3]).run = (f22 N x0 x1 x2 x3).map f22W := (wait_run (wrap := f22W) (E := E2 N) (n := (95 : Nat)) (f := (22 : Nat)) (c0 := (1 : Nat)) (c := (f22L0c N x0 x1 x2 x3)) (s := Tr.waitS (evRes (E2 N) (100 : Nat) (22 : Nat) [PV.list (96 : Nat) x0, PV.int IntKind.i64 x1, PV.int IntKind.i64 x2, PV.int IntKind.i64 x3])) (f22L0S x0 x1 x2 x3) (f22L0T x0 x1 x2 x3) (f22L0r N x0 x1 x2 x3) (.s0 (x1) ((0 : Int))) _ (f22L0_step N x0 x1 x2 x3) (by kernel_rfl) (by kernel_rfl) (by kernel_rfl) (by kernel_rfl) (by kernel_rfl) (fun
    | .e0 w11 => (Tr.run_of (g := (.ret (.r0 (w11)))) (f := f22W) (by kernel_rfl))))
abbrev f36o := S46
noncomputable def f36W (o : f36o) : Res := Res.pv (S46v o)
def f36rs : List PK := [(true, [K.list 3, K.list 48])]
noncomputable def f36L0c (N : Nat) (x0 : S27) : Code := Tr.waitC (evFit f36rs (evRes (E2 N) (100 : Nat) (36 : Nat) [(S27v x0)]))
inductive f36L0s where
  | s0 
  | s1 
  | s2 (y5 : Int) (y6 : List (List PV))
noncomputable def f36L0S (x0 : S27) : f36L0s → St
  | .s0  => { tmps := [AV.pv PV.undef, AV.ptr (1 : Nat) (0 : Nat), AV.ptr (2 : Nat) (0 : Nat), AV.ptr (3 : Nat) (0 : Nat), AV.pv (PV.int IntKind.i64 (0 : Int)), AV.pv PV.undef, AV.pv PV.undef, AV.pv PV.undef, AV.pv PV.undef, AV.pv PV.undef, AV.pv PV.undef, AV.pv PV.undef, AV.pv PV.undef, AV.pv PV.undef, AV.pv PV.undef, AV.pv PV.undef, AV.pv PV.undef, AV.pv PV.undef, AV.pv PV.undef, AV.pv PV.undef, AV.pv PV.undef, AV.pv PV.undef, AV.pv PV.undef, AV.pv PV.undef, AV.pv PV.undef, AV.pv PV.undef, AV.pv PV.undef], stack := [], mem := [((3 : Nat), Ob.box [AV.pv (PV.list (3 : Nat) x0.a0), AV.lit (48 : Nat) []]), ((2 : Nat), Ob.box [AV.lit (3 : Nat) [], AV.lit (48 : Nat) []]), ((1 : Nat), Ob.box [AV.pv (PV.list (3 : Nat) x0.a0), AV.pv (PV.list (30 : Nat) x0.a1)])], cur := (0 : Nat), ctr := (1 : Nat), fn := (36 : Nat) }
  | .s1  => { tmps := [AV.pv PV.undef, AV.ptr (1 : Nat) (0 : Nat), AV.ptr (2 : Nat) (0 : Nat), AV.ptr (3 : Nat) (0 : Nat), AV.pv (PV.int IntKind.i64 (1 : Int)), AV.pv PV.undef, AV.pv PV.undef, AV.pv PV.undef, AV.pv PV.undef, AV.pv PV.undef, AV.pv PV.undef, AV.pv PV.undef, AV.pv PV.undef, AV.pv PV.undef, AV.pv PV.undef, AV.pv PV.undef, AV.pv PV.undef, AV.pv PV.undef, AV.pv PV.undef, AV.pv PV.undef, AV.pv PV.undef, AV.pv PV.undef, AV.pv PV.undef, AV.pv PV.undef, AV.pv PV.undef, AV.pv PV.undef, AV.pv PV.undef], stack := [], mem := [((524 : Nat), Ob.row (2 : Nat) (48 : Nat) [[PV.list (96 : Nat) (pList ((x0.a1.getD (Int.toNat (0 : Int)) []).headD PV.undef))]]), ((3 : Nat), Ob.box [AV.pv (PV.list (3 : Nat) x0.a0), AV.own (524 : Nat)]), ((2 : Nat), Ob.box [AV.lit (3 : Nat) [], AV.lit (48 : Nat) []]), ((1 : Nat), Ob.box [AV.pv (PV.list (3 : Nat) x0.a0), AV.pv (PV.list (30 : Nat) x0.a1)])], cur := (0 : Nat), ctr := (1 : Nat), fn := (36 : Nat) }
  | .s2 y5 y6 => { tmps := [AV.pv PV.undef, AV.ptr (1 : Nat) (0 : Nat), AV.ptr (2 : Nat) (0 : Nat), AV.ptr (3 : Nat) (0 : Nat), AV.pv (PV.int IntKind.i64 y5), AV.pv PV.undef, AV.pv PV.undef, AV.pv PV.undef, AV.pv PV.undef, AV.pv PV.undef, AV.pv PV.undef, AV.pv PV.undef, AV.pv PV.undef, AV.pv PV.undef, AV.pv PV.undef, AV.pv PV.undef, AV.pv PV.undef, AV.pv PV.undef, AV.pv PV.undef, AV.pv PV.undef, AV.pv PV.undef, AV.pv PV.undef, AV.pv PV.undef, AV.pv PV.undef, AV.pv PV.undef, AV.pv PV.undef, AV.pv PV.undef], stack := [], mem := [((524 : Nat), Ob.row (1 : Nat) (48 : Nat) y6), ((3 : Nat), Ob.box [AV.pv (PV.list (3 : Nat) x0.a0), AV.own (524 : Nat)]), ((2 : Nat), Ob.box [AV.lit (3 : Nat) [], AV.lit (48 : Nat) []]), ((1 : Nat), Ob.box [AV.pv (PV.list (3 : Nat) x0.a0), AV.pv (PV.list (30 : Nat) x0.a1)])], cur := (0 : Nat), ctr := (1 : Nat), fn := (36 : Nat) }
inductive f36L0e where
  | e0 
  | e1 
  | e2 (y7 : List (List PV))
noncomputable def f36L0T (x0 : S27) : f36L0e → (Ex × St)
  | .e0  => (Ex.exit (0 : Nat), { tmps := [AV.pv PV.undef, AV.pv PV.undef, AV.ptr (2 : Nat) (0 : Nat), AV.ptr (3 : Nat) (0 : Nat), AV.pv PV.undef, AV.pv PV.undef, AV.pv PV.undef, AV.pv PV.undef, AV.pv PV.undef, AV.pv PV.undef, AV.pv PV.undef, AV.pv PV.undef, AV.pv PV.undef, AV.pv PV.undef, AV.pv PV.undef, AV.pv PV.undef, AV.pv PV.undef, AV.pv PV.undef, AV.pv PV.undef, AV.pv PV.undef, AV.pv PV.undef, AV.pv PV.undef, AV.pv PV.undef, AV.pv PV.undef, AV.pv PV.undef, AV.pv PV.undef, AV.pv PV.undef], stack := [], mem := [((3 : Nat), Ob.box [AV.pv (PV.list (3 : Nat) x0.a0), AV.lit (48 : Nat) []]), ((2 : Nat), Ob.box [AV.lit (3 : Nat) [], AV.lit (48 : Nat) []])], cur := (0 : Nat), ctr := (1 : Nat), fn := (36 : Nat) })
  | .e1  => (Ex.exit (0 : Nat), { tmps := [AV.pv PV.undef, AV.pv PV.undef, AV.ptr (2 : Nat) (0 : Nat), AV.ptr (3 : Nat) (0 : Nat), AV.pv PV.undef, AV.pv PV.undef, AV.pv PV.undef, AV.pv PV.undef, AV.pv PV.undef, AV.pv PV.undef, AV.pv PV.undef, AV.pv PV.undef, AV.pv PV.undef, AV.pv PV.undef, AV.pv PV.undef, AV.pv PV.undef, AV.pv PV.undef, AV.pv PV.undef, AV.pv PV.undef, AV.pv PV.undef, AV.pv PV.undef, AV.pv PV.undef, AV.pv PV.undef, AV.pv PV.undef, AV.pv PV.undef, AV.pv PV.undef, AV.pv PV.undef], stack := [], mem := [((524 : Nat), Ob.row (2 : Nat) (48 : Nat) [[PV.list (96 : Nat) (pList ((x0.a1.getD (Int.toNat (0 : Int)) []).headD PV.undef))]]), ((3 : Nat), Ob.box [AV.pv (PV.list (3 : Nat) x0.a0), AV.own (524 : Nat)]), ((2 : Nat), Ob.box [AV.lit (3 : Nat) [], AV.lit (48 : Nat) []])], cur := (0 : Nat), ctr := (1 : Nat), fn := (36 : Nat) })
  | .e2 y7 => (Ex.exit (0 : Nat), { tmps := [AV.pv PV.undef, AV.pv PV.undef, AV.ptr (2 : Nat) (0 : Nat), AV.ptr (3 : Nat) (0 : Nat), AV.pv PV.undef, AV.pv PV.undef, AV.pv PV.undef, AV.pv PV.undef, AV.pv PV.undef, AV.pv PV.undef, AV.pv PV.undef, AV.pv PV.undef, AV.pv PV.undef, AV.pv PV.undef, AV.pv PV.undef, AV.pv PV.undef, AV.pv PV.undef, AV.pv PV.undef, AV.pv PV.undef, AV.pv PV.undef, AV.pv PV.undef, AV.pv PV.undef, AV.pv PV.undef, AV.pv PV.undef, AV.pv PV.undef, AV.pv PV.undef, AV.pv PV.undef], stack := [], mem := [((524 : Nat), Ob.row (1 : Nat) (48 : Nat) y7), ((3 : Nat), Ob.box [AV.pv (PV.list (3 : Nat) x0.a0), AV.own (524 : Nat)]), ((2 : Nat), Ob.box [AV.lit (3 : Nat) [], AV.lit (48 : Nat) []])], cur := (0 : Nat), ctr := (1 : Nat), fn := (36 : Nat) })
noncomputable def f36L0it8 (x0 : S27) : Tr (f36L0s ⊕ f36L0e) := (.test (decide ((0 : Int) < (↑x0.a1.length : Int))) (.test (decide ((0 : Int) ≤ (0 : Int)) && decide ((0 : Int) < (↑x0.a1.length : Int))) (.test (decide ((pList ((x0.a1.getD (Int.toNat (0 : Int)) []).headD PV.undef)).length ≤ most)) (.ret (.inl (.s1))) .fail) .fail) (.ret (.inr (.e0))))
noncomputable def f36L0it9 (x0 : S27) : Tr (f36L0s ⊕ f36L0e) := (.test (decide ((1 : Int) < (↑x0.a1.length : Int))) (.test (decide ((0 : Int) ≤ (1 : Int)) && decide ((1 : Int) < (↑x0.a1.length : Int))) (.test (decide ((pList ((x0.a1.getD (Int.toNat (1 : Int)) []).headD PV.undef)).length ≤ most)) (.ret (.inl (.s2 ((2 : Int)) ([[PV.list (96 : Nat) (pList ((x0.a1.getD (Int.toNat (0 : Int)) []).headD PV.undef))], [PV.list (96 : Nat) (pList ((x0.a1.getD (Int.toNat (1 : Int)) []).headD PV.undef))]])))) .fail) .fail) (.ret (.inr (.e1))))
noncomputable def f36L0it12 (x0 : S27) (z10 : Int) (z11 : List (List PV)) : Tr (f36L0s ⊕ f36L0e) := (.test (decide (z10 < (↑x0.a1.length : Int))) (.test (decide ((0 : Int) ≤ z10) && decide (z10 < (↑x0.a1.length : Int))) (.test (decide ((pList ((x0.a1.getD z10.toNat []).headD PV.undef)).length ≤ most)) (.test (decide (z11.length + [[PV.list (96 : Nat) (pList ((x0.a1.getD z10.toNat []).headD PV.undef))]].length ≤ most)) (.ret (.inl (.s2 (IntKind.i64.wrap (z10 + (1 : Int))) (z11 ++ [[PV.list (96 : Nat) (pList ((x0.a1.getD z10.toNat []).headD PV.undef))]])))) .fail) .fail) .fail) (.ret (.inr (.e2 (z11)))))
noncomputable def f36L0r (N : Nat) (x0 : S27) : f36L0s → Option (f36L0s ⊕ f36L0e)
  | .s0  => Tr.run (f36L0it8 x0)
  | .s1  => Tr.run (f36L0it9 x0)
  | .s2 z10 z11 => Tr.run (f36L0it12 x0 z10 z11)
theorem f36L0_step (N : Nat) (x0 : S27) : ∀ x, (roundAt (E2 N) (94 : Nat) (36 : Nat) (1 : Nat) (f36L0c N x0) (f36L0S x0 x)).run = (f36L0r N x0 x).map (sumMap (f36L0S x0) (f36L0T x0))
  | .s0  => (Tr.run_of (g := (f36L0it8 x0)) (f := (sumMap (f36L0S x0) (f36L0T x0))) (by kernel_rfl))
  | .s1  => (Tr.run_of (g := (f36L0it9 x0)) (f := (sumMap (f36L0S x0) (f36L0T x0))) (by kernel_rfl))
  | .s2 z10 z11 => (Tr.run_of (g := (f36L0it12 x0 z10 z11)) (f := (sumMap (f36L0S x0) (f36L0T x0))) (by kernel_rfl))
noncomputable def f36 (N : Nat) (x0 : S27) : Option f36o := ((loopN (f36L0r N x0) N (.s0)).bind (fun
    | .e0  => Tr.run (.ret (.mk (x0.a0) ([])))
    | .e1  => Tr.run (.ret (.mk (x0.a0) ([[PV.list (96 : Nat) (pList ((x0.a1.getD (Int.toNat (0 : Int)) []).headD PV.undef))]])))
    | .e2 w13 => Tr.run (.ret (.mk (x0.a0) (w13)))))
theorem f36_run (N : Nat) (x0 : S27) : (evFit f36rs (evRes (E2 N) (100 : Nat) (36 : Nat) [(S27v x0)])).run = (f36 N x0).map f36W := (wait_run (wrap := f36W) (E := E2 N) (n := (94 : Nat)) (f := (36 : Nat)) (c0 := (1 : Nat)) (c := (f36L0c N x0)) (s := Tr.waitS (evFit f36rs (evRes (E2 N) (100 : Nat) (36 : Nat) [(S27v x0)]))) (f36L0S x0) (f36L0T x0) (f36L0r N x0) (.s0) _ (f36L0_step N x0) (by kernel_rfl) (by kernel_rfl) (by kernel_rfl) (by kernel_rfl) (by kernel_rfl) (fun
    | .e0  => (Tr.run_of (g := (.ret (.mk (x0.a0) ([])))) (f := f36W) (by kernel_rfl))
    | .e1  => (Tr.run_of (g := (.ret (.mk (x0.a0) ([[PV.list (96 : Nat) (pList ((x0.a1.getD (Int.toNat (0 : Int)) []).headD PV.undef))]])))) (f := f36W) (by kernel_rfl))
    | .e2 w13 => (Tr.run_of (g := (.ret (.mk (x0.a0) (w13)))) (f := f36W) (by kernel_rfl))))
abbrev f37o := S51
noncomputable def f37W (o : f37o) : Res := Res.pv (S51v o)
def f37rs : List PK := [(true, [K.int .i64, K.int .i64, K.int .i64, K.int .i64, K.list 96, K.list 113, K.list 3, K.int .i64, K.int .i64, K.int .i64, K.int .i64, K.int .i64, K.int .i64, K.int .i64, K.int .i64, K.int .i64, K.int .i64])]
noncomputable def f37L0c (N : Nat) (x0 : S33) : Code := Tr.waitC (Tr.sub [true] (evFit f37rs (evRes (E2 N) (100 : Nat) (37 : Nat) [(S33v x0)])))
inductive f37L0s where
  | s0 
  | s1 
  | s2 (y5 : Int) (y6 : List (List PV))
noncomputable def f37L0S (x0 : S33) : f37L0s → St
  | .s0  => { tmps := [AV.pv PV.undef, AV.ptr (1 : Nat) (0 : Nat), AV.ptr (2 : Nat) (0 : Nat), AV.ptr (3 : Nat) (0 : Nat), AV.pv (PV.int IntKind.i64 (0 : Int)), AV.pv PV.undef, AV.pv PV.undef, AV.pv PV.undef, AV.pv PV.undef, AV.pv PV.undef, AV.pv PV.undef, AV.pv PV.undef, AV.pv PV.undef, AV.pv PV.undef, AV.pv PV.undef, AV.pv PV.undef, AV.pv PV.undef, AV.pv PV.undef, AV.pv PV.undef, AV.pv PV.undef, AV.pv PV.undef, AV.pv PV.undef, AV.pv PV.undef, AV.pv PV.undef, AV.pv PV.undef, AV.pv PV.undef, AV.pv PV.undef, AV.pv PV.undef, AV.pv PV.undef, AV.pv PV.undef, AV.pv PV.undef, AV.pv PV.undef, AV.pv PV.undef, AV.pv PV.undef, AV.pv PV.undef, AV.pv PV.undef, AV.pv PV.undef, AV.pv PV.undef, AV.pv PV.undef, AV.pv PV.undef, AV.pv PV.undef, AV.pv PV.undef, AV.pv PV.undef, AV.pv PV.undef, AV.pv PV.undef, AV.pv PV.undef, AV.pv PV.undef, AV.pv PV.undef, AV.pv PV.undef, AV.pv PV.undef, AV.pv PV.undef, AV.pv PV.undef, AV.pv PV.undef, AV.pv PV.undef, AV.pv PV.undef], stack := [], mem := [((3 : Nat), Ob.box [AV.pv (PV.int IntKind.i64 x0.a0), AV.pv (PV.int IntKind.i64 x0.a1), AV.pv (PV.int IntKind.i64 x0.a2), AV.pv (PV.int IntKind.i64 x0.a3), AV.pv (PV.list (96 : Nat) x0.a4), AV.lit (113 : Nat) [], AV.pv (PV.list (3 : Nat) x0.a6), AV.pv (PV.int IntKind.i64 x0.a7), AV.pv (PV.int IntKind.i64 x0.a8), AV.pv (PV.int IntKind.i64 x0.a9), AV.pv (PV.int IntKind.i64 x0.a10), AV.pv (PV.int IntKind.i64 x0.a11), AV.pv (PV.int IntKind.i64 x0.a12), AV.pv (PV.int IntKind.i64 x0.a13), AV.pv (PV.int IntKind.i64 x0.a14), AV.pv (PV.int IntKind.i64 x0.a15), AV.pv (PV.int IntKind.i64 x0.a16)]), ((2 : Nat), Ob.box [AV.pv (PV.int IntKind.i64 (0 : Int)), AV.pv (PV.int IntKind.i64 (0 : Int)), AV.pv (PV.int IntKind.i64 (0 : Int)), AV.pv (PV.int IntKind.i64 (0 : Int)), AV.lit (96 : Nat) [], AV.lit (113 : Nat) [], AV.lit (3 : Nat) [], AV.pv (PV.int IntKind.i64 (0 : Int)), AV.pv (PV.int IntKind.i64 (0 : Int)), AV.pv (PV.int IntKind.i64 (0 : Int)), AV.pv (PV.int IntKind.i64 (0 : Int)), AV.pv (PV.int IntKind.i64 (0 : Int)), AV.pv (PV.int IntKind.i64 (0 : Int)), AV.pv (PV.int IntKind.i64 (0 : Int)), AV.pv (PV.int IntKind.i64 (0 : Int)), AV.pv (PV.int IntKind.i64 (0 : Int)), AV.pv (PV.int IntKind.i64 (0 : Int))]), ((1 : Nat), Ob.box [AV.pv (PV.int IntKind.i64 x0.a0), AV.pv (PV.int IntKind.i64 x0.a1), AV.pv (PV.int IntKind.i64 x0.a2), AV.pv (PV.int IntKind.i64 x0.a3), AV.pv (PV.list (78 : Nat) x0.a4), AV.pv (PV.list (66 : Nat) x0.a5), AV.pv (PV.list (3 : Nat) x0.a6), AV.pv (PV.int IntKind.i64 x0.a7), AV.pv (PV.int IntKind.i64 x0.a8), AV.pv (PV.int IntKind.i64 x0.a9), AV.pv (PV.int IntKind.i64 x0.a10), AV.pv (PV.int IntKind.i64 x0.a11), AV.pv (PV.int IntKind.i64 x0.a12), AV.pv (PV.int IntKind.i64 x0.a13), AV.pv (PV.int IntKind.i64 x0.a14), AV.pv (PV.int IntKind.i64 x0.a15), AV.pv (PV.int IntKind.i64 x0.a16)])], cur := (0 : Nat), ctr := (1 : Nat), fn := (37 : Nat) }
  | .s1  => { tmps := [AV.pv PV.undef, AV.ptr (1 : Nat) (0 : Nat), AV.ptr (2 : Nat) (0 : Nat), AV.ptr (3 : Nat) (0 : Nat), AV.pv (PV.int IntKind.i64 (1 : Int)), AV.pv PV.undef, AV.pv PV.undef, AV.pv PV.undef, AV.pv PV.undef, AV.pv PV.undef, AV.pv PV.undef, AV.pv PV.undef, AV.pv PV.undef, AV.pv PV.undef, AV.pv PV.undef, AV.pv PV.undef, AV.pv PV.undef, AV.pv PV.undef, AV.pv PV.undef, AV.pv PV.undef, AV.pv PV.undef, AV.pv PV.undef, AV.pv PV.undef, AV.pv PV.undef, AV.pv PV.undef, AV.pv PV.undef, AV.pv PV.undef, AV.pv PV.undef, AV.pv PV.undef, AV.pv PV.undef, AV.pv PV.undef, AV.pv PV.undef, AV.pv PV.undef, AV.pv PV.undef, AV.pv PV.undef, AV.pv PV.undef, AV.pv PV.undef, AV.pv PV.undef, AV.pv PV.undef, AV.pv PV.undef, AV.pv PV.undef, AV.pv PV.undef, AV.pv PV.undef, AV.pv PV.undef, AV.pv PV.undef, AV.pv PV.undef, AV.pv PV.undef, AV.pv PV.undef, AV.pv PV.undef, AV.pv PV.undef, AV.pv PV.undef, AV.pv PV.undef, AV.pv PV.undef, AV.pv PV.undef, AV.pv PV.undef], stack := [], mem := [((552 : Nat), Ob.row (2 : Nat) (113 : Nat) [[PV.int IntKind.i64 (pInt ((x0.a5.getD (Int.toNat (0 : Int)) []).headD PV.undef)), PV.int IntKind.i64 (pInt ((x0.a5.getD (Int.toNat (0 : Int)) []).tail.headD PV.undef))]]), ((3 : Nat), Ob.box [AV.pv (PV.int IntKind.i64 x0.a0), AV.pv (PV.int IntKind.i64 x0.a1), AV.pv (PV.int IntKind.i64 x0.a2), AV.pv (PV.int IntKind.i64 x0.a3), AV.pv (PV.list (96 : Nat) x0.a4), AV.own (552 : Nat), AV.pv (PV.list (3 : Nat) x0.a6), AV.pv (PV.int IntKind.i64 x0.a7), AV.pv (PV.int IntKind.i64 x0.a8), AV.pv (PV.int IntKind.i64 x0.a9), AV.pv (PV.int IntKind.i64 x0.a10), AV.pv (PV.int IntKind.i64 x0.a11), AV.pv (PV.int IntKind.i64 x0.a12), AV.pv (PV.int IntKind.i64 x0.a13), AV.pv (PV.int IntKind.i64 x0.a14), AV.pv (PV.int IntKind.i64 x0.a15), AV.pv (PV.int IntKind.i64 x0.a16)]), ((2 : Nat), Ob.box [AV.pv (PV.int IntKind.i64 (0 : Int)), AV.pv (PV.int IntKind.i64 (0 : Int)), AV.pv (PV.int IntKind.i64 (0 : Int)), AV.pv (PV.int IntKind.i64 (0 : Int)), AV.lit (96 : Nat) [], AV.lit (113 : Nat) [], AV.lit (3 : Nat) [], AV.pv (PV.int IntKind.i64 (0 : Int)), AV.pv (PV.int IntKind.i64 (0 : Int)), AV.pv (PV.int IntKind.i64 (0 : Int)), AV.pv (PV.int IntKind.i64 (0 : Int)), AV.pv (PV.int IntKind.i64 (0 : Int)), AV.pv (PV.int IntKind.i64 (0 : Int)), AV.pv (PV.int IntKind.i64 (0 : Int)), AV.pv (PV.int IntKind.i64 (0 : Int)), AV.pv (PV.int IntKind.i64 (0 : Int)), AV.pv (PV.int IntKind.i64 (0 : Int))]), ((1 : Nat), Ob.box [AV.pv (PV.int IntKind.i64 x0.a0), AV.pv (PV.int IntKind.i64 x0.a1), AV.pv (PV.int IntKind.i64 x0.a2), AV.pv (PV.int IntKind.i64 x0.a3), AV.pv (PV.list (78 : Nat) x0.a4), AV.pv (PV.list (66 : Nat) x0.a5), AV.pv (PV.list (3 : Nat) x0.a6), AV.pv (PV.int IntKind.i64 x0.a7), AV.pv (PV.int IntKind.i64 x0.a8), AV.pv (PV.int IntKind.i64 x0.a9), AV.pv (PV.int IntKind.i64 x0.a10), AV.pv (PV.int IntKind.i64 x0.a11), AV.pv (PV.int IntKind.i64 x0.a12), AV.pv (PV.int IntKind.i64 x0.a13), AV.pv (PV.int IntKind.i64 x0.a14), AV.pv (PV.int IntKind.i64 x0.a15), AV.pv (PV.int IntKind.i64 x0.a16)])], cur := (0 : Nat), ctr := (1 : Nat), fn := (37 : Nat) }
  | .s2 y5 y6 => { tmps := [AV.pv PV.undef, AV.ptr (1 : Nat) (0 : Nat), AV.ptr (2 : Nat) (0 : Nat), AV.ptr (3 : Nat) (0 : Nat), AV.pv (PV.int IntKind.i64 y5), AV.pv PV.undef, AV.pv PV.undef, AV.pv PV.undef, AV.pv PV.undef, AV.pv PV.undef, AV.pv PV.undef, AV.pv PV.undef, AV.pv PV.undef, AV.pv PV.undef, AV.pv PV.undef, AV.pv PV.undef, AV.pv PV.undef, AV.pv PV.undef, AV.pv PV.undef, AV.pv PV.undef, AV.pv PV.undef, AV.pv PV.undef, AV.pv PV.undef, AV.pv PV.undef, AV.pv PV.undef, AV.pv PV.undef, AV.pv PV.undef, AV.pv PV.undef, AV.pv PV.undef, AV.pv PV.undef, AV.pv PV.undef, AV.pv PV.undef, AV.pv PV.undef, AV.pv PV.undef, AV.pv PV.undef, AV.pv PV.undef, AV.pv PV.undef, AV.pv PV.undef, AV.pv PV.undef, AV.pv PV.undef, AV.pv PV.undef, AV.pv PV.undef, AV.pv PV.undef, AV.pv PV.undef, AV.pv PV.undef, AV.pv PV.undef, AV.pv PV.undef, AV.pv PV.undef, AV.pv PV.undef, AV.pv PV.undef, AV.pv PV.undef, AV.pv PV.undef, AV.pv PV.undef, AV.pv PV.undef, AV.pv PV.undef], stack := [], mem := [((552 : Nat), Ob.row (1 : Nat) (113 : Nat) y6), ((3 : Nat), Ob.box [AV.pv (PV.int IntKind.i64 x0.a0), AV.pv (PV.int IntKind.i64 x0.a1), AV.pv (PV.int IntKind.i64 x0.a2), AV.pv (PV.int IntKind.i64 x0.a3), AV.pv (PV.list (96 : Nat) x0.a4), AV.own (552 : Nat), AV.pv (PV.list (3 : Nat) x0.a6), AV.pv (PV.int IntKind.i64 x0.a7), AV.pv (PV.int IntKind.i64 x0.a8), AV.pv (PV.int IntKind.i64 x0.a9), AV.pv (PV.int IntKind.i64 x0.a10), AV.pv (PV.int IntKind.i64 x0.a11), AV.pv (PV.int IntKind.i64 x0.a12), AV.pv (PV.int IntKind.i64 x0.a13), AV.pv (PV.int IntKind.i64 x0.a14), AV.pv (PV.int IntKind.i64 x0.a15), AV.pv (PV.int IntKind.i64 x0.a16)]), ((2 : Nat), Ob.box [AV.pv (PV.int IntKind.i64 (0 : Int)), AV.pv (PV.int IntKind.i64 (0 : Int)), AV.pv (PV.int IntKind.i64 (0 : Int)), AV.pv (PV.int IntKind.i64 (0 : Int)), AV.lit (96 : Nat) [], AV.lit (113 : Nat) [], AV.lit (3 : Nat) [], AV.pv (PV.int IntKind.i64 (0 : Int)), AV.pv (PV.int IntKind.i64 (0 : Int)), AV.pv (PV.int IntKind.i64 (0 : Int)), AV.pv (PV.int IntKind.i64 (0 : Int)), AV.pv (PV.int IntKind.i64 (0 : Int)), AV.pv (PV.int IntKind.i64 (0 : Int)), AV.pv (PV.int IntKind.i64 (0 : Int)), AV.pv (PV.int IntKind.i64 (0 : Int)), AV.pv (PV.int IntKind.i64 (0 : Int)), AV.pv (PV.int IntKind.i64 (0 : Int))]), ((1 : Nat), Ob.box [AV.pv (PV.int IntKind.i64 x0.a0), AV.pv (PV.int IntKind.i64 x0.a1), AV.pv (PV.int IntKind.i64 x0.a2), AV.pv (PV.int IntKind.i64 x0.a3), AV.pv (PV.list (78 : Nat) x0.a4), AV.pv (PV.list (66 : Nat) x0.a5), AV.pv (PV.list (3 : Nat) x0.a6), AV.pv (PV.int IntKind.i64 x0.a7), AV.pv (PV.int IntKind.i64 x0.a8), AV.pv (PV.int IntKind.i64 x0.a9), AV.pv (PV.int IntKind.i64 x0.a10), AV.pv (PV.int IntKind.i64 x0.a11), AV.pv (PV.int IntKind.i64 x0.a12), AV.pv (PV.int IntKind.i64 x0.a13), AV.pv (PV.int IntKind.i64 x0.a14), AV.pv (PV.int IntKind.i64 x0.a15), AV.pv (PV.int IntKind.i64 x0.a16)])], cur := (0 : Nat), ctr := (1 : Nat), fn := (37 : Nat) }
inductive f37L0e where
  | e0 
  | e1 
  | e2 (y7 : List (List PV))
noncomputable def f37L0T (x0 : S33) : f37L0e → (Ex × St)
  | .e0  => (Ex.exit (0 : Nat), { tmps := [AV.pv PV.undef, AV.pv PV.undef, AV.ptr (2 : Nat) (0 : Nat), AV.ptr (3 : Nat) (0 : Nat), AV.pv PV.undef, AV.pv PV.undef, AV.pv PV.undef, AV.pv PV.undef, AV.pv PV.undef, AV.pv PV.undef, AV.pv PV.undef, AV.pv PV.undef, AV.pv PV.undef, AV.pv PV.undef, AV.pv PV.undef, AV.pv PV.undef, AV.pv PV.undef, AV.pv PV.undef, AV.pv PV.undef, AV.pv PV.undef, AV.pv PV.undef, AV.pv PV.undef, AV.pv PV.undef, AV.pv PV.undef, AV.pv PV.undef, AV.pv PV.undef, AV.pv PV.undef, AV.pv PV.undef, AV.pv PV.undef, AV.pv PV.undef, AV.pv PV.undef, AV.pv PV.undef, AV.pv PV.undef, AV.pv PV.undef, AV.pv PV.undef, AV.pv PV.undef, AV.pv PV.undef, AV.pv PV.undef, AV.pv PV.undef, AV.pv PV.undef, AV.pv PV.undef, AV.pv PV.undef, AV.pv PV.undef, AV.pv PV.undef, AV.pv PV.undef, AV.pv PV.undef, AV.pv PV.undef, AV.pv PV.undef, AV.pv PV.undef, AV.pv PV.undef, AV.pv PV.undef, AV.pv PV.undef, AV.pv PV.undef, AV.pv PV.undef, AV.pv PV.undef], stack := [], mem := [((3 : Nat), Ob.box [AV.pv (PV.int IntKind.i64 x0.a0), AV.pv (PV.int IntKind.i64 x0.a1), AV.pv (PV.int IntKind.i64 x0.a2), AV.pv (PV.int IntKind.i64 x0.a3), AV.pv (PV.list (96 : Nat) x0.a4), AV.lit (113 : Nat) [], AV.pv (PV.list (3 : Nat) x0.a6), AV.pv (PV.int IntKind.i64 x0.a7), AV.pv (PV.int IntKind.i64 x0.a8), AV.pv (PV.int IntKind.i64 x0.a9), AV.pv (PV.int IntKind.i64 x0.a10), AV.pv (PV.int IntKind.i64 x0.a11), AV.pv (PV.int IntKind.i64 x0.a12), AV.pv (PV.int IntKind.i64 x0.a13), AV.pv (PV.int IntKind.i64 x0.a14), AV.pv (PV.int IntKind.i64 x0.a15), AV.pv (PV.int IntKind.i64 x0.a16)]), ((2 : Nat), Ob.box [AV.pv (PV.int IntKind.i64 (0 : Int)), AV.pv (PV.int IntKind.i64 (0 : Int)), AV.pv (PV.int IntKind.i64 (0 : Int)), AV.pv (PV.int IntKind.i64 (0 : Int)), AV.lit (96 : Nat) [], AV.lit (113 : Nat) [], AV.lit (3 : Nat) [], AV.pv (PV.int IntKind.i64 (0 : Int)), AV.pv (PV.int IntKind.i64 (0 : Int)), AV.pv (PV.int IntKind.i64 (0 : Int)), AV.pv (PV.int IntKind.i64 (0 : Int)), AV.pv (PV.int IntKind.i64 (0 : Int)), AV.pv (PV.int IntKind.i64 (0 : Int)), AV.pv (PV.int IntKind.i64 (0 : Int)), AV.pv (PV.int IntKind.i64 (0 : Int)), AV.pv (PV.int IntKind.i64 (0 : Int)), AV.pv (PV.int IntKind.i64 (0 : Int))])], cur := (0 : Nat), ctr := (1 : Nat), fn := (37 : Nat) })
  | .e1  => (Ex.exit (0 : Nat), { tmps := [AV.pv PV.undef, AV.pv PV.undef, AV.ptr (2 : Nat) (0 : Nat), AV.ptr (3 : Nat) (0 : Nat), AV.pv PV.undef, AV.pv PV.undef, AV.pv PV.undef, AV.pv PV.undef, AV.pv PV.undef, AV.pv PV.undef, AV.pv PV.undef, AV.pv PV.undef, AV.pv PV.undef, AV.pv PV.undef, AV.pv PV.undef, AV.pv PV.undef, AV.pv PV.undef, AV.pv PV.undef, AV.pv PV.undef, AV.pv PV.undef, AV.pv PV.undef, AV.pv PV.undef, AV.pv PV.undef, AV.pv PV.undef, AV.pv PV.undef, AV.pv PV.undef, AV.pv PV.undef, AV.pv PV.undef, AV.pv PV.undef, AV.pv PV.undef, AV.pv PV.undef, AV.pv PV.undef, AV.pv PV.undef, AV.pv PV.undef, AV.pv PV.undef, AV.pv PV.undef, AV.pv PV.undef, AV.pv PV.undef, AV.pv PV.undef, AV.pv PV.undef, AV.pv PV.undef, AV.pv PV.undef, AV.pv PV.undef, AV.pv PV.undef, AV.pv PV.undef, AV.pv PV.undef, AV.pv PV.undef, AV.pv PV.undef, AV.pv PV.undef, AV.pv PV.undef, AV.pv PV.undef, AV.pv PV.undef, AV.pv PV.undef, AV.pv PV.undef, AV.pv PV.undef], stack := [], mem := [((552 : Nat), Ob.row (2 : Nat) (113 : Nat) [[PV.int IntKind.i64 (pInt ((x0.a5.getD (Int.toNat (0 : Int)) []).headD PV.undef)), PV.int IntKind.i64 (pInt ((x0.a5.getD (Int.toNat (0 : Int)) []).tail.headD PV.undef))]]), ((3 : Nat), Ob.box [AV.pv (PV.int IntKind.i64 x0.a0), AV.pv (PV.int IntKind.i64 x0.a1), AV.pv (PV.int IntKind.i64 x0.a2), AV.pv (PV.int IntKind.i64 x0.a3), AV.pv (PV.list (96 : Nat) x0.a4), AV.own (552 : Nat), AV.pv (PV.list (3 : Nat) x0.a6), AV.pv (PV.int IntKind.i64 x0.a7), AV.pv (PV.int IntKind.i64 x0.a8), AV.pv (PV.int IntKind.i64 x0.a9), AV.pv (PV.int IntKind.i64 x0.a10), AV.pv (PV.int IntKind.i64 x0.a11), AV.pv (PV.int IntKind.i64 x0.a12), AV.pv (PV.int IntKind.i64 x0.a13), AV.pv (PV.int IntKind.i64 x0.a14), AV.pv (PV.int IntKind.i64 x0.a15), AV.pv (PV.int IntKind.i64 x0.a16)]), ((2 : Nat), Ob.box [AV.pv (PV.int IntKind.i64 (0 : Int)), AV.pv (PV.int IntKind.i64 (0 : Int)), AV.pv (PV.int IntKind.i64 (0 : Int)), AV.pv (PV.int IntKind.i64 (0 : Int)), AV.lit (96 : Nat) [], AV.lit (113 : Nat) [], AV.lit (3 : Nat) [], AV.pv (PV.int IntKind.i64 (0 : Int)), AV.pv (PV.int IntKind.i64 (0 : Int)), AV.pv (PV.int IntKind.i64 (0 : Int)), AV.pv (PV.int IntKind.i64 (0 : Int)), AV.pv (PV.int IntKind.i64 (0 : Int)), AV.pv (PV.int IntKind.i64 (0 : Int)), AV.pv (PV.int IntKind.i64 (0 : Int)), AV.pv (PV.int IntKind.i64 (0 : Int)), AV.pv (PV.int IntKind.i64 (0 : Int)), AV.pv (PV.int IntKind.i64 (0 : Int))])], cur := (0 : Nat), ctr := (1 : Nat), fn := (37 : Nat) })
  | .e2 y7 => (Ex.exit (0 : Nat), { tmps := [AV.pv PV.undef, AV.pv PV.undef, AV.ptr (2 : Nat) (0 : Nat), AV.ptr (3 : Nat) (0 : Nat), AV.pv PV.undef, AV.pv PV.undef, AV.pv PV.undef, AV.pv PV.undef, AV.pv PV.undef, AV.pv PV.undef, AV.pv PV.undef, AV.pv PV.undef, AV.pv PV.undef, AV.pv PV.undef, AV.pv PV.undef, AV.pv PV.undef, AV.pv PV.undef, AV.pv PV.undef, AV.pv PV.undef, AV.pv PV.undef, AV.pv PV.undef, AV.pv PV.undef, AV.pv PV.undef, AV.pv PV.undef, AV.pv PV.undef, AV.pv PV.undef, AV.pv PV.undef, AV.pv PV.undef, AV.pv PV.undef, AV.pv PV.undef, AV.pv PV.undef, AV.pv PV.undef, AV.pv PV.undef, AV.pv PV.undef, AV.pv PV.undef, AV.pv PV.undef, AV.pv PV.undef, AV.pv PV.undef, AV.pv PV.undef, AV.pv PV.undef, AV.pv PV.undef, AV.pv PV.undef, AV.pv PV.undef, AV.pv PV.undef, AV.pv PV.undef, AV.pv PV.undef, AV.pv PV.undef, AV.pv PV.undef, AV.pv PV.undef, AV.pv PV.undef, AV.pv PV.undef, AV.pv PV.undef, AV.pv PV.undef, AV.pv PV.undef, AV.pv PV.undef], stack := [], mem := [((552 : Nat), Ob.row (1 : Nat) (113 : Nat) y7), ((3 : Nat), Ob.box [AV.pv (PV.int IntKind.i64 x0.a0), AV.pv (PV.int IntKind.i64 x0.a1), AV.pv (PV.int IntKind.i64 x0.a2), AV.pv (PV.int IntKind.i64 x0.a3), AV.pv (PV.list (96 : Nat) x0.a4), AV.own (552 : Nat), AV.pv (PV.list (3 : Nat) x0.a6), AV.pv (PV.int IntKind.i64 x0.a7), AV.pv (PV.int IntKind.i64 x0.a8), AV.pv (PV.int IntKind.i64 x0.a9), AV.pv (PV.int IntKind.i64 x0.a10), AV.pv (PV.int IntKind.i64 x0.a11), AV.pv (PV.int IntKind.i64 x0.a12), AV.pv (PV.int IntKind.i64 x0.a13), AV.pv (PV.int IntKind.i64 x0.a14), AV.pv (PV.int IntKind.i64 x0.a15), AV.pv (PV.int IntKind.i64 x0.a16)]), ((2 : Nat), Ob.box [AV.pv (PV.int IntKind.i64 (0 : Int)), AV.pv (PV.int IntKind.i64 (0 : Int)), AV.pv (PV.int IntKind.i64 (0 : Int)), AV.pv (PV.int IntKind.i64 (0 : Int)), AV.lit (96 : Nat) [], AV.lit (113 : Nat) [], AV.lit (3 : Nat) [], AV.pv (PV.int IntKind.i64 (0 : Int)), AV.pv (PV.int IntKind.i64 (0 : Int)), AV.pv (PV.int IntKind.i64 (0 : Int)), AV.pv (PV.int IntKind.i64 (0 : Int)), AV.pv (PV.int IntKind.i64 (0 : Int)), AV.pv (PV.int IntKind.i64 (0 : Int)), AV.pv (PV.int IntKind.i64 (0 : Int)), AV.pv (PV.int IntKind.i64 (0 : Int)), AV.pv (PV.int IntKind.i64 (0 : Int)), AV.pv (PV.int IntKind.i64 (0 : Int))])], cur := (0 : Nat), ctr := (1 : Nat), fn := (37 : Nat) })
noncomputable def f37L0it8 (x0 : S33) : Tr (f37L0s ⊕ f37L0e) := (.test (decide ((0 : Int) < (↑x0.a5.length : Int))) (.test (decide ((0 : Int) ≤ (0 : Int)) && decide ((0 : Int) < (↑x0.a5.length : Int))) (.ret (.inl (.s1))) .fail) (.ret (.inr (.e0))))
noncomputable def f37L0it9 (x0 : S33) : Tr (f37L0s ⊕ f37L0e) := (.test (decide ((1 : Int) < (↑x0.a5.length : Int))) (.test (decide ((0 : Int) ≤ (1 : Int)) && decide ((1 : Int) < (↑x0.a5.length : Int))) (.ret (.inl (.s2 ((2 : Int)) ([[PV.int IntKind.i64 (pInt ((x0.a5.getD (Int.toNat (0 : Int)) []).headD PV.undef)), PV.int IntKind.i64 (pInt ((x0.a5.getD (Int.toNat (0 : Int)) []).tail.headD PV.undef))], [PV.int IntKind.i64 (pInt ((x0.a5.getD (Int.toNat (1 : Int)) []).headD PV.undef)), PV.int IntKind.i64 (pInt ((x0.a5.getD (Int.toNat (1 : Int)) []).tail.headD PV.undef))]])))) .fail) (.ret (.inr (.e1))))
noncomputable def f37L0it12 (x0 : S33) (z10 : Int) (z11 : List (List PV)) : Tr (f37L0s ⊕ f37L0e) := (.test (decide (z10 < (↑x0.a5.length : Int))) (.test (decide ((0 : Int) ≤ z10) && decide (z10 < (↑x0.a5.length : Int))) (.test (decide (z11.length + [[PV.int IntKind.i64 (pInt ((x0.a5.getD z10.toNat []).headD PV.undef)), PV.int IntKind.i64 (pInt ((x0.a5.getD z10.toNat []).tail.headD PV.undef))]].length ≤ most)) (.ret (.inl (.s2 (IntKind.i64.wrap (z10 + (1 : Int))) (z11 ++ [[PV.int IntKind.i64 (pInt ((x0.a5.getD z10.toNat []).headD PV.undef)), PV.int IntKind.i64 (pInt ((x0.a5.getD z10.toNat []).tail.headD PV.undef))]])))) .fail) .fail) (.ret (.inr (.e2 (z11)))))
noncomputable def f37L0r (N : Nat) (x0 : S33) : f37L0s → Option (f37L0s ⊕ f37L0e)
  | .s0  => Tr.run (f37L0it8 x0)
  | .s1  => Tr.run (f37L0it9 x0)
  | .s2 z10 z11 => Tr.run (f37L0it12 x0 z10 z11)
theorem f37L0_step (N : Nat) (x0 : S33) : ∀ x, (roundAt (E2 N) (94 : Nat) (37 : Nat) (1 : Nat) (f37L0c N x0) (f37L0S x0 x)).run = (f37L0r N x0 x).map (sumMap (f37L0S x0) (f37L0T x0))
  | .s0  => (Tr.run_of (g := (f37L0it8 x0)) (f := (sumMap (f37L0S x0) (f37L0T x0))) (by kernel_rfl))
  | .s1  => (Tr.run_of (g := (f37L0it9 x0)) (f := (sumMap (f37L0S x0) (f37L0T x0))) (by kernel_rfl))
  | .s2 z10 z11 => (Tr.run_of (g := (f37L0it12 x0 z10 z11)) (f := (sumMap (f37L0S x0) (f37L0T x0))) (by kernel_rfl))
noncomputable def f37t13 (x0 : S33) : Tr f37o := (.ret (.mk (x0.a0) (x0.a1) (x0.a2) (x0.a3) (x0.a4) ([]) (x0.a6) (x0.a7) (x0.a8) (x0.a9) (x0.a10) (x0.a11) (x0.a12) (x0.a13) (x0.a14) (x0.a15) (x0.a16)))
noncomputable def f37t14 (x0 : S33) : Tr f37o := (.ret (.mk (x0.a0) (x0.a1) (x0.a2) (x0.a3) (x0.a4) ([[PV.int IntKind.i64 (pInt ((x0.a5.getD (Int.toNat (0 : Int)) []).headD PV.undef)), PV.int IntKind.i64 (pInt ((x0.a5.getD (Int.toNat (0 : Int)) []).tail.headD PV.undef))]]) (x0.a6) (x0.a7) (x0.a8) (x0.a9) (x0.a10) (x0.a11) (x0.a12) (x0.a13) (x0.a14) (x0.a15) (x0.a16)))
noncomputable def f37t16 (x0 : S33) (w15 : List (List PV)) : Tr f37o := (.ret (.mk (x0.a0) (x0.a1) (x0.a2) (x0.a3) (x0.a4) (w15) (x0.a6) (x0.a7) (x0.a8) (x0.a9) (x0.a10) (x0.a11) (x0.a12) (x0.a13) (x0.a14) (x0.a15) (x0.a16)))
noncomputable def f37 (N : Nat) (x0 : S33) : Option f37o := (bif (decide (x0.a4.length ≤ most)) then ((loopN (f37L0r N x0) N (.s0)).bind (fun
    | .e0  => Tr.run (f37t13 x0)
    | .e1  => Tr.run (f37t14 x0)
    | .e2 w15 => Tr.run (f37t16 x0 w15))) else (Tr.run .fail))
theorem f37_run (N : Nat) (x0 : S33) : (evFit f37rs (evRes (E2 N) (100 : Nat) (37 : Nat) [(S33v x0)])).run = (f37 N x0).map f37W := (test_run (t := (evFit f37rs (evRes (E2 N) (100 : Nat) (37 : Nat) [(S33v x0)]))) (b := decide (x0.a4.length ≤ most)) (by kernel_rfl) (by kernel_rfl) (wait_run (wrap := f37W) (E := E2 N) (n := (94 : Nat)) (f := (37 : Nat)) (c0 := (1 : Nat)) (c := (f37L0c N x0)) (s := Tr.waitS (Tr.sub [true] (evFit f37rs (evRes (E2 N) (100 : Nat) (37 : Nat) [(S33v x0)])))) (f37L0S x0) (f37L0T x0) (f37L0r N x0) (.s0) _ (f37L0_step N x0) (by kernel_rfl) (by kernel_rfl) (by kernel_rfl) (by kernel_rfl) (by kernel_rfl) (fun
    | .e0  => (Tr.run_of (g := (f37t13 x0)) (f := f37W) (by kernel_rfl))
    | .e1  => (Tr.run_of (g := (f37t14 x0)) (f := f37W) (by kernel_rfl))
    | .e2 w15 => (Tr.run_of (g := (f37t16 x0 w15)) (f := f37W) (by kernel_rfl)))) (Tr.run_of (g := .fail) (f := f37W) (by kernel_rfl)))
structure f39o where
  r0 ::
  (y6 : Bool)
noncomputable def f39W (o : f39o) : Res := (fun y6 => Res.pv (PV.bool y6)) o.y6
noncomputable def f39L0c (N : Nat) (x0 : S46) (x1 : S46) : Code := Tr.waitC (Tr.sub [false] (Tr.sub [false] (Tr.sub [false, false, false, false, false, false, false, false, false, false, false, false, false, false, false] (Tr.sub [false] (Tr.sub [true] (evRes (E2 N) (100 : Nat) (39 : Nat) [(S46v x0), (S46v x1)]))))))
inductive f39L0s where
  | s0 (y3 : Int)
noncomputable def f39L0S (x0 : S46) (x1 : S46) : f39L0s → St
  | .s0 y3 => { tmps := [AV.pv PV.undef, AV.pv PV.undef, AV.ptr (2 : Nat) (0 : Nat), AV.ptr (3 : Nat) (0 : Nat), AV.pv PV.undef, AV.pv (PV.int IntKind.i64 y3), AV.pv PV.undef, AV.pv PV.undef, AV.pv PV.undef, AV.pv PV.undef, AV.pv PV.undef, AV.pv PV.undef, AV.pv PV.undef, AV.pv PV.undef, AV.pv PV.undef, AV.pv PV.undef, AV.pv PV.undef, AV.pv PV.undef, AV.pv PV.undef, AV.pv PV.undef, AV.pv PV.undef, AV.pv PV.undef, AV.pv PV.undef, AV.pv PV.undef, AV.pv PV.undef, AV.pv PV.undef, AV.pv PV.undef, AV.pv PV.undef, AV.pv PV.undef, AV.pv PV.undef, AV.pv PV.undef, AV.pv PV.undef, AV.pv PV.undef, AV.pv PV.undef, AV.pv PV.undef, AV.pv PV.undef, AV.pv PV.undef, AV.pv PV.undef, AV.pv PV.undef, AV.pv PV.undef], stack := [], mem := [((3 : Nat), Ob.box [AV.pv (PV.list (3 : Nat) x1.a0), AV.pv (PV.list (48 : Nat) x1.a1)]), ((2 : Nat), Ob.box [AV.pv (PV.list (3 : Nat) x0.a0), AV.pv (PV.list (48 : Nat) x0.a1)])], cur := (0 : Nat), ctr := (1 : Nat), fn := (39 : Nat) }
inductive f39L0e where
  | e0 
  | e1 
noncomputable def f39L0T (x0 : S46) (x1 : S46) : f39L0e → (Ex × St)
  | .e0  => (Ex.ret, { tmps := [AV.pv PV.undef, AV.pv PV.undef, AV.pv PV.undef, AV.pv PV.undef, AV.pv (PV.bool false), AV.pv PV.undef, AV.pv PV.undef, AV.pv PV.undef, AV.pv PV.undef, AV.pv PV.undef, AV.pv PV.undef, AV.pv PV.undef, AV.pv PV.undef, AV.pv PV.undef, AV.pv PV.undef, AV.pv PV.undef, AV.pv PV.undef, AV.pv PV.undef, AV.pv PV.undef, AV.pv PV.undef, AV.pv PV.undef, AV.pv PV.undef, AV.pv PV.undef, AV.pv PV.undef, AV.pv PV.undef, AV.pv PV.undef, AV.pv PV.undef, AV.pv PV.undef, AV.pv PV.undef, AV.pv PV.undef, AV.pv PV.undef, AV.pv PV.undef, AV.pv PV.undef, AV.pv PV.undef, AV.pv PV.undef, AV.pv PV.undef, AV.pv PV.undef, AV.pv PV.undef, AV.pv PV.undef, AV.pv PV.undef], stack := [], mem := [], cur := (0 : Nat), ctr := (1 : Nat), fn := (39 : Nat) })
  | .e1  => (Ex.exit (0 : Nat), { tmps := [AV.pv PV.undef, AV.pv PV.undef, AV.pv PV.undef, AV.pv PV.undef, AV.pv PV.undef, AV.pv PV.undef, AV.pv PV.undef, AV.pv PV.undef, AV.pv PV.undef, AV.pv PV.undef, AV.pv PV.undef, AV.pv PV.undef, AV.pv PV.undef, AV.pv PV.undef, AV.pv PV.undef, AV.pv PV.undef, AV.pv PV.undef, AV.pv PV.undef, AV.pv PV.undef, AV.pv PV.undef, AV.pv PV.undef, AV.pv PV.undef, AV.pv PV.undef, AV.pv PV.undef, AV.pv PV.undef, AV.pv PV.undef, AV.pv PV.undef, AV.pv PV.undef, AV.pv PV.undef, AV.pv PV.undef, AV.pv PV.undef, AV.pv PV.undef, AV.pv PV.undef, AV.pv PV.undef, AV.pv PV.undef, AV.pv PV.undef, AV.pv PV.undef, AV.pv PV.undef, AV.pv PV.undef, AV.pv PV.undef], stack := [], mem := [], cur := (0 : Nat), ctr := (1 : Nat), fn := (39 : Nat) })
noncomputable def f39L0it5 (x0 : S46) (x1 : S46) (z4 : Int) : Tr (f39L0s ⊕ f39L0e) := (.test (decide (z4 < (↑x0.a1.length : Int))) (.test (decide ((0 : Int) ≤ z4) && decide (z4 < (↑x0.a1.length : Int))) (.test (decide ((0 : Int) ≤ z4) && decide (z4 < (↑x1.a1.length : Int))) (.test (decide ((pList ((x0.a1.getD z4.toNat []).headD PV.undef)).length ≤ huge)) (.test (!alike same3 (pList ((x0.a1.getD z4.toNat []).headD PV.undef)) (pList ((x1.a1.getD z4.toNat []).headD PV.undef))) (.ret (.inr (.e0))) (.ret (.inl (.s0 (IntKind.i64.wrap (z4 + (1 : Int))))))) .fail) .fail) .fail) (.ret (.inr (.e1))))
noncomputable def f39L0r (N : Nat) (x0 : S46) (x1 : S46) : f39L0s → Option (f39L0s ⊕ f39L0e)
  | .s0 z4 => Tr.run (f39L0it5 x0 x1 z4)
theorem f39L0_step (N : Nat) (x0 : S46) (x1 : S46) : ∀ x, (roundAt (E2 N) (94 : Nat) (39 : Nat) (1 : Nat) (f39L0c N x0 x1) (f39L0S x0 x1 x)).run = (f39L0r N x0 x1 x).map (sumMap (f39L0S x0 x1) (f39L0T x0 x1))
  | .s0 z4 => (Tr.run_of (g := (f39L0it5 x0 x1 z4)) (f := (sumMap (f39L0S x0 x1) (f39L0T x0 x1))) (by kernel_rfl))
noncomputable def f39 (N : Nat) (x0 : S46) (x1 : S46) : Option f39o := (bif (decide (x0.a0.length ≤ huge)) then (bif (!alike same1 x0.a0 x1.a0) then (Tr.run (.ret (.r0 (false)))) else (bif ((↑x0.a1.length : Int) != (↑x1.a1.length : Int)) then (Tr.run (.ret (.r0 (false)))) else ((loopN (f39L0r N x0 x1) N (.s0 ((0 : Int)))).bind (fun
    | .e0  => Tr.run (.ret (.r0 (false)))
    | .e1  => Tr.run (.ret (.r0 (true))))))) else (Tr.run .fail))
theorem f39_run (N : Nat) (x0 : S46) (x1 : S46) : (evRes (E2 N) (100 : Nat) (39 : Nat) [(S46v x0), (S46v x1)]).run = (f39 N x0 x1).map f39W := (test_run (t := (evRes (E2 N) (100 : Nat) (39 : Nat) [(S46v x0), (S46v x1)])) (b := decide (x0.a0.length ≤ huge)) (by kernel_rfl) (by kernel_rfl) (test_run (t := (Tr.sub [true] (evRes (E2 N) (100 : Nat) (39 : Nat) [(S46v x0), (S46v x1)]))) (b := !alike same1 x0.a0 x1.a0) (by kernel_rfl) (by kernel_rfl) (Tr.run_of (g := (.ret (.r0 (false)))) (f := f39W) (by kernel_rfl)) (skip_run [false, false, false, false, false, false, false, false, false, false, false, false, false, false, false] (by kernel_rfl) (test_run (t := (Tr.sub [false, false, false, false, false, false, false, false, false, false, false, false, false, false, false] (Tr.sub [false] (Tr.sub [true] (evRes (E2 N) (100 : Nat) (39 : Nat) [(S46v x0), (S46v x1)]))))) (b := (↑x0.a1.length : Int) != (↑x1.a1.length : Int)) (by kernel_rfl) (by kernel_rfl) (Tr.run_of (g := (.ret (.r0 (false)))) (f := f39W) (by kernel_rfl)) (skip_run [false] (by kernel_rfl) (wait_run (wrap := f39W) (E := E2 N) (n := (94 : Nat)) (f := (39 : Nat)) (c0 := (1 : Nat)) (c := (f39L0c N x0 x1)) (s := Tr.waitS (Tr.sub [false] (Tr.sub [false] (Tr.sub [false, false, false, false, false, false, false, false, false, false, false, false, false, false, false] (Tr.sub [false] (Tr.sub [true] (evRes (E2 N) (100 : Nat) (39 : Nat) [(S46v x0), (S46v x1)]))))))) (f39L0S x0 x1) (f39L0T x0 x1) (f39L0r N x0 x1) (.s0 ((0 : Int))) _ (f39L0_step N x0 x1) (by kernel_rfl) (by kernel_rfl) (by kernel_rfl) (by kernel_rfl) (by kernel_rfl) (fun
    | .e0  => (Tr.run_of (g := (.ret (.r0 (false)))) (f := f39W) (by kernel_rfl))
    | .e1  => (Tr.run_of (g := (.ret (.r0 (true)))) (f := f39W) (by kernel_rfl)))))))) (Tr.run_of (g := .fail) (f := f39W) (by kernel_rfl)))
structure f41o where
  r0 ::
  (y6 : Bool)
noncomputable def f41W (o : f41o) : Res := (fun y6 => Res.pv (PV.bool y6)) o.y6
noncomputable def f41L0c (N : Nat) (x0 : S52) (x1 : S52) : Code := Tr.waitC (Tr.sub [false] (Tr.sub [false] (Tr.sub [false, false, false, false, false, false, false, false, false, false, false, false, false, false, false] (Tr.sub [false] (evRes (E2 N) (100 : Nat) (41 : Nat) [(S52v x0), (S52v x1)])))))
inductive f41L0s where
  | s0 (y3 : Int)
noncomputable def f41L0S (x0 : S52) (x1 : S52) : f41L0s → St
  | .s0 y3 => { tmps := [AV.pv PV.undef, AV.pv PV.undef, AV.ptr (2 : Nat) (0 : Nat), AV.ptr (3 : Nat) (0 : Nat), AV.pv PV.undef, AV.pv (PV.int IntKind.i64 y3), AV.pv PV.undef, AV.pv PV.undef, AV.pv PV.undef, AV.pv PV.undef, AV.pv PV.undef, AV.pv PV.undef, AV.pv PV.undef, AV.pv PV.undef, AV.pv PV.undef, AV.pv PV.undef, AV.pv PV.undef, AV.pv PV.undef, AV.pv PV.undef, AV.pv PV.undef, AV.pv PV.undef, AV.pv PV.undef, AV.pv PV.undef, AV.pv PV.undef, AV.pv PV.undef, AV.pv PV.undef, AV.pv PV.undef, AV.pv PV.undef, AV.pv PV.undef, AV.pv PV.undef, AV.pv PV.undef, AV.pv PV.undef, AV.pv PV.undef, AV.pv PV.undef, AV.pv PV.undef, AV.pv PV.undef, AV.pv PV.undef, AV.pv PV.undef], stack := [], mem := [((3 : Nat), Ob.box [AV.pv (PV.list (3 : Nat) x1.a0), AV.pv (PV.int IntKind.i64 x1.a1)]), ((2 : Nat), Ob.box [AV.pv (PV.list (3 : Nat) x0.a0), AV.pv (PV.int IntKind.i64 x0.a1)])], cur := (0 : Nat), ctr := (1 : Nat), fn := (41 : Nat) }
inductive f41L0e where
  | e0 
  | e1 
noncomputable def f41L0T (x0 : S52) (x1 : S52) : f41L0e → (Ex × St)
  | .e0  => (Ex.ret, { tmps := [AV.pv PV.undef, AV.pv PV.undef, AV.pv PV.undef, AV.pv PV.undef, AV.pv (PV.bool false), AV.pv PV.undef, AV.pv PV.undef, AV.pv PV.undef, AV.pv PV.undef, AV.pv PV.undef, AV.pv PV.undef, AV.pv PV.undef, AV.pv PV.undef, AV.pv PV.undef, AV.pv PV.undef, AV.pv PV.undef, AV.pv PV.undef, AV.pv PV.undef, AV.pv PV.undef, AV.pv PV.undef, AV.pv PV.undef, AV.pv PV.undef, AV.pv PV.undef, AV.pv PV.undef, AV.pv PV.undef, AV.pv PV.undef, AV.pv PV.undef, AV.pv PV.undef, AV.pv PV.undef, AV.pv PV.undef, AV.pv PV.undef, AV.pv PV.undef, AV.pv PV.undef, AV.pv PV.undef, AV.pv PV.undef, AV.pv PV.undef, AV.pv PV.undef, AV.pv PV.undef], stack := [], mem := [], cur := (0 : Nat), ctr := (1 : Nat), fn := (41 : Nat) })
  | .e1  => (Ex.exit (0 : Nat), { tmps := [AV.pv PV.undef, AV.pv PV.undef, AV.pv PV.undef, AV.pv PV.undef, AV.pv PV.undef, AV.pv PV.undef, AV.pv PV.undef, AV.pv PV.undef, AV.pv PV.undef, AV.pv PV.undef, AV.pv PV.undef, AV.pv PV.undef, AV.pv PV.undef, AV.pv PV.undef, AV.pv PV.undef, AV.pv PV.undef, AV.pv PV.undef, AV.pv PV.undef, AV.pv PV.undef, AV.pv PV.undef, AV.pv PV.undef, AV.pv PV.undef, AV.pv PV.undef, AV.pv PV.undef, AV.pv PV.undef, AV.pv PV.undef, AV.pv PV.undef, AV.pv PV.undef, AV.pv PV.undef, AV.pv PV.undef, AV.pv PV.undef, AV.pv PV.undef, AV.pv PV.undef, AV.pv PV.undef, AV.pv PV.undef, AV.pv PV.undef, AV.pv PV.undef, AV.pv PV.undef], stack := [], mem := [], cur := (0 : Nat), ctr := (1 : Nat), fn := (41 : Nat) })
noncomputable def f41L0it5 (x0 : S52) (x1 : S52) (z4 : Int) : Tr (f41L0s ⊕ f41L0e) := (.test (decide (z4 < (↑x0.a0.length : Int))) (.test (decide ((0 : Int) ≤ z4) && decide (z4 < (↑x0.a0.length : Int))) (.test (decide ((0 : Int) ≤ z4) && decide (z4 < (↑x1.a0.length : Int))) (.test (pInt ((x0.a0.getD z4.toNat []).headD PV.undef) != pInt ((x1.a0.getD z4.toNat []).headD PV.undef)) (.ret (.inr (.e0))) (.ret (.inl (.s0 (IntKind.i64.wrap (z4 + (1 : Int))))))) .fail) .fail) (.ret (.inr (.e1))))
noncomputable def f41L0r (N : Nat) (x0 : S52) (x1 : S52) : f41L0s → Option (f41L0s ⊕ f41L0e)
  | .s0 z4 => Tr.run (f41L0it5 x0 x1 z4)
theorem f41L0_step (N : Nat) (x0 : S52) (x1 : S52) : ∀ x, (roundAt (E2 N) (94 : Nat) (41 : Nat) (1 : Nat) (f41L0c N x0 x1) (f41L0S x0 x1 x)).run = (f41L0r N x0 x1 x).map (sumMap (f41L0S x0 x1) (f41L0T x0 x1))
  | .s0 z4 => (Tr.run_of (g := (f41L0it5 x0 x1 z4)) (f := (sumMap (f41L0S x0 x1) (f41L0T x0 x1))) (by kernel_rfl))
noncomputable def f41 (N : Nat) (x0 : S52) (x1 : S52) : Option f41o := (bif (x0.a1 != x1.a1) then (Tr.run (.ret (.r0 (false)))) else (bif ((↑x0.a0.length : Int) != (↑x1.a0.length : Int)) then (Tr.run (.ret (.r0 (false)))) else ((loopN (f41L0r N x0 x1) N (.s0 ((0 : Int)))).bind (fun
    | .e0  => Tr.run (.ret (.r0 (false)))
    | .e1  => Tr.run (.ret (.r0 (true)))))))
theorem f41_run (N : Nat) (x0 : S52) (x1 : S52) : (evRes (E2 N) (100 : Nat) (41 : Nat) [(S52v x0), (S52v x1)]).run = (f41 N x0 x1).map f41W := (test_run (t := (evRes (E2 N) (100 : Nat) (41 : Nat) [(S52v x0), (S52v x1)])) (b := x0.a1 != x1.a1) (by kernel_rfl) (by kernel_rfl) (Tr.run_of (g := (.ret (.r0 (false)))) (f := f41W) (by kernel_rfl)) (skip_run [false, false, false, false, false, false, false, false, false, false, false, false, false, false, false] (by kernel_rfl) (test_run (t := (Tr.sub [false, false, false, false, false, false, false, false, false, false, false, false, false, false, false] (Tr.sub [false] (evRes (E2 N) (100 : Nat) (41 : Nat) [(S52v x0), (S52v x1)])))) (b := (↑x0.a0.length : Int) != (↑x1.a0.length : Int)) (by kernel_rfl) (by kernel_rfl) (Tr.run_of (g := (.ret (.r0 (false)))) (f := f41W) (by kernel_rfl)) (skip_run [false] (by kernel_rfl) (wait_run (wrap := f41W) (E := E2 N) (n := (94 : Nat)) (f := (41 : Nat)) (c0 := (1 : Nat)) (c := (f41L0c N x0 x1)) (s := Tr.waitS (Tr.sub [false] (Tr.sub [false] (Tr.sub [false, false, false, false, false, false, false, false, false, false, false, false, false, false, false] (Tr.sub [false] (evRes (E2 N) (100 : Nat) (41 : Nat) [(S52v x0), (S52v x1)])))))) (f41L0S x0 x1) (f41L0T x0 x1) (f41L0r N x0 x1) (.s0 ((0 : Int))) _ (f41L0_step N x0 x1) (by kernel_rfl) (by kernel_rfl) (by kernel_rfl) (by kernel_rfl) (by kernel_rfl) (fun
    | .e0  => (Tr.run_of (g := (.ret (.r0 (false)))) (f := f41W) (by kernel_rfl))
    | .e1  => (Tr.run_of (g := (.ret (.r0 (true)))) (f := f41W) (by kernel_rfl))))))))
structure f47o where
  r0 ::
  (y0 : Bool)
noncomputable def f47W (o : f47o) : Res := (fun y0 => Res.pv (PV.bool y0)) o.y0
noncomputable def f47 (N : Nat) (x0 : List (List PV)) (x1 : List (List PV)) : Option f47o := Tr.run (.test (decide (x0.length ≤ huge)) (.ret (.r0 (alike same1 x0 x1))) .fail)
theorem f47_run (N : Nat) (x0 : List (List PV)) (x1 : List (List PV)) : (evRes (E2 N) (100 : Nat) (47 : Nat) [PV.list (3 : Nat) x0, PV.list (3 : Nat) x1]).run = (f47 N x0 x1).map f47W := (Tr.run_of (g := (.test (decide (x0.length ≤ huge)) (.ret (.r0 (alike same1 x0 x1))) .fail)) (f := f47W) (by kernel_rfl))
def f47s : List PK := [(false, [K.list 3]), (false, [K.list 3])]
noncomputable def f47a (ps : List PV) : Option f47o := f47 0 (pList (ps.headD PV.undef)) (pList (ps.tail.headD PV.undef))
noncomputable def f47d : f47o := ⟨false⟩
noncomputable def f47O : Ora := ⟨fun ps => okPs f47s ps && (f47a ps).isSome, fun ps => (f47W ((f47a ps).getD f47d)).plain⟩
theorem f47_spec : Spec Try.prog 47 f47O := spec_at 100 f47s (fun ps => (f47a ps).isSome) _ mixed fun ps hm hs hp => by
  cases h : f47a ps with
  | none => rw [h] at hp; cases hp
  | some o =>

    refine ⟨E2 0, f47W o, rfl, E2_ok 0, ?_, .inr ?_⟩
    · rw [show canPs f47s ps = [PV.list 3 (pList (ps.headD PV.undef)), PV.list 3 (pList (ps.tail.headD PV.undef))] from by kernel_rfl, f47_run 0]
      show (f47a ps).map f47W = _
      rw [h]; rfl
    · rfl
structure f49o where
  r0 ::
  (y0 : Bool)
noncomputable def f49W (o : f49o) : Res := (fun y0 => Res.pv (PV.bool y0)) o.y0
noncomputable def f49 (N : Nat) (x0 : List (List PV)) (x1 : List (List PV)) : Option f49o := Tr.run (.test (decide (x0.length ≤ huge)) (.ret (.r0 (alike same2 x0 x1))) .fail)
theorem f49_run (N : Nat) (x0 : List (List PV)) (x1 : List (List PV)) : (evRes (E2 N) (100 : Nat) (49 : Nat) [PV.list (66 : Nat) x0, PV.list (66 : Nat) x1]).run = (f49 N x0 x1).map f49W := (Tr.run_of (g := (.test (decide (x0.length ≤ huge)) (.ret (.r0 (alike same2 x0 x1))) .fail)) (f := f49W) (by kernel_rfl))
def f49s : List PK := [(false, [K.list 66]), (false, [K.list 66])]
noncomputable def f49a (ps : List PV) : Option f49o := f49 0 (pList (ps.headD PV.undef)) (pList (ps.tail.headD PV.undef))
noncomputable def f49d : f49o := ⟨false⟩
noncomputable def f49O : Ora := ⟨fun ps => okPs f49s ps && (f49a ps).isSome, fun ps => (f49W ((f49a ps).getD f49d)).plain⟩
theorem f49_spec : Spec Try.prog 49 f49O := spec_at 100 f49s (fun ps => (f49a ps).isSome) _ mixed fun ps hm hs hp => by
  cases h : f49a ps with
  | none => rw [h] at hp; cases hp
  | some o =>

    refine ⟨E2 0, f49W o, rfl, E2_ok 0, ?_, .inr ?_⟩
    · rw [show canPs f49s ps = [PV.list 66 (pList (ps.headD PV.undef)), PV.list 66 (pList (ps.tail.headD PV.undef))] from by kernel_rfl, f49_run 0]
      show (f49a ps).map f49W = _
      rw [h]; rfl
    · rfl
structure f50o where
  r0 ::
  (y0 : Bool)
noncomputable def f50W (o : f50o) : Res := (fun y0 => Res.pv (PV.bool y0)) o.y0
noncomputable def f50 (N : Nat) (x0 : List (List PV)) (x1 : List (List PV)) : Option f50o := Tr.run (.test (decide (x0.length ≤ huge)) (.ret (.r0 (alike same3 x0 x1))) .fail)
theorem f50_run (N : Nat) (x0 : List (List PV)) (x1 : List (List PV)) : (evRes (E2 N) (100 : Nat) (50 : Nat) [PV.list (78 : Nat) x0, PV.list (78 : Nat) x1]).run = (f50 N x0 x1).map f50W := (Tr.run_of (g := (.test (decide (x0.length ≤ huge)) (.ret (.r0 (alike same3 x0 x1))) .fail)) (f := f50W) (by kernel_rfl))
def f50s : List PK := [(false, [K.list 78]), (false, [K.list 78])]
noncomputable def f50a (ps : List PV) : Option f50o := f50 0 (pList (ps.headD PV.undef)) (pList (ps.tail.headD PV.undef))
noncomputable def f50d : f50o := ⟨false⟩
noncomputable def f50O : Ora := ⟨fun ps => okPs f50s ps && (f50a ps).isSome, fun ps => (f50W ((f50a ps).getD f50d)).plain⟩
theorem f50_spec : Spec Try.prog 50 f50O := spec_at 100 f50s (fun ps => (f50a ps).isSome) _ mixed fun ps hm hs hp => by
  cases h : f50a ps with
  | none => rw [h] at hp; cases hp
  | some o =>

    refine ⟨E2 0, f50W o, rfl, E2_ok 0, ?_, .inr ?_⟩
    · rw [show canPs f50s ps = [PV.list 78 (pList (ps.headD PV.undef)), PV.list 78 (pList (ps.tail.headD PV.undef))] from by kernel_rfl, f50_run 0]
      show (f50a ps).map f50W = _
      rw [h]; rfl
    · rfl
structure f55o where
  r0 ::
  (y1 : Int)
noncomputable def f55W (o : f55o) : Res := (fun y1 => Res.pv (PV.int IntKind.i64 y1)) o.y1
noncomputable def f55t0 (x0 : S23) (x1 : Int) : Tr f55o := (.test (decide (x1 < (0 : Int))) (.ret (.r0 ((-1 : Int)))) (.test (decide (x1 ≥ x0.a0)) (.ret (.r0 ((-1 : Int)))) (.test ((f69 (0 : Nat) x0).isSome) (.ret (.r0 (IntKind.i64.wrap (((f69 (0 : Nat) x0).getD f69d).a3 + IntKind.i64.wrap ((2 : Int) * x1))))) .fail)))
noncomputable def f55 (N : Nat) (x0 : S23) (x1 : Int) : Option f55o := Tr.run (f55t0 x0 x1)
theorem f55_run (N : Nat) (x0 : S23) (x1 : Int) : (evRes (E2 N) (100 : Nat) (55 : Nat) [(S23v x0), PV.int IntKind.i64 x1]).run = (f55 N x0 x1).map f55W := (Tr.run_of (g := (f55t0 x0 x1)) (f := f55W) (by kernel_rfl))
def f55s : List PK := [S23k, (false, [K.int .i64])]
noncomputable def f55a (ps : List PV) : Option f55o := f55 0 (S23r (ps.headD PV.undef)) (pInt (ps.tail.headD PV.undef))
noncomputable def f55d : f55o := ⟨0⟩
noncomputable def f55O : Ora := ⟨fun ps => okPs f55s ps && (f55a ps).isSome, fun ps => (f55W ((f55a ps).getD f55d)).plain⟩
theorem f55_spec : Spec Try.prog 55 f55O := spec_at 100 f55s (fun ps => (f55a ps).isSome) _ mixed fun ps hm hs hp => by
  cases h : f55a ps with
  | none => rw [h] at hp; cases hp
  | some o =>

    refine ⟨E2 0, f55W o, rfl, E2_ok 0, ?_, .inr ?_⟩
    · rw [show canPs f55s ps = [S23v (S23r (ps.headD PV.undef)), PV.int IntKind.i64 (pInt (ps.tail.headD PV.undef))] from by kernel_rfl, f55_run 0]
      show (f55a ps).map f55W = _
      rw [h]; rfl
    · rfl
structure f56o where
  r0 ::
  (y1 : Int)
noncomputable def f56W (o : f56o) : Res := (fun y1 => Res.pv (PV.int IntKind.i64 y1)) o.y1
noncomputable def f56t0 (x0 : S23) (x1 : Int) : Tr f56o := (.test (decide (x1 < (0 : Int))) (.ret (.r0 ((-1 : Int)))) (.test (decide (x1 ≥ x0.a0)) (.ret (.r0 ((-1 : Int)))) (.test ((f69 (0 : Nat) x0).isSome) (.ret (.r0 (IntKind.i64.wrap (IntKind.i64.wrap (((f69 (0 : Nat) x0).getD f69d).a3 + IntKind.i64.wrap ((2 : Int) * x1)) + (1 : Int))))) .fail)))
noncomputable def f56 (N : Nat) (x0 : S23) (x1 : Int) : Option f56o := Tr.run (f56t0 x0 x1)
theorem f56_run (N : Nat) (x0 : S23) (x1 : Int) : (evRes (E2 N) (100 : Nat) (56 : Nat) [(S23v x0), PV.int IntKind.i64 x1]).run = (f56 N x0 x1).map f56W := (Tr.run_of (g := (f56t0 x0 x1)) (f := f56W) (by kernel_rfl))
def f56s : List PK := [S23k, (false, [K.int .i64])]
noncomputable def f56a (ps : List PV) : Option f56o := f56 0 (S23r (ps.headD PV.undef)) (pInt (ps.tail.headD PV.undef))
noncomputable def f56d : f56o := ⟨0⟩
noncomputable def f56O : Ora := ⟨fun ps => okPs f56s ps && (f56a ps).isSome, fun ps => (f56W ((f56a ps).getD f56d)).plain⟩
theorem f56_spec : Spec Try.prog 56 f56O := spec_at 100 f56s (fun ps => (f56a ps).isSome) _ mixed fun ps hm hs hp => by
  cases h : f56a ps with
  | none => rw [h] at hp; cases hp
  | some o =>

    refine ⟨E2 0, f56W o, rfl, E2_ok 0, ?_, .inr ?_⟩
    · rw [show canPs f56s ps = [S23v (S23r (ps.headD PV.undef)), PV.int IntKind.i64 (pInt (ps.tail.headD PV.undef))] from by kernel_rfl, f56_run 0]
      show (f56a ps).map f56W = _
      rw [h]; rfl
    · rfl
structure f52o where
  r0 ::
  (y1 : Int)
noncomputable def f52W (o : f52o) : Res := (fun y1 => Res.pv (PV.int IntKind.i64 y1)) o.y1
noncomputable def f52t0 (x0 : S23) : Tr f52o := (.test ((f69 (0 : Nat) x0).isSome) (.ret (.r0 (IntKind.i64.wrap (((f69 (0 : Nat) x0).getD f69d).a3 + IntKind.i64.wrap ((2 : Int) * x0.a0))))) .fail)
noncomputable def f52 (N : Nat) (x0 : S23) : Option f52o := Tr.run (f52t0 x0)
theorem f52_run (N : Nat) (x0 : S23) : (evRes (E2 N) (100 : Nat) (52 : Nat) [(S23v x0)]).run = (f52 N x0).map f52W := (Tr.run_of (g := (f52t0 x0)) (f := f52W) (by kernel_rfl))
def f52s : List PK := [S23k]
noncomputable def f52a (ps : List PV) : Option f52o := f52 0 (S23r (ps.headD PV.undef))
noncomputable def f52d : f52o := ⟨0⟩
noncomputable def f52O : Ora := ⟨fun ps => okPs f52s ps && (f52a ps).isSome, fun ps => (f52W ((f52a ps).getD f52d)).plain⟩
theorem f52_spec : Spec Try.prog 52 f52O := spec_at 100 f52s (fun ps => (f52a ps).isSome) _ mixed fun ps hm hs hp => by
  cases h : f52a ps with
  | none => rw [h] at hp; cases hp
  | some o =>

    refine ⟨E2 0, f52W o, rfl, E2_ok 0, ?_, .inr ?_⟩
    · rw [show canPs f52s ps = [S23v (S23r (ps.headD PV.undef))] from by kernel_rfl, f52_run 0]
      show (f52a ps).map f52W = _
      rw [h]; rfl
    · rfl
structure f53o where
  r0 ::
  (y1 : Int)
noncomputable def f53W (o : f53o) : Res := (fun y1 => Res.pv (PV.int IntKind.i64 y1)) o.y1
noncomputable def f53t0 (x0 : S23) (x1 : Int) : Tr f53o := (.test (decide (x1 < (0 : Int))) (.ret (.r0 ((-1 : Int)))) (.test (decide (x1 ≥ x0.a1)) (.ret (.r0 ((-1 : Int)))) (.test ((f69 (0 : Nat) x0).isSome) (.ret (.r0 (IntKind.i64.wrap (x1 * ((f69 (0 : Nat) x0).getD f69d).a2)))) .fail)))
noncomputable def f53 (N : Nat) (x0 : S23) (x1 : Int) : Option f53o := Tr.run (f53t0 x0 x1)
theorem f53_run (N : Nat) (x0 : S23) (x1 : Int) : (evRes (E2 N) (100 : Nat) (53 : Nat) [(S23v x0), PV.int IntKind.i64 x1]).run = (f53 N x0 x1).map f53W := (Tr.run_of (g := (f53t0 x0 x1)) (f := f53W) (by kernel_rfl))
def f53s : List PK := [S23k, (false, [K.int .i64])]
noncomputable def f53a (ps : List PV) : Option f53o := f53 0 (S23r (ps.headD PV.undef)) (pInt (ps.tail.headD PV.undef))
noncomputable def f53d : f53o := ⟨0⟩
noncomputable def f53O : Ora := ⟨fun ps => okPs f53s ps && (f53a ps).isSome, fun ps => (f53W ((f53a ps).getD f53d)).plain⟩
theorem f53_spec : Spec Try.prog 53 f53O := spec_at 100 f53s (fun ps => (f53a ps).isSome) _ mixed fun ps hm hs hp => by
  cases h : f53a ps with
  | none => rw [h] at hp; cases hp
  | some o =>

    refine ⟨E2 0, f53W o, rfl, E2_ok 0, ?_, .inr ?_⟩
    · rw [show canPs f53s ps = [S23v (S23r (ps.headD PV.undef)), PV.int IntKind.i64 (pInt (ps.tail.headD PV.undef))] from by kernel_rfl, f53_run 0]
      show (f53a ps).map f53W = _
      rw [h]; rfl
    · rfl
end Go.Proofs.YtjoebchkchoomaaS
