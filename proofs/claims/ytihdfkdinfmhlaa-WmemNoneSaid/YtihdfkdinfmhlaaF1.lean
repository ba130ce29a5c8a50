/- Functions of the chapter in plain form, printed. Conditions: none. -/
import Derived.Test.YtihdfkdinfmhlaaC1
set_option linter.unusedVariables false
set_option linter.unusedSimpArgs false
set_option maxRecDepth 10000
namespace Go.Proofs.YtihdfkdinfmhlaaS
open Go Go.Proofs
noncomputable def E1 (N : Nat) : Env := (((E0 N).add 36 f36O).add 37 f37O).add 40 f40O
theorem E1_ok (N : Nat) : (E1 N).Ok := (((E0_ok N).add f36_spec).add f37_spec).add f40_spec
set_option maxHeartbeats 4000000
structure f9o where
  r0 ::
  (y7 : Bool)
noncomputable def f9W (o : f9o) : Res := (fun y7 => Res.pv (PV.bool y7)) o.y7
noncomputable def f9L0c (N : Nat) (x0 : S25) : Code := Tr.waitC (evRes (E1 N) (100 : Nat) (9 : Nat) [(S25v x0)])
inductive f9L0s where
  | s0 (y3 : Int)
noncomputable def f9L0S (x0 : S25) : f9L0s → St
  | .s0 y3 => { tmps := [AV.pv PV.undef, AV.ptr (1 : Nat) (0 : Nat), AV.pv PV.undef, AV.pv (PV.int IntKind.i64 y3), AV.pv PV.undef, AV.pv PV.undef, AV.pv PV.undef, AV.pv PV.undef, AV.pv PV.undef, AV.pv PV.undef, AV.pv PV.undef, AV.pv PV.undef, AV.pv PV.undef, AV.pv PV.undef, AV.pv PV.undef, AV.pv PV.undef, AV.pv PV.undef, AV.pv PV.undef, AV.pv PV.undef, AV.pv PV.undef, AV.pv PV.undef, AV.pv PV.undef, AV.pv PV.undef, AV.pv PV.undef, AV.pv PV.undef, AV.pv PV.undef, AV.pv PV.undef, AV.pv PV.undef, AV.pv PV.undef, AV.pv PV.undef, AV.pv PV.undef, AV.pv PV.undef], stack := [], mem := [((1 : Nat), Ob.box [AV.pv (PV.list (3 : Nat) x0.a0), AV.pv (PV.list (50 : Nat) x0.a1)])], cur := (0 : Nat), ctr := (1 : Nat), fn := (9 : Nat) }
inductive f9L0e where
  | e0 
  | e1 
noncomputable def f9L0T (x0 : S25) : f9L0e → (Ex × St)
  | .e0  => (Ex.ret, { tmps := [AV.pv PV.undef, AV.ptr (1 : Nat) (0 : Nat), AV.pv (PV.bool true), AV.pv PV.undef, AV.pv PV.undef, AV.pv PV.undef, AV.pv PV.undef, AV.pv PV.undef, AV.pv PV.undef, AV.pv PV.undef, AV.pv PV.undef, AV.pv PV.undef, AV.pv PV.undef, AV.pv PV.undef, AV.pv PV.undef, AV.pv PV.undef, AV.pv PV.undef, AV.pv PV.undef, AV.pv PV.undef, AV.pv PV.undef, AV.pv PV.undef, AV.pv PV.undef, AV.pv PV.undef, AV.pv PV.undef, AV.pv PV.undef, AV.pv PV.undef, AV.pv PV.undef, AV.pv PV.undef, AV.pv PV.undef, AV.pv PV.undef, AV.pv PV.undef, AV.pv PV.undef], stack := [], mem := [((1 : Nat), Ob.box [AV.pv (PV.list (3 : Nat) x0.a0), AV.pv (PV.list (50 : Nat) x0.a1)])], cur := (0 : Nat), ctr := (1 : Nat), fn := (9 : Nat) })
  | .e1  => (Ex.exit (0 : Nat), { tmps := [AV.pv PV.undef, AV.ptr (1 : Nat) (0 : Nat), AV.pv PV.undef, AV.pv PV.undef, AV.pv PV.undef, AV.pv PV.undef, AV.pv PV.undef, AV.pv PV.undef, AV.pv PV.undef, AV.pv PV.undef, AV.pv PV.undef, AV.pv PV.undef, AV.pv PV.undef, AV.pv PV.undef, AV.pv PV.undef, AV.pv PV.undef, AV.pv PV.undef, AV.pv PV.undef, AV.pv PV.undef, AV.pv PV.undef, AV.pv PV.undef, AV.pv PV.undef, AV.pv PV.undef, AV.pv PV.undef, AV.pv PV.undef, AV.pv PV.undef, AV.pv PV.undef, AV.pv PV.undef, AV.pv PV.undef, AV.pv PV.undef, AV.pv PV.undef, AV.pv PV.undef], stack := [], mem := [((1 : Nat), Ob.box [AV.pv (PV.list (3 : Nat) x0.a0), AV.pv (PV.list (50 : Nat) x0.a1)])], cur := (0 : Nat), ctr := (1 : Nat), fn := (9 : Nat) })
noncomputable def f9L0it5 (x0 : S25) (z4 : Int) : Tr (f9L0s ⊕ f9L0e) := (.test (decide (z4 < (↑x0.a1.length : Int))) (.test (decide (z4 < (60 : Int))) (.test (decide ((0 : Int) ≤ z4) && decide (z4 < (↑x0.a1.length : Int))) (.test (decide ((↑(pList ((x0.a1.getD z4.toNat []).headD PV.undef)).length : Int) > (50 : Int))) (.ret (.inr (.e0))) (.ret (.inl (.s0 (IntKind.i64.wrap (z4 + (1 : Int))))))) .fail) (.ret (.inr (.e1)))) (.ret (.inr (.e1))))
noncomputable def f9L0r (N : Nat) (x0 : S25) : f9L0s → Option (f9L0s ⊕ f9L0e)
  | .s0 z4 => Tr.run (f9L0it5 x0 z4)
theorem f9L0_step (N : Nat) (x0 : S25) : ∀ x, (roundAt (E1 N) (95 : Nat) (9 : Nat) (1 : Nat) (f9L0c N x0) (f9L0S x0 x)).run = (f9L0r N x0 x).map (sumMap (f9L0S x0) (f9L0T x0))
  | .s0 z4 => (Tr.run_of (g := (f9L0it5 x0 z4)) (f := (sumMap (f9L0S x0) (f9L0T x0))) (by kernel_rfl))
noncomputable def f9t6 (x0 : S25) : Tr f9o := (.test (decide ((↑x0.a0.length : Int) > (300 : Int))) (.ret (.r0 (true))) (.ret (.r0 (decide ((↑x0.a1.length : Int) > (50 : Int))))))
noncomputable def f9 (N : Nat) (x0 : S25) : Option f9o := ((loopN (f9L0r N x0) N (.s0 ((0 : Int)))).bind (fun
    | .e0  => Tr.run (.ret (.r0 (true)))
    | .e1  => Tr.run (f9t6 x0)))
theorem f9_run (N : Nat) (x0 : S25) : (evRes (E1 N) (100 : Nat) (9 : Nat) [(S25v x0)]).run = (f9 N x0).map f9W := (wait_run (wrap := f9W) (E := E1 N) (n := (95 : Nat)) (f := (9 : Nat)) (c0 := (1 : Nat)) (c := (f9L0c N x0)) (s := Tr.waitS (evRes (E1 N) (100 : Nat) (9 : Nat) [(S25v x0)])) (f9L0S x0) (f9L0T x0) (f9L0r N x0) (.s0 ((0 : Int))) _ (f9L0_step N x0) (by kernel_rfl) (by kernel_rfl) (by kernel_rfl) (by kernel_rfl) (by kernel_rfl) (fun
    | .e0  => (Tr.run_of (g := (.ret (.r0 (true)))) (f := f9W) (by kernel_rfl))
    | .e1  => (Tr.run_of (g := (f9t6 x0)) (f := f9W) (by kernel_rfl))))
structure f12o where
  r0 ::
  (y1 : Int) (y2 : Int)
noncomputable def f12W (o : f12o) : Res := (fun y1 y2 => Res.pv (PV.tup [PV.int IntKind.i64 y1, PV.int IntKind.i64 y2])) o.y1 o.y2
noncomputable def f12t0 (x0 : S25) (x1 : Int) : Tr f12o := (.test (decide (x1 < (0 : Int))) (.ret (.r0 ((0 : Int)) ((30 : Int)))) (.test (decide (x1 ≥ (↑x0.a0.length : Int))) (.ret (.r0 ((0 : Int)) ((30 : Int)))) (.test (decide ((0 : Int) ≤ x1) && decide (x1 < (↑x0.a0.length : Int))) (.ret (.r0 (pInt ((x0.a0.getD x1.toNat []).headD PV.undef)) ((0 : Int)))) .fail)))
noncomputable def f12 (N : Nat) (x0 : S25) (x1 : Int) : Option f12o := Tr.run (f12t0 x0 x1)
theorem f12_run (N : Nat) (x0 : S25) (x1 : Int) : (evRes (E1 N) (100 : Nat) (12 : Nat) [(S25v x0), PV.int IntKind.i64 x1]).run = (f12 N x0 x1).map f12W := (Tr.run_of (g := (f12t0 x0 x1)) (f := f12W) (by kernel_rfl))
def f12s : List PK := [S25k, (false, [K.int .i64])]
noncomputable def f12a (ps : List PV) : Option f12o := f12 0 (S25r (ps.headD PV.undef)) (pInt (ps.tail.headD PV.undef))
noncomputable def f12d : f12o := ⟨0, 0⟩
noncomputable def f12O : Ora := ⟨fun ps => okPs f12s ps && (f12a ps).isSome, fun ps => (f12W ((f12a ps).getD f12d)).plain⟩
theorem f12_spec : Spec Try.prog 12 f12O := spec_at 100 f12s (fun ps => (f12a ps).isSome) _ mixed fun ps hm hs hp => by
  cases h : f12a ps with
  | none => rw [h] at hp; cases hp
  | some o =>

    refine ⟨E1 0, f12W o, rfl, E1_ok 0, ?_, .inr ?_⟩
    · rw [show canPs f12s ps = [S25v (S25r (ps.headD PV.undef)), PV.int IntKind.i64 (pInt (ps.tail.headD PV.undef))] from by kernel_rfl, f12_run 0]
      show (f12a ps).map f12W = _
      rw [h]; rfl
    · rfl
structure f13o where
  r0 ::
  (y1 : Int) (y2 : Int)
noncomputable def f13W (o : f13o) : Res := (fun y1 y2 => Res.pv (PV.tup [PV.int IntKind.i64 y1, PV.int IntKind.i64 y2])) o.y1 o.y2
noncomputable def f13t0 (x0 : S30) (x1 : Int) : Tr f13o := (.test (decide (x1 < (0 : Int))) (.ret (.r0 ((0 : Int)) ((30 : Int)))) (.test (decide (x1 ≥ (↑x0.a0.length : Int))) (.ret (.r0 ((0 : Int)) ((30 : Int)))) (.test (decide ((0 : Int) ≤ x1) && decide (x1 < (↑x0.a0.length : Int))) (.ret (.r0 (pInt ((x0.a0.getD x1.toNat []).headD PV.undef)) ((0 : Int)))) .fail)))
noncomputable def f13 (N : Nat) (x0 : S30) (x1 : Int) : Option f13o := Tr.run (f13t0 x0 x1)
theorem f13_run (N : Nat) (x0 : S30) (x1 : Int) : (evRes (E1 N) (100 : Nat) (13 : Nat) [(S30v x0), PV.int IntKind.i64 x1]).run = (f13 N x0 x1).map f13W := (Tr.run_of (g := (f13t0 x0 x1)) (f := f13W) (by kernel_rfl))
def f13s : List PK := [S30k, (false, [K.int .i64])]
noncomputable def f13a (ps : List PV) : Option f13o := f13 0 (S30r (ps.headD PV.undef)) (pInt (ps.tail.headD PV.undef))
noncomputable def f13d : f13o := ⟨0, 0⟩
noncomputable def f13O : Ora := ⟨fun ps => okPs f13s ps && (f13a ps).isSome, fun ps => (f13W ((f13a ps).getD f13d)).plain⟩
theorem f13_spec : Spec Try.prog 13 f13O := spec_at 100 f13s (fun ps => (f13a ps).isSome) _ mixed fun ps hm hs hp => by
  cases h : f13a ps with
  | none => rw [h] at hp; cases hp
  | some o =>

    refine ⟨E1 0, f13W o, rfl, E1_ok 0, ?_, .inr ?_⟩
    · rw [show canPs f13s ps = [S30v (S30r (ps.headD PV.undef)), PV.int IntKind.i64 (pInt (ps.tail.headD PV.undef))] from by kernel_rfl, f13_run 0]
      show (f13a ps).map f13W = _
      rw [h]; rfl
    · rfl
structure f14o where
  r0 ::
  (y1 : List (List PV)) (y2 : List (List PV)) (y3 : Int)
noncomputable def f14W (o : f14o) : Res := (fun y1 y2 y3 => Res.pv (PV.tup [PV.agg [PV.list (3 : Nat) y1, PV.list (50 : Nat) y2], PV.int IntKind.i64 y3])) o.y1 o.y2 o.y3
def f14rs : List PK := [(true, [K.list 3, K.list 50]), (false, [K.int .i64])]
noncomputable def f14t0 (x0 : S25) (x1 : Int) (x2 : Int) : Tr f14o := (.test (decide (x1 < (0 : Int))) (.ret (.r0 (x0.a0) (x0.a1) ((30 : Int)))) (.test (decide (x1 ≥ (↑x0.a0.length : Int))) (.ret (.r0 (x0.a0) (x0.a1) ((30 : Int)))) (.test (decide ((0 : Int) ≤ x1) && decide (x1 < (↑x0.a0.length : Int))) (.test (decide (x0.a0.length ≤ most)) (.test (decide ((0 : Int) ≤ x1) && decide (x1 < (↑x0.a0.length : Int))) (.ret (.r0 (x0.a0.set x1.toNat [PV.int IntKind.i64 x2]) (x0.a1) ((0 : Int)))) .fail) .fail) .fail)))
noncomputable def f14 (N : Nat) (x0 : S25) (x1 : Int) (x2 : Int) : Option f14o := Tr.run (f14t0 x0 x1 x2)
theorem f14_run (N : Nat) (x0 : S25) (x1 : Int) (x2 : Int) : (evFit f14rs (evRes (E1 N) (100 : Nat) (14 : Nat) [(S25v x0), PV.int IntKind.i64 x1, PV.int IntKind.i64 x2])).run = (f14 N x0 x1 x2).map f14W := (Tr.run_of (g := (f14t0 x0 x1 x2)) (f := f14W) (by kernel_rfl))
def f14s : List PK := [S25k, (false, [K.int .i64]), (false, [K.int .i64])]
noncomputable def f14a (ps : List PV) : Option f14o := f14 0 (S25r (ps.headD PV.undef)) (pInt (ps.tail.headD PV.undef)) (pInt (ps.tail.tail.headD PV.undef))
noncomputable def f14d : f14o := ⟨[], [], 0⟩
noncomputable def f14O : Ora := ⟨fun ps => okPs f14s ps && (f14a ps).isSome, fun ps => (f14W ((f14a ps).getD f14d)).plain⟩
theorem f14_spec : Spec Try.prog 14 f14O := spec_fit 100 f14rs f14s (fun ps => (f14a ps).isSome) _ mixed fun ps hm hs hp => by
  cases h : f14a ps with
  | none => rw [h] at hp; cases hp
  | some o =>

    refine ⟨E1 0, f14W o, rfl, E1_ok 0, ?_, .inr ?_⟩
    · rw [show canPs f14s ps = [S25v (S25r (ps.headD PV.undef)), PV.int IntKind.i64 (pInt (ps.tail.headD PV.undef)), PV.int IntKind.i64 (pInt (ps.tail.tail.headD PV.undef))] from by kernel_rfl, f14_run 0]
      show (f14a ps).map f14W = _
      rw [h]; rfl
    · rfl
structure f15o where
  r0 ::
  (y1 : List (List PV)) (y2 : List (List PV)) (y3 : Int)
noncomputable def f15W (o : f15o) : Res := (fun y1 y2 y3 => Res.pv (PV.tup [PV.agg [PV.list (3 : Nat) y1, PV.list (53 : Nat) y2], PV.int IntKind.i64 y3])) o.y1 o.y2 o.y3
def f15rs : List PK := [(true, [K.list 3, K.list 53]), (false, [K.int .i64])]
noncomputable def f15t0 (x0 : S30) (x1 : Int) (x2 : Int) : Tr f15o := (.test (decide (x1 < (0 : Int))) (.ret (.r0 (x0.a0) (x0.a1) ((30 : Int)))) (.test (decide (x1 ≥ (↑x0.a0.length : Int))) (.ret (.r0 (x0.a0) (x0.a1) ((30 : Int)))) (.test (decide (x0.a0.length ≤ most)) (.test (decide ((0 : Int) ≤ x1) && decide (x1 < (↑x0.a0.length : Int))) (.ret (.r0 (x0.a0.set x1.toNat [PV.int IntKind.i64 x2]) (x0.a1) ((0 : Int)))) .fail) .fail)))
noncomputable def f15 (N : Nat) (x0 : S30) (x1 : Int) (x2 : Int) : Option f15o := Tr.run (f15t0 x0 x1 x2)
theorem f15_run (N : Nat) (x0 : S30) (x1 : Int) (x2 : Int) : (evFit f15rs (evRes (E1 N) (100 : Nat) (15 : Nat) [(S30v x0), PV.int IntKind.i64 x1, PV.int IntKind.i64 x2])).run = (f15 N x0 x1 x2).map f15W := (Tr.run_of (g := (f15t0 x0 x1 x2)) (f := f15W) (by kernel_rfl))
def f15s : List PK := [S30k, (false, [K.int .i64]), (false, [K.int .i64])]
noncomputable def f15a (ps : List PV) : Option f15o := f15 0 (S30r (ps.headD PV.undef)) (pInt (ps.tail.headD PV.undef)) (pInt (ps.tail.tail.headD PV.undef))
noncomputable def f15d : f15o := ⟨[], [], 0⟩
noncomputable def f15O : Ora := ⟨fun ps => okPs f15s ps && (f15a ps).isSome, fun ps => (f15W ((f15a ps).getD f15d)).plain⟩
theorem f15_spec : Spec Try.prog 15 f15O := spec_fit 100 f15rs f15s (fun ps => (f15a ps).isSome) _ mixed fun ps hm hs hp => by
  cases h : f15a ps with
  | none => rw [h] at hp; cases hp
  | some o =>

    refine ⟨E1 0, f15W o, rfl, E1_ok 0, ?_, .inr ?_⟩
    · rw [show canPs f15s ps = [S30v (S30r (ps.headD PV.undef)), PV.int IntKind.i64 (pInt (ps.tail.headD PV.undef)), PV.int IntKind.i64 (pInt (ps.tail.tail.headD PV.undef))] from by kernel_rfl, f15_run 0]
      show (f15a ps).map f15W = _
      rw [h]; rfl
    · rfl
structure f16o where
  r0 ::
  (y1 : List (List PV)) (y2 : List (List PV)) (y3 : Int) (y4 : Int)
noncomputable def f16W (o : f16o) : Res := (fun y1 y2 y3 y4 => Res.pv (PV.tup [PV.agg [PV.list (3 : Nat) y1, PV.list (50 : Nat) y2], PV.int IntKind.i64 y3, PV.int IntKind.i64 y4])) o.y1 o.y2 o.y3 o.y4
def f16rs : List PK := [(true, [K.list 3, K.list 50]), (false, [K.int .i64]), (false, [K.int .i64])]
noncomputable def f16t0 (x0 : S25) (x1 : Int) (x2 : Int) : Tr f16o := (.test (decide (x1 < (0 : Int))) (.ret (.r0 (x0.a0) (x0.a1) ((0 : Int)) ((30 : Int)))) (.test (decide (x1 ≥ (↑x0.a0.length : Int))) (.ret (.r0 (x0.a0) (x0.a1) ((0 : Int)) ((30 : Int)))) (.test (decide ((0 : Int) ≤ x1) && decide (x1 < (↑x0.a0.length : Int))) (.test (decide (x0.a0.length ≤ most)) (.test (decide ((0 : Int) ≤ x1) && decide (x1 < (↑x0.a0.length : Int))) (.ret (.r0 (x0.a0.set x1.toNat [PV.int IntKind.i64 x2]) (x0.a1) (pInt ((x0.a0.getD x1.toNat []).headD PV.undef)) ((0 : Int)))) .fail) .fail) .fail)))
noncomputable def f16 (N : Nat) (x0 : S25) (x1 : Int) (x2 : Int) : Option f16o := Tr.run (f16t0 x0 x1 x2)
theorem f16_run (N : Nat) (x0 : S25) (x1 : Int) (x2 : Int) : (evFit f16rs (evRes (E1 N) (100 : Nat) (16 : Nat) [(S25v x0), PV.int IntKind.i64 x1, PV.int IntKind.i64 x2])).run = (f16 N x0 x1 x2).map f16W := (Tr.run_of (g := (f16t0 x0 x1 x2)) (f := f16W) (by kernel_rfl))
def f16s : List PK := [S25k, (false, [K.int .i64]), (false, [K.int .i64])]
noncomputable def f16a (ps : List PV) : Option f16o := f16 0 (S25r (ps.headD PV.undef)) (pInt (ps.tail.headD PV.undef)) (pInt (ps.tail.tail.headD PV.undef))
noncomputable def f16d : f16o := ⟨[], [], 0, 0⟩
noncomputable def f16O : Ora := ⟨fun ps => okPs f16s ps && (f16a ps).isSome, fun ps => (f16W ((f16a ps).getD f16d)).plain⟩
theorem f16_spec : Spec Try.prog 16 f16O := spec_fit 100 f16rs f16s (fun ps => (f16a ps).isSome) _ mixed fun ps hm hs hp => by
  cases h : f16a ps with
  | none => rw [h] at hp; cases hp
  | some o =>

    refine ⟨E1 0, f16W o, rfl, E1_ok 0, ?_, .inr ?_⟩
    · rw [show canPs f16s ps = [S25v (S25r (ps.headD PV.undef)), PV.int IntKind.i64 (pInt (ps.tail.headD PV.undef)), PV.int IntKind.i64 (pInt (ps.tail.tail.headD PV.undef))] from by kernel_rfl, f16_run 0]
      show (f16a ps).map f16W = _
      rw [h]; rfl
    · rfl
structure f17o where
  r0 ::
  (y1 : List (List PV)) (y2 : List (List PV)) (y3 : Int) (y4 : Int)
noncomputable def f17W (o : f17o) : Res := (fun y1 y2 y3 y4 => Res.pv (PV.tup [PV.agg [PV.list (3 : Nat) y1, PV.list (53 : Nat) y2], PV.int IntKind.i64 y3, PV.int IntKind.i64 y4])) o.y1 o.y2 o.y3 o.y4
def f17rs : List PK := [(true, [K.list 3, K.list 53]), (false, [K.int .i64]), (false, [K.int .i64])]
noncomputable def f17t0 (x0 : S30) (x1 : Int) (x2 : Int) : Tr f17o := (.test (decide (x1 < (0 : Int))) (.test (decide (x1 < (0 : Int))) (.ret (.r0 (x0.a0) (x0.a1) ((0 : Int)) ((30 : Int)))) (.test (decide (x1 ≥ (↑x0.a0.length : Int))) (.ret (.r0 (x0.a0) (x0.a1) ((0 : Int)) ((30 : Int)))) (.test (decide (x0.a0.length ≤ most)) (.test (decide ((0 : Int) ≤ x1) && decide (x1 < (↑x0.a0.length : Int))) (.ret (.r0 (x0.a0.set x1.toNat [PV.int IntKind.i64 x2]) (x0.a1) ((0 : Int)) ((30 : Int)))) .fail) .fail))) (.test (decide (x1 ≥ (↑x0.a0.length : Int))) (.test (decide (x1 < (0 : Int))) (.ret (.r0 (x0.a0) (x0.a1) ((0 : Int)) ((30 : Int)))) (.test (decide (x1 ≥ (↑x0.a0.length : Int))) (.ret (.r0 (x0.a0) (x0.a1) ((0 : Int)) ((30 : Int)))) (.test (decide (x0.a0.length ≤ most)) (.test (decide ((0 : Int) ≤ x1) && decide (x1 < (↑x0.a0.length : Int))) (.ret (.r0 (x0.a0.set x1.toNat [PV.int IntKind.i64 x2]) (x0.a1) ((0 : Int)) ((30 : Int)))) .fail) .fail))) (.test (decide ((0 : Int) ≤ x1) && decide (x1 < (↑x0.a0.length : Int))) (.test (decide (x1 < (0 : Int))) (.ret (.r0 (x0.a0) (x0.a1) (pInt ((x0.a0.getD x1.toNat []).headD PV.undef)) ((0 : Int)))) (.test (decide (x1 ≥ (↑x0.a0.length : Int))) (.ret (.r0 (x0.a0) (x0.a1) (pInt ((x0.a0.getD x1.toNat []).headD PV.undef)) ((0 : Int)))) (.test (decide (x0.a0.length ≤ most)) (.test (decide ((0 : Int) ≤ x1) && decide (x1 < (↑x0.a0.length : Int))) (.ret (.r0 (x0.a0.set x1.toNat [PV.int IntKind.i64 x2]) (x0.a1) (pInt ((x0.a0.getD x1.toNat []).headD PV.undef)) ((0 : Int)))) .fail) .fail))) .fail)))
noncomputable def f17 (N : Nat) (x0 : S30) (x1 : Int) (x2 : Int) : Option f17o := Tr.run (f17t0 x0 x1 x2)
theorem f17_run (N : Nat) (x0 : S30) (x1 : Int) (x2 : Int) : (evFit f17rs (evRes (E1 N) (100 : Nat) (17 : Nat) [(S30v x0), PV.int IntKind.i64 x1, PV.int IntKind.i64 x2])).run = (f17 N x0 x1 x2).map f17W := (Tr.run_of (g := (f17t0 x0 x1 x2)) (f := f17W) (by kernel_rfl))
def f17s : List PK := [S30k, (false, [K.int .i64]), (false, [K.int .i64])]
noncomputable def f17a (ps : List PV) : Option f17o := f17 0 (S30r (ps.headD PV.undef)) (pInt (ps.tail.headD PV.undef)) (pInt (ps.tail.tail.headD PV.undef))
noncomputable def f17d : f17o := ⟨[], [], 0, 0⟩
noncomputable def f17O : Ora := ⟨fun ps => okPs f17s ps && (f17a ps).isSome, fun ps => (f17W ((f17a ps).getD f17d)).plain⟩
theorem f17_spec : Spec Try.prog 17 f17O := spec_fit 100 f17rs f17s (fun ps => (f17a ps).isSome) _ mixed fun ps hm hs hp => by
  cases h : f17a ps with
  | none => rw [h] at hp; cases hp
  | some o =>

    refine ⟨E1 0, f17W o, rfl, E1_ok 0, ?_, .inr ?_⟩
    · rw [show canPs f17s ps = [S30v (S30r (ps.headD PV.undef)), PV.int IntKind.i64 (pInt (ps.tail.headD PV.undef)), PV.int IntKind.i64 (pInt (ps.tail.tail.headD PV.undef))] from by kernel_rfl, f17_run 0]
      show (f17a ps).map f17W = _
      rw [h]; rfl
    · rfl
structure f18o where
  r0 ::
  (y1 : List (List PV)) (y2 : List (List PV)) (y3 : Bool) (y4 : Int)
noncomputable def f18W (o : f18o) : Res := (fun y1 y2 y3 y4 => Res.pv (PV.tup [PV.agg [PV.list (3 : Nat) y1, PV.list (50 : Nat) y2], PV.bool y3, PV.int IntKind.i64 y4])) o.y1 o.y2 o.y3 o.y4
def f18rs : List PK := [(true, [K.list 3, K.list 50]), (false, [K.bool]), (false, [K.int .i64])]
noncomputable def f18t0 (x0 : S25) (x1 : Int) (x2 : Int) (x3 : Int) : Tr f18o := (.test (decide (x1 < (0 : Int))) (.ret (.r0 (x0.a0) (x0.a1) (false) ((30 : Int)))) (.test (decide (x1 ≥ (↑x0.a0.length : Int))) (.ret (.r0 (x0.a0) (x0.a1) (false) ((30 : Int)))) (.test (decide ((0 : Int) ≤ x1) && decide (x1 < (↑x0.a0.length : Int))) (.test (pInt ((x0.a0.getD x1.toNat []).headD PV.undef) == x2) (.test (decide (x0.a0.length ≤ most)) (.test (decide ((0 : Int) ≤ x1) && decide (x1 < (↑x0.a0.length : Int))) (.ret (.r0 (x0.a0.set x1.toNat [PV.int IntKind.i64 x3]) (x0.a1) (pInt ((x0.a0.getD x1.toNat []).headD PV.undef) == x2) ((0 : Int)))) .fail) .fail) (.ret (.r0 (x0.a0) (x0.a1) (pInt ((x0.a0.getD x1.toNat []).headD PV.undef) == x2) ((0 : Int))))) .fail)))
noncomputable def f18 (N : Nat) (x0 : S25) (x1 : Int) (x2 : Int) (x3 : Int) : Option f18o := Tr.run (f18t0 x0 x1 x2 x3)
theorem f18_run (N : Nat) (x0 : S25) (x1 : Int) (x2 : Int) (x3 : Int) : (evFit f18rs (evRes (E1 N) (100 : Nat) (18 : Nat) [(S25v x0), PV.int IntKind.i64 x1, PV.int IntKind.i64 x2, PV.int IntKind.i64 x3])).run = (f18 N x0 x1 x2 x3).map f18W := (Tr.run_of (g := (f18t0 x0 x1 x2 x3)) (f := f18W) (by kernel_rfl))
def f18s : List PK := [S25k, (false, [K.int .i64]), (false, [K.int .i64]), (false, [K.int .i64])]
noncomputable def f18a (ps : List PV) : Option f18o := f18 0 (S25r (ps.headD PV.undef)) (pInt (ps.tail.headD PV.undef)) (pInt (ps.tail.tail.headD PV.undef)) (pInt (ps.tail.tail.tail.headD PV.undef))
noncomputable def f18d : f18o := ⟨[], [], false, 0⟩
noncomputable def f18O : Ora := ⟨fun ps => okPs f18s ps && (f18a ps).isSome, fun ps => (f18W ((f18a ps).getD f18d)).plain⟩
theorem f18_spec : Spec Try.prog 18 f18O := spec_fit 100 f18rs f18s (fun ps => (f18a ps).isSome) _ mixed fun ps hm hs hp => by
  cases h : f18a ps with
  | none => rw [h] at hp; cases hp
  | some o =>

    refine ⟨E1 0, f18W o, rfl, E1_ok 0, ?_, .inr ?_⟩
    · rw [show canPs f18s ps = [S25v (S25r (ps.headD PV.undef)), PV.int IntKind.i64 (pInt (ps.tail.headD PV.undef)), PV.int IntKind.i64 (pInt (ps.tail.tail.headD PV.undef)), PV.int IntKind.i64 (pInt (ps.tail.tail.tail.headD PV.undef))] from by kernel_rfl, f18_run 0]
      show (f18a ps).map f18W = _
      rw [h]; rfl
    · rfl
structure f19o where
  r0 ::
  (y1 : List (List PV)) (y2 : List (List PV)) (y3 : Bool) (y4 : Int)
noncomputable def f19W (o : f19o) : Res := (fun y1 y2 y3 y4 => Res.pv (PV.tup [PV.agg [PV.list (3 : Nat) y1, PV.list (53 : Nat) y2], PV.bool y3, PV.int IntKind.i64 y4])) o.y1 o.y2 o.y3 o.y4
def f19rs : List PK := [(true, [K.list 3, K.list 53]), (false, [K.bool]), (false, [K.int .i64])]
noncomputable def f19t0 (x0 : S30) (x1 : Int) (x2 : Int) (x3 : Int) : Tr f19o := (.test (decide (x1 < (0 : Int))) (.ret (.r0 (x0.a0) (x0.a1) (false) ((30 : Int)))) (.test (decide (x1 ≥ (↑x0.a0.length : Int))) (.ret (.r0 (x0.a0) (x0.a1) (false) ((30 : Int)))) (.test (decide ((0 : Int) ≤ x1) && decide (x1 < (↑x0.a0.length : Int))) (.test (pInt ((x0.a0.getD x1.toNat []).headD PV.undef) != x2) (.ret (.r0 (x0.a0) (x0.a1) (false) ((0 : Int)))) (.test (decide (x1 < (0 : Int))) (.ret (.r0 (x0.a0) (x0.a1) (true) ((0 : Int)))) (.test (decide (x1 ≥ (↑x0.a0.length : Int))) (.ret (.r0 (x0.a0) (x0.a1) (true) ((0 : Int)))) (.test (decide (x0.a0.length ≤ most)) (.test (decide ((0 : Int) ≤ x1) && decide (x1 < (↑x0.a0.length : Int))) (.ret (.r0 (x0.a0.set x1.toNat [PV.int IntKind.i64 x3]) (x0.a1) (true) ((0 : Int)))) .fail) .fail)))) .fail)))
noncomputable def f19 (N : Nat) (x0 : S30) (x1 : Int) (x2 : Int) (x3 : Int) : Option f19o := Tr.run (f19t0 x0 x1 x2 x3)
theorem f19_run (N : Nat) (x0 : S30) (x1 : Int) (x2 : Int) (x3 : Int) : (evFit f19rs (evRes (E1 N) (100 : Nat) (19 : Nat) [(S30v x0), PV.int IntKind.i64 x1, PV.int IntKind.i64 x2, PV.int IntKind.i64 x3])).run = (f19 N x0 x1 x2 x3).map f19W := (Tr.run_of (g := (f19t0 x0 x1 x2 x3)) (f := f19W) (by kernel_rfl))
def f19s : List PK := [S30k, (false, [K.int .i64]), (false, [K.int .i64]), (false, [K.int .i64])]
noncomputable def f19a (ps : List PV) : Option f19o := f19 0 (S30r (ps.headD PV.undef)) (pInt (ps.tail.headD PV.undef)) (pInt (ps.tail.tail.headD PV.undef)) (pInt (ps.tail.tail.tail.headD PV.undef))
noncomputable def f19d : f19o := ⟨[], [], false, 0⟩
noncomputable def f19O : Ora := ⟨fun ps => okPs f19s ps && (f19a ps).isSome, fun ps => (f19W ((f19a ps).getD f19d)).plain⟩
theorem f19_spec : Spec Try.prog 19 f19O := spec_fit 100 f19rs f19s (fun ps => (f19a ps).isSome) _ mixed fun ps hm hs hp => by
  cases h : f19a ps with
  | none => rw [h] at hp; cases hp
  | some o =>

    refine ⟨E1 0, f19W o, rfl, E1_ok 0, ?_, .inr ?_⟩
    · rw [show canPs f19s ps = [S30v (S30r (ps.headD PV.undef)), PV.int IntKind.i64 (pInt (ps.tail.headD PV.undef)), PV.int IntKind.i64 (pInt (ps.tail.tail.headD PV.undef)), PV.int IntKind.i64 (pInt (ps.tail.tail.tail.headD PV.undef))] from by kernel_rfl, f19_run 0]
      show (f19a ps).map f19W = _
      rw [h]; rfl
    · rfl
structure f21o where
  r0 ::
  (y1 : List (List PV)) (y2 : Int)
noncomputable def f21W (o : f21o) : Res := (fun y1 y2 => Res.pv (PV.tup [PV.list (68 : Nat) y1, PV.int IntKind.i64 y2])) o.y1 o.y2
def f21rs : List PK := [(false, [K.list 68]), (false, [K.int .i64])]
noncomputable def f21t0 (x0 : S25) (x1 : Int) : Tr f21o := (.test (decide (x1 < (0 : Int))) (.ret (.r0 ([]) ((30 : Int)))) (.test (decide (x1 ≥ (↑x0.a1.length : Int))) (.ret (.r0 ([]) ((30 : Int)))) (.test (decide ((0 : Int) ≤ x1) && decide (x1 < (↑x0.a1.length : Int))) (.test (decide ((pList ((x0.a1.getD x1.toNat []).headD PV.undef)).length ≤ most)) (.ret (.r0 (pList ((x0.a1.getD x1.toNat []).headD PV.undef)) ((0 : Int)))) .fail) .fail)))
noncomputable def f21 (N : Nat) (x0 : S25) (x1 : Int) : Option f21o := Tr.run (f21t0 x0 x1)
theorem f21_run (N : Nat) (x0 : S25) (x1 : Int) : (evFit f21rs (evRes (E1 N) (100 : Nat) (21 : Nat) [(S25v x0), PV.int IntKind.i64 x1])).run = (f21 N x0 x1).map f21W := (Tr.run_of (g := (f21t0 x0 x1)) (f := f21W) (by kernel_rfl))
def f21s : List PK := [S25k, (false, [K.int .i64])]
noncomputable def f21a (ps : List PV) : Option f21o := f21 0 (S25r (ps.headD PV.undef)) (pInt (ps.tail.headD PV.undef))
noncomputable def f21d : f21o := ⟨[], 0⟩
noncomputable def f21O : Ora := ⟨fun ps => okPs f21s ps && (f21a ps).isSome, fun ps => (f21W ((f21a ps).getD f21d)).plain⟩
theorem f21_spec : Spec Try.prog 21 f21O := spec_fit 100 f21rs f21s (fun ps => (f21a ps).isSome) _ mixed fun ps hm hs hp => by
  cases h : f21a ps with
  | none => rw [h] at hp; cases hp
  | some o =>

    refine ⟨E1 0, f21W o, rfl, E1_ok 0, ?_, .inr ?_⟩
    · rw [show canPs f21s ps = [S25v (S25r (ps.headD PV.undef)), PV.int IntKind.i64 (pInt (ps.tail.headD PV.undef))] from by kernel_rfl, f21_run 0]
      show (f21a ps).map f21W = _
      rw [h]; rfl
    · rfl
structure f22o where
  r0 ::
  (y1 : List (List PV)) (y2 : Int)
noncomputable def f22W (o : f22o) : Res := (fun y1 y2 => Res.pv (PV.tup [PV.list (81 : Nat) y1, PV.int IntKind.i64 y2])) o.y1 o.y2
def f22rs : List PK := [(false, [K.list 81]), (false, [K.int .i64])]
noncomputable def f22t0 (x0 : S30) (x1 : Int) : Tr f22o := (.test (decide (x1 < (0 : Int))) (.ret (.r0 ([]) ((30 : Int)))) (.test (decide (x1 ≥ (↑x0.a1.length : Int))) (.ret (.r0 ([]) ((30 : Int)))) (.test (decide ((0 : Int) ≤ x1) && decide (x1 < (↑x0.a1.length : Int))) (.test (decide ((pList ((x0.a1.getD x1.toNat []).headD PV.undef)).length ≤ most)) (.ret (.r0 (pList ((x0.a1.getD x1.toNat []).headD PV.undef)) ((0 : Int)))) .fail) .fail)))
noncomputable def f22 (N : Nat) (x0 : S30) (x1 : Int) : Option f22o := Tr.run (f22t0 x0 x1)
theorem f22_run (N : Nat) (x0 : S30) (x1 : Int) : (evFit f22rs (evRes (E1 N) (100 : Nat) (22 : Nat) [(S30v x0), PV.int IntKind.i64 x1])).run = (f22 N x0 x1).map f22W := (Tr.run_of (g := (f22t0 x0 x1)) (f := f22W) (by kernel_rfl))
def f22s : List PK := [S30k, (false, [K.int .i64])]
noncomputable def f22a (ps : List PV) : Option f22o := f22 0 (S30r (ps.headD PV.undef)) (pInt (ps.tail.headD PV.undef))
noncomputable def f22d : f22o := ⟨[], 0⟩
noncomputable def f22O : Ora := ⟨fun ps => okPs f22s ps && (f22a ps).isSome, fun ps => (f22W ((f22a ps).getD f22d)).plain⟩
theorem f22_spec : Spec Try.prog 22 f22O := spec_fit 100 f22rs f22s (fun ps => (f22a ps).isSome) _ mixed fun ps hm hs hp => by
  cases h : f22a ps with
  | none => rw [h] at hp; cases hp
  | some o =>

    refine ⟨E1 0, f22W o, rfl, E1_ok 0, ?_, .inr ?_⟩
    · rw [show canPs f22s ps = [S30v (S30r (ps.headD PV.undef)), PV.int IntKind.i64 (pInt (ps.tail.headD PV.undef))] from by kernel_rfl, f22_run 0]
      show (f22a ps).map f22W = _
      rw [h]; rfl
    · rfl
structure f23o where
  r0 ::
  (y1 : List (List PV)) (y2 : List (List PV)) (y3 : Int)
noncomputable def f23W (o : f23o) : Res := (fun y1 y2 y3 => Res.pv (PV.tup [PV.agg [PV.list (3 : Nat) y1, PV.list (50 : Nat) y2], PV.int IntKind.i64 y3])) o.y1 o.y2 o.y3
def f23rs : List PK := [(true, [K.list 3, K.list 50]), (false, [K.int .i64])]
noncomputable def f23t0 (x0 : S25) (x1 : Int) (x2 : List (List PV)) : Tr f23o := (.test (decide (x1 < (0 : Int))) (.ret (.r0 (x0.a0) (x0.a1) ((30 : Int)))) (.test (decide (x1 ≥ (↑x0.a1.length : Int))) (.ret (.r0 (x0.a0) (x0.a1) ((30 : Int)))) (.test (decide ((0 : Int) ≤ x1) && decide (x1 < (↑x0.a1.length : Int))) (.test (decide (x0.a1.length ≤ most)) (.test (decide (x2.length ≤ most)) (.test (decide ((0 : Int) ≤ x1) && decide (x1 < (↑x0.a1.length : Int))) (.ret (.r0 (x0.a0) (x0.a1.set x1.toNat [PV.list (68 : Nat) x2]) ((0 : Int)))) .fail) .fail) .fail) .fail)))
noncomputable def f23 (N : Nat) (x0 : S25) (x1 : Int) (x2 : List (List PV)) : Option f23o := Tr.run (f23t0 x0 x1 x2)
theorem f23_run (N : Nat) (x0 : S25) (x1 : Int) (x2 : List (List PV)) : (evFit f23rs (evRes (E1 N) (100 : Nat) (23 : Nat) [(S25v x0), PV.int IntKind.i64 x1, PV.list (68 : Nat) x2])).run = (f23 N x0 x1 x2).map f23W := (Tr.run_of (g := (f23t0 x0 x1 x2)) (f := f23W) (by kernel_rfl))
def f23s : List PK := [S25k, (false, [K.int .i64]), (false, [K.list 68])]
noncomputable def f23a (ps : List PV) : Option f23o := f23 0 (S25r (ps.headD PV.undef)) (pInt (ps.tail.headD PV.undef)) (pList (ps.tail.tail.headD PV.undef))
noncomputable def f23d : f23o := ⟨[], [], 0⟩
noncomputable def f23O : Ora := ⟨fun ps => okPs f23s ps && (f23a ps).isSome, fun ps => (f23W ((f23a ps).getD f23d)).plain⟩
theorem f23_spec : Spec Try.prog 23 f23O := spec_fit 100 f23rs f23s (fun ps => (f23a ps).isSome) _ mixed fun ps hm hs hp => by
  cases h : f23a ps with
  | none => rw [h] at hp; cases hp
  | some o =>

    refine ⟨E1 0, f23W o, rfl, E1_ok 0, ?_, .inr ?_⟩
    · rw [show canPs f23s ps = [S25v (S25r (ps.headD PV.undef)), PV.int IntKind.i64 (pInt (ps.tail.headD PV.undef)), PV.list 68 (pList (ps.tail.tail.headD PV.undef))] from by kernel_rfl, f23_run 0]
      show (f23a ps).map f23W = _
      rw [h]; rfl
    · rfl
structure f24o where
  r0 ::
  (y1 : List (List PV)) (y2 : List (List PV)) (y3 : Int)
noncomputable def f24W (o : f24o) : Res := (fun y1 y2 y3 => Res.pv (PV.tup [PV.agg [PV.list (3 : Nat) y1, PV.list (53 : Nat) y2], PV.int IntKind.i64 y3])) o.y1 o.y2 o.y3
def f24rs : List PK := [(true, [K.list 3, K.list 53]), (false, [K.int .i64])]
noncomputable def f24t0 (x0 : S30) (x1 : Int) (x2 : List (List PV)) : Tr f24o := (.test (decide (x1 < (0 : Int))) (.ret (.r0 (x0.a0) (x0.a1) ((30 : Int)))) (.test (decide (x1 ≥ (↑x0.a1.length : Int))) (.ret (.r0 (x0.a0) (x0.a1) ((30 : Int)))) (.test (decide (x0.a1.length ≤ most)) (.test (decide (x2.length ≤ most)) (.test (decide ((0 : Int) ≤ x1) && decide (x1 < (↑x0.a1.length : Int))) (.ret (.r0 (x0.a0) (x0.a1.set x1.toNat [PV.list (81 : Nat) x2]) ((0 : Int)))) .fail) .fail) .fail)))
noncomputable def f24 (N : Nat) (x0 : S30) (x1 : Int) (x2 : List (List PV)) : Option f24o := Tr.run (f24t0 x0 x1 x2)
theorem f24_run (N : Nat) (x0 : S30) (x1 : Int) (x2 : List (List PV)) : (evFit f24rs (evRes (E1 N) (100 : Nat) (24 : Nat) [(S30v x0), PV.int IntKind.i64 x1, PV.list (81 : Nat) x2])).run = (f24 N x0 x1 x2).map f24W := (Tr.run_of (g := (f24t0 x0 x1 x2)) (f := f24W) (by kernel_rfl))
def f24s : List PK := [S30k, (false, [K.int .i64]), (false, [K.list 81])]
noncomputable def f24a (ps : List PV) : Option f24o := f24 0 (S30r (ps.headD PV.undef)) (pInt (ps.tail.headD PV.undef)) (pList (ps.tail.tail.headD PV.undef))
noncomputable def f24d : f24o := ⟨[], [], 0⟩
noncomputable def f24O : Ora := ⟨fun ps => okPs f24s ps && (f24a ps).isSome, fun ps => (f24W ((f24a ps).getD f24d)).plain⟩
theorem f24_spec : Spec Try.prog 24 f24O := spec_fit 100 f24rs f24s (fun ps => (f24a ps).isSome) _ mixed fun ps hm hs hp => by
  cases h : f24a ps with
  | none => rw [h] at hp; cases hp
  | some o =>

    refine ⟨E1 0, f24W o, rfl, E1_ok 0, ?_, .inr ?_⟩
    · rw [show canPs f24s ps = [S30v (S30r (ps.headD PV.undef)), PV.int IntKind.i64 (pInt (ps.tail.headD PV.undef)), PV.list 81 (pList (ps.tail.tail.headD PV.undef))] from by kernel_rfl, f24_run 0]
      show (f24a ps).map f24W = _
      rw [h]; rfl
    · rfl
inductive f25o where
  | r0 (y15 : List (List PV))
  | r1 (y16 : List (List PV))
noncomputable def f25W  : f25o → Res
  | .r0 y15 => Res.pv (PV.list (81 : Nat) y15)
  | .r1 y16 => Res.fresh (81 : Nat) y16
def f25rs : List PK := [(false, [K.list 81])]
noncomputable def f25L0c (N : Nat) (x0 : List (List PV)) : Code := Tr.waitC (evFit f25rs (evRes (E1 N) (100 : Nat) (25 : Nat) [PV.list (68 : Nat) x0]))
inductive f25L0s where
  | s0 
  | s1 
  | s2 (y5 : Int) (y6 : List (List PV))
noncomputable def f25L0S (x0 : List (List PV)) : f25L0s → St
  | .s0  => { tmps := [AV.pv (PV.list (68 : Nat) x0), AV.pv PV.undef, AV.pv PV.undef, AV.lit (81 : Nat) [], AV.pv (PV.int IntKind.i64 (0 : Int)), AV.pv PV.undef, AV.pv PV.undef, AV.pv PV.undef, AV.pv PV.undef, AV.pv PV.undef, AV.pv PV.undef, AV.pv PV.undef, AV.pv PV.undef, AV.pv PV.undef, AV.pv PV.undef, AV.pv PV.undef, AV.pv PV.undef, AV.pv PV.undef, AV.pv PV.undef, AV.pv PV.undef, AV.pv PV.undef, AV.pv PV.undef, AV.pv PV.undef, AV.pv PV.undef, AV.pv PV.undef, AV.pv PV.undef, AV.pv PV.undef], stack := [], mem := [], cur := (0 : Nat), ctr := (1 : Nat), fn := (25 : Nat) }
  | .s1  => { tmps := [AV.pv (PV.list (68 : Nat) x0), AV.pv PV.undef, AV.pv PV.undef, AV.own (525 : Nat), AV.pv (PV.int IntKind.i64 (1 : Int)), AV.pv PV.undef, AV.pv PV.undef, AV.pv PV.undef, AV.pv PV.undef, AV.pv PV.undef, AV.pv PV.undef, AV.pv PV.undef, AV.pv PV.undef, AV.pv PV.undef, AV.pv PV.undef, AV.pv PV.undef, AV.pv PV.undef, AV.pv PV.undef, AV.pv PV.undef, AV.pv PV.undef, AV.pv PV.undef, AV.pv PV.undef, AV.pv PV.undef, AV.pv PV.undef, AV.pv PV.undef, AV.pv PV.undef, AV.pv PV.undef], stack := [], mem := [((525 : Nat), Ob.row (2 : Nat) (81 : Nat) [[PV.int IntKind.i64 (pInt ((x0.getD (Int.toNat (0 : Int)) []).headD PV.undef)), PV.int IntKind.i64 (pInt ((x0.getD (Int.toNat (0 : Int)) []).tail.headD PV.undef)), PV.int IntKind.i64 (pInt ((x0.getD (Int.toNat (0 : Int)) []).tail.tail.headD PV.undef))]])], cur := (0 : Nat), ctr := (1 : Nat), fn := (25 : Nat) }
  | .s2 y5 y6 => { tmps := [AV.pv (PV.list (68 : Nat) x0), AV.pv PV.undef, AV.pv PV.undef, AV.own (525 : Nat), AV.pv (PV.int IntKind.i64 y5), AV.pv PV.undef, AV.pv PV.undef, AV.pv PV.undef, AV.pv PV.undef, AV.pv PV.undef, AV.pv PV.undef, AV.pv PV.undef, AV.pv PV.undef, AV.pv PV.undef, AV.pv PV.undef, AV.pv PV.undef, AV.pv PV.undef, AV.pv PV.undef, AV.pv PV.undef, AV.pv PV.undef, AV.pv PV.undef, AV.pv PV.undef, AV.pv PV.undef, AV.pv PV.undef, AV.pv PV.undef, AV.pv PV.undef, AV.pv PV.undef], stack := [], mem := [((525 : Nat), Ob.row (1 : Nat) (81 : Nat) y6)], cur := (0 : Nat), ctr := (1 : Nat), fn := (25 : Nat) }
inductive f25L0e where
  | e0 
  | e1 
  | e2 (y7 : List (List PV))
noncomputable def f25L0T (x0 : List (List PV)) : f25L0e → (Ex × St)
  | .e0  => (Ex.exit (0 : Nat), { tmps := [AV.pv PV.undef, AV.pv PV.undef, AV.pv PV.undef, AV.lit (81 : Nat) [], AV.pv PV.undef, AV.pv PV.undef, AV.pv PV.undef, AV.pv PV.undef, AV.pv PV.undef, AV.pv PV.undef, AV.pv PV.undef, AV.pv PV.undef, AV.pv PV.undef, AV.pv PV.undef, AV.pv PV.undef, AV.pv PV.undef, AV.pv PV.undef, AV.pv PV.undef, AV.pv PV.undef, AV.pv PV.undef, AV.pv PV.undef, AV.pv PV.undef, AV.pv PV.undef, AV.pv PV.undef, AV.pv PV.undef, AV.pv PV.undef, AV.pv PV.undef], stack := [], mem := [], cur := (0 : Nat), ctr := (1 : Nat), fn := (25 : Nat) })
  | .e1  => (Ex.exit (0 : Nat), { tmps := [AV.pv PV.undef, AV.pv PV.undef, AV.pv PV.undef, AV.own (525 : Nat), AV.pv PV.undef, AV.pv PV.undef, AV.pv PV.undef, AV.pv PV.undef, AV.pv PV.undef, AV.pv PV.undef, AV.pv PV.undef, AV.pv PV.undef, AV.pv PV.undef, AV.pv PV.undef, AV.pv PV.undef, AV.pv PV.undef, AV.pv PV.undef, AV.pv PV.undef, AV.pv PV.undef, AV.pv PV.undef, AV.pv PV.undef, AV.pv PV.undef, AV.pv PV.undef, AV.pv PV.undef, AV.pv PV.undef, AV.pv PV.undef, AV.pv PV.undef], stack := [], mem := [((525 : Nat), Ob.row (2 : Nat) (81 : Nat) [[PV.int IntKind.i64 (pInt ((x0.getD (Int.toNat (0 : Int)) []).headD PV.undef)), PV.int IntKind.i64 (pInt ((x0.getD (Int.toNat (0 : Int)) []).tail.headD PV.undef)), PV.int IntKind.i64 (pInt ((x0.getD (Int.toNat (0 : Int)) []).tail.tail.headD PV.undef))]])], cur := (0 : Nat), ctr := (1 : Nat), fn := (25 : Nat) })
  | .e2 y7 => (Ex.exit (0 : Nat), { tmps := [AV.pv PV.undef, AV.pv PV.undef, AV.pv PV.undef, AV.own (525 : Nat), AV.pv PV.undef, AV.pv PV.undef, AV.pv PV.undef, AV.pv PV.undef, AV.pv PV.undef, AV.pv PV.undef, AV.pv PV.undef, AV.pv PV.undef, AV.pv PV.undef, AV.pv PV.undef, AV.pv PV.undef, AV.pv PV.undef, AV.pv PV.undef, AV.pv PV.undef, AV.pv PV.undef, AV.pv PV.undef, AV.pv PV.undef, AV.pv PV.undef, AV.pv PV.undef, AV.pv PV.undef, AV.pv PV.undef, AV.pv PV.undef, AV.pv PV.undef], stack := [], mem := [((525 : Nat), Ob.row (1 : Nat) (81 : Nat) y7)], cur := (0 : Nat), ctr := (1 : Nat), fn := (25 : Nat) })
noncomputable def f25L0it8 (x0 : List (List PV)) : Tr (f25L0s ⊕ f25L0e) := (.test (decide ((0 : Int) < (↑x0.length : Int))) (.test (decide ((0 : Int) ≤ (0 : Int)) && decide ((0 : Int) < (↑x0.length : Int))) (.test (decide ((0 : Int) ≤ (0 : Int)) && decide ((0 : Int) < (↑x0.length : Int))) (.ret (.inl (.s1))) .fail) .fail) (.ret (.inr (.e0))))
noncomputable def f25L0it9 (x0 : List (List PV)) : Tr (f25L0s ⊕ f25L0e) := (.test (decide ((1 : Int) < (↑x0.length : Int))) (.test (decide ((0 : Int) ≤ (1 : Int)) && decide ((1 : Int) < (↑x0.length : Int))) (.test (decide ((0 : Int) ≤ (1 : Int)) && decide ((1 : Int) < (↑x0.length : Int))) (.ret (.inl (.s2 ((2 : Int)) ([[PV.int IntKind.i64 (pInt ((x0.getD (Int.toNat (0 : Int)) []).headD PV.undef)), PV.int IntKind.i64 (pInt ((x0.getD (Int.toNat (0 : Int)) []).tail.headD PV.undef)), PV.int IntKind.i64 (pInt ((x0.getD (Int.toNat (0 : Int)) []).tail.tail.headD PV.undef))], [PV.int IntKind.i64 (pInt ((x0.getD (Int.toNat (1 : Int)) []).headD PV.undef)), PV.int IntKind.i64 (pInt ((x0.getD (Int.toNat (1 : Int)) []).tail.headD PV.undef)), PV.int IntKind.i64 (pInt ((x0.getD (Int.toNat (1 : Int)) []).tail.tail.headD PV.undef))]])))) .fail) .fail) (.ret (.inr (.e1))))
noncomputable def f25L0it12 (x0 : List (List PV)) (z10 : Int) (z11 : List (List PV)) : Tr (f25L0s ⊕ f25L0e) := (.test (decide (z10 < (↑x0.length : Int))) (.test (decide ((0 : Int) ≤ z10) && decide (z10 < (↑x0.length : Int))) (.test (decide ((0 : Int) ≤ z10) && decide (z10 < (↑x0.length : Int))) (.test (decide (z11.length + [[PV.int IntKind.i64 (pInt ((x0.getD z10.toNat []).headD PV.undef)), PV.int IntKind.i64 (pInt ((x0.getD z10.toNat []).tail.headD PV.undef)), PV.int IntKind.i64 (pInt ((x0.getD z10.toNat []).tail.tail.headD PV.undef))]].length ≤ most)) (.ret (.inl (.s2 (IntKind.i64.wrap (z10 + (1 : Int))) (z11 ++ [[PV.int IntKind.i64 (pInt ((x0.getD z10.toNat []).headD PV.undef)), PV.int IntKind.i64 (pInt ((x0.getD z10.toNat []).tail.headD PV.undef)), PV.int IntKind.i64 (pInt ((x0.getD z10.toNat []).tail.tail.headD PV.undef))]])))) .fail) .fail) .fail) (.ret (.inr (.e2 (z11)))))
noncomputable def f25L0r (N : Nat) (x0 : List (List PV)) : f25L0s → Option (f25L0s ⊕ f25L0e)
  | .s0  => Tr.run (f25L0it8 x0)
  | .s1  => Tr.run (f25L0it9 x0)
  | .s2 z10 z11 => Tr.run (f25L0it12 x0 z10 z11)
theorem f25L0_step (N : Nat) (x0 : List (List PV)) : ∀ x, (roundAt (E1 N) (94 : Nat) (25 : Nat) (1 : Nat) (f25L0c N x0) (f25L0S x0 x)).run = (f25L0r N x0 x).map (sumMap (f25L0S x0) (f25L0T x0))
  | .s0  => (Tr.run_of (g := (f25L0it8 x0)) (f := (sumMap (f25L0S x0) (f25L0T x0))) (by kernel_rfl))
  | .s1  => (Tr.run_of (g := (f25L0it9 x0)) (f := (sumMap (f25L0S x0) (f25L0T x0))) (by kernel_rfl))
  | .s2 z10 z11 => (Tr.run_of (g := (f25L0it12 x0 z10 z11)) (f := (sumMap (f25L0S x0) (f25L0T x0))) (by kernel_rfl))
noncomputable def f25t13 (x0 : List (List PV)) : Tr f25o := (.ret (.r1 ([[PV.int IntKind.i64 (pInt ((x0.getD (Int.toNat (0 : Int)) []).headD PV.undef)), PV.int IntKind.i64 (pInt ((x0.getD (Int.toNat (0 : Int)) []).tail.headD PV.undef)), PV.int IntKind.i64 (pInt ((x0.getD (Int.toNat (0 : Int)) []).tail.tail.headD PV.undef))]])))
noncomputable def f25 (N : Nat) (x0 : List (List PV)) : Option f25o := ((loopN (f25L0r N x0) N (.s0)).bind (fun
    | .e0  => Tr.run (.ret (.r0 ([])))
    | .e1  => Tr.run (f25t13 x0)
    | .e2 w14 => Tr.run (.ret (.r0 (w14)))))
theorem f25_run (N : Nat) (x0 : List (List PV)) : (evFit f25rs (evRes (E1 N) (100 : Nat) (25 : Nat) [PV.list (68 : Nat) x0])).run = (f25 N x0).map f25W := (wait_run (wrap := f25W) (E := E1 N) (n := (94 : Nat)) (f := (25 : Nat)) (c0 := (1 : Nat)) (c := (f25L0c N x0)) (s := Tr.waitS (evFit f25rs (evRes (E1 N) (100 : Nat) (25 : Nat) [PV.list (68 : Nat) x0]))) (f25L0S x0) (f25L0T x0) (f25L0r N x0) (.s0) _ (f25L0_step N x0) (by kernel_rfl) (by kernel_rfl) (by kernel_rfl) (by kernel_rfl) (by kernel_rfl) (fun
    | .e0  => (Tr.run_of (g := (.ret (.r0 ([])))) (f := f25W) (by kernel_rfl))
    | .e1  => (Tr.run_of (g := (f25t13 x0)) (f := f25W) (by kernel_rfl))
    | .e2 w14 => (Tr.run_of (g := (.ret (.r0 (w14)))) (f := f25W) (by kernel_rfl))))
structure f26o where
  r0 ::
  (y6 : Bool)
noncomputable def f26W (o : f26o) : Res := (fun y6 => Res.pv (PV.bool y6)) o.y6
noncomputable def f26L0c (N : Nat) (x0 : List (List PV)) (x1 : List (List PV)) : Code := Tr.waitC (Tr.sub [false] (Tr.sub [false] (evRes (E1 N) (100 : Nat) (26 : Nat) [PV.list (81 : Nat) x0, PV.list (81 : Nat) x1])))
inductive f26L0s where
  | s0 (y3 : Int)
noncomputable def f26L0S (x0 : List (List PV)) (x1 : List (List PV)) : f26L0s → St
  | .s0 y3 => { tmps := [AV.pv (PV.list (81 : Nat) x0), AV.pv (PV.list (81 : Nat) x1), AV.pv PV.undef, AV.pv PV.undef, AV.pv PV.undef, AV.pv (PV.int IntKind.i64 y3), AV.pv PV.undef, AV.pv PV.undef, AV.pv PV.undef, AV.pv PV.undef, AV.pv PV.undef, AV.pv PV.undef, AV.pv PV.undef, AV.pv PV.undef, AV.pv PV.undef, AV.pv PV.undef, AV.pv PV.undef, AV.pv PV.undef, AV.pv PV.undef, AV.pv PV.undef, AV.pv PV.undef, AV.pv PV.undef, AV.pv PV.undef, AV.pv PV.undef, AV.pv PV.undef, AV.pv PV.undef], stack := [], mem := [], cur := (0 : Nat), ctr := (1 : Nat), fn := (26 : Nat) }
inductive f26L0e where
  | e0 
  | e1 
noncomputable def f26L0T (x0 : List (List PV)) (x1 : List (List PV)) : f26L0e → (Ex × St)
  | .e0  => (Ex.ret, { tmps := [AV.pv PV.undef, AV.pv PV.undef, AV.pv PV.undef, AV.pv PV.undef, AV.pv (PV.bool false), AV.pv PV.undef, AV.pv PV.undef, AV.pv PV.undef, AV.pv PV.undef, AV.pv PV.undef, AV.pv PV.undef, AV.pv PV.undef, AV.pv PV.undef, AV.pv PV.undef, AV.pv PV.undef, AV.pv PV.undef, AV.pv PV.undef, AV.pv PV.undef, AV.pv PV.undef, AV.pv PV.undef, AV.pv PV.undef, AV.pv PV.undef, AV.pv PV.undef, AV.pv PV.undef, AV.pv PV.undef, AV.pv PV.undef], stack := [], mem := [], cur := (0 : Nat), ctr := (1 : Nat), fn := (26 : Nat) })
  | .e1  => (Ex.exit (0 : Nat), { tmps := [AV.pv PV.undef, AV.pv PV.undef, AV.pv PV.undef, AV.pv PV.undef, AV.pv PV.undef, AV.pv PV.undef, AV.pv PV.undef, AV.pv PV.undef, AV.pv PV.undef, AV.pv PV.undef, AV.pv PV.undef, AV.pv PV.undef, AV.pv PV.undef, AV.pv PV.undef, AV.pv PV.undef, AV.pv PV.undef, AV.pv PV.undef, AV.pv PV.undef, AV.pv PV.undef, AV.pv PV.undef, AV.pv PV.undef, AV.pv PV.undef, AV.pv PV.undef, AV.pv PV.undef, AV.pv PV.undef, AV.pv PV.undef], stack := [], mem := [], cur := (0 : Nat), ctr := (1 : Nat), fn := (26 : Nat) })
noncomputable def f26L0it5 (x0 : List (List PV)) (x1 : List (List PV)) (z4 : Int) : Tr (f26L0s ⊕ f26L0e) := (.test (decide (z4 < (↑x0.length : Int))) (.test (decide ((0 : Int) ≤ z4) && decide (z4 < (↑x0.length : Int))) (.test (decide ((0 : Int) ≤ z4) && decide (z4 < (↑x1.length : Int))) (.test (!(pInt ((x0.getD z4.toNat []).headD PV.undef) == pInt ((x1.getD z4.toNat []).headD PV.undef) && (pInt ((x0.getD z4.toNat []).tail.headD PV.undef) == pInt ((x1.getD z4.toNat []).tail.headD PV.undef) && (pInt ((x0.getD z4.toNat []).tail.tail.headD PV.undef) == pInt ((x1.getD z4.toNat []).tail.tail.headD PV.undef) && true) && true))) (.ret (.inr (.e0))) (.ret (.inl (.s0 (IntKind.i64.wrap (z4 + (1 : Int))))))) .fail) .fail) (.ret (.inr (.e1))))
noncomputable def f26L0r (N : Nat) (x0 : List (List PV)) (x1 : List (List PV)) : f26L0s → Option (f26L0s ⊕ f26L0e)
  | .s0 z4 => Tr.run (f26L0it5 x0 x1 z4)
theorem f26L0_step (N : Nat) (x0 : List (List PV)) (x1 : List (List PV)) : ∀ x, (roundAt (E1 N) (94 : Nat) (26 : Nat) (1 : Nat) (f26L0c N x0 x1) (f26L0S x0 x1 x)).run = (f26L0r N x0 x1 x).map (sumMap (f26L0S x0 x1) (f26L0T x0 x1))
  | .s0 z4 => (Tr.run_of (g := (f26L0it5 x0 x1 z4)) (f := (sumMap (f26L0S x0 x1) (f26L0T x0 x1))) (by kernel_rfl))
noncomputable def f26 (N : Nat) (x0 : List (List PV)) (x1 : List (List PV)) : Option f26o := (bif ((↑x0.length : Int) != (↑x1.length : Int)) then (Tr.run (.ret (.r0 (false)))) else ((loopN (f26L0r N x0 x1) N (.s0 ((0 : Int)))).bind (fun
    | .e0  => Tr.run (.ret (.r0 (false)))
    | .e1  => Tr.run (.ret (.r0 (true))))))
theorem f26_run (N : Nat) (x0 : List (List PV)) (x1 : List (List PV)) : (evRes (E1 N) (100 : Nat) (26 : Nat) [PV.list (81 : Nat) x0, PV.list (81 : Nat) x1]).run = (f26 N x0 x1).map f26W := (test_run (b := (↑x0.length : Int) != (↑x1.length : Int)) (by kernel_rfl) (by kernel_rfl) (Tr.run_of (g := (.ret (.r0 (false)))) (f := f26W) (by kernel_rfl)) (skip_run [false] (by kernel_rfl) (wait_run (wrap := f26W) (E := E1 N) (n := (94 : Nat)) (f := (26 : Nat)) (c0 := (1 : Nat)) (c := (f26L0c N x0 x1)) (s := Tr.waitS (Tr.sub [false] (Tr.sub [false] (evRes (E1 N) (100 : Nat) (26 : Nat) [PV.list (81 : Nat) x0, PV.list (81 : Nat) x1])))) (f26L0S x0 x1) (f26L0T x0 x1) (f26L0r N x0 x1) (.s0 ((0 : Int))) _ (f26L0_step N x0 x1) (by kernel_rfl) (by kernel_rfl) (by kernel_rfl) (by kernel_rfl) (by kernel_rfl) (fun
    | .e0  => (Tr.run_of (g := (.ret (.r0 (false)))) (f := f26W) (by kernel_rfl))
    | .e1  => (Tr.run_of (g := (.ret (.r0 (true)))) (f := f26W) (by kernel_rfl))))))
structure f34o where
  r0 ::
  (y6 : Bool)
noncomputable def f34W (o : f34o) : Res := (fun y6 => Res.pv (PV.bool y6)) o.y6
noncomputable def f34L0c (N : Nat) (x0 : List (List PV)) (x1 : List (List PV)) : Code := Tr.waitC (Tr.sub [false] (Tr.sub [false] (evRes (E1 N) (100 : Nat) (34 : Nat) [PV.list (3 : Nat) x0, PV.list (3 : Nat) x1])))
inductive f34L0s where
  | s0 (y3 : Int)
noncomputable def f34L0S (x0 : List (List PV)) (x1 : List (List PV)) : f34L0s → St
  | .s0 y3 => { tmps := [AV.pv (PV.list (3 : Nat) x0), AV.pv (PV.list (3 : Nat) x1), AV.pv PV.undef, AV.pv PV.undef, AV.pv PV.undef, AV.pv (PV.int IntKind.i64 y3), AV.pv PV.undef, AV.pv PV.undef, AV.pv PV.undef, AV.pv PV.undef, AV.pv PV.undef, AV.pv PV.undef, AV.pv PV.undef, AV.pv PV.undef, AV.pv PV.undef, AV.pv PV.undef, AV.pv PV.undef, AV.pv PV.undef, AV.pv PV.undef, AV.pv PV.undef, AV.pv PV.undef, AV.pv PV.undef, AV.pv PV.undef, AV.pv PV.undef, AV.pv PV.undef, AV.pv PV.undef], stack := [], mem := [], cur := (0 : Nat), ctr := (1 : Nat), fn := (34 : Nat) }
inductive f34L0e where
  | e0 
  | e1 
noncomputable def f34L0T (x0 : List (List PV)) (x1 : List (List PV)) : f34L0e → (Ex × St)
  | .e0  => (Ex.ret, { tmps := [AV.pv PV.undef, AV.pv PV.undef, AV.pv PV.undef, AV.pv PV.undef, AV.pv (PV.bool false), AV.pv PV.undef, AV.pv PV.undef, AV.pv PV.undef, AV.pv PV.undef, AV.pv PV.undef, AV.pv PV.undef, AV.pv PV.undef, AV.pv PV.undef, AV.pv PV.undef, AV.pv PV.undef, AV.pv PV.undef, AV.pv PV.undef, AV.pv PV.undef, AV.pv PV.undef, AV.pv PV.undef, AV.pv PV.undef, AV.pv PV.undef, AV.pv PV.undef, AV.pv PV.undef, AV.pv PV.undef, AV.pv PV.undef], stack := [], mem := [], cur := (0 : Nat), ctr := (1 : Nat), fn := (34 : Nat) })
  | .e1  => (Ex.exit (0 : Nat), { tmps := [AV.pv PV.undef, AV.pv PV.undef, AV.pv PV.undef, AV.pv PV.undef, AV.pv PV.undef, AV.pv PV.undef, AV.pv PV.undef, AV.pv PV.undef, AV.pv PV.undef, AV.pv PV.undef, AV.pv PV.undef, AV.pv PV.undef, AV.pv PV.undef, AV.pv PV.undef, AV.pv PV.undef, AV.pv PV.undef, AV.pv PV.undef, AV.pv PV.undef, AV.pv PV.undef, AV.pv PV.undef, AV.pv PV.undef, AV.pv PV.undef, AV.pv PV.undef, AV.pv PV.undef, AV.pv PV.undef, AV.pv PV.undef], stack := [], mem := [], cur := (0 : Nat), ctr := (1 : Nat), fn := (34 : Nat) })
noncomputable def f34L0it5 (x0 : List (List PV)) (x1 : List (List PV)) (z4 : Int) : Tr (f34L0s ⊕ f34L0e) := (.test (decide (z4 < (↑x0.length : Int))) (.test (decide ((0 : Int) ≤ z4) && decide (z4 < (↑x0.length : Int))) (.test (decide ((0 : Int) ≤ z4) && decide (z4 < (↑x1.length : Int))) (.test (pInt ((x0.getD z4.toNat []).headD PV.undef) != pInt ((x1.getD z4.toNat []).headD PV.undef)) (.ret (.inr (.e0))) (.ret (.inl (.s0 (IntKind.i64.wrap (z4 + (1 : Int))))))) .fail) .fail) (.ret (.inr (.e1))))
noncomputable def f34L0r (N : Nat) (x0 : List (List PV)) (x1 : List (List PV)) : f34L0s → Option (f34L0s ⊕ f34L0e)
  | .s0 z4 => Tr.run (f34L0it5 x0 x1 z4)
theorem f34L0_step (N : Nat) (x0 : List (List PV)) (x1 : List (List PV)) : ∀ x, (roundAt (E1 N) (94 : Nat) (34 : Nat) (1 : Nat) (f34L0c N x0 x1) (f34L0S x0 x1 x)).run = (f34L0r N x0 x1 x).map (sumMap (f34L0S x0 x1) (f34L0T x0 x1))
  | .s0 z4 => (Tr.run_of (g := (f34L0it5 x0 x1 z4)) (f := (sumMap (f34L0S x0 x1) (f34L0T x0 x1))) (by kernel_rfl))
noncomputable def f34 (N : Nat) (x0 : List (List PV)) (x1 : List (List PV)) : Option f34o := (bif ((↑x0.length : Int) != (↑x1.length : Int)) then (Tr.run (.ret (.r0 (false)))) else ((loopN (f34L0r N x0 x1) N (.s0 ((0 : Int)))).bind (fun
    | .e0  => Tr.run (.ret (.r0 (false)))
    | .e1  => Tr.run (.ret (.r0 (true))))))
theorem f34_run (N : Nat) (x0 : List (List PV)) (x1 : List (List PV)) : (evRes (E1 N) (100 : Nat) (34 : Nat) [PV.list (3 : Nat) x0, PV.list (3 : Nat) x1]).run = (f34 N x0 x1).map f34W := (test_run (b := (↑x0.length : Int) != (↑x1.length : Int)) (by kernel_rfl) (by kernel_rfl) (Tr.run_of (g := (.ret (.r0 (false)))) (f := f34W) (by kernel_rfl)) (skip_run [false] (by kernel_rfl) (wait_run (wrap := f34W) (E := E1 N) (n := (94 : Nat)) (f := (34 : Nat)) (c0 := (1 : Nat)) (c := (f34L0c N x0 x1)) (s := Tr.waitS (Tr.sub [false] (Tr.sub [false] (evRes (E1 N) (100 : Nat) (34 : Nat) [PV.list (3 : Nat) x0, PV.list (3 : Nat) x1])))) (f34L0S x0 x1) (f34L0T x0 x1) (f34L0r N x0 x1) (.s0 ((0 : Int))) _ (f34L0_step N x0 x1) (by kernel_rfl) (by kernel_rfl) (by kernel_rfl) (by kernel_rfl) (by kernel_rfl) (fun
    | .e0  => (Tr.run_of (g := (.ret (.r0 (false)))) (f := f34W) (by kernel_rfl))
    | .e1  => (Tr.run_of (g := (.ret (.r0 (true)))) (f := f34W) (by kernel_rfl))))))
abbrev f27o := S25
noncomputable def f27W (o : f27o) : Res := Res.pv (S25v o)
def f27rs : List PK := [(true, [K.list 3, K.list 50])]
noncomputable def f27t0 (x0 : Int) (x1 : Int) : Tr f27o := (.test (decide (x0 < (1 : Int))) (.test (decide (x1 < (1 : Int))) (.ret (.mk ([]) ([]))) (.test (decide (x1 > (10000 : Int))) (.ret (.mk ([]) ([]))) (.test (decide ((0 : Int) ≤ x1) && decide (x1 ≤ x1) && decide (x1 ≤ (↑most : Int))) (.ret (.mk ([]) (List.replicate x1.toNat [PV.list (68 : Nat) []]))) .fail))) (.test (decide (x0 > (10000 : Int))) (.test (decide (x1 < (1 : Int))) (.ret (.mk ([]) ([]))) (.test (decide (x1 > (10000 : Int))) (.ret (.mk ([]) ([]))) (.test (decide ((0 : Int) ≤ x1) && decide (x1 ≤ x1) && decide (x1 ≤ (↑most : Int))) (.ret (.mk ([]) (List.replicate x1.toNat [PV.list (68 : Nat) []]))) .fail))) (.test (decide ((0 : Int) ≤ x0) && decide (x0 ≤ x0) && decide (x0 ≤ (↑most : Int))) (.test (decide (x1 < (1 : Int))) (.ret (.mk (List.replicate x0.toNat [PV.int IntKind.i64 (0 : Int)]) ([]))) (.test (decide (x1 > (10000 : Int))) (.ret (.mk (List.replicate x0.toNat [PV.int IntKind.i64 (0 : Int)]) ([]))) (.test (decide ((0 : Int) ≤ x1) && decide (x1 ≤ x1) && decide (x1 ≤ (↑most : Int))) (.ret (.mk (List.replicate x0.toNat [PV.int IntKind.i64 (0 : Int)]) (List.replicate x1.toNat [PV.list (68 : Nat) []]))) .fail))) .fail)))
noncomputable def f27 (N : Nat) (x0 : Int) (x1 : Int) : Option f27o := Tr.run (f27t0 x0 x1)
theorem f27_run (N : Nat) (x0 : Int) (x1 : Int) : (evFit f27rs (evRes (E1 N) (100 : Nat) (27 : Nat) [PV.int IntKind.i64 x0, PV.int IntKind.i64 x1])).run = (f27 N x0 x1).map f27W := (Tr.run_of (g := (f27t0 x0 x1)) (f := f27W) (by kernel_rfl))
def f27s : List PK := [(false, [K.int .i64]), (false, [K.int .i64])]
noncomputable def f27a (ps : List PV) : Option f27o := f27 0 (pInt (ps.headD PV.undef)) (pInt (ps.tail.headD PV.undef))
noncomputable def f27d : f27o := ⟨[], []⟩
noncomputable def f27O : Ora := ⟨fun ps => okPs f27s ps && (f27a ps).isSome, fun ps => (f27W ((f27a ps).getD f27d)).plain⟩
theorem f27_spec : Spec Try.prog 27 f27O := spec_fit 100 f27rs f27s (fun ps => (f27a ps).isSome) _ mixed fun ps hm hs hp => by
  cases h : f27a ps with
  | none => rw [h] at hp; cases hp
  | some o =>

    refine ⟨E1 0, f27W o, rfl, E1_ok 0, ?_, .inr ?_⟩
    · rw [show canPs f27s ps = [PV.int IntKind.i64 (pInt (ps.headD PV.undef)), PV.int IntKind.i64 (pInt (ps.tail.headD PV.undef))] from by kernel_rfl, f27_run 0]
      show (f27a ps).map f27W = _
      rw [h]; rfl
    · rfl
end Go.Proofs.YtihdfkdinfmhlaaS
