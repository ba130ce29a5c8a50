/- slices.Concat in pieces, in plain form, printed. Conditions: none. -/
import Derived.Test.YtahflgbdcnipnaaIt2
import Derived.Test.YtahflgbdcnipnaaSimRow
set_option linter.unusedVariables false
set_option linter.unusedSimpArgs false
set_option maxRecDepth 10000
namespace Go.Proofs.YtahflgbdcnipnaaS
open Go Go.Proofs
def masks21 : Nat → Nat → Option ((List Nat × List Nat) × (List Nat × List Nat)) := fun f r => match f, r with
  | 21, 3 => some (([0, 3, 9, 10, 11], [10, 17, 24, 26, 33]), ([0, 3], [10, 17, 24, 26, 33]))
  | 21, 11 => some (([6, 25, 26, 27], [10, 17, 24, 26, 33]), ([6], [10, 17, 24, 26, 33]))
  | _, _ => none
noncomputable def E21 (N : Nat) : Env := ⟨Try.prog, fun _ => none, masks21, N⟩
theorem E21_ok (N : Nat) : (E21 N).Ok := ⟨fun f o h => (by cases h), by kernel_rfl⟩
/-- The loop that adds up the lengths; what is behind the call. -/
noncomputable def codeA : Code := Code.fst (Code.snd (Code.snd (Func.code Try.f21)))
noncomputable def codeB : Code := Code.snd (Code.snd (Code.snd (Code.snd (Func.code Try.f21))))
noncomputable def psA (x0 : List (List PV)) : List PV := [.list 22 x0, .undef, .list 44 [], .int .i64 0] ++ List.replicate 32 .undef
noncomputable def psB (x0 : List (List PV)) : List PV := [.list 22 x0] ++ List.replicate 35 .undef
set_option maxHeartbeats 4000000
structure jao where
  r0 ::
  (y12 : List (List PV)) (y13 : Int)
noncomputable def jaW (o : jao) : (Ex × St) := (fun y12 y13 => (Ex.normal, { tmps := [AV.pv (PV.list (22 : Nat) y12), AV.pv PV.undef, AV.pv PV.undef, AV.pv (PV.int IntKind.i64 y13), AV.pv PV.undef, AV.pv PV.undef, AV.pv PV.undef, AV.pv PV.undef, AV.pv PV.undef, AV.pv PV.undef, AV.pv PV.undef, AV.pv PV.undef, AV.pv PV.undef, AV.pv PV.undef, AV.pv PV.undef, AV.pv PV.undef, AV.pv PV.undef, AV.pv PV.undef, AV.pv PV.undef, AV.pv PV.undef, AV.pv PV.undef, AV.pv PV.undef, AV.pv PV.undef, AV.pv PV.undef, AV.pv PV.undef, AV.pv PV.undef, AV.pv PV.undef, AV.pv PV.undef, AV.pv PV.undef, AV.pv PV.undef, AV.pv PV.undef, AV.pv PV.undef, AV.pv PV.undef, AV.pv PV.undef, AV.pv PV.undef, AV.pv PV.undef], stack := [], mem := [], cur := (0 : Nat), ctr := (1 : Nat), fn := (21 : Nat) })) o.y12 o.y13
noncomputable def jaL0c (N : Nat) (x0 : List (List PV)) : Code := Tr.waitC (evCode (E21 N) (100 : Nat) codeA (St.plain (21 : Nat) (psA x0)))
inductive jaL0s where
  | s0 (y5 : Int) (y6 : Int)
noncomputable def jaL0S (x0 : List (List PV)) : jaL0s → St
  | .s0 y5 y6 => { tmps := [AV.pv (PV.list (22 : Nat) x0), AV.pv PV.undef, AV.pv PV.undef, AV.pv (PV.int IntKind.i64 y5), AV.pv PV.undef, AV.pv PV.undef, AV.pv PV.undef, AV.pv PV.undef, AV.pv PV.undef, AV.pv (PV.list (22 : Nat) x0), AV.pv (PV.int IntKind.i64 (↑x0.length : Int)), AV.pv (PV.int IntKind.i64 y6), AV.pv PV.undef, AV.pv PV.undef, AV.pv PV.undef, AV.pv PV.undef, AV.pv PV.undef, AV.pv PV.undef, AV.pv PV.undef, AV.pv PV.undef, AV.pv PV.undef, AV.pv PV.undef, AV.pv PV.undef, AV.pv PV.undef, AV.pv PV.undef, AV.pv PV.undef, AV.pv PV.undef, AV.pv PV.undef, AV.pv PV.undef, AV.pv PV.undef, AV.pv PV.undef, AV.pv PV.undef, AV.pv PV.undef, AV.pv PV.undef, AV.pv PV.undef, AV.pv PV.undef], stack := [], mem := [], cur := (0 : Nat), ctr := (1 : Nat), fn := (21 : Nat) }
inductive jaL0e where
  | e0 (y7 : Int)
noncomputable def jaL0T (x0 : List (List PV)) : jaL0e → (Ex × St)
  | .e0 y7 => (Ex.exit (0 : Nat), { tmps := [AV.pv (PV.list (22 : Nat) x0), AV.pv PV.undef, AV.pv PV.undef, AV.pv (PV.int IntKind.i64 y7), AV.pv PV.undef, AV.pv PV.undef, AV.pv PV.undef, AV.pv PV.undef, AV.pv PV.undef, AV.pv PV.undef, AV.pv PV.undef, AV.pv PV.undef, AV.pv PV.undef, AV.pv PV.undef, AV.pv PV.undef, AV.pv PV.undef, AV.pv PV.undef, AV.pv PV.undef, AV.pv PV.undef, AV.pv PV.undef, AV.pv PV.undef, AV.pv PV.undef, AV.pv PV.undef, AV.pv PV.undef, AV.pv PV.undef, AV.pv PV.undef, AV.pv PV.undef, AV.pv PV.undef, AV.pv PV.undef, AV.pv PV.undef, AV.pv PV.undef, AV.pv PV.undef, AV.pv PV.undef, AV.pv PV.undef, AV.pv PV.undef, AV.pv PV.undef], stack := [], mem := [], cur := (0 : Nat), ctr := (1 : Nat), fn := (21 : Nat) })
noncomputable def jaL0it10 (x0 : List (List PV)) (z8 : Int) (z9 : Int) : Tr (jaL0s ⊕ jaL0e) := (.test (decide (z9 < (↑x0.length : Int))) (.test (decide ((0 : Int) ≤ z9) && decide (z9 < (↑x0.length : Int))) (.test (decide (IntKind.i64.wrap (z8 + (↑(pList ((x0.getD z9.toNat []).headD PV.undef)).length : Int)) < (0 : Int))) .fail (.ret (.inl (.s0 (IntKind.i64.wrap (z8 + (↑(pList ((x0.getD z9.toNat []).headD PV.undef)).length : Int))) (IntKind.i64.wrap (z9 + (1 : Int))))))) .fail) (.ret (.inr (.e0 (z8)))))
noncomputable def jaL0r (N : Nat) (x0 : List (List PV)) : jaL0s → Option (jaL0s ⊕ jaL0e)
  | .s0 z8 z9 => Tr.run (jaL0it10 x0 z8 z9)
theorem jaL0_step (N : Nat) (x0 : List (List PV)) : ∀ x, (roundAt (E21 N) (97 : Nat) (21 : Nat) (1 : Nat) (jaL0c N x0) (jaL0S x0 x)).run = (jaL0r N x0 x).map (sumMap (jaL0S x0) (jaL0T x0))
  | .s0 z8 z9 => (Tr.run_of (g := (jaL0it10 x0 z8 z9)) (f := (sumMap (jaL0S x0) (jaL0T x0))) (by kernel_rfl))
noncomputable def ja (N : Nat) (x0 : List (List PV)) : Option jao := ((loopN (jaL0r N x0) N (.s0 ((0 : Int)) ((0 : Int)))).bind (fun
    | .e0 w11 => Tr.run (.ret (.r0 (x0) (w11)))))
theorem ja_run (N : Nat) (x0 : List (List PV)) : (evCode (E21 N) (100 : Nat) codeA (St.plain (21 : Nat) (psA x0))).run = (ja N x0).map jaW := (wait_run (wrap := jaW) (E := E21 N) (n := (97 : Nat)) (f := (21 : Nat)) (c0 := (1 : Nat)) (c := (jaL0c N x0)) (s := Tr.waitS (evCode (E21 N) (100 : Nat) codeA (St.plain (21 : Nat) (psA x0)))) (jaL0S x0) (jaL0T x0) (jaL0r N x0) (.s0 ((0 : Int)) ((0 : Int))) _ (jaL0_step N x0) (by kernel_rfl) (by kernel_rfl) (by kernel_rfl) (by kernel_rfl) (by kernel_rfl) (fun
    | .e0 w11 => (Tr.run_of (g := (.ret (.r0 (x0) (w11)))) (f := jaW) (by kernel_rfl))))
inductive jbo where
  | r0 (y13 : List (List PV))
  | r1 (y14 : List (List PV))
noncomputable def jbW  : jbo → (Res)
  | .r0 y13 => Res.fresh (44 : Nat) y13
  | .r1 y14 => Res.pv (PV.list (44 : Nat) y14)
noncomputable def jbL0c (N : Nat) (x0 : List (List PV)) : Code := Tr.waitC (evRest (E21 N) (100 : Nat) Try.f21 codeB (St.own (21 : Nat) (psB x0) (24 : Nat) (6 : Nat) (44 : Nat) []))
inductive jbL0s where
  | s0 
  | s1 (y5 : Int) (y6 : List (List PV))
noncomputable def jbL0S (x0 : List (List PV)) : jbL0s → St
  | .s0  => { tmps := [AV.pv PV.undef, AV.pv PV.undef, AV.pv PV.undef, AV.pv PV.undef, AV.pv PV.undef, AV.pv PV.undef, AV.own (524 : Nat), AV.pv PV.undef, AV.pv PV.undef, AV.pv PV.undef, AV.pv PV.undef, AV.pv PV.undef, AV.pv PV.undef, AV.pv PV.undef, AV.pv PV.undef, AV.pv PV.undef, AV.pv PV.undef, AV.pv PV.undef, AV.pv PV.undef, AV.pv PV.undef, AV.pv PV.undef, AV.pv PV.undef, AV.pv PV.undef, AV.pv PV.undef, AV.pv PV.undef, AV.pv (PV.list (22 : Nat) x0), AV.pv (PV.int IntKind.i64 (↑x0.length : Int)), AV.pv (PV.int IntKind.i64 (0 : Int)), AV.pv PV.undef, AV.pv PV.undef, AV.pv PV.undef, AV.pv PV.undef, AV.pv PV.undef, AV.pv PV.undef, AV.pv PV.undef, AV.pv PV.undef], stack := [], mem := [((524 : Nat), Ob.row (2 : Nat) (44 : Nat) [])], cur := (0 : Nat), ctr := (1 : Nat), fn := (21 : Nat) }
  | .s1 y5 y6 => { tmps := [AV.pv PV.undef, AV.pv PV.undef, AV.pv PV.undef, AV.pv PV.undef, AV.pv PV.undef, AV.pv PV.undef, AV.own (533 : Nat), AV.pv PV.undef, AV.pv PV.undef, AV.pv PV.undef, AV.pv PV.undef, AV.pv PV.undef, AV.pv PV.undef, AV.pv PV.undef, AV.pv PV.undef, AV.pv PV.undef, AV.pv PV.undef, AV.pv PV.undef, AV.pv PV.undef, AV.pv PV.undef, AV.pv PV.undef, AV.pv PV.undef, AV.pv PV.undef, AV.pv PV.undef, AV.pv PV.undef, AV.pv (PV.list (22 : Nat) x0), AV.pv (PV.int IntKind.i64 (↑x0.length : Int)), AV.pv (PV.int IntKind.i64 y5), AV.pv PV.undef, AV.pv PV.undef, AV.pv PV.undef, AV.pv PV.undef, AV.pv PV.undef, AV.pv PV.undef, AV.pv PV.undef, AV.pv PV.undef], stack := [], mem := [((533 : Nat), Ob.row (1 : Nat) (44 : Nat) y6)], cur := (0 : Nat), ctr := (1 : Nat), fn := (21 : Nat) }
inductive jbL0e where
  | e0 
  | e1 (y7 : List (List PV))
noncomputable def jbL0T (x0 : List (List PV)) : jbL0e → (Ex × St)
  | .e0  => (Ex.exit (2 : Nat), { tmps := [AV.pv PV.undef, AV.pv PV.undef, AV.pv PV.undef, AV.pv PV.undef, AV.pv PV.undef, AV.pv PV.undef, AV.own (524 : Nat), AV.pv PV.undef, AV.pv PV.undef, AV.pv PV.undef, AV.pv PV.undef, AV.pv PV.undef, AV.pv PV.undef, AV.pv PV.undef, AV.pv PV.undef, AV.pv PV.undef, AV.pv PV.undef, AV.pv PV.undef, AV.pv PV.undef, AV.pv PV.undef, AV.pv PV.undef, AV.pv PV.undef, AV.pv PV.undef, AV.pv PV.undef, AV.pv PV.undef, AV.pv PV.undef, AV.pv PV.undef, AV.pv PV.undef, AV.pv PV.undef, AV.pv PV.undef, AV.pv PV.undef, AV.pv PV.undef, AV.pv PV.undef, AV.pv PV.undef, AV.pv PV.undef, AV.pv PV.undef], stack := [], mem := [((524 : Nat), Ob.row (2 : Nat) (44 : Nat) [])], cur := (0 : Nat), ctr := (1 : Nat), fn := (21 : Nat) })
  | .e1 y7 => (Ex.exit (2 : Nat), { tmps := [AV.pv PV.undef, AV.pv PV.undef, AV.pv PV.undef, AV.pv PV.undef, AV.pv PV.undef, AV.pv PV.undef, AV.own (533 : Nat), AV.pv PV.undef, AV.pv PV.undef, AV.pv PV.undef, AV.pv PV.undef, AV.pv PV.undef, AV.pv PV.undef, AV.pv PV.undef, AV.pv PV.undef, AV.pv PV.undef, AV.pv PV.undef, AV.pv PV.undef, AV.pv PV.undef, AV.pv PV.undef, AV.pv PV.undef, AV.pv PV.undef, AV.pv PV.undef, AV.pv PV.undef, AV.pv PV.undef, AV.pv PV.undef, AV.pv PV.undef, AV.pv PV.undef, AV.pv PV.undef, AV.pv PV.undef, AV.pv PV.undef, AV.pv PV.undef, AV.pv PV.undef, AV.pv PV.undef, AV.pv PV.undef, AV.pv PV.undef], stack := [], mem := [((533 : Nat), Ob.row (1 : Nat) (44 : Nat) y7)], cur := (0 : Nat), ctr := (1 : Nat), fn := (21 : Nat) })
noncomputable def jbL0it8 (x0 : List (List PV)) : Tr (jbL0s ⊕ jbL0e) := (.test (decide ((0 : Int) < (↑x0.length : Int))) (.test (decide ((0 : Int) ≤ (0 : Int)) && decide ((0 : Int) < (↑x0.length : Int))) (.test (decide (([] : List (List PV)).length + (pList ((x0.getD (Int.toNat (0 : Int)) []).headD PV.undef)).length ≤ most)) (.ret (.inl (.s1 ((1 : Int)) ([] ++ pList ((x0.getD (Int.toNat (0 : Int)) []).headD PV.undef))))) .fail) .fail) (.ret (.inr (.e0))))
noncomputable def jbL0it11 (x0 : List (List PV)) (z9 : Int) (z10 : List (List PV)) : Tr (jbL0s ⊕ jbL0e) := (.test (decide (z9 < (↑x0.length : Int))) (.test (decide ((0 : Int) ≤ z9) && decide (z9 < (↑x0.length : Int))) (.test (decide (z10.length + (pList ((x0.getD z9.toNat []).headD PV.undef)).length ≤ most)) (.ret (.inl (.s1 (IntKind.i64.wrap (z9 + (1 : Int))) (z10 ++ pList ((x0.getD z9.toNat []).headD PV.undef))))) .fail) .fail) (.ret (.inr (.e1 (z10)))))
noncomputable def jbL0r (N : Nat) (x0 : List (List PV)) : jbL0s → Option (jbL0s ⊕ jbL0e)
  | .s0  => Tr.run (jbL0it8 x0)
  | .s1 z9 z10 => Tr.run (jbL0it11 x0 z9 z10)
theorem jbL0_step (N : Nat) (x0 : List (List PV)) : ∀ x, (roundAt (E21 N) (96 : Nat) (21 : Nat) (1 : Nat) (jbL0c N x0) (jbL0S x0 x)).run = (jbL0r N x0 x).map (sumMap (jbL0S x0) (jbL0T x0))
  | .s0  => (Tr.run_of (g := (jbL0it8 x0)) (f := (sumMap (jbL0S x0) (jbL0T x0))) (by kernel_rfl))
  | .s1 z9 z10 => (Tr.run_of (g := (jbL0it11 x0 z9 z10)) (f := (sumMap (jbL0S x0) (jbL0T x0))) (by kernel_rfl))
noncomputable def jb (N : Nat) (x0 : List (List PV)) : Option jbo := ((loopN (jbL0r N x0) N (.s0)).bind (fun
    | .e0  => Tr.run (.ret (.r0 ([])))
    | .e1 w12 => Tr.run (.ret (.r1 (w12)))))
theorem jb_run (N : Nat) (x0 : List (List PV)) : (evRest (E21 N) (100 : Nat) Try.f21 codeB (St.own (21 : Nat) (psB x0) (24 : Nat) (6 : Nat) (44 : Nat) [])).run = (jb N x0).map jbW := (wait_run (wrap := jbW) (E := E21 N) (n := (96 : Nat)) (f := (21 : Nat)) (c0 := (1 : Nat)) (c := (jbL0c N x0)) (s := Tr.waitS (evRest (E21 N) (100 : Nat) Try.f21 codeB (St.own (21 : Nat) (psB x0) (24 : Nat) (6 : Nat) (44 : Nat) []))) (jbL0S x0) (jbL0T x0) (jbL0r N x0) (.s0) _ (jbL0_step N x0) (by kernel_rfl) (by kernel_rfl) (by kernel_rfl) (by kernel_rfl) (by kernel_rfl) (fun
    | .e0  => (Tr.run_of (g := (.ret (.r0 ([])))) (f := jbW) (by kernel_rfl))
    | .e1 w12 => (Tr.run_of (g := (.ret (.r1 (w12)))) (f := jbW) (by kernel_rfl))))
end Go.Proofs.YtahflgbdcnipnaaS
