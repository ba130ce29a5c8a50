/- Part 8 of what the proof of TopBackends leans on. Conditions: none. -/
import Derived.Test.YtgfnpgnfklcicaaGreatT7
set_option linter.unusedSimpArgs false
set_option linter.unusedVariables false
set_option maxRecDepth 10000
namespace Go.Proofs.YtgfnpgnfklcicaaGreatS
open Go Go.Proofs
def zyz : Nat → Nat → Option ((List Nat × List Nat) × (List Nat × List Nat)) := fun f r => match f, r with
 | 3000000, 0 => some (([62], []), ([], []))
 | f, r => QS f r
noncomputable def E7u (N : Nat) : Env := ⟨Tryz.prog, fun _ => none, zyz, N⟩
theorem qyG (N : Nat) : (E7u N).Ok := ⟨fun f o h => (by cases h), by kernel_rfl, fun g h => (by
 have h' : (zyz g 1000000).isSome = true := h
 unfold zyz at h'
 split at h'
 · simp_all
 · unfold QS at h'
   split at h' <;> simp_all)⟩
noncomputable def E7 (N : Nat) : Env := ((((E7u N).add 8 f8O).add 9 f9P).add 16 f16P).add 13 f13O
theorem E7_ok (N : Nat) : (E7 N).Ok := ((((qyG N).add yzC).add zyk).add Yz3).add zyo
set_option maxHeartbeats 4000000
noncomputable def gu : AV := AV.pv PV.undef
noncomputable def g1 (x2 : List (List PV)) (x0 : S23) : PV := PV.int .i64 ((IntKind.i64.wrap ((IntKind.i64.wrap (pInt ((x2.getD (Int.toNat (0 : Int)) []).headD PV.undef))).tdiv (16 : Int))).tmod x0.a1)
noncomputable def g2 (x2 : List (List PV)) (x0 : S23) : PV := PV.int .i64 ((IntKind.i64.wrap (pInt ((x2.getD (Int.toNat (0 : Int)) []).headD PV.undef))).tmod x0.a0)
noncomputable def g3 (x1 : List (List PV)) : PV := PV.int .i64 (pInt ((x1.getD (Int.toNat (0 : Int)) []).tail.headD PV.undef))
noncomputable def g4 (x0 : S23) : Nat × Ob := (4, Ob.box [AV.pv (PV.int .i64 x0.a0), AV.pv (PV.int .i64 x0.a1), AV.pv (PV.int .i64 x0.a2), AV.pv (PV.int .i64 x0.a3), AV.pv (PV.int .i64 x0.a4), AV.pv (PV.int .i64 x0.a5), AV.pv (PV.int .i64 x0.a6), AV.pv (PV.int .i64 x0.a7), AV.pv (PV.bool x0.a8), AV.pv (PV.int .i64 x0.a9), AV.pv (PV.int .i64 x0.a10), AV.pv (PV.int .i64 x0.a11)])
noncomputable def g5 (x1 : List (List PV)) : PV := PV.int .i64 (pInt ((x1.getD (Int.toNat (0 : Int)) []).headD PV.undef))
structure f7o where
 r0 ::
 (y71 : Bool)
noncomputable def f7W (o : f7o) : Res := (fun y71 => Res.pv (PV.bool y71)) o.y71
noncomputable def jzp (N : Nat) (x0 : S23) (x1 x2 x3 : List (List PV)) : Code := Tr.waitC (Tr.sub [false, true, false, false, false, false, false, false] (Tr.sub [false] (Tr.sub [false, false, false, false, false, false, false] (Tr.sub [false] (Tr.sub [false, false, false, false, false, false, false, false, false, false, false] (Tr.sub [false] (Tr.sub [false, false, false, false] (Tr.sub [true] (Tr.sub [false, false, false, false, false] (Tr.sub [false] (Tr.sub [true] (qy (E7 N) 100 7 [(S23v x0), PV.list 29 x1, PV.list 5 x2, PV.list 3 x3]))))))))))))
inductive f7L0s where
 | s0 
 | s1 
 | s2 (y16 : Int) (y17 : List (List PV))
noncomputable def qN (x0 : S23) (x1 x2 x3 : List (List PV)) : f7L0s → St
 | .s0  => { tmps := [gu, AV.pv (PV.list 29 x1), AV.pv (PV.list 5 x2), AV.pv (PV.list 3 x3), AV.ptr 4 0, gu, gu, gu, gu, AV.lit 62 [], AV.pv (PV.int .i64 0), gu, gu, gu, gu, gu, gu, gu, gu, gu, gu, gu, gu, gu, gu, gu, gu, gu, gu, gu, gu, gu, gu, gu, gu, gu, gu, gu, gu, gu, gu, gu, gu, gu, gu, gu, gu, gu, gu, gu, gu, gu, gu, gu, gu, gu, gu, gu, gu, gu, gu, gu, gu, gu, gu, gu, gu, gu, gu, gu, gu, gu, gu, gu, gu, gu, gu, gu, gu, gu, gu, gu, gu, gu, gu, gu, gu, gu, gu, gu, gu, gu, gu, gu, gu, gu, gu, gu, gu, gu, gu, gu, gu, gu, gu, gu, gu, gu, gu, gu, gu, gu, gu, gu, gu, gu, gu, gu, gu, gu, gu, gu, gu, gu, gu, gu, gu, gu, gu, gu, gu, gu, gu, gu, gu, gu, gu, gu, gu, gu, gu, gu, gu, gu, gu, gu, gu, gu, gu, gu, gu, gu, gu, gu, gu, gu, gu, gu, gu, gu, gu, gu, gu, gu, gu, gu, gu, gu, gu, gu, gu, gu, gu, gu, gu, gu, gu, gu, gu, gu, gu, gu, gu, gu, gu, gu, gu, gu, gu, gu, gu, gu, gu, gu, gu, gu, gu, gu, gu, gu, gu, gu, gu, gu, gu, gu], stack := [], mem := [g4 x0], cur := 0, ctr := 1, fn := 7 }
 | .s1  => { tmps := [gu, AV.pv (PV.list 29 x1), AV.pv (PV.list 5 x2), AV.pv (PV.list 3 x3), AV.ptr 4 0, gu, gu, gu, gu, AV.own 762, AV.pv (PV.int .i64 1), gu, gu, gu, gu, gu, gu, gu, gu, gu, gu, gu, gu, gu, gu, gu, gu, gu, gu, gu, gu, gu, gu, gu, gu, gu, gu, gu, gu, gu, gu, gu, gu, gu, gu, gu, gu, gu, gu, gu, gu, gu, gu, gu, gu, gu, gu, gu, gu, gu, gu, gu, gu, gu, gu, gu, gu, gu, gu, gu, gu, gu, gu, gu, gu, gu, gu, gu, gu, gu, gu, gu, gu, gu, gu, gu, gu, gu, gu, gu, gu, gu, gu, gu, gu, gu, gu, gu, gu, gu, gu, gu, gu, gu, gu, gu, gu, gu, gu, gu, gu, gu, gu, gu, gu, gu, gu, gu, gu, gu, gu, gu, gu, gu, gu, gu, gu, gu, gu, gu, gu, gu, gu, gu, gu, gu, gu, gu, gu, gu, gu, gu, gu, gu, gu, gu, gu, gu, gu, gu, gu, gu, gu, gu, gu, gu, gu, gu, gu, gu, gu, gu, gu, gu, gu, gu, gu, gu, gu, gu, gu, gu, gu, gu, gu, gu, gu, gu, gu, gu, gu, gu, gu, gu, gu, gu, gu, gu, gu, gu, gu, gu, gu, gu, gu, gu, gu, gu, gu, gu, gu, gu, gu, gu, gu, gu], stack := [], mem := [(762, Ob.row 2 62 [[PV.int .i64 1, g2 x2 x0, g1 x2 x0, g5 x1, g3 x1]]), g4 x0], cur := 0, ctr := 1, fn := 7 }
 | .s2 y16 y17 => { tmps := [gu, AV.pv (PV.list 29 x1), AV.pv (PV.list 5 x2), AV.pv (PV.list 3 x3), AV.ptr 4 0, gu, gu, gu, gu, AV.own 762, AV.pv (PV.int .i64 y16), gu, gu, gu, gu, gu, gu, gu, gu, gu, gu, gu, gu, gu, gu, gu, gu, gu, gu, gu, gu, gu, gu, gu, gu, gu, gu, gu, gu, gu, gu, gu, gu, gu, gu, gu, gu, gu, gu, gu, gu, gu, gu, gu, gu, gu, gu, gu, gu, gu, gu, gu, gu, gu, gu, gu, gu, gu, gu, gu, gu, gu, gu, gu, gu, gu, gu, gu, gu, gu, gu, gu, gu, gu, gu, gu, gu, gu, gu, gu, gu, gu, gu, gu, gu, gu, gu, gu, gu, gu, gu, gu, gu, gu, gu, gu, gu, gu, gu, gu, gu, gu, gu, gu, gu, gu, gu, gu, gu, gu, gu, gu, gu, gu, gu, gu, gu, gu, gu, gu, gu, gu, gu, gu, gu, gu, gu, gu, gu, gu, gu, gu, gu, gu, gu, gu, gu, gu, gu, gu, gu, gu, gu, gu, gu, gu, gu, gu, gu, gu, gu, gu, gu, gu, gu, gu, gu, gu, gu, gu, gu, gu, gu, gu, gu, gu, gu, gu, gu, gu, gu, gu, gu, gu, gu, gu, gu, gu, gu, gu, gu, gu, gu, gu, gu, gu, gu, gu, gu, gu, gu, gu, gu, gu, gu, gu], stack := [], mem := [(762, Ob.row 1 62 y17), g4 x0], cur := 0, ctr := 1, fn := 7 }
inductive f7L0e where
 | e0 
 | e1 
 | e2 (y18 : List (List PV))
noncomputable def Zzy (x0 : S23) (x1 x2 x3 : List (List PV)) : f7L0e → (Ex × St)
 | .e0  => (Ex.exit 0, { tmps := [gu, AV.pv (PV.list 29 x1), gu, AV.pv (PV.list 3 x3), AV.ptr 4 0, gu, gu, gu, gu, AV.lit 62 [], gu, gu, gu, gu, gu, gu, gu, gu, gu, gu, gu, gu, gu, gu, gu, gu, gu, gu, gu, gu, gu, gu, gu, gu, gu, gu, gu, gu, gu, gu, gu, gu, gu, gu, gu, gu, gu, gu, gu, gu, gu, gu, gu, gu, gu, gu, gu, gu, gu, gu, gu, gu, gu, gu, gu, gu, gu, gu, gu, gu, gu, gu, gu, gu, gu, gu, gu, gu, gu, gu, gu, gu, gu, gu, gu, gu, gu, gu, gu, gu, gu, gu, gu, gu, gu, gu, gu, gu, gu, gu, gu, gu, gu, gu, gu, gu, gu, gu, gu, gu, gu, gu, gu, gu, gu, gu, gu, gu, gu, gu, gu, gu, gu, gu, gu, gu, gu, gu, gu, gu, gu, gu, gu, gu, gu, gu, gu, gu, gu, gu, gu, gu, gu, gu, gu, gu, gu, gu, gu, gu, gu, gu, gu, gu, gu, gu, gu, gu, gu, gu, gu, gu, gu, gu, gu, gu, gu, gu, gu, gu, gu, gu, gu, gu, gu, gu, gu, gu, gu, gu, gu, gu, gu, gu, gu, gu, gu, gu, gu, gu, gu, gu, gu, gu, gu, gu, gu, gu, gu, gu, gu, gu, gu, gu, gu, gu], stack := [], mem := [g4 x0], cur := 0, ctr := 1, fn := 7 })
 | .e1  => (Ex.exit 0, { tmps := [gu, AV.pv (PV.list 29 x1), gu, AV.pv (PV.list 3 x3), AV.ptr 4 0, gu, gu, gu, gu, AV.own 762, gu, gu, gu, gu, gu, gu, gu, gu, gu, gu, gu, gu, gu, gu, gu, gu, gu, gu, gu, gu, gu, gu, gu, gu, gu, gu, gu, gu, gu, gu, gu, gu, gu, gu, gu, gu, gu, gu, gu, gu, gu, gu, gu, gu, gu, gu, gu, gu, gu, gu, gu, gu, gu, gu, gu, gu, gu, gu, gu, gu, gu, gu, gu, gu, gu, gu, gu, gu, gu, gu, gu, gu, gu, gu, gu, gu, gu, gu, gu, gu, gu, gu, gu, gu, gu, gu, gu, gu, gu, gu, gu, gu, gu, gu, gu, gu, gu, gu, gu, gu, gu, gu, gu, gu, gu, gu, gu, gu, gu, gu, gu, gu, gu, gu, gu, gu, gu, gu, gu, gu, gu, gu, gu, gu, gu, gu, gu, gu, gu, gu, gu, gu, gu, gu, gu, gu, gu, gu, gu, gu, gu, gu, gu, gu, gu, gu, gu, gu, gu, gu, gu, gu, gu, gu, gu, gu, gu, gu, gu, gu, gu, gu, gu, gu, gu, gu, gu, gu, gu, gu, gu, gu, gu, gu, gu, gu, gu, gu, gu, gu, gu, gu, gu, gu, gu, gu, gu, gu, gu, gu, gu, gu, gu, gu, gu, gu], stack := [], mem := [(762, Ob.row 2 62 [[PV.int .i64 1, g2 x2 x0, g1 x2 x0, g5 x1, g3 x1]]), g4 x0], cur := 0, ctr := 1, fn := 7 })
 | .e2 y18 => (Ex.exit 0, { tmps := [gu, AV.pv (PV.list 29 x1), gu, AV.pv (PV.list 3 x3), AV.ptr 4 0, gu, gu, gu, gu, AV.own 762, gu, gu, gu, gu, gu, gu, gu, gu, gu, gu, gu, gu, gu, gu, gu, gu, gu, gu, gu, gu, gu, gu, gu, gu, gu, gu, gu, gu, gu, gu, gu, gu, gu, gu, gu, gu, gu, gu, gu, gu, gu, gu, gu, gu, gu, gu, gu, gu, gu, gu, gu, gu, gu, gu, gu, gu, gu, gu, gu, gu, gu, gu, gu, gu, gu, gu, gu, gu, gu, gu, gu, gu, gu, gu, gu, gu, gu, gu, gu, gu, gu, gu, gu, gu, gu, gu, gu, gu, gu, gu, gu, gu, gu, gu, gu, gu, gu, gu, gu, gu, gu, gu, gu, gu, gu, gu, gu, gu, gu, gu, gu, gu, gu, gu, gu, gu, gu, gu, gu, gu, gu, gu, gu, gu, gu, gu, gu, gu, gu, gu, gu, gu, gu, gu, gu, gu, gu, gu, gu, gu, gu, gu, gu, gu, gu, gu, gu, gu, gu, gu, gu, gu, gu, gu, gu, gu, gu, gu, gu, gu, gu, gu, gu, gu, gu, gu, gu, gu, gu, gu, gu, gu, gu, gu, gu, gu, gu, gu, gu, gu, gu, gu, gu, gu, gu, gu, gu, gu, gu, gu, gu, gu, gu, gu, gu, gu], stack := [], mem := [(762, Ob.row 1 62 y18), g4 x0], cur := 0, ctr := 1, fn := 7 })
noncomputable def Zzp (N : Nat) (x0 : S23) (x1 x2 x3 : List (List PV)) : Code := Tr.waitC (Tr.sub [true] (Tr.sub [true] (Tr.sub [true] (Tr.sub [true] (Tr.sub [true] (Tr.sub [true] (Tr.sub [true] (Tr.sub [true] (Tr.sub [true] (yv (E7 N) 93 7 1 (jzp N x0 x1 x2 x3) (qN x0 x1 x2 x3 (.s0 ))))))))))))
inductive f7L0iL19s where
 | s0 
 | s1 (y23 : Int) (y24 : List (List PV))
noncomputable def jE (x0 : S23) (x1 x2 x3 : List (List PV)) : f7L0iL19s → St
 | .s0  => { tmps := [gu, AV.pv (PV.list 29 x1), AV.pv (PV.list 5 x2), AV.pv (PV.list 3 x3), AV.ptr 4 0, gu, gu, gu, gu, AV.own 762, AV.pv (PV.int .i64 0), AV.pv (PV.int .i64 ((IntKind.i64.wrap (pInt ((x2.getD (Int.toNat (0 : Int)) []).headD PV.undef))).tmod x0.a0)), AV.pv (PV.int .i64 0), gu, gu, gu, gu, gu, gu, gu, gu, gu, gu, gu, gu, gu, gu, gu, gu, gu, gu, gu, gu, gu, gu, gu, gu, gu, gu, gu, gu, gu, gu, gu, gu, gu, gu, gu, gu, gu, gu, gu, gu, gu, gu, gu, gu, gu, gu, gu, gu, gu, gu, gu, gu, gu, gu, gu, gu, gu, gu, gu, gu, gu, gu, gu, gu, gu, gu, gu, gu, gu, gu, gu, gu, gu, gu, gu, gu, gu, gu, gu, gu, gu, gu, gu, gu, gu, gu, gu, gu, gu, gu, gu, gu, gu, gu, gu, gu, gu, gu, gu, gu, gu, gu, gu, gu, gu, gu, gu, gu, gu, gu, gu, gu, gu, gu, gu, gu, gu, gu, gu, gu, gu, gu, gu, gu, gu, gu, gu, gu, gu, gu, gu, gu, gu, gu, gu, gu, gu, gu, gu, gu, gu, gu, gu, gu, gu, gu, gu, gu, gu, gu, gu, gu, gu, gu, gu, gu, gu, gu, gu, gu, gu, gu, gu, gu, gu, gu, gu, gu, gu, gu, gu, gu, gu, gu, gu, gu, gu, gu, gu, gu, gu, gu, gu, gu, gu, gu, gu, gu, gu, gu, gu, gu, gu], stack := [], mem := [(762, Ob.row 2 62 [[PV.int .i64 1, g2 x2 x0, g1 x2 x0, g5 x1, g3 x1]]), g4 x0], cur := 0, ctr := 1, fn := 7 }
 | .s1 y23 y24 => { tmps := [gu, AV.pv (PV.list 29 x1), AV.pv (PV.list 5 x2), AV.pv (PV.list 3 x3), AV.ptr 4 0, gu, gu, gu, gu, AV.own 762, AV.pv (PV.int .i64 0), AV.pv (PV.int .i64 ((IntKind.i64.wrap (pInt ((x2.getD (Int.toNat (0 : Int)) []).headD PV.undef))).tmod x0.a0)), AV.pv (PV.int .i64 y23), gu, gu, gu, gu, gu, gu, gu, gu, gu, gu, gu, gu, gu, gu, gu, gu, gu, gu, gu, gu, gu, gu, gu, gu, gu, gu, gu, gu, gu, gu, gu, gu, gu, gu, gu, gu, gu, gu, gu, gu, gu, gu, gu, gu, gu, gu, gu, gu, gu, gu, gu, gu, gu, gu, gu, gu, gu, gu, gu, gu, gu, gu, gu, gu, gu, gu, gu, gu, gu, gu, gu, gu, gu, gu, gu, gu, gu, gu, gu, gu, gu, gu, gu, gu, gu, gu, gu, gu, gu, gu, gu, gu, gu, gu, gu, gu, gu, gu, gu, gu, gu, gu, gu, gu, gu, gu, gu, gu, gu, gu, gu, gu, gu, gu, gu, gu, gu, gu, gu, gu, gu, gu, gu, gu, gu, gu, gu, gu, gu, gu, gu, gu, gu, gu, gu, gu, gu, gu, gu, gu, gu, gu, gu, gu, gu, gu, gu, gu, gu, gu, gu, gu, gu, gu, gu, gu, gu, gu, gu, gu, gu, gu, gu, gu, gu, gu, gu, gu, gu, gu, gu, gu, gu, gu, gu, gu, gu, gu, gu, gu, gu, gu, gu, gu, gu, gu, gu, gu, gu, gu, gu, gu, gu], stack := [], mem := [(762, Ob.row 1 62 y24), g4 x0], cur := 0, ctr := 1, fn := 7 }
inductive f7L0iL19e where
 | e0 
 | e1 (y25 : List (List PV))
noncomputable def Yzp (x0 : S23) (x1 x2 x3 : List (List PV)) : f7L0iL19e → (Ex × St)
 | .e0  => (Ex.exit 2, { tmps := [gu, AV.pv (PV.list 29 x1), AV.pv (PV.list 5 x2), AV.pv (PV.list 3 x3), AV.ptr 4 0, gu, gu, gu, gu, AV.own 762, AV.pv (PV.int .i64 0), gu, gu, gu, gu, gu, gu, gu, gu, gu, gu, gu, gu, gu, gu, gu, gu, gu, gu, gu, gu, gu, gu, gu, gu, gu, gu, gu, gu, gu, gu, gu, gu, gu, gu, gu, gu, gu, gu, gu, gu, gu, gu, gu, gu, gu, gu, gu, gu, gu, gu, gu, gu, gu, gu, gu, gu, gu, gu, gu, gu, gu, gu, gu, gu, gu, gu, gu, gu, gu, gu, gu, gu, gu, gu, gu, gu, gu, gu, gu, gu, gu, gu, gu, gu, gu, gu, gu, gu, gu, gu, gu, gu, gu, gu, gu, gu, gu, gu, gu, gu, gu, gu, gu, gu, gu, gu, gu, gu, gu, gu, gu, gu, gu, gu, gu, gu, gu, gu, gu, gu, gu, gu, gu, gu, gu, gu, gu, gu, gu, gu, gu, gu, gu, gu, gu, gu, gu, gu, gu, gu, gu, gu, gu, gu, gu, gu, gu, gu, gu, gu, gu, gu, gu, gu, gu, gu, gu, gu, gu, gu, gu, gu, gu, gu, gu, gu, gu, gu, gu, gu, gu, gu, gu, gu, gu, gu, gu, gu, gu, gu, gu, gu, gu, gu, gu, gu, gu, gu, gu, gu, gu, gu, gu, gu, gu], stack := [], mem := [(762, Ob.row 2 62 [[PV.int .i64 1, g2 x2 x0, g1 x2 x0, g5 x1, g3 x1]]), g4 x0], cur := 0, ctr := 1, fn := 7 })
 | .e1 y25 => (Ex.exit 2, { tmps := [gu, AV.pv (PV.list 29 x1), AV.pv (PV.list 5 x2), AV.pv (PV.list 3 x3), AV.ptr 4 0, gu, gu, gu, gu, AV.own 762, AV.pv (PV.int .i64 0), gu, gu, gu, gu, gu, gu, gu, gu, gu, gu, gu, gu, gu, gu, gu, gu, gu, gu, gu, gu, gu, gu, gu, gu, gu, gu, gu, gu, gu, gu, gu, gu, gu, gu, gu, gu, gu, gu, gu, gu, gu, gu, gu, gu, gu, gu, gu, gu, gu, gu, gu, gu, gu, gu, gu, gu, gu, gu, gu, gu, gu, gu, gu, gu, gu, gu, gu, gu, gu, gu, gu, gu, gu, gu, gu, gu, gu, gu, gu, gu, gu, gu, gu, gu, gu, gu, gu, gu, gu, gu, gu, gu, gu, gu, gu, gu, gu, gu, gu, gu, gu, gu, gu, gu, gu, gu, gu, gu, gu, gu, gu, gu, gu, gu, gu, gu, gu, gu, gu, gu, gu, gu, gu, gu, gu, gu, gu, gu, gu, gu, gu, gu, gu, gu, gu, gu, gu, gu, gu, gu, gu, gu, gu, gu, gu, gu, gu, gu, gu, gu, gu, gu, gu, gu, gu, gu, gu, gu, gu, gu, gu, gu, gu, gu, gu, gu, gu, gu, gu, gu, gu, gu, gu, gu, gu, gu, gu, gu, gu, gu, gu, gu, gu, gu, gu, gu, gu, gu, gu, gu, gu, gu, gu, gu, gu], stack := [], mem := [(762, Ob.row 1 62 y25), g4 x0], cur := 0, ctr := 1, fn := 7 })
noncomputable def YZ (x0 : S23) (x1 x2 x3 : List (List PV)) : Tr (f7L0iL19s ⊕ f7L0iL19e) := (.test (decide ((0 : Int) < IntKind.i64.wrap (IntKind.i64.wrap ((20 : Int) + IntKind.i64.wrap ((8 : Int) * x0.a3)) + IntKind.i64.wrap (x0.a4 * IntKind.i64.wrap ((20 : Int) + IntKind.i64.wrap ((2 : Int) * x0.a6)))))) (.ret (.inl (.s1 ((1 : Int)) ([[PV.int .i64 1, PV.int .i64 ((IntKind.i64.wrap (pInt ((x2.getD (Int.toNat (0 : Int)) []).headD PV.undef))).tmod x0.a0), PV.int .i64 ((IntKind.i64.wrap ((IntKind.i64.wrap (pInt ((x2.getD (Int.toNat (0 : Int)) []).headD PV.undef))).tdiv (16 : Int))).tmod x0.a1), PV.int .i64 (pInt ((x1.getD (Int.toNat (0 : Int)) []).headD PV.undef)), PV.int .i64 (pInt ((x1.getD (Int.toNat (0 : Int)) []).tail.headD PV.undef))], [PV.int .i64 2, PV.int .i64 ((IntKind.i64.wrap (pInt ((x2.getD (Int.toNat (0 : Int)) []).headD PV.undef))).tmod x0.a0), PV.int .i64 0, PV.int .i64 0, PV.int .i64 0]])))) (.ret (.inr (.e0))))
noncomputable def jk (x0 : S23) (x1 x2 x3 : List (List PV)) (z27 : Int) (z28 : List (List PV)) : Tr (f7L0iL19s ⊕ f7L0iL19e) := (.test (decide (z27 < IntKind.i64.wrap (IntKind.i64.wrap ((20 : Int) + IntKind.i64.wrap ((8 : Int) * x0.a3)) + IntKind.i64.wrap (x0.a4 * IntKind.i64.wrap ((20 : Int) + IntKind.i64.wrap ((2 : Int) * x0.a6)))))) (.test (decide (z28.length + [[PV.int .i64 2, PV.int .i64 ((IntKind.i64.wrap (pInt ((x2.getD (Int.toNat (0 : Int)) []).headD PV.undef))).tmod x0.a0), PV.int .i64 0, PV.int .i64 0, PV.int .i64 0]].length ≤ most)) (.ret (.inl (.s1 (IntKind.i64.wrap (z27 + (1 : Int))) (z28 ++ [[PV.int .i64 2, PV.int .i64 ((IntKind.i64.wrap (pInt ((x2.getD (Int.toNat (0 : Int)) []).headD PV.undef))).tmod x0.a0), PV.int .i64 0, PV.int .i64 0, PV.int .i64 0]])))) .fail) (.ret (.inr (.e1 (z28)))))
noncomputable def qe (N : Nat) (x0 : S23) (x1 x2 x3 : List (List PV)) : f7L0iL19s → Option (f7L0iL19s ⊕ f7L0iL19e)
 | .s0  => Tr.run (YZ x0 x1 x2 x3)
 | .s1 z27 z28 => Tr.run (jk x0 x1 x2 x3 z27 z28)
theorem Yzy (N : Nat) (x0 : S23) (x1 x2 x3 : List (List PV)) : ∀ x, (yv (E7 N) 85 7 1 (Zzp N x0 x1 x2 x3) (jE x0 x1 x2 x3 x)).run = (qe N x0 x1 x2 x3 x).map (Zt (jE x0 x1 x2 x3) (Yzp x0 x1 x2 x3))
 | .s0  => (Tr.run_of (by kernel_rfl))
 | .s1 z27 z28 => (Tr.run_of (by kernel_rfl))
noncomputable def Qzp (N : Nat) (x0 : S23) (x1 x2 x3 : List (List PV)) : Code := Tr.waitC (Tr.sub [true] (Tr.sub [true] (Tr.sub [true] (Tr.sub [true] (Tr.sub [true] (Tr.sub [true] (Tr.sub [true] (Tr.sub [true] (Tr.sub [true] (yv (E7 N) 93 7 1 (jzp N x0 x1 x2 x3) (qN x0 x1 x2 x3 (.s1 ))))))))))))
inductive f7L0iL31s where
 | s0 (y35 : Int) (y36 : List (List PV))
noncomputable def ZE (x0 : S23) (x1 x2 x3 : List (List PV)) : f7L0iL31s → St
 | .s0 y35 y36 => { tmps := [gu, AV.pv (PV.list 29 x1), AV.pv (PV.list 5 x2), AV.pv (PV.list 3 x3), AV.ptr 4 0, gu, gu, gu, gu, AV.own 762, AV.pv (PV.int .i64 1), AV.pv (PV.int .i64 ((IntKind.i64.wrap (pInt ((x2.getD (Int.toNat (1 : Int)) []).headD PV.undef))).tmod x0.a0)), AV.pv (PV.int .i64 y35), gu, gu, gu, gu, gu, gu, gu, gu, gu, gu, gu, gu, gu, gu, gu, gu, gu, gu, gu, gu, gu, gu, gu, gu, gu, gu, gu, gu, gu, gu, gu, gu, gu, gu, gu, gu, gu, gu, gu, gu, gu, gu, gu, gu, gu, gu, gu, gu, gu, gu, gu, gu, gu, gu, gu, gu, gu, gu, gu, gu, gu, gu, gu, gu, gu, gu, gu, gu, gu, gu, gu, gu, gu, gu, gu, gu, gu, gu, gu, gu, gu, gu, gu, gu, gu, gu, gu, gu, gu, gu, gu, gu, gu, gu, gu, gu, gu, gu, gu, gu, gu, gu, gu, gu, gu, gu, gu, gu, gu, gu, gu, gu, gu, gu, gu, gu, gu, gu, gu, gu, gu, gu, gu, gu, gu, gu, gu, gu, gu, gu, gu, gu, gu, gu, gu, gu, gu, gu, gu, gu, gu, gu, gu, gu, gu, gu, gu, gu, gu, gu, gu, gu, gu, gu, gu, gu, gu, gu, gu, gu, gu, gu, gu, gu, gu, gu, gu, gu, gu, gu, gu, gu, gu, gu, gu, gu, gu, gu, gu, gu, gu, gu, gu, gu, gu, gu, gu, gu, gu, gu, gu, gu, gu], stack := [], mem := [(762, Ob.row 1 62 y36), g4 x0], cur := 0, ctr := 1, fn := 7 }
inductive f7L0iL31e where
 | e0 (y37 : List (List PV))
noncomputable def Jzp (x0 : S23) (x1 x2 x3 : List (List PV)) : f7L0iL31e → (Ex × St)
 | .e0 y37 => (Ex.exit 2, { tmps := [gu, AV.pv (PV.list 29 x1), AV.pv (PV.list 5 x2), AV.pv (PV.list 3 x3), AV.ptr 4 0, gu, gu, gu, gu, AV.own 762, AV.pv (PV.int .i64 1), gu, gu, gu, gu, gu, gu, gu, gu, gu, gu, gu, gu, gu, gu, gu, gu, gu, gu, gu, gu, gu, gu, gu, gu, gu, gu, gu, gu, gu, gu, gu, gu, gu, gu, gu, gu, gu, gu, gu, gu, gu, gu, gu, gu, gu, gu, gu, gu, gu, gu, gu, gu, gu, gu, gu, gu, gu, gu, gu, gu, gu, gu, gu, gu, gu, gu, gu, gu, gu, gu, gu, gu, gu, gu, gu, gu, gu, gu, gu, gu, gu, gu, gu, gu, gu, gu, gu, gu, gu, gu, gu, gu, gu, gu, gu, gu, gu, gu, gu, gu, gu, gu, gu, gu, gu, gu, gu, gu, gu, gu, gu, gu, gu, gu, gu, gu, gu, gu, gu, gu, gu, gu, gu, gu, gu, gu, gu, gu, gu, gu, gu, gu, gu, gu, gu, gu, gu, gu, gu, gu, gu, gu, gu, gu, gu, gu, gu, gu, gu, gu, gu, gu, gu, gu, gu, gu, gu, gu, gu, gu, gu, gu, gu, gu, gu, gu, gu, gu, gu, gu, gu, gu, gu, gu, gu, gu, gu, gu, gu, gu, gu, gu, gu, gu, gu, gu, gu, gu, gu, gu, gu, gu, gu, gu, gu], stack := [], mem := [(762, Ob.row 1 62 y37), g4 x0], cur := 0, ctr := 1, fn := 7 })
noncomputable def zzo (x0 : S23) (x1 x2 x3 : List (List PV)) (z38 : Int) (z39 : List (List PV)) : Tr (f7L0iL31s ⊕ f7L0iL31e) := (.test (decide (z38 < IntKind.i64.wrap (IntKind.i64.wrap ((20 : Int) + IntKind.i64.wrap ((8 : Int) * x0.a3)) + IntKind.i64.wrap (x0.a4 * IntKind.i64.wrap ((20 : Int) + IntKind.i64.wrap ((2 : Int) * x0.a6)))))) (.test (decide (z39.length + [[PV.int .i64 2, PV.int .i64 ((IntKind.i64.wrap (pInt ((x2.getD (Int.toNat (1 : Int)) []).headD PV.undef))).tmod x0.a0), PV.int .i64 0, PV.int .i64 0, PV.int .i64 0]].length ≤ most)) (.ret (.inl (.s0 (IntKind.i64.wrap (z38 + (1 : Int))) (z39 ++ [[PV.int .i64 2, PV.int .i64 ((IntKind.i64.wrap (pInt ((x2.getD (Int.toNat (1 : Int)) []).headD PV.undef))).tmod x0.a0), PV.int .i64 0, PV.int .i64 0, PV.int .i64 0]])))) .fail) (.ret (.inr (.e0 (z39)))))
noncomputable def YE (N : Nat) (x0 : S23) (x1 x2 x3 : List (List PV)) : f7L0iL31s → Option (f7L0iL31s ⊕ f7L0iL31e)
 | .s0 z38 z39 => Tr.run (zzo x0 x1 x2 x3 z38 z39)
theorem Qzy (N : Nat) (x0 : S23) (x1 x2 x3 : List (List PV)) : ∀ x, (yv (E7 N) 85 7 1 (Qzp N x0 x1 x2 x3) (ZE x0 x1 x2 x3 x)).run = (YE N x0 x1 x2 x3 x).map (Zt (ZE x0 x1 x2 x3) (Jzp x0 x1 x2 x3))
 | .s0 z38 z39 => (Tr.run_of (by kernel_rfl))
noncomputable def yzo (N : Nat) (x0 : S23) (x1 x2 x3 : List (List PV)) (z42 : Int) (z43 : List (List PV)) : Code := Tr.waitC (Tr.sub [true] (Tr.sub [true] (Tr.sub [true] (Tr.sub [true] (Tr.sub [true] (Tr.sub [true] (Tr.sub [true] (Tr.sub [true] (Tr.sub [true] (yv (E7 N) 93 7 1 (jzp N x0 x1 x2 x3) (qN x0 x1 x2 x3 (.s2 z42 z43))))))))))))
inductive f7L0iL44s where
 | s0 (y48 : Int) (y49 : List (List PV))
noncomputable def QE (x0 : S23) (x1 x2 x3 : List (List PV)) (z42 : Int) (z43 : List (List PV)) : f7L0iL44s → St
 | .s0 y48 y49 => { tmps := [gu, AV.pv (PV.list 29 x1), AV.pv (PV.list 5 x2), AV.pv (PV.list 3 x3), AV.ptr 4 0, gu, gu, gu, gu, AV.own 762, AV.pv (PV.int .i64 z42), AV.pv (PV.int .i64 ((IntKind.i64.wrap (pInt ((x2.getD z42.toNat []).headD PV.undef))).tmod x0.a0)), AV.pv (PV.int .i64 y48), gu, gu, gu, gu, gu, gu, gu, gu, gu, gu, gu, gu, gu, gu, gu, gu, gu, gu, gu, gu, gu, gu, gu, gu, gu, gu, gu, gu, gu, gu, gu, gu, gu, gu, gu, gu, gu, gu, gu, gu, gu, gu, gu, gu, gu, gu, gu, gu, gu, gu, gu, gu, gu, gu, gu, gu, gu, gu, gu, gu, gu, gu, gu, gu, gu, gu, gu, gu, gu, gu, gu, gu, gu, gu, gu, gu, gu, gu, gu, gu, gu, gu, gu, gu, gu, gu, gu, gu, gu, gu, gu, gu, gu, gu, gu, gu, gu, gu, gu, gu, gu, gu, gu, gu, gu, gu, gu, gu, gu, gu, gu, gu, gu, gu, gu, gu, gu, gu, gu, gu, gu, gu, gu, gu, gu, gu, gu, gu, gu, gu, gu, gu, gu, gu, gu, gu, gu, gu, gu, gu, gu, gu, gu, gu, gu, gu, gu, gu, gu, gu, gu, gu, gu, gu, gu, gu, gu, gu, gu, gu, gu, gu, gu, gu, gu, gu, gu, gu, gu, gu, gu, gu, gu, gu, gu, gu, gu, gu, gu, gu, gu, gu, gu, gu, gu, gu, gu, gu, gu, gu, gu, gu, gu], stack := [], mem := [(762, Ob.row 1 62 y49), g4 x0], cur := 0, ctr := 1, fn := 7 }
inductive f7L0iL44e where
 | e0 (y50 : List (List PV))
noncomputable def qzo (x0 : S23) (x1 x2 x3 : List (List PV)) (z42 : Int) (z43 : List (List PV)) : f7L0iL44e → (Ex × St)
 | .e0 y50 => (Ex.exit 2, { tmps := [gu, AV.pv (PV.list 29 x1), AV.pv (PV.list 5 x2), AV.pv (PV.list 3 x3), AV.ptr 4 0, gu, gu, gu, gu, AV.own 762, AV.pv (PV.int .i64 z42), gu, gu, gu, gu, gu, gu, gu, gu, gu, gu, gu, gu, gu, gu, gu, gu, gu, gu, gu, gu, gu, gu, gu, gu, gu, gu, gu, gu, gu, gu, gu, gu, gu, gu, gu, gu, gu, gu, gu, gu, gu, gu, gu, gu, gu, gu, gu, gu, gu, gu, gu, gu, gu, gu, gu, gu, gu, gu, gu, gu, gu, gu, gu, gu, gu, gu, gu, gu, gu, gu, gu, gu, gu, gu, gu, gu, gu, gu, gu, gu, gu, gu, gu, gu, gu, gu, gu, gu, gu, gu, gu, gu, gu, gu, gu, gu, gu, gu, gu, gu, gu, gu, gu, gu, gu, gu, gu, gu, gu, gu, gu, gu, gu, gu, gu, gu, gu, gu, gu, gu, gu, gu, gu, gu, gu, gu, gu, gu, gu, gu, gu, gu, gu, gu, gu, gu, gu, gu, gu, gu, gu, gu, gu, gu, gu, gu, gu, gu, gu, gu, gu, gu, gu, gu, gu, gu, gu, gu, gu, gu, gu, gu, gu, gu, gu, gu, gu, gu, gu, gu, gu, gu, gu, gu, gu, gu, gu, gu, gu, gu, gu, gu, gu, gu, gu, gu, gu, gu, gu, gu, gu, gu, gu, gu, gu], stack := [], mem := [(762, Ob.row 1 62 y50), g4 x0], cur := 0, ctr := 1, fn := 7 })
noncomputable def Zk (x0 : S23) (x1 x2 x3 : List (List PV)) (z42 : Int) (z43 : List (List PV)) (z51 : Int) (z52 : List (List PV)) : Tr (f7L0iL44s ⊕ f7L0iL44e) := (.test (decide (z51 < IntKind.i64.wrap (IntKind.i64.wrap ((20 : Int) + IntKind.i64.wrap ((8 : Int) * x0.a3)) + IntKind.i64.wrap (x0.a4 * IntKind.i64.wrap ((20 : Int) + IntKind.i64.wrap ((2 : Int) * x0.a6)))))) (.test (decide (z52.length + [[PV.int .i64 2, PV.int .i64 ((IntKind.i64.wrap (pInt ((x2.getD z42.toNat []).headD PV.undef))).tmod x0.a0), PV.int .i64 0, PV.int .i64 0, PV.int .i64 0]].length ≤ most)) (.ret (.inl (.s0 (IntKind.i64.wrap (z51 + (1 : Int))) (z52 ++ [[PV.int .i64 2, PV.int .i64 ((IntKind.i64.wrap (pInt ((x2.getD z42.toNat []).headD PV.undef))).tmod x0.a0), PV.int .i64 0, PV.int .i64 0, PV.int .i64 0]])))) .fail) (.ret (.inr (.e0 (z52)))))
noncomputable def je (N : Nat) (x0 : S23) (x1 x2 x3 : List (List PV)) (z42 : Int) (z43 : List (List PV)) : f7L0iL44s → Option (f7L0iL44s ⊕ f7L0iL44e)
 | .s0 z51 z52 => Tr.run (Zk x0 x1 x2 x3 z42 z43 z51 z52)
theorem Jzy (N : Nat) (x0 : S23) (x1 x2 x3 : List (List PV)) (z42 : Int) (z43 : List (List PV)) : ∀ x, (yv (E7 N) 85 7 1 (yzo N x0 x1 x2 x3 z42 z43) (QE x0 x1 x2 x3 z42 z43 x)).run = (je N x0 x1 x2 x3 z42 z43 x).map (Zt (QE x0 x1 x2 x3 z42 z43) (qzo x0 x1 x2 x3 z42 z43))
 | .s0 z51 z52 => (Tr.run_of (by kernel_rfl))
noncomputable def zzx (N : Nat) (x0 : S23) (x1 x2 x3 : List (List PV)) : f7L0s → Option (f7L0s ⊕ f7L0e)
 | .s0  => (bif (decide ((0 : Int) < (↑x1.length : Int))) then (bif (decide ((0 : Int) ≤ (0 : Int)) && decide ((0 : Int) < (↑x2.length : Int))) then (bif (decide (x0.a0 ≠ (0 : Int))) then (bif (decide ((0 : Int) ≤ (0 : Int)) && decide ((0 : Int) < (↑x2.length : Int))) then (bif (decide (x0.a1 ≠ (0 : Int))) then (bif (decide ((0 : Int) ≤ (0 : Int)) && decide ((0 : Int) < (↑x1.length : Int))) then ((Jv (qe N x0 x1 x2 x3) N (.s0)).bind (fun
   | .e0  => Tr.run (.ret (.inl (.s1)))
   | .e1 w30 => Tr.run (.ret (.inl (.s2 ((1 : Int)) (w30)))))) else (Tr.run .fail)) else (Tr.run .fail)) else (Tr.run .fail)) else (Tr.run .fail)) else (Tr.run .fail)) else (Tr.run (.ret (.inr (.e0)))))
 | .s1  => (bif (decide ((1 : Int) < (↑x1.length : Int))) then (bif (decide ((0 : Int) ≤ (1 : Int)) && decide ((1 : Int) < (↑x2.length : Int))) then (bif (decide (x0.a0 ≠ (0 : Int))) then (bif (decide ((0 : Int) ≤ (1 : Int)) && decide ((1 : Int) < (↑x2.length : Int))) then (bif (decide (x0.a1 ≠ (0 : Int))) then (bif (decide ((0 : Int) ≤ (1 : Int)) && decide ((1 : Int) < (↑x1.length : Int))) then ((Jv (YE N x0 x1 x2 x3) N (.s0 ((0 : Int)) ([[PV.int .i64 1, PV.int .i64 ((IntKind.i64.wrap (pInt ((x2.getD (Int.toNat (0 : Int)) []).headD PV.undef))).tmod x0.a0), PV.int .i64 ((IntKind.i64.wrap ((IntKind.i64.wrap (pInt ((x2.getD (Int.toNat (0 : Int)) []).headD PV.undef))).tdiv (16 : Int))).tmod x0.a1), PV.int .i64 (pInt ((x1.getD (Int.toNat (0 : Int)) []).headD PV.undef)), PV.int .i64 (pInt ((x1.getD (Int.toNat (0 : Int)) []).tail.headD PV.undef))], [PV.int .i64 1, PV.int .i64 ((IntKind.i64.wrap (pInt ((x2.getD (Int.toNat (1 : Int)) []).headD PV.undef))).tmod x0.a0), PV.int .i64 ((IntKind.i64.wrap ((IntKind.i64.wrap (pInt ((x2.getD (Int.toNat (1 : Int)) []).headD PV.undef))).tdiv (16 : Int))).tmod x0.a1), PV.int .i64 (pInt ((x1.getD (Int.toNat (1 : Int)) []).headD PV.undef)), PV.int .i64 (pInt ((x1.getD (Int.toNat (1 : Int)) []).tail.headD PV.undef))]]))).bind (fun
   | .e0 w41 => Tr.run (.ret (.inl (.s2 ((2 : Int)) (w41)))))) else (Tr.run .fail)) else (Tr.run .fail)) else (Tr.run .fail)) else (Tr.run .fail)) else (Tr.run .fail)) else (Tr.run (.ret (.inr (.e1)))))
 | .s2 z42 z43 => (bif (decide (z42 < (↑x1.length : Int))) then (bif (decide ((0 : Int) ≤ z42) && decide (z42 < (↑x2.length : Int))) then (bif (decide (x0.a0 ≠ (0 : Int))) then (bif (decide ((0 : Int) ≤ z42) && decide (z42 < (↑x2.length : Int))) then (bif (decide (x0.a1 ≠ (0 : Int))) then (bif (decide ((0 : Int) ≤ z42) && decide (z42 < (↑x1.length : Int))) then (bif (decide (z43.length + [[PV.int .i64 1, PV.int .i64 ((IntKind.i64.wrap (pInt ((x2.getD z42.toNat []).headD PV.undef))).tmod x0.a0), PV.int .i64 ((IntKind.i64.wrap ((IntKind.i64.wrap (pInt ((x2.getD z42.toNat []).headD PV.undef))).tdiv (16 : Int))).tmod x0.a1), PV.int .i64 (pInt ((x1.getD z42.toNat []).headD PV.undef)), PV.int .i64 (pInt ((x1.getD z42.toNat []).tail.headD PV.undef))]].length ≤ most)) then ((Jv (je N x0 x1 x2 x3 z42 z43) N (.s0 ((0 : Int)) (z43 ++ [[PV.int .i64 1, PV.int .i64 ((IntKind.i64.wrap (pInt ((x2.getD z42.toNat []).headD PV.undef))).tmod x0.a0), PV.int .i64 ((IntKind.i64.wrap ((IntKind.i64.wrap (pInt ((x2.getD z42.toNat []).headD PV.undef))).tdiv (16 : Int))).tmod x0.a1), PV.int .i64 (pInt ((x1.getD z42.toNat []).headD PV.undef)), PV.int .i64 (pInt ((x1.getD z42.toNat []).tail.headD PV.undef))]]))).bind (fun
   | .e0 w54 => Tr.run (.ret (.inl (.s2 (IntKind.i64.wrap (z42 + (1 : Int))) (w54)))))) else (Tr.run .fail)) else (Tr.run .fail)) else (Tr.run .fail)) else (Tr.run .fail)) else (Tr.run .fail)) else (Tr.run .fail)) else (Tr.run (.ret (.inr (.e2 (z43))))))
theorem yyz (N : Nat) (x0 : S23) (x1 x2 x3 : List (List PV)) : ∀ x, (yv (E7 N) 93 7 1 (jzp N x0 x1 x2 x3) (qN x0 x1 x2 x3 x)).run = (zzx N x0 x1 x2 x3 x).map (Zt (qN x0 x1 x2 x3) (Zzy x0 x1 x2 x3))
 | .s0  => (Yz (by kernel_rfl) (by kernel_rfl) (yy [true] (by kernel_rfl) (Yz (by kernel_rfl) (by kernel_rfl) (Yz (by kernel_rfl) (by kernel_rfl) (Yz (by kernel_rfl) (by kernel_rfl) (yy [true] (by kernel_rfl) (Yz (by kernel_rfl) (by kernel_rfl) (Yz (by kernel_rfl) (by kernel_rfl) (yy [true] (by kernel_rfl) (Qv (wrap := (Zt (qN x0 x1 x2 x3) (Zzy x0 x1 x2 x3))) (E := E7 N) (n := 85) (f := 7) (c0 := 1) (c := (Zzp N x0 x1 x2 x3)) (s := Tr.waitS (Tr.sub [true] (Tr.sub [true] (Tr.sub [true] (Tr.sub [true] (Tr.sub [true] (Tr.sub [true] (Tr.sub [true] (Tr.sub [true] (Tr.sub [true] (yv (E7 N) 93 7 1 (jzp N x0 x1 x2 x3) (qN x0 x1 x2 x3 (.s0 ))))))))))))) (jE x0 x1 x2 x3) (Yzp x0 x1 x2 x3) (qe N x0 x1 x2 x3) (.s0) _ (Yzy N x0 x1 x2 x3) (by kernel_rfl) (by kernel_rfl) (by kernel_rfl) (by kernel_rfl) (by kernel_rfl) (fun
   | .e0  => (Tr.run_of (by kernel_rfl))
   | .e1 w30 => (Tr.run_of (by kernel_rfl))))) (Tr.run_of (by kernel_rfl))) (Tr.run_of (by kernel_rfl)))) (Tr.run_of (by kernel_rfl))) (Tr.run_of (by kernel_rfl))) (Tr.run_of (by kernel_rfl)))) (Tr.run_of (by kernel_rfl)))
 | .s1  => (Yz (by kernel_rfl) (by kernel_rfl) (yy [true] (by kernel_rfl) (Yz (by kernel_rfl) (by kernel_rfl) (Yz (by kernel_rfl) (by kernel_rfl) (Yz (by kernel_rfl) (by kernel_rfl) (yy [true] (by kernel_rfl) (Yz (by kernel_rfl) (by kernel_rfl) (Yz (by kernel_rfl) (by kernel_rfl) (yy [true] (by kernel_rfl) (Qv (wrap := (Zt (qN x0 x1 x2 x3) (Zzy x0 x1 x2 x3))) (E := E7 N) (n := 85) (f := 7) (c0 := 1) (c := (Qzp N x0 x1 x2 x3)) (s := Tr.waitS (Tr.sub [true] (Tr.sub [true] (Tr.sub [true] (Tr.sub [true] (Tr.sub [true] (Tr.sub [true] (Tr.sub [true] (Tr.sub [true] (Tr.sub [true] (yv (E7 N) 93 7 1 (jzp N x0 x1 x2 x3) (qN x0 x1 x2 x3 (.s1 ))))))))))))) (ZE x0 x1 x2 x3) (Jzp x0 x1 x2 x3) (YE N x0 x1 x2 x3) (.s0 ((0 : Int)) ([[PV.int .i64 1, PV.int .i64 ((IntKind.i64.wrap (pInt ((x2.getD (Int.toNat (0 : Int)) []).headD PV.undef))).tmod x0.a0), PV.int .i64 ((IntKind.i64.wrap ((IntKind.i64.wrap (pInt ((x2.getD (Int.toNat (0 : Int)) []).headD PV.undef))).tdiv (16 : Int))).tmod x0.a1), PV.int .i64 (pInt ((x1.getD (Int.toNat (0 : Int)) []).headD PV.undef)), PV.int .i64 (pInt ((x1.getD (Int.toNat (0 : Int)) []).tail.headD PV.undef))], [PV.int .i64 1, PV.int .i64 ((IntKind.i64.wrap (pInt ((x2.getD (Int.toNat (1 : Int)) []).headD PV.undef))).tmod x0.a0), PV.int .i64 ((IntKind.i64.wrap ((IntKind.i64.wrap (pInt ((x2.getD (Int.toNat (1 : Int)) []).headD PV.undef))).tdiv (16 : Int))).tmod x0.a1), PV.int .i64 (pInt ((x1.getD (Int.toNat (1 : Int)) []).headD PV.undef)), PV.int .i64 (pInt ((x1.getD (Int.toNat (1 : Int)) []).tail.headD PV.undef))]])) _ (Qzy N x0 x1 x2 x3) (by kernel_rfl) (by kernel_rfl) (by kernel_rfl) (by kernel_rfl) (by kernel_rfl) (fun
   | .e0 w41 => (Tr.run_of (by kernel_rfl))))) (Tr.run_of (by kernel_rfl))) (Tr.run_of (by kernel_rfl)))) (Tr.run_of (by kernel_rfl))) (Tr.run_of (by kernel_rfl))) (Tr.run_of (by kernel_rfl)))) (Tr.run_of (by kernel_rfl)))
 | .s2 z42 z43 => (Yz (by kernel_rfl) (by kernel_rfl) (yy [true] (by kernel_rfl) (Yz (by kernel_rfl) (by kernel_rfl) (Yz (by kernel_rfl) (by kernel_rfl) (Yz (by kernel_rfl) (by kernel_rfl) (yy [true] (by kernel_rfl) (Yz (by kernel_rfl) (by kernel_rfl) (Yz (by kernel_rfl) (by kernel_rfl) (Yz (by kernel_rfl) (by kernel_rfl) (Qv (wrap := (Zt (qN x0 x1 x2 x3) (Zzy x0 x1 x2 x3))) (E := E7 N) (n := 85) (f := 7) (c0 := 1) (c := (yzo N x0 x1 x2 x3 z42 z43)) (s := Tr.waitS (Tr.sub [true] (Tr.sub [true] (Tr.sub [true] (Tr.sub [true] (Tr.sub [true] (Tr.sub [true] (Tr.sub [true] (Tr.sub [true] (Tr.sub [true] (yv (E7 N) 93 7 1 (jzp N x0 x1 x2 x3) (qN x0 x1 x2 x3 (.s2 z42 z43))))))))))))) (QE x0 x1 x2 x3 z42 z43) (qzo x0 x1 x2 x3 z42 z43) (je N x0 x1 x2 x3 z42 z43) (.s0 ((0 : Int)) (z43 ++ [[PV.int .i64 1, PV.int .i64 ((IntKind.i64.wrap (pInt ((x2.getD z42.toNat []).headD PV.undef))).tmod x0.a0), PV.int .i64 ((IntKind.i64.wrap ((IntKind.i64.wrap (pInt ((x2.getD z42.toNat []).headD PV.undef))).tdiv (16 : Int))).tmod x0.a1), PV.int .i64 (pInt ((x1.getD z42.toNat []).headD PV.undef)), PV.int .i64 (pInt ((x1.getD z42.toNat []).tail.headD PV.undef))]])) _ (Jzy N x0 x1 x2 x3 z42 z43) (by kernel_rfl) (by kernel_rfl) (by kernel_rfl) (by kernel_rfl) (by kernel_rfl) (fun
   | .e0 w54 => (Tr.run_of (by kernel_rfl)))) (Tr.run_of (by kernel_rfl))) (Tr.run_of (by kernel_rfl))) (Tr.run_of (by kernel_rfl)))) (Tr.run_of (by kernel_rfl))) (Tr.run_of (by kernel_rfl))) (Tr.run_of (by kernel_rfl)))) (Tr.run_of (by kernel_rfl)))
@[reducible] noncomputable def QZ (x0 : S23) (x1 x2 : List (List PV)) : List (List PV) := [[PV.int .i64 1, PV.int .i64 ((IntKind.i64.wrap (pInt ((x2.getD (Int.toNat (0 : Int)) []).headD PV.undef))).tmod x0.a0), PV.int .i64 ((IntKind.i64.wrap ((IntKind.i64.wrap (pInt ((x2.getD (Int.toNat (0 : Int)) []).headD PV.undef))).tdiv (16 : Int))).tmod x0.a1), PV.int .i64 (pInt ((x1.getD (Int.toNat (0 : Int)) []).headD PV.undef)), PV.int .i64 (pInt ((x1.getD (Int.toNat (0 : Int)) []).tail.headD PV.undef))]]
noncomputable def JzY (N : Nat) (x0 : S23) (x1 x2 : List (List PV)) (x3 w65 : List (List PV)) : Code := Tr.waitC (Tr.sub [false] (Tr.sub [false] (Tr.sub [false, false, false, false, false, false, false, false, false, false, false, false, false, false, false] (Tr.sub [false] (Tr.sub [false, false, false, false, false, false, false, false, false, false, false, false, false, false, false] (Tr.sub [false] (Tr.sub [false, false, false, false, false, false, false, false, false, false, false, false, false, false, false] (Tr.sub [false] (Tr.sub [false, false, false, false, false] (Tr.sub [false] (Tr.sub [false, false, false, false, false] (Tr.sub [false] (Tr.sub [true] (Tr.sub [true] (Tr.sub [true] (Tr.waitK (Tr.sub [false, true, false, false, false, false, false, false] (Tr.sub [false] (Tr.sub [false, false, false, false, false, false, false] (Tr.sub [false] (Tr.sub [false, false, false, false, false, false, false, false, false, false, false] (Tr.sub [false] (Tr.sub [false, false, false, false] (Tr.sub [true] (Tr.sub [false, false, false, false, false] (Tr.sub [false] (Tr.sub [true] (qy (E7 N) 100 7 [(S23v x0), PV.list 29 x1, PV.list 5 x2, PV.list 3 x3])))))))))))) (Zzy x0 x1 x2 x3 (.e2 w65))))))))))))))))))
inductive f7L66s where
 | s0 (y68 : Int)
noncomputable def jzo (x0 : S23) (x1 x2 : List (List PV)) (x3 w65 : List (List PV)) : f7L66s → St
 | .s0 y68 => { tmps := [gu, gu, gu, gu, gu, gu, gu, gu, gu, gu, gu, gu, gu, AV.ptr 13 0, gu, gu, AV.ptr 16 0, gu, gu, AV.ptr 19 0, gu, gu, AV.pv (PV.int .i64 y68), gu, gu, gu, gu, gu, gu, gu, gu, gu, gu, gu, gu, gu, gu, gu, gu, gu, gu, gu, gu, gu, gu, gu, gu, gu, gu, gu, gu, gu, gu, gu, gu, gu, gu, gu, gu, gu, gu, gu, gu, gu, gu, gu, gu, gu, gu, gu, gu, gu, gu, gu, gu, gu, gu, gu, gu, gu, gu, gu, gu, gu, gu, gu, gu, gu, gu, gu, gu, gu, gu, gu, gu, gu, gu, gu, gu, gu, gu, gu, gu, gu, gu, gu, gu, gu, gu, gu, gu, gu, gu, gu, gu, gu, gu, gu, gu, gu, gu, gu, gu, gu, gu, gu, gu, gu, gu, gu, gu, gu, gu, gu, gu, gu, gu, gu, gu, gu, gu, gu, gu, gu, gu, gu, gu, gu, gu, gu, gu, gu, gu, gu, gu, gu, gu, gu, gu, gu, gu, gu, gu, gu, gu, gu, gu, gu, gu, gu, gu, gu, gu, gu, gu, gu, gu, gu, gu, gu, gu, gu, gu, gu, gu, gu, gu, gu, gu, gu, gu, gu, gu, gu, gu, gu, gu, gu, gu, gu, gu, gu, gu, gu, gu, gu], stack := [], mem := [(19, Ob.box [AV.pv (PV.int .i64 (zx { x0 with a2 := (3 : Int) } w65 x3).y245), AV.pv (PV.int .i64 (zx { x0 with a2 := (3 : Int) } w65 x3).y246), AV.pv (PV.int .i64 (zx { x0 with a2 := (3 : Int) } w65 x3).y247), AV.pv (PV.int .i64 (zx { x0 with a2 := (3 : Int) } w65 x3).y248), AV.pv (PV.int .i64 (zx { x0 with a2 := (3 : Int) } w65 x3).y249), AV.pv (PV.int .i64 (zx { x0 with a2 := (3 : Int) } w65 x3).y250), AV.pv (PV.int .i64 (zx { x0 with a2 := (3 : Int) } w65 x3).y251), AV.pv (PV.int .i64 (zx { x0 with a2 := (3 : Int) } w65 x3).y252), AV.pv (PV.bool (zx { x0 with a2 := (3 : Int) } w65 x3).y253), AV.pv (PV.int .i64 (zx { x0 with a2 := (3 : Int) } w65 x3).y254), AV.pv (PV.int .i64 (zx { x0 with a2 := (3 : Int) } w65 x3).y255), AV.pv (PV.int .i64 (zx { x0 with a2 := (3 : Int) } w65 x3).y256), AV.pv (PV.list 3 (zx { x0 with a2 := (3 : Int) } w65 x3).y257), AV.pv (PV.list 88 (zx { x0 with a2 := (3 : Int) } w65 x3).y258), AV.pv (PV.list 91 (zx { x0 with a2 := (3 : Int) } w65 x3).y259), AV.pv (PV.int .i64 (zx { x0 with a2 := (3 : Int) } w65 x3).y260), AV.pv (PV.int .i64 (zx { x0 with a2 := (3 : Int) } w65 x3).y261), AV.pv (PV.list 3 (zx { x0 with a2 := (3 : Int) } w65 x3).y262), AV.pv (PV.int .i64 (zx { x0 with a2 := (3 : Int) } w65 x3).y263), AV.pv (PV.list 52 (zx { x0 with a2 := (3 : Int) } w65 x3).y264), AV.pv (PV.list 64 (zx { x0 with a2 := (3 : Int) } w65 x3).y265)]), (16, Ob.box [AV.pv (PV.int .i64 (zx { x0 with a2 := (2 : Int) } w65 x3).y245), AV.pv (PV.int .i64 (zx { x0 with a2 := (2 : Int) } w65 x3).y246), AV.pv (PV.int .i64 (zx { x0 with a2 := (2 : Int) } w65 x3).y247), AV.pv (PV.int .i64 (zx { x0 with a2 := (2 : Int) } w65 x3).y248), AV.pv (PV.int .i64 (zx { x0 with a2 := (2 : Int) } w65 x3).y249), AV.pv (PV.int .i64 (zx { x0 with a2 := (2 : Int) } w65 x3).y250), AV.pv (PV.int .i64 (zx { x0 with a2 := (2 : Int) } w65 x3).y251), AV.pv (PV.int .i64 (zx { x0 with a2 := (2 : Int) } w65 x3).y252), AV.pv (PV.bool (zx { x0 with a2 := (2 : Int) } w65 x3).y253), AV.pv (PV.int .i64 (zx { x0 with a2 := (2 : Int) } w65 x3).y254), AV.pv (PV.int .i64 (zx { x0 with a2 := (2 : Int) } w65 x3).y255), AV.pv (PV.int .i64 (zx { x0 with a2 := (2 : Int) } w65 x3).y256), AV.pv (PV.list 3 (zx { x0 with a2 := (2 : Int) } w65 x3).y257), AV.pv (PV.list 88 (zx { x0 with a2 := (2 : Int) } w65 x3).y258), AV.pv (PV.list 91 (zx { x0 with a2 := (2 : Int) } w65 x3).y259), AV.pv (PV.int .i64 (zx { x0 with a2 := (2 : Int) } w65 x3).y260), AV.pv (PV.int .i64 (zx { x0 with a2 := (2 : Int) } w65 x3).y261), AV.pv (PV.list 3 (zx { x0 with a2 := (2 : Int) } w65 x3).y262), AV.pv (PV.int .i64 (zx { x0 with a2 := (2 : Int) } w65 x3).y263), AV.pv (PV.list 52 (zx { x0 with a2 := (2 : Int) } w65 x3).y264), AV.pv (PV.list 64 (zx { x0 with a2 := (2 : Int) } w65 x3).y265)]), (13, Ob.box [AV.pv (PV.int .i64 (zx { x0 with a2 := (1 : Int) } w65 x3).y245), AV.pv (PV.int .i64 (zx { x0 with a2 := (1 : Int) } w65 x3).y246), AV.pv (PV.int .i64 (zx { x0 with a2 := (1 : Int) } w65 x3).y247), AV.pv (PV.int .i64 (zx { x0 with a2 := (1 : Int) } w65 x3).y248), AV.pv (PV.int .i64 (zx { x0 with a2 := (1 : Int) } w65 x3).y249), AV.pv (PV.int .i64 (zx { x0 with a2 := (1 : Int) } w65 x3).y250), AV.pv (PV.int .i64 (zx { x0 with a2 := (1 : Int) } w65 x3).y251), AV.pv (PV.int .i64 (zx { x0 with a2 := (1 : Int) } w65 x3).y252), AV.pv (PV.bool (zx { x0 with a2 := (1 : Int) } w65 x3).y253), AV.pv (PV.int .i64 (zx { x0 with a2 := (1 : Int) } w65 x3).y254), AV.pv (PV.int .i64 (zx { x0 with a2 := (1 : Int) } w65 x3).y255), AV.pv (PV.int .i64 (zx { x0 with a2 := (1 : Int) } w65 x3).y256), AV.pv (PV.list 3 (zx { x0 with a2 := (1 : Int) } w65 x3).y257), AV.pv (PV.list 88 (zx { x0 with a2 := (1 : Int) } w65 x3).y258), AV.pv (PV.list 91 (zx { x0 with a2 := (1 : Int) } w65 x3).y259), AV.pv (PV.int .i64 (zx { x0 with a2 := (1 : Int) } w65 x3).y260), AV.pv (PV.int .i64 (zx { x0 with a2 := (1 : Int) } w65 x3).y261), AV.pv (PV.list 3 (zx { x0 with a2 := (1 : Int) } w65 x3).y262), AV.pv (PV.int .i64 (zx { x0 with a2 := (1 : Int) } w65 x3).y263), AV.pv (PV.list 52 (zx { x0 with a2 := (1 : Int) } w65 x3).y264), AV.pv (PV.list 64 (zx { x0 with a2 := (1 : Int) } w65 x3).y265)])], cur := 0, ctr := 1, fn := 7 }
inductive f7L66e where
 | e0 
 | e1 
noncomputable def zzX (x0 : S23) (x1 x2 : List (List PV)) (x3 w65 : List (List PV)) : f7L66e → (Ex × St)
 | .e0  => (Ex.ret, { tmps := [gu, gu, gu, gu, gu, gu, gu, gu, AV.pv (PV.bool false), gu, gu, gu, gu, gu, gu, gu, gu, gu, gu, gu, gu, gu, gu, gu, gu, gu, gu, gu, gu, gu, gu, gu, gu, gu, gu, gu, gu, gu, gu, gu, gu, gu, gu, gu, gu, gu, gu, gu, gu, gu, gu, gu, gu, gu, gu, gu, gu, gu, gu, gu, gu, gu, gu, gu, gu, gu, gu, gu, gu, gu, gu, gu, gu, gu, gu, gu, gu, gu, gu, gu, gu, gu, gu, gu, gu, gu, gu, gu, gu, gu, gu, gu, gu, gu, gu, gu, gu, gu, gu, gu, gu, gu, gu, gu, gu, gu, gu, gu, gu, gu, gu, gu, gu, gu, gu, gu, gu, gu, gu, gu, gu, gu, gu, gu, gu, gu, gu, gu, gu, gu, gu, gu, gu, gu, gu, gu, gu, gu, gu, gu, gu, gu, gu, gu, gu, gu, gu, gu, gu, gu, gu, gu, gu, gu, gu, gu, gu, gu, gu, gu, gu, gu, gu, gu, gu, gu, gu, gu, gu, gu, gu, gu, gu, gu, gu, gu, gu, gu, gu, gu, gu, gu, gu, gu, gu, gu, gu, gu, gu, gu, gu, gu, gu, gu, gu, gu, gu, gu, gu, gu, gu, gu, gu, gu, gu, gu], stack := [], mem := [], cur := 0, ctr := 1, fn := 7 })
 | .e1  => (Ex.exit 4, { tmps := [gu, gu, gu, gu, gu, gu, gu, gu, gu, gu, gu, gu, gu, gu, gu, gu, gu, gu, gu, gu, gu, gu, gu, gu, gu, gu, gu, gu, gu, gu, gu, gu, gu, gu, gu, gu, gu, gu, gu, gu, gu, gu, gu, gu, gu, gu, gu, gu, gu, gu, gu, gu, gu, gu, gu, gu, gu, gu, gu, gu, gu, gu, gu, gu, gu, gu, gu, gu, gu, gu, gu, gu, gu, gu, gu, gu, gu, gu, gu, gu, gu, gu, gu, gu, gu, gu, gu, gu, gu, gu, gu, gu, gu, gu, gu, gu, gu, gu, gu, gu, gu, gu, gu, gu, gu, gu, gu, gu, gu, gu, gu, gu, gu, gu, gu, gu, gu, gu, gu, gu, gu, gu, gu, gu, gu, gu, gu, gu, gu, gu, gu, gu, gu, gu, gu, gu, gu, gu, gu, gu, gu, gu, gu, gu, gu, gu, gu, gu, gu, gu, gu, gu, gu, gu, gu, gu, gu, gu, gu, gu, gu, gu, gu, gu, gu, gu, gu, gu, gu, gu, gu, gu, gu, gu, gu, gu, gu, gu, gu, gu, gu, gu, gu, gu, gu, gu, gu, gu, gu, gu, gu, gu, gu, gu, gu, gu, gu, gu, gu, gu, gu, gu, gu, gu, gu, gu], stack := [], mem := [], cur := 0, ctr := 1, fn := 7 })
noncomputable def JZ (x0 : S23) (x1 x2 : List (List PV)) (x3 w65 : List (List PV)) (z69 : Int) : Tr (f7L66s ⊕ f7L66e) := (.test (decide (z69 < (↑(zx { x0 with a2 := (1 : Int) } w65 x3).y265.length : Int))) (.test (decide ((0 : Int) ≤ z69) && decide (z69 < (↑(zx { x0 with a2 := (1 : Int) } w65 x3).y265.length : Int))) (.test (decide ((0 : Int) ≤ z69) && decide (z69 < (↑(zx { x0 with a2 := (2 : Int) } w65 x3).y265.length : Int))) (.test (decide ((0 : Int) ≤ z69) && decide (z69 < (↑(zx { x0 with a2 := (3 : Int) } w65 x3).y265.length : Int))) (.test (!(pInt (((zx { x0 with a2 := (1 : Int) } w65 x3).y265.getD z69.toNat []).headD PV.undef) == pInt (((zx { x0 with a2 := (2 : Int) } w65 x3).y265.getD z69.toNat []).headD PV.undef) && (pInt (((zx { x0 with a2 := (1 : Int) } w65 x3).y265.getD z69.toNat []).tail.headD PV.undef) == pInt (((zx { x0 with a2 := (2 : Int) } w65 x3).y265.getD z69.toNat []).tail.headD PV.undef) && (pInt (((zx { x0 with a2 := (1 : Int) } w65 x3).y265.getD z69.toNat []).tail.tail.headD PV.undef) == pInt (((zx { x0 with a2 := (2 : Int) } w65 x3).y265.getD z69.toNat []).tail.tail.headD PV.undef) && (pInt (((zx { x0 with a2 := (1 : Int) } w65 x3).y265.getD z69.toNat []).tail.tail.tail.headD PV.undef) == pInt (((zx { x0 with a2 := (2 : Int) } w65 x3).y265.getD z69.toNat []).tail.tail.tail.headD PV.undef) && (pInt (((zx { x0 with a2 := (1 : Int) } w65 x3).y265.getD z69.toNat []).tail.tail.tail.tail.headD PV.undef) == pInt (((zx { x0 with a2 := (2 : Int) } w65 x3).y265.getD z69.toNat []).tail.tail.tail.tail.headD PV.undef) && true) && (pInt (((zx { x0 with a2 := (1 : Int) } w65 x3).y265.getD z69.toNat []).tail.tail.tail.tail.tail.headD PV.undef) == pInt (((zx { x0 with a2 := (2 : Int) } w65 x3).y265.getD z69.toNat []).tail.tail.tail.tail.tail.headD PV.undef) && (jb (((zx { x0 with a2 := (1 : Int) } w65 x3).y265.getD z69.toNat []).tail.tail.tail.tail.tail.tail.headD PV.undef) == jb (((zx { x0 with a2 := (2 : Int) } w65 x3).y265.getD z69.toNat []).tail.tail.tail.tail.tail.tail.headD PV.undef) && (pInt (((zx { x0 with a2 := (1 : Int) } w65 x3).y265.getD z69.toNat []).tail.tail.tail.tail.tail.tail.tail.headD PV.undef) == pInt (((zx { x0 with a2 := (1 : Int) } w65 x3).y265.getD z69.toNat []).tail.tail.tail.tail.tail.tail.tail.headD PV.undef) && true)))))))) (.ret (.inr (.e0))) (.test (!(pInt (((zx { x0 with a2 := (1 : Int) } w65 x3).y265.getD z69.toNat []).headD PV.undef) == pInt (((zx { x0 with a2 := (3 : Int) } w65 x3).y265.getD z69.toNat []).headD PV.undef) && (pInt (((zx { x0 with a2 := (1 : Int) } w65 x3).y265.getD z69.toNat []).tail.headD PV.undef) == pInt (((zx { x0 with a2 := (3 : Int) } w65 x3).y265.getD z69.toNat []).tail.headD PV.undef) && (pInt (((zx { x0 with a2 := (1 : Int) } w65 x3).y265.getD z69.toNat []).tail.tail.headD PV.undef) == pInt (((zx { x0 with a2 := (3 : Int) } w65 x3).y265.getD z69.toNat []).tail.tail.headD PV.undef) && (pInt (((zx { x0 with a2 := (1 : Int) } w65 x3).y265.getD z69.toNat []).tail.tail.tail.headD PV.undef) == pInt (((zx { x0 with a2 := (3 : Int) } w65 x3).y265.getD z69.toNat []).tail.tail.tail.headD PV.undef) && (pInt (((zx { x0 with a2 := (1 : Int) } w65 x3).y265.getD z69.toNat []).tail.tail.tail.tail.headD PV.undef) == pInt (((zx { x0 with a2 := (3 : Int) } w65 x3).y265.getD z69.toNat []).tail.tail.tail.tail.headD PV.undef) && true) && (pInt (((zx { x0 with a2 := (1 : Int) } w65 x3).y265.getD z69.toNat []).tail.tail.tail.tail.tail.headD PV.undef) == pInt (((zx { x0 with a2 := (3 : Int) } w65 x3).y265.getD z69.toNat []).tail.tail.tail.tail.tail.headD PV.undef) && (jb (((zx { x0 with a2 := (1 : Int) } w65 x3).y265.getD z69.toNat []).tail.tail.tail.tail.tail.tail.headD PV.undef) == jb (((zx { x0 with a2 := (3 : Int) } w65 x3).y265.getD z69.toNat []).tail.tail.tail.tail.tail.tail.headD PV.undef) && (pInt (((zx { x0 with a2 := (1 : Int) } w65 x3).y265.getD z69.toNat []).tail.tail.tail.tail.tail.tail.tail.headD PV.undef) == pInt (((zx { x0 with a2 := (1 : Int) } w65 x3).y265.getD z69.toNat []).tail.tail.tail.tail.tail.tail.tail.headD PV.undef) && true)))))))) (.ret (.inr (.e0))) (.ret (.inl (.s0 (IntKind.i64.wrap (z69 + (1 : Int)))))))) .fail) .fail) .fail) (.ret (.inr (.e1))))
noncomputable def qT (N : Nat) (x0 : S23) (x1 x2 : List (List PV)) (x3 w65 : List (List PV)) : f7L66s → Option (f7L66s ⊕ f7L66e)
 | .s0 z69 => Tr.run (JZ x0 x1 x2 x3 w65 z69)
theorem ZR (N : Nat) (x0 : S23) (x1 x2 : List (List PV)) (x3 w65 : List (List PV)) : ∀ x, (yv (E7 N) 85 7 1 (JzY N x0 x1 x2 x3 w65) (jzo x0 x1 x2 x3 w65 x)).run = (qT N x0 x1 x2 x3 w65 x).map (Zt (jzo x0 x1 x2 x3 w65) (zzX x0 x1 x2 x3 w65))
 | .s0 z69 => (Tr.run_of (by kernel_rfl))
noncomputable def f7 (N : Nat) (x0 : S23) (x1 x2 x3 : List (List PV)) : Option f7o := (bif ((f8 0 x0).isSome) then (bif (!((f8 0 x0).getD f8d).y1) then (Tr.run (.ret (.r0 (true)))) else (bif (decide (x1.length ≤ maxLen)) then (bif (!allM x0 x1) then (Tr.run (.ret (.r0 (true)))) else (bif (decide ((↑x2.length : Int) < (↑x1.length : Int))) then (Tr.run (.ret (.r0 (true)))) else (bif (decide ((↑x3.length : Int) > (100 : Int))) then (Tr.run (.ret (.r0 (true)))) else ((Jv (zzx N x0 x1 x2 x3) N (.s0)).bind (fun
 | .e0  => (bif ((Jm { x0 with a2 := (1 : Int) } [] x3).isSome) then (bif ((Jm { x0 with a2 := (2 : Int) } [] x3).isSome) then (bif ((Jm { x0 with a2 := (3 : Int) } [] x3).isSome) then (bif ((zx { x0 with a2 := (1 : Int) } [] x3).y267 != (0 : Int)) then (Tr.run (.ret (.r0 (false)))) else (bif ((zx { x0 with a2 := (2 : Int) } [] x3).y267 != (0 : Int)) then (Tr.run (.ret (.r0 (false)))) else (bif ((zx { x0 with a2 := (3 : Int) } [] x3).y267 != (0 : Int)) then (Tr.run (.ret (.r0 (false)))) else (bif ((↑(zx { x0 with a2 := (1 : Int) } [] x3).y265.length : Int) != IntKind.i64.wrap ((2 : Int) * (↑x1.length : Int))) then (Tr.run (.ret (.r0 (false)))) else (bif ((↑(zx { x0 with a2 := (2 : Int) } [] x3).y265.length : Int) != (↑(zx { x0 with a2 := (1 : Int) } [] x3).y265.length : Int)) then (Tr.run (.ret (.r0 (false)))) else (bif ((↑(zx { x0 with a2 := (3 : Int) } [] x3).y265.length : Int) != (↑(zx { x0 with a2 := (1 : Int) } [] x3).y265.length : Int)) then (Tr.run (.ret (.r0 (false)))) else ((Jv (qT N x0 x1 x2 x3 []) N (.s0 ((0 : Int)))).bind (fun
 | .e0  => Tr.run (.ret (.r0 (false)))
 | .e1  => Tr.run (.ret (.r0 (true))))))))))) else (Tr.run .fail)) else (Tr.run .fail)) else (Tr.run .fail))
 | .e1  => (bif ((Jm { x0 with a2 := (1 : Int) } (QZ x0 x1 x2) x3).isSome) then (bif ((Jm { x0 with a2 := (2 : Int) } (QZ x0 x1 x2) x3).isSome) then (bif ((Jm { x0 with a2 := (3 : Int) } (QZ x0 x1 x2) x3).isSome) then (bif ((zx { x0 with a2 := (1 : Int) } (QZ x0 x1 x2) x3).y267 != (0 : Int)) then (Tr.run (.ret (.r0 (false)))) else (bif ((zx { x0 with a2 := (2 : Int) } (QZ x0 x1 x2) x3).y267 != (0 : Int)) then (Tr.run (.ret (.r0 (false)))) else (bif ((zx { x0 with a2 := (3 : Int) } (QZ x0 x1 x2) x3).y267 != (0 : Int)) then (Tr.run (.ret (.r0 (false)))) else (bif ((↑(zx { x0 with a2 := (1 : Int) } (QZ x0 x1 x2) x3).y265.length : Int) != IntKind.i64.wrap ((2 : Int) * (↑x1.length : Int))) then (Tr.run (.ret (.r0 (false)))) else (bif ((↑(zx { x0 with a2 := (2 : Int) } (QZ x0 x1 x2) x3).y265.length : Int) != (↑(zx { x0 with a2 := (1 : Int) } (QZ x0 x1 x2) x3).y265.length : Int)) then (Tr.run (.ret (.r0 (false)))) else (bif ((↑(zx { x0 with a2 := (3 : Int) } (QZ x0 x1 x2) x3).y265.length : Int) != (↑(zx { x0 with a2 := (1 : Int) } (QZ x0 x1 x2) x3).y265.length : Int)) then (Tr.run (.ret (.r0 (false)))) else ((Jv (qT N x0 x1 x2 x3 (QZ x0 x1 x2)) N (.s0 ((0 : Int)))).bind (fun
 | .e0  => Tr.run (.ret (.r0 (false)))
 | .e1  => Tr.run (.ret (.r0 (true))))))))))) else (Tr.run .fail)) else (Tr.run .fail)) else (Tr.run .fail))
 | .e2 w65 => (bif ((Jm { x0 with a2 := (1 : Int) } w65 x3).isSome) then (bif ((Jm { x0 with a2 := (2 : Int) } w65 x3).isSome) then (bif ((Jm { x0 with a2 := (3 : Int) } w65 x3).isSome) then (bif ((zx { x0 with a2 := (1 : Int) } w65 x3).y267 != (0 : Int)) then (Tr.run (.ret (.r0 (false)))) else (bif ((zx { x0 with a2 := (2 : Int) } w65 x3).y267 != (0 : Int)) then (Tr.run (.ret (.r0 (false)))) else (bif ((zx { x0 with a2 := (3 : Int) } w65 x3).y267 != (0 : Int)) then (Tr.run (.ret (.r0 (false)))) else (bif ((↑(zx { x0 with a2 := (1 : Int) } w65 x3).y265.length : Int) != IntKind.i64.wrap ((2 : Int) * (↑x1.length : Int))) then (Tr.run (.ret (.r0 (false)))) else (bif ((↑(zx { x0 with a2 := (2 : Int) } w65 x3).y265.length : Int) != (↑(zx { x0 with a2 := (1 : Int) } w65 x3).y265.length : Int)) then (Tr.run (.ret (.r0 (false)))) else (bif ((↑(zx { x0 with a2 := (3 : Int) } w65 x3).y265.length : Int) != (↑(zx { x0 with a2 := (1 : Int) } w65 x3).y265.length : Int)) then (Tr.run (.ret (.r0 (false)))) else ((Jv (qT N x0 x1 x2 x3 w65) N (.s0 ((0 : Int)))).bind (fun
 | .e0  => Tr.run (.ret (.r0 (false)))
 | .e1  => Tr.run (.ret (.r0 (true))))))))))) else (Tr.run .fail)) else (Tr.run .fail)) else (Tr.run .fail))))))) else (Tr.run .fail))) else (Tr.run .fail))
theorem f7_run (N : Nat) (x0 : S23) (x1 x2 x3 : List (List PV)) : (qy (E7 N) 100 7 [(S23v x0), PV.list 29 x1, PV.list 5 x2, PV.list 3 x3]).run = (f7 N x0 x1 x2 x3).map f7W := (Yz (by kernel_rfl) (by kernel_rfl) (Yz (by kernel_rfl) (by kernel_rfl) (Tr.run_of (by kernel_rfl)) (yy [false, false, false, false, false] (by kernel_rfl) (Yz (by kernel_rfl) (by kernel_rfl) (yy [false, false, false, false] (by kernel_rfl) (Yz (by kernel_rfl) (by kernel_rfl) (Tr.run_of (by kernel_rfl)) (yy [false, false, false, false, false, false, false, false, false, false, false] (by kernel_rfl) (Yz (by kernel_rfl) (by kernel_rfl) (Tr.run_of (by kernel_rfl)) (yy [false, false, false, false, false, false, false] (by kernel_rfl) (Yz (by kernel_rfl) (by kernel_rfl) (Tr.run_of (by kernel_rfl)) (yy [false, true, false, false, false, false, false, false] (by kernel_rfl) (Qv (wrap := f7W) (E := E7 N) (n := 93) (f := 7) (c0 := 1) (c := (jzp N x0 x1 x2 x3)) (s := Tr.waitS (Tr.sub [false, true, false, false, false, false, false, false] (Tr.sub [false] (Tr.sub [false, false, false, false, false, false, false] (Tr.sub [false] (Tr.sub [false, false, false, false, false, false, false, false, false, false, false] (Tr.sub [false] (Tr.sub [false, false, false, false] (Tr.sub [true] (Tr.sub [false, false, false, false, false] (Tr.sub [false] (Tr.sub [true] (qy (E7 N) 100 7 [(S23v x0), PV.list 29 x1, PV.list 5 x2, PV.list 3 x3]))))))))))))) (qN x0 x1 x2 x3) (Zzy x0 x1 x2 x3) (zzx N x0 x1 x2 x3) (.s0) _ (yyz N x0 x1 x2 x3) (by kernel_rfl) (by kernel_rfl) (by kernel_rfl) (by kernel_rfl) (by kernel_rfl) (fun
 | .e0  => (Yz (by kernel_rfl) (by kernel_rfl) (Yz (by kernel_rfl) (by kernel_rfl) (Yz (by kernel_rfl) (by kernel_rfl) (Yz (by kernel_rfl) (by kernel_rfl) (Tr.run_of (by kernel_rfl)) (yy [false, false, false, false, false] (by kernel_rfl) (Yz (by kernel_rfl) (by kernel_rfl) (Tr.run_of (by kernel_rfl)) (yy [false, false, false, false, false] (by kernel_rfl) (Yz (by kernel_rfl) (by kernel_rfl) (Tr.run_of (by kernel_rfl)) (yy [false, false, false, false, false, false, false, false, false, false, false, false, false, false, false] (by kernel_rfl) (Yz (by kernel_rfl) (by kernel_rfl) (Tr.run_of (by kernel_rfl)) (yy [false, false, false, false, false, false, false, false, false, false, false, false, false, false, false] (by kernel_rfl) (Yz (by kernel_rfl) (by kernel_rfl) (Tr.run_of (by kernel_rfl)) (yy [false, false, false, false, false, false, false, false, false, false, false, false, false, false, false] (by kernel_rfl) (Yz (by kernel_rfl) (by kernel_rfl) (Tr.run_of (by kernel_rfl)) (yy [false] (by kernel_rfl) (Qv (wrap := f7W) (E := E7 N) (n := 85) (f := 7) (c0 := 1) (c := (JzY N x0 x1 x2 x3 [])) (s := Tr.waitS (Tr.sub [false] (Tr.sub [false] (Tr.sub [false, false, false, false, false, false, false, false, false, false, false, false, false, false, false] (Tr.sub [false] (Tr.sub [false, false, false, false, false, false, false, false, false, false, false, false, false, false, false] (Tr.sub [false] (Tr.sub [false, false, false, false, false, false, false, false, false, false, false, false, false, false, false] (Tr.sub [false] (Tr.sub [false, false, false, false, false] (Tr.sub [false] (Tr.sub [false, false, false, false, false] (Tr.sub [false] (Tr.sub [true] (Tr.sub [true] (Tr.sub [true] (Tr.waitK (Tr.sub [false, true, false, false, false, false, false, false] (Tr.sub [false] (Tr.sub [false, false, false, false, false, false, false] (Tr.sub [false] (Tr.sub [false, false, false, false, false, false, false, false, false, false, false] (Tr.sub [false] (Tr.sub [false, false, false, false] (Tr.sub [true] (Tr.sub [false, false, false, false, false] (Tr.sub [false] (Tr.sub [true] (qy (E7 N) 100 7 [(S23v x0), PV.list 29 x1, PV.list 5 x2, PV.list 3 x3])))))))))))) (Zzy x0 x1 x2 x3 (.e0 ))))))))))))))))))) (jzo x0 x1 x2 x3 []) (zzX x0 x1 x2 x3 []) (qT N x0 x1 x2 x3 []) (.s0 ((0 : Int))) _ (ZR N x0 x1 x2 x3 []) (by kernel_rfl) (by kernel_rfl) (by kernel_rfl) (by kernel_rfl) (by kernel_rfl) (fun
 | .e0  => (Tr.run_of (by kernel_rfl))
 | .e1  => (Tr.run_of (by kernel_rfl)))))))))))))))) (Tr.run_of (by kernel_rfl))) (Tr.run_of (by kernel_rfl))) (Tr.run_of (by kernel_rfl)))
 | .e1  => (Yz (by kernel_rfl) (by kernel_rfl) (Yz (by kernel_rfl) (by kernel_rfl) (Yz (by kernel_rfl) (by kernel_rfl) (Yz (by kernel_rfl) (by kernel_rfl) (Tr.run_of (by kernel_rfl)) (yy [false, false, false, false, false] (by kernel_rfl) (Yz (by kernel_rfl) (by kernel_rfl) (Tr.run_of (by kernel_rfl)) (yy [false, false, false, false, false] (by kernel_rfl) (Yz (by kernel_rfl) (by kernel_rfl) (Tr.run_of (by kernel_rfl)) (yy [false, false, false, false, false, false, false, false, false, false, false, false, false, false, false] (by kernel_rfl) (Yz (by kernel_rfl) (by kernel_rfl) (Tr.run_of (by kernel_rfl)) (yy [false, false, false, false, false, false, false, false, false, false, false, false, false, false, false] (by kernel_rfl) (Yz (by kernel_rfl) (by kernel_rfl) (Tr.run_of (by kernel_rfl)) (yy [false, false, false, false, false, false, false, false, false, false, false, false, false, false, false] (by kernel_rfl) (Yz (by kernel_rfl) (by kernel_rfl) (Tr.run_of (by kernel_rfl)) (yy [false] (by kernel_rfl) (Qv (wrap := f7W) (E := E7 N) (n := 85) (f := 7) (c0 := 1) (c := (JzY N x0 x1 x2 x3 (QZ x0 x1 x2))) (s := Tr.waitS (Tr.sub [false] (Tr.sub [false] (Tr.sub [false, false, false, false, false, false, false, false, false, false, false, false, false, false, false] (Tr.sub [false] (Tr.sub [false, false, false, false, false, false, false, false, false, false, false, false, false, false, false] (Tr.sub [false] (Tr.sub [false, false, false, false, false, false, false, false, false, false, false, false, false, false, false] (Tr.sub [false] (Tr.sub [false, false, false, false, false] (Tr.sub [false] (Tr.sub [false, false, false, false, false] (Tr.sub [false] (Tr.sub [true] (Tr.sub [true] (Tr.sub [true] (Tr.waitK (Tr.sub [false, true, false, false, false, false, false, false] (Tr.sub [false] (Tr.sub [false, false, false, false, false, false, false] (Tr.sub [false] (Tr.sub [false, false, false, false, false, false, false, false, false, false, false] (Tr.sub [false] (Tr.sub [false, false, false, false] (Tr.sub [true] (Tr.sub [false, false, false, false, false] (Tr.sub [false] (Tr.sub [true] (qy (E7 N) 100 7 [(S23v x0), PV.list 29 x1, PV.list 5 x2, PV.list 3 x3])))))))))))) (Zzy x0 x1 x2 x3 (.e1 ))))))))))))))))))) (jzo x0 x1 x2 x3 (QZ x0 x1 x2)) (zzX x0 x1 x2 x3 (QZ x0 x1 x2)) (qT N x0 x1 x2 x3 (QZ x0 x1 x2)) (.s0 ((0 : Int))) _ (ZR N x0 x1 x2 x3 (QZ x0 x1 x2)) (by kernel_rfl) (by kernel_rfl) (by kernel_rfl) (by kernel_rfl) (by kernel_rfl) (fun
 | .e0  => (Tr.run_of (by kernel_rfl))
 | .e1  => (Tr.run_of (by kernel_rfl)))))))))))))))) (Tr.run_of (by kernel_rfl))) (Tr.run_of (by kernel_rfl))) (Tr.run_of (by kernel_rfl)))
 | .e2 w65 => (Yz (by kernel_rfl) (by kernel_rfl) (Yz (by kernel_rfl) (by kernel_rfl) (Yz (by kernel_rfl) (by kernel_rfl) (Yz (by kernel_rfl) (by kernel_rfl) (Tr.run_of (by kernel_rfl)) (yy [false, false, false, false, false] (by kernel_rfl) (Yz (by kernel_rfl) (by kernel_rfl) (Tr.run_of (by kernel_rfl)) (yy [false, false, false, false, false] (by kernel_rfl) (Yz (by kernel_rfl) (by kernel_rfl) (Tr.run_of (by kernel_rfl)) (yy [false, false, false, false, false, false, false, false, false, false, false, false, false, false, false] (by kernel_rfl) (Yz (by kernel_rfl) (by kernel_rfl) (Tr.run_of (by kernel_rfl)) (yy [false, false, false, false, false, false, false, false, false, false, false, false, false, false, false] (by kernel_rfl) (Yz (by kernel_rfl) (by kernel_rfl) (Tr.run_of (by kernel_rfl)) (yy [false, false, false, false, false, false, false, false, false, false, false, false, false, false, false] (by kernel_rfl) (Yz (by kernel_rfl) (by kernel_rfl) (Tr.run_of (by kernel_rfl)) (yy [false] (by kernel_rfl) (Qv (wrap := f7W) (E := E7 N) (n := 85) (f := 7) (c0 := 1) (c := (JzY N x0 x1 x2 x3 w65)) (s := Tr.waitS (Tr.sub [false] (Tr.sub [false] (Tr.sub [false, false, false, false, false, false, false, false, false, false, false, false, false, false, false] (Tr.sub [false] (Tr.sub [false, false, false, false, false, false, false, false, false, false, false, false, false, false, false] (Tr.sub [false] (Tr.sub [false, false, false, false, false, false, false, false, false, false, false, false, false, false, false] (Tr.sub [false] (Tr.sub [false, false, false, false, false] (Tr.sub [false] (Tr.sub [false, false, false, false, false] (Tr.sub [false] (Tr.sub [true] (Tr.sub [true] (Tr.sub [true] (Tr.waitK (Tr.sub [false, true, false, false, false, false, false, false] (Tr.sub [false] (Tr.sub [false, false, false, false, false, false, false] (Tr.sub [false] (Tr.sub [false, false, false, false, false, false, false, false, false, false, false] (Tr.sub [false] (Tr.sub [false, false, false, false] (Tr.sub [true] (Tr.sub [false, false, false, false, false] (Tr.sub [false] (Tr.sub [true] (qy (E7 N) 100 7 [(S23v x0), PV.list 29 x1, PV.list 5 x2, PV.list 3 x3])))))))))))) (Zzy x0 x1 x2 x3 (.e2 w65))))))))))))))))))) (jzo x0 x1 x2 x3 w65) (zzX x0 x1 x2 x3 w65) (qT N x0 x1 x2 x3 w65) (.s0 ((0 : Int))) _ (ZR N x0 x1 x2 x3 w65) (by kernel_rfl) (by kernel_rfl) (by kernel_rfl) (by kernel_rfl) (by kernel_rfl) (fun
 | .e0  => (Tr.run_of (by kernel_rfl))
 | .e1  => (Tr.run_of (by kernel_rfl)))))))))))))))) (Tr.run_of (by kernel_rfl))) (Tr.run_of (by kernel_rfl))) (Tr.run_of (by kernel_rfl)))))))))))) (Tr.run_of (by kernel_rfl))))) (Tr.run_of (by kernel_rfl)))
set_option maxRecDepth 10000
theorem yq {α : Type} {b : Bool} {x y z : α} (h : b = true) (k : x = z) : (bif b then x else y) = z := by rw [h]; exact k
theorem qg {α : Type} {b : Bool} {x y z : α} (h : b = false) (k : y = z) : (bif b then x else y) = z := by rw [h]; exact k
theorem YR {σ τ : Type} {stp : σ → Option (σ ⊕ τ)} {s : Int → List (List PV) → σ} {e : List (List PV) → τ} {p : List PV} {K : Nat}
 (hgo : ∀ (i : Nat) acc, i < K → acc.length < 100000 → stp (s (i : Int) acc) = some (.inl (s ((i + 1 : Nat) : Int) (acc ++ [p])))) (hend : ∀ acc, stp (s (K : Int) acc) = some (.inr (e acc))) :
 ∀ (k i : Nat) (acc : List (List PV)), i + k = K → acc.length + k ≤ 100000 → ∀ n, Jv stp (k + 1 + n) (s (i : Int) acc) = some (e (acc ++ List.replicate k p))
 | 0, i, acc, h, _, n => by
   obtain rfl : i = K := by omega
   rw [show 0 + 1 + n = n + 1 by omega, Qu (hend acc)]
   simp
 | k + 1, i, acc, h, hl, n => by
   rw [show k + 1 + 1 + n = (k + 1 + n) + 1 by omega, Yw (hgo i acc (by omega) (by omega)), YR hgo hend k (i + 1) (acc ++ [p]) (by omega) (by simp; omega) n]
   rw [List.append_assoc]; rfl
theorem Z4 {σ τ : Type} {stp : σ → Option (σ ⊕ τ)} {s : Int → σ} {e : τ} {n : Nat}
 (hgo : ∀ i : Nat, i < n → stp (s (i : Int)) = some (.inl (s ((i + 1 : Nat) : Int)))) (hend : stp (s (n : Int)) = some (.inr e)) :
 ∀ (k i : Nat), i + k = n → ∀ m, Jv stp (k + 1 + m) (s (i : Int)) = some e
 | 0, i, h, m => by
   obtain rfl : i = n := by omega
   rw [show 0 + 1 + m = m + 1 by omega, Qu hend]
 | k + 1, i, h, m => by
   rw [show k + 1 + 1 + m = (k + 1 + m) + 1 by omega, Yw (hgo i (by omega)), Z4 hgo hend k (i + 1) (by omega) m]
theorem QR (K : Nat) (j : Job) : ∀ l : List Job, Jq K (l ++ [j]) = Jq K l ++ jobE K j
 | [] => by simp [Jq]
 | i :: l => by
   show jobE K i ++ Jq K (l ++ [j]) = (jobE K i ++ Jq K l) ++ jobE K j
   rw [QR K j l, List.append_assoc]
section
variable (x0 : S23) (x1 x2 x3 : List (List PV))
def uAt (i : Nat) : Int := pInt ((x2.getD i []).headD PV.undef)
def qb (i : Nat) : Job := ⟨(IntKind.i64.wrap (uAt x2 i)).tmod x0.a0, (IntKind.i64.wrap ((IntKind.i64.wrap (uAt x2 i)).tdiv 16)).tmod x0.a1, ⟨pInt ((x1.getD i []).headD PV.undef), pInt ((x1.getD i []).tail.headD PV.undef)⟩⟩
def Zq (n : Nat) : List Job := (List.range n).map (qb x0 x1 x2)
def kk : Int := IntKind.i64.wrap (IntKind.i64.wrap (20 + IntKind.i64.wrap (8 * x0.a3)) + IntKind.i64.wrap (x0.a4 * IntKind.i64.wrap (20 + IntKind.i64.wrap (2 * x0.a6))))
end
theorem JE (x0 : S23) (x1 x2 : List (List PV)) (n : Nat) : Zq x0 x1 x2 (n + 1) = Zq x0 x1 x2 n ++ [qb x0 x1 x2 n] := by
 unfold Zq
 rw [List.range_succ, List.map_append]; rfl
theorem yyk (x : S43) : (f17 0 x).isSome = true := Tr.whole_some (by kernel_rfl)
theorem yzh (x : S23) : (f8 0 x).isSome = true ∧ (((f8 0 x).getD f8d).y1 = true → May x ∧ (x.a8 = true → x.a9 ≤ x.a11 ∧ x.a11 ≤ x.a10) ∧ x.a0 ≤ 6 ∧ x.a3 ≤ 3 ∧ x.a4 ≤ 2 ∧ x.a6 ≤ 5) := by
 unfold f8 f8t0
 simp only [Tr.run, yyk, cond_true]
 generalize hb : (((f17 0 _).getD f17d).y1 == 0) = b
 generalize h0 : decide (x.a0 ≤ 6) = b0
 generalize h3 : decide (x.a3 ≤ 3) = b3
 generalize h4 : decide (x.a4 ≤ 2) = b4
 cases b <;> cases b0 <;> cases b3 <;> cases b4 <;> refine ⟨rfl, fun h => ?_⟩
 all_goals first
  | (exact absurd (show false = true from h) (by decide))
  | (have h6 : decide (x.a6 ≤ 5) = true := h
     obtain ⟨m, hm⟩ := YyI (x := x) (by simpa using hb)
     exact ⟨m, hm, of_decide_eq_true h0, of_decide_eq_true h3, of_decide_eq_true h4, of_decide_eq_true h6⟩)
theorem jyG {x : S23} (m : May x) (h3 : x.a3 ≤ 3) (h4 : x.a4 ≤ 2) (h6 : x.a6 ≤ 5) : kk x = 20 + 8 * x.a3 + x.a4 * (20 + 2 * x.a6) ∧ 20 ≤ kk x ∧ kk x ≤ 200 := by
 have d := m.de; have l := m.la; have s := m.sp
 unfold kk
 have e1 : IntKind.i64.wrap (8 * x.a3) = 8 * x.a3 := yu (by omega) (by omega)
 have e2 : IntKind.i64.wrap (2 * x.a6) = 2 * x.a6 := yu (by omega) (by omega)
 rw [e1, e2]
 have e3 : IntKind.i64.wrap (20 + 8 * x.a3) = 20 + 8 * x.a3 := yu (by omega) (by omega)
 have e4 : IntKind.i64.wrap (20 + 2 * x.a6) = 20 + 2 * x.a6 := yu (by omega) (by omega)
 rw [e3, e4]
 have hm : 0 ≤ x.a4 * (20 + 2 * x.a6) ∧ x.a4 * (20 + 2 * x.a6) ≤ 60 := by
  have : x.a4 = 0 ∨ x.a4 = 1 ∨ x.a4 = 2 := by omega
  rcases this with e | e | e <;> rw [e] <;> omega
 have e5 : IntKind.i64.wrap (x.a4 * (20 + 2 * x.a6)) = x.a4 * (20 + 2 * x.a6) := yu (by omega) (by omega)
 rw [e5]
 have e6 : IntKind.i64.wrap (20 + 8 * x.a3 + x.a4 * (20 + 2 * x.a6)) = 20 + 8 * x.a3 + x.a4 * (20 + 2 * x.a6) := yu (by omega) (by omega)
 rw [e6]
 omega
section
variable {x0 : S23} {x1 x2 x3 : List (List PV)} {N : Nat}
theorem qyz {K : Nat} (hk : kk x0 = (K : Int)) (hK : 20 ≤ K) (hK2 : K ≤ 200) (z42 : Int) (z43 acc : List (List PV)) (ha : acc.length ≤ 50000) (hN : 300 ≤ N) (i : Nat) (hz : z42.toNat = i) :
 Jv (je N x0 x1 x2 x3 z42 z43) N (.s0 (0 : Int) acc) = some (.e0 (acc ++ List.replicate K (Js (qb x0 x1 x2 i).t))) := by
 have hm : most = 1000000 := rfl
 have h := YR (stp := je N x0 x1 x2 x3 z42 z43) (s := fun k l => .s0 k l) (e := fun l => .e0 l) (p := Js (qb x0 x1 x2 i).t) (K := K)
  (fun k l hk1 hl => by
    show Tr.run (Zk x0 x1 x2 x3 z42 z43 (k : Int) l) = _
    unfold Zk
    refine zz (show decide ((k : Int) < kk x0) = true from decide_eq_true (by omega)) (zz (decide_eq_true ?_) ?_)
    · show l.length + 1 ≤ most
      omega
    · show some (Sum.inl (f7L0iL44s.s0 (IntKind.i64.wrap ((k : Int) + 1)) (l ++ [Js ((IntKind.i64.wrap (uAt x2 z42.toNat)).tmod x0.a0)]))) = _
      rw [Qr (i := k) (by omega), hz]; rfl)
  (fun l => by
    show Tr.run (Zk x0 x1 x2 x3 z42 z43 (K : Int) l) = _
    unfold Zk
    exact yz (show decide ((K : Int) < kk x0) = false from decide_eq_false (by omega)) rfl) K 0 acc (by omega) (by omega) (N - K - 1)
 rw [show K + 1 + (N - K - 1) = N by omega] at h
 exact h
theorem jzO {K : Nat} (hk : kk x0 = (K : Int)) (hK : 20 ≤ K) (hK2 : K ≤ 200) (hN : 300 ≤ N) :
 Jv (qe N x0 x1 x2 x3) N .s0 = some (.e1 (jobE K (qb x0 x1 x2 0))) := by
 have hm : most = 1000000 := rfl
 have e0 : qe N x0 x1 x2 x3 .s0 = some (.inl (.s1 ((1 : Nat) : Int) [invE (qb x0 x1 x2 0), Js (qb x0 x1 x2 0).t])) := by
  show Tr.run (YZ x0 x1 x2 x3) = _
  unfold YZ
  exact zz (show decide ((0 : Int) < kk x0) = true from decide_eq_true (by omega)) rfl
 have h := YR (stp := qe N x0 x1 x2 x3) (s := fun k l => .s1 k l) (e := fun l => .e1 l) (p := Js (qb x0 x1 x2 0).t) (K := K)
  (fun k l hk1 hl => by
    show Tr.run (jk x0 x1 x2 x3 (k : Int) l) = _
    unfold jk
    refine zz (show decide ((k : Int) < kk x0) = true from decide_eq_true (by omega)) (zz (decide_eq_true ?_) ?_)
    · show l.length + 1 ≤ most
      omega
    · show some (Sum.inl (f7L0iL19s.s1 (IntKind.i64.wrap ((k : Int) + 1)) (l ++ [Js ((IntKind.i64.wrap (uAt x2 0)).tmod x0.a0)]))) = _
      rw [Qr (i := k) (by omega)]; rfl)
  (fun l => by
    show Tr.run (jk x0 x1 x2 x3 (K : Int) l) = _
    unfold jk
    exact yz (show decide ((K : Int) < kk x0) = false from decide_eq_false (by omega)) rfl) (K - 1) 1 [invE (qb x0 x1 x2 0), Js (qb x0 x1 x2 0).t] (by omega) (by show 2 + _ ≤ _; omega) (N - K - 1)
 rw [show N = (K - 1 + 1 + (N - K - 1)) + 1 by omega, Yw (by rw [show (K - 1 + 1 + (N - K - 1)) + 1 = N by omega]; exact e0), show (K - 1 + 1 + (N - K - 1)) + 1 = N by omega]
 refine h.trans ?_
 obtain ⟨k, rfl⟩ : ∃ k, K = k + 1 := ⟨K - 1, by omega⟩
 rfl
theorem qzh {K : Nat} (hk : kk x0 = (K : Int)) (hK : 20 ≤ K) (hK2 : K ≤ 200) (hN : 300 ≤ N) (h0 : x0.a0 ≠ 0) (h1 : x0.a1 ≠ 0) (hl : 0 < x1.length) (hl2 : x1.length ≤ x2.length) :
 zzx N x0 x1 x2 x3 .s0 = some (.inl (.s2 ((1 : Nat) : Int) (Jq K (Zq x0 x1 x2 1)))) := by
 have d1 : decide ((0 : Int) < (x1.length : Int)) = true := decide_eq_true (by omega)
 have d2 : (decide ((0 : Int) ≤ (0 : Int)) && decide ((0 : Int) < (x2.length : Int))) = true := by
  rw [decide_eq_true (show (0 : Int) < (x2.length : Int) by omega)]; rfl
 have d3 : (decide ((0 : Int) ≤ (0 : Int)) && decide ((0 : Int) < (x1.length : Int))) = true := by rw [d1]; rfl
 refine yq d1 (yq d2 (yq (decide_eq_true h0) (yq d2 (yq (decide_eq_true h1) (yq d3 ?_)))))
 rw [jzO hk hK hK2 hN]
 show some (Sum.inl (f7L0s.s2 (1 : Int) (jobE K (qb x0 x1 x2 0)))) = _
 have e : Jq K (Zq x0 x1 x2 1) = jobE K (qb x0 x1 x2 0) := by
  rw [JE, QR]; rfl
 rw [e]; rfl
theorem ZzO {K : Nat} (hk : kk x0 = (K : Int)) (hK : 20 ≤ K) (hK2 : K ≤ 200) (hN : 300 ≤ N) (h0 : x0.a0 ≠ 0) (h1 : x0.a1 ≠ 0) (hl2 : x1.length ≤ x2.length) (h16 : x1.length ≤ 16) {i : Nat} (hi : i < x1.length) :
 zzx N x0 x1 x2 x3 (.s2 (i : Int) (Jq K (Zq x0 x1 x2 i))) = some (.inl (.s2 ((i + 1 : Nat) : Int) (Jq K (Zq x0 x1 x2 (i + 1))))) := by
 have hm : most = 1000000 := rfl
 have d1 : decide ((i : Int) < (x1.length : Int)) = true := decide_eq_true (by omega)
 have d2 : (decide ((0 : Int) ≤ (i : Int)) && decide ((i : Int) < (x2.length : Int))) = true := by
  rw [decide_eq_true (show (i : Int) < (x2.length : Int) by omega), decide_eq_true (show (0 : Int) ≤ (i : Int) by omega)]; rfl
 have d3 : (decide ((0 : Int) ≤ (i : Int)) && decide ((i : Int) < (x1.length : Int))) = true := by rw [d1, decide_eq_true (show (0 : Int) ≤ (i : Int) by omega)]; rfl
 have hlen : (Jq K (Zq x0 x1 x2 i)).length ≤ 16 * 201 := by
  rw [QF]
  have : (Zq x0 x1 x2 i).length = i := by simp [Zq]
  rw [this]
  exact Nat.mul_le_mul (by omega) (by omega)
 refine yq d1 (yq d2 (yq (decide_eq_true h0) (yq d2 (yq (decide_eq_true h1) (yq d3 (yq (decide_eq_true ?_) ?_))))))
 · show (Jq K (Zq x0 x1 x2 i)).length + 1 ≤ most
   omega
 have hp := qyz (x1 := x1) (x2 := x2) (x3 := x3) (N := N) hk hK hK2 (i : Int) (Jq K (Zq x0 x1 x2 i)) (Jq K (Zq x0 x1 x2 i) ++ [invE (qb x0 x1 x2 i)]) (by simp; omega) hN i rfl
 have hp' : Jv (je N x0 x1 x2 x3 (i : Int) (Jq K (Zq x0 x1 x2 i))) N (.s0 (0 : Int) (Jq K (Zq x0 x1 x2 i) ++ [invE (qb x0 x1 x2 ((i : Int).toNat))])) = _ := hp
 refine (congrArg (fun z => Option.bind z _) hp').trans ?_
 show some (Sum.inl (f7L0s.s2 (IntKind.i64.wrap ((i : Int) + 1)) (Jq K (Zq x0 x1 x2 i) ++ [invE (qb x0 x1 x2 i)] ++ List.replicate K (Js (qb x0 x1 x2 i).t)))) = _
 rw [Qr (i := i) (by omega), JE, QR, List.append_assoc]; rfl
theorem jyz {i : Nat} {l : List (List PV)} (hi : i = x1.length) : zzx N x0 x1 x2 x3 (.s2 (i : Int) l) = some (.inr (.e2 l)) :=
 qg (decide_eq_false (by omega)) rfl
theorem Y4 {K : Nat} (hk : kk x0 = (K : Int)) (hK : 20 ≤ K) (hK2 : K ≤ 200) (hN : 300 ≤ N) (h0 : x0.a0 ≠ 0) (h1 : x0.a1 ≠ 0) (hl2 : x1.length ≤ x2.length) (h16 : x1.length ≤ 16) :
 ∀ (k i : Nat), i + k = x1.length → ∀ m, Jv (zzx N x0 x1 x2 x3) (k + 1 + m) (.s2 (i : Int) (Jq K (Zq x0 x1 x2 i))) = some (.e2 (Jq K (Zq x0 x1 x2 x1.length)))
 | 0, i, h, m => by
   obtain rfl : i = x1.length := by omega
   rw [show 0 + 1 + m = m + 1 by omega, Qu (jyz rfl)]
 | k + 1, i, h, m => by
   rw [show k + 1 + 1 + m = (k + 1 + m) + 1 by omega, Yw (ZzO hk hK hK2 hN h0 h1 hl2 h16 (by omega)), Y4 hk hK hK2 hN h0 h1 hl2 h16 k (i + 1) (by omega) m]
end
theorem yzX {x0 : S23} {x1 x2 x3 : List (List PV)} {N : Nat} {l : List (List PV)} {w1 w2 w3 : Wld} (r1 : zx { x0 with a2 := 1 } l x3 = outW { x0 with a2 := 1 } w1) (r2 : zx { x0 with a2 := 2 } l x3 = outW { x0 with a2 := 2 } w2) (r3 : zx { x0 with a2 := 3 } l x3 = outW { x0 with a2 := 3 } w3)
 (a2 : yT w1.hist w2.hist) (a3 : yT w1.hist w3.hist) (hl : w1.hist.length ≤ 32) (hN : 300 ≤ N) : Jv (qT N x0 x1 x2 x3 l) N (.s0 (0 : Int)) = some .e1 := by
 have l2 := qk a2
 have l3 := qk a3
 have h := Z4 (stp := qT N x0 x1 x2 x3 l) (s := fun i => .s0 i) (e := .e1) (n := w1.hist.length)
  (fun i hi => by
    obtain ⟨k, t, it, tag, v, pr, d, s, s', e1, e2⟩ := zzy i a2 hi
    obtain ⟨k', t', it', tag', v', pr', d', z, z', e3, e4⟩ := zzy i a3 hi
    rw [e1] at e3
    have e3 := List.cons.inj e3
    have g1 : (zx { x0 with a2 := 1 } l x3).y265.getD ((i : Int)).toNat [] = evt k t it tag v pr d s := by rw [r1]; exact e1
    have g2 : (zx { x0 with a2 := 2 } l x3).y265.getD ((i : Int)).toNat [] = evt k t it tag v pr d s' := by rw [r2]; exact e2
    have g3 : (zx { x0 with a2 := 3 } l x3).y265.getD ((i : Int)).toNat [] = evt k t it tag v pr d z' := by
     rw [r3]; refine e4.trans ?_
     simp only [List.cons.injEq, PV.int.injEq, PV.bool.injEq, true_and, and_true] at e3
     obtain ⟨rfl, rfl, rfl, rfl, rfl, rfl, rfl, _⟩ := e3
     rfl
    have n1 : (zx { x0 with a2 := 1 } l x3).y265.length = w1.hist.length := by rw [r1]
    have n2 : (zx { x0 with a2 := 2 } l x3).y265.length = w1.hist.length := by rw [r2]; exact l2
    have n3 : (zx { x0 with a2 := 3 } l x3).y265.length = w1.hist.length := by rw [r3]; exact l3
    show Tr.run (JZ x0 x1 x2 x3 l (i : Int)) = _
    unfold JZ
    rw [n1, n2, n3, g1, g2, g3]
    have c1 : decide ((i : Int) < (w1.hist.length : Int)) = true := decide_eq_true (by omega)
    have c2 : (decide ((0 : Int) ≤ (i : Int)) && decide ((i : Int) < (w1.hist.length : Int))) = true := by rw [c1, decide_eq_true (show (0 : Int) ≤ (i : Int) by omega)]; rfl
    refine zz c1 (zz c2 (zz c2 (zz c2 (yz ?_ (yz ?_ ?_)))))
    · simp [pInt, jb]
    · simp [pInt, jb]
    · show some (Sum.inl (f7L66s.s0 (IntKind.i64.wrap ((i : Int) + 1)))) = _
      rw [Qr (i := i) (by omega)])
  (by
    have n1 : (zx { x0 with a2 := 1 } l x3).y265.length = w1.hist.length := by rw [r1]
    show Tr.run (JZ x0 x1 x2 x3 l (w1.hist.length : Int)) = _
    unfold JZ
    rw [n1]
    exact yz (decide_eq_false (by omega)) rfl) w1.hist.length 0 (by omega) (N - w1.hist.length - 1)
 rw [show w1.hist.length + 1 + (N - w1.hist.length - 1) = N by omega] at h
 exact h
theorem qzX : ∀ {xs : List (List PV)} {e : List PV}, Wfss xs → e ∈ xs → Wfs e
 | x :: xs, e, h, he => by
   simp only [Wfss] at h
   rcases List.mem_cons.1 he with rfl | he
   · exact h.1
   · exact qzX h.2 he
theorem YzO : jy Tryz.prog 5 = [.int .u8] := by kernel_rfl
theorem wf_u {x2 : List (List PV)} (h2 : Wf (.list 5 x2)) {p0 p1 p3 : PV} (hm : YzV Tryz.prog [p0, p1, .list 5 x2, p3]) (i : Nat) : 0 ≤ uAt x2 i ∧ uAt x2 i ≤ 255 := by
 obtain ⟨w, S, vs, hv⟩ := hm
 simp only [VPs] at hv
 obtain ⟨_, _, rfl, _, _, _, rfl, _, v2, _, rfl, hv2, _⟩ := hv
 simp only [VP] at hv2
 obtain ⟨A, cap, us, rfl, _, hc, _⟩ := hv2
 simp only [Wf] at h2
 unfold uAt
 rw [List.getD_eq_getElem?_getD]
 by_cases hi : i < x2.length
 · rw [List.getElem?_eq_getElem hi, Option.getD_some]
   have hmem := List.getElem_mem hi
   have h1 := hc _ hmem
   have h3 := qzX h2.2 hmem
   rw [YzO] at h1
   generalize x2[i] = e at h1 h3
   match e, h1 with
   | [a], h1 =>
     obtain ⟨⟨n, rfl⟩, _⟩ := h1
     simp only [Wfs, Wf] at h3
     have h4 := h3.1
     simp only [Lit.wf, Bool.and_eq_true, decide_eq_true_eq] at h4
     have e1 : IntKind.u8.min = 0 := by kernel_rfl
     have e2 : IntKind.u8.max = 255 := by kernel_rfl
     rw [e1, e2] at h4
     exact h4
 · rw [List.getElem?_eq_none (by omega)]
   exact ⟨Int.le_refl 0, by decide⟩
theorem Zyz (x0 : S23) (x1 : List (List PV)) (x2 : List (List PV)) (x3 : List (List PV)) (h0 : Wf (S23v x0)) (h1 : Wf (PV.list 29 x1)) (h2 : Wf (PV.list 5 x2)) (h3 : Wf (PV.list 3 x3)) (hm : YzV Tryz.prog [S23v x0, PV.list 29 x1, PV.list 5 x2, PV.list 3 x3]) : ∃ N, f7 N x0 x1 x2 x3 = some ⟨true⟩ := by
 refine ⟨1000, ?_⟩
 unfold f7
 obtain ⟨g1, g2⟩ := yzh x0
 refine yq g1 ?_
 refine JN (fun _ => rfl) (fun hs => ?_)
 obtain ⟨m, mb, s0, s3, s4, s6⟩ := g2 (by simpa using hs)
 simp only [Wf] at h1
 refine yq (decide_eq_true h1.1) ?_
 refine JN (fun _ => rfl) (fun hall => ?_)
 refine JN (fun _ => rfl) (fun hwho => ?_)
 refine JN (fun _ => rfl) (fun hdr => ?_)
 have hall : allM x0 x1 = true := by simpa using hall
 have hwho : x1.length ≤ x2.length := by have := of_decide_eq_false hwho; omega
 have hdr : x3.length ≤ 100 := by have := of_decide_eq_false hdr; omega
 have h16 : x1.length ≤ 16 := by
  unfold allM at hall
  cases hq : (List.range' 0 x1.length).all (fun i => mayE x0 (x1.getD i [])) with
  | true => rw [hq] at hall; have := of_decide_eq_true (show decide ((x1.length : Int) ≤ 16) = true from hall); omega
  | false => rw [hq] at hall; cases hall
 have hmay : ∀ i, i < x1.length → mayE x0 (x1.getD i []) = true := by
  unfold allM at hall
  cases hq : (List.range' 0 x1.length).all (fun i => mayE x0 (x1.getD i [])) with
  | true => exact fun i hi => List.all_eq_true.1 hq i (List.mem_range'_1.2 ⟨Nat.zero_le _, by omega⟩)
  | false => rw [hq] at hall; cases hall
 have hu := wf_u h2 hm
 obtain ⟨k1, k2, k3⟩ := jyG m s3 s4 s6
 obtain ⟨K, hK⟩ : ∃ K : Nat, kk x0 = (K : Int) := ⟨(kk x0).toNat, by omega⟩
 have hK20 : 20 ≤ K := by omega
 have hK200 : K ≤ 200 := by omega
 have ht := m.th
 have hi := m.it
 have m1 : May ({ x0 with a2 := 1 } : S23) := ⟨m.th, m.it, by show (1 : Int) ≤ 1 ∧ (1 : Int) ≤ 3; decide, m.de, m.la, m.wi, m.sp, m.wa⟩
 have m2 : May ({ x0 with a2 := 2 } : S23) := ⟨m.th, m.it, by show (1 : Int) ≤ 2 ∧ (2 : Int) ≤ 3; decide, m.de, m.la, m.wi, m.sp, m.wa⟩
 have m3 : May ({ x0 with a2 := 3 } : S23) := ⟨m.th, m.it, by show (1 : Int) ≤ 3 ∧ (3 : Int) ≤ 3; decide, m.de, m.la, m.wi, m.sp, m.wa⟩
 have hjobs : ∀ n, n ≤ x1.length → ∀ j ∈ Zq x0 x1 x2 n, 0 ≤ j.t ∧ j.t < x0.a0 ∧ 0 ≤ j.i ∧ j.i < x0.a1 ∧ mayO x0 j.o = true := by
  intro n hn j hj
  obtain ⟨i, hi1, rfl⟩ := List.mem_map.1 hj
  have hi1 := List.mem_range.1 hi1
  obtain ⟨u0, u1⟩ := hu i
  have e1 : IntKind.i64.wrap (uAt x2 i) = uAt x2 i := yu (by omega) (by omega)
  have e2 : (uAt x2 i).tdiv 16 = uAt x2 i / 16 := Int.tdiv_eq_ediv_of_nonneg u0
  have e3 : IntKind.i64.wrap ((uAt x2 i).tdiv 16) = uAt x2 i / 16 := by rw [e2]; exact yu (by omega) (by omega)
  have hj1 : (qb x0 x1 x2 i).t = uAt x2 i % x0.a0 := by
   show (IntKind.i64.wrap (uAt x2 i)).tmod x0.a0 = _
   rw [e1]; exact Int.tmod_eq_emod_of_nonneg u0
  have hj2 : (qb x0 x1 x2 i).i = (uAt x2 i / 16) % x0.a1 := by
   show (IntKind.i64.wrap ((IntKind.i64.wrap (uAt x2 i)).tdiv 16)).tmod x0.a1 = _
   rw [e1, e3]; exact Int.tmod_eq_emod_of_nonneg (by omega)
  rw [hj1, hj2]
  exact ⟨Int.emod_nonneg _ (by omega), Int.emod_lt_of_pos _ (by omega), Int.emod_nonneg _ (by omega), Int.emod_lt_of_pos _ (by omega), hmay i (by omega)⟩
 have runs : ∀ n, n ≤ x1.length → ∃ w1 w2 w3, Jm { x0 with a2 := 1 } (Jq K (Zq x0 x1 x2 n)) x3 = some (outW { x0 with a2 := 1 } w1) ∧ Jm { x0 with a2 := 2 } (Jq K (Zq x0 x1 x2 n)) x3 = some (outW { x0 with a2 := 2 } w2) ∧ Jm { x0 with a2 := 3 } (Jq K (Zq x0 x1 x2 n)) x3 = some (outW { x0 with a2 := 3 } w3) ∧
  yT w1.hist w2.hist ∧ yT w1.hist w3.hist ∧ w1.hist.length = 2 * n := by
  intro n hn
  have hlen : (Zq x0 x1 x2 n).length = n := by simp [Zq]
  obtain ⟨w1, w2, p1, p2, p3, p4⟩ := Q3 m1 m2 (qzq m1 mb) (qzq m2 mb) (⟨rfl, rfl, rfl, rfl, rfl⟩ : Kin ({ x0 with a2 := 1 } : S23) ({ x0 with a2 := 2 } : S23)) rfl s0 (K := K) (by rw [← hK, k1]; exact Int.le_refl _) (by rw [← hK, k1]; exact Int.le_refl _) (by omega) (d := x3) (by omega) (js := Zq x0 x1 x2 n) (by omega) (hjobs n hn)
  obtain ⟨w1', w3, q1, q2, q3, q4⟩ := Q3 m1 m3 (qzq m1 mb) (qzq m3 mb) (⟨rfl, rfl, rfl, rfl, rfl⟩ : Kin ({ x0 with a2 := 1 } : S23) ({ x0 with a2 := 3 } : S23)) rfl s0 (K := K) (by rw [← hK, k1]; exact Int.le_refl _) (by rw [← hK, k1]; exact Int.le_refl _) (by omega) (d := x3) (by omega) (js := Zq x0 x1 x2 n) (by omega) (hjobs n hn)
  have he : w1'.hist = w1.hist := congrArg f13o.y265 (Option.some.inj (q1.symm.trans p1))
  rw [he] at q3
  exact ⟨w1, w2, w3, p1, p2, q2, p3, q3, by rw [p4, hlen]⟩
 have vals : ∀ {c : S23} {l : List (List PV)} {o : f13o}, Jm c l x3 = some o → zx c l x3 = o := fun h => by unfold zx; rw [h]; rfl
 by_cases hn : x1.length = 0
 · have e0 : Jv (zzx 1000 x0 x1 x2 x3) 1000 .s0 = some .e0 := Qu (qg (decide_eq_false (by omega)) rfl)
   refine (congrArg (fun z => Option.bind z _) e0).trans ?_
   obtain ⟨w1, w2, w3, p1, p2, p3, a2, a3, hl⟩ := runs 0 (by omega)
   have p1 : Jm { x0 with a2 := 1 } [] x3 = _ := p1
   have p2 : Jm { x0 with a2 := 2 } [] x3 = _ := p2
   have p3 : Jm { x0 with a2 := 3 } [] x3 = _ := p3
   have v1 := vals p1
   have v2 := vals p2
   have v3 := vals p3
   have l2 := qk a2
   have l3 := qk a3
   have ht := yzX (x1 := x1) (x2 := x2) (N := 1000) (l := []) v1 v2 v3 a2 a3 (by omega) (by omega)
   refine yq (by rw [p1]; rfl) (yq (by rw [p2]; rfl) (yq (by rw [p3]; rfl) (qg (by rw [v1]; rfl) (qg (by rw [v2]; rfl) (qg (by rw [v3]; rfl) (qg ?_ (qg ?_ (qg ?_ ?_))))))))
   · rw [v1, hn]
     show ((w1.hist.length : Int) != IntKind.i64.wrap (2 * ((0 : Nat) : Int))) = false
     rw [hl]; rfl
   · rw [v1, v2]
     show ((w2.hist.length : Int) != (w1.hist.length : Int)) = false
     rw [l2]; simp
   · rw [v1, v3]
     show ((w3.hist.length : Int) != (w1.hist.length : Int)) = false
     rw [l3]; simp
   · refine (congrArg (fun z => Option.bind z _) ht).trans rfl
 · have e2 : Jv (zzx 1000 x0 x1 x2 x3) 1000 .s0 = some (.e2 (Jq K (Zq x0 x1 x2 x1.length))) := by
    rw [show (1000 : Nat) = 999 + 1 from rfl, Yw (qzh hK hK20 hK200 (by omega) (by omega) (by omega) (by omega) hwho)]
    have h := Y4 (x0 := x0) (x1 := x1) (x2 := x2) (x3 := x3) (N := 1000) hK hK20 hK200 (by omega) (by omega) (by omega) hwho h16 (x1.length - 1) 1 (by omega) (999 - x1.length)
    rw [show x1.length - 1 + 1 + (999 - x1.length) = 999 by omega] at h
    exact h
   refine (congrArg (fun z => Option.bind z _) e2).trans ?_
   obtain ⟨w1, w2, w3, p1, p2, p3, a2, a3, hl⟩ := runs x1.length (Nat.le_refl _)
   generalize Jq K (Zq x0 x1 x2 x1.length) = l at p1 p2 p3
   have v1 := vals p1
   have v2 := vals p2
   have v3 := vals p3
   have l2 := qk a2
   have l3 := qk a3
   have ht := yzX (x1 := x1) (x2 := x2) (N := 1000) v1 v2 v3 a2 a3 (by omega) (by omega)
   refine yq (by rw [p1]; rfl) (yq (by rw [p2]; rfl) (yq (by rw [p3]; rfl) (qg (by rw [v1]; rfl) (qg (by rw [v2]; rfl) (qg (by rw [v3]; rfl) (qg ?_ (qg ?_ (qg ?_ ?_))))))))
   · rw [v1]
     show ((w1.hist.length : Int) != IntKind.i64.wrap (2 * (x1.length : Int))) = false
     rw [yu (by omega) (by omega), hl]
     simp
   · rw [v1, v2]
     show ((w2.hist.length : Int) != (w1.hist.length : Int)) = false
     rw [l2]; simp
   · rw [v1, v3]
     show ((w3.hist.length : Int) != (w1.hist.length : Int)) = false
     rw [l3]; simp
   · refine (congrArg (fun z => Option.bind z _) ht).trans rfl
end Go.Proofs.YtgfnpgnfklcicaaGreatS
