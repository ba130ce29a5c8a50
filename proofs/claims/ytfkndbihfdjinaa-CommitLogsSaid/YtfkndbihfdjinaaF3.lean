/- More functions of the chapter in plain form, printed. Conditions: none. -/
import Derived.Test.YtfkndbihfdjinaaU2
set_option linter.unusedVariables false
set_option linter.unusedSimpArgs false
set_option maxRecDepth 10000
namespace Go.Proofs.YtfkndbihfdjinaaS
open Go Go.Proofs
noncomputable def E3 (N : Nat) : Env := ((((((E2 N).add 12 f12O).add 20 f20O).add 22 f22O).add 23 f23O).add 27 f27O).add 28 f28O
theorem E3_ok (N : Nat) : (E3 N).Ok := ((((((E2_ok N).add f12_spec).add f20_spec).add f22_spec).add f23_spec).add f27_spec).add f28_spec
set_option maxHeartbeats 4000000
structure f11o where
  r0 ::
  (y1 : Int)
noncomputable def f11W (o : f11o) : Res := (fun y1 => Res.pv (PV.int IntKind.i64 y1)) o.y1
noncomputable def f11t0 (x0 : S42) (x1 : Int) : Tr f11o := (.test (decide (x1 < (0 : Int))) (.ret (.r0 ((-1 : Int)))) (.test (decide (x1 ≥ x0.a1)) (.ret (.r0 ((-1 : Int)))) (.test ((f20 (0 : Nat) x0).isSome) (.ret (.r0 (IntKind.i64.wrap (x1 * ((f20 (0 : Nat) x0).getD f20d).y1)))) .fail)))
noncomputable def f11 (N : Nat) (x0 : S42) (x1 : Int) : Option f11o := Tr.run (f11t0 x0 x1)
theorem f11_run (N : Nat) (x0 : S42) (x1 : Int) : (evRes (E3 N) (100 : Nat) (11 : Nat) [(S42v x0), PV.int IntKind.i64 x1]).run = (f11 N x0 x1).map f11W := (Tr.run_of (g := (f11t0 x0 x1)) (f := f11W) (by kernel_rfl))
def f11s : List PK := [S42k, (false, [K.int .i64])]
noncomputable def f11a (ps : List PV) : Option f11o := f11 0 (S42r (ps.headD PV.undef)) (pInt (ps.tail.headD PV.undef))
noncomputable def f11d : f11o := ⟨0⟩
noncomputable def f11O : Ora := ⟨fun ps => okPs f11s ps && (f11a ps).isSome, fun ps => (f11W ((f11a ps).getD f11d)).plain⟩
theorem f11_spec : Spec Try.prog 11 f11O := spec_at 100 f11s (fun ps => (f11a ps).isSome) _ mixed fun ps hm hs hp => by
  cases h : f11a ps with
  | none => rw [h] at hp; cases hp
  | some o =>

    refine ⟨E3 0, f11W o, rfl, E3_ok 0, ?_, .inr ?_⟩
    · rw [show canPs f11s ps = [S42v (S42r (ps.headD PV.undef)), PV.int IntKind.i64 (pInt (ps.tail.headD PV.undef))] from by kernel_rfl, f11_run 0]
      show (f11a ps).map f11W = _
      rw [h]; rfl
    · rfl
structure f18o where
  r0 ::
  (y1 : Int)
noncomputable def f18W (o : f18o) : Res := (fun y1 => Res.pv (PV.int IntKind.i64 y1)) o.y1
noncomputable def f18t0 (x0 : S42) : Tr f18o := (.test ((f20 (0 : Nat) x0).isSome) (.ret (.r0 (IntKind.i64.wrap (IntKind.i64.wrap (x0.a1 * ((f20 (0 : Nat) x0).getD f20d).y1) + IntKind.i64.wrap ((2 : Int) * x0.a0))))) .fail)
noncomputable def f18 (N : Nat) (x0 : S42) : Option f18o := Tr.run (f18t0 x0)
theorem f18_run (N : Nat) (x0 : S42) : (evRes (E3 N) (100 : Nat) (18 : Nat) [(S42v x0)]).run = (f18 N x0).map f18W := (Tr.run_of (g := (f18t0 x0)) (f := f18W) (by kernel_rfl))
def f18s : List PK := [S42k]
noncomputable def f18a (ps : List PV) : Option f18o := f18 0 (S42r (ps.headD PV.undef))
noncomputable def f18d : f18o := ⟨0⟩
noncomputable def f18O : Ora := ⟨fun ps => okPs f18s ps && (f18a ps).isSome, fun ps => (f18W ((f18a ps).getD f18d)).plain⟩
theorem f18_spec : Spec Try.prog 18 f18O := spec_at 100 f18s (fun ps => (f18a ps).isSome) _ mixed fun ps hm hs hp => by
  cases h : f18a ps with
  | none => rw [h] at hp; cases hp
  | some o =>

    refine ⟨E3 0, f18W o, rfl, E3_ok 0, ?_, .inr ?_⟩
    · rw [show canPs f18s ps = [S42v (S42r (ps.headD PV.undef))] from by kernel_rfl, f18_run 0]
      show (f18a ps).map f18W = _
      rw [h]; rfl
    · rfl
structure f21o where
  r0 ::
  (y1 : Int) (y2 : Int) (y3 : Int)
noncomputable def f21W (o : f21o) : Res := (fun y1 y2 y3 => Res.pv (PV.tup [PV.agg [PV.int IntKind.i64 y1, PV.int IntKind.i64 y2], PV.int IntKind.i64 y3])) o.y1 o.y2 o.y3
noncomputable def f21t0 (x0 : S38) : Tr f21o := (.test ((f28 (0 : Nat) { a0 := x0.a0, a1 := x0.a1, a2 := x0.a2, a3 := x0.a3, a4 := x0.a4, a5 := x0.a5, a6 := x0.a6, a7 := x0.a7, a8 := x0.a8, a9 := x0.a9, a10 := x0.a10, a11 := x0.a11 } x0.a17).isSome) (.test ((f30 (0 : Nat) { a0 := x0.a14, a1 := x0.a15 } ((f28 (0 : Nat) { a0 := x0.a0, a1 := x0.a1, a2 := x0.a2, a3 := x0.a3, a4 := x0.a4, a5 := x0.a5, a6 := x0.a6, a7 := x0.a7, a8 := x0.a8, a9 := x0.a9, a10 := x0.a10, a11 := x0.a11 } x0.a17).getD f28d).y1).isSome) (.test (decide (x0.a20.length < (1000000 : Nat))) (.ret (.r0 (((f30 (0 : Nat) { a0 := x0.a14, a1 := x0.a15 } ((f28 (0 : Nat) { a0 := x0.a0, a1 := x0.a1, a2 := x0.a2, a3 := x0.a3, a4 := x0.a4, a5 := x0.a5, a6 := x0.a6, a7 := x0.a7, a8 := x0.a8, a9 := x0.a9, a10 := x0.a10, a11 := x0.a11 } x0.a17).getD f28d).y1).getD f30d).y1) (allOf x0.a20 ((f30 (0 : Nat) { a0 := x0.a14, a1 := x0.a15 } ((f28 (0 : Nat) { a0 := x0.a0, a1 := x0.a1, a2 := x0.a2, a3 := x0.a3, a4 := x0.a4, a5 := x0.a5, a6 := x0.a6, a7 := x0.a7, a8 := x0.a8, a9 := x0.a9, a10 := x0.a10, a11 := x0.a11 } x0.a17).getD f28d).y1).getD f30d).y1 x0.a9 x0.a10) (((f30 (0 : Nat) { a0 := x0.a14, a1 := x0.a15 } ((f28 (0 : Nat) { a0 := x0.a0, a1 := x0.a1, a2 := x0.a2, a3 := x0.a3, a4 := x0.a4, a5 := x0.a5, a6 := x0.a6, a7 := x0.a7, a8 := x0.a8, a9 := x0.a9, a10 := x0.a10, a11 := x0.a11 } x0.a17).getD f28d).y1).getD f30d).y2))) .fail) .fail) .fail)
noncomputable def f21 (N : Nat) (x0 : S38) : Option f21o := Tr.run (f21t0 x0)
theorem f21_run (N : Nat) (x0 : S38) : (evRes (E3 N) (100 : Nat) (21 : Nat) [(S38v x0)]).run = (f21 N x0).map f21W := (Tr.run_of (g := (f21t0 x0)) (f := f21W) (by kernel_rfl))
def f21s : List PK := [S38k]
noncomputable def f21a (ps : List PV) : Option f21o := f21 0 (S38r (ps.headD PV.undef))
noncomputable def f21d : f21o := ⟨0, 0, 0⟩
noncomputable def f21O : Ora := ⟨fun ps => okPs f21s ps && (f21a ps).isSome, fun ps => (f21W ((f21a ps).getD f21d)).plain⟩
theorem f21_spec : Spec Try.prog 21 f21O := spec_at 100 f21s (fun ps => (f21a ps).isSome) _ mixed fun ps hm hs hp => by
  cases h : f21a ps with
  | none => rw [h] at hp; cases hp
  | some o =>

    refine ⟨E3 0, f21W o, rfl, E3_ok 0, ?_, .inr ?_⟩
    · rw [show canPs f21s ps = [S38v (S38r (ps.headD PV.undef))] from by kernel_rfl, f21_run 0]
      show (f21a ps).map f21W = _
      rw [h]; rfl
    · rfl
abbrev f24o := S38
noncomputable def f24W (o : f24o) : Res := Res.pv (S38v o)
def f24rs : List PK := [(true, [K.int .i64, K.int .i64, K.int .i64, K.int .i64, K.int .i64, K.int .i64, K.int .i64, K.int .i64, K.bool, K.int .i64, K.int .i64, K.int .i64, K.int .i64, K.int .i64, K.list 3, K.list 30, K.int .i64, K.int .i64, K.int .i64, K.int .i64, K.list 51, K.list 94, K.list 3, K.int .i64, K.int .i64, K.int .i64, K.int .i64, K.int .i64, K.int .i64, K.int .i64, K.int .i64, K.int .i64, K.int .i64, K.list 3, K.int .i64, K.list 49, K.bool])]
noncomputable def f24t0 (x0 : S38) : Tr f24o := (.test ((f28 (0 : Nat) { a0 := x0.a0, a1 := x0.a1, a2 := x0.a2, a3 := x0.a3, a4 := x0.a4, a5 := x0.a5, a6 := x0.a6, a7 := x0.a7, a8 := x0.a8, a9 := x0.a9, a10 := x0.a10, a11 := x0.a11 } x0.a17).isSome) (.test ((f35 (0 : Nat) { a0 := x0.a14, a1 := x0.a15 } ((f28 (0 : Nat) { a0 := x0.a0, a1 := x0.a1, a2 := x0.a2, a3 := x0.a3, a4 := x0.a4, a5 := x0.a5, a6 := x0.a6, a7 := x0.a7, a8 := x0.a8, a9 := x0.a9, a10 := x0.a10, a11 := x0.a11 } x0.a17).getD f28d).y1 x0.a30 x0.a31).isSome) (.test (((f35 (0 : Nat) { a0 := x0.a14, a1 := x0.a15 } ((f28 (0 : Nat) { a0 := x0.a0, a1 := x0.a1, a2 := x0.a2, a3 := x0.a3, a4 := x0.a4, a5 := x0.a5, a6 := x0.a6, a7 := x0.a7, a8 := x0.a8, a9 := x0.a9, a10 := x0.a10, a11 := x0.a11 } x0.a17).getD f28d).y1 x0.a30 x0.a31).getD f35d).y4 != (0 : Int)) (.ret (.mk (x0.a0) (x0.a1) (x0.a2) (x0.a3) (x0.a4) (x0.a5) (x0.a6) (x0.a7) (x0.a8) (x0.a9) (x0.a10) (x0.a11) (x0.a12) (x0.a13) (x0.a14) (x0.a15) (x0.a16) (x0.a17) (x0.a18) (x0.a19) (x0.a20) (x0.a21) (x0.a22) (x0.a23) (x0.a24) (x0.a25) (x0.a26) (x0.a27) (x0.a28) (x0.a29) (x0.a30) (x0.a31) (x0.a32) (x0.a33) (x0.a34) (x0.a35) (x0.a36))) (.test (((f35 (0 : Nat) { a0 := x0.a14, a1 := x0.a15 } ((f28 (0 : Nat) { a0 := x0.a0, a1 := x0.a1, a2 := x0.a2, a3 := x0.a3, a4 := x0.a4, a5 := x0.a5, a6 := x0.a6, a7 := x0.a7, a8 := x0.a8, a9 := x0.a9, a10 := x0.a10, a11 := x0.a11 } x0.a17).getD f28d).y1 x0.a30 x0.a31).getD f35d).y3) (.test (pre22 { a0 := x0.a0, a1 := x0.a1, a2 := x0.a2, a3 := x0.a3, a4 := x0.a4, a5 := x0.a5, a6 := x0.a6, a7 := x0.a7, a8 := x0.a8, a9 := x0.a9, a10 := x0.a10, a11 := x0.a11, a12 := x0.a12, a13 := x0.a13, a14 := ((f35 (0 : Nat) { a0 := x0.a14, a1 := x0.a15 } ((f28 (0 : Nat) { a0 := x0.a0, a1 := x0.a1, a2 := x0.a2, a3 := x0.a3, a4 := x0.a4, a5 := x0.a5, a6 := x0.a6, a7 := x0.a7, a8 := x0.a8, a9 := x0.a9, a10 := x0.a10, a11 := x0.a11 } x0.a17).getD f28d).y1 x0.a30 x0.a31).getD f35d).y1, a15 := ((f35 (0 : Nat) { a0 := x0.a14, a1 := x0.a15 } ((f28 (0 : Nat) { a0 := x0.a0, a1 := x0.a1, a2 := x0.a2, a3 := x0.a3, a4 := x0.a4, a5 := x0.a5, a6 := x0.a6, a7 := x0.a7, a8 := x0.a8, a9 := x0.a9, a10 := x0.a10, a11 := x0.a11 } x0.a17).getD f28d).y1 x0.a30 x0.a31).getD f35d).y2, a16 := x0.a16, a17 := x0.a17, a18 := x0.a18, a19 := x0.a19, a20 := x0.a20, a21 := x0.a21, a22 := x0.a22, a23 := x0.a23, a24 := x0.a24, a25 := x0.a25, a26 := x0.a26, a27 := x0.a27, a28 := x0.a28, a29 := x0.a29, a30 := x0.a30, a31 := x0.a31, a32 := x0.a32, a33 := x0.a33, a34 := x0.a34, a35 := x0.a35, a36 := x0.a36 }) (.ret (commitR { a0 := x0.a0, a1 := x0.a1, a2 := x0.a2, a3 := x0.a3, a4 := x0.a4, a5 := x0.a5, a6 := x0.a6, a7 := x0.a7, a8 := x0.a8, a9 := x0.a9, a10 := x0.a10, a11 := x0.a11, a12 := x0.a12, a13 := x0.a13, a14 := ((f35 (0 : Nat) { a0 := x0.a14, a1 := x0.a15 } ((f28 (0 : Nat) { a0 := x0.a0, a1 := x0.a1, a2 := x0.a2, a3 := x0.a3, a4 := x0.a4, a5 := x0.a5, a6 := x0.a6, a7 := x0.a7, a8 := x0.a8, a9 := x0.a9, a10 := x0.a10, a11 := x0.a11 } x0.a17).getD f28d).y1 x0.a30 x0.a31).getD f35d).y1, a15 := ((f35 (0 : Nat) { a0 := x0.a14, a1 := x0.a15 } ((f28 (0 : Nat) { a0 := x0.a0, a1 := x0.a1, a2 := x0.a2, a3 := x0.a3, a4 := x0.a4, a5 := x0.a5, a6 := x0.a6, a7 := x0.a7, a8 := x0.a8, a9 := x0.a9, a10 := x0.a10, a11 := x0.a11 } x0.a17).getD f28d).y1 x0.a30 x0.a31).getD f35d).y2, a16 := x0.a16, a17 := x0.a17, a18 := x0.a18, a19 := x0.a19, a20 := x0.a20, a21 := x0.a21, a22 := x0.a22, a23 := x0.a23, a24 := x0.a24, a25 := x0.a25, a26 := x0.a26, a27 := x0.a27, a28 := x0.a28, a29 := x0.a29, a30 := x0.a30, a31 := x0.a31, a32 := x0.a32, a33 := x0.a33, a34 := x0.a34, a35 := x0.a35, a36 := x0.a36 } x0.a30)) .fail) (.test (decide (x0.a28 < x0.a5)) (.ret (.mk (x0.a0) (x0.a1) (x0.a2) (x0.a3) (x0.a4) (x0.a5) (x0.a6) (x0.a7) (x0.a8) (x0.a9) (x0.a10) (x0.a11) (x0.a12) (x0.a13) (x0.a14) (x0.a15) ((2 : Int)) (x0.a17) (x0.a18) (x0.a19) (x0.a20) (x0.a21) (x0.a22) (x0.a23) (x0.a24) (x0.a25) (x0.a26) (x0.a27) (if x0.a5 < IntKind.i64.wrap (x0.a28 * (2 : Int)) then x0.a5 else IntKind.i64.wrap (x0.a28 * (2 : Int))) (x0.a29) (x0.a30) (x0.a31) (x0.a32) (x0.a33) (x0.a34) (x0.a35) (x0.a36))) (.ret (.mk (x0.a0) (x0.a1) (x0.a2) (x0.a3) (x0.a4) (x0.a5) (x0.a6) (x0.a7) (x0.a8) (x0.a9) (x0.a10) (x0.a11) (x0.a12) (x0.a13) (x0.a14) (x0.a15) ((2 : Int)) (x0.a17) (x0.a18) (x0.a19) (x0.a20) (x0.a21) (x0.a22) (x0.a23) (x0.a24) (x0.a25) (x0.a26) (x0.a27) (if x0.a5 < x0.a28 then x0.a5 else x0.a28) (x0.a29) (x0.a30) (x0.a31) (x0.a32) (x0.a33) (x0.a34) (x0.a35) (x0.a36)))))) .fail) .fail)
noncomputable def f24 (N : Nat) (x0 : S38) : Option f24o := Tr.run (f24t0 x0)
theorem f24_run (N : Nat) (x0 : S38) : (evFit f24rs (evRes (E3 N) (100 : Nat) (24 : Nat) [(S38v x0)])).run = (f24 N x0).map f24W := (Tr.run_of (g := (f24t0 x0)) (f := f24W) (by kernel_rfl))
def f24s : List PK := [S38k]
noncomputable def f24a (ps : List PV) : Option f24o := f24 0 (S38r (ps.headD PV.undef))
noncomputable def f24d : f24o := ⟨0, 0, 0, 0, 0, 0, 0, 0, false, 0, 0, 0, 0, 0, [], [], 0, 0, 0, 0, [], [], [], 0, 0, 0, 0, 0, 0, 0, 0, 0, 0, [], 0, [], false⟩
noncomputable def f24O : Ora := ⟨fun ps => okPs f24s ps && (f24a ps).isSome, fun ps => (f24W ((f24a ps).getD f24d)).plain⟩
theorem f24_spec : Spec Try.prog 24 f24O := spec_fit 100 f24rs f24s (fun ps => (f24a ps).isSome) _ mixed fun ps hm hs hp => by
  cases h : f24a ps with
  | none => rw [h] at hp; cases hp
  | some o =>

    refine ⟨E3 0, f24W o, rfl, E3_ok 0, ?_, .inr ?_⟩
    · rw [show canPs f24s ps = [S38v (S38r (ps.headD PV.undef))] from by kernel_rfl, f24_run 0]
      show (f24a ps).map f24W = _
      rw [h]; rfl
    · rfl
end Go.Proofs.YtfkndbihfdjinaaS
