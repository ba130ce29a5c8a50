/- More functions of the chapter in plain form, printed. Conditions: none. -/
import Derived.Test.YtjoebchkchoomaaU3
set_option linter.unusedVariables false
set_option linter.unusedSimpArgs false
set_option maxRecDepth 10000
namespace Go.Proofs.YtjoebchkchoomaaS
open Go Go.Proofs
noncomputable def E4 (N : Nat) : Env := ((((((((((E3 N).add 13 f13O).add 19 f19O).add 20 f20O).add 25 f25O).add 27 f27O).add 29 f29O).add 30 f30O).add 31 f31O).add 32 f32O).add 40 f40O
theorem E4_ok (N : Nat) : (E4 N).Ok := ((((((((((E3_ok N).add f13_spec).add f19_spec).add f20_spec).add f25_spec).add f27_spec).add f29_spec).add f30_spec).add f31_spec).add f32_spec).add f40_spec
set_option maxHeartbeats 4000000
structure f9o where
  r0 ::
  (y1 : Bool)
noncomputable def f9W (o : f9o) : Res := (fun y1 => Res.pv (PV.bool y1)) o.y1
noncomputable def f9t0 (x0 : S38) : Tr f9o := (.test ((f26 (0 : Nat) { a0 := x0.a0, a1 := x0.a1, a2 := x0.a2, a3 := x0.a3, a4 := x0.a4, a5 := x0.a5, a6 := x0.a6, a7 := x0.a7, a8 := x0.a8, a9 := x0.a9, a10 := x0.a10, a11 := x0.a11 }).isSome) (.test (((f26 (0 : Nat) { a0 := x0.a0, a1 := x0.a1, a2 := x0.a2, a3 := x0.a3, a4 := x0.a4, a5 := x0.a5, a6 := x0.a6, a7 := x0.a7, a8 := x0.a8, a9 := x0.a9, a10 := x0.a10, a11 := x0.a11 }).getD f26d).y1 == (0 : Int)) (.test (decide (x0.a12 ≥ (0 : Int))) (.test (decide (x0.a12 < x0.a0)) (.test ((f27 (0 : Nat) { a0 := x0.a0, a1 := x0.a1, a2 := x0.a2, a3 := x0.a3, a4 := x0.a4, a5 := x0.a5, a6 := x0.a6, a7 := x0.a7, a8 := x0.a8, a9 := x0.a9, a10 := x0.a10, a11 := x0.a11 }).isSome) (.test ((↑x0.a14.length : Int) == ((f27 (0 : Nat) { a0 := x0.a0, a1 := x0.a1, a2 := x0.a2, a3 := x0.a3, a4 := x0.a4, a5 := x0.a5, a6 := x0.a6, a7 := x0.a7, a8 := x0.a8, a9 := x0.a9, a10 := x0.a10, a11 := x0.a11 }).getD f27d).y1) (.test ((↑x0.a15.length : Int) == x0.a0) (.test (decide (x0.a17 ≥ (0 : Int))) (.ret (.r0 (decide (x0.a17 < x0.a1)))) (.ret (.r0 (false)))) (.ret (.r0 (false)))) (.ret (.r0 (false)))) .fail) (.ret (.r0 (false)))) (.ret (.r0 (false)))) (.ret (.r0 (false)))) .fail)
noncomputable def f9 (N : Nat) (x0 : S38) : Option f9o := Tr.run (f9t0 x0)
theorem f9_run (N : Nat) (x0 : S38) : (evRes (E4 N) (100 : Nat) (9 : Nat) [(S38v x0)]).run = (f9 N x0).map f9W := (Tr.run_of (g := (f9t0 x0)) (f := f9W) (by kernel_rfl))
def f9s : List PK := [S38k]
noncomputable def f9a (ps : List PV) : Option f9o := f9 0 (S38r (ps.headD PV.undef))
noncomputable def f9d : f9o := ⟨false⟩
noncomputable def f9O : Ora := ⟨fun ps => okPs f9s ps && (f9a ps).isSome, fun ps => (f9W ((f9a ps).getD f9d)).plain⟩
theorem f9_spec : Spec Try.prog 9 f9O := spec_at 100 f9s (fun ps => (f9a ps).isSome) _ mixed fun ps hm hs hp => by
  cases h : f9a ps with
  | none => rw [h] at hp; cases hp
  | some o =>

    refine ⟨E4 0, f9W o, rfl, E4_ok 0, ?_, .inr ?_⟩
    · rw [show canPs f9s ps = [S38v (S38r (ps.headD PV.undef))] from by kernel_rfl, f9_run 0]
      show (f9a ps).map f9W = _
      rw [h]; rfl
    · rfl
structure f14o where
  r0 ::
  (y1 : Bool)
noncomputable def f14W (o : f14o) : Res := (fun y1 => Res.pv (PV.bool y1)) o.y1
noncomputable def f14t0 (x0 : S55) (x1 : S55) : Tr f14o := (.test (x0.a0 == x1.a0 && (x0.a1 == x1.a1 && (x0.a2 == x1.a2 && (x0.a3 == x1.a3 && (x0.a4 == x1.a4 && (x0.a5 == x1.a5 && (x0.a6 == x1.a6 && (x0.a7 == x1.a7 && (x0.a8 == x1.a8 && (x0.a9 == x1.a9 && (x0.a10 == x1.a10 && (x0.a11 == x1.a11 && true)))))))))))) (.test (x0.a12 == x1.a12) (.test (x0.a13 == x1.a13) (.test (pre20 { a0 := x0.a14, a1 := x0.a15 }) (.test (same20 { a0 := x0.a14, a1 := x0.a15 } { a0 := x1.a14, a1 := x1.a15 }) (.test (preT { a0 := x0.a16, a1 := x0.a17, a2 := x0.a18, a3 := x0.a19, a4 := x0.a20, a5 := x0.a21, a6 := x0.a22, a7 := x0.a23, a8 := x0.a24, a9 := x0.a25, a10 := x0.a26, a11 := x0.a27, a12 := x0.a28, a13 := x0.a29, a14 := x0.a30, a15 := x0.a31, a16 := x0.a32 } { a0 := x1.a16, a1 := x1.a17, a2 := x1.a18, a3 := x1.a19, a4 := x1.a20, a5 := x1.a21, a6 := x1.a22, a7 := x1.a23, a8 := x1.a24, a9 := x1.a25, a10 := x1.a26, a11 := x1.a27, a12 := x1.a28, a13 := x1.a29, a14 := x1.a30, a15 := x1.a31, a16 := x1.a32 }) (.test (sameT { a0 := x0.a16, a1 := x0.a17, a2 := x0.a18, a3 := x0.a19, a4 := x0.a20, a5 := x0.a21, a6 := x0.a22, a7 := x0.a23, a8 := x0.a24, a9 := x0.a25, a10 := x0.a26, a11 := x0.a27, a12 := x0.a28, a13 := x0.a29, a14 := x0.a30, a15 := x0.a31, a16 := x0.a32 } { a0 := x1.a16, a1 := x1.a17, a2 := x1.a18, a3 := x1.a19, a4 := x1.a20, a5 := x1.a21, a6 := x1.a22, a7 := x1.a23, a8 := x1.a24, a9 := x1.a25, a10 := x1.a26, a11 := x1.a27, a12 := x1.a28, a13 := x1.a29, a14 := x1.a30, a15 := x1.a31, a16 := x1.a32 }) (.test (decide (x0.a33.length ≤ huge)) (.test (tapeS { a0 := x0.a33, a1 := x0.a34 } { a0 := x1.a33, a1 := x1.a34 }) (.test (decide (x0.a35.length ≤ huge)) (.test (alike same6 x0.a35 x1.a35) (.ret (.r0 (x0.a36 == x1.a36))) (.ret (.r0 (false)))) .fail) (.ret (.r0 (false)))) .fail) (.ret (.r0 (false)))) .fail) (.ret (.r0 (false)))) .fail) (.ret (.r0 (false)))) (.ret (.r0 (false)))) (.ret (.r0 (false))))
noncomputable def f14 (N : Nat) (x0 : S55) (x1 : S55) : Option f14o := Tr.run (f14t0 x0 x1)
theorem f14_run (N : Nat) (x0 : S55) (x1 : S55) : (evRes (E4 N) (100 : Nat) (14 : Nat) [(S55v x0), (S55v x1)]).run = (f14 N x0 x1).map f14W := (Tr.run_of (g := (f14t0 x0 x1)) (f := f14W) (by kernel_rfl))
def f14s : List PK := [S55k, S55k]
noncomputable def f14a (ps : List PV) : Option f14o := f14 0 (S55r (ps.headD PV.undef)) (S55r (ps.tail.headD PV.undef))
noncomputable def f14d : f14o := ⟨false⟩
noncomputable def f14O : Ora := ⟨fun ps => okPs f14s ps && (f14a ps).isSome, fun ps => (f14W ((f14a ps).getD f14d)).plain⟩
theorem f14_spec : Spec Try.prog 14 f14O := spec_at 100 f14s (fun ps => (f14a ps).isSome) _ mixed fun ps hm hs hp => by
  cases h : f14a ps with
  | none => rw [h] at hp; cases hp
  | some o =>

    refine ⟨E4 0, f14W o, rfl, E4_ok 0, ?_, .inr ?_⟩
    · rw [show canPs f14s ps = [S55v (S55r (ps.headD PV.undef)), S55v (S55r (ps.tail.headD PV.undef))] from by kernel_rfl, f14_run 0]
      show (f14a ps).map f14W = _
      rw [h]; rfl
    · rfl
abbrev f35o := S55
noncomputable def f35W (o : f35o) : Res := Res.pv (S55v o)
def f35rs : List PK := [(true, [K.int .i64, K.int .i64, K.int .i64, K.int .i64, K.int .i64, K.int .i64, K.int .i64, K.int .i64, K.bool, K.int .i64, K.int .i64, K.int .i64, K.int .i64, K.int .i64, K.list 3, K.list 48, K.int .i64, K.int .i64, K.int .i64, K.int .i64, K.list 96, K.list 113, K.list 3, K.int .i64, K.int .i64, K.int .i64, K.int .i64, K.int .i64, K.int .i64, K.int .i64, K.int .i64, K.int .i64, K.int .i64, K.list 3, K.int .i64, K.list 119, K.bool])]
noncomputable def f35t0 (x0 : S55) : Tr f35o := (.test (decide ((0 : Int) ≤ x0.a25) && decide (x0.a25 < (↑x0.a21.length : Int))) (.test (x0.a16 == (15 : Int)) (.test ((f19 (0 : Nat) { a0 := x0.a0, a1 := x0.a1, a2 := x0.a2, a3 := x0.a3, a4 := x0.a4, a5 := x0.a5, a6 := x0.a6, a7 := x0.a7, a8 := x0.a8, a9 := x0.a9, a10 := x0.a10, a11 := x0.a11 } (pInt ((x0.a21.getD x0.a25.toNat []).headD PV.undef))).isSome) (.test (decide (x0.a20.length ≤ most)) (.test (decide ((List.take (uptoN x0.a20 (pInt ((x0.a21.getD x0.a25.toNat []).tail.headD PV.undef))) x0.a20).length ≤ huge)) (.test ((f60 (0 : Nat) { a0 := x0.a14, a1 := x0.a15 } ((f19 (0 : Nat) { a0 := x0.a0, a1 := x0.a1, a2 := x0.a2, a3 := x0.a3, a4 := x0.a4, a5 := x0.a5, a6 := x0.a6, a7 := x0.a7, a8 := x0.a8, a9 := x0.a9, a10 := x0.a10, a11 := x0.a11 } (pInt ((x0.a21.getD x0.a25.toNat []).headD PV.undef))).getD f19d).y1 (allR (List.take (uptoN x0.a20 (pInt ((x0.a21.getD x0.a25.toNat []).tail.headD PV.undef))) x0.a20) x0.a30 x0.a9 x0.a10)).isSome) (.test (((f60 (0 : Nat) { a0 := x0.a14, a1 := x0.a15 } ((f19 (0 : Nat) { a0 := x0.a0, a1 := x0.a1, a2 := x0.a2, a3 := x0.a3, a4 := x0.a4, a5 := x0.a5, a6 := x0.a6, a7 := x0.a7, a8 := x0.a8, a9 := x0.a9, a10 := x0.a10, a11 := x0.a11 } (pInt ((x0.a21.getD x0.a25.toNat []).headD PV.undef))).getD f19d).y1 (allR (List.take (uptoN x0.a20 (pInt ((x0.a21.getD x0.a25.toNat []).tail.headD PV.undef))) x0.a20) x0.a30 x0.a9 x0.a10)).getD f60d).y3 == (0 : Int)) (.ret (.mk (x0.a0) (x0.a1) (x0.a2) (x0.a3) (x0.a4) (x0.a5) (x0.a6) (x0.a7) (x0.a8) (x0.a9) (x0.a10) (x0.a11) (x0.a12) (x0.a13) (((f60 (0 : Nat) { a0 := x0.a14, a1 := x0.a15 } ((f19 (0 : Nat) { a0 := x0.a0, a1 := x0.a1, a2 := x0.a2, a3 := x0.a3, a4 := x0.a4, a5 := x0.a5, a6 := x0.a6, a7 := x0.a7, a8 := x0.a8, a9 := x0.a9, a10 := x0.a10, a11 := x0.a11 } (pInt ((x0.a21.getD x0.a25.toNat []).headD PV.undef))).getD f19d).y1 (allR (List.take (uptoN x0.a20 (pInt ((x0.a21.getD x0.a25.toNat []).tail.headD PV.undef))) x0.a20) x0.a30 x0.a9 x0.a10)).getD f60d).y1) (((f60 (0 : Nat) { a0 := x0.a14, a1 := x0.a15 } ((f19 (0 : Nat) { a0 := x0.a0, a1 := x0.a1, a2 := x0.a2, a3 := x0.a3, a4 := x0.a4, a5 := x0.a5, a6 := x0.a6, a7 := x0.a7, a8 := x0.a8, a9 := x0.a9, a10 := x0.a10, a11 := x0.a11 } (pInt ((x0.a21.getD x0.a25.toNat []).headD PV.undef))).getD f19d).y1 (allR (List.take (uptoN x0.a20 (pInt ((x0.a21.getD x0.a25.toNat []).tail.headD PV.undef))) x0.a20) x0.a30 x0.a9 x0.a10)).getD f60d).y2) ((16 : Int)) (x0.a17) (x0.a18) (x0.a19) (x0.a20) (x0.a21) (x0.a22) (x0.a23) (x0.a24) (x0.a25) (x0.a26) (x0.a27) (x0.a28) (x0.a29) (x0.a30) (x0.a31) (x0.a32) (x0.a33) (x0.a34) (x0.a35) (x0.a36))) (.ret (.mk (x0.a0) (x0.a1) (x0.a2) (x0.a3) (x0.a4) (x0.a5) (x0.a6) (x0.a7) (x0.a8) (x0.a9) (x0.a10) (x0.a11) (x0.a12) (x0.a13) (x0.a14) (x0.a15) (x0.a16) (x0.a17) (x0.a18) (x0.a19) (x0.a20) (x0.a21) (x0.a22) (x0.a23) (x0.a24) (x0.a25) (x0.a26) (x0.a27) (x0.a28) (x0.a29) (x0.a30) (x0.a31) (x0.a32) (x0.a33) (x0.a34) (x0.a35) (x0.a36)))) .fail) .fail) .fail) .fail) (.test ((f20 (0 : Nat) { a0 := x0.a0, a1 := x0.a1, a2 := x0.a2, a3 := x0.a3, a4 := x0.a4, a5 := x0.a5, a6 := x0.a6, a7 := x0.a7, a8 := x0.a8, a9 := x0.a9, a10 := x0.a10, a11 := x0.a11 } (pInt ((x0.a21.getD x0.a25.toNat []).headD PV.undef))).isSome) (.test ((f60 (0 : Nat) { a0 := x0.a14, a1 := x0.a15 } ((f20 (0 : Nat) { a0 := x0.a0, a1 := x0.a1, a2 := x0.a2, a3 := x0.a3, a4 := x0.a4, a5 := x0.a5, a6 := x0.a6, a7 := x0.a7, a8 := x0.a8, a9 := x0.a9, a10 := x0.a10, a11 := x0.a11 } (pInt ((x0.a21.getD x0.a25.toNat []).headD PV.undef))).getD f20d).y1 (5 : Int)).isSome) (.test (((f60 (0 : Nat) { a0 := x0.a14, a1 := x0.a15 } ((f20 (0 : Nat) { a0 := x0.a0, a1 := x0.a1, a2 := x0.a2, a3 := x0.a3, a4 := x0.a4, a5 := x0.a5, a6 := x0.a6, a7 := x0.a7, a8 := x0.a8, a9 := x0.a9, a10 := x0.a10, a11 := x0.a11 } (pInt ((x0.a21.getD x0.a25.toNat []).headD PV.undef))).getD f20d).y1 (5 : Int)).getD f60d).y3 != (0 : Int)) (.ret (.mk (x0.a0) (x0.a1) (x0.a2) (x0.a3) (x0.a4) (x0.a5) (x0.a6) (x0.a7) (x0.a8) (x0.a9) (x0.a10) (x0.a11) (x0.a12) (x0.a13) (x0.a14) (x0.a15) (x0.a16) (x0.a17) (x0.a18) (x0.a19) (x0.a20) (x0.a21) (x0.a22) (x0.a23) (x0.a24) (x0.a25) (x0.a26) (x0.a27) (x0.a28) (x0.a29) (x0.a30) (x0.a31) (x0.a32) (x0.a33) (x0.a34) (x0.a35) (x0.a36))) (.test ((f16 (0 : Nat) { a0 := x0.a0, a1 := x0.a1, a2 := x0.a2, a3 := x0.a3, a4 := x0.a4, a5 := x0.a5, a6 := x0.a6, a7 := x0.a7, a8 := x0.a8, a9 := x0.a9, a10 := x0.a10, a11 := x0.a11, a12 := x0.a12, a13 := x0.a13, a14 := ((f60 (0 : Nat) { a0 := x0.a14, a1 := x0.a15 } ((f20 (0 : Nat) { a0 := x0.a0, a1 := x0.a1, a2 := x0.a2, a3 := x0.a3, a4 := x0.a4, a5 := x0.a5, a6 := x0.a6, a7 := x0.a7, a8 := x0.a8, a9 := x0.a9, a10 := x0.a10, a11 := x0.a11 } (pInt ((x0.a21.getD x0.a25.toNat []).headD PV.undef))).getD f20d).y1 (5 : Int)).getD f60d).y1, a15 := ((f60 (0 : Nat) { a0 := x0.a14, a1 := x0.a15 } ((f20 (0 : Nat) { a0 := x0.a0, a1 := x0.a1, a2 := x0.a2, a3 := x0.a3, a4 := x0.a4, a5 := x0.a5, a6 := x0.a6, a7 := x0.a7, a8 := x0.a8, a9 := x0.a9, a10 := x0.a10, a11 := x0.a11 } (pInt ((x0.a21.getD x0.a25.toNat []).headD PV.undef))).getD f20d).y1 (5 : Int)).getD f60d).y2, a16 := x0.a16, a17 := x0.a17, a18 := x0.a18, a19 := x0.a19, a20 := x0.a20, a21 := x0.a21, a22 := x0.a22, a23 := x0.a23, a24 := x0.a24, a25 := IntKind.i64.wrap (x0.a25 + (1 : Int)), a26 := x0.a26, a27 := x0.a27, a28 := x0.a28, a29 := x0.a29, a30 := x0.a30, a31 := x0.a31, a32 := x0.a32, a33 := x0.a33, a34 := x0.a34, a35 := x0.a35, a36 := x0.a36 }).isSome) (.ret ((f16 (0 : Nat) { a0 := x0.a0, a1 := x0.a1, a2 := x0.a2, a3 := x0.a3, a4 := x0.a4, a5 := x0.a5, a6 := x0.a6, a7 := x0.a7, a8 := x0.a8, a9 := x0.a9, a10 := x0.a10, a11 := x0.a11, a12 := x0.a12, a13 := x0.a13, a14 := ((f60 (0 : Nat) { a0 := x0.a14, a1 := x0.a15 } ((f20 (0 : Nat) { a0 := x0.a0, a1 := x0.a1, a2 := x0.a2, a3 := x0.a3, a4 := x0.a4, a5 := x0.a5, a6 := x0.a6, a7 := x0.a7, a8 := x0.a8, a9 := x0.a9, a10 := x0.a10, a11 := x0.a11 } (pInt ((x0.a21.getD x0.a25.toNat []).headD PV.undef))).getD f20d).y1 (5 : Int)).getD f60d).y1, a15 := ((f60 (0 : Nat) { a0 := x0.a14, a1 := x0.a15 } ((f20 (0 : Nat) { a0 := x0.a0, a1 := x0.a1, a2 := x0.a2, a3 := x0.a3, a4 := x0.a4, a5 := x0.a5, a6 := x0.a6, a7 := x0.a7, a8 := x0.a8, a9 := x0.a9, a10 := x0.a10, a11 := x0.a11 } (pInt ((x0.a21.getD x0.a25.toNat []).headD PV.undef))).getD f20d).y1 (5 : Int)).getD f60d).y2, a16 := x0.a16, a17 := x0.a17, a18 := x0.a18, a19 := x0.a19, a20 := x0.a20, a21 := x0.a21, a22 := x0.a22, a23 := x0.a23, a24 := x0.a24, a25 := IntKind.i64.wrap (x0.a25 + (1 : Int)), a26 := x0.a26, a27 := x0.a27, a28 := x0.a28, a29 := x0.a29, a30 := x0.a30, a31 := x0.a31, a32 := x0.a32, a33 := x0.a33, a34 := x0.a34, a35 := x0.a35, a36 := x0.a36 }).getD f16d)) .fail)) .fail) .fail)) .fail)
noncomputable def f35 (N : Nat) (x0 : S55) : Option f35o := Tr.run (f35t0 x0)
theorem f35_run (N : Nat) (x0 : S55) : (evFit f35rs (evRes (E4 N) (100 : Nat) (35 : Nat) [(S55v x0)])).run = (f35 N x0).map f35W := (Tr.run_of (g := (f35t0 x0)) (f := f35W) (by kernel_rfl))
def f35s : List PK := [S55k]
noncomputable def f35a (ps : List PV) : Option f35o := f35 0 (S55r (ps.headD PV.undef))
noncomputable def f35d : f35o := ⟨0, 0, 0, 0, 0, 0, 0, 0, false, 0, 0, 0, 0, 0, [], [], 0, 0, 0, 0, [], [], [], 0, 0, 0, 0, 0, 0, 0, 0, 0, 0, [], 0, [], false⟩
noncomputable def f35O : Ora := ⟨fun ps => okPs f35s ps && (f35a ps).isSome, fun ps => (f35W ((f35a ps).getD f35d)).plain⟩
theorem f35_spec : Spec Try.prog 35 f35O := spec_fit 100 f35rs f35s (fun ps => (f35a ps).isSome) _ mixed fun ps hm hs hp => by
  cases h : f35a ps with
  | none => rw [h] at hp; cases hp
  | some o =>

    refine ⟨E4 0, f35W o, rfl, E4_ok 0, ?_, .inr ?_⟩
    · rw [show canPs f35s ps = [S55v (S55r (ps.headD PV.undef))] from by kernel_rfl, f35_run 0]
      show (f35a ps).map f35W = _
      rw [h]; rfl
    · rfl
end Go.Proofs.YtjoebchkchoomaaS
