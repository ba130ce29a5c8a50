/- Functions of the chapter in plain form, printed, with their proofs. Conditions: none. -/
import Derived.Test.YtnpohdnijgkkdaaF0
set_option linter.unusedVariables false
set_option maxRecDepth 10000
namespace Go.Proofs.YtnpohdnijgkkdaaS
open Go Go.Proofs
set_option maxHeartbeats 4000000
structure f9o where
  r0 ::
  (y0 : Int)
noncomputable def f9W (o : f9o) : Res := (fun y0 => Res.pv (PV.int IntKind.i64 y0)) o.y0
noncomputable def f9 (N : Nat) (x0 : S33) : Option f9o := Tr.run (.test (decide (x0.a0 < (1 : Int))) (.ret (.r0 ((50 : Int)))) (.test (decide (x0.a0 > (16 : Int))) (.ret (.r0 ((50 : Int)))) (.test (decide (x0.a1 < (1 : Int))) (.ret (.r0 ((51 : Int)))) (.test (decide (x0.a1 > (4 : Int))) (.ret (.r0 ((51 : Int)))) (.test (decide (x0.a2 < (1 : Int))) (.ret (.r0 ((52 : Int)))) (.test (decide (x0.a2 > (3 : Int))) (.ret (.r0 ((52 : Int)))) (.test (decide (x0.a3 < (0 : Int))) (.ret (.r0 ((53 : Int)))) (.test (decide (x0.a3 > (4 : Int))) (.ret (.r0 ((53 : Int)))) (.test (decide (x0.a4 < (0 : Int))) (.ret (.r0 ((54 : Int)))) (.test (decide (x0.a4 > (3 : Int))) (.ret (.r0 ((54 : Int)))) (.test (decide (x0.a5 < (1 : Int))) (.ret (.r0 ((55 : Int)))) (.test (decide (x0.a5 > (8 : Int))) (.ret (.r0 ((55 : Int)))) (.test (decide (x0.a6 < (0 : Int))) (.ret (.r0 ((56 : Int)))) (.test (decide (x0.a6 > (20 : Int))) (.ret (.r0 ((56 : Int)))) (.test (decide (x0.a7 < (0 : Int))) (.ret (.r0 ((57 : Int)))) (.test (decide (x0.a7 > (1000 : Int))) (.ret (.r0 ((57 : Int)))) (.test (x0.a8) (.test (decide (x0.a9 > x0.a11)) (.ret (.r0 ((58 : Int)))) (.test (decide (x0.a11 > x0.a10)) (.ret (.r0 ((58 : Int)))) (.ret (.r0 ((0 : Int)))))) (.ret (.r0 ((0 : Int)))))))))))))))))))))
theorem f9_run (N : Nat) (x0 : S33) : (evRes (E0 N) (100 : Nat) (9 : Nat) [(S33v x0)]).run = (f9 N x0).map f9W := (Tr.run_of (g := (.test (decide (x0.a0 < (1 : Int))) (.ret (.r0 ((50 : Int)))) (.test (decide (x0.a0 > (16 : Int))) (.ret (.r0 ((50 : Int)))) (.test (decide (x0.a1 < (1 : Int))) (.ret (.r0 ((51 : Int)))) (.test (decide (x0.a1 > (4 : Int))) (.ret (.r0 ((51 : Int)))) (.test (decide (x0.a2 < (1 : Int))) (.ret (.r0 ((52 : Int)))) (.test (decide (x0.a2 > (3 : Int))) (.ret (.r0 ((52 : Int)))) (.test (decide (x0.a3 < (0 : Int))) (.ret (.r0 ((53 : Int)))) (.test (decide (x0.a3 > (4 : Int))) (.ret (.r0 ((53 : Int)))) (.test (decide (x0.a4 < (0 : Int))) (.ret (.r0 ((54 : Int)))) (.test (decide (x0.a4 > (3 : Int))) (.ret (.r0 ((54 : Int)))) (.test (decide (x0.a5 < (1 : Int))) (.ret (.r0 ((55 : Int)))) (.test (decide (x0.a5 > (8 : Int))) (.ret (.r0 ((55 : Int)))) (.test (decide (x0.a6 < (0 : Int))) (.ret (.r0 ((56 : Int)))) (.test (decide (x0.a6 > (20 : Int))) (.ret (.r0 ((56 : Int)))) (.test (decide (x0.a7 < (0 : Int))) (.ret (.r0 ((57 : Int)))) (.test (decide (x0.a7 > (1000 : Int))) (.ret (.r0 ((57 : Int)))) (.test (x0.a8) (.test (decide (x0.a9 > x0.a11)) (.ret (.r0 ((58 : Int)))) (.test (decide (x0.a11 > x0.a10)) (.ret (.r0 ((58 : Int)))) (.ret (.r0 ((0 : Int)))))) (.ret (.r0 ((0 : Int)))))))))))))))))))))) (f := f9W) (by kernel_rfl))
def f9s : List PK := [S33k]
noncomputable def f9a (ps : List PV) : Option f9o := f9 0 (S33r (ps.headD PV.undef))
noncomputable def f9d : f9o := ⟨0⟩
noncomputable def f9O : Ora := ⟨fun ps => okPs f9s ps && (f9a ps).isSome, fun ps => (f9W ((f9a ps).getD f9d)).plain⟩
theorem f9_spec : Spec Try.prog 9 f9O := spec_at 100 f9s (fun ps => (f9a ps).isSome) _ mixed fun ps hm hs hp => by
  cases h : f9a ps with
  | none => rw [h] at hp; cases hp
  | some o =>

    refine ⟨E0 0, f9W o, rfl, E0_ok 0, ?_, .inr ?_⟩
    · rw [show canPs f9s ps = [S33v (S33r (ps.headD PV.undef))] from by kernel_rfl, f9_run 0]
      show (f9a ps).map f9W = _
      rw [h]; rfl
    · rfl
abbrev f15o := S30
noncomputable def f15W (o : f15o) : Res := Res.pv (S30v o)
noncomputable def f15 (N : Nat)  : Option f15o := Tr.run (.ret (.mk ((0 : Int)) ((0 : Int)) ((0 : Int)) ((0 : Int)) ([]) ([]) ([]) ((0 : Int)) ((0 : Int)) ((0 : Int)) ((0 : Int)) ((0 : Int)) ((1 : Int)) ((0 : Int)) ((0 : Int)) ((0 : Int)) ((0 : Int))))
theorem f15_run (N : Nat)  : (evRes (E0 N) (100 : Nat) (15 : Nat) []).run = (f15 N ).map f15W := (Tr.run_of (g := (.ret (.mk ((0 : Int)) ((0 : Int)) ((0 : Int)) ((0 : Int)) ([]) ([]) ([]) ((0 : Int)) ((0 : Int)) ((0 : Int)) ((0 : Int)) ((0 : Int)) ((1 : Int)) ((0 : Int)) ((0 : Int)) ((0 : Int)) ((0 : Int))))) (f := f15W) (by kernel_rfl))
def f15s : List PK := []
noncomputable def f15a (ps : List PV) : Option f15o := f15 0 
noncomputable def f15d : f15o := ⟨0, 0, 0, 0, [], [], [], 0, 0, 0, 0, 0, 0, 0, 0, 0, 0⟩
noncomputable def f15O : Ora := ⟨fun ps => okPs f15s ps && (f15a ps).isSome, fun ps => (f15W ((f15a ps).getD f15d)).plain⟩
theorem f15_spec : Spec Try.prog 15 f15O := spec_at 100 f15s (fun ps => (f15a ps).isSome) _ mixed fun ps hm hs hp => by
  cases h : f15a ps with
  | none => rw [h] at hp; cases hp
  | some o =>

    refine ⟨E0 0, f15W o, rfl, E0_ok 0, ?_, .inr ?_⟩
    · rw [show canPs f15s ps = [] from by kernel_rfl, f15_run 0]
      show (f15a ps).map f15W = _
      rw [h]; rfl
    · rfl
abbrev f16o := S41
noncomputable def f16W (o : f16o) : Res := Res.pv (S41v o)
noncomputable def f16 (N : Nat)  : Option f16o := Tr.run (.ret (.mk ((0 : Int)) ((0 : Int)) ((0 : Int)) ((0 : Int)) ([]) ([]) ([]) ((0 : Int)) ((0 : Int)) ((0 : Int)) ((0 : Int)) ((0 : Int)) ((1 : Int)) ((0 : Int)) ((0 : Int)) ((0 : Int)) ((0 : Int))))
theorem f16_run (N : Nat)  : (evRes (E0 N) (100 : Nat) (16 : Nat) []).run = (f16 N ).map f16W := (Tr.run_of (g := (.ret (.mk ((0 : Int)) ((0 : Int)) ((0 : Int)) ((0 : Int)) ([]) ([]) ([]) ((0 : Int)) ((0 : Int)) ((0 : Int)) ((0 : Int)) ((0 : Int)) ((1 : Int)) ((0 : Int)) ((0 : Int)) ((0 : Int)) ((0 : Int))))) (f := f16W) (by kernel_rfl))
def f16s : List PK := []
noncomputable def f16a (ps : List PV) : Option f16o := f16 0 
noncomputable def f16d : f16o := ⟨0, 0, 0, 0, [], [], [], 0, 0, 0, 0, 0, 0, 0, 0, 0, 0⟩
noncomputable def f16O : Ora := ⟨fun ps => okPs f16s ps && (f16a ps).isSome, fun ps => (f16W ((f16a ps).getD f16d)).plain⟩
theorem f16_spec : Spec Try.prog 16 f16O := spec_at 100 f16s (fun ps => (f16a ps).isSome) _ mixed fun ps hm hs hp => by
  cases h : f16a ps with
  | none => rw [h] at hp; cases hp
  | some o =>

    refine ⟨E0 0, f16W o, rfl, E0_ok 0, ?_, .inr ?_⟩
    · rw [show canPs f16s ps = [] from by kernel_rfl, f16_run 0]
      show (f16a ps).map f16W = _
      rw [h]; rfl
    · rfl
structure f17o where
  r0 ::
  (y0 : Bool)
noncomputable def f17W (o : f17o) : Res := (fun y0 => Res.pv (PV.bool y0)) o.y0
noncomputable def f17 (N : Nat) (x0 : S30) : Option f17o := Tr.run (.ret (.r0 (x0.a0 != (0 : Int))))
theorem f17_run (N : Nat) (x0 : S30) : (evRes (E0 N) (100 : Nat) (17 : Nat) [(S30v x0)]).run = (f17 N x0).map f17W := (Tr.run_of (g := (.ret (.r0 (x0.a0 != (0 : Int))))) (f := f17W) (by kernel_rfl))
def f17s : List PK := [S30k]
noncomputable def f17a (ps : List PV) : Option f17o := f17 0 (S30r (ps.headD PV.undef))
noncomputable def f17d : f17o := ⟨false⟩
noncomputable def f17O : Ora := ⟨fun ps => okPs f17s ps && (f17a ps).isSome, fun ps => (f17W ((f17a ps).getD f17d)).plain⟩
theorem f17_spec : Spec Try.prog 17 f17O := spec_at 100 f17s (fun ps => (f17a ps).isSome) _ mixed fun ps hm hs hp => by
  cases h : f17a ps with
  | none => rw [h] at hp; cases hp
  | some o =>

    refine ⟨E0 0, f17W o, rfl, E0_ok 0, ?_, .inr ?_⟩
    · rw [show canPs f17s ps = [S30v (S30r (ps.headD PV.undef))] from by kernel_rfl, f17_run 0]
      show (f17a ps).map f17W = _
      rw [h]; rfl
    · rfl
structure f19o where
  r0 ::
  (y0 : Bool)
noncomputable def f19W (o : f19o) : Res := (fun y0 => Res.pv (PV.bool y0)) o.y0
noncomputable def f19 (N : Nat) (x0 : S41) : Option f19o := Tr.run (.ret (.r0 (x0.a0 != (0 : Int))))
theorem f19_run (N : Nat) (x0 : S41) : (evRes (E0 N) (100 : Nat) (19 : Nat) [(S41v x0)]).run = (f19 N x0).map f19W := (Tr.run_of (g := (.ret (.r0 (x0.a0 != (0 : Int))))) (f := f19W) (by kernel_rfl))
def f19s : List PK := [S41k]
noncomputable def f19a (ps : List PV) : Option f19o := f19 0 (S41r (ps.headD PV.undef))
noncomputable def f19d : f19o := ⟨false⟩
noncomputable def f19O : Ora := ⟨fun ps => okPs f19s ps && (f19a ps).isSome, fun ps => (f19W ((f19a ps).getD f19d)).plain⟩
theorem f19_spec : Spec Try.prog 19 f19O := spec_at 100 f19s (fun ps => (f19a ps).isSome) _ mixed fun ps hm hs hp => by
  cases h : f19a ps with
  | none => rw [h] at hp; cases hp
  | some o =>

    refine ⟨E0 0, f19W o, rfl, E0_ok 0, ?_, .inr ?_⟩
    · rw [show canPs f19s ps = [S41v (S41r (ps.headD PV.undef))] from by kernel_rfl, f19_run 0]
      show (f19a ps).map f19W = _
      rw [h]; rfl
    · rfl
structure f20o where
  r0 ::
  (y0 : Bool)
noncomputable def f20W (o : f20o) : Res := (fun y0 => Res.pv (PV.bool y0)) o.y0
noncomputable def f20 (N : Nat) (x0 : S55) : Option f20o := Tr.run (.test (decide ((0 : Int) < x0.a32)) (.ret (.r0 (decide (x0.a32 ≤ x0.a13)))) (.ret (.r0 (false))))
theorem f20_run (N : Nat) (x0 : S55) : (evRes (E0 N) (100 : Nat) (20 : Nat) [(S55v x0)]).run = (f20 N x0).map f20W := (Tr.run_of (g := (.test (decide ((0 : Int) < x0.a32)) (.ret (.r0 (decide (x0.a32 ≤ x0.a13)))) (.ret (.r0 (false))))) (f := f20W) (by kernel_rfl))
def f20s : List PK := [S55k]
noncomputable def f20a (ps : List PV) : Option f20o := f20 0 (S55r (ps.headD PV.undef))
noncomputable def f20d : f20o := ⟨false⟩
noncomputable def f20O : Ora := ⟨fun ps => okPs f20s ps && (f20a ps).isSome, fun ps => (f20W ((f20a ps).getD f20d)).plain⟩
theorem f20_spec : Spec Try.prog 20 f20O := spec_at 100 f20s (fun ps => (f20a ps).isSome) _ mixed fun ps hm hs hp => by
  cases h : f20a ps with
  | none => rw [h] at hp; cases hp
  | some o =>

    refine ⟨E0 0, f20W o, rfl, E0_ok 0, ?_, .inr ?_⟩
    · rw [show canPs f20s ps = [S55v (S55r (ps.headD PV.undef))] from by kernel_rfl, f20_run 0]
      show (f20a ps).map f20W = _
      rw [h]; rfl
    · rfl
structure f21o where
  r0 ::
  (y0 : Bool)
noncomputable def f21W (o : f21o) : Res := (fun y0 => Res.pv (PV.bool y0)) o.y0
noncomputable def f21 (N : Nat) (x0 : S65) : Option f21o := Tr.run (.test (decide (x0.a32 > (0 : Int))) (.ret (.r0 (decide (x0.a13 ≥ x0.a32)))) (.ret (.r0 (false))))
theorem f21_run (N : Nat) (x0 : S65) : (evRes (E0 N) (100 : Nat) (21 : Nat) [(S65v x0)]).run = (f21 N x0).map f21W := (Tr.run_of (g := (.test (decide (x0.a32 > (0 : Int))) (.ret (.r0 (decide (x0.a13 ≥ x0.a32)))) (.ret (.r0 (false))))) (f := f21W) (by kernel_rfl))
def f21s : List PK := [S65k]
noncomputable def f21a (ps : List PV) : Option f21o := f21 0 (S65r (ps.headD PV.undef))
noncomputable def f21d : f21o := ⟨false⟩
noncomputable def f21O : Ora := ⟨fun ps => okPs f21s ps && (f21a ps).isSome, fun ps => (f21W ((f21a ps).getD f21d)).plain⟩
theorem f21_spec : Spec Try.prog 21 f21O := spec_at 100 f21s (fun ps => (f21a ps).isSome) _ mixed fun ps hm hs hp => by
  cases h : f21a ps with
  | none => rw [h] at hp; cases hp
  | some o =>

    refine ⟨E0 0, f21W o, rfl, E0_ok 0, ?_, .inr ?_⟩
    · rw [show canPs f21s ps = [S65v (S65r (ps.headD PV.undef))] from by kernel_rfl, f21_run 0]
      show (f21a ps).map f21W = _
      rw [h]; rfl
    · rfl
structure f24o where
  r0 ::
  (y0 : Int)
noncomputable def f24W (o : f24o) : Res := (fun y0 => Res.pv (PV.int IntKind.i64 y0)) o.y0
noncomputable def f24 (N : Nat) (x0 : Int) (x1 : Int) : Option f24o := Tr.run (.test (decide (x0 < (1 : Int))) (.ret (.r0 ((0 : Int)))) (.test (decide ((0 : Int) ≤ IntKind.i64.wrap (x0 - (1 : Int)))) (.ret (.r0 (IntKind.i64.wrap (↑(BitVec.ofInt IntKind.i64.bits (IntKind.i64.wrap ((1 : Int) * (2 : Int) ^ min (IntKind.i64.wrap (x0 - (1 : Int))).toNat IntKind.i64.bits)) ||| BitVec.ofInt IntKind.i64.bits (IntKind.i64.wrap (↑(BitVec.ofInt IntKind.i64.bits (x1.fdiv ((2 : Int) ^ min (Int.toNat (1 : Int)) IntKind.i64.bits)) &&& BitVec.ofInt IntKind.i64.bits (IntKind.i64.wrap (IntKind.i64.wrap ((1 : Int) * (2 : Int) ^ min (IntKind.i64.wrap (x0 - (1 : Int))).toNat IntKind.i64.bits) - (1 : Int)))).toNat : Int))).toNat : Int)))) .fail))
theorem f24_run (N : Nat) (x0 : Int) (x1 : Int) : (evRes (E0 N) (100 : Nat) (24 : Nat) [PV.int IntKind.i64 x0, PV.int IntKind.i64 x1]).run = (f24 N x0 x1).map f24W := (Tr.run_of (g := (.test (decide (x0 < (1 : Int))) (.ret (.r0 ((0 : Int)))) (.test (decide ((0 : Int) ≤ IntKind.i64.wrap (x0 - (1 : Int)))) (.ret (.r0 (IntKind.i64.wrap (↑(BitVec.ofInt IntKind.i64.bits (IntKind.i64.wrap ((1 : Int) * (2 : Int) ^ min (IntKind.i64.wrap (x0 - (1 : Int))).toNat IntKind.i64.bits)) ||| BitVec.ofInt IntKind.i64.bits (IntKind.i64.wrap (↑(BitVec.ofInt IntKind.i64.bits (x1.fdiv ((2 : Int) ^ min (Int.toNat (1 : Int)) IntKind.i64.bits)) &&& BitVec.ofInt IntKind.i64.bits (IntKind.i64.wrap (IntKind.i64.wrap ((1 : Int) * (2 : Int) ^ min (IntKind.i64.wrap (x0 - (1 : Int))).toNat IntKind.i64.bits) - (1 : Int)))).toNat : Int))).toNat : Int)))) .fail))) (f := f24W) (by kernel_rfl))
def f24s : List PK := [(false, [K.int .i64]), (false, [K.int .i64])]
noncomputable def f24a (ps : List PV) : Option f24o := f24 0 (pInt (ps.headD PV.undef)) (pInt (ps.tail.headD PV.undef))
noncomputable def f24d : f24o := ⟨0⟩
noncomputable def f24O : Ora := ⟨fun ps => okPs f24s ps && (f24a ps).isSome, fun ps => (f24W ((f24a ps).getD f24d)).plain⟩
theorem f24_spec : Spec Try.prog 24 f24O := spec_at 100 f24s (fun ps => (f24a ps).isSome) _ mixed fun ps hm hs hp => by
  cases h : f24a ps with
  | none => rw [h] at hp; cases hp
  | some o =>

    refine ⟨E0 0, f24W o, rfl, E0_ok 0, ?_, .inr ?_⟩
    · rw [show canPs f24s ps = [PV.int IntKind.i64 (pInt (ps.headD PV.undef)), PV.int IntKind.i64 (pInt (ps.tail.headD PV.undef))] from by kernel_rfl, f24_run 0]
      show (f24a ps).map f24W = _
      rw [h]; rfl
    · rfl
structure f25o where
  r0 ::
  (y5 : Bool)
noncomputable def f25W (o : f25o) : Res := (fun y5 => Res.pv (PV.bool y5)) o.y5
noncomputable def f25L0c (N : Nat) (x0 : List (List PV)) (x1 : List (List PV)) : Code := Tr.waitC (Tr.sub [false] (Tr.sub [false] (evRes (E0 N) (100 : Nat) (25 : Nat) [PV.list (86 : Nat) x0, PV.list (86 : Nat) x1])))
inductive f25L0s where
  | s0 (y3 : Int)
noncomputable def f25L0S (x0 : List (List PV)) (x1 : List (List PV)) : f25L0s → St
  | .s0 y3 => { tmps := [AV.pv (PV.list (86 : Nat) x0), AV.pv (PV.list (86 : Nat) x1), AV.pv PV.undef, AV.pv PV.undef, AV.pv PV.undef, AV.pv (PV.int IntKind.i64 y3), AV.pv PV.undef, AV.pv PV.undef, AV.pv PV.undef, AV.pv PV.undef, AV.pv PV.undef, AV.pv PV.undef, AV.pv PV.undef, AV.pv PV.undef, AV.pv PV.undef, AV.pv PV.undef, AV.pv PV.undef, AV.pv PV.undef, AV.pv PV.undef, AV.pv PV.undef, AV.pv PV.undef, AV.pv PV.undef, AV.pv PV.undef, AV.pv PV.undef, AV.pv PV.undef, AV.pv PV.undef], stack := [], mem := [], cur := (0 : Nat), ctr := (1 : Nat), fn := (25 : Nat) }
inductive f25L0e where
  | e0 
  | e1 
noncomputable def f25L0T (x0 : List (List PV)) (x1 : List (List PV)) : f25L0e → (Ex × St)
  | .e0  => (Ex.ret, { tmps := [AV.pv PV.undef, AV.pv PV.undef, AV.pv PV.undef, AV.pv PV.undef, AV.pv (PV.bool false), AV.pv PV.undef, AV.pv PV.undef, AV.pv PV.undef, AV.pv PV.undef, AV.pv PV.undef, AV.pv PV.undef, AV.pv PV.undef, AV.pv PV.undef, AV.pv PV.undef, AV.pv PV.undef, AV.pv PV.undef, AV.pv PV.undef, AV.pv PV.undef, AV.pv PV.undef, AV.pv PV.undef, AV.pv PV.undef, AV.pv PV.undef, AV.pv PV.undef, AV.pv PV.undef, AV.pv PV.undef, AV.pv PV.undef], stack := [], mem := [], cur := (0 : Nat), ctr := (1 : Nat), fn := (25 : Nat) })
  | .e1  => (Ex.exit (0 : Nat), { tmps := [AV.pv PV.undef, AV.pv PV.undef, AV.pv PV.undef, AV.pv PV.undef, AV.pv PV.undef, AV.pv PV.undef, AV.pv PV.undef, AV.pv PV.undef, AV.pv PV.undef, AV.pv PV.undef, AV.pv PV.undef, AV.pv PV.undef, AV.pv PV.undef, AV.pv PV.undef, AV.pv PV.undef, AV.pv PV.undef, AV.pv PV.undef, AV.pv PV.undef, AV.pv PV.undef, AV.pv PV.undef, AV.pv PV.undef, AV.pv PV.undef, AV.pv PV.undef, AV.pv PV.undef, AV.pv PV.undef, AV.pv PV.undef], stack := [], mem := [], cur := (0 : Nat), ctr := (1 : Nat), fn := (25 : Nat) })
noncomputable def f25L0r (N : Nat) (x0 : List (List PV)) (x1 : List (List PV)) : f25L0s → Option (f25L0s ⊕ f25L0e)
  | .s0 z4 => Tr.run (.test (decide (z4 < (↑x0.length : Int))) (.test (decide ((0 : Int) ≤ z4) && decide (z4 < (↑x0.length : Int))) (.test (decide ((0 : Int) ≤ z4) && decide (z4 < (↑x1.length : Int))) (.test (!(pInt ((x0.getD z4.toNat []).headD PV.undef) == pInt ((x1.getD z4.toNat []).headD PV.undef) && (pInt ((x0.getD z4.toNat []).tail.headD PV.undef) == pInt ((x1.getD z4.toNat []).tail.headD PV.undef) && (pInt ((x0.getD z4.toNat []).tail.tail.headD PV.undef) == pInt ((x1.getD z4.toNat []).tail.tail.headD PV.undef) && true) && true))) (.ret (.inr (.e0))) (.ret (.inl (.s0 (IntKind.i64.wrap (z4 + (1 : Int))))))) .fail) .fail) (.ret (.inr (.e1))))
theorem f25L0_step (N : Nat) (x0 : List (List PV)) (x1 : List (List PV)) : ∀ x, (roundAt (E0 N) (94 : Nat) (25 : Nat) (1 : Nat) (f25L0c N x0 x1) (f25L0S x0 x1 x)).run = (f25L0r N x0 x1 x).map (sumMap (f25L0S x0 x1) (f25L0T x0 x1))
  | .s0 z4 => (Tr.run_of (g := (.test (decide (z4 < (↑x0.length : Int))) (.test (decide ((0 : Int) ≤ z4) && decide (z4 < (↑x0.length : Int))) (.test (decide ((0 : Int) ≤ z4) && decide (z4 < (↑x1.length : Int))) (.test (!(pInt ((x0.getD z4.toNat []).headD PV.undef) == pInt ((x1.getD z4.toNat []).headD PV.undef) && (pInt ((x0.getD z4.toNat []).tail.headD PV.undef) == pInt ((x1.getD z4.toNat []).tail.headD PV.undef) && (pInt ((x0.getD z4.toNat []).tail.tail.headD PV.undef) == pInt ((x1.getD z4.toNat []).tail.tail.headD PV.undef) && true) && true))) (.ret (.inr (.e0))) (.ret (.inl (.s0 (IntKind.i64.wrap (z4 + (1 : Int))))))) .fail) .fail) (.ret (.inr (.e1))))) (f := (sumMap (f25L0S x0 x1) (f25L0T x0 x1))) (by kernel_rfl))
noncomputable def f25 (N : Nat) (x0 : List (List PV)) (x1 : List (List PV)) : Option f25o := (bif ((↑x0.length : Int) != (↑x1.length : Int)) then (Tr.run (.ret (.r0 (false)))) else ((loopN (f25L0r N x0 x1) N (.s0 ((0 : Int)))).bind (fun
    | .e0  => Tr.run (.ret (.r0 (false)))
    | .e1  => Tr.run (.ret (.r0 (true))))))
theorem f25_run (N : Nat) (x0 : List (List PV)) (x1 : List (List PV)) : (evRes (E0 N) (100 : Nat) (25 : Nat) [PV.list (86 : Nat) x0, PV.list (86 : Nat) x1]).run = (f25 N x0 x1).map f25W := (test_run (b := (↑x0.length : Int) != (↑x1.length : Int)) (by kernel_rfl) (by kernel_rfl) (Tr.run_of (g := (.ret (.r0 (false)))) (f := f25W) (by kernel_rfl)) (test_false (by kernel_rfl) (by kernel_rfl) (wait_run (wrap := f25W) (E := E0 N) (n := (94 : Nat)) (f := (25 : Nat)) (c0 := (1 : Nat)) (c := (f25L0c N x0 x1)) (s := Tr.waitS (Tr.sub [false] (Tr.sub [false] (evRes (E0 N) (100 : Nat) (25 : Nat) [PV.list (86 : Nat) x0, PV.list (86 : Nat) x1])))) (f25L0S x0 x1) (f25L0T x0 x1) (f25L0r N x0 x1) (.s0 ((0 : Int))) _ (f25L0_step N x0 x1) (by kernel_rfl) (by kernel_rfl) (by kernel_rfl) (by kernel_rfl) (by kernel_rfl) (fun
    | .e0  => (Tr.run_of (g := (.ret (.r0 (false)))) (f := f25W) (by kernel_rfl))
    | .e1  => (Tr.run_of (g := (.ret (.r0 (true)))) (f := f25W) (by kernel_rfl))))))
structure f26o where
  r0 ::
  (y5 : Bool)
noncomputable def f26W (o : f26o) : Res := (fun y5 => Res.pv (PV.bool y5)) o.y5
noncomputable def f26L0c (N : Nat) (x0 : List (List PV)) (x1 : List (List PV)) : Code := Tr.waitC (Tr.sub [false] (Tr.sub [false] (evRes (E0 N) (100 : Nat) (26 : Nat) [PV.list (3 : Nat) x0, PV.list (3 : Nat) x1])))
inductive f26L0s where
  | s0 (y3 : Int)
noncomputable def f26L0S (x0 : List (List PV)) (x1 : List (List PV)) : f26L0s → St
  | .s0 y3 => { tmps := [AV.pv (PV.list (3 : Nat) x0), AV.pv (PV.list (3 : Nat) x1), AV.pv PV.undef, AV.pv PV.undef, AV.pv PV.undef, AV.pv (PV.int IntKind.i64 y3), AV.pv PV.undef, AV.pv PV.undef, AV.pv PV.undef, AV.pv PV.undef, AV.pv PV.undef, AV.pv PV.undef, AV.pv PV.undef, AV.pv PV.undef, AV.pv PV.undef, AV.pv PV.undef, AV.pv PV.undef, AV.pv PV.undef, AV.pv PV.undef, AV.pv PV.undef, AV.pv PV.undef, AV.pv PV.undef, AV.pv PV.undef, AV.pv PV.undef, AV.pv PV.undef, AV.pv PV.undef], stack := [], mem := [], cur := (0 : Nat), ctr := (1 : Nat), fn := (26 : Nat) }
inductive f26L0e where
  | e0 
  | e1 
noncomputable def f26L0T (x0 : List (List PV)) (x1 : List (List PV)) : f26L0e → (Ex × St)
  | .e0  => (Ex.ret, { tmps := [AV.pv PV.undef, AV.pv PV.undef, AV.pv PV.undef, AV.pv PV.undef, AV.pv (PV.bool false), AV.pv PV.undef, AV.pv PV.undef, AV.pv PV.undef, AV.pv PV.undef, AV.pv PV.undef, AV.pv PV.undef, AV.pv PV.undef, AV.pv PV.undef, AV.pv PV.undef, AV.pv PV.undef, AV.pv PV.undef, AV.pv PV.undef, AV.pv PV.undef, AV.pv PV.undef, AV.pv PV.undef, AV.pv PV.undef, AV.pv PV.undef, AV.pv PV.undef, AV.pv PV.undef, AV.pv PV.undef, AV.pv PV.undef], stack := [], mem := [], cur := (0 : Nat), ctr := (1 : Nat), fn := (26 : Nat) })
  | .e1  => (Ex.exit (0 : Nat), { tmps := [AV.pv PV.undef, AV.pv PV.undef, AV.pv PV.undef, AV.pv PV.undef, AV.pv PV.undef, AV.pv PV.undef, AV.pv PV.undef, AV.pv PV.undef, AV.pv PV.undef, AV.pv PV.undef, AV.pv PV.undef, AV.pv PV.undef, AV.pv PV.undef, AV.pv PV.undef, AV.pv PV.undef, AV.pv PV.undef, AV.pv PV.undef, AV.pv PV.undef, AV.pv PV.undef, AV.pv PV.undef, AV.pv PV.undef, AV.pv PV.undef, AV.pv PV.undef, AV.pv PV.undef, AV.pv PV.undef, AV.pv PV.undef], stack := [], mem := [], cur := (0 : Nat), ctr := (1 : Nat), fn := (26 : Nat) })
noncomputable def f26L0r (N : Nat) (x0 : List (List PV)) (x1 : List (List PV)) : f26L0s → Option (f26L0s ⊕ f26L0e)
  | .s0 z4 => Tr.run (.test (decide (z4 < (↑x0.length : Int))) (.test (decide ((0 : Int) ≤ z4) && decide (z4 < (↑x0.length : Int))) (.test (decide ((0 : Int) ≤ z4) && decide (z4 < (↑x1.length : Int))) (.test (pInt ((x0.getD z4.toNat []).headD PV.undef) != pInt ((x1.getD z4.toNat []).headD PV.undef)) (.ret (.inr (.e0))) (.ret (.inl (.s0 (IntKind.i64.wrap (z4 + (1 : Int))))))) .fail) .fail) (.ret (.inr (.e1))))
theorem f26L0_step (N : Nat) (x0 : List (List PV)) (x1 : List (List PV)) : ∀ x, (roundAt (E0 N) (94 : Nat) (26 : Nat) (1 : Nat) (f26L0c N x0 x1) (f26L0S x0 x1 x)).run = (f26L0r N x0 x1 x).map (sumMap (f26L0S x0 x1) (f26L0T x0 x1))
  | .s0 z4 => (Tr.run_of (g := (.test (decide (z4 < (↑x0.length : Int))) (.test (decide ((0 : Int) ≤ z4) && decide (z4 < (↑x0.length : Int))) (.test (decide ((0 : Int) ≤ z4) && decide (z4 < (↑x1.length : Int))) (.test (pInt ((x0.getD z4.toNat []).headD PV.undef) != pInt ((x1.getD z4.toNat []).headD PV.undef)) (.ret (.inr (.e0))) (.ret (.inl (.s0 (IntKind.i64.wrap (z4 + (1 : Int))))))) .fail) .fail) (.ret (.inr (.e1))))) (f := (sumMap (f26L0S x0 x1) (f26L0T x0 x1))) (by kernel_rfl))
noncomputable def f26 (N : Nat) (x0 : List (List PV)) (x1 : List (List PV)) : Option f26o := (bif ((↑x0.length : Int) != (↑x1.length : Int)) then (Tr.run (.ret (.r0 (false)))) else ((loopN (f26L0r N x0 x1) N (.s0 ((0 : Int)))).bind (fun
    | .e0  => Tr.run (.ret (.r0 (false)))
    | .e1  => Tr.run (.ret (.r0 (true))))))
theorem f26_run (N : Nat) (x0 : List (List PV)) (x1 : List (List PV)) : (evRes (E0 N) (100 : Nat) (26 : Nat) [PV.list (3 : Nat) x0, PV.list (3 : Nat) x1]).run = (f26 N x0 x1).map f26W := (test_run (b := (↑x0.length : Int) != (↑x1.length : Int)) (by kernel_rfl) (by kernel_rfl) (Tr.run_of (g := (.ret (.r0 (false)))) (f := f26W) (by kernel_rfl)) (test_false (by kernel_rfl) (by kernel_rfl) (wait_run (wrap := f26W) (E := E0 N) (n := (94 : Nat)) (f := (26 : Nat)) (c0 := (1 : Nat)) (c := (f26L0c N x0 x1)) (s := Tr.waitS (Tr.sub [false] (Tr.sub [false] (evRes (E0 N) (100 : Nat) (26 : Nat) [PV.list (3 : Nat) x0, PV.list (3 : Nat) x1])))) (f26L0S x0 x1) (f26L0T x0 x1) (f26L0r N x0 x1) (.s0 ((0 : Int))) _ (f26L0_step N x0 x1) (by kernel_rfl) (by kernel_rfl) (by kernel_rfl) (by kernel_rfl) (by kernel_rfl) (fun
    | .e0  => (Tr.run_of (g := (.ret (.r0 (false)))) (f := f26W) (by kernel_rfl))
    | .e1  => (Tr.run_of (g := (.ret (.r0 (true)))) (f := f26W) (by kernel_rfl))))))
inductive f27o where
  | r0 (y11 : List (List PV))
  | r1 (y12 : List (List PV))
noncomputable def f27W  : f27o → Res
  | .r0 y11 => Res.pv (PV.list (86 : Nat) y11)
  | .r1 y12 => Res.fresh (86 : Nat) y12
noncomputable def f27L0c (N : Nat) (x0 : List (List PV)) : Code := Tr.waitC (evRes (E0 N) (100 : Nat) (27 : Nat) [PV.list (77 : Nat) x0])
inductive f27L0s where
  | s0 
  | s1 
  | s2 (y5 : Int) (y6 : List (List PV))
noncomputable def f27L0S (x0 : List (List PV)) : f27L0s → St
  | .s0  => { tmps := [AV.pv (PV.list (77 : Nat) x0), AV.pv PV.undef, AV.pv PV.undef, AV.lit (86 : Nat) [], AV.pv (PV.int IntKind.i64 (0 : Int)), AV.pv PV.undef, AV.pv PV.undef, AV.pv PV.undef, AV.pv PV.undef, AV.pv PV.undef, AV.pv PV.undef, AV.pv PV.undef, AV.pv PV.undef, AV.pv PV.undef, AV.pv PV.undef, AV.pv PV.undef, AV.pv PV.undef, AV.pv PV.undef, AV.pv PV.undef, AV.pv PV.undef, AV.pv PV.undef, AV.pv PV.undef, AV.pv PV.undef, AV.pv PV.undef, AV.pv PV.undef, AV.pv PV.undef, AV.pv PV.undef], stack := [], mem := [], cur := (0 : Nat), ctr := (1 : Nat), fn := (27 : Nat) }
  | .s1  => { tmps := [AV.pv (PV.list (77 : Nat) x0), AV.pv PV.undef, AV.pv PV.undef, AV.own (525 : Nat), AV.pv (PV.int IntKind.i64 (1 : Int)), AV.pv PV.undef, AV.pv PV.undef, AV.pv PV.undef, AV.pv PV.undef, AV.pv PV.undef, AV.pv PV.undef, AV.pv PV.undef, AV.pv PV.undef, AV.pv PV.undef, AV.pv PV.undef, AV.pv PV.undef, AV.pv PV.undef, AV.pv PV.undef, AV.pv PV.undef, AV.pv PV.undef, AV.pv PV.undef, AV.pv PV.undef, AV.pv PV.undef, AV.pv PV.undef, AV.pv PV.undef, AV.pv PV.undef, AV.pv PV.undef], stack := [], mem := [((525 : Nat), Ob.row (2 : Nat) (86 : Nat) [[PV.int IntKind.i64 (pInt ((x0.getD (Int.toNat (0 : Int)) []).headD PV.undef)), PV.int IntKind.i64 (pInt ((x0.getD (Int.toNat (0 : Int)) []).tail.headD PV.undef)), PV.int IntKind.i64 (pInt ((x0.getD (Int.toNat (0 : Int)) []).tail.tail.headD PV.undef))]])], cur := (0 : Nat), ctr := (1 : Nat), fn := (27 : Nat) }
  | .s2 y5 y6 => { tmps := [AV.pv (PV.list (77 : Nat) x0), AV.pv PV.undef, AV.pv PV.undef, AV.own (525 : Nat), AV.pv (PV.int IntKind.i64 y5), AV.pv PV.undef, AV.pv PV.undef, AV.pv PV.undef, AV.pv PV.undef, AV.pv PV.undef, AV.pv PV.undef, AV.pv PV.undef, AV.pv PV.undef, AV.pv PV.undef, AV.pv PV.undef, AV.pv PV.undef, AV.pv PV.undef, AV.pv PV.undef, AV.pv PV.undef, AV.pv PV.undef, AV.pv PV.undef, AV.pv PV.undef, AV.pv PV.undef, AV.pv PV.undef, AV.pv PV.undef, AV.pv PV.undef, AV.pv PV.undef], stack := [], mem := [((525 : Nat), Ob.row (1 : Nat) (86 : Nat) y6)], cur := (0 : Nat), ctr := (1 : Nat), fn := (27 : Nat) }
inductive f27L0e where
  | e0 
  | e1 
  | e2 (y7 : List (List PV))
noncomputable def f27L0T (x0 : List (List PV)) : f27L0e → (Ex × St)
  | .e0  => (Ex.exit (0 : Nat), { tmps := [AV.pv PV.undef, AV.pv PV.undef, AV.pv PV.undef, AV.lit (86 : Nat) [], AV.pv PV.undef, AV.pv PV.undef, AV.pv PV.undef, AV.pv PV.undef, AV.pv PV.undef, AV.pv PV.undef, AV.pv PV.undef, AV.pv PV.undef, AV.pv PV.undef, AV.pv PV.undef, AV.pv PV.undef, AV.pv PV.undef, AV.pv PV.undef, AV.pv PV.undef, AV.pv PV.undef, AV.pv PV.undef, AV.pv PV.undef, AV.pv PV.undef, AV.pv PV.undef, AV.pv PV.undef, AV.pv PV.undef, AV.pv PV.undef, AV.pv PV.undef], stack := [], mem := [], cur := (0 : Nat), ctr := (1 : Nat), fn := (27 : Nat) })
  | .e1  => (Ex.exit (0 : Nat), { tmps := [AV.pv PV.undef, AV.pv PV.undef, AV.pv PV.undef, AV.own (525 : Nat), AV.pv PV.undef, AV.pv PV.undef, AV.pv PV.undef, AV.pv PV.undef, AV.pv PV.undef, AV.pv PV.undef, AV.pv PV.undef, AV.pv PV.undef, AV.pv PV.undef, AV.pv PV.undef, AV.pv PV.undef, AV.pv PV.undef, AV.pv PV.undef, AV.pv PV.undef, AV.pv PV.undef, AV.pv PV.undef, AV.pv PV.undef, AV.pv PV.undef, AV.pv PV.undef, AV.pv PV.undef, AV.pv PV.undef, AV.pv PV.undef, AV.pv PV.undef], stack := [], mem := [((525 : Nat), Ob.row (2 : Nat) (86 : Nat) [[PV.int IntKind.i64 (pInt ((x0.getD (Int.toNat (0 : Int)) []).headD PV.undef)), PV.int IntKind.i64 (pInt ((x0.getD (Int.toNat (0 : Int)) []).tail.headD PV.undef)), PV.int IntKind.i64 (pInt ((x0.getD (Int.toNat (0 : Int)) []).tail.tail.headD PV.undef))]])], cur := (0 : Nat), ctr := (1 : Nat), fn := (27 : Nat) })
  | .e2 y7 => (Ex.exit (0 : Nat), { tmps := [AV.pv PV.undef, AV.pv PV.undef, AV.pv PV.undef, AV.own (525 : Nat), AV.pv PV.undef, AV.pv PV.undef, AV.pv PV.undef, AV.pv PV.undef, AV.pv PV.undef, AV.pv PV.undef, AV.pv PV.undef, AV.pv PV.undef, AV.pv PV.undef, AV.pv PV.undef, AV.pv PV.undef, AV.pv PV.undef, AV.pv PV.undef, AV.pv PV.undef, AV.pv PV.undef, AV.pv PV.undef, AV.pv PV.undef, AV.pv PV.undef, AV.pv PV.undef, AV.pv PV.undef, AV.pv PV.undef, AV.pv PV.undef, AV.pv PV.undef], stack := [], mem := [((525 : Nat), Ob.row (1 : Nat) (86 : Nat) y7)], cur := (0 : Nat), ctr := (1 : Nat), fn := (27 : Nat) })
noncomputable def f27L0r (N : Nat) (x0 : List (List PV)) : f27L0s → Option (f27L0s ⊕ f27L0e)
  | .s0  => Tr.run (.test (decide ((0 : Int) < (↑x0.length : Int))) (.test (decide ((0 : Int) ≤ (0 : Int)) && decide ((0 : Int) < (↑x0.length : Int))) (.test (decide ((0 : Int) ≤ (0 : Int)) && decide ((0 : Int) < (↑x0.length : Int))) (.ret (.inl (.s1))) .fail) .fail) (.ret (.inr (.e0))))
  | .s1  => Tr.run (.test (decide ((1 : Int) < (↑x0.length : Int))) (.test (decide ((0 : Int) ≤ (1 : Int)) && decide ((1 : Int) < (↑x0.length : Int))) (.test (decide ((0 : Int) ≤ (1 : Int)) && decide ((1 : Int) < (↑x0.length : Int))) (.ret (.inl (.s2 ((2 : Int)) ([[PV.int IntKind.i64 (pInt ((x0.getD (Int.toNat (0 : Int)) []).headD PV.undef)), PV.int IntKind.i64 (pInt ((x0.getD (Int.toNat (0 : Int)) []).tail.headD PV.undef)), PV.int IntKind.i64 (pInt ((x0.getD (Int.toNat (0 : Int)) []).tail.tail.headD PV.undef))], [PV.int IntKind.i64 (pInt ((x0.getD (Int.toNat (1 : Int)) []).headD PV.undef)), PV.int IntKind.i64 (pInt ((x0.getD (Int.toNat (1 : Int)) []).tail.headD PV.undef)), PV.int IntKind.i64 (pInt ((x0.getD (Int.toNat (1 : Int)) []).tail.tail.headD PV.undef))]])))) .fail) .fail) (.ret (.inr (.e1))))
  | .s2 z8 z9 => Tr.run (.test (decide (z8 < (↑x0.length : Int))) (.test (decide ((0 : Int) ≤ z8) && decide (z8 < (↑x0.length : Int))) (.test (decide ((0 : Int) ≤ z8) && decide (z8 < (↑x0.length : Int))) (.test (decide (z9.length + [[PV.int IntKind.i64 (pInt ((x0.getD z8.toNat []).headD PV.undef)), PV.int IntKind.i64 (pInt ((x0.getD z8.toNat []).tail.headD PV.undef)), PV.int IntKind.i64 (pInt ((x0.getD z8.toNat []).tail.tail.headD PV.undef))]].length ≤ most)) (.ret (.inl (.s2 (IntKind.i64.wrap (z8 + (1 : Int))) (z9 ++ [[PV.int IntKind.i64 (pInt ((x0.getD z8.toNat []).headD PV.undef)), PV.int IntKind.i64 (pInt ((x0.getD z8.toNat []).tail.headD PV.undef)), PV.int IntKind.i64 (pInt ((x0.getD z8.toNat []).tail.tail.headD PV.undef))]])))) .fail) .fail) .fail) (.ret (.inr (.e2 (z9)))))
theorem f27L0_step (N : Nat) (x0 : List (List PV)) : ∀ x, (roundAt (E0 N) (94 : Nat) (27 : Nat) (1 : Nat) (f27L0c N x0) (f27L0S x0 x)).run = (f27L0r N x0 x).map (sumMap (f27L0S x0) (f27L0T x0))
  | .s0  => (Tr.run_of (g := (.test (decide ((0 : Int) < (↑x0.length : Int))) (.test (decide ((0 : Int) ≤ (0 : Int)) && decide ((0 : Int) < (↑x0.length : Int))) (.test (decide ((0 : Int) ≤ (0 : Int)) && decide ((0 : Int) < (↑x0.length : Int))) (.ret (.inl (.s1))) .fail) .fail) (.ret (.inr (.e0))))) (f := (sumMap (f27L0S x0) (f27L0T x0))) (by kernel_rfl))
  | .s1  => (Tr.run_of (g := (.test (decide ((1 : Int) < (↑x0.length : Int))) (.test (decide ((0 : Int) ≤ (1 : Int)) && decide ((1 : Int) < (↑x0.length : Int))) (.test (decide ((0 : Int) ≤ (1 : Int)) && decide ((1 : Int) < (↑x0.length : Int))) (.ret (.inl (.s2 ((2 : Int)) ([[PV.int IntKind.i64 (pInt ((x0.getD (Int.toNat (0 : Int)) []).headD PV.undef)), PV.int IntKind.i64 (pInt ((x0.getD (Int.toNat (0 : Int)) []).tail.headD PV.undef)), PV.int IntKind.i64 (pInt ((x0.getD (Int.toNat (0 : Int)) []).tail.tail.headD PV.undef))], [PV.int IntKind.i64 (pInt ((x0.getD (Int.toNat (1 : Int)) []).headD PV.undef)), PV.int IntKind.i64 (pInt ((x0.getD (Int.toNat (1 : Int)) []).tail.headD PV.undef)), PV.int IntKind.i64 (pInt ((x0.getD (Int.toNat (1 : Int)) []).tail.tail.headD PV.undef))]])))) .fail) .fail) (.ret (.inr (.e1))))) (f := (sumMap (f27L0S x0) (f27L0T x0))) (by kernel_rfl))
  | .s2 z8 z9 => (Tr.run_of (g := (.test (decide (z8 < (↑x0.length : Int))) (.test (decide ((0 : Int) ≤ z8) && decide (z8 < (↑x0.length : Int))) (.test (decide ((0 : Int) ≤ z8) && decide (z8 < (↑x0.length : Int))) (.test (decide (z9.length + [[PV.int IntKind.i64 (pInt ((x0.getD z8.toNat []).headD PV.undef)), PV.int IntKind.i64 (pInt ((x0.getD z8.toNat []).tail.headD PV.undef)), PV.int IntKind.i64 (pInt ((x0.getD z8.toNat []).tail.tail.headD PV.undef))]].length ≤ most)) (.ret (.inl (.s2 (IntKind.i64.wrap (z8 + (1 : Int))) (z9 ++ [[PV.int IntKind.i64 (pInt ((x0.getD z8.toNat []).headD PV.undef)), PV.int IntKind.i64 (pInt ((x0.getD z8.toNat []).tail.headD PV.undef)), PV.int IntKind.i64 (pInt ((x0.getD z8.toNat []).tail.tail.headD PV.undef))]])))) .fail) .fail) .fail) (.ret (.inr (.e2 (z9)))))) (f := (sumMap (f27L0S x0) (f27L0T x0))) (by kernel_rfl))
noncomputable def f27 (N : Nat) (x0 : List (List PV)) : Option f27o := ((loopN (f27L0r N x0) N (.s0)).bind (fun
    | .e0  => Tr.run (.ret (.r0 ([])))
    | .e1  => Tr.run (.ret (.r1 ([[PV.int IntKind.i64 (pInt ((x0.getD (Int.toNat (0 : Int)) []).headD PV.undef)), PV.int IntKind.i64 (pInt ((x0.getD (Int.toNat (0 : Int)) []).tail.headD PV.undef)), PV.int IntKind.i64 (pInt ((x0.getD (Int.toNat (0 : Int)) []).tail.tail.headD PV.undef))]])))
    | .e2 w10 => Tr.run (.ret (.r0 (w10)))))
theorem f27_run (N : Nat) (x0 : List (List PV)) : (evRes (E0 N) (100 : Nat) (27 : Nat) [PV.list (77 : Nat) x0]).run = (f27 N x0).map f27W := (wait_run (wrap := f27W) (E := E0 N) (n := (94 : Nat)) (f := (27 : Nat)) (c0 := (1 : Nat)) (c := (f27L0c N x0)) (s := Tr.waitS (evRes (E0 N) (100 : Nat) (27 : Nat) [PV.list (77 : Nat) x0])) (f27L0S x0) (f27L0T x0) (f27L0r N x0) (.s0) _ (f27L0_step N x0) (by kernel_rfl) (by kernel_rfl) (by kernel_rfl) (by kernel_rfl) (by kernel_rfl) (fun
    | .e0  => (Tr.run_of (g := (.ret (.r0 ([])))) (f := f27W) (by kernel_rfl))
    | .e1  => (Tr.run_of (g := (.ret (.r1 ([[PV.int IntKind.i64 (pInt ((x0.getD (Int.toNat (0 : Int)) []).headD PV.undef)), PV.int IntKind.i64 (pInt ((x0.getD (Int.toNat (0 : Int)) []).tail.headD PV.undef)), PV.int IntKind.i64 (pInt ((x0.getD (Int.toNat (0 : Int)) []).tail.tail.headD PV.undef))]])))) (f := f27W) (by kernel_rfl))
    | .e2 w10 => (Tr.run_of (g := (.ret (.r0 (w10)))) (f := f27W) (by kernel_rfl))))
structure f28o where
  r0 ::
  (y11 : Int)
noncomputable def f28W (o : f28o) : Res := (fun y11 => Res.pv (PV.int IntKind.i64 y11)) o.y11
noncomputable def f28L0c (N : Nat) (x0 : Int) (x1 : Int) : Code := Tr.waitC (Tr.sub [false] (Tr.sub [false] (evRes (E0 N) (100 : Nat) (28 : Nat) [PV.int IntKind.i64 x0, PV.int IntKind.i64 x1])))
inductive f28L0s where
  | s0 (y5 : Int) (y6 : Int)
noncomputable def f28L0S (x0 : Int) (x1 : Int) : f28L0s → St
  | .s0 y5 y6 => { tmps := [AV.pv (PV.int IntKind.i64 x0), AV.pv (PV.int IntKind.i64 x1), AV.pv PV.undef, AV.pv PV.undef, AV.pv PV.undef, AV.pv (PV.int IntKind.i64 y5), AV.pv (PV.int IntKind.i64 y6), AV.pv PV.undef, AV.pv PV.undef, AV.pv PV.undef, AV.pv PV.undef, AV.pv PV.undef, AV.pv PV.undef, AV.pv PV.undef, AV.pv PV.undef, AV.pv PV.undef, AV.pv PV.undef, AV.pv PV.undef, AV.pv PV.undef, AV.pv PV.undef, AV.pv PV.undef, AV.pv PV.undef], stack := [], mem := [], cur := (0 : Nat), ctr := (1 : Nat), fn := (28 : Nat) }
inductive f28L0e where
  | e0 (y7 : Int)
noncomputable def f28L0T (x0 : Int) (x1 : Int) : f28L0e → (Ex × St)
  | .e0 y7 => (Ex.exit (0 : Nat), { tmps := [AV.pv PV.undef, AV.pv (PV.int IntKind.i64 x1), AV.pv PV.undef, AV.pv PV.undef, AV.pv PV.undef, AV.pv (PV.int IntKind.i64 y7), AV.pv PV.undef, AV.pv PV.undef, AV.pv PV.undef, AV.pv PV.undef, AV.pv PV.undef, AV.pv PV.undef, AV.pv PV.undef, AV.pv PV.undef, AV.pv PV.undef, AV.pv PV.undef, AV.pv PV.undef, AV.pv PV.undef, AV.pv PV.undef, AV.pv PV.undef, AV.pv PV.undef, AV.pv PV.undef], stack := [], mem := [], cur := (0 : Nat), ctr := (1 : Nat), fn := (28 : Nat) })
noncomputable def f28L0r (N : Nat) (x0 : Int) (x1 : Int) : f28L0s → Option (f28L0s ⊕ f28L0e)
  | .s0 z8 z9 => Tr.run (.test (decide (z9 < x0)) (.ret (.inl (.s0 (IntKind.i64.wrap ((2 : Int) * z8)) (IntKind.i64.wrap (z9 + (1 : Int)))))) (.ret (.inr (.e0 (z8)))))
theorem f28L0_step (N : Nat) (x0 : Int) (x1 : Int) : ∀ x, (roundAt (E0 N) (93 : Nat) (28 : Nat) (1 : Nat) (f28L0c N x0 x1) (f28L0S x0 x1 x)).run = (f28L0r N x0 x1 x).map (sumMap (f28L0S x0 x1) (f28L0T x0 x1))
  | .s0 z8 z9 => (Tr.run_of (g := (.test (decide (z9 < x0)) (.ret (.inl (.s0 (IntKind.i64.wrap ((2 : Int) * z8)) (IntKind.i64.wrap (z9 + (1 : Int)))))) (.ret (.inr (.e0 (z8)))))) (f := (sumMap (f28L0S x0 x1) (f28L0T x0 x1))) (by kernel_rfl))
noncomputable def f28 (N : Nat) (x0 : Int) (x1 : Int) : Option f28o := (bif (decide (x0 < (1 : Int))) then (Tr.run (.ret (.r0 ((0 : Int))))) else ((loopN (f28L0r N x0 x1) N (.s0 ((1 : Int)) ((1 : Int)))).bind (fun
    | .e0 w10 => Tr.run (.test (decide (w10 ≠ (0 : Int))) (.ret (.r0 (IntKind.i64.wrap (w10 + (IntKind.i64.wrap (x1.tdiv (2 : Int))).tmod w10)))) .fail))))
theorem f28_run (N : Nat) (x0 : Int) (x1 : Int) : (evRes (E0 N) (100 : Nat) (28 : Nat) [PV.int IntKind.i64 x0, PV.int IntKind.i64 x1]).run = (f28 N x0 x1).map f28W := (test_run (b := decide (x0 < (1 : Int))) (by kernel_rfl) (by kernel_rfl) (Tr.run_of (g := (.ret (.r0 ((0 : Int))))) (f := f28W) (by kernel_rfl)) (test_false (by kernel_rfl) (by kernel_rfl) (wait_run (wrap := f28W) (E := E0 N) (n := (93 : Nat)) (f := (28 : Nat)) (c0 := (1 : Nat)) (c := (f28L0c N x0 x1)) (s := Tr.waitS (Tr.sub [false] (Tr.sub [false] (evRes (E0 N) (100 : Nat) (28 : Nat) [PV.int IntKind.i64 x0, PV.int IntKind.i64 x1])))) (f28L0S x0 x1) (f28L0T x0 x1) (f28L0r N x0 x1) (.s0 ((1 : Int)) ((1 : Int))) _ (f28L0_step N x0 x1) (by kernel_rfl) (by kernel_rfl) (by kernel_rfl) (by kernel_rfl) (by kernel_rfl) (fun
    | .e0 w10 => (Tr.run_of (g := (.test (decide (w10 ≠ (0 : Int))) (.ret (.r0 (IntKind.i64.wrap (w10 + (IntKind.i64.wrap (x1.tdiv (2 : Int))).tmod w10)))) .fail)) (f := f28W) (by kernel_rfl))))))
inductive f30o where
  | r0 (y11 : List (List PV))
  | r1 (y12 : List (List PV))
noncomputable def f30W  : f30o → Res
  | .r0 y11 => Res.pv (PV.list (96 : Nat) y11)
  | .r1 y12 => Res.fresh (96 : Nat) y12
noncomputable def f30L0c (N : Nat) (x0 : List (List PV)) : Code := Tr.waitC (evRes (E0 N) (100 : Nat) (30 : Nat) [PV.list (94 : Nat) x0])
inductive f30L0s where
  | s0 
  | s1 
  | s2 (y5 : Int) (y6 : List (List PV))
noncomputable def f30L0S (x0 : List (List PV)) : f30L0s → St
  | .s0  => { tmps := [AV.pv (PV.list (94 : Nat) x0), AV.pv PV.undef, AV.pv PV.undef, AV.lit (96 : Nat) [], AV.pv (PV.int IntKind.i64 (0 : Int)), AV.pv PV.undef, AV.pv PV.undef, AV.pv PV.undef, AV.pv PV.undef, AV.pv PV.undef, AV.pv PV.undef, AV.pv PV.undef, AV.pv PV.undef, AV.pv PV.undef, AV.pv PV.undef, AV.pv PV.undef, AV.pv PV.undef, AV.pv PV.undef, AV.pv PV.undef, AV.pv PV.undef, AV.pv PV.undef, AV.pv PV.undef, AV.pv PV.undef, AV.pv PV.undef, AV.pv PV.undef, AV.pv PV.undef, AV.pv PV.undef, AV.pv PV.undef, AV.pv PV.undef, AV.pv PV.undef, AV.pv PV.undef, AV.pv PV.undef, AV.pv PV.undef, AV.pv PV.undef, AV.pv PV.undef, AV.pv PV.undef, AV.pv PV.undef, AV.pv PV.undef, AV.pv PV.undef, AV.pv PV.undef, AV.pv PV.undef, AV.pv PV.undef], stack := [], mem := [], cur := (0 : Nat), ctr := (1 : Nat), fn := (30 : Nat) }
  | .s1  => { tmps := [AV.pv (PV.list (94 : Nat) x0), AV.pv PV.undef, AV.pv PV.undef, AV.own (540 : Nat), AV.pv (PV.int IntKind.i64 (1 : Int)), AV.pv PV.undef, AV.pv PV.undef, AV.pv PV.undef, AV.pv PV.undef, AV.pv PV.undef, AV.pv PV.undef, AV.pv PV.undef, AV.pv PV.undef, AV.pv PV.undef, AV.pv PV.undef, AV.pv PV.undef, AV.pv PV.undef, AV.pv PV.undef, AV.pv PV.undef, AV.pv PV.undef, AV.pv PV.undef, AV.pv PV.undef, AV.pv PV.undef, AV.pv PV.undef, AV.pv PV.undef, AV.pv PV.undef, AV.pv PV.undef, AV.pv PV.undef, AV.pv PV.undef, AV.pv PV.undef, AV.pv PV.undef, AV.pv PV.undef, AV.pv PV.undef, AV.pv PV.undef, AV.pv PV.undef, AV.pv PV.undef, AV.pv PV.undef, AV.pv PV.undef, AV.pv PV.undef, AV.pv PV.undef, AV.pv PV.undef, AV.pv PV.undef], stack := [], mem := [((540 : Nat), Ob.row (2 : Nat) (96 : Nat) [[PV.int IntKind.i64 (pInt ((x0.getD (Int.toNat (0 : Int)) []).headD PV.undef)), PV.int IntKind.i64 (pInt ((x0.getD (Int.toNat (0 : Int)) []).tail.headD PV.undef)), PV.int IntKind.i64 (pInt ((x0.getD (Int.toNat (0 : Int)) []).tail.tail.headD PV.undef)), PV.int IntKind.i64 (pInt ((x0.getD (Int.toNat (0 : Int)) []).tail.tail.tail.headD PV.undef)), PV.int IntKind.i64 (pInt ((x0.getD (Int.toNat (0 : Int)) []).tail.tail.tail.tail.headD PV.undef)), PV.int IntKind.i64 (pInt ((x0.getD (Int.toNat (0 : Int)) []).tail.tail.tail.tail.tail.headD PV.undef))]])], cur := (0 : Nat), ctr := (1 : Nat), fn := (30 : Nat) }
  | .s2 y5 y6 => { tmps := [AV.pv (PV.list (94 : Nat) x0), AV.pv PV.undef, AV.pv PV.undef, AV.own (540 : Nat), AV.pv (PV.int IntKind.i64 y5), AV.pv PV.undef, AV.pv PV.undef, AV.pv PV.undef, AV.pv PV.undef, AV.pv PV.undef, AV.pv PV.undef, AV.pv PV.undef, AV.pv PV.undef, AV.pv PV.undef, AV.pv PV.undef, AV.pv PV.undef, AV.pv PV.undef, AV.pv PV.undef, AV.pv PV.undef, AV.pv PV.undef, AV.pv PV.undef, AV.pv PV.undef, AV.pv PV.undef, AV.pv PV.undef, AV.pv PV.undef, AV.pv PV.undef, AV.pv PV.undef, AV.pv PV.undef, AV.pv PV.undef, AV.pv PV.undef, AV.pv PV.undef, AV.pv PV.undef, AV.pv PV.undef, AV.pv PV.undef, AV.pv PV.undef, AV.pv PV.undef, AV.pv PV.undef, AV.pv PV.undef, AV.pv PV.undef, AV.pv PV.undef, AV.pv PV.undef, AV.pv PV.undef], stack := [], mem := [((540 : Nat), Ob.row (1 : Nat) (96 : Nat) y6)], cur := (0 : Nat), ctr := (1 : Nat), fn := (30 : Nat) }
inductive f30L0e where
  | e0 
  | e1 
  | e2 (y7 : List (List PV))
noncomputable def f30L0T (x0 : List (List PV)) : f30L0e → (Ex × St)
  | .e0  => (Ex.exit (0 : Nat), { tmps := [AV.pv PV.undef, AV.pv PV.undef, AV.pv PV.undef, AV.lit (96 : Nat) [], AV.pv PV.undef, AV.pv PV.undef, AV.pv PV.undef, AV.pv PV.undef, AV.pv PV.undef, AV.pv PV.undef, AV.pv PV.undef, AV.pv PV.undef, AV.pv PV.undef, AV.pv PV.undef, AV.pv PV.undef, AV.pv PV.undef, AV.pv PV.undef, AV.pv PV.undef, AV.pv PV.undef, AV.pv PV.undef, AV.pv PV.undef, AV.pv PV.undef, AV.pv PV.undef, AV.pv PV.undef, AV.pv PV.undef, AV.pv PV.undef, AV.pv PV.undef, AV.pv PV.undef, AV.pv PV.undef, AV.pv PV.undef, AV.pv PV.undef, AV.pv PV.undef, AV.pv PV.undef, AV.pv PV.undef, AV.pv PV.undef, AV.pv PV.undef, AV.pv PV.undef, AV.pv PV.undef, AV.pv PV.undef, AV.pv PV.undef, AV.pv PV.undef, AV.pv PV.undef], stack := [], mem := [], cur := (0 : Nat), ctr := (1 : Nat), fn := (30 : Nat) })
  | .e1  => (Ex.exit (0 : Nat), { tmps := [AV.pv PV.undef, AV.pv PV.undef, AV.pv PV.undef, AV.own (540 : Nat), AV.pv PV.undef, AV.pv PV.undef, AV.pv PV.undef, AV.pv PV.undef, AV.pv PV.undef, AV.pv PV.undef, AV.pv PV.undef, AV.pv PV.undef, AV.pv PV.undef, AV.pv PV.undef, AV.pv PV.undef, AV.pv PV.undef, AV.pv PV.undef, AV.pv PV.undef, AV.pv PV.undef, AV.pv PV.undef, AV.pv PV.undef, AV.pv PV.undef, AV.pv PV.undef, AV.pv PV.undef, AV.pv PV.undef, AV.pv PV.undef, AV.pv PV.undef, AV.pv PV.undef, AV.pv PV.undef, AV.pv PV.undef, AV.pv PV.undef, AV.pv PV.undef, AV.pv PV.undef, AV.pv PV.undef, AV.pv PV.undef, AV.pv PV.undef, AV.pv PV.undef, AV.pv PV.undef, AV.pv PV.undef, AV.pv PV.undef, AV.pv PV.undef, AV.pv PV.undef], stack := [], mem := [((540 : Nat), Ob.row (2 : Nat) (96 : Nat) [[PV.int IntKind.i64 (pInt ((x0.getD (Int.toNat (0 : Int)) []).headD PV.undef)), PV.int IntKind.i64 (pInt ((x0.getD (Int.toNat (0 : Int)) []).tail.headD PV.undef)), PV.int IntKind.i64 (pInt ((x0.getD (Int.toNat (0 : Int)) []).tail.tail.headD PV.undef)), PV.int IntKind.i64 (pInt ((x0.getD (Int.toNat (0 : Int)) []).tail.tail.tail.headD PV.undef)), PV.int IntKind.i64 (pInt ((x0.getD (Int.toNat (0 : Int)) []).tail.tail.tail.tail.headD PV.undef)), PV.int IntKind.i64 (pInt ((x0.getD (Int.toNat (0 : Int)) []).tail.tail.tail.tail.tail.headD PV.undef))]])], cur := (0 : Nat), ctr := (1 : Nat), fn := (30 : Nat) })
  | .e2 y7 => (Ex.exit (0 : Nat), { tmps := [AV.pv PV.undef, AV.pv PV.undef, AV.pv PV.undef, AV.own (540 : Nat), AV.pv PV.undef, AV.pv PV.undef, AV.pv PV.undef, AV.pv PV.undef, AV.pv PV.undef, AV.pv PV.undef, AV.pv PV.undef, AV.pv PV.undef, AV.pv PV.undef, AV.pv PV.undef, AV.pv PV.undef, AV.pv PV.undef, AV.pv PV.undef, AV.pv PV.undef, AV.pv PV.undef, AV.pv PV.undef, AV.pv PV.undef, AV.pv PV.undef, AV.pv PV.undef, AV.pv PV.undef, AV.pv PV.undef, AV.pv PV.undef, AV.pv PV.undef, AV.pv PV.undef, AV.pv PV.undef, AV.pv PV.undef, AV.pv PV.undef, AV.pv PV.undef, AV.pv PV.undef, AV.pv PV.undef, AV.pv PV.undef, AV.pv PV.undef, AV.pv PV.undef, AV.pv PV.undef, AV.pv PV.undef, AV.pv PV.undef, AV.pv PV.undef, AV.pv PV.undef], stack := [], mem := [((540 : Nat), Ob.row (1 : Nat) (96 : Nat) y7)], cur := (0 : Nat), ctr := (1 : Nat), fn := (30 : Nat) })
noncomputable def f30L0r (N : Nat) (x0 : List (List PV)) : f30L0s → Option (f30L0s ⊕ f30L0e)
  | .s0  => Tr.run (.test (decide ((0 : Int) < (↑x0.length : Int))) (.test (decide ((0 : Int) ≤ (0 : Int)) && decide ((0 : Int) < (↑x0.length : Int))) (.test (decide ((0 : Int) ≤ (0 : Int)) && decide ((0 : Int) < (↑x0.length : Int))) (.test (decide ((0 : Int) ≤ (0 : Int)) && decide ((0 : Int) < (↑x0.length : Int))) (.test (decide ((0 : Int) ≤ (0 : Int)) && decide ((0 : Int) < (↑x0.length : Int))) (.test (decide ((0 : Int) ≤ (0 : Int)) && decide ((0 : Int) < (↑x0.length : Int))) (.ret (.inl (.s1))) .fail) .fail) .fail) .fail) .fail) (.ret (.inr (.e0))))
  | .s1  => Tr.run (.test (decide ((1 : Int) < (↑x0.length : Int))) (.test (decide ((0 : Int) ≤ (1 : Int)) && decide ((1 : Int) < (↑x0.length : Int))) (.test (decide ((0 : Int) ≤ (1 : Int)) && decide ((1 : Int) < (↑x0.length : Int))) (.test (decide ((0 : Int) ≤ (1 : Int)) && decide ((1 : Int) < (↑x0.length : Int))) (.test (decide ((0 : Int) ≤ (1 : Int)) && decide ((1 : Int) < (↑x0.length : Int))) (.test (decide ((0 : Int) ≤ (1 : Int)) && decide ((1 : Int) < (↑x0.length : Int))) (.ret (.inl (.s2 ((2 : Int)) ([[PV.int IntKind.i64 (pInt ((x0.getD (Int.toNat (0 : Int)) []).headD PV.undef)), PV.int IntKind.i64 (pInt ((x0.getD (Int.toNat (0 : Int)) []).tail.headD PV.undef)), PV.int IntKind.i64 (pInt ((x0.getD (Int.toNat (0 : Int)) []).tail.tail.headD PV.undef)), PV.int IntKind.i64 (pInt ((x0.getD (Int.toNat (0 : Int)) []).tail.tail.tail.headD PV.undef)), PV.int IntKind.i64 (pInt ((x0.getD (Int.toNat (0 : Int)) []).tail.tail.tail.tail.headD PV.undef)), PV.int IntKind.i64 (pInt ((x0.getD (Int.toNat (0 : Int)) []).tail.tail.tail.tail.tail.headD PV.undef))], [PV.int IntKind.i64 (pInt ((x0.getD (Int.toNat (1 : Int)) []).headD PV.undef)), PV.int IntKind.i64 (pInt ((x0.getD (Int.toNat (1 : Int)) []).tail.headD PV.undef)), PV.int IntKind.i64 (pInt ((x0.getD (Int.toNat (1 : Int)) []).tail.tail.headD PV.undef)), PV.int IntKind.i64 (pInt ((x0.getD (Int.toNat (1 : Int)) []).tail.tail.tail.headD PV.undef)), PV.int IntKind.i64 (pInt ((x0.getD (Int.toNat (1 : Int)) []).tail.tail.tail.tail.headD PV.undef)), PV.int IntKind.i64 (pInt ((x0.getD (Int.toNat (1 : Int)) []).tail.tail.tail.tail.tail.headD PV.undef))]])))) .fail) .fail) .fail) .fail) .fail) (.ret (.inr (.e1))))
  | .s2 z8 z9 => Tr.run (.test (decide (z8 < (↑x0.length : Int))) (.test (decide ((0 : Int) ≤ z8) && decide (z8 < (↑x0.length : Int))) (.test (decide ((0 : Int) ≤ z8) && decide (z8 < (↑x0.length : Int))) (.test (decide ((0 : Int) ≤ z8) && decide (z8 < (↑x0.length : Int))) (.test (decide ((0 : Int) ≤ z8) && decide (z8 < (↑x0.length : Int))) (.test (decide ((0 : Int) ≤ z8) && decide (z8 < (↑x0.length : Int))) (.test (decide (z9.length + [[PV.int IntKind.i64 (pInt ((x0.getD z8.toNat []).headD PV.undef)), PV.int IntKind.i64 (pInt ((x0.getD z8.toNat []).tail.headD PV.undef)), PV.int IntKind.i64 (pInt ((x0.getD z8.toNat []).tail.tail.headD PV.undef)), PV.int IntKind.i64 (pInt ((x0.getD z8.toNat []).tail.tail.tail.headD PV.undef)), PV.int IntKind.i64 (pInt ((x0.getD z8.toNat []).tail.tail.tail.tail.headD PV.undef)), PV.int IntKind.i64 (pInt ((x0.getD z8.toNat []).tail.tail.tail.tail.tail.headD PV.undef))]].length ≤ most)) (.ret (.inl (.s2 (IntKind.i64.wrap (z8 + (1 : Int))) (z9 ++ [[PV.int IntKind.i64 (pInt ((x0.getD z8.toNat []).headD PV.undef)), PV.int IntKind.i64 (pInt ((x0.getD z8.toNat []).tail.headD PV.undef)), PV.int IntKind.i64 (pInt ((x0.getD z8.toNat []).tail.tail.headD PV.undef)), PV.int IntKind.i64 (pInt ((x0.getD z8.toNat []).tail.tail.tail.headD PV.undef)), PV.int IntKind.i64 (pInt ((x0.getD z8.toNat []).tail.tail.tail.tail.headD PV.undef)), PV.int IntKind.i64 (pInt ((x0.getD z8.toNat []).tail.tail.tail.tail.tail.headD PV.undef))]])))) .fail) .fail) .fail) .fail) .fail) .fail) (.ret (.inr (.e2 (z9)))))
theorem f30L0_step (N : Nat) (x0 : List (List PV)) : ∀ x, (roundAt (E0 N) (94 : Nat) (30 : Nat) (1 : Nat) (f30L0c N x0) (f30L0S x0 x)).run = (f30L0r N x0 x).map (sumMap (f30L0S x0) (f30L0T x0))
  | .s0  => (Tr.run_of (g := (.test (decide ((0 : Int) < (↑x0.length : Int))) (.test (decide ((0 : Int) ≤ (0 : Int)) && decide ((0 : Int) < (↑x0.length : Int))) (.test (decide ((0 : Int) ≤ (0 : Int)) && decide ((0 : Int) < (↑x0.length : Int))) (.test (decide ((0 : Int) ≤ (0 : Int)) && decide ((0 : Int) < (↑x0.length : Int))) (.test (decide ((0 : Int) ≤ (0 : Int)) && decide ((0 : Int) < (↑x0.length : Int))) (.test (decide ((0 : Int) ≤ (0 : Int)) && decide ((0 : Int) < (↑x0.length : Int))) (.ret (.inl (.s1))) .fail) .fail) .fail) .fail) .fail) (.ret (.inr (.e0))))) (f := (sumMap (f30L0S x0) (f30L0T x0))) (by kernel_rfl))
  | .s1  => (Tr.run_of (g := (.test (decide ((1 : Int) < (↑x0.length : Int))) (.test (decide ((0 : Int) ≤ (1 : Int)) && decide ((1 : Int) < (↑x0.length : Int))) (.test (decide ((0 : Int) ≤ (1 : Int)) && decide ((1 : Int) < (↑x0.length : Int))) (.test (decide ((0 : Int) ≤ (1 : Int)) && decide ((1 : Int) < (↑x0.length : Int))) (.test (decide ((0 : Int) ≤ (1 : Int)) && decide ((1 : Int) < (↑x0.length : Int))) (.test (decide ((0 : Int) ≤ (1 : Int)) && decide ((1 : Int) < (↑x0.length : Int))) (.ret (.inl (.s2 ((2 : Int)) ([[PV.int IntKind.i64 (pInt ((x0.getD (Int.toNat (0 : Int)) []).headD PV.undef)), PV.int IntKind.i64 (pInt ((x0.getD (Int.toNat (0 : Int)) []).tail.headD PV.undef)), PV.int IntKind.i64 (pInt ((x0.getD (Int.toNat (0 : Int)) []).tail.tail.headD PV.undef)), PV.int IntKind.i64 (pInt ((x0.getD (Int.toNat (0 : Int)) []).tail.tail.tail.headD PV.undef)), PV.int IntKind.i64 (pInt ((x0.getD (Int.toNat (0 : Int)) []).tail.tail.tail.tail.headD PV.undef)), PV.int IntKind.i64 (pInt ((x0.getD (Int.toNat (0 : Int)) []).tail.tail.tail.tail.tail.headD PV.undef))], [PV.int IntKind.i64 (pInt ((x0.getD (Int.toNat (1 : Int)) []).headD PV.undef)), PV.int IntKind.i64 (pInt ((x0.getD (Int.toNat (1 : Int)) []).tail.headD PV.undef)), PV.int IntKind.i64 (pInt ((x0.getD (Int.toNat (1 : Int)) []).tail.tail.headD PV.undef)), PV.int IntKind.i64 (pInt ((x0.getD (Int.toNat (1 : Int)) []).tail.tail.tail.headD PV.undef)), PV.int IntKind.i64 (pInt ((x0.getD (Int.toNat (1 : Int)) []).tail.tail.tail.tail.headD PV.undef)), PV.int IntKind.i64 (pInt ((x0.getD (Int.toNat (1 : Int)) []).tail.tail.tail.tail.tail.headD PV.undef))]])))) .fail) .fail) .fail) .fail) .fail) (.ret (.inr (.e1))))) (f := (sumMap (f30L0S x0) (f30L0T x0))) (by kernel_rfl))
  | .s2 z8 z9 => (Tr.run_of (g := (.test (decide (z8 < (↑x0.length : Int))) (.test (decide ((0 : Int) ≤ z8) && decide (z8 < (↑x0.length : Int))) (.test (decide ((0 : Int) ≤ z8) && decide (z8 < (↑x0.length : Int))) (.test (decide ((0 : Int) ≤ z8) && decide (z8 < (↑x0.length : Int))) (.test (decide ((0 : Int) ≤ z8) && decide (z8 < (↑x0.length : Int))) (.test (decide ((0 : Int) ≤ z8) && decide (z8 < (↑x0.length : Int))) (.test (decide (z9.length + [[PV.int IntKind.i64 (pInt ((x0.getD z8.toNat []).headD PV.undef)), PV.int IntKind.i64 (pInt ((x0.getD z8.toNat []).tail.headD PV.undef)), PV.int IntKind.i64 (pInt ((x0.getD z8.toNat []).tail.tail.headD PV.undef)), PV.int IntKind.i64 (pInt ((x0.getD z8.toNat []).tail.tail.tail.headD PV.undef)), PV.int IntKind.i64 (pInt ((x0.getD z8.toNat []).tail.tail.tail.tail.headD PV.undef)), PV.int IntKind.i64 (pInt ((x0.getD z8.toNat []).tail.tail.tail.tail.tail.headD PV.undef))]].length ≤ most)) (.ret (.inl (.s2 (IntKind.i64.wrap (z8 + (1 : Int))) (z9 ++ [[PV.int IntKind.i64 (pInt ((x0.getD z8.toNat []).headD PV.undef)), PV.int IntKind.i64 (pInt ((x0.getD z8.toNat []).tail.headD PV.undef)), PV.int IntKind.i64 (pInt ((x0.getD z8.toNat []).tail.tail.headD PV.undef)), PV.int IntKind.i64 (pInt ((x0.getD z8.toNat []).tail.tail.tail.headD PV.undef)), PV.int IntKind.i64 (pInt ((x0.getD z8.toNat []).tail.tail.tail.tail.headD PV.undef)), PV.int IntKind.i64 (pInt ((x0.getD z8.toNat []).tail.tail.tail.tail.tail.headD PV.undef))]])))) .fail) .fail) .fail) .fail) .fail) .fail) (.ret (.inr (.e2 (z9)))))) (f := (sumMap (f30L0S x0) (f30L0T x0))) (by kernel_rfl))
noncomputable def f30 (N : Nat) (x0 : List (List PV)) : Option f30o := ((loopN (f30L0r N x0) N (.s0)).bind (fun
    | .e0  => Tr.run (.ret (.r0 ([])))
    | .e1  => Tr.run (.ret (.r1 ([[PV.int IntKind.i64 (pInt ((x0.getD (Int.toNat (0 : Int)) []).headD PV.undef)), PV.int IntKind.i64 (pInt ((x0.getD (Int.toNat (0 : Int)) []).tail.headD PV.undef)), PV.int IntKind.i64 (pInt ((x0.getD (Int.toNat (0 : Int)) []).tail.tail.headD PV.undef)), PV.int IntKind.i64 (pInt ((x0.getD (Int.toNat (0 : Int)) []).tail.tail.tail.headD PV.undef)), PV.int IntKind.i64 (pInt ((x0.getD (Int.toNat (0 : Int)) []).tail.tail.tail.tail.headD PV.undef)), PV.int IntKind.i64 (pInt ((x0.getD (Int.toNat (0 : Int)) []).tail.tail.tail.tail.tail.headD PV.undef))]])))
    | .e2 w10 => Tr.run (.ret (.r0 (w10)))))
theorem f30_run (N : Nat) (x0 : List (List PV)) : (evRes (E0 N) (100 : Nat) (30 : Nat) [PV.list (94 : Nat) x0]).run = (f30 N x0).map f30W := (wait_run (wrap := f30W) (E := E0 N) (n := (94 : Nat)) (f := (30 : Nat)) (c0 := (1 : Nat)) (c := (f30L0c N x0)) (s := Tr.waitS (evRes (E0 N) (100 : Nat) (30 : Nat) [PV.list (94 : Nat) x0])) (f30L0S x0) (f30L0T x0) (f30L0r N x0) (.s0) _ (f30L0_step N x0) (by kernel_rfl) (by kernel_rfl) (by kernel_rfl) (by kernel_rfl) (by kernel_rfl) (fun
    | .e0  => (Tr.run_of (g := (.ret (.r0 ([])))) (f := f30W) (by kernel_rfl))
    | .e1  => (Tr.run_of (g := (.ret (.r1 ([[PV.int IntKind.i64 (pInt ((x0.getD (Int.toNat (0 : Int)) []).headD PV.undef)), PV.int IntKind.i64 (pInt ((x0.getD (Int.toNat (0 : Int)) []).tail.headD PV.undef)), PV.int IntKind.i64 (pInt ((x0.getD (Int.toNat (0 : Int)) []).tail.tail.headD PV.undef)), PV.int IntKind.i64 (pInt ((x0.getD (Int.toNat (0 : Int)) []).tail.tail.tail.headD PV.undef)), PV.int IntKind.i64 (pInt ((x0.getD (Int.toNat (0 : Int)) []).tail.tail.tail.tail.headD PV.undef)), PV.int IntKind.i64 (pInt ((x0.getD (Int.toNat (0 : Int)) []).tail.tail.tail.tail.tail.headD PV.undef))]])))) (f := f30W) (by kernel_rfl))
    | .e2 w10 => (Tr.run_of (g := (.ret (.r0 (w10)))) (f := f30W) (by kernel_rfl))))
structure f35o where
  r0 ::
  (y5 : Bool)
noncomputable def f35W (o : f35o) : Res := (fun y5 => Res.pv (PV.bool y5)) o.y5
noncomputable def f35L0c (N : Nat) (x0 : List (List PV)) (x1 : List (List PV)) : Code := Tr.waitC (Tr.sub [false] (Tr.sub [false] (evRes (E0 N) (100 : Nat) (35 : Nat) [PV.list (3 : Nat) x0, PV.list (3 : Nat) x1])))
inductive f35L0s where
  | s0 (y3 : Int)
noncomputable def f35L0S (x0 : List (List PV)) (x1 : List (List PV)) : f35L0s → St
  | .s0 y3 => { tmps := [AV.pv (PV.list (3 : Nat) x0), AV.pv (PV.list (3 : Nat) x1), AV.pv PV.undef, AV.pv PV.undef, AV.pv PV.undef, AV.pv PV.undef, AV.pv PV.undef, AV.pv PV.undef, AV.pv PV.undef, AV.pv PV.undef, AV.pv PV.undef, AV.pv PV.undef, AV.pv (PV.int IntKind.i64 (↑x0.length : Int)), AV.pv (PV.int IntKind.i64 y3), AV.pv PV.undef, AV.pv PV.undef, AV.pv PV.undef, AV.pv PV.undef, AV.pv PV.undef, AV.pv PV.undef, AV.pv PV.undef, AV.pv PV.undef, AV.pv PV.undef, AV.pv PV.undef, AV.pv PV.undef, AV.pv PV.undef], stack := [], mem := [], cur := (0 : Nat), ctr := (1 : Nat), fn := (35 : Nat) }
inductive f35L0e where
  | e0 
  | e1 
noncomputable def f35L0T (x0 : List (List PV)) (x1 : List (List PV)) : f35L0e → (Ex × St)
  | .e0  => (Ex.ret, { tmps := [AV.pv PV.undef, AV.pv PV.undef, AV.pv PV.undef, AV.pv PV.undef, AV.pv (PV.bool false), AV.pv PV.undef, AV.pv PV.undef, AV.pv PV.undef, AV.pv PV.undef, AV.pv PV.undef, AV.pv PV.undef, AV.pv PV.undef, AV.pv PV.undef, AV.pv PV.undef, AV.pv PV.undef, AV.pv PV.undef, AV.pv PV.undef, AV.pv PV.undef, AV.pv PV.undef, AV.pv PV.undef, AV.pv PV.undef, AV.pv PV.undef, AV.pv PV.undef, AV.pv PV.undef, AV.pv PV.undef, AV.pv PV.undef], stack := [], mem := [], cur := (0 : Nat), ctr := (1 : Nat), fn := (35 : Nat) })
  | .e1  => (Ex.exit (0 : Nat), { tmps := [AV.pv PV.undef, AV.pv PV.undef, AV.pv PV.undef, AV.pv PV.undef, AV.pv PV.undef, AV.pv PV.undef, AV.pv PV.undef, AV.pv PV.undef, AV.pv PV.undef, AV.pv PV.undef, AV.pv PV.undef, AV.pv PV.undef, AV.pv PV.undef, AV.pv PV.undef, AV.pv PV.undef, AV.pv PV.undef, AV.pv PV.undef, AV.pv PV.undef, AV.pv PV.undef, AV.pv PV.undef, AV.pv PV.undef, AV.pv PV.undef, AV.pv PV.undef, AV.pv PV.undef, AV.pv PV.undef, AV.pv PV.undef], stack := [], mem := [], cur := (0 : Nat), ctr := (1 : Nat), fn := (35 : Nat) })
noncomputable def f35L0r (N : Nat) (x0 : List (List PV)) (x1 : List (List PV)) : f35L0s → Option (f35L0s ⊕ f35L0e)
  | .s0 z4 => Tr.run (.test (decide (z4 < (↑x0.length : Int))) (.test (decide ((0 : Int) ≤ z4) && decide (z4 < (↑x0.length : Int))) (.test (decide ((0 : Int) ≤ z4) && decide (z4 < (↑x1.length : Int))) (.test (pInt ((x0.getD z4.toNat []).headD PV.undef) != pInt ((x1.getD z4.toNat []).headD PV.undef)) (.ret (.inr (.e0))) (.ret (.inl (.s0 (IntKind.i64.wrap (z4 + (1 : Int))))))) .fail) .fail) (.ret (.inr (.e1))))
theorem f35L0_step (N : Nat) (x0 : List (List PV)) (x1 : List (List PV)) : ∀ x, (roundAt (E0 N) (94 : Nat) (35 : Nat) (1 : Nat) (f35L0c N x0 x1) (f35L0S x0 x1 x)).run = (f35L0r N x0 x1 x).map (sumMap (f35L0S x0 x1) (f35L0T x0 x1))
  | .s0 z4 => (Tr.run_of (g := (.test (decide (z4 < (↑x0.length : Int))) (.test (decide ((0 : Int) ≤ z4) && decide (z4 < (↑x0.length : Int))) (.test (decide ((0 : Int) ≤ z4) && decide (z4 < (↑x1.length : Int))) (.test (pInt ((x0.getD z4.toNat []).headD PV.undef) != pInt ((x1.getD z4.toNat []).headD PV.undef)) (.ret (.inr (.e0))) (.ret (.inl (.s0 (IntKind.i64.wrap (z4 + (1 : Int))))))) .fail) .fail) (.ret (.inr (.e1))))) (f := (sumMap (f35L0S x0 x1) (f35L0T x0 x1))) (by kernel_rfl))
noncomputable def f35 (N : Nat) (x0 : List (List PV)) (x1 : List (List PV)) : Option f35o := (bif ((↑x0.length : Int) != (↑x1.length : Int)) then (Tr.run (.ret (.r0 (false)))) else ((loopN (f35L0r N x0 x1) N (.s0 ((0 : Int)))).bind (fun
    | .e0  => Tr.run (.ret (.r0 (false)))
    | .e1  => Tr.run (.ret (.r0 (true))))))
theorem f35_run (N : Nat) (x0 : List (List PV)) (x1 : List (List PV)) : (evRes (E0 N) (100 : Nat) (35 : Nat) [PV.list (3 : Nat) x0, PV.list (3 : Nat) x1]).run = (f35 N x0 x1).map f35W := (test_run (b := (↑x0.length : Int) != (↑x1.length : Int)) (by kernel_rfl) (by kernel_rfl) (Tr.run_of (g := (.ret (.r0 (false)))) (f := f35W) (by kernel_rfl)) (test_false (by kernel_rfl) (by kernel_rfl) (wait_run (wrap := f35W) (E := E0 N) (n := (94 : Nat)) (f := (35 : Nat)) (c0 := (1 : Nat)) (c := (f35L0c N x0 x1)) (s := Tr.waitS (Tr.sub [false] (Tr.sub [false] (evRes (E0 N) (100 : Nat) (35 : Nat) [PV.list (3 : Nat) x0, PV.list (3 : Nat) x1])))) (f35L0S x0 x1) (f35L0T x0 x1) (f35L0r N x0 x1) (.s0 ((0 : Int))) _ (f35L0_step N x0 x1) (by kernel_rfl) (by kernel_rfl) (by kernel_rfl) (by kernel_rfl) (by kernel_rfl) (fun
    | .e0  => (Tr.run_of (g := (.ret (.r0 (false)))) (f := f35W) (by kernel_rfl))
    | .e1  => (Tr.run_of (g := (.ret (.r0 (true)))) (f := f35W) (by kernel_rfl))))))
structure f36o where
  r0 ::
  (y5 : Bool)
noncomputable def f36W (o : f36o) : Res := (fun y5 => Res.pv (PV.bool y5)) o.y5
noncomputable def f36L0c (N : Nat) (x0 : List (List PV)) (x1 : List (List PV)) : Code := Tr.waitC (Tr.sub [false] (Tr.sub [false] (evRes (E0 N) (100 : Nat) (36 : Nat) [PV.list (84 : Nat) x0, PV.list (84 : Nat) x1])))
inductive f36L0s where
  | s0 (y3 : Int)
noncomputable def f36L0S (x0 : List (List PV)) (x1 : List (List PV)) : f36L0s → St
  | .s0 y3 => { tmps := [AV.pv (PV.list (84 : Nat) x0), AV.pv (PV.list (84 : Nat) x1), AV.pv PV.undef, AV.pv PV.undef, AV.pv PV.undef, AV.pv PV.undef, AV.pv PV.undef, AV.pv PV.undef, AV.pv PV.undef, AV.pv PV.undef, AV.pv PV.undef, AV.pv PV.undef, AV.pv (PV.int IntKind.i64 (↑x0.length : Int)), AV.pv (PV.int IntKind.i64 y3), AV.pv PV.undef, AV.pv PV.undef, AV.pv PV.undef, AV.pv PV.undef, AV.pv PV.undef, AV.pv PV.undef, AV.pv PV.undef, AV.pv PV.undef, AV.pv PV.undef, AV.pv PV.undef, AV.pv PV.undef, AV.pv PV.undef], stack := [], mem := [], cur := (0 : Nat), ctr := (1 : Nat), fn := (36 : Nat) }
inductive f36L0e where
  | e0 
  | e1 
noncomputable def f36L0T (x0 : List (List PV)) (x1 : List (List PV)) : f36L0e → (Ex × St)
  | .e0  => (Ex.ret, { tmps := [AV.pv PV.undef, AV.pv PV.undef, AV.pv PV.undef, AV.pv PV.undef, AV.pv (PV.bool false), AV.pv PV.undef, AV.pv PV.undef, AV.pv PV.undef, AV.pv PV.undef, AV.pv PV.undef, AV.pv PV.undef, AV.pv PV.undef, AV.pv PV.undef, AV.pv PV.undef, AV.pv PV.undef, AV.pv PV.undef, AV.pv PV.undef, AV.pv PV.undef, AV.pv PV.undef, AV.pv PV.undef, AV.pv PV.undef, AV.pv PV.undef, AV.pv PV.undef, AV.pv PV.undef, AV.pv PV.undef, AV.pv PV.undef], stack := [], mem := [], cur := (0 : Nat), ctr := (1 : Nat), fn := (36 : Nat) })
  | .e1  => (Ex.exit (0 : Nat), { tmps := [AV.pv PV.undef, AV.pv PV.undef, AV.pv PV.undef, AV.pv PV.undef, AV.pv PV.undef, AV.pv PV.undef, AV.pv PV.undef, AV.pv PV.undef, AV.pv PV.undef, AV.pv PV.undef, AV.pv PV.undef, AV.pv PV.undef, AV.pv PV.undef, AV.pv PV.undef, AV.pv PV.undef, AV.pv PV.undef, AV.pv PV.undef, AV.pv PV.undef, AV.pv PV.undef, AV.pv PV.undef, AV.pv PV.undef, AV.pv PV.undef, AV.pv PV.undef, AV.pv PV.undef, AV.pv PV.undef, AV.pv PV.undef], stack := [], mem := [], cur := (0 : Nat), ctr := (1 : Nat), fn := (36 : Nat) })
noncomputable def f36L0r (N : Nat) (x0 : List (List PV)) (x1 : List (List PV)) : f36L0s → Option (f36L0s ⊕ f36L0e)
  | .s0 z4 => Tr.run (.test (decide (z4 < (↑x0.length : Int))) (.test (decide ((0 : Int) ≤ z4) && decide (z4 < (↑x0.length : Int))) (.test (decide ((0 : Int) ≤ z4) && decide (z4 < (↑x1.length : Int))) (.test (!(pInt ((x0.getD z4.toNat []).headD PV.undef) == pInt ((x1.getD z4.toNat []).headD PV.undef) && (pInt ((x0.getD z4.toNat []).tail.headD PV.undef) == pInt ((x1.getD z4.toNat []).tail.headD PV.undef) && true))) (.ret (.inr (.e0))) (.ret (.inl (.s0 (IntKind.i64.wrap (z4 + (1 : Int))))))) .fail) .fail) (.ret (.inr (.e1))))
theorem f36L0_step (N : Nat) (x0 : List (List PV)) (x1 : List (List PV)) : ∀ x, (roundAt (E0 N) (94 : Nat) (36 : Nat) (1 : Nat) (f36L0c N x0 x1) (f36L0S x0 x1 x)).run = (f36L0r N x0 x1 x).map (sumMap (f36L0S x0 x1) (f36L0T x0 x1))
  | .s0 z4 => (Tr.run_of (g := (.test (decide (z4 < (↑x0.length : Int))) (.test (decide ((0 : Int) ≤ z4) && decide (z4 < (↑x0.length : Int))) (.test (decide ((0 : Int) ≤ z4) && decide (z4 < (↑x1.length : Int))) (.test (!(pInt ((x0.getD z4.toNat []).headD PV.undef) == pInt ((x1.getD z4.toNat []).headD PV.undef) && (pInt ((x0.getD z4.toNat []).tail.headD PV.undef) == pInt ((x1.getD z4.toNat []).tail.headD PV.undef) && true))) (.ret (.inr (.e0))) (.ret (.inl (.s0 (IntKind.i64.wrap (z4 + (1 : Int))))))) .fail) .fail) (.ret (.inr (.e1))))) (f := (sumMap (f36L0S x0 x1) (f36L0T x0 x1))) (by kernel_rfl))
noncomputable def f36 (N : Nat) (x0 : List (List PV)) (x1 : List (List PV)) : Option f36o := (bif ((↑x0.length : Int) != (↑x1.length : Int)) then (Tr.run (.ret (.r0 (false)))) else ((loopN (f36L0r N x0 x1) N (.s0 ((0 : Int)))).bind (fun
    | .e0  => Tr.run (.ret (.r0 (false)))
    | .e1  => Tr.run (.ret (.r0 (true))))))
theorem f36_run (N : Nat) (x0 : List (List PV)) (x1 : List (List PV)) : (evRes (E0 N) (100 : Nat) (36 : Nat) [PV.list (84 : Nat) x0, PV.list (84 : Nat) x1]).run = (f36 N x0 x1).map f36W := (test_run (b := (↑x0.length : Int) != (↑x1.length : Int)) (by kernel_rfl) (by kernel_rfl) (Tr.run_of (g := (.ret (.r0 (false)))) (f := f36W) (by kernel_rfl)) (test_false (by kernel_rfl) (by kernel_rfl) (wait_run (wrap := f36W) (E := E0 N) (n := (94 : Nat)) (f := (36 : Nat)) (c0 := (1 : Nat)) (c := (f36L0c N x0 x1)) (s := Tr.waitS (Tr.sub [false] (Tr.sub [false] (evRes (E0 N) (100 : Nat) (36 : Nat) [PV.list (84 : Nat) x0, PV.list (84 : Nat) x1])))) (f36L0S x0 x1) (f36L0T x0 x1) (f36L0r N x0 x1) (.s0 ((0 : Int))) _ (f36L0_step N x0 x1) (by kernel_rfl) (by kernel_rfl) (by kernel_rfl) (by kernel_rfl) (by kernel_rfl) (fun
    | .e0  => (Tr.run_of (g := (.ret (.r0 (false)))) (f := f36W) (by kernel_rfl))
    | .e1  => (Tr.run_of (g := (.ret (.r0 (true)))) (f := f36W) (by kernel_rfl))))))
structure f37o where
  r0 ::
  (y5 : Bool)
noncomputable def f37W (o : f37o) : Res := (fun y5 => Res.pv (PV.bool y5)) o.y5
noncomputable def f37L0c (N : Nat) (x0 : List (List PV)) (x1 : List (List PV)) : Code := Tr.waitC (Tr.sub [false] (Tr.sub [false] (evRes (E0 N) (100 : Nat) (37 : Nat) [PV.list (77 : Nat) x0, PV.list (77 : Nat) x1])))
inductive f37L0s where
  | s0 (y3 : Int)
noncomputable def f37L0S (x0 : List (List PV)) (x1 : List (List PV)) : f37L0s → St
  | .s0 y3 => { tmps := [AV.pv (PV.list (77 : Nat) x0), AV.pv (PV.list (77 : Nat) x1), AV.pv PV.undef, AV.pv PV.undef, AV.pv PV.undef, AV.pv PV.undef, AV.pv PV.undef, AV.pv PV.undef, AV.pv PV.undef, AV.pv PV.undef, AV.pv PV.undef, AV.pv PV.undef, AV.pv (PV.int IntKind.i64 (↑x0.length : Int)), AV.pv (PV.int IntKind.i64 y3), AV.pv PV.undef, AV.pv PV.undef, AV.pv PV.undef, AV.pv PV.undef, AV.pv PV.undef, AV.pv PV.undef, AV.pv PV.undef, AV.pv PV.undef, AV.pv PV.undef, AV.pv PV.undef, AV.pv PV.undef, AV.pv PV.undef], stack := [], mem := [], cur := (0 : Nat), ctr := (1 : Nat), fn := (37 : Nat) }
inductive f37L0e where
  | e0 
  | e1 
noncomputable def f37L0T (x0 : List (List PV)) (x1 : List (List PV)) : f37L0e → (Ex × St)
  | .e0  => (Ex.ret, { tmps := [AV.pv PV.undef, AV.pv PV.undef, AV.pv PV.undef, AV.pv PV.undef, AV.pv (PV.bool false), AV.pv PV.undef, AV.pv PV.undef, AV.pv PV.undef, AV.pv PV.undef, AV.pv PV.undef, AV.pv PV.undef, AV.pv PV.undef, AV.pv PV.undef, AV.pv PV.undef, AV.pv PV.undef, AV.pv PV.undef, AV.pv PV.undef, AV.pv PV.undef, AV.pv PV.undef, AV.pv PV.undef, AV.pv PV.undef, AV.pv PV.undef, AV.pv PV.undef, AV.pv PV.undef, AV.pv PV.undef, AV.pv PV.undef], stack := [], mem := [], cur := (0 : Nat), ctr := (1 : Nat), fn := (37 : Nat) })
  | .e1  => (Ex.exit (0 : Nat), { tmps := [AV.pv PV.undef, AV.pv PV.undef, AV.pv PV.undef, AV.pv PV.undef, AV.pv PV.undef, AV.pv PV.undef, AV.pv PV.undef, AV.pv PV.undef, AV.pv PV.undef, AV.pv PV.undef, AV.pv PV.undef, AV.pv PV.undef, AV.pv PV.undef, AV.pv PV.undef, AV.pv PV.undef, AV.pv PV.undef, AV.pv PV.undef, AV.pv PV.undef, AV.pv PV.undef, AV.pv PV.undef, AV.pv PV.undef, AV.pv PV.undef, AV.pv PV.undef, AV.pv PV.undef, AV.pv PV.undef, AV.pv PV.undef], stack := [], mem := [], cur := (0 : Nat), ctr := (1 : Nat), fn := (37 : Nat) })
noncomputable def f37L0r (N : Nat) (x0 : List (List PV)) (x1 : List (List PV)) : f37L0s → Option (f37L0s ⊕ f37L0e)
  | .s0 z4 => Tr.run (.test (decide (z4 < (↑x0.length : Int))) (.test (decide ((0 : Int) ≤ z4) && decide (z4 < (↑x0.length : Int))) (.test (decide ((0 : Int) ≤ z4) && decide (z4 < (↑x1.length : Int))) (.test (!(pInt ((x0.getD z4.toNat []).headD PV.undef) == pInt ((x1.getD z4.toNat []).headD PV.undef) && (pInt ((x0.getD z4.toNat []).tail.headD PV.undef) == pInt ((x1.getD z4.toNat []).tail.headD PV.undef) && (pInt ((x0.getD z4.toNat []).tail.tail.headD PV.undef) == pInt ((x1.getD z4.toNat []).tail.tail.headD PV.undef) && true) && true))) (.ret (.inr (.e0))) (.ret (.inl (.s0 (IntKind.i64.wrap (z4 + (1 : Int))))))) .fail) .fail) (.ret (.inr (.e1))))
theorem f37L0_step (N : Nat) (x0 : List (List PV)) (x1 : List (List PV)) : ∀ x, (roundAt (E0 N) (94 : Nat) (37 : Nat) (1 : Nat) (f37L0c N x0 x1) (f37L0S x0 x1 x)).run = (f37L0r N x0 x1 x).map (sumMap (f37L0S x0 x1) (f37L0T x0 x1))
  | .s0 z4 => (Tr.run_of (g := (.test (decide (z4 < (↑x0.length : Int))) (.test (decide ((0 : Int) ≤ z4) && decide (z4 < (↑x0.length : Int))) (.test (decide ((0 : Int) ≤ z4) && decide (z4 < (↑x1.length : Int))) (.test (!(pInt ((x0.getD z4.toNat []).headD PV.undef) == pInt ((x1.getD z4.toNat []).headD PV.undef) && (pInt ((x0.getD z4.toNat []).tail.headD PV.undef) == pInt ((x1.getD z4.toNat []).tail.headD PV.undef) && (pInt ((x0.getD z4.toNat []).tail.tail.headD PV.undef) == pInt ((x1.getD z4.toNat []).tail.tail.headD PV.undef) && true) && true))) (.ret (.inr (.e0))) (.ret (.inl (.s0 (IntKind.i64.wrap (z4 + (1 : Int))))))) .fail) .fail) (.ret (.inr (.e1))))) (f := (sumMap (f37L0S x0 x1) (f37L0T x0 x1))) (by kernel_rfl))
noncomputable def f37 (N : Nat) (x0 : List (List PV)) (x1 : List (List PV)) : Option f37o := (bif ((↑x0.length : Int) != (↑x1.length : Int)) then (Tr.run (.ret (.r0 (false)))) else ((loopN (f37L0r N x0 x1) N (.s0 ((0 : Int)))).bind (fun
    | .e0  => Tr.run (.ret (.r0 (false)))
    | .e1  => Tr.run (.ret (.r0 (true))))))
theorem f37_run (N : Nat) (x0 : List (List PV)) (x1 : List (List PV)) : (evRes (E0 N) (100 : Nat) (37 : Nat) [PV.list (77 : Nat) x0, PV.list (77 : Nat) x1]).run = (f37 N x0 x1).map f37W := (test_run (b := (↑x0.length : Int) != (↑x1.length : Int)) (by kernel_rfl) (by kernel_rfl) (Tr.run_of (g := (.ret (.r0 (false)))) (f := f37W) (by kernel_rfl)) (test_false (by kernel_rfl) (by kernel_rfl) (wait_run (wrap := f37W) (E := E0 N) (n := (94 : Nat)) (f := (37 : Nat)) (c0 := (1 : Nat)) (c := (f37L0c N x0 x1)) (s := Tr.waitS (Tr.sub [false] (Tr.sub [false] (evRes (E0 N) (100 : Nat) (37 : Nat) [PV.list (77 : Nat) x0, PV.list (77 : Nat) x1])))) (f37L0S x0 x1) (f37L0T x0 x1) (f37L0r N x0 x1) (.s0 ((0 : Int))) _ (f37L0_step N x0 x1) (by kernel_rfl) (by kernel_rfl) (by kernel_rfl) (by kernel_rfl) (by kernel_rfl) (fun
    | .e0  => (Tr.run_of (g := (.ret (.r0 (false)))) (f := f37W) (by kernel_rfl))
    | .e1  => (Tr.run_of (g := (.ret (.r0 (true)))) (f := f37W) (by kernel_rfl))))))
end Go.Proofs.YtnpohdnijgkkdaaS
