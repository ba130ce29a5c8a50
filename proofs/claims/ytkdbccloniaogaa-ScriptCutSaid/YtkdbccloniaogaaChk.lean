/- config.Check, walked by hand: an array of arrays. Conditions: none. -/
import Derived.Below
import Derived.Deep.Draws
import Derived.Deep.AppendLies
import Derived.Maps.AppendAt
import Derived.OwnWalk
import Derived.Laws.BytesArg
import Derived.Laws.MakeOwn
import Derived.Laws.OwnMore
import Derived.Deep.OwnRows
import Derived.Tactics
import Derived.Lib.ConvBytes
import Derived.Laws.Slices
import Derived.WalkKit
import Derived.KernelRfl
import Derived.RowKit3
import Derived.Deep.LoopGhost
import Derived.Deep.QuietTactic
import Derived.BigQuiet
import Derived.WideLaws
import Derived.Deep.DeepCutAuto
import Derived.Deep.CutBlock
import Derived.Deep.RegionHeld3
import Derived.Laws.Rows
import Derived.Lib.AppendStr
import Derived.ArgAppend
import Derived.Laws.IdiomCopy
import Derived.OrdersHeld
import Derived.Laws.BitsLemmas
import Derived.RowKit
import Derived.Test.YtkdbccloniaogaaF1
import Derived.Test.YtkdbccloniaogaaSimPure
set_option linter.unusedVariables false
set_option linter.unusedSimpArgs false
namespace Go.Proofs.YtkdbccloniaogaaS
open Go Go.Proofs Go.RowKit
/-! ### config_Check: function 21 -/
/-- The first number of a config that may not be; 0: none. -/
def config_Check.v (a0_0 : Int) (a0_1 : Int) (a0_2 : Int) (a0_3 : Int) (a0_4 : Int) (a0_5 : Int) (a0_6 : Int) (a0_7 : Int) (a0_8 : Bool) (a0_9 : Int) (a0_10 : Int) (a0_11 : Int) : Int :=
  if a0_0 < 1 ∨ a0_0 > 16 then 50 else if a0_1 < 1 ∨ a0_1 > 4 then 51 else if a0_2 < 1 ∨ a0_2 > 3 then 52 else if a0_3 < 0 ∨ a0_3 > 4 then 53 else if a0_4 < 0 ∨ a0_4 > 3 then 54 else if a0_5 < 1 ∨ a0_5 > 8 then 55 else if a0_6 < 0 ∨ a0_6 > 20 then 56 else if a0_7 < 0 ∨ a0_7 > 1000 then 57 else if a0_8 = true ∧ (a0_11 < a0_9 ∨ a0_10 < a0_11) then 58 else 0
def config_Check.f (a0_0 : Int) (a0_1 : Int) (a0_2 : Int) (a0_3 : Int) (a0_4 : Int) (a0_5 : Int) (a0_6 : Int) (a0_7 : Int) (a0_8 : Bool) (a0_9 : Int) (a0_10 : Int) (a0_11 : Int) : Option Int := some (config_Check.v a0_0 a0_1 a0_2 a0_3 a0_4 a0_5 a0_6 a0_7 a0_8 a0_9 a0_10 a0_11)
def config_Check.Post (n : Int) (w : World) (e : Ending) (w' : World) : Prop := e = .returned (.int .i64 n) ∧ Below w.heap.size w w'
theorem config_Check.ret {a b : Int} (h : a = b) : Ending.returned (.int .i64 a) = .returned (.int .i64 b) := by rw [h]
theorem config_Check.i0 (a0_0 : Int) (a0_1 : Int) (a0_2 : Int) (a0_3 : Int) (a0_4 : Int) (a0_5 : Int) (a0_6 : Int) (a0_7 : Int) (w : World) : (Instr.index 73 (.agg #[.int .i64 a0_0, .int .i64 1, .int .i64 16, .int .i64 a0_1, .int .i64 1, .int .i64 4, .int .i64 a0_2, .int .i64 1, .int .i64 3, .int .i64 a0_3, .int .i64 0, .int .i64 4, .int .i64 a0_4, .int .i64 0, .int .i64 3, .int .i64 a0_5, .int .i64 1, .int .i64 8, .int .i64 a0_6, .int .i64 0, .int .i64 20, .int .i64 a0_7, .int .i64 0, .int .i64 1000]) (.int .i64 0)).run Try.prog w = .ok (.agg #[.int .i64 a0_0, .int .i64 1, .int .i64 16]) w := by kernel_rfl
theorem config_Check.i1 (a0_0 : Int) (a0_1 : Int) (a0_2 : Int) (a0_3 : Int) (a0_4 : Int) (a0_5 : Int) (a0_6 : Int) (a0_7 : Int) (w : World) : (Instr.index 73 (.agg #[.int .i64 a0_0, .int .i64 1, .int .i64 16, .int .i64 a0_1, .int .i64 1, .int .i64 4, .int .i64 a0_2, .int .i64 1, .int .i64 3, .int .i64 a0_3, .int .i64 0, .int .i64 4, .int .i64 a0_4, .int .i64 0, .int .i64 3, .int .i64 a0_5, .int .i64 1, .int .i64 8, .int .i64 a0_6, .int .i64 0, .int .i64 20, .int .i64 a0_7, .int .i64 0, .int .i64 1000]) (.int .i64 1)).run Try.prog w = .ok (.agg #[.int .i64 a0_1, .int .i64 1, .int .i64 4]) w := by kernel_rfl
theorem config_Check.i2 (a0_0 : Int) (a0_1 : Int) (a0_2 : Int) (a0_3 : Int) (a0_4 : Int) (a0_5 : Int) (a0_6 : Int) (a0_7 : Int) (w : World) : (Instr.index 73 (.agg #[.int .i64 a0_0, .int .i64 1, .int .i64 16, .int .i64 a0_1, .int .i64 1, .int .i64 4, .int .i64 a0_2, .int .i64 1, .int .i64 3, .int .i64 a0_3, .int .i64 0, .int .i64 4, .int .i64 a0_4, .int .i64 0, .int .i64 3, .int .i64 a0_5, .int .i64 1, .int .i64 8, .int .i64 a0_6, .int .i64 0, .int .i64 20, .int .i64 a0_7, .int .i64 0, .int .i64 1000]) (.int .i64 2)).run Try.prog w = .ok (.agg #[.int .i64 a0_2, .int .i64 1, .int .i64 3]) w := by kernel_rfl
theorem config_Check.i3 (a0_0 : Int) (a0_1 : Int) (a0_2 : Int) (a0_3 : Int) (a0_4 : Int) (a0_5 : Int) (a0_6 : Int) (a0_7 : Int) (w : World) : (Instr.index 73 (.agg #[.int .i64 a0_0, .int .i64 1, .int .i64 16, .int .i64 a0_1, .int .i64 1, .int .i64 4, .int .i64 a0_2, .int .i64 1, .int .i64 3, .int .i64 a0_3, .int .i64 0, .int .i64 4, .int .i64 a0_4, .int .i64 0, .int .i64 3, .int .i64 a0_5, .int .i64 1, .int .i64 8, .int .i64 a0_6, .int .i64 0, .int .i64 20, .int .i64 a0_7, .int .i64 0, .int .i64 1000]) (.int .i64 3)).run Try.prog w = .ok (.agg #[.int .i64 a0_3, .int .i64 0, .int .i64 4]) w := by kernel_rfl
theorem config_Check.i4 (a0_0 : Int) (a0_1 : Int) (a0_2 : Int) (a0_3 : Int) (a0_4 : Int) (a0_5 : Int) (a0_6 : Int) (a0_7 : Int) (w : World) : (Instr.index 73 (.agg #[.int .i64 a0_0, .int .i64 1, .int .i64 16, .int .i64 a0_1, .int .i64 1, .int .i64 4, .int .i64 a0_2, .int .i64 1, .int .i64 3, .int .i64 a0_3, .int .i64 0, .int .i64 4, .int .i64 a0_4, .int .i64 0, .int .i64 3, .int .i64 a0_5, .int .i64 1, .int .i64 8, .int .i64 a0_6, .int .i64 0, .int .i64 20, .int .i64 a0_7, .int .i64 0, .int .i64 1000]) (.int .i64 4)).run Try.prog w = .ok (.agg #[.int .i64 a0_4, .int .i64 0, .int .i64 3]) w := by kernel_rfl
theorem config_Check.i5 (a0_0 : Int) (a0_1 : Int) (a0_2 : Int) (a0_3 : Int) (a0_4 : Int) (a0_5 : Int) (a0_6 : Int) (a0_7 : Int) (w : World) : (Instr.index 73 (.agg #[.int .i64 a0_0, .int .i64 1, .int .i64 16, .int .i64 a0_1, .int .i64 1, .int .i64 4, .int .i64 a0_2, .int .i64 1, .int .i64 3, .int .i64 a0_3, .int .i64 0, .int .i64 4, .int .i64 a0_4, .int .i64 0, .int .i64 3, .int .i64 a0_5, .int .i64 1, .int .i64 8, .int .i64 a0_6, .int .i64 0, .int .i64 20, .int .i64 a0_7, .int .i64 0, .int .i64 1000]) (.int .i64 5)).run Try.prog w = .ok (.agg #[.int .i64 a0_5, .int .i64 1, .int .i64 8]) w := by kernel_rfl
theorem config_Check.i6 (a0_0 : Int) (a0_1 : Int) (a0_2 : Int) (a0_3 : Int) (a0_4 : Int) (a0_5 : Int) (a0_6 : Int) (a0_7 : Int) (w : World) : (Instr.index 73 (.agg #[.int .i64 a0_0, .int .i64 1, .int .i64 16, .int .i64 a0_1, .int .i64 1, .int .i64 4, .int .i64 a0_2, .int .i64 1, .int .i64 3, .int .i64 a0_3, .int .i64 0, .int .i64 4, .int .i64 a0_4, .int .i64 0, .int .i64 3, .int .i64 a0_5, .int .i64 1, .int .i64 8, .int .i64 a0_6, .int .i64 0, .int .i64 20, .int .i64 a0_7, .int .i64 0, .int .i64 1000]) (.int .i64 6)).run Try.prog w = .ok (.agg #[.int .i64 a0_6, .int .i64 0, .int .i64 20]) w := by kernel_rfl
theorem config_Check.i7 (a0_0 : Int) (a0_1 : Int) (a0_2 : Int) (a0_3 : Int) (a0_4 : Int) (a0_5 : Int) (a0_6 : Int) (a0_7 : Int) (w : World) : (Instr.index 73 (.agg #[.int .i64 a0_0, .int .i64 1, .int .i64 16, .int .i64 a0_1, .int .i64 1, .int .i64 4, .int .i64 a0_2, .int .i64 1, .int .i64 3, .int .i64 a0_3, .int .i64 0, .int .i64 4, .int .i64 a0_4, .int .i64 0, .int .i64 3, .int .i64 a0_5, .int .i64 1, .int .i64 8, .int .i64 a0_6, .int .i64 0, .int .i64 20, .int .i64 a0_7, .int .i64 0, .int .i64 1000]) (.int .i64 7)).run Try.prog w = .ok (.agg #[.int .i64 a0_7, .int .i64 0, .int .i64 1000]) w := by kernel_rfl
set_option maxHeartbeats 16000000 in
set_option maxRecDepth 100000 in
theorem config_Check.walk (a0_0 : Int) (a0_1 : Int) (a0_2 : Int) (a0_3 : Int) (a0_4 : Int) (a0_5 : Int) (a0_6 : Int) (a0_7 : Int) (a0_8 : Bool) (a0_9 : Int) (a0_10 : Int) (a0_11 : Int) (w : World) : Calls Try.prog 21 #[.agg #[.int .i64 a0_0, .int .i64 a0_1, .int .i64 a0_2, .int .i64 a0_3, .int .i64 a0_4, .int .i64 a0_5, .int .i64 a0_6, .int .i64 a0_7, .bool a0_8, .int .i64 a0_9, .int .i64 a0_10, .int .i64 a0_11]] w (config_Check.Post (config_Check.v a0_0 a0_1 a0_2 a0_3 a0_4 a0_5 a0_6 a0_7 a0_8 a0_9 a0_10 a0_11) w) := by
  have i0 := config_Check.i0 a0_0 a0_1 a0_2 a0_3 a0_4 a0_5 a0_6 a0_7
  have i1 := config_Check.i1 a0_0 a0_1 a0_2 a0_3 a0_4 a0_5 a0_6 a0_7
  have i2 := config_Check.i2 a0_0 a0_1 a0_2 a0_3 a0_4 a0_5 a0_6 a0_7
  have i3 := config_Check.i3 a0_0 a0_1 a0_2 a0_3 a0_4 a0_5 a0_6 a0_7
  have i4 := config_Check.i4 a0_0 a0_1 a0_2 a0_3 a0_4 a0_5 a0_6 a0_7
  have i5 := config_Check.i5 a0_0 a0_1 a0_2 a0_3 a0_4 a0_5 a0_6 a0_7
  have i6 := config_Check.i6 a0_0 a0_1 a0_2 a0_3 a0_4 a0_5 a0_6 a0_7
  have i7 := config_Check.i7 a0_0 a0_1 a0_2 a0_3 a0_4 a0_5 a0_6 a0_7
  go_enter Try.func21, Try.ntmps21
  go_wp2
  refine wp_loop_rounds 9 ?_
  rw [rounds_succ]
  go_wp2
  all_goals (try (go_ret; exact ⟨config_Check.ret (by unfold config_Check.v; (repeat' split) <;> first | rfl | (exfalso; omega) | (exfalso; simp_all; done) | (exfalso; simp_all; omega)), (by repeat first | exact Below.refl _ _ | (refine Below.alloc ?_ (by first | (simp; done) | (simp; omega)) _))⟩))
  rw [rounds_succ]
  go_wp2
  all_goals (try (go_ret; exact ⟨config_Check.ret (by unfold config_Check.v; (repeat' split) <;> first | rfl | (exfalso; omega) | (exfalso; simp_all; done) | (exfalso; simp_all; omega)), (by repeat first | exact Below.refl _ _ | (refine Below.alloc ?_ (by first | (simp; done) | (simp; omega)) _))⟩))
  rw [rounds_succ]
  go_wp2
  all_goals (try (go_ret; exact ⟨config_Check.ret (by unfold config_Check.v; (repeat' split) <;> first | rfl | (exfalso; omega) | (exfalso; simp_all; done) | (exfalso; simp_all; omega)), (by repeat first | exact Below.refl _ _ | (refine Below.alloc ?_ (by first | (simp; done) | (simp; omega)) _))⟩))
  rw [rounds_succ]
  go_wp2
  all_goals (try (go_ret; exact ⟨config_Check.ret (by unfold config_Check.v; (repeat' split) <;> first | rfl | (exfalso; omega) | (exfalso; simp_all; done) | (exfalso; simp_all; omega)), (by repeat first | exact Below.refl _ _ | (refine Below.alloc ?_ (by first | (simp; done) | (simp; omega)) _))⟩))
  rw [rounds_succ]
  go_wp2
  all_goals (try (go_ret; exact ⟨config_Check.ret (by unfold config_Check.v; (repeat' split) <;> first | rfl | (exfalso; omega) | (exfalso; simp_all; done) | (exfalso; simp_all; omega)), (by repeat first | exact Below.refl _ _ | (refine Below.alloc ?_ (by first | (simp; done) | (simp; omega)) _))⟩))
  rw [rounds_succ]
  go_wp2
  all_goals (try (go_ret; exact ⟨config_Check.ret (by unfold config_Check.v; (repeat' split) <;> first | rfl | (exfalso; omega) | (exfalso; simp_all; done) | (exfalso; simp_all; omega)), (by repeat first | exact Below.refl _ _ | (refine Below.alloc ?_ (by first | (simp; done) | (simp; omega)) _))⟩))
  rw [rounds_succ]
  go_wp2
  all_goals (try (go_ret; exact ⟨config_Check.ret (by unfold config_Check.v; (repeat' split) <;> first | rfl | (exfalso; omega) | (exfalso; simp_all; done) | (exfalso; simp_all; omega)), (by repeat first | exact Below.refl _ _ | (refine Below.alloc ?_ (by first | (simp; done) | (simp; omega)) _))⟩))
  rw [rounds_succ]
  go_wp2
  all_goals (try (go_ret; exact ⟨config_Check.ret (by unfold config_Check.v; (repeat' split) <;> first | rfl | (exfalso; omega) | (exfalso; simp_all; done) | (exfalso; simp_all; omega)), (by repeat first | exact Below.refl _ _ | (refine Below.alloc ?_ (by first | (simp; done) | (simp; omega)) _))⟩))
  rw [rounds_succ]
  go_wp2
  all_goals (go_ret; exact ⟨config_Check.ret (by unfold config_Check.v; (repeat' split) <;> first | rfl | (exfalso; omega) | (exfalso; simp_all; done) | (exfalso; simp_all; omega)), (by repeat first | exact Below.refl _ _ | (refine Below.alloc ?_ (by first | (simp; done) | (simp; omega)) _))⟩)
theorem config_Check.calls (a0_0 : Int) (a0_1 : Int) (a0_2 : Int) (a0_3 : Int) (a0_4 : Int) (a0_5 : Int) (a0_6 : Int) (a0_7 : Int) (a0_8 : Bool) (a0_9 : Int) (a0_10 : Int) (a0_11 : Int) (r : Int) (w : World) (h : config_Check.f a0_0 a0_1 a0_2 a0_3 a0_4 a0_5 a0_6 a0_7 a0_8 a0_9 a0_10 a0_11 = some r) :
    Calls Try.prog 21 #[.agg #[.int .i64 a0_0, .int .i64 a0_1, .int .i64 a0_2, .int .i64 a0_3, .int .i64 a0_4, .int .i64 a0_5, .int .i64 a0_6, .int .i64 a0_7, .bool a0_8, .int .i64 a0_9, .int .i64 a0_10, .int .i64 a0_11]] w fun e w' => e = .returned (.int .i64 r) ∧ Below w.heap.size w w' := by
  obtain rfl : config_Check.v a0_0 a0_1 a0_2 a0_3 a0_4 a0_5 a0_6 a0_7 a0_8 a0_9 a0_10 a0_11 = r := Option.some.inj h
  exact (config_Check.walk a0_0 a0_1 a0_2 a0_3 a0_4 a0_5 a0_6 a0_7 a0_8 a0_9 a0_10 a0_11 w).mono fun _ _ hp => hp


noncomputable def chk5 (x : S23) : Int := config_Check.v x.a0 x.a1 x.a2 x.a3 x.a4 x.a5 x.a6 x.a7 x.a8 x.a9 x.a10 x.a11
noncomputable def f21O : Ora := ⟨fun ps => okPs [S23k] ps && true, fun ps => .pv (.int .i64 (chk5 (S23r (ps.headD PV.undef))))⟩
theorem f21_spec : Spec Try.prog 21 f21O := by
  intro w S ps vs hS hv hp
  have hp' : okPs [S23k] ps = true := by
    have : (okPs [S23k] ps && true) = true := hp
    simpa using this
  have hc := okPs_can hp'
  have hc2 : canPs [S23k] ps = [S23v (S23r (ps.headD PV.undef))] := by kernel_rfl
  rw [hc2] at hc
  show Calls Try.prog 21 vs.toArray w fun e w' => ∃ v, e = .returned v ∧ Below w.heap.size w w' ∧ ResRel Try.prog S w w' (.pv (.int .i64 (chk5 (S23r (ps.headD PV.undef))))) v
  rw [← hc] at hv
  generalize S23r (ps.headD PV.undef) = x at hv
  unfold S23v at hv
  simp only [VPs, VP] at hv
  obtain ⟨u, us, rfl, ⟨cs, rfl, h⟩, rfl⟩ := hv
  obtain ⟨_, _, rfl, rfl, _, _, rfl, rfl, _, _, rfl, rfl, _, _, rfl, rfl, _, _, rfl, rfl, _, _, rfl, rfl, _, _, rfl, rfl, _, _, rfl, rfl, _, _, rfl, rfl, _, _, rfl, rfl, _, _, rfl, rfl, _, _, rfl, rfl, rfl⟩ := h
  refine (config_Check.calls x.a0 x.a1 x.a2 x.a3 x.a4 x.a5 x.a6 x.a7 x.a8 x.a9 x.a10 x.a11 _ w rfl).mono ?_
  rintro e w' ⟨rfl, hb⟩
  refine ⟨_, rfl, hb, ?_⟩
  show VP _ _ _ _ _
  simp only [VP]
  rfl
end Go.Proofs.YtkdbccloniaogaaS
