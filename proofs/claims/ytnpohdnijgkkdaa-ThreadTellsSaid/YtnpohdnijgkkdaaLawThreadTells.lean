/- The row of ThreadTells: for every input that can be read, the call returns true and leaves its arguments as they read; out of the pure statement. Conditions: none. -/
import Derived.Test.YtnpohdnijgkkdaaRows
import Derived.Test.YtnpohdnijgkkdaaPureThreadTells
import Derived.WalkKit
import Derived.ProofKit
import Derived.OpenShut
import Derived.ShutString
import Derived.ChangeOld
import Derived.Below
import Derived.SizedLaws
set_option linter.unusedVariables false
set_option linter.unusedSimpArgs false
namespace Go.Proofs.Ytnpohdnijgkkdaa.threadTells
open Go.ChangeShapes Go.WideShapes Go.ChangeAt Go.RowKit
open Go.ChangeMaps (open_string shut_string)
open Go.Proofs.YtnpohdnijgkkdaaS
theorem own : ownKnob Try.prog.godebug = none := by kernel_rfl
theorem laidOut : laidOutB Try.prog = true := by kernel_rfl
theorem S30_eq {cs : List PV} (h : cfs (kinds Try.prog 30) cs) : PV.agg cs = S30v (S30r (.agg cs)) := by
  rw [show kinds Try.prog 30 = S30k.2 from by kernel_rfl] at h
  exact (congrArg PV.agg (etas_of h)).symm.trans (by kernel_rfl)
theorem S55_eq {cs : List PV} (h : cfs (kinds Try.prog 55) cs) : PV.agg cs = S55v (S55r (.agg cs)) := by
  rw [show kinds Try.prog 55 = S55k.2 from by kernel_rfl] at h
  exact (congrArg PV.agg (etas_of h)).symm.trans (by kernel_rfl)
set_option maxRecDepth 100000 in
set_option maxHeartbeats 4000000 in
theorem lifted (os : Os) (started : os.Started) (H : Type) (enc : TypeId × Value → H) :
    ReturnsInHanded {} Try.checked os 4 .any (Rows.threadTellsSpec.pre6 enc Try.prog Try.f4 Rows.threadTellsRow.domain false) (Rows.threadTellsSpec.post enc Try.prog Try.f4 false true false false) := by
  refine returnsInHanded_of_change_sized (C := Try.checked) own started (by kernel_rfl) Try.func4
    (ChangeSpec.witness6 (enc := enc) (C := Try.checked) false ⟨#[], #[.agg #[.int .i64 0, .int .i64 0, .int .i64 0, .int .i64 0, .int .i64 0, .int .i64 0, .int .i64 0, .int .i64 0, .bool false, .int .i64 0, .int .i64 0, .int .i64 0, .int .i64 0, .int .i64 0, .slice none 0 0, .slice none 0 0, .int .i64 0, .int .i64 0, .int .i64 0, .int .i64 0, .slice none 0 0, .slice none 0 0, .slice none 0 0, .int .i64 0, .int .i64 0, .int .i64 0, .int .i64 0, .int .i64 0, .int .i64 0, .int .i64 0, .int .i64 0, .int .i64 0, .int .i64 0, .slice none 0 0, .int .i64 0, .slice none 0 0, .bool false], .agg #[.int .i64 0, .int .i64 0, .int .i64 0, .int .i64 0, .slice none 0 0, .slice none 0 0, .slice none 0 0, .int .i64 0, .int .i64 0, .int .i64 0, .int .i64 0, .int .i64 0, .int .i64 0, .int .i64 0, .int .i64 0, .int .i64 0, .int .i64 0]], []⟩ 8 (by kernel_rfl) (by kernel_rfl) (by kernel_rfl) (by kernel_rfl)) ?_
  intro W base args ds gs before hval0 hW hcnd hsz0 _
  have hval : ∀ (j : Nat) t v, Try.f4.params[j]? = some t → args[j]? = some v → Value.okWide Try.prog W .any base t v := hval0
  have hW' := hW
  obtain ⟨p, q, hA0, hV, rfl, hfz, hnd⟩ := hW
  have hA : DataW.TrodAll enc Try.prog W 0 (fun _ => true) true Try.f4.params.toList args.toList ds p := hA0
  rw [Try.params4] at hA hval
  obtain ⟨v0, vs0, d0, ds0, p0, q0, hargs, rfl, rfl, h0, r0⟩ := trodAll_cons hA
  obtain ⟨v1, vs1, d1, ds1, p1, q1, rfl, rfl, rfl, h1, r1⟩ := trodAll_cons r0
  obtain ⟨rfl, rfl, rfl⟩ := trodAll_nil r1
  obtain rfl : args = #[v0, v1] := by cases args; simp_all
  obtain ⟨rfl, rfl⟩ := trodVars_none hV
  have k0 := h0
  have lt0 : ∀ x ∈ p0, x.block < W.heap.size := by obtain ⟨m, hm⟩ := k0; exact DataW.trod_lt m _ _ _ hm
  obtain ⟨cs0, va0, hc0, hw0⟩ := opened_agg (by kernel_rfl) Try.underlying55 (hval 0 55 v0 rfl rfl) h0
  obtain ⟨x0, hx0⟩ : ∃ x, PV.agg cs0 = S55v x := ⟨_, S55_eq hc0⟩
  rw [hx0] at va0 hw0
  have k1 := h1
  have lt1 : ∀ x ∈ p1, x.block < W.heap.size := by obtain ⟨m, hm⟩ := k1; exact DataW.trod_lt m _ _ _ hm
  obtain ⟨cs1, va1, hc1, hw1⟩ := opened_agg (by kernel_rfl) Try.underlying30 (hval 1 30 v1 rfl rfl) h1
  obtain ⟨x1, hx1⟩ : ∃ x, PV.agg cs1 = S30v x := ⟨_, S30_eq hc1⟩
  rw [hx1] at va1 hw1
  have hvs : VPs Try.prog W No [S55v x0, S30v x1] [v0, v1] := (VPs.mk va0 (VPs.mk va1 VPs.mk0))
  obtain ⟨k, h⟩ := pureThreadTells x0 x1 hw0 hw1 ⟨W, No, _, hvs⟩
  have hrun : (evRes (E4 k) 100 4 [S55v x0, S30v x1]).run = some (.pv (.bool true)) := by
    rw [f4_run, h]
    rfl
  clear hA0 hval0 hsz0
  refine (law_calls (E := E4 k) (E4_ok k) mixed hrun hvs).mono ?_
  rintro e W' ⟨rfl, bel⟩
  exact ⟨_, rfl, _, _, _, [], _, [], hW', trodAll_mk1 (shut_bool Try.underlying4 _), (trodAll_cons_mk (Below.trod laidOut (by kernel_rfl) (of_decide_eq_true (by kernel_rfl)) k0 bel lt0) (trodAll_cons_mk (Below.trod laidOut (by kernel_rfl) (of_decide_eq_true (by kernel_rfl)) k1 bel lt1) trodAll_mk0)), rfl, bel.frame _, fun h => by cases h⟩
theorem over : Rows.threadTellsRow.holds Try.pinned (OpenSpec.ofChange Rows.threadTellsSpec) :=
  OpenClaim.holds_of_wide 4 Try.f4 rfl rfl rfl rfl rfl rfl rfl ⟨rfl, rfl, rfl, rfl, rfl⟩ rfl rfl rfl rfl rfl (by kernel_rfl) Try.func4 (by kernel_rfl)
    (of_decide_eq_true (by kernel_rfl)) (by unfold Func.isWrapper; first | (rw [if_pos (by decide +kernel)]; kernel_rfl) | (rw [if_neg (by decide +kernel)]; exact ⟨rfl, rfl⟩))
    (fun os started H enc _ => lifted os started H enc)
theorem proved : Rows.ThreadTellsSaid := over
#print axioms proved
end Go.Proofs.Ytnpohdnijgkkdaa.threadTells
namespace Go.Proofs.Ytnpohdnijgkkdaa
/-- The row, under a short name, for the claim. -/
theorem threadTells_holds : Rows.ThreadTellsSaid := threadTells.proved
end Go.Proofs.Ytnpohdnijgkkdaa
