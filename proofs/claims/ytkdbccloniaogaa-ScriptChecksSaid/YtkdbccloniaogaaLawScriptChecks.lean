/- The row of ScriptChecks: for every input that can be read, the call returns true and leaves its arguments as they read; out of the pure statement. Conditions: none. -/
import Derived.Test.YtkdbccloniaogaaRows
import Derived.Test.YtkdbccloniaogaaPureScriptChecks
import Derived.WalkKit
import Derived.ProofKit
import Derived.OpenShut
import Derived.ShutString
import Derived.ChangeOld
import Derived.Below
import Derived.SizedLaws
set_option linter.unusedVariables false
set_option linter.unusedSimpArgs false
set_option maxRecDepth 100000
namespace Go.Proofs.Ytkdbccloniaogaa.scriptChecks
open Go.ChangeShapes Go.WideShapes Go.ChangeAt Go.RowKit
open Go.ChangeMaps (open_string shut_string)
open Go.Proofs.YtkdbccloniaogaaS
theorem own : ownKnob Try.prog.godebug = none := by kernel_rfl
theorem laidOut : laidOutB Try.prog = true := by kernel_rfl
theorem S23_eq {cs : List PV} (h : cfs (kinds Try.prog 23) cs) : PV.agg cs = S23v (S23r (.agg cs)) := by
  rw [show kinds Try.prog 23 = S23k.2 from by kernel_rfl] at h
  exact (congrArg PV.agg (etas_of h)).symm.trans (by kernel_rfl)
set_option maxRecDepth 100000 in
set_option maxHeartbeats 4000000 in
theorem lifted (os : Os) (started : os.Started) (H : Type) (enc : TypeId × Value → H) :
    ReturnsInHanded {} Try.checked os 3 .any (Rows.scriptChecksSpec.pre6 enc Try.prog Try.f3 Rows.scriptChecksRow.domain false) (Rows.scriptChecksSpec.post enc Try.prog Try.f3 false true false false) := by
  refine returnsInHanded_of_change_sized (C := Try.checked) own started (by kernel_rfl) Try.func3
    (ChangeSpec.witness6 (enc := enc) (C := Try.checked) false ⟨#[], #[.agg #[.int .i64 0, .int .i64 0, .int .i64 0, .int .i64 0, .int .i64 0, .int .i64 0, .int .i64 0, .int .i64 0, .bool false, .int .i64 0, .int .i64 0, .int .i64 0], .slice none 0 0], []⟩ 8 (by kernel_rfl) (by kernel_rfl) (by kernel_rfl) (by kernel_rfl)) ?_
  intro W base args ds gs before hval0 hW hcnd hsz0 _
  have hval : ∀ (j : Nat) t v, Try.f3.params[j]? = some t → args[j]? = some v → Value.okWide Try.prog W .any base t v := hval0
  have hW' := hW
  obtain ⟨p, q, hA0, hV, rfl, hfz, hnd⟩ := hW
  have hA : DataW.TrodAll enc Try.prog W 0 (fun _ => true) true Try.f3.params.toList args.toList ds p := hA0
  rw [Try.params3] at hA hval
  obtain ⟨v0, vs0, d0, ds0, p0, q0, hargs, rfl, rfl, h0, r0⟩ := trodAll_cons hA
  obtain ⟨v1, vs1, d1, ds1, p1, q1, rfl, rfl, rfl, h1, r1⟩ := trodAll_cons r0
  obtain ⟨rfl, rfl, rfl⟩ := trodAll_nil r1
  obtain rfl : args = #[v0, v1] := by cases args; simp_all
  obtain ⟨rfl, rfl⟩ := trodVars_none hV
  have k0 := h0
  have lt0 : ∀ x ∈ p0, x.block < W.heap.size := by obtain ⟨m, hm⟩ := k0; exact DataW.trod_lt m _ _ _ hm
  obtain ⟨cs0, va0, hc0, hw0⟩ := opened_agg (by kernel_rfl) Try.underlying23 (hval 0 23 v0 rfl rfl) h0
  obtain ⟨x0, hx0⟩ : ∃ x, PV.agg cs0 = S23v x := ⟨_, S23_eq hc0⟩
  rw [hx0] at va0 hw0
  have k1 := h1
  have lt1 : ∀ x ∈ p1, x.block < W.heap.size := by obtain ⟨m, hm⟩ := k1; exact DataW.trod_lt m _ _ _ hm
  obtain ⟨y1, va1, hc1, hw1⟩ := opened_one (k := .list 38) (by kernel_rfl) (by kernel_rfl) (by obtain ⟨_, _, _, e⟩ := okWide_slice Try.underlying24 (hval 1 24 v1 rfl rfl); rw [e]; rfl) h1
  obtain ⟨x1, rfl⟩ := hc1
  have hvs : VPs Try.prog W No [S23v x0, PV.list 38 x1] [v0, v1] := (VPs.mk va0 (VPs.mk va1 VPs.mk0))
  obtain ⟨k, h⟩ := pureScriptChecks x0 x1 hw0 hw1 ⟨W, No, _, hvs⟩
  have hrun : (evRes (E5 k) 100 3 [S23v x0, PV.list 38 x1]).run = some (.pv (.bool true)) := by
    rw [f3_run, h]
    rfl
  clear hA0 hval0 hsz0
  refine (law_calls (E := E5 k) (E5_ok k) mixed hrun hvs).mono ?_
  rintro e W' ⟨rfl, bel⟩
  exact ⟨_, rfl, _, _, _, [], _, [], hW', trodAll_mk1 (shut_bool Try.underlying4 _), (trodAll_cons_mk (Below.trod laidOut (by kernel_rfl) (of_decide_eq_true (by kernel_rfl)) k0 bel lt0) (trodAll_cons_mk (Below.trod laidOut (by kernel_rfl) (of_decide_eq_true (by kernel_rfl)) k1 bel lt1) trodAll_mk0)), rfl, bel.frame _, fun h => by cases h⟩
theorem over : Rows.scriptChecksRow.holds Try.pinned (OpenSpec.ofChange Rows.scriptChecksSpec) :=
  OpenClaim.holds_of_wide 3 Try.f3 rfl rfl rfl rfl rfl rfl rfl ⟨rfl, rfl, rfl, rfl, rfl⟩ rfl rfl rfl rfl rfl (by kernel_rfl) Try.func3 (by kernel_rfl)
    (of_decide_eq_true (by kernel_rfl)) (by unfold Func.isWrapper; first | (rw [if_pos (by decide +kernel)]; kernel_rfl) | (rw [if_neg (by decide +kernel)]; exact ⟨rfl, rfl⟩))
    (fun os started H enc _ => lifted os started H enc)
theorem proved : Rows.ScriptChecksSaid := over
#print axioms proved
end Go.Proofs.Ytkdbccloniaogaa.scriptChecks
namespace Go.Proofs.Ytkdbccloniaogaa
/-- The row, under a short name, for the claim. -/
theorem scriptChecks_holds : Rows.ScriptChecksSaid := scriptChecks.proved
end Go.Proofs.Ytkdbccloniaogaa
