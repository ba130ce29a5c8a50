/- The row of ConfigLonger: for every input that can be read, the call returns true and leaves its arguments as they read; out of the pure statement. Conditions: none. -/
import Derived.Test.YtalmkdahapemcaaRows
import Derived.Test.YtalmkdahapemcaaPureConfigLonger
import Derived.Test.YtalmkdahapemcaaSaysConfigLonger
import Derived.WalkKit
import Derived.ProofKit
import Derived.OpenShut
import Derived.ShutString
import Derived.ChangeOld
import Derived.Below
import Derived.SizedLaws
set_option linter.unusedVariables false
set_option linter.unusedSimpArgs false
namespace Go.Proofs.Ytalmkdahapemcaa.configLonger
open Go.ChangeShapes Go.WideShapes Go.ChangeAt Go.RowKit
open Go.ChangeMaps (open_string shut_string)
open Go.Proofs.Ytalmkdahapemcaa.PA Go.Proofs.YtalmkdahapemcaaA Go.Proofs.YtalmkdahapemcaaW.PrintWords
theorem own : ownKnob Try.prog.godebug = none := by kernel_rfl
theorem laidOut : laidOutB Try.prog = true := by kernel_rfl
set_option maxRecDepth 100000 in
set_option maxHeartbeats 4000000 in
theorem lifted (os : Os) (started : os.Started) (H : Type) (enc : TypeId × Value → H) :
    ReturnsInHanded {} Try.checked os 7 .any (Rows.configLongerSpec.pre6 enc Try.prog Try.f7 Rows.configLongerRow.domain false) (Rows.configLongerSpec.post enc Try.prog Try.f7 false true false false) := by
  refine returnsInHanded_of_change_sized (C := Try.checked) own started (by kernel_rfl) Try.func7
    (ChangeSpec.witness6 (enc := enc) (C := Try.checked) false ⟨#[], #[.agg #[.int .i64 0, .int .i64 0, .int .i64 0, .int .i64 0, .int .i64 0, .int .i64 0, .int .i64 0, .int .i64 0, .bool false, .int .i64 0, .int .i64 0, .int .i64 0], .agg #[.int .i64 0, .int .i64 0, .int .i64 0, .int .i64 0, .int .i64 0, .int .i64 0, .int .i64 0, .int .i64 0, .bool false, .int .i64 0, .int .i64 0, .int .i64 0]], []⟩ 8 (by kernel_rfl) (by kernel_rfl) (by kernel_rfl) (by kernel_rfl)) ?_
  intro W base args ds gs before hval0 hW hcnd hsz0 _
  have hval : ∀ (j : Nat) t v, Try.f7.params[j]? = some t → args[j]? = some v → Value.okWide Try.prog W .any base t v := hval0
  have hW' := hW
  obtain ⟨p, q, hA0, hV, rfl, hfz, hnd⟩ := hW
  have hA : DataW.TrodAll enc Try.prog W 0 (fun _ => true) true Try.f7.params.toList args.toList ds p := hA0
  rw [Try.params7] at hA hval
  obtain ⟨v0, vs0, d0, ds0, p0, q0, hargs, rfl, rfl, h0, r0⟩ := trodAll_cons hA
  obtain ⟨v1, vs1, d1, ds1, p1, q1, rfl, rfl, rfl, h1, r1⟩ := trodAll_cons r0
  obtain ⟨rfl, rfl, rfl⟩ := trodAll_nil r1
  obtain rfl : args = #[v0, v1] := by cases args; simp_all
  obtain ⟨rfl, rfl⟩ := trodVars_none hV
  have k0 := h0
  have lt0 : ∀ x ∈ p0, x.block < W.heap.size := by obtain ⟨m, hm⟩ := k0; exact DataW.trod_lt m _ _ _ hm
  obtain ⟨cs0, x0, rfl, hk0, hw0⟩ := reads23.agg Try.underlying23 (hval 0 23 v0 rfl rfl) h0
  obtain hcs0 := k23_open hk0
  obtain rfl : cs0 = #[.int .i64 x0.f0, .int .i64 x0.f1, .int .i64 x0.f2, .int .i64 x0.f3, .int .i64 x0.f4, .int .i64 x0.f5, .int .i64 x0.f6, .int .i64 x0.f7, .bool x0.f8, .int .i64 x0.f9, .int .i64 x0.f10, .int .i64 x0.f11] := by apply Array.ext'; exact hcs0
  have k1 := h1
  have lt1 : ∀ x ∈ p1, x.block < W.heap.size := by obtain ⟨m, hm⟩ := k1; exact DataW.trod_lt m _ _ _ hm
  obtain ⟨cs1, x1, rfl, hk1, hw1⟩ := reads23.agg Try.underlying23 (hval 1 23 v1 rfl rfl) h1
  obtain hcs1 := k23_open hk1
  obtain rfl : cs1 = #[.int .i64 x1.f0, .int .i64 x1.f1, .int .i64 x1.f2, .int .i64 x1.f3, .int .i64 x1.f4, .int .i64 x1.f5, .int .i64 x1.f6, .int .i64 x1.f7, .bool x1.f8, .int .i64 x1.f9, .int .i64 x1.f10, .int .i64 x1.f11] := by apply Array.ext'; exact hcs1
  obtain ⟨k, h⟩ := Pure.ConfigLonger x0 x1 hw0 hw1
  clear hA0 hval0 hsz0
  refine (millstreamlaw05_ConfigLonger.calls k x0.f0 x0.f1 x0.f2 x0.f3 x0.f4 x0.f5 x0.f6 x0.f7 x0.f8 x0.f9 x0.f10 x0.f11 x1.f0 x1.f1 x1.f2 x1.f3 x1.f4 x1.f5 x1.f6 x1.f7 x1.f8 x1.f9 x1.f10 x1.f11 true W  h (Aside0.mk rfl)).mono ?_
  rintro e W' ⟨rfl, hd⟩
  have bel : Below W.heap.size W W' := hd
  exact ⟨_, rfl, _, _, _, [], _, [], hW', trodAll_mk1 (shut_bool Try.underlying4 _), (trodAll_cons_mk (Below.trod laidOut (by kernel_rfl) (of_decide_eq_true (by kernel_rfl)) k0 bel lt0) (trodAll_cons_mk (Below.trod laidOut (by kernel_rfl) (of_decide_eq_true (by kernel_rfl)) k1 bel lt1) trodAll_mk0)), rfl, bel.frame _, fun h => by cases h⟩
theorem over : Rows.configLongerRow.holds Try.pinned (OpenSpec.ofChange Rows.configLongerSpec) :=
  OpenClaim.holds_of_wide 7 Try.f7 rfl rfl rfl rfl rfl rfl rfl ⟨rfl, rfl, rfl, rfl, rfl⟩ rfl rfl rfl rfl rfl (by kernel_rfl) Try.func7 (by kernel_rfl)
    (of_decide_eq_true (by kernel_rfl)) (by unfold Func.isWrapper; first | (rw [if_pos (by decide +kernel)]; kernel_rfl) | (rw [if_neg (by decide +kernel)]; exact ⟨rfl, rfl⟩))
    (fun os started H enc _ => lifted os started H enc)
theorem proved : Rows.ConfigLongerSaid := over
#print axioms proved
end Go.Proofs.Ytalmkdahapemcaa.configLonger
namespace Go.Proofs.Ytalmkdahapemcaa
/-- The row, under a short name, for the claim. -/
theorem configLonger_holds : Rows.ConfigLongerSaid := configLonger.proved
end Go.Proofs.Ytalmkdahapemcaa
