/- The row of ScriptDecodes: for every input that can be read, the call returns true and leaves its arguments as they read; out of the pure statement. Conditions: none. -/
import Derived.Test.YtkdbccloniaogaaRows
import Derived.Test.YtkdbccloniaogaaPureScriptDecodes
import Derived.WalkKit
import Derived.ProofKit
import Derived.OpenShut
import Derived.ShutString
import Derived.ChangeOld
import Derived.Below
import Derived.SizedLaws
set_option linter.unusedVariables false
set_option linter.unusedSimpArgs false
set_option maxRecDepth 100000
namespace Go.Proofs.Ytkdbccloniaogaa.scriptDecodes
open Go.ChangeShapes Go.WideShapes Go.ChangeAt Go.RowKit
open Go.ChangeMaps (open_string shut_string)
open Go.Proofs.YtkdbccloniaogaaS
theorem own : ownKnob Try.prog.godebug = none := by kernel_rfl
theorem laidOut : laidOutB Try.prog = true := by kernel_rfl
set_option maxRecDepth 100000 in
set_option maxHeartbeats 4000000 in
theorem lifted (os : Os) (started : os.Started) (H : Type) (enc : TypeId × Value → H) :
    ReturnsInHanded {} Try.checked os 5 .any (Rows.scriptDecodesSpec.pre6 enc Try.prog Try.f5 Rows.scriptDecodesRow.domain false) (Rows.scriptDecodesSpec.post enc Try.prog Try.f5 false true false false) := by
  refine returnsInHanded_of_change_sized (C := Try.checked) own started (by kernel_rfl) Try.func5
    (ChangeSpec.witness6 (enc := enc) (C := Try.checked) false ⟨#[], #[.string ByteArray.empty], []⟩ 8 (by kernel_rfl) (by kernel_rfl) (by kernel_rfl) (by kernel_rfl)) ?_
  intro W base args ds gs before hval0 hW hcnd hsz0 _
  have hval : ∀ (j : Nat) t v, Try.f5.params[j]? = some t → args[j]? = some v → Value.okWide Try.prog W .any base t v := hval0
  have hW' := hW
  obtain ⟨p, q, hA0, hV, rfl, hfz, hnd⟩ := hW
  have hA : DataW.TrodAll enc Try.prog W 0 (fun _ => true) true Try.f5.params.toList args.toList ds p := hA0
  rw [Try.params5] at hA hval
  obtain ⟨v0, vs0, d0, ds0, p0, q0, hargs, rfl, rfl, h0, r0⟩ := trodAll_cons hA
  obtain ⟨rfl, rfl, rfl⟩ := trodAll_nil r0
  obtain rfl : args = #[v0] := by cases args; simp_all
  obtain ⟨rfl, rfl⟩ := trodVars_none hV
  obtain ⟨x0, rfl, rfl, rfl, wf0⟩ := open_string Try.underlying9 (hval 0 9 v0 rfl rfl) h0
  have va0 : VP Try.prog W No (.str x0) (.string x0) := by simp only [VP]
  have hw0 : Wf (.str x0) := by simp only [Wf]; exact wf0
  have hvs : VPs Try.prog W No [PV.str x0] [_] := (VPs.mk va0 VPs.mk0)
  obtain ⟨k, h⟩ := pureScriptDecodes x0 hw0 ⟨W, No, _, hvs⟩
  have hrun : (evRes (E9 k) 100 5 [PV.str x0]).run = some (.pv (.bool true)) := by
    rw [f5_run, h]
    rfl
  clear hA0 hval0 hsz0
  refine (law_calls (E := E9 k) (E9_ok k) mixed hrun hvs).mono ?_
  rintro e W' ⟨rfl, bel⟩
  exact ⟨_, rfl, _, _, _, [], _, [], hW', trodAll_mk1 (shut_bool Try.underlying4 _), (trodAll_cons_mk (shut_string Try.underlying9 wf0) trodAll_mk0), rfl, bel.frame _, fun h => by cases h⟩
theorem over : Rows.scriptDecodesRow.holds Try.pinned (OpenSpec.ofChange Rows.scriptDecodesSpec) :=
  OpenClaim.holds_of_wide 5 Try.f5 rfl rfl rfl rfl rfl rfl rfl ⟨rfl, rfl, rfl, rfl, rfl⟩ rfl rfl rfl rfl rfl (by kernel_rfl) Try.func5 (by kernel_rfl)
    (of_decide_eq_true (by kernel_rfl)) (by unfold Func.isWrapper; first | (rw [if_pos (by decide +kernel)]; kernel_rfl) | (rw [if_neg (by decide +kernel)]; exact ⟨rfl, rfl⟩))
    (fun os started H enc _ => lifted os started H enc)
theorem proved : Rows.ScriptDecodesSaid := over
#print axioms proved
end Go.Proofs.Ytkdbccloniaogaa.scriptDecodes
namespace Go.Proofs.Ytkdbccloniaogaa
/-- The row, under a short name, for the claim. -/
theorem scriptDecodes_holds : Rows.ScriptDecodesSaid := scriptDecodes.proved
end Go.Proofs.Ytkdbccloniaogaa
