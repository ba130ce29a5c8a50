/- The row of ScriptCut: for every input that can be read, the call returns true and leaves its arguments as they read; out of the pure statement. Conditions: none. -/
import Derived.Test.YtkdbccloniaogaaRows
import Derived.Test.YtkdbccloniaogaaPureScriptCut
import Derived.WalkKit
import Derived.ProofKit
import Derived.OpenShut
import Derived.ShutString
import Derived.ChangeOld
import Derived.Below
import Derived.SizedLaws
set_option linter.unusedVariables false
set_option linter.unusedSimpArgs false
set_option maxRecDepth 100000
namespace Go.Proofs.Ytkdbccloniaogaa.scriptCut
open Go.ChangeShapes Go.WideShapes Go.ChangeAt Go.RowKit
open Go.ChangeMaps (open_string shut_string)
open Go.Proofs.YtkdbccloniaogaaS
theorem own : ownKnob Try.prog.godebug = none := by kernel_rfl
theorem laidOut : laidOutB Try.prog = true := by kernel_rfl
set_option maxRecDepth 100000 in
set_option maxHeartbeats 4000000 in
theorem lifted (os : Os) (started : os.Started) (H : Type) (enc : TypeId × Value → H) :
    ReturnsInHanded {} Try.checked os 8 .any (Rows.scriptCutSpec.pre6 enc Try.prog Try.f8 Rows.scriptCutRow.domain false) (Rows.scriptCutSpec.post enc Try.prog Try.f8 false true false false) := by
  refine returnsInHanded_of_change_sized (C := Try.checked) own started (by kernel_rfl) Try.func8
    (ChangeSpec.witness6 (enc := enc) (C := Try.checked) false ⟨#[], #[.slice none 0 0, .int .u16 0, .int .u8 0], []⟩ 8 (by kernel_rfl) (by kernel_rfl) (by kernel_rfl) (by kernel_rfl)) ?_
  intro W base args ds gs before hval0 hW hcnd hsz0 _
  have hval : ∀ (j : Nat) t v, Try.f8.params[j]? = some t → args[j]? = some v → Value.okWide Try.prog W .any base t v := hval0
  have hW' := hW
  obtain ⟨p, q, hA0, hV, rfl, hfz, hnd⟩ := hW
  have hA : DataW.TrodAll enc Try.prog W 0 (fun _ => true) true Try.f8.params.toList args.toList ds p := hA0
  rw [Try.params8] at hA hval
  obtain ⟨v0, vs0, d0, ds0, p0, q0, hargs, rfl, rfl, h0, r0⟩ := trodAll_cons hA
  obtain ⟨v1, vs1, d1, ds1, p1, q1, rfl, rfl, rfl, h1, r1⟩ := trodAll_cons r0
  obtain ⟨v2, vs2, d2, ds2, p2, q2, rfl, rfl, rfl, h2, r2⟩ := trodAll_cons r1
  obtain ⟨rfl, rfl, rfl⟩ := trodAll_nil r2
  obtain rfl : args = #[v0, v1, v2] := by cases args; simp_all
  obtain ⟨rfl, rfl⟩ := trodVars_none hV
  have k0 := h0
  have lt0 : ∀ x ∈ p0, x.block < W.heap.size := by obtain ⟨m, hm⟩ := k0; exact DataW.trod_lt m _ _ _ hm
  obtain ⟨y0, va0, hc0, hw0⟩ := opened_one (k := .list 38) (by kernel_rfl) (by kernel_rfl) (by obtain ⟨_, _, _, e⟩ := okWide_slice Try.underlying24 (hval 0 24 v0 rfl rfl); rw [e]; rfl) h0
  obtain ⟨x0, rfl⟩ := hc0
  obtain ⟨x1, rfl, rfl, rfl, wf1⟩ := open_int Try.underlying55 (hval 1 55 v1 rfl rfl) h1
  have va1 : VP Try.prog W No (.int .u16 x1) (.int .u16 x1) := by simp only [VP]
  have hw1 : Wf (.int .u16 x1) := by simp only [Wf]; exact wf1
  obtain ⟨x2, rfl, rfl, rfl, wf2⟩ := open_int Try.underlying5 (hval 2 5 v2 rfl rfl) h2
  have va2 : VP Try.prog W No (.int .u8 x2) (.int .u8 x2) := by simp only [VP]
  have hw2 : Wf (.int .u8 x2) := by simp only [Wf]; exact wf2
  have hvs : VPs Try.prog W No [PV.list 38 x0, PV.int .u16 x1, PV.int .u8 x2] [v0, _, _] := (VPs.mk va0 (VPs.mk va1 (VPs.mk va2 VPs.mk0)))
  obtain ⟨k, h⟩ := pureScriptCut x0 x1 x2 hw0 hw1 hw2 ⟨W, No, _, hvs⟩
  have hrun : (evRes (E8 k) 100 8 [PV.list 38 x0, PV.int .u16 x1, PV.int .u8 x2]).run = some (.pv (.bool true)) := by
    rw [f8_run, h]
    rfl
  clear hA0 hval0 hsz0
  refine (law_calls (E := E8 k) (E8_ok k) mixed hrun hvs).mono ?_
  rintro e W' ⟨rfl, bel⟩
  exact ⟨_, rfl, _, _, _, [], _, [], hW', trodAll_mk1 (shut_bool Try.underlying4 _), (trodAll_cons_mk (Below.trod laidOut (by kernel_rfl) (of_decide_eq_true (by kernel_rfl)) k0 bel lt0) (trodAll_cons_mk (shut_int Try.underlying55 wf1) (trodAll_cons_mk (shut_int Try.underlying5 wf2) trodAll_mk0))), rfl, bel.frame _, fun h => by cases h⟩
theorem over : Rows.scriptCutRow.holds Try.pinned (OpenSpec.ofChange Rows.scriptCutSpec) :=
  OpenClaim.holds_of_wide 8 Try.f8 rfl rfl rfl rfl rfl rfl rfl ⟨rfl, rfl, rfl, rfl, rfl⟩ rfl rfl rfl rfl rfl (by kernel_rfl) Try.func8 (by kernel_rfl)
    (of_decide_eq_true (by kernel_rfl)) (by unfold Func.isWrapper; first | (rw [if_pos (by decide +kernel)]; kernel_rfl) | (rw [if_neg (by decide +kernel)]; exact ⟨rfl, rfl⟩))
    (fun os started H enc _ => lifted os started H enc)
theorem proved : Rows.ScriptCutSaid := over
#print axioms proved
end Go.Proofs.Ytkdbccloniaogaa.scriptCut
namespace Go.Proofs.Ytkdbccloniaogaa
/-- The row, under a short name, for the claim. -/
theorem scriptCut_holds : Rows.ScriptCutSaid := scriptCut.proved
end Go.Proofs.Ytkdbccloniaogaa
