/- The row of ScriptBack: for every input that can be read, the call returns true and leaves its arguments as they read; out of the pure statement. Conditions: none. -/
import Derived.Test.YtkdbccloniaogaaRows
import Derived.Test.YtkdbccloniaogaaPureScriptBack
import Derived.WalkKit
import Derived.ProofKit
import Derived.OpenShut
import Derived.ShutString
import Derived.ChangeOld
import Derived.Below
import Derived.SizedLaws
set_option linter.unusedVariables false
set_option linter.unusedSimpArgs false
set_option maxRecDepth 100000
namespace Go.Proofs.Ytkdbccloniaogaa.scriptBack
open Go.ChangeShapes Go.WideShapes Go.ChangeAt Go.RowKit
open Go.ChangeMaps (open_string shut_string)
open Go.Proofs.YtkdbccloniaogaaS
theorem own : ownKnob Try.prog.godebug = none := by kernel_rfl
theorem laidOut : laidOutB Try.prog = true := by kernel_rfl
theorem S23_eq {cs : List PV} (h : cfs (kinds Try.prog 23) cs) : PV.agg cs = S23v (S23r (.agg cs)) := by
  rw [show kinds Try.prog 23 = S23k.2 from by kernel_rfl] at h
  exact (congrArg PV.agg (etas_of h)).symm.trans (by kernel_rfl)
set_option maxRecDepth 100000 in
set_option maxHeartbeats 4000000 in
theorem lifted (os : Os) (started : os.Started) (H : Type) (enc : TypeId × Value → H) :
    ReturnsInHanded {} Try.checked os 6 .any (Rows.scriptBackSpec.pre6 enc Try.prog Try.f6 Rows.scriptBackRow.domain false) (Rows.scriptBackSpec.post enc Try.prog Try.f6 false true false false) := by
  refine returnsInHanded_of_change_sized (C := Try.checked) own started (by kernel_rfl) Try.func6
    (ChangeSpec.witness6 (enc := enc) (C := Try.checked) false ⟨#[], #[.string ByteArray.empty, .agg #[.int .i64 0, .int .i64 0, .int .i64 0, .int .i64 0, .int .i64 0, .int .i64 0, .int .i64 0, .int .i64 0, .bool false, .int .i64 0, .int .i64 0, .int .i64 0], .slice none 0 0], []⟩ 8 (by kernel_rfl) (by kernel_rfl) (by kernel_rfl) (by kernel_rfl)) ?_
  intro W base args ds gs before hval0 hW hcnd hsz0 _
  have hval : ∀ (j : Nat) t v, Try.f6.params[j]? = some t → args[j]? = some v → Value.okWide Try.prog W .any base t v := hval0
  have hW' := hW
  obtain ⟨p, q, hA0, hV, rfl, hfz, hnd⟩ := hW
  have hA : DataW.TrodAll enc Try.prog W 0 (fun _ => true) true Try.f6.params.toList args.toList ds p := hA0
  rw [Try.params6] at hA hval
  obtain ⟨v0, vs0, d0, ds0, p0, q0, hargs, rfl, rfl, h0, r0⟩ := trodAll_cons hA
  obtain ⟨v1, vs1, d1, ds1, p1, q1, rfl, rfl, rfl, h1, r1⟩ := trodAll_cons r0
  obtain ⟨v2, vs2, d2, ds2, p2, q2, rfl, rfl, rfl, h2, r2⟩ := trodAll_cons r1
  obtain ⟨rfl, rfl, rfl⟩ := trodAll_nil r2
  obtain rfl : args = #[v0, v1, v2] := by cases args; simp_all
  obtain ⟨rfl, rfl⟩ := trodVars_none hV
  obtain ⟨x0, rfl, rfl, rfl, wf0⟩ := open_string Try.underlying9 (hval 0 9 v0 rfl rfl) h0
  have va0 : VP Try.prog W No (.str x0) (.string x0) := by simp only [VP]
  have hw0 : Wf (.str x0) := by simp only [Wf]; exact wf0
  have k1 := h1
  have lt1 : ∀ x ∈ p1, x.block < W.heap.size := by obtain ⟨m, hm⟩ := k1; exact DataW.trod_lt m _ _ _ hm
  obtain ⟨cs1, va1, hc1, hw1⟩ := opened_agg (by kernel_rfl) Try.underlying23 (hval 1 23 v1 rfl rfl) h1
  obtain ⟨x1, hx1⟩ : ∃ x, PV.agg cs1 = S23v x := ⟨_, S23_eq hc1⟩
  rw [hx1] at va1 hw1
  have k2 := h2
  have lt2 : ∀ x ∈ p2, x.block < W.heap.size := by obtain ⟨m, hm⟩ := k2; exact DataW.trod_lt m _ _ _ hm
  obtain ⟨y2, va2, hc2, hw2⟩ := opened_one (k := .list 38) (by kernel_rfl) (by kernel_rfl) (by obtain ⟨_, _, _, e⟩ := okWide_slice Try.underlying24 (hval 2 24 v2 rfl rfl); rw [e]; rfl) h2
  obtain ⟨x2, rfl⟩ := hc2
  have hvs : VPs Try.prog W No [PV.str x0, S23v x1, PV.list 38 x2] [_, v1, v2] := (VPs.mk va0 (VPs.mk va1 (VPs.mk va2 VPs.mk0)))
  obtain ⟨k, h⟩ := pureScriptBack x0 x1 x2 hw0 hw1 hw2 ⟨W, No, _, hvs⟩
  have hrun : (evRes (E5 k) 100 6 [PV.str x0, S23v x1, PV.list 38 x2]).run = some (.pv (.bool true)) := by
    rw [f6_run, h]
    rfl
  clear hA0 hval0 hsz0
  refine (law_calls (E := E5 k) (E5_ok k) mixed hrun hvs).mono ?_
  rintro e W' ⟨rfl, bel⟩
  exact ⟨_, rfl, _, _, _, [], _, [], hW', trodAll_mk1 (shut_bool Try.underlying4 _), (trodAll_cons_mk (shut_string Try.underlying9 wf0) (trodAll_cons_mk (Below.trod laidOut (by kernel_rfl) (of_decide_eq_true (by kernel_rfl)) k1 bel lt1) (trodAll_cons_mk (Below.trod laidOut (by kernel_rfl) (of_decide_eq_true (by kernel_rfl)) k2 bel lt2) trodAll_mk0))), rfl, bel.frame _, fun h => by cases h⟩
theorem over : Rows.scriptBackRow.holds Try.pinned (OpenSpec.ofChange Rows.scriptBackSpec) :=
  OpenClaim.holds_of_wide 6 Try.f6 rfl rfl rfl rfl rfl rfl rfl ⟨rfl, rfl, rfl, rfl, rfl⟩ rfl rfl rfl rfl rfl (by kernel_rfl) Try.func6 (by kernel_rfl)
    (of_decide_eq_true (by kernel_rfl)) (by unfold Func.isWrapper; first | (rw [if_pos (by decide +kernel)]; kernel_rfl) | (rw [if_neg (by decide +kernel)]; exact ⟨rfl, rfl⟩))
    (fun os started H enc _ => lifted os started H enc)
theorem proved : Rows.ScriptBackSaid := over
#print axioms proved
end Go.Proofs.Ytkdbccloniaogaa.scriptBack
namespace Go.Proofs.Ytkdbccloniaogaa
/-- The row, under a short name, for the claim. -/
theorem scriptBack_holds : Rows.ScriptBackSaid := scriptBack.proved
end Go.Proofs.Ytkdbccloniaogaa
