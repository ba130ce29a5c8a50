/- The row of ThreadKeeps: for every input that can be read, the call returns true and leaves its arguments as they read; out of the pure statement. Conditions: none. -/
import Derived.Test.YtnpohdnijgkkdaaRows
import Derived.Test.YtnpohdnijgkkdaaPureThreadKeeps
import Derived.WalkKit
import Derived.ProofKit
import Derived.OpenShut
import Derived.ShutString
import Derived.ChangeOld
import Derived.Below
import Derived.SizedLaws
set_option linter.unusedVariables false
set_option linter.unusedSimpArgs false
namespace Go.Proofs.Ytnpohdnijgkkdaa.threadKeeps
open Go.ChangeShapes Go.WideShapes Go.ChangeAt Go.RowKit
open Go.ChangeMaps (open_string shut_string)
open Go.Proofs.YtnpohdnijgkkdaaS
theorem own : ownKnob Try.prog.godebug = none := by kernel_rfl
theorem laidOut : laidOutB Try.prog = true := by kernel_rfl
theorem S23_eq {cs : List PV} (h : cfs (kinds Try.prog 23) cs) : PV.agg cs = S23v (S23r (.agg cs)) := by
  rw [show kinds Try.prog 23 = S23k.2 from by kernel_rfl] at h
  exact (congrArg PV.agg (etas_of h)).symm.trans (by kernel_rfl)
theorem S25_eq {cs : List PV} (h : cfs (kinds Try.prog 25) cs) : PV.agg cs = S25v (S25r (.agg cs)) := by
  rw [show kinds Try.prog 25 = S25k.2 from by kernel_rfl] at h
  exact (congrArg PV.agg (etas_of h)).symm.trans (by kernel_rfl)
theorem S30_eq {cs : List PV} (h : cfs (kinds Try.prog 30) cs) : PV.agg cs = S30v (S30r (.agg cs)) := by
  rw [show kinds Try.prog 30 = S30k.2 from by kernel_rfl] at h
  exact (congrArg PV.agg (etas_of h)).symm.trans (by kernel_rfl)
set_option maxRecDepth 100000 in
set_option maxHeartbeats 4000000 in
theorem lifted (os : Os) (started : os.Started) (H : Type) (enc : TypeId × Value → H) :
    ReturnsInHanded {} Try.checked os 6 .any (Rows.threadKeepsSpec.pre6 enc Try.prog Try.f6 Rows.threadKeepsRow.domain false) (Rows.threadKeepsSpec.post enc Try.prog Try.f6 false true false false) := by
  refine returnsInHanded_of_change_sized (C := Try.checked) own started (by kernel_rfl) Try.func6
    (ChangeSpec.witness6 (enc := enc) (C := Try.checked) false ⟨#[], #[.agg #[.int .i64 0, .int .i64 0, .int .i64 0, .int .i64 0, .int .i64 0, .int .i64 0, .int .i64 0, .int .i64 0, .bool false, .int .i64 0, .int .i64 0, .int .i64 0], .int .u8 0, .agg #[.int .i64 0, .int .i64 0, .int .i64 0, .int .i64 0, .slice none 0 0, .slice none 0 0, .slice none 0 0, .int .i64 0, .int .i64 0, .int .i64 0, .int .i64 0, .int .i64 0, .int .i64 0, .int .i64 0, .int .i64 0, .int .i64 0, .int .i64 0], .agg #[.int .i64 0, .int .i64 0, .int .i64 0, .int .i64 0, .slice none 0 0, .slice none 0 0, .slice none 0 0, .int .i64 0, .int .i64 0, .int .i64 0, .int .i64 0, .int .i64 0, .int .i64 0, .int .i64 0, .int .i64 0, .int .i64 0, .int .i64 0], .int .i64 0, .agg #[.int .i64 0, .int .i64 0], .int .i64 0], []⟩ 8 (by kernel_rfl) (by kernel_rfl) (by kernel_rfl) (by kernel_rfl)) ?_
  intro W base args ds gs before hval0 hW hcnd hsz0 _
  have hval : ∀ (j : Nat) t v, Try.f6.params[j]? = some t → args[j]? = some v → Value.okWide Try.prog W .any base t v := hval0
  have hW' := hW
  obtain ⟨p, q, hA0, hV, rfl, hfz, hnd⟩ := hW
  have hA : DataW.TrodAll enc Try.prog W 0 (fun _ => true) true Try.f6.params.toList args.toList ds p := hA0
  rw [Try.params6] at hA hval
  obtain ⟨v0, vs0, d0, ds0, p0, q0, hargs, rfl, rfl, h0, r0⟩ := trodAll_cons hA
  obtain ⟨v1, vs1, d1, ds1, p1, q1, rfl, rfl, rfl, h1, r1⟩ := trodAll_cons r0
  obtain ⟨v2, vs2, d2, ds2, p2, q2, rfl, rfl, rfl, h2, r2⟩ := trodAll_cons r1
  obtain ⟨v3, vs3, d3, ds3, p3, q3, rfl, rfl, rfl, h3, r3⟩ := trodAll_cons r2
  obtain ⟨v4, vs4, d4, ds4, p4, q4, rfl, rfl, rfl, h4, r4⟩ := trodAll_cons r3
  obtain ⟨v5, vs5, d5, ds5, p5, q5, rfl, rfl, rfl, h5, r5⟩ := trodAll_cons r4
  obtain ⟨v6, vs6, d6, ds6, p6, q6, rfl, rfl, rfl, h6, r6⟩ := trodAll_cons r5
  obtain ⟨rfl, rfl, rfl⟩ := trodAll_nil r6
  obtain rfl : args = #[v0, v1, v2, v3, v4, v5, v6] := by cases args; simp_all
  obtain ⟨rfl, rfl⟩ := trodVars_none hV
  have k0 := h0
  have lt0 : ∀ x ∈ p0, x.block < W.heap.size := by obtain ⟨m, hm⟩ := k0; exact DataW.trod_lt m _ _ _ hm
  obtain ⟨cs0, va0, hc0, hw0⟩ := opened_agg (by kernel_rfl) Try.underlying23 (hval 0 23 v0 rfl rfl) h0
  obtain ⟨x0, hx0⟩ : ∃ x, PV.agg cs0 = S23v x := ⟨_, S23_eq hc0⟩
  rw [hx0] at va0 hw0
  obtain ⟨x1, rfl, rfl, rfl, wf1⟩ := open_int Try.underlying5 (hval 1 5 v1 rfl rfl) h1
  have va1 : VP Try.prog W No (.int .u8 x1) (.int .u8 x1) := by simp only [VP]
  have hw1 : Wf (.int .u8 x1) := by simp only [Wf]; exact wf1
  have k2 := h2
  have lt2 : ∀ x ∈ p2, x.block < W.heap.size := by obtain ⟨m, hm⟩ := k2; exact DataW.trod_lt m _ _ _ hm
  obtain ⟨cs2, va2, hc2, hw2⟩ := opened_agg (by kernel_rfl) Try.underlying30 (hval 2 30 v2 rfl rfl) h2
  obtain ⟨x2, hx2⟩ : ∃ x, PV.agg cs2 = S30v x := ⟨_, S30_eq hc2⟩
  rw [hx2] at va2 hw2
  have k3 := h3
  have lt3 : ∀ x ∈ p3, x.block < W.heap.size := by obtain ⟨m, hm⟩ := k3; exact DataW.trod_lt m _ _ _ hm
  obtain ⟨cs3, va3, hc3, hw3⟩ := opened_agg (by kernel_rfl) Try.underlying30 (hval 3 30 v3 rfl rfl) h3
  obtain ⟨x3, hx3⟩ : ∃ x, PV.agg cs3 = S30v x := ⟨_, S30_eq hc3⟩
  rw [hx3] at va3 hw3
  obtain ⟨x4, rfl, rfl, rfl, wf4⟩ := open_int Try.underlying3 (hval 4 3 v4 rfl rfl) h4
  have va4 : VP Try.prog W No (.int .i64 x4) (.int .i64 x4) := by simp only [VP]
  have hw4 : Wf (.int .i64 x4) := by simp only [Wf]; exact wf4
  have k5 := h5
  have lt5 : ∀ x ∈ p5, x.block < W.heap.size := by obtain ⟨m, hm⟩ := k5; exact DataW.trod_lt m _ _ _ hm
  obtain ⟨cs5, va5, hc5, hw5⟩ := opened_agg (by kernel_rfl) Try.underlying25 (hval 5 25 v5 rfl rfl) h5
  obtain ⟨x5, hx5⟩ : ∃ x, PV.agg cs5 = S25v x := ⟨_, S25_eq hc5⟩
  rw [hx5] at va5 hw5
  obtain ⟨x6, rfl, rfl, rfl, wf6⟩ := open_int Try.underlying3 (hval 6 3 v6 rfl rfl) h6
  have va6 : VP Try.prog W No (.int .i64 x6) (.int .i64 x6) := by simp only [VP]
  have hw6 : Wf (.int .i64 x6) := by simp only [Wf]; exact wf6
  have hvs : VPs Try.prog W No [S23v x0, PV.int .u8 x1, S30v x2, S30v x3, PV.int .i64 x4, S25v x5, PV.int .i64 x6] [v0, _, v2, v3, _, v5, _] := (VPs.mk va0 (VPs.mk va1 (VPs.mk va2 (VPs.mk va3 (VPs.mk va4 (VPs.mk va5 (VPs.mk va6 VPs.mk0)))))))
  obtain ⟨k, h⟩ := pureThreadKeeps x0 x1 x2 x3 x4 x5 x6 hw0 hw1 hw2 hw3 hw4 hw5 hw6 ⟨W, No, _, hvs⟩
  have hrun : (evRes (E4 k) 100 6 [S23v x0, PV.int .u8 x1, S30v x2, S30v x3, PV.int .i64 x4, S25v x5, PV.int .i64 x6]).run = some (.pv (.bool true)) := by
    rw [f6_run, h]
    rfl
  clear hA0 hval0 hsz0
  refine (law_calls (E := E4 k) (E4_ok k) mixed hrun hvs).mono ?_
  rintro e W' ⟨rfl, bel⟩
  exact ⟨_, rfl, _, _, _, [], _, [], hW', trodAll_mk1 (shut_bool Try.underlying4 _), (trodAll_cons_mk (Below.trod laidOut (by kernel_rfl) (of_decide_eq_true (by kernel_rfl)) k0 bel lt0) (trodAll_cons_mk (shut_int Try.underlying5 wf1) (trodAll_cons_mk (Below.trod laidOut (by kernel_rfl) (of_decide_eq_true (by kernel_rfl)) k2 bel lt2) (trodAll_cons_mk (Below.trod laidOut (by kernel_rfl) (of_decide_eq_true (by kernel_rfl)) k3 bel lt3) (trodAll_cons_mk (shut_int Try.underlying3 wf4) (trodAll_cons_mk (Below.trod laidOut (by kernel_rfl) (of_decide_eq_true (by kernel_rfl)) k5 bel lt5) (trodAll_cons_mk (shut_int Try.underlying3 wf6) trodAll_mk0))))))), rfl, bel.frame _, fun h => by cases h⟩
theorem over : Rows.threadKeepsRow.holds Try.pinned (OpenSpec.ofChange Rows.threadKeepsSpec) :=
  OpenClaim.holds_of_wide 6 Try.f6 rfl rfl rfl rfl rfl rfl rfl ⟨rfl, rfl, rfl, rfl, rfl⟩ rfl rfl rfl rfl rfl (by kernel_rfl) Try.func6 (by kernel_rfl)
    (of_decide_eq_true (by kernel_rfl)) (by unfold Func.isWrapper; first | (rw [if_pos (by decide +kernel)]; kernel_rfl) | (rw [if_neg (by decide +kernel)]; exact ⟨rfl, rfl⟩))
    (fun os started H enc _ => lifted os started H enc)
theorem proved : Rows.ThreadKeepsSaid := over
#print axioms proved
end Go.Proofs.Ytnpohdnijgkkdaa.threadKeeps
namespace Go.Proofs.Ytnpohdnijgkkdaa
/-- The row, under a short name, for the claim. -/
theorem threadKeeps_holds : Rows.ThreadKeepsSaid := threadKeeps.proved
end Go.Proofs.Ytnpohdnijgkkdaa
