/- The row of TopBackends: for every input that can be read, the call returns true and leaves its arguments as they read; out of the pure statement. Conditions: none. -/
import Derived.Test.YtgfnpgnfklcicaaGreatRows
import Derived.Test.YtgfnpgnfklcicaaGreatT8
import Derived.WalkKit
import Derived.ProofKit
import Derived.OpenShut
import Derived.ShutString
import Derived.ChangeOld
import Derived.Below
import Derived.SizedLaws
set_option linter.unusedVariables false
set_option linter.unusedSimpArgs false
set_option maxRecDepth 100000
namespace Go.Proofs.YtgfnpgnfklcicaaGreat.topBackends
open Go.ChangeShapes Go.WideShapes Go.ChangeAt Go.RowKit
open Go.ChangeMaps (open_string shut_string)
open Go.Proofs.YtgfnpgnfklcicaaGreatS
theorem own : ownKnob Tryz.prog.godebug = none := by kernel_rfl
theorem laidOut : laidOutB Tryz.prog = true := by kernel_rfl
theorem S23_eq {cs : List PV} (h : cfs (jy Tryz.prog 23) cs) : PV.agg cs = S23v (S23r (.agg cs)) := by
  rw [show jy Tryz.prog 23 = S23k.2 from by kernel_rfl] at h
  exact (congrArg PV.agg (Z5 h)).symm.trans (by kernel_rfl)
set_option maxRecDepth 100000 in
set_option maxHeartbeats 4000000 in
theorem lifted (os : Os) (started : os.Started) (H : Type) (enc : TypeId × Value → H) :
    ReturnsInHanded {} Tryz.checked os 7 .any (Rows.topBackendsSpec.pre6 enc Tryz.prog Tryz.f7 Rows.topBackendsRow.domain false) (Rows.topBackendsSpec.post enc Tryz.prog Tryz.f7 false true false false) := by
  refine returnsInHanded_of_change_sized (C := Tryz.checked) own started (by kernel_rfl) Tryz.func7
    (ChangeSpec.witness6 (enc := enc) (C := Tryz.checked) false ⟨#[], #[.agg #[.int .i64 0, .int .i64 0, .int .i64 0, .int .i64 0, .int .i64 0, .int .i64 0, .int .i64 0, .int .i64 0, .bool false, .int .i64 0, .int .i64 0, .int .i64 0], .slice none 0 0, .slice none 0 0, .slice none 0 0], []⟩ 8 (by kernel_rfl) (by kernel_rfl) (by kernel_rfl) (by kernel_rfl)) ?_
  intro W base args ds gs before hval0 hW hcnd hsz0 _
  have hval : ∀ (j : Nat) t v, Tryz.f7.params[j]? = some t → args[j]? = some v → Value.okWide Tryz.prog W .any base t v := hval0
  have hW' := hW
  obtain ⟨p, q, hA0, hV, rfl, hfz, hnd⟩ := hW
  have hA : DataW.TrodAll enc Tryz.prog W 0 (fun _ => true) true Tryz.f7.params.toList args.toList ds p := hA0
  rw [Tryz.params7] at hA hval
  obtain ⟨v0, vs0, d0, ds0, p0, q0, hargs, rfl, rfl, h0, r0⟩ := trodAll_cons hA
  obtain ⟨v1, vs1, d1, ds1, p1, q1, rfl, rfl, rfl, h1, r1⟩ := trodAll_cons r0
  obtain ⟨v2, vs2, d2, ds2, p2, q2, rfl, rfl, rfl, h2, r2⟩ := trodAll_cons r1
  obtain ⟨v3, vs3, d3, ds3, p3, q3, rfl, rfl, rfl, h3, r3⟩ := trodAll_cons r2
  obtain ⟨rfl, rfl, rfl⟩ := trodAll_nil r3
  obtain rfl : args = #[v0, v1, v2, v3] := by cases args; simp_all
  obtain ⟨rfl, rfl⟩ := trodVars_none hV
  have k0 := h0
  have lt0 : ∀ x ∈ p0, x.block < W.heap.size := by obtain ⟨m, hm⟩ := k0; exact DataW.trod_lt m _ _ _ hm
  obtain ⟨cs0, va0, hc0, hw0⟩ := jyQ (by kernel_rfl) Tryz.underlying23 (hval 0 23 v0 rfl rfl) h0
  obtain ⟨x0, hx0⟩ : ∃ x, PV.agg cs0 = S23v x := ⟨_, S23_eq hc0⟩
  rw [hx0] at va0 hw0
  have k1 := h1
  have lt1 : ∀ x ∈ p1, x.block < W.heap.size := by obtain ⟨m, hm⟩ := k1; exact DataW.trod_lt m _ _ _ hm
  obtain ⟨y1, va1, hc1, hw1⟩ := ZyQ (k := .list 29) (by kernel_rfl) (by kernel_rfl) (by obtain ⟨_, _, _, e⟩ := okWide_slice Tryz.underlying27 (hval 1 27 v1 rfl rfl); rw [e]; rfl) h1
  obtain ⟨x1, rfl⟩ := hc1
  have k2 := h2
  have lt2 : ∀ x ∈ p2, x.block < W.heap.size := by obtain ⟨m, hm⟩ := k2; exact DataW.trod_lt m _ _ _ hm
  obtain ⟨y2, va2, hc2, hw2⟩ := ZyQ (k := .list 5) (by kernel_rfl) (by kernel_rfl) (by obtain ⟨_, _, _, e⟩ := okWide_slice Tryz.underlying59 (hval 2 59 v2 rfl rfl); rw [e]; rfl) h2
  obtain ⟨x2, rfl⟩ := hc2
  have k3 := h3
  have lt3 : ∀ x ∈ p3, x.block < W.heap.size := by obtain ⟨m, hm⟩ := k3; exact DataW.trod_lt m _ _ _ hm
  obtain ⟨y3, va3, hc3, hw3⟩ := ZyQ (k := .list 3) (by kernel_rfl) (by kernel_rfl) (by obtain ⟨_, _, _, e⟩ := okWide_slice Tryz.underlying24 (hval 3 24 v3 rfl rfl); rw [e]; rfl) h3
  obtain ⟨x3, rfl⟩ := hc3
  have hvs : VPs Tryz.prog W No [S23v x0, PV.list 29 x1, PV.list 5 x2, PV.list 3 x3] [v0, v1, v2, v3] := (VPs.mk va0 (VPs.mk va1 (VPs.mk va2 (VPs.mk va3 VPs.mk0))))
  obtain ⟨k, h⟩ := Zyz x0 x1 x2 x3 hw0 hw1 hw2 hw3 ⟨W, No, _, hvs⟩
  have hrun : (qy (E7 k) 100 7 [S23v x0, PV.list 29 x1, PV.list 5 x2, PV.list 3 x3]).run = some (.pv (.bool true)) := by
    rw [f7_run, h]
    rfl
  clear hA0 hval0 hsz0
  refine (JyP (E := E7 k) (E7_ok k) qv hrun hvs).mono ?_
  rintro e W' ⟨rfl, bel⟩
  exact ⟨_, rfl, _, _, _, [], _, [], hW', trodAll_mk1 (shut_bool Tryz.underlying4 _), (trodAll_cons_mk (Below.trod laidOut (by kernel_rfl) (of_decide_eq_true (by kernel_rfl)) k0 bel lt0) (trodAll_cons_mk (Below.trod laidOut (by kernel_rfl) (of_decide_eq_true (by kernel_rfl)) k1 bel lt1) (trodAll_cons_mk (Below.trod laidOut (by kernel_rfl) (of_decide_eq_true (by kernel_rfl)) k2 bel lt2) (trodAll_cons_mk (Below.trod laidOut (by kernel_rfl) (of_decide_eq_true (by kernel_rfl)) k3 bel lt3) trodAll_mk0)))), rfl, bel.frame _, fun h => by cases h⟩
theorem over : Rows.topBackendsRow.holds Tryz.pinned (OpenSpec.ofChange Rows.topBackendsSpec) :=
  OpenClaim.holds_of_wide 7 Tryz.f7 rfl rfl rfl rfl rfl rfl rfl ⟨rfl, rfl, rfl, rfl, rfl⟩ rfl rfl rfl rfl rfl (by kernel_rfl) Tryz.func7 (by kernel_rfl)
    (of_decide_eq_true (by kernel_rfl)) (by unfold Func.isWrapper; first | (rw [if_pos (by decide +kernel)]; kernel_rfl) | (rw [if_neg (by decide +kernel)]; exact ⟨rfl, rfl⟩))
    (fun os started H enc _ => lifted os started H enc)
theorem proved : Rows.TopBackendsSaid := over
#print axioms proved
end Go.Proofs.YtgfnpgnfklcicaaGreat.topBackends
namespace Go.Proofs.YtgfnpgnfklcicaaGreat
/-- The row, under a short name, for the claim. -/
theorem topBackends_holds : Rows.TopBackendsSaid := topBackends.proved
end Go.Proofs.YtgfnpgnfklcicaaGreat
