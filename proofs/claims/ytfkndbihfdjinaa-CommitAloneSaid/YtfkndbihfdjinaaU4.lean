/- A step, and what may be, in plain words. Conditions: none. -/
import Derived.Test.YtfkndbihfdjinaaF4
import Derived.Test.YtfkndbihfdjinaaU3
import Derived.Test.YtfkndbihfdjinaaSimPure
set_option linter.unusedVariables false
set_option linter.unusedSimpArgs false
set_option maxRecDepth 10000
namespace Go.Proofs.YtfkndbihfdjinaaS
open Go Go.Proofs
theorem val14 {x : S38} (h : Good x) : (f14 0 x).map f14W = some (.pv (.tup [S38v (stepT x), .bool (stepB x)])) := by
  unfold f14 f14t0 stepT stepB
  cases h3 : (x.a16 == 3) with
  | true =>
    rw [f24_val h]
    rfl
  | false =>
    cases h2 : (x.a16 != 2) with
    | true =>
      cases h25 : (x.a16 != 25) with
      | true => rfl
      | false =>
        rw [f21_val h]
        have e25 : (x.a16 == 25) = true := by simpa using h25
        have hp : pre22 x = true := by
          unfold pre22
          rw [decide_eq_true h.ll, decide_eq_true h.lb]
          rfl
        simp only [Option.isSome_some, Option.getD_some, beq_self_eq_true, Bool.true_and, Bool.and_true, e25, f23_val, hp]
        cases hq : (cellY x == cellX x) with
        | true => rfl
        | false => rfl
    | false =>
      have e25 : (x.a16 == 25) = false := by
        have : x.a16 = 2 := by simpa using h2
        rw [this]
        rfl
      rw [f21_val h]
      have hp : pre22 x = true := by
        unfold pre22
        rw [decide_eq_true h.ll, decide_eq_true h.lb]
        rfl
      simp only [Option.isSome_some, Option.getD_some, beq_self_eq_true, Bool.true_and, Bool.and_true, e25, f23_val, hp]
      cases hq : (cellY x == cellX x) with
      | true => rfl
      | false => rfl
noncomputable def f14P : Ora := ⟨fun ps => okPs [S38k] ps && goodB (S38r (ps.headD PV.undef)), fun ps => .pv (.tup [S38v (stepT (S38r (ps.headD PV.undef))), .bool (stepB (S38r (ps.headD PV.undef)))])⟩
theorem f14P_spec : Spec Try.prog 14 f14P := spec_fit 100 f14rs [S38k] (fun ps => goodB (S38r (ps.headD PV.undef))) _ mixed fun ps hm hs hp => by
  have hc : canPs [S38k] ps = [S38v (S38r (ps.headD PV.undef))] := by kernel_rfl
  refine ⟨E4 0, _, rfl, E4_ok 0, ?_, .inl rfl⟩
  rw [hc, f14_run]
  exact val14 (good_iff.1 hp)
noncomputable def f11P : Ora := ⟨fun ps => okPs [S42k, (false, [K.int .i64])] ps && decide ((S42r (ps.headD PV.undef)).a3 ≤ 4), fun ps => .pv (.int .i64 (cellOf (S42r (ps.headD PV.undef)).a1 (S42r (ps.headD PV.undef)).a3 (S42r (ps.headD PV.undef)).a4 (S42r (ps.headD PV.undef)).a5 (pInt (ps.tail.headD PV.undef))))⟩
theorem f11P_spec : Spec Try.prog 11 f11P := spec_at 100 [S42k, (false, [K.int .i64])] (fun ps => decide ((S42r (ps.headD PV.undef)).a3 ≤ 4)) _ mixed fun ps hm hs hp => by
  have hc : canPs [S42k, (false, [K.int .i64])] ps = [S42v (S42r (ps.headD PV.undef)), PV.int .i64 (pInt (ps.tail.headD PV.undef))] := by kernel_rfl
  refine ⟨E3 0, _, rfl, E3_ok 0, ?_, .inl rfl⟩
  rw [hc, f11_run, f11_val (of_decide_eq_true hp)]
  rfl
theorem f17_isSome (x : S42) : (f17 0 x).isSome = true := Tr.whole_some (by kernel_rfl)
/-- A config that may be. -/
structure OkC (x : S42) : Prop where
  t1 : 1 ≤ x.a0
  t2 : x.a0 ≤ 16
  i1 : 1 ≤ x.a1
  i2 : x.a1 ≤ 4
  d1 : 0 ≤ x.a3
  d2 : x.a3 ≤ 4
  l1 : 0 ≤ x.a4
  l2 : x.a4 ≤ 3
  w1 : 1 ≤ x.a5
  w2 : x.a5 ≤ 8
theorem f17_ok {x : S42} (h : ((f17 0 x).getD f17d).y1 = 0) : OkC x := by
  have e : f17 0 x = some ⟨0⟩ := by
    rw [some_getD f17d (f17_isSome x), ← h]
  clear h
  rcases test_some e with ⟨k0, e⟩ | ⟨k0, e⟩
  · simp [Tr.run] at e
  rcases test_some e with ⟨k1, e⟩ | ⟨k1, e⟩
  · simp [Tr.run] at e
  rcases test_some e with ⟨k2, e⟩ | ⟨k2, e⟩
  · simp [Tr.run] at e
  rcases test_some e with ⟨k3, e⟩ | ⟨k3, e⟩
  · simp [Tr.run] at e
  rcases test_some e with ⟨k4, e⟩ | ⟨k4, e⟩
  · simp [Tr.run] at e
  rcases test_some e with ⟨k5, e⟩ | ⟨k5, e⟩
  · simp [Tr.run] at e
  rcases test_some e with ⟨k6, e⟩ | ⟨k6, e⟩
  · simp [Tr.run] at e
  rcases test_some e with ⟨k7, e⟩ | ⟨k7, e⟩
  · simp [Tr.run] at e
  rcases test_some e with ⟨k8, e⟩ | ⟨k8, e⟩
  · simp [Tr.run] at e
  rcases test_some e with ⟨k9, e⟩ | ⟨k9, e⟩
  · simp [Tr.run] at e
  rcases test_some e with ⟨k10, e⟩ | ⟨k10, e⟩
  · simp [Tr.run] at e
  rcases test_some e with ⟨k11, e⟩ | ⟨k11, e⟩
  · simp [Tr.run] at e
  rcases test_some e with ⟨k12, e⟩ | ⟨k12, e⟩
  · simp [Tr.run] at e
  rcases test_some e with ⟨k13, e⟩ | ⟨k13, e⟩
  · simp [Tr.run] at e
  rcases test_some e with ⟨k14, e⟩ | ⟨k14, e⟩
  · simp [Tr.run] at e
  rcases test_some e with ⟨k15, e⟩ | ⟨k15, e⟩
  · simp [Tr.run] at e
  have k0 := of_decide_eq_false k0
  have k1 := of_decide_eq_false k1
  have k2 := of_decide_eq_false k2
  have k3 := of_decide_eq_false k3
  have k4 := of_decide_eq_false k4
  have k5 := of_decide_eq_false k5
  have k6 := of_decide_eq_false k6
  have k7 := of_decide_eq_false k7
  have k8 := of_decide_eq_false k8
  have k9 := of_decide_eq_false k9
  have k10 := of_decide_eq_false k10
  have k11 := of_decide_eq_false k11
  have k12 := of_decide_eq_false k12
  have k13 := of_decide_eq_false k13
  have k14 := of_decide_eq_false k14
  have k15 := of_decide_eq_false k15
  exact ⟨by omega, by omega, by omega, by omega, by omega, by omega, by omega, by omega, by omega, by omega⟩
noncomputable def mayR (x : S38) : Bool := (checkR x == 0) && (decide (x.a12 ≥ 0) && (decide (x.a12 < x.a0) && (((x.a14.length : Int) == sizeOf x.a0 x.a1 x.a3 x.a4 x.a5) && (((x.a15.length : Int) == x.a0) && (decide (x.a17 ≥ 0) && decide (x.a17 < x.a1))))))
theorem f9_val (x : S38) : f9 0 x = some ⟨mayR x⟩ := by
  unfold f9 f9t0
  refine run_true (f17_isSome _) ?_
  have hm : mayR x = ((((f17 0 (conf x)).getD f17d).y1 == 0) && (decide (x.a12 ≥ 0) && (decide (x.a12 < x.a0) && (((x.a14.length : Int) == sizeOf x.a0 x.a1 x.a3 x.a4 x.a5) && (((x.a15.length : Int) == x.a0) && (decide (x.a17 ≥ 0) && decide (x.a17 < x.a1))))))) := rfl
  rw [hm]
  refine run_test (fun k => ?_) (fun k => by rw [show (((f17 0 (conf x)).getD f17d).y1 == 0) = false from k]; rfl)
  have hd : (conf x).a3 ≤ 4 := (f17_ok (x := conf x) (beq_iff_eq.1 k)).d2
  rw [show (((f17 0 (conf x)).getD f17d).y1 == 0) = true from k]
  refine run_test (fun k => ?_) (fun k => by rw [k]; rfl)
  rw [k]
  refine run_test (fun k => ?_) (fun k => by rw [k]; rfl)
  rw [k]
  have h18 := f18_val hd
  have h18' : f18 0 ⟨x.a0, x.a1, x.a2, x.a3, x.a4, x.a5, x.a6, x.a7, x.a8, x.a9, x.a10, x.a11⟩ = _ := h18
  rw [h18']
  refine run_true rfl ?_
  refine run_test (fun k => ?_) (fun k => by rw [show ((x.a14.length : Int) == sizeOf x.a0 x.a1 x.a3 x.a4 x.a5) = false from k]; rfl)
  rw [show ((x.a14.length : Int) == sizeOf x.a0 x.a1 x.a3 x.a4 x.a5) = true from k]
  refine run_test (fun k => ?_) (fun k => by rw [k]; rfl)
  rw [k]
  refine run_test (fun k => ?_) (fun k => by rw [k]; rfl)
  rw [k]
  rfl
noncomputable def f9P : Ora := ⟨fun ps => okPs [S38k] ps && true, fun ps => .pv (.bool (mayR (S38r (ps.headD PV.undef))))⟩
theorem f9P_spec : Spec Try.prog 9 f9P := spec_at 100 [S38k] (fun ps => true) _ mixed fun ps hm hs hp => by
  have hc : canPs [S38k] ps = [S38v (S38r (ps.headD PV.undef))] := by kernel_rfl
  refine ⟨E4 0, _, rfl, E4_ok 0, ?_, .inl rfl⟩
  rw [hc, f9_run, f9_val]
  rfl
end Go.Proofs.YtfkndbihfdjinaaS
