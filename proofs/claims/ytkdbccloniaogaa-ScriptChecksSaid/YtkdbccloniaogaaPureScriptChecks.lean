/- The pure statement that is left of ScriptChecks. Conditions: the numbers' own ranges. -/
import Derived.Test.YtkdbccloniaogaaFacts09
import Derived.Test.YtkdbccloniaogaaF5x3
import Derived.Test.YtkdbccloniaogaaSimPure
set_option linter.unusedVariables false
set_option linter.unusedSimpArgs false
set_option maxRecDepth 10000
namespace Go.Proofs.YtkdbccloniaogaaS
open Go Go.Proofs
def cfg26 (x : S23) : S26 := ⟨x.a0, x.a1, x.a2, x.a3, x.a4, x.a5, x.a6, x.a7, x.a8, x.a9, x.a10, x.a11⟩
theorem chk_same (x : S23) : chkC (cfg26 x) = chk5 x := by
  unfold chkC f13 f13t0 chk5 config_Check.v cfg26
  simp only [Tr.run, Bool.cond_eq_ite, decide_eq_true_eq]
  by_cases l0 : x.a0 < 1
  · rw [if_pos l0, if_pos (Or.inl l0)]
    rfl
  rw [if_neg l0]
  by_cases g0 : x.a0 > 16
  · rw [if_pos g0, if_pos (Or.inr g0)]
    rfl
  rw [if_neg g0, if_neg (not_or.2 ⟨l0, g0⟩)]
  by_cases l1 : x.a1 < 1
  · rw [if_pos l1, if_pos (Or.inl l1)]
    rfl
  rw [if_neg l1]
  by_cases g1 : x.a1 > 4
  · rw [if_pos g1, if_pos (Or.inr g1)]
    rfl
  rw [if_neg g1, if_neg (not_or.2 ⟨l1, g1⟩)]
  by_cases l2 : x.a2 < 1
  · rw [if_pos l2, if_pos (Or.inl l2)]
    rfl
  rw [if_neg l2]
  by_cases g2 : x.a2 > 3
  · rw [if_pos g2, if_pos (Or.inr g2)]
    rfl
  rw [if_neg g2, if_neg (not_or.2 ⟨l2, g2⟩)]
  by_cases l3 : x.a3 < 0
  · rw [if_pos l3, if_pos (Or.inl l3)]
    rfl
  rw [if_neg l3]
  by_cases g3 : x.a3 > 4
  · rw [if_pos g3, if_pos (Or.inr g3)]
    rfl
  rw [if_neg g3, if_neg (not_or.2 ⟨l3, g3⟩)]
  by_cases l4 : x.a4 < 0
  · rw [if_pos l4, if_pos (Or.inl l4)]
    rfl
  rw [if_neg l4]
  by_cases g4 : x.a4 > 3
  · rw [if_pos g4, if_pos (Or.inr g4)]
    rfl
  rw [if_neg g4, if_neg (not_or.2 ⟨l4, g4⟩)]
  by_cases l5 : x.a5 < 1
  · rw [if_pos l5, if_pos (Or.inl l5)]
    rfl
  rw [if_neg l5]
  by_cases g5 : x.a5 > 8
  · rw [if_pos g5, if_pos (Or.inr g5)]
    rfl
  rw [if_neg g5, if_neg (not_or.2 ⟨l5, g5⟩)]
  by_cases l6 : x.a6 < 0
  · rw [if_pos l6, if_pos (Or.inl l6)]
    rfl
  rw [if_neg l6]
  by_cases g6 : x.a6 > 20
  · rw [if_pos g6, if_pos (Or.inr g6)]
    rfl
  rw [if_neg g6, if_neg (not_or.2 ⟨l6, g6⟩)]
  by_cases l7 : x.a7 < 0
  · rw [if_pos l7, if_pos (Or.inl l7)]
    rfl
  rw [if_neg l7]
  by_cases g7 : x.a7 > 1000
  · rw [if_pos g7, if_pos (Or.inr g7)]
    rfl
  rw [if_neg g7, if_neg (not_or.2 ⟨l7, g7⟩)]
  by_cases b : x.a8 = true
  · rw [if_pos b]
    by_cases p : x.a9 > x.a11
    · rw [if_pos p, if_pos ⟨b, Or.inl p⟩]
      rfl
    rw [if_neg p]
    by_cases q : x.a11 > x.a10
    · rw [if_pos q, if_pos ⟨b, Or.inr q⟩]
      rfl
    rw [if_neg q, if_neg (fun h => h.2.elim p q)]
    rfl
  · rw [if_neg b, if_neg (fun h => b h.1)]
    rfl
/-- May such an op be? -/
def opB (b : Bool) (tag v : Int) : Bool := bif b then (tag == 8 || (tag == 9 && decide (v ≥ 0))) else (decide (1 ≤ tag) && decide (tag ≤ 7))
def chkP (t n : Int) (b : Bool) (k th it tag v : Int) : Int :=
  if k < 1 ∨ 3 < k then 90 else if k = 3 then 0 else if th < 0 ∨ t ≤ th then 91 else if k = 2 then 0 else if it < 0 ∨ n ≤ it then 92 else bif opB b tag v then 0 else 93
theorem f15_P (x : S26) (y : S42) : f15 0 x y = some ⟨chkP x.a0 x.a1 x.a8 y.a0 y.a1 y.a2 y.a3 y.a4⟩ := by
  obtain ⟨k, th, it, tag, v⟩ := y
  unfold f15 f15t0 chkP
  dsimp only
  refine run_test (fun h => ?_) (fun h => ?_)
  · rw [if_pos (Or.inl (of_decide_eq_true h))]; rfl
  have k1 := of_decide_eq_false h
  refine run_test (fun h => ?_) (fun h => ?_)
  · rw [if_pos (Or.inr (of_decide_eq_true h))]; rfl
  have k2 := of_decide_eq_false h
  rw [if_neg (by omega)]
  refine run_test (fun h => ?_) (fun h => ?_)
  · rw [if_pos (by simpa using h)]; rfl
  have k3 : ¬ k = 3 := by simpa using h
  rw [if_neg k3]
  refine run_test (fun h => ?_) (fun h => ?_)
  · rw [if_pos (Or.inl (of_decide_eq_true h))]; rfl
  have t1 := of_decide_eq_false h
  refine run_test (fun h => ?_) (fun h => ?_)
  · rw [if_pos (Or.inr (of_decide_eq_true h))]; rfl
  have t2 := of_decide_eq_false h
  rw [if_neg (by omega)]
  refine run_test (fun h => ?_) (fun h => ?_)
  · rw [if_pos (by simpa using h)]; rfl
  have k4 : ¬ k = 2 := by simpa using h
  rw [if_neg k4]
  refine run_test (fun h => ?_) (fun h => ?_)
  · rw [if_pos (Or.inl (of_decide_eq_true h))]; rfl
  have i1 := of_decide_eq_false h
  refine run_test (fun h => ?_) (fun h => ?_)
  · rw [if_pos (Or.inr (of_decide_eq_true h))]; rfl
  have i2 := of_decide_eq_false h
  rw [if_neg (by omega)]
  unfold opB
  cases hb : x.a8 with
  | true =>
    refine run_true rfl ?_
    refine run_test (fun h => by rw [h]; rfl) (fun h => ?_)
    rw [h]
    refine run_test (fun h => ?_) (fun h => by rw [h]; rfl)
    rw [h]
    cases hv : decide (v ≥ 0) with
    | true => exact run_false rfl rfl
    | false => exact run_true rfl rfl
  | false =>
    refine run_false rfl ?_
    cases hv : decide (1 ≤ tag) with
    | false => exact run_false rfl rfl
    | true =>
      refine run_true rfl ?_
      cases hw : decide (tag ≤ 7) with
      | true => exact run_false rfl rfl
      | false => exact run_true rfl rfl
theorem op14 {α : Type} (b : Bool) (tag v : Int) {A B : Tr α} {r : Option α} (hA : opB b tag v = false → A.run = r) (hB : opB b tag v = true → B.run = r) : (Tr.test (!b) (.test (decide ((1 : Int) ≤ tag)) (.test (decide (tag ≤ (9 : Int))) (.test (!decide (tag < (8 : Int))) A B) A) A) (.test (tag == (9 : Int)) (.test (!decide (v ≥ (0 : Int))) A B) (.test (!tag == (8 : Int)) A B))).run = r := by
  unfold opB at hA hB
  cases b with
  | false =>
    simp only [cond_false] at hA hB
    refine run_true rfl ?_
    cases h1 : decide (1 ≤ tag) with
    | false => exact run_false rfl (hA (by rw [h1]; rfl))
    | true =>
      refine run_true rfl ?_
      by_cases h7 : tag ≤ 7
      · have e7 : decide (tag ≤ 7) = true := decide_eq_true h7
        exact run_true (decide_eq_true (by omega)) (run_false (by rw [decide_eq_true (show tag < 8 by omega)]; rfl) (hB (by rw [h1, e7]; rfl)))
      · have e7 : decide (tag ≤ 7) = false := decide_eq_false h7
        refine run_test (fun _ => run_true (by rw [decide_eq_false (show ¬ tag < 8 by omega)]; rfl) (hA (by rw [h1, e7]; rfl))) (fun _ => hA (by rw [h1, e7]; rfl))
  | true =>
    simp only [cond_true] at hA hB
    refine run_false rfl ?_
    refine run_test (fun h9 => ?_) (fun h9 => ?_)
    · have e8 : (tag == 8) = false := by
        have : tag = 9 := by simpa using h9
        rw [this]; rfl
      cases hv : decide (v ≥ 0) with
      | true => exact run_false rfl (hB (by rw [e8, h9, hv]; rfl))
      | false => exact run_true rfl (hA (by rw [e8, h9, hv]; rfl))
    · cases h8 : (tag == 8) with
      | true => exact run_false rfl (hB (by rw [h8]; rfl))
      | false => exact run_true rfl (hA (by rw [h8, h9]; rfl))
theorem arm14 (x : S23) (y : S38) (hk : y.a0 = 1 ∨ y.a0 = 2) : (Tr.test (decide ((0 : Int) ≤ y.a1)) (.test (!decide (y.a1 < x.a0)) (.ret (f14o.r0 (91 : Int))) (.test (y.a0 == (2 : Int)) (.ret (.r0 ((0 : Int)))) (.test (decide ((0 : Int) ≤ y.a2)) (.test (!decide (y.a2 < x.a1)) (.ret (.r0 ((92 : Int)))) (.test (!x.a8) (.test (decide ((1 : Int) ≤ y.a3)) (.test (decide (y.a3 ≤ (9 : Int))) (.test (!decide (y.a3 < (8 : Int))) (.ret (.r0 ((93 : Int)))) (.ret (.r0 ((0 : Int))))) (.ret (.r0 ((93 : Int))))) (.ret (.r0 ((93 : Int))))) (.test (y.a3 == (9 : Int)) (.test (!decide (y.a4 ≥ (0 : Int))) (.ret (.r0 ((93 : Int)))) (.ret (.r0 ((0 : Int))))) (.test (!y.a3 == (8 : Int)) (.ret (.r0 ((93 : Int)))) (.ret (.r0 ((0 : Int)))))))) (.ret (.r0 ((92 : Int))))))) (.ret (.r0 ((91 : Int))))).run = some ⟨chkP x.a0 x.a1 x.a8 y.a0 y.a1 y.a2 y.a3 y.a4⟩ := by
  unfold chkP
  rw [if_neg (by omega), if_neg (by omega)]
  by_cases t : y.a1 < 0 ∨ x.a0 ≤ y.a1
  · rw [if_pos t]
    by_cases t0 : y.a1 < 0
    · exact run_false (decide_eq_false (by omega)) rfl
    · exact run_true (decide_eq_true (by omega)) (run_true (by rw [decide_eq_false (show ¬ y.a1 < x.a0 by omega)]; rfl) rfl)
  rw [if_neg t]
  refine run_true (decide_eq_true (by omega)) (run_false (by rw [decide_eq_true (show y.a1 < x.a0 by omega)]; rfl) ?_)
  by_cases k2 : y.a0 = 2
  · rw [if_pos k2]
    exact run_true (by simpa using k2) rfl
  rw [if_neg k2]
  refine run_false (by simpa using k2) ?_
  by_cases i : y.a2 < 0 ∨ x.a1 ≤ y.a2
  · rw [if_pos i]
    by_cases i0 : y.a2 < 0
    · exact run_false (decide_eq_false (by omega)) rfl
    · exact run_true (decide_eq_true (by omega)) (run_true (by rw [decide_eq_false (show ¬ y.a2 < x.a1 by omega)]; rfl) rfl)
  rw [if_neg i]
  refine run_true (decide_eq_true (by omega)) (run_false (by rw [decide_eq_true (show y.a2 < x.a1 by omega)]; rfl) ?_)
  exact op14 x.a8 y.a3 y.a4 (fun h => by rw [h]; rfl) (fun h => by rw [h]; rfl)
theorem f14_P (x : S23) (y : S38) : f14 0 x y = some ⟨chkP x.a0 x.a1 x.a8 y.a0 y.a1 y.a2 y.a3 y.a4⟩ := by
  unfold f14 f14t0
  by_cases k1 : y.a0 = 1
  · exact run_true (by simpa using k1) (arm14 x y (.inl k1))
  refine run_false (by simpa using k1) ?_
  by_cases k2 : y.a0 = 2
  · exact run_true (by simpa using k2) (arm14 x y (.inr k2))
  refine run_false (by simpa using k2) ?_
  by_cases k3 : y.a0 = 3
  · refine run_true (by simpa using k3) ?_
    unfold chkP
    rw [if_neg (by omega), if_pos k3]
    rfl
  · refine run_false (by simpa using k3) ?_
    unfold chkP
    rw [if_pos (by omega)]
    rfl
theorem chkE_same (x : S23) (e : List PV) : chkE11 x e = chkE12 (cfg26 x) e := by
  unfold chkE11 chkE12
  rw [f14_P, f15_P]
  rfl
theorem all_same (x : S23) (xs : List (List PV)) : all12R (cfg26 x) xs = all11R x xs := by
  unfold all12R all11R
  rw [chk_same]
  have : (fun j => chkE12 (cfg26 x) (xs.getD j [])) = fun j => chkE11 x (xs.getD j []) := by
    funext j
    rw [chkE_same]
  rw [this]
theorem pureScriptChecks (x0 : S23) (x1 : List (List PV)) (h0 : Wf (S23v x0)) (h1 : Wf (PV.list 38 x1)) (hmean : Meant Try.prog [S23v x0, PV.list 38 x1]) : ∃ N, f3 N x0 x1 = some ⟨true⟩ := by
  refine ⟨51, ?_⟩
  unfold f3
  refine bif_elim (fun h => rfl) (fun hb => ?_)
  have hb := of_decide_eq_false hb
  have hl : x1.length ≤ 70000 := by omega
  refine bif_true (decide_eq_true (show x1.length ≤ 1000000 by omega)) (bif_true (decide_eq_true (by omega)) (bif_true (decide_eq_true (by omega)) (bif_false ?_ (bif_false ?_ ?_))))
  · show ((all11R x0 x1).1 != (all12R (cfg26 x0) x1).1) = false
    rw [all_same]
    simp
  · show ((all11R x0 x1).2 != (all12R (cfg26 x0) x1).2) = false
    rw [all_same]
    simp
  have stop : ∀ (i : Nat), (x1.length ≤ i ∨ 50 ≤ i ∨ chkC (cfg26 x0) ≠ 0) → f3L0r 51 x0 x1 (.s0 (i : Int)) = some (.inr .e1) := by
    intro i hi
    refine run_test (fun k1 => ?_) (fun _ => rfl)
    refine run_test (fun k2 => ?_) (fun _ => rfl)
    have k1 := of_decide_eq_true k1
    have k2 := of_decide_eq_true k2
    have hc : chkC (cfg26 x0) ≠ 0 := by
      rcases hi with h | h | h
      · omega
      · omega
      · exact h
    refine run_true (f13_isSome _) (run_false ?_ rfl)
    show (chkC (cfg26 x0) == 0) = false
    simpa using hc
  have hA : loopN (f3L0r 51 x0 x1) 51 (.s0 (0 : Int)) = some .e1 := by
    by_cases hc : chkC (cfg26 x0) = 0
    · have h := loop_all (stp := f3L0r 51 x0 x1) (fun i => .s0 (i : Int)) .e0 .e1 (fun _ => true) (min x1.length 50)
        (fun i hi _ => by
          have i1 : i < x1.length := by omega
          have q0 : decide ((0 : Int) ≤ (i : Int)) = true := decide_eq_true (by omega)
          have q1 : decide ((i : Int) < (x1.length : Int)) = true := decide_eq_true (by omega)
          have q2 : (decide ((0 : Int) ≤ (i : Int)) && decide ((i : Int) < (x1.length : Int))) = true := by rw [q0, q1]; rfl
          refine run_true q1 (run_true (decide_eq_true (by omega)) (run_true (f13_isSome _) (run_true ?_ (run_true q2 (run_true (f14_isSome _ _) (run_true q2 (run_true (f15_isSome _ _) (run_false ?_ ?_))))))))
          · show (chkC (cfg26 x0) == 0) = true
            rw [hc]
            rfl
          · show (chkE11 x0 (x1.getD i []) != chkE12 (cfg26 x0) (x1.getD i [])) = false
            rw [chkE_same]
            simp
          · show some (Sum.inl (f3L0s.s0 (IntKind.i64.wrap ((i : Int) + 1)))) = _
            rw [wrap_next (i := i) (by omega)])
        (fun i _ h => by cases h)
        (stop (min x1.length 50) (by omega)) (min x1.length 50) 0 (by omega)
      have ha : (List.range' 0 (min x1.length 50)).all (fun _ => true) = true := by simp
      rw [ha] at h
      have := loopN_more _ _ _ h (50 - min x1.length 50)
      rwa [show min x1.length 50 + 1 + (50 - min x1.length 50) = 51 by omega] at this
    · exact loopN_end (stop 0 (.inr (.inr hc)))
  rw [hA]
  rfl
end Go.Proofs.YtkdbccloniaogaaS
