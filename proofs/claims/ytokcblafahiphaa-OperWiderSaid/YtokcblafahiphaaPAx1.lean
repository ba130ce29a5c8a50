-- Laid by a program of this session over the kit's print; hand-proved functions stand among them. Not trusted: Lean checks it.
import Derived.Test.YtokcblafahiphaaPAx0
namespace Go.Proofs.Ytokcblafahiphaa.PA
open Go.RowKit Go.Proofs.YtokcblafahiphaaW.PrintWords Go.Proofs.YtokcblafahiphaaW.PrintLast Go.Proofs.YtokcblafahiphaaW.PrintMore
attribute [local go_sem] max2_int min2_int max_two min_two max_three min_three max_four min_four   -- for this text's walks alone
set_option linter.unusedVariables false
set_option linter.unusedSimpArgs false

/-! ### oper_beyond: function 17 -/
def oper_beyond.f (a0 : Int) (a1 : Int) (a2 : Int) (a3 : Int) : Option (Bool) := if a1 ≥ 0 then (if (wrap64 (a0 + a1)) ≥ a0 then (if (wrap64 (a0 + a1)) < a2 then (some true) else (some (decide ((wrap64 (a0 + a1)) > a3)))) else (if a1 < 0 then (if (wrap64 (a0 + a1)) < a0 then (if (wrap64 (a0 + a1)) < a2 then (some true) else (some (decide ((wrap64 (a0 + a1)) > a3)))) else (some true)) else (some true))) else (if a1 < 0 then (if (wrap64 (a0 + a1)) < a0 then (if (wrap64 (a0 + a1)) < a2 then (some true) else (some (decide ((wrap64 (a0 + a1)) > a3)))) else (some true)) else (some true))
set_option maxHeartbeats 8000000 in
set_option maxRecDepth 100000 in
theorem oper_beyond.calls (a0 : Int) (a1 : Int) (a2 : Int) (a3 : Int) (r : Bool) (w : World) (h : oper_beyond.f a0 a1 a2 a3 = some r) :
    Calls Try.prog 17 #[.int .i64 a0, .int .i64 a1, .int .i64 a2, .int .i64 a3] w fun e w' => e = .returned (.bool r) ∧ Drawn0 w w' := by
  have H : (if a1 ≥ 0 then (if (wrap64 (a0 + a1)) ≥ a0 then (if (wrap64 (a0 + a1)) < a2 then (some true) else (some (decide ((wrap64 (a0 + a1)) > a3)))) else (if a1 < 0 then (if (wrap64 (a0 + a1)) < a0 then (if (wrap64 (a0 + a1)) < a2 then (some true) else (some (decide ((wrap64 (a0 + a1)) > a3)))) else (some true)) else (some true))) else (if a1 < 0 then (if (wrap64 (a0 + a1)) < a0 then (if (wrap64 (a0 + a1)) < a2 then (some true) else (some (decide ((wrap64 (a0 + a1)) > a3)))) else (some true)) else (some true))) = some r := h
  clear h
  by_cases c5 : a1 ≥ 0
  · rw [if_pos c5] at H
    have c5b0 : decide (0 ≤ a1) = true := decide_eq_true c5
    clear c5
    by_cases c6 : (wrap64 (a0 + a1)) ≥ a0
    · rw [if_pos c6] at H
      have c6b0 : decide (a0 ≤ (wrap64 (a0 + a1))) = true := decide_eq_true c6
      clear c6
      by_cases c7 : (wrap64 (a0 + a1)) < a2
      · rw [if_pos c7] at H
        have c7b0 : decide ((wrap64 (a0 + a1)) < a2) = true := decide_eq_true c7
        clear c7
        obtain rfl := Option.some.inj H
        go_enter Try.func17, Try.ntmps17
        go_wp2
        go_ret
        exact ⟨by first | rfl | (simp; done) | (simp [*]; done), by repeat (first | exact Drawn0.refl _ | apply Drawn0.step)⟩
      · rw [if_neg c7] at H
        have c7b0 : decide ((wrap64 (a0 + a1)) < a2) = false := decide_eq_false c7
        clear c7
        obtain rfl := Option.some.inj H
        go_enter Try.func17, Try.ntmps17
        go_wp2
        go_ret
        exact ⟨by first | rfl | (simp; done) | (simp [*]; done), by repeat (first | exact Drawn0.refl _ | apply Drawn0.step)⟩
    · rw [if_neg c6] at H
      have c6b0 : decide (a0 ≤ (wrap64 (a0 + a1))) = false := decide_eq_false c6
      clear c6
      by_cases c8 : a1 < 0
      · rw [if_pos c8] at H
        have c8b0 : decide (a1 < 0) = true := decide_eq_true c8
        clear c8
        by_cases c9 : (wrap64 (a0 + a1)) < a0
        · rw [if_pos c9] at H
          have c9b0 : decide ((wrap64 (a0 + a1)) < a0) = true := decide_eq_true c9
          clear c9
          by_cases c10 : (wrap64 (a0 + a1)) < a2
          · rw [if_pos c10] at H
            have c10b0 : decide ((wrap64 (a0 + a1)) < a2) = true := decide_eq_true c10
            clear c10
            obtain rfl := Option.some.inj H
            go_enter Try.func17, Try.ntmps17
            go_wp2
            go_ret
            exact ⟨by first | rfl | (simp; done) | (simp [*]; done), by repeat (first | exact Drawn0.refl _ | apply Drawn0.step)⟩
          · rw [if_neg c10] at H
            have c10b0 : decide ((wrap64 (a0 + a1)) < a2) = false := decide_eq_false c10
            clear c10
            obtain rfl := Option.some.inj H
            go_enter Try.func17, Try.ntmps17
            go_wp2
            go_ret
            exact ⟨by first | rfl | (simp; done) | (simp [*]; done), by repeat (first | exact Drawn0.refl _ | apply Drawn0.step)⟩
        · rw [if_neg c9] at H
          have c9b0 : decide ((wrap64 (a0 + a1)) < a0) = false := decide_eq_false c9
          clear c9
          obtain rfl := Option.some.inj H
          go_enter Try.func17, Try.ntmps17
          go_wp2
          go_ret
          exact ⟨by first | rfl | (simp; done) | (simp [*]; done), by repeat (first | exact Drawn0.refl _ | apply Drawn0.step)⟩
      · rw [if_neg c8] at H
        have c8b0 : decide (a1 < 0) = false := decide_eq_false c8
        clear c8
        obtain rfl := Option.some.inj H
        go_enter Try.func17, Try.ntmps17
        go_wp2
        go_ret
        exact ⟨by first | rfl | (simp; done) | (simp [*]; done), by repeat (first | exact Drawn0.refl _ | apply Drawn0.step)⟩
  · rw [if_neg c5] at H
    have c5b0 : decide (0 ≤ a1) = false := decide_eq_false c5
    clear c5
    by_cases c11 : a1 < 0
    · rw [if_pos c11] at H
      have c11b0 : decide (a1 < 0) = true := decide_eq_true c11
      clear c11
      by_cases c12 : (wrap64 (a0 + a1)) < a0
      · rw [if_pos c12] at H
        have c12b0 : decide ((wrap64 (a0 + a1)) < a0) = true := decide_eq_true c12
        clear c12
        by_cases c13 : (wrap64 (a0 + a1)) < a2
        · rw [if_pos c13] at H
          have c13b0 : decide ((wrap64 (a0 + a1)) < a2) = true := decide_eq_true c13
          clear c13
          obtain rfl := Option.some.inj H
          go_enter Try.func17, Try.ntmps17
          go_wp2
          go_ret
          exact ⟨by first | rfl | (simp; done) | (simp [*]; done), by repeat (first | exact Drawn0.refl _ | apply Drawn0.step)⟩
        · rw [if_neg c13] at H
          have c13b0 : decide ((wrap64 (a0 + a1)) < a2) = false := decide_eq_false c13
          clear c13
          obtain rfl := Option.some.inj H
          go_enter Try.func17, Try.ntmps17
          go_wp2
          go_ret
          exact ⟨by first | rfl | (simp; done) | (simp [*]; done), by repeat (first | exact Drawn0.refl _ | apply Drawn0.step)⟩
      · rw [if_neg c12] at H
        have c12b0 : decide ((wrap64 (a0 + a1)) < a0) = false := decide_eq_false c12
        clear c12
        obtain rfl := Option.some.inj H
        go_enter Try.func17, Try.ntmps17
        go_wp2
        go_ret
        exact ⟨by first | rfl | (simp; done) | (simp [*]; done), by repeat (first | exact Drawn0.refl _ | apply Drawn0.step)⟩
    · rw [if_neg c11] at H
      have c11b0 : decide (a1 < 0) = false := decide_eq_false c11
      clear c11
      obtain rfl := Option.some.inj H
      go_enter Try.func17, Try.ntmps17
      go_wp2
      go_ret
      exact ⟨by first | rfl | (simp; done) | (simp [*]; done), by repeat (first | exact Drawn0.refl _ | apply Drawn0.step)⟩

/-! ### oper_Apply: function 10 -/
mutual
def oper_Apply.j0 : Nat → Int → Int → Bool → Int → Int → Option (Int × Bool)
  | 0, _, _, _, _, _ => none
  | k + 1, x1, x2, x64, x102000, x102001 => if x64 = true then (some (x1, false)) else (if (wrap64 (x1 - x102001)) ≤ x1 then (oper_Apply.j1 k x2 (wrap64 (x1 - x102001)) (decide ((wrap64 (x1 - x102001)) ≥ x2))) else (oper_Apply.j1 k x2 (wrap64 (x1 - x102001)) false))
def oper_Apply.j1 : Nat → Int → Int → Bool → Option (Int × Bool)
  | 0, _, _, _ => none
  | k + 1, x2, x10, x77 => if x77 = true then (some (x10, true)) else (some (x2, true))
end
def oper_Apply.f (k : Nat) (a0_0 : Int) (a0_1 : Int) (a1 : Int) (a2 : Int) (a3 : Int) : Option (Int × Bool) := if a0_0 = 2 then (some (wrap64 (a1 + (wrap64 (-a0_1))), true)) else (if a0_0 = 1 then (some (wrap64 (a1 + a0_1), true)) else (if a0_0 = 3 then (some (Go.bits .or .i64 a1 a0_1, true)) else (if a0_0 = 4 then (some (Go.bits .and .i64 a1 a0_1, true)) else (if a0_0 = 5 then (some (mx a0_1 a1, true)) else (if a0_0 = 6 then (some (mn a0_1 a1, true)) else (if a0_0 = 7 then (some (a0_1, true)) else (if a0_0 = 9 then (if a0_1 < 0 then (oper_Apply.j0 k a1 a2 true a0_0 a0_1) else (oper_Apply.j0 k a1 a2 (decide (a1 < a2)) a0_0 a0_1)) else (if a0_0 = 8 then ((oper_beyond.f a1 a0_1 a2 a3).bind fun t102 => (if t102 = true then (some (a1, false)) else (some (wrap64 (a1 + a0_1), true)))) else (some (a1, false))))))))))
theorem oper_Apply.mono_l : ∀ k, (∀ y0 y1 y2 y3 y4, LeO (oper_Apply.j0 k y0 y1 y2 y3 y4) (oper_Apply.j0 (k + 1) y0 y1 y2 y3 y4)) ∧ (∀ y0 y1 y2, LeO (oper_Apply.j1 k y0 y1 y2) (oper_Apply.j1 (k + 1) y0 y1 y2))
  | 0 => ⟨fun _ _ _ _ _ r h => by simp [oper_Apply.j0] at h, fun _ _ _ r h => by simp [oper_Apply.j1] at h⟩
  | k + 1 => by
    obtain ⟨ih0, ih1⟩ := oper_Apply.mono_l k
    refine ⟨?_, ?_⟩
    · intro y0 y1 y2 y3 y4
      unfold oper_Apply.j0
      repeat' first
      | (with_reducible exact ih0 _ _ _ _ _)
      | (with_reducible exact ih1 _ _ _)
      | (with_reducible exact LeO.refl _)
      | (with_reducible exact LeO.none _)
      | (with_reducible refine LeO.ite ?_ ?_)
      | (with_reducible refine LeO.bind ?_ (fun _ => ?_))
      | exact ih0 _ _ _ _ _
      | exact ih1 _ _ _
      | exact LeO.none _
      | refine LeO.ite ?_ ?_
      | refine LeO.bind ?_ (fun _ => ?_)
    · intro y0 y1 y2
      unfold oper_Apply.j1
      repeat' first
      | (with_reducible exact ih0 _ _ _ _ _)
      | (with_reducible exact ih1 _ _ _)
      | (with_reducible exact LeO.refl _)
      | (with_reducible exact LeO.none _)
      | (with_reducible refine LeO.ite ?_ ?_)
      | (with_reducible refine LeO.bind ?_ (fun _ => ?_))
      | exact ih0 _ _ _ _ _
      | exact ih1 _ _ _
      | exact LeO.none _
      | refine LeO.ite ?_ ?_
      | refine LeO.bind ?_ (fun _ => ?_)
theorem oper_Apply.mono : ∀ a0 a1 a2 a3 a4 k, LeO (oper_Apply.f k a0 a1 a2 a3 a4) (oper_Apply.f (k + 1) a0 a1 a2 a3 a4) := by
  intro a0 a1 a2 a3 a4 k
  obtain ⟨ih0, ih1⟩ := oper_Apply.mono_l k
  unfold oper_Apply.f
  repeat' first
      | (with_reducible exact ih0 _ _ _ _ _)
      | (with_reducible exact ih1 _ _ _)
      | (with_reducible exact LeO.refl _)
      | (with_reducible exact LeO.none _)
      | (with_reducible refine LeO.ite ?_ ?_)
      | (with_reducible refine LeO.bind ?_ (fun _ => ?_))
      | exact ih0 _ _ _ _ _
      | exact ih1 _ _ _
      | exact LeO.none _
      | refine LeO.ite ?_ ?_
      | refine LeO.bind ?_ (fun _ => ?_)
set_option maxHeartbeats 8000000 in
set_option maxRecDepth 100000 in
theorem oper_Apply.calls (k : Nat) (a0_0 : Int) (a0_1 : Int) (a1 : Int) (a2 : Int) (a3 : Int) (r1 : Int) (r2 : Bool) (w : World) (h : oper_Apply.f k a0_0 a0_1 a1 a2 a3 = some (r1, r2)) :
    Calls Try.prog 10 #[.agg #[.int .i64 a0_0, .int .i64 a0_1], .int .i64 a1, .int .i64 a2, .int .i64 a3] w fun e w' => e = .returned (.tuple #[.int .i64 r1, .bool r2]) ∧ Below w.heap.size w w' := by
  have hu23 := Try.underlying23
  have HB := Aside0.mk (Below.refl w.heap.size w)
  have H : (if a0_0 = 2 then (some (wrap64 (a1 + (wrap64 (-a0_1))), true)) else (if a0_0 = 1 then (some (wrap64 (a1 + a0_1), true)) else (if a0_0 = 3 then (some (Go.bits .or .i64 a1 a0_1, true)) else (if a0_0 = 4 then (some (Go.bits .and .i64 a1 a0_1, true)) else (if a0_0 = 5 then (some (mx a0_1 a1, true)) else (if a0_0 = 6 then (some (mn a0_1 a1, true)) else (if a0_0 = 7 then (some (a0_1, true)) else (if a0_0 = 9 then (if a0_1 < 0 then (oper_Apply.j0 k a1 a2 true a0_0 a0_1) else (oper_Apply.j0 k a1 a2 (decide (a1 < a2)) a0_0 a0_1)) else (if a0_0 = 8 then ((oper_beyond.f a1 a0_1 a2 a3).bind fun t102 => (if t102 = true then (some (a1, false)) else (some (wrap64 (a1 + a0_1), true)))) else (some (a1, false))))))))))) = some (r1, r2) := h
  clear h
  by_cases c5 : a0_0 = 2
  · rw [if_pos c5] at H
    have c5b0 : (a0_0 == 2) = true := beq_iff_eq.mpr c5
    have c5b1 : (a0_0 != 2) = false := bne_eq_false_iff_eq.mpr c5
    clear c5
    simp only [Option.some.injEq, Prod.mk.injEq] at H
    obtain ⟨rfl, rfl⟩ := H
    go_enter Try.func10, Try.ntmps10
    go_wp2_with (first | ((with_reducible refine gate_dst (N := 4) rfl ?_); refine box_event ?hg (N := 4) ?hd (cs := #[.int .i64 a0_0, .int .i64 a0_1]) (t := 23) ?hr ?_; (case hd => rfl); (case hg => rfl); (case hr => first | (go_simp; done) | (go_simp; rfl)); intro gb101 hg w6 hbox hb; have n0_ := Aside0.mk (below_step (by repeat (first | (with_reducible first | exact HB.out | apply below_alloc | apply pw_below_drewN | apply below_drew1) | exact HB.out)) hb); have n1_ := Aside0.mk (hbox); have n2_ := Aside0.mk ((by rw [hg]; exact (below_size (by repeat (first | (with_reducible first | exact HB.out | apply below_alloc | apply pw_below_drewN | apply below_drew1) | exact HB.out))) : w.heap.size ≤ gb101)); have n3_ := Aside0.mk ((by rw [hg]; exact (below_size (by repeat (first | (with_reducible first | exact HB.out | apply below_alloc | apply pw_below_drewN | apply below_drew1) | exact HB.out))) : w.heap.size ≤ gb101)); clear HB; have HB := n0_; have BK101 := n1_; have GW101 := n2_; have GE101 := n3_; clear n0_ n1_ n2_ n3_; clear hb hbox hg; have hcz7_0 : w6.cell? ⟨gb101, 0, none⟩ = some (.int .i64 a0_0) := (blk_cell BK101.out 0).trans rfl; have hcz7_1 : w6.cell? ⟨gb101, 1, none⟩ = some (.int .i64 a0_1) := (blk_cell BK101.out 1).trans rfl; have hfz7_0 := blk_frozen BK101.out 0; have hfz7_1 := blk_frozen BK101.out 1))
    go_ret2
    exact ⟨by first | rfl | (simp [errW_none, errW_some] <;> rfl) | (simp [*, errW_none, errW_some] <;> rfl), by repeat (first | (with_reducible first | exact HB.out | apply below_alloc | apply pw_below_drewN | apply below_drew1 | refine below_set ?_ GE101.out) | exact HB.out)⟩
  · rw [if_neg c5] at H
    have c5b0 : (a0_0 == 2) = false := beq_eq_false_iff_ne.mpr c5
    have c5b1 : (a0_0 != 2) = true := bne_iff_ne.mpr c5
    by_cases c8 : a0_0 = 1
    · rw [if_pos c8] at H
      have c8b0 : (a0_0 == 1) = true := beq_iff_eq.mpr c8
      have c8b1 : (a0_0 != 1) = false := bne_eq_false_iff_eq.mpr c8
      clear c8
      simp only [Option.some.injEq, Prod.mk.injEq] at H
      obtain ⟨rfl, rfl⟩ := H
      go_enter Try.func10, Try.ntmps10
      go_wp2_with (first | ((with_reducible refine gate_dst (N := 4) rfl ?_); refine box_event ?hg (N := 4) ?hd (cs := #[.int .i64 a0_0, .int .i64 a0_1]) (t := 23) ?hr ?_; (case hd => rfl); (case hg => rfl); (case hr => first | (go_simp; done) | (go_simp; rfl)); intro gb101 hg w9 hbox hb; have n0_ := Aside0.mk (below_step (by repeat (first | (with_reducible first | exact HB.out | apply below_alloc | apply pw_below_drewN | apply below_drew1) | exact HB.out)) hb); have n1_ := Aside0.mk (hbox); have n2_ := Aside0.mk ((by rw [hg]; exact (below_size (by repeat (first | (with_reducible first | exact HB.out | apply below_alloc | apply pw_below_drewN | apply below_drew1) | exact HB.out))) : w.heap.size ≤ gb101)); have n3_ := Aside0.mk ((by rw [hg]; exact (below_size (by repeat (first | (with_reducible first | exact HB.out | apply below_alloc | apply pw_below_drewN | apply below_drew1) | exact HB.out))) : w.heap.size ≤ gb101)); clear HB; have HB := n0_; have BK101 := n1_; have GW101 := n2_; have GE101 := n3_; clear n0_ n1_ n2_ n3_; clear hb hbox hg; have hcz10_0 : w9.cell? ⟨gb101, 0, none⟩ = some (.int .i64 a0_0) := (blk_cell BK101.out 0).trans rfl; have hcz10_1 : w9.cell? ⟨gb101, 1, none⟩ = some (.int .i64 a0_1) := (blk_cell BK101.out 1).trans rfl; have hfz10_0 := blk_frozen BK101.out 0; have hfz10_1 := blk_frozen BK101.out 1))
      go_ret2
      exact ⟨by first | rfl | (simp [errW_none, errW_some] <;> rfl) | (simp [*, errW_none, errW_some] <;> rfl), by repeat (first | (with_reducible first | exact HB.out | apply below_alloc | apply pw_below_drewN | apply below_drew1 | refine below_set ?_ GE101.out) | exact HB.out)⟩
    · rw [if_neg c8] at H
      have c8b0 : (a0_0 == 1) = false := beq_eq_false_iff_ne.mpr c8
      have c8b1 : (a0_0 != 1) = true := bne_iff_ne.mpr c8
      by_cases c11 : a0_0 = 3
      · rw [if_pos c11] at H
        have c11b0 : (a0_0 == 3) = true := beq_iff_eq.mpr c11
        have c11b1 : (a0_0 != 3) = false := bne_eq_false_iff_eq.mpr c11
        clear c11
        simp only [Option.some.injEq, Prod.mk.injEq] at H
        obtain ⟨rfl, rfl⟩ := H
        go_enter Try.func10, Try.ntmps10
        go_wp2_with (first | ((with_reducible refine gate_dst (N := 4) rfl ?_); refine box_event ?hg (N := 4) ?hd (cs := #[.int .i64 a0_0, .int .i64 a0_1]) (t := 23) ?hr ?_; (case hd => rfl); (case hg => rfl); (case hr => first | (go_simp; done) | (go_simp; rfl)); intro gb101 hg w12 hbox hb; have n0_ := Aside0.mk (below_step (by repeat (first | (with_reducible first | exact HB.out | apply below_alloc | apply pw_below_drewN | apply below_drew1) | exact HB.out)) hb); have n1_ := Aside0.mk (hbox); have n2_ := Aside0.mk ((by rw [hg]; exact (below_size (by repeat (first | (with_reducible first | exact HB.out | apply below_alloc | apply pw_below_drewN | apply below_drew1) | exact HB.out))) : w.heap.size ≤ gb101)); have n3_ := Aside0.mk ((by rw [hg]; exact (below_size (by repeat (first | (with_reducible first | exact HB.out | apply below_alloc | apply pw_below_drewN | apply below_drew1) | exact HB.out))) : w.heap.size ≤ gb101)); clear HB; have HB := n0_; have BK101 := n1_; have GW101 := n2_; have GE101 := n3_; clear n0_ n1_ n2_ n3_; clear hb hbox hg; have hcz13_0 : w12.cell? ⟨gb101, 0, none⟩ = some (.int .i64 a0_0) := (blk_cell BK101.out 0).trans rfl; have hcz13_1 : w12.cell? ⟨gb101, 1, none⟩ = some (.int .i64 a0_1) := (blk_cell BK101.out 1).trans rfl; have hfz13_0 := blk_frozen BK101.out 0; have hfz13_1 := blk_frozen BK101.out 1))
        go_ret2
        exact ⟨by first | rfl | (simp [errW_none, errW_some] <;> rfl) | (simp [*, errW_none, errW_some] <;> rfl), by repeat (first | (with_reducible first | exact HB.out | apply below_alloc | apply pw_below_drewN | apply below_drew1 | refine below_set ?_ GE101.out) | exact HB.out)⟩
      · rw [if_neg c11] at H
        have c11b0 : (a0_0 == 3) = false := beq_eq_false_iff_ne.mpr c11
        have c11b1 : (a0_0 != 3) = true := bne_iff_ne.mpr c11
        by_cases c14 : a0_0 = 4
        · rw [if_pos c14] at H
          have c14b0 : (a0_0 == 4) = true := beq_iff_eq.mpr c14
          have c14b1 : (a0_0 != 4) = false := bne_eq_false_iff_eq.mpr c14
          clear c14
          simp only [Option.some.injEq, Prod.mk.injEq] at H
          obtain ⟨rfl, rfl⟩ := H
          go_enter Try.func10, Try.ntmps10
          go_wp2_with (first | ((with_reducible refine gate_dst (N := 4) rfl ?_); refine box_event ?hg (N := 4) ?hd (cs := #[.int .i64 a0_0, .int .i64 a0_1]) (t := 23) ?hr ?_; (case hd => rfl); (case hg => rfl); (case hr => first | (go_simp; done) | (go_simp; rfl)); intro gb101 hg w15 hbox hb; have n0_ := Aside0.mk (below_step (by repeat (first | (with_reducible first | exact HB.out | apply below_alloc | apply pw_below_drewN | apply below_drew1) | exact HB.out)) hb); have n1_ := Aside0.mk (hbox); have n2_ := Aside0.mk ((by rw [hg]; exact (below_size (by repeat (first | (with_reducible first | exact HB.out | apply below_alloc | apply pw_below_drewN | apply below_drew1) | exact HB.out))) : w.heap.size ≤ gb101)); have n3_ := Aside0.mk ((by rw [hg]; exact (below_size (by repeat (first | (with_reducible first | exact HB.out | apply below_alloc | apply pw_below_drewN | apply below_drew1) | exact HB.out))) : w.heap.size ≤ gb101)); clear HB; have HB := n0_; have BK101 := n1_; have GW101 := n2_; have GE101 := n3_; clear n0_ n1_ n2_ n3_; clear hb hbox hg; have hcz16_0 : w15.cell? ⟨gb101, 0, none⟩ = some (.int .i64 a0_0) := (blk_cell BK101.out 0).trans rfl; have hcz16_1 : w15.cell? ⟨gb101, 1, none⟩ = some (.int .i64 a0_1) := (blk_cell BK101.out 1).trans rfl; have hfz16_0 := blk_frozen BK101.out 0; have hfz16_1 := blk_frozen BK101.out 1))
          go_ret2
          exact ⟨by first | rfl | (simp [errW_none, errW_some] <;> rfl) | (simp [*, errW_none, errW_some] <;> rfl), by repeat (first | (with_reducible first | exact HB.out | apply below_alloc | apply pw_below_drewN | apply below_drew1 | refine below_set ?_ GE101.out) | exact HB.out)⟩
        · rw [if_neg c14] at H
          have c14b0 : (a0_0 == 4) = false := beq_eq_false_iff_ne.mpr c14
          have c14b1 : (a0_0 != 4) = true := bne_iff_ne.mpr c14
          by_cases c17 : a0_0 = 5
          · rw [if_pos c17] at H
            have c17b0 : (a0_0 == 5) = true := beq_iff_eq.mpr c17
            have c17b1 : (a0_0 != 5) = false := bne_eq_false_iff_eq.mpr c17
            clear c17
            obtain ⟨ji18, hji18⟩ : ∃ j_ : Int, (mx a0_1 a1) = j_ := ⟨_, rfl⟩
            replace H : (some (ji18, true)) = some (r1, r2) := by first | (rw [hji18] at H; exact H) | (simp only [hji18] at H ⊢; exact H)
            have hji18_ : (if a0_1 < a1 then a1 else a0_1) = ji18 := hji18
            simp only [Option.some.injEq, Prod.mk.injEq] at H
            obtain ⟨rfl, rfl⟩ := H
            go_enter Try.func10, Try.ntmps10
            go_wp2_with (first | ((with_reducible refine gate_dst (N := 4) rfl ?_); refine box_event ?hg (N := 4) ?hd (cs := #[.int .i64 a0_0, .int .i64 a0_1]) (t := 23) ?hr ?_; (case hd => rfl); (case hg => rfl); (case hr => first | (go_simp; done) | (go_simp; rfl)); intro gb101 hg w19 hbox hb; have n0_ := Aside0.mk (below_step (by repeat (first | (with_reducible first | exact HB.out | apply below_alloc | apply pw_below_drewN | apply below_drew1) | exact HB.out)) hb); have n1_ := Aside0.mk (hbox); have n2_ := Aside0.mk ((by rw [hg]; exact (below_size (by repeat (first | (with_reducible first | exact HB.out | apply below_alloc | apply pw_below_drewN | apply below_drew1) | exact HB.out))) : w.heap.size ≤ gb101)); have n3_ := Aside0.mk ((by rw [hg]; exact (below_size (by repeat (first | (with_reducible first | exact HB.out | apply below_alloc | apply pw_below_drewN | apply below_drew1) | exact HB.out))) : w.heap.size ≤ gb101)); clear HB; have HB := n0_; have BK101 := n1_; have GW101 := n2_; have GE101 := n3_; clear n0_ n1_ n2_ n3_; clear hb hbox hg; have hcz20_0 : w19.cell? ⟨gb101, 0, none⟩ = some (.int .i64 a0_0) := (blk_cell BK101.out 0).trans rfl; have hcz20_1 : w19.cell? ⟨gb101, 1, none⟩ = some (.int .i64 a0_1) := (blk_cell BK101.out 1).trans rfl; have hfz20_0 := blk_frozen BK101.out 0; have hfz20_1 := blk_frozen BK101.out 1))
            go_ret2
            exact ⟨by first | rfl | (simp [errW_none, errW_some] <;> rfl) | (simp only [← hji18]; first | rfl | (simp [errW_none, errW_some] <;> rfl)) | (simp [*, errW_none, errW_some] <;> rfl), by repeat (first | (with_reducible first | exact HB.out | apply below_alloc | apply pw_below_drewN | apply below_drew1 | refine below_set ?_ GE101.out) | exact HB.out)⟩
          · rw [if_neg c17] at H
            have c17b0 : (a0_0 == 5) = false := beq_eq_false_iff_ne.mpr c17
            have c17b1 : (a0_0 != 5) = true := bne_iff_ne.mpr c17
            by_cases c21 : a0_0 = 6
            · rw [if_pos c21] at H
              have c21b0 : (a0_0 == 6) = true := beq_iff_eq.mpr c21
              have c21b1 : (a0_0 != 6) = false := bne_eq_false_iff_eq.mpr c21
              clear c21
              obtain ⟨ji22, hji22⟩ : ∃ j_ : Int, (mn a0_1 a1) = j_ := ⟨_, rfl⟩
              replace H : (some (ji22, true)) = some (r1, r2) := by first | (rw [hji22] at H; exact H) | (simp only [hji22] at H ⊢; exact H)
              have hji22_ : (if a1 < a0_1 then a1 else a0_1) = ji22 := hji22
              simp only [Option.some.injEq, Prod.mk.injEq] at H
              obtain ⟨rfl, rfl⟩ := H
              go_enter Try.func10, Try.ntmps10
              go_wp2_with (first | ((with_reducible refine gate_dst (N := 4) rfl ?_); refine box_event ?hg (N := 4) ?hd (cs := #[.int .i64 a0_0, .int .i64 a0_1]) (t := 23) ?hr ?_; (case hd => rfl); (case hg => rfl); (case hr => first | (go_simp; done) | (go_simp; rfl)); intro gb101 hg w23 hbox hb; have n0_ := Aside0.mk (below_step (by repeat (first | (with_reducible first | exact HB.out | apply below_alloc | apply pw_below_drewN | apply below_drew1) | exact HB.out)) hb); have n1_ := Aside0.mk (hbox); have n2_ := Aside0.mk ((by rw [hg]; exact (below_size (by repeat (first | (with_reducible first | exact HB.out | apply below_alloc | apply pw_below_drewN | apply below_drew1) | exact HB.out))) : w.heap.size ≤ gb101)); have n3_ := Aside0.mk ((by rw [hg]; exact (below_size (by repeat (first | (with_reducible first | exact HB.out | apply below_alloc | apply pw_below_drewN | apply below_drew1) | exact HB.out))) : w.heap.size ≤ gb101)); clear HB; have HB := n0_; have BK101 := n1_; have GW101 := n2_; have GE101 := n3_; clear n0_ n1_ n2_ n3_; clear hb hbox hg; have hcz24_0 : w23.cell? ⟨gb101, 0, none⟩ = some (.int .i64 a0_0) := (blk_cell BK101.out 0).trans rfl; have hcz24_1 : w23.cell? ⟨gb101, 1, none⟩ = some (.int .i64 a0_1) := (blk_cell BK101.out 1).trans rfl; have hfz24_0 := blk_frozen BK101.out 0; have hfz24_1 := blk_frozen BK101.out 1))
              go_ret2
              exact ⟨by first | rfl | (simp [errW_none, errW_some] <;> rfl) | (simp only [← hji22]; first | rfl | (simp [errW_none, errW_some] <;> rfl)) | (simp [*, errW_none, errW_some] <;> rfl), by repeat (first | (with_reducible first | exact HB.out | apply below_alloc | apply pw_below_drewN | apply below_drew1 | refine below_set ?_ GE101.out) | exact HB.out)⟩
            · rw [if_neg c21] at H
              have c21b0 : (a0_0 == 6) = false := beq_eq_false_iff_ne.mpr c21
              have c21b1 : (a0_0 != 6) = true := bne_iff_ne.mpr c21
              by_cases c25 : a0_0 = 7
              · rw [if_pos c25] at H
                have c25b0 : (a0_0 == 7) = true := beq_iff_eq.mpr c25
                have c25b1 : (a0_0 != 7) = false := bne_eq_false_iff_eq.mpr c25
                clear c25
                simp only [Option.some.injEq, Prod.mk.injEq] at H
                obtain ⟨rfl, rfl⟩ := H
                go_enter Try.func10, Try.ntmps10
                go_wp2_with (first | ((with_reducible refine gate_dst (N := 4) rfl ?_); refine box_event ?hg (N := 4) ?hd (cs := #[.int .i64 a0_0, .int .i64 a0_1]) (t := 23) ?hr ?_; (case hd => rfl); (case hg => rfl); (case hr => first | (go_simp; done) | (go_simp; rfl)); intro gb101 hg w26 hbox hb; have n0_ := Aside0.mk (below_step (by repeat (first | (with_reducible first | exact HB.out | apply below_alloc | apply pw_below_drewN | apply below_drew1) | exact HB.out)) hb); have n1_ := Aside0.mk (hbox); have n2_ := Aside0.mk ((by rw [hg]; exact (below_size (by repeat (first | (with_reducible first | exact HB.out | apply below_alloc | apply pw_below_drewN | apply below_drew1) | exact HB.out))) : w.heap.size ≤ gb101)); have n3_ := Aside0.mk ((by rw [hg]; exact (below_size (by repeat (first | (with_reducible first | exact HB.out | apply below_alloc | apply pw_below_drewN | apply below_drew1) | exact HB.out))) : w.heap.size ≤ gb101)); clear HB; have HB := n0_; have BK101 := n1_; have GW101 := n2_; have GE101 := n3_; clear n0_ n1_ n2_ n3_; clear hb hbox hg; have hcz27_0 : w26.cell? ⟨gb101, 0, none⟩ = some (.int .i64 a0_0) := (blk_cell BK101.out 0).trans rfl; have hcz27_1 : w26.cell? ⟨gb101, 1, none⟩ = some (.int .i64 a0_1) := (blk_cell BK101.out 1).trans rfl; have hfz27_0 := blk_frozen BK101.out 0; have hfz27_1 := blk_frozen BK101.out 1))
                go_ret2
                exact ⟨by first | rfl | (simp [errW_none, errW_some] <;> rfl) | (simp [*, errW_none, errW_some] <;> rfl), by repeat (first | (with_reducible first | exact HB.out | apply below_alloc | apply pw_below_drewN | apply below_drew1 | refine below_set ?_ GE101.out) | exact HB.out)⟩
              · rw [if_neg c25] at H
                have c25b0 : (a0_0 == 7) = false := beq_eq_false_iff_ne.mpr c25
                have c25b1 : (a0_0 != 7) = true := bne_iff_ne.mpr c25
                by_cases c28 : a0_0 = 9
                · rw [if_pos c28] at H
                  have c28b0 : (a0_0 == 9) = true := beq_iff_eq.mpr c28
                  have c28b1 : (a0_0 != 9) = false := bne_eq_false_iff_eq.mpr c28
                  clear c28
                  have HC29 := Aside0.mk H
                  clear H
                  go_enter Try.func10, Try.ntmps10
                  go_upto_region 18 with (first | ((with_reducible refine gate_dst (N := 4) rfl ?_); refine box_event ?hg (N := 4) ?hd (cs := #[.int .i64 a0_0, .int .i64 a0_1]) (t := 23) ?hr ?_; (case hd => rfl); (case hg => rfl); (case hr => first | (go_simp; done) | (go_simp; rfl)); intro gb101 hg w30 hbox hb; have n0_ := Aside0.mk (below_step (by repeat (first | (with_reducible first | exact HB.out | apply below_alloc | apply pw_below_drewN | apply below_drew1) | exact HB.out)) hb); have n1_ := Aside0.mk (hbox); have n2_ := Aside0.mk ((by rw [hg]; exact (below_size (by repeat (first | (with_reducible first | exact HB.out | apply below_alloc | apply pw_below_drewN | apply below_drew1) | exact HB.out))) : w.heap.size ≤ gb101)); have n3_ := Aside0.mk ((by rw [hg]; exact (below_size (by repeat (first | (with_reducible first | exact HB.out | apply below_alloc | apply pw_below_drewN | apply below_drew1) | exact HB.out))) : w.heap.size ≤ gb101)); clear HB; have HB := n0_; have BK101 := n1_; have GW101 := n2_; have GE101 := n3_; clear n0_ n1_ n2_ n3_; clear hb hbox hg; have hcz31_0 : w30.cell? ⟨gb101, 0, none⟩ = some (.int .i64 a0_0) := (blk_cell BK101.out 0).trans rfl; have hcz31_1 : w30.cell? ⟨gb101, 1, none⟩ = some (.int .i64 a0_1) := (blk_cell BK101.out 1).trans rfl; have hfz31_0 := blk_frozen BK101.out 0; have hfz31_1 := blk_frozen BK101.out 1))
                  (try simp only [Act.put, List.setIfInBounds_toArray, List.set_cons_zero, List.set_cons_succ])
                  go_cut [64] (fun v64 wc => ∃ (kq : Nat) (x64_28 : Bool), v64 = .bool x64_28 ∧ Aside0 (oper_Apply.j0 kq a1 a2 x64_28 a0_0 a0_1 = some (r1, r2)) ∧ Aside0 (kq ≤ k) ∧ Aside0 (wc.heap[gb101]? = some (.cells #[.int .i64 a0_0, .int .i64 a0_1] 23 (0, 0))) ∧ Aside0 (Below w.heap.size w wc))
                  case first =>
                    have H := HC29.out
                    clear HC29
                    by_cases c32 : a0_1 < 0
                    · rw [if_pos c32] at H
                      have c32b0 : decide (a0_1 < 0) = true := decide_eq_true c32
                      clear c32
                      (first | rw [c32b0] | (simp only [i64_w, i32_w]; rw [c32b0]) | skip)
                      have H' := Aside0.mk H
                      clear H
                      have hcz33_0 : w30.cell? ⟨gb101, 0, none⟩ = some (.int .i64 a0_0) := (blk_cell BK101.out 0).trans rfl
                      have hcz33_1 : w30.cell? ⟨gb101, 1, none⟩ = some (.int .i64 a0_1) := (blk_cell BK101.out 1).trans rfl
                      have hfz33_0 := blk_frozen BK101.out 0
                      have hfz33_1 := blk_frozen BK101.out 1
                      go_wp2
                      go_meet
                      case rel => exact ⟨_, (true), (by first | rfl | (simp; done) | (simp [*]; done)), H', ⟨by first | omega | exact Nat.le_refl _⟩, ⟨by (with_reducible repeat (first | refine blk_drewN ?_ _ | refine blk_drew ?_ | refine blk_alloc ?_ _)); exact BK101.out⟩, ⟨by repeat (first | (with_reducible first | exact HB.out | apply below_alloc | apply pw_below_drewN | apply below_drew1 | refine below_set ?_ GE101.out) | exact HB.out)⟩⟩
                    · rw [if_neg c32] at H
                      have c32b0 : decide (a0_1 < 0) = false := decide_eq_false c32
                      clear c32
                      (first | rw [c32b0] | (simp only [i64_w, i32_w]; rw [c32b0]) | skip)
                      have H' := Aside0.mk H
                      clear H
                      have hcz34_0 : w30.cell? ⟨gb101, 0, none⟩ = some (.int .i64 a0_0) := (blk_cell BK101.out 0).trans rfl
                      have hcz34_1 : w30.cell? ⟨gb101, 1, none⟩ = some (.int .i64 a0_1) := (blk_cell BK101.out 1).trans rfl
                      have hfz34_0 := blk_frozen BK101.out 0
                      have hfz34_1 := blk_frozen BK101.out 1
                      go_wp2
                      go_meet
                      case rel => exact ⟨_, (decide (a1 < a2)), (by first | rfl | (simp; done) | (simp [*]; done)), H', ⟨by first | omega | exact Nat.le_refl _⟩, ⟨by (with_reducible repeat (first | refine blk_drewN ?_ _ | refine blk_drew ?_ | refine blk_alloc ?_ _)); exact BK101.out⟩, ⟨by repeat (first | (with_reducible first | exact HB.out | apply below_alloc | apply pw_below_drewN | apply below_drew1 | refine below_set ?_ GE101.out) | exact HB.out)⟩⟩
                  case rest =>
                    clear HC29
                    try clear c1
                    try clear c2
                    try clear p2
                    try clear c3
                    try clear c5
                    try clear c5b0
                    try clear c5b1
                    try clear p6
                    try clear c8
                    try clear c8b0
                    try clear c8b1
                    try clear c10
                    try clear c11
                    try clear c11b0
                    try clear c11b1
                    try clear c14
                    try clear c14b0
                    try clear c14b1
                    try clear c17
                    try clear c17b0
                    try clear c17b1
                    try clear c21
                    try clear c21b0
                    try clear c21b1
                    try clear c25
                    try clear c25b0
                    try clear c25b1
                    try clear c28
                    try clear c28b0
                    try clear c28b1
                    try clear c32
                    try clear c32b0
                    try clear hcz10_0
                    try clear hcz10_1
                    try clear hcz13_0
                    try clear hcz13_1
                    try clear hcz16_0
                    try clear hcz16_1
                    try clear hcz20_0
                    try clear hcz20_1
                    try clear hcz24_0
                    try clear hcz24_1
                    try clear hcz27_0
                    try clear hcz27_1
                    try clear hcz31_0
                    try clear hcz31_1
                    try clear hcz33_0
                    try clear hcz33_1
                    try clear hcz34_0
                    try clear hcz34_1
                    try clear hcz7_0
                    try clear hcz7_1
                    try clear hfz10_0
                    try clear hfz10_1
                    try clear hfz13_0
                    try clear hfz13_1
                    try clear hfz16_0
                    try clear hfz16_1
                    try clear hfz20_0
                    try clear hfz20_1
                    try clear hfz24_0
                    try clear hfz24_1
                    try clear hfz27_0
                    try clear hfz27_1
                    try clear hfz31_0
                    try clear hfz31_1
                    try clear hfz33_0
                    try clear hfz33_1
                    try clear hfz34_0
                    try clear hfz34_1
                    try clear hfz7_0
                    try clear hfz7_1
                    obtain ⟨kq, x64_28, rfl, HA, HJ28, BK101, HB⟩ := hcut
                    cases kq with
                    | zero => exact absurd HA.out (by simp [oper_Apply.j0])
                    | succ kj28 =>
                      have H := HA.out
                      clear HA
                      simp only [oper_Apply.j0] at H
                      by_cases c35 : x64_28 = true
                      · subst c35
                        have H1 : (some (a1, false)) = some (r1, r2) := by rw [if_pos rfl] at H; exact H
                        clear H
                        have H := H1
                        clear H1
                        simp only [Option.some.injEq, Prod.mk.injEq] at H
                        obtain ⟨rfl, rfl⟩ := H
                        go_wp2
                        go_ret2
                        exact ⟨by first | rfl | (simp [errW_none, errW_some] <;> rfl) | (simp [*, errW_none, errW_some] <;> rfl), by repeat (first | (with_reducible first | exact HB.out | apply below_alloc | apply pw_below_drewN | apply below_drew1 | refine below_set ?_ GE101.out) | exact HB.out)⟩
                      · replace c35 := Bool.eq_false_iff.mpr c35
                        subst c35
                        have H1 : (if (wrap64 (a1 - a0_1)) ≤ a1 then (oper_Apply.j1 kj28 a2 (wrap64 (a1 - a0_1)) (decide ((wrap64 (a1 - a0_1)) ≥ a2))) else (oper_Apply.j1 kj28 a2 (wrap64 (a1 - a0_1)) false)) = some (r1, r2) := by rw [if_neg (show ¬ (false = true) by decide)] at H; exact H
                        clear H
                        have H := H1
                        clear H1
                        have HC36 := Aside0.mk H
                        clear H
                        have hcz37_0 : wc.cell? ⟨gb101, 0, none⟩ = some (.int .i64 a0_0) := (blk_cell BK101.out 0).trans rfl
                        have hcz37_1 : wc.cell? ⟨gb101, 1, none⟩ = some (.int .i64 a0_1) := (blk_cell BK101.out 1).trans rfl
                        have hfz37_0 := blk_frozen BK101.out 0
                        have hfz37_1 := blk_frozen BK101.out 1
                        go_upto_region 21 with (fail)
                        go_cut [77] (fun v77 wc => ∃ (kq : Nat) (x77_35 : Bool), v77 = .bool x77_35 ∧ Aside0 (oper_Apply.j1 kq a2 (wrap64 (a1 - a0_1)) x77_35 = some (r1, r2)) ∧ Aside0 (kq ≤ kj28) ∧ Aside0 (wc.heap[gb101]? = some (.cells #[.int .i64 a0_0, .int .i64 a0_1] 23 (0, 0))) ∧ Aside0 (Below w.heap.size w wc))
                        case first =>
                          have H := HC36.out
                          clear HC36
                          by_cases c38 : (wrap64 (a1 - a0_1)) ≤ a1
                          · rw [if_pos c38] at H
                            have c38b0 : decide ((wrap64 (a1 - a0_1)) ≤ a1) = true := decide_eq_true c38
                            clear c38
                            (first | rw [c38b0] | (simp only [i64_w, i32_w]; rw [c38b0]) | skip)
                            have H' := Aside0.mk H
                            clear H
                            go_wp2
                            go_meet
                            case rel => exact ⟨_, (decide ((wrap64 (a1 - a0_1)) ≥ a2)), (by first | rfl | (simp; done) | (simp [*]; done)), H', ⟨by have := HJ28.out; first | omega | exact Nat.le_refl _⟩, ⟨by (with_reducible repeat (first | refine blk_drewN ?_ _ | refine blk_drew ?_ | refine blk_alloc ?_ _)); exact BK101.out⟩, ⟨by repeat (first | (with_reducible first | exact HB.out | apply below_alloc | apply pw_below_drewN | apply below_drew1 | refine below_set ?_ GE101.out) | exact HB.out)⟩⟩
                          · rw [if_neg c38] at H
                            have c38b0 : decide ((wrap64 (a1 - a0_1)) ≤ a1) = false := decide_eq_false c38
                            clear c38
                            (first | rw [c38b0] | (simp only [i64_w, i32_w]; rw [c38b0]) | skip)
                            have H' := Aside0.mk H
                            clear H
                            go_wp2
                            go_meet
                            case rel => exact ⟨_, (false), (by first | rfl | (simp; done) | (simp [*]; done)), H', ⟨by have := HJ28.out; first | omega | exact Nat.le_refl _⟩, ⟨by (with_reducible repeat (first | refine blk_drewN ?_ _ | refine blk_drew ?_ | refine blk_alloc ?_ _)); exact BK101.out⟩, ⟨by repeat (first | (with_reducible first | exact HB.out | apply below_alloc | apply pw_below_drewN | apply below_drew1 | refine below_set ?_ GE101.out) | exact HB.out)⟩⟩
                        case rest =>
                          clear HC36
                          try clear c1
                          try clear c2
                          try clear p2
                          try clear c3
                          try clear c5
                          try clear c5b0
                          try clear c5b1
                          try clear p6
                          try clear c8
                          try clear c8b0
                          try clear c8b1
                          try clear c10
                          try clear c11
                          try clear c11b0
                          try clear c11b1
                          try clear c14
                          try clear c14b0
                          try clear c14b1
                          try clear c17
                          try clear c17b0
                          try clear c17b1
                          try clear c21
                          try clear c21b0
                          try clear c21b1
                          try clear c25
                          try clear c25b0
                          try clear c25b1
                          try clear c28
                          try clear c28b0
                          try clear c28b1
                          try clear c32
                          try clear c32b0
                          try clear c35
                          try clear c38
                          try clear c38b0
                          try clear hcz10_0
                          try clear hcz10_1
                          try clear hcz13_0
                          try clear hcz13_1
                          try clear hcz16_0
                          try clear hcz16_1
                          try clear hcz20_0
                          try clear hcz20_1
                          try clear hcz24_0
                          try clear hcz24_1
                          try clear hcz27_0
                          try clear hcz27_1
                          try clear hcz31_0
                          try clear hcz31_1
                          try clear hcz33_0
                          try clear hcz33_1
                          try clear hcz34_0
                          try clear hcz34_1
                          try clear hcz37_0
                          try clear hcz37_1
                          try clear hcz7_0
                          try clear hcz7_1
                          try clear hfz10_0
                          try clear hfz10_1
                          try clear hfz13_0
                          try clear hfz13_1
                          try clear hfz16_0
                          try clear hfz16_1
                          try clear hfz20_0
                          try clear hfz20_1
                          try clear hfz24_0
                          try clear hfz24_1
                          try clear hfz27_0
                          try clear hfz27_1
                          try clear hfz31_0
                          try clear hfz31_1
                          try clear hfz33_0
                          try clear hfz33_1
                          try clear hfz34_0
                          try clear hfz34_1
                          try clear hfz37_0
                          try clear hfz37_1
                          try clear hfz7_0
                          try clear hfz7_1
                          try clear p2
                          try clear p6
                          obtain ⟨kq, x77_35, rfl, HA, HJ35, BK101, HB⟩ := hcut
                          cases kq with
                          | zero => exact absurd HA.out (by simp [oper_Apply.j1])
                          | succ kj35 =>
                            have H := HA.out
                            clear HA
                            simp only [oper_Apply.j1] at H
                            by_cases c39 : x77_35 = true
                            · subst c39
                              have H1 : (some ((wrap64 (a1 - a0_1)), true)) = some (r1, r2) := by rw [if_pos rfl] at H; exact H
                              clear H
                              have H := H1
                              clear H1
                              simp only [Option.some.injEq, Prod.mk.injEq] at H
                              obtain ⟨rfl, rfl⟩ := H
                              go_wp2
                              go_ret2
                              exact ⟨by first | rfl | (simp [errW_none, errW_some] <;> rfl) | (simp [*, errW_none, errW_some] <;> rfl), by repeat (first | (with_reducible first | exact HB.out | apply below_alloc | apply pw_below_drewN | apply below_drew1 | refine below_set ?_ GE101.out) | exact HB.out)⟩
                            · replace c39 := Bool.eq_false_iff.mpr c39
                              subst c39
                              have H1 : (some (a2, true)) = some (r1, r2) := by rw [if_neg (show ¬ (false = true) by decide)] at H; exact H
                              clear H
                              have H := H1
                              clear H1
                              simp only [Option.some.injEq, Prod.mk.injEq] at H
                              obtain ⟨rfl, rfl⟩ := H
                              go_wp2
                              go_ret2
                              exact ⟨by first | rfl | (simp [errW_none, errW_some] <;> rfl) | (simp [*, errW_none, errW_some] <;> rfl), by repeat (first | (with_reducible first | exact HB.out | apply below_alloc | apply pw_below_drewN | apply below_drew1 | refine below_set ?_ GE101.out) | exact HB.out)⟩
                · rw [if_neg c28] at H
                  have c28b0 : (a0_0 == 9) = false := beq_eq_false_iff_ne.mpr c28
                  have c28b1 : (a0_0 != 9) = true := bne_iff_ne.mpr c28
                  by_cases c40 : a0_0 = 8
                  · rw [if_pos c40] at H
                    have c40b0 : (a0_0 == 8) = true := beq_iff_eq.mpr c40
                    have c40b1 : (a0_0 != 8) = false := bne_eq_false_iff_eq.mpr c40
                    clear c40
                    replace H := Option.bind_eq_some_iff.mp H
                    obtain ⟨t102, A410, H⟩ := H
                    replace H : (if t102 = true then (some (a1, false)) else (some (wrap64 (a1 + a0_1), true))) = some (r1, r2) := H
                    have A41 := Aside0.mk A410
                    clear A410
                    by_cases c42 : t102 = true
                    · subst c42
                      have H1 : (some (a1, false)) = some (r1, r2) := by rw [if_pos rfl] at H; exact H
                      clear H
                      have H := H1
                      clear H1
                      simp only [Option.some.injEq, Prod.mk.injEq] at H
                      obtain ⟨rfl, rfl⟩ := H
                      go_enter Try.func10, Try.ntmps10
                      go_wp2_with (first | ((with_reducible refine gate_dst (N := 4) rfl ?_); refine box_event ?hg (N := 4) ?hd (cs := #[.int .i64 a0_0, .int .i64 a0_1]) (t := 23) ?hr ?_; (case hd => rfl); (case hg => rfl); (case hr => first | (go_simp; done) | (go_simp; rfl)); intro gb101 hg w43 hbox hb; have n0_ := Aside0.mk (below_step (by repeat (first | (with_reducible first | exact HB.out | apply below_alloc | apply pw_below_drewN | apply below_drew1) | exact HB.out)) hb); have n1_ := Aside0.mk (hbox); have n2_ := Aside0.mk ((by rw [hg]; exact (below_size (by repeat (first | (with_reducible first | exact HB.out | apply below_alloc | apply pw_below_drewN | apply below_drew1) | exact HB.out))) : w.heap.size ≤ gb101)); have n3_ := Aside0.mk ((by rw [hg]; exact (below_size (by repeat (first | (with_reducible first | exact HB.out | apply below_alloc | apply pw_below_drewN | apply below_drew1) | exact HB.out))) : w.heap.size ≤ gb101)); clear HB; have HB := n0_; have BK101 := n1_; have GW101 := n2_; have GE101 := n3_; clear n0_ n1_ n2_ n3_; clear hb hbox hg; have hcz44_0 : w43.cell? ⟨gb101, 0, none⟩ = some (.int .i64 a0_0) := (blk_cell BK101.out 0).trans rfl; have hcz44_1 : w43.cell? ⟨gb101, 1, none⟩ = some (.int .i64 a0_1) := (blk_cell BK101.out 1).trans rfl; have hfz44_0 := blk_frozen BK101.out 0; have hfz44_1 := blk_frozen BK101.out 1) | ((with_reducible refine gate_callee (f := 17) rfl ?_); refine goesL_ (some 85) rfl rfl Try.func17 (by kernel_rfl) rfl #[.int .i64 a1, .int .i64 a0_1, .int .i64 a2, .int .i64 a3] rfl (by (try simp only [List.map_toArray, List.map_cons, List.map_nil]); first | done | rfl | (simp only [List.length_drop, List.length_take]; rfl)) ?_; (with_reducible refine (oper_beyond.calls a1 a0_1 a2 a3 true _ A41.out).mono ?_); rintro e w' ⟨rfl, ⟨nd, rfl⟩⟩; refine ⟨_, rfl, ?_⟩))
                      go_ret2
                      exact ⟨by first | rfl | (simp [errW_none, errW_some] <;> rfl) | (simp [*, errW_none, errW_some] <;> rfl), by repeat (first | (with_reducible first | exact HB.out | apply below_alloc | apply pw_below_drewN | apply below_drew1 | refine below_set ?_ GE101.out) | exact HB.out)⟩
                    · replace c42 := Bool.eq_false_iff.mpr c42
                      subst c42
                      have H1 : (some (wrap64 (a1 + a0_1), true)) = some (r1, r2) := by rw [if_neg (show ¬ (false = true) by decide)] at H; exact H
                      clear H
                      have H := H1
                      clear H1
                      simp only [Option.some.injEq, Prod.mk.injEq] at H
                      obtain ⟨rfl, rfl⟩ := H
                      go_enter Try.func10, Try.ntmps10
                      go_wp2_with (first | ((with_reducible refine gate_dst (N := 4) rfl ?_); refine box_event ?hg (N := 4) ?hd (cs := #[.int .i64 a0_0, .int .i64 a0_1]) (t := 23) ?hr ?_; (case hd => rfl); (case hg => rfl); (case hr => first | (go_simp; done) | (go_simp; rfl)); intro gb101 hg w45 hbox hb; have n0_ := Aside0.mk (below_step (by repeat (first | (with_reducible first | exact HB.out | apply below_alloc | apply pw_below_drewN | apply below_drew1) | exact HB.out)) hb); have n1_ := Aside0.mk (hbox); have n2_ := Aside0.mk ((by rw [hg]; exact (below_size (by repeat (first | (with_reducible first | exact HB.out | apply below_alloc | apply pw_below_drewN | apply below_drew1) | exact HB.out))) : w.heap.size ≤ gb101)); have n3_ := Aside0.mk ((by rw [hg]; exact (below_size (by repeat (first | (with_reducible first | exact HB.out | apply below_alloc | apply pw_below_drewN | apply below_drew1) | exact HB.out))) : w.heap.size ≤ gb101)); clear HB; have HB := n0_; have BK101 := n1_; have GW101 := n2_; have GE101 := n3_; clear n0_ n1_ n2_ n3_; clear hb hbox hg; have hcz46_0 : w45.cell? ⟨gb101, 0, none⟩ = some (.int .i64 a0_0) := (blk_cell BK101.out 0).trans rfl; have hcz46_1 : w45.cell? ⟨gb101, 1, none⟩ = some (.int .i64 a0_1) := (blk_cell BK101.out 1).trans rfl; have hfz46_0 := blk_frozen BK101.out 0; have hfz46_1 := blk_frozen BK101.out 1) | ((with_reducible refine gate_callee (f := 17) rfl ?_); refine goesL_ (some 85) rfl rfl Try.func17 (by kernel_rfl) rfl #[.int .i64 a1, .int .i64 a0_1, .int .i64 a2, .int .i64 a3] rfl (by (try simp only [List.map_toArray, List.map_cons, List.map_nil]); first | done | rfl | (simp only [List.length_drop, List.length_take]; rfl)) ?_; (with_reducible refine (oper_beyond.calls a1 a0_1 a2 a3 false _ A41.out).mono ?_); rintro e w' ⟨rfl, ⟨nd, rfl⟩⟩; refine ⟨_, rfl, ?_⟩))
                      go_ret2
                      exact ⟨by first | rfl | (simp [errW_none, errW_some] <;> rfl) | (simp [*, errW_none, errW_some] <;> rfl), by repeat (first | (with_reducible first | exact HB.out | apply below_alloc | apply pw_below_drewN | apply below_drew1 | refine below_set ?_ GE101.out) | exact HB.out)⟩
                  · rw [if_neg c40] at H
                    have c40b0 : (a0_0 == 8) = false := beq_eq_false_iff_ne.mpr c40
                    have c40b1 : (a0_0 != 8) = true := bne_iff_ne.mpr c40
                    simp only [Option.some.injEq, Prod.mk.injEq] at H
                    obtain ⟨rfl, rfl⟩ := H
                    go_enter Try.func10, Try.ntmps10
                    go_wp2_with (first | ((with_reducible refine gate_dst (N := 4) rfl ?_); refine box_event ?hg (N := 4) ?hd (cs := #[.int .i64 a0_0, .int .i64 a0_1]) (t := 23) ?hr ?_; (case hd => rfl); (case hg => rfl); (case hr => first | (go_simp; done) | (go_simp; rfl)); intro gb101 hg w47 hbox hb; have n0_ := Aside0.mk (below_step (by repeat (first | (with_reducible first | exact HB.out | apply below_alloc | apply pw_below_drewN | apply below_drew1) | exact HB.out)) hb); have n1_ := Aside0.mk (hbox); have n2_ := Aside0.mk ((by rw [hg]; exact (below_size (by repeat (first | (with_reducible first | exact HB.out | apply below_alloc | apply pw_below_drewN | apply below_drew1) | exact HB.out))) : w.heap.size ≤ gb101)); have n3_ := Aside0.mk ((by rw [hg]; exact (below_size (by repeat (first | (with_reducible first | exact HB.out | apply below_alloc | apply pw_below_drewN | apply below_drew1) | exact HB.out))) : w.heap.size ≤ gb101)); clear HB; have HB := n0_; have BK101 := n1_; have GW101 := n2_; have GE101 := n3_; clear n0_ n1_ n2_ n3_; clear hb hbox hg; have hcz48_0 : w47.cell? ⟨gb101, 0, none⟩ = some (.int .i64 a0_0) := (blk_cell BK101.out 0).trans rfl; have hcz48_1 : w47.cell? ⟨gb101, 1, none⟩ = some (.int .i64 a0_1) := (blk_cell BK101.out 1).trans rfl; have hfz48_0 := blk_frozen BK101.out 0; have hfz48_1 := blk_frozen BK101.out 1))
                    go_ret2
                    exact ⟨by first | rfl | (simp [errW_none, errW_some] <;> rfl) | (simp [*, errW_none, errW_some] <;> rfl), by repeat (first | (with_reducible first | exact HB.out | apply below_alloc | apply pw_below_drewN | apply below_drew1 | refine below_set ?_ GE101.out) | exact HB.out)⟩

/-! ### millstreamref01_sum: function 18 -/
def millstreamref01_sum.f (a0 : Int) (a1 : Int) : Option (Int × Bool) := some (wrap64 (a0 + a1), ((decide (a1 ≥ 0)) == (decide ((wrap64 (a0 + a1)) ≥ a0))))
set_option maxHeartbeats 8000000 in
set_option maxRecDepth 100000 in
theorem millstreamref01_sum.calls (a0 : Int) (a1 : Int) (r1 : Int) (r2 : Bool) (w : World) (h : millstreamref01_sum.f a0 a1 = some (r1, r2)) :
    Calls Try.prog 18 #[.int .i64 a0, .int .i64 a1] w fun e w' => e = .returned (.tuple #[.int .i64 r1, .bool r2]) ∧ Drawn0 w w' := by
  have H : (some (wrap64 (a0 + a1), ((decide (a1 ≥ 0)) == (decide ((wrap64 (a0 + a1)) ≥ a0))))) = some (r1, r2) := h
  clear h
  simp only [Option.some.injEq, Prod.mk.injEq] at H
  obtain ⟨rfl, rfl⟩ := H
  go_enter Try.func18, Try.ntmps18
  go_wp2
  go_ret2
  exact ⟨by first | rfl | (simp; done) | (simp [*]; done), by repeat (first | exact Drawn0.refl _ | apply Drawn0.step)⟩

end Go.Proofs.Ytokcblafahiphaa.PA
