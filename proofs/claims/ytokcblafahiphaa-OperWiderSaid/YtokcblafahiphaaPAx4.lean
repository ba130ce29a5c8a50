-- Laid by a program of this session over the kit's print; hand-proved functions stand among them. Not trusted: Lean checks it.
import Derived.Test.YtokcblafahiphaaPAx0
import Derived.Test.YtokcblafahiphaaPAx1
import Derived.Test.YtokcblafahiphaaPAx2
namespace Go.Proofs.Ytokcblafahiphaa.PA
open Go.RowKit Go.Proofs.YtokcblafahiphaaW.PrintWords Go.Proofs.YtokcblafahiphaaW.PrintLast Go.Proofs.YtokcblafahiphaaW.PrintMore
attribute [local go_sem] max2_int min2_int max_two min_two max_three min_three max_four min_four   -- for this text's walks alone
set_option linter.unusedVariables false
set_option linter.unusedSimpArgs false

/-! ### millstreamlaw01_OperBounds: function 4 -/
mutual
def millstreamlaw01_OperBounds.j0 : Nat → Int → Int → Int → Int → Bool → Bool → Option (Bool)
  | 0, _, _, _, _, _, _ => none
  | k + 1, x0, x1, x2, x3, x4, x25 => if x25 = true then ((millstreamlaw01_shown.f k).bind fun t128 => (some t128)) else (if x4 = true then (millstreamlaw01_OperBounds.j1 k x0 x1 x2 x3 x4 9 x0) else (millstreamlaw01_OperBounds.j1 k x0 x1 x2 x3 x4 8 x0))
def millstreamlaw01_OperBounds.j1 : Nat → Int → Int → Int → Int → Bool → Int → Int → Option (Bool)
  | 0, _, _, _, _, _, _, _ => none
  | k + 1, x0, x1, x2, x3, x4, x130000, x130001 => (oper_Apply.f k x130000 x130001 x1 x2 x3).bind fun bt130 => (if bt130.1 < x2 then (millstreamlaw01_OperBounds.j2 k x0 x1 x2 x4 bt130.1 bt130.2 true) else (if bt130.1 > x3 then (millstreamlaw01_OperBounds.j2 k x0 x1 x2 x4 bt130.1 bt130.2 true) else (if bt130.2 = true then (millstreamlaw01_OperBounds.j2 k x0 x1 x2 x4 bt130.1 bt130.2 false) else (millstreamlaw01_OperBounds.j2 k x0 x1 x2 x4 bt130.1 bt130.2 (bt130.1 != x1)))))
def millstreamlaw01_OperBounds.j2 : Nat → Int → Int → Int → Bool → Int → Bool → Bool → Option (Bool)
  | 0, _, _, _, _, _, _, _ => none
  | k + 1, x0, x1, x2, x4, x12, x13, x55 => if x55 = true then (some false) else (if x4 = true then (if (x13 == (decide (x0 ≥ 0))) = true then (if x12 ≤ x1 then (if x13 = true then (if (IntKind.u64.wrap ((IntKind.u64.wrap (x1)) - (IntKind.u64.wrap (x12)))) ≤ (IntKind.u64.wrap (x0)) then (if x12 = x2 then (some true) else (some ((IntKind.u64.wrap ((IntKind.u64.wrap (x1)) - (IntKind.u64.wrap (x12)))) == (IntKind.u64.wrap (x0))))) else (some false)) else (some true)) else (some false)) else (some false)) else (if x13 = true then (if x12 = (wrap64 (x1 + x0)) then (some ((decide (x0 ≥ 0)) == (decide (x12 ≥ x1)))) else (some false)) else (some true)))
end
def millstreamlaw01_OperBounds.f (k : Nat) (a0 : Int) (a1 : Int) (a2 : Int) (a3 : Int) (a4 : Bool) : Option (Bool) := if a1 < a2 then (millstreamlaw01_OperBounds.j0 k a0 a1 a2 a3 a4 true) else (if a1 > a3 then (millstreamlaw01_OperBounds.j0 k a0 a1 a2 a3 a4 true) else ((millstreamlaw01_shown.f k).bind fun t127 => (millstreamlaw01_OperBounds.j0 k a0 a1 a2 a3 a4 (!t127))))
theorem millstreamlaw01_OperBounds.mono_l : ∀ k, (∀ y0 y1 y2 y3 y4 y5, LeO (millstreamlaw01_OperBounds.j0 k y0 y1 y2 y3 y4 y5) (millstreamlaw01_OperBounds.j0 (k + 1) y0 y1 y2 y3 y4 y5)) ∧ (∀ y0 y1 y2 y3 y4 y5 y6, LeO (millstreamlaw01_OperBounds.j1 k y0 y1 y2 y3 y4 y5 y6) (millstreamlaw01_OperBounds.j1 (k + 1) y0 y1 y2 y3 y4 y5 y6)) ∧ (∀ y0 y1 y2 y3 y4 y5 y6, LeO (millstreamlaw01_OperBounds.j2 k y0 y1 y2 y3 y4 y5 y6) (millstreamlaw01_OperBounds.j2 (k + 1) y0 y1 y2 y3 y4 y5 y6))
  | 0 => ⟨fun _ _ _ _ _ _ r h => by simp [millstreamlaw01_OperBounds.j0] at h, fun _ _ _ _ _ _ _ r h => by simp [millstreamlaw01_OperBounds.j1] at h, fun _ _ _ _ _ _ _ r h => by simp [millstreamlaw01_OperBounds.j2] at h⟩
  | k + 1 => by
    obtain ⟨ih0, ih1, ih2⟩ := millstreamlaw01_OperBounds.mono_l k
    refine ⟨?_, ?_, ?_⟩
    · intro y0 y1 y2 y3 y4 y5
      unfold millstreamlaw01_OperBounds.j0
      repeat' first
      | (with_reducible exact ih0 _ _ _ _ _ _)
      | (with_reducible exact ih1 _ _ _ _ _ _ _)
      | (with_reducible exact ih2 _ _ _ _ _ _ _)
      | (with_reducible exact millstreamlaw01_shown.mono _)
      | (with_reducible exact oper_Apply.mono _ _ _ _ _ _)
      | (with_reducible exact LeO.refl _)
      | (with_reducible exact LeO.none _)
      | (with_reducible refine LeO.ite ?_ ?_)
      | (with_reducible refine LeO.bind ?_ (fun _ => ?_))
      | exact ih0 _ _ _ _ _ _
      | exact ih1 _ _ _ _ _ _ _
      | exact ih2 _ _ _ _ _ _ _
      | exact millstreamlaw01_shown.mono _
      | exact oper_Apply.mono _ _ _ _ _ _
      | exact LeO.none _
      | refine LeO.ite ?_ ?_
      | refine LeO.bind ?_ (fun _ => ?_)
    · intro y0 y1 y2 y3 y4 y5 y6
      unfold millstreamlaw01_OperBounds.j1
      repeat' first
      | (with_reducible exact ih0 _ _ _ _ _ _)
      | (with_reducible exact ih1 _ _ _ _ _ _ _)
      | (with_reducible exact ih2 _ _ _ _ _ _ _)
      | (with_reducible exact millstreamlaw01_shown.mono _)
      | (with_reducible exact oper_Apply.mono _ _ _ _ _ _)
      | (with_reducible exact LeO.refl _)
      | (with_reducible exact LeO.none _)
      | (with_reducible refine LeO.ite ?_ ?_)
      | (with_reducible refine LeO.bind ?_ (fun _ => ?_))
      | exact ih0 _ _ _ _ _ _
      | exact ih1 _ _ _ _ _ _ _
      | exact ih2 _ _ _ _ _ _ _
      | exact millstreamlaw01_shown.mono _
      | exact oper_Apply.mono _ _ _ _ _ _
      | exact LeO.none _
      | refine LeO.ite ?_ ?_
      | refine LeO.bind ?_ (fun _ => ?_)
    · intro y0 y1 y2 y3 y4 y5 y6
      unfold millstreamlaw01_OperBounds.j2
      repeat' first
      | (with_reducible exact ih0 _ _ _ _ _ _)
      | (with_reducible exact ih1 _ _ _ _ _ _ _)
      | (with_reducible exact ih2 _ _ _ _ _ _ _)
      | (with_reducible exact millstreamlaw01_shown.mono _)
      | (with_reducible exact oper_Apply.mono _ _ _ _ _ _)
      | (with_reducible exact LeO.refl _)
      | (with_reducible exact LeO.none _)
      | (with_reducible refine LeO.ite ?_ ?_)
      | (with_reducible refine LeO.bind ?_ (fun _ => ?_))
      | exact ih0 _ _ _ _ _ _
      | exact ih1 _ _ _ _ _ _ _
      | exact ih2 _ _ _ _ _ _ _
      | exact millstreamlaw01_shown.mono _
      | exact oper_Apply.mono _ _ _ _ _ _
      | exact LeO.none _
      | refine LeO.ite ?_ ?_
      | refine LeO.bind ?_ (fun _ => ?_)
theorem millstreamlaw01_OperBounds.mono : ∀ a0 a1 a2 a3 a4 k, LeO (millstreamlaw01_OperBounds.f k a0 a1 a2 a3 a4) (millstreamlaw01_OperBounds.f (k + 1) a0 a1 a2 a3 a4) := by
  intro a0 a1 a2 a3 a4 k
  obtain ⟨ih0, ih1, ih2⟩ := millstreamlaw01_OperBounds.mono_l k
  unfold millstreamlaw01_OperBounds.f
  repeat' first
      | (with_reducible exact ih0 _ _ _ _ _ _)
      | (with_reducible exact ih1 _ _ _ _ _ _ _)
      | (with_reducible exact ih2 _ _ _ _ _ _ _)
      | (with_reducible exact millstreamlaw01_shown.mono _)
      | (with_reducible exact oper_Apply.mono _ _ _ _ _ _)
      | (with_reducible exact LeO.refl _)
      | (with_reducible exact LeO.none _)
      | (with_reducible refine LeO.ite ?_ ?_)
      | (with_reducible refine LeO.bind ?_ (fun _ => ?_))
      | exact ih0 _ _ _ _ _ _
      | exact ih1 _ _ _ _ _ _ _
      | exact ih2 _ _ _ _ _ _ _
      | exact millstreamlaw01_shown.mono _
      | exact oper_Apply.mono _ _ _ _ _ _
      | exact LeO.none _
      | refine LeO.ite ?_ ?_
      | refine LeO.bind ?_ (fun _ => ?_)
set_option maxHeartbeats 8000000 in
set_option maxRecDepth 100000 in
theorem millstreamlaw01_OperBounds.calls (k : Nat) (a0 : Int) (a1 : Int) (a2 : Int) (a3 : Int) (a4 : Bool) (r : Bool) (w : World) (h : millstreamlaw01_OperBounds.f k a0 a1 a2 a3 a4 = some r) :
    Calls Try.prog 4 #[.int .i64 a0, .int .i64 a1, .int .i64 a2, .int .i64 a3, .bool a4] w fun e w' => e = .returned (.bool r) ∧ Below w.heap.size w w' := by
  have hu23 := Try.underlying23
  have HB := Aside0.mk (Below.refl w.heap.size w)
  have H : (if a1 < a2 then (millstreamlaw01_OperBounds.j0 k a0 a1 a2 a3 a4 true) else (if a1 > a3 then (millstreamlaw01_OperBounds.j0 k a0 a1 a2 a3 a4 true) else ((millstreamlaw01_shown.f k).bind fun t127 => (millstreamlaw01_OperBounds.j0 k a0 a1 a2 a3 a4 (!t127))))) = some r := h
  clear h
  have HC6 := Aside0.mk H
  clear H
  go_enter Try.func4, Try.ntmps4
  go_upto_region 1 with (fail)
  go_cut [25] (fun v25 wc => ∃ (kq : Nat) (x25_5 : Bool), v25 = .bool x25_5 ∧ Aside0 (millstreamlaw01_OperBounds.j0 kq a0 a1 a2 a3 a4 x25_5 = some r) ∧ Aside0 (kq ≤ k) ∧ Aside0 (Below w.heap.size w wc))
  case first =>
    have H := HC6.out
    clear HC6
    by_cases c7 : a1 < a2
    · rw [if_pos c7] at H
      have c7b0 : decide (a1 < a2) = true := decide_eq_true c7
      clear c7
      (first | rw [c7b0] | (simp only [i64_w, i32_w]; rw [c7b0]) | skip)
      have H' := Aside0.mk H
      clear H
      go_wp2
      go_meet
      case rel => exact ⟨_, (true), (by first | rfl | (simp; done) | (simp [*]; done)), H', ⟨by first | omega | exact Nat.le_refl _⟩, ⟨by repeat (first | (with_reducible first | exact HB.out | apply below_alloc | apply pw_below_drewN | apply below_drew1) | exact HB.out)⟩⟩
    · rw [if_neg c7] at H
      have c7b0 : decide (a1 < a2) = false := decide_eq_false c7
      clear c7
      (first | rw [c7b0] | (simp only [i64_w, i32_w]; rw [c7b0]) | skip)
      by_cases c8 : a1 > a3
      · rw [if_pos c8] at H
        have c8b0 : decide (a3 < a1) = true := decide_eq_true c8
        clear c8
        have H' := Aside0.mk H
        clear H
        go_wp2
        go_meet
        case rel => exact ⟨_, (true), (by first | rfl | (simp; done) | (simp [*]; done)), H', ⟨by first | omega | exact Nat.le_refl _⟩, ⟨by repeat (first | (with_reducible first | exact HB.out | apply below_alloc | apply pw_below_drewN | apply below_drew1) | exact HB.out)⟩⟩
      · rw [if_neg c8] at H
        have c8b0 : decide (a3 < a1) = false := decide_eq_false c8
        clear c8
        replace H := Option.bind_eq_some_iff.mp H
        obtain ⟨t127, A90, H⟩ := H
        replace H : (millstreamlaw01_OperBounds.j0 k a0 a1 a2 a3 a4 (!t127)) = some r := H
        have A9 := Aside0.mk A90
        clear A90
        have H' := Aside0.mk H
        clear H
        go_wp2_with (first | (go_at_call 16; (with_reducible refine (millstreamlaw01_shown.calls k  t127 _ A9.out).mono ?_); rintro e w10 ⟨rfl, hb⟩; have n0_ := Aside0.mk (below_step (by repeat (first | (with_reducible first | exact HB.out | apply below_alloc | apply pw_below_drewN | apply below_drew1) | exact HB.out)) hb); clear HB; have HB := n0_; clear n0_; (try clear hb); (try clear hb2); (try clear hk); (try clear hi)))
        go_meet
        case rel => exact ⟨_, (!t127), (by first | rfl | (simp; done) | (simp [*]; done)), H', ⟨by first | omega | exact Nat.le_refl _⟩, ⟨by repeat (first | (with_reducible first | exact HB.out | apply below_alloc | apply pw_below_drewN | apply below_drew1) | exact HB.out)⟩⟩
  case rest =>
    clear HC6
    try clear p2
    try clear c4
    try clear c7
    try clear c7b0
    try clear c8
    try clear c8b0
    obtain ⟨kq, x25_5, rfl, HA, HJ5, HB⟩ := hcut
    cases kq with
    | zero => exact absurd HA.out (by simp [millstreamlaw01_OperBounds.j0])
    | succ kj5 =>
      have H := HA.out
      clear HA
      simp only [millstreamlaw01_OperBounds.j0] at H
      by_cases c11 : x25_5 = true
      · subst c11
        have H1 : ((millstreamlaw01_shown.f kj5).bind fun t128 => (some t128)) = some r := by rw [if_pos rfl] at H; exact H
        clear H
        have H := H1
        clear H1
        replace H := Option.bind_eq_some_iff.mp H
        obtain ⟨t128, A120, H⟩ := H
        replace H : (some t128) = some r := H
        have A12 := Aside0.mk A120
        clear A120
        obtain rfl := Option.some.inj H
        go_wp2_with (first | ((with_reducible refine gate_callee (f := 16) rfl ?_); refine goesL_ (some 26) rfl rfl Try.func16 (by kernel_rfl) rfl #[] rfl (by (try simp only [List.map_toArray, List.map_cons, List.map_nil]); first | done | rfl | (simp only [List.length_drop, List.length_take]; rfl)) ?_; (with_reducible refine (millstreamlaw01_shown.calls kj5  t128 _ A12.out).mono ?_); rintro e w13 ⟨rfl, hb⟩; refine ⟨_, rfl, ?_⟩; have n0_ := Aside0.mk (below_step (by repeat (first | (with_reducible first | exact HB.out | apply below_alloc | apply pw_below_drewN | apply below_drew1) | exact HB.out)) hb); clear HB; have HB := n0_; clear n0_; (try clear hb); (try clear hb2); (try clear hk); (try clear hi)))
        go_ret
        exact ⟨by first | rfl | (simp [errW_none, errW_some] <;> rfl) | (simp [*, errW_none, errW_some] <;> rfl), by repeat (first | (with_reducible first | exact HB.out | apply below_alloc | apply pw_below_drewN | apply below_drew1) | exact HB.out)⟩
      · replace c11 := Bool.eq_false_iff.mpr c11
        subst c11
        have H1 : (if a4 = true then (millstreamlaw01_OperBounds.j1 kj5 a0 a1 a2 a3 a4 9 a0) else (millstreamlaw01_OperBounds.j1 kj5 a0 a1 a2 a3 a4 8 a0)) = some r := by rw [if_neg (show ¬ (false = true) by decide)] at H; exact H
        clear H
        have H := H1
        clear H1
        have HC14 := Aside0.mk H
        clear H
        go_upto_if 29 with (first | ((with_reducible refine gate_dst (N := 11) rfl ?_); refine box_event ?hg (N := 11) ?hd (cs := #[.int .i64 0, .int .i64 0]) (t := 23) ?hr ?_; (case hd => rfl); (case hg => rfl); (case hr => first | (go_simp; done) | (go_simp; rfl)); intro gb129 hg w15 hbox hb; have n0_ := Aside0.mk (below_step (by repeat (first | (with_reducible first | exact HB.out | apply below_alloc | apply pw_below_drewN | apply below_drew1) | exact HB.out)) hb); have n1_ := Aside0.mk (hbox); have n2_ := Aside0.mk ((by rw [hg]; exact (below_size (by repeat (first | (with_reducible first | exact HB.out | apply below_alloc | apply pw_below_drewN | apply below_drew1) | exact HB.out))) : w.heap.size ≤ gb129)); have n3_ := Aside0.mk ((by rw [hg]; exact (below_size (by repeat (first | (with_reducible first | exact HB.out | apply below_alloc | apply pw_below_drewN | apply below_drew1) | exact HB.out))) : w.heap.size ≤ gb129)); clear HB; have HB := n0_; have BK129 := n1_; have GW129 := n2_; have GE129 := n3_; clear n0_ n1_ n2_ n3_; clear hb hbox hg; have hcz16_0 : w15.cell? ⟨gb129, 0, none⟩ = some (.int .i64 0) := (blk_cell BK129.out 0).trans rfl; have hcz16_1 : w15.cell? ⟨gb129, 1, none⟩ = some (.int .i64 0) := (blk_cell BK129.out 1).trans rfl; have hfz16_0 := blk_frozen BK129.out 0; have hfz16_1 := blk_frozen BK129.out 1))
        (try simp only [Act.put, List.setIfInBounds_toArray, List.set_cons_zero, List.set_cons_succ])
        go_cut [] (fun wc => ∃ (kq : Nat) (x130000_13 : Int), Aside0 (millstreamlaw01_OperBounds.j1 kq a0 a1 a2 a3 a4 x130000_13 a0 = some r) ∧ Aside0 (kq ≤ kj5) ∧ Aside0 (wc.heap[gb129]? = some (.cells #[.int .i64 x130000_13, .int .i64 a0] 23 (0, 0))) ∧ Aside0 (Below w.heap.size w wc))
        case first =>
          have H := HC14.out
          clear HC14
          by_cases c17 : a4 = true
          · subst c17
            have H1 : (millstreamlaw01_OperBounds.j1 kj5 a0 a1 a2 a3 true 9 a0) = some r := by rw [if_pos rfl] at H; exact H
            clear H
            have H := H1
            clear H1
            have H' := Aside0.mk H
            clear H
            have hcz18_0 : w15.cell? ⟨gb129, 0, none⟩ = some (.int .i64 0) := (blk_cell BK129.out 0).trans rfl
            have hcz18_1 : w15.cell? ⟨gb129, 1, none⟩ = some (.int .i64 0) := (blk_cell BK129.out 1).trans rfl
            have hfz18_0 := blk_frozen BK129.out 0
            have hfz18_1 := blk_frozen BK129.out 1
            go_wp2
            go_meet
            case rel => exact ⟨_, (9), H', ⟨by have := HJ5.out; first | omega | exact Nat.le_refl _⟩, ⟨by (with_reducible repeat (first | refine blk_drewN ?_ _ | refine blk_drew ?_ | refine blk_alloc ?_ _)); refine blk_put (cs := #[.int .i64 8, .int .i64 a0]) ?_ 0 _ rfl; (with_reducible repeat (first | refine blk_drewN ?_ _ | refine blk_drew ?_ | refine blk_alloc ?_ _)); refine blk_put (cs := #[.int .i64 8, .int .i64 0]) ?_ 1 _ rfl; (with_reducible repeat (first | refine blk_drewN ?_ _ | refine blk_drew ?_ | refine blk_alloc ?_ _)); refine blk_put (cs := #[.int .i64 0, .int .i64 0]) ?_ 0 _ rfl; (with_reducible repeat (first | refine blk_drewN ?_ _ | refine blk_drew ?_ | refine blk_alloc ?_ _)); exact BK129.out⟩, ⟨by repeat (first | (with_reducible first | exact HB.out | apply below_alloc | apply pw_below_drewN | apply below_drew1 | refine below_set ?_ GE129.out) | exact HB.out)⟩⟩
          · replace c17 := Bool.eq_false_iff.mpr c17
            subst c17
            have H1 : (millstreamlaw01_OperBounds.j1 kj5 a0 a1 a2 a3 false 8 a0) = some r := by rw [if_neg (show ¬ (false = true) by decide)] at H; exact H
            clear H
            have H := H1
            clear H1
            have H' := Aside0.mk H
            clear H
            go_wp2
            go_meet
            case rel => exact ⟨_, (8), H', ⟨by have := HJ5.out; first | omega | exact Nat.le_refl _⟩, ⟨by (with_reducible repeat (first | refine blk_drewN ?_ _ | refine blk_drew ?_ | refine blk_alloc ?_ _)); refine blk_put (cs := #[.int .i64 8, .int .i64 0]) ?_ 1 _ rfl; (with_reducible repeat (first | refine blk_drewN ?_ _ | refine blk_drew ?_ | refine blk_alloc ?_ _)); refine blk_put (cs := #[.int .i64 0, .int .i64 0]) ?_ 0 _ rfl; (with_reducible repeat (first | refine blk_drewN ?_ _ | refine blk_drew ?_ | refine blk_alloc ?_ _)); exact BK129.out⟩, ⟨by repeat (first | (with_reducible first | exact HB.out | apply below_alloc | apply pw_below_drewN | apply below_drew1 | refine below_set ?_ GE129.out) | exact HB.out)⟩⟩
        case rest =>
          clear HC14
          try clear c1
          try clear p2
          try clear c4
          try clear c7
          try clear c7b0
          try clear c8
          try clear c8b0
          try clear c11
          try clear c16
          try clear c17
          try clear hcz16_0
          try clear hcz16_1
          try clear hcz18_0
          try clear hcz18_1
          try clear hfz16_0
          try clear hfz16_1
          try clear hfz18_0
          try clear hfz18_1
          try clear p2
          obtain ⟨kq, x130000_13, HA, HJ13, BK129, HB⟩ := hcut
          cases kq with
          | zero => exact absurd HA.out (by simp [millstreamlaw01_OperBounds.j1])
          | succ kj13 =>
            have H := HA.out
            clear HA
            simp only [millstreamlaw01_OperBounds.j1] at H
            replace H := Option.bind_eq_some_iff.mp H
            obtain ⟨⟨t130, t131⟩, A190, H⟩ := H
            replace H : (if t130 < a2 then (millstreamlaw01_OperBounds.j2 kj13 a0 a1 a2 a4 t130 t131 true) else (if t130 > a3 then (millstreamlaw01_OperBounds.j2 kj13 a0 a1 a2 a4 t130 t131 true) else (if t131 = true then (millstreamlaw01_OperBounds.j2 kj13 a0 a1 a2 a4 t130 t131 false) else (millstreamlaw01_OperBounds.j2 kj13 a0 a1 a2 a4 t130 t131 (t130 != a1))))) = some r := H
            have A19 := Aside0.mk A190
            clear A190
            have HC20 := Aside0.mk H
            clear H
            have hcz21_0 : wc.cell? ⟨gb129, 0, none⟩ = some (.int .i64 x130000_13) := (blk_cell BK129.out 0).trans rfl
            have hcz21_1 : wc.cell? ⟨gb129, 1, none⟩ = some (.int .i64 a0) := (blk_cell BK129.out 1).trans rfl
            have hfz21_0 := blk_frozen BK129.out 0
            have hfz21_1 := blk_frozen BK129.out 1
            go_upto_region 7 with (first | ((with_reducible refine gate_callee (f := 10) rfl ?_); refine goesL_ (some 36) rfl rfl Try.func10 (by kernel_rfl) rfl #[.agg #[.int .i64 x130000_13, .int .i64 a0], .int .i64 a1, .int .i64 a2, .int .i64 a3] rfl (by (try simp only [List.map_toArray, List.map_cons, List.map_nil]); first | done | rfl | (simp only [List.length_drop, List.length_take]; rfl)) ?_; (with_reducible refine (oper_Apply.calls kj13 x130000_13 a0 a1 a2 a3 t130 t131 _ A19.out).mono ?_); rintro e w22 ⟨rfl, hb⟩; refine ⟨_, rfl, ?_⟩; have n0_ := Aside0.mk (blk_below (g := gb129) (o := .cells #[.int .i64 x130000_13, .int .i64 a0] 23 (0, 0)) (by (with_reducible repeat (first | refine blk_drewN ?_ _ | refine blk_drew ?_ | refine blk_alloc ?_ _)); exact BK129.out) hb); have n1_ := Aside0.mk (below_step (by repeat (first | (with_reducible first | exact HB.out | apply below_alloc | apply pw_below_drewN | apply below_drew1 | refine below_set ?_ GE129.out) | exact HB.out)) hb); clear BK129; clear HB; have BK129 := n0_; have HB := n1_; clear n0_ n1_; (try clear hb); (try clear hb2); (try clear hk); (try clear hi)))
            (try simp only [Act.put, List.setIfInBounds_toArray, List.set_cons_zero, List.set_cons_succ])
            go_cut [55] (fun v55 wc => ∃ (kq : Nat) (x55_19 : Bool), v55 = .bool x55_19 ∧ Aside0 (millstreamlaw01_OperBounds.j2 kq a0 a1 a2 a4 t130 t131 x55_19 = some r) ∧ Aside0 (kq ≤ kj13) ∧ Aside0 (wc.heap[gb129]? = some (.cells #[.int .i64 x130000_13, .int .i64 a0] 23 (0, 0))) ∧ Aside0 (Below w.heap.size w wc))
            case first =>
              have H := HC20.out
              clear HC20
              by_cases c23 : t130 < a2
              · rw [if_pos c23] at H
                have c23b0 : decide (t130 < a2) = true := decide_eq_true c23
                clear c23
                (first | rw [c23b0] | (simp only [i64_w, i32_w]; rw [c23b0]) | skip)
                have H' := Aside0.mk H
                clear H
                go_wp2
                go_meet
                case rel => exact ⟨_, (true), (by first | rfl | (simp; done) | (simp [*]; done)), H', ⟨by have := HJ5.out; have := HJ13.out; first | omega | exact Nat.le_refl _⟩, ⟨by (with_reducible repeat (first | refine blk_drewN ?_ _ | refine blk_drew ?_ | refine blk_alloc ?_ _)); exact BK129.out⟩, ⟨by repeat (first | (with_reducible first | exact HB.out | apply below_alloc | apply pw_below_drewN | apply below_drew1 | refine below_set ?_ GE129.out) | exact HB.out)⟩⟩
              · rw [if_neg c23] at H
                have c23b0 : decide (t130 < a2) = false := decide_eq_false c23
                clear c23
                (first | rw [c23b0] | (simp only [i64_w, i32_w]; rw [c23b0]) | skip)
                by_cases c24 : t130 > a3
                · rw [if_pos c24] at H
                  have c24b0 : decide (a3 < t130) = true := decide_eq_true c24
                  clear c24
                  have H' := Aside0.mk H
                  clear H
                  go_wp2
                  go_meet
                  case rel => exact ⟨_, (true), (by first | rfl | (simp; done) | (simp [*]; done)), H', ⟨by have := HJ5.out; have := HJ13.out; first | omega | exact Nat.le_refl _⟩, ⟨by (with_reducible repeat (first | refine blk_drewN ?_ _ | refine blk_drew ?_ | refine blk_alloc ?_ _)); exact BK129.out⟩, ⟨by repeat (first | (with_reducible first | exact HB.out | apply below_alloc | apply pw_below_drewN | apply below_drew1 | refine below_set ?_ GE129.out) | exact HB.out)⟩⟩
                · rw [if_neg c24] at H
                  have c24b0 : decide (a3 < t130) = false := decide_eq_false c24
                  clear c24
                  by_cases c25 : t131 = true
                  · subst c25
                    have H1 : (millstreamlaw01_OperBounds.j2 kj13 a0 a1 a2 a4 t130 true false) = some r := by rw [if_pos rfl] at H; exact H
                    clear H
                    have H := H1
                    clear H1
                    have H' := Aside0.mk H
                    clear H
                    go_wp2
                    go_meet
                    case rel => exact ⟨_, (false), (by first | rfl | (simp; done) | (simp [*]; done)), H', ⟨by have := HJ5.out; have := HJ13.out; first | omega | exact Nat.le_refl _⟩, ⟨by (with_reducible repeat (first | refine blk_drewN ?_ _ | refine blk_drew ?_ | refine blk_alloc ?_ _)); exact BK129.out⟩, ⟨by repeat (first | (with_reducible first | exact HB.out | apply below_alloc | apply pw_below_drewN | apply below_drew1 | refine below_set ?_ GE129.out) | exact HB.out)⟩⟩
                  · replace c25 := Bool.eq_false_iff.mpr c25
                    subst c25
                    have H1 : (millstreamlaw01_OperBounds.j2 kj13 a0 a1 a2 a4 t130 false (t130 != a1)) = some r := by rw [if_neg (show ¬ (false = true) by decide)] at H; exact H
                    clear H
                    have H := H1
                    clear H1
                    have H' := Aside0.mk H
                    clear H
                    go_wp2
                    go_meet
                    case rel => exact ⟨_, ((t130 != a1)), (by first | rfl | (simp; done) | (simp [*]; done)), H', ⟨by have := HJ5.out; have := HJ13.out; first | omega | exact Nat.le_refl _⟩, ⟨by (with_reducible repeat (first | refine blk_drewN ?_ _ | refine blk_drew ?_ | refine blk_alloc ?_ _)); exact BK129.out⟩, ⟨by repeat (first | (with_reducible first | exact HB.out | apply below_alloc | apply pw_below_drewN | apply below_drew1 | refine below_set ?_ GE129.out) | exact HB.out)⟩⟩
            case rest =>
              clear HC20
              try clear c1
              try clear c2
              try clear p2
              try clear c4
              try clear c7
              try clear c7b0
              try clear c8
              try clear c8b0
              try clear c10
              try clear c11
              try clear c16
              try clear c17
              try clear c23
              try clear c23b0
              try clear c24
              try clear c24b0
              try clear c25
              try clear hcz16_0
              try clear hcz16_1
              try clear hcz18_0
              try clear hcz18_1
              try clear hcz21_0
              try clear hcz21_1
              try clear hfz16_0
              try clear hfz16_1
              try clear hfz18_0
              try clear hfz18_1
              try clear hfz21_0
              try clear hfz21_1
              try clear p2
              obtain ⟨kq, x55_19, rfl, HA, HJ19, BK129, HB⟩ := hcut
              cases kq with
              | zero => exact absurd HA.out (by simp [millstreamlaw01_OperBounds.j2])
              | succ kj19 =>
                have H := HA.out
                clear HA
                simp only [millstreamlaw01_OperBounds.j2] at H
                by_cases c26 : x55_19 = true
                · subst c26
                  have H1 : (some false) = some r := by rw [if_pos rfl] at H; exact H
                  clear H
                  have H := H1
                  clear H1
                  obtain rfl := Option.some.inj H
                  go_wp2
                  go_ret
                  exact ⟨by first | rfl | (simp [errW_none, errW_some] <;> rfl) | (simp [*, errW_none, errW_some] <;> rfl), by repeat (first | (with_reducible first | exact HB.out | apply below_alloc | apply pw_below_drewN | apply below_drew1 | refine below_set ?_ GE129.out) | exact HB.out)⟩
                · replace c26 := Bool.eq_false_iff.mpr c26
                  subst c26
                  have H1 : (if a4 = true then (if (t131 == (decide (a0 ≥ 0))) = true then (if t130 ≤ a1 then (if t131 = true then (if (IntKind.u64.wrap ((IntKind.u64.wrap (a1)) - (IntKind.u64.wrap (t130)))) ≤ (IntKind.u64.wrap (a0)) then (if t130 = a2 then (some true) else (some ((IntKind.u64.wrap ((IntKind.u64.wrap (a1)) - (IntKind.u64.wrap (t130)))) == (IntKind.u64.wrap (a0))))) else (some false)) else (some true)) else (some false)) else (some false)) else (if t131 = true then (if t130 = (wrap64 (a1 + a0)) then (some ((decide (a0 ≥ 0)) == (decide (t130 ≥ a1)))) else (some false)) else (some true))) = some r := by rw [if_neg (show ¬ (false = true) by decide)] at H; exact H
                  clear H
                  have H := H1
                  clear H1
                  by_cases c27 : a4 = true
                  · subst c27
                    have H1 : (if (t131 == (decide (a0 ≥ 0))) = true then (if t130 ≤ a1 then (if t131 = true then (if (IntKind.u64.wrap ((IntKind.u64.wrap (a1)) - (IntKind.u64.wrap (t130)))) ≤ (IntKind.u64.wrap (a0)) then (if t130 = a2 then (some true) else (some ((IntKind.u64.wrap ((IntKind.u64.wrap (a1)) - (IntKind.u64.wrap (t130)))) == (IntKind.u64.wrap (a0))))) else (some false)) else (some true)) else (some false)) else (some false)) = some r := by rw [if_pos rfl] at H; exact H
                    clear H
                    have H := H1
                    clear H1
                    by_cases c28 : (t131 == (decide (a0 ≥ 0))) = true
                    · rw [if_pos c28] at H
                      have c28b0 : (t131 == (decide (a0 ≥ 0))) = true := c28
                      (try (have c28b1 : decide (t131 = (decide (a0 ≥ 0))) = true := by simpa using c28))
                      (try (have c28b2 : (t131 == (decide (a0 ≥ 0))) = true := by simpa using c28))
                      clear c28
                      by_cases c29 : t130 ≤ a1
                      · rw [if_pos c29] at H
                        have c29b0 : decide (t130 ≤ a1) = true := decide_eq_true c29
                        clear c29
                        by_cases c30 : t131 = true
                        · subst c30
                          have H1 : (if (IntKind.u64.wrap ((IntKind.u64.wrap (a1)) - (IntKind.u64.wrap (t130)))) ≤ (IntKind.u64.wrap (a0)) then (if t130 = a2 then (some true) else (some ((IntKind.u64.wrap ((IntKind.u64.wrap (a1)) - (IntKind.u64.wrap (t130)))) == (IntKind.u64.wrap (a0))))) else (some false)) = some r := by rw [if_pos rfl] at H; exact H
                          clear H
                          have H := H1
                          clear H1
                          by_cases c31 : (IntKind.u64.wrap ((IntKind.u64.wrap (a1)) - (IntKind.u64.wrap (t130)))) ≤ (IntKind.u64.wrap (a0))
                          · rw [if_pos c31] at H
                            have c31b0 : decide ((IntKind.u64.wrap ((IntKind.u64.wrap (a1)) - (IntKind.u64.wrap (t130)))) ≤ (IntKind.u64.wrap (a0))) = true := decide_eq_true c31
                            clear c31
                            by_cases c32 : t130 = a2
                            · rw [if_pos c32] at H
                              have c32b0 : (t130 == a2) = true := beq_iff_eq.mpr c32
                              have c32b1 : (t130 != a2) = false := bne_eq_false_iff_eq.mpr c32
                              clear c32
                              obtain rfl := Option.some.inj H
                              go_wp2
                              go_ret
                              exact ⟨by first | rfl | (simp [errW_none, errW_some] <;> rfl) | (simp [*, errW_none, errW_some] <;> rfl), by repeat (first | (with_reducible first | exact HB.out | apply below_alloc | apply pw_below_drewN | apply below_drew1 | refine below_set ?_ GE129.out) | exact HB.out)⟩
                            · rw [if_neg c32] at H
                              have c32b0 : (t130 == a2) = false := beq_eq_false_iff_ne.mpr c32
                              have c32b1 : (t130 != a2) = true := bne_iff_ne.mpr c32
                              obtain rfl := Option.some.inj H
                              go_wp2
                              go_ret
                              exact ⟨by first | rfl | (simp [errW_none, errW_some] <;> rfl) | (simp [*, errW_none, errW_some] <;> rfl), by repeat (first | (with_reducible first | exact HB.out | apply below_alloc | apply pw_below_drewN | apply below_drew1 | refine below_set ?_ GE129.out) | exact HB.out)⟩
                          · rw [if_neg c31] at H
                            have c31b0 : decide ((IntKind.u64.wrap ((IntKind.u64.wrap (a1)) - (IntKind.u64.wrap (t130)))) ≤ (IntKind.u64.wrap (a0))) = false := decide_eq_false c31
                            clear c31
                            obtain rfl := Option.some.inj H
                            go_wp2
                            go_ret
                            exact ⟨by first | rfl | (simp [errW_none, errW_some] <;> rfl) | (simp [*, errW_none, errW_some] <;> rfl), by repeat (first | (with_reducible first | exact HB.out | apply below_alloc | apply pw_below_drewN | apply below_drew1 | refine below_set ?_ GE129.out) | exact HB.out)⟩
                        · replace c30 := Bool.eq_false_iff.mpr c30
                          subst c30
                          have H1 : (some true) = some r := by rw [if_neg (show ¬ (false = true) by decide)] at H; exact H
                          clear H
                          have H := H1
                          clear H1
                          obtain rfl := Option.some.inj H
                          go_wp2
                          go_ret
                          exact ⟨by first | rfl | (simp [errW_none, errW_some] <;> rfl) | (simp [*, errW_none, errW_some] <;> rfl), by repeat (first | (with_reducible first | exact HB.out | apply below_alloc | apply pw_below_drewN | apply below_drew1 | refine below_set ?_ GE129.out) | exact HB.out)⟩
                      · rw [if_neg c29] at H
                        have c29b0 : decide (t130 ≤ a1) = false := decide_eq_false c29
                        clear c29
                        obtain rfl := Option.some.inj H
                        go_wp2
                        go_ret
                        exact ⟨by first | rfl | (simp [errW_none, errW_some] <;> rfl) | (simp [*, errW_none, errW_some] <;> rfl), by repeat (first | (with_reducible first | exact HB.out | apply below_alloc | apply pw_below_drewN | apply below_drew1 | refine below_set ?_ GE129.out) | exact HB.out)⟩
                    · rw [if_neg c28] at H
                      have c28b0 : (t131 == (decide (a0 ≥ 0))) = false := by simpa using c28
                      (try (have c28b1 : decide (t131 = (decide (a0 ≥ 0))) = false := by simpa using c28))
                      (try (have c28b2 : (t131 == (decide (a0 ≥ 0))) = false := by simpa using c28))
                      (try (have c28b3 : ¬ (t131 = (decide (a0 ≥ 0))) := by simpa using c28))
                      clear c28
                      obtain rfl := Option.some.inj H
                      go_wp2
                      go_ret
                      exact ⟨by first | rfl | (simp [errW_none, errW_some] <;> rfl) | (simp [*, errW_none, errW_some] <;> rfl), by repeat (first | (with_reducible first | exact HB.out | apply below_alloc | apply pw_below_drewN | apply below_drew1 | refine below_set ?_ GE129.out) | exact HB.out)⟩
                  · replace c27 := Bool.eq_false_iff.mpr c27
                    subst c27
                    have H1 : (if t131 = true then (if t130 = (wrap64 (a1 + a0)) then (some ((decide (a0 ≥ 0)) == (decide (t130 ≥ a1)))) else (some false)) else (some true)) = some r := by rw [if_neg (show ¬ (false = true) by decide)] at H; exact H
                    clear H
                    have H := H1
                    clear H1
                    by_cases c33 : t131 = true
                    · subst c33
                      have H1 : (if t130 = (wrap64 (a1 + a0)) then (some ((decide (a0 ≥ 0)) == (decide (t130 ≥ a1)))) else (some false)) = some r := by rw [if_pos rfl] at H; exact H
                      clear H
                      have H := H1
                      clear H1
                      by_cases c34 : t130 = (wrap64 (a1 + a0))
                      · rw [if_pos c34] at H
                        have c34b0 : (t130 == (wrap64 (a1 + a0))) = true := beq_iff_eq.mpr c34
                        have c34b1 : (t130 != (wrap64 (a1 + a0))) = false := bne_eq_false_iff_eq.mpr c34
                        clear c34
                        obtain rfl := Option.some.inj H
                        go_wp2
                        go_ret
                        exact ⟨by first | rfl | (simp [errW_none, errW_some] <;> rfl) | (simp [*, errW_none, errW_some] <;> rfl), by repeat (first | (with_reducible first | exact HB.out | apply below_alloc | apply pw_below_drewN | apply below_drew1 | refine below_set ?_ GE129.out) | exact HB.out)⟩
                      · rw [if_neg c34] at H
                        have c34b0 : (t130 == (wrap64 (a1 + a0))) = false := beq_eq_false_iff_ne.mpr c34
                        have c34b1 : (t130 != (wrap64 (a1 + a0))) = true := bne_iff_ne.mpr c34
                        obtain rfl := Option.some.inj H
                        go_wp2
                        go_ret
                        exact ⟨by first | rfl | (simp [errW_none, errW_some] <;> rfl) | (simp [*, errW_none, errW_some] <;> rfl), by repeat (first | (with_reducible first | exact HB.out | apply below_alloc | apply pw_below_drewN | apply below_drew1 | refine below_set ?_ GE129.out) | exact HB.out)⟩
                    · replace c33 := Bool.eq_false_iff.mpr c33
                      subst c33
                      have H1 : (some true) = some r := by rw [if_neg (show ¬ (false = true) by decide)] at H; exact H
                      clear H
                      have H := H1
                      clear H1
                      obtain rfl := Option.some.inj H
                      go_wp2
                      go_ret
                      exact ⟨by first | rfl | (simp [errW_none, errW_some] <;> rfl) | (simp [*, errW_none, errW_some] <;> rfl), by repeat (first | (with_reducible first | exact HB.out | apply below_alloc | apply pw_below_drewN | apply below_drew1 | refine below_set ?_ GE129.out) | exact HB.out)⟩

/-- THE ONE PURE STATEMENT of millstreamlaw01_OperBounds: yours. -/
def millstreamlaw01_OperBounds.Pure : Prop := ∀ (a0 : Int) (a1 : Int) (a2 : Int) (a3 : Int) (a4 : Bool), (Lit.int .i64 a0).wf = true → (Lit.int .i64 a1).wf = true → (Lit.int .i64 a2).wf = true → (Lit.int .i64 a3).wf = true → ∃ k, millstreamlaw01_OperBounds.f k a0 a1 a2 a3 a4 = some true
theorem millstreamlaw01_OperBounds.walk (P : millstreamlaw01_OperBounds.Pure) (a0 : Int) (a1 : Int) (a2 : Int) (a3 : Int) (a4 : Bool) (w : World) (w0 : (Lit.int .i64 a0).wf = true) (w1 : (Lit.int .i64 a1).wf = true) (w2 : (Lit.int .i64 a2).wf = true) (w3 : (Lit.int .i64 a3).wf = true) :
    Calls Try.prog 4 #[.int .i64 a0, .int .i64 a1, .int .i64 a2, .int .i64 a3, .bool a4] w fun e w' => e = .returned (.bool true) ∧ Below w.heap.size w w' := by
  obtain ⟨k, h⟩ := P a0 a1 a2 a3 a4 w0 w1 w2 w3
  refine (millstreamlaw01_OperBounds.calls k a0 a1 a2 a3 a4 true w h).mono ?_
  rintro e w' ⟨rfl, hd⟩
  exact ⟨rfl, hd⟩

/-! ### millstreamlaw01_OperBack: function 5 -/
mutual
def millstreamlaw01_OperBack.j0 : Nat → Int → Int → Int → Int → Bool → Option (Bool)
  | 0, _, _, _, _, _ => none
  | k + 1, x0, x1, x2, x3, x45 => if x45 = true then (some false) else (if x0 = (-9223372036854775808) then (millstreamlaw01_OperBack.j1 k x0 x1 x2 x3 true) else (if x1 < x2 then (millstreamlaw01_OperBack.j1 k x0 x1 x2 x3 true) else (millstreamlaw01_OperBack.j1 k x0 x1 x2 x3 (decide (x1 > x3)))))
def millstreamlaw01_OperBack.j1 : Nat → Int → Int → Int → Int → Bool → Option (Bool)
  | 0, _, _, _, _, _ => none
  | k + 1, x0, x1, x2, x3, x57 => if x57 = true then (some true) else ((oper_Apply.f k 8 x0 x1 x2 x3).bind fun bt137 => ((oper_Apply.f k 8 (wrap64 (-x0)) bt137.1 x2 x3).bind fun bt139 => (if bt137.2 = true then (if bt139.2 = true then (some (bt139.1 == x1)) else (some false)) else (some true))))
end
def millstreamlaw01_OperBack.f (k : Nat) (a0 : Int) (a1 : Int) (a2 : Int) (a3 : Int) : Option (Bool) := (oper_Apply.f k 1 a0 a1 a2 a3).bind fun bt132 => ((oper_Apply.f k 2 a0 bt132.1 a2 a3).bind fun bt134 => (if bt134.1 = a1 then (if bt134.2 = true then ((millstreamlaw01_shown.f k).bind fun t136 => (millstreamlaw01_OperBack.j0 k a0 a1 a2 a3 (!t136))) else (millstreamlaw01_OperBack.j0 k a0 a1 a2 a3 true)) else (millstreamlaw01_OperBack.j0 k a0 a1 a2 a3 true)))
theorem millstreamlaw01_OperBack.mono_l : ∀ k, (∀ y0 y1 y2 y3 y4, LeO (millstreamlaw01_OperBack.j0 k y0 y1 y2 y3 y4) (millstreamlaw01_OperBack.j0 (k + 1) y0 y1 y2 y3 y4)) ∧ (∀ y0 y1 y2 y3 y4, LeO (millstreamlaw01_OperBack.j1 k y0 y1 y2 y3 y4) (millstreamlaw01_OperBack.j1 (k + 1) y0 y1 y2 y3 y4))
  | 0 => ⟨fun _ _ _ _ _ r h => by simp [millstreamlaw01_OperBack.j0] at h, fun _ _ _ _ _ r h => by simp [millstreamlaw01_OperBack.j1] at h⟩
  | k + 1 => by
    obtain ⟨ih0, ih1⟩ := millstreamlaw01_OperBack.mono_l k
    refine ⟨?_, ?_⟩
    · intro y0 y1 y2 y3 y4
      unfold millstreamlaw01_OperBack.j0
      repeat' first
      | (with_reducible exact ih0 _ _ _ _ _)
      | (with_reducible exact ih1 _ _ _ _ _)
      | (with_reducible exact millstreamlaw01_shown.mono _)
      | (with_reducible exact oper_Apply.mono _ _ _ _ _ _)
      | (with_reducible exact LeO.refl _)
      | (with_reducible exact LeO.none _)
      | (with_reducible refine LeO.ite ?_ ?_)
      | (with_reducible refine LeO.bind ?_ (fun _ => ?_))
      | exact ih0 _ _ _ _ _
      | exact ih1 _ _ _ _ _
      | exact millstreamlaw01_shown.mono _
      | exact oper_Apply.mono _ _ _ _ _ _
      | exact LeO.none _
      | refine LeO.ite ?_ ?_
      | refine LeO.bind ?_ (fun _ => ?_)
    · intro y0 y1 y2 y3 y4
      unfold millstreamlaw01_OperBack.j1
      repeat' first
      | (with_reducible exact ih0 _ _ _ _ _)
      | (with_reducible exact ih1 _ _ _ _ _)
      | (with_reducible exact millstreamlaw01_shown.mono _)
      | (with_reducible exact oper_Apply.mono _ _ _ _ _ _)
      | (with_reducible exact LeO.refl _)
      | (with_reducible exact LeO.none _)
      | (with_reducible refine LeO.ite ?_ ?_)
      | (with_reducible refine LeO.bind ?_ (fun _ => ?_))
      | exact ih0 _ _ _ _ _
      | exact ih1 _ _ _ _ _
      | exact millstreamlaw01_shown.mono _
      | exact oper_Apply.mono _ _ _ _ _ _
      | exact LeO.none _
      | refine LeO.ite ?_ ?_
      | refine LeO.bind ?_ (fun _ => ?_)
theorem millstreamlaw01_OperBack.mono : ∀ a0 a1 a2 a3 k, LeO (millstreamlaw01_OperBack.f k a0 a1 a2 a3) (millstreamlaw01_OperBack.f (k + 1) a0 a1 a2 a3) := by
  intro a0 a1 a2 a3 k
  obtain ⟨ih0, ih1⟩ := millstreamlaw01_OperBack.mono_l k
  unfold millstreamlaw01_OperBack.f
  repeat' first
      | (with_reducible exact ih0 _ _ _ _ _)
      | (with_reducible exact ih1 _ _ _ _ _)
      | (with_reducible exact millstreamlaw01_shown.mono _)
      | (with_reducible exact oper_Apply.mono _ _ _ _ _ _)
      | (with_reducible exact LeO.refl _)
      | (with_reducible exact LeO.none _)
      | (with_reducible refine LeO.ite ?_ ?_)
      | (with_reducible refine LeO.bind ?_ (fun _ => ?_))
      | exact ih0 _ _ _ _ _
      | exact ih1 _ _ _ _ _
      | exact millstreamlaw01_shown.mono _
      | exact oper_Apply.mono _ _ _ _ _ _
      | exact LeO.none _
      | refine LeO.ite ?_ ?_
      | refine LeO.bind ?_ (fun _ => ?_)
set_option maxHeartbeats 8000000 in
set_option maxRecDepth 100000 in
theorem millstreamlaw01_OperBack.calls (k : Nat) (a0 : Int) (a1 : Int) (a2 : Int) (a3 : Int) (r : Bool) (w : World) (h : millstreamlaw01_OperBack.f k a0 a1 a2 a3 = some r) :
    Calls Try.prog 5 #[.int .i64 a0, .int .i64 a1, .int .i64 a2, .int .i64 a3] w fun e w' => e = .returned (.bool r) ∧ Below w.heap.size w w' := by
  have hu23 := Try.underlying23
  have HB := Aside0.mk (Below.refl w.heap.size w)
  have H : ((oper_Apply.f k 1 a0 a1 a2 a3).bind fun bt132 => ((oper_Apply.f k 2 a0 bt132.1 a2 a3).bind fun bt134 => (if bt134.1 = a1 then (if bt134.2 = true then ((millstreamlaw01_shown.f k).bind fun t136 => (millstreamlaw01_OperBack.j0 k a0 a1 a2 a3 (!t136))) else (millstreamlaw01_OperBack.j0 k a0 a1 a2 a3 true)) else (millstreamlaw01_OperBack.j0 k a0 a1 a2 a3 true)))) = some r := h
  clear h
  replace H := Option.bind_eq_some_iff.mp H
  obtain ⟨⟨t132, t133⟩, A50, H⟩ := H
  replace H : ((oper_Apply.f k 2 a0 t132 a2 a3).bind fun bt134 => (if bt134.1 = a1 then (if bt134.2 = true then ((millstreamlaw01_shown.f k).bind fun t136 => (millstreamlaw01_OperBack.j0 k a0 a1 a2 a3 (!t136))) else (millstreamlaw01_OperBack.j0 k a0 a1 a2 a3 true)) else (millstreamlaw01_OperBack.j0 k a0 a1 a2 a3 true))) = some r := H
  have A5 := Aside0.mk A50
  clear A50
  replace H := Option.bind_eq_some_iff.mp H
  obtain ⟨⟨t134, t135⟩, A60, H⟩ := H
  replace H : (if t134 = a1 then (if t135 = true then ((millstreamlaw01_shown.f k).bind fun t136 => (millstreamlaw01_OperBack.j0 k a0 a1 a2 a3 (!t136))) else (millstreamlaw01_OperBack.j0 k a0 a1 a2 a3 true)) else (millstreamlaw01_OperBack.j0 k a0 a1 a2 a3 true)) = some r := H
  have A6 := Aside0.mk A60
  clear A60
  have HC7 := Aside0.mk H
  clear H
  go_enter Try.func5, Try.ntmps5
  go_upto_region 3 with (first | ((with_reducible refine gate_callee (f := 10) rfl ?_); refine goesL_ (some 23) rfl rfl Try.func10 (by kernel_rfl) rfl #[.agg #[.int .i64 1, .int .i64 a0], .int .i64 a1, .int .i64 a2, .int .i64 a3] rfl (by (try simp only [List.map_toArray, List.map_cons, List.map_nil]); first | done | rfl | (simp only [List.length_drop, List.length_take]; rfl)) ?_; (with_reducible refine (oper_Apply.calls k 1 a0 a1 a2 a3 t132 t133 _ A5.out).mono ?_); rintro e w8 ⟨rfl, hb⟩; refine ⟨_, rfl, ?_⟩; have n0_ := Aside0.mk (below_step (by repeat (first | (with_reducible first | exact HB.out | apply below_alloc | apply pw_below_drewN | apply below_drew1) | exact HB.out)) hb); clear HB; have HB := n0_; clear n0_; (try clear hb); (try clear hb2); (try clear hk); (try clear hi)) | ((with_reducible refine gate_callee (f := 10) rfl ?_); refine goesL_ (some 32) rfl rfl Try.func10 (by kernel_rfl) rfl #[.agg #[.int .i64 2, .int .i64 a0], .int .i64 t132, .int .i64 a2, .int .i64 a3] rfl (by (try simp only [List.map_toArray, List.map_cons, List.map_nil]); first | done | rfl | (simp only [List.length_drop, List.length_take]; rfl)) ?_; (with_reducible refine (oper_Apply.calls k 2 a0 t132 a2 a3 t134 t135 _ A6.out).mono ?_); rintro e w9 ⟨rfl, hb⟩; refine ⟨_, rfl, ?_⟩; have n0_ := Aside0.mk (below_step (by repeat (first | (with_reducible first | exact HB.out | apply below_alloc | apply pw_below_drewN | apply below_drew1) | exact HB.out)) hb); clear HB; have HB := n0_; clear n0_; (try clear hb); (try clear hb2); (try clear hk); (try clear hi)))
  (try simp only [Act.put, List.setIfInBounds_toArray, List.set_cons_zero, List.set_cons_succ])
  go_cut [45] (fun v45 wc => ∃ (kq : Nat) (x45_6 : Bool), v45 = .bool x45_6 ∧ Aside0 (millstreamlaw01_OperBack.j0 kq a0 a1 a2 a3 x45_6 = some r) ∧ Aside0 (kq ≤ k) ∧ Aside0 (Below w.heap.size w wc))
  case first =>
    have H := HC7.out
    clear HC7
    by_cases c10 : t134 = a1
    · rw [if_pos c10] at H
      have c10b0 : (t134 == a1) = true := beq_iff_eq.mpr c10
      have c10b1 : (t134 != a1) = false := bne_eq_false_iff_eq.mpr c10
      clear c10
      (first | rw [c10b0] | (simp only [i64_w, i32_w]; rw [c10b0]) | skip)
      by_cases c11 : t135 = true
      · subst c11
        have H1 : ((millstreamlaw01_shown.f k).bind fun t136 => (millstreamlaw01_OperBack.j0 k a0 a1 a2 a3 (!t136))) = some r := by rw [if_pos rfl] at H; exact H
        clear H
        have H := H1
        clear H1
        replace H := Option.bind_eq_some_iff.mp H
        obtain ⟨t136, A120, H⟩ := H
        replace H : (millstreamlaw01_OperBack.j0 k a0 a1 a2 a3 (!t136)) = some r := H
        have A12 := Aside0.mk A120
        clear A120
        have H' := Aside0.mk H
        clear H
        go_wp2_with (first | (go_at_call 16; (with_reducible refine (millstreamlaw01_shown.calls k  t136 _ A12.out).mono ?_); rintro e w13 ⟨rfl, hb⟩; have n0_ := Aside0.mk (below_step (by repeat (first | (with_reducible first | exact HB.out | apply below_alloc | apply pw_below_drewN | apply below_drew1) | exact HB.out)) hb); clear HB; have HB := n0_; clear n0_; (try clear hb); (try clear hb2); (try clear hk); (try clear hi)))
        go_meet
        case rel => exact ⟨_, (!t136), (by first | rfl | (simp; done) | (simp [*]; done)), H', ⟨by first | omega | exact Nat.le_refl _⟩, ⟨by repeat (first | (with_reducible first | exact HB.out | apply below_alloc | apply pw_below_drewN | apply below_drew1) | exact HB.out)⟩⟩
      · replace c11 := Bool.eq_false_iff.mpr c11
        subst c11
        have H1 : (millstreamlaw01_OperBack.j0 k a0 a1 a2 a3 true) = some r := by rw [if_neg (show ¬ (false = true) by decide)] at H; exact H
        clear H
        have H := H1
        clear H1
        have H' := Aside0.mk H
        clear H
        go_wp2
        go_meet
        case rel => exact ⟨_, (true), (by first | rfl | (simp; done) | (simp [*]; done)), H', ⟨by first | omega | exact Nat.le_refl _⟩, ⟨by repeat (first | (with_reducible first | exact HB.out | apply below_alloc | apply pw_below_drewN | apply below_drew1) | exact HB.out)⟩⟩
    · rw [if_neg c10] at H
      have c10b0 : (t134 == a1) = false := beq_eq_false_iff_ne.mpr c10
      have c10b1 : (t134 != a1) = true := bne_iff_ne.mpr c10
      (first | rw [c10b0] | (simp only [i64_w, i32_w]; rw [c10b0]) | skip)
      have H' := Aside0.mk H
      clear H
      go_wp2
      go_meet
      case rel => exact ⟨_, (true), (by first | rfl | (simp; done) | (simp [*]; done)), H', ⟨by first | omega | exact Nat.le_refl _⟩, ⟨by repeat (first | (with_reducible first | exact HB.out | apply below_alloc | apply pw_below_drewN | apply below_drew1) | exact HB.out)⟩⟩
  case rest =>
    clear HC7
    try clear c1
    try clear p2
    try clear c5
    try clear c10
    try clear c10b0
    try clear c10b1
    try clear c11
    obtain ⟨kq, x45_6, rfl, HA, HJ6, HB⟩ := hcut
    cases kq with
    | zero => exact absurd HA.out (by simp [millstreamlaw01_OperBack.j0])
    | succ kj6 =>
      have H := HA.out
      clear HA
      simp only [millstreamlaw01_OperBack.j0] at H
      by_cases c14 : x45_6 = true
      · subst c14
        have H1 : (some false) = some r := by rw [if_pos rfl] at H; exact H
        clear H
        have H := H1
        clear H1
        obtain rfl := Option.some.inj H
        go_wp2
        go_ret
        exact ⟨by first | rfl | (simp [errW_none, errW_some] <;> rfl) | (simp [*, errW_none, errW_some] <;> rfl), by repeat (first | (with_reducible first | exact HB.out | apply below_alloc | apply pw_below_drewN | apply below_drew1) | exact HB.out)⟩
      · replace c14 := Bool.eq_false_iff.mpr c14
        subst c14
        have H1 : (if a0 = (-9223372036854775808) then (millstreamlaw01_OperBack.j1 kj6 a0 a1 a2 a3 true) else (if a1 < a2 then (millstreamlaw01_OperBack.j1 kj6 a0 a1 a2 a3 true) else (millstreamlaw01_OperBack.j1 kj6 a0 a1 a2 a3 (decide (a1 > a3))))) = some r := by rw [if_neg (show ¬ (false = true) by decide)] at H; exact H
        clear H
        have H := H1
        clear H1
        have HC15 := Aside0.mk H
        clear H
        go_upto_region 5 with (fail)
        go_cut [57] (fun v57 wc => ∃ (kq : Nat) (x57_14 : Bool), v57 = .bool x57_14 ∧ Aside0 (millstreamlaw01_OperBack.j1 kq a0 a1 a2 a3 x57_14 = some r) ∧ Aside0 (kq ≤ kj6) ∧ Aside0 (Below w.heap.size w wc))
        case first =>
          have H := HC15.out
          clear HC15
          by_cases c16 : a0 = (-9223372036854775808)
          · rw [if_pos c16] at H
            have c16b0 : (a0 == (-9223372036854775808)) = true := beq_iff_eq.mpr c16
            have c16b1 : (a0 != (-9223372036854775808)) = false := bne_eq_false_iff_eq.mpr c16
            clear c16
            (first | rw [c16b0] | (simp only [i64_w, i32_w]; rw [c16b0]) | skip)
            have H' := Aside0.mk H
            clear H
            go_wp2
            go_meet
            case rel => exact ⟨_, (true), (by first | rfl | (simp; done) | (simp [*]; done)), H', ⟨by have := HJ6.out; first | omega | exact Nat.le_refl _⟩, ⟨by repeat (first | (with_reducible first | exact HB.out | apply below_alloc | apply pw_below_drewN | apply below_drew1) | exact HB.out)⟩⟩
          · rw [if_neg c16] at H
            have c16b0 : (a0 == (-9223372036854775808)) = false := beq_eq_false_iff_ne.mpr c16
            have c16b1 : (a0 != (-9223372036854775808)) = true := bne_iff_ne.mpr c16
            (first | rw [c16b0] | (simp only [i64_w, i32_w]; rw [c16b0]) | skip)
            by_cases c17 : a1 < a2
            · rw [if_pos c17] at H
              have c17b0 : decide (a1 < a2) = true := decide_eq_true c17
              clear c17
              have H' := Aside0.mk H
              clear H
              go_wp2
              go_meet
              case rel => exact ⟨_, (true), (by first | rfl | (simp; done) | (simp [*]; done)), H', ⟨by have := HJ6.out; first | omega | exact Nat.le_refl _⟩, ⟨by repeat (first | (with_reducible first | exact HB.out | apply below_alloc | apply pw_below_drewN | apply below_drew1) | exact HB.out)⟩⟩
            · rw [if_neg c17] at H
              have c17b0 : decide (a1 < a2) = false := decide_eq_false c17
              clear c17
              have H' := Aside0.mk H
              clear H
              go_wp2
              go_meet
              case rel => exact ⟨_, (decide (a1 > a3)), (by first | rfl | (simp; done) | (simp [*]; done)), H', ⟨by have := HJ6.out; first | omega | exact Nat.le_refl _⟩, ⟨by repeat (first | (with_reducible first | exact HB.out | apply below_alloc | apply pw_below_drewN | apply below_drew1) | exact HB.out)⟩⟩
        case rest =>
          clear HC15
          try clear c1
          try clear p2
          try clear c5
          try clear c10
          try clear c10b0
          try clear c10b1
          try clear c11
          try clear c14
          try clear c16
          try clear c16b0
          try clear c16b1
          try clear c17
          try clear c17b0
          try clear p2
          obtain ⟨kq, x57_14, rfl, HA, HJ14, HB⟩ := hcut
          cases kq with
          | zero => exact absurd HA.out (by simp [millstreamlaw01_OperBack.j1])
          | succ kj14 =>
            have H := HA.out
            clear HA
            simp only [millstreamlaw01_OperBack.j1] at H
            by_cases c18 : x57_14 = true
            · subst c18
              have H1 : (some true) = some r := by rw [if_pos rfl] at H; exact H
              clear H
              have H := H1
              clear H1
              obtain rfl := Option.some.inj H
              go_wp2
              go_ret
              exact ⟨by first | rfl | (simp [errW_none, errW_some] <;> rfl) | (simp [*, errW_none, errW_some] <;> rfl), by repeat (first | (with_reducible first | exact HB.out | apply below_alloc | apply pw_below_drewN | apply below_drew1) | exact HB.out)⟩
            · replace c18 := Bool.eq_false_iff.mpr c18
              subst c18
              have H1 : ((oper_Apply.f kj14 8 a0 a1 a2 a3).bind fun bt137 => ((oper_Apply.f kj14 8 (wrap64 (-a0)) bt137.1 a2 a3).bind fun bt139 => (if bt137.2 = true then (if bt139.2 = true then (some (bt139.1 == a1)) else (some false)) else (some true)))) = some r := by rw [if_neg (show ¬ (false = true) by decide)] at H; exact H
              clear H
              have H := H1
              clear H1
              replace H := Option.bind_eq_some_iff.mp H
              obtain ⟨⟨t137, t138⟩, A190, H⟩ := H
              replace H : ((oper_Apply.f kj14 8 (wrap64 (-a0)) t137 a2 a3).bind fun bt139 => (if t138 = true then (if bt139.2 = true then (some (bt139.1 == a1)) else (some false)) else (some true))) = some r := H
              have A19 := Aside0.mk A190
              clear A190
              replace H := Option.bind_eq_some_iff.mp H
              obtain ⟨⟨t139, t140⟩, A200, H⟩ := H
              replace H : (if t138 = true then (if t140 = true then (some (t139 == a1)) else (some false)) else (some true)) = some r := H
              have A20 := Aside0.mk A200
              clear A200
              by_cases c21 : t138 = true
              · subst c21
                have H1 : (if t140 = true then (some (t139 == a1)) else (some false)) = some r := by rw [if_pos rfl] at H; exact H
                clear H
                have H := H1
                clear H1
                by_cases c22 : t140 = true
                · subst c22
                  have H1 : (some (t139 == a1)) = some r := by rw [if_pos rfl] at H; exact H
                  clear H
                  have H := H1
                  clear H1
                  obtain rfl := Option.some.inj H
                  go_wp2_with (first | ((with_reducible refine gate_callee (f := 10) rfl ?_); refine goesL_ (some 64) rfl rfl Try.func10 (by kernel_rfl) rfl #[.agg #[.int .i64 8, .int .i64 a0], .int .i64 a1, .int .i64 a2, .int .i64 a3] rfl (by (try simp only [List.map_toArray, List.map_cons, List.map_nil]); first | done | rfl | (simp only [List.length_drop, List.length_take]; rfl)) ?_; (with_reducible refine (oper_Apply.calls kj14 8 a0 a1 a2 a3 t137 true _ A19.out).mono ?_); rintro e w23 ⟨rfl, hb⟩; refine ⟨_, rfl, ?_⟩; have n0_ := Aside0.mk (below_step (by repeat (first | (with_reducible first | exact HB.out | apply below_alloc | apply pw_below_drewN | apply below_drew1) | exact HB.out)) hb); clear HB; have HB := n0_; clear n0_; (try clear hb); (try clear hb2); (try clear hk); (try clear hi)) | ((with_reducible refine gate_callee (f := 10) rfl ?_); refine goesL_ (some 74) rfl rfl Try.func10 (by kernel_rfl) rfl #[.agg #[.int .i64 8, .int .i64 (wrap64 (-a0))], .int .i64 t137, .int .i64 a2, .int .i64 a3] rfl (by (try simp only [List.map_toArray, List.map_cons, List.map_nil]); first | done | rfl | (simp only [List.length_drop, List.length_take]; rfl)) ?_; (with_reducible refine (oper_Apply.calls kj14 8 (wrap64 (-a0)) t137 a2 a3 t139 true _ A20.out).mono ?_); rintro e w24 ⟨rfl, hb⟩; refine ⟨_, rfl, ?_⟩; have n0_ := Aside0.mk (below_step (by repeat (first | (with_reducible first | exact HB.out | apply below_alloc | apply pw_below_drewN | apply below_drew1) | exact HB.out)) hb); clear HB; have HB := n0_; clear n0_; (try clear hb); (try clear hb2); (try clear hk); (try clear hi)))
                  go_ret
                  exact ⟨by first | rfl | (simp [errW_none, errW_some] <;> rfl) | (simp [*, errW_none, errW_some] <;> rfl), by repeat (first | (with_reducible first | exact HB.out | apply below_alloc | apply pw_below_drewN | apply below_drew1) | exact HB.out)⟩
                · replace c22 := Bool.eq_false_iff.mpr c22
                  subst c22
                  have H1 : (some false) = some r := by rw [if_neg (show ¬ (false = true) by decide)] at H; exact H
                  clear H
                  have H := H1
                  clear H1
                  obtain rfl := Option.some.inj H
                  go_wp2_with (first | ((with_reducible refine gate_callee (f := 10) rfl ?_); refine goesL_ (some 64) rfl rfl Try.func10 (by kernel_rfl) rfl #[.agg #[.int .i64 8, .int .i64 a0], .int .i64 a1, .int .i64 a2, .int .i64 a3] rfl (by (try simp only [List.map_toArray, List.map_cons, List.map_nil]); first | done | rfl | (simp only [List.length_drop, List.length_take]; rfl)) ?_; (with_reducible refine (oper_Apply.calls kj14 8 a0 a1 a2 a3 t137 true _ A19.out).mono ?_); rintro e w25 ⟨rfl, hb⟩; refine ⟨_, rfl, ?_⟩; have n0_ := Aside0.mk (below_step (by repeat (first | (with_reducible first | exact HB.out | apply below_alloc | apply pw_below_drewN | apply below_drew1) | exact HB.out)) hb); clear HB; have HB := n0_; clear n0_; (try clear hb); (try clear hb2); (try clear hk); (try clear hi)) | ((with_reducible refine gate_callee (f := 10) rfl ?_); refine goesL_ (some 74) rfl rfl Try.func10 (by kernel_rfl) rfl #[.agg #[.int .i64 8, .int .i64 (wrap64 (-a0))], .int .i64 t137, .int .i64 a2, .int .i64 a3] rfl (by (try simp only [List.map_toArray, List.map_cons, List.map_nil]); first | done | rfl | (simp only [List.length_drop, List.length_take]; rfl)) ?_; (with_reducible refine (oper_Apply.calls kj14 8 (wrap64 (-a0)) t137 a2 a3 t139 false _ A20.out).mono ?_); rintro e w26 ⟨rfl, hb⟩; refine ⟨_, rfl, ?_⟩; have n0_ := Aside0.mk (below_step (by repeat (first | (with_reducible first | exact HB.out | apply below_alloc | apply pw_below_drewN | apply below_drew1) | exact HB.out)) hb); clear HB; have HB := n0_; clear n0_; (try clear hb); (try clear hb2); (try clear hk); (try clear hi)))
                  go_ret
                  exact ⟨by first | rfl | (simp [errW_none, errW_some] <;> rfl) | (simp [*, errW_none, errW_some] <;> rfl), by repeat (first | (with_reducible first | exact HB.out | apply below_alloc | apply pw_below_drewN | apply below_drew1) | exact HB.out)⟩
              · replace c21 := Bool.eq_false_iff.mpr c21
                subst c21
                have H1 : (some true) = some r := by rw [if_neg (show ¬ (false = true) by decide)] at H; exact H
                clear H
                have H := H1
                clear H1
                obtain rfl := Option.some.inj H
                go_wp2_with (first | ((with_reducible refine gate_callee (f := 10) rfl ?_); refine goesL_ (some 64) rfl rfl Try.func10 (by kernel_rfl) rfl #[.agg #[.int .i64 8, .int .i64 a0], .int .i64 a1, .int .i64 a2, .int .i64 a3] rfl (by (try simp only [List.map_toArray, List.map_cons, List.map_nil]); first | done | rfl | (simp only [List.length_drop, List.length_take]; rfl)) ?_; (with_reducible refine (oper_Apply.calls kj14 8 a0 a1 a2 a3 t137 false _ A19.out).mono ?_); rintro e w27 ⟨rfl, hb⟩; refine ⟨_, rfl, ?_⟩; have n0_ := Aside0.mk (below_step (by repeat (first | (with_reducible first | exact HB.out | apply below_alloc | apply pw_below_drewN | apply below_drew1) | exact HB.out)) hb); clear HB; have HB := n0_; clear n0_; (try clear hb); (try clear hb2); (try clear hk); (try clear hi)) | ((with_reducible refine gate_callee (f := 10) rfl ?_); refine goesL_ (some 74) rfl rfl Try.func10 (by kernel_rfl) rfl #[.agg #[.int .i64 8, .int .i64 (wrap64 (-a0))], .int .i64 t137, .int .i64 a2, .int .i64 a3] rfl (by (try simp only [List.map_toArray, List.map_cons, List.map_nil]); first | done | rfl | (simp only [List.length_drop, List.length_take]; rfl)) ?_; (with_reducible refine (oper_Apply.calls kj14 8 (wrap64 (-a0)) t137 a2 a3 t139 t140 _ A20.out).mono ?_); rintro e w28 ⟨rfl, hb⟩; refine ⟨_, rfl, ?_⟩; have n0_ := Aside0.mk (below_step (by repeat (first | (with_reducible first | exact HB.out | apply below_alloc | apply pw_below_drewN | apply below_drew1) | exact HB.out)) hb); clear HB; have HB := n0_; clear n0_; (try clear hb); (try clear hb2); (try clear hk); (try clear hi)))
                go_ret
                exact ⟨by first | rfl | (simp [errW_none, errW_some] <;> rfl) | (simp [*, errW_none, errW_some] <;> rfl), by repeat (first | (with_reducible first | exact HB.out | apply below_alloc | apply pw_below_drewN | apply below_drew1) | exact HB.out)⟩

/-- THE ONE PURE STATEMENT of millstreamlaw01_OperBack: yours. -/
def millstreamlaw01_OperBack.Pure : Prop := ∀ (a0 : Int) (a1 : Int) (a2 : Int) (a3 : Int), (Lit.int .i64 a0).wf = true → (Lit.int .i64 a1).wf = true → (Lit.int .i64 a2).wf = true → (Lit.int .i64 a3).wf = true → ∃ k, millstreamlaw01_OperBack.f k a0 a1 a2 a3 = some true
theorem millstreamlaw01_OperBack.walk (P : millstreamlaw01_OperBack.Pure) (a0 : Int) (a1 : Int) (a2 : Int) (a3 : Int) (w : World) (w0 : (Lit.int .i64 a0).wf = true) (w1 : (Lit.int .i64 a1).wf = true) (w2 : (Lit.int .i64 a2).wf = true) (w3 : (Lit.int .i64 a3).wf = true) :
    Calls Try.prog 5 #[.int .i64 a0, .int .i64 a1, .int .i64 a2, .int .i64 a3] w fun e w' => e = .returned (.bool true) ∧ Below w.heap.size w w' := by
  obtain ⟨k, h⟩ := P a0 a1 a2 a3 w0 w1 w2 w3
  refine (millstreamlaw01_OperBack.calls k a0 a1 a2 a3 true w h).mono ?_
  rintro e w' ⟨rfl, hd⟩
  exact ⟨rfl, hd⟩

end Go.Proofs.Ytokcblafahiphaa.PA
