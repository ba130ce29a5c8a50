-- Laid by a program of this session over the kit's print; hand-proved functions stand among them. Not trusted: Lean checks it.
import Derived.Test.YtdfcioadccijfaaPAx0
import Derived.Test.YtdfcioadccijfaaPAx4
namespace Go.Proofs.Ytdfcioadccijfaa.PA
open Go.RowKit Go.Proofs.YtdfcioadccijfaaW.PrintWords Go.Proofs.YtdfcioadccijfaaW.PrintLast Go.Proofs.YtdfcioadccijfaaW.PrintMore
attribute [local go_sem] max2_int min2_int max_two min_two max_three min_three max_four min_four   -- for this text's walks alone
set_option linter.unusedVariables false
set_option linter.unusedSimpArgs false

/-! ### millstreamref06_Slot: function 19 -/
def millstreamref06_Slot.j0 : Nat → Int → Int → Int → Bool → Int → Int → Int → Int → Int → Int → Int → Int → Bool → Int → Int → Int → Option (Int)
 | 0, _, _, _, _, _, _, _, _, _, _, _, _, _, _, _, _ => none
 | k + 1, x1, x2, x3, x36, x157000, x157001, x157002, x157003, x157004, x157005, x157006, x157007, x157008, x157009, x157010, x157011 => if x36 = true then (some (-1)) else ((millstreamref06_block.f k x157000 x157001 x157002 x157003 x157004 x157005 x157006 x157007 x157008 x157009 x157010 x157011).bind fun t157 => ((millstreamref06_Nodes.f k x157000 x157001 x157002 x157003 x157004 x157005 x157006 x157007 x157008 x157009 x157010 x157011).bind fun t158 => (some (wrap64 ((wrap64 ((wrap64 ((wrap64 ((wrap64 (x1 * t157)) + 1)) + t158)) + (wrap64 ((wrap64 (x2 - 1)) * x157005)))) + x3)))))
def millstreamref06_Slot.f (k : Nat) (a0_0 : Int) (a0_1 : Int) (a0_2 : Int) (a0_3 : Int) (a0_4 : Int) (a0_5 : Int) (a0_6 : Int) (a0_7 : Int) (a0_8 : Bool) (a0_9 : Int) (a0_10 : Int) (a0_11 : Int) (a1 : Int) (a2 : Int) (a3 : Int) : Option (Int) := if a1 < 0 then (millstreamref06_Slot.j0 k a1 a2 a3 true a0_0 a0_1 a0_2 a0_3 a0_4 a0_5 a0_6 a0_7 a0_8 a0_9 a0_10 a0_11) else (if a1 ≥ a0_1 then (millstreamref06_Slot.j0 k a1 a2 a3 true a0_0 a0_1 a0_2 a0_3 a0_4 a0_5 a0_6 a0_7 a0_8 a0_9 a0_10 a0_11) else (if a2 < 1 then (millstreamref06_Slot.j0 k a1 a2 a3 true a0_0 a0_1 a0_2 a0_3 a0_4 a0_5 a0_6 a0_7 a0_8 a0_9 a0_10 a0_11) else (if a2 > a0_4 then (millstreamref06_Slot.j0 k a1 a2 a3 true a0_0 a0_1 a0_2 a0_3 a0_4 a0_5 a0_6 a0_7 a0_8 a0_9 a0_10 a0_11) else (if a3 < 0 then (millstreamref06_Slot.j0 k a1 a2 a3 true a0_0 a0_1 a0_2 a0_3 a0_4 a0_5 a0_6 a0_7 a0_8 a0_9 a0_10 a0_11) else (millstreamref06_Slot.j0 k a1 a2 a3 (decide (a3 ≥ a0_5)) a0_0 a0_1 a0_2 a0_3 a0_4 a0_5 a0_6 a0_7 a0_8 a0_9 a0_10 a0_11)))))
theorem millstreamref06_Slot.mono_l : ∀ k, (∀ y0 y1 y2 y3 y4 y5 y6 y7 y8 y9 y10 y11 y12 y13 y14 y15, LeO (millstreamref06_Slot.j0 k y0 y1 y2 y3 y4 y5 y6 y7 y8 y9 y10 y11 y12 y13 y14 y15) (millstreamref06_Slot.j0 (k + 1) y0 y1 y2 y3 y4 y5 y6 y7 y8 y9 y10 y11 y12 y13 y14 y15))
 | 0 => fun _ _ _ _ _ _ _ _ _ _ _ _ _ _ _ _ r h => by simp [millstreamref06_Slot.j0] at h
 | k + 1 => by
  have ih0 := millstreamref06_Slot.mono_l k
  ·intro y0 y1 y2 y3 y4 y5 y6 y7 y8 y9 y10 y11 y12 y13 y14 y15
   unfold millstreamref06_Slot.j0
   repeat' first
   | (with_reducible exact ih0 _ _ _ _ _ _ _ _ _ _ _ _ _ _ _ _)
   | (with_reducible exact millstreamref06_Nodes.mono _ _ _ _ _ _ _ _ _ _ _ _ _)
   | (with_reducible exact millstreamref06_block.mono _ _ _ _ _ _ _ _ _ _ _ _ _)
   | (with_reducible exact LeO.refl _)
   | (with_reducible exact LeO.none _)
   | (with_reducible refine LeO.ite ?_ ?_)
   | (with_reducible refine LeO.bind ?_ (fun _ => ?_))
   | exact ih0 _ _ _ _ _ _ _ _ _ _ _ _ _ _ _ _
   | exact millstreamref06_Nodes.mono _ _ _ _ _ _ _ _ _ _ _ _ _
   | exact millstreamref06_block.mono _ _ _ _ _ _ _ _ _ _ _ _ _
   | exact LeO.none _
   | refine LeO.ite ?_ ?_
   | refine LeO.bind ?_ (fun _ => ?_)
theorem millstreamref06_Slot.mono : ∀ a0 a1 a2 a3 a4 a5 a6 a7 a8 a9 a10 a11 a12 a13 a14 k, LeO (millstreamref06_Slot.f k a0 a1 a2 a3 a4 a5 a6 a7 a8 a9 a10 a11 a12 a13 a14) (millstreamref06_Slot.f (k + 1) a0 a1 a2 a3 a4 a5 a6 a7 a8 a9 a10 a11 a12 a13 a14) := by
 intro a0 a1 a2 a3 a4 a5 a6 a7 a8 a9 a10 a11 a12 a13 a14 k
 have ih0 := millstreamref06_Slot.mono_l k
 unfold millstreamref06_Slot.f
 repeat' first
   | (with_reducible exact ih0 _ _ _ _ _ _ _ _ _ _ _ _ _ _ _ _)
   | (with_reducible exact millstreamref06_Nodes.mono _ _ _ _ _ _ _ _ _ _ _ _ _)
   | (with_reducible exact millstreamref06_block.mono _ _ _ _ _ _ _ _ _ _ _ _ _)
   | (with_reducible exact LeO.refl _)
   | (with_reducible exact LeO.none _)
   | (with_reducible refine LeO.ite ?_ ?_)
   | (with_reducible refine LeO.bind ?_ (fun _ => ?_))
   | exact ih0 _ _ _ _ _ _ _ _ _ _ _ _ _ _ _ _
   | exact millstreamref06_Nodes.mono _ _ _ _ _ _ _ _ _ _ _ _ _
   | exact millstreamref06_block.mono _ _ _ _ _ _ _ _ _ _ _ _ _
   | exact LeO.none _
   | refine LeO.ite ?_ ?_
   | refine LeO.bind ?_ (fun _ => ?_)
def millstreamref06_Slot.T3 : Bool × List (List Nat × List Nat) := (true, [([], []), ([], []), ([1], [1]), ([0, 2], [0, 2]), ([3], [3]), ([], []), ([5, 2], [5]), ([4, 6], [4, 6]), ([], []), ([8], [8]), ([], []), ([10], [10]), ([9, 11], [9, 11]), ([7, 12], [7, 12]), ([], []), ([13, 14], [13, 14]), ([15, 6, 0, 1, 2, 3, 4, 5, 6, 7, 8, 9, 10, 11, 12, 13, 14, 15], [15])])
def millstreamref06_Slot.B3 : List Nat := [0, 0, 2, 7, 15, 0, 38, 127, 0, 256, 0, 1024, 3840, 8191, 0, 32767, 65535]
theorem millstreamref06_Slot.tab3 : rtab .any (opsOf Try.f19 3) = millstreamref06_Slot.T3 := by kernel_rfl
theorem millstreamref06_Slot.bits3 : waitsOk millstreamref06_Slot.T3.2 millstreamref06_Slot.B3 = true := by kernel_rfl
set_option maxHeartbeats 60000000 in
set_option maxRecDepth 100000 in
theorem millstreamref06_Slot.calls (k : Nat) (a0_0 : Int) (a0_1 : Int) (a0_2 : Int) (a0_3 : Int) (a0_4 : Int) (a0_5 : Int) (a0_6 : Int) (a0_7 : Int) (a0_8 : Bool) (a0_9 : Int) (a0_10 : Int) (a0_11 : Int) (a1 : Int) (a2 : Int) (a3 : Int) (r : Int) (w : World) (h : millstreamref06_Slot.f k a0_0 a0_1 a0_2 a0_3 a0_4 a0_5 a0_6 a0_7 a0_8 a0_9 a0_10 a0_11 a1 a2 a3 = some r) :
  Calls Try.prog 19 #[.agg #[.int .i64 a0_0, .int .i64 a0_1, .int .i64 a0_2, .int .i64 a0_3, .int .i64 a0_4, .int .i64 a0_5, .int .i64 a0_6, .int .i64 a0_7, .bool a0_8, .int .i64 a0_9, .int .i64 a0_10, .int .i64 a0_11], .int .i64 a1, .int .i64 a2, .int .i64 a3] w fun e w' => e = .returned (.int .i64 r) ∧ Below w.heap.size w w' := by
 have hu26 := Try.underlying26
 have HB := Aside0.mk (Below.refl w.heap.size w)
 have H : (if a1 < 0 then (millstreamref06_Slot.j0 k a1 a2 a3 true a0_0 a0_1 a0_2 a0_3 a0_4 a0_5 a0_6 a0_7 a0_8 a0_9 a0_10 a0_11) else (if a1 ≥ a0_1 then (millstreamref06_Slot.j0 k a1 a2 a3 true a0_0 a0_1 a0_2 a0_3 a0_4 a0_5 a0_6 a0_7 a0_8 a0_9 a0_10 a0_11) else (if a2 < 1 then (millstreamref06_Slot.j0 k a1 a2 a3 true a0_0 a0_1 a0_2 a0_3 a0_4 a0_5 a0_6 a0_7 a0_8 a0_9 a0_10 a0_11) else (if a2 > a0_4 then (millstreamref06_Slot.j0 k a1 a2 a3 true a0_0 a0_1 a0_2 a0_3 a0_4 a0_5 a0_6 a0_7 a0_8 a0_9 a0_10 a0_11) else (if a3 < 0 then (millstreamref06_Slot.j0 k a1 a2 a3 true a0_0 a0_1 a0_2 a0_3 a0_4 a0_5 a0_6 a0_7 a0_8 a0_9 a0_10 a0_11) else (millstreamref06_Slot.j0 k a1 a2 a3 (decide (a3 ≥ a0_5)) a0_0 a0_1 a0_2 a0_3 a0_4 a0_5 a0_6 a0_7 a0_8 a0_9 a0_10 a0_11)))))) = some r := h
 clear h
 have HC5 := Aside0.mk H
 clear H
 go_enter Try.func19, Try.ntmps19
 go_upto_region 1 with (first | ((with_reducible refine gate_dst (N := 4) rfl ?_); refine box_event ?hg (N := 4) ?hd (cs := #[.int .i64 a0_0, .int .i64 a0_1, .int .i64 a0_2, .int .i64 a0_3, .int .i64 a0_4, .int .i64 a0_5, .int .i64 a0_6, .int .i64 a0_7, .bool a0_8, .int .i64 a0_9, .int .i64 a0_10, .int .i64 a0_11]) (t := 26) ?hr ?_; (case hd => rfl); (case hg => rfl); (case hr => first | (go_simp; done) | (go_simp; rfl)); intro gb156 hg w6 hbox hb; have n0_ := Aside0.mk (below_step (by repeat (first | (with_reducible first | exact HB.out | apply below_alloc | apply pw_below_drewN | apply below_drew1) | exact HB.out)) hb); have n1_ := Aside0.mk (hbox); have n2_ := Aside0.mk ((by rw [hg]; exact (below_size (by repeat (first | (with_reducible first | exact HB.out | apply below_alloc | apply pw_below_drewN | apply below_drew1) | exact HB.out))) : w.heap.size ≤ gb156)); have n3_ := Aside0.mk ((by rw [hg]; exact (below_size (by repeat (first | (with_reducible first | exact HB.out | apply below_alloc | apply pw_below_drewN | apply below_drew1) | exact HB.out))) : w.heap.size ≤ gb156)); clear HB; have HB := n0_; have BK156 := n1_; have GW156 := n2_; have GE156 := n3_; clear n0_ n1_ n2_ n3_; clear hb hbox hg))
 (try simp only [Act.put, List.setIfInBounds_toArray, List.set_cons_zero, List.set_cons_succ])
 go_cut [36] (fun v36 wc => ∃ (kq : Nat) (x36_4 : Bool), v36 = .bool x36_4 ∧ Aside0 (millstreamref06_Slot.j0 kq a1 a2 a3 x36_4 a0_0 a0_1 a0_2 a0_3 a0_4 a0_5 a0_6 a0_7 a0_8 a0_9 a0_10 a0_11 = some r) ∧ Aside0 (kq ≤ k) ∧ Aside0 (wc.heap[gb156]? = some (.cells #[.int .i64 a0_0, .int .i64 a0_1, .int .i64 a0_2, .int .i64 a0_3, .int .i64 a0_4, .int .i64 a0_5, .int .i64 a0_6, .int .i64 a0_7, .bool a0_8, .int .i64 a0_9, .int .i64 a0_10, .int .i64 a0_11] 26 (0, 0))) ∧ Aside0 (Below w.heap.size w wc))
 case first =>
  have H := HC5.out
  clear HC5
  by_cases c7 : a1 < 0
  ·rw [if_pos c7] at H
   have c7b0 : decide (a1 < 0) = true := decide_eq_true c7
   clear c7
   (first | rw [c7b0] | (simp only [i64_w, i32_w]; rw [c7b0]) | skip)
   have H' := Aside0.mk H
   clear H
   go_wp2
   go_meet
   case rel => exact ⟨_, (true), (by first | rfl | (simp; done) | (simp [*]; done)), H', ⟨by first | omega | exact Nat.le_refl _⟩, ⟨by (with_reducible repeat first | refine blk_drewN ?_ _ | refine blk_drew ?_ | refine blk_alloc ?_ _); exact BK156.out⟩, ⟨by repeat (first | (with_reducible first | exact HB.out | apply below_alloc | apply pw_below_drewN | apply below_drew1 | refine below_set ?_ GE156.out) | exact HB.out)⟩⟩
  ·rw [if_neg c7] at H
   have c7b0 : decide (a1 < 0) = false := decide_eq_false c7
   clear c7
   (first | rw [c7b0] | (simp only [i64_w, i32_w]; rw [c7b0]) | skip)
   by_cases c8 : a1 ≥ a0_1
   ·rw [if_pos c8] at H
    have c8b0 : decide (a0_1 ≤ a1) = true := decide_eq_true c8
    clear c8
    have H' := Aside0.mk H
    clear H
    have hcz9_0 : w6.cell? ⟨gb156, 0, none⟩ = some (.int .i64 a0_0) := (blk_cell BK156.out 0).trans rfl
    have hcz9_1 : w6.cell? ⟨gb156, 1, none⟩ = some (.int .i64 a0_1) := (blk_cell BK156.out 1).trans rfl
    have hcz9_2 : w6.cell? ⟨gb156, 2, none⟩ = some (.int .i64 a0_2) := (blk_cell BK156.out 2).trans rfl
    have hcz9_3 : w6.cell? ⟨gb156, 3, none⟩ = some (.int .i64 a0_3) := (blk_cell BK156.out 3).trans rfl
    have hcz9_4 : w6.cell? ⟨gb156, 4, none⟩ = some (.int .i64 a0_4) := (blk_cell BK156.out 4).trans rfl
    have hcz9_5 : w6.cell? ⟨gb156, 5, none⟩ = some (.int .i64 a0_5) := (blk_cell BK156.out 5).trans rfl
    have hcz9_6 : w6.cell? ⟨gb156, 6, none⟩ = some (.int .i64 a0_6) := (blk_cell BK156.out 6).trans rfl
    have hcz9_7 : w6.cell? ⟨gb156, 7, none⟩ = some (.int .i64 a0_7) := (blk_cell BK156.out 7).trans rfl
    have hcz9_8 : w6.cell? ⟨gb156, 8, none⟩ = some (.bool a0_8) := (blk_cell BK156.out 8).trans rfl
    have hcz9_9 : w6.cell? ⟨gb156, 9, none⟩ = some (.int .i64 a0_9) := (blk_cell BK156.out 9).trans rfl
    have hcz9_10 : w6.cell? ⟨gb156, 10, none⟩ = some (.int .i64 a0_10) := (blk_cell BK156.out 10).trans rfl
    have hcz9_11 : w6.cell? ⟨gb156, 11, none⟩ = some (.int .i64 a0_11) := (blk_cell BK156.out 11).trans rfl
    have hfz9_0 := blk_frozen BK156.out 0
    have hfz9_1 := blk_frozen BK156.out 1
    have hfz9_2 := blk_frozen BK156.out 2
    have hfz9_3 := blk_frozen BK156.out 3
    have hfz9_4 := blk_frozen BK156.out 4
    have hfz9_5 := blk_frozen BK156.out 5
    have hfz9_6 := blk_frozen BK156.out 6
    have hfz9_7 := blk_frozen BK156.out 7
    have hfz9_8 := blk_frozen BK156.out 8
    have hfz9_9 := blk_frozen BK156.out 9
    have hfz9_10 := blk_frozen BK156.out 10
    have hfz9_11 := blk_frozen BK156.out 11
    go_wp2
    go_meet
    case rel => exact ⟨_, (true), (by first | rfl | (simp; done) | (simp [*]; done)), H', ⟨by first | omega | exact Nat.le_refl _⟩, ⟨by (with_reducible repeat first | refine blk_drewN ?_ _ | refine blk_drew ?_ | refine blk_alloc ?_ _); exact BK156.out⟩, ⟨by repeat (first | (with_reducible first | exact HB.out | apply below_alloc | apply pw_below_drewN | apply below_drew1 | refine below_set ?_ GE156.out) | exact HB.out)⟩⟩
   ·rw [if_neg c8] at H
    have c8b0 : decide (a0_1 ≤ a1) = false := decide_eq_false c8
    clear c8
    by_cases c10 : a2 < 1
    ·rw [if_pos c10] at H
     have c10b0 : decide (a2 < 1) = true := decide_eq_true c10
     clear c10
     have H' := Aside0.mk H
     clear H
     have hcz11_0 : w6.cell? ⟨gb156, 0, none⟩ = some (.int .i64 a0_0) := (blk_cell BK156.out 0).trans rfl
     have hcz11_1 : w6.cell? ⟨gb156, 1, none⟩ = some (.int .i64 a0_1) := (blk_cell BK156.out 1).trans rfl
     have hcz11_2 : w6.cell? ⟨gb156, 2, none⟩ = some (.int .i64 a0_2) := (blk_cell BK156.out 2).trans rfl
     have hcz11_3 : w6.cell? ⟨gb156, 3, none⟩ = some (.int .i64 a0_3) := (blk_cell BK156.out 3).trans rfl
     have hcz11_4 : w6.cell? ⟨gb156, 4, none⟩ = some (.int .i64 a0_4) := (blk_cell BK156.out 4).trans rfl
     have hcz11_5 : w6.cell? ⟨gb156, 5, none⟩ = some (.int .i64 a0_5) := (blk_cell BK156.out 5).trans rfl
     have hcz11_6 : w6.cell? ⟨gb156, 6, none⟩ = some (.int .i64 a0_6) := (blk_cell BK156.out 6).trans rfl
     have hcz11_7 : w6.cell? ⟨gb156, 7, none⟩ = some (.int .i64 a0_7) := (blk_cell BK156.out 7).trans rfl
     have hcz11_8 : w6.cell? ⟨gb156, 8, none⟩ = some (.bool a0_8) := (blk_cell BK156.out 8).trans rfl
     have hcz11_9 : w6.cell? ⟨gb156, 9, none⟩ = some (.int .i64 a0_9) := (blk_cell BK156.out 9).trans rfl
     have hcz11_10 : w6.cell? ⟨gb156, 10, none⟩ = some (.int .i64 a0_10) := (blk_cell BK156.out 10).trans rfl
     have hcz11_11 : w6.cell? ⟨gb156, 11, none⟩ = some (.int .i64 a0_11) := (blk_cell BK156.out 11).trans rfl
     have hfz11_0 := blk_frozen BK156.out 0
     have hfz11_1 := blk_frozen BK156.out 1
     have hfz11_2 := blk_frozen BK156.out 2
     have hfz11_3 := blk_frozen BK156.out 3
     have hfz11_4 := blk_frozen BK156.out 4
     have hfz11_5 := blk_frozen BK156.out 5
     have hfz11_6 := blk_frozen BK156.out 6
     have hfz11_7 := blk_frozen BK156.out 7
     have hfz11_8 := blk_frozen BK156.out 8
     have hfz11_9 := blk_frozen BK156.out 9
     have hfz11_10 := blk_frozen BK156.out 10
     have hfz11_11 := blk_frozen BK156.out 11
     go_wp2
     go_meet
     case rel => exact ⟨_, (true), (by first | rfl | (simp; done) | (simp [*]; done)), H', ⟨by first | omega | exact Nat.le_refl _⟩, ⟨by (with_reducible repeat first | refine blk_drewN ?_ _ | refine blk_drew ?_ | refine blk_alloc ?_ _); exact BK156.out⟩, ⟨by repeat (first | (with_reducible first | exact HB.out | apply below_alloc | apply pw_below_drewN | apply below_drew1 | refine below_set ?_ GE156.out) | exact HB.out)⟩⟩
    ·rw [if_neg c10] at H
     have c10b0 : decide (a2 < 1) = false := decide_eq_false c10
     clear c10
     by_cases c12 : a2 > a0_4
     ·rw [if_pos c12] at H
      have c12b0 : decide (a0_4 < a2) = true := decide_eq_true c12
      clear c12
      have H' := Aside0.mk H
      clear H
      have hcz13_0 : w6.cell? ⟨gb156, 0, none⟩ = some (.int .i64 a0_0) := (blk_cell BK156.out 0).trans rfl
      have hcz13_1 : w6.cell? ⟨gb156, 1, none⟩ = some (.int .i64 a0_1) := (blk_cell BK156.out 1).trans rfl
      have hcz13_2 : w6.cell? ⟨gb156, 2, none⟩ = some (.int .i64 a0_2) := (blk_cell BK156.out 2).trans rfl
      have hcz13_3 : w6.cell? ⟨gb156, 3, none⟩ = some (.int .i64 a0_3) := (blk_cell BK156.out 3).trans rfl
      have hcz13_4 : w6.cell? ⟨gb156, 4, none⟩ = some (.int .i64 a0_4) := (blk_cell BK156.out 4).trans rfl
      have hcz13_5 : w6.cell? ⟨gb156, 5, none⟩ = some (.int .i64 a0_5) := (blk_cell BK156.out 5).trans rfl
      have hcz13_6 : w6.cell? ⟨gb156, 6, none⟩ = some (.int .i64 a0_6) := (blk_cell BK156.out 6).trans rfl
      have hcz13_7 : w6.cell? ⟨gb156, 7, none⟩ = some (.int .i64 a0_7) := (blk_cell BK156.out 7).trans rfl
      have hcz13_8 : w6.cell? ⟨gb156, 8, none⟩ = some (.bool a0_8) := (blk_cell BK156.out 8).trans rfl
      have hcz13_9 : w6.cell? ⟨gb156, 9, none⟩ = some (.int .i64 a0_9) := (blk_cell BK156.out 9).trans rfl
      have hcz13_10 : w6.cell? ⟨gb156, 10, none⟩ = some (.int .i64 a0_10) := (blk_cell BK156.out 10).trans rfl
      have hcz13_11 : w6.cell? ⟨gb156, 11, none⟩ = some (.int .i64 a0_11) := (blk_cell BK156.out 11).trans rfl
      have hfz13_0 := blk_frozen BK156.out 0
      have hfz13_1 := blk_frozen BK156.out 1
      have hfz13_2 := blk_frozen BK156.out 2
      have hfz13_3 := blk_frozen BK156.out 3
      have hfz13_4 := blk_frozen BK156.out 4
      have hfz13_5 := blk_frozen BK156.out 5
      have hfz13_6 := blk_frozen BK156.out 6
      have hfz13_7 := blk_frozen BK156.out 7
      have hfz13_8 := blk_frozen BK156.out 8
      have hfz13_9 := blk_frozen BK156.out 9
      have hfz13_10 := blk_frozen BK156.out 10
      have hfz13_11 := blk_frozen BK156.out 11
      go_wp2
      go_meet
      case rel => exact ⟨_, (true), (by first | rfl | (simp; done) | (simp [*]; done)), H', ⟨by first | omega | exact Nat.le_refl _⟩, ⟨by (with_reducible repeat first | refine blk_drewN ?_ _ | refine blk_drew ?_ | refine blk_alloc ?_ _); exact BK156.out⟩, ⟨by repeat (first | (with_reducible first | exact HB.out | apply below_alloc | apply pw_below_drewN | apply below_drew1 | refine below_set ?_ GE156.out) | exact HB.out)⟩⟩
     ·rw [if_neg c12] at H
      have c12b0 : decide (a0_4 < a2) = false := decide_eq_false c12
      clear c12
      by_cases c14 : a3 < 0
      ·rw [if_pos c14] at H
       have c14b0 : decide (a3 < 0) = true := decide_eq_true c14
       clear c14
       have H' := Aside0.mk H
       clear H
       have hcz15_0 : w6.cell? ⟨gb156, 0, none⟩ = some (.int .i64 a0_0) := (blk_cell BK156.out 0).trans rfl
       have hcz15_1 : w6.cell? ⟨gb156, 1, none⟩ = some (.int .i64 a0_1) := (blk_cell BK156.out 1).trans rfl
       have hcz15_2 : w6.cell? ⟨gb156, 2, none⟩ = some (.int .i64 a0_2) := (blk_cell BK156.out 2).trans rfl
       have hcz15_3 : w6.cell? ⟨gb156, 3, none⟩ = some (.int .i64 a0_3) := (blk_cell BK156.out 3).trans rfl
       have hcz15_4 : w6.cell? ⟨gb156, 4, none⟩ = some (.int .i64 a0_4) := (blk_cell BK156.out 4).trans rfl
       have hcz15_5 : w6.cell? ⟨gb156, 5, none⟩ = some (.int .i64 a0_5) := (blk_cell BK156.out 5).trans rfl
       have hcz15_6 : w6.cell? ⟨gb156, 6, none⟩ = some (.int .i64 a0_6) := (blk_cell BK156.out 6).trans rfl
       have hcz15_7 : w6.cell? ⟨gb156, 7, none⟩ = some (.int .i64 a0_7) := (blk_cell BK156.out 7).trans rfl
       have hcz15_8 : w6.cell? ⟨gb156, 8, none⟩ = some (.bool a0_8) := (blk_cell BK156.out 8).trans rfl
       have hcz15_9 : w6.cell? ⟨gb156, 9, none⟩ = some (.int .i64 a0_9) := (blk_cell BK156.out 9).trans rfl
       have hcz15_10 : w6.cell? ⟨gb156, 10, none⟩ = some (.int .i64 a0_10) := (blk_cell BK156.out 10).trans rfl
       have hcz15_11 : w6.cell? ⟨gb156, 11, none⟩ = some (.int .i64 a0_11) := (blk_cell BK156.out 11).trans rfl
       have hfz15_0 := blk_frozen BK156.out 0
       have hfz15_1 := blk_frozen BK156.out 1
       have hfz15_2 := blk_frozen BK156.out 2
       have hfz15_3 := blk_frozen BK156.out 3
       have hfz15_4 := blk_frozen BK156.out 4
       have hfz15_5 := blk_frozen BK156.out 5
       have hfz15_6 := blk_frozen BK156.out 6
       have hfz15_7 := blk_frozen BK156.out 7
       have hfz15_8 := blk_frozen BK156.out 8
       have hfz15_9 := blk_frozen BK156.out 9
       have hfz15_10 := blk_frozen BK156.out 10
       have hfz15_11 := blk_frozen BK156.out 11
       go_wp2
       go_meet
       case rel => exact ⟨_, (true), (by first | rfl | (simp; done) | (simp [*]; done)), H', ⟨by first | omega | exact Nat.le_refl _⟩, ⟨by (with_reducible repeat first | refine blk_drewN ?_ _ | refine blk_drew ?_ | refine blk_alloc ?_ _); exact BK156.out⟩, ⟨by repeat (first | (with_reducible first | exact HB.out | apply below_alloc | apply pw_below_drewN | apply below_drew1 | refine below_set ?_ GE156.out) | exact HB.out)⟩⟩
      ·rw [if_neg c14] at H
       have c14b0 : decide (a3 < 0) = false := decide_eq_false c14
       clear c14
       have H' := Aside0.mk H
       clear H
       have hcz16_0 : w6.cell? ⟨gb156, 0, none⟩ = some (.int .i64 a0_0) := (blk_cell BK156.out 0).trans rfl
       have hcz16_1 : w6.cell? ⟨gb156, 1, none⟩ = some (.int .i64 a0_1) := (blk_cell BK156.out 1).trans rfl
       have hcz16_2 : w6.cell? ⟨gb156, 2, none⟩ = some (.int .i64 a0_2) := (blk_cell BK156.out 2).trans rfl
       have hcz16_3 : w6.cell? ⟨gb156, 3, none⟩ = some (.int .i64 a0_3) := (blk_cell BK156.out 3).trans rfl
       have hcz16_4 : w6.cell? ⟨gb156, 4, none⟩ = some (.int .i64 a0_4) := (blk_cell BK156.out 4).trans rfl
       have hcz16_5 : w6.cell? ⟨gb156, 5, none⟩ = some (.int .i64 a0_5) := (blk_cell BK156.out 5).trans rfl
       have hcz16_6 : w6.cell? ⟨gb156, 6, none⟩ = some (.int .i64 a0_6) := (blk_cell BK156.out 6).trans rfl
       have hcz16_7 : w6.cell? ⟨gb156, 7, none⟩ = some (.int .i64 a0_7) := (blk_cell BK156.out 7).trans rfl
       have hcz16_8 : w6.cell? ⟨gb156, 8, none⟩ = some (.bool a0_8) := (blk_cell BK156.out 8).trans rfl
       have hcz16_9 : w6.cell? ⟨gb156, 9, none⟩ = some (.int .i64 a0_9) := (blk_cell BK156.out 9).trans rfl
       have hcz16_10 : w6.cell? ⟨gb156, 10, none⟩ = some (.int .i64 a0_10) := (blk_cell BK156.out 10).trans rfl
       have hcz16_11 : w6.cell? ⟨gb156, 11, none⟩ = some (.int .i64 a0_11) := (blk_cell BK156.out 11).trans rfl
       have hfz16_0 := blk_frozen BK156.out 0
       have hfz16_1 := blk_frozen BK156.out 1
       have hfz16_2 := blk_frozen BK156.out 2
       have hfz16_3 := blk_frozen BK156.out 3
       have hfz16_4 := blk_frozen BK156.out 4
       have hfz16_5 := blk_frozen BK156.out 5
       have hfz16_6 := blk_frozen BK156.out 6
       have hfz16_7 := blk_frozen BK156.out 7
       have hfz16_8 := blk_frozen BK156.out 8
       have hfz16_9 := blk_frozen BK156.out 9
       have hfz16_10 := blk_frozen BK156.out 10
       have hfz16_11 := blk_frozen BK156.out 11
       go_wp2
       go_meet
       case rel => exact ⟨_, (decide (a3 ≥ a0_5)), (by first | rfl | (simp; done) | (simp [*]; done)), H', ⟨by first | omega | exact Nat.le_refl _⟩, ⟨by (with_reducible repeat first | refine blk_drewN ?_ _ | refine blk_drew ?_ | refine blk_alloc ?_ _); exact BK156.out⟩, ⟨by repeat (first | (with_reducible first | exact HB.out | apply below_alloc | apply pw_below_drewN | apply below_drew1 | refine below_set ?_ GE156.out) | exact HB.out)⟩⟩
 case rest =>
  clear HC5
  try clear c1
  try clear p2
  try clear c7
  try clear c7b0
  try clear c8
  try clear c8b0
  try clear c10
  try clear c10b0
  try clear c12
  try clear c12b0
  try clear c14
  try clear c14b0
  try clear hcz11_0
  try clear hcz11_1
  try clear hcz11_10
  try clear hcz11_11
  try clear hcz11_2
  try clear hcz11_3
  try clear hcz11_4
  try clear hcz11_5
  try clear hcz11_6
  try clear hcz11_7
  try clear hcz11_8
  try clear hcz11_9
  try clear hcz13_0
  try clear hcz13_1
  try clear hcz13_10
  try clear hcz13_11
  try clear hcz13_2
  try clear hcz13_3
  try clear hcz13_4
  try clear hcz13_5
  try clear hcz13_6
  try clear hcz13_7
  try clear hcz13_8
  try clear hcz13_9
  try clear hcz15_0
  try clear hcz15_1
  try clear hcz15_10
  try clear hcz15_11
  try clear hcz15_2
  try clear hcz15_3
  try clear hcz15_4
  try clear hcz15_5
  try clear hcz15_6
  try clear hcz15_7
  try clear hcz15_8
  try clear hcz15_9
  try clear hcz16_0
  try clear hcz16_1
  try clear hcz16_10
  try clear hcz16_11
  try clear hcz16_2
  try clear hcz16_3
  try clear hcz16_4
  try clear hcz16_5
  try clear hcz16_6
  try clear hcz16_7
  try clear hcz16_8
  try clear hcz16_9
  try clear hcz9_0
  try clear hcz9_1
  try clear hcz9_10
  try clear hcz9_11
  try clear hcz9_2
  try clear hcz9_3
  try clear hcz9_4
  try clear hcz9_5
  try clear hcz9_6
  try clear hcz9_7
  try clear hcz9_8
  try clear hcz9_9
  try clear hfz11_0
  try clear hfz11_1
  try clear hfz11_10
  try clear hfz11_11
  try clear hfz11_2
  try clear hfz11_3
  try clear hfz11_4
  try clear hfz11_5
  try clear hfz11_6
  try clear hfz11_7
  try clear hfz11_8
  try clear hfz11_9
  try clear hfz13_0
  try clear hfz13_1
  try clear hfz13_10
  try clear hfz13_11
  try clear hfz13_2
  try clear hfz13_3
  try clear hfz13_4
  try clear hfz13_5
  try clear hfz13_6
  try clear hfz13_7
  try clear hfz13_8
  try clear hfz13_9
  try clear hfz15_0
  try clear hfz15_1
  try clear hfz15_10
  try clear hfz15_11
  try clear hfz15_2
  try clear hfz15_3
  try clear hfz15_4
  try clear hfz15_5
  try clear hfz15_6
  try clear hfz15_7
  try clear hfz15_8
  try clear hfz15_9
  try clear hfz16_0
  try clear hfz16_1
  try clear hfz16_10
  try clear hfz16_11
  try clear hfz16_2
  try clear hfz16_3
  try clear hfz16_4
  try clear hfz16_5
  try clear hfz16_6
  try clear hfz16_7
  try clear hfz16_8
  try clear hfz16_9
  try clear hfz9_0
  try clear hfz9_1
  try clear hfz9_10
  try clear hfz9_11
  try clear hfz9_2
  try clear hfz9_3
  try clear hfz9_4
  try clear hfz9_5
  try clear hfz9_6
  try clear hfz9_7
  try clear hfz9_8
  try clear hfz9_9
  obtain ⟨kq, x36_4, rfl, HA, HJ4, BK156, HB⟩ := hcut
  cases kq with
  | zero => exact absurd HA.out (by simp [millstreamref06_Slot.j0])
  | succ kj4 =>
   have H := HA.out
   clear HA
   simp only [millstreamref06_Slot.j0] at H
   by_cases c17 : x36_4 = true
   ·subst c17
    have H1 : (some (-1)) = some r := by rw [if_pos rfl] at H; exact H
    clear H
    have H := H1
    clear H1
    obtain rfl := Option.some.inj H
    go_wp2
    go_ret
    exact ⟨by first | rfl | (simp [errW_none, errW_some] <;> rfl) | (simp [*, errW_none, errW_some] <;> rfl), by repeat (first | (with_reducible first | exact HB.out | apply below_alloc | apply pw_below_drewN | apply below_drew1 | refine below_set ?_ GE156.out) | exact HB.out)⟩
   ·replace c17 := Bool.eq_false_iff.mpr c17
    subst c17
    have H1 : ((millstreamref06_block.f kj4 a0_0 a0_1 a0_2 a0_3 a0_4 a0_5 a0_6 a0_7 a0_8 a0_9 a0_10 a0_11).bind fun t157 => ((millstreamref06_Nodes.f kj4 a0_0 a0_1 a0_2 a0_3 a0_4 a0_5 a0_6 a0_7 a0_8 a0_9 a0_10 a0_11).bind fun t158 => (some (wrap64 ((wrap64 ((wrap64 ((wrap64 ((wrap64 (a1 * t157)) + 1)) + t158)) + (wrap64 ((wrap64 (a2 - 1)) * a0_5)))) + a3))))) = some r := by rw [if_neg (show ¬ (false = true) by decide)] at H; exact H
    clear H
    have H := H1
    clear H1
    replace H := Option.bind_eq_some_iff.mp H
    obtain ⟨t157, A180, H⟩ := H
    replace H : ((millstreamref06_Nodes.f kj4 a0_0 a0_1 a0_2 a0_3 a0_4 a0_5 a0_6 a0_7 a0_8 a0_9 a0_10 a0_11).bind fun t158 => (some (wrap64 ((wrap64 ((wrap64 ((wrap64 ((wrap64 (a1 * t157)) + 1)) + t158)) + (wrap64 ((wrap64 (a2 - 1)) * a0_5)))) + a3)))) = some r := H
    have A18 := Aside0.mk A180
    clear A180
    replace H := Option.bind_eq_some_iff.mp H
    obtain ⟨t158, A190, H⟩ := H
    replace H : (some (wrap64 ((wrap64 ((wrap64 ((wrap64 ((wrap64 (a1 * t157)) + 1)) + t158)) + (wrap64 ((wrap64 (a2 - 1)) * a0_5)))) + a3))) = some r := H
    have A19 := Aside0.mk A190
    clear A190
    obtain rfl := Option.some.inj H
    try go_wp2
    have n0_ := Aside0.mk (blk_drew BK156.out)
    have n1_ := Aside0.mk (below_drew1 HB.out)
    clear BK156
    clear HB
    have BK156 := n0_
    have HB := n1_
    clear n0_ n1_
    refine start_ (n := 17) (S := fun w' => w'.cell? ⟨gb156, 0, none⟩ = some (.int .i64 a0_0) ∧ w'.cell? ⟨gb156, 1, none⟩ = some (.int .i64 a0_1) ∧ w'.cell? ⟨gb156, 2, none⟩ = some (.int .i64 a0_2) ∧ w'.cell? ⟨gb156, 3, none⟩ = some (.int .i64 a0_3) ∧ w'.cell? ⟨gb156, 4, none⟩ = some (.int .i64 a0_4) ∧ w'.cell? ⟨gb156, 5, none⟩ = some (.int .i64 a0_5) ∧ w'.cell? ⟨gb156, 6, none⟩ = some (.int .i64 a0_6) ∧ w'.cell? ⟨gb156, 7, none⟩ = some (.int .i64 a0_7) ∧ w'.cell? ⟨gb156, 8, none⟩ = some (.bool a0_8) ∧ w'.cell? ⟨gb156, 9, none⟩ = some (.int .i64 a0_9) ∧ w'.cell? ⟨gb156, 10, none⟩ = some (.int .i64 a0_10) ∧ w'.cell? ⟨gb156, 11, none⟩ = some (.int .i64 a0_11)) (ds := []) #[false, false, false, false, false, false, false, false, false, false, false, false, false, false, false, false, false] (by kernel_rfl) rfl rfl ⟨(blk_cell BK156.out 0).trans rfl, (blk_cell BK156.out 1).trans rfl, (blk_cell BK156.out 2).trans rfl, (blk_cell BK156.out 3).trans rfl, (blk_cell BK156.out 4).trans rfl, (blk_cell BK156.out 5).trans rfl, (blk_cell BK156.out 6).trans rfl, (blk_cell BK156.out 7).trans rfl, (blk_cell BK156.out 8).trans rfl, (blk_cell BK156.out 9).trans rfl, (blk_cell BK156.out 10).trans rfl, (blk_cell BK156.out 11).trans rfl⟩ (fun hHeld => ?_); refine with_tabW millstreamref06_Slot.tab3 millstreamref06_Slot.bits3 (fun HT_ HW_ => ?_)
    generalize wc.drew = w20 at BK156 HB hHeld ⊢
    refine pure_ (i := 0) (N := some 37) (v := ?_) (a' := ?_) #[true, false, false, false, false, false, false, false, false, false, false, false, false, false, false, false, false] rfl rfl (any_of HT_.out (by kernel_rfl)) (fun _ _ _ h => h) (Or.inl ⟨by rfl, ?_⟩) ?_ ?_
    rotate_left
    ·intro w'
     go_simp
     with_reducible rfl
    rotate_left
    ·simp only [Act.put, List.setIfInBounds_toArray, List.set_cons_zero, List.set_cons_succ, i64_w, i32_w]
     rfl
    refine pure_ (i := 8) (N := some 45) (v := ?_) (a' := ?_) #[true, false, false, false, false, false, false, false, true, false, false, false, false, false, false, false, false] rfl rfl (any_of HT_.out (by kernel_rfl)) (fun _ _ _ h => h) (Or.inl ⟨by rfl, ?_⟩) ?_ ?_
    rotate_left
    ·intro w'
     go_simp
     with_reducible rfl
    rotate_left
    ·simp only [Act.put, List.setIfInBounds_toArray, List.set_cons_zero, List.set_cons_succ, i64_w, i32_w]
     rfl
    refine pure_ (i := 9) (N := some 46) (v := ?_) (a' := ?_) #[true, false, false, false, false, false, false, false, true, true, false, false, false, false, false, false, false] rfl rfl (any_of HT_.out (by kernel_rfl)) (fun _ _ _ h => h) (Or.inl ⟨by rfl, ?_⟩) ?_ ?_
    rotate_left
    ·intro w'
     go_simp
     with_reducible rfl
    rotate_left
    ·simp only [Act.put, List.setIfInBounds_toArray, List.set_cons_zero, List.set_cons_succ, i64_w, i32_w]
     rfl
    refine pure_ (i := 10) (N := some 47) (v := ?_) (a' := ?_) #[true, false, false, false, false, false, false, false, true, true, true, false, false, false, false, false, false] rfl rfl (any_of HT_.out (by kernel_rfl)) (fun _ _ _ h => h) (Or.inl ⟨by rfl, ?_⟩) ?_ ?_
    rotate_left
    ·intro w'
     go_simp
     with_reducible rfl
    rotate_left
    ·simp only [Act.put, List.setIfInBounds_toArray, List.set_cons_zero, List.set_cons_succ, i64_w, i32_w]
     rfl
    refine pure_ (i := 14) (N := some 51) (v := ?_) (a' := ?_) #[true, false, false, false, false, false, false, false, true, true, true, false, false, false, true, false, false] rfl rfl (any_of HT_.out (by kernel_rfl)) (fun _ _ _ h => h) (Or.inl ⟨by rfl, ?_⟩) ?_ ?_
    rotate_left
    ·intro w'
     go_simp
     with_reducible rfl
    rotate_left
    ·simp only [Act.put, List.setIfInBounds_toArray, List.set_cons_zero, List.set_cons_succ, i64_w, i32_w]
     rfl
    refine take_ (i := 1) (N := some 38) (v := ?_) (a' := ?_) #[true, true, false, false, false, false, false, false, true, true, true, false, false, false, true, false, false] rfl rfl (take_ofW HT_.out HW_.out (by kernel_rfl)) (fun _ _ _ h => h) (Or.inl ⟨by rfl, ?_⟩) hHeld ?_ ?_
    rotate_left
    ·rintro w' ⟨s0, s1, s2, s3, s4, s5, s6, s7, s8, s9, s10, s11⟩
     go_simp
     with_reducible rfl
    rotate_left
    ·simp only [Act.put, List.setIfInBounds_toArray, List.set_cons_zero, List.set_cons_succ, i64_w, i32_w]
     rfl
    refine take_ (i := 5) (N := some 42) (v := ?_) (a' := ?_) #[true, true, false, false, false, true, false, false, true, true, true, false, false, false, true, false, false] rfl rfl (take_ofW HT_.out HW_.out (by kernel_rfl)) (fun _ _ _ h => h) (Or.inl ⟨by rfl, ?_⟩) hHeld ?_ ?_
    rotate_left
    ·rintro w' ⟨s0, s1, s2, s3, s4, s5, s6, s7, s8, s9, s10, s11⟩
     go_simp
     with_reducible rfl
    rotate_left
    ·simp only [Act.put, List.setIfInBounds_toArray, List.set_cons_zero, List.set_cons_succ, i64_w, i32_w]
     rfl
    refine take_ (i := 11) (N := some 48) (v := ?_) (a' := ?_) #[true, true, false, false, false, true, false, false, true, true, true, true, false, false, true, false, false] rfl rfl (take_ofW HT_.out HW_.out (by kernel_rfl)) (fun _ _ _ h => h) (Or.inl ⟨by rfl, ?_⟩) hHeld ?_ ?_
    rotate_left
    ·rintro w' ⟨s0, s1, s2, s3, s4, s5, s6, s7, s8, s9, s10, s11⟩
     go_simp
     with_reducible rfl
    rotate_left
    ·simp only [Act.put, List.setIfInBounds_toArray, List.set_cons_zero, List.set_cons_succ, i64_w, i32_w]
     rfl
    refine pure_ (i := 12) (N := some 49) (v := ?_) (a' := ?_) #[true, true, false, false, false, true, false, false, true, true, true, true, true, false, true, false, false] rfl rfl (any_of HT_.out (by kernel_rfl)) (fun _ _ _ h => h) (Or.inl ⟨by rfl, ?_⟩) ?_ ?_
    rotate_left
    ·intro w'
     go_simp
     with_reducible rfl
    rotate_left
    ·simp only [Act.put, List.setIfInBounds_toArray, List.set_cons_zero, List.set_cons_succ, i64_w, i32_w]
     rfl
    refine one_ (i := 2) (N := some 39) #[true, true, true, false, false, true, false, false, true, true, true, true, true, false, true, false, false] rfl rfl (one_of HT_.out (by kernel_rfl)) (by decide) (fun K hK => ?_)
    refine goes_ Try.func30 (by kernel_rfl) rfl #[.agg #[.int .i64 a0_0, .int .i64 a0_1, .int .i64 a0_2, .int .i64 a0_3, .int .i64 a0_4, .int .i64 a0_5, .int .i64 a0_6, .int .i64 a0_7, .bool a0_8, .int .i64 a0_9, .int .i64 a0_10, .int .i64 a0_11]] (by rfl) rfl rfl (by (try simp only [List.map_toArray, List.map_cons, List.map_nil]); first | done | rfl | (simp only [List.length_drop, List.length_take]; rfl)) ?_
    with_reducible refine (millstreamref06_block.calls kj4 a0_0 a0_1 a0_2 a0_3 a0_4 a0_5 a0_6 a0_7 a0_8 a0_9 a0_10 a0_11 t157 _ A18.out).mono ?_
    rintro e w21 ⟨rfl, hb⟩
    refine ⟨_, rfl, ?_⟩
    have n0_ := Aside0.mk (blk_below (g := gb156) (o := .cells #[.int .i64 a0_0, .int .i64 a0_1, .int .i64 a0_2, .int .i64 a0_3, .int .i64 a0_4, .int .i64 a0_5, .int .i64 a0_6, .int .i64 a0_7, .bool a0_8, .int .i64 a0_9, .int .i64 a0_10, .int .i64 a0_11] 26 (0, 0)) (by (with_reducible repeat first | refine blk_drewN ?_ _ | refine blk_drew ?_ | refine blk_alloc ?_ _); exact BK156.out) hb)
    have n1_ := Aside0.mk (below_step (by repeat (first | (with_reducible first | exact HB.out | apply below_alloc | apply pw_below_drewN | apply below_drew1 | refine below_set ?_ GE156.out) | exact HB.out)) hb)
    clear BK156
    clear HB
    have BK156 := n0_
    have HB := n1_
    clear n0_ n1_
    (try clear hb)
    (try clear hb2)
    (try clear hk)
    (try clear hi)
    refine hK.out _ _ ⟨(blk_cell BK156.out 0).trans rfl, (blk_cell BK156.out 1).trans rfl, (blk_cell BK156.out 2).trans rfl, (blk_cell BK156.out 3).trans rfl, (blk_cell BK156.out 4).trans rfl, (blk_cell BK156.out 5).trans rfl, (blk_cell BK156.out 6).trans rfl, (blk_cell BK156.out 7).trans rfl, (blk_cell BK156.out 8).trans rfl, (blk_cell BK156.out 9).trans rfl, (blk_cell BK156.out 10).trans rfl, (blk_cell BK156.out 11).trans rfl⟩ (fun hHeld => ?_)
    clear hK K
    refine norm_ (a' := ?_) ?_ ?_
    rotate_left
    ·show Act.put _ (some 39) _ = _
     simp only [Act.put, List.setIfInBounds_toArray, List.set_cons_zero, List.set_cons_succ, i64_w, i32_w]
     rfl
    refine pure_ (i := 3) (N := some 40) (v := ?_) (a' := ?_) #[true, true, true, true, false, true, false, false, true, true, true, true, true, false, true, false, false] rfl rfl (any_of HT_.out (by kernel_rfl)) (fun _ _ _ h => h) (Or.inl ⟨by rfl, ?_⟩) ?_ ?_
    rotate_left
    ·intro w'
     go_simp
     with_reducible rfl
    rotate_left
    ·simp only [Act.put, List.setIfInBounds_toArray, List.set_cons_zero, List.set_cons_succ, i64_w, i32_w]
     rfl
    refine pure_ (i := 4) (N := some 41) (v := ?_) (a' := ?_) #[true, true, true, true, true, true, false, false, true, true, true, true, true, false, true, false, false] rfl rfl (any_of HT_.out (by kernel_rfl)) (fun _ _ _ h => h) (Or.inl ⟨by rfl, ?_⟩) ?_ ?_
    rotate_left
    ·intro w'
     go_simp
     with_reducible rfl
    rotate_left
    ·simp only [Act.put, List.setIfInBounds_toArray, List.set_cons_zero, List.set_cons_succ, i64_w, i32_w]
     rfl
    refine one_ (i := 6) (N := some 43) #[true, true, true, true, true, true, true, false, true, true, true, true, true, false, true, false, false] rfl rfl (one_of HT_.out (by kernel_rfl)) (by decide) (fun K hK => ?_)
    refine goes_ Try.func11 (by kernel_rfl) rfl #[.agg #[.int .i64 a0_0, .int .i64 a0_1, .int .i64 a0_2, .int .i64 a0_3, .int .i64 a0_4, .int .i64 a0_5, .int .i64 a0_6, .int .i64 a0_7, .bool a0_8, .int .i64 a0_9, .int .i64 a0_10, .int .i64 a0_11]] (by rfl) rfl rfl (by (try simp only [List.map_toArray, List.map_cons, List.map_nil]); first | done | rfl | (simp only [List.length_drop, List.length_take]; rfl)) ?_
    with_reducible refine (millstreamref06_Nodes.calls kj4 a0_0 a0_1 a0_2 a0_3 a0_4 a0_5 a0_6 a0_7 a0_8 a0_9 a0_10 a0_11 t158 _ A19.out).mono ?_
    rintro e w22 ⟨rfl, hb⟩
    refine ⟨_, rfl, ?_⟩
    have n0_ := Aside0.mk (blk_below (g := gb156) (o := .cells #[.int .i64 a0_0, .int .i64 a0_1, .int .i64 a0_2, .int .i64 a0_3, .int .i64 a0_4, .int .i64 a0_5, .int .i64 a0_6, .int .i64 a0_7, .bool a0_8, .int .i64 a0_9, .int .i64 a0_10, .int .i64 a0_11] 26 (0, 0)) (by (with_reducible repeat first | refine blk_drewN ?_ _ | refine blk_drew ?_ | refine blk_alloc ?_ _); exact BK156.out) hb)
    have n1_ := Aside0.mk (below_step (by repeat (first | (with_reducible first | exact HB.out | apply below_alloc | apply pw_below_drewN | apply below_drew1 | refine below_set ?_ GE156.out) | exact HB.out)) hb)
    clear BK156
    clear HB
    have BK156 := n0_
    have HB := n1_
    clear n0_ n1_
    (try clear hb)
    (try clear hb2)
    (try clear hk)
    (try clear hi)
    refine hK.out _ _ ⟨(blk_cell BK156.out 0).trans rfl, (blk_cell BK156.out 1).trans rfl, (blk_cell BK156.out 2).trans rfl, (blk_cell BK156.out 3).trans rfl, (blk_cell BK156.out 4).trans rfl, (blk_cell BK156.out 5).trans rfl, (blk_cell BK156.out 6).trans rfl, (blk_cell BK156.out 7).trans rfl, (blk_cell BK156.out 8).trans rfl, (blk_cell BK156.out 9).trans rfl, (blk_cell BK156.out 10).trans rfl, (blk_cell BK156.out 11).trans rfl⟩ (fun hHeld => ?_)
    clear hK K
    refine norm_ (a' := ?_) ?_ ?_
    rotate_left
    ·show Act.put _ (some 43) _ = _
     simp only [Act.put, List.setIfInBounds_toArray, List.set_cons_zero, List.set_cons_succ, i64_w, i32_w]
     rfl
    refine pure_ (i := 7) (N := some 44) (v := ?_) (a' := ?_) #[true, true, true, true, true, true, true, true, true, true, true, true, true, false, true, false, false] rfl rfl (any_of HT_.out (by kernel_rfl)) (fun _ _ _ h => h) (Or.inl ⟨by rfl, ?_⟩) ?_ ?_
    rotate_left
    ·intro w'
     go_simp
     with_reducible rfl
    rotate_left
    ·simp only [Act.put, List.setIfInBounds_toArray, List.set_cons_zero, List.set_cons_succ, i64_w, i32_w]
     rfl
    refine pure_ (i := 13) (N := some 50) (v := ?_) (a' := ?_) #[true, true, true, true, true, true, true, true, true, true, true, true, true, true, true, false, false] rfl rfl (any_of HT_.out (by kernel_rfl)) (fun _ _ _ h => h) (Or.inl ⟨by rfl, ?_⟩) ?_ ?_
    rotate_left
    ·intro w'
     go_simp
     with_reducible rfl
    rotate_left
    ·simp only [Act.put, List.setIfInBounds_toArray, List.set_cons_zero, List.set_cons_succ, i64_w, i32_w]
     rfl
    refine pure_ (i := 15) (N := some 52) (v := ?_) (a' := ?_) #[true, true, true, true, true, true, true, true, true, true, true, true, true, true, true, true, false] rfl rfl (any_of HT_.out (by kernel_rfl)) (fun _ _ _ h => h) (Or.inl ⟨by rfl, ?_⟩) ?_ ?_
    rotate_left
    ·intro w'
     go_simp
     with_reducible rfl
    rotate_left
    ·simp only [Act.put, List.setIfInBounds_toArray, List.set_cons_zero, List.set_cons_succ, i64_w, i32_w]
     rfl
    refine pure_ (i := 16) (N := some 8) (v := ?_) (a' := ?_) #[true, true, true, true, true, true, true, true, true, true, true, true, true, true, true, true, true] rfl rfl (any_of HT_.out (by kernel_rfl)) (fun _ _ _ h => h) (Or.inl ⟨by rfl, ?_⟩) ?_ ?_
    rotate_left
    ·intro w'
     go_simp
     with_reducible rfl
    rotate_left
    ·simp only [Act.put, List.setIfInBounds_toArray, List.set_cons_zero, List.set_cons_succ, i64_w, i32_w]
     rfl
    refine done_ (done_of HT_.out (by kernel_rfl)) ?_
    try go_wp2
    go_ret
    exact ⟨by first | rfl | (simp [errW_none, errW_some] <;> rfl) | (simp [*, errW_none, errW_some] <;> rfl), by repeat (first | (with_reducible first | exact HB.out | apply below_alloc | apply pw_below_drewN | apply below_drew1 | refine below_set ?_ GE156.out) | exact HB.out)⟩

/-! ### millstreamref06_Line: function 21 -/
def millstreamref06_Line.f (k : Nat) (a0_0 : Int) (a0_1 : Int) (a0_2 : Int) (a0_3 : Int) (a0_4 : Int) (a0_5 : Int) (a0_6 : Int) (a0_7 : Int) (a0_8 : Bool) (a0_9 : Int) (a0_10 : Int) (a0_11 : Int) (a1 : Int) : Option (Int) := if a1 < 0 then (some (-1)) else (if a1 ≥ a0_0 then (some (-1)) else ((millstreamref06_block.f k a0_0 a0_1 a0_2 a0_3 a0_4 a0_5 a0_6 a0_7 a0_8 a0_9 a0_10 a0_11).bind fun t160 => (some (wrap64 ((wrap64 (a0_1 * t160)) + (wrap64 (2 * a1)))))))
theorem millstreamref06_Line.mono : ∀ a0 a1 a2 a3 a4 a5 a6 a7 a8 a9 a10 a11 a12 k, LeO (millstreamref06_Line.f k a0 a1 a2 a3 a4 a5 a6 a7 a8 a9 a10 a11 a12) (millstreamref06_Line.f (k + 1) a0 a1 a2 a3 a4 a5 a6 a7 a8 a9 a10 a11 a12) := by
 intro a0 a1 a2 a3 a4 a5 a6 a7 a8 a9 a10 a11 a12 k
 unfold millstreamref06_Line.f
 repeat' first
   | (with_reducible exact millstreamref06_block.mono _ _ _ _ _ _ _ _ _ _ _ _ _)
   | (with_reducible exact LeO.refl _)
   | (with_reducible exact LeO.none _)
   | (with_reducible refine LeO.ite ?_ ?_)
   | (with_reducible refine LeO.bind ?_ (fun _ => ?_))
   | exact millstreamref06_block.mono _ _ _ _ _ _ _ _ _ _ _ _ _
   | exact LeO.none _
   | refine LeO.ite ?_ ?_
   | refine LeO.bind ?_ (fun _ => ?_)
def millstreamref06_Line.T3 : Bool × List (List Nat × List Nat) := (true, [([], []), ([0], [0]), ([], []), ([2], [2]), ([1, 3], [1, 3]), ([], []), ([5], [5]), ([4, 6], [4, 6]), ([7, 3, 0, 1, 2, 3, 4, 5, 6, 7], [7])])
def millstreamref06_Line.B3 : List Nat := [0, 1, 0, 4, 15, 0, 32, 127, 255]
theorem millstreamref06_Line.tab3 : rtab .any (opsOf Try.f21 3) = millstreamref06_Line.T3 := by kernel_rfl
theorem millstreamref06_Line.bits3 : waitsOk millstreamref06_Line.T3.2 millstreamref06_Line.B3 = true := by kernel_rfl
set_option maxHeartbeats 60000000 in
set_option maxRecDepth 100000 in
theorem millstreamref06_Line.calls (k : Nat) (a0_0 : Int) (a0_1 : Int) (a0_2 : Int) (a0_3 : Int) (a0_4 : Int) (a0_5 : Int) (a0_6 : Int) (a0_7 : Int) (a0_8 : Bool) (a0_9 : Int) (a0_10 : Int) (a0_11 : Int) (a1 : Int) (r : Int) (w : World) (h : millstreamref06_Line.f k a0_0 a0_1 a0_2 a0_3 a0_4 a0_5 a0_6 a0_7 a0_8 a0_9 a0_10 a0_11 a1 = some r) :
  Calls Try.prog 21 #[.agg #[.int .i64 a0_0, .int .i64 a0_1, .int .i64 a0_2, .int .i64 a0_3, .int .i64 a0_4, .int .i64 a0_5, .int .i64 a0_6, .int .i64 a0_7, .bool a0_8, .int .i64 a0_9, .int .i64 a0_10, .int .i64 a0_11], .int .i64 a1] w fun e w' => e = .returned (.int .i64 r) ∧ Below w.heap.size w w' := by
 have hu26 := Try.underlying26
 have HB := Aside0.mk (Below.refl w.heap.size w)
 have H : (if a1 < 0 then (some (-1)) else (if a1 ≥ a0_0 then (some (-1)) else ((millstreamref06_block.f k a0_0 a0_1 a0_2 a0_3 a0_4 a0_5 a0_6 a0_7 a0_8 a0_9 a0_10 a0_11).bind fun t160 => (some (wrap64 ((wrap64 (a0_1 * t160)) + (wrap64 (2 * a1)))))))) = some r := h
 clear h
 by_cases c3 : a1 < 0
 ·rw [if_pos c3] at H
  have c3b0 : decide (a1 < 0) = true := decide_eq_true c3
  clear c3
  obtain rfl := Option.some.inj H
  go_enter Try.func21, Try.ntmps21
  go_wp2_with (first | ((with_reducible refine gate_dst (N := 2) rfl ?_); refine box_event ?hg (N := 2) ?hd (cs := #[.int .i64 a0_0, .int .i64 a0_1, .int .i64 a0_2, .int .i64 a0_3, .int .i64 a0_4, .int .i64 a0_5, .int .i64 a0_6, .int .i64 a0_7, .bool a0_8, .int .i64 a0_9, .int .i64 a0_10, .int .i64 a0_11]) (t := 26) ?hr ?_; (case hd => rfl); (case hg => rfl); (case hr => first | (go_simp; done) | (go_simp; rfl)); intro gb159 hg w4 hbox hb; have n0_ := Aside0.mk (below_step (by repeat (first | (with_reducible first | exact HB.out | apply below_alloc | apply pw_below_drewN | apply below_drew1) | exact HB.out)) hb); have n1_ := Aside0.mk (hbox); have n2_ := Aside0.mk ((by rw [hg]; exact (below_size (by repeat (first | (with_reducible first | exact HB.out | apply below_alloc | apply pw_below_drewN | apply below_drew1) | exact HB.out))) : w.heap.size ≤ gb159)); have n3_ := Aside0.mk ((by rw [hg]; exact (below_size (by repeat (first | (with_reducible first | exact HB.out | apply below_alloc | apply pw_below_drewN | apply below_drew1) | exact HB.out))) : w.heap.size ≤ gb159)); clear HB; have HB := n0_; have BK159 := n1_; have GW159 := n2_; have GE159 := n3_; clear n0_ n1_ n2_ n3_; clear hb hbox hg))
  go_ret
  exact ⟨by first | rfl | (simp [errW_none, errW_some] <;> rfl) | (simp [*, errW_none, errW_some] <;> rfl), by repeat (first | (with_reducible first | exact HB.out | apply below_alloc | apply pw_below_drewN | apply below_drew1 | refine below_set ?_ GE159.out) | exact HB.out)⟩
 ·rw [if_neg c3] at H
  have c3b0 : decide (a1 < 0) = false := decide_eq_false c3
  clear c3
  by_cases c5 : a1 ≥ a0_0
  ·rw [if_pos c5] at H
   have c5b0 : decide (a0_0 ≤ a1) = true := decide_eq_true c5
   clear c5
   obtain rfl := Option.some.inj H
   go_enter Try.func21, Try.ntmps21
   go_wp2_with (first | ((with_reducible refine gate_dst (N := 2) rfl ?_); refine box_event ?hg (N := 2) ?hd (cs := #[.int .i64 a0_0, .int .i64 a0_1, .int .i64 a0_2, .int .i64 a0_3, .int .i64 a0_4, .int .i64 a0_5, .int .i64 a0_6, .int .i64 a0_7, .bool a0_8, .int .i64 a0_9, .int .i64 a0_10, .int .i64 a0_11]) (t := 26) ?hr ?_; (case hd => rfl); (case hg => rfl); (case hr => first | (go_simp; done) | (go_simp; rfl)); intro gb159 hg w6 hbox hb; have n0_ := Aside0.mk (below_step (by repeat (first | (with_reducible first | exact HB.out | apply below_alloc | apply pw_below_drewN | apply below_drew1) | exact HB.out)) hb); have n1_ := Aside0.mk (hbox); have n2_ := Aside0.mk ((by rw [hg]; exact (below_size (by repeat (first | (with_reducible first | exact HB.out | apply below_alloc | apply pw_below_drewN | apply below_drew1) | exact HB.out))) : w.heap.size ≤ gb159)); have n3_ := Aside0.mk ((by rw [hg]; exact (below_size (by repeat (first | (with_reducible first | exact HB.out | apply below_alloc | apply pw_below_drewN | apply below_drew1) | exact HB.out))) : w.heap.size ≤ gb159)); clear HB; have HB := n0_; have BK159 := n1_; have GW159 := n2_; have GE159 := n3_; clear n0_ n1_ n2_ n3_; clear hb hbox hg; have hcz7_0 : w6.cell? ⟨gb159, 0, none⟩ = some (.int .i64 a0_0) := (blk_cell BK159.out 0).trans rfl; have hcz7_1 : w6.cell? ⟨gb159, 1, none⟩ = some (.int .i64 a0_1) := (blk_cell BK159.out 1).trans rfl; have hcz7_2 : w6.cell? ⟨gb159, 2, none⟩ = some (.int .i64 a0_2) := (blk_cell BK159.out 2).trans rfl; have hcz7_3 : w6.cell? ⟨gb159, 3, none⟩ = some (.int .i64 a0_3) := (blk_cell BK159.out 3).trans rfl; have hcz7_4 : w6.cell? ⟨gb159, 4, none⟩ = some (.int .i64 a0_4) := (blk_cell BK159.out 4).trans rfl; have hcz7_5 : w6.cell? ⟨gb159, 5, none⟩ = some (.int .i64 a0_5) := (blk_cell BK159.out 5).trans rfl; have hcz7_6 : w6.cell? ⟨gb159, 6, none⟩ = some (.int .i64 a0_6) := (blk_cell BK159.out 6).trans rfl; have hcz7_7 : w6.cell? ⟨gb159, 7, none⟩ = some (.int .i64 a0_7) := (blk_cell BK159.out 7).trans rfl; have hcz7_8 : w6.cell? ⟨gb159, 8, none⟩ = some (.bool a0_8) := (blk_cell BK159.out 8).trans rfl; have hcz7_9 : w6.cell? ⟨gb159, 9, none⟩ = some (.int .i64 a0_9) := (blk_cell BK159.out 9).trans rfl; have hcz7_10 : w6.cell? ⟨gb159, 10, none⟩ = some (.int .i64 a0_10) := (blk_cell BK159.out 10).trans rfl; have hcz7_11 : w6.cell? ⟨gb159, 11, none⟩ = some (.int .i64 a0_11) := (blk_cell BK159.out 11).trans rfl; have hfz7_0 := blk_frozen BK159.out 0; have hfz7_1 := blk_frozen BK159.out 1; have hfz7_2 := blk_frozen BK159.out 2; have hfz7_3 := blk_frozen BK159.out 3; have hfz7_4 := blk_frozen BK159.out 4; have hfz7_5 := blk_frozen BK159.out 5; have hfz7_6 := blk_frozen BK159.out 6; have hfz7_7 := blk_frozen BK159.out 7; have hfz7_8 := blk_frozen BK159.out 8; have hfz7_9 := blk_frozen BK159.out 9; have hfz7_10 := blk_frozen BK159.out 10; have hfz7_11 := blk_frozen BK159.out 11))
   go_ret
   exact ⟨by first | rfl | (simp [errW_none, errW_some] <;> rfl) | (simp [*, errW_none, errW_some] <;> rfl), by repeat (first | (with_reducible first | exact HB.out | apply below_alloc | apply pw_below_drewN | apply below_drew1 | refine below_set ?_ GE159.out) | exact HB.out)⟩
  ·rw [if_neg c5] at H
   have c5b0 : decide (a0_0 ≤ a1) = false := decide_eq_false c5
   clear c5
   replace H := Option.bind_eq_some_iff.mp H
   obtain ⟨t160, A80, H⟩ := H
   replace H : (some (wrap64 ((wrap64 (a0_1 * t160)) + (wrap64 (2 * a1))))) = some r := H
   have A8 := Aside0.mk A80
   clear A80
   obtain rfl := Option.some.inj H
   go_enter Try.func21, Try.ntmps21
   try go_wp2_with (first | ((with_reducible refine gate_dst (N := 2) rfl ?_); refine box_event ?hg (N := 2) ?hd (cs := #[.int .i64 a0_0, .int .i64 a0_1, .int .i64 a0_2, .int .i64 a0_3, .int .i64 a0_4, .int .i64 a0_5, .int .i64 a0_6, .int .i64 a0_7, .bool a0_8, .int .i64 a0_9, .int .i64 a0_10, .int .i64 a0_11]) (t := 26) ?hr ?_; (case hd => rfl); (case hg => rfl); (case hr => first | (go_simp; done) | (go_simp; rfl)); intro gb159 hg w9 hbox hb; have n0_ := Aside0.mk (below_step (by repeat (first | (with_reducible first | exact HB.out | apply below_alloc | apply pw_below_drewN | apply below_drew1) | exact HB.out)) hb); have n1_ := Aside0.mk (hbox); have n2_ := Aside0.mk ((by rw [hg]; exact (below_size (by repeat (first | (with_reducible first | exact HB.out | apply below_alloc | apply pw_below_drewN | apply below_drew1) | exact HB.out))) : w.heap.size ≤ gb159)); have n3_ := Aside0.mk ((by rw [hg]; exact (below_size (by repeat (first | (with_reducible first | exact HB.out | apply below_alloc | apply pw_below_drewN | apply below_drew1) | exact HB.out))) : w.heap.size ≤ gb159)); clear HB; have HB := n0_; have BK159 := n1_; have GW159 := n2_; have GE159 := n3_; clear n0_ n1_ n2_ n3_; clear hb hbox hg; have hcz10_0 : w9.cell? ⟨gb159, 0, none⟩ = some (.int .i64 a0_0) := (blk_cell BK159.out 0).trans rfl; have hcz10_1 : w9.cell? ⟨gb159, 1, none⟩ = some (.int .i64 a0_1) := (blk_cell BK159.out 1).trans rfl; have hcz10_2 : w9.cell? ⟨gb159, 2, none⟩ = some (.int .i64 a0_2) := (blk_cell BK159.out 2).trans rfl; have hcz10_3 : w9.cell? ⟨gb159, 3, none⟩ = some (.int .i64 a0_3) := (blk_cell BK159.out 3).trans rfl; have hcz10_4 : w9.cell? ⟨gb159, 4, none⟩ = some (.int .i64 a0_4) := (blk_cell BK159.out 4).trans rfl; have hcz10_5 : w9.cell? ⟨gb159, 5, none⟩ = some (.int .i64 a0_5) := (blk_cell BK159.out 5).trans rfl; have hcz10_6 : w9.cell? ⟨gb159, 6, none⟩ = some (.int .i64 a0_6) := (blk_cell BK159.out 6).trans rfl; have hcz10_7 : w9.cell? ⟨gb159, 7, none⟩ = some (.int .i64 a0_7) := (blk_cell BK159.out 7).trans rfl; have hcz10_8 : w9.cell? ⟨gb159, 8, none⟩ = some (.bool a0_8) := (blk_cell BK159.out 8).trans rfl; have hcz10_9 : w9.cell? ⟨gb159, 9, none⟩ = some (.int .i64 a0_9) := (blk_cell BK159.out 9).trans rfl; have hcz10_10 : w9.cell? ⟨gb159, 10, none⟩ = some (.int .i64 a0_10) := (blk_cell BK159.out 10).trans rfl; have hcz10_11 : w9.cell? ⟨gb159, 11, none⟩ = some (.int .i64 a0_11) := (blk_cell BK159.out 11).trans rfl; have hfz10_0 := blk_frozen BK159.out 0; have hfz10_1 := blk_frozen BK159.out 1; have hfz10_2 := blk_frozen BK159.out 2; have hfz10_3 := blk_frozen BK159.out 3; have hfz10_4 := blk_frozen BK159.out 4; have hfz10_5 := blk_frozen BK159.out 5; have hfz10_6 := blk_frozen BK159.out 6; have hfz10_7 := blk_frozen BK159.out 7; have hfz10_8 := blk_frozen BK159.out 8; have hfz10_9 := blk_frozen BK159.out 9; have hfz10_10 := blk_frozen BK159.out 10; have hfz10_11 := blk_frozen BK159.out 11))
   have n0_ := Aside0.mk (blk_drew BK159.out)
   have n1_ := Aside0.mk (below_drew1 HB.out)
   clear BK159
   clear HB
   have BK159 := n0_
   have HB := n1_
   clear n0_ n1_
   refine start_ (n := 9) (S := fun w' => w'.cell? ⟨gb159, 0, none⟩ = some (.int .i64 a0_0) ∧ w'.cell? ⟨gb159, 1, none⟩ = some (.int .i64 a0_1) ∧ w'.cell? ⟨gb159, 2, none⟩ = some (.int .i64 a0_2) ∧ w'.cell? ⟨gb159, 3, none⟩ = some (.int .i64 a0_3) ∧ w'.cell? ⟨gb159, 4, none⟩ = some (.int .i64 a0_4) ∧ w'.cell? ⟨gb159, 5, none⟩ = some (.int .i64 a0_5) ∧ w'.cell? ⟨gb159, 6, none⟩ = some (.int .i64 a0_6) ∧ w'.cell? ⟨gb159, 7, none⟩ = some (.int .i64 a0_7) ∧ w'.cell? ⟨gb159, 8, none⟩ = some (.bool a0_8) ∧ w'.cell? ⟨gb159, 9, none⟩ = some (.int .i64 a0_9) ∧ w'.cell? ⟨gb159, 10, none⟩ = some (.int .i64 a0_10) ∧ w'.cell? ⟨gb159, 11, none⟩ = some (.int .i64 a0_11)) (ds := []) #[false, false, false, false, false, false, false, false, false] (by kernel_rfl) rfl rfl ⟨(blk_cell BK159.out 0).trans rfl, (blk_cell BK159.out 1).trans rfl, (blk_cell BK159.out 2).trans rfl, (blk_cell BK159.out 3).trans rfl, (blk_cell BK159.out 4).trans rfl, (blk_cell BK159.out 5).trans rfl, (blk_cell BK159.out 6).trans rfl, (blk_cell BK159.out 7).trans rfl, (blk_cell BK159.out 8).trans rfl, (blk_cell BK159.out 9).trans rfl, (blk_cell BK159.out 10).trans rfl, (blk_cell BK159.out 11).trans rfl⟩ (fun hHeld => ?_); refine with_tabW millstreamref06_Line.tab3 millstreamref06_Line.bits3 (fun HT_ HW_ => ?_)
   generalize w9.drew = w11 at BK159 HB hHeld ⊢
   refine pure_ (i := 0) (N := some 13) (v := ?_) (a' := ?_) #[true, false, false, false, false, false, false, false, false] rfl rfl (any_of HT_.out (by kernel_rfl)) (fun _ _ _ h => h) (Or.inl ⟨by rfl, ?_⟩) ?_ ?_
   rotate_left
   ·intro w'
    go_simp
    with_reducible rfl
   rotate_left
   ·simp only [Act.put, List.setIfInBounds_toArray, List.set_cons_zero, List.set_cons_succ, i64_w, i32_w]
    rfl
   refine pure_ (i := 5) (N := some 18) (v := ?_) (a' := ?_) #[true, false, false, false, false, true, false, false, false] rfl rfl (any_of HT_.out (by kernel_rfl)) (fun _ _ _ h => h) (Or.inl ⟨by rfl, ?_⟩) ?_ ?_
   rotate_left
   ·intro w'
    go_simp
    with_reducible rfl
   rotate_left
   ·simp only [Act.put, List.setIfInBounds_toArray, List.set_cons_zero, List.set_cons_succ, i64_w, i32_w]
    rfl
   refine pure_ (i := 6) (N := some 19) (v := ?_) (a' := ?_) #[true, false, false, false, false, true, true, false, false] rfl rfl (any_of HT_.out (by kernel_rfl)) (fun _ _ _ h => h) (Or.inl ⟨by rfl, ?_⟩) ?_ ?_
   rotate_left
   ·intro w'
    go_simp
    with_reducible rfl
   rotate_left
   ·simp only [Act.put, List.setIfInBounds_toArray, List.set_cons_zero, List.set_cons_succ, i64_w, i32_w]
    rfl
   refine take_ (i := 1) (N := some 14) (v := ?_) (a' := ?_) #[true, true, false, false, false, true, true, false, false] rfl rfl (take_ofW HT_.out HW_.out (by kernel_rfl)) (fun _ _ _ h => h) (Or.inl ⟨by rfl, ?_⟩) hHeld ?_ ?_
   rotate_left
   ·rintro w' ⟨s0, s1, s2, s3, s4, s5, s6, s7, s8, s9, s10, s11⟩
    go_simp
    with_reducible rfl
   rotate_left
   ·simp only [Act.put, List.setIfInBounds_toArray, List.set_cons_zero, List.set_cons_succ, i64_w, i32_w]
    rfl
   refine take_ (i := 2) (N := some 15) (v := ?_) (a' := ?_) #[true, true, true, false, false, true, true, false, false] rfl rfl (take_ofW HT_.out HW_.out (by kernel_rfl)) (fun _ _ _ h => h) (Or.inl ⟨by rfl, ?_⟩) hHeld ?_ ?_
   rotate_left
   ·rintro w' ⟨s0, s1, s2, s3, s4, s5, s6, s7, s8, s9, s10, s11⟩
    go_simp
    with_reducible rfl
   rotate_left
   ·simp only [Act.put, List.setIfInBounds_toArray, List.set_cons_zero, List.set_cons_succ, i64_w, i32_w]
    rfl
   refine one_ (i := 3) (N := some 16) #[true, true, true, true, false, true, true, false, false] rfl rfl (one_of HT_.out (by kernel_rfl)) (by decide) (fun K hK => ?_)
   refine goes_ Try.func30 (by kernel_rfl) rfl #[.agg #[.int .i64 a0_0, .int .i64 a0_1, .int .i64 a0_2, .int .i64 a0_3, .int .i64 a0_4, .int .i64 a0_5, .int .i64 a0_6, .int .i64 a0_7, .bool a0_8, .int .i64 a0_9, .int .i64 a0_10, .int .i64 a0_11]] (by rfl) rfl rfl (by (try simp only [List.map_toArray, List.map_cons, List.map_nil]); first | done | rfl | (simp only [List.length_drop, List.length_take]; rfl)) ?_
   with_reducible refine (millstreamref06_block.calls k a0_0 a0_1 a0_2 a0_3 a0_4 a0_5 a0_6 a0_7 a0_8 a0_9 a0_10 a0_11 t160 _ A8.out).mono ?_
   rintro e w12 ⟨rfl, hb⟩
   refine ⟨_, rfl, ?_⟩
   have n0_ := Aside0.mk (blk_below (g := gb159) (o := .cells #[.int .i64 a0_0, .int .i64 a0_1, .int .i64 a0_2, .int .i64 a0_3, .int .i64 a0_4, .int .i64 a0_5, .int .i64 a0_6, .int .i64 a0_7, .bool a0_8, .int .i64 a0_9, .int .i64 a0_10, .int .i64 a0_11] 26 (0, 0)) (by (with_reducible repeat first | refine blk_drewN ?_ _ | refine blk_drew ?_ | refine blk_alloc ?_ _); exact BK159.out) hb)
   have n1_ := Aside0.mk (below_step (by repeat (first | (with_reducible first | exact HB.out | apply below_alloc | apply pw_below_drewN | apply below_drew1 | refine below_set ?_ GE159.out) | exact HB.out)) hb)
   clear BK159
   clear HB
   have BK159 := n0_
   have HB := n1_
   clear n0_ n1_
   (try clear hb)
   (try clear hb2)
   (try clear hk)
   (try clear hi)
   refine hK.out _ _ ⟨(blk_cell BK159.out 0).trans rfl, (blk_cell BK159.out 1).trans rfl, (blk_cell BK159.out 2).trans rfl, (blk_cell BK159.out 3).trans rfl, (blk_cell BK159.out 4).trans rfl, (blk_cell BK159.out 5).trans rfl, (blk_cell BK159.out 6).trans rfl, (blk_cell BK159.out 7).trans rfl, (blk_cell BK159.out 8).trans rfl, (blk_cell BK159.out 9).trans rfl, (blk_cell BK159.out 10).trans rfl, (blk_cell BK159.out 11).trans rfl⟩ (fun hHeld => ?_)
   clear hK K
   refine norm_ (a' := ?_) ?_ ?_
   rotate_left
   ·show Act.put _ (some 16) _ = _
    simp only [Act.put, List.setIfInBounds_toArray, List.set_cons_zero, List.set_cons_succ, i64_w, i32_w]
    rfl
   refine pure_ (i := 4) (N := some 17) (v := ?_) (a' := ?_) #[true, true, true, true, true, true, true, false, false] rfl rfl (any_of HT_.out (by kernel_rfl)) (fun _ _ _ h => h) (Or.inl ⟨by rfl, ?_⟩) ?_ ?_
   rotate_left
   ·intro w'
    go_simp
    with_reducible rfl
   rotate_left
   ·simp only [Act.put, List.setIfInBounds_toArray, List.set_cons_zero, List.set_cons_succ, i64_w, i32_w]
    rfl
   refine pure_ (i := 7) (N := some 20) (v := ?_) (a' := ?_) #[true, true, true, true, true, true, true, true, false] rfl rfl (any_of HT_.out (by kernel_rfl)) (fun _ _ _ h => h) (Or.inl ⟨by rfl, ?_⟩) ?_ ?_
   rotate_left
   ·intro w'
    go_simp
    with_reducible rfl
   rotate_left
   ·simp only [Act.put, List.setIfInBounds_toArray, List.set_cons_zero, List.set_cons_succ, i64_w, i32_w]
    rfl
   refine pure_ (i := 8) (N := some 4) (v := ?_) (a' := ?_) #[true, true, true, true, true, true, true, true, true] rfl rfl (any_of HT_.out (by kernel_rfl)) (fun _ _ _ h => h) (Or.inl ⟨by rfl, ?_⟩) ?_ ?_
   rotate_left
   ·intro w'
    go_simp
    with_reducible rfl
   rotate_left
   ·simp only [Act.put, List.setIfInBounds_toArray, List.set_cons_zero, List.set_cons_succ, i64_w, i32_w]
    rfl
   refine done_ (done_of HT_.out (by kernel_rfl)) ?_
   try go_wp2
   go_ret
   exact ⟨by first | rfl | (simp [errW_none, errW_some] <;> rfl) | (simp [*, errW_none, errW_some] <;> rfl), by repeat (first | (with_reducible first | exact HB.out | apply below_alloc | apply pw_below_drewN | apply below_drew1 | refine below_set ?_ GE159.out) | exact HB.out)⟩

end Go.Proofs.Ytdfcioadccijfaa.PA
