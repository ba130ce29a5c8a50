-- Laid by a program of this session over the kit's print; hand-proved functions stand among them. Not trusted: Lean checks it.
import Derived.Test.YtdfcioadccijfaaPAx0
namespace Go.Proofs.Ytdfcioadccijfaa.PA
open Go.RowKit Go.Proofs.YtdfcioadccijfaaW.PrintWords Go.Proofs.YtdfcioadccijfaaW.PrintLast Go.Proofs.YtdfcioadccijfaaW.PrintMore
attribute [local go_sem] max2_int min2_int max_two min_two max_three min_three max_four min_four   -- for this text's walks alone
set_option linter.unusedVariables false
set_option linter.unusedSimpArgs false

/-! ### millstreamref05_Check: function 28 -/
/-- The first number of a config that may not be; 0: none. -/
def millstreamref05_Check.v (a0_0 : Int) (a0_1 : Int) (a0_2 : Int) (a0_3 : Int) (a0_4 : Int) (a0_5 : Int) (a0_6 : Int) (a0_7 : Int) (a0_8 : Bool) (a0_9 : Int) (a0_10 : Int) (a0_11 : Int) : Int :=
  if a0_0 < 1 ∨ a0_0 > 16 then 50 else if a0_1 < 1 ∨ a0_1 > 4 then 51 else if a0_2 < 1 ∨ a0_2 > 3 then 52 else if a0_3 < 0 ∨ a0_3 > 4 then 53 else if a0_4 < 0 ∨ a0_4 > 3 then 54 else if a0_5 < 1 ∨ a0_5 > 8 then 55 else if a0_6 < 0 ∨ a0_6 > 20 then 56 else if a0_7 < 0 ∨ a0_7 > 1000 then 57 else if a0_8 = true ∧ (a0_11 < a0_9 ∨ a0_10 < a0_11) then 58 else 0
def millstreamref05_Check.f (a0_0 : Int) (a0_1 : Int) (a0_2 : Int) (a0_3 : Int) (a0_4 : Int) (a0_5 : Int) (a0_6 : Int) (a0_7 : Int) (a0_8 : Bool) (a0_9 : Int) (a0_10 : Int) (a0_11 : Int) : Option Int := some (millstreamref05_Check.v a0_0 a0_1 a0_2 a0_3 a0_4 a0_5 a0_6 a0_7 a0_8 a0_9 a0_10 a0_11)
def millstreamref05_Check.Post (n : Int) (w : World) (e : Ending) (w' : World) : Prop := e = .returned (.int .i64 n) ∧ Below w.heap.size w w'
theorem millstreamref05_Check.ret {a b : Int} (h : a = b) : Ending.returned (.int .i64 a) = .returned (.int .i64 b) := by rw [h]
set_option maxHeartbeats 16000000 in
set_option maxRecDepth 100000 in
theorem millstreamref05_Check.walk (a0_0 : Int) (a0_1 : Int) (a0_2 : Int) (a0_3 : Int) (a0_4 : Int) (a0_5 : Int) (a0_6 : Int) (a0_7 : Int) (a0_8 : Bool) (a0_9 : Int) (a0_10 : Int) (a0_11 : Int) (w : World) : Calls Try.prog 28 #[.agg #[.int .i64 a0_0, .int .i64 a0_1, .int .i64 a0_2, .int .i64 a0_3, .int .i64 a0_4, .int .i64 a0_5, .int .i64 a0_6, .int .i64 a0_7, .bool a0_8, .int .i64 a0_9, .int .i64 a0_10, .int .i64 a0_11]] w (millstreamref05_Check.Post (millstreamref05_Check.v a0_0 a0_1 a0_2 a0_3 a0_4 a0_5 a0_6 a0_7 a0_8 a0_9 a0_10 a0_11) w) := by
  go_enter Try.func28, Try.ntmps28
  go_wp2
  all_goals (go_ret; exact ⟨millstreamref05_Check.ret (by unfold millstreamref05_Check.v; (repeat' split) <;> first | rfl | (exfalso; omega) | (exfalso; simp_all; done) | (exfalso; simp_all; omega)), (by repeat first | exact Below.refl _ _ | (refine Below.alloc ?_ (by first | (simp; done) | (simp; omega)) _))⟩)
theorem millstreamref05_Check.calls (a0_0 : Int) (a0_1 : Int) (a0_2 : Int) (a0_3 : Int) (a0_4 : Int) (a0_5 : Int) (a0_6 : Int) (a0_7 : Int) (a0_8 : Bool) (a0_9 : Int) (a0_10 : Int) (a0_11 : Int) (r : Int) (w : World) (h : millstreamref05_Check.f a0_0 a0_1 a0_2 a0_3 a0_4 a0_5 a0_6 a0_7 a0_8 a0_9 a0_10 a0_11 = some r) :
    Calls Try.prog 28 #[.agg #[.int .i64 a0_0, .int .i64 a0_1, .int .i64 a0_2, .int .i64 a0_3, .int .i64 a0_4, .int .i64 a0_5, .int .i64 a0_6, .int .i64 a0_7, .bool a0_8, .int .i64 a0_9, .int .i64 a0_10, .int .i64 a0_11]] w fun e w' => e = .returned (.int .i64 r) ∧ Below w.heap.size w w' := by
  obtain rfl : millstreamref05_Check.v a0_0 a0_1 a0_2 a0_3 a0_4 a0_5 a0_6 a0_7 a0_8 a0_9 a0_10 a0_11 = r := Option.some.inj h
  exact (millstreamref05_Check.walk a0_0 a0_1 a0_2 a0_3 a0_4 a0_5 a0_6 a0_7 a0_8 a0_9 a0_10 a0_11 w).mono fun _ _ hp => hp

/-! ### millstreamlaw06_may: function 8 -/
def millstreamlaw06_may.f (a0_0 : Int) (a0_1 : Int) (a0_2 : Int) (a0_3 : Int) (a0_4 : Int) (a0_5 : Int) (a0_6 : Int) (a0_7 : Int) (a0_8 : Bool) (a0_9 : Int) (a0_10 : Int) (a0_11 : Int) : Option (Bool) := (millstreamref05_Check.f a0_0 a0_1 a0_2 a0_3 a0_4 a0_5 a0_6 a0_7 a0_8 a0_9 a0_10 a0_11).bind fun t102 => (some (t102 == 0))
set_option maxHeartbeats 60000000 in
set_option maxRecDepth 100000 in
theorem millstreamlaw06_may.calls (a0_0 : Int) (a0_1 : Int) (a0_2 : Int) (a0_3 : Int) (a0_4 : Int) (a0_5 : Int) (a0_6 : Int) (a0_7 : Int) (a0_8 : Bool) (a0_9 : Int) (a0_10 : Int) (a0_11 : Int) (r : Bool) (w : World) (h : millstreamlaw06_may.f a0_0 a0_1 a0_2 a0_3 a0_4 a0_5 a0_6 a0_7 a0_8 a0_9 a0_10 a0_11 = some r) :
  Calls Try.prog 8 #[.agg #[.int .i64 a0_0, .int .i64 a0_1, .int .i64 a0_2, .int .i64 a0_3, .int .i64 a0_4, .int .i64 a0_5, .int .i64 a0_6, .int .i64 a0_7, .bool a0_8, .int .i64 a0_9, .int .i64 a0_10, .int .i64 a0_11]] w fun e w' => e = .returned (.bool r) ∧ Below w.heap.size w w' := by
 have hu23 := Try.underlying23
 have HB := Aside0.mk (Below.refl w.heap.size w)
 have H : ((millstreamref05_Check.f a0_0 a0_1 a0_2 a0_3 a0_4 a0_5 a0_6 a0_7 a0_8 a0_9 a0_10 a0_11).bind fun t102 => (some (t102 == 0))) = some r := h
 clear h
 replace H := Option.bind_eq_some_iff.mp H
 obtain ⟨t102, A20, H⟩ := H
 replace H : (some (t102 == 0)) = some r := H
 have A2 := Aside0.mk A20
 clear A20
 obtain rfl := Option.some.inj H
 go_enter Try.func8, Try.ntmps8
 go_wp2_with (first | ((with_reducible refine gate_dst (N := 1) rfl ?_); refine box_event ?hg (N := 1) ?hd (cs := #[.int .i64 a0_0, .int .i64 a0_1, .int .i64 a0_2, .int .i64 a0_3, .int .i64 a0_4, .int .i64 a0_5, .int .i64 a0_6, .int .i64 a0_7, .bool a0_8, .int .i64 a0_9, .int .i64 a0_10, .int .i64 a0_11]) (t := 23) ?hr ?_; (case hd => rfl); (case hg => rfl); (case hr => first | (go_simp; done) | (go_simp; rfl)); intro gb101 hg w3 hbox hb; have n0_ := Aside0.mk (below_step (by repeat (first | (with_reducible first | exact HB.out | apply below_alloc | apply pw_below_drewN | apply below_drew1) | exact HB.out)) hb); have n1_ := Aside0.mk (hbox); have n2_ := Aside0.mk ((by rw [hg]; exact (below_size (by repeat (first | (with_reducible first | exact HB.out | apply below_alloc | apply pw_below_drewN | apply below_drew1) | exact HB.out))) : w.heap.size ≤ gb101)); have n3_ := Aside0.mk ((by rw [hg]; exact (below_size (by repeat (first | (with_reducible first | exact HB.out | apply below_alloc | apply pw_below_drewN | apply below_drew1) | exact HB.out))) : w.heap.size ≤ gb101)); clear HB; have HB := n0_; have BK101 := n1_; have GW101 := n2_; have GE101 := n3_; clear n0_ n1_ n2_ n3_; clear hb hbox hg; have hcz4_0 : w3.cell? ⟨gb101, 0, none⟩ = some (.int .i64 a0_0) := (blk_cell BK101.out 0).trans rfl; have hcz4_1 : w3.cell? ⟨gb101, 1, none⟩ = some (.int .i64 a0_1) := (blk_cell BK101.out 1).trans rfl; have hcz4_2 : w3.cell? ⟨gb101, 2, none⟩ = some (.int .i64 a0_2) := (blk_cell BK101.out 2).trans rfl; have hcz4_3 : w3.cell? ⟨gb101, 3, none⟩ = some (.int .i64 a0_3) := (blk_cell BK101.out 3).trans rfl; have hcz4_4 : w3.cell? ⟨gb101, 4, none⟩ = some (.int .i64 a0_4) := (blk_cell BK101.out 4).trans rfl; have hcz4_5 : w3.cell? ⟨gb101, 5, none⟩ = some (.int .i64 a0_5) := (blk_cell BK101.out 5).trans rfl; have hcz4_6 : w3.cell? ⟨gb101, 6, none⟩ = some (.int .i64 a0_6) := (blk_cell BK101.out 6).trans rfl; have hcz4_7 : w3.cell? ⟨gb101, 7, none⟩ = some (.int .i64 a0_7) := (blk_cell BK101.out 7).trans rfl; have hcz4_8 : w3.cell? ⟨gb101, 8, none⟩ = some (.bool a0_8) := (blk_cell BK101.out 8).trans rfl; have hcz4_9 : w3.cell? ⟨gb101, 9, none⟩ = some (.int .i64 a0_9) := (blk_cell BK101.out 9).trans rfl; have hcz4_10 : w3.cell? ⟨gb101, 10, none⟩ = some (.int .i64 a0_10) := (blk_cell BK101.out 10).trans rfl; have hcz4_11 : w3.cell? ⟨gb101, 11, none⟩ = some (.int .i64 a0_11) := (blk_cell BK101.out 11).trans rfl; have hfz4_0 := blk_frozen BK101.out 0; have hfz4_1 := blk_frozen BK101.out 1; have hfz4_2 := blk_frozen BK101.out 2; have hfz4_3 := blk_frozen BK101.out 3; have hfz4_4 := blk_frozen BK101.out 4; have hfz4_5 := blk_frozen BK101.out 5; have hfz4_6 := blk_frozen BK101.out 6; have hfz4_7 := blk_frozen BK101.out 7; have hfz4_8 := blk_frozen BK101.out 8; have hfz4_9 := blk_frozen BK101.out 9; have hfz4_10 := blk_frozen BK101.out 10; have hfz4_11 := blk_frozen BK101.out 11) | ((with_reducible refine gate_callee (f := 28) rfl ?_); refine goesL_ (some 4) rfl rfl Try.func28 (by kernel_rfl) rfl #[.agg #[.int .i64 a0_0, .int .i64 a0_1, .int .i64 a0_2, .int .i64 a0_3, .int .i64 a0_4, .int .i64 a0_5, .int .i64 a0_6, .int .i64 a0_7, .bool a0_8, .int .i64 a0_9, .int .i64 a0_10, .int .i64 a0_11]] rfl (by (try simp only [List.map_toArray, List.map_cons, List.map_nil]); first | done | rfl | (simp only [List.length_drop, List.length_take]; rfl)) ?_; (with_reducible refine (millstreamref05_Check.calls a0_0 a0_1 a0_2 a0_3 a0_4 a0_5 a0_6 a0_7 a0_8 a0_9 a0_10 a0_11 t102 _ A2.out).mono ?_); rintro e w5 ⟨rfl, hb⟩; refine ⟨_, rfl, ?_⟩; have n0_ := Aside0.mk (blk_below (g := gb101) (o := .cells #[.int .i64 a0_0, .int .i64 a0_1, .int .i64 a0_2, .int .i64 a0_3, .int .i64 a0_4, .int .i64 a0_5, .int .i64 a0_6, .int .i64 a0_7, .bool a0_8, .int .i64 a0_9, .int .i64 a0_10, .int .i64 a0_11] 23 (0, 0)) (by (with_reducible repeat first | refine blk_drewN ?_ _ | refine blk_drew ?_ | refine blk_alloc ?_ _); exact BK101.out) hb); have n1_ := Aside0.mk (below_step (by repeat (first | (with_reducible first | exact HB.out | apply below_alloc | apply pw_below_drewN | apply below_drew1 | refine below_set ?_ GE101.out) | exact HB.out)) hb); clear BK101; clear HB; have BK101 := n0_; have HB := n1_; clear n0_ n1_; (try clear hb); (try clear hb2); (try clear hk); (try clear hi)))
 go_ret
 exact ⟨by first | rfl | (simp [errW_none, errW_some] <;> rfl) | (simp [*, errW_none, errW_some] <;> rfl), by repeat (first | (with_reducible first | exact HB.out | apply below_alloc | apply pw_below_drewN | apply below_drew1 | refine below_set ?_ GE101.out) | exact HB.out)⟩

/-! ### arena_Nodes: function 10 -/
def arena_Nodes.f (a0_0 : Int) (a0_1 : Int) (a0_2 : Int) (a0_3 : Int) (a0_4 : Int) (a0_5 : Int) (a0_6 : Int) (a0_7 : Int) (a0_8 : Bool) (a0_9 : Int) (a0_10 : Int) (a0_11 : Int) : Option (Int) := if 0 ≤ a0_3 then (some (wrap64 ((shl .i64 1 a0_3) - 1))) else (none)
set_option maxHeartbeats 60000000 in
set_option maxRecDepth 100000 in
theorem arena_Nodes.calls (a0_0 : Int) (a0_1 : Int) (a0_2 : Int) (a0_3 : Int) (a0_4 : Int) (a0_5 : Int) (a0_6 : Int) (a0_7 : Int) (a0_8 : Bool) (a0_9 : Int) (a0_10 : Int) (a0_11 : Int) (r : Int) (w : World) (h : arena_Nodes.f a0_0 a0_1 a0_2 a0_3 a0_4 a0_5 a0_6 a0_7 a0_8 a0_9 a0_10 a0_11 = some r) :
  Calls Try.prog 10 #[.agg #[.int .i64 a0_0, .int .i64 a0_1, .int .i64 a0_2, .int .i64 a0_3, .int .i64 a0_4, .int .i64 a0_5, .int .i64 a0_6, .int .i64 a0_7, .bool a0_8, .int .i64 a0_9, .int .i64 a0_10, .int .i64 a0_11]] w fun e w' => e = .returned (.int .i64 r) ∧ Below w.heap.size w w' := by
 have hu23 := Try.underlying23
 have HB := Aside0.mk (Below.refl w.heap.size w)
 have H : (if 0 ≤ a0_3 then (some (wrap64 ((shl .i64 1 a0_3) - 1))) else (none)) = some r := h
 clear h
 by_cases c2 : 0 ≤ a0_3
 ·rw [if_pos c2] at H
  have c2b0 := eq_true c2
  have c2b1 : decide (0 ≤ a0_3) = true := decide_eq_true c2
  clear c2
  obtain ⟨ji3, hji3⟩ : ∃ j_ : Int, (shl .i64 1 a0_3) = j_ := ⟨_, rfl⟩
  replace H : (some (wrap64 ((ji3) - 1))) = some r := by first | (rw [hji3] at H; exact H) | (simp only [hji3] at H ⊢; exact H)
  have hji3_ : (IntKind.i64.wrap (1 * 2 ^ min a0_3.toNat 64)) = ji3 := hji3
  have hji3z : a0_3 ≤ 64 → (IntKind.i64.wrap (1 * 2 ^ a0_3.toNat)) = ji3 := shl_small hji3
  have hji3u : (IntKind.i64.wrap (2 ^ min a0_3.toNat 64)) = ji3 := by have h_ := hji3_; rw [Int.one_mul] at h_; exact h_
  have hji3v : a0_3 ≤ 64 → (IntKind.i64.wrap (2 ^ a0_3.toNat)) = ji3 := fun hle_ => by have h_ := hji3z hle_; rw [Int.one_mul] at h_; exact h_
  have hji3y : (wrap64 (1 * 2 ^ min a0_3.toNat 64)) = ji3 := (i64_w _).symm.trans hji3_
  have hji3x : a0_3 ≤ 64 → (wrap64 (1 * 2 ^ a0_3.toNat)) = ji3 := fun h_ => (i64_w _).symm.trans (hji3z h_)
  obtain rfl := Option.some.inj H
  go_enter Try.func10, Try.ntmps10
  go_wp2_with (first | ((with_reducible refine gate_dst (N := 1) rfl ?_); refine box_event ?hg (N := 1) ?hd (cs := #[.int .i64 a0_0, .int .i64 a0_1, .int .i64 a0_2, .int .i64 a0_3, .int .i64 a0_4, .int .i64 a0_5, .int .i64 a0_6, .int .i64 a0_7, .bool a0_8, .int .i64 a0_9, .int .i64 a0_10, .int .i64 a0_11]) (t := 23) ?hr ?_; (case hd => rfl); (case hg => rfl); (case hr => first | (go_simp; done) | (go_simp; rfl)); intro gb103 hg w4 hbox hb; have n0_ := Aside0.mk (below_step (by repeat (first | (with_reducible first | exact HB.out | apply below_alloc | apply pw_below_drewN | apply below_drew1) | exact HB.out)) hb); have n1_ := Aside0.mk (hbox); have n2_ := Aside0.mk ((by rw [hg]; exact (below_size (by repeat (first | (with_reducible first | exact HB.out | apply below_alloc | apply pw_below_drewN | apply below_drew1) | exact HB.out))) : w.heap.size ≤ gb103)); have n3_ := Aside0.mk ((by rw [hg]; exact (below_size (by repeat (first | (with_reducible first | exact HB.out | apply below_alloc | apply pw_below_drewN | apply below_drew1) | exact HB.out))) : w.heap.size ≤ gb103)); clear HB; have HB := n0_; have BK103 := n1_; have GW103 := n2_; have GE103 := n3_; clear n0_ n1_ n2_ n3_; clear hb hbox hg; have hcz5_0 : w4.cell? ⟨gb103, 0, none⟩ = some (.int .i64 a0_0) := (blk_cell BK103.out 0).trans rfl; have hcz5_1 : w4.cell? ⟨gb103, 1, none⟩ = some (.int .i64 a0_1) := (blk_cell BK103.out 1).trans rfl; have hcz5_2 : w4.cell? ⟨gb103, 2, none⟩ = some (.int .i64 a0_2) := (blk_cell BK103.out 2).trans rfl; have hcz5_3 : w4.cell? ⟨gb103, 3, none⟩ = some (.int .i64 a0_3) := (blk_cell BK103.out 3).trans rfl; have hcz5_4 : w4.cell? ⟨gb103, 4, none⟩ = some (.int .i64 a0_4) := (blk_cell BK103.out 4).trans rfl; have hcz5_5 : w4.cell? ⟨gb103, 5, none⟩ = some (.int .i64 a0_5) := (blk_cell BK103.out 5).trans rfl; have hcz5_6 : w4.cell? ⟨gb103, 6, none⟩ = some (.int .i64 a0_6) := (blk_cell BK103.out 6).trans rfl; have hcz5_7 : w4.cell? ⟨gb103, 7, none⟩ = some (.int .i64 a0_7) := (blk_cell BK103.out 7).trans rfl; have hcz5_8 : w4.cell? ⟨gb103, 8, none⟩ = some (.bool a0_8) := (blk_cell BK103.out 8).trans rfl; have hcz5_9 : w4.cell? ⟨gb103, 9, none⟩ = some (.int .i64 a0_9) := (blk_cell BK103.out 9).trans rfl; have hcz5_10 : w4.cell? ⟨gb103, 10, none⟩ = some (.int .i64 a0_10) := (blk_cell BK103.out 10).trans rfl; have hcz5_11 : w4.cell? ⟨gb103, 11, none⟩ = some (.int .i64 a0_11) := (blk_cell BK103.out 11).trans rfl; have hfz5_0 := blk_frozen BK103.out 0; have hfz5_1 := blk_frozen BK103.out 1; have hfz5_2 := blk_frozen BK103.out 2; have hfz5_3 := blk_frozen BK103.out 3; have hfz5_4 := blk_frozen BK103.out 4; have hfz5_5 := blk_frozen BK103.out 5; have hfz5_6 := blk_frozen BK103.out 6; have hfz5_7 := blk_frozen BK103.out 7; have hfz5_8 := blk_frozen BK103.out 8; have hfz5_9 := blk_frozen BK103.out 9; have hfz5_10 := blk_frozen BK103.out 10; have hfz5_11 := blk_frozen BK103.out 11))
  go_ret
  exact ⟨by first | rfl | (simp [errW_none, errW_some] <;> rfl) | (simp only [← hji3]; first | rfl | (simp [errW_none, errW_some] <;> rfl)) | (simp [*, errW_none, errW_some] <;> rfl), by repeat (first | (with_reducible first | exact HB.out | apply below_alloc | apply pw_below_drewN | apply below_drew1 | refine below_set ?_ GE103.out) | exact HB.out)⟩
 ·rw [if_neg c2] at H
  exact absurd H (by simp)

/-! ### arena_of: function 29 -/
def arena_of.f (a0_0 : Int) (a0_1 : Int) (a0_2 : Int) (a0_3 : Int) (a0_4 : Int) (a0_5 : Int) (a0_6 : Int) (a0_7 : Int) (a0_8 : Bool) (a0_9 : Int) (a0_10 : Int) (a0_11 : Int) : Option (Int × Int × Int × Int) := (arena_Nodes.f a0_0 a0_1 a0_2 a0_3 a0_4 a0_5 a0_6 a0_7 a0_8 a0_9 a0_10 a0_11).bind fun t => some (1, wrap64 (1 + t), wrap64 (wrap64 (1 + t) + wrap64 (a0_4 * a0_5)), wrap64 (a0_1 * wrap64 (wrap64 (1 + t) + wrap64 (a0_4 * a0_5))))
theorem arena_of.bcell {W w1 : World} (hb : Below W.heap.size W w1) : (∀ b o, b < W.heap.size → w1.cell? ⟨b, o, none⟩ = W.cell? ⟨b, o, none⟩) ∧ (∀ b o, b < W.heap.size → w1.frozen? ⟨b, o, none⟩ = W.frozen? ⟨b, o, none⟩) :=
  ⟨fun b o h => hb.cell (p := ⟨b, o, none⟩) h, fun b o h => hb.frozen (p := ⟨b, o, none⟩) h⟩
set_option maxHeartbeats 16000000 in
set_option maxRecDepth 100000 in
theorem arena_of.walk (a0_0 a0_1 a0_2 a0_3 a0_4 a0_5 a0_6 a0_7 : Int) (a0_8 : Bool) (a0_9 a0_10 a0_11 : Int) (t : Int) (w : World) (ho : arena_Nodes.f a0_0 a0_1 a0_2 a0_3 a0_4 a0_5 a0_6 a0_7 a0_8 a0_9 a0_10 a0_11 = some t) :
    Calls Try.prog 29 #[.agg #[.int .i64 a0_0, .int .i64 a0_1, .int .i64 a0_2, .int .i64 a0_3, .int .i64 a0_4, .int .i64 a0_5, .int .i64 a0_6, .int .i64 a0_7, .bool a0_8, .int .i64 a0_9, .int .i64 a0_10, .int .i64 a0_11]] w fun e w' => e = .returned (.agg #[.int .i64 1, .int .i64 (wrap64 (1 + t)), .int .i64 (wrap64 (wrap64 (1 + t) + wrap64 (a0_4 * a0_5))), .int .i64 (wrap64 (a0_1 * wrap64 (wrap64 (1 + t) + wrap64 (a0_4 * a0_5))))]) ∧ Below w.heap.size w w' := by
  have HO := Aside0.mk ho
  clear ho
  go_enter Try.func29, Try.ntmps29
  go_wp2_with fail
  refine (arena_Nodes.calls a0_0 a0_1 a0_2 a0_3 a0_4 a0_5 a0_6 a0_7 a0_8 a0_9 a0_10 a0_11 t _ HO.out).mono ?_
  rintro e w1 ⟨rfl, hb⟩
  obtain ⟨hc, hf⟩ := arena_of.bcell hb
  have hz : w.heap.size + 1 < w1.heap.size := by have := hb.size; simp at this; omega
  have hz0 : w.heap.size < w1.heap.size := by omega
  have c1 : w1.cell? ⟨w.heap.size, 1, none⟩ = some (.int .i64 a0_1) := by rw [hc _ _ (by simp; omega)]; go_simp
  have c4 : w1.cell? ⟨w.heap.size, 4, none⟩ = some (.int .i64 a0_4) := by rw [hc _ _ (by simp; omega)]; go_simp
  have c5 : w1.cell? ⟨w.heap.size, 5, none⟩ = some (.int .i64 a0_5) := by rw [hc _ _ (by simp; omega)]; go_simp
  have d0 : w1.cell? ⟨w.heap.size + 1, 0, none⟩ = some (.int .i64 0) := by rw [hc _ _ (by simp)]; go_simp
  have f0 : w1.frozen? ⟨w.heap.size + 1, 0, none⟩ = false := by rw [hf _ _ (by simp)]; go_simp
  have d1 : w1.cell? ⟨w.heap.size + 1, 1, none⟩ = some (.int .i64 0) := by rw [hc _ _ (by simp)]; go_simp
  have f1 : w1.frozen? ⟨w.heap.size + 1, 1, none⟩ = false := by rw [hf _ _ (by simp)]; go_simp
  have d2 : w1.cell? ⟨w.heap.size + 1, 2, none⟩ = some (.int .i64 0) := by rw [hc _ _ (by simp)]; go_simp
  have f2 : w1.frozen? ⟨w.heap.size + 1, 2, none⟩ = false := by rw [hf _ _ (by simp)]; go_simp
  have d3 : w1.cell? ⟨w.heap.size + 1, 3, none⟩ = some (.int .i64 0) := by rw [hc _ _ (by simp)]; go_simp
  have f3 : w1.frozen? ⟨w.heap.size + 1, 3, none⟩ = false := by rw [hf _ _ (by simp)]; go_simp
  clear hc hf
  go_wp2
  have hb2 : Below w.heap.size w w1 := (((Below.refl _ _).alloc (Nat.le_refl _) _).alloc (by simp) _).trans (hb.mono (by simp; omega))
  refine bodyPost_ret (v := .agg #[.int .i64 1, .int .i64 (wrap64 (1 + t)), .int .i64 (wrap64 (wrap64 (1 + t) + wrap64 (a0_4 * a0_5))), .int .i64 (wrap64 (a0_1 * wrap64 (wrap64 (1 + t) + wrap64 (a0_4 * a0_5))))]) (by simp [results, Try.results29, go_sem, d0, d1, d2, d3, f0, f1, f2, f3, hz, hz0]) rfl ⟨rfl, ?_⟩
  repeat (first | exact hb2 | refine Below.setCell ?_ (by simp) _ | refine Below.alloc ?_ (by simp; omega) _)
theorem arena_of.calls (a0_0 : Int) (a0_1 : Int) (a0_2 : Int) (a0_3 : Int) (a0_4 : Int) (a0_5 : Int) (a0_6 : Int) (a0_7 : Int) (a0_8 : Bool) (a0_9 : Int) (a0_10 : Int) (a0_11 : Int) (r1 : Int) (r2 : Int) (r3 : Int) (r4 : Int) (w : World) (h : arena_of.f a0_0 a0_1 a0_2 a0_3 a0_4 a0_5 a0_6 a0_7 a0_8 a0_9 a0_10 a0_11 = some (r1, r2, r3, r4)) :
    Calls Try.prog 29 #[.agg #[.int .i64 a0_0, .int .i64 a0_1, .int .i64 a0_2, .int .i64 a0_3, .int .i64 a0_4, .int .i64 a0_5, .int .i64 a0_6, .int .i64 a0_7, .bool a0_8, .int .i64 a0_9, .int .i64 a0_10, .int .i64 a0_11]] w fun e w' => e = .returned (.agg #[.int .i64 r1, .int .i64 r2, .int .i64 r3, .int .i64 r4]) ∧ Below w.heap.size w w' := by
  unfold arena_of.f at h
  obtain ⟨t, ht, h⟩ := Option.bind_eq_some_iff.mp h
  simp only [Option.some.injEq, Prod.mk.injEq] at h
  obtain ⟨rfl, rfl, rfl, rfl⟩ := h
  exact arena_of.walk a0_0 a0_1 a0_2 a0_3 a0_4 a0_5 a0_6 a0_7 a0_8 a0_9 a0_10 a0_11 t w ht
theorem arena_of.past (w : World) (o : Obj) (k : Nat) (h : k < w.heap.size) : (w.alloc o).heap[k]? = w.heap[k]? := Below.heap_alloc w o k h
theorem arena_of.last (w : World) (o : Obj) (k : Nat) (h : k = w.heap.size) : (w.alloc o).heap[k]? = some o := by
  subst h
  unfold World.alloc
  simp
theorem arena_of.new_0_2 (w : World) (o0 : Obj) (o1 : Obj) : ((w.alloc o0).alloc o1).heap[w.heap.size]? = some o0 := (arena_of.past _ _ _ (by first | (simp; done) | (simp; omega))).trans (arena_of.last w o0 _ (by simp))
theorem arena_of.new_1_2 (w : World) (o0 : Obj) (o1 : Obj) : ((w.alloc o0).alloc o1).heap[w.heap.size + 1]? = some o1 := arena_of.last (w.alloc o0) o1 _ (by simp)
theorem arena_of.new_0_3 (w : World) (o0 : Obj) (o1 : Obj) (o2 : Obj) : (((w.alloc o0).alloc o1).alloc o2).heap[w.heap.size]? = some o0 := (arena_of.past _ _ _ (by first | (simp; done) | (simp; omega))).trans ((arena_of.past _ _ _ (by first | (simp; done) | (simp; omega))).trans (arena_of.last w o0 _ (by simp)))
theorem arena_of.new_1_3 (w : World) (o0 : Obj) (o1 : Obj) (o2 : Obj) : (((w.alloc o0).alloc o1).alloc o2).heap[w.heap.size + 1]? = some o1 := (arena_of.past _ _ _ (by first | (simp; done) | (simp; omega))).trans (arena_of.last (w.alloc o0) o1 _ (by simp))
theorem arena_of.new_2_3 (w : World) (o0 : Obj) (o1 : Obj) (o2 : Obj) : (((w.alloc o0).alloc o1).alloc o2).heap[w.heap.size + 2]? = some o2 := arena_of.last ((w.alloc o0).alloc o1) o2 _ (by simp)
theorem arena_of.new_0_4 (w : World) (o0 : Obj) (o1 : Obj) (o2 : Obj) (o3 : Obj) : ((((w.alloc o0).alloc o1).alloc o2).alloc o3).heap[w.heap.size]? = some o0 := (arena_of.past _ _ _ (by first | (simp; done) | (simp; omega))).trans ((arena_of.past _ _ _ (by first | (simp; done) | (simp; omega))).trans ((arena_of.past _ _ _ (by first | (simp; done) | (simp; omega))).trans (arena_of.last w o0 _ (by simp))))
theorem arena_of.new_1_4 (w : World) (o0 : Obj) (o1 : Obj) (o2 : Obj) (o3 : Obj) : ((((w.alloc o0).alloc o1).alloc o2).alloc o3).heap[w.heap.size + 1]? = some o1 := (arena_of.past _ _ _ (by first | (simp; done) | (simp; omega))).trans ((arena_of.past _ _ _ (by first | (simp; done) | (simp; omega))).trans (arena_of.last (w.alloc o0) o1 _ (by simp)))
theorem arena_of.new_2_4 (w : World) (o0 : Obj) (o1 : Obj) (o2 : Obj) (o3 : Obj) : ((((w.alloc o0).alloc o1).alloc o2).alloc o3).heap[w.heap.size + 2]? = some o2 := (arena_of.past _ _ _ (by first | (simp; done) | (simp; omega))).trans (arena_of.last ((w.alloc o0).alloc o1) o2 _ (by simp))
theorem arena_of.new_3_4 (w : World) (o0 : Obj) (o1 : Obj) (o2 : Obj) (o3 : Obj) : ((((w.alloc o0).alloc o1).alloc o2).alloc o3).heap[w.heap.size + 3]? = some o3 := arena_of.last (((w.alloc o0).alloc o1).alloc o2) o3 _ (by simp)

/-! ### arena_Size: function 12 -/
def arena_Size.f (a0_0 : Int) (a0_1 : Int) (a0_2 : Int) (a0_3 : Int) (a0_4 : Int) (a0_5 : Int) (a0_6 : Int) (a0_7 : Int) (a0_8 : Bool) (a0_9 : Int) (a0_10 : Int) (a0_11 : Int) : Option Int := (arena_of.f a0_0 a0_1 a0_2 a0_3 a0_4 a0_5 a0_6 a0_7 a0_8 a0_9 a0_10 a0_11).bind fun b => some (wrap64 (b.2.2.2 + wrap64 (2 * a0_0)))
set_option maxHeartbeats 16000000 in
set_option maxRecDepth 100000 in
theorem arena_Size.walk (a0_0 a0_1 a0_2 a0_3 a0_4 a0_5 a0_6 a0_7 : Int) (a0_8 : Bool) (a0_9 a0_10 a0_11 : Int) (r1 r2 r3 r4 : Int) (w : World) (ho : arena_of.f a0_0 a0_1 a0_2 a0_3 a0_4 a0_5 a0_6 a0_7 a0_8 a0_9 a0_10 a0_11 = some (r1, r2, r3, r4)) :
    Calls Try.prog 12 #[.agg #[.int .i64 a0_0, .int .i64 a0_1, .int .i64 a0_2, .int .i64 a0_3, .int .i64 a0_4, .int .i64 a0_5, .int .i64 a0_6, .int .i64 a0_7, .bool a0_8, .int .i64 a0_9, .int .i64 a0_10, .int .i64 a0_11]] w fun e w' => e = .returned (.int .i64 (wrap64 (r4 + wrap64 (2 * a0_0)))) ∧ Below w.heap.size w w' := by
  have HO := Aside0.mk ho
  clear ho
  have hfl3 : ∀ w : World, (Instr.field 51 (.agg #[.int .i64 r1, .int .i64 r2, .int .i64 r3, .int .i64 r4]) 3).run Try.prog w = .ok (.int .i64 r4) w := fun _ => by kernel_rfl
  have HB := Aside0.mk (show Below w.heap.size w (w.alloc (.cells #[.int .i64 a0_0, .int .i64 a0_1, .int .i64 a0_2, .int .i64 a0_3, .int .i64 a0_4, .int .i64 a0_5, .int .i64 a0_6, .int .i64 a0_7, .bool a0_8, .int .i64 a0_9, .int .i64 a0_10, .int .i64 a0_11] 23)) from (Below.refl _ _).alloc (Nat.le_refl _) _)
  have Bz := Aside0.mk (arena_of.last w (.cells #[.int .i64 a0_0, .int .i64 a0_1, .int .i64 a0_2, .int .i64 a0_3, .int .i64 a0_4, .int .i64 a0_5, .int .i64 a0_6, .int .i64 a0_7, .bool a0_8, .int .i64 a0_9, .int .i64 a0_10, .int .i64 a0_11] 23) w.heap.size rfl)
  have hz_0 : (w.alloc (.cells #[.int .i64 a0_0, .int .i64 a0_1, .int .i64 a0_2, .int .i64 a0_3, .int .i64 a0_4, .int .i64 a0_5, .int .i64 a0_6, .int .i64 a0_7, .bool a0_8, .int .i64 a0_9, .int .i64 a0_10, .int .i64 a0_11] 23)).cell? ⟨w.heap.size, 0, none⟩ = some (.int .i64 a0_0) := (blk_cell Bz.out 0).trans rfl
  have hz_1 : (w.alloc (.cells #[.int .i64 a0_0, .int .i64 a0_1, .int .i64 a0_2, .int .i64 a0_3, .int .i64 a0_4, .int .i64 a0_5, .int .i64 a0_6, .int .i64 a0_7, .bool a0_8, .int .i64 a0_9, .int .i64 a0_10, .int .i64 a0_11] 23)).cell? ⟨w.heap.size, 1, none⟩ = some (.int .i64 a0_1) := (blk_cell Bz.out 1).trans rfl
  have hz_2 : (w.alloc (.cells #[.int .i64 a0_0, .int .i64 a0_1, .int .i64 a0_2, .int .i64 a0_3, .int .i64 a0_4, .int .i64 a0_5, .int .i64 a0_6, .int .i64 a0_7, .bool a0_8, .int .i64 a0_9, .int .i64 a0_10, .int .i64 a0_11] 23)).cell? ⟨w.heap.size, 2, none⟩ = some (.int .i64 a0_2) := (blk_cell Bz.out 2).trans rfl
  have hz_3 : (w.alloc (.cells #[.int .i64 a0_0, .int .i64 a0_1, .int .i64 a0_2, .int .i64 a0_3, .int .i64 a0_4, .int .i64 a0_5, .int .i64 a0_6, .int .i64 a0_7, .bool a0_8, .int .i64 a0_9, .int .i64 a0_10, .int .i64 a0_11] 23)).cell? ⟨w.heap.size, 3, none⟩ = some (.int .i64 a0_3) := (blk_cell Bz.out 3).trans rfl
  have hz_4 : (w.alloc (.cells #[.int .i64 a0_0, .int .i64 a0_1, .int .i64 a0_2, .int .i64 a0_3, .int .i64 a0_4, .int .i64 a0_5, .int .i64 a0_6, .int .i64 a0_7, .bool a0_8, .int .i64 a0_9, .int .i64 a0_10, .int .i64 a0_11] 23)).cell? ⟨w.heap.size, 4, none⟩ = some (.int .i64 a0_4) := (blk_cell Bz.out 4).trans rfl
  have hz_5 : (w.alloc (.cells #[.int .i64 a0_0, .int .i64 a0_1, .int .i64 a0_2, .int .i64 a0_3, .int .i64 a0_4, .int .i64 a0_5, .int .i64 a0_6, .int .i64 a0_7, .bool a0_8, .int .i64 a0_9, .int .i64 a0_10, .int .i64 a0_11] 23)).cell? ⟨w.heap.size, 5, none⟩ = some (.int .i64 a0_5) := (blk_cell Bz.out 5).trans rfl
  have hz_6 : (w.alloc (.cells #[.int .i64 a0_0, .int .i64 a0_1, .int .i64 a0_2, .int .i64 a0_3, .int .i64 a0_4, .int .i64 a0_5, .int .i64 a0_6, .int .i64 a0_7, .bool a0_8, .int .i64 a0_9, .int .i64 a0_10, .int .i64 a0_11] 23)).cell? ⟨w.heap.size, 6, none⟩ = some (.int .i64 a0_6) := (blk_cell Bz.out 6).trans rfl
  have hz_7 : (w.alloc (.cells #[.int .i64 a0_0, .int .i64 a0_1, .int .i64 a0_2, .int .i64 a0_3, .int .i64 a0_4, .int .i64 a0_5, .int .i64 a0_6, .int .i64 a0_7, .bool a0_8, .int .i64 a0_9, .int .i64 a0_10, .int .i64 a0_11] 23)).cell? ⟨w.heap.size, 7, none⟩ = some (.int .i64 a0_7) := (blk_cell Bz.out 7).trans rfl
  have hz_8 : (w.alloc (.cells #[.int .i64 a0_0, .int .i64 a0_1, .int .i64 a0_2, .int .i64 a0_3, .int .i64 a0_4, .int .i64 a0_5, .int .i64 a0_6, .int .i64 a0_7, .bool a0_8, .int .i64 a0_9, .int .i64 a0_10, .int .i64 a0_11] 23)).cell? ⟨w.heap.size, 8, none⟩ = some (.bool a0_8) := (blk_cell Bz.out 8).trans rfl
  have hz_9 : (w.alloc (.cells #[.int .i64 a0_0, .int .i64 a0_1, .int .i64 a0_2, .int .i64 a0_3, .int .i64 a0_4, .int .i64 a0_5, .int .i64 a0_6, .int .i64 a0_7, .bool a0_8, .int .i64 a0_9, .int .i64 a0_10, .int .i64 a0_11] 23)).cell? ⟨w.heap.size, 9, none⟩ = some (.int .i64 a0_9) := (blk_cell Bz.out 9).trans rfl
  have hz_10 : (w.alloc (.cells #[.int .i64 a0_0, .int .i64 a0_1, .int .i64 a0_2, .int .i64 a0_3, .int .i64 a0_4, .int .i64 a0_5, .int .i64 a0_6, .int .i64 a0_7, .bool a0_8, .int .i64 a0_9, .int .i64 a0_10, .int .i64 a0_11] 23)).cell? ⟨w.heap.size, 10, none⟩ = some (.int .i64 a0_10) := (blk_cell Bz.out 10).trans rfl
  have hz_11 : (w.alloc (.cells #[.int .i64 a0_0, .int .i64 a0_1, .int .i64 a0_2, .int .i64 a0_3, .int .i64 a0_4, .int .i64 a0_5, .int .i64 a0_6, .int .i64 a0_7, .bool a0_8, .int .i64 a0_9, .int .i64 a0_10, .int .i64 a0_11] 23)).cell? ⟨w.heap.size, 11, none⟩ = some (.int .i64 a0_11) := (blk_cell Bz.out 11).trans rfl
  go_enter Try.func12, Try.ntmps12
  go_wp2
  go_region_held3 (fun w' => w'.cell? ⟨w.heap.size, 0, none⟩ = some (.int .i64 a0_0) ∧ w'.cell? ⟨w.heap.size, 1, none⟩ = some (.int .i64 a0_1) ∧ w'.cell? ⟨w.heap.size, 2, none⟩ = some (.int .i64 a0_2) ∧ w'.cell? ⟨w.heap.size, 3, none⟩ = some (.int .i64 a0_3) ∧ w'.cell? ⟨w.heap.size, 4, none⟩ = some (.int .i64 a0_4) ∧ w'.cell? ⟨w.heap.size, 5, none⟩ = some (.int .i64 a0_5) ∧ w'.cell? ⟨w.heap.size, 6, none⟩ = some (.int .i64 a0_6) ∧ w'.cell? ⟨w.heap.size, 7, none⟩ = some (.int .i64 a0_7) ∧ w'.cell? ⟨w.heap.size, 8, none⟩ = some (.bool a0_8) ∧ w'.cell? ⟨w.heap.size, 9, none⟩ = some (.int .i64 a0_9) ∧ w'.cell? ⟨w.heap.size, 10, none⟩ = some (.int .i64 a0_10) ∧ w'.cell? ⟨w.heap.size, 11, none⟩ = some (.int .i64 a0_11)) (exact ⟨hz_0, hz_1, hz_2, hz_3, hz_4, hz_5, hz_6, hz_7, hz_8, hz_9, hz_10, hz_11⟩) (first | (go_at_call 29; refine (arena_of.calls a0_0 a0_1 a0_2 a0_3 a0_4 a0_5 a0_6 a0_7 a0_8 a0_9 a0_10 a0_11 r1 r2 r3 r4 _ HO.out).mono ?_; rintro e w1 ⟨rfl, hb⟩; have n0_ := Aside0.mk (below_step (by repeat (first | (with_reducible first | exact HB.out | apply below_alloc | apply pw_below_drewN | apply below_drew1) | exact HB.out)) hb); have m0_ := Aside0.mk (blk_below (g := w.heap.size) (o := .cells #[.int .i64 a0_0, .int .i64 a0_1, .int .i64 a0_2, .int .i64 a0_3, .int .i64 a0_4, .int .i64 a0_5, .int .i64 a0_6, .int .i64 a0_7, .bool a0_8, .int .i64 a0_9, .int .i64 a0_10, .int .i64 a0_11] 23 (0, 0)) (by (with_reducible repeat (first | exact Bz.out | refine blk_drewN ?_ _ | refine blk_drew ?_ | refine blk_alloc ?_ _))) hb); clear hz_0 hz_1 hz_2 hz_3 hz_4 hz_5 hz_6 hz_7 hz_8 hz_9 hz_10 hz_11; clear HB Bz; have HB := n0_; have Bz := m0_; clear n0_ m0_ hb; have hz_0 : w1.cell? ⟨w.heap.size, 0, none⟩ = some (.int .i64 a0_0) := (blk_cell Bz.out 0).trans rfl; have hz_1 : w1.cell? ⟨w.heap.size, 1, none⟩ = some (.int .i64 a0_1) := (blk_cell Bz.out 1).trans rfl; have hz_2 : w1.cell? ⟨w.heap.size, 2, none⟩ = some (.int .i64 a0_2) := (blk_cell Bz.out 2).trans rfl; have hz_3 : w1.cell? ⟨w.heap.size, 3, none⟩ = some (.int .i64 a0_3) := (blk_cell Bz.out 3).trans rfl; have hz_4 : w1.cell? ⟨w.heap.size, 4, none⟩ = some (.int .i64 a0_4) := (blk_cell Bz.out 4).trans rfl; have hz_5 : w1.cell? ⟨w.heap.size, 5, none⟩ = some (.int .i64 a0_5) := (blk_cell Bz.out 5).trans rfl; have hz_6 : w1.cell? ⟨w.heap.size, 6, none⟩ = some (.int .i64 a0_6) := (blk_cell Bz.out 6).trans rfl; have hz_7 : w1.cell? ⟨w.heap.size, 7, none⟩ = some (.int .i64 a0_7) := (blk_cell Bz.out 7).trans rfl; have hz_8 : w1.cell? ⟨w.heap.size, 8, none⟩ = some (.bool a0_8) := (blk_cell Bz.out 8).trans rfl; have hz_9 : w1.cell? ⟨w.heap.size, 9, none⟩ = some (.int .i64 a0_9) := (blk_cell Bz.out 9).trans rfl; have hz_10 : w1.cell? ⟨w.heap.size, 10, none⟩ = some (.int .i64 a0_10) := (blk_cell Bz.out 10).trans rfl; have hz_11 : w1.cell? ⟨w.heap.size, 11, none⟩ = some (.int .i64 a0_11) := (blk_cell Bz.out 11).trans rfl))
  all_goals go_wp2
  all_goals go_ret
  all_goals exact ⟨by first | rfl | (simp only [i64_w]; rfl) | (simp only [i64_w]; done) | (simp [i64_w]; done), by repeat (first | (with_reducible first | exact HB.out | apply below_alloc | apply pw_below_drewN | apply below_drew1) | exact HB.out)⟩
theorem arena_Size.calls (a0_0 : Int) (a0_1 : Int) (a0_2 : Int) (a0_3 : Int) (a0_4 : Int) (a0_5 : Int) (a0_6 : Int) (a0_7 : Int) (a0_8 : Bool) (a0_9 : Int) (a0_10 : Int) (a0_11 : Int) (r : Int) (w : World) (h : arena_Size.f a0_0 a0_1 a0_2 a0_3 a0_4 a0_5 a0_6 a0_7 a0_8 a0_9 a0_10 a0_11 = some r) :
    Calls Try.prog 12 #[.agg #[.int .i64 a0_0, .int .i64 a0_1, .int .i64 a0_2, .int .i64 a0_3, .int .i64 a0_4, .int .i64 a0_5, .int .i64 a0_6, .int .i64 a0_7, .bool a0_8, .int .i64 a0_9, .int .i64 a0_10, .int .i64 a0_11]] w fun e w' => e = .returned (.int .i64 r) ∧ Below w.heap.size w w' := by
  obtain ⟨⟨r1, r2, r3, r4⟩, ho, h⟩ := Option.bind_eq_some_iff.mp h
  obtain rfl := Option.some.inj h
  exact arena_Size.walk a0_0 a0_1 a0_2 a0_3 a0_4 a0_5 a0_6 a0_7 a0_8 a0_9 a0_10 a0_11 r1 r2 r3 r4 w ho

-- NOT PRINTED: function 31 (arena_within)

/-! ### arena_Cell: function 14 -/
set_option maxHeartbeats 16000000 in
set_option maxRecDepth 100000 in
theorem arena_Cell.clo_ (bc bi : Nat) (a0_0 a0_1 a0_2 a0_3 a0_4 a0_5 a0_6 a0_7 : Int) (a0_8 : Bool) (a0_9 a0_10 a0_11 : Int) (it r1 r2 r3 r4 : Int) (w : World) (Bbc_ : w.heap[bc]? = some (.cells #[.int .i64 a0_0, .int .i64 a0_1, .int .i64 a0_2, .int .i64 a0_3, .int .i64 a0_4, .int .i64 a0_5, .int .i64 a0_6, .int .i64 a0_7, .bool a0_8, .int .i64 a0_9, .int .i64 a0_10, .int .i64 a0_11] 23 (0, 0))) (Bbi_ : w.heap[bi]? = some (.cells #[.int .i64 it] 3 (0, 0))) (ho : arena_of.f a0_0 a0_1 a0_2 a0_3 a0_4 a0_5 a0_6 a0_7 a0_8 a0_9 a0_10 a0_11 = some (r1, r2, r3, r4)) :
    Calls Try.prog 32 #[.pointer (some ⟨bi, 0, none⟩), .pointer (some ⟨bc, 0, none⟩)] w fun e w' => e = .returned (.int .i64 (wrap64 (it * r3))) ∧ Below w.heap.size w w' := by
  have Bbc := Aside0.mk Bbc_
  have Bbi := Aside0.mk Bbi_
  clear Bbc_ Bbi_
  have HB := Aside0.mk (Below.refl w.heap.size w)
  have hu23 := Try.underlying23
  have hbc_0 : w.cell? ⟨bc, 0, none⟩ = some (.int .i64 a0_0) := (blk_cell Bbc.out 0).trans rfl
  have hbc_1 : w.cell? ⟨bc, 1, none⟩ = some (.int .i64 a0_1) := (blk_cell Bbc.out 1).trans rfl
  have hbc_2 : w.cell? ⟨bc, 2, none⟩ = some (.int .i64 a0_2) := (blk_cell Bbc.out 2).trans rfl
  have hbc_3 : w.cell? ⟨bc, 3, none⟩ = some (.int .i64 a0_3) := (blk_cell Bbc.out 3).trans rfl
  have hbc_4 : w.cell? ⟨bc, 4, none⟩ = some (.int .i64 a0_4) := (blk_cell Bbc.out 4).trans rfl
  have hbc_5 : w.cell? ⟨bc, 5, none⟩ = some (.int .i64 a0_5) := (blk_cell Bbc.out 5).trans rfl
  have hbc_6 : w.cell? ⟨bc, 6, none⟩ = some (.int .i64 a0_6) := (blk_cell Bbc.out 6).trans rfl
  have hbc_7 : w.cell? ⟨bc, 7, none⟩ = some (.int .i64 a0_7) := (blk_cell Bbc.out 7).trans rfl
  have hbc_8 : w.cell? ⟨bc, 8, none⟩ = some (.bool a0_8) := (blk_cell Bbc.out 8).trans rfl
  have hbc_9 : w.cell? ⟨bc, 9, none⟩ = some (.int .i64 a0_9) := (blk_cell Bbc.out 9).trans rfl
  have hbc_10 : w.cell? ⟨bc, 10, none⟩ = some (.int .i64 a0_10) := (blk_cell Bbc.out 10).trans rfl
  have hbc_11 : w.cell? ⟨bc, 11, none⟩ = some (.int .i64 a0_11) := (blk_cell Bbc.out 11).trans rfl
  have hbi_0 : w.cell? ⟨bi, 0, none⟩ = some (.int .i64 it) := (blk_cell Bbi.out 0).trans rfl
  have HO := Aside0.mk ho
  clear ho
  have hfl2 : ∀ w : World, (Instr.field 51 (.agg #[.int .i64 r1, .int .i64 r2, .int .i64 r3, .int .i64 r4]) 2).run Try.prog w = .ok (.int .i64 r3) w := fun _ => by kernel_rfl
  go_enter Try.func32, Try.ntmps32
  go_wp2
  go_region_held3 (fun w' => w'.cell? ⟨bc, 0, none⟩ = some (.int .i64 a0_0) ∧ w'.cell? ⟨bc, 1, none⟩ = some (.int .i64 a0_1) ∧ w'.cell? ⟨bc, 2, none⟩ = some (.int .i64 a0_2) ∧ w'.cell? ⟨bc, 3, none⟩ = some (.int .i64 a0_3) ∧ w'.cell? ⟨bc, 4, none⟩ = some (.int .i64 a0_4) ∧ w'.cell? ⟨bc, 5, none⟩ = some (.int .i64 a0_5) ∧ w'.cell? ⟨bc, 6, none⟩ = some (.int .i64 a0_6) ∧ w'.cell? ⟨bc, 7, none⟩ = some (.int .i64 a0_7) ∧ w'.cell? ⟨bc, 8, none⟩ = some (.bool a0_8) ∧ w'.cell? ⟨bc, 9, none⟩ = some (.int .i64 a0_9) ∧ w'.cell? ⟨bc, 10, none⟩ = some (.int .i64 a0_10) ∧ w'.cell? ⟨bc, 11, none⟩ = some (.int .i64 a0_11) ∧ w'.cell? ⟨bi, 0, none⟩ = some (.int .i64 it)) (exact ⟨hbc_0, hbc_1, hbc_2, hbc_3, hbc_4, hbc_5, hbc_6, hbc_7, hbc_8, hbc_9, hbc_10, hbc_11, hbi_0⟩) (first | (go_at_call 29; refine (arena_of.calls a0_0 a0_1 a0_2 a0_3 a0_4 a0_5 a0_6 a0_7 a0_8 a0_9 a0_10 a0_11 r1 r2 r3 r4 _ HO.out).mono ?_; rintro e w1 ⟨rfl, hb⟩; have n0_ := Aside0.mk (below_step (by repeat (first | (with_reducible first | exact HB.out | apply below_alloc | apply pw_below_drewN | apply below_drew1) | exact HB.out)) hb); have m0_ := Aside0.mk (blk_below (g := bc) (o := .cells #[.int .i64 a0_0, .int .i64 a0_1, .int .i64 a0_2, .int .i64 a0_3, .int .i64 a0_4, .int .i64 a0_5, .int .i64 a0_6, .int .i64 a0_7, .bool a0_8, .int .i64 a0_9, .int .i64 a0_10, .int .i64 a0_11] 23 (0, 0)) (by (with_reducible repeat (first | refine blk_drewN ?_ _ | refine blk_drew ?_ | refine blk_alloc ?_ _)); exact Bbc.out) hb); have m1_ := Aside0.mk (blk_below (g := bi) (o := .cells #[.int .i64 it] 3 (0, 0)) (by (with_reducible repeat (first | refine blk_drewN ?_ _ | refine blk_drew ?_ | refine blk_alloc ?_ _)); exact Bbi.out) hb); clear hbc_0 hbc_1 hbc_2 hbc_3 hbc_4 hbc_5 hbc_6 hbc_7 hbc_8 hbc_9 hbc_10 hbc_11; clear hbi_0; clear HB Bbc Bbi; have HB := n0_; have Bbc := m0_; have Bbi := m1_; clear n0_ m0_ m1_ hb; have hbc_0 : w1.cell? ⟨bc, 0, none⟩ = some (.int .i64 a0_0) := (blk_cell Bbc.out 0).trans rfl; have hbc_1 : w1.cell? ⟨bc, 1, none⟩ = some (.int .i64 a0_1) := (blk_cell Bbc.out 1).trans rfl; have hbc_2 : w1.cell? ⟨bc, 2, none⟩ = some (.int .i64 a0_2) := (blk_cell Bbc.out 2).trans rfl; have hbc_3 : w1.cell? ⟨bc, 3, none⟩ = some (.int .i64 a0_3) := (blk_cell Bbc.out 3).trans rfl; have hbc_4 : w1.cell? ⟨bc, 4, none⟩ = some (.int .i64 a0_4) := (blk_cell Bbc.out 4).trans rfl; have hbc_5 : w1.cell? ⟨bc, 5, none⟩ = some (.int .i64 a0_5) := (blk_cell Bbc.out 5).trans rfl; have hbc_6 : w1.cell? ⟨bc, 6, none⟩ = some (.int .i64 a0_6) := (blk_cell Bbc.out 6).trans rfl; have hbc_7 : w1.cell? ⟨bc, 7, none⟩ = some (.int .i64 a0_7) := (blk_cell Bbc.out 7).trans rfl; have hbc_8 : w1.cell? ⟨bc, 8, none⟩ = some (.bool a0_8) := (blk_cell Bbc.out 8).trans rfl; have hbc_9 : w1.cell? ⟨bc, 9, none⟩ = some (.int .i64 a0_9) := (blk_cell Bbc.out 9).trans rfl; have hbc_10 : w1.cell? ⟨bc, 10, none⟩ = some (.int .i64 a0_10) := (blk_cell Bbc.out 10).trans rfl; have hbc_11 : w1.cell? ⟨bc, 11, none⟩ = some (.int .i64 a0_11) := (blk_cell Bbc.out 11).trans rfl; have hbi_0 : w1.cell? ⟨bi, 0, none⟩ = some (.int .i64 it) := (blk_cell Bbi.out 0).trans rfl))
  all_goals go_wp2
  all_goals go_ret
  all_goals exact ⟨by first | rfl | (simp only [i64_w]; rfl) | (simp only [i64_w]; done) | (simp [i64_w]; done), by repeat (first | (with_reducible first | exact HB.out | apply below_alloc | apply pw_below_drewN | apply below_drew1) | exact HB.out)⟩
def arena_Cell.clof (a0_0 : Int) (a0_1 : Int) (a0_2 : Int) (a0_3 : Int) (a0_4 : Int) (a0_5 : Int) (a0_6 : Int) (a0_7 : Int) (a0_8 : Bool) (a0_9 : Int) (a0_10 : Int) (a0_11 : Int) (it : Int) : Option Int := (arena_of.f a0_0 a0_1 a0_2 a0_3 a0_4 a0_5 a0_6 a0_7 a0_8 a0_9 a0_10 a0_11).bind fun b => some (wrap64 (it * b.2.2.1))
theorem arena_Cell.clo (bc bi : Nat) (a0_0 a0_1 a0_2 a0_3 a0_4 a0_5 a0_6 a0_7 : Int) (a0_8 : Bool) (a0_9 a0_10 a0_11 : Int) (it r : Int) (w : World) (Bbc_ : w.heap[bc]? = some (.cells #[.int .i64 a0_0, .int .i64 a0_1, .int .i64 a0_2, .int .i64 a0_3, .int .i64 a0_4, .int .i64 a0_5, .int .i64 a0_6, .int .i64 a0_7, .bool a0_8, .int .i64 a0_9, .int .i64 a0_10, .int .i64 a0_11] 23 (0, 0))) (Bbi_ : w.heap[bi]? = some (.cells #[.int .i64 it] 3 (0, 0))) (h : arena_Cell.clof a0_0 a0_1 a0_2 a0_3 a0_4 a0_5 a0_6 a0_7 a0_8 a0_9 a0_10 a0_11 it = some r) :
    Calls Try.prog 32 #[.pointer (some ⟨bi, 0, none⟩), .pointer (some ⟨bc, 0, none⟩)] w fun e w' => e = .returned (.int .i64 r) ∧ Below w.heap.size w w' := by
  obtain ⟨⟨r1, r2, r3, r4⟩, ho, h⟩ := Option.bind_eq_some_iff.mp h
  obtain rfl := Option.some.inj h
  exact arena_Cell.clo_ bc bi a0_0 a0_1 a0_2 a0_3 a0_4 a0_5 a0_6 a0_7 a0_8 a0_9 a0_10 a0_11 it r1 r2 r3 r4 w Bbc_ Bbi_ ho
set_option maxHeartbeats 16000000 in
set_option maxRecDepth 100000 in
theorem arena_Cell.withina (n l m r : Int) (cap : Array Value) (w : World) (h1 : n < l) :
    Calls Try.prog 31 #[.int .i64 n, .int .i64 l, .int .i64 m, .func (.func 32) #[] cap] w fun e w' => e = .returned (.int .i64 (-1)) ∧ Below w.heap.size w w' := by
  go_enter Try.func31, Try.ntmps31
  go_wp2
  go_ret
  exact ⟨rfl, Below.refl _ _⟩
set_option maxHeartbeats 16000000 in
set_option maxRecDepth 100000 in
theorem arena_Cell.withinb (n l m r : Int) (cap : Array Value) (w : World) (h1 : ¬ n < l) (h2 : n ≥ m) :
    Calls Try.prog 31 #[.int .i64 n, .int .i64 l, .int .i64 m, .func (.func 32) #[] cap] w fun e w' => e = .returned (.int .i64 (-1)) ∧ Below w.heap.size w w' := by
  go_enter Try.func31, Try.ntmps31
  go_wp2
  go_ret
  exact ⟨rfl, Below.refl _ _⟩
set_option maxHeartbeats 16000000 in
set_option maxRecDepth 100000 in
theorem arena_Cell.withinc (n l m r : Int) (cap : Array Value) (w : World) (h1 : ¬ n < l) (h2 : ¬ n ≥ m) (hK : Calls Try.prog 32 cap w fun e w' => e = .returned (.int .i64 r) ∧ Below w.heap.size w w') :
    Calls Try.prog 31 #[.int .i64 n, .int .i64 l, .int .i64 m, .func (.func 32) #[] cap] w fun e w' => e = .returned (.int .i64 (r)) ∧ Below w.heap.size w w' := by
  have HK := Aside0.mk hK
  clear hK
  go_enter Try.func31, Try.ntmps31
  go_wp2_with fail
  refine HK.out.mono ?_
  rintro e w1 ⟨rfl, hb⟩
  go_wp2
  go_ret
  exact ⟨rfl, hb⟩
theorem arena_Cell.within (n l m r q : Int) (cap : Array Value) (w : World) (hq : q = if n < l ∨ n ≥ m then -1 else r) (hK : ¬ (n < l ∨ n ≥ m) → Calls Try.prog 32 cap w fun e w' => e = .returned (.int .i64 r) ∧ Below w.heap.size w w') :
    Calls Try.prog 31 #[.int .i64 n, .int .i64 l, .int .i64 m, .func (.func 32) #[] cap] w fun e w' => e = .returned (.int .i64 q) ∧ Below w.heap.size w w' := by
  by_cases h1 : n < l
  · rw [hq, if_pos (Or.inl h1)]; exact arena_Cell.withina n l m r cap w h1
  by_cases h2 : n ≥ m
  · rw [hq, if_pos (Or.inr h2)]; exact arena_Cell.withinb n l m r cap w h1 h2
  have h3 : ¬ (n < l ∨ n ≥ m) := by omega
  rw [hq, if_neg h3]; exact arena_Cell.withinc n l m r cap w h1 h2 (hK h3)
def arena_Cell.f (a0_0 : Int) (a0_1 : Int) (a0_2 : Int) (a0_3 : Int) (a0_4 : Int) (a0_5 : Int) (a0_6 : Int) (a0_7 : Int) (a0_8 : Bool) (a0_9 : Int) (a0_10 : Int) (a0_11 : Int) (it : Int) : Option Int := if it < 0 ∨ it ≥ a0_1 then some (-1) else arena_Cell.clof a0_0 a0_1 a0_2 a0_3 a0_4 a0_5 a0_6 a0_7 a0_8 a0_9 a0_10 a0_11 it
set_option maxHeartbeats 16000000 in
set_option maxRecDepth 100000 in
theorem arena_Cell.walk (a0_0 a0_1 a0_2 a0_3 a0_4 a0_5 a0_6 a0_7 : Int) (a0_8 : Bool) (a0_9 a0_10 a0_11 : Int) (it : Int) (r q : Int) (w : World) (hq : q = if it < 0 ∨ it ≥ a0_1 then -1 else r) (hr : ¬ (it < 0 ∨ it ≥ a0_1) → arena_Cell.clof a0_0 a0_1 a0_2 a0_3 a0_4 a0_5 a0_6 a0_7 a0_8 a0_9 a0_10 a0_11 it = some r) :
    Calls Try.prog 14 #[.agg #[.int .i64 a0_0, .int .i64 a0_1, .int .i64 a0_2, .int .i64 a0_3, .int .i64 a0_4, .int .i64 a0_5, .int .i64 a0_6, .int .i64 a0_7, .bool a0_8, .int .i64 a0_9, .int .i64 a0_10, .int .i64 a0_11], .int .i64 it] w fun e w' => e = .returned (.int .i64 q) ∧ Below w.heap.size w w' := by
  have HB := Aside0.mk (show Below w.heap.size w ((w.alloc (.cells #[.int .i64 a0_0, .int .i64 a0_1, .int .i64 a0_2, .int .i64 a0_3, .int .i64 a0_4, .int .i64 a0_5, .int .i64 a0_6, .int .i64 a0_7, .bool a0_8, .int .i64 a0_9, .int .i64 a0_10, .int .i64 a0_11] 23)).alloc (.cells #[.int .i64 it] 3)) from by repeat (first | exact Below.refl _ _ | refine Below.alloc ?_ (by first | (simp; done) | (simp; omega)) _))
  have HK := Aside0.mk (fun hn : ¬ (it < 0 ∨ it ≥ a0_1) => arena_Cell.clo (w.heap.size) (w.heap.size + 1) a0_0 a0_1 a0_2 a0_3 a0_4 a0_5 a0_6 a0_7 a0_8 a0_9 a0_10 a0_11 it r ((w.alloc (.cells #[.int .i64 a0_0, .int .i64 a0_1, .int .i64 a0_2, .int .i64 a0_3, .int .i64 a0_4, .int .i64 a0_5, .int .i64 a0_6, .int .i64 a0_7, .bool a0_8, .int .i64 a0_9, .int .i64 a0_10, .int .i64 a0_11] 23)).alloc (.cells #[.int .i64 it] 3)) (arena_of.new_0_2 _ _ _) (arena_of.new_1_2 _ _ _) (hr hn))
  have HQ := Aside0.mk hq
  clear hq hr
  go_enter Try.func14, Try.ntmps14
  go_wp2_with fail
  refine (arena_Cell.within it 0 a0_1 r q #[.pointer (some ⟨w.heap.size + 1, 0, none⟩), .pointer (some ⟨w.heap.size, 0, none⟩)] _ HQ.out HK.out).mono ?_
  rintro e w1 ⟨rfl, hb⟩
  go_wp2
  go_ret
  exact ⟨rfl, below_step HB.out hb⟩
theorem arena_Cell.calls (a0_0 : Int) (a0_1 : Int) (a0_2 : Int) (a0_3 : Int) (a0_4 : Int) (a0_5 : Int) (a0_6 : Int) (a0_7 : Int) (a0_8 : Bool) (a0_9 : Int) (a0_10 : Int) (a0_11 : Int) (it : Int) (r : Int) (w : World) (h : arena_Cell.f a0_0 a0_1 a0_2 a0_3 a0_4 a0_5 a0_6 a0_7 a0_8 a0_9 a0_10 a0_11 it = some r) :
    Calls Try.prog 14 #[.agg #[.int .i64 a0_0, .int .i64 a0_1, .int .i64 a0_2, .int .i64 a0_3, .int .i64 a0_4, .int .i64 a0_5, .int .i64 a0_6, .int .i64 a0_7, .bool a0_8, .int .i64 a0_9, .int .i64 a0_10, .int .i64 a0_11], .int .i64 it] w fun e w' => e = .returned (.int .i64 r) ∧ Below w.heap.size w w' := by
  unfold arena_Cell.f at h
  by_cases hn : it < 0 ∨ it ≥ a0_1
  · rw [if_pos hn] at h; obtain rfl := Option.some.inj h; exact arena_Cell.walk a0_0 a0_1 a0_2 a0_3 a0_4 a0_5 a0_6 a0_7 a0_8 a0_9 a0_10 a0_11 it 0 (-1) w (by rw [if_pos hn]) (fun hh => absurd hn hh)
  · rw [if_neg hn] at h; exact arena_Cell.walk a0_0 a0_1 a0_2 a0_3 a0_4 a0_5 a0_6 a0_7 a0_8 a0_9 a0_10 a0_11 it r r w (by rw [if_neg hn]) (fun _ => h)

/-! ### arena_Node: function 16 -/
set_option maxHeartbeats 16000000 in
set_option maxRecDepth 100000 in
theorem arena_Node.leaf_ (bc bi bn : Nat) (a0_0 a0_1 a0_2 a0_3 a0_4 a0_5 a0_6 a0_7 : Int) (a0_8 : Bool) (a0_9 a0_10 a0_11 : Int) (it nn r1 r2 r3 r4 : Int) (w : World) (Bbc_ : w.heap[bc]? = some (.cells #[.int .i64 a0_0, .int .i64 a0_1, .int .i64 a0_2, .int .i64 a0_3, .int .i64 a0_4, .int .i64 a0_5, .int .i64 a0_6, .int .i64 a0_7, .bool a0_8, .int .i64 a0_9, .int .i64 a0_10, .int .i64 a0_11] 23 (0, 0))) (Bbi_ : w.heap[bi]? = some (.cells #[.int .i64 it] 3 (0, 0))) (Bbn_ : w.heap[bn]? = some (.cells #[.int .i64 nn] 3 (0, 0))) (ho : arena_of.f a0_0 a0_1 a0_2 a0_3 a0_4 a0_5 a0_6 a0_7 a0_8 a0_9 a0_10 a0_11 = some (r1, r2, r3, r4)) :
    Calls Try.prog 34 #[.pointer (some ⟨bi, 0, none⟩), .pointer (some ⟨bc, 0, none⟩), .pointer (some ⟨bn, 0, none⟩)] w fun e w' => e = .returned (.int .i64 (wrap64 (wrap64 (it * r3) + nn))) ∧ Below w.heap.size w w' := by
  have Bbc := Aside0.mk Bbc_
  have Bbi := Aside0.mk Bbi_
  have Bbn := Aside0.mk Bbn_
  clear Bbc_ Bbi_ Bbn_
  have HB := Aside0.mk (Below.refl w.heap.size w)
  have hu23 := Try.underlying23
  have hbc_0 : w.cell? ⟨bc, 0, none⟩ = some (.int .i64 a0_0) := (blk_cell Bbc.out 0).trans rfl
  have hbc_1 : w.cell? ⟨bc, 1, none⟩ = some (.int .i64 a0_1) := (blk_cell Bbc.out 1).trans rfl
  have hbc_2 : w.cell? ⟨bc, 2, none⟩ = some (.int .i64 a0_2) := (blk_cell Bbc.out 2).trans rfl
  have hbc_3 : w.cell? ⟨bc, 3, none⟩ = some (.int .i64 a0_3) := (blk_cell Bbc.out 3).trans rfl
  have hbc_4 : w.cell? ⟨bc, 4, none⟩ = some (.int .i64 a0_4) := (blk_cell Bbc.out 4).trans rfl
  have hbc_5 : w.cell? ⟨bc, 5, none⟩ = some (.int .i64 a0_5) := (blk_cell Bbc.out 5).trans rfl
  have hbc_6 : w.cell? ⟨bc, 6, none⟩ = some (.int .i64 a0_6) := (blk_cell Bbc.out 6).trans rfl
  have hbc_7 : w.cell? ⟨bc, 7, none⟩ = some (.int .i64 a0_7) := (blk_cell Bbc.out 7).trans rfl
  have hbc_8 : w.cell? ⟨bc, 8, none⟩ = some (.bool a0_8) := (blk_cell Bbc.out 8).trans rfl
  have hbc_9 : w.cell? ⟨bc, 9, none⟩ = some (.int .i64 a0_9) := (blk_cell Bbc.out 9).trans rfl
  have hbc_10 : w.cell? ⟨bc, 10, none⟩ = some (.int .i64 a0_10) := (blk_cell Bbc.out 10).trans rfl
  have hbc_11 : w.cell? ⟨bc, 11, none⟩ = some (.int .i64 a0_11) := (blk_cell Bbc.out 11).trans rfl
  have hbi_0 : w.cell? ⟨bi, 0, none⟩ = some (.int .i64 it) := (blk_cell Bbi.out 0).trans rfl
  have hbn_0 : w.cell? ⟨bn, 0, none⟩ = some (.int .i64 nn) := (blk_cell Bbn.out 0).trans rfl
  have HO := Aside0.mk ho
  clear ho
  have hfl2 : ∀ w : World, (Instr.field 51 (.agg #[.int .i64 r1, .int .i64 r2, .int .i64 r3, .int .i64 r4]) 2).run Try.prog w = .ok (.int .i64 r3) w := fun _ => by kernel_rfl
  go_enter Try.func34, Try.ntmps34
  go_wp2
  go_region_held3 (fun w' => w'.cell? ⟨bc, 0, none⟩ = some (.int .i64 a0_0) ∧ w'.cell? ⟨bc, 1, none⟩ = some (.int .i64 a0_1) ∧ w'.cell? ⟨bc, 2, none⟩ = some (.int .i64 a0_2) ∧ w'.cell? ⟨bc, 3, none⟩ = some (.int .i64 a0_3) ∧ w'.cell? ⟨bc, 4, none⟩ = some (.int .i64 a0_4) ∧ w'.cell? ⟨bc, 5, none⟩ = some (.int .i64 a0_5) ∧ w'.cell? ⟨bc, 6, none⟩ = some (.int .i64 a0_6) ∧ w'.cell? ⟨bc, 7, none⟩ = some (.int .i64 a0_7) ∧ w'.cell? ⟨bc, 8, none⟩ = some (.bool a0_8) ∧ w'.cell? ⟨bc, 9, none⟩ = some (.int .i64 a0_9) ∧ w'.cell? ⟨bc, 10, none⟩ = some (.int .i64 a0_10) ∧ w'.cell? ⟨bc, 11, none⟩ = some (.int .i64 a0_11) ∧ w'.cell? ⟨bi, 0, none⟩ = some (.int .i64 it) ∧ w'.cell? ⟨bn, 0, none⟩ = some (.int .i64 nn)) (exact ⟨hbc_0, hbc_1, hbc_2, hbc_3, hbc_4, hbc_5, hbc_6, hbc_7, hbc_8, hbc_9, hbc_10, hbc_11, hbi_0, hbn_0⟩) (first | (go_at_call 29; refine (arena_of.calls a0_0 a0_1 a0_2 a0_3 a0_4 a0_5 a0_6 a0_7 a0_8 a0_9 a0_10 a0_11 r1 r2 r3 r4 _ HO.out).mono ?_; rintro e w1 ⟨rfl, hb⟩; have n0_ := Aside0.mk (below_step (by repeat (first | (with_reducible first | exact HB.out | apply below_alloc | apply pw_below_drewN | apply below_drew1) | exact HB.out)) hb); have m0_ := Aside0.mk (blk_below (g := bc) (o := .cells #[.int .i64 a0_0, .int .i64 a0_1, .int .i64 a0_2, .int .i64 a0_3, .int .i64 a0_4, .int .i64 a0_5, .int .i64 a0_6, .int .i64 a0_7, .bool a0_8, .int .i64 a0_9, .int .i64 a0_10, .int .i64 a0_11] 23 (0, 0)) (by (with_reducible repeat (first | refine blk_drewN ?_ _ | refine blk_drew ?_ | refine blk_alloc ?_ _)); exact Bbc.out) hb); have m1_ := Aside0.mk (blk_below (g := bi) (o := .cells #[.int .i64 it] 3 (0, 0)) (by (with_reducible repeat (first | refine blk_drewN ?_ _ | refine blk_drew ?_ | refine blk_alloc ?_ _)); exact Bbi.out) hb); have m2_ := Aside0.mk (blk_below (g := bn) (o := .cells #[.int .i64 nn] 3 (0, 0)) (by (with_reducible repeat (first | refine blk_drewN ?_ _ | refine blk_drew ?_ | refine blk_alloc ?_ _)); exact Bbn.out) hb); clear hbc_0 hbc_1 hbc_2 hbc_3 hbc_4 hbc_5 hbc_6 hbc_7 hbc_8 hbc_9 hbc_10 hbc_11; clear hbi_0; clear hbn_0; clear HB Bbc Bbi Bbn; have HB := n0_; have Bbc := m0_; have Bbi := m1_; have Bbn := m2_; clear n0_ m0_ m1_ m2_ hb; have hbc_0 : w1.cell? ⟨bc, 0, none⟩ = some (.int .i64 a0_0) := (blk_cell Bbc.out 0).trans rfl; have hbc_1 : w1.cell? ⟨bc, 1, none⟩ = some (.int .i64 a0_1) := (blk_cell Bbc.out 1).trans rfl; have hbc_2 : w1.cell? ⟨bc, 2, none⟩ = some (.int .i64 a0_2) := (blk_cell Bbc.out 2).trans rfl; have hbc_3 : w1.cell? ⟨bc, 3, none⟩ = some (.int .i64 a0_3) := (blk_cell Bbc.out 3).trans rfl; have hbc_4 : w1.cell? ⟨bc, 4, none⟩ = some (.int .i64 a0_4) := (blk_cell Bbc.out 4).trans rfl; have hbc_5 : w1.cell? ⟨bc, 5, none⟩ = some (.int .i64 a0_5) := (blk_cell Bbc.out 5).trans rfl; have hbc_6 : w1.cell? ⟨bc, 6, none⟩ = some (.int .i64 a0_6) := (blk_cell Bbc.out 6).trans rfl; have hbc_7 : w1.cell? ⟨bc, 7, none⟩ = some (.int .i64 a0_7) := (blk_cell Bbc.out 7).trans rfl; have hbc_8 : w1.cell? ⟨bc, 8, none⟩ = some (.bool a0_8) := (blk_cell Bbc.out 8).trans rfl; have hbc_9 : w1.cell? ⟨bc, 9, none⟩ = some (.int .i64 a0_9) := (blk_cell Bbc.out 9).trans rfl; have hbc_10 : w1.cell? ⟨bc, 10, none⟩ = some (.int .i64 a0_10) := (blk_cell Bbc.out 10).trans rfl; have hbc_11 : w1.cell? ⟨bc, 11, none⟩ = some (.int .i64 a0_11) := (blk_cell Bbc.out 11).trans rfl; have hbi_0 : w1.cell? ⟨bi, 0, none⟩ = some (.int .i64 it) := (blk_cell Bbi.out 0).trans rfl; have hbn_0 : w1.cell? ⟨bn, 0, none⟩ = some (.int .i64 nn) := (blk_cell Bbn.out 0).trans rfl))
  all_goals go_wp2
  all_goals go_ret
  all_goals exact ⟨by first | rfl | (simp only [i64_w]; rfl) | (simp only [i64_w]; done) | (simp [i64_w]; done), by repeat (first | (with_reducible first | exact HB.out | apply below_alloc | apply pw_below_drewN | apply below_drew1) | exact HB.out)⟩
def arena_Node.leaff (a0_0 : Int) (a0_1 : Int) (a0_2 : Int) (a0_3 : Int) (a0_4 : Int) (a0_5 : Int) (a0_6 : Int) (a0_7 : Int) (a0_8 : Bool) (a0_9 : Int) (a0_10 : Int) (a0_11 : Int) (it nn : Int) : Option Int := (arena_of.f a0_0 a0_1 a0_2 a0_3 a0_4 a0_5 a0_6 a0_7 a0_8 a0_9 a0_10 a0_11).bind fun b => some (wrap64 (wrap64 (it * b.2.2.1) + nn))
theorem arena_Node.leaf (bc bi bn : Nat) (a0_0 a0_1 a0_2 a0_3 a0_4 a0_5 a0_6 a0_7 : Int) (a0_8 : Bool) (a0_9 a0_10 a0_11 : Int) (it nn r : Int) (w : World) (Bbc_ : w.heap[bc]? = some (.cells #[.int .i64 a0_0, .int .i64 a0_1, .int .i64 a0_2, .int .i64 a0_3, .int .i64 a0_4, .int .i64 a0_5, .int .i64 a0_6, .int .i64 a0_7, .bool a0_8, .int .i64 a0_9, .int .i64 a0_10, .int .i64 a0_11] 23 (0, 0))) (Bbi_ : w.heap[bi]? = some (.cells #[.int .i64 it] 3 (0, 0))) (Bbn_ : w.heap[bn]? = some (.cells #[.int .i64 nn] 3 (0, 0))) (h : arena_Node.leaff a0_0 a0_1 a0_2 a0_3 a0_4 a0_5 a0_6 a0_7 a0_8 a0_9 a0_10 a0_11 it nn = some r) :
    Calls Try.prog 34 #[.pointer (some ⟨bi, 0, none⟩), .pointer (some ⟨bc, 0, none⟩), .pointer (some ⟨bn, 0, none⟩)] w fun e w' => e = .returned (.int .i64 r) ∧ Below w.heap.size w w' := by
  obtain ⟨⟨r1, r2, r3, r4⟩, ho, h⟩ := Option.bind_eq_some_iff.mp h
  obtain rfl := Option.some.inj h
  exact arena_Node.leaf_ bc bi bn a0_0 a0_1 a0_2 a0_3 a0_4 a0_5 a0_6 a0_7 a0_8 a0_9 a0_10 a0_11 it nn r1 r2 r3 r4 w Bbc_ Bbi_ Bbn_ ho
set_option maxHeartbeats 16000000 in
set_option maxRecDepth 100000 in
theorem arena_Node.within2a (n l m r : Int) (cap : Array Value) (w : World) (h1 : n < l) :
    Calls Try.prog 31 #[.int .i64 n, .int .i64 l, .int .i64 m, .func (.func 34) #[] cap] w fun e w' => e = .returned (.int .i64 (-1)) ∧ Below w.heap.size w w' := by
  go_enter Try.func31, Try.ntmps31
  go_wp2
  go_ret
  exact ⟨rfl, Below.refl _ _⟩
set_option maxHeartbeats 16000000 in
set_option maxRecDepth 100000 in
theorem arena_Node.within2b (n l m r : Int) (cap : Array Value) (w : World) (h1 : ¬ n < l) (h2 : n ≥ m) :
    Calls Try.prog 31 #[.int .i64 n, .int .i64 l, .int .i64 m, .func (.func 34) #[] cap] w fun e w' => e = .returned (.int .i64 (-1)) ∧ Below w.heap.size w w' := by
  go_enter Try.func31, Try.ntmps31
  go_wp2
  go_ret
  exact ⟨rfl, Below.refl _ _⟩
set_option maxHeartbeats 16000000 in
set_option maxRecDepth 100000 in
theorem arena_Node.within2c (n l m r : Int) (cap : Array Value) (w : World) (h1 : ¬ n < l) (h2 : ¬ n ≥ m) (hK : Calls Try.prog 34 cap w fun e w' => e = .returned (.int .i64 r) ∧ Below w.heap.size w w') :
    Calls Try.prog 31 #[.int .i64 n, .int .i64 l, .int .i64 m, .func (.func 34) #[] cap] w fun e w' => e = .returned (.int .i64 (r)) ∧ Below w.heap.size w w' := by
  have HK := Aside0.mk hK
  clear hK
  go_enter Try.func31, Try.ntmps31
  go_wp2_with fail
  refine HK.out.mono ?_
  rintro e w1 ⟨rfl, hb⟩
  go_wp2
  go_ret
  exact ⟨rfl, hb⟩
theorem arena_Node.within2 (n l m r q : Int) (cap : Array Value) (w : World) (hq : q = if n < l ∨ n ≥ m then -1 else r) (hK : ¬ (n < l ∨ n ≥ m) → Calls Try.prog 34 cap w fun e w' => e = .returned (.int .i64 r) ∧ Below w.heap.size w w') :
    Calls Try.prog 31 #[.int .i64 n, .int .i64 l, .int .i64 m, .func (.func 34) #[] cap] w fun e w' => e = .returned (.int .i64 q) ∧ Below w.heap.size w w' := by
  by_cases h1 : n < l
  · rw [hq, if_pos (Or.inl h1)]; exact arena_Node.within2a n l m r cap w h1
  by_cases h2 : n ≥ m
  · rw [hq, if_pos (Or.inr h2)]; exact arena_Node.within2b n l m r cap w h1 h2
  have h3 : ¬ (n < l ∨ n ≥ m) := by omega
  rw [hq, if_neg h3]; exact arena_Node.within2c n l m r cap w h1 h2 (hK h3)
set_option maxHeartbeats 16000000 in
set_option maxRecDepth 100000 in
theorem arena_Node.clo_ (bc bi bn : Nat) (a0_0 a0_1 a0_2 a0_3 a0_4 a0_5 a0_6 a0_7 : Int) (a0_8 : Bool) (a0_9 a0_10 a0_11 : Int) (it nn t r q : Int) (w : World) (Bbc_ : w.heap[bc]? = some (.cells #[.int .i64 a0_0, .int .i64 a0_1, .int .i64 a0_2, .int .i64 a0_3, .int .i64 a0_4, .int .i64 a0_5, .int .i64 a0_6, .int .i64 a0_7, .bool a0_8, .int .i64 a0_9, .int .i64 a0_10, .int .i64 a0_11] 23 (0, 0))) (Bbi_ : w.heap[bi]? = some (.cells #[.int .i64 it] 3 (0, 0))) (Bbn_ : w.heap[bn]? = some (.cells #[.int .i64 nn] 3 (0, 0))) (hN : arena_Nodes.f a0_0 a0_1 a0_2 a0_3 a0_4 a0_5 a0_6 a0_7 a0_8 a0_9 a0_10 a0_11 = some t) (hq : q = if nn < 1 ∨ nn ≥ wrap64 (1 + t) then -1 else r) (hr : ¬ (nn < 1 ∨ nn ≥ wrap64 (1 + t)) → arena_Node.leaff a0_0 a0_1 a0_2 a0_3 a0_4 a0_5 a0_6 a0_7 a0_8 a0_9 a0_10 a0_11 it nn = some r) :
    Calls Try.prog 33 #[.pointer (some ⟨bn, 0, none⟩), .pointer (some ⟨bc, 0, none⟩), .pointer (some ⟨bi, 0, none⟩)] w fun e w' => e = .returned (.int .i64 (q)) ∧ Below w.heap.size w w' := by
  have Bbc := Aside0.mk Bbc_
  have Bbi := Aside0.mk Bbi_
  have Bbn := Aside0.mk Bbn_
  clear Bbc_ Bbi_ Bbn_
  have HB := Aside0.mk (Below.refl w.heap.size w)
  have hu23 := Try.underlying23
  have hbc_0 : w.cell? ⟨bc, 0, none⟩ = some (.int .i64 a0_0) := (blk_cell Bbc.out 0).trans rfl
  have hbc_1 : w.cell? ⟨bc, 1, none⟩ = some (.int .i64 a0_1) := (blk_cell Bbc.out 1).trans rfl
  have hbc_2 : w.cell? ⟨bc, 2, none⟩ = some (.int .i64 a0_2) := (blk_cell Bbc.out 2).trans rfl
  have hbc_3 : w.cell? ⟨bc, 3, none⟩ = some (.int .i64 a0_3) := (blk_cell Bbc.out 3).trans rfl
  have hbc_4 : w.cell? ⟨bc, 4, none⟩ = some (.int .i64 a0_4) := (blk_cell Bbc.out 4).trans rfl
  have hbc_5 : w.cell? ⟨bc, 5, none⟩ = some (.int .i64 a0_5) := (blk_cell Bbc.out 5).trans rfl
  have hbc_6 : w.cell? ⟨bc, 6, none⟩ = some (.int .i64 a0_6) := (blk_cell Bbc.out 6).trans rfl
  have hbc_7 : w.cell? ⟨bc, 7, none⟩ = some (.int .i64 a0_7) := (blk_cell Bbc.out 7).trans rfl
  have hbc_8 : w.cell? ⟨bc, 8, none⟩ = some (.bool a0_8) := (blk_cell Bbc.out 8).trans rfl
  have hbc_9 : w.cell? ⟨bc, 9, none⟩ = some (.int .i64 a0_9) := (blk_cell Bbc.out 9).trans rfl
  have hbc_10 : w.cell? ⟨bc, 10, none⟩ = some (.int .i64 a0_10) := (blk_cell Bbc.out 10).trans rfl
  have hbc_11 : w.cell? ⟨bc, 11, none⟩ = some (.int .i64 a0_11) := (blk_cell Bbc.out 11).trans rfl
  have hbi_0 : w.cell? ⟨bi, 0, none⟩ = some (.int .i64 it) := (blk_cell Bbi.out 0).trans rfl
  have hbn_0 : w.cell? ⟨bn, 0, none⟩ = some (.int .i64 nn) := (blk_cell Bbn.out 0).trans rfl
  have HN := Aside0.mk hN
  have HQ := Aside0.mk hq
  have HR := Aside0.mk hr
  clear hN hq hr
  go_enter Try.func33, Try.ntmps33
  go_wp2
  go_region_held3 (fun w' => w'.cell? ⟨bc, 0, none⟩ = some (.int .i64 a0_0) ∧ w'.cell? ⟨bc, 1, none⟩ = some (.int .i64 a0_1) ∧ w'.cell? ⟨bc, 2, none⟩ = some (.int .i64 a0_2) ∧ w'.cell? ⟨bc, 3, none⟩ = some (.int .i64 a0_3) ∧ w'.cell? ⟨bc, 4, none⟩ = some (.int .i64 a0_4) ∧ w'.cell? ⟨bc, 5, none⟩ = some (.int .i64 a0_5) ∧ w'.cell? ⟨bc, 6, none⟩ = some (.int .i64 a0_6) ∧ w'.cell? ⟨bc, 7, none⟩ = some (.int .i64 a0_7) ∧ w'.cell? ⟨bc, 8, none⟩ = some (.bool a0_8) ∧ w'.cell? ⟨bc, 9, none⟩ = some (.int .i64 a0_9) ∧ w'.cell? ⟨bc, 10, none⟩ = some (.int .i64 a0_10) ∧ w'.cell? ⟨bc, 11, none⟩ = some (.int .i64 a0_11) ∧ w'.cell? ⟨bi, 0, none⟩ = some (.int .i64 it) ∧ w'.cell? ⟨bn, 0, none⟩ = some (.int .i64 nn)) (exact ⟨hbc_0, hbc_1, hbc_2, hbc_3, hbc_4, hbc_5, hbc_6, hbc_7, hbc_8, hbc_9, hbc_10, hbc_11, hbi_0, hbn_0⟩) (first | (go_at_call 10; refine (arena_Nodes.calls a0_0 a0_1 a0_2 a0_3 a0_4 a0_5 a0_6 a0_7 a0_8 a0_9 a0_10 a0_11 t _ HN.out).mono ?_; rintro e w1 ⟨rfl, hb⟩; have n0_ := Aside0.mk (below_step (by repeat (first | (with_reducible first | exact HB.out | apply below_alloc | apply pw_below_drewN | apply below_drew1) | exact HB.out)) hb); have m0_ := Aside0.mk (blk_below (g := bc) (o := .cells #[.int .i64 a0_0, .int .i64 a0_1, .int .i64 a0_2, .int .i64 a0_3, .int .i64 a0_4, .int .i64 a0_5, .int .i64 a0_6, .int .i64 a0_7, .bool a0_8, .int .i64 a0_9, .int .i64 a0_10, .int .i64 a0_11] 23 (0, 0)) (by (with_reducible repeat (first | refine blk_drewN ?_ _ | refine blk_drew ?_ | refine blk_alloc ?_ _)); exact Bbc.out) hb); have m1_ := Aside0.mk (blk_below (g := bi) (o := .cells #[.int .i64 it] 3 (0, 0)) (by (with_reducible repeat (first | refine blk_drewN ?_ _ | refine blk_drew ?_ | refine blk_alloc ?_ _)); exact Bbi.out) hb); have m2_ := Aside0.mk (blk_below (g := bn) (o := .cells #[.int .i64 nn] 3 (0, 0)) (by (with_reducible repeat (first | refine blk_drewN ?_ _ | refine blk_drew ?_ | refine blk_alloc ?_ _)); exact Bbn.out) hb); clear hbc_0 hbc_1 hbc_2 hbc_3 hbc_4 hbc_5 hbc_6 hbc_7 hbc_8 hbc_9 hbc_10 hbc_11; clear hbi_0; clear hbn_0; clear HB Bbc Bbi Bbn; have HB := n0_; have Bbc := m0_; have Bbi := m1_; have Bbn := m2_; clear n0_ m0_ m1_ m2_ hb; have hbc_0 : w1.cell? ⟨bc, 0, none⟩ = some (.int .i64 a0_0) := (blk_cell Bbc.out 0).trans rfl; have hbc_1 : w1.cell? ⟨bc, 1, none⟩ = some (.int .i64 a0_1) := (blk_cell Bbc.out 1).trans rfl; have hbc_2 : w1.cell? ⟨bc, 2, none⟩ = some (.int .i64 a0_2) := (blk_cell Bbc.out 2).trans rfl; have hbc_3 : w1.cell? ⟨bc, 3, none⟩ = some (.int .i64 a0_3) := (blk_cell Bbc.out 3).trans rfl; have hbc_4 : w1.cell? ⟨bc, 4, none⟩ = some (.int .i64 a0_4) := (blk_cell Bbc.out 4).trans rfl; have hbc_5 : w1.cell? ⟨bc, 5, none⟩ = some (.int .i64 a0_5) := (blk_cell Bbc.out 5).trans rfl; have hbc_6 : w1.cell? ⟨bc, 6, none⟩ = some (.int .i64 a0_6) := (blk_cell Bbc.out 6).trans rfl; have hbc_7 : w1.cell? ⟨bc, 7, none⟩ = some (.int .i64 a0_7) := (blk_cell Bbc.out 7).trans rfl; have hbc_8 : w1.cell? ⟨bc, 8, none⟩ = some (.bool a0_8) := (blk_cell Bbc.out 8).trans rfl; have hbc_9 : w1.cell? ⟨bc, 9, none⟩ = some (.int .i64 a0_9) := (blk_cell Bbc.out 9).trans rfl; have hbc_10 : w1.cell? ⟨bc, 10, none⟩ = some (.int .i64 a0_10) := (blk_cell Bbc.out 10).trans rfl; have hbc_11 : w1.cell? ⟨bc, 11, none⟩ = some (.int .i64 a0_11) := (blk_cell Bbc.out 11).trans rfl; have hbi_0 : w1.cell? ⟨bi, 0, none⟩ = some (.int .i64 it) := (blk_cell Bbi.out 0).trans rfl; have hbn_0 : w1.cell? ⟨bn, 0, none⟩ = some (.int .i64 nn) := (blk_cell Bbn.out 0).trans rfl) | (go_at_call 31; refine (arena_Node.within2 nn 1 (IntKind.i64.wrap (1 + t)) r q #[.pointer (some ⟨bi, 0, none⟩), .pointer (some ⟨bc, 0, none⟩), .pointer (some ⟨bn, 0, none⟩)] _ (by rw [i64_w]; exact HQ.out) (fun hn => arena_Node.leaf bc bi bn a0_0 a0_1 a0_2 a0_3 a0_4 a0_5 a0_6 a0_7 a0_8 a0_9 a0_10 a0_11 it nn r _ (by (with_reducible repeat (first | refine blk_drewN ?_ _ | refine blk_drew ?_ | refine blk_alloc ?_ _)); exact Bbc.out) (by (with_reducible repeat (first | refine blk_drewN ?_ _ | refine blk_drew ?_ | refine blk_alloc ?_ _)); exact Bbi.out) (by (with_reducible repeat (first | refine blk_drewN ?_ _ | refine blk_drew ?_ | refine blk_alloc ?_ _)); exact Bbn.out) (HR.out (by rw [i64_w] at hn; exact hn)))).mono ?_; rintro e w1 ⟨rfl, hb⟩; have n0_ := Aside0.mk (below_step (by repeat (first | (with_reducible first | exact HB.out | apply below_alloc | apply pw_below_drewN | apply below_drew1) | exact HB.out)) hb); have m0_ := Aside0.mk (blk_below (g := bc) (o := .cells #[.int .i64 a0_0, .int .i64 a0_1, .int .i64 a0_2, .int .i64 a0_3, .int .i64 a0_4, .int .i64 a0_5, .int .i64 a0_6, .int .i64 a0_7, .bool a0_8, .int .i64 a0_9, .int .i64 a0_10, .int .i64 a0_11] 23 (0, 0)) (by (with_reducible repeat (first | refine blk_drewN ?_ _ | refine blk_drew ?_ | refine blk_alloc ?_ _)); exact Bbc.out) hb); have m1_ := Aside0.mk (blk_below (g := bi) (o := .cells #[.int .i64 it] 3 (0, 0)) (by (with_reducible repeat (first | refine blk_drewN ?_ _ | refine blk_drew ?_ | refine blk_alloc ?_ _)); exact Bbi.out) hb); have m2_ := Aside0.mk (blk_below (g := bn) (o := .cells #[.int .i64 nn] 3 (0, 0)) (by (with_reducible repeat (first | refine blk_drewN ?_ _ | refine blk_drew ?_ | refine blk_alloc ?_ _)); exact Bbn.out) hb); clear hbc_0 hbc_1 hbc_2 hbc_3 hbc_4 hbc_5 hbc_6 hbc_7 hbc_8 hbc_9 hbc_10 hbc_11; clear hbi_0; clear hbn_0; clear HB Bbc Bbi Bbn; have HB := n0_; have Bbc := m0_; have Bbi := m1_; have Bbn := m2_; clear n0_ m0_ m1_ m2_ hb; have hbc_0 : w1.cell? ⟨bc, 0, none⟩ = some (.int .i64 a0_0) := (blk_cell Bbc.out 0).trans rfl; have hbc_1 : w1.cell? ⟨bc, 1, none⟩ = some (.int .i64 a0_1) := (blk_cell Bbc.out 1).trans rfl; have hbc_2 : w1.cell? ⟨bc, 2, none⟩ = some (.int .i64 a0_2) := (blk_cell Bbc.out 2).trans rfl; have hbc_3 : w1.cell? ⟨bc, 3, none⟩ = some (.int .i64 a0_3) := (blk_cell Bbc.out 3).trans rfl; have hbc_4 : w1.cell? ⟨bc, 4, none⟩ = some (.int .i64 a0_4) := (blk_cell Bbc.out 4).trans rfl; have hbc_5 : w1.cell? ⟨bc, 5, none⟩ = some (.int .i64 a0_5) := (blk_cell Bbc.out 5).trans rfl; have hbc_6 : w1.cell? ⟨bc, 6, none⟩ = some (.int .i64 a0_6) := (blk_cell Bbc.out 6).trans rfl; have hbc_7 : w1.cell? ⟨bc, 7, none⟩ = some (.int .i64 a0_7) := (blk_cell Bbc.out 7).trans rfl; have hbc_8 : w1.cell? ⟨bc, 8, none⟩ = some (.bool a0_8) := (blk_cell Bbc.out 8).trans rfl; have hbc_9 : w1.cell? ⟨bc, 9, none⟩ = some (.int .i64 a0_9) := (blk_cell Bbc.out 9).trans rfl; have hbc_10 : w1.cell? ⟨bc, 10, none⟩ = some (.int .i64 a0_10) := (blk_cell Bbc.out 10).trans rfl; have hbc_11 : w1.cell? ⟨bc, 11, none⟩ = some (.int .i64 a0_11) := (blk_cell Bbc.out 11).trans rfl; have hbi_0 : w1.cell? ⟨bi, 0, none⟩ = some (.int .i64 it) := (blk_cell Bbi.out 0).trans rfl; have hbn_0 : w1.cell? ⟨bn, 0, none⟩ = some (.int .i64 nn) := (blk_cell Bbn.out 0).trans rfl))
  all_goals go_wp2
  all_goals go_ret
  all_goals exact ⟨by first | rfl | (simp only [i64_w]; rfl) | (simp only [i64_w]; done) | (simp [i64_w]; done), by repeat (first | (with_reducible first | exact HB.out | apply below_alloc | apply pw_below_drewN | apply below_drew1) | exact HB.out)⟩
def arena_Node.clof (a0_0 : Int) (a0_1 : Int) (a0_2 : Int) (a0_3 : Int) (a0_4 : Int) (a0_5 : Int) (a0_6 : Int) (a0_7 : Int) (a0_8 : Bool) (a0_9 : Int) (a0_10 : Int) (a0_11 : Int) (it nn : Int) : Option Int := (arena_Nodes.f a0_0 a0_1 a0_2 a0_3 a0_4 a0_5 a0_6 a0_7 a0_8 a0_9 a0_10 a0_11).bind fun t => if nn < 1 ∨ nn ≥ wrap64 (1 + t) then some (-1) else arena_Node.leaff a0_0 a0_1 a0_2 a0_3 a0_4 a0_5 a0_6 a0_7 a0_8 a0_9 a0_10 a0_11 it nn
theorem arena_Node.clo (bc bi bn : Nat) (a0_0 a0_1 a0_2 a0_3 a0_4 a0_5 a0_6 a0_7 : Int) (a0_8 : Bool) (a0_9 a0_10 a0_11 : Int) (it nn r : Int) (w : World) (Bbc_ : w.heap[bc]? = some (.cells #[.int .i64 a0_0, .int .i64 a0_1, .int .i64 a0_2, .int .i64 a0_3, .int .i64 a0_4, .int .i64 a0_5, .int .i64 a0_6, .int .i64 a0_7, .bool a0_8, .int .i64 a0_9, .int .i64 a0_10, .int .i64 a0_11] 23 (0, 0))) (Bbi_ : w.heap[bi]? = some (.cells #[.int .i64 it] 3 (0, 0))) (Bbn_ : w.heap[bn]? = some (.cells #[.int .i64 nn] 3 (0, 0))) (h : arena_Node.clof a0_0 a0_1 a0_2 a0_3 a0_4 a0_5 a0_6 a0_7 a0_8 a0_9 a0_10 a0_11 it nn = some r) :
    Calls Try.prog 33 #[.pointer (some ⟨bn, 0, none⟩), .pointer (some ⟨bc, 0, none⟩), .pointer (some ⟨bi, 0, none⟩)] w fun e w' => e = .returned (.int .i64 r) ∧ Below w.heap.size w w' := by
  obtain ⟨t, hN, h⟩ := Option.bind_eq_some_iff.mp h
  by_cases hn : nn < 1 ∨ nn ≥ wrap64 (1 + t)
  · rw [if_pos hn] at h; obtain rfl := Option.some.inj h; exact arena_Node.clo_ bc bi bn a0_0 a0_1 a0_2 a0_3 a0_4 a0_5 a0_6 a0_7 a0_8 a0_9 a0_10 a0_11 it nn t 0 (-1) w Bbc_ Bbi_ Bbn_ hN (by rw [if_pos hn]) (fun hh => absurd hn hh)
  · rw [if_neg hn] at h; exact arena_Node.clo_ bc bi bn a0_0 a0_1 a0_2 a0_3 a0_4 a0_5 a0_6 a0_7 a0_8 a0_9 a0_10 a0_11 it nn t r r w Bbc_ Bbi_ Bbn_ hN (by rw [if_neg hn]) (fun _ => h)
set_option maxHeartbeats 16000000 in
set_option maxRecDepth 100000 in
theorem arena_Node.withina (n l m r : Int) (cap : Array Value) (w : World) (h1 : n < l) :
    Calls Try.prog 31 #[.int .i64 n, .int .i64 l, .int .i64 m, .func (.func 33) #[] cap] w fun e w' => e = .returned (.int .i64 (-1)) ∧ Below w.heap.size w w' := by
  go_enter Try.func31, Try.ntmps31
  go_wp2
  go_ret
  exact ⟨rfl, Below.refl _ _⟩
set_option maxHeartbeats 16000000 in
set_option maxRecDepth 100000 in
theorem arena_Node.withinb (n l m r : Int) (cap : Array Value) (w : World) (h1 : ¬ n < l) (h2 : n ≥ m) :
    Calls Try.prog 31 #[.int .i64 n, .int .i64 l, .int .i64 m, .func (.func 33) #[] cap] w fun e w' => e = .returned (.int .i64 (-1)) ∧ Below w.heap.size w w' := by
  go_enter Try.func31, Try.ntmps31
  go_wp2
  go_ret
  exact ⟨rfl, Below.refl _ _⟩
set_option maxHeartbeats 16000000 in
set_option maxRecDepth 100000 in
theorem arena_Node.withinc (n l m r : Int) (cap : Array Value) (w : World) (h1 : ¬ n < l) (h2 : ¬ n ≥ m) (hK : Calls Try.prog 33 cap w fun e w' => e = .returned (.int .i64 r) ∧ Below w.heap.size w w') :
    Calls Try.prog 31 #[.int .i64 n, .int .i64 l, .int .i64 m, .func (.func 33) #[] cap] w fun e w' => e = .returned (.int .i64 (r)) ∧ Below w.heap.size w w' := by
  have HK := Aside0.mk hK
  clear hK
  go_enter Try.func31, Try.ntmps31
  go_wp2_with fail
  refine HK.out.mono ?_
  rintro e w1 ⟨rfl, hb⟩
  go_wp2
  go_ret
  exact ⟨rfl, hb⟩
theorem arena_Node.within (n l m r q : Int) (cap : Array Value) (w : World) (hq : q = if n < l ∨ n ≥ m then -1 else r) (hK : ¬ (n < l ∨ n ≥ m) → Calls Try.prog 33 cap w fun e w' => e = .returned (.int .i64 r) ∧ Below w.heap.size w w') :
    Calls Try.prog 31 #[.int .i64 n, .int .i64 l, .int .i64 m, .func (.func 33) #[] cap] w fun e w' => e = .returned (.int .i64 q) ∧ Below w.heap.size w w' := by
  by_cases h1 : n < l
  · rw [hq, if_pos (Or.inl h1)]; exact arena_Node.withina n l m r cap w h1
  by_cases h2 : n ≥ m
  · rw [hq, if_pos (Or.inr h2)]; exact arena_Node.withinb n l m r cap w h1 h2
  have h3 : ¬ (n < l ∨ n ≥ m) := by omega
  rw [hq, if_neg h3]; exact arena_Node.withinc n l m r cap w h1 h2 (hK h3)
def arena_Node.f (a0_0 : Int) (a0_1 : Int) (a0_2 : Int) (a0_3 : Int) (a0_4 : Int) (a0_5 : Int) (a0_6 : Int) (a0_7 : Int) (a0_8 : Bool) (a0_9 : Int) (a0_10 : Int) (a0_11 : Int) (it : Int) (nn : Int) : Option Int := if it < 0 ∨ it ≥ a0_1 then some (-1) else arena_Node.clof a0_0 a0_1 a0_2 a0_3 a0_4 a0_5 a0_6 a0_7 a0_8 a0_9 a0_10 a0_11 it nn
set_option maxHeartbeats 16000000 in
set_option maxRecDepth 100000 in
theorem arena_Node.walk (a0_0 a0_1 a0_2 a0_3 a0_4 a0_5 a0_6 a0_7 : Int) (a0_8 : Bool) (a0_9 a0_10 a0_11 : Int) (it : Int) (nn : Int) (r q : Int) (w : World) (hq : q = if it < 0 ∨ it ≥ a0_1 then -1 else r) (hr : ¬ (it < 0 ∨ it ≥ a0_1) → arena_Node.clof a0_0 a0_1 a0_2 a0_3 a0_4 a0_5 a0_6 a0_7 a0_8 a0_9 a0_10 a0_11 it nn = some r) :
    Calls Try.prog 16 #[.agg #[.int .i64 a0_0, .int .i64 a0_1, .int .i64 a0_2, .int .i64 a0_3, .int .i64 a0_4, .int .i64 a0_5, .int .i64 a0_6, .int .i64 a0_7, .bool a0_8, .int .i64 a0_9, .int .i64 a0_10, .int .i64 a0_11], .int .i64 it, .int .i64 nn] w fun e w' => e = .returned (.int .i64 q) ∧ Below w.heap.size w w' := by
  have HB := Aside0.mk (show Below w.heap.size w (((w.alloc (.cells #[.int .i64 a0_0, .int .i64 a0_1, .int .i64 a0_2, .int .i64 a0_3, .int .i64 a0_4, .int .i64 a0_5, .int .i64 a0_6, .int .i64 a0_7, .bool a0_8, .int .i64 a0_9, .int .i64 a0_10, .int .i64 a0_11] 23)).alloc (.cells #[.int .i64 it] 3)).alloc (.cells #[.int .i64 nn] 3)) from by repeat (first | exact Below.refl _ _ | refine Below.alloc ?_ (by first | (simp; done) | (simp; omega)) _))
  have HK := Aside0.mk (fun hn : ¬ (it < 0 ∨ it ≥ a0_1) => arena_Node.clo (w.heap.size) (w.heap.size + 1) (w.heap.size + 2) a0_0 a0_1 a0_2 a0_3 a0_4 a0_5 a0_6 a0_7 a0_8 a0_9 a0_10 a0_11 it nn r (((w.alloc (.cells #[.int .i64 a0_0, .int .i64 a0_1, .int .i64 a0_2, .int .i64 a0_3, .int .i64 a0_4, .int .i64 a0_5, .int .i64 a0_6, .int .i64 a0_7, .bool a0_8, .int .i64 a0_9, .int .i64 a0_10, .int .i64 a0_11] 23)).alloc (.cells #[.int .i64 it] 3)).alloc (.cells #[.int .i64 nn] 3)) (arena_of.new_0_3 _ _ _ _) (arena_of.new_1_3 _ _ _ _) (arena_of.new_2_3 _ _ _ _) (hr hn))
  have HQ := Aside0.mk hq
  clear hq hr
  go_enter Try.func16, Try.ntmps16
  go_wp2_with fail
  refine (arena_Node.within it 0 a0_1 r q #[.pointer (some ⟨w.heap.size + 2, 0, none⟩), .pointer (some ⟨w.heap.size, 0, none⟩), .pointer (some ⟨w.heap.size + 1, 0, none⟩)] _ HQ.out HK.out).mono ?_
  rintro e w1 ⟨rfl, hb⟩
  go_wp2
  go_ret
  exact ⟨rfl, below_step HB.out hb⟩
theorem arena_Node.calls (a0_0 : Int) (a0_1 : Int) (a0_2 : Int) (a0_3 : Int) (a0_4 : Int) (a0_5 : Int) (a0_6 : Int) (a0_7 : Int) (a0_8 : Bool) (a0_9 : Int) (a0_10 : Int) (a0_11 : Int) (it : Int) (nn : Int) (r : Int) (w : World) (h : arena_Node.f a0_0 a0_1 a0_2 a0_3 a0_4 a0_5 a0_6 a0_7 a0_8 a0_9 a0_10 a0_11 it nn = some r) :
    Calls Try.prog 16 #[.agg #[.int .i64 a0_0, .int .i64 a0_1, .int .i64 a0_2, .int .i64 a0_3, .int .i64 a0_4, .int .i64 a0_5, .int .i64 a0_6, .int .i64 a0_7, .bool a0_8, .int .i64 a0_9, .int .i64 a0_10, .int .i64 a0_11], .int .i64 it, .int .i64 nn] w fun e w' => e = .returned (.int .i64 r) ∧ Below w.heap.size w w' := by
  unfold arena_Node.f at h
  by_cases hn : it < 0 ∨ it ≥ a0_1
  · rw [if_pos hn] at h; obtain rfl := Option.some.inj h; exact arena_Node.walk a0_0 a0_1 a0_2 a0_3 a0_4 a0_5 a0_6 a0_7 a0_8 a0_9 a0_10 a0_11 it nn 0 (-1) w (by rw [if_pos hn]) (fun hh => absurd hn hh)
  · rw [if_neg hn] at h; exact arena_Node.walk a0_0 a0_1 a0_2 a0_3 a0_4 a0_5 a0_6 a0_7 a0_8 a0_9 a0_10 a0_11 it nn r r w (by rw [if_neg hn]) (fun _ => h)

/-! ### arena_Slot: function 18 -/
set_option maxHeartbeats 16000000 in
set_option maxRecDepth 100000 in
theorem arena_Slot.leaf_ (bc bi bl bn : Nat) (a0_0 a0_1 a0_2 a0_3 a0_4 a0_5 a0_6 a0_7 : Int) (a0_8 : Bool) (a0_9 a0_10 a0_11 : Int) (it ly nn r1 r2 r3 r4 : Int) (w : World) (Bbc_ : w.heap[bc]? = some (.cells #[.int .i64 a0_0, .int .i64 a0_1, .int .i64 a0_2, .int .i64 a0_3, .int .i64 a0_4, .int .i64 a0_5, .int .i64 a0_6, .int .i64 a0_7, .bool a0_8, .int .i64 a0_9, .int .i64 a0_10, .int .i64 a0_11] 23 (0, 0))) (Bbi_ : w.heap[bi]? = some (.cells #[.int .i64 it] 3 (0, 0))) (Bbl_ : w.heap[bl]? = some (.cells #[.int .i64 ly] 3 (0, 0))) (Bbn_ : w.heap[bn]? = some (.cells #[.int .i64 nn] 3 (0, 0))) (ho : arena_of.f a0_0 a0_1 a0_2 a0_3 a0_4 a0_5 a0_6 a0_7 a0_8 a0_9 a0_10 a0_11 = some (r1, r2, r3, r4)) :
    Calls Try.prog 37 #[.pointer (some ⟨bi, 0, none⟩), .pointer (some ⟨bc, 0, none⟩), .pointer (some ⟨bl, 0, none⟩), .pointer (some ⟨bn, 0, none⟩)] w fun e w' => e = .returned (.int .i64 (wrap64 (wrap64 (wrap64 (wrap64 (it * r3) + r2) + wrap64 (wrap64 (ly - 1) * a0_5)) + nn))) ∧ Below w.heap.size w w' := by
  have Bbc := Aside0.mk Bbc_
  have Bbi := Aside0.mk Bbi_
  have Bbl := Aside0.mk Bbl_
  have Bbn := Aside0.mk Bbn_
  clear Bbc_ Bbi_ Bbl_ Bbn_
  have HB := Aside0.mk (Below.refl w.heap.size w)
  have hu23 := Try.underlying23
  have hbc_0 : w.cell? ⟨bc, 0, none⟩ = some (.int .i64 a0_0) := (blk_cell Bbc.out 0).trans rfl
  have hbc_1 : w.cell? ⟨bc, 1, none⟩ = some (.int .i64 a0_1) := (blk_cell Bbc.out 1).trans rfl
  have hbc_2 : w.cell? ⟨bc, 2, none⟩ = some (.int .i64 a0_2) := (blk_cell Bbc.out 2).trans rfl
  have hbc_3 : w.cell? ⟨bc, 3, none⟩ = some (.int .i64 a0_3) := (blk_cell Bbc.out 3).trans rfl
  have hbc_4 : w.cell? ⟨bc, 4, none⟩ = some (.int .i64 a0_4) := (blk_cell Bbc.out 4).trans rfl
  have hbc_5 : w.cell? ⟨bc, 5, none⟩ = some (.int .i64 a0_5) := (blk_cell Bbc.out 5).trans rfl
  have hbc_6 : w.cell? ⟨bc, 6, none⟩ = some (.int .i64 a0_6) := (blk_cell Bbc.out 6).trans rfl
  have hbc_7 : w.cell? ⟨bc, 7, none⟩ = some (.int .i64 a0_7) := (blk_cell Bbc.out 7).trans rfl
  have hbc_8 : w.cell? ⟨bc, 8, none⟩ = some (.bool a0_8) := (blk_cell Bbc.out 8).trans rfl
  have hbc_9 : w.cell? ⟨bc, 9, none⟩ = some (.int .i64 a0_9) := (blk_cell Bbc.out 9).trans rfl
  have hbc_10 : w.cell? ⟨bc, 10, none⟩ = some (.int .i64 a0_10) := (blk_cell Bbc.out 10).trans rfl
  have hbc_11 : w.cell? ⟨bc, 11, none⟩ = some (.int .i64 a0_11) := (blk_cell Bbc.out 11).trans rfl
  have hbi_0 : w.cell? ⟨bi, 0, none⟩ = some (.int .i64 it) := (blk_cell Bbi.out 0).trans rfl
  have hbl_0 : w.cell? ⟨bl, 0, none⟩ = some (.int .i64 ly) := (blk_cell Bbl.out 0).trans rfl
  have hbn_0 : w.cell? ⟨bn, 0, none⟩ = some (.int .i64 nn) := (blk_cell Bbn.out 0).trans rfl
  have HO := Aside0.mk ho
  clear ho
  have hfl1 : ∀ w : World, (Instr.field 51 (.agg #[.int .i64 r1, .int .i64 r2, .int .i64 r3, .int .i64 r4]) 1).run Try.prog w = .ok (.int .i64 r2) w := fun _ => by kernel_rfl
  have hfl2 : ∀ w : World, (Instr.field 51 (.agg #[.int .i64 r1, .int .i64 r2, .int .i64 r3, .int .i64 r4]) 2).run Try.prog w = .ok (.int .i64 r3) w := fun _ => by kernel_rfl
  go_enter Try.func37, Try.ntmps37
  go_wp2
  go_region_held3 (fun w' => w'.cell? ⟨bc, 0, none⟩ = some (.int .i64 a0_0) ∧ w'.cell? ⟨bc, 1, none⟩ = some (.int .i64 a0_1) ∧ w'.cell? ⟨bc, 2, none⟩ = some (.int .i64 a0_2) ∧ w'.cell? ⟨bc, 3, none⟩ = some (.int .i64 a0_3) ∧ w'.cell? ⟨bc, 4, none⟩ = some (.int .i64 a0_4) ∧ w'.cell? ⟨bc, 5, none⟩ = some (.int .i64 a0_5) ∧ w'.cell? ⟨bc, 6, none⟩ = some (.int .i64 a0_6) ∧ w'.cell? ⟨bc, 7, none⟩ = some (.int .i64 a0_7) ∧ w'.cell? ⟨bc, 8, none⟩ = some (.bool a0_8) ∧ w'.cell? ⟨bc, 9, none⟩ = some (.int .i64 a0_9) ∧ w'.cell? ⟨bc, 10, none⟩ = some (.int .i64 a0_10) ∧ w'.cell? ⟨bc, 11, none⟩ = some (.int .i64 a0_11) ∧ w'.cell? ⟨bi, 0, none⟩ = some (.int .i64 it) ∧ w'.cell? ⟨bl, 0, none⟩ = some (.int .i64 ly) ∧ w'.cell? ⟨bn, 0, none⟩ = some (.int .i64 nn)) (exact ⟨hbc_0, hbc_1, hbc_2, hbc_3, hbc_4, hbc_5, hbc_6, hbc_7, hbc_8, hbc_9, hbc_10, hbc_11, hbi_0, hbl_0, hbn_0⟩) (first | (go_at_call 29; refine (arena_of.calls a0_0 a0_1 a0_2 a0_3 a0_4 a0_5 a0_6 a0_7 a0_8 a0_9 a0_10 a0_11 r1 r2 r3 r4 _ HO.out).mono ?_; rintro e w1 ⟨rfl, hb⟩; have n0_ := Aside0.mk (below_step (by repeat (first | (with_reducible first | exact HB.out | apply below_alloc | apply pw_below_drewN | apply below_drew1) | exact HB.out)) hb); have m0_ := Aside0.mk (blk_below (g := bc) (o := .cells #[.int .i64 a0_0, .int .i64 a0_1, .int .i64 a0_2, .int .i64 a0_3, .int .i64 a0_4, .int .i64 a0_5, .int .i64 a0_6, .int .i64 a0_7, .bool a0_8, .int .i64 a0_9, .int .i64 a0_10, .int .i64 a0_11] 23 (0, 0)) (by (with_reducible repeat (first | refine blk_drewN ?_ _ | refine blk_drew ?_ | refine blk_alloc ?_ _)); exact Bbc.out) hb); have m1_ := Aside0.mk (blk_below (g := bi) (o := .cells #[.int .i64 it] 3 (0, 0)) (by (with_reducible repeat (first | refine blk_drewN ?_ _ | refine blk_drew ?_ | refine blk_alloc ?_ _)); exact Bbi.out) hb); have m2_ := Aside0.mk (blk_below (g := bl) (o := .cells #[.int .i64 ly] 3 (0, 0)) (by (with_reducible repeat (first | refine blk_drewN ?_ _ | refine blk_drew ?_ | refine blk_alloc ?_ _)); exact Bbl.out) hb); have m3_ := Aside0.mk (blk_below (g := bn) (o := .cells #[.int .i64 nn] 3 (0, 0)) (by (with_reducible repeat (first | refine blk_drewN ?_ _ | refine blk_drew ?_ | refine blk_alloc ?_ _)); exact Bbn.out) hb); clear hbc_0 hbc_1 hbc_2 hbc_3 hbc_4 hbc_5 hbc_6 hbc_7 hbc_8 hbc_9 hbc_10 hbc_11; clear hbi_0; clear hbl_0; clear hbn_0; clear HB Bbc Bbi Bbl Bbn; have HB := n0_; have Bbc := m0_; have Bbi := m1_; have Bbl := m2_; have Bbn := m3_; clear n0_ m0_ m1_ m2_ m3_ hb; have hbc_0 : w1.cell? ⟨bc, 0, none⟩ = some (.int .i64 a0_0) := (blk_cell Bbc.out 0).trans rfl; have hbc_1 : w1.cell? ⟨bc, 1, none⟩ = some (.int .i64 a0_1) := (blk_cell Bbc.out 1).trans rfl; have hbc_2 : w1.cell? ⟨bc, 2, none⟩ = some (.int .i64 a0_2) := (blk_cell Bbc.out 2).trans rfl; have hbc_3 : w1.cell? ⟨bc, 3, none⟩ = some (.int .i64 a0_3) := (blk_cell Bbc.out 3).trans rfl; have hbc_4 : w1.cell? ⟨bc, 4, none⟩ = some (.int .i64 a0_4) := (blk_cell Bbc.out 4).trans rfl; have hbc_5 : w1.cell? ⟨bc, 5, none⟩ = some (.int .i64 a0_5) := (blk_cell Bbc.out 5).trans rfl; have hbc_6 : w1.cell? ⟨bc, 6, none⟩ = some (.int .i64 a0_6) := (blk_cell Bbc.out 6).trans rfl; have hbc_7 : w1.cell? ⟨bc, 7, none⟩ = some (.int .i64 a0_7) := (blk_cell Bbc.out 7).trans rfl; have hbc_8 : w1.cell? ⟨bc, 8, none⟩ = some (.bool a0_8) := (blk_cell Bbc.out 8).trans rfl; have hbc_9 : w1.cell? ⟨bc, 9, none⟩ = some (.int .i64 a0_9) := (blk_cell Bbc.out 9).trans rfl; have hbc_10 : w1.cell? ⟨bc, 10, none⟩ = some (.int .i64 a0_10) := (blk_cell Bbc.out 10).trans rfl; have hbc_11 : w1.cell? ⟨bc, 11, none⟩ = some (.int .i64 a0_11) := (blk_cell Bbc.out 11).trans rfl; have hbi_0 : w1.cell? ⟨bi, 0, none⟩ = some (.int .i64 it) := (blk_cell Bbi.out 0).trans rfl; have hbl_0 : w1.cell? ⟨bl, 0, none⟩ = some (.int .i64 ly) := (blk_cell Bbl.out 0).trans rfl; have hbn_0 : w1.cell? ⟨bn, 0, none⟩ = some (.int .i64 nn) := (blk_cell Bbn.out 0).trans rfl))
  all_goals go_wp2
  all_goals go_ret
  all_goals exact ⟨by first | rfl | (simp only [i64_w]; rfl) | (simp only [i64_w]; done) | (simp [i64_w]; done), by repeat (first | (with_reducible first | exact HB.out | apply below_alloc | apply pw_below_drewN | apply below_drew1) | exact HB.out)⟩
def arena_Slot.leaff (a0_0 : Int) (a0_1 : Int) (a0_2 : Int) (a0_3 : Int) (a0_4 : Int) (a0_5 : Int) (a0_6 : Int) (a0_7 : Int) (a0_8 : Bool) (a0_9 : Int) (a0_10 : Int) (a0_11 : Int) (it ly nn : Int) : Option Int := (arena_of.f a0_0 a0_1 a0_2 a0_3 a0_4 a0_5 a0_6 a0_7 a0_8 a0_9 a0_10 a0_11).bind fun b => some (wrap64 (wrap64 (wrap64 (wrap64 (it * b.2.2.1) + b.2.1) + wrap64 (wrap64 (ly - 1) * a0_5)) + nn))
theorem arena_Slot.leaf (bc bi bl bn : Nat) (a0_0 a0_1 a0_2 a0_3 a0_4 a0_5 a0_6 a0_7 : Int) (a0_8 : Bool) (a0_9 a0_10 a0_11 : Int) (it ly nn r : Int) (w : World) (Bbc_ : w.heap[bc]? = some (.cells #[.int .i64 a0_0, .int .i64 a0_1, .int .i64 a0_2, .int .i64 a0_3, .int .i64 a0_4, .int .i64 a0_5, .int .i64 a0_6, .int .i64 a0_7, .bool a0_8, .int .i64 a0_9, .int .i64 a0_10, .int .i64 a0_11] 23 (0, 0))) (Bbi_ : w.heap[bi]? = some (.cells #[.int .i64 it] 3 (0, 0))) (Bbl_ : w.heap[bl]? = some (.cells #[.int .i64 ly] 3 (0, 0))) (Bbn_ : w.heap[bn]? = some (.cells #[.int .i64 nn] 3 (0, 0))) (h : arena_Slot.leaff a0_0 a0_1 a0_2 a0_3 a0_4 a0_5 a0_6 a0_7 a0_8 a0_9 a0_10 a0_11 it ly nn = some r) :
    Calls Try.prog 37 #[.pointer (some ⟨bi, 0, none⟩), .pointer (some ⟨bc, 0, none⟩), .pointer (some ⟨bl, 0, none⟩), .pointer (some ⟨bn, 0, none⟩)] w fun e w' => e = .returned (.int .i64 r) ∧ Below w.heap.size w w' := by
  obtain ⟨⟨r1, r2, r3, r4⟩, ho, h⟩ := Option.bind_eq_some_iff.mp h
  obtain rfl := Option.some.inj h
  exact arena_Slot.leaf_ bc bi bl bn a0_0 a0_1 a0_2 a0_3 a0_4 a0_5 a0_6 a0_7 a0_8 a0_9 a0_10 a0_11 it ly nn r1 r2 r3 r4 w Bbc_ Bbi_ Bbl_ Bbn_ ho
set_option maxHeartbeats 16000000 in
set_option maxRecDepth 100000 in
theorem arena_Slot.within3a (n l m r : Int) (cap : Array Value) (w : World) (h1 : n < l) :
    Calls Try.prog 31 #[.int .i64 n, .int .i64 l, .int .i64 m, .func (.func 37) #[] cap] w fun e w' => e = .returned (.int .i64 (-1)) ∧ Below w.heap.size w w' := by
  go_enter Try.func31, Try.ntmps31
  go_wp2
  go_ret
  exact ⟨rfl, Below.refl _ _⟩
set_option maxHeartbeats 16000000 in
set_option maxRecDepth 100000 in
theorem arena_Slot.within3b (n l m r : Int) (cap : Array Value) (w : World) (h1 : ¬ n < l) (h2 : n ≥ m) :
    Calls Try.prog 31 #[.int .i64 n, .int .i64 l, .int .i64 m, .func (.func 37) #[] cap] w fun e w' => e = .returned (.int .i64 (-1)) ∧ Below w.heap.size w w' := by
  go_enter Try.func31, Try.ntmps31
  go_wp2
  go_ret
  exact ⟨rfl, Below.refl _ _⟩
set_option maxHeartbeats 16000000 in
set_option maxRecDepth 100000 in
theorem arena_Slot.within3c (n l m r : Int) (cap : Array Value) (w : World) (h1 : ¬ n < l) (h2 : ¬ n ≥ m) (hK : Calls Try.prog 37 cap w fun e w' => e = .returned (.int .i64 r) ∧ Below w.heap.size w w') :
    Calls Try.prog 31 #[.int .i64 n, .int .i64 l, .int .i64 m, .func (.func 37) #[] cap] w fun e w' => e = .returned (.int .i64 (r)) ∧ Below w.heap.size w w' := by
  have HK := Aside0.mk hK
  clear hK
  go_enter Try.func31, Try.ntmps31
  go_wp2_with fail
  refine HK.out.mono ?_
  rintro e w1 ⟨rfl, hb⟩
  go_wp2
  go_ret
  exact ⟨rfl, hb⟩
theorem arena_Slot.within3 (n l m r q : Int) (cap : Array Value) (w : World) (hq : q = if n < l ∨ n ≥ m then -1 else r) (hK : ¬ (n < l ∨ n ≥ m) → Calls Try.prog 37 cap w fun e w' => e = .returned (.int .i64 r) ∧ Below w.heap.size w w') :
    Calls Try.prog 31 #[.int .i64 n, .int .i64 l, .int .i64 m, .func (.func 37) #[] cap] w fun e w' => e = .returned (.int .i64 q) ∧ Below w.heap.size w w' := by
  by_cases h1 : n < l
  · rw [hq, if_pos (Or.inl h1)]; exact arena_Slot.within3a n l m r cap w h1
  by_cases h2 : n ≥ m
  · rw [hq, if_pos (Or.inr h2)]; exact arena_Slot.within3b n l m r cap w h1 h2
  have h3 : ¬ (n < l ∨ n ≥ m) := by omega
  rw [hq, if_neg h3]; exact arena_Slot.within3c n l m r cap w h1 h2 (hK h3)
set_option maxHeartbeats 16000000 in
set_option maxRecDepth 100000 in
theorem arena_Slot.mid_ (bc bi bl bn : Nat) (a0_0 a0_1 a0_2 a0_3 a0_4 a0_5 a0_6 a0_7 : Int) (a0_8 : Bool) (a0_9 a0_10 a0_11 : Int) (it ly nn r q : Int) (w : World) (Bbc_ : w.heap[bc]? = some (.cells #[.int .i64 a0_0, .int .i64 a0_1, .int .i64 a0_2, .int .i64 a0_3, .int .i64 a0_4, .int .i64 a0_5, .int .i64 a0_6, .int .i64 a0_7, .bool a0_8, .int .i64 a0_9, .int .i64 a0_10, .int .i64 a0_11] 23 (0, 0))) (Bbi_ : w.heap[bi]? = some (.cells #[.int .i64 it] 3 (0, 0))) (Bbl_ : w.heap[bl]? = some (.cells #[.int .i64 ly] 3 (0, 0))) (Bbn_ : w.heap[bn]? = some (.cells #[.int .i64 nn] 3 (0, 0))) (hq : q = if nn < 0 ∨ nn ≥ a0_5 then -1 else r) (hr : ¬ (nn < 0 ∨ nn ≥ a0_5) → arena_Slot.leaff a0_0 a0_1 a0_2 a0_3 a0_4 a0_5 a0_6 a0_7 a0_8 a0_9 a0_10 a0_11 it ly nn = some r) :
    Calls Try.prog 36 #[.pointer (some ⟨bn, 0, none⟩), .pointer (some ⟨bc, 0, none⟩), .pointer (some ⟨bi, 0, none⟩), .pointer (some ⟨bl, 0, none⟩)] w fun e w' => e = .returned (.int .i64 (q)) ∧ Below w.heap.size w w' := by
  have Bbc := Aside0.mk Bbc_
  have Bbi := Aside0.mk Bbi_
  have Bbl := Aside0.mk Bbl_
  have Bbn := Aside0.mk Bbn_
  clear Bbc_ Bbi_ Bbl_ Bbn_
  have HB := Aside0.mk (Below.refl w.heap.size w)
  have hu23 := Try.underlying23
  have hbc_0 : w.cell? ⟨bc, 0, none⟩ = some (.int .i64 a0_0) := (blk_cell Bbc.out 0).trans rfl
  have hbc_1 : w.cell? ⟨bc, 1, none⟩ = some (.int .i64 a0_1) := (blk_cell Bbc.out 1).trans rfl
  have hbc_2 : w.cell? ⟨bc, 2, none⟩ = some (.int .i64 a0_2) := (blk_cell Bbc.out 2).trans rfl
  have hbc_3 : w.cell? ⟨bc, 3, none⟩ = some (.int .i64 a0_3) := (blk_cell Bbc.out 3).trans rfl
  have hbc_4 : w.cell? ⟨bc, 4, none⟩ = some (.int .i64 a0_4) := (blk_cell Bbc.out 4).trans rfl
  have hbc_5 : w.cell? ⟨bc, 5, none⟩ = some (.int .i64 a0_5) := (blk_cell Bbc.out 5).trans rfl
  have hbc_6 : w.cell? ⟨bc, 6, none⟩ = some (.int .i64 a0_6) := (blk_cell Bbc.out 6).trans rfl
  have hbc_7 : w.cell? ⟨bc, 7, none⟩ = some (.int .i64 a0_7) := (blk_cell Bbc.out 7).trans rfl
  have hbc_8 : w.cell? ⟨bc, 8, none⟩ = some (.bool a0_8) := (blk_cell Bbc.out 8).trans rfl
  have hbc_9 : w.cell? ⟨bc, 9, none⟩ = some (.int .i64 a0_9) := (blk_cell Bbc.out 9).trans rfl
  have hbc_10 : w.cell? ⟨bc, 10, none⟩ = some (.int .i64 a0_10) := (blk_cell Bbc.out 10).trans rfl
  have hbc_11 : w.cell? ⟨bc, 11, none⟩ = some (.int .i64 a0_11) := (blk_cell Bbc.out 11).trans rfl
  have hbi_0 : w.cell? ⟨bi, 0, none⟩ = some (.int .i64 it) := (blk_cell Bbi.out 0).trans rfl
  have hbl_0 : w.cell? ⟨bl, 0, none⟩ = some (.int .i64 ly) := (blk_cell Bbl.out 0).trans rfl
  have hbn_0 : w.cell? ⟨bn, 0, none⟩ = some (.int .i64 nn) := (blk_cell Bbn.out 0).trans rfl
  have HQ := Aside0.mk hq
  have HR := Aside0.mk hr
  clear hq hr
  go_enter Try.func36, Try.ntmps36
  go_wp2_with (first | (go_at_call 31; refine (arena_Slot.within3 nn 0 a0_5 r q #[.pointer (some ⟨bi, 0, none⟩), .pointer (some ⟨bc, 0, none⟩), .pointer (some ⟨bl, 0, none⟩), .pointer (some ⟨bn, 0, none⟩)] _ HQ.out (fun hn => arena_Slot.leaf bc bi bl bn a0_0 a0_1 a0_2 a0_3 a0_4 a0_5 a0_6 a0_7 a0_8 a0_9 a0_10 a0_11 it ly nn r _ (by (with_reducible repeat (first | refine blk_drewN ?_ _ | refine blk_drew ?_ | refine blk_alloc ?_ _)); exact Bbc.out) (by (with_reducible repeat (first | refine blk_drewN ?_ _ | refine blk_drew ?_ | refine blk_alloc ?_ _)); exact Bbi.out) (by (with_reducible repeat (first | refine blk_drewN ?_ _ | refine blk_drew ?_ | refine blk_alloc ?_ _)); exact Bbl.out) (by (with_reducible repeat (first | refine blk_drewN ?_ _ | refine blk_drew ?_ | refine blk_alloc ?_ _)); exact Bbn.out) (HR.out hn))).mono ?_; rintro e w1 ⟨rfl, hb⟩; have n0_ := Aside0.mk (below_step (by repeat (first | (with_reducible first | exact HB.out | apply below_alloc | apply pw_below_drewN | apply below_drew1) | exact HB.out)) hb); have m0_ := Aside0.mk (blk_below (g := bc) (o := .cells #[.int .i64 a0_0, .int .i64 a0_1, .int .i64 a0_2, .int .i64 a0_3, .int .i64 a0_4, .int .i64 a0_5, .int .i64 a0_6, .int .i64 a0_7, .bool a0_8, .int .i64 a0_9, .int .i64 a0_10, .int .i64 a0_11] 23 (0, 0)) (by (with_reducible repeat (first | refine blk_drewN ?_ _ | refine blk_drew ?_ | refine blk_alloc ?_ _)); exact Bbc.out) hb); have m1_ := Aside0.mk (blk_below (g := bi) (o := .cells #[.int .i64 it] 3 (0, 0)) (by (with_reducible repeat (first | refine blk_drewN ?_ _ | refine blk_drew ?_ | refine blk_alloc ?_ _)); exact Bbi.out) hb); have m2_ := Aside0.mk (blk_below (g := bl) (o := .cells #[.int .i64 ly] 3 (0, 0)) (by (with_reducible repeat (first | refine blk_drewN ?_ _ | refine blk_drew ?_ | refine blk_alloc ?_ _)); exact Bbl.out) hb); have m3_ := Aside0.mk (blk_below (g := bn) (o := .cells #[.int .i64 nn] 3 (0, 0)) (by (with_reducible repeat (first | refine blk_drewN ?_ _ | refine blk_drew ?_ | refine blk_alloc ?_ _)); exact Bbn.out) hb); clear hbc_0 hbc_1 hbc_2 hbc_3 hbc_4 hbc_5 hbc_6 hbc_7 hbc_8 hbc_9 hbc_10 hbc_11; clear hbi_0; clear hbl_0; clear hbn_0; clear HB Bbc Bbi Bbl Bbn; have HB := n0_; have Bbc := m0_; have Bbi := m1_; have Bbl := m2_; have Bbn := m3_; clear n0_ m0_ m1_ m2_ m3_ hb; have hbc_0 : w1.cell? ⟨bc, 0, none⟩ = some (.int .i64 a0_0) := (blk_cell Bbc.out 0).trans rfl; have hbc_1 : w1.cell? ⟨bc, 1, none⟩ = some (.int .i64 a0_1) := (blk_cell Bbc.out 1).trans rfl; have hbc_2 : w1.cell? ⟨bc, 2, none⟩ = some (.int .i64 a0_2) := (blk_cell Bbc.out 2).trans rfl; have hbc_3 : w1.cell? ⟨bc, 3, none⟩ = some (.int .i64 a0_3) := (blk_cell Bbc.out 3).trans rfl; have hbc_4 : w1.cell? ⟨bc, 4, none⟩ = some (.int .i64 a0_4) := (blk_cell Bbc.out 4).trans rfl; have hbc_5 : w1.cell? ⟨bc, 5, none⟩ = some (.int .i64 a0_5) := (blk_cell Bbc.out 5).trans rfl; have hbc_6 : w1.cell? ⟨bc, 6, none⟩ = some (.int .i64 a0_6) := (blk_cell Bbc.out 6).trans rfl; have hbc_7 : w1.cell? ⟨bc, 7, none⟩ = some (.int .i64 a0_7) := (blk_cell Bbc.out 7).trans rfl; have hbc_8 : w1.cell? ⟨bc, 8, none⟩ = some (.bool a0_8) := (blk_cell Bbc.out 8).trans rfl; have hbc_9 : w1.cell? ⟨bc, 9, none⟩ = some (.int .i64 a0_9) := (blk_cell Bbc.out 9).trans rfl; have hbc_10 : w1.cell? ⟨bc, 10, none⟩ = some (.int .i64 a0_10) := (blk_cell Bbc.out 10).trans rfl; have hbc_11 : w1.cell? ⟨bc, 11, none⟩ = some (.int .i64 a0_11) := (blk_cell Bbc.out 11).trans rfl; have hbi_0 : w1.cell? ⟨bi, 0, none⟩ = some (.int .i64 it) := (blk_cell Bbi.out 0).trans rfl; have hbl_0 : w1.cell? ⟨bl, 0, none⟩ = some (.int .i64 ly) := (blk_cell Bbl.out 0).trans rfl; have hbn_0 : w1.cell? ⟨bn, 0, none⟩ = some (.int .i64 nn) := (blk_cell Bbn.out 0).trans rfl))
  go_ret
  all_goals exact ⟨by first | rfl | (simp only [i64_w]; rfl) | (simp only [i64_w]; done) | (simp [i64_w]; done), by repeat (first | (with_reducible first | exact HB.out | apply below_alloc | apply pw_below_drewN | apply below_drew1) | exact HB.out)⟩
def arena_Slot.midf (a0_0 : Int) (a0_1 : Int) (a0_2 : Int) (a0_3 : Int) (a0_4 : Int) (a0_5 : Int) (a0_6 : Int) (a0_7 : Int) (a0_8 : Bool) (a0_9 : Int) (a0_10 : Int) (a0_11 : Int) (it ly nn : Int) : Option Int := if nn < 0 ∨ nn ≥ a0_5 then some (-1) else arena_Slot.leaff a0_0 a0_1 a0_2 a0_3 a0_4 a0_5 a0_6 a0_7 a0_8 a0_9 a0_10 a0_11 it ly nn
theorem arena_Slot.mid (bc bi bl bn : Nat) (a0_0 a0_1 a0_2 a0_3 a0_4 a0_5 a0_6 a0_7 : Int) (a0_8 : Bool) (a0_9 a0_10 a0_11 : Int) (it ly nn r : Int) (w : World) (Bbc_ : w.heap[bc]? = some (.cells #[.int .i64 a0_0, .int .i64 a0_1, .int .i64 a0_2, .int .i64 a0_3, .int .i64 a0_4, .int .i64 a0_5, .int .i64 a0_6, .int .i64 a0_7, .bool a0_8, .int .i64 a0_9, .int .i64 a0_10, .int .i64 a0_11] 23 (0, 0))) (Bbi_ : w.heap[bi]? = some (.cells #[.int .i64 it] 3 (0, 0))) (Bbl_ : w.heap[bl]? = some (.cells #[.int .i64 ly] 3 (0, 0))) (Bbn_ : w.heap[bn]? = some (.cells #[.int .i64 nn] 3 (0, 0))) (h : arena_Slot.midf a0_0 a0_1 a0_2 a0_3 a0_4 a0_5 a0_6 a0_7 a0_8 a0_9 a0_10 a0_11 it ly nn = some r) :
    Calls Try.prog 36 #[.pointer (some ⟨bn, 0, none⟩), .pointer (some ⟨bc, 0, none⟩), .pointer (some ⟨bi, 0, none⟩), .pointer (some ⟨bl, 0, none⟩)] w fun e w' => e = .returned (.int .i64 r) ∧ Below w.heap.size w w' := by
  unfold arena_Slot.midf at h
  by_cases hn : nn < 0 ∨ nn ≥ a0_5
  · rw [if_pos hn] at h; obtain rfl := Option.some.inj h; exact arena_Slot.mid_ bc bi bl bn a0_0 a0_1 a0_2 a0_3 a0_4 a0_5 a0_6 a0_7 a0_8 a0_9 a0_10 a0_11 it ly nn 0 (-1) w Bbc_ Bbi_ Bbl_ Bbn_ (by rw [if_pos hn]) (fun hh => absurd hn hh)
  · rw [if_neg hn] at h; exact arena_Slot.mid_ bc bi bl bn a0_0 a0_1 a0_2 a0_3 a0_4 a0_5 a0_6 a0_7 a0_8 a0_9 a0_10 a0_11 it ly nn r r w Bbc_ Bbi_ Bbl_ Bbn_ (by rw [if_neg hn]) (fun _ => h)
set_option maxHeartbeats 16000000 in
set_option maxRecDepth 100000 in
theorem arena_Slot.within2a (n l m r : Int) (cap : Array Value) (w : World) (h1 : n < l) :
    Calls Try.prog 31 #[.int .i64 n, .int .i64 l, .int .i64 m, .func (.func 36) #[] cap] w fun e w' => e = .returned (.int .i64 (-1)) ∧ Below w.heap.size w w' := by
  go_enter Try.func31, Try.ntmps31
  go_wp2
  go_ret
  exact ⟨rfl, Below.refl _ _⟩
set_option maxHeartbeats 16000000 in
set_option maxRecDepth 100000 in
theorem arena_Slot.within2b (n l m r : Int) (cap : Array Value) (w : World) (h1 : ¬ n < l) (h2 : n ≥ m) :
    Calls Try.prog 31 #[.int .i64 n, .int .i64 l, .int .i64 m, .func (.func 36) #[] cap] w fun e w' => e = .returned (.int .i64 (-1)) ∧ Below w.heap.size w w' := by
  go_enter Try.func31, Try.ntmps31
  go_wp2
  go_ret
  exact ⟨rfl, Below.refl _ _⟩
set_option maxHeartbeats 16000000 in
set_option maxRecDepth 100000 in
theorem arena_Slot.within2c (n l m r : Int) (cap : Array Value) (w : World) (h1 : ¬ n < l) (h2 : ¬ n ≥ m) (hK : Calls Try.prog 36 cap w fun e w' => e = .returned (.int .i64 r) ∧ Below w.heap.size w w') :
    Calls Try.prog 31 #[.int .i64 n, .int .i64 l, .int .i64 m, .func (.func 36) #[] cap] w fun e w' => e = .returned (.int .i64 (r)) ∧ Below w.heap.size w w' := by
  have HK := Aside0.mk hK
  clear hK
  go_enter Try.func31, Try.ntmps31
  go_wp2_with fail
  refine HK.out.mono ?_
  rintro e w1 ⟨rfl, hb⟩
  go_wp2
  go_ret
  exact ⟨rfl, hb⟩
theorem arena_Slot.within2 (n l m r q : Int) (cap : Array Value) (w : World) (hq : q = if n < l ∨ n ≥ m then -1 else r) (hK : ¬ (n < l ∨ n ≥ m) → Calls Try.prog 36 cap w fun e w' => e = .returned (.int .i64 r) ∧ Below w.heap.size w w') :
    Calls Try.prog 31 #[.int .i64 n, .int .i64 l, .int .i64 m, .func (.func 36) #[] cap] w fun e w' => e = .returned (.int .i64 q) ∧ Below w.heap.size w w' := by
  by_cases h1 : n < l
  · rw [hq, if_pos (Or.inl h1)]; exact arena_Slot.within2a n l m r cap w h1
  by_cases h2 : n ≥ m
  · rw [hq, if_pos (Or.inr h2)]; exact arena_Slot.within2b n l m r cap w h1 h2
  have h3 : ¬ (n < l ∨ n ≥ m) := by omega
  rw [hq, if_neg h3]; exact arena_Slot.within2c n l m r cap w h1 h2 (hK h3)
set_option maxHeartbeats 16000000 in
set_option maxRecDepth 100000 in
theorem arena_Slot.clo_ (bc bi bl bn : Nat) (a0_0 a0_1 a0_2 a0_3 a0_4 a0_5 a0_6 a0_7 : Int) (a0_8 : Bool) (a0_9 a0_10 a0_11 : Int) (it ly nn r q : Int) (w : World) (Bbc_ : w.heap[bc]? = some (.cells #[.int .i64 a0_0, .int .i64 a0_1, .int .i64 a0_2, .int .i64 a0_3, .int .i64 a0_4, .int .i64 a0_5, .int .i64 a0_6, .int .i64 a0_7, .bool a0_8, .int .i64 a0_9, .int .i64 a0_10, .int .i64 a0_11] 23 (0, 0))) (Bbi_ : w.heap[bi]? = some (.cells #[.int .i64 it] 3 (0, 0))) (Bbl_ : w.heap[bl]? = some (.cells #[.int .i64 ly] 3 (0, 0))) (Bbn_ : w.heap[bn]? = some (.cells #[.int .i64 nn] 3 (0, 0))) (hq : q = if ly < 1 ∨ ly ≥ wrap64 (1 + a0_4) then -1 else r) (hr : ¬ (ly < 1 ∨ ly ≥ wrap64 (1 + a0_4)) → arena_Slot.midf a0_0 a0_1 a0_2 a0_3 a0_4 a0_5 a0_6 a0_7 a0_8 a0_9 a0_10 a0_11 it ly nn = some r) :
    Calls Try.prog 35 #[.pointer (some ⟨bl, 0, none⟩), .pointer (some ⟨bc, 0, none⟩), .pointer (some ⟨bn, 0, none⟩), .pointer (some ⟨bi, 0, none⟩)] w fun e w' => e = .returned (.int .i64 (q)) ∧ Below w.heap.size w w' := by
  have Bbc := Aside0.mk Bbc_
  have Bbi := Aside0.mk Bbi_
  have Bbl := Aside0.mk Bbl_
  have Bbn := Aside0.mk Bbn_
  clear Bbc_ Bbi_ Bbl_ Bbn_
  have HB := Aside0.mk (Below.refl w.heap.size w)
  have hu23 := Try.underlying23
  have hbc_0 : w.cell? ⟨bc, 0, none⟩ = some (.int .i64 a0_0) := (blk_cell Bbc.out 0).trans rfl
  have hbc_1 : w.cell? ⟨bc, 1, none⟩ = some (.int .i64 a0_1) := (blk_cell Bbc.out 1).trans rfl
  have hbc_2 : w.cell? ⟨bc, 2, none⟩ = some (.int .i64 a0_2) := (blk_cell Bbc.out 2).trans rfl
  have hbc_3 : w.cell? ⟨bc, 3, none⟩ = some (.int .i64 a0_3) := (blk_cell Bbc.out 3).trans rfl
  have hbc_4 : w.cell? ⟨bc, 4, none⟩ = some (.int .i64 a0_4) := (blk_cell Bbc.out 4).trans rfl
  have hbc_5 : w.cell? ⟨bc, 5, none⟩ = some (.int .i64 a0_5) := (blk_cell Bbc.out 5).trans rfl
  have hbc_6 : w.cell? ⟨bc, 6, none⟩ = some (.int .i64 a0_6) := (blk_cell Bbc.out 6).trans rfl
  have hbc_7 : w.cell? ⟨bc, 7, none⟩ = some (.int .i64 a0_7) := (blk_cell Bbc.out 7).trans rfl
  have hbc_8 : w.cell? ⟨bc, 8, none⟩ = some (.bool a0_8) := (blk_cell Bbc.out 8).trans rfl
  have hbc_9 : w.cell? ⟨bc, 9, none⟩ = some (.int .i64 a0_9) := (blk_cell Bbc.out 9).trans rfl
  have hbc_10 : w.cell? ⟨bc, 10, none⟩ = some (.int .i64 a0_10) := (blk_cell Bbc.out 10).trans rfl
  have hbc_11 : w.cell? ⟨bc, 11, none⟩ = some (.int .i64 a0_11) := (blk_cell Bbc.out 11).trans rfl
  have hbi_0 : w.cell? ⟨bi, 0, none⟩ = some (.int .i64 it) := (blk_cell Bbi.out 0).trans rfl
  have hbl_0 : w.cell? ⟨bl, 0, none⟩ = some (.int .i64 ly) := (blk_cell Bbl.out 0).trans rfl
  have hbn_0 : w.cell? ⟨bn, 0, none⟩ = some (.int .i64 nn) := (blk_cell Bbn.out 0).trans rfl
  have HQ := Aside0.mk hq
  have HR := Aside0.mk hr
  clear hq hr
  go_enter Try.func35, Try.ntmps35
  go_wp2_with (first | (go_at_call 31; refine (arena_Slot.within2 ly 1 (wrap64 (1 + a0_4)) r q #[.pointer (some ⟨bn, 0, none⟩), .pointer (some ⟨bc, 0, none⟩), .pointer (some ⟨bi, 0, none⟩), .pointer (some ⟨bl, 0, none⟩)] _ HQ.out (fun hn => arena_Slot.mid bc bi bl bn a0_0 a0_1 a0_2 a0_3 a0_4 a0_5 a0_6 a0_7 a0_8 a0_9 a0_10 a0_11 it ly nn r _ (by (with_reducible repeat (first | refine blk_drewN ?_ _ | refine blk_drew ?_ | refine blk_alloc ?_ _)); exact Bbc.out) (by (with_reducible repeat (first | refine blk_drewN ?_ _ | refine blk_drew ?_ | refine blk_alloc ?_ _)); exact Bbi.out) (by (with_reducible repeat (first | refine blk_drewN ?_ _ | refine blk_drew ?_ | refine blk_alloc ?_ _)); exact Bbl.out) (by (with_reducible repeat (first | refine blk_drewN ?_ _ | refine blk_drew ?_ | refine blk_alloc ?_ _)); exact Bbn.out) (HR.out hn))).mono ?_; rintro e w1 ⟨rfl, hb⟩; have n0_ := Aside0.mk (below_step (by repeat (first | (with_reducible first | exact HB.out | apply below_alloc | apply pw_below_drewN | apply below_drew1) | exact HB.out)) hb); have m0_ := Aside0.mk (blk_below (g := bc) (o := .cells #[.int .i64 a0_0, .int .i64 a0_1, .int .i64 a0_2, .int .i64 a0_3, .int .i64 a0_4, .int .i64 a0_5, .int .i64 a0_6, .int .i64 a0_7, .bool a0_8, .int .i64 a0_9, .int .i64 a0_10, .int .i64 a0_11] 23 (0, 0)) (by (with_reducible repeat (first | refine blk_drewN ?_ _ | refine blk_drew ?_ | refine blk_alloc ?_ _)); exact Bbc.out) hb); have m1_ := Aside0.mk (blk_below (g := bi) (o := .cells #[.int .i64 it] 3 (0, 0)) (by (with_reducible repeat (first | refine blk_drewN ?_ _ | refine blk_drew ?_ | refine blk_alloc ?_ _)); exact Bbi.out) hb); have m2_ := Aside0.mk (blk_below (g := bl) (o := .cells #[.int .i64 ly] 3 (0, 0)) (by (with_reducible repeat (first | refine blk_drewN ?_ _ | refine blk_drew ?_ | refine blk_alloc ?_ _)); exact Bbl.out) hb); have m3_ := Aside0.mk (blk_below (g := bn) (o := .cells #[.int .i64 nn] 3 (0, 0)) (by (with_reducible repeat (first | refine blk_drewN ?_ _ | refine blk_drew ?_ | refine blk_alloc ?_ _)); exact Bbn.out) hb); clear hbc_0 hbc_1 hbc_2 hbc_3 hbc_4 hbc_5 hbc_6 hbc_7 hbc_8 hbc_9 hbc_10 hbc_11; clear hbi_0; clear hbl_0; clear hbn_0; clear HB Bbc Bbi Bbl Bbn; have HB := n0_; have Bbc := m0_; have Bbi := m1_; have Bbl := m2_; have Bbn := m3_; clear n0_ m0_ m1_ m2_ m3_ hb; have hbc_0 : w1.cell? ⟨bc, 0, none⟩ = some (.int .i64 a0_0) := (blk_cell Bbc.out 0).trans rfl; have hbc_1 : w1.cell? ⟨bc, 1, none⟩ = some (.int .i64 a0_1) := (blk_cell Bbc.out 1).trans rfl; have hbc_2 : w1.cell? ⟨bc, 2, none⟩ = some (.int .i64 a0_2) := (blk_cell Bbc.out 2).trans rfl; have hbc_3 : w1.cell? ⟨bc, 3, none⟩ = some (.int .i64 a0_3) := (blk_cell Bbc.out 3).trans rfl; have hbc_4 : w1.cell? ⟨bc, 4, none⟩ = some (.int .i64 a0_4) := (blk_cell Bbc.out 4).trans rfl; have hbc_5 : w1.cell? ⟨bc, 5, none⟩ = some (.int .i64 a0_5) := (blk_cell Bbc.out 5).trans rfl; have hbc_6 : w1.cell? ⟨bc, 6, none⟩ = some (.int .i64 a0_6) := (blk_cell Bbc.out 6).trans rfl; have hbc_7 : w1.cell? ⟨bc, 7, none⟩ = some (.int .i64 a0_7) := (blk_cell Bbc.out 7).trans rfl; have hbc_8 : w1.cell? ⟨bc, 8, none⟩ = some (.bool a0_8) := (blk_cell Bbc.out 8).trans rfl; have hbc_9 : w1.cell? ⟨bc, 9, none⟩ = some (.int .i64 a0_9) := (blk_cell Bbc.out 9).trans rfl; have hbc_10 : w1.cell? ⟨bc, 10, none⟩ = some (.int .i64 a0_10) := (blk_cell Bbc.out 10).trans rfl; have hbc_11 : w1.cell? ⟨bc, 11, none⟩ = some (.int .i64 a0_11) := (blk_cell Bbc.out 11).trans rfl; have hbi_0 : w1.cell? ⟨bi, 0, none⟩ = some (.int .i64 it) := (blk_cell Bbi.out 0).trans rfl; have hbl_0 : w1.cell? ⟨bl, 0, none⟩ = some (.int .i64 ly) := (blk_cell Bbl.out 0).trans rfl; have hbn_0 : w1.cell? ⟨bn, 0, none⟩ = some (.int .i64 nn) := (blk_cell Bbn.out 0).trans rfl))
  go_ret
  all_goals exact ⟨by first | rfl | (simp only [i64_w]; rfl) | (simp only [i64_w]; done) | (simp [i64_w]; done), by repeat (first | (with_reducible first | exact HB.out | apply below_alloc | apply pw_below_drewN | apply below_drew1) | exact HB.out)⟩
def arena_Slot.clof (a0_0 : Int) (a0_1 : Int) (a0_2 : Int) (a0_3 : Int) (a0_4 : Int) (a0_5 : Int) (a0_6 : Int) (a0_7 : Int) (a0_8 : Bool) (a0_9 : Int) (a0_10 : Int) (a0_11 : Int) (it ly nn : Int) : Option Int := if ly < 1 ∨ ly ≥ wrap64 (1 + a0_4) then some (-1) else arena_Slot.midf a0_0 a0_1 a0_2 a0_3 a0_4 a0_5 a0_6 a0_7 a0_8 a0_9 a0_10 a0_11 it ly nn
theorem arena_Slot.clo (bc bi bl bn : Nat) (a0_0 a0_1 a0_2 a0_3 a0_4 a0_5 a0_6 a0_7 : Int) (a0_8 : Bool) (a0_9 a0_10 a0_11 : Int) (it ly nn r : Int) (w : World) (Bbc_ : w.heap[bc]? = some (.cells #[.int .i64 a0_0, .int .i64 a0_1, .int .i64 a0_2, .int .i64 a0_3, .int .i64 a0_4, .int .i64 a0_5, .int .i64 a0_6, .int .i64 a0_7, .bool a0_8, .int .i64 a0_9, .int .i64 a0_10, .int .i64 a0_11] 23 (0, 0))) (Bbi_ : w.heap[bi]? = some (.cells #[.int .i64 it] 3 (0, 0))) (Bbl_ : w.heap[bl]? = some (.cells #[.int .i64 ly] 3 (0, 0))) (Bbn_ : w.heap[bn]? = some (.cells #[.int .i64 nn] 3 (0, 0))) (h : arena_Slot.clof a0_0 a0_1 a0_2 a0_3 a0_4 a0_5 a0_6 a0_7 a0_8 a0_9 a0_10 a0_11 it ly nn = some r) :
    Calls Try.prog 35 #[.pointer (some ⟨bl, 0, none⟩), .pointer (some ⟨bc, 0, none⟩), .pointer (some ⟨bn, 0, none⟩), .pointer (some ⟨bi, 0, none⟩)] w fun e w' => e = .returned (.int .i64 r) ∧ Below w.heap.size w w' := by
  unfold arena_Slot.clof at h
  by_cases hn : ly < 1 ∨ ly ≥ wrap64 (1 + a0_4)
  · rw [if_pos hn] at h; obtain rfl := Option.some.inj h; exact arena_Slot.clo_ bc bi bl bn a0_0 a0_1 a0_2 a0_3 a0_4 a0_5 a0_6 a0_7 a0_8 a0_9 a0_10 a0_11 it ly nn 0 (-1) w Bbc_ Bbi_ Bbl_ Bbn_ (by rw [if_pos hn]) (fun hh => absurd hn hh)
  · rw [if_neg hn] at h; exact arena_Slot.clo_ bc bi bl bn a0_0 a0_1 a0_2 a0_3 a0_4 a0_5 a0_6 a0_7 a0_8 a0_9 a0_10 a0_11 it ly nn r r w Bbc_ Bbi_ Bbl_ Bbn_ (by rw [if_neg hn]) (fun _ => h)
set_option maxHeartbeats 16000000 in
set_option maxRecDepth 100000 in
theorem arena_Slot.withina (n l m r : Int) (cap : Array Value) (w : World) (h1 : n < l) :
    Calls Try.prog 31 #[.int .i64 n, .int .i64 l, .int .i64 m, .func (.func 35) #[] cap] w fun e w' => e = .returned (.int .i64 (-1)) ∧ Below w.heap.size w w' := by
  go_enter Try.func31, Try.ntmps31
  go_wp2
  go_ret
  exact ⟨rfl, Below.refl _ _⟩
set_option maxHeartbeats 16000000 in
set_option maxRecDepth 100000 in
theorem arena_Slot.withinb (n l m r : Int) (cap : Array Value) (w : World) (h1 : ¬ n < l) (h2 : n ≥ m) :
    Calls Try.prog 31 #[.int .i64 n, .int .i64 l, .int .i64 m, .func (.func 35) #[] cap] w fun e w' => e = .returned (.int .i64 (-1)) ∧ Below w.heap.size w w' := by
  go_enter Try.func31, Try.ntmps31
  go_wp2
  go_ret
  exact ⟨rfl, Below.refl _ _⟩
set_option maxHeartbeats 16000000 in
set_option maxRecDepth 100000 in
theorem arena_Slot.withinc (n l m r : Int) (cap : Array Value) (w : World) (h1 : ¬ n < l) (h2 : ¬ n ≥ m) (hK : Calls Try.prog 35 cap w fun e w' => e = .returned (.int .i64 r) ∧ Below w.heap.size w w') :
    Calls Try.prog 31 #[.int .i64 n, .int .i64 l, .int .i64 m, .func (.func 35) #[] cap] w fun e w' => e = .returned (.int .i64 (r)) ∧ Below w.heap.size w w' := by
  have HK := Aside0.mk hK
  clear hK
  go_enter Try.func31, Try.ntmps31
  go_wp2_with fail
  refine HK.out.mono ?_
  rintro e w1 ⟨rfl, hb⟩
  go_wp2
  go_ret
  exact ⟨rfl, hb⟩
theorem arena_Slot.within (n l m r q : Int) (cap : Array Value) (w : World) (hq : q = if n < l ∨ n ≥ m then -1 else r) (hK : ¬ (n < l ∨ n ≥ m) → Calls Try.prog 35 cap w fun e w' => e = .returned (.int .i64 r) ∧ Below w.heap.size w w') :
    Calls Try.prog 31 #[.int .i64 n, .int .i64 l, .int .i64 m, .func (.func 35) #[] cap] w fun e w' => e = .returned (.int .i64 q) ∧ Below w.heap.size w w' := by
  by_cases h1 : n < l
  · rw [hq, if_pos (Or.inl h1)]; exact arena_Slot.withina n l m r cap w h1
  by_cases h2 : n ≥ m
  · rw [hq, if_pos (Or.inr h2)]; exact arena_Slot.withinb n l m r cap w h1 h2
  have h3 : ¬ (n < l ∨ n ≥ m) := by omega
  rw [hq, if_neg h3]; exact arena_Slot.withinc n l m r cap w h1 h2 (hK h3)
def arena_Slot.f (a0_0 : Int) (a0_1 : Int) (a0_2 : Int) (a0_3 : Int) (a0_4 : Int) (a0_5 : Int) (a0_6 : Int) (a0_7 : Int) (a0_8 : Bool) (a0_9 : Int) (a0_10 : Int) (a0_11 : Int) (it : Int) (ly : Int) (nn : Int) : Option Int := if it < 0 ∨ it ≥ a0_1 then some (-1) else arena_Slot.clof a0_0 a0_1 a0_2 a0_3 a0_4 a0_5 a0_6 a0_7 a0_8 a0_9 a0_10 a0_11 it ly nn
set_option maxHeartbeats 16000000 in
set_option maxRecDepth 100000 in
theorem arena_Slot.walk (a0_0 a0_1 a0_2 a0_3 a0_4 a0_5 a0_6 a0_7 : Int) (a0_8 : Bool) (a0_9 a0_10 a0_11 : Int) (it : Int) (ly : Int) (nn : Int) (r q : Int) (w : World) (hq : q = if it < 0 ∨ it ≥ a0_1 then -1 else r) (hr : ¬ (it < 0 ∨ it ≥ a0_1) → arena_Slot.clof a0_0 a0_1 a0_2 a0_3 a0_4 a0_5 a0_6 a0_7 a0_8 a0_9 a0_10 a0_11 it ly nn = some r) :
    Calls Try.prog 18 #[.agg #[.int .i64 a0_0, .int .i64 a0_1, .int .i64 a0_2, .int .i64 a0_3, .int .i64 a0_4, .int .i64 a0_5, .int .i64 a0_6, .int .i64 a0_7, .bool a0_8, .int .i64 a0_9, .int .i64 a0_10, .int .i64 a0_11], .int .i64 it, .int .i64 ly, .int .i64 nn] w fun e w' => e = .returned (.int .i64 q) ∧ Below w.heap.size w w' := by
  have HB := Aside0.mk (show Below w.heap.size w ((((w.alloc (.cells #[.int .i64 a0_0, .int .i64 a0_1, .int .i64 a0_2, .int .i64 a0_3, .int .i64 a0_4, .int .i64 a0_5, .int .i64 a0_6, .int .i64 a0_7, .bool a0_8, .int .i64 a0_9, .int .i64 a0_10, .int .i64 a0_11] 23)).alloc (.cells #[.int .i64 it] 3)).alloc (.cells #[.int .i64 ly] 3)).alloc (.cells #[.int .i64 nn] 3)) from by repeat (first | exact Below.refl _ _ | refine Below.alloc ?_ (by first | (simp; done) | (simp; omega)) _))
  have HK := Aside0.mk (fun hn : ¬ (it < 0 ∨ it ≥ a0_1) => arena_Slot.clo (w.heap.size) (w.heap.size + 1) (w.heap.size + 2) (w.heap.size + 3) a0_0 a0_1 a0_2 a0_3 a0_4 a0_5 a0_6 a0_7 a0_8 a0_9 a0_10 a0_11 it ly nn r ((((w.alloc (.cells #[.int .i64 a0_0, .int .i64 a0_1, .int .i64 a0_2, .int .i64 a0_3, .int .i64 a0_4, .int .i64 a0_5, .int .i64 a0_6, .int .i64 a0_7, .bool a0_8, .int .i64 a0_9, .int .i64 a0_10, .int .i64 a0_11] 23)).alloc (.cells #[.int .i64 it] 3)).alloc (.cells #[.int .i64 ly] 3)).alloc (.cells #[.int .i64 nn] 3)) (arena_of.new_0_4 _ _ _ _ _) (arena_of.new_1_4 _ _ _ _ _) (arena_of.new_2_4 _ _ _ _ _) (arena_of.new_3_4 _ _ _ _ _) (hr hn))
  have HQ := Aside0.mk hq
  clear hq hr
  go_enter Try.func18, Try.ntmps18
  go_wp2_with fail
  refine (arena_Slot.within it 0 a0_1 r q #[.pointer (some ⟨w.heap.size + 2, 0, none⟩), .pointer (some ⟨w.heap.size, 0, none⟩), .pointer (some ⟨w.heap.size + 3, 0, none⟩), .pointer (some ⟨w.heap.size + 1, 0, none⟩)] _ HQ.out HK.out).mono ?_
  rintro e w1 ⟨rfl, hb⟩
  go_wp2
  go_ret
  exact ⟨rfl, below_step HB.out hb⟩
theorem arena_Slot.calls (a0_0 : Int) (a0_1 : Int) (a0_2 : Int) (a0_3 : Int) (a0_4 : Int) (a0_5 : Int) (a0_6 : Int) (a0_7 : Int) (a0_8 : Bool) (a0_9 : Int) (a0_10 : Int) (a0_11 : Int) (it : Int) (ly : Int) (nn : Int) (r : Int) (w : World) (h : arena_Slot.f a0_0 a0_1 a0_2 a0_3 a0_4 a0_5 a0_6 a0_7 a0_8 a0_9 a0_10 a0_11 it ly nn = some r) :
    Calls Try.prog 18 #[.agg #[.int .i64 a0_0, .int .i64 a0_1, .int .i64 a0_2, .int .i64 a0_3, .int .i64 a0_4, .int .i64 a0_5, .int .i64 a0_6, .int .i64 a0_7, .bool a0_8, .int .i64 a0_9, .int .i64 a0_10, .int .i64 a0_11], .int .i64 it, .int .i64 ly, .int .i64 nn] w fun e w' => e = .returned (.int .i64 r) ∧ Below w.heap.size w w' := by
  unfold arena_Slot.f at h
  by_cases hn : it < 0 ∨ it ≥ a0_1
  · rw [if_pos hn] at h; obtain rfl := Option.some.inj h; exact arena_Slot.walk a0_0 a0_1 a0_2 a0_3 a0_4 a0_5 a0_6 a0_7 a0_8 a0_9 a0_10 a0_11 it ly nn 0 (-1) w (by rw [if_pos hn]) (fun hh => absurd hn hh)
  · rw [if_neg hn] at h; exact arena_Slot.walk a0_0 a0_1 a0_2 a0_3 a0_4 a0_5 a0_6 a0_7 a0_8 a0_9 a0_10 a0_11 it ly nn r r w (by rw [if_neg hn]) (fun _ => h)

/-! ### arena_Line: function 20 -/
set_option maxHeartbeats 16000000 in
set_option maxRecDepth 100000 in
theorem arena_Line.clo_ (bc bi : Nat) (a0_0 a0_1 a0_2 a0_3 a0_4 a0_5 a0_6 a0_7 : Int) (a0_8 : Bool) (a0_9 a0_10 a0_11 : Int) (it r1 r2 r3 r4 : Int) (w : World) (Bbc_ : w.heap[bc]? = some (.cells #[.int .i64 a0_0, .int .i64 a0_1, .int .i64 a0_2, .int .i64 a0_3, .int .i64 a0_4, .int .i64 a0_5, .int .i64 a0_6, .int .i64 a0_7, .bool a0_8, .int .i64 a0_9, .int .i64 a0_10, .int .i64 a0_11] 23 (0, 0))) (Bbi_ : w.heap[bi]? = some (.cells #[.int .i64 it] 3 (0, 0))) (ho : arena_of.f a0_0 a0_1 a0_2 a0_3 a0_4 a0_5 a0_6 a0_7 a0_8 a0_9 a0_10 a0_11 = some (r1, r2, r3, r4)) :
    Calls Try.prog 38 #[.pointer (some ⟨bc, 0, none⟩), .pointer (some ⟨bi, 0, none⟩)] w fun e w' => e = .returned (.int .i64 (wrap64 (r4 + wrap64 (2 * it)))) ∧ Below w.heap.size w w' := by
  have Bbc := Aside0.mk Bbc_
  have Bbi := Aside0.mk Bbi_
  clear Bbc_ Bbi_
  have HB := Aside0.mk (Below.refl w.heap.size w)
  have hu23 := Try.underlying23
  have hbc_0 : w.cell? ⟨bc, 0, none⟩ = some (.int .i64 a0_0) := (blk_cell Bbc.out 0).trans rfl
  have hbc_1 : w.cell? ⟨bc, 1, none⟩ = some (.int .i64 a0_1) := (blk_cell Bbc.out 1).trans rfl
  have hbc_2 : w.cell? ⟨bc, 2, none⟩ = some (.int .i64 a0_2) := (blk_cell Bbc.out 2).trans rfl
  have hbc_3 : w.cell? ⟨bc, 3, none⟩ = some (.int .i64 a0_3) := (blk_cell Bbc.out 3).trans rfl
  have hbc_4 : w.cell? ⟨bc, 4, none⟩ = some (.int .i64 a0_4) := (blk_cell Bbc.out 4).trans rfl
  have hbc_5 : w.cell? ⟨bc, 5, none⟩ = some (.int .i64 a0_5) := (blk_cell Bbc.out 5).trans rfl
  have hbc_6 : w.cell? ⟨bc, 6, none⟩ = some (.int .i64 a0_6) := (blk_cell Bbc.out 6).trans rfl
  have hbc_7 : w.cell? ⟨bc, 7, none⟩ = some (.int .i64 a0_7) := (blk_cell Bbc.out 7).trans rfl
  have hbc_8 : w.cell? ⟨bc, 8, none⟩ = some (.bool a0_8) := (blk_cell Bbc.out 8).trans rfl
  have hbc_9 : w.cell? ⟨bc, 9, none⟩ = some (.int .i64 a0_9) := (blk_cell Bbc.out 9).trans rfl
  have hbc_10 : w.cell? ⟨bc, 10, none⟩ = some (.int .i64 a0_10) := (blk_cell Bbc.out 10).trans rfl
  have hbc_11 : w.cell? ⟨bc, 11, none⟩ = some (.int .i64 a0_11) := (blk_cell Bbc.out 11).trans rfl
  have hbi_0 : w.cell? ⟨bi, 0, none⟩ = some (.int .i64 it) := (blk_cell Bbi.out 0).trans rfl
  have HO := Aside0.mk ho
  clear ho
  have hfl3 : ∀ w : World, (Instr.field 51 (.agg #[.int .i64 r1, .int .i64 r2, .int .i64 r3, .int .i64 r4]) 3).run Try.prog w = .ok (.int .i64 r4) w := fun _ => by kernel_rfl
  go_enter Try.func38, Try.ntmps38
  go_wp2
  go_region_held3 (fun w' => w'.cell? ⟨bc, 0, none⟩ = some (.int .i64 a0_0) ∧ w'.cell? ⟨bc, 1, none⟩ = some (.int .i64 a0_1) ∧ w'.cell? ⟨bc, 2, none⟩ = some (.int .i64 a0_2) ∧ w'.cell? ⟨bc, 3, none⟩ = some (.int .i64 a0_3) ∧ w'.cell? ⟨bc, 4, none⟩ = some (.int .i64 a0_4) ∧ w'.cell? ⟨bc, 5, none⟩ = some (.int .i64 a0_5) ∧ w'.cell? ⟨bc, 6, none⟩ = some (.int .i64 a0_6) ∧ w'.cell? ⟨bc, 7, none⟩ = some (.int .i64 a0_7) ∧ w'.cell? ⟨bc, 8, none⟩ = some (.bool a0_8) ∧ w'.cell? ⟨bc, 9, none⟩ = some (.int .i64 a0_9) ∧ w'.cell? ⟨bc, 10, none⟩ = some (.int .i64 a0_10) ∧ w'.cell? ⟨bc, 11, none⟩ = some (.int .i64 a0_11) ∧ w'.cell? ⟨bi, 0, none⟩ = some (.int .i64 it)) (exact ⟨hbc_0, hbc_1, hbc_2, hbc_3, hbc_4, hbc_5, hbc_6, hbc_7, hbc_8, hbc_9, hbc_10, hbc_11, hbi_0⟩) (first | (go_at_call 29; refine (arena_of.calls a0_0 a0_1 a0_2 a0_3 a0_4 a0_5 a0_6 a0_7 a0_8 a0_9 a0_10 a0_11 r1 r2 r3 r4 _ HO.out).mono ?_; rintro e w1 ⟨rfl, hb⟩; have n0_ := Aside0.mk (below_step (by repeat (first | (with_reducible first | exact HB.out | apply below_alloc | apply pw_below_drewN | apply below_drew1) | exact HB.out)) hb); have m0_ := Aside0.mk (blk_below (g := bc) (o := .cells #[.int .i64 a0_0, .int .i64 a0_1, .int .i64 a0_2, .int .i64 a0_3, .int .i64 a0_4, .int .i64 a0_5, .int .i64 a0_6, .int .i64 a0_7, .bool a0_8, .int .i64 a0_9, .int .i64 a0_10, .int .i64 a0_11] 23 (0, 0)) (by (with_reducible repeat (first | refine blk_drewN ?_ _ | refine blk_drew ?_ | refine blk_alloc ?_ _)); exact Bbc.out) hb); have m1_ := Aside0.mk (blk_below (g := bi) (o := .cells #[.int .i64 it] 3 (0, 0)) (by (with_reducible repeat (first | refine blk_drewN ?_ _ | refine blk_drew ?_ | refine blk_alloc ?_ _)); exact Bbi.out) hb); clear hbc_0 hbc_1 hbc_2 hbc_3 hbc_4 hbc_5 hbc_6 hbc_7 hbc_8 hbc_9 hbc_10 hbc_11; clear hbi_0; clear HB Bbc Bbi; have HB := n0_; have Bbc := m0_; have Bbi := m1_; clear n0_ m0_ m1_ hb; have hbc_0 : w1.cell? ⟨bc, 0, none⟩ = some (.int .i64 a0_0) := (blk_cell Bbc.out 0).trans rfl; have hbc_1 : w1.cell? ⟨bc, 1, none⟩ = some (.int .i64 a0_1) := (blk_cell Bbc.out 1).trans rfl; have hbc_2 : w1.cell? ⟨bc, 2, none⟩ = some (.int .i64 a0_2) := (blk_cell Bbc.out 2).trans rfl; have hbc_3 : w1.cell? ⟨bc, 3, none⟩ = some (.int .i64 a0_3) := (blk_cell Bbc.out 3).trans rfl; have hbc_4 : w1.cell? ⟨bc, 4, none⟩ = some (.int .i64 a0_4) := (blk_cell Bbc.out 4).trans rfl; have hbc_5 : w1.cell? ⟨bc, 5, none⟩ = some (.int .i64 a0_5) := (blk_cell Bbc.out 5).trans rfl; have hbc_6 : w1.cell? ⟨bc, 6, none⟩ = some (.int .i64 a0_6) := (blk_cell Bbc.out 6).trans rfl; have hbc_7 : w1.cell? ⟨bc, 7, none⟩ = some (.int .i64 a0_7) := (blk_cell Bbc.out 7).trans rfl; have hbc_8 : w1.cell? ⟨bc, 8, none⟩ = some (.bool a0_8) := (blk_cell Bbc.out 8).trans rfl; have hbc_9 : w1.cell? ⟨bc, 9, none⟩ = some (.int .i64 a0_9) := (blk_cell Bbc.out 9).trans rfl; have hbc_10 : w1.cell? ⟨bc, 10, none⟩ = some (.int .i64 a0_10) := (blk_cell Bbc.out 10).trans rfl; have hbc_11 : w1.cell? ⟨bc, 11, none⟩ = some (.int .i64 a0_11) := (blk_cell Bbc.out 11).trans rfl; have hbi_0 : w1.cell? ⟨bi, 0, none⟩ = some (.int .i64 it) := (blk_cell Bbi.out 0).trans rfl))
  all_goals go_wp2
  all_goals go_ret
  all_goals exact ⟨by first | rfl | (simp only [i64_w]; rfl) | (simp only [i64_w]; done) | (simp [i64_w]; done), by repeat (first | (with_reducible first | exact HB.out | apply below_alloc | apply pw_below_drewN | apply below_drew1) | exact HB.out)⟩
def arena_Line.clof (a0_0 : Int) (a0_1 : Int) (a0_2 : Int) (a0_3 : Int) (a0_4 : Int) (a0_5 : Int) (a0_6 : Int) (a0_7 : Int) (a0_8 : Bool) (a0_9 : Int) (a0_10 : Int) (a0_11 : Int) (it : Int) : Option Int := (arena_of.f a0_0 a0_1 a0_2 a0_3 a0_4 a0_5 a0_6 a0_7 a0_8 a0_9 a0_10 a0_11).bind fun b => some (wrap64 (b.2.2.2 + wrap64 (2 * it)))
theorem arena_Line.clo (bc bi : Nat) (a0_0 a0_1 a0_2 a0_3 a0_4 a0_5 a0_6 a0_7 : Int) (a0_8 : Bool) (a0_9 a0_10 a0_11 : Int) (it r : Int) (w : World) (Bbc_ : w.heap[bc]? = some (.cells #[.int .i64 a0_0, .int .i64 a0_1, .int .i64 a0_2, .int .i64 a0_3, .int .i64 a0_4, .int .i64 a0_5, .int .i64 a0_6, .int .i64 a0_7, .bool a0_8, .int .i64 a0_9, .int .i64 a0_10, .int .i64 a0_11] 23 (0, 0))) (Bbi_ : w.heap[bi]? = some (.cells #[.int .i64 it] 3 (0, 0))) (h : arena_Line.clof a0_0 a0_1 a0_2 a0_3 a0_4 a0_5 a0_6 a0_7 a0_8 a0_9 a0_10 a0_11 it = some r) :
    Calls Try.prog 38 #[.pointer (some ⟨bc, 0, none⟩), .pointer (some ⟨bi, 0, none⟩)] w fun e w' => e = .returned (.int .i64 r) ∧ Below w.heap.size w w' := by
  obtain ⟨⟨r1, r2, r3, r4⟩, ho, h⟩ := Option.bind_eq_some_iff.mp h
  obtain rfl := Option.some.inj h
  exact arena_Line.clo_ bc bi a0_0 a0_1 a0_2 a0_3 a0_4 a0_5 a0_6 a0_7 a0_8 a0_9 a0_10 a0_11 it r1 r2 r3 r4 w Bbc_ Bbi_ ho
set_option maxHeartbeats 16000000 in
set_option maxRecDepth 100000 in
theorem arena_Line.withina (n l m r : Int) (cap : Array Value) (w : World) (h1 : n < l) :
    Calls Try.prog 31 #[.int .i64 n, .int .i64 l, .int .i64 m, .func (.func 38) #[] cap] w fun e w' => e = .returned (.int .i64 (-1)) ∧ Below w.heap.size w w' := by
  go_enter Try.func31, Try.ntmps31
  go_wp2
  go_ret
  exact ⟨rfl, Below.refl _ _⟩
set_option maxHeartbeats 16000000 in
set_option maxRecDepth 100000 in
theorem arena_Line.withinb (n l m r : Int) (cap : Array Value) (w : World) (h1 : ¬ n < l) (h2 : n ≥ m) :
    Calls Try.prog 31 #[.int .i64 n, .int .i64 l, .int .i64 m, .func (.func 38) #[] cap] w fun e w' => e = .returned (.int .i64 (-1)) ∧ Below w.heap.size w w' := by
  go_enter Try.func31, Try.ntmps31
  go_wp2
  go_ret
  exact ⟨rfl, Below.refl _ _⟩
set_option maxHeartbeats 16000000 in
set_option maxRecDepth 100000 in
theorem arena_Line.withinc (n l m r : Int) (cap : Array Value) (w : World) (h1 : ¬ n < l) (h2 : ¬ n ≥ m) (hK : Calls Try.prog 38 cap w fun e w' => e = .returned (.int .i64 r) ∧ Below w.heap.size w w') :
    Calls Try.prog 31 #[.int .i64 n, .int .i64 l, .int .i64 m, .func (.func 38) #[] cap] w fun e w' => e = .returned (.int .i64 (r)) ∧ Below w.heap.size w w' := by
  have HK := Aside0.mk hK
  clear hK
  go_enter Try.func31, Try.ntmps31
  go_wp2_with fail
  refine HK.out.mono ?_
  rintro e w1 ⟨rfl, hb⟩
  go_wp2
  go_ret
  exact ⟨rfl, hb⟩
theorem arena_Line.within (n l m r q : Int) (cap : Array Value) (w : World) (hq : q = if n < l ∨ n ≥ m then -1 else r) (hK : ¬ (n < l ∨ n ≥ m) → Calls Try.prog 38 cap w fun e w' => e = .returned (.int .i64 r) ∧ Below w.heap.size w w') :
    Calls Try.prog 31 #[.int .i64 n, .int .i64 l, .int .i64 m, .func (.func 38) #[] cap] w fun e w' => e = .returned (.int .i64 q) ∧ Below w.heap.size w w' := by
  by_cases h1 : n < l
  · rw [hq, if_pos (Or.inl h1)]; exact arena_Line.withina n l m r cap w h1
  by_cases h2 : n ≥ m
  · rw [hq, if_pos (Or.inr h2)]; exact arena_Line.withinb n l m r cap w h1 h2
  have h3 : ¬ (n < l ∨ n ≥ m) := by omega
  rw [hq, if_neg h3]; exact arena_Line.withinc n l m r cap w h1 h2 (hK h3)
def arena_Line.f (a0_0 : Int) (a0_1 : Int) (a0_2 : Int) (a0_3 : Int) (a0_4 : Int) (a0_5 : Int) (a0_6 : Int) (a0_7 : Int) (a0_8 : Bool) (a0_9 : Int) (a0_10 : Int) (a0_11 : Int) (it : Int) : Option Int := if it < 0 ∨ it ≥ a0_0 then some (-1) else arena_Line.clof a0_0 a0_1 a0_2 a0_3 a0_4 a0_5 a0_6 a0_7 a0_8 a0_9 a0_10 a0_11 it
set_option maxHeartbeats 16000000 in
set_option maxRecDepth 100000 in
theorem arena_Line.walk (a0_0 a0_1 a0_2 a0_3 a0_4 a0_5 a0_6 a0_7 : Int) (a0_8 : Bool) (a0_9 a0_10 a0_11 : Int) (it : Int) (r q : Int) (w : World) (hq : q = if it < 0 ∨ it ≥ a0_0 then -1 else r) (hr : ¬ (it < 0 ∨ it ≥ a0_0) → arena_Line.clof a0_0 a0_1 a0_2 a0_3 a0_4 a0_5 a0_6 a0_7 a0_8 a0_9 a0_10 a0_11 it = some r) :
    Calls Try.prog 20 #[.agg #[.int .i64 a0_0, .int .i64 a0_1, .int .i64 a0_2, .int .i64 a0_3, .int .i64 a0_4, .int .i64 a0_5, .int .i64 a0_6, .int .i64 a0_7, .bool a0_8, .int .i64 a0_9, .int .i64 a0_10, .int .i64 a0_11], .int .i64 it] w fun e w' => e = .returned (.int .i64 q) ∧ Below w.heap.size w w' := by
  have HB := Aside0.mk (show Below w.heap.size w ((w.alloc (.cells #[.int .i64 a0_0, .int .i64 a0_1, .int .i64 a0_2, .int .i64 a0_3, .int .i64 a0_4, .int .i64 a0_5, .int .i64 a0_6, .int .i64 a0_7, .bool a0_8, .int .i64 a0_9, .int .i64 a0_10, .int .i64 a0_11] 23)).alloc (.cells #[.int .i64 it] 3)) from by repeat (first | exact Below.refl _ _ | refine Below.alloc ?_ (by first | (simp; done) | (simp; omega)) _))
  have HK := Aside0.mk (fun hn : ¬ (it < 0 ∨ it ≥ a0_0) => arena_Line.clo (w.heap.size) (w.heap.size + 1) a0_0 a0_1 a0_2 a0_3 a0_4 a0_5 a0_6 a0_7 a0_8 a0_9 a0_10 a0_11 it r ((w.alloc (.cells #[.int .i64 a0_0, .int .i64 a0_1, .int .i64 a0_2, .int .i64 a0_3, .int .i64 a0_4, .int .i64 a0_5, .int .i64 a0_6, .int .i64 a0_7, .bool a0_8, .int .i64 a0_9, .int .i64 a0_10, .int .i64 a0_11] 23)).alloc (.cells #[.int .i64 it] 3)) (arena_of.new_0_2 _ _ _) (arena_of.new_1_2 _ _ _) (hr hn))
  have HQ := Aside0.mk hq
  clear hq hr
  go_enter Try.func20, Try.ntmps20
  go_wp2_with fail
  refine (arena_Line.within it 0 a0_0 r q #[.pointer (some ⟨w.heap.size, 0, none⟩), .pointer (some ⟨w.heap.size + 1, 0, none⟩)] _ HQ.out HK.out).mono ?_
  rintro e w1 ⟨rfl, hb⟩
  go_wp2
  go_ret
  exact ⟨rfl, below_step HB.out hb⟩
theorem arena_Line.calls (a0_0 : Int) (a0_1 : Int) (a0_2 : Int) (a0_3 : Int) (a0_4 : Int) (a0_5 : Int) (a0_6 : Int) (a0_7 : Int) (a0_8 : Bool) (a0_9 : Int) (a0_10 : Int) (a0_11 : Int) (it : Int) (r : Int) (w : World) (h : arena_Line.f a0_0 a0_1 a0_2 a0_3 a0_4 a0_5 a0_6 a0_7 a0_8 a0_9 a0_10 a0_11 it = some r) :
    Calls Try.prog 20 #[.agg #[.int .i64 a0_0, .int .i64 a0_1, .int .i64 a0_2, .int .i64 a0_3, .int .i64 a0_4, .int .i64 a0_5, .int .i64 a0_6, .int .i64 a0_7, .bool a0_8, .int .i64 a0_9, .int .i64 a0_10, .int .i64 a0_11], .int .i64 it] w fun e w' => e = .returned (.int .i64 r) ∧ Below w.heap.size w w' := by
  unfold arena_Line.f at h
  by_cases hn : it < 0 ∨ it ≥ a0_0
  · rw [if_pos hn] at h; obtain rfl := Option.some.inj h; exact arena_Line.walk a0_0 a0_1 a0_2 a0_3 a0_4 a0_5 a0_6 a0_7 a0_8 a0_9 a0_10 a0_11 it 0 (-1) w (by rw [if_pos hn]) (fun hh => absurd hn hh)
  · rw [if_neg hn] at h; exact arena_Line.walk a0_0 a0_1 a0_2 a0_3 a0_4 a0_5 a0_6 a0_7 a0_8 a0_9 a0_10 a0_11 it r r w (by rw [if_neg hn]) (fun _ => h)

/-! ### arena_Result: function 22 -/
set_option maxHeartbeats 16000000 in
set_option maxRecDepth 100000 in
theorem arena_Result.clo_ (bc bi : Nat) (a0_0 a0_1 a0_2 a0_3 a0_4 a0_5 a0_6 a0_7 : Int) (a0_8 : Bool) (a0_9 a0_10 a0_11 : Int) (it r1 r2 r3 r4 : Int) (w : World) (Bbc_ : w.heap[bc]? = some (.cells #[.int .i64 a0_0, .int .i64 a0_1, .int .i64 a0_2, .int .i64 a0_3, .int .i64 a0_4, .int .i64 a0_5, .int .i64 a0_6, .int .i64 a0_7, .bool a0_8, .int .i64 a0_9, .int .i64 a0_10, .int .i64 a0_11] 23 (0, 0))) (Bbi_ : w.heap[bi]? = some (.cells #[.int .i64 it] 3 (0, 0))) (ho : arena_of.f a0_0 a0_1 a0_2 a0_3 a0_4 a0_5 a0_6 a0_7 a0_8 a0_9 a0_10 a0_11 = some (r1, r2, r3, r4)) :
    Calls Try.prog 39 #[.pointer (some ⟨bc, 0, none⟩), .pointer (some ⟨bi, 0, none⟩)] w fun e w' => e = .returned (.int .i64 (wrap64 (wrap64 (r4 + wrap64 (2 * it)) + 1))) ∧ Below w.heap.size w w' := by
  have Bbc := Aside0.mk Bbc_
  have Bbi := Aside0.mk Bbi_
  clear Bbc_ Bbi_
  have HB := Aside0.mk (Below.refl w.heap.size w)
  have hu23 := Try.underlying23
  have hbc_0 : w.cell? ⟨bc, 0, none⟩ = some (.int .i64 a0_0) := (blk_cell Bbc.out 0).trans rfl
  have hbc_1 : w.cell? ⟨bc, 1, none⟩ = some (.int .i64 a0_1) := (blk_cell Bbc.out 1).trans rfl
  have hbc_2 : w.cell? ⟨bc, 2, none⟩ = some (.int .i64 a0_2) := (blk_cell Bbc.out 2).trans rfl
  have hbc_3 : w.cell? ⟨bc, 3, none⟩ = some (.int .i64 a0_3) := (blk_cell Bbc.out 3).trans rfl
  have hbc_4 : w.cell? ⟨bc, 4, none⟩ = some (.int .i64 a0_4) := (blk_cell Bbc.out 4).trans rfl
  have hbc_5 : w.cell? ⟨bc, 5, none⟩ = some (.int .i64 a0_5) := (blk_cell Bbc.out 5).trans rfl
  have hbc_6 : w.cell? ⟨bc, 6, none⟩ = some (.int .i64 a0_6) := (blk_cell Bbc.out 6).trans rfl
  have hbc_7 : w.cell? ⟨bc, 7, none⟩ = some (.int .i64 a0_7) := (blk_cell Bbc.out 7).trans rfl
  have hbc_8 : w.cell? ⟨bc, 8, none⟩ = some (.bool a0_8) := (blk_cell Bbc.out 8).trans rfl
  have hbc_9 : w.cell? ⟨bc, 9, none⟩ = some (.int .i64 a0_9) := (blk_cell Bbc.out 9).trans rfl
  have hbc_10 : w.cell? ⟨bc, 10, none⟩ = some (.int .i64 a0_10) := (blk_cell Bbc.out 10).trans rfl
  have hbc_11 : w.cell? ⟨bc, 11, none⟩ = some (.int .i64 a0_11) := (blk_cell Bbc.out 11).trans rfl
  have hbi_0 : w.cell? ⟨bi, 0, none⟩ = some (.int .i64 it) := (blk_cell Bbi.out 0).trans rfl
  have HO := Aside0.mk ho
  clear ho
  have hfl3 : ∀ w : World, (Instr.field 51 (.agg #[.int .i64 r1, .int .i64 r2, .int .i64 r3, .int .i64 r4]) 3).run Try.prog w = .ok (.int .i64 r4) w := fun _ => by kernel_rfl
  go_enter Try.func39, Try.ntmps39
  go_wp2
  go_region_held3 (fun w' => w'.cell? ⟨bc, 0, none⟩ = some (.int .i64 a0_0) ∧ w'.cell? ⟨bc, 1, none⟩ = some (.int .i64 a0_1) ∧ w'.cell? ⟨bc, 2, none⟩ = some (.int .i64 a0_2) ∧ w'.cell? ⟨bc, 3, none⟩ = some (.int .i64 a0_3) ∧ w'.cell? ⟨bc, 4, none⟩ = some (.int .i64 a0_4) ∧ w'.cell? ⟨bc, 5, none⟩ = some (.int .i64 a0_5) ∧ w'.cell? ⟨bc, 6, none⟩ = some (.int .i64 a0_6) ∧ w'.cell? ⟨bc, 7, none⟩ = some (.int .i64 a0_7) ∧ w'.cell? ⟨bc, 8, none⟩ = some (.bool a0_8) ∧ w'.cell? ⟨bc, 9, none⟩ = some (.int .i64 a0_9) ∧ w'.cell? ⟨bc, 10, none⟩ = some (.int .i64 a0_10) ∧ w'.cell? ⟨bc, 11, none⟩ = some (.int .i64 a0_11) ∧ w'.cell? ⟨bi, 0, none⟩ = some (.int .i64 it)) (exact ⟨hbc_0, hbc_1, hbc_2, hbc_3, hbc_4, hbc_5, hbc_6, hbc_7, hbc_8, hbc_9, hbc_10, hbc_11, hbi_0⟩) (first | (go_at_call 29; refine (arena_of.calls a0_0 a0_1 a0_2 a0_3 a0_4 a0_5 a0_6 a0_7 a0_8 a0_9 a0_10 a0_11 r1 r2 r3 r4 _ HO.out).mono ?_; rintro e w1 ⟨rfl, hb⟩; have n0_ := Aside0.mk (below_step (by repeat (first | (with_reducible first | exact HB.out | apply below_alloc | apply pw_below_drewN | apply below_drew1) | exact HB.out)) hb); have m0_ := Aside0.mk (blk_below (g := bc) (o := .cells #[.int .i64 a0_0, .int .i64 a0_1, .int .i64 a0_2, .int .i64 a0_3, .int .i64 a0_4, .int .i64 a0_5, .int .i64 a0_6, .int .i64 a0_7, .bool a0_8, .int .i64 a0_9, .int .i64 a0_10, .int .i64 a0_11] 23 (0, 0)) (by (with_reducible repeat (first | refine blk_drewN ?_ _ | refine blk_drew ?_ | refine blk_alloc ?_ _)); exact Bbc.out) hb); have m1_ := Aside0.mk (blk_below (g := bi) (o := .cells #[.int .i64 it] 3 (0, 0)) (by (with_reducible repeat (first | refine blk_drewN ?_ _ | refine blk_drew ?_ | refine blk_alloc ?_ _)); exact Bbi.out) hb); clear hbc_0 hbc_1 hbc_2 hbc_3 hbc_4 hbc_5 hbc_6 hbc_7 hbc_8 hbc_9 hbc_10 hbc_11; clear hbi_0; clear HB Bbc Bbi; have HB := n0_; have Bbc := m0_; have Bbi := m1_; clear n0_ m0_ m1_ hb; have hbc_0 : w1.cell? ⟨bc, 0, none⟩ = some (.int .i64 a0_0) := (blk_cell Bbc.out 0).trans rfl; have hbc_1 : w1.cell? ⟨bc, 1, none⟩ = some (.int .i64 a0_1) := (blk_cell Bbc.out 1).trans rfl; have hbc_2 : w1.cell? ⟨bc, 2, none⟩ = some (.int .i64 a0_2) := (blk_cell Bbc.out 2).trans rfl; have hbc_3 : w1.cell? ⟨bc, 3, none⟩ = some (.int .i64 a0_3) := (blk_cell Bbc.out 3).trans rfl; have hbc_4 : w1.cell? ⟨bc, 4, none⟩ = some (.int .i64 a0_4) := (blk_cell Bbc.out 4).trans rfl; have hbc_5 : w1.cell? ⟨bc, 5, none⟩ = some (.int .i64 a0_5) := (blk_cell Bbc.out 5).trans rfl; have hbc_6 : w1.cell? ⟨bc, 6, none⟩ = some (.int .i64 a0_6) := (blk_cell Bbc.out 6).trans rfl; have hbc_7 : w1.cell? ⟨bc, 7, none⟩ = some (.int .i64 a0_7) := (blk_cell Bbc.out 7).trans rfl; have hbc_8 : w1.cell? ⟨bc, 8, none⟩ = some (.bool a0_8) := (blk_cell Bbc.out 8).trans rfl; have hbc_9 : w1.cell? ⟨bc, 9, none⟩ = some (.int .i64 a0_9) := (blk_cell Bbc.out 9).trans rfl; have hbc_10 : w1.cell? ⟨bc, 10, none⟩ = some (.int .i64 a0_10) := (blk_cell Bbc.out 10).trans rfl; have hbc_11 : w1.cell? ⟨bc, 11, none⟩ = some (.int .i64 a0_11) := (blk_cell Bbc.out 11).trans rfl; have hbi_0 : w1.cell? ⟨bi, 0, none⟩ = some (.int .i64 it) := (blk_cell Bbi.out 0).trans rfl))
  all_goals go_wp2
  all_goals go_ret
  all_goals exact ⟨by first | rfl | (simp only [i64_w]; rfl) | (simp only [i64_w]; done) | (simp [i64_w]; done), by repeat (first | (with_reducible first | exact HB.out | apply below_alloc | apply pw_below_drewN | apply below_drew1) | exact HB.out)⟩
def arena_Result.clof (a0_0 : Int) (a0_1 : Int) (a0_2 : Int) (a0_3 : Int) (a0_4 : Int) (a0_5 : Int) (a0_6 : Int) (a0_7 : Int) (a0_8 : Bool) (a0_9 : Int) (a0_10 : Int) (a0_11 : Int) (it : Int) : Option Int := (arena_of.f a0_0 a0_1 a0_2 a0_3 a0_4 a0_5 a0_6 a0_7 a0_8 a0_9 a0_10 a0_11).bind fun b => some (wrap64 (wrap64 (b.2.2.2 + wrap64 (2 * it)) + 1))
theorem arena_Result.clo (bc bi : Nat) (a0_0 a0_1 a0_2 a0_3 a0_4 a0_5 a0_6 a0_7 : Int) (a0_8 : Bool) (a0_9 a0_10 a0_11 : Int) (it r : Int) (w : World) (Bbc_ : w.heap[bc]? = some (.cells #[.int .i64 a0_0, .int .i64 a0_1, .int .i64 a0_2, .int .i64 a0_3, .int .i64 a0_4, .int .i64 a0_5, .int .i64 a0_6, .int .i64 a0_7, .bool a0_8, .int .i64 a0_9, .int .i64 a0_10, .int .i64 a0_11] 23 (0, 0))) (Bbi_ : w.heap[bi]? = some (.cells #[.int .i64 it] 3 (0, 0))) (h : arena_Result.clof a0_0 a0_1 a0_2 a0_3 a0_4 a0_5 a0_6 a0_7 a0_8 a0_9 a0_10 a0_11 it = some r) :
    Calls Try.prog 39 #[.pointer (some ⟨bc, 0, none⟩), .pointer (some ⟨bi, 0, none⟩)] w fun e w' => e = .returned (.int .i64 r) ∧ Below w.heap.size w w' := by
  obtain ⟨⟨r1, r2, r3, r4⟩, ho, h⟩ := Option.bind_eq_some_iff.mp h
  obtain rfl := Option.some.inj h
  exact arena_Result.clo_ bc bi a0_0 a0_1 a0_2 a0_3 a0_4 a0_5 a0_6 a0_7 a0_8 a0_9 a0_10 a0_11 it r1 r2 r3 r4 w Bbc_ Bbi_ ho
set_option maxHeartbeats 16000000 in
set_option maxRecDepth 100000 in
theorem arena_Result.withina (n l m r : Int) (cap : Array Value) (w : World) (h1 : n < l) :
    Calls Try.prog 31 #[.int .i64 n, .int .i64 l, .int .i64 m, .func (.func 39) #[] cap] w fun e w' => e = .returned (.int .i64 (-1)) ∧ Below w.heap.size w w' := by
  go_enter Try.func31, Try.ntmps31
  go_wp2
  go_ret
  exact ⟨rfl, Below.refl _ _⟩
set_option maxHeartbeats 16000000 in
set_option maxRecDepth 100000 in
theorem arena_Result.withinb (n l m r : Int) (cap : Array Value) (w : World) (h1 : ¬ n < l) (h2 : n ≥ m) :
    Calls Try.prog 31 #[.int .i64 n, .int .i64 l, .int .i64 m, .func (.func 39) #[] cap] w fun e w' => e = .returned (.int .i64 (-1)) ∧ Below w.heap.size w w' := by
  go_enter Try.func31, Try.ntmps31
  go_wp2
  go_ret
  exact ⟨rfl, Below.refl _ _⟩
set_option maxHeartbeats 16000000 in
set_option maxRecDepth 100000 in
theorem arena_Result.withinc (n l m r : Int) (cap : Array Value) (w : World) (h1 : ¬ n < l) (h2 : ¬ n ≥ m) (hK : Calls Try.prog 39 cap w fun e w' => e = .returned (.int .i64 r) ∧ Below w.heap.size w w') :
    Calls Try.prog 31 #[.int .i64 n, .int .i64 l, .int .i64 m, .func (.func 39) #[] cap] w fun e w' => e = .returned (.int .i64 (r)) ∧ Below w.heap.size w w' := by
  have HK := Aside0.mk hK
  clear hK
  go_enter Try.func31, Try.ntmps31
  go_wp2_with fail
  refine HK.out.mono ?_
  rintro e w1 ⟨rfl, hb⟩
  go_wp2
  go_ret
  exact ⟨rfl, hb⟩
theorem arena_Result.within (n l m r q : Int) (cap : Array Value) (w : World) (hq : q = if n < l ∨ n ≥ m then -1 else r) (hK : ¬ (n < l ∨ n ≥ m) → Calls Try.prog 39 cap w fun e w' => e = .returned (.int .i64 r) ∧ Below w.heap.size w w') :
    Calls Try.prog 31 #[.int .i64 n, .int .i64 l, .int .i64 m, .func (.func 39) #[] cap] w fun e w' => e = .returned (.int .i64 q) ∧ Below w.heap.size w w' := by
  by_cases h1 : n < l
  · rw [hq, if_pos (Or.inl h1)]; exact arena_Result.withina n l m r cap w h1
  by_cases h2 : n ≥ m
  · rw [hq, if_pos (Or.inr h2)]; exact arena_Result.withinb n l m r cap w h1 h2
  have h3 : ¬ (n < l ∨ n ≥ m) := by omega
  rw [hq, if_neg h3]; exact arena_Result.withinc n l m r cap w h1 h2 (hK h3)
def arena_Result.f (a0_0 : Int) (a0_1 : Int) (a0_2 : Int) (a0_3 : Int) (a0_4 : Int) (a0_5 : Int) (a0_6 : Int) (a0_7 : Int) (a0_8 : Bool) (a0_9 : Int) (a0_10 : Int) (a0_11 : Int) (it : Int) : Option Int := if it < 0 ∨ it ≥ a0_0 then some (-1) else arena_Result.clof a0_0 a0_1 a0_2 a0_3 a0_4 a0_5 a0_6 a0_7 a0_8 a0_9 a0_10 a0_11 it
set_option maxHeartbeats 16000000 in
set_option maxRecDepth 100000 in
theorem arena_Result.walk (a0_0 a0_1 a0_2 a0_3 a0_4 a0_5 a0_6 a0_7 : Int) (a0_8 : Bool) (a0_9 a0_10 a0_11 : Int) (it : Int) (r q : Int) (w : World) (hq : q = if it < 0 ∨ it ≥ a0_0 then -1 else r) (hr : ¬ (it < 0 ∨ it ≥ a0_0) → arena_Result.clof a0_0 a0_1 a0_2 a0_3 a0_4 a0_5 a0_6 a0_7 a0_8 a0_9 a0_10 a0_11 it = some r) :
    Calls Try.prog 22 #[.agg #[.int .i64 a0_0, .int .i64 a0_1, .int .i64 a0_2, .int .i64 a0_3, .int .i64 a0_4, .int .i64 a0_5, .int .i64 a0_6, .int .i64 a0_7, .bool a0_8, .int .i64 a0_9, .int .i64 a0_10, .int .i64 a0_11], .int .i64 it] w fun e w' => e = .returned (.int .i64 q) ∧ Below w.heap.size w w' := by
  have HB := Aside0.mk (show Below w.heap.size w ((w.alloc (.cells #[.int .i64 a0_0, .int .i64 a0_1, .int .i64 a0_2, .int .i64 a0_3, .int .i64 a0_4, .int .i64 a0_5, .int .i64 a0_6, .int .i64 a0_7, .bool a0_8, .int .i64 a0_9, .int .i64 a0_10, .int .i64 a0_11] 23)).alloc (.cells #[.int .i64 it] 3)) from by repeat (first | exact Below.refl _ _ | refine Below.alloc ?_ (by first | (simp; done) | (simp; omega)) _))
  have HK := Aside0.mk (fun hn : ¬ (it < 0 ∨ it ≥ a0_0) => arena_Result.clo (w.heap.size) (w.heap.size + 1) a0_0 a0_1 a0_2 a0_3 a0_4 a0_5 a0_6 a0_7 a0_8 a0_9 a0_10 a0_11 it r ((w.alloc (.cells #[.int .i64 a0_0, .int .i64 a0_1, .int .i64 a0_2, .int .i64 a0_3, .int .i64 a0_4, .int .i64 a0_5, .int .i64 a0_6, .int .i64 a0_7, .bool a0_8, .int .i64 a0_9, .int .i64 a0_10, .int .i64 a0_11] 23)).alloc (.cells #[.int .i64 it] 3)) (arena_of.new_0_2 _ _ _) (arena_of.new_1_2 _ _ _) (hr hn))
  have HQ := Aside0.mk hq
  clear hq hr
  go_enter Try.func22, Try.ntmps22
  go_wp2_with fail
  refine (arena_Result.within it 0 a0_0 r q #[.pointer (some ⟨w.heap.size, 0, none⟩), .pointer (some ⟨w.heap.size + 1, 0, none⟩)] _ HQ.out HK.out).mono ?_
  rintro e w1 ⟨rfl, hb⟩
  go_wp2
  go_ret
  exact ⟨rfl, below_step HB.out hb⟩
theorem arena_Result.calls (a0_0 : Int) (a0_1 : Int) (a0_2 : Int) (a0_3 : Int) (a0_4 : Int) (a0_5 : Int) (a0_6 : Int) (a0_7 : Int) (a0_8 : Bool) (a0_9 : Int) (a0_10 : Int) (a0_11 : Int) (it : Int) (r : Int) (w : World) (h : arena_Result.f a0_0 a0_1 a0_2 a0_3 a0_4 a0_5 a0_6 a0_7 a0_8 a0_9 a0_10 a0_11 it = some r) :
    Calls Try.prog 22 #[.agg #[.int .i64 a0_0, .int .i64 a0_1, .int .i64 a0_2, .int .i64 a0_3, .int .i64 a0_4, .int .i64 a0_5, .int .i64 a0_6, .int .i64 a0_7, .bool a0_8, .int .i64 a0_9, .int .i64 a0_10, .int .i64 a0_11], .int .i64 it] w fun e w' => e = .returned (.int .i64 r) ∧ Below w.heap.size w w' := by
  unfold arena_Result.f at h
  by_cases hn : it < 0 ∨ it ≥ a0_0
  · rw [if_pos hn] at h; obtain rfl := Option.some.inj h; exact arena_Result.walk a0_0 a0_1 a0_2 a0_3 a0_4 a0_5 a0_6 a0_7 a0_8 a0_9 a0_10 a0_11 it 0 (-1) w (by rw [if_pos hn]) (fun hh => absurd hn hh)
  · rw [if_neg hn] at h; exact arena_Result.walk a0_0 a0_1 a0_2 a0_3 a0_4 a0_5 a0_6 a0_7 a0_8 a0_9 a0_10 a0_11 it r r w (by rw [if_neg hn]) (fun _ => h)

end Go.Proofs.Ytdfcioadccijfaa.PA
