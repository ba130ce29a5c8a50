-- Laid by a program of this session over the kit's print; hand-proved functions stand among them. Not trusted: Lean checks it.
import Derived.Test.YtdfcioadccijfaaPAx0
import Derived.Test.YtdfcioadccijfaaPAx4
import Derived.Test.YtdfcioadccijfaaPAx10
namespace Go.Proofs.Ytdfcioadccijfaa.PA
open Go.RowKit Go.Proofs.YtdfcioadccijfaaW.PrintWords Go.Proofs.YtdfcioadccijfaaW.PrintLast Go.Proofs.YtdfcioadccijfaaW.PrintMore
attribute [local go_sem] max2_int min2_int max_two min_two max_three min_three max_four min_four   -- for this text's walks alone
set_option linter.unusedVariables false
set_option linter.unusedSimpArgs false

/-! ### millstreamref06_Build: function 27 -/
def millstreamref06_Build.l0 : Nat → Int → Int → Int → Int → Int → Int → Int → Int → Int → Bool → Int → Int → Int → List Int → List (List (S66)) → Option (List Int × (List (List (S66))))
 | 0, _, _, _, _, _, _, _, _, _, _, _, _, _, _, _ => none
 | k + 1, x4, x233000, x233001, x233002, x233003, x233004, x233005, x233006, x233007, x233008, x233009, x233010, x233011, x242000, x242001 => if x4 < x233001 then ((millstreamref06_Cell.f k x233000 x233001 x233002 x233003 x233004 x233005 x233006 x233007 x233008 x233009 x233010 x233011 x4).bind fun t242 => ((millstreamref03_Store.f x242000 x242001 t242 x233011).bind fun bt243 => (millstreamref06_Build.l0 k (wrap64 (x4 + 1)) x233000 x233001 x233002 x233003 x233004 x233005 x233006 x233007 x233008 x233009 x233010 x233011 bt243.1 bt243.2.1))) else (some (x242000, x242001))
def millstreamref06_Build.f (k : Nat) (a0_0 : Int) (a0_1 : Int) (a0_2 : Int) (a0_3 : Int) (a0_4 : Int) (a0_5 : Int) (a0_6 : Int) (a0_7 : Int) (a0_8 : Bool) (a0_9 : Int) (a0_10 : Int) (a0_11 : Int) : Option (List Int × (List (List (S66)))) := (millstreamref06_Size.f k a0_0 a0_1 a0_2 a0_3 a0_4 a0_5 a0_6 a0_7 a0_8 a0_9 a0_10 a0_11).bind fun t234 => ((millstreamref03_New.f k t234 a0_0).bind fun bt235 => (millstreamref06_Build.l0 k 0 a0_0 a0_1 a0_2 a0_3 a0_4 a0_5 a0_6 a0_7 a0_8 a0_9 a0_10 a0_11 bt235.1 bt235.2))
theorem millstreamref06_Build.mono_l : ∀ k, (∀ y0 y1 y2 y3 y4 y5 y6 y7 y8 y9 y10 y11 y12 y13 y14, LeO (millstreamref06_Build.l0 k y0 y1 y2 y3 y4 y5 y6 y7 y8 y9 y10 y11 y12 y13 y14) (millstreamref06_Build.l0 (k + 1) y0 y1 y2 y3 y4 y5 y6 y7 y8 y9 y10 y11 y12 y13 y14))
 | 0 => fun _ _ _ _ _ _ _ _ _ _ _ _ _ _ _ r h => by simp [millstreamref06_Build.l0] at h
 | k + 1 => by
  have ih0 := millstreamref06_Build.mono_l k
  ·intro y0 y1 y2 y3 y4 y5 y6 y7 y8 y9 y10 y11 y12 y13 y14
   unfold millstreamref06_Build.l0
   repeat' first
   | (with_reducible exact ih0 _ _ _ _ _ _ _ _ _ _ _ _ _ _ _)
   | (with_reducible exact millstreamref03_New.mono _ _ _)
   | (with_reducible exact millstreamref06_Cell.mono _ _ _ _ _ _ _ _ _ _ _ _ _ _)
   | (with_reducible exact millstreamref06_Size.mono _ _ _ _ _ _ _ _ _ _ _ _ _)
   | (with_reducible exact LeO.refl _)
   | (with_reducible exact LeO.none _)
   | (with_reducible refine LeO.ite ?_ ?_)
   | (with_reducible refine LeO.bind ?_ (fun _ => ?_))
   | exact ih0 _ _ _ _ _ _ _ _ _ _ _ _ _ _ _
   | exact millstreamref03_New.mono _ _ _
   | exact millstreamref06_Cell.mono _ _ _ _ _ _ _ _ _ _ _ _ _ _
   | exact millstreamref06_Size.mono _ _ _ _ _ _ _ _ _ _ _ _ _
   | exact LeO.none _
   | refine LeO.ite ?_ ?_
   | refine LeO.bind ?_ (fun _ => ?_)
theorem millstreamref06_Build.mono : ∀ a0 a1 a2 a3 a4 a5 a6 a7 a8 a9 a10 a11 k, LeO (millstreamref06_Build.f k a0 a1 a2 a3 a4 a5 a6 a7 a8 a9 a10 a11) (millstreamref06_Build.f (k + 1) a0 a1 a2 a3 a4 a5 a6 a7 a8 a9 a10 a11) := by
 intro a0 a1 a2 a3 a4 a5 a6 a7 a8 a9 a10 a11 k
 have ih0 := millstreamref06_Build.mono_l k
 unfold millstreamref06_Build.f
 repeat' first
   | (with_reducible exact ih0 _ _ _ _ _ _ _ _ _ _ _ _ _ _ _)
   | (with_reducible exact millstreamref03_New.mono _ _ _)
   | (with_reducible exact millstreamref06_Cell.mono _ _ _ _ _ _ _ _ _ _ _ _ _ _)
   | (with_reducible exact millstreamref06_Size.mono _ _ _ _ _ _ _ _ _ _ _ _ _)
   | (with_reducible exact LeO.refl _)
   | (with_reducible exact LeO.none _)
   | (with_reducible refine LeO.ite ?_ ?_)
   | (with_reducible refine LeO.bind ?_ (fun _ => ?_))
   | exact ih0 _ _ _ _ _ _ _ _ _ _ _ _ _ _ _
   | exact millstreamref03_New.mono _ _ _
   | exact millstreamref06_Cell.mono _ _ _ _ _ _ _ _ _ _ _ _ _ _
   | exact millstreamref06_Size.mono _ _ _ _ _ _ _ _ _ _ _ _ _
   | exact LeO.none _
   | refine LeO.ite ?_ ?_
   | refine LeO.bind ?_ (fun _ => ?_)
def millstreamref06_Build.T5 : Bool × List (List Nat × List Nat) := (true, [([], []), ([], []), ([], []), ([1, 2], [1, 2]), ([], []), ([4], [4]), ([0, 3, 5, 3], [0, 3, 5]), ([6], [6]), ([7], [7]), ([7], [7]), ([8, 6, 0, 1, 2, 3, 4, 5, 6, 7, 8], [8])])
def millstreamref06_Build.B5 : List Nat := [0, 0, 0, 6, 0, 16, 63, 127, 255, 255, 511]
theorem millstreamref06_Build.tab5 : rtab .any (opsOf Try.f27 5) = millstreamref06_Build.T5 := by kernel_rfl
theorem millstreamref06_Build.bits5 : waitsOk millstreamref06_Build.T5.2 millstreamref06_Build.B5 = true := by kernel_rfl
set_option maxHeartbeats 60000000 in
set_option maxRecDepth 100000 in
theorem millstreamref06_Build.calls (k : Nat) (a0_0 : Int) (a0_1 : Int) (a0_2 : Int) (a0_3 : Int) (a0_4 : Int) (a0_5 : Int) (a0_6 : Int) (a0_7 : Int) (a0_8 : Bool) (a0_9 : Int) (a0_10 : Int) (a0_11 : Int) (r1 : List Int) (r2 : List (List (S66))) (w : World) (h : millstreamref06_Build.f k a0_0 a0_1 a0_2 a0_3 a0_4 a0_5 a0_6 a0_7 a0_8 a0_9 a0_10 a0_11 = some (r1, r2)) :
  Calls Try.prog 27 #[.agg #[.int .i64 a0_0, .int .i64 a0_1, .int .i64 a0_2, .int .i64 a0_3, .int .i64 a0_4, .int .i64 a0_5, .int .i64 a0_6, .int .i64 a0_7, .bool a0_8, .int .i64 a0_9, .int .i64 a0_10, .int .i64 a0_11]] w fun e w' => ∃ v0_ v1_ : Value, e = .returned (.agg #[v0_, v1_]) ∧ Kd.R (Kd.int .i64) 3 w' w.heap.size (fun k_ => (w.heap.size ≤ k_)) v0_ r1 ∧ Kd.V (Kd.slice 66 k66) 58 w' w.heap.size (fun k_ => (w.heap.size ≤ k_) ∧ some k_ ≠ (v0_ : Value).ownBlock) v1_ r2 ∧ Below w.heap.size w w' := by
 have hu26 := Try.underlying26
 have hu44 := Try.underlying44
 have HB := Aside0.mk (Below.refl w.heap.size w)
 have H : ((millstreamref06_Size.f k a0_0 a0_1 a0_2 a0_3 a0_4 a0_5 a0_6 a0_7 a0_8 a0_9 a0_10 a0_11).bind fun t234 => ((millstreamref03_New.f k t234 a0_0).bind fun bt235 => (millstreamref06_Build.l0 k 0 a0_0 a0_1 a0_2 a0_3 a0_4 a0_5 a0_6 a0_7 a0_8 a0_9 a0_10 a0_11 bt235.1 bt235.2))) = some (r1, r2) := h
 clear h
 replace H := Option.bind_eq_some_iff.mp H
 obtain ⟨t234, A20, H⟩ := H
 replace H : ((millstreamref03_New.f k t234 a0_0).bind fun bt235 => (millstreamref06_Build.l0 k 0 a0_0 a0_1 a0_2 a0_3 a0_4 a0_5 a0_6 a0_7 a0_8 a0_9 a0_10 a0_11 bt235.1 bt235.2)) = some (r1, r2) := H
 have A2 := Aside0.mk A20
 clear A20
 replace H := Option.bind_eq_some_iff.mp H
 obtain ⟨⟨t235, t238⟩, A30, H⟩ := H
 replace H : (millstreamref06_Build.l0 k 0 a0_0 a0_1 a0_2 a0_3 a0_4 a0_5 a0_6 a0_7 a0_8 a0_9 a0_10 a0_11 t235 t238) = some (r1, r2) := H
 have A3 := Aside0.mk A30
 clear A30
 have H' := Aside0.mk H
 clear H
 go_enter Try.func27, Try.ntmps27
 try go_wp2_with (first | ((with_reducible refine gate_dst (N := 1) rfl ?_); refine box_event ?hg (N := 1) ?hd (cs := #[.int .i64 a0_0, .int .i64 a0_1, .int .i64 a0_2, .int .i64 a0_3, .int .i64 a0_4, .int .i64 a0_5, .int .i64 a0_6, .int .i64 a0_7, .bool a0_8, .int .i64 a0_9, .int .i64 a0_10, .int .i64 a0_11]) (t := 26) ?hr ?_; (case hd => rfl); (case hg => rfl); (case hr => first | (go_simp; done) | (go_simp; rfl)); intro gb232 hg w4 hbox hb; have n0_ := Aside0.mk (below_step (by repeat (first | (with_reducible first | exact HB.out | apply below_alloc | apply pw_below_drewN | apply below_drew1) | exact HB.out)) hb); have n1_ := Aside0.mk (hbox); have n2_ := Aside0.mk ((by rw [hg]; exact (below_size (by repeat (first | (with_reducible first | exact HB.out | apply below_alloc | apply pw_below_drewN | apply below_drew1) | exact HB.out))) : w.heap.size ≤ gb232)); have n3_ := Aside0.mk ((by rw [hg]; exact (below_size (by repeat (first | (with_reducible first | exact HB.out | apply below_alloc | apply pw_below_drewN | apply below_drew1) | exact HB.out))) : w.heap.size ≤ gb232)); clear HB; have HB := n0_; have BK232 := n1_; have GW232 := n2_; have GE232 := n3_; clear n0_ n1_ n2_ n3_; clear hb hbox hg) | ((with_reducible refine gate_dst (N := 2) rfl ?_); refine box_event ?hg (N := 2) ?hd (cs := #[.slice none 0 0, .slice none 0 0]) (t := 44) ?hr ?_; (case hd => rfl); (case hg => rfl); (case hr => first | (go_simp; done) | (go_simp; rfl)); intro gb233 hg w5 hbox hb; have n0_ := Aside0.mk (blk_below (g := gb232) (o := .cells #[.int .i64 a0_0, .int .i64 a0_1, .int .i64 a0_2, .int .i64 a0_3, .int .i64 a0_4, .int .i64 a0_5, .int .i64 a0_6, .int .i64 a0_7, .bool a0_8, .int .i64 a0_9, .int .i64 a0_10, .int .i64 a0_11] 26 (0, 0)) (by (with_reducible repeat first | refine blk_drewN ?_ _ | refine blk_drew ?_ | refine blk_alloc ?_ _); exact BK232.out) hb); have n1_ := Aside0.mk (below_step (by repeat (first | (with_reducible first | exact HB.out | apply below_alloc | apply pw_below_drewN | apply below_drew1 | refine below_set ?_ GE232.out) | exact HB.out)) hb); have n2_ := Aside0.mk (hbox); have n3_ := Aside0.mk ((by rw [hg]; exact (below_size (by repeat (first | (with_reducible first | exact HB.out | apply below_alloc | apply pw_below_drewN | apply below_drew1 | refine below_set ?_ GE232.out) | exact HB.out))) : w.heap.size ≤ gb233)); have n4_ := Aside0.mk ((by rw [hg]; exact (below_size (by repeat (first | (with_reducible first | exact HB.out | apply below_alloc | apply pw_below_drewN | apply below_drew1 | refine below_set ?_ GE232.out) | exact HB.out))) : w.heap.size ≤ gb233)); have n5_ := Aside0.mk ((by rw [hg]; exact Nat.ne_of_lt (blk_lt (g := gb232) (o := .cells #[.int .i64 a0_0, .int .i64 a0_1, .int .i64 a0_2, .int .i64 a0_3, .int .i64 a0_4, .int .i64 a0_5, .int .i64 a0_6, .int .i64 a0_7, .bool a0_8, .int .i64 a0_9, .int .i64 a0_10, .int .i64 a0_11] 26 (0, 0)) (by (with_reducible repeat first | refine blk_drewN ?_ _ | refine blk_drew ?_ | refine blk_alloc ?_ _); exact BK232.out)) : gb232 ≠ gb233)); have n6_ := Aside0.mk ((by rw [hg]; exact Nat.ne_of_gt (blk_lt (g := gb232) (o := .cells #[.int .i64 a0_0, .int .i64 a0_1, .int .i64 a0_2, .int .i64 a0_3, .int .i64 a0_4, .int .i64 a0_5, .int .i64 a0_6, .int .i64 a0_7, .bool a0_8, .int .i64 a0_9, .int .i64 a0_10, .int .i64 a0_11] 26 (0, 0)) (by (with_reducible repeat first | refine blk_drewN ?_ _ | refine blk_drew ?_ | refine blk_alloc ?_ _); exact BK232.out)) : gb233 ≠ gb232)); clear BK232; clear HB; have BK232 := n0_; have HB := n1_; have BK233 := n2_; have GW233 := n3_; have GE233 := n4_; have NB232_233 := n5_; have NB233_232 := n6_; clear n0_ n1_ n2_ n3_ n4_ n5_ n6_; clear hb hbox hg))
 have n0_ := Aside0.mk (blk_drew BK232.out)
 have n1_ := Aside0.mk (blk_drew BK233.out)
 have n2_ := Aside0.mk (below_drew1 HB.out)
 clear BK232
 clear BK233
 clear HB
 have BK232 := n0_
 have BK233 := n1_
 have HB := n2_
 clear n0_ n1_ n2_
 refine start_ (n := 7) (S := fun w' => w'.cell? ⟨gb232, 0, none⟩ = some (.int .i64 a0_0) ∧ w'.cell? ⟨gb232, 1, none⟩ = some (.int .i64 a0_1) ∧ w'.cell? ⟨gb232, 2, none⟩ = some (.int .i64 a0_2) ∧ w'.cell? ⟨gb232, 3, none⟩ = some (.int .i64 a0_3) ∧ w'.cell? ⟨gb232, 4, none⟩ = some (.int .i64 a0_4) ∧ w'.cell? ⟨gb232, 5, none⟩ = some (.int .i64 a0_5) ∧ w'.cell? ⟨gb232, 6, none⟩ = some (.int .i64 a0_6) ∧ w'.cell? ⟨gb232, 7, none⟩ = some (.int .i64 a0_7) ∧ w'.cell? ⟨gb232, 8, none⟩ = some (.bool a0_8) ∧ w'.cell? ⟨gb232, 9, none⟩ = some (.int .i64 a0_9) ∧ w'.cell? ⟨gb232, 10, none⟩ = some (.int .i64 a0_10) ∧ w'.cell? ⟨gb232, 11, none⟩ = some (.int .i64 a0_11)) (ds := []) #[false, false, false, false, false, false, false] (by kernel_rfl) rfl rfl ⟨(blk_cell BK232.out 0).trans rfl, (blk_cell BK232.out 1).trans rfl, (blk_cell BK232.out 2).trans rfl, (blk_cell BK232.out 3).trans rfl, (blk_cell BK232.out 4).trans rfl, (blk_cell BK232.out 5).trans rfl, (blk_cell BK232.out 6).trans rfl, (blk_cell BK232.out 7).trans rfl, (blk_cell BK232.out 8).trans rfl, (blk_cell BK232.out 9).trans rfl, (blk_cell BK232.out 10).trans rfl, (blk_cell BK232.out 11).trans rfl⟩ (fun hHeld => ?_)
 generalize w5.drew = w6 at BK232 BK233 HB hHeld ⊢
 refine pure_ (i := 2) (N := some 7) (v := ?_) (a' := ?_) #[false, false, true, false, false, false, false] rfl rfl (by kernel_rfl) (fun _ _ _ h => h) (Or.inl ⟨by rfl, ?_⟩) ?_ ?_
 rotate_left
 ·intro w'
  go_simp
  with_reducible rfl
 rotate_left
 ·simp only [Act.put, List.setIfInBounds_toArray, List.set_cons_zero, List.set_cons_succ, i64_w, i32_w]
  rfl
 refine take_ (i := 0) (N := some 5) (v := ?_) (a' := ?_) #[true, false, true, false, false, false, false] rfl rfl (by kernel_rfl) (fun _ _ _ h => h) (Or.inl ⟨by rfl, ?_⟩) hHeld ?_ ?_
 rotate_left
 ·rintro w' ⟨s0, s1, s2, s3, s4, s5, s6, s7, s8, s9, s10, s11⟩
  go_simp
  with_reducible rfl
 rotate_left
 ·simp only [Act.put, List.setIfInBounds_toArray, List.set_cons_zero, List.set_cons_succ, i64_w, i32_w]
  rfl
 refine take_ (i := 3) (N := some 8) (v := ?_) (a' := ?_) #[true, false, true, true, false, false, false] rfl rfl (by kernel_rfl) (fun _ _ _ h => h) (Or.inl ⟨by rfl, ?_⟩) hHeld ?_ ?_
 rotate_left
 ·rintro w' ⟨s0, s1, s2, s3, s4, s5, s6, s7, s8, s9, s10, s11⟩
  go_simp
  with_reducible rfl
 rotate_left
 ·simp only [Act.put, List.setIfInBounds_toArray, List.set_cons_zero, List.set_cons_succ, i64_w, i32_w]
  rfl
 refine join_ (σ := Value × Value × Nat) 1 #[true, true, true, true, true, true, false] (fun s_ => [(6, .int .i64 t234), (9, .agg #[s_.1, s_.2.1]), (3, .pointer (some ⟨s_.2.2, 0, none⟩))]) (fun s_ w' => (w'.cell? ⟨gb232, 0, none⟩ = some (.int .i64 a0_0) ∧ w'.cell? ⟨gb232, 1, none⟩ = some (.int .i64 a0_1) ∧ w'.cell? ⟨gb232, 2, none⟩ = some (.int .i64 a0_2) ∧ w'.cell? ⟨gb232, 3, none⟩ = some (.int .i64 a0_3) ∧ w'.cell? ⟨gb232, 4, none⟩ = some (.int .i64 a0_4) ∧ w'.cell? ⟨gb232, 5, none⟩ = some (.int .i64 a0_5) ∧ w'.cell? ⟨gb232, 6, none⟩ = some (.int .i64 a0_6) ∧ w'.cell? ⟨gb232, 7, none⟩ = some (.int .i64 a0_7) ∧ w'.cell? ⟨gb232, 8, none⟩ = some (.bool a0_8) ∧ w'.cell? ⟨gb232, 9, none⟩ = some (.int .i64 a0_9) ∧ w'.cell? ⟨gb232, 10, none⟩ = some (.int .i64 a0_10) ∧ w'.cell? ⟨gb232, 11, none⟩ = some (.int .i64 a0_11)) ∧ (Kd.R (Kd.int .i64) 3 w' w.heap.size (fun k_ => (w.heap.size ≤ k_)) s_.1 t235) ∧ (Kd.S (Kd.slice 66 k66) 58 w' w.heap.size (fun k_ => (w.heap.size ≤ k_)) s_.2.1 t238) ∧ (w'.heap[gb232]? = some (.cells #[.int .i64 a0_0, .int .i64 a0_1, .int .i64 a0_2, .int .i64 a0_3, .int .i64 a0_4, .int .i64 a0_5, .int .i64 a0_6, .int .i64 a0_7, .bool a0_8, .int .i64 a0_9, .int .i64 a0_10, .int .i64 a0_11] 26 (0, 0))) ∧ (w'.heap[gb233]? = some (.cells #[.slice none 0 0, .slice none 0 0] 44 (0, 0))) ∧ (w'.heap[s_.2.2]? = some (.cells #[.slice none 0 0, .slice none 0 0] 44 (0, 0))) ∧ (w.heap.size ≤ s_.2.2) ∧ (w.heap.size ≤ s_.2.2) ∧ (gb232 ≠ s_.2.2) ∧ (s_.2.2 ≠ gb232) ∧ (gb233 ≠ s_.2.2) ∧ (s_.2.2 ≠ gb233) ∧ (Below w.heap.size w w')) ?_ ?_
 rotate_left
 ·intro hCont
  refine two_ (i := 1) (j := 5) (Ni := some 6) (Nj := some 3) #[true, true, true, true, false, false, false] #[true, false, true, true, false, true, false] rfl rfl rfl rfl (by kernel_rfl) (by decide) (by decide) (fun K hK => ?_) (fun K hK => ?_)
  ·skip
   refine goes_ Try.func13 (by kernel_rfl) rfl #[.agg #[.int .i64 a0_0, .int .i64 a0_1, .int .i64 a0_2, .int .i64 a0_3, .int .i64 a0_4, .int .i64 a0_5, .int .i64 a0_6, .int .i64 a0_7, .bool a0_8, .int .i64 a0_9, .int .i64 a0_10, .int .i64 a0_11]] (by rfl) rfl rfl (by (try simp only [List.map_toArray, List.map_cons, List.map_nil]); first | done | rfl | (simp only [List.length_drop, List.length_take]; rfl)) ?_
   with_reducible refine (millstreamref06_Size.calls k a0_0 a0_1 a0_2 a0_3 a0_4 a0_5 a0_6 a0_7 a0_8 a0_9 a0_10 a0_11 t234 _ A2.out).mono ?_
   rintro e w7 ⟨rfl, hb⟩
   refine ⟨_, rfl, ?_⟩
   have n0_ := Aside0.mk (blk_below (g := gb232) (o := .cells #[.int .i64 a0_0, .int .i64 a0_1, .int .i64 a0_2, .int .i64 a0_3, .int .i64 a0_4, .int .i64 a0_5, .int .i64 a0_6, .int .i64 a0_7, .bool a0_8, .int .i64 a0_9, .int .i64 a0_10, .int .i64 a0_11] 26 (0, 0)) (by (with_reducible repeat first | refine blk_drewN ?_ _ | refine blk_drew ?_ | refine blk_alloc ?_ _); exact BK232.out) hb)
   have n1_ := Aside0.mk (blk_below (g := gb233) (o := .cells #[.slice none 0 0, .slice none 0 0] 44 (0, 0)) (by (with_reducible repeat first | refine blk_drewN ?_ _ | refine blk_drew ?_ | refine blk_alloc ?_ _); exact BK233.out) hb)
   have n2_ := Aside0.mk (below_step (by repeat (first | (with_reducible first | exact HB.out | apply below_alloc | apply pw_below_drewN | apply below_drew1 | refine below_set ?_ GE232.out | refine below_set ?_ GE233.out) | exact HB.out)) hb)
   clear BK232
   clear BK233
   clear HB
   have BK232 := n0_
   have BK233 := n1_
   have HB := n2_
   clear n0_ n1_ n2_
   (try clear hb)
   (try clear hb2)
   (try clear hk)
   (try clear hi)
   refine hK.out _ _ ⟨(blk_cell BK232.out 0).trans rfl, (blk_cell BK232.out 1).trans rfl, (blk_cell BK232.out 2).trans rfl, (blk_cell BK232.out 3).trans rfl, (blk_cell BK232.out 4).trans rfl, (blk_cell BK232.out 5).trans rfl, (blk_cell BK232.out 6).trans rfl, (blk_cell BK232.out 7).trans rfl, (blk_cell BK232.out 8).trans rfl, (blk_cell BK232.out 9).trans rfl, (blk_cell BK232.out 10).trans rfl, (blk_cell BK232.out 11).trans rfl⟩ (fun hHeld => ?_)
   clear hK K
   refine norm_ (a' := ?_) ?_ ?_
   rotate_left
   ·show Act.put _ (some 6) _ = _
    simp only [Act.put, List.setIfInBounds_toArray, List.set_cons_zero, List.set_cons_succ, i64_w, i32_w]
    rfl
   refine two_ (i := 4) (j := 5) (Ni := some 9) (Nj := some 3) #[true, true, true, true, true, false, false] #[true, true, true, true, false, true, false] rfl rfl rfl rfl (by kernel_rfl) (by decide) (by decide) (fun K hK => ?_) (fun K hK => ?_)
   ·skip
    refine goes_ Try.func43 (by kernel_rfl) rfl #[.int .i64 t234, .int .i64 a0_0] (by rfl) rfl rfl (by (try simp only [List.map_toArray, List.map_cons, List.map_nil]); first | done | rfl | (simp only [List.length_drop, List.length_take]; rfl)) ?_
    with_reducible refine (millstreamref03_New.calls k t234 a0_0 t235 t238 _ A3.out).mono ?_
    rintro e w8 ⟨v236, v239, rfl, ho0, ho1, hb⟩
    refine ⟨_, rfl, ?_⟩
    have n0_ := Aside0.mk (Kd.R_lower (Kd.R_newM (M := fun k_ => (w.heap.size ≤ k_)) ho0 (below_size (by repeat (first | (with_reducible first | exact HB.out | apply below_alloc | apply pw_below_drewN | apply below_drew1 | refine below_set ?_ GE232.out | refine below_set ?_ GE233.out) | exact HB.out))) (fun k_ h_ => h_)) (below_size (by repeat (first | (with_reducible first | exact HB.out | apply below_alloc | apply pw_below_drewN | apply below_drew1 | refine below_set ?_ GE232.out | refine below_set ?_ GE233.out) | exact HB.out))))
    have n1_ := Aside0.mk (Kd.S_lower (Kd.S_newM (M := fun k_ => (w.heap.size ≤ k_)) ho1 (below_size (by repeat (first | (with_reducible first | exact HB.out | apply below_alloc | apply pw_below_drewN | apply below_drew1 | refine below_set ?_ GE232.out | refine below_set ?_ GE233.out) | exact HB.out))) (fun k_ h_ => h_)) (below_size (by repeat (first | (with_reducible first | exact HB.out | apply below_alloc | apply pw_below_drewN | apply below_drew1 | refine below_set ?_ GE232.out | refine below_set ?_ GE233.out) | exact HB.out))))
    have n2_ := Aside0.mk (blk_below (g := gb232) (o := .cells #[.int .i64 a0_0, .int .i64 a0_1, .int .i64 a0_2, .int .i64 a0_3, .int .i64 a0_4, .int .i64 a0_5, .int .i64 a0_6, .int .i64 a0_7, .bool a0_8, .int .i64 a0_9, .int .i64 a0_10, .int .i64 a0_11] 26 (0, 0)) (by (with_reducible repeat first | refine blk_drewN ?_ _ | refine blk_drew ?_ | refine blk_alloc ?_ _); exact BK232.out) hb)
    have n3_ := Aside0.mk (blk_below (g := gb233) (o := .cells #[.slice none 0 0, .slice none 0 0] 44 (0, 0)) (by (with_reducible repeat first | refine blk_drewN ?_ _ | refine blk_drew ?_ | refine blk_alloc ?_ _); exact BK233.out) hb)
    have n4_ := Aside0.mk (below_step (by repeat (first | (with_reducible first | exact HB.out | apply below_alloc | apply pw_below_drewN | apply below_drew1 | refine below_set ?_ GE232.out | refine below_set ?_ GE233.out) | exact HB.out)) hb)
    clear BK232
    clear BK233
    clear HB
    have HO237 := n0_
    have HO240 := n1_
    have BK232 := n2_
    have BK233 := n3_
    have HB := n4_
    clear n0_ n1_ n2_ n3_ n4_
    (try clear hb)
    (try clear hb2)
    (try clear hk)
    (try clear hi)
    (try clear ho0)
    (try clear ho1)
    refine hK.out _ _ ⟨(blk_cell BK232.out 0).trans rfl, (blk_cell BK232.out 1).trans rfl, (blk_cell BK232.out 2).trans rfl, (blk_cell BK232.out 3).trans rfl, (blk_cell BK232.out 4).trans rfl, (blk_cell BK232.out 5).trans rfl, (blk_cell BK232.out 6).trans rfl, (blk_cell BK232.out 7).trans rfl, (blk_cell BK232.out 8).trans rfl, (blk_cell BK232.out 9).trans rfl, (blk_cell BK232.out 10).trans rfl, (blk_cell BK232.out 11).trans rfl⟩ (fun hHeld => ?_)
    clear hK K
    refine norm_ (a' := ?_) ?_ ?_
    rotate_left
    ·show Act.put _ (some 9) _ = _
     simp only [Act.put, List.setIfInBounds_toArray, List.set_cons_zero, List.set_cons_succ, i64_w, i32_w]
     rfl
    refine one_ (i := 5) (N := some 3) #[true, true, true, true, true, true, false] rfl rfl (by kernel_rfl) (by decide) (fun K hK => ?_)
    refine box_step ?hg (N := 3) ?hd (cs := #[.slice none 0 0, .slice none 0 0]) (t := 44) ?hr ?_; (case hd => rfl); (case hg => rfl); (case hr => first | (go_simp; done) | (go_simp; rfl))
    intro gb241 hg w9 hbox hb
    have n0_ := Aside0.mk (Kd.R_below (by (with_reducible repeat (first | apply Kd.R_alloc | apply Kd.R_drewN | apply Kd.R_drew)); exact HO237.out) hb)
    have n1_ := Aside0.mk (Kd.S_below (by (with_reducible repeat (first | apply Kd.S_alloc | apply Kd.S_drewN | apply Kd.S_drew)); exact HO240.out) hb)
    have n2_ := Aside0.mk (blk_below (g := gb232) (o := .cells #[.int .i64 a0_0, .int .i64 a0_1, .int .i64 a0_2, .int .i64 a0_3, .int .i64 a0_4, .int .i64 a0_5, .int .i64 a0_6, .int .i64 a0_7, .bool a0_8, .int .i64 a0_9, .int .i64 a0_10, .int .i64 a0_11] 26 (0, 0)) (by (with_reducible repeat first | refine blk_drewN ?_ _ | refine blk_drew ?_ | refine blk_alloc ?_ _); exact BK232.out) hb)
    have n3_ := Aside0.mk (blk_below (g := gb233) (o := .cells #[.slice none 0 0, .slice none 0 0] 44 (0, 0)) (by (with_reducible repeat first | refine blk_drewN ?_ _ | refine blk_drew ?_ | refine blk_alloc ?_ _); exact BK233.out) hb)
    have n4_ := Aside0.mk (below_step (by repeat (first | (with_reducible first | exact HB.out | apply below_alloc | apply pw_below_drewN | apply below_drew1 | refine below_set ?_ GE232.out | refine below_set ?_ GE233.out) | exact HB.out)) hb)
    have n5_ := Aside0.mk (hbox)
    have n6_ := Aside0.mk ((by rw [hg]; exact (below_size (by repeat (first | (with_reducible first | exact HB.out | apply below_alloc | apply pw_below_drewN | apply below_drew1 | refine below_set ?_ GE232.out | refine below_set ?_ GE233.out) | exact HB.out))) : w.heap.size ≤ gb241))
    have n7_ := Aside0.mk ((by rw [hg]; exact (below_size (by repeat (first | (with_reducible first | exact HB.out | apply below_alloc | apply pw_below_drewN | apply below_drew1 | refine below_set ?_ GE232.out | refine below_set ?_ GE233.out) | exact HB.out))) : w.heap.size ≤ gb241))
    have n8_ := Aside0.mk ((by rw [hg]; exact Nat.ne_of_lt (blk_lt (g := gb232) (o := .cells #[.int .i64 a0_0, .int .i64 a0_1, .int .i64 a0_2, .int .i64 a0_3, .int .i64 a0_4, .int .i64 a0_5, .int .i64 a0_6, .int .i64 a0_7, .bool a0_8, .int .i64 a0_9, .int .i64 a0_10, .int .i64 a0_11] 26 (0, 0)) (by (with_reducible repeat first | refine blk_drewN ?_ _ | refine blk_drew ?_ | refine blk_alloc ?_ _); exact BK232.out)) : gb232 ≠ gb241))
    have n9_ := Aside0.mk ((by rw [hg]; exact Nat.ne_of_gt (blk_lt (g := gb232) (o := .cells #[.int .i64 a0_0, .int .i64 a0_1, .int .i64 a0_2, .int .i64 a0_3, .int .i64 a0_4, .int .i64 a0_5, .int .i64 a0_6, .int .i64 a0_7, .bool a0_8, .int .i64 a0_9, .int .i64 a0_10, .int .i64 a0_11] 26 (0, 0)) (by (with_reducible repeat first | refine blk_drewN ?_ _ | refine blk_drew ?_ | refine blk_alloc ?_ _); exact BK232.out)) : gb241 ≠ gb232))
    have n10_ := Aside0.mk ((by rw [hg]; exact Nat.ne_of_lt (blk_lt (g := gb233) (o := .cells #[.slice none 0 0, .slice none 0 0] 44 (0, 0)) (by (with_reducible repeat first | refine blk_drewN ?_ _ | refine blk_drew ?_ | refine blk_alloc ?_ _); exact BK233.out)) : gb233 ≠ gb241))
    have n11_ := Aside0.mk ((by rw [hg]; exact Nat.ne_of_gt (blk_lt (g := gb233) (o := .cells #[.slice none 0 0, .slice none 0 0] 44 (0, 0)) (by (with_reducible repeat first | refine blk_drewN ?_ _ | refine blk_drew ?_ | refine blk_alloc ?_ _); exact BK233.out)) : gb241 ≠ gb233))
    clear HO237
    clear HO240
    clear BK232
    clear BK233
    clear HB
    have HO237 := n0_
    have HO240 := n1_
    have BK232 := n2_
    have BK233 := n3_
    have HB := n4_
    have BK241 := n5_
    have GW241 := n6_
    have GE241 := n7_
    have NB232_241 := n8_
    have NB241_232 := n9_
    have NB233_241 := n10_
    have NB241_233 := n11_
    clear n0_ n1_ n2_ n3_ n4_ n5_ n6_ n7_ n8_ n9_ n10_ n11_
    clear hb hbox hg
    refine hK.out _ _ ⟨(blk_cell BK232.out 0).trans rfl, (blk_cell BK232.out 1).trans rfl, (blk_cell BK232.out 2).trans rfl, (blk_cell BK232.out 3).trans rfl, (blk_cell BK232.out 4).trans rfl, (blk_cell BK232.out 5).trans rfl, (blk_cell BK232.out 6).trans rfl, (blk_cell BK232.out 7).trans rfl, (blk_cell BK232.out 8).trans rfl, (blk_cell BK232.out 9).trans rfl, (blk_cell BK232.out 10).trans rfl, (blk_cell BK232.out 11).trans rfl⟩ (fun hHeld => ?_)
    clear hK K
    refine norm_ (a' := ?_) ?_ ?_
    rotate_left
    ·show Act.put _ (some 3) _ = _
     simp only [Act.put, List.setIfInBounds_toArray, List.set_cons_zero, List.set_cons_succ, i64_w, i32_w]
     rfl
    exact norm_ (by simp only [putAll, Act.put, List.setIfInBounds_toArray, List.set_cons_zero, List.set_cons_succ]) (hCont (v236, v239, gb241) _ ⟨hHeld, (by (with_reducible repeat (first | apply Kd.R_alloc | apply Kd.R_drewN | apply Kd.R_drew)); exact Kd.R_mono HO237.out (fun _ hk => hk.1)), (by (with_reducible repeat (first | apply Kd.S_alloc | apply Kd.S_drewN | apply Kd.S_drew)); exact Kd.S_mono HO240.out (fun _ hk => hk.1)), (by (with_reducible repeat first | refine blk_drewN ?_ _ | refine blk_drew ?_ | refine blk_alloc ?_ _); exact BK232.out), (by (with_reducible repeat first | refine blk_drewN ?_ _ | refine blk_drew ?_ | refine blk_alloc ?_ _); exact BK233.out), (by (with_reducible repeat first | refine blk_drewN ?_ _ | refine blk_drew ?_ | refine blk_alloc ?_ _); exact BK241.out), GW241.out, GE241.out, NB232_241.out, NB241_232.out, NB233_241.out, NB241_233.out, (by repeat (first | (with_reducible first | exact HB.out | apply below_alloc | apply pw_below_drewN | apply below_drew1 | refine below_set ?_ GE232.out | refine below_set ?_ GE233.out | refine below_set ?_ GE241.out) | exact HB.out))⟩)
   ·skip
    refine box_step ?hg (N := 3) ?hd (cs := #[.slice none 0 0, .slice none 0 0]) (t := 44) ?hr ?_; (case hd => rfl); (case hg => rfl); (case hr => first | (go_simp; done) | (go_simp; rfl))
    intro gb241 hg w8 hbox hb
    have n0_ := Aside0.mk (blk_below (g := gb232) (o := .cells #[.int .i64 a0_0, .int .i64 a0_1, .int .i64 a0_2, .int .i64 a0_3, .int .i64 a0_4, .int .i64 a0_5, .int .i64 a0_6, .int .i64 a0_7, .bool a0_8, .int .i64 a0_9, .int .i64 a0_10, .int .i64 a0_11] 26 (0, 0)) (by (with_reducible repeat first | refine blk_drewN ?_ _ | refine blk_drew ?_ | refine blk_alloc ?_ _); exact BK232.out) hb)
    have n1_ := Aside0.mk (blk_below (g := gb233) (o := .cells #[.slice none 0 0, .slice none 0 0] 44 (0, 0)) (by (with_reducible repeat first | refine blk_drewN ?_ _ | refine blk_drew ?_ | refine blk_alloc ?_ _); exact BK233.out) hb)
    have n2_ := Aside0.mk (below_step (by repeat (first | (with_reducible first | exact HB.out | apply below_alloc | apply pw_below_drewN | apply below_drew1 | refine below_set ?_ GE232.out | refine below_set ?_ GE233.out) | exact HB.out)) hb)
    have n3_ := Aside0.mk (hbox)
    have n4_ := Aside0.mk ((by rw [hg]; exact (below_size (by repeat (first | (with_reducible first | exact HB.out | apply below_alloc | apply pw_below_drewN | apply below_drew1 | refine below_set ?_ GE232.out | refine below_set ?_ GE233.out) | exact HB.out))) : w.heap.size ≤ gb241))
    have n5_ := Aside0.mk ((by rw [hg]; exact (below_size (by repeat (first | (with_reducible first | exact HB.out | apply below_alloc | apply pw_below_drewN | apply below_drew1 | refine below_set ?_ GE232.out | refine below_set ?_ GE233.out) | exact HB.out))) : w.heap.size ≤ gb241))
    have n6_ := Aside0.mk ((by rw [hg]; exact Nat.ne_of_lt (blk_lt (g := gb232) (o := .cells #[.int .i64 a0_0, .int .i64 a0_1, .int .i64 a0_2, .int .i64 a0_3, .int .i64 a0_4, .int .i64 a0_5, .int .i64 a0_6, .int .i64 a0_7, .bool a0_8, .int .i64 a0_9, .int .i64 a0_10, .int .i64 a0_11] 26 (0, 0)) (by (with_reducible repeat first | refine blk_drewN ?_ _ | refine blk_drew ?_ | refine blk_alloc ?_ _); exact BK232.out)) : gb232 ≠ gb241))
    have n7_ := Aside0.mk ((by rw [hg]; exact Nat.ne_of_gt (blk_lt (g := gb232) (o := .cells #[.int .i64 a0_0, .int .i64 a0_1, .int .i64 a0_2, .int .i64 a0_3, .int .i64 a0_4, .int .i64 a0_5, .int .i64 a0_6, .int .i64 a0_7, .bool a0_8, .int .i64 a0_9, .int .i64 a0_10, .int .i64 a0_11] 26 (0, 0)) (by (with_reducible repeat first | refine blk_drewN ?_ _ | refine blk_drew ?_ | refine blk_alloc ?_ _); exact BK232.out)) : gb241 ≠ gb232))
    have n8_ := Aside0.mk ((by rw [hg]; exact Nat.ne_of_lt (blk_lt (g := gb233) (o := .cells #[.slice none 0 0, .slice none 0 0] 44 (0, 0)) (by (with_reducible repeat first | refine blk_drewN ?_ _ | refine blk_drew ?_ | refine blk_alloc ?_ _); exact BK233.out)) : gb233 ≠ gb241))
    have n9_ := Aside0.mk ((by rw [hg]; exact Nat.ne_of_gt (blk_lt (g := gb233) (o := .cells #[.slice none 0 0, .slice none 0 0] 44 (0, 0)) (by (with_reducible repeat first | refine blk_drewN ?_ _ | refine blk_drew ?_ | refine blk_alloc ?_ _); exact BK233.out)) : gb241 ≠ gb233))
    clear BK232
    clear BK233
    clear HB
    have BK232 := n0_
    have BK233 := n1_
    have HB := n2_
    have BK241 := n3_
    have GW241 := n4_
    have GE241 := n5_
    have NB232_241 := n6_
    have NB241_232 := n7_
    have NB233_241 := n8_
    have NB241_233 := n9_
    clear n0_ n1_ n2_ n3_ n4_ n5_ n6_ n7_ n8_ n9_
    clear hb hbox hg
    refine hK.out _ _ ⟨(blk_cell BK232.out 0).trans rfl, (blk_cell BK232.out 1).trans rfl, (blk_cell BK232.out 2).trans rfl, (blk_cell BK232.out 3).trans rfl, (blk_cell BK232.out 4).trans rfl, (blk_cell BK232.out 5).trans rfl, (blk_cell BK232.out 6).trans rfl, (blk_cell BK232.out 7).trans rfl, (blk_cell BK232.out 8).trans rfl, (blk_cell BK232.out 9).trans rfl, (blk_cell BK232.out 10).trans rfl, (blk_cell BK232.out 11).trans rfl⟩ (fun hHeld => ?_)
    clear hK K
    refine norm_ (a' := ?_) ?_ ?_
    rotate_left
    ·show Act.put _ (some 3) _ = _
     simp only [Act.put, List.setIfInBounds_toArray, List.set_cons_zero, List.set_cons_succ, i64_w, i32_w]
     rfl
    refine one_ (i := 4) (N := some 9) #[true, true, true, true, true, true, false] rfl rfl (by kernel_rfl) (by decide) (fun K hK => ?_)
    refine goes_ Try.func43 (by kernel_rfl) rfl #[.int .i64 t234, .int .i64 a0_0] (by rfl) rfl rfl (by (try simp only [List.map_toArray, List.map_cons, List.map_nil]); first | done | rfl | (simp only [List.length_drop, List.length_take]; rfl)) ?_
    with_reducible refine (millstreamref03_New.calls k t234 a0_0 t235 t238 _ A3.out).mono ?_
    rintro e w9 ⟨v236, v239, rfl, ho0, ho1, hb⟩
    refine ⟨_, rfl, ?_⟩
    have n0_ := Aside0.mk (Kd.R_lower (Kd.R_newM (M := fun k_ => (w.heap.size ≤ k_)) ho0 (below_size (by repeat (first | (with_reducible first | exact HB.out | apply below_alloc | apply pw_below_drewN | apply below_drew1 | refine below_set ?_ GE232.out | refine below_set ?_ GE233.out | refine below_set ?_ GE241.out) | exact HB.out))) (fun k_ h_ => h_)) (below_size (by repeat (first | (with_reducible first | exact HB.out | apply below_alloc | apply pw_below_drewN | apply below_drew1 | refine below_set ?_ GE232.out | refine below_set ?_ GE233.out | refine below_set ?_ GE241.out) | exact HB.out))))
    have n1_ := Aside0.mk (Kd.S_lower (Kd.S_newM (M := fun k_ => (w.heap.size ≤ k_)) ho1 (below_size (by repeat (first | (with_reducible first | exact HB.out | apply below_alloc | apply pw_below_drewN | apply below_drew1 | refine below_set ?_ GE232.out | refine below_set ?_ GE233.out | refine below_set ?_ GE241.out) | exact HB.out))) (fun k_ h_ => h_)) (below_size (by repeat (first | (with_reducible first | exact HB.out | apply below_alloc | apply pw_below_drewN | apply below_drew1 | refine below_set ?_ GE232.out | refine below_set ?_ GE233.out | refine below_set ?_ GE241.out) | exact HB.out))))
    have n2_ := Aside0.mk (blk_below (g := gb232) (o := .cells #[.int .i64 a0_0, .int .i64 a0_1, .int .i64 a0_2, .int .i64 a0_3, .int .i64 a0_4, .int .i64 a0_5, .int .i64 a0_6, .int .i64 a0_7, .bool a0_8, .int .i64 a0_9, .int .i64 a0_10, .int .i64 a0_11] 26 (0, 0)) (by (with_reducible repeat first | refine blk_drewN ?_ _ | refine blk_drew ?_ | refine blk_alloc ?_ _); exact BK232.out) hb)
    have n3_ := Aside0.mk (blk_below (g := gb233) (o := .cells #[.slice none 0 0, .slice none 0 0] 44 (0, 0)) (by (with_reducible repeat first | refine blk_drewN ?_ _ | refine blk_drew ?_ | refine blk_alloc ?_ _); exact BK233.out) hb)
    have n4_ := Aside0.mk (blk_below (g := gb241) (o := .cells #[.slice none 0 0, .slice none 0 0] 44 (0, 0)) (by (with_reducible repeat first | refine blk_drewN ?_ _ | refine blk_drew ?_ | refine blk_alloc ?_ _); exact BK241.out) hb)
    have n5_ := Aside0.mk (below_step (by repeat (first | (with_reducible first | exact HB.out | apply below_alloc | apply pw_below_drewN | apply below_drew1 | refine below_set ?_ GE232.out | refine below_set ?_ GE233.out | refine below_set ?_ GE241.out) | exact HB.out)) hb)
    clear BK232
    clear BK233
    clear BK241
    clear HB
    have HO237 := n0_
    have HO240 := n1_
    have BK232 := n2_
    have BK233 := n3_
    have BK241 := n4_
    have HB := n5_
    clear n0_ n1_ n2_ n3_ n4_ n5_
    (try clear hb)
    (try clear hb2)
    (try clear hk)
    (try clear hi)
    (try clear ho0)
    (try clear ho1)
    refine hK.out _ _ ⟨(blk_cell BK232.out 0).trans rfl, (blk_cell BK232.out 1).trans rfl, (blk_cell BK232.out 2).trans rfl, (blk_cell BK232.out 3).trans rfl, (blk_cell BK232.out 4).trans rfl, (blk_cell BK232.out 5).trans rfl, (blk_cell BK232.out 6).trans rfl, (blk_cell BK232.out 7).trans rfl, (blk_cell BK232.out 8).trans rfl, (blk_cell BK232.out 9).trans rfl, (blk_cell BK232.out 10).trans rfl, (blk_cell BK232.out 11).trans rfl⟩ (fun hHeld => ?_)
    clear hK K
    refine norm_ (a' := ?_) ?_ ?_
    rotate_left
    ·show Act.put _ (some 9) _ = _
     simp only [Act.put, List.setIfInBounds_toArray, List.set_cons_zero, List.set_cons_succ, i64_w, i32_w]
     rfl
    exact norm_ (by simp only [putAll, Act.put, List.setIfInBounds_toArray, List.set_cons_zero, List.set_cons_succ]) (hCont (v236, v239, gb241) _ ⟨hHeld, (by (with_reducible repeat (first | apply Kd.R_alloc | apply Kd.R_drewN | apply Kd.R_drew)); exact Kd.R_mono HO237.out (fun _ hk => hk.1)), (by (with_reducible repeat (first | apply Kd.S_alloc | apply Kd.S_drewN | apply Kd.S_drew)); exact Kd.S_mono HO240.out (fun _ hk => hk.1)), (by (with_reducible repeat first | refine blk_drewN ?_ _ | refine blk_drew ?_ | refine blk_alloc ?_ _); exact BK232.out), (by (with_reducible repeat first | refine blk_drewN ?_ _ | refine blk_drew ?_ | refine blk_alloc ?_ _); exact BK233.out), (by (with_reducible repeat first | refine blk_drewN ?_ _ | refine blk_drew ?_ | refine blk_alloc ?_ _); exact BK241.out), GW241.out, GE241.out, NB232_241.out, NB241_232.out, NB233_241.out, NB241_233.out, (by repeat (first | (with_reducible first | exact HB.out | apply below_alloc | apply pw_below_drewN | apply below_drew1 | refine below_set ?_ GE232.out | refine below_set ?_ GE233.out | refine below_set ?_ GE241.out) | exact HB.out))⟩)
  ·skip
   refine box_step ?hg (N := 3) ?hd (cs := #[.slice none 0 0, .slice none 0 0]) (t := 44) ?hr ?_; (case hd => rfl); (case hg => rfl); (case hr => first | (go_simp; done) | (go_simp; rfl))
   intro gb241 hg w7 hbox hb
   have n0_ := Aside0.mk (blk_below (g := gb232) (o := .cells #[.int .i64 a0_0, .int .i64 a0_1, .int .i64 a0_2, .int .i64 a0_3, .int .i64 a0_4, .int .i64 a0_5, .int .i64 a0_6, .int .i64 a0_7, .bool a0_8, .int .i64 a0_9, .int .i64 a0_10, .int .i64 a0_11] 26 (0, 0)) (by (with_reducible repeat first | refine blk_drewN ?_ _ | refine blk_drew ?_ | refine blk_alloc ?_ _); exact BK232.out) hb)
   have n1_ := Aside0.mk (blk_below (g := gb233) (o := .cells #[.slice none 0 0, .slice none 0 0] 44 (0, 0)) (by (with_reducible repeat first | refine blk_drewN ?_ _ | refine blk_drew ?_ | refine blk_alloc ?_ _); exact BK233.out) hb)
   have n2_ := Aside0.mk (below_step (by repeat (first | (with_reducible first | exact HB.out | apply below_alloc | apply pw_below_drewN | apply below_drew1 | refine below_set ?_ GE232.out | refine below_set ?_ GE233.out) | exact HB.out)) hb)
   have n3_ := Aside0.mk (hbox)
   have n4_ := Aside0.mk ((by rw [hg]; exact (below_size (by repeat (first | (with_reducible first | exact HB.out | apply below_alloc | apply pw_below_drewN | apply below_drew1 | refine below_set ?_ GE232.out | refine below_set ?_ GE233.out) | exact HB.out))) : w.heap.size ≤ gb241))
   have n5_ := Aside0.mk ((by rw [hg]; exact (below_size (by repeat (first | (with_reducible first | exact HB.out | apply below_alloc | apply pw_below_drewN | apply below_drew1 | refine below_set ?_ GE232.out | refine below_set ?_ GE233.out) | exact HB.out))) : w.heap.size ≤ gb241))
   have n6_ := Aside0.mk ((by rw [hg]; exact Nat.ne_of_lt (blk_lt (g := gb232) (o := .cells #[.int .i64 a0_0, .int .i64 a0_1, .int .i64 a0_2, .int .i64 a0_3, .int .i64 a0_4, .int .i64 a0_5, .int .i64 a0_6, .int .i64 a0_7, .bool a0_8, .int .i64 a0_9, .int .i64 a0_10, .int .i64 a0_11] 26 (0, 0)) (by (with_reducible repeat first | refine blk_drewN ?_ _ | refine blk_drew ?_ | refine blk_alloc ?_ _); exact BK232.out)) : gb232 ≠ gb241))
   have n7_ := Aside0.mk ((by rw [hg]; exact Nat.ne_of_gt (blk_lt (g := gb232) (o := .cells #[.int .i64 a0_0, .int .i64 a0_1, .int .i64 a0_2, .int .i64 a0_3, .int .i64 a0_4, .int .i64 a0_5, .int .i64 a0_6, .int .i64 a0_7, .bool a0_8, .int .i64 a0_9, .int .i64 a0_10, .int .i64 a0_11] 26 (0, 0)) (by (with_reducible repeat first | refine blk_drewN ?_ _ | refine blk_drew ?_ | refine blk_alloc ?_ _); exact BK232.out)) : gb241 ≠ gb232))
   have n8_ := Aside0.mk ((by rw [hg]; exact Nat.ne_of_lt (blk_lt (g := gb233) (o := .cells #[.slice none 0 0, .slice none 0 0] 44 (0, 0)) (by (with_reducible repeat first | refine blk_drewN ?_ _ | refine blk_drew ?_ | refine blk_alloc ?_ _); exact BK233.out)) : gb233 ≠ gb241))
   have n9_ := Aside0.mk ((by rw [hg]; exact Nat.ne_of_gt (blk_lt (g := gb233) (o := .cells #[.slice none 0 0, .slice none 0 0] 44 (0, 0)) (by (with_reducible repeat first | refine blk_drewN ?_ _ | refine blk_drew ?_ | refine blk_alloc ?_ _); exact BK233.out)) : gb241 ≠ gb233))
   clear BK232
   clear BK233
   clear HB
   have BK232 := n0_
   have BK233 := n1_
   have HB := n2_
   have BK241 := n3_
   have GW241 := n4_
   have GE241 := n5_
   have NB232_241 := n6_
   have NB241_232 := n7_
   have NB233_241 := n8_
   have NB241_233 := n9_
   clear n0_ n1_ n2_ n3_ n4_ n5_ n6_ n7_ n8_ n9_
   clear hb hbox hg
   refine hK.out _ _ ⟨(blk_cell BK232.out 0).trans rfl, (blk_cell BK232.out 1).trans rfl, (blk_cell BK232.out 2).trans rfl, (blk_cell BK232.out 3).trans rfl, (blk_cell BK232.out 4).trans rfl, (blk_cell BK232.out 5).trans rfl, (blk_cell BK232.out 6).trans rfl, (blk_cell BK232.out 7).trans rfl, (blk_cell BK232.out 8).trans rfl, (blk_cell BK232.out 9).trans rfl, (blk_cell BK232.out 10).trans rfl, (blk_cell BK232.out 11).trans rfl⟩ (fun hHeld => ?_)
   clear hK K
   refine norm_ (a' := ?_) ?_ ?_
   rotate_left
   ·show Act.put _ (some 3) _ = _
    simp only [Act.put, List.setIfInBounds_toArray, List.set_cons_zero, List.set_cons_succ, i64_w, i32_w]
    rfl
   refine one_ (i := 1) (N := some 6) #[true, true, true, true, false, true, false] rfl rfl (by kernel_rfl) (by decide) (fun K hK => ?_)
   refine goes_ Try.func13 (by kernel_rfl) rfl #[.agg #[.int .i64 a0_0, .int .i64 a0_1, .int .i64 a0_2, .int .i64 a0_3, .int .i64 a0_4, .int .i64 a0_5, .int .i64 a0_6, .int .i64 a0_7, .bool a0_8, .int .i64 a0_9, .int .i64 a0_10, .int .i64 a0_11]] (by rfl) rfl rfl (by (try simp only [List.map_toArray, List.map_cons, List.map_nil]); first | done | rfl | (simp only [List.length_drop, List.length_take]; rfl)) ?_
   with_reducible refine (millstreamref06_Size.calls k a0_0 a0_1 a0_2 a0_3 a0_4 a0_5 a0_6 a0_7 a0_8 a0_9 a0_10 a0_11 t234 _ A2.out).mono ?_
   rintro e w8 ⟨rfl, hb⟩
   refine ⟨_, rfl, ?_⟩
   have n0_ := Aside0.mk (blk_below (g := gb232) (o := .cells #[.int .i64 a0_0, .int .i64 a0_1, .int .i64 a0_2, .int .i64 a0_3, .int .i64 a0_4, .int .i64 a0_5, .int .i64 a0_6, .int .i64 a0_7, .bool a0_8, .int .i64 a0_9, .int .i64 a0_10, .int .i64 a0_11] 26 (0, 0)) (by (with_reducible repeat first | refine blk_drewN ?_ _ | refine blk_drew ?_ | refine blk_alloc ?_ _); exact BK232.out) hb)
   have n1_ := Aside0.mk (blk_below (g := gb233) (o := .cells #[.slice none 0 0, .slice none 0 0] 44 (0, 0)) (by (with_reducible repeat first | refine blk_drewN ?_ _ | refine blk_drew ?_ | refine blk_alloc ?_ _); exact BK233.out) hb)
   have n2_ := Aside0.mk (blk_below (g := gb241) (o := .cells #[.slice none 0 0, .slice none 0 0] 44 (0, 0)) (by (with_reducible repeat first | refine blk_drewN ?_ _ | refine blk_drew ?_ | refine blk_alloc ?_ _); exact BK241.out) hb)
   have n3_ := Aside0.mk (below_step (by repeat (first | (with_reducible first | exact HB.out | apply below_alloc | apply pw_below_drewN | apply below_drew1 | refine below_set ?_ GE232.out | refine below_set ?_ GE233.out | refine below_set ?_ GE241.out) | exact HB.out)) hb)
   clear BK232
   clear BK233
   clear BK241
   clear HB
   have BK232 := n0_
   have BK233 := n1_
   have BK241 := n2_
   have HB := n3_
   clear n0_ n1_ n2_ n3_
   (try clear hb)
   (try clear hb2)
   (try clear hk)
   (try clear hi)
   refine hK.out _ _ ⟨(blk_cell BK232.out 0).trans rfl, (blk_cell BK232.out 1).trans rfl, (blk_cell BK232.out 2).trans rfl, (blk_cell BK232.out 3).trans rfl, (blk_cell BK232.out 4).trans rfl, (blk_cell BK232.out 5).trans rfl, (blk_cell BK232.out 6).trans rfl, (blk_cell BK232.out 7).trans rfl, (blk_cell BK232.out 8).trans rfl, (blk_cell BK232.out 9).trans rfl, (blk_cell BK232.out 10).trans rfl, (blk_cell BK232.out 11).trans rfl⟩ (fun hHeld => ?_)
   clear hK K
   refine norm_ (a' := ?_) ?_ ?_
   rotate_left
   ·show Act.put _ (some 6) _ = _
    simp only [Act.put, List.setIfInBounds_toArray, List.set_cons_zero, List.set_cons_succ, i64_w, i32_w]
    rfl
   refine one_ (i := 4) (N := some 9) #[true, true, true, true, true, true, false] rfl rfl (by kernel_rfl) (by decide) (fun K hK => ?_)
   refine goes_ Try.func43 (by kernel_rfl) rfl #[.int .i64 t234, .int .i64 a0_0] (by rfl) rfl rfl (by (try simp only [List.map_toArray, List.map_cons, List.map_nil]); first | done | rfl | (simp only [List.length_drop, List.length_take]; rfl)) ?_
   with_reducible refine (millstreamref03_New.calls k t234 a0_0 t235 t238 _ A3.out).mono ?_
   rintro e w9 ⟨v236, v239, rfl, ho0, ho1, hb⟩
   refine ⟨_, rfl, ?_⟩
   have n0_ := Aside0.mk (Kd.R_lower (Kd.R_newM (M := fun k_ => (w.heap.size ≤ k_)) ho0 (below_size (by repeat (first | (with_reducible first | exact HB.out | apply below_alloc | apply pw_below_drewN | apply below_drew1 | refine below_set ?_ GE232.out | refine below_set ?_ GE233.out | refine below_set ?_ GE241.out) | exact HB.out))) (fun k_ h_ => h_)) (below_size (by repeat (first | (with_reducible first | exact HB.out | apply below_alloc | apply pw_below_drewN | apply below_drew1 | refine below_set ?_ GE232.out | refine below_set ?_ GE233.out | refine below_set ?_ GE241.out) | exact HB.out))))
   have n1_ := Aside0.mk (Kd.S_lower (Kd.S_newM (M := fun k_ => (w.heap.size ≤ k_)) ho1 (below_size (by repeat (first | (with_reducible first | exact HB.out | apply below_alloc | apply pw_below_drewN | apply below_drew1 | refine below_set ?_ GE232.out | refine below_set ?_ GE233.out | refine below_set ?_ GE241.out) | exact HB.out))) (fun k_ h_ => h_)) (below_size (by repeat (first | (with_reducible first | exact HB.out | apply below_alloc | apply pw_below_drewN | apply below_drew1 | refine below_set ?_ GE232.out | refine below_set ?_ GE233.out | refine below_set ?_ GE241.out) | exact HB.out))))
   have n2_ := Aside0.mk (blk_below (g := gb232) (o := .cells #[.int .i64 a0_0, .int .i64 a0_1, .int .i64 a0_2, .int .i64 a0_3, .int .i64 a0_4, .int .i64 a0_5, .int .i64 a0_6, .int .i64 a0_7, .bool a0_8, .int .i64 a0_9, .int .i64 a0_10, .int .i64 a0_11] 26 (0, 0)) (by (with_reducible repeat first | refine blk_drewN ?_ _ | refine blk_drew ?_ | refine blk_alloc ?_ _); exact BK232.out) hb)
   have n3_ := Aside0.mk (blk_below (g := gb233) (o := .cells #[.slice none 0 0, .slice none 0 0] 44 (0, 0)) (by (with_reducible repeat first | refine blk_drewN ?_ _ | refine blk_drew ?_ | refine blk_alloc ?_ _); exact BK233.out) hb)
   have n4_ := Aside0.mk (blk_below (g := gb241) (o := .cells #[.slice none 0 0, .slice none 0 0] 44 (0, 0)) (by (with_reducible repeat first | refine blk_drewN ?_ _ | refine blk_drew ?_ | refine blk_alloc ?_ _); exact BK241.out) hb)
   have n5_ := Aside0.mk (below_step (by repeat (first | (with_reducible first | exact HB.out | apply below_alloc | apply pw_below_drewN | apply below_drew1 | refine below_set ?_ GE232.out | refine below_set ?_ GE233.out | refine below_set ?_ GE241.out) | exact HB.out)) hb)
   clear BK232
   clear BK233
   clear BK241
   clear HB
   have HO237 := n0_
   have HO240 := n1_
   have BK232 := n2_
   have BK233 := n3_
   have BK241 := n4_
   have HB := n5_
   clear n0_ n1_ n2_ n3_ n4_ n5_
   (try clear hb)
   (try clear hb2)
   (try clear hk)
   (try clear hi)
   (try clear ho0)
   (try clear ho1)
   refine hK.out _ _ ⟨(blk_cell BK232.out 0).trans rfl, (blk_cell BK232.out 1).trans rfl, (blk_cell BK232.out 2).trans rfl, (blk_cell BK232.out 3).trans rfl, (blk_cell BK232.out 4).trans rfl, (blk_cell BK232.out 5).trans rfl, (blk_cell BK232.out 6).trans rfl, (blk_cell BK232.out 7).trans rfl, (blk_cell BK232.out 8).trans rfl, (blk_cell BK232.out 9).trans rfl, (blk_cell BK232.out 10).trans rfl, (blk_cell BK232.out 11).trans rfl⟩ (fun hHeld => ?_)
   clear hK K
   refine norm_ (a' := ?_) ?_ ?_
   rotate_left
   ·show Act.put _ (some 9) _ = _
    simp only [Act.put, List.setIfInBounds_toArray, List.set_cons_zero, List.set_cons_succ, i64_w, i32_w]
    rfl
   exact norm_ (by simp only [putAll, Act.put, List.setIfInBounds_toArray, List.set_cons_zero, List.set_cons_succ]) (hCont (v236, v239, gb241) _ ⟨hHeld, (by (with_reducible repeat (first | apply Kd.R_alloc | apply Kd.R_drewN | apply Kd.R_drew)); exact Kd.R_mono HO237.out (fun _ hk => hk.1)), (by (with_reducible repeat (first | apply Kd.S_alloc | apply Kd.S_drewN | apply Kd.S_drew)); exact Kd.S_mono HO240.out (fun _ hk => hk.1)), (by (with_reducible repeat first | refine blk_drewN ?_ _ | refine blk_drew ?_ | refine blk_alloc ?_ _); exact BK232.out), (by (with_reducible repeat first | refine blk_drewN ?_ _ | refine blk_drew ?_ | refine blk_alloc ?_ _); exact BK233.out), (by (with_reducible repeat first | refine blk_drewN ?_ _ | refine blk_drew ?_ | refine blk_alloc ?_ _); exact BK241.out), GW241.out, GE241.out, NB232_241.out, NB241_232.out, NB233_241.out, NB241_233.out, (by repeat (first | (with_reducible first | exact HB.out | apply below_alloc | apply pw_below_drewN | apply below_drew1 | refine below_set ?_ GE232.out | refine below_set ?_ GE233.out | refine below_set ?_ GE241.out) | exact HB.out))⟩)
 rintro ⟨v236, v239, gb241⟩ w10 ⟨hS_, h0_, h1_, h2_, h3_, h4_, h5_, h6_, h7_, h8_, h9_, h10_, h11_⟩
 have n0_ : Aside0 (Kd.R (Kd.int .i64) 3 w10 w.heap.size (fun k_ => (w.heap.size ≤ k_)) v236 t235) := ⟨h0_⟩
 have n1_ : Aside0 (Kd.S (Kd.slice 66 k66) 58 w10 w.heap.size (fun k_ => (w.heap.size ≤ k_)) v239 t238) := ⟨h1_⟩
 have n2_ : Aside0 (w10.heap[gb232]? = some (.cells #[.int .i64 a0_0, .int .i64 a0_1, .int .i64 a0_2, .int .i64 a0_3, .int .i64 a0_4, .int .i64 a0_5, .int .i64 a0_6, .int .i64 a0_7, .bool a0_8, .int .i64 a0_9, .int .i64 a0_10, .int .i64 a0_11] 26 (0, 0))) := ⟨h2_⟩
 have n3_ : Aside0 (w10.heap[gb233]? = some (.cells #[.slice none 0 0, .slice none 0 0] 44 (0, 0))) := ⟨h3_⟩
 have n4_ : Aside0 (w10.heap[gb241]? = some (.cells #[.slice none 0 0, .slice none 0 0] 44 (0, 0))) := ⟨h4_⟩
 have n5_ : Aside0 (w.heap.size ≤ gb241) := ⟨h5_⟩
 have n6_ : Aside0 (w.heap.size ≤ gb241) := ⟨h6_⟩
 have n7_ : Aside0 (gb232 ≠ gb241) := ⟨h7_⟩
 have n8_ : Aside0 (gb241 ≠ gb232) := ⟨h8_⟩
 have n9_ : Aside0 (gb233 ≠ gb241) := ⟨h9_⟩
 have n10_ : Aside0 (gb241 ≠ gb233) := ⟨h10_⟩
 have n11_ : Aside0 (Below w.heap.size w w10) := ⟨h11_⟩
 clear BK232
 clear BK233
 clear HB
 clear h0_ h1_ h2_ h3_ h4_ h5_ h6_ h7_ h8_ h9_ h10_ h11_
 have HO237 := n0_
 have HO240 := n1_
 have BK232 := n2_
 have BK233 := n3_
 have BK241 := n4_
 have GW241 := n5_
 have GE241 := n6_
 have NB232_241 := n7_
 have NB241_232 := n8_
 have NB233_241 := n9_
 have NB241_233 := n10_
 have HB := n11_
 clear n0_ n1_ n2_ n3_ n4_ n5_ n6_ n7_ n8_ n9_ n10_ n11_
 have hHeld : w10.cell? ⟨gb232, 0, none⟩ = some (.int .i64 a0_0) ∧ w10.cell? ⟨gb232, 1, none⟩ = some (.int .i64 a0_1) ∧ w10.cell? ⟨gb232, 2, none⟩ = some (.int .i64 a0_2) ∧ w10.cell? ⟨gb232, 3, none⟩ = some (.int .i64 a0_3) ∧ w10.cell? ⟨gb232, 4, none⟩ = some (.int .i64 a0_4) ∧ w10.cell? ⟨gb232, 5, none⟩ = some (.int .i64 a0_5) ∧ w10.cell? ⟨gb232, 6, none⟩ = some (.int .i64 a0_6) ∧ w10.cell? ⟨gb232, 7, none⟩ = some (.int .i64 a0_7) ∧ w10.cell? ⟨gb232, 8, none⟩ = some (.bool a0_8) ∧ w10.cell? ⟨gb232, 9, none⟩ = some (.int .i64 a0_9) ∧ w10.cell? ⟨gb232, 10, none⟩ = some (.int .i64 a0_10) ∧ w10.cell? ⟨gb232, 11, none⟩ = some (.int .i64 a0_11) := hS_
 obtain ⟨Ao11, co11, eo11⟩ := Kd.R_slice HO237.out
 (first | subst eo11 | (injection eo11 with f1_ f2_ f3_; have f4_ := f1_.symm; have f5_ := f3_.symm; clear f1_ f2_ f3_; subst f4_; subst f5_))
 obtain ⟨Ao13, co13, eo13⟩ := Kd.S_slice HO240.out
 (first | subst eo13 | (injection eo13 with f1_ f2_ f3_; have f4_ := f1_.symm; have f5_ := f3_.symm; clear f1_ f2_ f3_; subst f4_; subst f5_))
 refine norm_ (a' := ?_) ?_ ?_
 rotate_left
 ·simp only [putAll, Act.put, List.setIfInBounds_toArray, List.set_cons_zero, List.set_cons_succ]
  rfl
 refine one_ (i := 6) (N := none) #[true, true, true, true, true, true, true] rfl rfl (by kernel_rfl) (by decide) (fun K hK => ?_)
 have hs12 : w10.cell? ⟨gb241, 0, none⟩ = some (.slice none 0 0) := (blk_cell BK241.out 0).trans rfl
 have hfs12 := blk_frozen BK241.out 0
 have hns12_0 := NB232_241.out
 have hns12_1 := NB233_241.out
 have hms12_0 := NB241_232.out
 have hms12_1 := NB241_233.out
 have hs14 : w10.cell? ⟨gb241, 1, none⟩ = some (.slice none 0 0) := (blk_cell BK241.out 1).trans rfl
 have hfs14 := blk_frozen BK241.out 1
 have hns14_0 := NB232_241.out
 have hns14_1 := NB233_241.out
 have hms14_0 := NB241_232.out
 have hms14_1 := NB241_233.out
 refine skip_ (w1 := ?_) (by rfl) rfl ?_ ?_
 rotate_left
 ·go_simp
  rfl
 refine hK.out _ _ ⟨((cell_far (p := ⟨gb241, _, none⟩) NB232_241.out _).trans (((cell_far (p := ⟨gb241, _, none⟩) NB232_241.out _).trans (hHeld.1)))), ((cell_far (p := ⟨gb241, _, none⟩) NB232_241.out _).trans (((cell_far (p := ⟨gb241, _, none⟩) NB232_241.out _).trans (hHeld.2.1)))), ((cell_far (p := ⟨gb241, _, none⟩) NB232_241.out _).trans (((cell_far (p := ⟨gb241, _, none⟩) NB232_241.out _).trans (hHeld.2.2.1)))), ((cell_far (p := ⟨gb241, _, none⟩) NB232_241.out _).trans (((cell_far (p := ⟨gb241, _, none⟩) NB232_241.out _).trans (hHeld.2.2.2.1)))), ((cell_far (p := ⟨gb241, _, none⟩) NB232_241.out _).trans (((cell_far (p := ⟨gb241, _, none⟩) NB232_241.out _).trans (hHeld.2.2.2.2.1)))), ((cell_far (p := ⟨gb241, _, none⟩) NB232_241.out _).trans (((cell_far (p := ⟨gb241, _, none⟩) NB232_241.out _).trans (hHeld.2.2.2.2.2.1)))), ((cell_far (p := ⟨gb241, _, none⟩) NB232_241.out _).trans (((cell_far (p := ⟨gb241, _, none⟩) NB232_241.out _).trans (hHeld.2.2.2.2.2.2.1)))), ((cell_far (p := ⟨gb241, _, none⟩) NB232_241.out _).trans (((cell_far (p := ⟨gb241, _, none⟩) NB232_241.out _).trans (hHeld.2.2.2.2.2.2.2.1)))), ((cell_far (p := ⟨gb241, _, none⟩) NB232_241.out _).trans (((cell_far (p := ⟨gb241, _, none⟩) NB232_241.out _).trans (hHeld.2.2.2.2.2.2.2.2.1)))), ((cell_far (p := ⟨gb241, _, none⟩) NB232_241.out _).trans (((cell_far (p := ⟨gb241, _, none⟩) NB232_241.out _).trans (hHeld.2.2.2.2.2.2.2.2.2.1)))), ((cell_far (p := ⟨gb241, _, none⟩) NB232_241.out _).trans (((cell_far (p := ⟨gb241, _, none⟩) NB232_241.out _).trans (hHeld.2.2.2.2.2.2.2.2.2.2.1)))), ((cell_far (p := ⟨gb241, _, none⟩) NB232_241.out _).trans (((cell_far (p := ⟨gb241, _, none⟩) NB232_241.out _).trans (hHeld.2.2.2.2.2.2.2.2.2.2.2))))⟩ (fun hHeld => ?_)
 clear hK K
 refine done_ (by kernel_rfl) ?_
 try go_wp2
 go_loopg [4] k (fun kq v4 w' => ∃ (x4_1 : Int) (x242000_1 : List Int) (x242001_1 : List (List (S66))) (u242000 : Value) (u242001 : Value), v4 = .int .i64 x4_1 ∧ Aside0 (millstreamref06_Build.l0 kq x4_1 a0_0 a0_1 a0_2 a0_3 a0_4 a0_5 a0_6 a0_7 a0_8 a0_9 a0_10 a0_11 x242000_1 x242001_1 = some (r1, r2)) ∧ Aside0 (kq ≤ k) ∧ Aside0 (Kd.R (Kd.int .i64) 3 w' w.heap.size (fun k_ => (w.heap.size ≤ k_)) u242000 x242000_1) ∧ Aside0 (Kd.V (Kd.slice 66 k66) 58 w' w.heap.size (fun k_ => (w.heap.size ≤ k_) ∧ some k_ ≠ (u242000 : Value).ownBlock ∧ k_ ≠ gb232 ∧ k_ ≠ gb233 ∧ k_ ≠ gb241) u242001 x242001_1) ∧ Aside0 (w'.heap[gb232]? = some (.cells #[.int .i64 a0_0, .int .i64 a0_1, .int .i64 a0_2, .int .i64 a0_3, .int .i64 a0_4, .int .i64 a0_5, .int .i64 a0_6, .int .i64 a0_7, .bool a0_8, .int .i64 a0_9, .int .i64 a0_10, .int .i64 a0_11] 26 (0, 0))) ∧ Aside0 (w'.heap[gb233]? = some (.cells #[(.slice none 0 0), (.slice none 0 0)] 44 (0, 0))) ∧ Aside0 (w'.heap[gb241]? = some (.cells #[u242000, u242001] 44 (0, 0))) ∧ Aside0 (Below w.heap.size w w'))
 case atStart => exact ⟨(0), (t235), (t238), (.slice Ao11 t235.length co11), (.slice Ao13 t238.length co13), (by first | rfl | (simp; done) | (simp [*]; done)), H', ⟨Nat.le_refl _⟩, ⟨by (with_reducible repeat (first | apply Kd.R_alloc | apply Kd.R_drewN | apply Kd.R_drew)); exact Kd.R_mono (Kd.R_far (p := ⟨gb241, 1, none⟩) (Kd.R_far (p := ⟨gb241, 0, none⟩) (Kd.R_types HO237.out BK241.out (by decide)) (fun _ hk => hk.2) (.slice Ao11 t235.length co11)) (fun _ hk => hk.2) (.slice Ao13 t238.length co13)) (fun _ hk => hk.1)⟩, ⟨Kd.S_V (by (with_reducible repeat (first | apply Kd.S_alloc | apply Kd.S_drewN | apply Kd.S_drew)); exact Kd.S_mono (Kd.S_far (p := ⟨gb241, 1, none⟩) (Kd.S_far (p := ⟨gb241, 0, none⟩) (Kd.S_types (Kd.S_types (Kd.S_types (Kd.S_types (Kd.S_apart' HO240.out (Kd.R_typed HO237.out) (by decide)) BK232.out (by decide)) BK233.out (by decide)) BK241.out (by decide)) BK241.out (by decide)) (fun _ hk => hk.2) (.slice Ao11 t235.length co11)) (fun _ hk => hk.2) (.slice Ao13 t238.length co13)) (fun _ hk => ⟨hk.1.1.1.1.1, ⟨hk.1.1.1.1.2, ⟨hk.1.1.1.2, ⟨hk.1.1.2, hk.1.2⟩⟩⟩⟩))⟩, ⟨by (iterate 2 ((with_reducible repeat first | refine blk_drewN ?_ _ | refine blk_drew ?_ | refine blk_alloc ?_ _); refine blk_far ?_ NB232_241.out _)); (with_reducible repeat first | refine blk_drewN ?_ _ | refine blk_drew ?_ | refine blk_alloc ?_ _); exact BK232.out⟩, ⟨by (iterate 2 ((with_reducible repeat first | refine blk_drewN ?_ _ | refine blk_drew ?_ | refine blk_alloc ?_ _); refine blk_far ?_ NB233_241.out _)); (with_reducible repeat first | refine blk_drewN ?_ _ | refine blk_drew ?_ | refine blk_alloc ?_ _); exact BK233.out⟩, ⟨by (with_reducible repeat first | refine blk_drewN ?_ _ | refine blk_drew ?_ | refine blk_alloc ?_ _); refine blk_put (cs := #[.slice Ao11 t235.length co11, .slice none 0 0]) ?_ 1 _ rfl; (with_reducible repeat first | refine blk_drewN ?_ _ | refine blk_drew ?_ | refine blk_alloc ?_ _); refine blk_put (cs := #[.slice none 0 0, .slice none 0 0]) ?_ 0 _ rfl; (with_reducible repeat first | refine blk_drewN ?_ _ | refine blk_drew ?_ | refine blk_alloc ?_ _); exact BK241.out⟩, ⟨by repeat (first | (with_reducible first | exact HB.out | apply below_alloc | apply pw_below_drewN | apply below_drew1 | refine below_set ?_ GE232.out | refine below_set ?_ GE233.out | refine below_set ?_ GE241.out) | exact HB.out)⟩⟩
 case round =>
  clear H'
  try clear c1
  try clear c2
  try clear p2
  try clear c4
  try clear c13
  obtain ⟨x4_1, x242000_1, x242001_1, u242000, u242001, rfl, HA, HK1, HO_242000, HO_242001, BK232, BK233, BK241, HB⟩ := hrel
  cases gk with
  | zero => exact absurd HA.out (by simp [millstreamref06_Build.l0])
  | succ k1 =>
   have H := HA.out
   clear HA
   simp only [millstreamref06_Build.l0] at H
   by_cases c15 : x4_1 < a0_1
   ·rw [if_pos c15] at H
    have c15b0 : decide (x4_1 < a0_1) = true := decide_eq_true c15
    clear c15
    replace H := Option.bind_eq_some_iff.mp H
    obtain ⟨t242, A160, H⟩ := H
    replace H : ((millstreamref03_Store.f x242000_1 x242001_1 t242 a0_11).bind fun bt243 => (millstreamref06_Build.l0 k1 (wrap64 (x4_1 + 1)) a0_0 a0_1 a0_2 a0_3 a0_4 a0_5 a0_6 a0_7 a0_8 a0_9 a0_10 a0_11 bt243.1 bt243.2.1)) = some (r1, r2) := H
    have A16 := Aside0.mk A160
    clear A160
    replace H := Option.bind_eq_some_iff.mp H
    obtain ⟨⟨t243, t246, t249⟩, A170, H⟩ := H
    replace H : (millstreamref06_Build.l0 k1 (wrap64 (x4_1 + 1)) a0_0 a0_1 a0_2 a0_3 a0_4 a0_5 a0_6 a0_7 a0_8 a0_9 a0_10 a0_11 t243 t246) = some (r1, r2) := H
    have A17 := Aside0.mk A170
    clear A170
    have H' := Aside0.mk H
    clear H
    have hnb18 := NB232_233.out
    have hnc18 := NB233_232.out
    have hnb19 := NB232_241.out
    have hnc19 := NB241_232.out
    have hcz20_0 : wr.cell? ⟨gb232, 0, none⟩ = some (.int .i64 a0_0) := (blk_cell BK232.out 0).trans rfl
    have hcz20_1 : wr.cell? ⟨gb232, 1, none⟩ = some (.int .i64 a0_1) := (blk_cell BK232.out 1).trans rfl
    have hcz20_2 : wr.cell? ⟨gb232, 2, none⟩ = some (.int .i64 a0_2) := (blk_cell BK232.out 2).trans rfl
    have hcz20_3 : wr.cell? ⟨gb232, 3, none⟩ = some (.int .i64 a0_3) := (blk_cell BK232.out 3).trans rfl
    have hcz20_4 : wr.cell? ⟨gb232, 4, none⟩ = some (.int .i64 a0_4) := (blk_cell BK232.out 4).trans rfl
    have hcz20_5 : wr.cell? ⟨gb232, 5, none⟩ = some (.int .i64 a0_5) := (blk_cell BK232.out 5).trans rfl
    have hcz20_6 : wr.cell? ⟨gb232, 6, none⟩ = some (.int .i64 a0_6) := (blk_cell BK232.out 6).trans rfl
    have hcz20_7 : wr.cell? ⟨gb232, 7, none⟩ = some (.int .i64 a0_7) := (blk_cell BK232.out 7).trans rfl
    have hcz20_8 : wr.cell? ⟨gb232, 8, none⟩ = some (.bool a0_8) := (blk_cell BK232.out 8).trans rfl
    have hcz20_9 : wr.cell? ⟨gb232, 9, none⟩ = some (.int .i64 a0_9) := (blk_cell BK232.out 9).trans rfl
    have hcz20_10 : wr.cell? ⟨gb232, 10, none⟩ = some (.int .i64 a0_10) := (blk_cell BK232.out 10).trans rfl
    have hcz20_11 : wr.cell? ⟨gb232, 11, none⟩ = some (.int .i64 a0_11) := (blk_cell BK232.out 11).trans rfl
    have hfz20_0 := blk_frozen BK232.out 0
    have hfz20_1 := blk_frozen BK232.out 1
    have hfz20_2 := blk_frozen BK232.out 2
    have hfz20_3 := blk_frozen BK232.out 3
    have hfz20_4 := blk_frozen BK232.out 4
    have hfz20_5 := blk_frozen BK232.out 5
    have hfz20_6 := blk_frozen BK232.out 6
    have hfz20_7 := blk_frozen BK232.out 7
    have hfz20_8 := blk_frozen BK232.out 8
    have hfz20_9 := blk_frozen BK232.out 9
    have hfz20_10 := blk_frozen BK232.out 10
    have hfz20_11 := blk_frozen BK232.out 11
    try go_wp2
    have n0_ := Aside0.mk (Kd.R_drew HO_242000.out)
    have n1_ := Aside0.mk (Kd.V_drew HO_242001.out)
    have n2_ := Aside0.mk (blk_drew BK232.out)
    have n3_ := Aside0.mk (blk_drew BK233.out)
    have n4_ := Aside0.mk (blk_drew BK241.out)
    have n5_ := Aside0.mk (below_drew1 HB.out)
    clear HO_242000
    clear HO_242001
    clear BK232
    clear BK233
    clear BK241
    clear HB
    have HO_242000 := n0_
    have HO_242001 := n1_
    have BK232 := n2_
    have BK233 := n3_
    have BK241 := n4_
    have HB := n5_
    clear n0_ n1_ n2_ n3_ n4_ n5_
    refine start_ (n := 11) (S := fun w' => w'.cell? ⟨gb241, 0, none⟩ = some (u242000) ∧ w'.cell? ⟨gb241, 1, none⟩ = some (u242001) ∧ w'.cell? ⟨gb232, 0, none⟩ = some (.int .i64 a0_0) ∧ w'.cell? ⟨gb232, 1, none⟩ = some (.int .i64 a0_1) ∧ w'.cell? ⟨gb232, 2, none⟩ = some (.int .i64 a0_2) ∧ w'.cell? ⟨gb232, 3, none⟩ = some (.int .i64 a0_3) ∧ w'.cell? ⟨gb232, 4, none⟩ = some (.int .i64 a0_4) ∧ w'.cell? ⟨gb232, 5, none⟩ = some (.int .i64 a0_5) ∧ w'.cell? ⟨gb232, 6, none⟩ = some (.int .i64 a0_6) ∧ w'.cell? ⟨gb232, 7, none⟩ = some (.int .i64 a0_7) ∧ w'.cell? ⟨gb232, 8, none⟩ = some (.bool a0_8) ∧ w'.cell? ⟨gb232, 9, none⟩ = some (.int .i64 a0_9) ∧ w'.cell? ⟨gb232, 10, none⟩ = some (.int .i64 a0_10) ∧ w'.cell? ⟨gb232, 11, none⟩ = some (.int .i64 a0_11)) (ds := [10]) #[false, false, false, false, false, false, false, false, false, false, false] (by kernel_rfl) rfl rfl ⟨(blk_cell BK241.out 0).trans rfl, (blk_cell BK241.out 1).trans rfl, (blk_cell BK232.out 0).trans rfl, (blk_cell BK232.out 1).trans rfl, (blk_cell BK232.out 2).trans rfl, (blk_cell BK232.out 3).trans rfl, (blk_cell BK232.out 4).trans rfl, (blk_cell BK232.out 5).trans rfl, (blk_cell BK232.out 6).trans rfl, (blk_cell BK232.out 7).trans rfl, (blk_cell BK232.out 8).trans rfl, (blk_cell BK232.out 9).trans rfl, (blk_cell BK232.out 10).trans rfl, (blk_cell BK232.out 11).trans rfl⟩ (fun hHeld => ?_); refine with_tabW millstreamref06_Build.tab5 millstreamref06_Build.bits5 (fun HT_ HW_ => ?_)
    generalize wr.drew = w21 at HO_242000 HO_242001 BK232 BK233 BK241 HB hHeld ⊢
    refine pure_ (i := 2) (N := some 19) (v := ?_) (a' := ?_) #[false, false, true, false, false, false, false, false, false, false, false] rfl rfl (any_of HT_.out (by kernel_rfl)) (fun _ _ _ h => h) (Or.inl ⟨by rfl, ?_⟩) ?_ ?_
    rotate_left
    ·intro w'
     go_simp
     with_reducible rfl
    rotate_left
    ·simp only [Act.put, List.setIfInBounds_toArray, List.set_cons_zero, List.set_cons_succ, i64_w, i32_w]
     rfl
    refine pure_ (i := 4) (N := some 21) (v := ?_) (a' := ?_) #[false, false, true, false, true, false, false, false, false, false, false] rfl rfl (any_of HT_.out (by kernel_rfl)) (fun _ _ _ h => h) (Or.inl ⟨by rfl, ?_⟩) ?_ ?_
    rotate_left
    ·intro w'
     go_simp
     with_reducible rfl
    rotate_left
    ·simp only [Act.put, List.setIfInBounds_toArray, List.set_cons_zero, List.set_cons_succ, i64_w, i32_w]
     rfl
    refine take_ (i := 0) (N := some 17) (v := ?_) (a' := ?_) #[true, false, true, false, true, false, false, false, false, false, false] rfl rfl (take_ofW HT_.out HW_.out (by kernel_rfl)) (fun _ _ _ h => h) (Or.inl ⟨by rfl, ?_⟩) hHeld ?_ ?_
    rotate_left
    ·rintro w' ⟨s0, s1, s2, s3, s4, s5, s6, s7, s8, s9, s10, s11, s12, s13⟩
     go_simp
     with_reducible rfl
    rotate_left
    ·simp only [Act.put, List.setIfInBounds_toArray, List.set_cons_zero, List.set_cons_succ, i64_w, i32_w]
     rfl
    refine take_ (i := 1) (N := some 18) (v := ?_) (a' := ?_) #[true, true, true, false, true, false, false, false, false, false, false] rfl rfl (take_ofW HT_.out HW_.out (by kernel_rfl)) (fun _ _ _ h => h) (Or.inl ⟨by rfl, ?_⟩) hHeld ?_ ?_
    rotate_left
    ·rintro w' ⟨s0, s1, s2, s3, s4, s5, s6, s7, s8, s9, s10, s11, s12, s13⟩
     go_simp
     with_reducible rfl
    rotate_left
    ·simp only [Act.put, List.setIfInBounds_toArray, List.set_cons_zero, List.set_cons_succ, i64_w, i32_w]
     rfl
    refine take_ (i := 5) (N := some 22) (v := ?_) (a' := ?_) #[true, true, true, false, true, true, false, false, false, false, false] rfl rfl (take_ofW HT_.out HW_.out (by kernel_rfl)) (fun _ _ _ h => h) (Or.inl ⟨by rfl, ?_⟩) hHeld ?_ ?_
    rotate_left
    ·rintro w' ⟨s0, s1, s2, s3, s4, s5, s6, s7, s8, s9, s10, s11, s12, s13⟩
     go_simp
     with_reducible rfl
    rotate_left
    ·simp only [Act.put, List.setIfInBounds_toArray, List.set_cons_zero, List.set_cons_succ, i64_w, i32_w]
     rfl
    refine one_ (i := 3) (N := some 20) #[true, true, true, true, true, true, false, false, false, false, false] rfl rfl (one_of HT_.out (by kernel_rfl)) (by decide) (fun K hK => ?_)
    refine goes_ Try.func15 (by kernel_rfl) rfl #[.agg #[.int .i64 a0_0, .int .i64 a0_1, .int .i64 a0_2, .int .i64 a0_3, .int .i64 a0_4, .int .i64 a0_5, .int .i64 a0_6, .int .i64 a0_7, .bool a0_8, .int .i64 a0_9, .int .i64 a0_10, .int .i64 a0_11], .int .i64 x4_1] (by rfl) rfl rfl (by (try simp only [List.map_toArray, List.map_cons, List.map_nil]); first | done | rfl | (simp only [List.length_drop, List.length_take]; rfl)) ?_
    with_reducible refine (millstreamref06_Cell.calls k1 a0_0 a0_1 a0_2 a0_3 a0_4 a0_5 a0_6 a0_7 a0_8 a0_9 a0_10 a0_11 x4_1 t242 _ A16.out).mono ?_
    rintro e w22 ⟨rfl, hb⟩
    refine ⟨_, rfl, ?_⟩
    have n0_ := Aside0.mk (Kd.R_below (by (with_reducible repeat (first | apply Kd.R_alloc | apply Kd.R_drewN | apply Kd.R_drew)); exact HO_242000.out) hb)
    have n1_ := Aside0.mk (Kd.V_below (by (with_reducible repeat (first | apply Kd.V_alloc | apply Kd.V_drewN | apply Kd.V_drew)); exact HO_242001.out) hb)
    have n2_ := Aside0.mk (blk_below (g := gb232) (o := .cells #[.int .i64 a0_0, .int .i64 a0_1, .int .i64 a0_2, .int .i64 a0_3, .int .i64 a0_4, .int .i64 a0_5, .int .i64 a0_6, .int .i64 a0_7, .bool a0_8, .int .i64 a0_9, .int .i64 a0_10, .int .i64 a0_11] 26 (0, 0)) (by (with_reducible repeat first | refine blk_drewN ?_ _ | refine blk_drew ?_ | refine blk_alloc ?_ _); exact BK232.out) hb)
    have n3_ := Aside0.mk (blk_below (g := gb233) (o := .cells #[.slice none 0 0, .slice none 0 0] 44 (0, 0)) (by (with_reducible repeat first | refine blk_drewN ?_ _ | refine blk_drew ?_ | refine blk_alloc ?_ _); exact BK233.out) hb)
    have n4_ := Aside0.mk (blk_below (g := gb241) (o := .cells #[u242000, u242001] 44 (0, 0)) (by (with_reducible repeat first | refine blk_drewN ?_ _ | refine blk_drew ?_ | refine blk_alloc ?_ _); exact BK241.out) hb)
    have n5_ := Aside0.mk (below_step (by repeat (first | (with_reducible first | exact HB.out | apply below_alloc | apply pw_below_drewN | apply below_drew1 | refine below_set ?_ GE232.out | refine below_set ?_ GE233.out | refine below_set ?_ GE241.out) | exact HB.out)) hb)
    clear HO_242000
    clear HO_242001
    clear BK232
    clear BK233
    clear BK241
    clear HB
    have HO_242000 := n0_
    have HO_242001 := n1_
    have BK232 := n2_
    have BK233 := n3_
    have BK241 := n4_
    have HB := n5_
    clear n0_ n1_ n2_ n3_ n4_ n5_
    (try clear hb)
    (try clear hb2)
    (try clear hk)
    (try clear hi)
    obtain ⟨Ao23, co23, eo23⟩ := Kd.R_slice HO_242000.out
    (first | subst eo23 | (injection eo23 with f1_ f2_ f3_; have f4_ := f1_.symm; have f5_ := f3_.symm; clear f1_ f2_ f3_; subst f4_; subst f5_))
    obtain ⟨Ao24, co24, eo24⟩ := Kd.V_slice HO_242001.out
    (first | subst eo24 | (injection eo24 with f1_ f2_ f3_; have f4_ := f1_.symm; have f5_ := f3_.symm; clear f1_ f2_ f3_; subst f4_; subst f5_))
    refine hK.out _ _ ⟨(blk_cell BK241.out 0).trans rfl, (blk_cell BK241.out 1).trans rfl, (blk_cell BK232.out 0).trans rfl, (blk_cell BK232.out 1).trans rfl, (blk_cell BK232.out 2).trans rfl, (blk_cell BK232.out 3).trans rfl, (blk_cell BK232.out 4).trans rfl, (blk_cell BK232.out 5).trans rfl, (blk_cell BK232.out 6).trans rfl, (blk_cell BK232.out 7).trans rfl, (blk_cell BK232.out 8).trans rfl, (blk_cell BK232.out 9).trans rfl, (blk_cell BK232.out 10).trans rfl, (blk_cell BK232.out 11).trans rfl⟩ (fun hHeld => ?_)
    clear hK K
    refine norm_ (a' := ?_) ?_ ?_
    rotate_left
    ·show Act.put _ (some 20) _ = _
     simp only [Act.put, List.setIfInBounds_toArray, List.set_cons_zero, List.set_cons_succ, i64_w, i32_w]
     rfl
    refine one_ (i := 6) (N := some 23) #[true, true, true, true, true, true, true, false, false, false, false] rfl rfl (one_of HT_.out (by kernel_rfl)) (by decide) (fun K hK => ?_)
    refine goes_ Try.func44 (by kernel_rfl) rfl #[.agg #[.slice Ao23 x242000_1.length co23, .slice Ao24 x242001_1.length co24], .int .i64 t242, .int .i64 a0_11] (by rfl) rfl rfl (by (try simp only [List.map_toArray, List.map_cons, List.map_nil]); first | done | rfl | (simp only [List.length_drop, List.length_take]; rfl)) ?_
    with_reducible refine (millstreamref03_Store.calls (fun k_ => some k_ = (.slice Ao23 x242000_1.length co23 : Value).ownBlock) (.slice Ao23 x242000_1.length co23) x242000_1 (fun k_ => ((w.heap.size ≤ k_) ∧ (some k_ ≠ (.slice Ao23 x242000_1.length co23 : Value).ownBlock ∧ (k_ ≠ gb232 ∧ (k_ ≠ gb233 ∧ k_ ≠ gb241))))) _ _ x242001_1 t242 a0_11 t243 t246 t249 w _ ?side1 ?side2 ?side3 A17.out).mono ?_
    (case side1 => repeat (first | (with_reducible first | exact HB.out | apply below_alloc | apply pw_below_drewN | apply below_drew1 | refine below_set ?_ GE232.out | refine below_set ?_ GE233.out | refine below_set ?_ GE241.out) | exact HB.out))
    (case side2 => exact Kd.R_tight rfl HO_242000.out)
    (case side3 => exact Kd.V_mono (HO_242001.out) (fun k_ hk_ => ⟨hk_, hk_.2.1⟩))
    rintro e w25 ⟨v244, v247, rfl, ho0, ho1, hb, hkp⟩
    refine ⟨_, rfl, ?_⟩
    have n0_ := Aside0.mk (Kd.V_mono (ok' := fun k_ => (w.heap.size ≤ k_) ∧ k_ ≠ gb232 ∧ k_ ≠ gb233 ∧ k_ ≠ gb241 ∧ some k_ ≠ (v244 : Value).ownBlock) (Kd.V_keptB (HO_242001.out) hkp (fun k_ hk_ hs_ => (hk_.2.1) hs_)) (fun k_ hk_ => ⟨hk_.1.1, hk_.1.2.2.1, hk_.1.2.2.2.1, hk_.1.2.2.2.2, fun e_ => Or.elim (ho0.1 k_ e_.symm) (fun hs_ => hk_.2.1 hs_) (fun hn_ => Nat.not_le.2 hk_.2.2 hn_)⟩))
    have n1_ := Aside0.mk (blk_kept (by (with_reducible repeat first | refine blk_drewN ?_ _ | refine blk_drew ?_ | refine blk_alloc ?_ _); exact BK232.out) hkp (fun hs_ => (fun e_ => (Kd.R_ne HO_242000.out BK232.out (by decide)) e_) hs_))
    have n2_ := Aside0.mk (blk_kept (by (with_reducible repeat first | refine blk_drewN ?_ _ | refine blk_drew ?_ | refine blk_alloc ?_ _); exact BK233.out) hkp (fun hs_ => (fun e_ => (Kd.R_ne HO_242000.out BK233.out (by decide)) e_) hs_))
    have n3_ := Aside0.mk (blk_kept (by (with_reducible repeat first | refine blk_drewN ?_ _ | refine blk_drew ?_ | refine blk_alloc ?_ _); exact BK241.out) hkp (fun hs_ => (fun e_ => (Kd.R_ne HO_242000.out BK241.out (by decide)) e_) hs_))
    have n4_ := Aside0.mk (Kd.R_mono (ok' := fun k_ => (w.heap.size ≤ k_)) ho0 (fun k_ hk_ => Or.elim hk_ (fun hs_ => (HO_242000.out.1 k_ (hs_).symm)) (fun hn_ => (Nat.le_trans (below_size (by repeat (first | (with_reducible first | exact HB.out | apply below_alloc | apply pw_below_drewN | apply below_drew1 | refine below_set ?_ GE232.out | refine below_set ?_ GE233.out | refine below_set ?_ GE241.out) | exact HB.out))) hn_))))
    have n5_ := Aside0.mk (Kd.V_mono (ok' := fun k_ => (w.heap.size ≤ k_) ∧ some k_ ≠ (v244 : Value).ownBlock ∧ k_ ≠ gb232 ∧ k_ ≠ gb233 ∧ k_ ≠ gb241) ho1 (fun k_ hk_ => ⟨Or.elim hk_.1 (fun hs_ => Or.elim hs_ (fun hs_ => (HO_242000.out.1 k_ (hs_).symm)) (fun hs_ => hs_.1)) (fun hn_ => (Nat.le_trans (below_size (by repeat (first | (with_reducible first | exact HB.out | apply below_alloc | apply pw_below_drewN | apply below_drew1 | refine below_set ?_ GE232.out | refine below_set ?_ GE233.out | refine below_set ?_ GE241.out) | exact HB.out))) hn_)), hk_.2, Or.elim hk_.1 (fun hs_ => Or.elim hs_ (fun hs_ => fun e_ => (Kd.R_ne HO_242000.out BK232.out (by decide)) (by rw [← e_]; exact hs_)) (fun hs_ => hs_.2.2.1)) (fun hn_ => (Kd.freshB (g := gb232) (o := .cells #[.int .i64 a0_0, .int .i64 a0_1, .int .i64 a0_2, .int .i64 a0_3, .int .i64 a0_4, .int .i64 a0_5, .int .i64 a0_6, .int .i64 a0_7, .bool a0_8, .int .i64 a0_9, .int .i64 a0_10, .int .i64 a0_11] 26 (0, 0)) (by (with_reducible repeat first | refine blk_drewN ?_ _ | refine blk_drew ?_ | refine blk_alloc ?_ _); exact BK232.out) k_ hn_)), Or.elim hk_.1 (fun hs_ => Or.elim hs_ (fun hs_ => fun e_ => (Kd.R_ne HO_242000.out BK233.out (by decide)) (by rw [← e_]; exact hs_)) (fun hs_ => hs_.2.2.2.1)) (fun hn_ => (Kd.freshB (g := gb233) (o := .cells #[.slice none 0 0, .slice none 0 0] 44 (0, 0)) (by (with_reducible repeat first | refine blk_drewN ?_ _ | refine blk_drew ?_ | refine blk_alloc ?_ _); exact BK233.out) k_ hn_)), Or.elim hk_.1 (fun hs_ => Or.elim hs_ (fun hs_ => fun e_ => (Kd.R_ne HO_242000.out BK241.out (by decide)) (by rw [← e_]; exact hs_)) (fun hs_ => hs_.2.2.2.2)) (fun hn_ => (Kd.freshB (g := gb241) (o := .cells #[.slice Ao23 x242000_1.length co23, .slice Ao24 x242001_1.length co24] 44 (0, 0)) (by (with_reducible repeat first | refine blk_drewN ?_ _ | refine blk_drew ?_ | refine blk_alloc ?_ _); exact BK241.out) k_ hn_))⟩))
    have n6_ := Aside0.mk (hb)
    clear HO_242001
    clear BK232
    clear BK233
    clear BK241
    clear HB
    clear HO_242000
    have HO_242001 := n0_
    have BK232 := n1_
    have BK233 := n2_
    have BK241 := n3_
    have HO245 := n4_
    have HO248 := n5_
    have HB := n6_
    clear n0_ n1_ n2_ n3_ n4_ n5_ n6_
    (try clear hb)
    (try clear hkp)
    (try clear ho0)
    (try clear ho1)
    obtain ⟨Ao26, co26, eo26⟩ := Kd.R_slice HO245.out
    (first | subst eo26 | (injection eo26 with f1_ f2_ f3_; have f4_ := f1_.symm; have f5_ := f3_.symm; clear f1_ f2_ f3_; subst f4_; subst f5_))
    obtain ⟨Ao28, co28, eo28⟩ := Kd.V_slice HO248.out
    (first | subst eo28 | (injection eo28 with f1_ f2_ f3_; have f4_ := f1_.symm; have f5_ := f3_.symm; clear f1_ f2_ f3_; subst f4_; subst f5_))
    refine hK.out _ _ ⟨(blk_cell BK241.out 0).trans rfl, (blk_cell BK241.out 1).trans rfl, (blk_cell BK232.out 0).trans rfl, (blk_cell BK232.out 1).trans rfl, (blk_cell BK232.out 2).trans rfl, (blk_cell BK232.out 3).trans rfl, (blk_cell BK232.out 4).trans rfl, (blk_cell BK232.out 5).trans rfl, (blk_cell BK232.out 6).trans rfl, (blk_cell BK232.out 7).trans rfl, (blk_cell BK232.out 8).trans rfl, (blk_cell BK232.out 9).trans rfl, (blk_cell BK232.out 10).trans rfl, (blk_cell BK232.out 11).trans rfl⟩ (fun hHeld => ?_)
    clear hK K
    refine norm_ (a' := ?_) ?_ ?_
    rotate_left
    ·show Act.put _ (some 23) _ = _
     simp only [Act.put, List.setIfInBounds_toArray, List.set_cons_zero, List.set_cons_succ, i64_w, i32_w]
     rfl
    refine pure_ (i := 7) (N := some 16) (v := ?_) (a' := ?_) #[true, true, true, true, true, true, true, true, false, false, false] rfl rfl (any_of HT_.out (by kernel_rfl)) (fun _ _ _ h => h) (Or.inl ⟨by rfl, ?_⟩) ?_ ?_
    rotate_left
    ·intro w'
     go_simp
     with_reducible rfl
    rotate_left
    ·simp only [Act.put, List.setIfInBounds_toArray, List.set_cons_zero, List.set_cons_succ, i64_w, i32_w]
     rfl
    refine pure_ (i := 8) (N := some 24) (v := ?_) (a' := ?_) #[true, true, true, true, true, true, true, true, true, false, false] rfl rfl (any_of HT_.out (by kernel_rfl)) (fun _ _ _ h => h) (Or.inl ⟨by rfl, ?_⟩) ?_ ?_
    rotate_left
    ·intro w'
     go_simp
     with_reducible rfl
    rotate_left
    ·simp only [Act.put, List.setIfInBounds_toArray, List.set_cons_zero, List.set_cons_succ, i64_w, i32_w]
     rfl
    refine pure_ (i := 9) (N := some 25) (v := ?_) (a' := ?_) #[true, true, true, true, true, true, true, true, true, true, false] rfl rfl (any_of HT_.out (by kernel_rfl)) (fun _ _ _ h => h) (Or.inl ⟨by rfl, ?_⟩) ?_ ?_
    rotate_left
    ·intro w'
     go_simp
     with_reducible rfl
    rotate_left
    ·simp only [Act.put, List.setIfInBounds_toArray, List.set_cons_zero, List.set_cons_succ, i64_w, i32_w]
     rfl
    refine last_ (i := 10) (N := none) #[true, true, true, true, true, true, true, true, true, true, true] rfl rfl (one_of HT_.out (by kernel_rfl)) (by decide) (fun K hK => ?_)
    have hs27 : w25.cell? ⟨gb241, 0, none⟩ = some (.slice Ao23 x242000_1.length co23) := (blk_cell BK241.out 0).trans rfl
    have hfs27 := blk_frozen BK241.out 0
    have hns27_0 := NB232_241.out
    have hns27_1 := NB233_241.out
    have hms27_0 := NB241_232.out
    have hms27_1 := NB241_233.out
    have hs29 : w25.cell? ⟨gb241, 1, none⟩ = some (.slice Ao24 x242001_1.length co24) := (blk_cell BK241.out 1).trans rfl
    have hfs29 := blk_frozen BK241.out 1
    have hns29_0 := NB232_241.out
    have hns29_1 := NB233_241.out
    have hms29_0 := NB241_232.out
    have hms29_1 := NB241_233.out
    refine skip_ (w1 := ?_) (by rfl) rfl ?_ ?_
    rotate_left
    ·go_simp
     rfl
    refine hK.out _ _ ?_
    clear hK K
    refine done_ (done_of HT_.out (by kernel_rfl)) ?_
    try go_wp2
    go_roundg k1
    case measure => have := HK1.out; omega
    case rel => exact ⟨(wrap64 (x4_1 + 1)), (t243), (t246), (.slice Ao26 t243.length co26), (.slice Ao28 t246.length co28), (by first | rfl | (simp; done) | (simp [*]; done)), H', ⟨by have := HK1.out; omega⟩, ⟨by (with_reducible repeat (first | apply Kd.R_alloc | apply Kd.R_drewN | apply Kd.R_drew)); exact Kd.R_mono (Kd.R_far (p := ⟨gb241, 1, none⟩) (Kd.R_far (p := ⟨gb241, 0, none⟩) (Kd.R_types HO245.out BK241.out (by decide)) (fun _ hk => hk.2) (.slice Ao26 t243.length co26)) (fun _ hk => hk.2) (.slice Ao28 t246.length co28)) (fun _ hk => hk.1)⟩, ⟨by (with_reducible repeat (first | apply Kd.V_alloc | apply Kd.V_drewN | apply Kd.V_drew)); exact Kd.V_mono (Kd.V_far (p := ⟨gb241, 1, none⟩) (Kd.V_far (p := ⟨gb241, 0, none⟩) (Kd.V_mono HO248.out (fun k_ hk => (⟨hk, hk.2.2.2.2⟩ : _ ∧ k_ ≠ gb241))) (fun _ hk => hk.2) (.slice Ao26 t243.length co26)) (fun _ hk => hk.2) (.slice Ao28 t246.length co28)) (fun _ hk => ⟨hk.1.1, ⟨hk.1.2.1, ⟨hk.1.2.2.1, ⟨hk.1.2.2.2.1, hk.1.2.2.2.2⟩⟩⟩⟩)⟩, ⟨by (iterate 2 ((with_reducible repeat first | refine blk_drewN ?_ _ | refine blk_drew ?_ | refine blk_alloc ?_ _); refine blk_far ?_ NB232_241.out _)); (with_reducible repeat first | refine blk_drewN ?_ _ | refine blk_drew ?_ | refine blk_alloc ?_ _); exact BK232.out⟩, ⟨by (iterate 2 ((with_reducible repeat first | refine blk_drewN ?_ _ | refine blk_drew ?_ | refine blk_alloc ?_ _); refine blk_far ?_ NB233_241.out _)); (with_reducible repeat first | refine blk_drewN ?_ _ | refine blk_drew ?_ | refine blk_alloc ?_ _); exact BK233.out⟩, ⟨by (with_reducible repeat first | refine blk_drewN ?_ _ | refine blk_drew ?_ | refine blk_alloc ?_ _); refine blk_put (cs := #[.slice Ao26 t243.length co26, .slice Ao24 x242001_1.length co24]) ?_ 1 _ rfl; (with_reducible repeat first | refine blk_drewN ?_ _ | refine blk_drew ?_ | refine blk_alloc ?_ _); refine blk_put (cs := #[.slice Ao23 x242000_1.length co23, .slice Ao24 x242001_1.length co24]) ?_ 0 _ rfl; (with_reducible repeat first | refine blk_drewN ?_ _ | refine blk_drew ?_ | refine blk_alloc ?_ _); exact BK241.out⟩, ⟨by repeat (first | (with_reducible first | exact HB.out | apply below_alloc | apply pw_below_drewN | apply below_drew1 | refine below_set ?_ GE232.out | refine below_set ?_ GE233.out | refine below_set ?_ GE241.out) | exact HB.out)⟩⟩
   ·rw [if_neg c15] at H
    have c15b0 : decide (x4_1 < a0_1) = false := decide_eq_false c15
    clear c15
    simp only [Option.some.injEq, Prod.mk.injEq] at H
    obtain ⟨rfl, rfl⟩ := H
    have hnb30 := NB232_233.out
    have hnc30 := NB233_232.out
    have hnb31 := NB232_241.out
    have hnc31 := NB241_232.out
    have hcz32_0 : wr.cell? ⟨gb232, 0, none⟩ = some (.int .i64 a0_0) := (blk_cell BK232.out 0).trans rfl
    have hcz32_1 : wr.cell? ⟨gb232, 1, none⟩ = some (.int .i64 a0_1) := (blk_cell BK232.out 1).trans rfl
    have hcz32_2 : wr.cell? ⟨gb232, 2, none⟩ = some (.int .i64 a0_2) := (blk_cell BK232.out 2).trans rfl
    have hcz32_3 : wr.cell? ⟨gb232, 3, none⟩ = some (.int .i64 a0_3) := (blk_cell BK232.out 3).trans rfl
    have hcz32_4 : wr.cell? ⟨gb232, 4, none⟩ = some (.int .i64 a0_4) := (blk_cell BK232.out 4).trans rfl
    have hcz32_5 : wr.cell? ⟨gb232, 5, none⟩ = some (.int .i64 a0_5) := (blk_cell BK232.out 5).trans rfl
    have hcz32_6 : wr.cell? ⟨gb232, 6, none⟩ = some (.int .i64 a0_6) := (blk_cell BK232.out 6).trans rfl
    have hcz32_7 : wr.cell? ⟨gb232, 7, none⟩ = some (.int .i64 a0_7) := (blk_cell BK232.out 7).trans rfl
    have hcz32_8 : wr.cell? ⟨gb232, 8, none⟩ = some (.bool a0_8) := (blk_cell BK232.out 8).trans rfl
    have hcz32_9 : wr.cell? ⟨gb232, 9, none⟩ = some (.int .i64 a0_9) := (blk_cell BK232.out 9).trans rfl
    have hcz32_10 : wr.cell? ⟨gb232, 10, none⟩ = some (.int .i64 a0_10) := (blk_cell BK232.out 10).trans rfl
    have hcz32_11 : wr.cell? ⟨gb232, 11, none⟩ = some (.int .i64 a0_11) := (blk_cell BK232.out 11).trans rfl
    have hfz32_0 := blk_frozen BK232.out 0
    have hfz32_1 := blk_frozen BK232.out 1
    have hfz32_2 := blk_frozen BK232.out 2
    have hfz32_3 := blk_frozen BK232.out 3
    have hfz32_4 := blk_frozen BK232.out 4
    have hfz32_5 := blk_frozen BK232.out 5
    have hfz32_6 := blk_frozen BK232.out 6
    have hfz32_7 := blk_frozen BK232.out 7
    have hfz32_8 := blk_frozen BK232.out 8
    have hfz32_9 := blk_frozen BK232.out 9
    have hfz32_10 := blk_frozen BK232.out 10
    have hfz32_11 := blk_frozen BK232.out 11
    have hnb33 := NB241_233.out
    have hnc33 := NB233_241.out
    have hcz34_0 : wr.cell? ⟨gb241, 0, none⟩ = some (u242000) := (blk_cell BK241.out 0).trans rfl
    have hcz34_1 : wr.cell? ⟨gb241, 1, none⟩ = some (u242001) := (blk_cell BK241.out 1).trans rfl
    have hfz34_0 := blk_frozen BK241.out 0
    have hfz34_1 := blk_frozen BK241.out 1
    obtain ⟨Ao35, co35, eo35⟩ := Kd.R_slice HO_242000.out
    subst eo35
    have hcz36_0 : wr.cell? ⟨gb233, 0, none⟩ = some (.slice none 0 0) := (blk_cell BK233.out 0).trans rfl
    have hcz36_1 : wr.cell? ⟨gb233, 1, none⟩ = some (.slice none 0 0) := (blk_cell BK233.out 1).trans rfl
    have hfz36_0 := blk_frozen BK233.out 0
    have hfz36_1 := blk_frozen BK233.out 1
    obtain ⟨Ao37, co37, eo37⟩ := Kd.V_slice HO_242001.out
    subst eo37
    go_wp2
    refine bodyPost_ret (results_cell_row rfl _ _ gb233 44 #[.slice Ao35 x242000_1.length co35, .slice Ao37 x242001_1.length co37] (0, 0) _ rfl (by (with_reducible repeat first | refine blk_drewN ?_ _ | refine blk_drew ?_ | refine blk_alloc ?_ _); refine blk_put (cs := #[.slice Ao35 x242000_1.length co35, .slice none 0 0]) ?_ 1 _ rfl; (with_reducible repeat first | refine blk_drewN ?_ _ | refine blk_drew ?_ | refine blk_alloc ?_ _); refine blk_put (cs := #[.slice none 0 0, .slice none 0 0]) ?_ 0 _ rfl; (with_reducible repeat first | refine blk_drewN ?_ _ | refine blk_drew ?_ | refine blk_alloc ?_ _); exact BK233.out) Try.underlying44 rfl (by kernel_rfl)) rfl ?_
    exact ⟨_, _, by first | rfl | (simp [errW_none, errW_some] <;> rfl) | (simp [*, errW_none, errW_some] <;> rfl), by (with_reducible repeat (first | apply Kd.R_alloc | apply Kd.R_drewN | apply Kd.R_drew)); exact Kd.R_mono (Kd.R_far (p := ⟨gb233, 1, none⟩) (Kd.R_far (p := ⟨gb233, 0, none⟩) (Kd.R_types HO_242000.out BK233.out (by decide)) (fun _ hk => hk.2) (.slice Ao35 x242000_1.length co35)) (fun _ hk => hk.2) (.slice Ao37 x242001_1.length co37)) (fun _ hk => hk.1), by (with_reducible repeat (first | apply Kd.V_alloc | apply Kd.V_drewN | apply Kd.V_drew)); exact Kd.V_mono (Kd.V_far (p := ⟨gb233, 1, none⟩) (Kd.V_far (p := ⟨gb233, 0, none⟩) (Kd.V_mono HO_242001.out (fun k_ hk => (⟨hk, hk.2.2.2.1⟩ : _ ∧ k_ ≠ gb233))) (fun _ hk => hk.2) (.slice Ao35 x242000_1.length co35)) (fun _ hk => hk.2) (.slice Ao37 x242001_1.length co37)) (fun _ hk => ⟨hk.1.1, hk.1.2.1⟩), by repeat (first | (with_reducible first | exact HB.out | apply below_alloc | apply pw_below_drewN | apply below_drew1 | refine below_set ?_ GE232.out | refine below_set ?_ GE233.out | refine below_set ?_ GE241.out) | exact HB.out)⟩

end Go.Proofs.Ytdfcioadccijfaa.PA
