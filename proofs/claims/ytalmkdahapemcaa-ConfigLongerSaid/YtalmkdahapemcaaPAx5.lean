-- Laid by a program of this session over the kit's print; hand-proved functions stand among them. Not trusted: Lean checks it.
import Derived.Test.YtalmkdahapemcaaPAx0
import Derived.Test.YtalmkdahapemcaaPAx1
namespace Go.Proofs.Ytalmkdahapemcaa.PA
open Go.RowKit Go.Proofs.YtalmkdahapemcaaW.PrintWords Go.Proofs.YtalmkdahapemcaaW.PrintLast Go.Proofs.YtalmkdahapemcaaW.PrintMore
attribute [local go_sem] max2_int min2_int max_two min_two max_three min_three max_four min_four   -- for this text's walks alone
set_option linter.unusedVariables false
set_option linter.unusedSimpArgs false

/-! ### millstreamlaw05_ConfigLonger: function 7 -/
def millstreamlaw05_ConfigLonger.j0 : Nat → Bool → Int → Int → Int → Int → Int → Int → Int → Int → Bool → Int → Int → Int → Int → Int → Int → Int → Int → Int → Int → Int → Bool → Int → Int → Int → Option (Bool)
 | 0, _, _, _, _, _, _, _, _, _, _, _, _, _, _, _, _, _, _, _, _, _, _, _, _, _ => none
 | k + 1, x28, x164000, x164001, x164002, x164003, x164004, x164005, x164006, x164007, x164008, x164009, x164010, x164011, x165000, x165001, x165002, x165003, x165004, x165005, x165006, x165007, x165008, x165009, x165010, x165011 => if x28 = true then ((millstreamlaw05_shown.f).bind fun t170 => (if t170 = true then ((config_Check.f x164000 x164001 x164002 x164003 x164004 x164005 x164006 x164007 x164008 x164009 x164010 x164011).bind fun t171 => ((millstreamref05_Check.f x164000 x164001 x164002 x164003 x164004 x164005 x164006 x164007 x164008 x164009 x164010 x164011).bind fun t172 => (some (t171 == t172)))) else (some false))) else ((config_Steps.f x164000 x164001 x164002 x164003 x164004 x164005 x164006 x164007 x164008 x164009 x164010 x164011).bind fun t173 => ((config_Steps.f x165000 x165001 x165002 x165003 x165004 x165005 x165006 x165007 x165008 x165009 x165010 x165011).bind fun t174 => (if t173 ≥ 20 then (if x164003 > x165003 then (some true) else (if x164004 > x165004 then (some true) else (if x164006 > x165006 then (some true) else (some (decide (t173 ≤ t174)))))) else (some false))))
def millstreamlaw05_ConfigLonger.f (k : Nat) (a0_0 : Int) (a0_1 : Int) (a0_2 : Int) (a0_3 : Int) (a0_4 : Int) (a0_5 : Int) (a0_6 : Int) (a0_7 : Int) (a0_8 : Bool) (a0_9 : Int) (a0_10 : Int) (a0_11 : Int) (a1_0 : Int) (a1_1 : Int) (a1_2 : Int) (a1_3 : Int) (a1_4 : Int) (a1_5 : Int) (a1_6 : Int) (a1_7 : Int) (a1_8 : Bool) (a1_9 : Int) (a1_10 : Int) (a1_11 : Int) : Option (Bool) := (config_Check.f a0_0 a0_1 a0_2 a0_3 a0_4 a0_5 a0_6 a0_7 a0_8 a0_9 a0_10 a0_11).bind fun t165 => (if t165 = 0 then ((config_Check.f a1_0 a1_1 a1_2 a1_3 a1_4 a1_5 a1_6 a1_7 a1_8 a1_9 a1_10 a1_11).bind fun t166 => (if t166 = 0 then ((millstreamref05_Check.f a0_0 a0_1 a0_2 a0_3 a0_4 a0_5 a0_6 a0_7 a0_8 a0_9 a0_10 a0_11).bind fun t167 => (if t167 = 0 then ((millstreamref05_Check.f a1_0 a1_1 a1_2 a1_3 a1_4 a1_5 a1_6 a1_7 a1_8 a1_9 a1_10 a1_11).bind fun t168 => (if t168 = 0 then ((millstreamlaw05_shown.f).bind fun t169 => (millstreamlaw05_ConfigLonger.j0 k (!t169) a0_0 a0_1 a0_2 a0_3 a0_4 a0_5 a0_6 a0_7 a0_8 a0_9 a0_10 a0_11 a1_0 a1_1 a1_2 a1_3 a1_4 a1_5 a1_6 a1_7 a1_8 a1_9 a1_10 a1_11)) else (millstreamlaw05_ConfigLonger.j0 k true a0_0 a0_1 a0_2 a0_3 a0_4 a0_5 a0_6 a0_7 a0_8 a0_9 a0_10 a0_11 a1_0 a1_1 a1_2 a1_3 a1_4 a1_5 a1_6 a1_7 a1_8 a1_9 a1_10 a1_11))) else (millstreamlaw05_ConfigLonger.j0 k true a0_0 a0_1 a0_2 a0_3 a0_4 a0_5 a0_6 a0_7 a0_8 a0_9 a0_10 a0_11 a1_0 a1_1 a1_2 a1_3 a1_4 a1_5 a1_6 a1_7 a1_8 a1_9 a1_10 a1_11))) else (millstreamlaw05_ConfigLonger.j0 k true a0_0 a0_1 a0_2 a0_3 a0_4 a0_5 a0_6 a0_7 a0_8 a0_9 a0_10 a0_11 a1_0 a1_1 a1_2 a1_3 a1_4 a1_5 a1_6 a1_7 a1_8 a1_9 a1_10 a1_11))) else (millstreamlaw05_ConfigLonger.j0 k true a0_0 a0_1 a0_2 a0_3 a0_4 a0_5 a0_6 a0_7 a0_8 a0_9 a0_10 a0_11 a1_0 a1_1 a1_2 a1_3 a1_4 a1_5 a1_6 a1_7 a1_8 a1_9 a1_10 a1_11))
theorem millstreamlaw05_ConfigLonger.mono_l : ∀ k, (∀ y0 y1 y2 y3 y4 y5 y6 y7 y8 y9 y10 y11 y12 y13 y14 y15 y16 y17 y18 y19 y20 y21 y22 y23 y24, LeO (millstreamlaw05_ConfigLonger.j0 k y0 y1 y2 y3 y4 y5 y6 y7 y8 y9 y10 y11 y12 y13 y14 y15 y16 y17 y18 y19 y20 y21 y22 y23 y24) (millstreamlaw05_ConfigLonger.j0 (k + 1) y0 y1 y2 y3 y4 y5 y6 y7 y8 y9 y10 y11 y12 y13 y14 y15 y16 y17 y18 y19 y20 y21 y22 y23 y24))
 | 0 => fun _ _ _ _ _ _ _ _ _ _ _ _ _ _ _ _ _ _ _ _ _ _ _ _ _ r h => by simp [millstreamlaw05_ConfigLonger.j0] at h
 | k + 1 => by
  have ih0 := millstreamlaw05_ConfigLonger.mono_l k
  ·intro y0 y1 y2 y3 y4 y5 y6 y7 y8 y9 y10 y11 y12 y13 y14 y15 y16 y17 y18 y19 y20 y21 y22 y23 y24
   unfold millstreamlaw05_ConfigLonger.j0
   repeat' first
   | (with_reducible exact ih0 _ _ _ _ _ _ _ _ _ _ _ _ _ _ _ _ _ _ _ _ _ _ _ _ _)
   | (with_reducible exact LeO.refl _)
   | (with_reducible exact LeO.none _)
   | (with_reducible refine LeO.ite ?_ ?_)
   | (with_reducible refine LeO.bind ?_ (fun _ => ?_))
   | exact ih0 _ _ _ _ _ _ _ _ _ _ _ _ _ _ _ _ _ _ _ _ _ _ _ _ _
   | exact LeO.none _
   | refine LeO.ite ?_ ?_
   | refine LeO.bind ?_ (fun _ => ?_)
theorem millstreamlaw05_ConfigLonger.mono : ∀ a0 a1 a2 a3 a4 a5 a6 a7 a8 a9 a10 a11 a12 a13 a14 a15 a16 a17 a18 a19 a20 a21 a22 a23 k, LeO (millstreamlaw05_ConfigLonger.f k a0 a1 a2 a3 a4 a5 a6 a7 a8 a9 a10 a11 a12 a13 a14 a15 a16 a17 a18 a19 a20 a21 a22 a23) (millstreamlaw05_ConfigLonger.f (k + 1) a0 a1 a2 a3 a4 a5 a6 a7 a8 a9 a10 a11 a12 a13 a14 a15 a16 a17 a18 a19 a20 a21 a22 a23) := by
 intro a0 a1 a2 a3 a4 a5 a6 a7 a8 a9 a10 a11 a12 a13 a14 a15 a16 a17 a18 a19 a20 a21 a22 a23 k
 have ih0 := millstreamlaw05_ConfigLonger.mono_l k
 unfold millstreamlaw05_ConfigLonger.f
 repeat' first
   | (with_reducible exact ih0 _ _ _ _ _ _ _ _ _ _ _ _ _ _ _ _ _ _ _ _ _ _ _ _ _)
   | (with_reducible exact LeO.refl _)
   | (with_reducible exact LeO.none _)
   | (with_reducible refine LeO.ite ?_ ?_)
   | (with_reducible refine LeO.bind ?_ (fun _ => ?_))
   | exact ih0 _ _ _ _ _ _ _ _ _ _ _ _ _ _ _ _ _ _ _ _ _ _ _ _ _
   | exact LeO.none _
   | refine LeO.ite ?_ ?_
   | refine LeO.bind ?_ (fun _ => ?_)
def millstreamlaw05_ConfigLonger.T2 : Bool × List (List Nat × List Nat) := (true, [([], []), ([0, 0], [0]), ([1], [1]), ([2, 1, 1], [1, 2]), ([1], [1]), ([4, 3, 1], [1, 4]), ([3, 5, 1], [1, 3, 5]), ([1, 6], [1, 6]), ([7, 5, 0, 1, 2, 3, 4, 5, 6, 7], [7])])
def millstreamlaw05_ConfigLonger.B2 : List Nat := [0, 1, 3, 7, 3, 31, 63, 127, 255]
theorem millstreamlaw05_ConfigLonger.tab2 : rtab .any (opsOf Try.f7 2) = millstreamlaw05_ConfigLonger.T2 := by kernel_rfl
theorem millstreamlaw05_ConfigLonger.bits2 : waitsOk millstreamlaw05_ConfigLonger.T2.2 millstreamlaw05_ConfigLonger.B2 = true := by kernel_rfl
set_option maxHeartbeats 8000000 in
set_option maxRecDepth 100000 in
theorem millstreamlaw05_ConfigLonger.calls (k : Nat) (a0_0 : Int) (a0_1 : Int) (a0_2 : Int) (a0_3 : Int) (a0_4 : Int) (a0_5 : Int) (a0_6 : Int) (a0_7 : Int) (a0_8 : Bool) (a0_9 : Int) (a0_10 : Int) (a0_11 : Int) (a1_0 : Int) (a1_1 : Int) (a1_2 : Int) (a1_3 : Int) (a1_4 : Int) (a1_5 : Int) (a1_6 : Int) (a1_7 : Int) (a1_8 : Bool) (a1_9 : Int) (a1_10 : Int) (a1_11 : Int) (r : Bool) (w : World) (h : millstreamlaw05_ConfigLonger.f k a0_0 a0_1 a0_2 a0_3 a0_4 a0_5 a0_6 a0_7 a0_8 a0_9 a0_10 a0_11 a1_0 a1_1 a1_2 a1_3 a1_4 a1_5 a1_6 a1_7 a1_8 a1_9 a1_10 a1_11 = some r) (hr_ : Aside0 (r = true)) :
  Calls Try.prog 7 #[.agg #[.int .i64 a0_0, .int .i64 a0_1, .int .i64 a0_2, .int .i64 a0_3, .int .i64 a0_4, .int .i64 a0_5, .int .i64 a0_6, .int .i64 a0_7, .bool a0_8, .int .i64 a0_9, .int .i64 a0_10, .int .i64 a0_11], .agg #[.int .i64 a1_0, .int .i64 a1_1, .int .i64 a1_2, .int .i64 a1_3, .int .i64 a1_4, .int .i64 a1_5, .int .i64 a1_6, .int .i64 a1_7, .bool a1_8, .int .i64 a1_9, .int .i64 a1_10, .int .i64 a1_11]] w fun e w' => e = .returned (.bool r) ∧ Below w.heap.size w w' := by
 have hu23 := Try.underlying23
 have HB := Aside0.mk (Below.refl w.heap.size w)
 have H : ((config_Check.f a0_0 a0_1 a0_2 a0_3 a0_4 a0_5 a0_6 a0_7 a0_8 a0_9 a0_10 a0_11).bind fun t165 => (if t165 = 0 then ((config_Check.f a1_0 a1_1 a1_2 a1_3 a1_4 a1_5 a1_6 a1_7 a1_8 a1_9 a1_10 a1_11).bind fun t166 => (if t166 = 0 then ((millstreamref05_Check.f a0_0 a0_1 a0_2 a0_3 a0_4 a0_5 a0_6 a0_7 a0_8 a0_9 a0_10 a0_11).bind fun t167 => (if t167 = 0 then ((millstreamref05_Check.f a1_0 a1_1 a1_2 a1_3 a1_4 a1_5 a1_6 a1_7 a1_8 a1_9 a1_10 a1_11).bind fun t168 => (if t168 = 0 then ((millstreamlaw05_shown.f).bind fun t169 => (millstreamlaw05_ConfigLonger.j0 k (!t169) a0_0 a0_1 a0_2 a0_3 a0_4 a0_5 a0_6 a0_7 a0_8 a0_9 a0_10 a0_11 a1_0 a1_1 a1_2 a1_3 a1_4 a1_5 a1_6 a1_7 a1_8 a1_9 a1_10 a1_11)) else (millstreamlaw05_ConfigLonger.j0 k true a0_0 a0_1 a0_2 a0_3 a0_4 a0_5 a0_6 a0_7 a0_8 a0_9 a0_10 a0_11 a1_0 a1_1 a1_2 a1_3 a1_4 a1_5 a1_6 a1_7 a1_8 a1_9 a1_10 a1_11))) else (millstreamlaw05_ConfigLonger.j0 k true a0_0 a0_1 a0_2 a0_3 a0_4 a0_5 a0_6 a0_7 a0_8 a0_9 a0_10 a0_11 a1_0 a1_1 a1_2 a1_3 a1_4 a1_5 a1_6 a1_7 a1_8 a1_9 a1_10 a1_11))) else (millstreamlaw05_ConfigLonger.j0 k true a0_0 a0_1 a0_2 a0_3 a0_4 a0_5 a0_6 a0_7 a0_8 a0_9 a0_10 a0_11 a1_0 a1_1 a1_2 a1_3 a1_4 a1_5 a1_6 a1_7 a1_8 a1_9 a1_10 a1_11))) else (millstreamlaw05_ConfigLonger.j0 k true a0_0 a0_1 a0_2 a0_3 a0_4 a0_5 a0_6 a0_7 a0_8 a0_9 a0_10 a0_11 a1_0 a1_1 a1_2 a1_3 a1_4 a1_5 a1_6 a1_7 a1_8 a1_9 a1_10 a1_11))) = some r := h
 clear h
 have HC3 := Aside0.mk H
 clear H
 go_enter Try.func7, Try.ntmps7
 go_upto_region 1 with (first | ((with_reducible refine gate_dst (N := 2) rfl ?_); refine box_event ?hg (N := 2) ?hd (cs := #[.int .i64 a0_0, .int .i64 a0_1, .int .i64 a0_2, .int .i64 a0_3, .int .i64 a0_4, .int .i64 a0_5, .int .i64 a0_6, .int .i64 a0_7, .bool a0_8, .int .i64 a0_9, .int .i64 a0_10, .int .i64 a0_11]) (t := 23) ?hr ?_; (case hd => rfl); (case hg => rfl); (case hr => first | (go_simp; done) | (go_simp; rfl)); intro gb163 hg w4 hbox hb; have n0_ := Aside0.mk (below_step (by repeat (first | (with_reducible first | exact HB.out | apply below_alloc | apply pw_below_drewN | apply below_drew1) | exact HB.out)) hb); have n1_ := Aside0.mk (hbox); have n2_ := Aside0.mk ((by rw [hg]; exact (below_size (by repeat (first | (with_reducible first | exact HB.out | apply below_alloc | apply pw_below_drewN | apply below_drew1) | exact HB.out))) : w.heap.size ≤ gb163)); have n3_ := Aside0.mk ((by rw [hg]; exact (below_size (by repeat (first | (with_reducible first | exact HB.out | apply below_alloc | apply pw_below_drewN | apply below_drew1) | exact HB.out))) : w.heap.size ≤ gb163)); clear HB; have HB := n0_; have BK163 := n1_; have GW163 := n2_; have GE163 := n3_; clear n0_ n1_ n2_ n3_; clear hb hbox hg) | ((with_reducible refine gate_dst (N := 3) rfl ?_); refine box_event ?hg (N := 3) ?hd (cs := #[.int .i64 a1_0, .int .i64 a1_1, .int .i64 a1_2, .int .i64 a1_3, .int .i64 a1_4, .int .i64 a1_5, .int .i64 a1_6, .int .i64 a1_7, .bool a1_8, .int .i64 a1_9, .int .i64 a1_10, .int .i64 a1_11]) (t := 23) ?hr ?_; (case hd => rfl); (case hg => rfl); (case hr => first | (go_simp; done) | (go_simp; rfl)); intro gb164 hg w5 hbox hb; have n0_ := Aside0.mk (blk_below (g := gb163) (o := .cells #[.int .i64 a0_0, .int .i64 a0_1, .int .i64 a0_2, .int .i64 a0_3, .int .i64 a0_4, .int .i64 a0_5, .int .i64 a0_6, .int .i64 a0_7, .bool a0_8, .int .i64 a0_9, .int .i64 a0_10, .int .i64 a0_11] 23 (0, 0)) (by (with_reducible repeat first | refine blk_drewN ?_ _ | refine blk_drew ?_ | refine blk_alloc ?_ _); exact BK163.out) hb); have n1_ := Aside0.mk (below_step (by repeat (first | (with_reducible first | exact HB.out | apply below_alloc | apply pw_below_drewN | apply below_drew1 | refine below_set ?_ GE163.out) | exact HB.out)) hb); have n2_ := Aside0.mk (hbox); have n3_ := Aside0.mk ((by rw [hg]; exact (below_size (by repeat (first | (with_reducible first | exact HB.out | apply below_alloc | apply pw_below_drewN | apply below_drew1 | refine below_set ?_ GE163.out) | exact HB.out))) : w.heap.size ≤ gb164)); have n4_ := Aside0.mk ((by rw [hg]; exact (below_size (by repeat (first | (with_reducible first | exact HB.out | apply below_alloc | apply pw_below_drewN | apply below_drew1 | refine below_set ?_ GE163.out) | exact HB.out))) : w.heap.size ≤ gb164)); have n5_ := Aside0.mk ((by rw [hg]; exact Nat.ne_of_lt (blk_lt (g := gb163) (o := .cells #[.int .i64 a0_0, .int .i64 a0_1, .int .i64 a0_2, .int .i64 a0_3, .int .i64 a0_4, .int .i64 a0_5, .int .i64 a0_6, .int .i64 a0_7, .bool a0_8, .int .i64 a0_9, .int .i64 a0_10, .int .i64 a0_11] 23 (0, 0)) (by (with_reducible repeat first | refine blk_drewN ?_ _ | refine blk_drew ?_ | refine blk_alloc ?_ _); exact BK163.out)) : gb163 ≠ gb164)); have n6_ := Aside0.mk ((by rw [hg]; exact Nat.ne_of_gt (blk_lt (g := gb163) (o := .cells #[.int .i64 a0_0, .int .i64 a0_1, .int .i64 a0_2, .int .i64 a0_3, .int .i64 a0_4, .int .i64 a0_5, .int .i64 a0_6, .int .i64 a0_7, .bool a0_8, .int .i64 a0_9, .int .i64 a0_10, .int .i64 a0_11] 23 (0, 0)) (by (with_reducible repeat first | refine blk_drewN ?_ _ | refine blk_drew ?_ | refine blk_alloc ?_ _); exact BK163.out)) : gb164 ≠ gb163)); clear BK163; clear HB; have BK163 := n0_; have HB := n1_; have BK164 := n2_; have GW164 := n3_; have GE164 := n4_; have NB163_164 := n5_; have NB164_163 := n6_; clear n0_ n1_ n2_ n3_ n4_ n5_ n6_; clear hb hbox hg))
 (try simp only [Act.put, List.setIfInBounds_toArray, List.set_cons_zero, List.set_cons_succ])
 go_cut [28] (fun v28 wc => ∃ (kq : Nat) (x28_2 : Bool), v28 = .bool x28_2 ∧ Aside0 (millstreamlaw05_ConfigLonger.j0 kq x28_2 a0_0 a0_1 a0_2 a0_3 a0_4 a0_5 a0_6 a0_7 a0_8 a0_9 a0_10 a0_11 a1_0 a1_1 a1_2 a1_3 a1_4 a1_5 a1_6 a1_7 a1_8 a1_9 a1_10 a1_11 = some r) ∧ Aside0 (kq ≤ k) ∧ Aside0 (wc.heap[gb163]? = some (.cells #[.int .i64 a0_0, .int .i64 a0_1, .int .i64 a0_2, .int .i64 a0_3, .int .i64 a0_4, .int .i64 a0_5, .int .i64 a0_6, .int .i64 a0_7, .bool a0_8, .int .i64 a0_9, .int .i64 a0_10, .int .i64 a0_11] 23 (0, 0))) ∧ Aside0 (wc.heap[gb164]? = some (.cells #[.int .i64 a1_0, .int .i64 a1_1, .int .i64 a1_2, .int .i64 a1_3, .int .i64 a1_4, .int .i64 a1_5, .int .i64 a1_6, .int .i64 a1_7, .bool a1_8, .int .i64 a1_9, .int .i64 a1_10, .int .i64 a1_11] 23 (0, 0))) ∧ Aside0 (Below w.heap.size w wc))
 case first =>
  have H := HC3.out
  clear HC3
  replace H := Option.bind_eq_some_iff.mp H
  obtain ⟨t165, A60, H⟩ := H
  replace H : (if t165 = 0 then ((config_Check.f a1_0 a1_1 a1_2 a1_3 a1_4 a1_5 a1_6 a1_7 a1_8 a1_9 a1_10 a1_11).bind fun t166 => (if t166 = 0 then ((millstreamref05_Check.f a0_0 a0_1 a0_2 a0_3 a0_4 a0_5 a0_6 a0_7 a0_8 a0_9 a0_10 a0_11).bind fun t167 => (if t167 = 0 then ((millstreamref05_Check.f a1_0 a1_1 a1_2 a1_3 a1_4 a1_5 a1_6 a1_7 a1_8 a1_9 a1_10 a1_11).bind fun t168 => (if t168 = 0 then ((millstreamlaw05_shown.f).bind fun t169 => (millstreamlaw05_ConfigLonger.j0 k (!t169) a0_0 a0_1 a0_2 a0_3 a0_4 a0_5 a0_6 a0_7 a0_8 a0_9 a0_10 a0_11 a1_0 a1_1 a1_2 a1_3 a1_4 a1_5 a1_6 a1_7 a1_8 a1_9 a1_10 a1_11)) else (millstreamlaw05_ConfigLonger.j0 k true a0_0 a0_1 a0_2 a0_3 a0_4 a0_5 a0_6 a0_7 a0_8 a0_9 a0_10 a0_11 a1_0 a1_1 a1_2 a1_3 a1_4 a1_5 a1_6 a1_7 a1_8 a1_9 a1_10 a1_11))) else (millstreamlaw05_ConfigLonger.j0 k true a0_0 a0_1 a0_2 a0_3 a0_4 a0_5 a0_6 a0_7 a0_8 a0_9 a0_10 a0_11 a1_0 a1_1 a1_2 a1_3 a1_4 a1_5 a1_6 a1_7 a1_8 a1_9 a1_10 a1_11))) else (millstreamlaw05_ConfigLonger.j0 k true a0_0 a0_1 a0_2 a0_3 a0_4 a0_5 a0_6 a0_7 a0_8 a0_9 a0_10 a0_11 a1_0 a1_1 a1_2 a1_3 a1_4 a1_5 a1_6 a1_7 a1_8 a1_9 a1_10 a1_11))) else (millstreamlaw05_ConfigLonger.j0 k true a0_0 a0_1 a0_2 a0_3 a0_4 a0_5 a0_6 a0_7 a0_8 a0_9 a0_10 a0_11 a1_0 a1_1 a1_2 a1_3 a1_4 a1_5 a1_6 a1_7 a1_8 a1_9 a1_10 a1_11)) = some r := H
  have A6 := Aside0.mk A60
  clear A60
  by_cases c7 : t165 = 0
  ·rw [if_pos c7] at H
   have c7b0 : (t165 == 0) = true := beq_iff_eq.mpr c7
   have c7b1 : (t165 != 0) = false := bne_eq_false_iff_eq.mpr c7
   clear c7
   (first | rw [c7b0] | (simp only [i64_w, i32_w]; rw [c7b0]) | skip)
   replace H := Option.bind_eq_some_iff.mp H
   obtain ⟨t166, A80, H⟩ := H
   replace H : (if t166 = 0 then ((millstreamref05_Check.f a0_0 a0_1 a0_2 a0_3 a0_4 a0_5 a0_6 a0_7 a0_8 a0_9 a0_10 a0_11).bind fun t167 => (if t167 = 0 then ((millstreamref05_Check.f a1_0 a1_1 a1_2 a1_3 a1_4 a1_5 a1_6 a1_7 a1_8 a1_9 a1_10 a1_11).bind fun t168 => (if t168 = 0 then ((millstreamlaw05_shown.f).bind fun t169 => (millstreamlaw05_ConfigLonger.j0 k (!t169) a0_0 a0_1 a0_2 a0_3 a0_4 a0_5 a0_6 a0_7 a0_8 a0_9 a0_10 a0_11 a1_0 a1_1 a1_2 a1_3 a1_4 a1_5 a1_6 a1_7 a1_8 a1_9 a1_10 a1_11)) else (millstreamlaw05_ConfigLonger.j0 k true a0_0 a0_1 a0_2 a0_3 a0_4 a0_5 a0_6 a0_7 a0_8 a0_9 a0_10 a0_11 a1_0 a1_1 a1_2 a1_3 a1_4 a1_5 a1_6 a1_7 a1_8 a1_9 a1_10 a1_11))) else (millstreamlaw05_ConfigLonger.j0 k true a0_0 a0_1 a0_2 a0_3 a0_4 a0_5 a0_6 a0_7 a0_8 a0_9 a0_10 a0_11 a1_0 a1_1 a1_2 a1_3 a1_4 a1_5 a1_6 a1_7 a1_8 a1_9 a1_10 a1_11))) else (millstreamlaw05_ConfigLonger.j0 k true a0_0 a0_1 a0_2 a0_3 a0_4 a0_5 a0_6 a0_7 a0_8 a0_9 a0_10 a0_11 a1_0 a1_1 a1_2 a1_3 a1_4 a1_5 a1_6 a1_7 a1_8 a1_9 a1_10 a1_11)) = some r := H
   have A8 := Aside0.mk A80
   clear A80
   by_cases c9 : t166 = 0
   ·rw [if_pos c9] at H
    have c9b0 : (t166 == 0) = true := beq_iff_eq.mpr c9
    have c9b1 : (t166 != 0) = false := bne_eq_false_iff_eq.mpr c9
    clear c9
    replace H := Option.bind_eq_some_iff.mp H
    obtain ⟨t167, A100, H⟩ := H
    replace H : (if t167 = 0 then ((millstreamref05_Check.f a1_0 a1_1 a1_2 a1_3 a1_4 a1_5 a1_6 a1_7 a1_8 a1_9 a1_10 a1_11).bind fun t168 => (if t168 = 0 then ((millstreamlaw05_shown.f).bind fun t169 => (millstreamlaw05_ConfigLonger.j0 k (!t169) a0_0 a0_1 a0_2 a0_3 a0_4 a0_5 a0_6 a0_7 a0_8 a0_9 a0_10 a0_11 a1_0 a1_1 a1_2 a1_3 a1_4 a1_5 a1_6 a1_7 a1_8 a1_9 a1_10 a1_11)) else (millstreamlaw05_ConfigLonger.j0 k true a0_0 a0_1 a0_2 a0_3 a0_4 a0_5 a0_6 a0_7 a0_8 a0_9 a0_10 a0_11 a1_0 a1_1 a1_2 a1_3 a1_4 a1_5 a1_6 a1_7 a1_8 a1_9 a1_10 a1_11))) else (millstreamlaw05_ConfigLonger.j0 k true a0_0 a0_1 a0_2 a0_3 a0_4 a0_5 a0_6 a0_7 a0_8 a0_9 a0_10 a0_11 a1_0 a1_1 a1_2 a1_3 a1_4 a1_5 a1_6 a1_7 a1_8 a1_9 a1_10 a1_11)) = some r := H
    have A10 := Aside0.mk A100
    clear A100
    by_cases c11 : t167 = 0
    ·rw [if_pos c11] at H
     have c11b0 : (t167 == 0) = true := beq_iff_eq.mpr c11
     have c11b1 : (t167 != 0) = false := bne_eq_false_iff_eq.mpr c11
     clear c11
     replace H := Option.bind_eq_some_iff.mp H
     obtain ⟨t168, A120, H⟩ := H
     replace H : (if t168 = 0 then ((millstreamlaw05_shown.f).bind fun t169 => (millstreamlaw05_ConfigLonger.j0 k (!t169) a0_0 a0_1 a0_2 a0_3 a0_4 a0_5 a0_6 a0_7 a0_8 a0_9 a0_10 a0_11 a1_0 a1_1 a1_2 a1_3 a1_4 a1_5 a1_6 a1_7 a1_8 a1_9 a1_10 a1_11)) else (millstreamlaw05_ConfigLonger.j0 k true a0_0 a0_1 a0_2 a0_3 a0_4 a0_5 a0_6 a0_7 a0_8 a0_9 a0_10 a0_11 a1_0 a1_1 a1_2 a1_3 a1_4 a1_5 a1_6 a1_7 a1_8 a1_9 a1_10 a1_11)) = some r := H
     have A12 := Aside0.mk A120
     clear A120
     by_cases c13 : t168 = 0
     ·rw [if_pos c13] at H
      have c13b0 : (t168 == 0) = true := beq_iff_eq.mpr c13
      have c13b1 : (t168 != 0) = false := bne_eq_false_iff_eq.mpr c13
      clear c13
      replace H := Option.bind_eq_some_iff.mp H
      obtain ⟨t169, A140, H⟩ := H
      replace H : (millstreamlaw05_ConfigLonger.j0 k (!t169) a0_0 a0_1 a0_2 a0_3 a0_4 a0_5 a0_6 a0_7 a0_8 a0_9 a0_10 a0_11 a1_0 a1_1 a1_2 a1_3 a1_4 a1_5 a1_6 a1_7 a1_8 a1_9 a1_10 a1_11) = some r := H
      have A14 := Aside0.mk A140
      clear A140
      have H' := Aside0.mk H
      clear H
      have hnb15 := NB163_164.out
      have hnc15 := NB164_163.out
      have hcz16_0 : w5.cell? ⟨gb163, 0, none⟩ = some (.int .i64 a0_0) := (blk_cell BK163.out 0).trans rfl
      have hcz16_1 : w5.cell? ⟨gb163, 1, none⟩ = some (.int .i64 a0_1) := (blk_cell BK163.out 1).trans rfl
      have hcz16_2 : w5.cell? ⟨gb163, 2, none⟩ = some (.int .i64 a0_2) := (blk_cell BK163.out 2).trans rfl
      have hcz16_3 : w5.cell? ⟨gb163, 3, none⟩ = some (.int .i64 a0_3) := (blk_cell BK163.out 3).trans rfl
      have hcz16_4 : w5.cell? ⟨gb163, 4, none⟩ = some (.int .i64 a0_4) := (blk_cell BK163.out 4).trans rfl
      have hcz16_5 : w5.cell? ⟨gb163, 5, none⟩ = some (.int .i64 a0_5) := (blk_cell BK163.out 5).trans rfl
      have hcz16_6 : w5.cell? ⟨gb163, 6, none⟩ = some (.int .i64 a0_6) := (blk_cell BK163.out 6).trans rfl
      have hcz16_7 : w5.cell? ⟨gb163, 7, none⟩ = some (.int .i64 a0_7) := (blk_cell BK163.out 7).trans rfl
      have hcz16_8 : w5.cell? ⟨gb163, 8, none⟩ = some (.bool a0_8) := (blk_cell BK163.out 8).trans rfl
      have hcz16_9 : w5.cell? ⟨gb163, 9, none⟩ = some (.int .i64 a0_9) := (blk_cell BK163.out 9).trans rfl
      have hcz16_10 : w5.cell? ⟨gb163, 10, none⟩ = some (.int .i64 a0_10) := (blk_cell BK163.out 10).trans rfl
      have hcz16_11 : w5.cell? ⟨gb163, 11, none⟩ = some (.int .i64 a0_11) := (blk_cell BK163.out 11).trans rfl
      have hfz16_0 := blk_frozen BK163.out 0
      have hfz16_1 := blk_frozen BK163.out 1
      have hfz16_2 := blk_frozen BK163.out 2
      have hfz16_3 := blk_frozen BK163.out 3
      have hfz16_4 := blk_frozen BK163.out 4
      have hfz16_5 := blk_frozen BK163.out 5
      have hfz16_6 := blk_frozen BK163.out 6
      have hfz16_7 := blk_frozen BK163.out 7
      have hfz16_8 := blk_frozen BK163.out 8
      have hfz16_9 := blk_frozen BK163.out 9
      have hfz16_10 := blk_frozen BK163.out 10
      have hfz16_11 := blk_frozen BK163.out 11
      go_wp2_with (first | ((with_reducible refine gate_callee (f := 8) rfl ?_); refine goesL_ (some 8) rfl rfl Try.func8 (by kernel_rfl) rfl #[.agg #[.int .i64 a0_0, .int .i64 a0_1, .int .i64 a0_2, .int .i64 a0_3, .int .i64 a0_4, .int .i64 a0_5, .int .i64 a0_6, .int .i64 a0_7, .bool a0_8, .int .i64 a0_9, .int .i64 a0_10, .int .i64 a0_11]] rfl (by (try simp only [List.map_toArray, List.map_cons, List.map_nil]); first | done | rfl | (simp only [List.length_drop, List.length_take]; rfl)) ?_; (with_reducible refine (config_Check.calls a0_0 a0_1 a0_2 a0_3 a0_4 a0_5 a0_6 a0_7 a0_8 a0_9 a0_10 a0_11 t165 _ A6.out).mono ?_); rintro e w17 ⟨rfl, hb⟩; refine ⟨_, rfl, ?_⟩; have n0_ := Aside0.mk (blk_below (g := gb163) (o := .cells #[.int .i64 a0_0, .int .i64 a0_1, .int .i64 a0_2, .int .i64 a0_3, .int .i64 a0_4, .int .i64 a0_5, .int .i64 a0_6, .int .i64 a0_7, .bool a0_8, .int .i64 a0_9, .int .i64 a0_10, .int .i64 a0_11] 23 (0, 0)) (by (with_reducible repeat first | refine blk_drewN ?_ _ | refine blk_drew ?_ | refine blk_alloc ?_ _); exact BK163.out) hb); have n1_ := Aside0.mk (blk_below (g := gb164) (o := .cells #[.int .i64 a1_0, .int .i64 a1_1, .int .i64 a1_2, .int .i64 a1_3, .int .i64 a1_4, .int .i64 a1_5, .int .i64 a1_6, .int .i64 a1_7, .bool a1_8, .int .i64 a1_9, .int .i64 a1_10, .int .i64 a1_11] 23 (0, 0)) (by (with_reducible repeat first | refine blk_drewN ?_ _ | refine blk_drew ?_ | refine blk_alloc ?_ _); exact BK164.out) hb); have n2_ := Aside0.mk (below_step (by repeat (first | (with_reducible first | exact HB.out | apply below_alloc | apply pw_below_drewN | apply below_drew1 | refine below_set ?_ GE163.out | refine below_set ?_ GE164.out) | exact HB.out)) hb); clear BK163; clear BK164; clear HB; have BK163 := n0_; have BK164 := n1_; have HB := n2_; clear n0_ n1_ n2_; (try clear hb); (try clear hb2); (try clear hk); (try clear hi); have hcz18_0 : w17.cell? ⟨gb164, 0, none⟩ = some (.int .i64 a1_0) := (blk_cell BK164.out 0).trans rfl; have hcz18_1 : w17.cell? ⟨gb164, 1, none⟩ = some (.int .i64 a1_1) := (blk_cell BK164.out 1).trans rfl; have hcz18_2 : w17.cell? ⟨gb164, 2, none⟩ = some (.int .i64 a1_2) := (blk_cell BK164.out 2).trans rfl; have hcz18_3 : w17.cell? ⟨gb164, 3, none⟩ = some (.int .i64 a1_3) := (blk_cell BK164.out 3).trans rfl; have hcz18_4 : w17.cell? ⟨gb164, 4, none⟩ = some (.int .i64 a1_4) := (blk_cell BK164.out 4).trans rfl; have hcz18_5 : w17.cell? ⟨gb164, 5, none⟩ = some (.int .i64 a1_5) := (blk_cell BK164.out 5).trans rfl; have hcz18_6 : w17.cell? ⟨gb164, 6, none⟩ = some (.int .i64 a1_6) := (blk_cell BK164.out 6).trans rfl; have hcz18_7 : w17.cell? ⟨gb164, 7, none⟩ = some (.int .i64 a1_7) := (blk_cell BK164.out 7).trans rfl; have hcz18_8 : w17.cell? ⟨gb164, 8, none⟩ = some (.bool a1_8) := (blk_cell BK164.out 8).trans rfl; have hcz18_9 : w17.cell? ⟨gb164, 9, none⟩ = some (.int .i64 a1_9) := (blk_cell BK164.out 9).trans rfl; have hcz18_10 : w17.cell? ⟨gb164, 10, none⟩ = some (.int .i64 a1_10) := (blk_cell BK164.out 10).trans rfl; have hcz18_11 : w17.cell? ⟨gb164, 11, none⟩ = some (.int .i64 a1_11) := (blk_cell BK164.out 11).trans rfl; have hfz18_0 := blk_frozen BK164.out 0; have hfz18_1 := blk_frozen BK164.out 1; have hfz18_2 := blk_frozen BK164.out 2; have hfz18_3 := blk_frozen BK164.out 3; have hfz18_4 := blk_frozen BK164.out 4; have hfz18_5 := blk_frozen BK164.out 5; have hfz18_6 := blk_frozen BK164.out 6; have hfz18_7 := blk_frozen BK164.out 7; have hfz18_8 := blk_frozen BK164.out 8; have hfz18_9 := blk_frozen BK164.out 9; have hfz18_10 := blk_frozen BK164.out 10; have hfz18_11 := blk_frozen BK164.out 11) | (go_at_call 8; (with_reducible refine (config_Check.calls a1_0 a1_1 a1_2 a1_3 a1_4 a1_5 a1_6 a1_7 a1_8 a1_9 a1_10 a1_11 t166 _ A8.out).mono ?_); rintro e w19 ⟨rfl, hb⟩; have n0_ := Aside0.mk (blk_below (g := gb163) (o := .cells #[.int .i64 a0_0, .int .i64 a0_1, .int .i64 a0_2, .int .i64 a0_3, .int .i64 a0_4, .int .i64 a0_5, .int .i64 a0_6, .int .i64 a0_7, .bool a0_8, .int .i64 a0_9, .int .i64 a0_10, .int .i64 a0_11] 23 (0, 0)) (by (with_reducible repeat first | refine blk_drewN ?_ _ | refine blk_drew ?_ | refine blk_alloc ?_ _); exact BK163.out) hb); have n1_ := Aside0.mk (blk_below (g := gb164) (o := .cells #[.int .i64 a1_0, .int .i64 a1_1, .int .i64 a1_2, .int .i64 a1_3, .int .i64 a1_4, .int .i64 a1_5, .int .i64 a1_6, .int .i64 a1_7, .bool a1_8, .int .i64 a1_9, .int .i64 a1_10, .int .i64 a1_11] 23 (0, 0)) (by (with_reducible repeat first | refine blk_drewN ?_ _ | refine blk_drew ?_ | refine blk_alloc ?_ _); exact BK164.out) hb); have n2_ := Aside0.mk (below_step (by repeat (first | (with_reducible first | exact HB.out | apply below_alloc | apply pw_below_drewN | apply below_drew1 | refine below_set ?_ GE163.out | refine below_set ?_ GE164.out) | exact HB.out)) hb); clear BK163; clear BK164; clear HB; have BK163 := n0_; have BK164 := n1_; have HB := n2_; clear n0_ n1_ n2_; (try clear hb); (try clear hb2); (try clear hk); (try clear hi); have hcz20_0 : w19.cell? ⟨gb163, 0, none⟩ = some (.int .i64 a0_0) := (blk_cell BK163.out 0).trans rfl; have hcz20_1 : w19.cell? ⟨gb163, 1, none⟩ = some (.int .i64 a0_1) := (blk_cell BK163.out 1).trans rfl; have hcz20_2 : w19.cell? ⟨gb163, 2, none⟩ = some (.int .i64 a0_2) := (blk_cell BK163.out 2).trans rfl; have hcz20_3 : w19.cell? ⟨gb163, 3, none⟩ = some (.int .i64 a0_3) := (blk_cell BK163.out 3).trans rfl; have hcz20_4 : w19.cell? ⟨gb163, 4, none⟩ = some (.int .i64 a0_4) := (blk_cell BK163.out 4).trans rfl; have hcz20_5 : w19.cell? ⟨gb163, 5, none⟩ = some (.int .i64 a0_5) := (blk_cell BK163.out 5).trans rfl; have hcz20_6 : w19.cell? ⟨gb163, 6, none⟩ = some (.int .i64 a0_6) := (blk_cell BK163.out 6).trans rfl; have hcz20_7 : w19.cell? ⟨gb163, 7, none⟩ = some (.int .i64 a0_7) := (blk_cell BK163.out 7).trans rfl; have hcz20_8 : w19.cell? ⟨gb163, 8, none⟩ = some (.bool a0_8) := (blk_cell BK163.out 8).trans rfl; have hcz20_9 : w19.cell? ⟨gb163, 9, none⟩ = some (.int .i64 a0_9) := (blk_cell BK163.out 9).trans rfl; have hcz20_10 : w19.cell? ⟨gb163, 10, none⟩ = some (.int .i64 a0_10) := (blk_cell BK163.out 10).trans rfl; have hcz20_11 : w19.cell? ⟨gb163, 11, none⟩ = some (.int .i64 a0_11) := (blk_cell BK163.out 11).trans rfl; have hfz20_0 := blk_frozen BK163.out 0; have hfz20_1 := blk_frozen BK163.out 1; have hfz20_2 := blk_frozen BK163.out 2; have hfz20_3 := blk_frozen BK163.out 3; have hfz20_4 := blk_frozen BK163.out 4; have hfz20_5 := blk_frozen BK163.out 5; have hfz20_6 := blk_frozen BK163.out 6; have hfz20_7 := blk_frozen BK163.out 7; have hfz20_8 := blk_frozen BK163.out 8; have hfz20_9 := blk_frozen BK163.out 9; have hfz20_10 := blk_frozen BK163.out 10; have hfz20_11 := blk_frozen BK163.out 11) | (go_at_call 9; (with_reducible refine (millstreamref05_Check.calls a0_0 a0_1 a0_2 a0_3 a0_4 a0_5 a0_6 a0_7 a0_8 a0_9 a0_10 a0_11 t167 _ A10.out).mono ?_); rintro e w21 ⟨rfl, hb⟩; have n0_ := Aside0.mk (blk_below (g := gb163) (o := .cells #[.int .i64 a0_0, .int .i64 a0_1, .int .i64 a0_2, .int .i64 a0_3, .int .i64 a0_4, .int .i64 a0_5, .int .i64 a0_6, .int .i64 a0_7, .bool a0_8, .int .i64 a0_9, .int .i64 a0_10, .int .i64 a0_11] 23 (0, 0)) (by (with_reducible repeat first | refine blk_drewN ?_ _ | refine blk_drew ?_ | refine blk_alloc ?_ _); exact BK163.out) hb); have n1_ := Aside0.mk (blk_below (g := gb164) (o := .cells #[.int .i64 a1_0, .int .i64 a1_1, .int .i64 a1_2, .int .i64 a1_3, .int .i64 a1_4, .int .i64 a1_5, .int .i64 a1_6, .int .i64 a1_7, .bool a1_8, .int .i64 a1_9, .int .i64 a1_10, .int .i64 a1_11] 23 (0, 0)) (by (with_reducible repeat first | refine blk_drewN ?_ _ | refine blk_drew ?_ | refine blk_alloc ?_ _); exact BK164.out) hb); have n2_ := Aside0.mk (below_step (by repeat (first | (with_reducible first | exact HB.out | apply below_alloc | apply pw_below_drewN | apply below_drew1 | refine below_set ?_ GE163.out | refine below_set ?_ GE164.out) | exact HB.out)) hb); clear BK163; clear BK164; clear HB; have BK163 := n0_; have BK164 := n1_; have HB := n2_; clear n0_ n1_ n2_; (try clear hb); (try clear hb2); (try clear hk); (try clear hi); have hcz22_0 : w21.cell? ⟨gb164, 0, none⟩ = some (.int .i64 a1_0) := (blk_cell BK164.out 0).trans rfl; have hcz22_1 : w21.cell? ⟨gb164, 1, none⟩ = some (.int .i64 a1_1) := (blk_cell BK164.out 1).trans rfl; have hcz22_2 : w21.cell? ⟨gb164, 2, none⟩ = some (.int .i64 a1_2) := (blk_cell BK164.out 2).trans rfl; have hcz22_3 : w21.cell? ⟨gb164, 3, none⟩ = some (.int .i64 a1_3) := (blk_cell BK164.out 3).trans rfl; have hcz22_4 : w21.cell? ⟨gb164, 4, none⟩ = some (.int .i64 a1_4) := (blk_cell BK164.out 4).trans rfl; have hcz22_5 : w21.cell? ⟨gb164, 5, none⟩ = some (.int .i64 a1_5) := (blk_cell BK164.out 5).trans rfl; have hcz22_6 : w21.cell? ⟨gb164, 6, none⟩ = some (.int .i64 a1_6) := (blk_cell BK164.out 6).trans rfl; have hcz22_7 : w21.cell? ⟨gb164, 7, none⟩ = some (.int .i64 a1_7) := (blk_cell BK164.out 7).trans rfl; have hcz22_8 : w21.cell? ⟨gb164, 8, none⟩ = some (.bool a1_8) := (blk_cell BK164.out 8).trans rfl; have hcz22_9 : w21.cell? ⟨gb164, 9, none⟩ = some (.int .i64 a1_9) := (blk_cell BK164.out 9).trans rfl; have hcz22_10 : w21.cell? ⟨gb164, 10, none⟩ = some (.int .i64 a1_10) := (blk_cell BK164.out 10).trans rfl; have hcz22_11 : w21.cell? ⟨gb164, 11, none⟩ = some (.int .i64 a1_11) := (blk_cell BK164.out 11).trans rfl; have hfz22_0 := blk_frozen BK164.out 0; have hfz22_1 := blk_frozen BK164.out 1; have hfz22_2 := blk_frozen BK164.out 2; have hfz22_3 := blk_frozen BK164.out 3; have hfz22_4 := blk_frozen BK164.out 4; have hfz22_5 := blk_frozen BK164.out 5; have hfz22_6 := blk_frozen BK164.out 6; have hfz22_7 := blk_frozen BK164.out 7; have hfz22_8 := blk_frozen BK164.out 8; have hfz22_9 := blk_frozen BK164.out 9; have hfz22_10 := blk_frozen BK164.out 10; have hfz22_11 := blk_frozen BK164.out 11) | (go_at_call 9; (with_reducible refine (millstreamref05_Check.calls a1_0 a1_1 a1_2 a1_3 a1_4 a1_5 a1_6 a1_7 a1_8 a1_9 a1_10 a1_11 t168 _ A12.out).mono ?_); rintro e w23 ⟨rfl, hb⟩; have n0_ := Aside0.mk (blk_below (g := gb163) (o := .cells #[.int .i64 a0_0, .int .i64 a0_1, .int .i64 a0_2, .int .i64 a0_3, .int .i64 a0_4, .int .i64 a0_5, .int .i64 a0_6, .int .i64 a0_7, .bool a0_8, .int .i64 a0_9, .int .i64 a0_10, .int .i64 a0_11] 23 (0, 0)) (by (with_reducible repeat first | refine blk_drewN ?_ _ | refine blk_drew ?_ | refine blk_alloc ?_ _); exact BK163.out) hb); have n1_ := Aside0.mk (blk_below (g := gb164) (o := .cells #[.int .i64 a1_0, .int .i64 a1_1, .int .i64 a1_2, .int .i64 a1_3, .int .i64 a1_4, .int .i64 a1_5, .int .i64 a1_6, .int .i64 a1_7, .bool a1_8, .int .i64 a1_9, .int .i64 a1_10, .int .i64 a1_11] 23 (0, 0)) (by (with_reducible repeat first | refine blk_drewN ?_ _ | refine blk_drew ?_ | refine blk_alloc ?_ _); exact BK164.out) hb); have n2_ := Aside0.mk (below_step (by repeat (first | (with_reducible first | exact HB.out | apply below_alloc | apply pw_below_drewN | apply below_drew1 | refine below_set ?_ GE163.out | refine below_set ?_ GE164.out) | exact HB.out)) hb); clear BK163; clear BK164; clear HB; have BK163 := n0_; have BK164 := n1_; have HB := n2_; clear n0_ n1_ n2_; (try clear hb); (try clear hb2); (try clear hk); (try clear hi)) | (go_at_call 12; (with_reducible refine (millstreamlaw05_shown.calls  t169 _ A14.out).mono ?_); rintro e w24 ⟨rfl, hb⟩; have n0_ := Aside0.mk (blk_below (g := gb163) (o := .cells #[.int .i64 a0_0, .int .i64 a0_1, .int .i64 a0_2, .int .i64 a0_3, .int .i64 a0_4, .int .i64 a0_5, .int .i64 a0_6, .int .i64 a0_7, .bool a0_8, .int .i64 a0_9, .int .i64 a0_10, .int .i64 a0_11] 23 (0, 0)) (by (with_reducible repeat first | refine blk_drewN ?_ _ | refine blk_drew ?_ | refine blk_alloc ?_ _); exact BK163.out) hb); have n1_ := Aside0.mk (blk_below (g := gb164) (o := .cells #[.int .i64 a1_0, .int .i64 a1_1, .int .i64 a1_2, .int .i64 a1_3, .int .i64 a1_4, .int .i64 a1_5, .int .i64 a1_6, .int .i64 a1_7, .bool a1_8, .int .i64 a1_9, .int .i64 a1_10, .int .i64 a1_11] 23 (0, 0)) (by (with_reducible repeat first | refine blk_drewN ?_ _ | refine blk_drew ?_ | refine blk_alloc ?_ _); exact BK164.out) hb); have n2_ := Aside0.mk (below_step (by repeat (first | (with_reducible first | exact HB.out | apply below_alloc | apply pw_below_drewN | apply below_drew1 | refine below_set ?_ GE163.out | refine below_set ?_ GE164.out) | exact HB.out)) hb); clear BK163; clear BK164; clear HB; have BK163 := n0_; have BK164 := n1_; have HB := n2_; clear n0_ n1_ n2_; (try clear hb); (try clear hb2); (try clear hk); (try clear hi)))
      go_meet
      case rel => exact ⟨_, (!t169), (by first | rfl | (simp; done) | (simp [*]; done)), H', ⟨by first | omega | exact Nat.le_refl _⟩, ⟨by (with_reducible repeat first | refine blk_drewN ?_ _ | refine blk_drew ?_ | refine blk_alloc ?_ _); exact BK163.out⟩, ⟨by (with_reducible repeat first | refine blk_drewN ?_ _ | refine blk_drew ?_ | refine blk_alloc ?_ _); exact BK164.out⟩, ⟨by repeat (first | (with_reducible first | exact HB.out | apply below_alloc | apply pw_below_drewN | apply below_drew1 | refine below_set ?_ GE163.out | refine below_set ?_ GE164.out) | exact HB.out)⟩⟩
     ·rw [if_neg c13] at H
      have c13b0 : (t168 == 0) = false := beq_eq_false_iff_ne.mpr c13
      have c13b1 : (t168 != 0) = true := bne_iff_ne.mpr c13
      have H' := Aside0.mk H
      clear H
      have hnb25 := NB163_164.out
      have hnc25 := NB164_163.out
      have hcz26_0 : w5.cell? ⟨gb163, 0, none⟩ = some (.int .i64 a0_0) := (blk_cell BK163.out 0).trans rfl
      have hcz26_1 : w5.cell? ⟨gb163, 1, none⟩ = some (.int .i64 a0_1) := (blk_cell BK163.out 1).trans rfl
      have hcz26_2 : w5.cell? ⟨gb163, 2, none⟩ = some (.int .i64 a0_2) := (blk_cell BK163.out 2).trans rfl
      have hcz26_3 : w5.cell? ⟨gb163, 3, none⟩ = some (.int .i64 a0_3) := (blk_cell BK163.out 3).trans rfl
      have hcz26_4 : w5.cell? ⟨gb163, 4, none⟩ = some (.int .i64 a0_4) := (blk_cell BK163.out 4).trans rfl
      have hcz26_5 : w5.cell? ⟨gb163, 5, none⟩ = some (.int .i64 a0_5) := (blk_cell BK163.out 5).trans rfl
      have hcz26_6 : w5.cell? ⟨gb163, 6, none⟩ = some (.int .i64 a0_6) := (blk_cell BK163.out 6).trans rfl
      have hcz26_7 : w5.cell? ⟨gb163, 7, none⟩ = some (.int .i64 a0_7) := (blk_cell BK163.out 7).trans rfl
      have hcz26_8 : w5.cell? ⟨gb163, 8, none⟩ = some (.bool a0_8) := (blk_cell BK163.out 8).trans rfl
      have hcz26_9 : w5.cell? ⟨gb163, 9, none⟩ = some (.int .i64 a0_9) := (blk_cell BK163.out 9).trans rfl
      have hcz26_10 : w5.cell? ⟨gb163, 10, none⟩ = some (.int .i64 a0_10) := (blk_cell BK163.out 10).trans rfl
      have hcz26_11 : w5.cell? ⟨gb163, 11, none⟩ = some (.int .i64 a0_11) := (blk_cell BK163.out 11).trans rfl
      have hfz26_0 := blk_frozen BK163.out 0
      have hfz26_1 := blk_frozen BK163.out 1
      have hfz26_2 := blk_frozen BK163.out 2
      have hfz26_3 := blk_frozen BK163.out 3
      have hfz26_4 := blk_frozen BK163.out 4
      have hfz26_5 := blk_frozen BK163.out 5
      have hfz26_6 := blk_frozen BK163.out 6
      have hfz26_7 := blk_frozen BK163.out 7
      have hfz26_8 := blk_frozen BK163.out 8
      have hfz26_9 := blk_frozen BK163.out 9
      have hfz26_10 := blk_frozen BK163.out 10
      have hfz26_11 := blk_frozen BK163.out 11
      go_wp2_with (first | ((with_reducible refine gate_callee (f := 8) rfl ?_); refine goesL_ (some 8) rfl rfl Try.func8 (by kernel_rfl) rfl #[.agg #[.int .i64 a0_0, .int .i64 a0_1, .int .i64 a0_2, .int .i64 a0_3, .int .i64 a0_4, .int .i64 a0_5, .int .i64 a0_6, .int .i64 a0_7, .bool a0_8, .int .i64 a0_9, .int .i64 a0_10, .int .i64 a0_11]] rfl (by (try simp only [List.map_toArray, List.map_cons, List.map_nil]); first | done | rfl | (simp only [List.length_drop, List.length_take]; rfl)) ?_; (with_reducible refine (config_Check.calls a0_0 a0_1 a0_2 a0_3 a0_4 a0_5 a0_6 a0_7 a0_8 a0_9 a0_10 a0_11 t165 _ A6.out).mono ?_); rintro e w27 ⟨rfl, hb⟩; refine ⟨_, rfl, ?_⟩; have n0_ := Aside0.mk (blk_below (g := gb163) (o := .cells #[.int .i64 a0_0, .int .i64 a0_1, .int .i64 a0_2, .int .i64 a0_3, .int .i64 a0_4, .int .i64 a0_5, .int .i64 a0_6, .int .i64 a0_7, .bool a0_8, .int .i64 a0_9, .int .i64 a0_10, .int .i64 a0_11] 23 (0, 0)) (by (with_reducible repeat first | refine blk_drewN ?_ _ | refine blk_drew ?_ | refine blk_alloc ?_ _); exact BK163.out) hb); have n1_ := Aside0.mk (blk_below (g := gb164) (o := .cells #[.int .i64 a1_0, .int .i64 a1_1, .int .i64 a1_2, .int .i64 a1_3, .int .i64 a1_4, .int .i64 a1_5, .int .i64 a1_6, .int .i64 a1_7, .bool a1_8, .int .i64 a1_9, .int .i64 a1_10, .int .i64 a1_11] 23 (0, 0)) (by (with_reducible repeat first | refine blk_drewN ?_ _ | refine blk_drew ?_ | refine blk_alloc ?_ _); exact BK164.out) hb); have n2_ := Aside0.mk (below_step (by repeat (first | (with_reducible first | exact HB.out | apply below_alloc | apply pw_below_drewN | apply below_drew1 | refine below_set ?_ GE163.out | refine below_set ?_ GE164.out) | exact HB.out)) hb); clear BK163; clear BK164; clear HB; have BK163 := n0_; have BK164 := n1_; have HB := n2_; clear n0_ n1_ n2_; (try clear hb); (try clear hb2); (try clear hk); (try clear hi); have hcz28_0 : w27.cell? ⟨gb164, 0, none⟩ = some (.int .i64 a1_0) := (blk_cell BK164.out 0).trans rfl; have hcz28_1 : w27.cell? ⟨gb164, 1, none⟩ = some (.int .i64 a1_1) := (blk_cell BK164.out 1).trans rfl; have hcz28_2 : w27.cell? ⟨gb164, 2, none⟩ = some (.int .i64 a1_2) := (blk_cell BK164.out 2).trans rfl; have hcz28_3 : w27.cell? ⟨gb164, 3, none⟩ = some (.int .i64 a1_3) := (blk_cell BK164.out 3).trans rfl; have hcz28_4 : w27.cell? ⟨gb164, 4, none⟩ = some (.int .i64 a1_4) := (blk_cell BK164.out 4).trans rfl; have hcz28_5 : w27.cell? ⟨gb164, 5, none⟩ = some (.int .i64 a1_5) := (blk_cell BK164.out 5).trans rfl; have hcz28_6 : w27.cell? ⟨gb164, 6, none⟩ = some (.int .i64 a1_6) := (blk_cell BK164.out 6).trans rfl; have hcz28_7 : w27.cell? ⟨gb164, 7, none⟩ = some (.int .i64 a1_7) := (blk_cell BK164.out 7).trans rfl; have hcz28_8 : w27.cell? ⟨gb164, 8, none⟩ = some (.bool a1_8) := (blk_cell BK164.out 8).trans rfl; have hcz28_9 : w27.cell? ⟨gb164, 9, none⟩ = some (.int .i64 a1_9) := (blk_cell BK164.out 9).trans rfl; have hcz28_10 : w27.cell? ⟨gb164, 10, none⟩ = some (.int .i64 a1_10) := (blk_cell BK164.out 10).trans rfl; have hcz28_11 : w27.cell? ⟨gb164, 11, none⟩ = some (.int .i64 a1_11) := (blk_cell BK164.out 11).trans rfl; have hfz28_0 := blk_frozen BK164.out 0; have hfz28_1 := blk_frozen BK164.out 1; have hfz28_2 := blk_frozen BK164.out 2; have hfz28_3 := blk_frozen BK164.out 3; have hfz28_4 := blk_frozen BK164.out 4; have hfz28_5 := blk_frozen BK164.out 5; have hfz28_6 := blk_frozen BK164.out 6; have hfz28_7 := blk_frozen BK164.out 7; have hfz28_8 := blk_frozen BK164.out 8; have hfz28_9 := blk_frozen BK164.out 9; have hfz28_10 := blk_frozen BK164.out 10; have hfz28_11 := blk_frozen BK164.out 11) | (go_at_call 8; (with_reducible refine (config_Check.calls a1_0 a1_1 a1_2 a1_3 a1_4 a1_5 a1_6 a1_7 a1_8 a1_9 a1_10 a1_11 t166 _ A8.out).mono ?_); rintro e w29 ⟨rfl, hb⟩; have n0_ := Aside0.mk (blk_below (g := gb163) (o := .cells #[.int .i64 a0_0, .int .i64 a0_1, .int .i64 a0_2, .int .i64 a0_3, .int .i64 a0_4, .int .i64 a0_5, .int .i64 a0_6, .int .i64 a0_7, .bool a0_8, .int .i64 a0_9, .int .i64 a0_10, .int .i64 a0_11] 23 (0, 0)) (by (with_reducible repeat first | refine blk_drewN ?_ _ | refine blk_drew ?_ | refine blk_alloc ?_ _); exact BK163.out) hb); have n1_ := Aside0.mk (blk_below (g := gb164) (o := .cells #[.int .i64 a1_0, .int .i64 a1_1, .int .i64 a1_2, .int .i64 a1_3, .int .i64 a1_4, .int .i64 a1_5, .int .i64 a1_6, .int .i64 a1_7, .bool a1_8, .int .i64 a1_9, .int .i64 a1_10, .int .i64 a1_11] 23 (0, 0)) (by (with_reducible repeat first | refine blk_drewN ?_ _ | refine blk_drew ?_ | refine blk_alloc ?_ _); exact BK164.out) hb); have n2_ := Aside0.mk (below_step (by repeat (first | (with_reducible first | exact HB.out | apply below_alloc | apply pw_below_drewN | apply below_drew1 | refine below_set ?_ GE163.out | refine below_set ?_ GE164.out) | exact HB.out)) hb); clear BK163; clear BK164; clear HB; have BK163 := n0_; have BK164 := n1_; have HB := n2_; clear n0_ n1_ n2_; (try clear hb); (try clear hb2); (try clear hk); (try clear hi); have hcz30_0 : w29.cell? ⟨gb163, 0, none⟩ = some (.int .i64 a0_0) := (blk_cell BK163.out 0).trans rfl; have hcz30_1 : w29.cell? ⟨gb163, 1, none⟩ = some (.int .i64 a0_1) := (blk_cell BK163.out 1).trans rfl; have hcz30_2 : w29.cell? ⟨gb163, 2, none⟩ = some (.int .i64 a0_2) := (blk_cell BK163.out 2).trans rfl; have hcz30_3 : w29.cell? ⟨gb163, 3, none⟩ = some (.int .i64 a0_3) := (blk_cell BK163.out 3).trans rfl; have hcz30_4 : w29.cell? ⟨gb163, 4, none⟩ = some (.int .i64 a0_4) := (blk_cell BK163.out 4).trans rfl; have hcz30_5 : w29.cell? ⟨gb163, 5, none⟩ = some (.int .i64 a0_5) := (blk_cell BK163.out 5).trans rfl; have hcz30_6 : w29.cell? ⟨gb163, 6, none⟩ = some (.int .i64 a0_6) := (blk_cell BK163.out 6).trans rfl; have hcz30_7 : w29.cell? ⟨gb163, 7, none⟩ = some (.int .i64 a0_7) := (blk_cell BK163.out 7).trans rfl; have hcz30_8 : w29.cell? ⟨gb163, 8, none⟩ = some (.bool a0_8) := (blk_cell BK163.out 8).trans rfl; have hcz30_9 : w29.cell? ⟨gb163, 9, none⟩ = some (.int .i64 a0_9) := (blk_cell BK163.out 9).trans rfl; have hcz30_10 : w29.cell? ⟨gb163, 10, none⟩ = some (.int .i64 a0_10) := (blk_cell BK163.out 10).trans rfl; have hcz30_11 : w29.cell? ⟨gb163, 11, none⟩ = some (.int .i64 a0_11) := (blk_cell BK163.out 11).trans rfl; have hfz30_0 := blk_frozen BK163.out 0; have hfz30_1 := blk_frozen BK163.out 1; have hfz30_2 := blk_frozen BK163.out 2; have hfz30_3 := blk_frozen BK163.out 3; have hfz30_4 := blk_frozen BK163.out 4; have hfz30_5 := blk_frozen BK163.out 5; have hfz30_6 := blk_frozen BK163.out 6; have hfz30_7 := blk_frozen BK163.out 7; have hfz30_8 := blk_frozen BK163.out 8; have hfz30_9 := blk_frozen BK163.out 9; have hfz30_10 := blk_frozen BK163.out 10; have hfz30_11 := blk_frozen BK163.out 11) | (go_at_call 9; (with_reducible refine (millstreamref05_Check.calls a0_0 a0_1 a0_2 a0_3 a0_4 a0_5 a0_6 a0_7 a0_8 a0_9 a0_10 a0_11 t167 _ A10.out).mono ?_); rintro e w31 ⟨rfl, hb⟩; have n0_ := Aside0.mk (blk_below (g := gb163) (o := .cells #[.int .i64 a0_0, .int .i64 a0_1, .int .i64 a0_2, .int .i64 a0_3, .int .i64 a0_4, .int .i64 a0_5, .int .i64 a0_6, .int .i64 a0_7, .bool a0_8, .int .i64 a0_9, .int .i64 a0_10, .int .i64 a0_11] 23 (0, 0)) (by (with_reducible repeat first | refine blk_drewN ?_ _ | refine blk_drew ?_ | refine blk_alloc ?_ _); exact BK163.out) hb); have n1_ := Aside0.mk (blk_below (g := gb164) (o := .cells #[.int .i64 a1_0, .int .i64 a1_1, .int .i64 a1_2, .int .i64 a1_3, .int .i64 a1_4, .int .i64 a1_5, .int .i64 a1_6, .int .i64 a1_7, .bool a1_8, .int .i64 a1_9, .int .i64 a1_10, .int .i64 a1_11] 23 (0, 0)) (by (with_reducible repeat first | refine blk_drewN ?_ _ | refine blk_drew ?_ | refine blk_alloc ?_ _); exact BK164.out) hb); have n2_ := Aside0.mk (below_step (by repeat (first | (with_reducible first | exact HB.out | apply below_alloc | apply pw_below_drewN | apply below_drew1 | refine below_set ?_ GE163.out | refine below_set ?_ GE164.out) | exact HB.out)) hb); clear BK163; clear BK164; clear HB; have BK163 := n0_; have BK164 := n1_; have HB := n2_; clear n0_ n1_ n2_; (try clear hb); (try clear hb2); (try clear hk); (try clear hi); have hcz32_0 : w31.cell? ⟨gb164, 0, none⟩ = some (.int .i64 a1_0) := (blk_cell BK164.out 0).trans rfl; have hcz32_1 : w31.cell? ⟨gb164, 1, none⟩ = some (.int .i64 a1_1) := (blk_cell BK164.out 1).trans rfl; have hcz32_2 : w31.cell? ⟨gb164, 2, none⟩ = some (.int .i64 a1_2) := (blk_cell BK164.out 2).trans rfl; have hcz32_3 : w31.cell? ⟨gb164, 3, none⟩ = some (.int .i64 a1_3) := (blk_cell BK164.out 3).trans rfl; have hcz32_4 : w31.cell? ⟨gb164, 4, none⟩ = some (.int .i64 a1_4) := (blk_cell BK164.out 4).trans rfl; have hcz32_5 : w31.cell? ⟨gb164, 5, none⟩ = some (.int .i64 a1_5) := (blk_cell BK164.out 5).trans rfl; have hcz32_6 : w31.cell? ⟨gb164, 6, none⟩ = some (.int .i64 a1_6) := (blk_cell BK164.out 6).trans rfl; have hcz32_7 : w31.cell? ⟨gb164, 7, none⟩ = some (.int .i64 a1_7) := (blk_cell BK164.out 7).trans rfl; have hcz32_8 : w31.cell? ⟨gb164, 8, none⟩ = some (.bool a1_8) := (blk_cell BK164.out 8).trans rfl; have hcz32_9 : w31.cell? ⟨gb164, 9, none⟩ = some (.int .i64 a1_9) := (blk_cell BK164.out 9).trans rfl; have hcz32_10 : w31.cell? ⟨gb164, 10, none⟩ = some (.int .i64 a1_10) := (blk_cell BK164.out 10).trans rfl; have hcz32_11 : w31.cell? ⟨gb164, 11, none⟩ = some (.int .i64 a1_11) := (blk_cell BK164.out 11).trans rfl; have hfz32_0 := blk_frozen BK164.out 0; have hfz32_1 := blk_frozen BK164.out 1; have hfz32_2 := blk_frozen BK164.out 2; have hfz32_3 := blk_frozen BK164.out 3; have hfz32_4 := blk_frozen BK164.out 4; have hfz32_5 := blk_frozen BK164.out 5; have hfz32_6 := blk_frozen BK164.out 6; have hfz32_7 := blk_frozen BK164.out 7; have hfz32_8 := blk_frozen BK164.out 8; have hfz32_9 := blk_frozen BK164.out 9; have hfz32_10 := blk_frozen BK164.out 10; have hfz32_11 := blk_frozen BK164.out 11) | (go_at_call 9; (with_reducible refine (millstreamref05_Check.calls a1_0 a1_1 a1_2 a1_3 a1_4 a1_5 a1_6 a1_7 a1_8 a1_9 a1_10 a1_11 t168 _ A12.out).mono ?_); rintro e w33 ⟨rfl, hb⟩; have n0_ := Aside0.mk (blk_below (g := gb163) (o := .cells #[.int .i64 a0_0, .int .i64 a0_1, .int .i64 a0_2, .int .i64 a0_3, .int .i64 a0_4, .int .i64 a0_5, .int .i64 a0_6, .int .i64 a0_7, .bool a0_8, .int .i64 a0_9, .int .i64 a0_10, .int .i64 a0_11] 23 (0, 0)) (by (with_reducible repeat first | refine blk_drewN ?_ _ | refine blk_drew ?_ | refine blk_alloc ?_ _); exact BK163.out) hb); have n1_ := Aside0.mk (blk_below (g := gb164) (o := .cells #[.int .i64 a1_0, .int .i64 a1_1, .int .i64 a1_2, .int .i64 a1_3, .int .i64 a1_4, .int .i64 a1_5, .int .i64 a1_6, .int .i64 a1_7, .bool a1_8, .int .i64 a1_9, .int .i64 a1_10, .int .i64 a1_11] 23 (0, 0)) (by (with_reducible repeat first | refine blk_drewN ?_ _ | refine blk_drew ?_ | refine blk_alloc ?_ _); exact BK164.out) hb); have n2_ := Aside0.mk (below_step (by repeat (first | (with_reducible first | exact HB.out | apply below_alloc | apply pw_below_drewN | apply below_drew1 | refine below_set ?_ GE163.out | refine below_set ?_ GE164.out) | exact HB.out)) hb); clear BK163; clear BK164; clear HB; have BK163 := n0_; have BK164 := n1_; have HB := n2_; clear n0_ n1_ n2_; (try clear hb); (try clear hb2); (try clear hk); (try clear hi)))
      go_meet
      case rel => exact ⟨_, (true), (by first | rfl | (simp; done) | (simp [*]; done)), H', ⟨by first | omega | exact Nat.le_refl _⟩, ⟨by (with_reducible repeat first | refine blk_drewN ?_ _ | refine blk_drew ?_ | refine blk_alloc ?_ _); exact BK163.out⟩, ⟨by (with_reducible repeat first | refine blk_drewN ?_ _ | refine blk_drew ?_ | refine blk_alloc ?_ _); exact BK164.out⟩, ⟨by repeat (first | (with_reducible first | exact HB.out | apply below_alloc | apply pw_below_drewN | apply below_drew1 | refine below_set ?_ GE163.out | refine below_set ?_ GE164.out) | exact HB.out)⟩⟩
    ·rw [if_neg c11] at H
     have c11b0 : (t167 == 0) = false := beq_eq_false_iff_ne.mpr c11
     have c11b1 : (t167 != 0) = true := bne_iff_ne.mpr c11
     have H' := Aside0.mk H
     clear H
     have hnb34 := NB163_164.out
     have hnc34 := NB164_163.out
     have hcz35_0 : w5.cell? ⟨gb163, 0, none⟩ = some (.int .i64 a0_0) := (blk_cell BK163.out 0).trans rfl
     have hcz35_1 : w5.cell? ⟨gb163, 1, none⟩ = some (.int .i64 a0_1) := (blk_cell BK163.out 1).trans rfl
     have hcz35_2 : w5.cell? ⟨gb163, 2, none⟩ = some (.int .i64 a0_2) := (blk_cell BK163.out 2).trans rfl
     have hcz35_3 : w5.cell? ⟨gb163, 3, none⟩ = some (.int .i64 a0_3) := (blk_cell BK163.out 3).trans rfl
     have hcz35_4 : w5.cell? ⟨gb163, 4, none⟩ = some (.int .i64 a0_4) := (blk_cell BK163.out 4).trans rfl
     have hcz35_5 : w5.cell? ⟨gb163, 5, none⟩ = some (.int .i64 a0_5) := (blk_cell BK163.out 5).trans rfl
     have hcz35_6 : w5.cell? ⟨gb163, 6, none⟩ = some (.int .i64 a0_6) := (blk_cell BK163.out 6).trans rfl
     have hcz35_7 : w5.cell? ⟨gb163, 7, none⟩ = some (.int .i64 a0_7) := (blk_cell BK163.out 7).trans rfl
     have hcz35_8 : w5.cell? ⟨gb163, 8, none⟩ = some (.bool a0_8) := (blk_cell BK163.out 8).trans rfl
     have hcz35_9 : w5.cell? ⟨gb163, 9, none⟩ = some (.int .i64 a0_9) := (blk_cell BK163.out 9).trans rfl
     have hcz35_10 : w5.cell? ⟨gb163, 10, none⟩ = some (.int .i64 a0_10) := (blk_cell BK163.out 10).trans rfl
     have hcz35_11 : w5.cell? ⟨gb163, 11, none⟩ = some (.int .i64 a0_11) := (blk_cell BK163.out 11).trans rfl
     have hfz35_0 := blk_frozen BK163.out 0
     have hfz35_1 := blk_frozen BK163.out 1
     have hfz35_2 := blk_frozen BK163.out 2
     have hfz35_3 := blk_frozen BK163.out 3
     have hfz35_4 := blk_frozen BK163.out 4
     have hfz35_5 := blk_frozen BK163.out 5
     have hfz35_6 := blk_frozen BK163.out 6
     have hfz35_7 := blk_frozen BK163.out 7
     have hfz35_8 := blk_frozen BK163.out 8
     have hfz35_9 := blk_frozen BK163.out 9
     have hfz35_10 := blk_frozen BK163.out 10
     have hfz35_11 := blk_frozen BK163.out 11
     go_wp2_with (first | ((with_reducible refine gate_callee (f := 8) rfl ?_); refine goesL_ (some 8) rfl rfl Try.func8 (by kernel_rfl) rfl #[.agg #[.int .i64 a0_0, .int .i64 a0_1, .int .i64 a0_2, .int .i64 a0_3, .int .i64 a0_4, .int .i64 a0_5, .int .i64 a0_6, .int .i64 a0_7, .bool a0_8, .int .i64 a0_9, .int .i64 a0_10, .int .i64 a0_11]] rfl (by (try simp only [List.map_toArray, List.map_cons, List.map_nil]); first | done | rfl | (simp only [List.length_drop, List.length_take]; rfl)) ?_; (with_reducible refine (config_Check.calls a0_0 a0_1 a0_2 a0_3 a0_4 a0_5 a0_6 a0_7 a0_8 a0_9 a0_10 a0_11 t165 _ A6.out).mono ?_); rintro e w36 ⟨rfl, hb⟩; refine ⟨_, rfl, ?_⟩; have n0_ := Aside0.mk (blk_below (g := gb163) (o := .cells #[.int .i64 a0_0, .int .i64 a0_1, .int .i64 a0_2, .int .i64 a0_3, .int .i64 a0_4, .int .i64 a0_5, .int .i64 a0_6, .int .i64 a0_7, .bool a0_8, .int .i64 a0_9, .int .i64 a0_10, .int .i64 a0_11] 23 (0, 0)) (by (with_reducible repeat first | refine blk_drewN ?_ _ | refine blk_drew ?_ | refine blk_alloc ?_ _); exact BK163.out) hb); have n1_ := Aside0.mk (blk_below (g := gb164) (o := .cells #[.int .i64 a1_0, .int .i64 a1_1, .int .i64 a1_2, .int .i64 a1_3, .int .i64 a1_4, .int .i64 a1_5, .int .i64 a1_6, .int .i64 a1_7, .bool a1_8, .int .i64 a1_9, .int .i64 a1_10, .int .i64 a1_11] 23 (0, 0)) (by (with_reducible repeat first | refine blk_drewN ?_ _ | refine blk_drew ?_ | refine blk_alloc ?_ _); exact BK164.out) hb); have n2_ := Aside0.mk (below_step (by repeat (first | (with_reducible first | exact HB.out | apply below_alloc | apply pw_below_drewN | apply below_drew1 | refine below_set ?_ GE163.out | refine below_set ?_ GE164.out) | exact HB.out)) hb); clear BK163; clear BK164; clear HB; have BK163 := n0_; have BK164 := n1_; have HB := n2_; clear n0_ n1_ n2_; (try clear hb); (try clear hb2); (try clear hk); (try clear hi); have hcz37_0 : w36.cell? ⟨gb164, 0, none⟩ = some (.int .i64 a1_0) := (blk_cell BK164.out 0).trans rfl; have hcz37_1 : w36.cell? ⟨gb164, 1, none⟩ = some (.int .i64 a1_1) := (blk_cell BK164.out 1).trans rfl; have hcz37_2 : w36.cell? ⟨gb164, 2, none⟩ = some (.int .i64 a1_2) := (blk_cell BK164.out 2).trans rfl; have hcz37_3 : w36.cell? ⟨gb164, 3, none⟩ = some (.int .i64 a1_3) := (blk_cell BK164.out 3).trans rfl; have hcz37_4 : w36.cell? ⟨gb164, 4, none⟩ = some (.int .i64 a1_4) := (blk_cell BK164.out 4).trans rfl; have hcz37_5 : w36.cell? ⟨gb164, 5, none⟩ = some (.int .i64 a1_5) := (blk_cell BK164.out 5).trans rfl; have hcz37_6 : w36.cell? ⟨gb164, 6, none⟩ = some (.int .i64 a1_6) := (blk_cell BK164.out 6).trans rfl; have hcz37_7 : w36.cell? ⟨gb164, 7, none⟩ = some (.int .i64 a1_7) := (blk_cell BK164.out 7).trans rfl; have hcz37_8 : w36.cell? ⟨gb164, 8, none⟩ = some (.bool a1_8) := (blk_cell BK164.out 8).trans rfl; have hcz37_9 : w36.cell? ⟨gb164, 9, none⟩ = some (.int .i64 a1_9) := (blk_cell BK164.out 9).trans rfl; have hcz37_10 : w36.cell? ⟨gb164, 10, none⟩ = some (.int .i64 a1_10) := (blk_cell BK164.out 10).trans rfl; have hcz37_11 : w36.cell? ⟨gb164, 11, none⟩ = some (.int .i64 a1_11) := (blk_cell BK164.out 11).trans rfl; have hfz37_0 := blk_frozen BK164.out 0; have hfz37_1 := blk_frozen BK164.out 1; have hfz37_2 := blk_frozen BK164.out 2; have hfz37_3 := blk_frozen BK164.out 3; have hfz37_4 := blk_frozen BK164.out 4; have hfz37_5 := blk_frozen BK164.out 5; have hfz37_6 := blk_frozen BK164.out 6; have hfz37_7 := blk_frozen BK164.out 7; have hfz37_8 := blk_frozen BK164.out 8; have hfz37_9 := blk_frozen BK164.out 9; have hfz37_10 := blk_frozen BK164.out 10; have hfz37_11 := blk_frozen BK164.out 11) | (go_at_call 8; (with_reducible refine (config_Check.calls a1_0 a1_1 a1_2 a1_3 a1_4 a1_5 a1_6 a1_7 a1_8 a1_9 a1_10 a1_11 t166 _ A8.out).mono ?_); rintro e w38 ⟨rfl, hb⟩; have n0_ := Aside0.mk (blk_below (g := gb163) (o := .cells #[.int .i64 a0_0, .int .i64 a0_1, .int .i64 a0_2, .int .i64 a0_3, .int .i64 a0_4, .int .i64 a0_5, .int .i64 a0_6, .int .i64 a0_7, .bool a0_8, .int .i64 a0_9, .int .i64 a0_10, .int .i64 a0_11] 23 (0, 0)) (by (with_reducible repeat first | refine blk_drewN ?_ _ | refine blk_drew ?_ | refine blk_alloc ?_ _); exact BK163.out) hb); have n1_ := Aside0.mk (blk_below (g := gb164) (o := .cells #[.int .i64 a1_0, .int .i64 a1_1, .int .i64 a1_2, .int .i64 a1_3, .int .i64 a1_4, .int .i64 a1_5, .int .i64 a1_6, .int .i64 a1_7, .bool a1_8, .int .i64 a1_9, .int .i64 a1_10, .int .i64 a1_11] 23 (0, 0)) (by (with_reducible repeat first | refine blk_drewN ?_ _ | refine blk_drew ?_ | refine blk_alloc ?_ _); exact BK164.out) hb); have n2_ := Aside0.mk (below_step (by repeat (first | (with_reducible first | exact HB.out | apply below_alloc | apply pw_below_drewN | apply below_drew1 | refine below_set ?_ GE163.out | refine below_set ?_ GE164.out) | exact HB.out)) hb); clear BK163; clear BK164; clear HB; have BK163 := n0_; have BK164 := n1_; have HB := n2_; clear n0_ n1_ n2_; (try clear hb); (try clear hb2); (try clear hk); (try clear hi); have hcz39_0 : w38.cell? ⟨gb163, 0, none⟩ = some (.int .i64 a0_0) := (blk_cell BK163.out 0).trans rfl; have hcz39_1 : w38.cell? ⟨gb163, 1, none⟩ = some (.int .i64 a0_1) := (blk_cell BK163.out 1).trans rfl; have hcz39_2 : w38.cell? ⟨gb163, 2, none⟩ = some (.int .i64 a0_2) := (blk_cell BK163.out 2).trans rfl; have hcz39_3 : w38.cell? ⟨gb163, 3, none⟩ = some (.int .i64 a0_3) := (blk_cell BK163.out 3).trans rfl; have hcz39_4 : w38.cell? ⟨gb163, 4, none⟩ = some (.int .i64 a0_4) := (blk_cell BK163.out 4).trans rfl; have hcz39_5 : w38.cell? ⟨gb163, 5, none⟩ = some (.int .i64 a0_5) := (blk_cell BK163.out 5).trans rfl; have hcz39_6 : w38.cell? ⟨gb163, 6, none⟩ = some (.int .i64 a0_6) := (blk_cell BK163.out 6).trans rfl; have hcz39_7 : w38.cell? ⟨gb163, 7, none⟩ = some (.int .i64 a0_7) := (blk_cell BK163.out 7).trans rfl; have hcz39_8 : w38.cell? ⟨gb163, 8, none⟩ = some (.bool a0_8) := (blk_cell BK163.out 8).trans rfl; have hcz39_9 : w38.cell? ⟨gb163, 9, none⟩ = some (.int .i64 a0_9) := (blk_cell BK163.out 9).trans rfl; have hcz39_10 : w38.cell? ⟨gb163, 10, none⟩ = some (.int .i64 a0_10) := (blk_cell BK163.out 10).trans rfl; have hcz39_11 : w38.cell? ⟨gb163, 11, none⟩ = some (.int .i64 a0_11) := (blk_cell BK163.out 11).trans rfl; have hfz39_0 := blk_frozen BK163.out 0; have hfz39_1 := blk_frozen BK163.out 1; have hfz39_2 := blk_frozen BK163.out 2; have hfz39_3 := blk_frozen BK163.out 3; have hfz39_4 := blk_frozen BK163.out 4; have hfz39_5 := blk_frozen BK163.out 5; have hfz39_6 := blk_frozen BK163.out 6; have hfz39_7 := blk_frozen BK163.out 7; have hfz39_8 := blk_frozen BK163.out 8; have hfz39_9 := blk_frozen BK163.out 9; have hfz39_10 := blk_frozen BK163.out 10; have hfz39_11 := blk_frozen BK163.out 11) | (go_at_call 9; (with_reducible refine (millstreamref05_Check.calls a0_0 a0_1 a0_2 a0_3 a0_4 a0_5 a0_6 a0_7 a0_8 a0_9 a0_10 a0_11 t167 _ A10.out).mono ?_); rintro e w40 ⟨rfl, hb⟩; have n0_ := Aside0.mk (blk_below (g := gb163) (o := .cells #[.int .i64 a0_0, .int .i64 a0_1, .int .i64 a0_2, .int .i64 a0_3, .int .i64 a0_4, .int .i64 a0_5, .int .i64 a0_6, .int .i64 a0_7, .bool a0_8, .int .i64 a0_9, .int .i64 a0_10, .int .i64 a0_11] 23 (0, 0)) (by (with_reducible repeat first | refine blk_drewN ?_ _ | refine blk_drew ?_ | refine blk_alloc ?_ _); exact BK163.out) hb); have n1_ := Aside0.mk (blk_below (g := gb164) (o := .cells #[.int .i64 a1_0, .int .i64 a1_1, .int .i64 a1_2, .int .i64 a1_3, .int .i64 a1_4, .int .i64 a1_5, .int .i64 a1_6, .int .i64 a1_7, .bool a1_8, .int .i64 a1_9, .int .i64 a1_10, .int .i64 a1_11] 23 (0, 0)) (by (with_reducible repeat first | refine blk_drewN ?_ _ | refine blk_drew ?_ | refine blk_alloc ?_ _); exact BK164.out) hb); have n2_ := Aside0.mk (below_step (by repeat (first | (with_reducible first | exact HB.out | apply below_alloc | apply pw_below_drewN | apply below_drew1 | refine below_set ?_ GE163.out | refine below_set ?_ GE164.out) | exact HB.out)) hb); clear BK163; clear BK164; clear HB; have BK163 := n0_; have BK164 := n1_; have HB := n2_; clear n0_ n1_ n2_; (try clear hb); (try clear hb2); (try clear hk); (try clear hi)))
     go_meet
     case rel => exact ⟨_, (true), (by first | rfl | (simp; done) | (simp [*]; done)), H', ⟨by first | omega | exact Nat.le_refl _⟩, ⟨by (with_reducible repeat first | refine blk_drewN ?_ _ | refine blk_drew ?_ | refine blk_alloc ?_ _); exact BK163.out⟩, ⟨by (with_reducible repeat first | refine blk_drewN ?_ _ | refine blk_drew ?_ | refine blk_alloc ?_ _); exact BK164.out⟩, ⟨by repeat (first | (with_reducible first | exact HB.out | apply below_alloc | apply pw_below_drewN | apply below_drew1 | refine below_set ?_ GE163.out | refine below_set ?_ GE164.out) | exact HB.out)⟩⟩
   ·rw [if_neg c9] at H
    have c9b0 : (t166 == 0) = false := beq_eq_false_iff_ne.mpr c9
    have c9b1 : (t166 != 0) = true := bne_iff_ne.mpr c9
    have H' := Aside0.mk H
    clear H
    have hnb41 := NB163_164.out
    have hnc41 := NB164_163.out
    have hcz42_0 : w5.cell? ⟨gb163, 0, none⟩ = some (.int .i64 a0_0) := (blk_cell BK163.out 0).trans rfl
    have hcz42_1 : w5.cell? ⟨gb163, 1, none⟩ = some (.int .i64 a0_1) := (blk_cell BK163.out 1).trans rfl
    have hcz42_2 : w5.cell? ⟨gb163, 2, none⟩ = some (.int .i64 a0_2) := (blk_cell BK163.out 2).trans rfl
    have hcz42_3 : w5.cell? ⟨gb163, 3, none⟩ = some (.int .i64 a0_3) := (blk_cell BK163.out 3).trans rfl
    have hcz42_4 : w5.cell? ⟨gb163, 4, none⟩ = some (.int .i64 a0_4) := (blk_cell BK163.out 4).trans rfl
    have hcz42_5 : w5.cell? ⟨gb163, 5, none⟩ = some (.int .i64 a0_5) := (blk_cell BK163.out 5).trans rfl
    have hcz42_6 : w5.cell? ⟨gb163, 6, none⟩ = some (.int .i64 a0_6) := (blk_cell BK163.out 6).trans rfl
    have hcz42_7 : w5.cell? ⟨gb163, 7, none⟩ = some (.int .i64 a0_7) := (blk_cell BK163.out 7).trans rfl
    have hcz42_8 : w5.cell? ⟨gb163, 8, none⟩ = some (.bool a0_8) := (blk_cell BK163.out 8).trans rfl
    have hcz42_9 : w5.cell? ⟨gb163, 9, none⟩ = some (.int .i64 a0_9) := (blk_cell BK163.out 9).trans rfl
    have hcz42_10 : w5.cell? ⟨gb163, 10, none⟩ = some (.int .i64 a0_10) := (blk_cell BK163.out 10).trans rfl
    have hcz42_11 : w5.cell? ⟨gb163, 11, none⟩ = some (.int .i64 a0_11) := (blk_cell BK163.out 11).trans rfl
    have hfz42_0 := blk_frozen BK163.out 0
    have hfz42_1 := blk_frozen BK163.out 1
    have hfz42_2 := blk_frozen BK163.out 2
    have hfz42_3 := blk_frozen BK163.out 3
    have hfz42_4 := blk_frozen BK163.out 4
    have hfz42_5 := blk_frozen BK163.out 5
    have hfz42_6 := blk_frozen BK163.out 6
    have hfz42_7 := blk_frozen BK163.out 7
    have hfz42_8 := blk_frozen BK163.out 8
    have hfz42_9 := blk_frozen BK163.out 9
    have hfz42_10 := blk_frozen BK163.out 10
    have hfz42_11 := blk_frozen BK163.out 11
    go_wp2_with (first | ((with_reducible refine gate_callee (f := 8) rfl ?_); refine goesL_ (some 8) rfl rfl Try.func8 (by kernel_rfl) rfl #[.agg #[.int .i64 a0_0, .int .i64 a0_1, .int .i64 a0_2, .int .i64 a0_3, .int .i64 a0_4, .int .i64 a0_5, .int .i64 a0_6, .int .i64 a0_7, .bool a0_8, .int .i64 a0_9, .int .i64 a0_10, .int .i64 a0_11]] rfl (by (try simp only [List.map_toArray, List.map_cons, List.map_nil]); first | done | rfl | (simp only [List.length_drop, List.length_take]; rfl)) ?_; (with_reducible refine (config_Check.calls a0_0 a0_1 a0_2 a0_3 a0_4 a0_5 a0_6 a0_7 a0_8 a0_9 a0_10 a0_11 t165 _ A6.out).mono ?_); rintro e w43 ⟨rfl, hb⟩; refine ⟨_, rfl, ?_⟩; have n0_ := Aside0.mk (blk_below (g := gb163) (o := .cells #[.int .i64 a0_0, .int .i64 a0_1, .int .i64 a0_2, .int .i64 a0_3, .int .i64 a0_4, .int .i64 a0_5, .int .i64 a0_6, .int .i64 a0_7, .bool a0_8, .int .i64 a0_9, .int .i64 a0_10, .int .i64 a0_11] 23 (0, 0)) (by (with_reducible repeat first | refine blk_drewN ?_ _ | refine blk_drew ?_ | refine blk_alloc ?_ _); exact BK163.out) hb); have n1_ := Aside0.mk (blk_below (g := gb164) (o := .cells #[.int .i64 a1_0, .int .i64 a1_1, .int .i64 a1_2, .int .i64 a1_3, .int .i64 a1_4, .int .i64 a1_5, .int .i64 a1_6, .int .i64 a1_7, .bool a1_8, .int .i64 a1_9, .int .i64 a1_10, .int .i64 a1_11] 23 (0, 0)) (by (with_reducible repeat first | refine blk_drewN ?_ _ | refine blk_drew ?_ | refine blk_alloc ?_ _); exact BK164.out) hb); have n2_ := Aside0.mk (below_step (by repeat (first | (with_reducible first | exact HB.out | apply below_alloc | apply pw_below_drewN | apply below_drew1 | refine below_set ?_ GE163.out | refine below_set ?_ GE164.out) | exact HB.out)) hb); clear BK163; clear BK164; clear HB; have BK163 := n0_; have BK164 := n1_; have HB := n2_; clear n0_ n1_ n2_; (try clear hb); (try clear hb2); (try clear hk); (try clear hi); have hcz44_0 : w43.cell? ⟨gb164, 0, none⟩ = some (.int .i64 a1_0) := (blk_cell BK164.out 0).trans rfl; have hcz44_1 : w43.cell? ⟨gb164, 1, none⟩ = some (.int .i64 a1_1) := (blk_cell BK164.out 1).trans rfl; have hcz44_2 : w43.cell? ⟨gb164, 2, none⟩ = some (.int .i64 a1_2) := (blk_cell BK164.out 2).trans rfl; have hcz44_3 : w43.cell? ⟨gb164, 3, none⟩ = some (.int .i64 a1_3) := (blk_cell BK164.out 3).trans rfl; have hcz44_4 : w43.cell? ⟨gb164, 4, none⟩ = some (.int .i64 a1_4) := (blk_cell BK164.out 4).trans rfl; have hcz44_5 : w43.cell? ⟨gb164, 5, none⟩ = some (.int .i64 a1_5) := (blk_cell BK164.out 5).trans rfl; have hcz44_6 : w43.cell? ⟨gb164, 6, none⟩ = some (.int .i64 a1_6) := (blk_cell BK164.out 6).trans rfl; have hcz44_7 : w43.cell? ⟨gb164, 7, none⟩ = some (.int .i64 a1_7) := (blk_cell BK164.out 7).trans rfl; have hcz44_8 : w43.cell? ⟨gb164, 8, none⟩ = some (.bool a1_8) := (blk_cell BK164.out 8).trans rfl; have hcz44_9 : w43.cell? ⟨gb164, 9, none⟩ = some (.int .i64 a1_9) := (blk_cell BK164.out 9).trans rfl; have hcz44_10 : w43.cell? ⟨gb164, 10, none⟩ = some (.int .i64 a1_10) := (blk_cell BK164.out 10).trans rfl; have hcz44_11 : w43.cell? ⟨gb164, 11, none⟩ = some (.int .i64 a1_11) := (blk_cell BK164.out 11).trans rfl; have hfz44_0 := blk_frozen BK164.out 0; have hfz44_1 := blk_frozen BK164.out 1; have hfz44_2 := blk_frozen BK164.out 2; have hfz44_3 := blk_frozen BK164.out 3; have hfz44_4 := blk_frozen BK164.out 4; have hfz44_5 := blk_frozen BK164.out 5; have hfz44_6 := blk_frozen BK164.out 6; have hfz44_7 := blk_frozen BK164.out 7; have hfz44_8 := blk_frozen BK164.out 8; have hfz44_9 := blk_frozen BK164.out 9; have hfz44_10 := blk_frozen BK164.out 10; have hfz44_11 := blk_frozen BK164.out 11) | (go_at_call 8; (with_reducible refine (config_Check.calls a1_0 a1_1 a1_2 a1_3 a1_4 a1_5 a1_6 a1_7 a1_8 a1_9 a1_10 a1_11 t166 _ A8.out).mono ?_); rintro e w45 ⟨rfl, hb⟩; have n0_ := Aside0.mk (blk_below (g := gb163) (o := .cells #[.int .i64 a0_0, .int .i64 a0_1, .int .i64 a0_2, .int .i64 a0_3, .int .i64 a0_4, .int .i64 a0_5, .int .i64 a0_6, .int .i64 a0_7, .bool a0_8, .int .i64 a0_9, .int .i64 a0_10, .int .i64 a0_11] 23 (0, 0)) (by (with_reducible repeat first | refine blk_drewN ?_ _ | refine blk_drew ?_ | refine blk_alloc ?_ _); exact BK163.out) hb); have n1_ := Aside0.mk (blk_below (g := gb164) (o := .cells #[.int .i64 a1_0, .int .i64 a1_1, .int .i64 a1_2, .int .i64 a1_3, .int .i64 a1_4, .int .i64 a1_5, .int .i64 a1_6, .int .i64 a1_7, .bool a1_8, .int .i64 a1_9, .int .i64 a1_10, .int .i64 a1_11] 23 (0, 0)) (by (with_reducible repeat first | refine blk_drewN ?_ _ | refine blk_drew ?_ | refine blk_alloc ?_ _); exact BK164.out) hb); have n2_ := Aside0.mk (below_step (by repeat (first | (with_reducible first | exact HB.out | apply below_alloc | apply pw_below_drewN | apply below_drew1 | refine below_set ?_ GE163.out | refine below_set ?_ GE164.out) | exact HB.out)) hb); clear BK163; clear BK164; clear HB; have BK163 := n0_; have BK164 := n1_; have HB := n2_; clear n0_ n1_ n2_; (try clear hb); (try clear hb2); (try clear hk); (try clear hi)))
    go_meet
    case rel => exact ⟨_, (true), (by first | rfl | (simp; done) | (simp [*]; done)), H', ⟨by first | omega | exact Nat.le_refl _⟩, ⟨by (with_reducible repeat first | refine blk_drewN ?_ _ | refine blk_drew ?_ | refine blk_alloc ?_ _); exact BK163.out⟩, ⟨by (with_reducible repeat first | refine blk_drewN ?_ _ | refine blk_drew ?_ | refine blk_alloc ?_ _); exact BK164.out⟩, ⟨by repeat (first | (with_reducible first | exact HB.out | apply below_alloc | apply pw_below_drewN | apply below_drew1 | refine below_set ?_ GE163.out | refine below_set ?_ GE164.out) | exact HB.out)⟩⟩
  ·rw [if_neg c7] at H
   have c7b0 : (t165 == 0) = false := beq_eq_false_iff_ne.mpr c7
   have c7b1 : (t165 != 0) = true := bne_iff_ne.mpr c7
   (first | rw [c7b0] | (simp only [i64_w, i32_w]; rw [c7b0]) | skip)
   have H' := Aside0.mk H
   clear H
   have hnb46 := NB163_164.out
   have hnc46 := NB164_163.out
   have hcz47_0 : w5.cell? ⟨gb163, 0, none⟩ = some (.int .i64 a0_0) := (blk_cell BK163.out 0).trans rfl
   have hcz47_1 : w5.cell? ⟨gb163, 1, none⟩ = some (.int .i64 a0_1) := (blk_cell BK163.out 1).trans rfl
   have hcz47_2 : w5.cell? ⟨gb163, 2, none⟩ = some (.int .i64 a0_2) := (blk_cell BK163.out 2).trans rfl
   have hcz47_3 : w5.cell? ⟨gb163, 3, none⟩ = some (.int .i64 a0_3) := (blk_cell BK163.out 3).trans rfl
   have hcz47_4 : w5.cell? ⟨gb163, 4, none⟩ = some (.int .i64 a0_4) := (blk_cell BK163.out 4).trans rfl
   have hcz47_5 : w5.cell? ⟨gb163, 5, none⟩ = some (.int .i64 a0_5) := (blk_cell BK163.out 5).trans rfl
   have hcz47_6 : w5.cell? ⟨gb163, 6, none⟩ = some (.int .i64 a0_6) := (blk_cell BK163.out 6).trans rfl
   have hcz47_7 : w5.cell? ⟨gb163, 7, none⟩ = some (.int .i64 a0_7) := (blk_cell BK163.out 7).trans rfl
   have hcz47_8 : w5.cell? ⟨gb163, 8, none⟩ = some (.bool a0_8) := (blk_cell BK163.out 8).trans rfl
   have hcz47_9 : w5.cell? ⟨gb163, 9, none⟩ = some (.int .i64 a0_9) := (blk_cell BK163.out 9).trans rfl
   have hcz47_10 : w5.cell? ⟨gb163, 10, none⟩ = some (.int .i64 a0_10) := (blk_cell BK163.out 10).trans rfl
   have hcz47_11 : w5.cell? ⟨gb163, 11, none⟩ = some (.int .i64 a0_11) := (blk_cell BK163.out 11).trans rfl
   have hfz47_0 := blk_frozen BK163.out 0
   have hfz47_1 := blk_frozen BK163.out 1
   have hfz47_2 := blk_frozen BK163.out 2
   have hfz47_3 := blk_frozen BK163.out 3
   have hfz47_4 := blk_frozen BK163.out 4
   have hfz47_5 := blk_frozen BK163.out 5
   have hfz47_6 := blk_frozen BK163.out 6
   have hfz47_7 := blk_frozen BK163.out 7
   have hfz47_8 := blk_frozen BK163.out 8
   have hfz47_9 := blk_frozen BK163.out 9
   have hfz47_10 := blk_frozen BK163.out 10
   have hfz47_11 := blk_frozen BK163.out 11
   go_wp2_with (first | ((with_reducible refine gate_callee (f := 8) rfl ?_); refine goesL_ (some 8) rfl rfl Try.func8 (by kernel_rfl) rfl #[.agg #[.int .i64 a0_0, .int .i64 a0_1, .int .i64 a0_2, .int .i64 a0_3, .int .i64 a0_4, .int .i64 a0_5, .int .i64 a0_6, .int .i64 a0_7, .bool a0_8, .int .i64 a0_9, .int .i64 a0_10, .int .i64 a0_11]] rfl (by (try simp only [List.map_toArray, List.map_cons, List.map_nil]); first | done | rfl | (simp only [List.length_drop, List.length_take]; rfl)) ?_; (with_reducible refine (config_Check.calls a0_0 a0_1 a0_2 a0_3 a0_4 a0_5 a0_6 a0_7 a0_8 a0_9 a0_10 a0_11 t165 _ A6.out).mono ?_); rintro e w48 ⟨rfl, hb⟩; refine ⟨_, rfl, ?_⟩; have n0_ := Aside0.mk (blk_below (g := gb163) (o := .cells #[.int .i64 a0_0, .int .i64 a0_1, .int .i64 a0_2, .int .i64 a0_3, .int .i64 a0_4, .int .i64 a0_5, .int .i64 a0_6, .int .i64 a0_7, .bool a0_8, .int .i64 a0_9, .int .i64 a0_10, .int .i64 a0_11] 23 (0, 0)) (by (with_reducible repeat first | refine blk_drewN ?_ _ | refine blk_drew ?_ | refine blk_alloc ?_ _); exact BK163.out) hb); have n1_ := Aside0.mk (blk_below (g := gb164) (o := .cells #[.int .i64 a1_0, .int .i64 a1_1, .int .i64 a1_2, .int .i64 a1_3, .int .i64 a1_4, .int .i64 a1_5, .int .i64 a1_6, .int .i64 a1_7, .bool a1_8, .int .i64 a1_9, .int .i64 a1_10, .int .i64 a1_11] 23 (0, 0)) (by (with_reducible repeat first | refine blk_drewN ?_ _ | refine blk_drew ?_ | refine blk_alloc ?_ _); exact BK164.out) hb); have n2_ := Aside0.mk (below_step (by repeat (first | (with_reducible first | exact HB.out | apply below_alloc | apply pw_below_drewN | apply below_drew1 | refine below_set ?_ GE163.out | refine below_set ?_ GE164.out) | exact HB.out)) hb); clear BK163; clear BK164; clear HB; have BK163 := n0_; have BK164 := n1_; have HB := n2_; clear n0_ n1_ n2_; (try clear hb); (try clear hb2); (try clear hk); (try clear hi)))
   go_meet
   case rel => exact ⟨_, (true), (by first | rfl | (simp; done) | (simp [*]; done)), H', ⟨by first | omega | exact Nat.le_refl _⟩, ⟨by (with_reducible repeat first | refine blk_drewN ?_ _ | refine blk_drew ?_ | refine blk_alloc ?_ _); exact BK163.out⟩, ⟨by (with_reducible repeat first | refine blk_drewN ?_ _ | refine blk_drew ?_ | refine blk_alloc ?_ _); exact BK164.out⟩, ⟨by repeat (first | (with_reducible first | exact HB.out | apply below_alloc | apply pw_below_drewN | apply below_drew1 | refine below_set ?_ GE163.out | refine below_set ?_ GE164.out) | exact HB.out)⟩⟩
 case rest =>
  clear HC3
  try clear c1
  try clear c2
  try clear p2
  try clear c3
  try clear c4
  try clear c7
  try clear c7b0
  try clear c7b1
  try clear c8
  try clear c9
  try clear c9b0
  try clear c9b1
  try clear c11
  try clear c11b0
  try clear c11b1
  try clear c13
  try clear c13b0
  try clear c13b1
  try clear c15
  try clear c25
  try clear c34
  try clear c41
  try clear c46
  try clear hcz16_0
  try clear hcz16_1
  try clear hcz16_10
  try clear hcz16_11
  try clear hcz16_2
  try clear hcz16_3
  try clear hcz16_4
  try clear hcz16_5
  try clear hcz16_6
  try clear hcz16_7
  try clear hcz16_8
  try clear hcz16_9
  try clear hcz18_0
  try clear hcz18_1
  try clear hcz18_10
  try clear hcz18_11
  try clear hcz18_2
  try clear hcz18_3
  try clear hcz18_4
  try clear hcz18_5
  try clear hcz18_6
  try clear hcz18_7
  try clear hcz18_8
  try clear hcz18_9
  try clear hcz20_0
  try clear hcz20_1
  try clear hcz20_10
  try clear hcz20_11
  try clear hcz20_2
  try clear hcz20_3
  try clear hcz20_4
  try clear hcz20_5
  try clear hcz20_6
  try clear hcz20_7
  try clear hcz20_8
  try clear hcz20_9
  try clear hcz22_0
  try clear hcz22_1
  try clear hcz22_10
  try clear hcz22_11
  try clear hcz22_2
  try clear hcz22_3
  try clear hcz22_4
  try clear hcz22_5
  try clear hcz22_6
  try clear hcz22_7
  try clear hcz22_8
  try clear hcz22_9
  try clear hcz26_0
  try clear hcz26_1
  try clear hcz26_10
  try clear hcz26_11
  try clear hcz26_2
  try clear hcz26_3
  try clear hcz26_4
  try clear hcz26_5
  try clear hcz26_6
  try clear hcz26_7
  try clear hcz26_8
  try clear hcz26_9
  try clear hcz28_0
  try clear hcz28_1
  try clear hcz28_10
  try clear hcz28_11
  try clear hcz28_2
  try clear hcz28_3
  try clear hcz28_4
  try clear hcz28_5
  try clear hcz28_6
  try clear hcz28_7
  try clear hcz28_8
  try clear hcz28_9
  try clear hcz30_0
  try clear hcz30_1
  try clear hcz30_10
  try clear hcz30_11
  try clear hcz30_2
  try clear hcz30_3
  try clear hcz30_4
  try clear hcz30_5
  try clear hcz30_6
  try clear hcz30_7
  try clear hcz30_8
  try clear hcz30_9
  try clear hcz32_0
  try clear hcz32_1
  try clear hcz32_10
  try clear hcz32_11
  try clear hcz32_2
  try clear hcz32_3
  try clear hcz32_4
  try clear hcz32_5
  try clear hcz32_6
  try clear hcz32_7
  try clear hcz32_8
  try clear hcz32_9
  try clear hcz35_0
  try clear hcz35_1
  try clear hcz35_10
  try clear hcz35_11
  try clear hcz35_2
  try clear hcz35_3
  try clear hcz35_4
  try clear hcz35_5
  try clear hcz35_6
  try clear hcz35_7
  try clear hcz35_8
  try clear hcz35_9
  try clear hcz37_0
  try clear hcz37_1
  try clear hcz37_10
  try clear hcz37_11
  try clear hcz37_2
  try clear hcz37_3
  try clear hcz37_4
  try clear hcz37_5
  try clear hcz37_6
  try clear hcz37_7
  try clear hcz37_8
  try clear hcz37_9
  try clear hcz39_0
  try clear hcz39_1
  try clear hcz39_10
  try clear hcz39_11
  try clear hcz39_2
  try clear hcz39_3
  try clear hcz39_4
  try clear hcz39_5
  try clear hcz39_6
  try clear hcz39_7
  try clear hcz39_8
  try clear hcz39_9
  try clear hcz42_0
  try clear hcz42_1
  try clear hcz42_10
  try clear hcz42_11
  try clear hcz42_2
  try clear hcz42_3
  try clear hcz42_4
  try clear hcz42_5
  try clear hcz42_6
  try clear hcz42_7
  try clear hcz42_8
  try clear hcz42_9
  try clear hcz44_0
  try clear hcz44_1
  try clear hcz44_10
  try clear hcz44_11
  try clear hcz44_2
  try clear hcz44_3
  try clear hcz44_4
  try clear hcz44_5
  try clear hcz44_6
  try clear hcz44_7
  try clear hcz44_8
  try clear hcz44_9
  try clear hcz47_0
  try clear hcz47_1
  try clear hcz47_10
  try clear hcz47_11
  try clear hcz47_2
  try clear hcz47_3
  try clear hcz47_4
  try clear hcz47_5
  try clear hcz47_6
  try clear hcz47_7
  try clear hcz47_8
  try clear hcz47_9
  try clear hfz16_0
  try clear hfz16_1
  try clear hfz16_10
  try clear hfz16_11
  try clear hfz16_2
  try clear hfz16_3
  try clear hfz16_4
  try clear hfz16_5
  try clear hfz16_6
  try clear hfz16_7
  try clear hfz16_8
  try clear hfz16_9
  try clear hfz18_0
  try clear hfz18_1
  try clear hfz18_10
  try clear hfz18_11
  try clear hfz18_2
  try clear hfz18_3
  try clear hfz18_4
  try clear hfz18_5
  try clear hfz18_6
  try clear hfz18_7
  try clear hfz18_8
  try clear hfz18_9
  try clear hfz20_0
  try clear hfz20_1
  try clear hfz20_10
  try clear hfz20_11
  try clear hfz20_2
  try clear hfz20_3
  try clear hfz20_4
  try clear hfz20_5
  try clear hfz20_6
  try clear hfz20_7
  try clear hfz20_8
  try clear hfz20_9
  try clear hfz22_0
  try clear hfz22_1
  try clear hfz22_10
  try clear hfz22_11
  try clear hfz22_2
  try clear hfz22_3
  try clear hfz22_4
  try clear hfz22_5
  try clear hfz22_6
  try clear hfz22_7
  try clear hfz22_8
  try clear hfz22_9
  try clear hfz26_0
  try clear hfz26_1
  try clear hfz26_10
  try clear hfz26_11
  try clear hfz26_2
  try clear hfz26_3
  try clear hfz26_4
  try clear hfz26_5
  try clear hfz26_6
  try clear hfz26_7
  try clear hfz26_8
  try clear hfz26_9
  try clear hfz28_0
  try clear hfz28_1
  try clear hfz28_10
  try clear hfz28_11
  try clear hfz28_2
  try clear hfz28_3
  try clear hfz28_4
  try clear hfz28_5
  try clear hfz28_6
  try clear hfz28_7
  try clear hfz28_8
  try clear hfz28_9
  try clear hfz30_0
  try clear hfz30_1
  try clear hfz30_10
  try clear hfz30_11
  try clear hfz30_2
  try clear hfz30_3
  try clear hfz30_4
  try clear hfz30_5
  try clear hfz30_6
  try clear hfz30_7
  try clear hfz30_8
  try clear hfz30_9
  try clear hfz32_0
  try clear hfz32_1
  try clear hfz32_10
  try clear hfz32_11
  try clear hfz32_2
  try clear hfz32_3
  try clear hfz32_4
  try clear hfz32_5
  try clear hfz32_6
  try clear hfz32_7
  try clear hfz32_8
  try clear hfz32_9
  try clear hfz35_0
  try clear hfz35_1
  try clear hfz35_10
  try clear hfz35_11
  try clear hfz35_2
  try clear hfz35_3
  try clear hfz35_4
  try clear hfz35_5
  try clear hfz35_6
  try clear hfz35_7
  try clear hfz35_8
  try clear hfz35_9
  try clear hfz37_0
  try clear hfz37_1
  try clear hfz37_10
  try clear hfz37_11
  try clear hfz37_2
  try clear hfz37_3
  try clear hfz37_4
  try clear hfz37_5
  try clear hfz37_6
  try clear hfz37_7
  try clear hfz37_8
  try clear hfz37_9
  try clear hfz39_0
  try clear hfz39_1
  try clear hfz39_10
  try clear hfz39_11
  try clear hfz39_2
  try clear hfz39_3
  try clear hfz39_4
  try clear hfz39_5
  try clear hfz39_6
  try clear hfz39_7
  try clear hfz39_8
  try clear hfz39_9
  try clear hfz42_0
  try clear hfz42_1
  try clear hfz42_10
  try clear hfz42_11
  try clear hfz42_2
  try clear hfz42_3
  try clear hfz42_4
  try clear hfz42_5
  try clear hfz42_6
  try clear hfz42_7
  try clear hfz42_8
  try clear hfz42_9
  try clear hfz44_0
  try clear hfz44_1
  try clear hfz44_10
  try clear hfz44_11
  try clear hfz44_2
  try clear hfz44_3
  try clear hfz44_4
  try clear hfz44_5
  try clear hfz44_6
  try clear hfz44_7
  try clear hfz44_8
  try clear hfz44_9
  try clear hfz47_0
  try clear hfz47_1
  try clear hfz47_10
  try clear hfz47_11
  try clear hfz47_2
  try clear hfz47_3
  try clear hfz47_4
  try clear hfz47_5
  try clear hfz47_6
  try clear hfz47_7
  try clear hfz47_8
  try clear hfz47_9
  obtain ⟨kq, x28_2, rfl, HA, HJ2, BK163, BK164, HB⟩ := hcut
  cases kq with
  | zero => exact absurd HA.out (by simp [millstreamlaw05_ConfigLonger.j0])
  | succ kj2 =>
   have H := HA.out
   clear HA
   simp only [millstreamlaw05_ConfigLonger.j0] at H
   by_cases c49 : x28_2 = true
   ·subst c49
    have H1 : ((millstreamlaw05_shown.f).bind fun t170 => (if t170 = true then ((config_Check.f a0_0 a0_1 a0_2 a0_3 a0_4 a0_5 a0_6 a0_7 a0_8 a0_9 a0_10 a0_11).bind fun t171 => ((millstreamref05_Check.f a0_0 a0_1 a0_2 a0_3 a0_4 a0_5 a0_6 a0_7 a0_8 a0_9 a0_10 a0_11).bind fun t172 => (some (t171 == t172)))) else (some false))) = some r := by rw [if_pos rfl] at H; exact H
    clear H
    have H := H1
    clear H1
    replace H := Option.bind_eq_some_iff.mp H
    obtain ⟨t170, A500, H⟩ := H
    replace H : (if t170 = true then ((config_Check.f a0_0 a0_1 a0_2 a0_3 a0_4 a0_5 a0_6 a0_7 a0_8 a0_9 a0_10 a0_11).bind fun t171 => ((millstreamref05_Check.f a0_0 a0_1 a0_2 a0_3 a0_4 a0_5 a0_6 a0_7 a0_8 a0_9 a0_10 a0_11).bind fun t172 => (some (t171 == t172)))) else (some false)) = some r := H
    have A50 := Aside0.mk A500
    clear A500
    by_cases c51 : t170 = true
    ·subst c51
     have H1 : ((config_Check.f a0_0 a0_1 a0_2 a0_3 a0_4 a0_5 a0_6 a0_7 a0_8 a0_9 a0_10 a0_11).bind fun t171 => ((millstreamref05_Check.f a0_0 a0_1 a0_2 a0_3 a0_4 a0_5 a0_6 a0_7 a0_8 a0_9 a0_10 a0_11).bind fun t172 => (some (t171 == t172)))) = some r := by rw [if_pos rfl] at H; exact H
     clear H
     have H := H1
     clear H1
     replace H := Option.bind_eq_some_iff.mp H
     obtain ⟨t171, A520, H⟩ := H
     replace H : ((millstreamref05_Check.f a0_0 a0_1 a0_2 a0_3 a0_4 a0_5 a0_6 a0_7 a0_8 a0_9 a0_10 a0_11).bind fun t172 => (some (t171 == t172))) = some r := H
     have A52 := Aside0.mk A520
     clear A520
     replace H := Option.bind_eq_some_iff.mp H
     obtain ⟨t172, A530, H⟩ := H
     replace H : (some (t171 == t172)) = some r := H
     have A53 := Aside0.mk A530
     clear A530
     clear hr_
     obtain rfl := Option.some.inj H
     try go_wp2
     have n0_ := Aside0.mk (blk_drew BK163.out)
     have n1_ := Aside0.mk (blk_drew BK164.out)
     have n2_ := Aside0.mk (below_drew1 HB.out)
     clear BK163
     clear BK164
     clear HB
     have BK163 := n0_
     have BK164 := n1_
     have HB := n2_
     clear n0_ n1_ n2_
     refine start_ (n := 9) (S := fun w' => w'.cell? ⟨gb163, 0, none⟩ = some (.int .i64 a0_0) ∧ w'.cell? ⟨gb163, 1, none⟩ = some (.int .i64 a0_1) ∧ w'.cell? ⟨gb163, 2, none⟩ = some (.int .i64 a0_2) ∧ w'.cell? ⟨gb163, 3, none⟩ = some (.int .i64 a0_3) ∧ w'.cell? ⟨gb163, 4, none⟩ = some (.int .i64 a0_4) ∧ w'.cell? ⟨gb163, 5, none⟩ = some (.int .i64 a0_5) ∧ w'.cell? ⟨gb163, 6, none⟩ = some (.int .i64 a0_6) ∧ w'.cell? ⟨gb163, 7, none⟩ = some (.int .i64 a0_7) ∧ w'.cell? ⟨gb163, 8, none⟩ = some (.bool a0_8) ∧ w'.cell? ⟨gb163, 9, none⟩ = some (.int .i64 a0_9) ∧ w'.cell? ⟨gb163, 10, none⟩ = some (.int .i64 a0_10) ∧ w'.cell? ⟨gb163, 11, none⟩ = some (.int .i64 a0_11)) (ds := []) #[false, false, false, false, false, false, false, false, false] (by kernel_rfl) rfl rfl ⟨(blk_cell BK163.out 0).trans rfl, (blk_cell BK163.out 1).trans rfl, (blk_cell BK163.out 2).trans rfl, (blk_cell BK163.out 3).trans rfl, (blk_cell BK163.out 4).trans rfl, (blk_cell BK163.out 5).trans rfl, (blk_cell BK163.out 6).trans rfl, (blk_cell BK163.out 7).trans rfl, (blk_cell BK163.out 8).trans rfl, (blk_cell BK163.out 9).trans rfl, (blk_cell BK163.out 10).trans rfl, (blk_cell BK163.out 11).trans rfl⟩ (fun hHeld => ?_); refine with_tabW millstreamlaw05_ConfigLonger.tab2 millstreamlaw05_ConfigLonger.bits2 (fun HT_ HW_ => ?_)
     generalize wc.drew = w54 at BK163 BK164 HB hHeld ⊢
     refine one_ (i := 0) (N := some 29) #[true, false, false, false, false, false, false, false, false] rfl rfl (one_of HT_.out (by kernel_rfl)) (by decide) (fun K hK => ?_)
     refine goes_ Try.func12 (by kernel_rfl) rfl #[] (by rfl) rfl rfl (by (try simp only [List.map_toArray, List.map_cons, List.map_nil]); first | done | rfl | (simp only [List.length_drop, List.length_take]; rfl)) ?_
     with_reducible refine (millstreamlaw05_shown.calls  true _ A50.out).mono ?_
     rintro e w55 ⟨rfl, hb⟩
     refine ⟨_, rfl, ?_⟩
     have n0_ := Aside0.mk (blk_below (g := gb163) (o := .cells #[.int .i64 a0_0, .int .i64 a0_1, .int .i64 a0_2, .int .i64 a0_3, .int .i64 a0_4, .int .i64 a0_5, .int .i64 a0_6, .int .i64 a0_7, .bool a0_8, .int .i64 a0_9, .int .i64 a0_10, .int .i64 a0_11] 23 (0, 0)) (by (with_reducible repeat first | refine blk_drewN ?_ _ | refine blk_drew ?_ | refine blk_alloc ?_ _); exact BK163.out) hb)
     have n1_ := Aside0.mk (blk_below (g := gb164) (o := .cells #[.int .i64 a1_0, .int .i64 a1_1, .int .i64 a1_2, .int .i64 a1_3, .int .i64 a1_4, .int .i64 a1_5, .int .i64 a1_6, .int .i64 a1_7, .bool a1_8, .int .i64 a1_9, .int .i64 a1_10, .int .i64 a1_11] 23 (0, 0)) (by (with_reducible repeat first | refine blk_drewN ?_ _ | refine blk_drew ?_ | refine blk_alloc ?_ _); exact BK164.out) hb)
     have n2_ := Aside0.mk (below_step (by repeat (first | (with_reducible first | exact HB.out | apply below_alloc | apply pw_below_drewN | apply below_drew1 | refine below_set ?_ GE163.out | refine below_set ?_ GE164.out) | exact HB.out)) hb)
     clear BK163
     clear BK164
     clear HB
     have BK163 := n0_
     have BK164 := n1_
     have HB := n2_
     clear n0_ n1_ n2_
     (try clear hb)
     (try clear hb2)
     (try clear hk)
     (try clear hi)
     refine hK.out _ _ ⟨(blk_cell BK163.out 0).trans rfl, (blk_cell BK163.out 1).trans rfl, (blk_cell BK163.out 2).trans rfl, (blk_cell BK163.out 3).trans rfl, (blk_cell BK163.out 4).trans rfl, (blk_cell BK163.out 5).trans rfl, (blk_cell BK163.out 6).trans rfl, (blk_cell BK163.out 7).trans rfl, (blk_cell BK163.out 8).trans rfl, (blk_cell BK163.out 9).trans rfl, (blk_cell BK163.out 10).trans rfl, (blk_cell BK163.out 11).trans rfl⟩ (fun hHeld => ?_)
     clear hK K
     refine norm_ (a' := ?_) ?_ ?_
     rotate_left
     ·show Act.put _ (some 29) _ = _
      simp only [Act.put, List.setIfInBounds_toArray, List.set_cons_zero, List.set_cons_succ, i64_w, i32_w]
      rfl
     refine pure_ (i := 1) (N := some 30) (v := ?_) (a' := ?_) #[true, true, false, false, false, false, false, false, false] rfl rfl (any_of HT_.out (by kernel_rfl)) (fun _ _ _ h => h) (Or.inl ⟨by rfl, ?_⟩) ?_ ?_
     rotate_left
     ·intro w'
      go_simp
      with_reducible rfl
     rotate_left
     ·simp only [Act.put, List.setIfInBounds_toArray, List.set_cons_zero, List.set_cons_succ, i64_w, i32_w]
      rfl
     refine take_ (i := 2) (N := some 31) (v := ?_) (a' := ?_) #[true, true, true, false, false, false, false, false, false] rfl rfl (take_ofW HT_.out HW_.out (by kernel_rfl)) (fun _ _ _ h => h) (Or.inl ⟨by rfl, ?_⟩) hHeld ?_ ?_
     rotate_left
     ·rintro w' ⟨s0, s1, s2, s3, s4, s5, s6, s7, s8, s9, s10, s11⟩
      go_simp
      with_reducible rfl
     rotate_left
     ·simp only [Act.put, List.setIfInBounds_toArray, List.set_cons_zero, List.set_cons_succ, i64_w, i32_w]
      rfl
     refine take_ (i := 4) (N := some 33) (v := ?_) (a' := ?_) #[true, true, true, false, true, false, false, false, false] rfl rfl (take_ofW HT_.out HW_.out (by kernel_rfl)) (fun _ _ _ h => h) (Or.inl ⟨by rfl, ?_⟩) hHeld ?_ ?_
     rotate_left
     ·rintro w' ⟨s0, s1, s2, s3, s4, s5, s6, s7, s8, s9, s10, s11⟩
      go_simp
      with_reducible rfl
     rotate_left
     ·simp only [Act.put, List.setIfInBounds_toArray, List.set_cons_zero, List.set_cons_succ, i64_w, i32_w]
      rfl
     refine one_ (i := 3) (N := some 32) #[true, true, true, true, true, false, false, false, false] rfl rfl (one_of HT_.out (by kernel_rfl)) (by decide) (fun K hK => ?_)
     refine goes_ Try.func8 (by kernel_rfl) rfl #[.agg #[.int .i64 a0_0, .int .i64 a0_1, .int .i64 a0_2, .int .i64 a0_3, .int .i64 a0_4, .int .i64 a0_5, .int .i64 a0_6, .int .i64 a0_7, .bool a0_8, .int .i64 a0_9, .int .i64 a0_10, .int .i64 a0_11]] (by rfl) rfl rfl (by (try simp only [List.map_toArray, List.map_cons, List.map_nil]); first | done | rfl | (simp only [List.length_drop, List.length_take]; rfl)) ?_
     with_reducible refine (config_Check.calls a0_0 a0_1 a0_2 a0_3 a0_4 a0_5 a0_6 a0_7 a0_8 a0_9 a0_10 a0_11 t171 _ A52.out).mono ?_
     rintro e w56 ⟨rfl, hb⟩
     refine ⟨_, rfl, ?_⟩
     have n0_ := Aside0.mk (blk_below (g := gb163) (o := .cells #[.int .i64 a0_0, .int .i64 a0_1, .int .i64 a0_2, .int .i64 a0_3, .int .i64 a0_4, .int .i64 a0_5, .int .i64 a0_6, .int .i64 a0_7, .bool a0_8, .int .i64 a0_9, .int .i64 a0_10, .int .i64 a0_11] 23 (0, 0)) (by (with_reducible repeat first | refine blk_drewN ?_ _ | refine blk_drew ?_ | refine blk_alloc ?_ _); exact BK163.out) hb)
     have n1_ := Aside0.mk (blk_below (g := gb164) (o := .cells #[.int .i64 a1_0, .int .i64 a1_1, .int .i64 a1_2, .int .i64 a1_3, .int .i64 a1_4, .int .i64 a1_5, .int .i64 a1_6, .int .i64 a1_7, .bool a1_8, .int .i64 a1_9, .int .i64 a1_10, .int .i64 a1_11] 23 (0, 0)) (by (with_reducible repeat first | refine blk_drewN ?_ _ | refine blk_drew ?_ | refine blk_alloc ?_ _); exact BK164.out) hb)
     have n2_ := Aside0.mk (below_step (by repeat (first | (with_reducible first | exact HB.out | apply below_alloc | apply pw_below_drewN | apply below_drew1 | refine below_set ?_ GE163.out | refine below_set ?_ GE164.out) | exact HB.out)) hb)
     clear BK163
     clear BK164
     clear HB
     have BK163 := n0_
     have BK164 := n1_
     have HB := n2_
     clear n0_ n1_ n2_
     (try clear hb)
     (try clear hb2)
     (try clear hk)
     (try clear hi)
     refine hK.out _ _ ⟨(blk_cell BK163.out 0).trans rfl, (blk_cell BK163.out 1).trans rfl, (blk_cell BK163.out 2).trans rfl, (blk_cell BK163.out 3).trans rfl, (blk_cell BK163.out 4).trans rfl, (blk_cell BK163.out 5).trans rfl, (blk_cell BK163.out 6).trans rfl, (blk_cell BK163.out 7).trans rfl, (blk_cell BK163.out 8).trans rfl, (blk_cell BK163.out 9).trans rfl, (blk_cell BK163.out 10).trans rfl, (blk_cell BK163.out 11).trans rfl⟩ (fun hHeld => ?_)
     clear hK K
     refine norm_ (a' := ?_) ?_ ?_
     rotate_left
     ·show Act.put _ (some 32) _ = _
      simp only [Act.put, List.setIfInBounds_toArray, List.set_cons_zero, List.set_cons_succ, i64_w, i32_w]
      rfl
     refine one_ (i := 5) (N := some 34) #[true, true, true, true, true, true, false, false, false] rfl rfl (one_of HT_.out (by kernel_rfl)) (by decide) (fun K hK => ?_)
     refine goes_ Try.func9 (by kernel_rfl) rfl #[.agg #[.int .i64 a0_0, .int .i64 a0_1, .int .i64 a0_2, .int .i64 a0_3, .int .i64 a0_4, .int .i64 a0_5, .int .i64 a0_6, .int .i64 a0_7, .bool a0_8, .int .i64 a0_9, .int .i64 a0_10, .int .i64 a0_11]] (by rfl) rfl rfl (by (try simp only [List.map_toArray, List.map_cons, List.map_nil]); first | done | rfl | (simp only [List.length_drop, List.length_take]; rfl)) ?_
     with_reducible refine (millstreamref05_Check.calls a0_0 a0_1 a0_2 a0_3 a0_4 a0_5 a0_6 a0_7 a0_8 a0_9 a0_10 a0_11 t172 _ A53.out).mono ?_
     rintro e w57 ⟨rfl, hb⟩
     refine ⟨_, rfl, ?_⟩
     have n0_ := Aside0.mk (blk_below (g := gb163) (o := .cells #[.int .i64 a0_0, .int .i64 a0_1, .int .i64 a0_2, .int .i64 a0_3, .int .i64 a0_4, .int .i64 a0_5, .int .i64 a0_6, .int .i64 a0_7, .bool a0_8, .int .i64 a0_9, .int .i64 a0_10, .int .i64 a0_11] 23 (0, 0)) (by (with_reducible repeat first | refine blk_drewN ?_ _ | refine blk_drew ?_ | refine blk_alloc ?_ _); exact BK163.out) hb)
     have n1_ := Aside0.mk (blk_below (g := gb164) (o := .cells #[.int .i64 a1_0, .int .i64 a1_1, .int .i64 a1_2, .int .i64 a1_3, .int .i64 a1_4, .int .i64 a1_5, .int .i64 a1_6, .int .i64 a1_7, .bool a1_8, .int .i64 a1_9, .int .i64 a1_10, .int .i64 a1_11] 23 (0, 0)) (by (with_reducible repeat first | refine blk_drewN ?_ _ | refine blk_drew ?_ | refine blk_alloc ?_ _); exact BK164.out) hb)
     have n2_ := Aside0.mk (below_step (by repeat (first | (with_reducible first | exact HB.out | apply below_alloc | apply pw_below_drewN | apply below_drew1 | refine below_set ?_ GE163.out | refine below_set ?_ GE164.out) | exact HB.out)) hb)
     clear BK163
     clear BK164
     clear HB
     have BK163 := n0_
     have BK164 := n1_
     have HB := n2_
     clear n0_ n1_ n2_
     (try clear hb)
     (try clear hb2)
     (try clear hk)
     (try clear hi)
     refine hK.out _ _ ⟨(blk_cell BK163.out 0).trans rfl, (blk_cell BK163.out 1).trans rfl, (blk_cell BK163.out 2).trans rfl, (blk_cell BK163.out 3).trans rfl, (blk_cell BK163.out 4).trans rfl, (blk_cell BK163.out 5).trans rfl, (blk_cell BK163.out 6).trans rfl, (blk_cell BK163.out 7).trans rfl, (blk_cell BK163.out 8).trans rfl, (blk_cell BK163.out 9).trans rfl, (blk_cell BK163.out 10).trans rfl, (blk_cell BK163.out 11).trans rfl⟩ (fun hHeld => ?_)
     clear hK K
     refine norm_ (a' := ?_) ?_ ?_
     rotate_left
     ·show Act.put _ (some 34) _ = _
      simp only [Act.put, List.setIfInBounds_toArray, List.set_cons_zero, List.set_cons_succ, i64_w, i32_w]
      rfl
     refine pure_ (i := 6) (N := some 35) (v := ?_) (a' := ?_) #[true, true, true, true, true, true, true, false, false] rfl rfl (any_of HT_.out (by kernel_rfl)) (fun _ _ _ h => h) (Or.inl ⟨by rfl, ?_⟩) ?_ ?_
     rotate_left
     ·intro w'
      go_simp
      with_reducible rfl
     rotate_left
     ·simp only [Act.put, List.setIfInBounds_toArray, List.set_cons_zero, List.set_cons_succ, i64_w, i32_w]
      rfl
     refine pure_ (i := 7) (N := some 36) (v := ?_) (a' := ?_) #[true, true, true, true, true, true, true, true, false] rfl rfl (any_of HT_.out (by kernel_rfl)) (fun _ _ _ h => h) (Or.inl ⟨by rfl, ?_⟩) ?_ ?_
     rotate_left
     ·intro w'
      go_simp
      with_reducible rfl
     rotate_left
     ·simp only [Act.put, List.setIfInBounds_toArray, List.set_cons_zero, List.set_cons_succ, i64_w, i32_w]
      rfl
     refine pure_ (i := 8) (N := some 4) (v := ?_) (a' := ?_) #[true, true, true, true, true, true, true, true, true] rfl rfl (any_of HT_.out (by kernel_rfl)) (fun _ _ _ h => h) (Or.inl ⟨by rfl, ?_⟩) ?_ ?_
     rotate_left
     ·intro w'
      go_simp
      with_reducible rfl
     rotate_left
     ·simp only [Act.put, List.setIfInBounds_toArray, List.set_cons_zero, List.set_cons_succ, i64_w, i32_w]
      rfl
     refine done_ (done_of HT_.out (by kernel_rfl)) ?_
     try go_wp2
     go_ret
     exact ⟨by first | rfl | (simp [errW_none, errW_some] <;> rfl) | (simp [*, errW_none, errW_some] <;> rfl), by repeat (first | (with_reducible first | exact HB.out | apply below_alloc | apply pw_below_drewN | apply below_drew1 | refine below_set ?_ GE163.out | refine below_set ?_ GE164.out) | exact HB.out)⟩
    ·replace c51 := Bool.eq_false_iff.mpr c51
     subst c51
     have H1 : (some false) = some r := by rw [if_neg (show ¬ (false = true) by decide)] at H; exact H
     clear H
     have H := H1
     clear H1
     exact absurd ((Option.some.inj H).trans hr_.out) (by decide)
   ·replace c49 := Bool.eq_false_iff.mpr c49
    subst c49
    have H1 : ((config_Steps.f a0_0 a0_1 a0_2 a0_3 a0_4 a0_5 a0_6 a0_7 a0_8 a0_9 a0_10 a0_11).bind fun t173 => ((config_Steps.f a1_0 a1_1 a1_2 a1_3 a1_4 a1_5 a1_6 a1_7 a1_8 a1_9 a1_10 a1_11).bind fun t174 => (if t173 ≥ 20 then (if a0_3 > a1_3 then (some true) else (if a0_4 > a1_4 then (some true) else (if a0_6 > a1_6 then (some true) else (some (decide (t173 ≤ t174)))))) else (some false)))) = some r := by rw [if_neg (show ¬ (false = true) by decide)] at H; exact H
    clear H
    have H := H1
    clear H1
    replace H := Option.bind_eq_some_iff.mp H
    obtain ⟨t173, A580, H⟩ := H
    replace H : ((config_Steps.f a1_0 a1_1 a1_2 a1_3 a1_4 a1_5 a1_6 a1_7 a1_8 a1_9 a1_10 a1_11).bind fun t174 => (if t173 ≥ 20 then (if a0_3 > a1_3 then (some true) else (if a0_4 > a1_4 then (some true) else (if a0_6 > a1_6 then (some true) else (some (decide (t173 ≤ t174)))))) else (some false))) = some r := H
    have A58 := Aside0.mk A580
    clear A580
    replace H := Option.bind_eq_some_iff.mp H
    obtain ⟨t174, A590, H⟩ := H
    replace H : (if t173 ≥ 20 then (if a0_3 > a1_3 then (some true) else (if a0_4 > a1_4 then (some true) else (if a0_6 > a1_6 then (some true) else (some (decide (t173 ≤ t174)))))) else (some false)) = some r := H
    have A59 := Aside0.mk A590
    clear A590
    by_cases c60 : t173 ≥ 20
    ·rw [if_pos c60] at H
     have c60b0 : decide (20 ≤ t173) = true := decide_eq_true c60
     clear c60
     by_cases c61 : a0_3 > a1_3
     ·rw [if_pos c61] at H
      have c61b0 : decide (a1_3 < a0_3) = true := decide_eq_true c61
      clear c61
      clear hr_
      obtain rfl := Option.some.inj H
      have hnb62 := NB163_164.out
      have hnc62 := NB164_163.out
      have hcz63_0 : wc.cell? ⟨gb163, 0, none⟩ = some (.int .i64 a0_0) := (blk_cell BK163.out 0).trans rfl
      have hcz63_1 : wc.cell? ⟨gb163, 1, none⟩ = some (.int .i64 a0_1) := (blk_cell BK163.out 1).trans rfl
      have hcz63_2 : wc.cell? ⟨gb163, 2, none⟩ = some (.int .i64 a0_2) := (blk_cell BK163.out 2).trans rfl
      have hcz63_3 : wc.cell? ⟨gb163, 3, none⟩ = some (.int .i64 a0_3) := (blk_cell BK163.out 3).trans rfl
      have hcz63_4 : wc.cell? ⟨gb163, 4, none⟩ = some (.int .i64 a0_4) := (blk_cell BK163.out 4).trans rfl
      have hcz63_5 : wc.cell? ⟨gb163, 5, none⟩ = some (.int .i64 a0_5) := (blk_cell BK163.out 5).trans rfl
      have hcz63_6 : wc.cell? ⟨gb163, 6, none⟩ = some (.int .i64 a0_6) := (blk_cell BK163.out 6).trans rfl
      have hcz63_7 : wc.cell? ⟨gb163, 7, none⟩ = some (.int .i64 a0_7) := (blk_cell BK163.out 7).trans rfl
      have hcz63_8 : wc.cell? ⟨gb163, 8, none⟩ = some (.bool a0_8) := (blk_cell BK163.out 8).trans rfl
      have hcz63_9 : wc.cell? ⟨gb163, 9, none⟩ = some (.int .i64 a0_9) := (blk_cell BK163.out 9).trans rfl
      have hcz63_10 : wc.cell? ⟨gb163, 10, none⟩ = some (.int .i64 a0_10) := (blk_cell BK163.out 10).trans rfl
      have hcz63_11 : wc.cell? ⟨gb163, 11, none⟩ = some (.int .i64 a0_11) := (blk_cell BK163.out 11).trans rfl
      have hfz63_0 := blk_frozen BK163.out 0
      have hfz63_1 := blk_frozen BK163.out 1
      have hfz63_2 := blk_frozen BK163.out 2
      have hfz63_3 := blk_frozen BK163.out 3
      have hfz63_4 := blk_frozen BK163.out 4
      have hfz63_5 := blk_frozen BK163.out 5
      have hfz63_6 := blk_frozen BK163.out 6
      have hfz63_7 := blk_frozen BK163.out 7
      have hfz63_8 := blk_frozen BK163.out 8
      have hfz63_9 := blk_frozen BK163.out 9
      have hfz63_10 := blk_frozen BK163.out 10
      have hfz63_11 := blk_frozen BK163.out 11
      go_wp2_with (first | ((with_reducible refine gate_callee (f := 10) rfl ?_); refine goesL_ (some 38) rfl rfl Try.func10 (by kernel_rfl) rfl #[.agg #[.int .i64 a0_0, .int .i64 a0_1, .int .i64 a0_2, .int .i64 a0_3, .int .i64 a0_4, .int .i64 a0_5, .int .i64 a0_6, .int .i64 a0_7, .bool a0_8, .int .i64 a0_9, .int .i64 a0_10, .int .i64 a0_11]] rfl (by (try simp only [List.map_toArray, List.map_cons, List.map_nil]); first | done | rfl | (simp only [List.length_drop, List.length_take]; rfl)) ?_; (with_reducible refine (config_Steps.calls a0_0 a0_1 a0_2 a0_3 a0_4 a0_5 a0_6 a0_7 a0_8 a0_9 a0_10 a0_11 t173 _ A58.out).mono ?_); rintro e w64 ⟨rfl, hb⟩; refine ⟨_, rfl, ?_⟩; have n0_ := Aside0.mk (blk_below (g := gb163) (o := .cells #[.int .i64 a0_0, .int .i64 a0_1, .int .i64 a0_2, .int .i64 a0_3, .int .i64 a0_4, .int .i64 a0_5, .int .i64 a0_6, .int .i64 a0_7, .bool a0_8, .int .i64 a0_9, .int .i64 a0_10, .int .i64 a0_11] 23 (0, 0)) (by (with_reducible repeat first | refine blk_drewN ?_ _ | refine blk_drew ?_ | refine blk_alloc ?_ _); exact BK163.out) hb); have n1_ := Aside0.mk (blk_below (g := gb164) (o := .cells #[.int .i64 a1_0, .int .i64 a1_1, .int .i64 a1_2, .int .i64 a1_3, .int .i64 a1_4, .int .i64 a1_5, .int .i64 a1_6, .int .i64 a1_7, .bool a1_8, .int .i64 a1_9, .int .i64 a1_10, .int .i64 a1_11] 23 (0, 0)) (by (with_reducible repeat first | refine blk_drewN ?_ _ | refine blk_drew ?_ | refine blk_alloc ?_ _); exact BK164.out) hb); have n2_ := Aside0.mk (below_step (by repeat (first | (with_reducible first | exact HB.out | apply below_alloc | apply pw_below_drewN | apply below_drew1 | refine below_set ?_ GE163.out | refine below_set ?_ GE164.out) | exact HB.out)) hb); clear BK163; clear BK164; clear HB; have BK163 := n0_; have BK164 := n1_; have HB := n2_; clear n0_ n1_ n2_; (try clear hb); (try clear hb2); (try clear hk); (try clear hi); have hcz65_0 : w64.cell? ⟨gb164, 0, none⟩ = some (.int .i64 a1_0) := (blk_cell BK164.out 0).trans rfl; have hcz65_1 : w64.cell? ⟨gb164, 1, none⟩ = some (.int .i64 a1_1) := (blk_cell BK164.out 1).trans rfl; have hcz65_2 : w64.cell? ⟨gb164, 2, none⟩ = some (.int .i64 a1_2) := (blk_cell BK164.out 2).trans rfl; have hcz65_3 : w64.cell? ⟨gb164, 3, none⟩ = some (.int .i64 a1_3) := (blk_cell BK164.out 3).trans rfl; have hcz65_4 : w64.cell? ⟨gb164, 4, none⟩ = some (.int .i64 a1_4) := (blk_cell BK164.out 4).trans rfl; have hcz65_5 : w64.cell? ⟨gb164, 5, none⟩ = some (.int .i64 a1_5) := (blk_cell BK164.out 5).trans rfl; have hcz65_6 : w64.cell? ⟨gb164, 6, none⟩ = some (.int .i64 a1_6) := (blk_cell BK164.out 6).trans rfl; have hcz65_7 : w64.cell? ⟨gb164, 7, none⟩ = some (.int .i64 a1_7) := (blk_cell BK164.out 7).trans rfl; have hcz65_8 : w64.cell? ⟨gb164, 8, none⟩ = some (.bool a1_8) := (blk_cell BK164.out 8).trans rfl; have hcz65_9 : w64.cell? ⟨gb164, 9, none⟩ = some (.int .i64 a1_9) := (blk_cell BK164.out 9).trans rfl; have hcz65_10 : w64.cell? ⟨gb164, 10, none⟩ = some (.int .i64 a1_10) := (blk_cell BK164.out 10).trans rfl; have hcz65_11 : w64.cell? ⟨gb164, 11, none⟩ = some (.int .i64 a1_11) := (blk_cell BK164.out 11).trans rfl; have hfz65_0 := blk_frozen BK164.out 0; have hfz65_1 := blk_frozen BK164.out 1; have hfz65_2 := blk_frozen BK164.out 2; have hfz65_3 := blk_frozen BK164.out 3; have hfz65_4 := blk_frozen BK164.out 4; have hfz65_5 := blk_frozen BK164.out 5; have hfz65_6 := blk_frozen BK164.out 6; have hfz65_7 := blk_frozen BK164.out 7; have hfz65_8 := blk_frozen BK164.out 8; have hfz65_9 := blk_frozen BK164.out 9; have hfz65_10 := blk_frozen BK164.out 10; have hfz65_11 := blk_frozen BK164.out 11) | ((with_reducible refine gate_callee (f := 10) rfl ?_); refine goesL_ (some 40) rfl rfl Try.func10 (by kernel_rfl) rfl #[.agg #[.int .i64 a1_0, .int .i64 a1_1, .int .i64 a1_2, .int .i64 a1_3, .int .i64 a1_4, .int .i64 a1_5, .int .i64 a1_6, .int .i64 a1_7, .bool a1_8, .int .i64 a1_9, .int .i64 a1_10, .int .i64 a1_11]] rfl (by (try simp only [List.map_toArray, List.map_cons, List.map_nil]); first | done | rfl | (simp only [List.length_drop, List.length_take]; rfl)) ?_; (with_reducible refine (config_Steps.calls a1_0 a1_1 a1_2 a1_3 a1_4 a1_5 a1_6 a1_7 a1_8 a1_9 a1_10 a1_11 t174 _ A59.out).mono ?_); rintro e w66 ⟨rfl, hb⟩; refine ⟨_, rfl, ?_⟩; have n0_ := Aside0.mk (blk_below (g := gb163) (o := .cells #[.int .i64 a0_0, .int .i64 a0_1, .int .i64 a0_2, .int .i64 a0_3, .int .i64 a0_4, .int .i64 a0_5, .int .i64 a0_6, .int .i64 a0_7, .bool a0_8, .int .i64 a0_9, .int .i64 a0_10, .int .i64 a0_11] 23 (0, 0)) (by (with_reducible repeat first | refine blk_drewN ?_ _ | refine blk_drew ?_ | refine blk_alloc ?_ _); exact BK163.out) hb); have n1_ := Aside0.mk (blk_below (g := gb164) (o := .cells #[.int .i64 a1_0, .int .i64 a1_1, .int .i64 a1_2, .int .i64 a1_3, .int .i64 a1_4, .int .i64 a1_5, .int .i64 a1_6, .int .i64 a1_7, .bool a1_8, .int .i64 a1_9, .int .i64 a1_10, .int .i64 a1_11] 23 (0, 0)) (by (with_reducible repeat first | refine blk_drewN ?_ _ | refine blk_drew ?_ | refine blk_alloc ?_ _); exact BK164.out) hb); have n2_ := Aside0.mk (below_step (by repeat (first | (with_reducible first | exact HB.out | apply below_alloc | apply pw_below_drewN | apply below_drew1 | refine below_set ?_ GE163.out | refine below_set ?_ GE164.out) | exact HB.out)) hb); clear BK163; clear BK164; clear HB; have BK163 := n0_; have BK164 := n1_; have HB := n2_; clear n0_ n1_ n2_; (try clear hb); (try clear hb2); (try clear hk); (try clear hi); have hcz67_0 : w66.cell? ⟨gb163, 0, none⟩ = some (.int .i64 a0_0) := (blk_cell BK163.out 0).trans rfl; have hcz67_1 : w66.cell? ⟨gb163, 1, none⟩ = some (.int .i64 a0_1) := (blk_cell BK163.out 1).trans rfl; have hcz67_2 : w66.cell? ⟨gb163, 2, none⟩ = some (.int .i64 a0_2) := (blk_cell BK163.out 2).trans rfl; have hcz67_3 : w66.cell? ⟨gb163, 3, none⟩ = some (.int .i64 a0_3) := (blk_cell BK163.out 3).trans rfl; have hcz67_4 : w66.cell? ⟨gb163, 4, none⟩ = some (.int .i64 a0_4) := (blk_cell BK163.out 4).trans rfl; have hcz67_5 : w66.cell? ⟨gb163, 5, none⟩ = some (.int .i64 a0_5) := (blk_cell BK163.out 5).trans rfl; have hcz67_6 : w66.cell? ⟨gb163, 6, none⟩ = some (.int .i64 a0_6) := (blk_cell BK163.out 6).trans rfl; have hcz67_7 : w66.cell? ⟨gb163, 7, none⟩ = some (.int .i64 a0_7) := (blk_cell BK163.out 7).trans rfl; have hcz67_8 : w66.cell? ⟨gb163, 8, none⟩ = some (.bool a0_8) := (blk_cell BK163.out 8).trans rfl; have hcz67_9 : w66.cell? ⟨gb163, 9, none⟩ = some (.int .i64 a0_9) := (blk_cell BK163.out 9).trans rfl; have hcz67_10 : w66.cell? ⟨gb163, 10, none⟩ = some (.int .i64 a0_10) := (blk_cell BK163.out 10).trans rfl; have hcz67_11 : w66.cell? ⟨gb163, 11, none⟩ = some (.int .i64 a0_11) := (blk_cell BK163.out 11).trans rfl; have hfz67_0 := blk_frozen BK163.out 0; have hfz67_1 := blk_frozen BK163.out 1; have hfz67_2 := blk_frozen BK163.out 2; have hfz67_3 := blk_frozen BK163.out 3; have hfz67_4 := blk_frozen BK163.out 4; have hfz67_5 := blk_frozen BK163.out 5; have hfz67_6 := blk_frozen BK163.out 6; have hfz67_7 := blk_frozen BK163.out 7; have hfz67_8 := blk_frozen BK163.out 8; have hfz67_9 := blk_frozen BK163.out 9; have hfz67_10 := blk_frozen BK163.out 10; have hfz67_11 := blk_frozen BK163.out 11; have hcz68_0 : w66.cell? ⟨gb164, 0, none⟩ = some (.int .i64 a1_0) := (blk_cell BK164.out 0).trans rfl; have hcz68_1 : w66.cell? ⟨gb164, 1, none⟩ = some (.int .i64 a1_1) := (blk_cell BK164.out 1).trans rfl; have hcz68_2 : w66.cell? ⟨gb164, 2, none⟩ = some (.int .i64 a1_2) := (blk_cell BK164.out 2).trans rfl; have hcz68_3 : w66.cell? ⟨gb164, 3, none⟩ = some (.int .i64 a1_3) := (blk_cell BK164.out 3).trans rfl; have hcz68_4 : w66.cell? ⟨gb164, 4, none⟩ = some (.int .i64 a1_4) := (blk_cell BK164.out 4).trans rfl; have hcz68_5 : w66.cell? ⟨gb164, 5, none⟩ = some (.int .i64 a1_5) := (blk_cell BK164.out 5).trans rfl; have hcz68_6 : w66.cell? ⟨gb164, 6, none⟩ = some (.int .i64 a1_6) := (blk_cell BK164.out 6).trans rfl; have hcz68_7 : w66.cell? ⟨gb164, 7, none⟩ = some (.int .i64 a1_7) := (blk_cell BK164.out 7).trans rfl; have hcz68_8 : w66.cell? ⟨gb164, 8, none⟩ = some (.bool a1_8) := (blk_cell BK164.out 8).trans rfl; have hcz68_9 : w66.cell? ⟨gb164, 9, none⟩ = some (.int .i64 a1_9) := (blk_cell BK164.out 9).trans rfl; have hcz68_10 : w66.cell? ⟨gb164, 10, none⟩ = some (.int .i64 a1_10) := (blk_cell BK164.out 10).trans rfl; have hcz68_11 : w66.cell? ⟨gb164, 11, none⟩ = some (.int .i64 a1_11) := (blk_cell BK164.out 11).trans rfl; have hfz68_0 := blk_frozen BK164.out 0; have hfz68_1 := blk_frozen BK164.out 1; have hfz68_2 := blk_frozen BK164.out 2; have hfz68_3 := blk_frozen BK164.out 3; have hfz68_4 := blk_frozen BK164.out 4; have hfz68_5 := blk_frozen BK164.out 5; have hfz68_6 := blk_frozen BK164.out 6; have hfz68_7 := blk_frozen BK164.out 7; have hfz68_8 := blk_frozen BK164.out 8; have hfz68_9 := blk_frozen BK164.out 9; have hfz68_10 := blk_frozen BK164.out 10; have hfz68_11 := blk_frozen BK164.out 11))
      go_ret
      exact ⟨by first | rfl | (simp [errW_none, errW_some] <;> rfl) | (simp [*, errW_none, errW_some] <;> rfl), by repeat (first | (with_reducible first | exact HB.out | apply below_alloc | apply pw_below_drewN | apply below_drew1 | refine below_set ?_ GE163.out | refine below_set ?_ GE164.out) | exact HB.out)⟩
     ·rw [if_neg c61] at H
      have c61b0 : decide (a1_3 < a0_3) = false := decide_eq_false c61
      clear c61
      by_cases c69 : a0_4 > a1_4
      ·rw [if_pos c69] at H
       have c69b0 : decide (a1_4 < a0_4) = true := decide_eq_true c69
       clear c69
       clear hr_
       obtain rfl := Option.some.inj H
       have hnb70 := NB163_164.out
       have hnc70 := NB164_163.out
       have hcz71_0 : wc.cell? ⟨gb163, 0, none⟩ = some (.int .i64 a0_0) := (blk_cell BK163.out 0).trans rfl
       have hcz71_1 : wc.cell? ⟨gb163, 1, none⟩ = some (.int .i64 a0_1) := (blk_cell BK163.out 1).trans rfl
       have hcz71_2 : wc.cell? ⟨gb163, 2, none⟩ = some (.int .i64 a0_2) := (blk_cell BK163.out 2).trans rfl
       have hcz71_3 : wc.cell? ⟨gb163, 3, none⟩ = some (.int .i64 a0_3) := (blk_cell BK163.out 3).trans rfl
       have hcz71_4 : wc.cell? ⟨gb163, 4, none⟩ = some (.int .i64 a0_4) := (blk_cell BK163.out 4).trans rfl
       have hcz71_5 : wc.cell? ⟨gb163, 5, none⟩ = some (.int .i64 a0_5) := (blk_cell BK163.out 5).trans rfl
       have hcz71_6 : wc.cell? ⟨gb163, 6, none⟩ = some (.int .i64 a0_6) := (blk_cell BK163.out 6).trans rfl
       have hcz71_7 : wc.cell? ⟨gb163, 7, none⟩ = some (.int .i64 a0_7) := (blk_cell BK163.out 7).trans rfl
       have hcz71_8 : wc.cell? ⟨gb163, 8, none⟩ = some (.bool a0_8) := (blk_cell BK163.out 8).trans rfl
       have hcz71_9 : wc.cell? ⟨gb163, 9, none⟩ = some (.int .i64 a0_9) := (blk_cell BK163.out 9).trans rfl
       have hcz71_10 : wc.cell? ⟨gb163, 10, none⟩ = some (.int .i64 a0_10) := (blk_cell BK163.out 10).trans rfl
       have hcz71_11 : wc.cell? ⟨gb163, 11, none⟩ = some (.int .i64 a0_11) := (blk_cell BK163.out 11).trans rfl
       have hfz71_0 := blk_frozen BK163.out 0
       have hfz71_1 := blk_frozen BK163.out 1
       have hfz71_2 := blk_frozen BK163.out 2
       have hfz71_3 := blk_frozen BK163.out 3
       have hfz71_4 := blk_frozen BK163.out 4
       have hfz71_5 := blk_frozen BK163.out 5
       have hfz71_6 := blk_frozen BK163.out 6
       have hfz71_7 := blk_frozen BK163.out 7
       have hfz71_8 := blk_frozen BK163.out 8
       have hfz71_9 := blk_frozen BK163.out 9
       have hfz71_10 := blk_frozen BK163.out 10
       have hfz71_11 := blk_frozen BK163.out 11
       go_wp2_with (first | ((with_reducible refine gate_callee (f := 10) rfl ?_); refine goesL_ (some 38) rfl rfl Try.func10 (by kernel_rfl) rfl #[.agg #[.int .i64 a0_0, .int .i64 a0_1, .int .i64 a0_2, .int .i64 a0_3, .int .i64 a0_4, .int .i64 a0_5, .int .i64 a0_6, .int .i64 a0_7, .bool a0_8, .int .i64 a0_9, .int .i64 a0_10, .int .i64 a0_11]] rfl (by (try simp only [List.map_toArray, List.map_cons, List.map_nil]); first | done | rfl | (simp only [List.length_drop, List.length_take]; rfl)) ?_; (with_reducible refine (config_Steps.calls a0_0 a0_1 a0_2 a0_3 a0_4 a0_5 a0_6 a0_7 a0_8 a0_9 a0_10 a0_11 t173 _ A58.out).mono ?_); rintro e w72 ⟨rfl, hb⟩; refine ⟨_, rfl, ?_⟩; have n0_ := Aside0.mk (blk_below (g := gb163) (o := .cells #[.int .i64 a0_0, .int .i64 a0_1, .int .i64 a0_2, .int .i64 a0_3, .int .i64 a0_4, .int .i64 a0_5, .int .i64 a0_6, .int .i64 a0_7, .bool a0_8, .int .i64 a0_9, .int .i64 a0_10, .int .i64 a0_11] 23 (0, 0)) (by (with_reducible repeat first | refine blk_drewN ?_ _ | refine blk_drew ?_ | refine blk_alloc ?_ _); exact BK163.out) hb); have n1_ := Aside0.mk (blk_below (g := gb164) (o := .cells #[.int .i64 a1_0, .int .i64 a1_1, .int .i64 a1_2, .int .i64 a1_3, .int .i64 a1_4, .int .i64 a1_5, .int .i64 a1_6, .int .i64 a1_7, .bool a1_8, .int .i64 a1_9, .int .i64 a1_10, .int .i64 a1_11] 23 (0, 0)) (by (with_reducible repeat first | refine blk_drewN ?_ _ | refine blk_drew ?_ | refine blk_alloc ?_ _); exact BK164.out) hb); have n2_ := Aside0.mk (below_step (by repeat (first | (with_reducible first | exact HB.out | apply below_alloc | apply pw_below_drewN | apply below_drew1 | refine below_set ?_ GE163.out | refine below_set ?_ GE164.out) | exact HB.out)) hb); clear BK163; clear BK164; clear HB; have BK163 := n0_; have BK164 := n1_; have HB := n2_; clear n0_ n1_ n2_; (try clear hb); (try clear hb2); (try clear hk); (try clear hi); have hcz73_0 : w72.cell? ⟨gb164, 0, none⟩ = some (.int .i64 a1_0) := (blk_cell BK164.out 0).trans rfl; have hcz73_1 : w72.cell? ⟨gb164, 1, none⟩ = some (.int .i64 a1_1) := (blk_cell BK164.out 1).trans rfl; have hcz73_2 : w72.cell? ⟨gb164, 2, none⟩ = some (.int .i64 a1_2) := (blk_cell BK164.out 2).trans rfl; have hcz73_3 : w72.cell? ⟨gb164, 3, none⟩ = some (.int .i64 a1_3) := (blk_cell BK164.out 3).trans rfl; have hcz73_4 : w72.cell? ⟨gb164, 4, none⟩ = some (.int .i64 a1_4) := (blk_cell BK164.out 4).trans rfl; have hcz73_5 : w72.cell? ⟨gb164, 5, none⟩ = some (.int .i64 a1_5) := (blk_cell BK164.out 5).trans rfl; have hcz73_6 : w72.cell? ⟨gb164, 6, none⟩ = some (.int .i64 a1_6) := (blk_cell BK164.out 6).trans rfl; have hcz73_7 : w72.cell? ⟨gb164, 7, none⟩ = some (.int .i64 a1_7) := (blk_cell BK164.out 7).trans rfl; have hcz73_8 : w72.cell? ⟨gb164, 8, none⟩ = some (.bool a1_8) := (blk_cell BK164.out 8).trans rfl; have hcz73_9 : w72.cell? ⟨gb164, 9, none⟩ = some (.int .i64 a1_9) := (blk_cell BK164.out 9).trans rfl; have hcz73_10 : w72.cell? ⟨gb164, 10, none⟩ = some (.int .i64 a1_10) := (blk_cell BK164.out 10).trans rfl; have hcz73_11 : w72.cell? ⟨gb164, 11, none⟩ = some (.int .i64 a1_11) := (blk_cell BK164.out 11).trans rfl; have hfz73_0 := blk_frozen BK164.out 0; have hfz73_1 := blk_frozen BK164.out 1; have hfz73_2 := blk_frozen BK164.out 2; have hfz73_3 := blk_frozen BK164.out 3; have hfz73_4 := blk_frozen BK164.out 4; have hfz73_5 := blk_frozen BK164.out 5; have hfz73_6 := blk_frozen BK164.out 6; have hfz73_7 := blk_frozen BK164.out 7; have hfz73_8 := blk_frozen BK164.out 8; have hfz73_9 := blk_frozen BK164.out 9; have hfz73_10 := blk_frozen BK164.out 10; have hfz73_11 := blk_frozen BK164.out 11) | ((with_reducible refine gate_callee (f := 10) rfl ?_); refine goesL_ (some 40) rfl rfl Try.func10 (by kernel_rfl) rfl #[.agg #[.int .i64 a1_0, .int .i64 a1_1, .int .i64 a1_2, .int .i64 a1_3, .int .i64 a1_4, .int .i64 a1_5, .int .i64 a1_6, .int .i64 a1_7, .bool a1_8, .int .i64 a1_9, .int .i64 a1_10, .int .i64 a1_11]] rfl (by (try simp only [List.map_toArray, List.map_cons, List.map_nil]); first | done | rfl | (simp only [List.length_drop, List.length_take]; rfl)) ?_; (with_reducible refine (config_Steps.calls a1_0 a1_1 a1_2 a1_3 a1_4 a1_5 a1_6 a1_7 a1_8 a1_9 a1_10 a1_11 t174 _ A59.out).mono ?_); rintro e w74 ⟨rfl, hb⟩; refine ⟨_, rfl, ?_⟩; have n0_ := Aside0.mk (blk_below (g := gb163) (o := .cells #[.int .i64 a0_0, .int .i64 a0_1, .int .i64 a0_2, .int .i64 a0_3, .int .i64 a0_4, .int .i64 a0_5, .int .i64 a0_6, .int .i64 a0_7, .bool a0_8, .int .i64 a0_9, .int .i64 a0_10, .int .i64 a0_11] 23 (0, 0)) (by (with_reducible repeat first | refine blk_drewN ?_ _ | refine blk_drew ?_ | refine blk_alloc ?_ _); exact BK163.out) hb); have n1_ := Aside0.mk (blk_below (g := gb164) (o := .cells #[.int .i64 a1_0, .int .i64 a1_1, .int .i64 a1_2, .int .i64 a1_3, .int .i64 a1_4, .int .i64 a1_5, .int .i64 a1_6, .int .i64 a1_7, .bool a1_8, .int .i64 a1_9, .int .i64 a1_10, .int .i64 a1_11] 23 (0, 0)) (by (with_reducible repeat first | refine blk_drewN ?_ _ | refine blk_drew ?_ | refine blk_alloc ?_ _); exact BK164.out) hb); have n2_ := Aside0.mk (below_step (by repeat (first | (with_reducible first | exact HB.out | apply below_alloc | apply pw_below_drewN | apply below_drew1 | refine below_set ?_ GE163.out | refine below_set ?_ GE164.out) | exact HB.out)) hb); clear BK163; clear BK164; clear HB; have BK163 := n0_; have BK164 := n1_; have HB := n2_; clear n0_ n1_ n2_; (try clear hb); (try clear hb2); (try clear hk); (try clear hi); have hcz75_0 : w74.cell? ⟨gb163, 0, none⟩ = some (.int .i64 a0_0) := (blk_cell BK163.out 0).trans rfl; have hcz75_1 : w74.cell? ⟨gb163, 1, none⟩ = some (.int .i64 a0_1) := (blk_cell BK163.out 1).trans rfl; have hcz75_2 : w74.cell? ⟨gb163, 2, none⟩ = some (.int .i64 a0_2) := (blk_cell BK163.out 2).trans rfl; have hcz75_3 : w74.cell? ⟨gb163, 3, none⟩ = some (.int .i64 a0_3) := (blk_cell BK163.out 3).trans rfl; have hcz75_4 : w74.cell? ⟨gb163, 4, none⟩ = some (.int .i64 a0_4) := (blk_cell BK163.out 4).trans rfl; have hcz75_5 : w74.cell? ⟨gb163, 5, none⟩ = some (.int .i64 a0_5) := (blk_cell BK163.out 5).trans rfl; have hcz75_6 : w74.cell? ⟨gb163, 6, none⟩ = some (.int .i64 a0_6) := (blk_cell BK163.out 6).trans rfl; have hcz75_7 : w74.cell? ⟨gb163, 7, none⟩ = some (.int .i64 a0_7) := (blk_cell BK163.out 7).trans rfl; have hcz75_8 : w74.cell? ⟨gb163, 8, none⟩ = some (.bool a0_8) := (blk_cell BK163.out 8).trans rfl; have hcz75_9 : w74.cell? ⟨gb163, 9, none⟩ = some (.int .i64 a0_9) := (blk_cell BK163.out 9).trans rfl; have hcz75_10 : w74.cell? ⟨gb163, 10, none⟩ = some (.int .i64 a0_10) := (blk_cell BK163.out 10).trans rfl; have hcz75_11 : w74.cell? ⟨gb163, 11, none⟩ = some (.int .i64 a0_11) := (blk_cell BK163.out 11).trans rfl; have hfz75_0 := blk_frozen BK163.out 0; have hfz75_1 := blk_frozen BK163.out 1; have hfz75_2 := blk_frozen BK163.out 2; have hfz75_3 := blk_frozen BK163.out 3; have hfz75_4 := blk_frozen BK163.out 4; have hfz75_5 := blk_frozen BK163.out 5; have hfz75_6 := blk_frozen BK163.out 6; have hfz75_7 := blk_frozen BK163.out 7; have hfz75_8 := blk_frozen BK163.out 8; have hfz75_9 := blk_frozen BK163.out 9; have hfz75_10 := blk_frozen BK163.out 10; have hfz75_11 := blk_frozen BK163.out 11; have hcz76_0 : w74.cell? ⟨gb164, 0, none⟩ = some (.int .i64 a1_0) := (blk_cell BK164.out 0).trans rfl; have hcz76_1 : w74.cell? ⟨gb164, 1, none⟩ = some (.int .i64 a1_1) := (blk_cell BK164.out 1).trans rfl; have hcz76_2 : w74.cell? ⟨gb164, 2, none⟩ = some (.int .i64 a1_2) := (blk_cell BK164.out 2).trans rfl; have hcz76_3 : w74.cell? ⟨gb164, 3, none⟩ = some (.int .i64 a1_3) := (blk_cell BK164.out 3).trans rfl; have hcz76_4 : w74.cell? ⟨gb164, 4, none⟩ = some (.int .i64 a1_4) := (blk_cell BK164.out 4).trans rfl; have hcz76_5 : w74.cell? ⟨gb164, 5, none⟩ = some (.int .i64 a1_5) := (blk_cell BK164.out 5).trans rfl; have hcz76_6 : w74.cell? ⟨gb164, 6, none⟩ = some (.int .i64 a1_6) := (blk_cell BK164.out 6).trans rfl; have hcz76_7 : w74.cell? ⟨gb164, 7, none⟩ = some (.int .i64 a1_7) := (blk_cell BK164.out 7).trans rfl; have hcz76_8 : w74.cell? ⟨gb164, 8, none⟩ = some (.bool a1_8) := (blk_cell BK164.out 8).trans rfl; have hcz76_9 : w74.cell? ⟨gb164, 9, none⟩ = some (.int .i64 a1_9) := (blk_cell BK164.out 9).trans rfl; have hcz76_10 : w74.cell? ⟨gb164, 10, none⟩ = some (.int .i64 a1_10) := (blk_cell BK164.out 10).trans rfl; have hcz76_11 : w74.cell? ⟨gb164, 11, none⟩ = some (.int .i64 a1_11) := (blk_cell BK164.out 11).trans rfl; have hfz76_0 := blk_frozen BK164.out 0; have hfz76_1 := blk_frozen BK164.out 1; have hfz76_2 := blk_frozen BK164.out 2; have hfz76_3 := blk_frozen BK164.out 3; have hfz76_4 := blk_frozen BK164.out 4; have hfz76_5 := blk_frozen BK164.out 5; have hfz76_6 := blk_frozen BK164.out 6; have hfz76_7 := blk_frozen BK164.out 7; have hfz76_8 := blk_frozen BK164.out 8; have hfz76_9 := blk_frozen BK164.out 9; have hfz76_10 := blk_frozen BK164.out 10; have hfz76_11 := blk_frozen BK164.out 11))
       go_ret
       exact ⟨by first | rfl | (simp [errW_none, errW_some] <;> rfl) | (simp [*, errW_none, errW_some] <;> rfl), by repeat (first | (with_reducible first | exact HB.out | apply below_alloc | apply pw_below_drewN | apply below_drew1 | refine below_set ?_ GE163.out | refine below_set ?_ GE164.out) | exact HB.out)⟩
      ·rw [if_neg c69] at H
       have c69b0 : decide (a1_4 < a0_4) = false := decide_eq_false c69
       clear c69
       by_cases c77 : a0_6 > a1_6
       ·rw [if_pos c77] at H
        have c77b0 : decide (a1_6 < a0_6) = true := decide_eq_true c77
        clear c77
        clear hr_
        obtain rfl := Option.some.inj H
        have hnb78 := NB163_164.out
        have hnc78 := NB164_163.out
        have hcz79_0 : wc.cell? ⟨gb163, 0, none⟩ = some (.int .i64 a0_0) := (blk_cell BK163.out 0).trans rfl
        have hcz79_1 : wc.cell? ⟨gb163, 1, none⟩ = some (.int .i64 a0_1) := (blk_cell BK163.out 1).trans rfl
        have hcz79_2 : wc.cell? ⟨gb163, 2, none⟩ = some (.int .i64 a0_2) := (blk_cell BK163.out 2).trans rfl
        have hcz79_3 : wc.cell? ⟨gb163, 3, none⟩ = some (.int .i64 a0_3) := (blk_cell BK163.out 3).trans rfl
        have hcz79_4 : wc.cell? ⟨gb163, 4, none⟩ = some (.int .i64 a0_4) := (blk_cell BK163.out 4).trans rfl
        have hcz79_5 : wc.cell? ⟨gb163, 5, none⟩ = some (.int .i64 a0_5) := (blk_cell BK163.out 5).trans rfl
        have hcz79_6 : wc.cell? ⟨gb163, 6, none⟩ = some (.int .i64 a0_6) := (blk_cell BK163.out 6).trans rfl
        have hcz79_7 : wc.cell? ⟨gb163, 7, none⟩ = some (.int .i64 a0_7) := (blk_cell BK163.out 7).trans rfl
        have hcz79_8 : wc.cell? ⟨gb163, 8, none⟩ = some (.bool a0_8) := (blk_cell BK163.out 8).trans rfl
        have hcz79_9 : wc.cell? ⟨gb163, 9, none⟩ = some (.int .i64 a0_9) := (blk_cell BK163.out 9).trans rfl
        have hcz79_10 : wc.cell? ⟨gb163, 10, none⟩ = some (.int .i64 a0_10) := (blk_cell BK163.out 10).trans rfl
        have hcz79_11 : wc.cell? ⟨gb163, 11, none⟩ = some (.int .i64 a0_11) := (blk_cell BK163.out 11).trans rfl
        have hfz79_0 := blk_frozen BK163.out 0
        have hfz79_1 := blk_frozen BK163.out 1
        have hfz79_2 := blk_frozen BK163.out 2
        have hfz79_3 := blk_frozen BK163.out 3
        have hfz79_4 := blk_frozen BK163.out 4
        have hfz79_5 := blk_frozen BK163.out 5
        have hfz79_6 := blk_frozen BK163.out 6
        have hfz79_7 := blk_frozen BK163.out 7
        have hfz79_8 := blk_frozen BK163.out 8
        have hfz79_9 := blk_frozen BK163.out 9
        have hfz79_10 := blk_frozen BK163.out 10
        have hfz79_11 := blk_frozen BK163.out 11
        go_wp2_with (first | ((with_reducible refine gate_callee (f := 10) rfl ?_); refine goesL_ (some 38) rfl rfl Try.func10 (by kernel_rfl) rfl #[.agg #[.int .i64 a0_0, .int .i64 a0_1, .int .i64 a0_2, .int .i64 a0_3, .int .i64 a0_4, .int .i64 a0_5, .int .i64 a0_6, .int .i64 a0_7, .bool a0_8, .int .i64 a0_9, .int .i64 a0_10, .int .i64 a0_11]] rfl (by (try simp only [List.map_toArray, List.map_cons, List.map_nil]); first | done | rfl | (simp only [List.length_drop, List.length_take]; rfl)) ?_; (with_reducible refine (config_Steps.calls a0_0 a0_1 a0_2 a0_3 a0_4 a0_5 a0_6 a0_7 a0_8 a0_9 a0_10 a0_11 t173 _ A58.out).mono ?_); rintro e w80 ⟨rfl, hb⟩; refine ⟨_, rfl, ?_⟩; have n0_ := Aside0.mk (blk_below (g := gb163) (o := .cells #[.int .i64 a0_0, .int .i64 a0_1, .int .i64 a0_2, .int .i64 a0_3, .int .i64 a0_4, .int .i64 a0_5, .int .i64 a0_6, .int .i64 a0_7, .bool a0_8, .int .i64 a0_9, .int .i64 a0_10, .int .i64 a0_11] 23 (0, 0)) (by (with_reducible repeat first | refine blk_drewN ?_ _ | refine blk_drew ?_ | refine blk_alloc ?_ _); exact BK163.out) hb); have n1_ := Aside0.mk (blk_below (g := gb164) (o := .cells #[.int .i64 a1_0, .int .i64 a1_1, .int .i64 a1_2, .int .i64 a1_3, .int .i64 a1_4, .int .i64 a1_5, .int .i64 a1_6, .int .i64 a1_7, .bool a1_8, .int .i64 a1_9, .int .i64 a1_10, .int .i64 a1_11] 23 (0, 0)) (by (with_reducible repeat first | refine blk_drewN ?_ _ | refine blk_drew ?_ | refine blk_alloc ?_ _); exact BK164.out) hb); have n2_ := Aside0.mk (below_step (by repeat (first | (with_reducible first | exact HB.out | apply below_alloc | apply pw_below_drewN | apply below_drew1 | refine below_set ?_ GE163.out | refine below_set ?_ GE164.out) | exact HB.out)) hb); clear BK163; clear BK164; clear HB; have BK163 := n0_; have BK164 := n1_; have HB := n2_; clear n0_ n1_ n2_; (try clear hb); (try clear hb2); (try clear hk); (try clear hi); have hcz81_0 : w80.cell? ⟨gb164, 0, none⟩ = some (.int .i64 a1_0) := (blk_cell BK164.out 0).trans rfl; have hcz81_1 : w80.cell? ⟨gb164, 1, none⟩ = some (.int .i64 a1_1) := (blk_cell BK164.out 1).trans rfl; have hcz81_2 : w80.cell? ⟨gb164, 2, none⟩ = some (.int .i64 a1_2) := (blk_cell BK164.out 2).trans rfl; have hcz81_3 : w80.cell? ⟨gb164, 3, none⟩ = some (.int .i64 a1_3) := (blk_cell BK164.out 3).trans rfl; have hcz81_4 : w80.cell? ⟨gb164, 4, none⟩ = some (.int .i64 a1_4) := (blk_cell BK164.out 4).trans rfl; have hcz81_5 : w80.cell? ⟨gb164, 5, none⟩ = some (.int .i64 a1_5) := (blk_cell BK164.out 5).trans rfl; have hcz81_6 : w80.cell? ⟨gb164, 6, none⟩ = some (.int .i64 a1_6) := (blk_cell BK164.out 6).trans rfl; have hcz81_7 : w80.cell? ⟨gb164, 7, none⟩ = some (.int .i64 a1_7) := (blk_cell BK164.out 7).trans rfl; have hcz81_8 : w80.cell? ⟨gb164, 8, none⟩ = some (.bool a1_8) := (blk_cell BK164.out 8).trans rfl; have hcz81_9 : w80.cell? ⟨gb164, 9, none⟩ = some (.int .i64 a1_9) := (blk_cell BK164.out 9).trans rfl; have hcz81_10 : w80.cell? ⟨gb164, 10, none⟩ = some (.int .i64 a1_10) := (blk_cell BK164.out 10).trans rfl; have hcz81_11 : w80.cell? ⟨gb164, 11, none⟩ = some (.int .i64 a1_11) := (blk_cell BK164.out 11).trans rfl; have hfz81_0 := blk_frozen BK164.out 0; have hfz81_1 := blk_frozen BK164.out 1; have hfz81_2 := blk_frozen BK164.out 2; have hfz81_3 := blk_frozen BK164.out 3; have hfz81_4 := blk_frozen BK164.out 4; have hfz81_5 := blk_frozen BK164.out 5; have hfz81_6 := blk_frozen BK164.out 6; have hfz81_7 := blk_frozen BK164.out 7; have hfz81_8 := blk_frozen BK164.out 8; have hfz81_9 := blk_frozen BK164.out 9; have hfz81_10 := blk_frozen BK164.out 10; have hfz81_11 := blk_frozen BK164.out 11) | ((with_reducible refine gate_callee (f := 10) rfl ?_); refine goesL_ (some 40) rfl rfl Try.func10 (by kernel_rfl) rfl #[.agg #[.int .i64 a1_0, .int .i64 a1_1, .int .i64 a1_2, .int .i64 a1_3, .int .i64 a1_4, .int .i64 a1_5, .int .i64 a1_6, .int .i64 a1_7, .bool a1_8, .int .i64 a1_9, .int .i64 a1_10, .int .i64 a1_11]] rfl (by (try simp only [List.map_toArray, List.map_cons, List.map_nil]); first | done | rfl | (simp only [List.length_drop, List.length_take]; rfl)) ?_; (with_reducible refine (config_Steps.calls a1_0 a1_1 a1_2 a1_3 a1_4 a1_5 a1_6 a1_7 a1_8 a1_9 a1_10 a1_11 t174 _ A59.out).mono ?_); rintro e w82 ⟨rfl, hb⟩; refine ⟨_, rfl, ?_⟩; have n0_ := Aside0.mk (blk_below (g := gb163) (o := .cells #[.int .i64 a0_0, .int .i64 a0_1, .int .i64 a0_2, .int .i64 a0_3, .int .i64 a0_4, .int .i64 a0_5, .int .i64 a0_6, .int .i64 a0_7, .bool a0_8, .int .i64 a0_9, .int .i64 a0_10, .int .i64 a0_11] 23 (0, 0)) (by (with_reducible repeat first | refine blk_drewN ?_ _ | refine blk_drew ?_ | refine blk_alloc ?_ _); exact BK163.out) hb); have n1_ := Aside0.mk (blk_below (g := gb164) (o := .cells #[.int .i64 a1_0, .int .i64 a1_1, .int .i64 a1_2, .int .i64 a1_3, .int .i64 a1_4, .int .i64 a1_5, .int .i64 a1_6, .int .i64 a1_7, .bool a1_8, .int .i64 a1_9, .int .i64 a1_10, .int .i64 a1_11] 23 (0, 0)) (by (with_reducible repeat first | refine blk_drewN ?_ _ | refine blk_drew ?_ | refine blk_alloc ?_ _); exact BK164.out) hb); have n2_ := Aside0.mk (below_step (by repeat (first | (with_reducible first | exact HB.out | apply below_alloc | apply pw_below_drewN | apply below_drew1 | refine below_set ?_ GE163.out | refine below_set ?_ GE164.out) | exact HB.out)) hb); clear BK163; clear BK164; clear HB; have BK163 := n0_; have BK164 := n1_; have HB := n2_; clear n0_ n1_ n2_; (try clear hb); (try clear hb2); (try clear hk); (try clear hi); have hcz83_0 : w82.cell? ⟨gb163, 0, none⟩ = some (.int .i64 a0_0) := (blk_cell BK163.out 0).trans rfl; have hcz83_1 : w82.cell? ⟨gb163, 1, none⟩ = some (.int .i64 a0_1) := (blk_cell BK163.out 1).trans rfl; have hcz83_2 : w82.cell? ⟨gb163, 2, none⟩ = some (.int .i64 a0_2) := (blk_cell BK163.out 2).trans rfl; have hcz83_3 : w82.cell? ⟨gb163, 3, none⟩ = some (.int .i64 a0_3) := (blk_cell BK163.out 3).trans rfl; have hcz83_4 : w82.cell? ⟨gb163, 4, none⟩ = some (.int .i64 a0_4) := (blk_cell BK163.out 4).trans rfl; have hcz83_5 : w82.cell? ⟨gb163, 5, none⟩ = some (.int .i64 a0_5) := (blk_cell BK163.out 5).trans rfl; have hcz83_6 : w82.cell? ⟨gb163, 6, none⟩ = some (.int .i64 a0_6) := (blk_cell BK163.out 6).trans rfl; have hcz83_7 : w82.cell? ⟨gb163, 7, none⟩ = some (.int .i64 a0_7) := (blk_cell BK163.out 7).trans rfl; have hcz83_8 : w82.cell? ⟨gb163, 8, none⟩ = some (.bool a0_8) := (blk_cell BK163.out 8).trans rfl; have hcz83_9 : w82.cell? ⟨gb163, 9, none⟩ = some (.int .i64 a0_9) := (blk_cell BK163.out 9).trans rfl; have hcz83_10 : w82.cell? ⟨gb163, 10, none⟩ = some (.int .i64 a0_10) := (blk_cell BK163.out 10).trans rfl; have hcz83_11 : w82.cell? ⟨gb163, 11, none⟩ = some (.int .i64 a0_11) := (blk_cell BK163.out 11).trans rfl; have hfz83_0 := blk_frozen BK163.out 0; have hfz83_1 := blk_frozen BK163.out 1; have hfz83_2 := blk_frozen BK163.out 2; have hfz83_3 := blk_frozen BK163.out 3; have hfz83_4 := blk_frozen BK163.out 4; have hfz83_5 := blk_frozen BK163.out 5; have hfz83_6 := blk_frozen BK163.out 6; have hfz83_7 := blk_frozen BK163.out 7; have hfz83_8 := blk_frozen BK163.out 8; have hfz83_9 := blk_frozen BK163.out 9; have hfz83_10 := blk_frozen BK163.out 10; have hfz83_11 := blk_frozen BK163.out 11; have hcz84_0 : w82.cell? ⟨gb164, 0, none⟩ = some (.int .i64 a1_0) := (blk_cell BK164.out 0).trans rfl; have hcz84_1 : w82.cell? ⟨gb164, 1, none⟩ = some (.int .i64 a1_1) := (blk_cell BK164.out 1).trans rfl; have hcz84_2 : w82.cell? ⟨gb164, 2, none⟩ = some (.int .i64 a1_2) := (blk_cell BK164.out 2).trans rfl; have hcz84_3 : w82.cell? ⟨gb164, 3, none⟩ = some (.int .i64 a1_3) := (blk_cell BK164.out 3).trans rfl; have hcz84_4 : w82.cell? ⟨gb164, 4, none⟩ = some (.int .i64 a1_4) := (blk_cell BK164.out 4).trans rfl; have hcz84_5 : w82.cell? ⟨gb164, 5, none⟩ = some (.int .i64 a1_5) := (blk_cell BK164.out 5).trans rfl; have hcz84_6 : w82.cell? ⟨gb164, 6, none⟩ = some (.int .i64 a1_6) := (blk_cell BK164.out 6).trans rfl; have hcz84_7 : w82.cell? ⟨gb164, 7, none⟩ = some (.int .i64 a1_7) := (blk_cell BK164.out 7).trans rfl; have hcz84_8 : w82.cell? ⟨gb164, 8, none⟩ = some (.bool a1_8) := (blk_cell BK164.out 8).trans rfl; have hcz84_9 : w82.cell? ⟨gb164, 9, none⟩ = some (.int .i64 a1_9) := (blk_cell BK164.out 9).trans rfl; have hcz84_10 : w82.cell? ⟨gb164, 10, none⟩ = some (.int .i64 a1_10) := (blk_cell BK164.out 10).trans rfl; have hcz84_11 : w82.cell? ⟨gb164, 11, none⟩ = some (.int .i64 a1_11) := (blk_cell BK164.out 11).trans rfl; have hfz84_0 := blk_frozen BK164.out 0; have hfz84_1 := blk_frozen BK164.out 1; have hfz84_2 := blk_frozen BK164.out 2; have hfz84_3 := blk_frozen BK164.out 3; have hfz84_4 := blk_frozen BK164.out 4; have hfz84_5 := blk_frozen BK164.out 5; have hfz84_6 := blk_frozen BK164.out 6; have hfz84_7 := blk_frozen BK164.out 7; have hfz84_8 := blk_frozen BK164.out 8; have hfz84_9 := blk_frozen BK164.out 9; have hfz84_10 := blk_frozen BK164.out 10; have hfz84_11 := blk_frozen BK164.out 11))
        go_ret
        exact ⟨by first | rfl | (simp [errW_none, errW_some] <;> rfl) | (simp [*, errW_none, errW_some] <;> rfl), by repeat (first | (with_reducible first | exact HB.out | apply below_alloc | apply pw_below_drewN | apply below_drew1 | refine below_set ?_ GE163.out | refine below_set ?_ GE164.out) | exact HB.out)⟩
       ·rw [if_neg c77] at H
        have c77b0 : decide (a1_6 < a0_6) = false := decide_eq_false c77
        clear c77
        clear hr_
        obtain rfl := Option.some.inj H
        have hnb85 := NB163_164.out
        have hnc85 := NB164_163.out
        have hcz86_0 : wc.cell? ⟨gb163, 0, none⟩ = some (.int .i64 a0_0) := (blk_cell BK163.out 0).trans rfl
        have hcz86_1 : wc.cell? ⟨gb163, 1, none⟩ = some (.int .i64 a0_1) := (blk_cell BK163.out 1).trans rfl
        have hcz86_2 : wc.cell? ⟨gb163, 2, none⟩ = some (.int .i64 a0_2) := (blk_cell BK163.out 2).trans rfl
        have hcz86_3 : wc.cell? ⟨gb163, 3, none⟩ = some (.int .i64 a0_3) := (blk_cell BK163.out 3).trans rfl
        have hcz86_4 : wc.cell? ⟨gb163, 4, none⟩ = some (.int .i64 a0_4) := (blk_cell BK163.out 4).trans rfl
        have hcz86_5 : wc.cell? ⟨gb163, 5, none⟩ = some (.int .i64 a0_5) := (blk_cell BK163.out 5).trans rfl
        have hcz86_6 : wc.cell? ⟨gb163, 6, none⟩ = some (.int .i64 a0_6) := (blk_cell BK163.out 6).trans rfl
        have hcz86_7 : wc.cell? ⟨gb163, 7, none⟩ = some (.int .i64 a0_7) := (blk_cell BK163.out 7).trans rfl
        have hcz86_8 : wc.cell? ⟨gb163, 8, none⟩ = some (.bool a0_8) := (blk_cell BK163.out 8).trans rfl
        have hcz86_9 : wc.cell? ⟨gb163, 9, none⟩ = some (.int .i64 a0_9) := (blk_cell BK163.out 9).trans rfl
        have hcz86_10 : wc.cell? ⟨gb163, 10, none⟩ = some (.int .i64 a0_10) := (blk_cell BK163.out 10).trans rfl
        have hcz86_11 : wc.cell? ⟨gb163, 11, none⟩ = some (.int .i64 a0_11) := (blk_cell BK163.out 11).trans rfl
        have hfz86_0 := blk_frozen BK163.out 0
        have hfz86_1 := blk_frozen BK163.out 1
        have hfz86_2 := blk_frozen BK163.out 2
        have hfz86_3 := blk_frozen BK163.out 3
        have hfz86_4 := blk_frozen BK163.out 4
        have hfz86_5 := blk_frozen BK163.out 5
        have hfz86_6 := blk_frozen BK163.out 6
        have hfz86_7 := blk_frozen BK163.out 7
        have hfz86_8 := blk_frozen BK163.out 8
        have hfz86_9 := blk_frozen BK163.out 9
        have hfz86_10 := blk_frozen BK163.out 10
        have hfz86_11 := blk_frozen BK163.out 11
        go_wp2_with (first | ((with_reducible refine gate_callee (f := 10) rfl ?_); refine goesL_ (some 38) rfl rfl Try.func10 (by kernel_rfl) rfl #[.agg #[.int .i64 a0_0, .int .i64 a0_1, .int .i64 a0_2, .int .i64 a0_3, .int .i64 a0_4, .int .i64 a0_5, .int .i64 a0_6, .int .i64 a0_7, .bool a0_8, .int .i64 a0_9, .int .i64 a0_10, .int .i64 a0_11]] rfl (by (try simp only [List.map_toArray, List.map_cons, List.map_nil]); first | done | rfl | (simp only [List.length_drop, List.length_take]; rfl)) ?_; (with_reducible refine (config_Steps.calls a0_0 a0_1 a0_2 a0_3 a0_4 a0_5 a0_6 a0_7 a0_8 a0_9 a0_10 a0_11 t173 _ A58.out).mono ?_); rintro e w87 ⟨rfl, hb⟩; refine ⟨_, rfl, ?_⟩; have n0_ := Aside0.mk (blk_below (g := gb163) (o := .cells #[.int .i64 a0_0, .int .i64 a0_1, .int .i64 a0_2, .int .i64 a0_3, .int .i64 a0_4, .int .i64 a0_5, .int .i64 a0_6, .int .i64 a0_7, .bool a0_8, .int .i64 a0_9, .int .i64 a0_10, .int .i64 a0_11] 23 (0, 0)) (by (with_reducible repeat first | refine blk_drewN ?_ _ | refine blk_drew ?_ | refine blk_alloc ?_ _); exact BK163.out) hb); have n1_ := Aside0.mk (blk_below (g := gb164) (o := .cells #[.int .i64 a1_0, .int .i64 a1_1, .int .i64 a1_2, .int .i64 a1_3, .int .i64 a1_4, .int .i64 a1_5, .int .i64 a1_6, .int .i64 a1_7, .bool a1_8, .int .i64 a1_9, .int .i64 a1_10, .int .i64 a1_11] 23 (0, 0)) (by (with_reducible repeat first | refine blk_drewN ?_ _ | refine blk_drew ?_ | refine blk_alloc ?_ _); exact BK164.out) hb); have n2_ := Aside0.mk (below_step (by repeat (first | (with_reducible first | exact HB.out | apply below_alloc | apply pw_below_drewN | apply below_drew1 | refine below_set ?_ GE163.out | refine below_set ?_ GE164.out) | exact HB.out)) hb); clear BK163; clear BK164; clear HB; have BK163 := n0_; have BK164 := n1_; have HB := n2_; clear n0_ n1_ n2_; (try clear hb); (try clear hb2); (try clear hk); (try clear hi); have hcz88_0 : w87.cell? ⟨gb164, 0, none⟩ = some (.int .i64 a1_0) := (blk_cell BK164.out 0).trans rfl; have hcz88_1 : w87.cell? ⟨gb164, 1, none⟩ = some (.int .i64 a1_1) := (blk_cell BK164.out 1).trans rfl; have hcz88_2 : w87.cell? ⟨gb164, 2, none⟩ = some (.int .i64 a1_2) := (blk_cell BK164.out 2).trans rfl; have hcz88_3 : w87.cell? ⟨gb164, 3, none⟩ = some (.int .i64 a1_3) := (blk_cell BK164.out 3).trans rfl; have hcz88_4 : w87.cell? ⟨gb164, 4, none⟩ = some (.int .i64 a1_4) := (blk_cell BK164.out 4).trans rfl; have hcz88_5 : w87.cell? ⟨gb164, 5, none⟩ = some (.int .i64 a1_5) := (blk_cell BK164.out 5).trans rfl; have hcz88_6 : w87.cell? ⟨gb164, 6, none⟩ = some (.int .i64 a1_6) := (blk_cell BK164.out 6).trans rfl; have hcz88_7 : w87.cell? ⟨gb164, 7, none⟩ = some (.int .i64 a1_7) := (blk_cell BK164.out 7).trans rfl; have hcz88_8 : w87.cell? ⟨gb164, 8, none⟩ = some (.bool a1_8) := (blk_cell BK164.out 8).trans rfl; have hcz88_9 : w87.cell? ⟨gb164, 9, none⟩ = some (.int .i64 a1_9) := (blk_cell BK164.out 9).trans rfl; have hcz88_10 : w87.cell? ⟨gb164, 10, none⟩ = some (.int .i64 a1_10) := (blk_cell BK164.out 10).trans rfl; have hcz88_11 : w87.cell? ⟨gb164, 11, none⟩ = some (.int .i64 a1_11) := (blk_cell BK164.out 11).trans rfl; have hfz88_0 := blk_frozen BK164.out 0; have hfz88_1 := blk_frozen BK164.out 1; have hfz88_2 := blk_frozen BK164.out 2; have hfz88_3 := blk_frozen BK164.out 3; have hfz88_4 := blk_frozen BK164.out 4; have hfz88_5 := blk_frozen BK164.out 5; have hfz88_6 := blk_frozen BK164.out 6; have hfz88_7 := blk_frozen BK164.out 7; have hfz88_8 := blk_frozen BK164.out 8; have hfz88_9 := blk_frozen BK164.out 9; have hfz88_10 := blk_frozen BK164.out 10; have hfz88_11 := blk_frozen BK164.out 11) | ((with_reducible refine gate_callee (f := 10) rfl ?_); refine goesL_ (some 40) rfl rfl Try.func10 (by kernel_rfl) rfl #[.agg #[.int .i64 a1_0, .int .i64 a1_1, .int .i64 a1_2, .int .i64 a1_3, .int .i64 a1_4, .int .i64 a1_5, .int .i64 a1_6, .int .i64 a1_7, .bool a1_8, .int .i64 a1_9, .int .i64 a1_10, .int .i64 a1_11]] rfl (by (try simp only [List.map_toArray, List.map_cons, List.map_nil]); first | done | rfl | (simp only [List.length_drop, List.length_take]; rfl)) ?_; (with_reducible refine (config_Steps.calls a1_0 a1_1 a1_2 a1_3 a1_4 a1_5 a1_6 a1_7 a1_8 a1_9 a1_10 a1_11 t174 _ A59.out).mono ?_); rintro e w89 ⟨rfl, hb⟩; refine ⟨_, rfl, ?_⟩; have n0_ := Aside0.mk (blk_below (g := gb163) (o := .cells #[.int .i64 a0_0, .int .i64 a0_1, .int .i64 a0_2, .int .i64 a0_3, .int .i64 a0_4, .int .i64 a0_5, .int .i64 a0_6, .int .i64 a0_7, .bool a0_8, .int .i64 a0_9, .int .i64 a0_10, .int .i64 a0_11] 23 (0, 0)) (by (with_reducible repeat first | refine blk_drewN ?_ _ | refine blk_drew ?_ | refine blk_alloc ?_ _); exact BK163.out) hb); have n1_ := Aside0.mk (blk_below (g := gb164) (o := .cells #[.int .i64 a1_0, .int .i64 a1_1, .int .i64 a1_2, .int .i64 a1_3, .int .i64 a1_4, .int .i64 a1_5, .int .i64 a1_6, .int .i64 a1_7, .bool a1_8, .int .i64 a1_9, .int .i64 a1_10, .int .i64 a1_11] 23 (0, 0)) (by (with_reducible repeat first | refine blk_drewN ?_ _ | refine blk_drew ?_ | refine blk_alloc ?_ _); exact BK164.out) hb); have n2_ := Aside0.mk (below_step (by repeat (first | (with_reducible first | exact HB.out | apply below_alloc | apply pw_below_drewN | apply below_drew1 | refine below_set ?_ GE163.out | refine below_set ?_ GE164.out) | exact HB.out)) hb); clear BK163; clear BK164; clear HB; have BK163 := n0_; have BK164 := n1_; have HB := n2_; clear n0_ n1_ n2_; (try clear hb); (try clear hb2); (try clear hk); (try clear hi); have hcz90_0 : w89.cell? ⟨gb163, 0, none⟩ = some (.int .i64 a0_0) := (blk_cell BK163.out 0).trans rfl; have hcz90_1 : w89.cell? ⟨gb163, 1, none⟩ = some (.int .i64 a0_1) := (blk_cell BK163.out 1).trans rfl; have hcz90_2 : w89.cell? ⟨gb163, 2, none⟩ = some (.int .i64 a0_2) := (blk_cell BK163.out 2).trans rfl; have hcz90_3 : w89.cell? ⟨gb163, 3, none⟩ = some (.int .i64 a0_3) := (blk_cell BK163.out 3).trans rfl; have hcz90_4 : w89.cell? ⟨gb163, 4, none⟩ = some (.int .i64 a0_4) := (blk_cell BK163.out 4).trans rfl; have hcz90_5 : w89.cell? ⟨gb163, 5, none⟩ = some (.int .i64 a0_5) := (blk_cell BK163.out 5).trans rfl; have hcz90_6 : w89.cell? ⟨gb163, 6, none⟩ = some (.int .i64 a0_6) := (blk_cell BK163.out 6).trans rfl; have hcz90_7 : w89.cell? ⟨gb163, 7, none⟩ = some (.int .i64 a0_7) := (blk_cell BK163.out 7).trans rfl; have hcz90_8 : w89.cell? ⟨gb163, 8, none⟩ = some (.bool a0_8) := (blk_cell BK163.out 8).trans rfl; have hcz90_9 : w89.cell? ⟨gb163, 9, none⟩ = some (.int .i64 a0_9) := (blk_cell BK163.out 9).trans rfl; have hcz90_10 : w89.cell? ⟨gb163, 10, none⟩ = some (.int .i64 a0_10) := (blk_cell BK163.out 10).trans rfl; have hcz90_11 : w89.cell? ⟨gb163, 11, none⟩ = some (.int .i64 a0_11) := (blk_cell BK163.out 11).trans rfl; have hfz90_0 := blk_frozen BK163.out 0; have hfz90_1 := blk_frozen BK163.out 1; have hfz90_2 := blk_frozen BK163.out 2; have hfz90_3 := blk_frozen BK163.out 3; have hfz90_4 := blk_frozen BK163.out 4; have hfz90_5 := blk_frozen BK163.out 5; have hfz90_6 := blk_frozen BK163.out 6; have hfz90_7 := blk_frozen BK163.out 7; have hfz90_8 := blk_frozen BK163.out 8; have hfz90_9 := blk_frozen BK163.out 9; have hfz90_10 := blk_frozen BK163.out 10; have hfz90_11 := blk_frozen BK163.out 11; have hcz91_0 : w89.cell? ⟨gb164, 0, none⟩ = some (.int .i64 a1_0) := (blk_cell BK164.out 0).trans rfl; have hcz91_1 : w89.cell? ⟨gb164, 1, none⟩ = some (.int .i64 a1_1) := (blk_cell BK164.out 1).trans rfl; have hcz91_2 : w89.cell? ⟨gb164, 2, none⟩ = some (.int .i64 a1_2) := (blk_cell BK164.out 2).trans rfl; have hcz91_3 : w89.cell? ⟨gb164, 3, none⟩ = some (.int .i64 a1_3) := (blk_cell BK164.out 3).trans rfl; have hcz91_4 : w89.cell? ⟨gb164, 4, none⟩ = some (.int .i64 a1_4) := (blk_cell BK164.out 4).trans rfl; have hcz91_5 : w89.cell? ⟨gb164, 5, none⟩ = some (.int .i64 a1_5) := (blk_cell BK164.out 5).trans rfl; have hcz91_6 : w89.cell? ⟨gb164, 6, none⟩ = some (.int .i64 a1_6) := (blk_cell BK164.out 6).trans rfl; have hcz91_7 : w89.cell? ⟨gb164, 7, none⟩ = some (.int .i64 a1_7) := (blk_cell BK164.out 7).trans rfl; have hcz91_8 : w89.cell? ⟨gb164, 8, none⟩ = some (.bool a1_8) := (blk_cell BK164.out 8).trans rfl; have hcz91_9 : w89.cell? ⟨gb164, 9, none⟩ = some (.int .i64 a1_9) := (blk_cell BK164.out 9).trans rfl; have hcz91_10 : w89.cell? ⟨gb164, 10, none⟩ = some (.int .i64 a1_10) := (blk_cell BK164.out 10).trans rfl; have hcz91_11 : w89.cell? ⟨gb164, 11, none⟩ = some (.int .i64 a1_11) := (blk_cell BK164.out 11).trans rfl; have hfz91_0 := blk_frozen BK164.out 0; have hfz91_1 := blk_frozen BK164.out 1; have hfz91_2 := blk_frozen BK164.out 2; have hfz91_3 := blk_frozen BK164.out 3; have hfz91_4 := blk_frozen BK164.out 4; have hfz91_5 := blk_frozen BK164.out 5; have hfz91_6 := blk_frozen BK164.out 6; have hfz91_7 := blk_frozen BK164.out 7; have hfz91_8 := blk_frozen BK164.out 8; have hfz91_9 := blk_frozen BK164.out 9; have hfz91_10 := blk_frozen BK164.out 10; have hfz91_11 := blk_frozen BK164.out 11))
        go_ret
        exact ⟨by first | rfl | (simp [errW_none, errW_some] <;> rfl) | (simp [*, errW_none, errW_some] <;> rfl), by repeat (first | (with_reducible first | exact HB.out | apply below_alloc | apply pw_below_drewN | apply below_drew1 | refine below_set ?_ GE163.out | refine below_set ?_ GE164.out) | exact HB.out)⟩
    ·rw [if_neg c60] at H
     have c60b0 : decide (20 ≤ t173) = false := decide_eq_false c60
     clear c60
     exact absurd ((Option.some.inj H).trans hr_.out) (by decide)

end Go.Proofs.Ytalmkdahapemcaa.PA
