-- Laid by a program of this session over the kit's print; hand-proved functions stand among them. Not trusted: Lean checks it.
import Derived.Test.YtdfcioadccijfaaPAx0
namespace Go.Proofs.Ytdfcioadccijfaa.PA
open Go.RowKit Go.Proofs.YtdfcioadccijfaaW.PrintWords Go.Proofs.YtdfcioadccijfaaW.PrintLast Go.Proofs.YtdfcioadccijfaaW.PrintMore
attribute [local go_sem] max2_int min2_int max_two min_two max_three min_three max_four min_four   -- for this text's walks alone
set_option linter.unusedVariables false
set_option linter.unusedSimpArgs false

/-! ### millstreamlaw06_its: function 26 -/
mutual
def millstreamlaw06_its.l0 : Nat → Int → List Int → List (List (S63)) → List Int → List (List (S66)) → Option (List Int × (List (List (S66))))
 | 0, _, _, _, _, _ => none
 | k + 1, x4, x193000, x193001, x195000, x195001 => if x4 < (x193001.length : Int) then (millstreamlaw06_its.j1 k x4 (decide (x4 < 60)) x193000 x193001 x195000 x195001) else (millstreamlaw06_its.j1 k x4 false x193000 x193001 x195000 x195001)
def millstreamlaw06_its.j1 : Nat → Int → Bool → List Int → List (List (S63)) → List Int → List (List (S66)) → Option (List Int × (List (List (S66))))
 | 0, _, _, _, _, _, _ => none
 | k + 1, x4, x18, x193000, x193001, x195000, x195001 => if x18 = true then (millstreamlaw06_its.l1 k x4 (([] : List (S66))) 0 x193000 x193001 x195000 x195001) else (some (x195000, x195001))
def millstreamlaw06_its.l1 : Nat → Int → List (S66) → Int → List Int → List (List (S63)) → List Int → List (List (S66)) → Option (List Int × (List (List (S66))))
 | 0, _, _, _, _, _, _, _ => none
 | k + 1, x4, x5, x6, x193000, x193001, x195000, x195001 => if 0 ≤ x4 then (if x4 < (x193001.length : Int) then (if x6 < ((rd_L7 x193001 x4).length : Int) then (if x6 < 60 then (if 0 ≤ x6 then (if x5.length < 5864062014805 then (millstreamlaw06_its.l1 k x4 (x5 ++ [(⟨(rd_T63 (rd_L7 x193001 x4) x6).f0, (⟨(rd_T63 (rd_L7 x193001 x4) x6).f1.f0, (rd_T63 (rd_L7 x193001 x4) x6).f1.f1⟩ : S64)⟩ : S66)]) (wrap64 (x6 + 1)) x193000 x193001 x195000 x195001) else (none)) else (none)) else (if x195001.length < 5864062014805 then (millstreamlaw06_its.l0 k (wrap64 (x4 + 1)) x193000 x193001 x195000 (x195001 ++ [x5])) else (none))) else (if x195001.length < 5864062014805 then (millstreamlaw06_its.l0 k (wrap64 (x4 + 1)) x193000 x193001 x195000 (x195001 ++ [x5])) else (none))) else (none)) else (none)
end
def millstreamlaw06_its.f (k : Nat) (l0_0 : List Int) (l0_1 : List (List (S63))) : Option (List Int × (List (List (S66)))) := millstreamlaw06_its.l0 k 0 l0_0 l0_1 l0_0 ([] : List (List (S66)))
theorem millstreamlaw06_its.mono_l : ∀ k, (∀ y0 y1 y2 y3 y4, LeO (millstreamlaw06_its.l0 k y0 y1 y2 y3 y4) (millstreamlaw06_its.l0 (k + 1) y0 y1 y2 y3 y4)) ∧ (∀ y0 y1 y2 y3 y4 y5, LeO (millstreamlaw06_its.j1 k y0 y1 y2 y3 y4 y5) (millstreamlaw06_its.j1 (k + 1) y0 y1 y2 y3 y4 y5)) ∧ (∀ y0 y1 y2 y3 y4 y5 y6, LeO (millstreamlaw06_its.l1 k y0 y1 y2 y3 y4 y5 y6) (millstreamlaw06_its.l1 (k + 1) y0 y1 y2 y3 y4 y5 y6))
 | 0 => ⟨fun _ _ _ _ _ r h => by simp [millstreamlaw06_its.l0] at h, fun _ _ _ _ _ _ r h => by simp [millstreamlaw06_its.j1] at h, fun _ _ _ _ _ _ _ r h => by simp [millstreamlaw06_its.l1] at h⟩
 | k + 1 => by
  obtain ⟨ih0, ih1, ih2⟩ := millstreamlaw06_its.mono_l k
  refine ⟨?_, ?_, ?_⟩
  ·intro y0 y1 y2 y3 y4
   unfold millstreamlaw06_its.l0
   repeat' first
   | (with_reducible exact ih0 _ _ _ _ _)
   | (with_reducible exact ih1 _ _ _ _ _ _)
   | (with_reducible exact ih2 _ _ _ _ _ _ _)
   | (with_reducible exact LeO.refl _)
   | (with_reducible exact LeO.none _)
   | (with_reducible refine LeO.ite ?_ ?_)
   | (with_reducible refine LeO.bind ?_ (fun _ => ?_))
   | exact ih0 _ _ _ _ _
   | exact ih1 _ _ _ _ _ _
   | exact ih2 _ _ _ _ _ _ _
   | exact LeO.none _
   | refine LeO.ite ?_ ?_
   | refine LeO.bind ?_ (fun _ => ?_)
  ·intro y0 y1 y2 y3 y4 y5
   unfold millstreamlaw06_its.j1
   repeat' first
   | (with_reducible exact ih0 _ _ _ _ _)
   | (with_reducible exact ih1 _ _ _ _ _ _)
   | (with_reducible exact ih2 _ _ _ _ _ _ _)
   | (with_reducible exact LeO.refl _)
   | (with_reducible exact LeO.none _)
   | (with_reducible refine LeO.ite ?_ ?_)
   | (with_reducible refine LeO.bind ?_ (fun _ => ?_))
   | exact ih0 _ _ _ _ _
   | exact ih1 _ _ _ _ _ _
   | exact ih2 _ _ _ _ _ _ _
   | exact LeO.none _
   | refine LeO.ite ?_ ?_
   | refine LeO.bind ?_ (fun _ => ?_)
  ·intro y0 y1 y2 y3 y4 y5 y6
   unfold millstreamlaw06_its.l1
   repeat' first
   | (with_reducible exact ih0 _ _ _ _ _)
   | (with_reducible exact ih1 _ _ _ _ _ _)
   | (with_reducible exact ih2 _ _ _ _ _ _ _)
   | (with_reducible exact LeO.refl _)
   | (with_reducible exact LeO.none _)
   | (with_reducible refine LeO.ite ?_ ?_)
   | (with_reducible refine LeO.bind ?_ (fun _ => ?_))
   | exact ih0 _ _ _ _ _
   | exact ih1 _ _ _ _ _ _
   | exact ih2 _ _ _ _ _ _ _
   | exact LeO.none _
   | refine LeO.ite ?_ ?_
   | refine LeO.bind ?_ (fun _ => ?_)
theorem millstreamlaw06_its.mono : ∀ a0 a1 k, LeO (millstreamlaw06_its.f k a0 a1) (millstreamlaw06_its.f (k + 1) a0 a1) := by
 intro a0 a1 k
 obtain ⟨ih0, ih1, ih2⟩ := millstreamlaw06_its.mono_l k
 unfold millstreamlaw06_its.f
 repeat' first
   | (with_reducible exact ih0 _ _ _ _ _)
   | (with_reducible exact ih1 _ _ _ _ _ _)
   | (with_reducible exact ih2 _ _ _ _ _ _ _)
   | (with_reducible exact LeO.refl _)
   | (with_reducible exact LeO.none _)
   | (with_reducible refine LeO.ite ?_ ?_)
   | (with_reducible refine LeO.bind ?_ (fun _ => ?_))
   | exact ih0 _ _ _ _ _
   | exact ih1 _ _ _ _ _ _
   | exact ih2 _ _ _ _ _ _ _
   | exact LeO.none _
   | refine LeO.ite ?_ ?_
   | refine LeO.bind ?_ (fun _ => ?_)
def millstreamlaw06_its.T9 : Bool × List (List Nat × List Nat) := (true, [([], []), ([], []), ([1], [1]), ([], []), ([2, 3], [2, 3]), ([4], [4]), ([], []), ([5, 6], [5, 6]), ([7], [7]), ([8], [8]), ([], []), ([10], [10]), ([], []), ([11, 12], [11, 12]), ([13], [13]), ([], []), ([14, 15], [14, 15]), ([16], [16]), ([17], [17]), ([9, 18], [9, 18]), ([19], [19]), ([0, 20], [0, 20]), ([21, 21, 0, 1, 2, 3, 4, 5, 6, 7, 8, 9, 10, 11, 12, 13, 14, 15, 16, 17, 18, 19, 20, 21], [0, 21])])
def millstreamlaw06_its.B9 : List Nat := [0, 0, 2, 0, 14, 30, 0, 126, 254, 510, 0, 1024, 0, 7168, 15360, 0, 64512, 130048, 261120, 524286, 1048574, 2097151, 4194303]
theorem millstreamlaw06_its.tab9 : rtab .any (opsOf Try.f26 9) = millstreamlaw06_its.T9 := by kernel_rfl
theorem millstreamlaw06_its.bits9 : waitsOk millstreamlaw06_its.T9.2 millstreamlaw06_its.B9 = true := by kernel_rfl
set_option maxHeartbeats 60000000 in
set_option maxRecDepth 100000 in
theorem millstreamlaw06_its.calls (k : Nat) (P0_0_ : Nat → Prop) (u9000_ : Value) (l0_0 : List Int) (A0_1 : Option Addr) (c0_1 : Nat) (l0_1 : List (List (S63))) (r1 : List Int) (r2 : List (List (S66))) (w0 w : World) (hB : Below w0.heap.size w0 w) (ho0_0 : Kd.R (Kd.int .i64) 3 w w0.heap.size P0_0_ u9000_ l0_0) (hr0_1 : ∀ W_, Kept w W_ (fun k_ => P0_0_ k_) → Kd.C (Kd.slice 63 k63) W_ A0_1 l0_1.length l0_1) (hc0_1 : l0_1.length ≤ c0_1) (h : millstreamlaw06_its.f k l0_0 l0_1 = some (r1, r2)) :
  Calls Try.prog 26 #[.agg #[u9000_, .slice A0_1 l0_1.length c0_1]] w fun e w' => ∃ v0_ v1_ : Value, e = .returned (.agg #[v0_, v1_]) ∧ Kd.R (Kd.int .i64) 3 w' w0.heap.size (fun k_ => (P0_0_ k_ ∨ w.heap.size ≤ k_)) v0_ r1 ∧ Kd.N (Kd.slice 66 k66) 58 w' w.heap.size (fun k_ => (P0_0_ k_ ∨ w.heap.size ≤ k_) ∧ some k_ ≠ (v0_ : Value).ownBlock) v1_ r2 ∧ Below w0.heap.size w0 w' ∧ Kept w w' (fun k_ => P0_0_ k_) := by
 have hu39 := Try.underlying39
 have hu44 := Try.underlying44
 have hu61 := Try.underlying61
 have hu66 := Try.underlying66
 have HO0_0 := Aside0.mk (show Kd.R (Kd.int .i64) 3 w w0.heap.size (fun k_ => (P0_0_ k_ ∨ w.heap.size ≤ k_)) u9000_ l0_0 from Kd.R_mono ho0_0 (fun k_ hk => (.inl hk)))
 have HR0_1 := Aside0.mk hr0_1
 have HC0_1 := Aside0.mk hc0_1
 clear hr0_1 hc0_1
 have HK := Aside0.mk (Kept.refl w (fun k_ => P0_0_ k_))
 have HW0 := Aside0.mk hB.size
 have HB := Aside0.mk hB
 clear hB
 have H : (millstreamlaw06_its.l0 k 0 l0_0 l0_1 l0_0 ([] : List (List (S66)))) = some (r1, r2) := h
 clear h
 have H' := Aside0.mk H
 clear H
 obtain ⟨Ao2, co2, eo2⟩ := Kd.R_slice HO0_0.out
 subst eo2
 go_enter Try.func26, Try.ntmps26
 go_wp2_with (first | ((with_reducible refine gate_dst (N := 1) rfl ?_); refine box_event ?hg (N := 1) ?hd (cs := #[.slice Ao2 l0_0.length co2, .slice A0_1 l0_1.length c0_1]) (t := 39) ?hr ?_; (case hd => rfl); (case hg => rfl); (case hr => first | (go_simp; done) | (go_simp; rfl)); intro gb192 hg w3 hbox hb; have n0_ := Aside0.mk (Kd.R_below (by (with_reducible repeat (first | apply Kd.R_alloc | apply Kd.R_drewN | apply Kd.R_drew)); exact HO0_0.out) hb); have n1_ := Aside0.mk (Kept.below (S := (fun k_ => P0_0_ k_)) (by repeat (first | (with_reducible first | exact HK.out | apply Kept.alloc | apply Kept.drewN | apply Kept.drew) | exact HK.out)) hb); have n2_ := Aside0.mk (below_step (by repeat (first | (with_reducible first | exact HB.out | apply below_alloc | apply pw_below_drewN | apply below_drew1) | exact HB.out)) hb); have n3_ := Aside0.mk (hbox); have n4_ := Aside0.mk ((by rw [hg]; exact (by first | exact HK.out.1 | exact (show Kept w _ (fun k_ => P0_0_ k_) from by repeat (first | (with_reducible first | exact HK.out | apply Kept.alloc | apply Kept.drewN | apply Kept.drew) | exact HK.out)).1) : w.heap.size ≤ gb192)); have n5_ := Aside0.mk ((by rw [hg]; exact (below_size (by repeat (first | (with_reducible first | exact HB.out | apply below_alloc | apply pw_below_drewN | apply below_drew1) | exact HB.out))) : w0.heap.size ≤ gb192)); clear HO0_0; clear HK; clear HB; have HO0_0 := n0_; have HK := n1_; have HB := n2_; have BK192 := n3_; have GW192 := n4_; have GE192 := n5_; clear n0_ n1_ n2_ n3_ n4_ n5_; clear hb hbox hg) | ((with_reducible refine gate_dst (N := 2) rfl ?_); refine box_event ?hg (N := 2) ?hd (cs := #[.slice none 0 0, .slice none 0 0]) (t := 44) ?hr ?_; (case hd => rfl); (case hg => rfl); (case hr => first | (go_simp; done) | (go_simp; rfl)); intro gb193 hg w4 hbox hb; have n0_ := Aside0.mk (Kd.R_below (by (with_reducible repeat (first | apply Kd.R_alloc | apply Kd.R_drewN | apply Kd.R_drew)); exact HO0_0.out) hb); have n1_ := Aside0.mk (blk_below (g := gb192) (o := .cells #[.slice Ao2 l0_0.length co2, .slice A0_1 l0_1.length c0_1] 39 (0, 0)) (by (with_reducible repeat first | refine blk_drewN ?_ _ | refine blk_drew ?_ | refine blk_alloc ?_ _); exact BK192.out) hb); have n2_ := Aside0.mk (Kept.below (S := (fun k_ => P0_0_ k_)) (by repeat (first | (with_reducible first | exact HK.out | apply Kept.alloc | apply Kept.drewN | apply Kept.drew | refine Kept.setCell ?_ (.inr GW192.out) _) | exact HK.out)) hb); have n3_ := Aside0.mk (below_step (by repeat (first | (with_reducible first | exact HB.out | apply below_alloc | apply pw_below_drewN | apply below_drew1 | refine below_set ?_ GE192.out) | exact HB.out)) hb); have n4_ := Aside0.mk (hbox); have n5_ := Aside0.mk ((by rw [hg]; exact (by first | exact HK.out.1 | exact (show Kept w _ (fun k_ => P0_0_ k_) from by repeat (first | (with_reducible first | exact HK.out | apply Kept.alloc | apply Kept.drewN | apply Kept.drew | refine Kept.setCell ?_ (.inr GW192.out) _) | exact HK.out)).1) : w.heap.size ≤ gb193)); have n6_ := Aside0.mk ((by rw [hg]; exact (below_size (by repeat (first | (with_reducible first | exact HB.out | apply below_alloc | apply pw_below_drewN | apply below_drew1 | refine below_set ?_ GE192.out) | exact HB.out))) : w0.heap.size ≤ gb193)); have n7_ := Aside0.mk ((by rw [hg]; exact Nat.ne_of_lt (blk_lt (g := gb192) (o := .cells #[.slice Ao2 l0_0.length co2, .slice A0_1 l0_1.length c0_1] 39 (0, 0)) (by (with_reducible repeat first | refine blk_drewN ?_ _ | refine blk_drew ?_ | refine blk_alloc ?_ _); exact BK192.out)) : gb192 ≠ gb193)); have n8_ := Aside0.mk ((by rw [hg]; exact Nat.ne_of_gt (blk_lt (g := gb192) (o := .cells #[.slice Ao2 l0_0.length co2, .slice A0_1 l0_1.length c0_1] 39 (0, 0)) (by (with_reducible repeat first | refine blk_drewN ?_ _ | refine blk_drew ?_ | refine blk_alloc ?_ _); exact BK192.out)) : gb193 ≠ gb192)); clear HO0_0; clear BK192; clear HK; clear HB; have HO0_0 := n0_; have BK192 := n1_; have HK := n2_; have HB := n3_; have BK193 := n4_; have GW193 := n5_; have GE193 := n6_; have NB192_193 := n7_; have NB193_192 := n8_; clear n0_ n1_ n2_ n3_ n4_ n5_ n6_ n7_ n8_; clear hb hbox hg; have hnb5 := NB192_193.out; have hnc5 := NB193_192.out; have hcz6_0 : w4.cell? ⟨gb192, 0, none⟩ = some (.slice Ao2 l0_0.length co2) := (blk_cell BK192.out 0).trans rfl; have hcz6_1 : w4.cell? ⟨gb192, 1, none⟩ = some (.slice A0_1 l0_1.length c0_1) := (blk_cell BK192.out 1).trans rfl; have hfz6_0 := blk_frozen BK192.out 0; have hfz6_1 := blk_frozen BK192.out 1) | ((with_reducible refine gate_dst (N := 3) rfl ?_); refine box_event ?hg (N := 3) ?hd (cs := #[.slice none 0 0, .slice none 0 0]) (t := 44) ?hr ?_; (case hd => rfl); (case hg => rfl); (case hr => first | (go_simp; done) | (go_simp; rfl)); intro gb194 hg w7 hbox hb; have n0_ := Aside0.mk (Kd.R_below (by (with_reducible repeat (first | apply Kd.R_alloc | apply Kd.R_drewN | apply Kd.R_drew)); exact HO0_0.out) hb); have n1_ := Aside0.mk (blk_below (g := gb192) (o := .cells #[.slice Ao2 l0_0.length co2, .slice A0_1 l0_1.length c0_1] 39 (0, 0)) (by (with_reducible repeat first | refine blk_drewN ?_ _ | refine blk_drew ?_ | refine blk_alloc ?_ _); exact BK192.out) hb); have n2_ := Aside0.mk (blk_below (g := gb193) (o := .cells #[.slice none 0 0, .slice none 0 0] 44 (0, 0)) (by (with_reducible repeat first | refine blk_drewN ?_ _ | refine blk_drew ?_ | refine blk_alloc ?_ _); exact BK193.out) hb); have n3_ := Aside0.mk (Kept.below (S := (fun k_ => P0_0_ k_)) (by repeat (first | (with_reducible first | exact HK.out | apply Kept.alloc | apply Kept.drewN | apply Kept.drew | refine Kept.setCell ?_ (.inr GW192.out) _ | refine Kept.setCell ?_ (.inr GW193.out) _) | exact HK.out)) hb); have n4_ := Aside0.mk (below_step (by repeat (first | (with_reducible first | exact HB.out | apply below_alloc | apply pw_below_drewN | apply below_drew1 | refine below_set ?_ GE192.out | refine below_set ?_ GE193.out) | exact HB.out)) hb); have n5_ := Aside0.mk (hbox); have n6_ := Aside0.mk ((by rw [hg]; exact (by first | exact HK.out.1 | exact (show Kept w _ (fun k_ => P0_0_ k_) from by repeat (first | (with_reducible first | exact HK.out | apply Kept.alloc | apply Kept.drewN | apply Kept.drew | refine Kept.setCell ?_ (.inr GW192.out) _ | refine Kept.setCell ?_ (.inr GW193.out) _) | exact HK.out)).1) : w.heap.size ≤ gb194)); have n7_ := Aside0.mk ((by rw [hg]; exact (below_size (by repeat (first | (with_reducible first | exact HB.out | apply below_alloc | apply pw_below_drewN | apply below_drew1 | refine below_set ?_ GE192.out | refine below_set ?_ GE193.out) | exact HB.out))) : w0.heap.size ≤ gb194)); have n8_ := Aside0.mk ((by rw [hg]; exact Nat.ne_of_lt (blk_lt (g := gb192) (o := .cells #[.slice Ao2 l0_0.length co2, .slice A0_1 l0_1.length c0_1] 39 (0, 0)) (by (with_reducible repeat first | refine blk_drewN ?_ _ | refine blk_drew ?_ | refine blk_alloc ?_ _); exact BK192.out)) : gb192 ≠ gb194)); have n9_ := Aside0.mk ((by rw [hg]; exact Nat.ne_of_gt (blk_lt (g := gb192) (o := .cells #[.slice Ao2 l0_0.length co2, .slice A0_1 l0_1.length c0_1] 39 (0, 0)) (by (with_reducible repeat first | refine blk_drewN ?_ _ | refine blk_drew ?_ | refine blk_alloc ?_ _); exact BK192.out)) : gb194 ≠ gb192)); have n10_ := Aside0.mk ((by rw [hg]; exact Nat.ne_of_lt (blk_lt (g := gb193) (o := .cells #[.slice none 0 0, .slice none 0 0] 44 (0, 0)) (by (with_reducible repeat first | refine blk_drewN ?_ _ | refine blk_drew ?_ | refine blk_alloc ?_ _); exact BK193.out)) : gb193 ≠ gb194)); have n11_ := Aside0.mk ((by rw [hg]; exact Nat.ne_of_gt (blk_lt (g := gb193) (o := .cells #[.slice none 0 0, .slice none 0 0] 44 (0, 0)) (by (with_reducible repeat first | refine blk_drewN ?_ _ | refine blk_drew ?_ | refine blk_alloc ?_ _); exact BK193.out)) : gb194 ≠ gb193)); clear HO0_0; clear BK192; clear BK193; clear HK; clear HB; have HO0_0 := n0_; have BK192 := n1_; have BK193 := n2_; have HK := n3_; have HB := n4_; have BK194 := n5_; have GW194 := n6_; have GE194 := n7_; have NB192_194 := n8_; have NB194_192 := n9_; have NB193_194 := n10_; have NB194_193 := n11_; clear n0_ n1_ n2_ n3_ n4_ n5_ n6_ n7_ n8_ n9_ n10_ n11_; clear hb hbox hg; have hnb8 := NB194_192.out; have hnc8 := NB192_194.out; have hnb9 := NB194_193.out; have hnc9 := NB193_194.out; have hcz10_0 : w7.cell? ⟨gb194, 0, none⟩ = some (.slice none 0 0) := (blk_cell BK194.out 0).trans rfl; have hcz10_1 : w7.cell? ⟨gb194, 1, none⟩ = some (.slice none 0 0) := (blk_cell BK194.out 1).trans rfl; have hfz10_0 := blk_frozen BK194.out 0; have hfz10_1 := blk_frozen BK194.out 1))
 go_loopg [4] k (fun kq v4 w' => ∃ (x4_1 : Int) (x195001_1 : List (List (S66))) (u195001 : Value), v4 = .int .i64 x4_1 ∧ Aside0 (millstreamlaw06_its.l0 kq x4_1 l0_0 l0_1 l0_0 x195001_1 = some (r1, r2)) ∧ Aside0 (kq ≤ k) ∧ Aside0 (Kd.R (Kd.int .i64) 3 w' w0.heap.size (fun k_ => (P0_0_ k_ ∨ w.heap.size ≤ k_)) (.slice Ao2 l0_0.length co2) l0_0) ∧ Aside0 (Kd.R (Kd.int .i64) 3 w' w0.heap.size (fun k_ => (P0_0_ k_ ∨ w.heap.size ≤ k_)) (.slice Ao2 l0_0.length co2) l0_0) ∧ Aside0 (Kd.N (Kd.slice 66 k66) 58 w' w.heap.size (fun k_ => (P0_0_ k_ ∨ w.heap.size ≤ k_) ∧ some k_ ≠ ((.slice Ao2 l0_0.length co2) : Value).ownBlock ∧ some k_ ≠ ((.slice Ao2 l0_0.length co2) : Value).ownBlock ∧ k_ ≠ gb192 ∧ k_ ≠ gb193 ∧ k_ ≠ gb194) u195001 x195001_1) ∧ Aside0 (w'.heap[gb192]? = some (.cells #[(.slice Ao2 l0_0.length co2), (.slice A0_1 l0_1.length c0_1)] 39 (0, 0))) ∧ Aside0 (w'.heap[gb193]? = some (.cells #[(.slice none 0 0), (.slice none 0 0)] 44 (0, 0))) ∧ Aside0 (w'.heap[gb194]? = some (.cells #[(.slice Ao2 l0_0.length co2), u195001] 44 (0, 0))) ∧ Aside0 (Kept w w' (fun k_ => P0_0_ k_)) ∧ Aside0 (Below w0.heap.size w0 w'))
 case atStart => exact ⟨(0), (([] : List (List (S66)))), (.slice none 0 0), (by first | rfl | (simp; done) | (simp [*]; done)), H', ⟨Nat.le_refl _⟩, ⟨by (with_reducible repeat (first | apply Kd.R_alloc | apply Kd.R_drewN | apply Kd.R_drew)); exact Kd.R_mono (Kd.R_far (p := ⟨gb194, 1, none⟩) (Kd.R_far (p := ⟨gb194, 0, none⟩) (Kd.R_types HO0_0.out BK194.out (by decide)) (fun _ hk => hk.2) (.slice Ao2 l0_0.length co2)) (fun _ hk => hk.2) (.slice none 0 0)) (fun _ hk => hk.1)⟩, ⟨by (with_reducible repeat (first | apply Kd.R_alloc | apply Kd.R_drewN | apply Kd.R_drew)); exact Kd.R_mono (Kd.R_far (p := ⟨gb194, 1, none⟩) (Kd.R_far (p := ⟨gb194, 0, none⟩) (Kd.R_types HO0_0.out BK194.out (by decide)) (fun _ hk => hk.2) (.slice Ao2 l0_0.length co2)) (fun _ hk => hk.2) (.slice none 0 0)) (fun _ hk => hk.1)⟩, ⟨by first | exact Kd.S_nil _ _ _ _ _ | exact Kd.N_nil _ _ _ _ _ | exact Kd.V_nil _ _ _ _ _ | exact Kd.Q_nil _ _ _ _ _ | exact Kd.R_nil _ _ _ _ _⟩, ⟨by (iterate 2 ((with_reducible repeat first | refine blk_drewN ?_ _ | refine blk_drew ?_ | refine blk_alloc ?_ _); refine blk_far ?_ NB192_194.out _)); (with_reducible repeat first | refine blk_drewN ?_ _ | refine blk_drew ?_ | refine blk_alloc ?_ _); exact BK192.out⟩, ⟨by (iterate 2 ((with_reducible repeat first | refine blk_drewN ?_ _ | refine blk_drew ?_ | refine blk_alloc ?_ _); refine blk_far ?_ NB193_194.out _)); (with_reducible repeat first | refine blk_drewN ?_ _ | refine blk_drew ?_ | refine blk_alloc ?_ _); exact BK193.out⟩, ⟨by (with_reducible repeat first | refine blk_drewN ?_ _ | refine blk_drew ?_ | refine blk_alloc ?_ _); refine blk_put (cs := #[.slice Ao2 l0_0.length co2, .slice none 0 0]) ?_ 1 _ rfl; (with_reducible repeat first | refine blk_drewN ?_ _ | refine blk_drew ?_ | refine blk_alloc ?_ _); refine blk_put (cs := #[.slice none 0 0, .slice none 0 0]) ?_ 0 _ rfl; (with_reducible repeat first | refine blk_drewN ?_ _ | refine blk_drew ?_ | refine blk_alloc ?_ _); exact BK194.out⟩, ⟨by repeat (first | (with_reducible first | exact HK.out | apply Kept.alloc | apply Kept.drewN | apply Kept.drew | refine Kept.setCell ?_ (.inr GW192.out) _ | refine Kept.setCell ?_ (.inr GW193.out) _ | refine Kept.setCell ?_ (.inr GW194.out) _) | exact HK.out)⟩, ⟨by repeat (first | (with_reducible first | exact HB.out | apply below_alloc | apply pw_below_drewN | apply below_drew1 | refine below_set ?_ GE192.out | refine below_set ?_ GE193.out | refine below_set ?_ GE194.out) | exact HB.out)⟩⟩
 case round =>
  clear H'
  try clear c2
  try clear p2
  try clear c5
  try clear c8
  try clear c9
  try clear hcz10_0
  try clear hcz10_1
  try clear hcz6_0
  try clear hcz6_1
  try clear hfz10_0
  try clear hfz10_1
  try clear hfz6_0
  try clear hfz6_1
  obtain ⟨x4_1, x195001_1, u195001, rfl, HA, HK1, HO_193000, HO_195000, HO_195001, BK192, BK193, BK194, HK, HB⟩ := hrel
  cases gk with
  | zero => exact absurd HA.out (by simp [millstreamlaw06_its.l0])
  | succ k1 =>
   have H := HA.out
   clear HA
   simp only [millstreamlaw06_its.l0] at H
   have HC11 := Aside0.mk H
   clear H
   go_upto_region 3 with (fail)
   go_cut [18] (fun v18 wc => ∃ (kq : Nat) (x18_10 : Bool), v18 = .bool x18_10 ∧ Aside0 (millstreamlaw06_its.j1 kq x4_1 x18_10 l0_0 l0_1 l0_0 x195001_1 = some (r1, r2)) ∧ Aside0 (kq ≤ k1) ∧ Aside0 (Kd.R (Kd.int .i64) 3 wc w0.heap.size (fun k_ => (P0_0_ k_ ∨ w.heap.size ≤ k_)) (.slice Ao2 l0_0.length co2) l0_0) ∧ Aside0 (Kd.R (Kd.int .i64) 3 wc w0.heap.size (fun k_ => (P0_0_ k_ ∨ w.heap.size ≤ k_)) (.slice Ao2 l0_0.length co2) l0_0) ∧ Aside0 (Kd.N (Kd.slice 66 k66) 58 wc w.heap.size (fun k_ => (P0_0_ k_ ∨ w.heap.size ≤ k_) ∧ some k_ ≠ ((.slice Ao2 l0_0.length co2) : Value).ownBlock ∧ some k_ ≠ ((.slice Ao2 l0_0.length co2) : Value).ownBlock ∧ k_ ≠ gb192 ∧ k_ ≠ gb193 ∧ k_ ≠ gb194) u195001 x195001_1) ∧ Aside0 (wc.heap[gb192]? = some (.cells #[(.slice Ao2 l0_0.length co2), (.slice A0_1 l0_1.length c0_1)] 39 (0, 0))) ∧ Aside0 (wc.heap[gb193]? = some (.cells #[(.slice none 0 0), (.slice none 0 0)] 44 (0, 0))) ∧ Aside0 (wc.heap[gb194]? = some (.cells #[(.slice Ao2 l0_0.length co2), u195001] 44 (0, 0))) ∧ Aside0 (Kept w wc (fun k_ => P0_0_ k_)) ∧ Aside0 (Below w0.heap.size w0 wc))
   case first =>
    have H := HC11.out
    clear HC11
    by_cases c12 : x4_1 < (l0_1.length : Int)
    ·rw [if_pos c12] at H
     have c12b0 : decide (x4_1 < (l0_1.length : Int)) = true := decide_eq_true c12
     clear c12
     (first | rw [c12b0] | (simp only [i64_w, i32_w]; rw [c12b0]) | skip)
     have H' := Aside0.mk H
     clear H
     have hnb13 := NB192_193.out
     have hnc13 := NB193_192.out
     have hnb14 := NB192_194.out
     have hnc14 := NB194_192.out
     have hcz15_0 : wr.cell? ⟨gb192, 0, none⟩ = some (.slice Ao2 l0_0.length co2) := (blk_cell BK192.out 0).trans rfl
     have hcz15_1 : wr.cell? ⟨gb192, 1, none⟩ = some (.slice A0_1 l0_1.length c0_1) := (blk_cell BK192.out 1).trans rfl
     have hfz15_0 := blk_frozen BK192.out 0
     have hfz15_1 := blk_frozen BK192.out 1
     go_wp2
     go_meet
     case rel => exact ⟨_, (decide (x4_1 < 60)), (by first | rfl | (simp; done) | (simp [*]; done)), H', ⟨by have := HK1.out; first | omega | exact Nat.le_refl _⟩, ⟨by (with_reducible repeat (first | apply Kd.R_alloc | apply Kd.R_drewN | apply Kd.R_drew)); exact HO_193000.out⟩, ⟨by (with_reducible repeat (first | apply Kd.R_alloc | apply Kd.R_drewN | apply Kd.R_drew)); exact HO_195000.out⟩, ⟨by (with_reducible repeat (first | apply Kd.N_alloc | apply Kd.N_drewN | apply Kd.N_drew)); exact HO_195001.out⟩, ⟨by (with_reducible repeat first | refine blk_drewN ?_ _ | refine blk_drew ?_ | refine blk_alloc ?_ _); exact BK192.out⟩, ⟨by (with_reducible repeat first | refine blk_drewN ?_ _ | refine blk_drew ?_ | refine blk_alloc ?_ _); exact BK193.out⟩, ⟨by (with_reducible repeat first | refine blk_drewN ?_ _ | refine blk_drew ?_ | refine blk_alloc ?_ _); exact BK194.out⟩, ⟨by repeat (first | (with_reducible first | exact HK.out | apply Kept.alloc | apply Kept.drewN | apply Kept.drew | refine Kept.setCell ?_ (.inr GW192.out) _ | refine Kept.setCell ?_ (.inr GW193.out) _ | refine Kept.setCell ?_ (.inr GW194.out) _) | exact HK.out)⟩, ⟨by repeat (first | (with_reducible first | exact HB.out | apply below_alloc | apply pw_below_drewN | apply below_drew1 | refine below_set ?_ GE192.out | refine below_set ?_ GE193.out | refine below_set ?_ GE194.out) | exact HB.out)⟩⟩
    ·rw [if_neg c12] at H
     have c12b0 : decide (x4_1 < (l0_1.length : Int)) = false := decide_eq_false c12
     clear c12
     (first | rw [c12b0] | (simp only [i64_w, i32_w]; rw [c12b0]) | skip)
     have H' := Aside0.mk H
     clear H
     have hnb16 := NB192_193.out
     have hnc16 := NB193_192.out
     have hnb17 := NB192_194.out
     have hnc17 := NB194_192.out
     have hcz18_0 : wr.cell? ⟨gb192, 0, none⟩ = some (.slice Ao2 l0_0.length co2) := (blk_cell BK192.out 0).trans rfl
     have hcz18_1 : wr.cell? ⟨gb192, 1, none⟩ = some (.slice A0_1 l0_1.length c0_1) := (blk_cell BK192.out 1).trans rfl
     have hfz18_0 := blk_frozen BK192.out 0
     have hfz18_1 := blk_frozen BK192.out 1
     go_wp2
     go_meet
     case rel => exact ⟨_, (false), (by first | rfl | (simp; done) | (simp [*]; done)), H', ⟨by have := HK1.out; first | omega | exact Nat.le_refl _⟩, ⟨by (with_reducible repeat (first | apply Kd.R_alloc | apply Kd.R_drewN | apply Kd.R_drew)); exact HO_193000.out⟩, ⟨by (with_reducible repeat (first | apply Kd.R_alloc | apply Kd.R_drewN | apply Kd.R_drew)); exact HO_195000.out⟩, ⟨by (with_reducible repeat (first | apply Kd.N_alloc | apply Kd.N_drewN | apply Kd.N_drew)); exact HO_195001.out⟩, ⟨by (with_reducible repeat first | refine blk_drewN ?_ _ | refine blk_drew ?_ | refine blk_alloc ?_ _); exact BK192.out⟩, ⟨by (with_reducible repeat first | refine blk_drewN ?_ _ | refine blk_drew ?_ | refine blk_alloc ?_ _); exact BK193.out⟩, ⟨by (with_reducible repeat first | refine blk_drewN ?_ _ | refine blk_drew ?_ | refine blk_alloc ?_ _); exact BK194.out⟩, ⟨by repeat (first | (with_reducible first | exact HK.out | apply Kept.alloc | apply Kept.drewN | apply Kept.drew | refine Kept.setCell ?_ (.inr GW192.out) _ | refine Kept.setCell ?_ (.inr GW193.out) _ | refine Kept.setCell ?_ (.inr GW194.out) _) | exact HK.out)⟩, ⟨by repeat (first | (with_reducible first | exact HB.out | apply below_alloc | apply pw_below_drewN | apply below_drew1 | refine below_set ?_ GE192.out | refine below_set ?_ GE193.out | refine below_set ?_ GE194.out) | exact HB.out)⟩⟩
   case rest =>
    clear HC11
    try clear c1
    try clear c2
    try clear p2
    try clear c5
    try clear c8
    try clear c9
    try clear c12
    try clear c12b0
    try clear c13
    try clear c14
    try clear c16
    try clear c17
    try clear hcz10_0
    try clear hcz10_1
    try clear hcz15_0
    try clear hcz15_1
    try clear hcz18_0
    try clear hcz18_1
    try clear hcz6_0
    try clear hcz6_1
    try clear hfz10_0
    try clear hfz10_1
    try clear hfz15_0
    try clear hfz15_1
    try clear hfz18_0
    try clear hfz18_1
    try clear hfz6_0
    try clear hfz6_1
    try clear p2
    obtain ⟨kq, x18_10, rfl, HA, HJ10, HO_193000, HO_195000, HO_195001, BK192, BK193, BK194, HK, HB⟩ := hcut
    cases kq with
    | zero => exact absurd HA.out (by simp [millstreamlaw06_its.j1])
    | succ kj10 =>
     have H := HA.out
     clear HA
     simp only [millstreamlaw06_its.j1] at H
     by_cases c19 : x18_10 = true
     ·subst c19
      have H1 : (millstreamlaw06_its.l1 kj10 x4_1 (([] : List (S66))) 0 l0_0 l0_1 l0_0 x195001_1) = some (r1, r2) := by rw [if_pos rfl] at H; exact H
      clear H
      have H := H1
      clear H1
      obtain ⟨y195, hy195⟩ : ∃ y_ : List (S66), y_ = (([] : List (S66))) := ⟨_, rfl⟩
      replace H : (millstreamlaw06_its.l1 kj10 x4_1 y195 0 l0_0 l0_1 l0_0 x195001_1) = some (r1, r2) := by first | (rw [hy195]; with_reducible exact H) | (have H2_ := (Option.bind_some _ _).symm.trans H; rw [hy195]; with_reducible exact H2_) | (have H2_ := (Option.bind_some _ _).symm.trans H; with_reducible exact H2_) | with_reducible exact H | (rw [hy195]; exact H) | exact H
      have Ny195 := Aside0.mk hy195
      clear hy195
      have H' := Aside0.mk H
      clear H
      go_wp2_with (first | ((with_reducible refine gate_dst (N := 21) rfl ?_); refine Kd.R_lit k66 _ 66 ?hg (N := 21) ?hd (xs := ([] : List (S66))) (inner := []) (ok := fun _ => True) (okp := fun _ => True) ?hr ?hp (fun _ hk => hk) trivial (Below.refl _ _) (Nat.le_refl _) (by simp) ?_; (case hd => rfl); (case hg => rfl); (case hr => first | (go_simp; done) | (go_simp; rfl)); (case hp => exact (Reps.none _ _)); intro v196 w20 ho21 hb hg_ hnew_; clear hg_ hnew_; (first | rw [← Ny195.out] at ho21 | (simp only [Int.reduceToNat] at ho21; rw [← Ny195.out] at ho21)); have n0_ := Aside0.mk (Kd.R_below (by (with_reducible repeat (first | apply Kd.R_alloc | apply Kd.R_drewN | apply Kd.R_drew)); exact HO_193000.out) hb); have n1_ := Aside0.mk (Kd.R_below (by (with_reducible repeat (first | apply Kd.R_alloc | apply Kd.R_drewN | apply Kd.R_drew)); exact HO_195000.out) hb); have n2_ := Aside0.mk (Kd.N_elder' (by (with_reducible repeat (first | apply Kd.N_alloc | apply Kd.N_drewN | apply Kd.N_drew)); exact HO_195001.out) (Kd.R_base ho21) hb); have n3_ := Aside0.mk (Kd.R_lower (Kd.R_newM (M := fun k_ => (P0_0_ k_ ∨ w.heap.size ≤ k_)) ho21 (by first | exact HK.out.1 | exact (show Kept w _ (fun k_ => P0_0_ k_) from by repeat (first | (with_reducible first | exact HK.out | apply Kept.alloc | apply Kept.drewN | apply Kept.drew | refine Kept.setCell ?_ (.inr GW192.out) _ | refine Kept.setCell ?_ (.inr GW193.out) _ | refine Kept.setCell ?_ (.inr GW194.out) _) | exact HK.out)).1) (fun k_ h_ => .inr h_)) (below_size (by repeat (first | (with_reducible first | exact HB.out | apply below_alloc | apply pw_below_drewN | apply below_drew1 | refine below_set ?_ GE192.out | refine below_set ?_ GE193.out | refine below_set ?_ GE194.out) | exact HB.out)))); have n4_ := Aside0.mk (blk_below (g := gb192) (o := .cells #[.slice Ao2 l0_0.length co2, .slice A0_1 l0_1.length c0_1] 39 (0, 0)) (by (with_reducible repeat first | refine blk_drewN ?_ _ | refine blk_drew ?_ | refine blk_alloc ?_ _); exact BK192.out) hb); have n5_ := Aside0.mk (blk_below (g := gb193) (o := .cells #[.slice none 0 0, .slice none 0 0] 44 (0, 0)) (by (with_reducible repeat first | refine blk_drewN ?_ _ | refine blk_drew ?_ | refine blk_alloc ?_ _); exact BK193.out) hb); have n6_ := Aside0.mk (blk_below (g := gb194) (o := .cells #[.slice Ao2 l0_0.length co2, u195001] 44 (0, 0)) (by (with_reducible repeat first | refine blk_drewN ?_ _ | refine blk_drew ?_ | refine blk_alloc ?_ _); exact BK194.out) hb); have n7_ := Aside0.mk (Kept.below (S := (fun k_ => P0_0_ k_)) (by repeat (first | (with_reducible first | exact HK.out | apply Kept.alloc | apply Kept.drewN | apply Kept.drew | refine Kept.setCell ?_ (.inr GW192.out) _ | refine Kept.setCell ?_ (.inr GW193.out) _ | refine Kept.setCell ?_ (.inr GW194.out) _) | exact HK.out)) hb); have n8_ := Aside0.mk (below_step (by repeat (first | (with_reducible first | exact HB.out | apply below_alloc | apply pw_below_drewN | apply below_drew1 | refine below_set ?_ GE192.out | refine below_set ?_ GE193.out | refine below_set ?_ GE194.out) | exact HB.out)) hb); clear HO_193000; clear HO_195000; clear HO_195001; clear BK192; clear BK193; clear BK194; clear HK; clear HB; have HO_193000 := n0_; have HO_195000 := n1_; have HO_195001 := n2_; have HO197 := n3_; have BK192 := n4_; have BK193 := n5_; have BK194 := n6_; have HK := n7_; have HB := n8_; clear n0_ n1_ n2_ n3_ n4_ n5_ n6_ n7_ n8_; clear hb ho21))
      go_loopg [5, 6] kj10 (fun kq v5 v6 w' => ∃ (x5_3 : List (S66)) (x6_3 : Int), v6 = .int .i64 x6_3 ∧ Aside0 (millstreamlaw06_its.l1 kq x4_1 x5_3 x6_3 l0_0 l0_1 l0_0 x195001_1 = some (r1, r2)) ∧ Aside0 (kq ≤ kj10) ∧ Aside0 (Kd.R k66 66 w' w0.heap.size (fun k_ => (P0_0_ k_ ∨ w.heap.size ≤ k_)) v5 x5_3) ∧ Aside0 (Kd.R (Kd.int .i64) 3 w' w0.heap.size (fun k_ => (P0_0_ k_ ∨ w.heap.size ≤ k_)) (.slice Ao2 l0_0.length co2) l0_0) ∧ Aside0 (Kd.R (Kd.int .i64) 3 w' w0.heap.size (fun k_ => (P0_0_ k_ ∨ w.heap.size ≤ k_)) (.slice Ao2 l0_0.length co2) l0_0) ∧ Aside0 (Kd.N (Kd.slice 66 k66) 58 w' w.heap.size (fun k_ => (P0_0_ k_ ∨ w.heap.size ≤ k_) ∧ some k_ ≠ (v5 : Value).ownBlock ∧ some k_ ≠ ((.slice Ao2 l0_0.length co2) : Value).ownBlock ∧ some k_ ≠ ((.slice Ao2 l0_0.length co2) : Value).ownBlock ∧ k_ ≠ gb192 ∧ k_ ≠ gb193 ∧ k_ ≠ gb194) u195001 x195001_1) ∧ Aside0 (w'.heap[gb192]? = some (.cells #[(.slice Ao2 l0_0.length co2), (.slice A0_1 l0_1.length c0_1)] 39 (0, 0))) ∧ Aside0 (w'.heap[gb193]? = some (.cells #[(.slice none 0 0), (.slice none 0 0)] 44 (0, 0))) ∧ Aside0 (w'.heap[gb194]? = some (.cells #[(.slice Ao2 l0_0.length co2), u195001] 44 (0, 0))) ∧ Aside0 (Kept w w' (fun k_ => P0_0_ k_)) ∧ Aside0 (Below w0.heap.size w0 w'))
      case atStart => exact ⟨(y195), (0), (by first | rfl | (simp; done) | (simp [*]; done)), H', ⟨Nat.le_refl _⟩, ⟨by (with_reducible repeat (first | apply Kd.R_alloc | apply Kd.R_drewN | apply Kd.R_drew)); exact Kd.R_mono HO197.out (fun _ hk => hk.1)⟩, ⟨by (with_reducible repeat (first | apply Kd.R_alloc | apply Kd.R_drewN | apply Kd.R_drew)); exact HO_193000.out⟩, ⟨by (with_reducible repeat (first | apply Kd.R_alloc | apply Kd.R_drewN | apply Kd.R_drew)); exact HO_195000.out⟩, ⟨by (with_reducible repeat (first | apply Kd.N_alloc | apply Kd.N_drewN | apply Kd.N_drew)); exact Kd.N_mono HO_195001.out (fun _ hk => ⟨hk.1.1, ⟨hk.2, ⟨hk.1.2.1, ⟨hk.1.2.2.1, ⟨hk.1.2.2.2.1, ⟨hk.1.2.2.2.2.1, hk.1.2.2.2.2.2⟩⟩⟩⟩⟩⟩)⟩, ⟨by (with_reducible repeat first | refine blk_drewN ?_ _ | refine blk_drew ?_ | refine blk_alloc ?_ _); exact BK192.out⟩, ⟨by (with_reducible repeat first | refine blk_drewN ?_ _ | refine blk_drew ?_ | refine blk_alloc ?_ _); exact BK193.out⟩, ⟨by (with_reducible repeat first | refine blk_drewN ?_ _ | refine blk_drew ?_ | refine blk_alloc ?_ _); exact BK194.out⟩, ⟨by repeat (first | (with_reducible first | exact HK.out | apply Kept.alloc | apply Kept.drewN | apply Kept.drew | refine Kept.setCell ?_ (.inr GW192.out) _ | refine Kept.setCell ?_ (.inr GW193.out) _ | refine Kept.setCell ?_ (.inr GW194.out) _) | exact HK.out)⟩, ⟨by repeat (first | (with_reducible first | exact HB.out | apply below_alloc | apply pw_below_drewN | apply below_drew1 | refine below_set ?_ GE192.out | refine below_set ?_ GE193.out | refine below_set ?_ GE194.out) | exact HB.out)⟩⟩
      case round =>
       clear H'
       try clear c1
       try clear c2
       try clear p2
       try clear c5
       try clear c8
       try clear c9
       try clear c12
       try clear c12b0
       try clear c13
       try clear c14
       try clear c16
       try clear c17
       try clear c19
       try clear hcz10_0
       try clear hcz10_1
       try clear hcz15_0
       try clear hcz15_1
       try clear hcz18_0
       try clear hcz18_1
       try clear hcz6_0
       try clear hcz6_1
       try clear hfz10_0
       try clear hfz10_1
       try clear hfz15_0
       try clear hfz15_1
       try clear hfz18_0
       try clear hfz18_1
       try clear hfz6_0
       try clear hfz6_1
       try clear p2
       obtain ⟨x5_3, x6_3, rfl, HA, HK3, HO_5, HO_193000, HO_195000, HO_195001, BK192, BK193, BK194, HK, HB⟩ := hrel
       cases gk with
       | zero => exact absurd HA.out (by simp [millstreamlaw06_its.l1])
       | succ k3 =>
        have H := HA.out
        clear HA
        simp only [millstreamlaw06_its.l1] at H
        by_cases c22 : 0 ≤ x4_1
        ·rw [if_pos c22] at H
         have c22b0 : decide (0 ≤ x4_1) = true := decide_eq_true c22
         clear c22
         by_cases c23 : x4_1 < (l0_1.length : Int)
         ·rw [if_pos c23] at H
          have c23b0 : decide (x4_1 < (l0_1.length : Int)) = true := decide_eq_true c23
          clear c23
          by_cases c24 : x6_3 < ((rd_L7 l0_1 x4_1).length : Int)
          ·rw [if_pos c24] at H
           have c24b0 : decide (x6_3 < ((rd_L7 l0_1 x4_1).length : Int)) = true := decide_eq_true c24
           clear c24
           by_cases c25 : x6_3 < 60
           ·rw [if_pos c25] at H
            have c25b0 : decide (x6_3 < 60) = true := decide_eq_true c25
            clear c25
            by_cases c26 : 0 ≤ x6_3
            ·rw [if_pos c26] at H
             have c26b0 : decide (0 ≤ x6_3) = true := decide_eq_true c26
             clear c26
             by_cases c27 : x5_3.length < 5864062014805
             ·rw [if_pos c27] at H
              have LMc27 := Aside0.mk c27
              clear c27
              obtain ⟨y203, hy203⟩ : ∃ y_ : List (S66), y_ = (x5_3 ++ [(⟨(rd_T63 (rd_L7 l0_1 x4_1) x6_3).f0, (⟨(rd_T63 (rd_L7 l0_1 x4_1) x6_3).f1.f0, (rd_T63 (rd_L7 l0_1 x4_1) x6_3).f1.f1⟩ : S64)⟩ : S66)]) := ⟨_, rfl⟩
              replace H : (millstreamlaw06_its.l1 k3 x4_1 y203 (wrap64 (x6_3 + 1)) l0_0 l0_1 l0_0 x195001_1) = some (r1, r2) := by first | (rw [hy203]; with_reducible exact H) | (have H2_ := (Option.bind_some _ _).symm.trans H; rw [hy203]; with_reducible exact H2_) | (have H2_ := (Option.bind_some _ _).symm.trans H; with_reducible exact H2_) | with_reducible exact H | (rw [hy203]; exact H) | exact H
              have Ny203 := Aside0.mk hy203
              clear hy203
              have H' := Aside0.mk H
              clear H
              have hnb28 := NB192_193.out
              have hnc28 := NB193_192.out
              have hnb29 := NB192_194.out
              have hnc29 := NB194_192.out
              have hcz30_0 : wr.cell? ⟨gb192, 0, none⟩ = some (.slice Ao2 l0_0.length co2) := (blk_cell BK192.out 0).trans rfl
              have hcz30_1 : wr.cell? ⟨gb192, 1, none⟩ = some (.slice A0_1 l0_1.length c0_1) := (blk_cell BK192.out 1).trans rfl
              have hfz30_0 := blk_frozen BK192.out 0
              have hfz30_1 := blk_frozen BK192.out 1
              have p198 : 0 ≤ (x4_1 : Int) := of_decide_eq_true (by first | (with_reducible assumption) | assumption)
              have q198 : x4_1 < (l0_1.length : Int) := of_decide_eq_true (by first | (with_reducible assumption) | assumption)
              obtain ⟨ad198, A198_0, c198_0, e198, hx198_0, hl198_0, hi198_0⟩ := at_L7 (Kd.C_kept_now HR0_1.out HK.out) x4_1 p198 q198
              cases e198
              have HR198_0 := Aside0.mk hi198_0
              have HC198_0 := Aside0.mk hl198_0
              clear hi198_0 hl198_0
              replace p198 := eq_true p198
              replace q198 := eq_true q198
              try go_wp2
              have n0_ := Aside0.mk (Kd.R_drew HO_5.out)
              have n1_ := Aside0.mk (Kd.R_drew HO_193000.out)
              have n2_ := Aside0.mk (Kd.R_drew HO_195000.out)
              have n3_ := Aside0.mk (Kd.N_drew HO_195001.out)
              have n4_ := Aside0.mk (blk_drew BK192.out)
              have n5_ := Aside0.mk (blk_drew BK193.out)
              have n6_ := Aside0.mk (blk_drew BK194.out)
              have n7_ := Aside0.mk (Kd.C_drew HR198_0.out)
              have n8_ := Aside0.mk (Kept.drew HK.out)
              have n9_ := Aside0.mk (below_drew1 HB.out)
              clear HO_5
              clear HO_193000
              clear HO_195000
              clear HO_195001
              clear BK192
              clear BK193
              clear BK194
              clear HR198_0
              clear HK
              clear HB
              have HO_5 := n0_
              have HO_193000 := n1_
              have HO_195000 := n2_
              have HO_195001 := n3_
              have BK192 := n4_
              have BK193 := n5_
              have BK194 := n6_
              have HR198_0 := n7_
              have HK := n8_
              have HB := n9_
              clear n0_ n1_ n2_ n3_ n4_ n5_ n6_ n7_ n8_ n9_
              have p199 : 0 ≤ (x4_1 : Int) := of_decide_eq_true (by first | (with_reducible assumption) | assumption)
              have q199 : x4_1 < (l0_1.length : Int) := of_decide_eq_true (by first | (with_reducible assumption) | assumption)
              obtain ⟨ad199, A199_0, c199_0, e199, hx199_0, hl199_0, hi199_0⟩ := at_L7 (Kd.C_kept_now HR0_1.out HK.out) x4_1 p199 q199
              have hw199_0 := hx199_0
              obtain rfl : ad198 = ad199 := (by injection e199)
              have HR199_0 := Aside0.mk hi199_0
              have HC199_0 := Aside0.mk hl199_0
              clear hi199_0 hl199_0
              replace p199 := eq_true p199
              replace q199 := eq_true q199
              have p200 : 0 ≤ (x6_3 : Int) := of_decide_eq_true (by first | (with_reducible assumption) | assumption)
              have q200 : x6_3 < ((rd_L7 l0_1 x4_1).length : Int) := of_decide_eq_true (by first | (with_reducible assumption) | assumption)
              obtain ⟨ad200, e200, hx200_0, hx200_1, hx200_2⟩ := at_T63 (by repeat (first | (with_reducible exact HR199_0.out) | (with_reducible refine Kd.C_alloc ?_ _) | (with_reducible refine Kd.C_drewN ?_ _) | (with_reducible refine Kd.C_drew ?_) | exact HR199_0.out)) x6_3 p200 q200
              cases e200
              replace p200 := eq_true p200
              replace q200 := eq_true q200
              have p201 : 0 ≤ (x4_1 : Int) := of_decide_eq_true (by first | (with_reducible assumption) | assumption)
              have q201 : x4_1 < (l0_1.length : Int) := of_decide_eq_true (by first | (with_reducible assumption) | assumption)
              obtain ⟨ad201, A201_0, c201_0, e201, hx201_0, hl201_0, hi201_0⟩ := at_L7 (Kd.C_kept_now HR0_1.out HK.out) x4_1 p201 q201
              have hw201_0 := hx201_0
              obtain rfl : ad198 = ad201 := (by injection e201)
              have HR201_0 := Aside0.mk hi201_0
              have HC201_0 := Aside0.mk hl201_0
              clear hi201_0 hl201_0
              replace p201 := eq_true p201
              replace q201 := eq_true q201
              have ea_ := Option.some.inj (hx199_0.symm.trans hx201_0)
              injection ea_ with ea_ en_ ec_
              subst ea_
              subst ec_
              clear en_
              have p202 : 0 ≤ (x6_3 : Int) := of_decide_eq_true (by first | (with_reducible assumption) | assumption)
              have q202 : x6_3 < ((rd_L7 l0_1 x4_1).length : Int) := of_decide_eq_true (by first | (with_reducible assumption) | assumption)
              obtain ⟨ad202, e202, hx202_0, hx202_1, hx202_2⟩ := at_T63 (by repeat (first | (with_reducible exact HR201_0.out) | (with_reducible refine Kd.C_alloc ?_ _) | (with_reducible refine Kd.C_drewN ?_ _) | (with_reducible refine Kd.C_drew ?_) | exact HR201_0.out)) x6_3 p202 q202
              cases e202
              replace p202 := eq_true p202
              replace q202 := eq_true q202
              refine start_ (n := 23) (S := fun w' => w'.cell? ⟨gb192, 0, none⟩ = some (.slice Ao2 l0_0.length co2) ∧ w'.cell? ⟨gb192, 1, none⟩ = some (.slice (some ad198) l0_1.length c0_1) ∧ w'.cell? (ad198.add (x4_1).toNat) = some (.slice (some ad200) (rd_L7 l0_1 x4_1).length c199_0) ∧ w'.cell? (ad200.add ((x6_3).toNat * 3)) = some (.int .i64 ((rd_T63 (rd_L7 l0_1 x4_1) x6_3).f0)) ∧ w'.cell? ⟨(ad200.add ((x6_3).toNat * 3)).block, (ad200.add ((x6_3).toNat * 3)).off + 1, none⟩ = some (.int .i64 ((rd_T63 (rd_L7 l0_1 x4_1) x6_3).f1.f0)) ∧ w'.cell? ⟨(ad200.add ((x6_3).toNat * 3)).block, (ad200.add ((x6_3).toNat * 3)).off + 2, none⟩ = some (.int .i64 ((rd_T63 (rd_L7 l0_1 x4_1) x6_3).f1.f1)) ∧ w'.cell? (ad198.add (x4_1).toNat) = some (.slice (some ad200) (rd_L7 l0_1 x4_1).length c199_0) ∧ w'.cell? (ad200.add ((x6_3).toNat * 3)) = some (.int .i64 ((rd_T63 (rd_L7 l0_1 x4_1) x6_3).f0)) ∧ w'.cell? ⟨(ad200.add ((x6_3).toNat * 3)).block, (ad200.add ((x6_3).toNat * 3)).off + 1, none⟩ = some (.int .i64 ((rd_T63 (rd_L7 l0_1 x4_1) x6_3).f1.f0)) ∧ w'.cell? ⟨(ad200.add ((x6_3).toNat * 3)).block, (ad200.add ((x6_3).toNat * 3)).off + 2, none⟩ = some (.int .i64 ((rd_T63 (rd_L7 l0_1 x4_1) x6_3).f1.f1))) (ds := [20, 21]) #[false, false, false, false, false, false, false, false, false, false, false, false, false, false, false, false, false, false, false, false, false, false, false] (by kernel_rfl) rfl rfl ⟨(blk_cell BK192.out 0).trans rfl, (blk_cell BK192.out 1).trans rfl, hx199_0, hx200_0, hx200_1, hx200_2, hx201_0, hx202_0, hx202_1, hx202_2⟩ (fun hHeld => ?_); refine with_tabW millstreamlaw06_its.tab9 millstreamlaw06_its.bits9 (fun HT_ HW_ => ?_)
              generalize wr.drew = w31 at HO_5 HO_193000 HO_195000 HO_195001 BK192 BK193 BK194 HR198_0 HK HB HR199_0 HR201_0 hx199_0 hx200_0 hx200_1 hx200_2 hx201_0 hx202_0 hx202_1 hx202_2 hHeld ⊢
              refine pure_ (i := 0) (N := some 36) (v := ?_) (a' := ?_) #[true, false, false, false, false, false, false, false, false, false, false, false, false, false, false, false, false, false, false, false, false, false, false] rfl rfl (any_of HT_.out (by kernel_rfl)) (fun _ _ _ h => h) (Or.inl ⟨by rfl, ?_⟩) ?_ ?_
              rotate_left
              ·intro w'
               go_simp
               with_reducible rfl
              rotate_left
              ·simp only [Act.put, List.setIfInBounds_toArray, List.set_cons_zero, List.set_cons_succ, i64_w, i32_w]
               rfl
              refine pure_ (i := 1) (N := some 37) (v := ?_) (a' := ?_) #[true, true, false, false, false, false, false, false, false, false, false, false, false, false, false, false, false, false, false, false, false, false, false] rfl rfl (any_of HT_.out (by kernel_rfl)) (fun _ _ _ h => h) (Or.inl ⟨by rfl, ?_⟩) ?_ ?_
              rotate_left
              ·intro w'
               go_simp
               with_reducible rfl
              rotate_left
              ·simp only [Act.put, List.setIfInBounds_toArray, List.set_cons_zero, List.set_cons_succ, i64_w, i32_w]
               rfl
              refine pure_ (i := 3) (N := some 39) (v := ?_) (a' := ?_) #[true, true, false, true, false, false, false, false, false, false, false, false, false, false, false, false, false, false, false, false, false, false, false] rfl rfl (any_of HT_.out (by kernel_rfl)) (fun _ _ _ h => h) (Or.inl ⟨by rfl, ?_⟩) ?_ ?_
              rotate_left
              ·intro w'
               go_simp
               with_reducible rfl
              rotate_left
              ·simp only [Act.put, List.setIfInBounds_toArray, List.set_cons_zero, List.set_cons_succ, i64_w, i32_w]
               rfl
              refine pure_ (i := 6) (N := some 42) (v := ?_) (a' := ?_) #[true, true, false, true, false, false, true, false, false, false, false, false, false, false, false, false, false, false, false, false, false, false, false] rfl rfl (any_of HT_.out (by kernel_rfl)) (fun _ _ _ h => h) (Or.inl ⟨by rfl, ?_⟩) ?_ ?_
              rotate_left
              ·intro w'
               go_simp
               with_reducible rfl
              rotate_left
              ·simp only [Act.put, List.setIfInBounds_toArray, List.set_cons_zero, List.set_cons_succ, i64_w, i32_w]
               rfl
              refine pure_ (i := 10) (N := some 46) (v := ?_) (a' := ?_) #[true, true, false, true, false, false, true, false, false, false, true, false, false, false, false, false, false, false, false, false, false, false, false] rfl rfl (any_of HT_.out (by kernel_rfl)) (fun _ _ _ h => h) (Or.inl ⟨by rfl, ?_⟩) ?_ ?_
              rotate_left
              ·intro w'
               go_simp
               with_reducible rfl
              rotate_left
              ·simp only [Act.put, List.setIfInBounds_toArray, List.set_cons_zero, List.set_cons_succ, i64_w, i32_w]
               rfl
              refine pure_ (i := 12) (N := some 48) (v := ?_) (a' := ?_) #[true, true, false, true, false, false, true, false, false, false, true, false, true, false, false, false, false, false, false, false, false, false, false] rfl rfl (any_of HT_.out (by kernel_rfl)) (fun _ _ _ h => h) (Or.inl ⟨by rfl, ?_⟩) ?_ ?_
              rotate_left
              ·intro w'
               go_simp
               with_reducible rfl
              rotate_left
              ·simp only [Act.put, List.setIfInBounds_toArray, List.set_cons_zero, List.set_cons_succ, i64_w, i32_w]
               rfl
              refine pure_ (i := 15) (N := some 51) (v := ?_) (a' := ?_) #[true, true, false, true, false, false, true, false, false, false, true, false, true, false, false, true, false, false, false, false, false, false, false] rfl rfl (any_of HT_.out (by kernel_rfl)) (fun _ _ _ h => h) (Or.inl ⟨by rfl, ?_⟩) ?_ ?_
              rotate_left
              ·intro w'
               go_simp
               with_reducible rfl
              rotate_left
              ·simp only [Act.put, List.setIfInBounds_toArray, List.set_cons_zero, List.set_cons_succ, i64_w, i32_w]
               rfl
              refine take_ (i := 2) (N := some 38) (v := ?_) (a' := ?_) #[true, true, true, true, false, false, true, false, false, false, true, false, true, false, false, true, false, false, false, false, false, false, false] rfl rfl (take_ofW HT_.out HW_.out (by kernel_rfl)) (fun _ _ _ h => h) (Or.inl ⟨by rfl, ?_⟩) hHeld ?_ ?_
              rotate_left
              ·rintro w' ⟨s0, s1, s2, s3, s4, s5, s6, s7, s8, s9⟩
               go_simp
               with_reducible rfl
              rotate_left
              ·simp only [Act.put, List.setIfInBounds_toArray, List.set_cons_zero, List.set_cons_succ, i64_w, i32_w]
               rfl
              refine pure_ (i := 4) (N := some 40) (v := ?_) (a' := ?_) #[true, true, true, true, true, false, true, false, false, false, true, false, true, false, false, true, false, false, false, false, false, false, false] rfl rfl (any_of HT_.out (by kernel_rfl)) (fun _ _ _ h => h) (Or.inl ⟨by rfl, ?_⟩) ?_ ?_
              rotate_left
              ·intro w'
               go_simp
               with_reducible rfl
              rotate_left
              ·simp only [Act.put, List.setIfInBounds_toArray, List.set_cons_zero, List.set_cons_succ, i64_w, i32_w]
               rfl
              refine take_ (i := 5) (N := some 41) (v := ?_) (a' := ?_) #[true, true, true, true, true, true, true, false, false, false, true, false, true, false, false, true, false, false, false, false, false, false, false] rfl rfl (take_ofW HT_.out HW_.out (by kernel_rfl)) (fun _ _ _ h => h) (Or.inl ⟨by rfl, ?_⟩) hHeld ?_ ?_
              rotate_left
              ·rintro w' ⟨s0, s1, s2, s3, s4, s5, s6, s7, s8, s9⟩
               go_simp
               with_reducible rfl
              rotate_left
              ·simp only [Act.put, List.setIfInBounds_toArray, List.set_cons_zero, List.set_cons_succ, i64_w, i32_w]
               rfl
              refine pure_ (i := 7) (N := some 43) (v := ?_) (a' := ?_) #[true, true, true, true, true, true, true, true, false, false, true, false, true, false, false, true, false, false, false, false, false, false, false] rfl rfl (any_of HT_.out (by kernel_rfl)) (fun _ _ _ h => h) (Or.inl ⟨by rfl, ?_⟩) ?_ ?_
              rotate_left
              ·intro w'
               go_simp
               with_reducible rfl
              rotate_left
              ·simp only [Act.put, List.setIfInBounds_toArray, List.set_cons_zero, List.set_cons_succ, i64_w, i32_w]
               rfl
              refine pure_ (i := 8) (N := some 44) (v := ?_) (a' := ?_) #[true, true, true, true, true, true, true, true, true, false, true, false, true, false, false, true, false, false, false, false, false, false, false] rfl rfl (any_of HT_.out (by kernel_rfl)) (fun _ _ _ h => h) (Or.inl ⟨by rfl, ?_⟩) ?_ ?_
              rotate_left
              ·intro w'
               go_simp
               with_reducible rfl
              rotate_left
              ·simp only [Act.put, List.setIfInBounds_toArray, List.set_cons_zero, List.set_cons_succ, i64_w, i32_w]
               rfl
              refine take_ (i := 9) (N := some 45) (v := ?_) (a' := ?_) #[true, true, true, true, true, true, true, true, true, true, true, false, true, false, false, true, false, false, false, false, false, false, false] rfl rfl (take_ofW HT_.out HW_.out (by kernel_rfl)) (fun _ _ _ h => h) (Or.inl ⟨by rfl, ?_⟩) hHeld ?_ ?_
              rotate_left
              ·rintro w' ⟨s0, s1, s2, s3, s4, s5, s6, s7, s8, s9⟩
               go_simp
               with_reducible rfl
              rotate_left
              ·simp only [Act.put, List.setIfInBounds_toArray, List.set_cons_zero, List.set_cons_succ, i64_w, i32_w]
               rfl
              refine take_ (i := 11) (N := some 47) (v := ?_) (a' := ?_) #[true, true, true, true, true, true, true, true, true, true, true, true, true, false, false, true, false, false, false, false, false, false, false] rfl rfl (take_ofW HT_.out HW_.out (by kernel_rfl)) (fun _ _ _ h => h) (Or.inl ⟨by rfl, ?_⟩) hHeld ?_ ?_
              rotate_left
              ·rintro w' ⟨s0, s1, s2, s3, s4, s5, s6, s7, s8, s9⟩
               go_simp
               with_reducible rfl
              rotate_left
              ·simp only [Act.put, List.setIfInBounds_toArray, List.set_cons_zero, List.set_cons_succ, i64_w, i32_w]
               rfl
              refine pure_ (i := 13) (N := some 49) (v := ?_) (a' := ?_) #[true, true, true, true, true, true, true, true, true, true, true, true, true, true, false, true, false, false, false, false, false, false, false] rfl rfl (any_of HT_.out (by kernel_rfl)) (fun _ _ _ h => h) (Or.inl ⟨by rfl, ?_⟩) ?_ ?_
              rotate_left
              ·intro w'
               go_simp
               with_reducible rfl
              rotate_left
              ·simp only [Act.put, List.setIfInBounds_toArray, List.set_cons_zero, List.set_cons_succ, i64_w, i32_w]
               rfl
              refine take_ (i := 14) (N := some 50) (v := ?_) (a' := ?_) #[true, true, true, true, true, true, true, true, true, true, true, true, true, true, true, true, false, false, false, false, false, false, false] rfl rfl (take_ofW HT_.out HW_.out (by kernel_rfl)) (fun _ _ _ h => h) (Or.inl ⟨by rfl, ?_⟩) hHeld ?_ ?_
              rotate_left
              ·rintro w' ⟨s0, s1, s2, s3, s4, s5, s6, s7, s8, s9⟩
               go_simp
               with_reducible rfl
              rotate_left
              ·simp only [Act.put, List.setIfInBounds_toArray, List.set_cons_zero, List.set_cons_succ, i64_w, i32_w]
               rfl
              refine pure_ (i := 16) (N := some 52) (v := ?_) (a' := ?_) #[true, true, true, true, true, true, true, true, true, true, true, true, true, true, true, true, true, false, false, false, false, false, false] rfl rfl (any_of HT_.out (by kernel_rfl)) (fun _ _ _ h => h) (Or.inl ⟨by rfl, ?_⟩) ?_ ?_
              rotate_left
              ·intro w'
               go_simp
               with_reducible rfl
              rotate_left
              ·simp only [Act.put, List.setIfInBounds_toArray, List.set_cons_zero, List.set_cons_succ, i64_w, i32_w]
               rfl
              refine pure_ (i := 17) (N := some 53) (v := ?_) (a' := ?_) #[true, true, true, true, true, true, true, true, true, true, true, true, true, true, true, true, true, true, false, false, false, false, false] rfl rfl (any_of HT_.out (by kernel_rfl)) (fun _ _ _ h => h) (Or.inl ⟨by rfl, ?_⟩) ?_ ?_
              rotate_left
              ·intro w'
               go_simp
               with_reducible rfl
              rotate_left
              ·simp only [Act.put, List.setIfInBounds_toArray, List.set_cons_zero, List.set_cons_succ, i64_w, i32_w]
               rfl
              refine take_ (i := 18) (N := some 54) (v := ?_) (a' := ?_) #[true, true, true, true, true, true, true, true, true, true, true, true, true, true, true, true, true, true, true, false, false, false, false] rfl rfl (take_ofW HT_.out HW_.out (by kernel_rfl)) (fun _ _ _ h => h) (Or.inl ⟨by rfl, ?_⟩) hHeld ?_ ?_
              rotate_left
              ·rintro w' ⟨s0, s1, s2, s3, s4, s5, s6, s7, s8, s9⟩
               go_simp
               with_reducible rfl
              rotate_left
              ·simp only [Act.put, List.setIfInBounds_toArray, List.set_cons_zero, List.set_cons_succ, i64_w, i32_w]
               rfl
              refine pure_ (i := 19) (N := some 55) (v := ?_) (a' := ?_) #[true, true, true, true, true, true, true, true, true, true, true, true, true, true, true, true, true, true, true, true, false, false, false] rfl rfl (any_of HT_.out (by kernel_rfl)) (fun _ _ _ h => h) (Or.inl ⟨by rfl, ?_⟩) ?_ ?_
              rotate_left
              ·intro w'
               go_simp
               with_reducible rfl
              rotate_left
              ·simp only [Act.put, List.setIfInBounds_toArray, List.set_cons_zero, List.set_cons_succ, i64_w, i32_w]
               rfl
              refine last_ (i := 20) (N := some 56) #[true, true, true, true, true, true, true, true, true, true, true, true, true, true, true, true, true, true, true, true, true, false, false] rfl rfl (one_of HT_.out (by kernel_rfl)) (by decide) (fun K hK => ?_)
              refine value_ (w1 := ?_) (v := ?_) (by rfl) rfl ?_ ?_
              rotate_left 2
              ·go_simp
               constructor
               ·rfl
               ·rfl
              refine hK.out _ _ ?_
              clear hK K
              refine norm_ (a' := ?_) ?_ ?_
              rotate_left
              ·show Act.put _ (some 56) _ = _
               simp only [Act.put, List.setIfInBounds_toArray, List.set_cons_zero, List.set_cons_succ, i64_w, i32_w]
               rfl
              refine last_ (i := 21) (N := some 57) #[true, true, true, true, true, true, true, true, true, true, true, true, true, true, true, true, true, true, true, true, true, true, false] rfl rfl (one_of HT_.out (by kernel_rfl)) (by decide) (fun K hK => ?_)
              refine Kd.R_append_step k66 (w0 := w0) w0.heap.size (by rfl) (.tmp 36) (.tmp 56) 58 66 (.agg #[(.int .i64 0), (.int .i64 0), (.int .i64 0)]) 24 rfl Try.underlying58 info66 rfl (by decide) (by omega) u5 x5_3 (⟨(rd_T63 (rd_L7 l0_1 x4_1) x6_3).f0, (⟨(rd_T63 (rd_L7 l0_1 x4_1) x6_3).f1.f0, (rd_T63 (rd_L7 l0_1 x4_1) x6_3).f1.f1⟩ : S64)⟩ : S66) [.int .i64 ((rd_T63 (rd_L7 l0_1 x4_1) x6_3).f0), .int .i64 ((rd_T63 (rd_L7 l0_1 x4_1) x6_3).f1.f0), .int .i64 ((rd_T63 (rd_L7 l0_1 x4_1) x6_3).f1.f1)] (fun k_ => (P0_0_ k_ ∨ w.heap.size ≤ k_)) (fun _ => False) rfl rfl ?aP (fun _ hk => hk.elim) ?aF ?aO ?aB ?aS ?aL ?_
              (case aP => exact k66_mkM _ _ _ (⟨(rd_T63 (rd_L7 l0_1 x4_1) x6_3).f0, (⟨(rd_T63 (rd_L7 l0_1 x4_1) x6_3).f1.f0, (rd_T63 (rd_L7 l0_1 x4_1) x6_3).f1.f1⟩ : S64)⟩ : S66))
              (case aB => exact (by repeat (first | (with_reducible first | exact HB.out | apply below_alloc | apply pw_below_drewN | apply below_drew1 | refine below_set ?_ GE192.out | refine below_set ?_ GE193.out | refine below_set ?_ GE194.out) | exact HB.out)))
              (case aF => exact (fun k_ hk => (.inr (Nat.le_trans (by first | exact HK.out.1 | exact (show Kept w _ (fun k_ => P0_0_ k_) from by repeat (first | (with_reducible first | exact HK.out | apply Kept.alloc | apply Kept.drewN | apply Kept.drew | refine Kept.setCell ?_ (.inr GW192.out) _ | refine Kept.setCell ?_ (.inr GW193.out) _ | refine Kept.setCell ?_ (.inr GW194.out) _) | exact HK.out)).1) hk))))
              (case aO => exact (by (with_reducible repeat (first | apply Kd.R_alloc | apply Kd.R_drewN | apply Kd.R_drew)); exact HO_5.out))
              (case aS => exact (below_size (by repeat (first | (with_reducible first | exact HB.out | apply below_alloc | apply pw_below_drewN | apply below_drew1 | refine below_set ?_ GE192.out | refine below_set ?_ GE193.out | refine below_set ?_ GE194.out) | exact HB.out))))
              (case aL => have := LMc27.out; omega)
              intro v204 w32 ho hb hg hat
              rw [← Ny203.out] at ho
              have n0_ := Aside0.mk (Kd.R_over' (by (with_reducible repeat (first | apply Kd.R_alloc | apply Kd.R_drewN | apply Kd.R_drew)); exact HO_193000.out) (Kd.R_typed (by (with_reducible repeat (first | apply Kd.R_alloc | apply Kd.R_drewN | apply Kd.R_drew)); exact HO_5.out)) (by decide) hg)
              have n1_ := Aside0.mk (Kd.R_over' (by (with_reducible repeat (first | apply Kd.R_alloc | apply Kd.R_drewN | apply Kd.R_drew)); exact HO_195000.out) (Kd.R_typed (by (with_reducible repeat (first | apply Kd.R_alloc | apply Kd.R_drewN | apply Kd.R_drew)); exact HO_5.out)) (by decide) hg)
              have n2_ := Aside0.mk (Kd.N_afterv (ok := (fun k_ => (P0_0_ k_ ∨ w.heap.size ≤ k_) ∧ some k_ ≠ (.slice Ao2 l0_0.length co2 : Value).ownBlock ∧ some k_ ≠ (.slice Ao2 l0_0.length co2 : Value).ownBlock ∧ k_ ≠ gb192 ∧ k_ ≠ gb193 ∧ k_ ≠ gb194)) (by (with_reducible repeat (first | apply Kd.N_alloc | apply Kd.N_drewN | apply Kd.N_drew)); exact Kd.N_mono HO_195001.out (fun _ hk => ⟨⟨hk.1, ⟨hk.2.2.1, ⟨hk.2.2.2.1, ⟨hk.2.2.2.2.1, ⟨hk.2.2.2.2.2.1, hk.2.2.2.2.2.2⟩⟩⟩⟩⟩, hk.2.1⟩)) hg hat)
              have n3_ := Aside0.mk (blk_grown (g := gb192) (o := .cells #[.slice Ao2 l0_0.length co2, .slice (some ad198) l0_1.length c0_1] 39 (0, 0)) (by (with_reducible repeat first | refine blk_drewN ?_ _ | refine blk_drew ?_ | refine blk_alloc ?_ _); exact BK192.out) hg (Kd.R_ne HO_5.out BK192.out (by decide)))
              have n4_ := Aside0.mk (blk_grown (g := gb193) (o := .cells #[.slice none 0 0, .slice none 0 0] 44 (0, 0)) (by (with_reducible repeat first | refine blk_drewN ?_ _ | refine blk_drew ?_ | refine blk_alloc ?_ _); exact BK193.out) hg (Kd.R_ne HO_5.out BK193.out (by decide)))
              have n5_ := Aside0.mk (blk_grown (g := gb194) (o := .cells #[.slice Ao2 l0_0.length co2, u195001] 44 (0, 0)) (by (with_reducible repeat first | refine blk_drewN ?_ _ | refine blk_drew ?_ | refine blk_alloc ?_ _); exact BK194.out) hg (Kd.R_ne HO_5.out BK194.out (by decide)))
              have n6_ := Aside0.mk (hb)
              have n7_ := Aside0.mk (Kept.of_grown (S := (fun k_ => P0_0_ k_)) hg (by repeat (first | (with_reducible first | exact HK.out | apply Kept.alloc | apply Kept.drewN | apply Kept.drew | refine Kept.setCell ?_ (.inr GW192.out) _ | refine Kept.setCell ?_ (.inr GW193.out) _ | refine Kept.setCell ?_ (.inr GW194.out) _) | exact HK.out)) (fun k_ e_ => (HO_5.out.1 k_ e_)))
              have n8_ := Aside0.mk (ho)
              clear HO_193000
              clear HO_195000
              clear HO_195001
              clear BK192
              clear BK193
              clear BK194
              clear HB
              clear HK
              clear HO_5
              have HO_193000 := n0_
              have HO_195000 := n1_
              have HO_195001 := n2_
              have BK192 := n3_
              have BK193 := n4_
              have BK194 := n5_
              have HB := n6_
              have HK := n7_
              have HO205 := n8_
              clear n0_ n1_ n2_ n3_ n4_ n5_ n6_ n7_ n8_
              clear ho hb hg hat
              refine hK.out _ _ ?_
              clear hK K
              refine norm_ (a' := ?_) ?_ ?_
              rotate_left
              ·show Act.put _ (some 57) _ = _
               simp only [Act.put, List.setIfInBounds_toArray, List.set_cons_zero, List.set_cons_succ, i64_w, i32_w]
               rfl
              refine pure_ (i := 22) (N := some 5) (v := ?_) (a' := ?_) #[true, true, true, true, true, true, true, true, true, true, true, true, true, true, true, true, true, true, true, true, true, true, true] rfl rfl (any_of HT_.out (by kernel_rfl)) (fun _ _ _ h => h) (Or.inl ⟨by rfl, ?_⟩) ?_ ?_
              rotate_left
              ·intro w'
               go_simp
               with_reducible rfl
              rotate_left
              ·simp only [Act.put, List.setIfInBounds_toArray, List.set_cons_zero, List.set_cons_succ, i64_w, i32_w]
               rfl
              refine done_ (done_of HT_.out (by kernel_rfl)) ?_
              try go_wp2
              go_roundg k3
              case measure => have := HK1.out; have := HJ10.out; have := HK3.out; omega
              case rel => exact ⟨(y203), (wrap64 (x6_3 + 1)), (by first | rfl | (simp; done) | (simp [*]; done)), H', ⟨by have := HK1.out; have := HJ10.out; have := HK3.out; omega⟩, ⟨by (with_reducible repeat (first | apply Kd.R_alloc | apply Kd.R_drewN | apply Kd.R_drew)); exact HO205.out⟩, ⟨by (with_reducible repeat (first | apply Kd.R_alloc | apply Kd.R_drewN | apply Kd.R_drew)); exact HO_193000.out⟩, ⟨by (with_reducible repeat (first | apply Kd.R_alloc | apply Kd.R_drewN | apply Kd.R_drew)); exact HO_195000.out⟩, ⟨by (with_reducible repeat (first | apply Kd.N_alloc | apply Kd.N_drewN | apply Kd.N_drew)); exact Kd.N_mono HO_195001.out (fun _ hk => ⟨hk.1.1, ⟨hk.2, ⟨hk.1.2.1, ⟨hk.1.2.2.1, ⟨hk.1.2.2.2.1, ⟨hk.1.2.2.2.2.1, hk.1.2.2.2.2.2⟩⟩⟩⟩⟩⟩)⟩, ⟨by (with_reducible repeat first | refine blk_drewN ?_ _ | refine blk_drew ?_ | refine blk_alloc ?_ _); exact BK192.out⟩, ⟨by (with_reducible repeat first | refine blk_drewN ?_ _ | refine blk_drew ?_ | refine blk_alloc ?_ _); exact BK193.out⟩, ⟨by (with_reducible repeat first | refine blk_drewN ?_ _ | refine blk_drew ?_ | refine blk_alloc ?_ _); exact BK194.out⟩, ⟨by repeat (first | (with_reducible first | exact HK.out | apply Kept.alloc | apply Kept.drewN | apply Kept.drew | refine Kept.setCell ?_ (.inr GW192.out) _ | refine Kept.setCell ?_ (.inr GW193.out) _ | refine Kept.setCell ?_ (.inr GW194.out) _) | exact HK.out)⟩, ⟨by repeat (first | (with_reducible first | exact HB.out | apply below_alloc | apply pw_below_drewN | apply below_drew1 | refine below_set ?_ GE192.out | refine below_set ?_ GE193.out | refine below_set ?_ GE194.out) | exact HB.out)⟩⟩
             ·rw [if_neg c27] at H
              exact absurd H (by simp)
            ·rw [if_neg c26] at H
             exact absurd H (by simp)
           ·rw [if_neg c25] at H
            have c25b0 : decide (x6_3 < 60) = false := decide_eq_false c25
            clear c25
            by_cases c33 : x195001_1.length < 5864062014805
            ·rw [if_pos c33] at H
             have LMc33 := Aside0.mk c33
             clear c33
             obtain ⟨y206, hy206⟩ : ∃ y_ : List (List (S66)), y_ = (x195001_1 ++ [x5_3]) := ⟨_, rfl⟩
             replace H : (millstreamlaw06_its.l0 k3 (wrap64 (x4_1 + 1)) l0_0 l0_1 l0_0 y206) = some (r1, r2) := by first | (rw [hy206]; with_reducible exact H) | (have H2_ := (Option.bind_some _ _).symm.trans H; rw [hy206]; with_reducible exact H2_) | (have H2_ := (Option.bind_some _ _).symm.trans H; with_reducible exact H2_) | with_reducible exact H | (rw [hy206]; exact H) | exact H
             have Ny206 := Aside0.mk hy206
             clear hy206
             have H' := Aside0.mk H
             clear H
             have hnb34 := NB192_193.out
             have hnc34 := NB193_192.out
             have hnb35 := NB192_194.out
             have hnc35 := NB194_192.out
             have hcz36_0 : wr.cell? ⟨gb192, 0, none⟩ = some (.slice Ao2 l0_0.length co2) := (blk_cell BK192.out 0).trans rfl
             have hcz36_1 : wr.cell? ⟨gb192, 1, none⟩ = some (.slice A0_1 l0_1.length c0_1) := (blk_cell BK192.out 1).trans rfl
             have hfz36_0 := blk_frozen BK192.out 0
             have hfz36_1 := blk_frozen BK192.out 1
             have p198 : 0 ≤ (x4_1 : Int) := of_decide_eq_true (by first | (with_reducible assumption) | assumption)
             have q198 : x4_1 < (l0_1.length : Int) := of_decide_eq_true (by first | (with_reducible assumption) | assumption)
             obtain ⟨ad198, A198_0, c198_0, e198, hx198_0, hl198_0, hi198_0⟩ := at_L7 (Kd.C_kept_now HR0_1.out HK.out) x4_1 p198 q198
             cases e198
             have HR198_0 := Aside0.mk hi198_0
             have HC198_0 := Aside0.mk hl198_0
             clear hi198_0 hl198_0
             replace p198 := eq_true p198
             replace q198 := eq_true q198
             have hnb37 := NB194_193.out
             have hnc37 := NB193_194.out
             have hcz38_0 : wr.cell? ⟨gb194, 0, none⟩ = some (.slice Ao2 l0_0.length co2) := (blk_cell BK194.out 0).trans rfl
             have hcz38_1 : wr.cell? ⟨gb194, 1, none⟩ = some (u195001) := (blk_cell BK194.out 1).trans rfl
             have hfz38_0 := blk_frozen BK194.out 0
             have hfz38_1 := blk_frozen BK194.out 1
             obtain ⟨Ao40, co40, eo40⟩ := Kd.R_slice HO_5.out
             subst eo40
             go_wp2_with (first | ((with_reducible refine gate_builtin (b := .append) (xs := #[.tmp 59, .tmp 61]) rfl ?_); at_builtin; refine Kd.N_append (Kd.slice 66 k66) w.heap.size rfl (.tmp 59) (.tmp 61) 42 58 (.slice none 0 0) 24 rfl Try.underlying42 info58 rfl (by decide) (by omega) u195001 x195001_1 x5_3 [.slice Ao40 x5_3.length co40] (fun k_ => (P0_0_ k_ ∨ w.heap.size ≤ k_) ∧ some k_ ≠ (.slice Ao2 l0_0.length co2 : Value).ownBlock ∧ some k_ ≠ (.slice Ao2 l0_0.length co2 : Value).ownBlock ∧ k_ ≠ gb192 ∧ k_ ≠ gb193 ∧ k_ ≠ gb194) (fun k_ => ((fun k_ => (P0_0_ k_ ∨ w.heap.size ≤ k_) ∧ some k_ ≠ (.slice Ao2 l0_0.length co2 : Value).ownBlock ∧ some k_ ≠ (.slice Ao2 l0_0.length co2 : Value).ownBlock ∧ k_ ≠ gb192 ∧ k_ ≠ gb193 ∧ k_ ≠ gb194)) k_ ∧ some k_ ≠ (u195001 : Value).ownBlock) rfl rfl ?aP (fun _ hk => hk) ?aF ?aO (Below.refl _ _) ?aS ?aL ?_; (case aP => exact (Kd.FK_slice_mk (Kd.R_reads' (Kd.R_mono (ok' := (fun k_ => ((fun k_ => (P0_0_ k_ ∨ w.heap.size ≤ k_) ∧ some k_ ≠ (.slice Ao2 l0_0.length co2 : Value).ownBlock ∧ some k_ ≠ (.slice Ao2 l0_0.length co2 : Value).ownBlock ∧ k_ ≠ gb192 ∧ k_ ≠ gb193 ∧ k_ ≠ gb194)) k_ ∧ some k_ ≠ (u195001 : Value).ownBlock)) (Kd.R_types (Kd.R_types (Kd.R_types (Kd.R_apart' (Kd.R_apart' (Kd.R_apart' (HO_5.out) (Kd.R_typed HO_193000.out) (by decide)) (Kd.R_typed HO_195000.out) (by decide)) (Kd.N_typed HO_195001.out) (by decide)) BK192.out (by decide)) BK193.out (by decide)) BK194.out (by decide)) (fun k_ hk => ⟨⟨hk.1.1.1.1.1.1, ⟨hk.1.1.1.1.1.2, ⟨hk.1.1.1.1.2, ⟨hk.1.1.2, ⟨hk.1.2, hk.2⟩⟩⟩⟩⟩, hk.1.1.1.2⟩))).2.1 (Kd.R_F (Kd.R_mono (ok' := (fun k_ => ((fun k_ => (P0_0_ k_ ∨ w.heap.size ≤ k_) ∧ some k_ ≠ (.slice Ao2 l0_0.length co2 : Value).ownBlock ∧ some k_ ≠ (.slice Ao2 l0_0.length co2 : Value).ownBlock ∧ k_ ≠ gb192 ∧ k_ ≠ gb193 ∧ k_ ≠ gb194)) k_ ∧ some k_ ≠ (u195001 : Value).ownBlock)) (Kd.R_types (Kd.R_types (Kd.R_types (Kd.R_apart' (Kd.R_apart' (Kd.R_apart' (HO_5.out) (Kd.R_typed HO_193000.out) (by decide)) (Kd.R_typed HO_195000.out) (by decide)) (Kd.N_typed HO_195001.out) (by decide)) BK192.out (by decide)) BK193.out (by decide)) BK194.out (by decide)) (fun k_ hk => ⟨⟨hk.1.1.1.1.1.1, ⟨hk.1.1.1.1.1.2, ⟨hk.1.1.1.1.2, ⟨hk.1.1.2, ⟨hk.1.2, hk.2⟩⟩⟩⟩⟩, hk.1.1.1.2⟩))))); (case aF => exact (fun k_ hk => ⟨(.inr (Nat.le_trans (by first | exact HK.out.1 | exact (show Kept w _ (fun k_ => P0_0_ k_) from by repeat (first | (with_reducible first | exact HK.out | apply Kept.alloc | apply Kept.drewN | apply Kept.drew | refine Kept.setCell ?_ (.inr GW192.out) _ | refine Kept.setCell ?_ (.inr GW193.out) _ | refine Kept.setCell ?_ (.inr GW194.out) _) | exact HK.out)).1) hk)), Kd.fresh' (Kd.R_lt (by (with_reducible repeat (first | apply Kd.R_alloc | apply Kd.R_drewN | apply Kd.R_drew)); exact HO_193000.out)) k_ hk, Kd.fresh' (Kd.R_lt (by (with_reducible repeat (first | apply Kd.R_alloc | apply Kd.R_drewN | apply Kd.R_drew)); exact HO_195000.out)) k_ hk, Kd.freshB (g := gb192) (o := .cells #[.slice Ao2 l0_0.length co2, .slice (some ad198) l0_1.length c0_1] 39 (0, 0)) (by (with_reducible repeat first | refine blk_drewN ?_ _ | refine blk_drew ?_ | refine blk_alloc ?_ _); exact BK192.out) k_ hk, Kd.freshB (g := gb193) (o := .cells #[.slice none 0 0, .slice none 0 0] 44 (0, 0)) (by (with_reducible repeat first | refine blk_drewN ?_ _ | refine blk_drew ?_ | refine blk_alloc ?_ _); exact BK193.out) k_ hk, Kd.freshB (g := gb194) (o := .cells #[.slice Ao2 l0_0.length co2, u195001] 44 (0, 0)) (by (with_reducible repeat first | refine blk_drewN ?_ _ | refine blk_drew ?_ | refine blk_alloc ?_ _); exact BK194.out) k_ hk⟩)); (case aO => exact (by (with_reducible repeat (first | apply Kd.N_alloc | apply Kd.N_drewN | apply Kd.N_drew)); exact Kd.N_mono HO_195001.out (fun _ hk => ⟨hk.1, ⟨hk.2.2.1, ⟨hk.2.2.2.1, ⟨hk.2.2.2.2.1, ⟨hk.2.2.2.2.2.1, hk.2.2.2.2.2.2⟩⟩⟩⟩⟩))); (case aS => exact (by first | exact HK.out.1 | exact (show Kept w _ (fun k_ => P0_0_ k_) from by repeat (first | (with_reducible first | exact HK.out | apply Kept.alloc | apply Kept.drewN | apply Kept.drew | refine Kept.setCell ?_ (.inr GW192.out) _ | refine Kept.setCell ?_ (.inr GW193.out) _ | refine Kept.setCell ?_ (.inr GW194.out) _) | exact HK.out)).1)); (case aL => have := LMc33.out; omega); intro v207 w39 ho hb hg hat; rw [← Ny206.out] at ho; have n0_ := Aside0.mk (Kd.R_over' (by (with_reducible repeat (first | apply Kd.R_alloc | apply Kd.R_drewN | apply Kd.R_drew)); exact HO_193000.out) (Kd.N_typed (by (with_reducible repeat (first | apply Kd.N_alloc | apply Kd.N_drewN | apply Kd.N_drew)); exact HO_195001.out)) (by decide) hg); have n1_ := Aside0.mk (Kd.R_over' (by (with_reducible repeat (first | apply Kd.R_alloc | apply Kd.R_drewN | apply Kd.R_drew)); exact HO_195000.out) (Kd.N_typed (by (with_reducible repeat (first | apply Kd.N_alloc | apply Kd.N_drewN | apply Kd.N_drew)); exact HO_195001.out)) (by decide) hg); have n2_ := Aside0.mk (blk_grown (g := gb192) (o := .cells #[.slice Ao2 l0_0.length co2, .slice (some ad198) l0_1.length c0_1] 39 (0, 0)) (by (with_reducible repeat first | refine blk_drewN ?_ _ | refine blk_drew ?_ | refine blk_alloc ?_ _); exact BK192.out) hg (Kd.N_ne HO_195001.out BK192.out (by decide))); have n3_ := Aside0.mk (blk_grown (g := gb193) (o := .cells #[.slice none 0 0, .slice none 0 0] 44 (0, 0)) (by (with_reducible repeat first | refine blk_drewN ?_ _ | refine blk_drew ?_ | refine blk_alloc ?_ _); exact BK193.out) hg (Kd.N_ne HO_195001.out BK193.out (by decide))); have n4_ := Aside0.mk (blk_grown (g := gb194) (o := .cells #[.slice Ao2 l0_0.length co2, u195001] 44 (0, 0)) (by (with_reducible repeat first | refine blk_drewN ?_ _ | refine blk_drew ?_ | refine blk_alloc ?_ _); exact BK194.out) hg (Kd.N_ne HO_195001.out BK194.out (by decide))); have n5_ := Aside0.mk (below_weaken (by repeat (first | (with_reducible first | exact HB.out | apply below_alloc | apply pw_below_drewN | apply below_drew1 | refine below_set ?_ GE192.out | refine below_set ?_ GE193.out | refine below_set ?_ GE194.out) | exact HB.out)) HW0.out hb); have n6_ := Aside0.mk (Kept.of_grown (S := (fun k_ => P0_0_ k_)) hg (by repeat (first | (with_reducible first | exact HK.out | apply Kept.alloc | apply Kept.drewN | apply Kept.drew | refine Kept.setCell ?_ (.inr GW192.out) _ | refine Kept.setCell ?_ (.inr GW193.out) _ | refine Kept.setCell ?_ (.inr GW194.out) _) | exact HK.out)) (fun k_ e_ => .inr (Kd.N_base HO_195001.out k_ e_))); have n7_ := Aside0.mk (ho); clear HO_193000; clear HO_195000; clear BK192; clear BK193; clear BK194; clear HB; clear HK; clear HO_195001; clear HO_5; have HO_193000 := n0_; have HO_195000 := n1_; have BK192 := n2_; have BK193 := n3_; have BK194 := n4_; have HB := n5_; have HK := n6_; have HO208 := n7_; clear n0_ n1_ n2_ n3_ n4_ n5_ n6_ n7_; clear ho hb hg hat; obtain ⟨Ao41, co41, eo41⟩ := Kd.N_slice HO208.out; subst eo41; have hcz42_0 : w39.cell? ⟨gb194, 0, none⟩ = some (.slice Ao2 l0_0.length co2) := (blk_cell BK194.out 0).trans rfl; have hcz42_1 : w39.cell? ⟨gb194, 1, none⟩ = some (u195001) := (blk_cell BK194.out 1).trans rfl; have hfz42_0 := blk_frozen BK194.out 0; have hfz42_1 := blk_frozen BK194.out 1))
             go_roundg k3
             case measure => have := HK1.out; have := HJ10.out; have := HK3.out; omega
             case rel => exact ⟨(wrap64 (x4_1 + 1)), (y206), (.slice Ao41 y206.length co41), (by first | rfl | (simp; done) | (simp [*]; done)), H', ⟨by have := HK1.out; have := HJ10.out; have := HK3.out; omega⟩, ⟨by (with_reducible repeat (first | apply Kd.R_alloc | apply Kd.R_drewN | apply Kd.R_drew)); exact Kd.R_mono (Kd.R_far (p := ⟨gb194, 1, none⟩) (Kd.R_types HO_193000.out BK194.out (by decide)) (fun _ hk => hk.2) (.slice Ao41 y206.length co41)) (fun _ hk => hk.1)⟩, ⟨by (with_reducible repeat (first | apply Kd.R_alloc | apply Kd.R_drewN | apply Kd.R_drew)); exact Kd.R_mono (Kd.R_far (p := ⟨gb194, 1, none⟩) (Kd.R_types HO_195000.out BK194.out (by decide)) (fun _ hk => hk.2) (.slice Ao41 y206.length co41)) (fun _ hk => hk.1)⟩, ⟨by (with_reducible repeat (first | apply Kd.N_alloc | apply Kd.N_drewN | apply Kd.N_drew)); exact Kd.N_mono (Kd.N_far (p := ⟨gb194, 1, none⟩) (Kd.N_mono HO208.out (fun k_ hk => (⟨hk, hk.2.2.2.2.2⟩ : _ ∧ k_ ≠ gb194))) (fun _ hk => hk.2) (.slice Ao41 y206.length co41)) (fun _ hk => ⟨hk.1.1, ⟨hk.1.2.1, ⟨hk.1.2.2.1, ⟨hk.1.2.2.2.1, ⟨hk.1.2.2.2.2.1, hk.1.2.2.2.2.2⟩⟩⟩⟩⟩)⟩, ⟨by (with_reducible repeat first | refine blk_drewN ?_ _ | refine blk_drew ?_ | refine blk_alloc ?_ _); refine blk_far ?_ NB192_194.out _; (with_reducible repeat first | refine blk_drewN ?_ _ | refine blk_drew ?_ | refine blk_alloc ?_ _); exact BK192.out⟩, ⟨by (with_reducible repeat first | refine blk_drewN ?_ _ | refine blk_drew ?_ | refine blk_alloc ?_ _); refine blk_far ?_ NB193_194.out _; (with_reducible repeat first | refine blk_drewN ?_ _ | refine blk_drew ?_ | refine blk_alloc ?_ _); exact BK193.out⟩, ⟨by (with_reducible repeat first | refine blk_drewN ?_ _ | refine blk_drew ?_ | refine blk_alloc ?_ _); refine blk_put (cs := #[.slice Ao2 l0_0.length co2, u195001]) ?_ 1 _ rfl; (with_reducible repeat first | refine blk_drewN ?_ _ | refine blk_drew ?_ | refine blk_alloc ?_ _); exact BK194.out⟩, ⟨by repeat (first | (with_reducible first | exact HK.out | apply Kept.alloc | apply Kept.drewN | apply Kept.drew | refine Kept.setCell ?_ (.inr GW192.out) _ | refine Kept.setCell ?_ (.inr GW193.out) _ | refine Kept.setCell ?_ (.inr GW194.out) _) | exact HK.out)⟩, ⟨by repeat (first | (with_reducible first | exact HB.out | apply below_alloc | apply pw_below_drewN | apply below_drew1 | refine below_set ?_ GE192.out | refine below_set ?_ GE193.out | refine below_set ?_ GE194.out) | exact HB.out)⟩⟩
            ·rw [if_neg c33] at H
             exact absurd H (by simp)
          ·rw [if_neg c24] at H
           have c24b0 : decide (x6_3 < ((rd_L7 l0_1 x4_1).length : Int)) = false := decide_eq_false c24
           clear c24
           by_cases c43 : x195001_1.length < 5864062014805
           ·rw [if_pos c43] at H
            have LMc43 := Aside0.mk c43
            clear c43
            obtain ⟨y209, hy209⟩ : ∃ y_ : List (List (S66)), y_ = (x195001_1 ++ [x5_3]) := ⟨_, rfl⟩
            replace H : (millstreamlaw06_its.l0 k3 (wrap64 (x4_1 + 1)) l0_0 l0_1 l0_0 y209) = some (r1, r2) := by first | (rw [hy209]; with_reducible exact H) | (have H2_ := (Option.bind_some _ _).symm.trans H; rw [hy209]; with_reducible exact H2_) | (have H2_ := (Option.bind_some _ _).symm.trans H; with_reducible exact H2_) | with_reducible exact H | (rw [hy209]; exact H) | exact H
            have Ny209 := Aside0.mk hy209
            clear hy209
            have H' := Aside0.mk H
            clear H
            have hnb44 := NB192_193.out
            have hnc44 := NB193_192.out
            have hnb45 := NB192_194.out
            have hnc45 := NB194_192.out
            have hcz46_0 : wr.cell? ⟨gb192, 0, none⟩ = some (.slice Ao2 l0_0.length co2) := (blk_cell BK192.out 0).trans rfl
            have hcz46_1 : wr.cell? ⟨gb192, 1, none⟩ = some (.slice A0_1 l0_1.length c0_1) := (blk_cell BK192.out 1).trans rfl
            have hfz46_0 := blk_frozen BK192.out 0
            have hfz46_1 := blk_frozen BK192.out 1
            have p198 : 0 ≤ (x4_1 : Int) := of_decide_eq_true (by first | (with_reducible assumption) | assumption)
            have q198 : x4_1 < (l0_1.length : Int) := of_decide_eq_true (by first | (with_reducible assumption) | assumption)
            obtain ⟨ad198, A198_0, c198_0, e198, hx198_0, hl198_0, hi198_0⟩ := at_L7 (Kd.C_kept_now HR0_1.out HK.out) x4_1 p198 q198
            cases e198
            have HR198_0 := Aside0.mk hi198_0
            have HC198_0 := Aside0.mk hl198_0
            clear hi198_0 hl198_0
            replace p198 := eq_true p198
            replace q198 := eq_true q198
            have hnb47 := NB194_193.out
            have hnc47 := NB193_194.out
            have hcz48_0 : wr.cell? ⟨gb194, 0, none⟩ = some (.slice Ao2 l0_0.length co2) := (blk_cell BK194.out 0).trans rfl
            have hcz48_1 : wr.cell? ⟨gb194, 1, none⟩ = some (u195001) := (blk_cell BK194.out 1).trans rfl
            have hfz48_0 := blk_frozen BK194.out 0
            have hfz48_1 := blk_frozen BK194.out 1
            obtain ⟨Ao50, co50, eo50⟩ := Kd.R_slice HO_5.out
            subst eo50
            go_wp2_with (first | ((with_reducible refine gate_builtin (b := .append) (xs := #[.tmp 59, .tmp 61]) rfl ?_); at_builtin; refine Kd.N_append (Kd.slice 66 k66) w.heap.size rfl (.tmp 59) (.tmp 61) 42 58 (.slice none 0 0) 24 rfl Try.underlying42 info58 rfl (by decide) (by omega) u195001 x195001_1 x5_3 [.slice Ao50 x5_3.length co50] (fun k_ => (P0_0_ k_ ∨ w.heap.size ≤ k_) ∧ some k_ ≠ (.slice Ao2 l0_0.length co2 : Value).ownBlock ∧ some k_ ≠ (.slice Ao2 l0_0.length co2 : Value).ownBlock ∧ k_ ≠ gb192 ∧ k_ ≠ gb193 ∧ k_ ≠ gb194) (fun k_ => ((fun k_ => (P0_0_ k_ ∨ w.heap.size ≤ k_) ∧ some k_ ≠ (.slice Ao2 l0_0.length co2 : Value).ownBlock ∧ some k_ ≠ (.slice Ao2 l0_0.length co2 : Value).ownBlock ∧ k_ ≠ gb192 ∧ k_ ≠ gb193 ∧ k_ ≠ gb194)) k_ ∧ some k_ ≠ (u195001 : Value).ownBlock) rfl rfl ?aP (fun _ hk => hk) ?aF ?aO (Below.refl _ _) ?aS ?aL ?_; (case aP => exact (Kd.FK_slice_mk (Kd.R_reads' (Kd.R_mono (ok' := (fun k_ => ((fun k_ => (P0_0_ k_ ∨ w.heap.size ≤ k_) ∧ some k_ ≠ (.slice Ao2 l0_0.length co2 : Value).ownBlock ∧ some k_ ≠ (.slice Ao2 l0_0.length co2 : Value).ownBlock ∧ k_ ≠ gb192 ∧ k_ ≠ gb193 ∧ k_ ≠ gb194)) k_ ∧ some k_ ≠ (u195001 : Value).ownBlock)) (Kd.R_types (Kd.R_types (Kd.R_types (Kd.R_apart' (Kd.R_apart' (Kd.R_apart' (HO_5.out) (Kd.R_typed HO_193000.out) (by decide)) (Kd.R_typed HO_195000.out) (by decide)) (Kd.N_typed HO_195001.out) (by decide)) BK192.out (by decide)) BK193.out (by decide)) BK194.out (by decide)) (fun k_ hk => ⟨⟨hk.1.1.1.1.1.1, ⟨hk.1.1.1.1.1.2, ⟨hk.1.1.1.1.2, ⟨hk.1.1.2, ⟨hk.1.2, hk.2⟩⟩⟩⟩⟩, hk.1.1.1.2⟩))).2.1 (Kd.R_F (Kd.R_mono (ok' := (fun k_ => ((fun k_ => (P0_0_ k_ ∨ w.heap.size ≤ k_) ∧ some k_ ≠ (.slice Ao2 l0_0.length co2 : Value).ownBlock ∧ some k_ ≠ (.slice Ao2 l0_0.length co2 : Value).ownBlock ∧ k_ ≠ gb192 ∧ k_ ≠ gb193 ∧ k_ ≠ gb194)) k_ ∧ some k_ ≠ (u195001 : Value).ownBlock)) (Kd.R_types (Kd.R_types (Kd.R_types (Kd.R_apart' (Kd.R_apart' (Kd.R_apart' (HO_5.out) (Kd.R_typed HO_193000.out) (by decide)) (Kd.R_typed HO_195000.out) (by decide)) (Kd.N_typed HO_195001.out) (by decide)) BK192.out (by decide)) BK193.out (by decide)) BK194.out (by decide)) (fun k_ hk => ⟨⟨hk.1.1.1.1.1.1, ⟨hk.1.1.1.1.1.2, ⟨hk.1.1.1.1.2, ⟨hk.1.1.2, ⟨hk.1.2, hk.2⟩⟩⟩⟩⟩, hk.1.1.1.2⟩))))); (case aF => exact (fun k_ hk => ⟨(.inr (Nat.le_trans (by first | exact HK.out.1 | exact (show Kept w _ (fun k_ => P0_0_ k_) from by repeat (first | (with_reducible first | exact HK.out | apply Kept.alloc | apply Kept.drewN | apply Kept.drew | refine Kept.setCell ?_ (.inr GW192.out) _ | refine Kept.setCell ?_ (.inr GW193.out) _ | refine Kept.setCell ?_ (.inr GW194.out) _) | exact HK.out)).1) hk)), Kd.fresh' (Kd.R_lt (by (with_reducible repeat (first | apply Kd.R_alloc | apply Kd.R_drewN | apply Kd.R_drew)); exact HO_193000.out)) k_ hk, Kd.fresh' (Kd.R_lt (by (with_reducible repeat (first | apply Kd.R_alloc | apply Kd.R_drewN | apply Kd.R_drew)); exact HO_195000.out)) k_ hk, Kd.freshB (g := gb192) (o := .cells #[.slice Ao2 l0_0.length co2, .slice (some ad198) l0_1.length c0_1] 39 (0, 0)) (by (with_reducible repeat first | refine blk_drewN ?_ _ | refine blk_drew ?_ | refine blk_alloc ?_ _); exact BK192.out) k_ hk, Kd.freshB (g := gb193) (o := .cells #[.slice none 0 0, .slice none 0 0] 44 (0, 0)) (by (with_reducible repeat first | refine blk_drewN ?_ _ | refine blk_drew ?_ | refine blk_alloc ?_ _); exact BK193.out) k_ hk, Kd.freshB (g := gb194) (o := .cells #[.slice Ao2 l0_0.length co2, u195001] 44 (0, 0)) (by (with_reducible repeat first | refine blk_drewN ?_ _ | refine blk_drew ?_ | refine blk_alloc ?_ _); exact BK194.out) k_ hk⟩)); (case aO => exact (by (with_reducible repeat (first | apply Kd.N_alloc | apply Kd.N_drewN | apply Kd.N_drew)); exact Kd.N_mono HO_195001.out (fun _ hk => ⟨hk.1, ⟨hk.2.2.1, ⟨hk.2.2.2.1, ⟨hk.2.2.2.2.1, ⟨hk.2.2.2.2.2.1, hk.2.2.2.2.2.2⟩⟩⟩⟩⟩))); (case aS => exact (by first | exact HK.out.1 | exact (show Kept w _ (fun k_ => P0_0_ k_) from by repeat (first | (with_reducible first | exact HK.out | apply Kept.alloc | apply Kept.drewN | apply Kept.drew | refine Kept.setCell ?_ (.inr GW192.out) _ | refine Kept.setCell ?_ (.inr GW193.out) _ | refine Kept.setCell ?_ (.inr GW194.out) _) | exact HK.out)).1)); (case aL => have := LMc43.out; omega); intro v210 w49 ho hb hg hat; rw [← Ny209.out] at ho; have n0_ := Aside0.mk (Kd.R_over' (by (with_reducible repeat (first | apply Kd.R_alloc | apply Kd.R_drewN | apply Kd.R_drew)); exact HO_193000.out) (Kd.N_typed (by (with_reducible repeat (first | apply Kd.N_alloc | apply Kd.N_drewN | apply Kd.N_drew)); exact HO_195001.out)) (by decide) hg); have n1_ := Aside0.mk (Kd.R_over' (by (with_reducible repeat (first | apply Kd.R_alloc | apply Kd.R_drewN | apply Kd.R_drew)); exact HO_195000.out) (Kd.N_typed (by (with_reducible repeat (first | apply Kd.N_alloc | apply Kd.N_drewN | apply Kd.N_drew)); exact HO_195001.out)) (by decide) hg); have n2_ := Aside0.mk (blk_grown (g := gb192) (o := .cells #[.slice Ao2 l0_0.length co2, .slice (some ad198) l0_1.length c0_1] 39 (0, 0)) (by (with_reducible repeat first | refine blk_drewN ?_ _ | refine blk_drew ?_ | refine blk_alloc ?_ _); exact BK192.out) hg (Kd.N_ne HO_195001.out BK192.out (by decide))); have n3_ := Aside0.mk (blk_grown (g := gb193) (o := .cells #[.slice none 0 0, .slice none 0 0] 44 (0, 0)) (by (with_reducible repeat first | refine blk_drewN ?_ _ | refine blk_drew ?_ | refine blk_alloc ?_ _); exact BK193.out) hg (Kd.N_ne HO_195001.out BK193.out (by decide))); have n4_ := Aside0.mk (blk_grown (g := gb194) (o := .cells #[.slice Ao2 l0_0.length co2, u195001] 44 (0, 0)) (by (with_reducible repeat first | refine blk_drewN ?_ _ | refine blk_drew ?_ | refine blk_alloc ?_ _); exact BK194.out) hg (Kd.N_ne HO_195001.out BK194.out (by decide))); have n5_ := Aside0.mk (below_weaken (by repeat (first | (with_reducible first | exact HB.out | apply below_alloc | apply pw_below_drewN | apply below_drew1 | refine below_set ?_ GE192.out | refine below_set ?_ GE193.out | refine below_set ?_ GE194.out) | exact HB.out)) HW0.out hb); have n6_ := Aside0.mk (Kept.of_grown (S := (fun k_ => P0_0_ k_)) hg (by repeat (first | (with_reducible first | exact HK.out | apply Kept.alloc | apply Kept.drewN | apply Kept.drew | refine Kept.setCell ?_ (.inr GW192.out) _ | refine Kept.setCell ?_ (.inr GW193.out) _ | refine Kept.setCell ?_ (.inr GW194.out) _) | exact HK.out)) (fun k_ e_ => .inr (Kd.N_base HO_195001.out k_ e_))); have n7_ := Aside0.mk (ho); clear HO_193000; clear HO_195000; clear BK192; clear BK193; clear BK194; clear HB; clear HK; clear HO_195001; clear HO_5; have HO_193000 := n0_; have HO_195000 := n1_; have BK192 := n2_; have BK193 := n3_; have BK194 := n4_; have HB := n5_; have HK := n6_; have HO211 := n7_; clear n0_ n1_ n2_ n3_ n4_ n5_ n6_ n7_; clear ho hb hg hat; obtain ⟨Ao51, co51, eo51⟩ := Kd.N_slice HO211.out; subst eo51; have hcz52_0 : w49.cell? ⟨gb194, 0, none⟩ = some (.slice Ao2 l0_0.length co2) := (blk_cell BK194.out 0).trans rfl; have hcz52_1 : w49.cell? ⟨gb194, 1, none⟩ = some (u195001) := (blk_cell BK194.out 1).trans rfl; have hfz52_0 := blk_frozen BK194.out 0; have hfz52_1 := blk_frozen BK194.out 1))
            go_roundg k3
            case measure => have := HK1.out; have := HJ10.out; have := HK3.out; omega
            case rel => exact ⟨(wrap64 (x4_1 + 1)), (y209), (.slice Ao51 y209.length co51), (by first | rfl | (simp; done) | (simp [*]; done)), H', ⟨by have := HK1.out; have := HJ10.out; have := HK3.out; omega⟩, ⟨by (with_reducible repeat (first | apply Kd.R_alloc | apply Kd.R_drewN | apply Kd.R_drew)); exact Kd.R_mono (Kd.R_far (p := ⟨gb194, 1, none⟩) (Kd.R_types HO_193000.out BK194.out (by decide)) (fun _ hk => hk.2) (.slice Ao51 y209.length co51)) (fun _ hk => hk.1)⟩, ⟨by (with_reducible repeat (first | apply Kd.R_alloc | apply Kd.R_drewN | apply Kd.R_drew)); exact Kd.R_mono (Kd.R_far (p := ⟨gb194, 1, none⟩) (Kd.R_types HO_195000.out BK194.out (by decide)) (fun _ hk => hk.2) (.slice Ao51 y209.length co51)) (fun _ hk => hk.1)⟩, ⟨by (with_reducible repeat (first | apply Kd.N_alloc | apply Kd.N_drewN | apply Kd.N_drew)); exact Kd.N_mono (Kd.N_far (p := ⟨gb194, 1, none⟩) (Kd.N_mono HO211.out (fun k_ hk => (⟨hk, hk.2.2.2.2.2⟩ : _ ∧ k_ ≠ gb194))) (fun _ hk => hk.2) (.slice Ao51 y209.length co51)) (fun _ hk => ⟨hk.1.1, ⟨hk.1.2.1, ⟨hk.1.2.2.1, ⟨hk.1.2.2.2.1, ⟨hk.1.2.2.2.2.1, hk.1.2.2.2.2.2⟩⟩⟩⟩⟩)⟩, ⟨by (with_reducible repeat first | refine blk_drewN ?_ _ | refine blk_drew ?_ | refine blk_alloc ?_ _); refine blk_far ?_ NB192_194.out _; (with_reducible repeat first | refine blk_drewN ?_ _ | refine blk_drew ?_ | refine blk_alloc ?_ _); exact BK192.out⟩, ⟨by (with_reducible repeat first | refine blk_drewN ?_ _ | refine blk_drew ?_ | refine blk_alloc ?_ _); refine blk_far ?_ NB193_194.out _; (with_reducible repeat first | refine blk_drewN ?_ _ | refine blk_drew ?_ | refine blk_alloc ?_ _); exact BK193.out⟩, ⟨by (with_reducible repeat first | refine blk_drewN ?_ _ | refine blk_drew ?_ | refine blk_alloc ?_ _); refine blk_put (cs := #[.slice Ao2 l0_0.length co2, u195001]) ?_ 1 _ rfl; (with_reducible repeat first | refine blk_drewN ?_ _ | refine blk_drew ?_ | refine blk_alloc ?_ _); exact BK194.out⟩, ⟨by repeat (first | (with_reducible first | exact HK.out | apply Kept.alloc | apply Kept.drewN | apply Kept.drew | refine Kept.setCell ?_ (.inr GW192.out) _ | refine Kept.setCell ?_ (.inr GW193.out) _ | refine Kept.setCell ?_ (.inr GW194.out) _) | exact HK.out)⟩, ⟨by repeat (first | (with_reducible first | exact HB.out | apply below_alloc | apply pw_below_drewN | apply below_drew1 | refine below_set ?_ GE192.out | refine below_set ?_ GE193.out | refine below_set ?_ GE194.out) | exact HB.out)⟩⟩
           ·rw [if_neg c43] at H
            exact absurd H (by simp)
         ·rw [if_neg c23] at H
          exact absurd H (by simp)
        ·rw [if_neg c22] at H
         exact absurd H (by simp)
     ·replace c19 := Bool.eq_false_iff.mpr c19
      subst c19
      have H1 : (some (l0_0, x195001_1)) = some (r1, r2) := by rw [if_neg (show ¬ (false = true) by decide)] at H; exact H
      clear H
      have H := H1
      clear H1
      simp only [Option.some.injEq, Prod.mk.injEq] at H
      obtain ⟨rfl, rfl⟩ := H
      have hnb53 := NB194_192.out
      have hnc53 := NB192_194.out
      have hnb54 := NB194_193.out
      have hnc54 := NB193_194.out
      have hcz55_0 : wc.cell? ⟨gb194, 0, none⟩ = some (.slice Ao2 l0_0.length co2) := (blk_cell BK194.out 0).trans rfl
      have hcz55_1 : wc.cell? ⟨gb194, 1, none⟩ = some (u195001) := (blk_cell BK194.out 1).trans rfl
      have hfz55_0 := blk_frozen BK194.out 0
      have hfz55_1 := blk_frozen BK194.out 1
      have hnb56 := NB193_192.out
      have hnc56 := NB192_193.out
      have hcz57_0 : wc.cell? ⟨gb193, 0, none⟩ = some (.slice none 0 0) := (blk_cell BK193.out 0).trans rfl
      have hcz57_1 : wc.cell? ⟨gb193, 1, none⟩ = some (.slice none 0 0) := (blk_cell BK193.out 1).trans rfl
      have hfz57_0 := blk_frozen BK193.out 0
      have hfz57_1 := blk_frozen BK193.out 1
      obtain ⟨Ao58, co58, eo58⟩ := Kd.N_slice HO_195001.out
      subst eo58
      go_wp2
      refine bodyPost_ret (results_cell_row rfl _ _ gb193 44 #[.slice Ao2 l0_0.length co2, .slice Ao58 x195001_1.length co58] (0, 0) _ rfl (by (with_reducible repeat first | refine blk_drewN ?_ _ | refine blk_drew ?_ | refine blk_alloc ?_ _); refine blk_put (cs := #[.slice Ao2 l0_0.length co2, .slice none 0 0]) ?_ 1 _ rfl; (with_reducible repeat first | refine blk_drewN ?_ _ | refine blk_drew ?_ | refine blk_alloc ?_ _); refine blk_put (cs := #[.slice none 0 0, .slice none 0 0]) ?_ 0 _ rfl; (with_reducible repeat first | refine blk_drewN ?_ _ | refine blk_drew ?_ | refine blk_alloc ?_ _); exact BK193.out) Try.underlying44 rfl (by kernel_rfl)) rfl ?_
      exact ⟨_, _, by first | rfl | (simp [errW_none, errW_some] <;> rfl) | (simp [*, errW_none, errW_some] <;> rfl), by (with_reducible repeat (first | apply Kd.R_alloc | apply Kd.R_drewN | apply Kd.R_drew)); exact Kd.R_mono (Kd.R_far (p := ⟨gb193, 1, none⟩) (Kd.R_far (p := ⟨gb193, 0, none⟩) (Kd.R_types HO_195000.out BK193.out (by decide)) (fun _ hk => hk.2) (.slice Ao2 l0_0.length co2)) (fun _ hk => hk.2) (.slice Ao58 x195001_1.length co58)) (fun _ hk => hk.1), by (with_reducible repeat (first | apply Kd.N_alloc | apply Kd.N_drewN | apply Kd.N_drew)); exact Kd.N_mono (Kd.N_far (p := ⟨gb193, 1, none⟩) (Kd.N_far (p := ⟨gb193, 0, none⟩) (Kd.N_mono HO_195001.out (fun k_ hk => (⟨hk, hk.2.2.2.2.1⟩ : _ ∧ k_ ≠ gb193))) (fun _ hk => hk.2) (.slice Ao2 l0_0.length co2)) (fun _ hk => hk.2) (.slice Ao58 x195001_1.length co58)) (fun _ hk => ⟨hk.1.1, hk.1.2.2.1⟩), by repeat (first | (with_reducible first | exact HB.out | apply below_alloc | apply pw_below_drewN | apply below_drew1 | refine below_set ?_ GE192.out | refine below_set ?_ GE193.out | refine below_set ?_ GE194.out) | exact HB.out), by repeat (first | (with_reducible first | exact HK.out | apply Kept.alloc | apply Kept.drewN | apply Kept.drew | refine Kept.setCell ?_ (.inr GW192.out) _ | refine Kept.setCell ?_ (.inr GW193.out) _ | refine Kept.setCell ?_ (.inr GW194.out) _) | exact HK.out)⟩

end Go.Proofs.Ytdfcioadccijfaa.PA
