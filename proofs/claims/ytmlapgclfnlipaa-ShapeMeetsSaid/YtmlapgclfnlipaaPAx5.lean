-- Laid by a program of this session over the kit's print; hand-proved functions stand among them. Not trusted: Lean checks it.
import Derived.Test.YtmlapgclfnlipaaPAx0
import Derived.Test.YtmlapgclfnlipaaPAx1
import Derived.Test.YtmlapgclfnlipaaPAx2
namespace Go.Proofs.Ytmlapgclfnlipaa.PA
open Go.RowKit Go.Proofs.YtmlapgclfnlipaaW.PrintWords Go.Proofs.YtmlapgclfnlipaaW.PrintLast Go.Proofs.YtmlapgclfnlipaaW.PrintMore
attribute [local go_sem] max2_int min2_int max_two min_two max_three min_three max_four min_four   -- for this text's walks alone
set_option linter.unusedVariables false
set_option linter.unusedSimpArgs false

/-! ### millstreamlaw07_ShapeMeets: function 5 -/
mutual
def millstreamlaw07_ShapeMeets.j0 : Nat → Int → Int → Int → Int → List Int → List Int → Bool → Option (Bool)
 | 0, _, _, _, _, _, _, _ => none
 | k + 1, x1, x2, x7, x8, x9, x10, x57 => if x57 = true then (some false) else (millstreamlaw07_ShapeMeets.l0 k x1 x2 x7 x8 x9 x10 0)
def millstreamlaw07_ShapeMeets.l0 : Nat → Int → Int → Int → Int → List Int → List Int → Int → Option (Bool)
 | 0, _, _, _, _, _, _, _ => none
 | k + 1, x1, x2, x7, x8, x9, x10, x11 => if x11 < x7 then (if 0 ≤ x11 then (if x11 < (x9.length : Int) then (if x11 < (x10.length : Int) then ((shape_Level.f k (rd x9 x11)).bind fun t179 => ((shape_Level.f k x8).bind fun t180 => (if (((rd x9 x11) == (rd x10 x11)) != (decide (t179 ≤ t180))) = true then (some false) else (millstreamlaw07_ShapeMeets.l0 k x1 x2 x7 x8 x9 x10 (wrap64 (x11 + 1)))))) else (none)) else (none)) else (none)) else (if (wrap64 (Int.tdiv (wrap64 (x1)) 2)) = (wrap64 (Int.tdiv (wrap64 (x2)) 2)) then ((shape_Leaf.f x7 (wrap64 (x1))).bind fun t175 => (some (x8 == t175))) else (some true))
end
def millstreamlaw07_ShapeMeets.f (k : Nat) (a0 : Int) (a1 : Int) (a2 : Int) : Option (Bool) := (shape_Meet.f (wrap64 (1 + (Int.tmod (wrap64 (a0)) 4))) (wrap64 (a1)) (wrap64 (a2))).bind fun t166 => ((shape_Path.f (wrap64 (1 + (Int.tmod (wrap64 (a0)) 4))) (wrap64 (a1))).bind fun t167 => ((shape_Path.f (wrap64 (1 + (Int.tmod (wrap64 (a0)) 4))) (wrap64 (a2))).bind fun t170 => ((shape_Meet.f (wrap64 (1 + (Int.tmod (wrap64 (a0)) 4))) (wrap64 (a2)) (wrap64 (a1))).bind fun t173 => (if t166 = t173 then (if (t167.length : Int) = (wrap64 (1 + (Int.tmod (wrap64 (a0)) 4))) then (if (t170.length : Int) = (wrap64 (1 + (Int.tmod (wrap64 (a0)) 4))) then (if t166 < 1 then (millstreamlaw07_ShapeMeets.j0 k a1 a2 (wrap64 (1 + (Int.tmod (wrap64 (a0)) 4))) t166 t167 t170 true) else ((millstreamlaw07_shown.f k).bind fun t174 => (millstreamlaw07_ShapeMeets.j0 k a1 a2 (wrap64 (1 + (Int.tmod (wrap64 (a0)) 4))) t166 t167 t170 (!t174)))) else (millstreamlaw07_ShapeMeets.j0 k a1 a2 (wrap64 (1 + (Int.tmod (wrap64 (a0)) 4))) t166 t167 t170 true)) else (millstreamlaw07_ShapeMeets.j0 k a1 a2 (wrap64 (1 + (Int.tmod (wrap64 (a0)) 4))) t166 t167 t170 true)) else (millstreamlaw07_ShapeMeets.j0 k a1 a2 (wrap64 (1 + (Int.tmod (wrap64 (a0)) 4))) t166 t167 t170 true)))))
theorem millstreamlaw07_ShapeMeets.mono_l : ∀ k, (∀ y0 y1 y2 y3 y4 y5 y6, LeO (millstreamlaw07_ShapeMeets.j0 k y0 y1 y2 y3 y4 y5 y6) (millstreamlaw07_ShapeMeets.j0 (k + 1) y0 y1 y2 y3 y4 y5 y6)) ∧ (∀ y0 y1 y2 y3 y4 y5 y6, LeO (millstreamlaw07_ShapeMeets.l0 k y0 y1 y2 y3 y4 y5 y6) (millstreamlaw07_ShapeMeets.l0 (k + 1) y0 y1 y2 y3 y4 y5 y6))
 | 0 => ⟨fun _ _ _ _ _ _ _ r h => by simp [millstreamlaw07_ShapeMeets.j0] at h, fun _ _ _ _ _ _ _ r h => by simp [millstreamlaw07_ShapeMeets.l0] at h⟩
 | k + 1 => by
  obtain ⟨ih0, ih1⟩ := millstreamlaw07_ShapeMeets.mono_l k
  refine ⟨?_, ?_⟩
  ·intro y0 y1 y2 y3 y4 y5 y6
   unfold millstreamlaw07_ShapeMeets.j0
   repeat' first
   | (with_reducible exact ih0 _ _ _ _ _ _ _)
   | (with_reducible exact ih1 _ _ _ _ _ _ _)
   | (with_reducible exact millstreamlaw07_shown.mono _)
   | (with_reducible exact shape_Level.mono _ _)
   | (with_reducible exact LeO.refl _)
   | (with_reducible exact LeO.none _)
   | (with_reducible refine LeO.ite ?_ ?_)
   | (with_reducible refine LeO.bind ?_ (fun _ => ?_))
   | exact ih0 _ _ _ _ _ _ _
   | exact ih1 _ _ _ _ _ _ _
   | exact millstreamlaw07_shown.mono _
   | exact shape_Level.mono _ _
   | exact LeO.none _
   | refine LeO.ite ?_ ?_
   | refine LeO.bind ?_ (fun _ => ?_)
  ·intro y0 y1 y2 y3 y4 y5 y6
   unfold millstreamlaw07_ShapeMeets.l0
   repeat' first
   | (with_reducible exact ih0 _ _ _ _ _ _ _)
   | (with_reducible exact ih1 _ _ _ _ _ _ _)
   | (with_reducible exact millstreamlaw07_shown.mono _)
   | (with_reducible exact shape_Level.mono _ _)
   | (with_reducible exact LeO.refl _)
   | (with_reducible exact LeO.none _)
   | (with_reducible refine LeO.ite ?_ ?_)
   | (with_reducible refine LeO.bind ?_ (fun _ => ?_))
   | exact ih0 _ _ _ _ _ _ _
   | exact ih1 _ _ _ _ _ _ _
   | exact millstreamlaw07_shown.mono _
   | exact shape_Level.mono _ _
   | exact LeO.none _
   | refine LeO.ite ?_ ?_
   | refine LeO.bind ?_ (fun _ => ?_)
theorem millstreamlaw07_ShapeMeets.mono : ∀ a0 a1 a2 k, LeO (millstreamlaw07_ShapeMeets.f k a0 a1 a2) (millstreamlaw07_ShapeMeets.f (k + 1) a0 a1 a2) := by
 intro a0 a1 a2 k
 obtain ⟨ih0, ih1⟩ := millstreamlaw07_ShapeMeets.mono_l k
 unfold millstreamlaw07_ShapeMeets.f
 repeat' first
   | (with_reducible exact ih0 _ _ _ _ _ _ _)
   | (with_reducible exact ih1 _ _ _ _ _ _ _)
   | (with_reducible exact millstreamlaw07_shown.mono _)
   | (with_reducible exact shape_Level.mono _ _)
   | (with_reducible exact LeO.refl _)
   | (with_reducible exact LeO.none _)
   | (with_reducible refine LeO.ite ?_ ?_)
   | (with_reducible refine LeO.bind ?_ (fun _ => ?_))
   | exact ih0 _ _ _ _ _ _ _
   | exact ih1 _ _ _ _ _ _ _
   | exact millstreamlaw07_shown.mono _
   | exact shape_Level.mono _ _
   | exact LeO.none _
   | refine LeO.ite ?_ ?_
   | refine LeO.bind ?_ (fun _ => ?_)
def millstreamlaw07_ShapeMeets.T10 : Bool × List (List Nat × List Nat) := (true, [([], []), ([], []), ([0, 1], [0, 1]), ([2], [2]), ([], []), ([], []), ([4, 5], [4, 5]), ([6], [6]), ([3, 7], [3, 7]), ([], []), ([], []), ([9, 10], [9, 10]), ([11], [11]), ([12], [12]), ([], []), ([14, 13], [14]), ([13, 15], [13, 15]), ([8, 16], [8, 16])])
def millstreamlaw07_ShapeMeets.B10 : List Nat := [0, 0, 3, 7, 0, 0, 48, 112, 255, 0, 0, 1536, 3584, 7680, 0, 32256, 65024, 131071]
theorem millstreamlaw07_ShapeMeets.tab10 : rtab .any (opsOf Try.f5 10) = millstreamlaw07_ShapeMeets.T10 := by kernel_rfl
theorem millstreamlaw07_ShapeMeets.bits10 : waitsOk millstreamlaw07_ShapeMeets.T10.2 millstreamlaw07_ShapeMeets.B10 = true := by kernel_rfl
set_option maxHeartbeats 60000000 in
set_option maxRecDepth 100000 in
theorem millstreamlaw07_ShapeMeets.calls (k : Nat) (a0 : Int) (a1 : Int) (a2 : Int) (r : Bool) (w : World) (h : millstreamlaw07_ShapeMeets.f k a0 a1 a2 = some r) (hr_ : Aside0 (r = true)) :
  Calls Try.prog 5 #[.int .u8 a0, .int .u16 a1, .int .u16 a2] w fun e w' => e = .returned (.bool r) ∧ Below w.heap.size w w' := by
 have HB := Aside0.mk (Below.refl w.heap.size w)
 have H : ((shape_Meet.f (wrap64 (1 + (Int.tmod (wrap64 (a0)) 4))) (wrap64 (a1)) (wrap64 (a2))).bind fun t166 => ((shape_Path.f (wrap64 (1 + (Int.tmod (wrap64 (a0)) 4))) (wrap64 (a1))).bind fun t167 => ((shape_Path.f (wrap64 (1 + (Int.tmod (wrap64 (a0)) 4))) (wrap64 (a2))).bind fun t170 => ((shape_Meet.f (wrap64 (1 + (Int.tmod (wrap64 (a0)) 4))) (wrap64 (a2)) (wrap64 (a1))).bind fun t173 => (if t166 = t173 then (if (t167.length : Int) = (wrap64 (1 + (Int.tmod (wrap64 (a0)) 4))) then (if (t170.length : Int) = (wrap64 (1 + (Int.tmod (wrap64 (a0)) 4))) then (if t166 < 1 then (millstreamlaw07_ShapeMeets.j0 k a1 a2 (wrap64 (1 + (Int.tmod (wrap64 (a0)) 4))) t166 t167 t170 true) else ((millstreamlaw07_shown.f k).bind fun t174 => (millstreamlaw07_ShapeMeets.j0 k a1 a2 (wrap64 (1 + (Int.tmod (wrap64 (a0)) 4))) t166 t167 t170 (!t174)))) else (millstreamlaw07_ShapeMeets.j0 k a1 a2 (wrap64 (1 + (Int.tmod (wrap64 (a0)) 4))) t166 t167 t170 true)) else (millstreamlaw07_ShapeMeets.j0 k a1 a2 (wrap64 (1 + (Int.tmod (wrap64 (a0)) 4))) t166 t167 t170 true)) else (millstreamlaw07_ShapeMeets.j0 k a1 a2 (wrap64 (1 + (Int.tmod (wrap64 (a0)) 4))) t166 t167 t170 true)))))) = some r := h
 clear h
 replace H := Option.bind_eq_some_iff.mp H
 obtain ⟨t166, A40, H⟩ := H
 replace H : ((shape_Path.f (wrap64 (1 + (Int.tmod (wrap64 (a0)) 4))) (wrap64 (a1))).bind fun t167 => ((shape_Path.f (wrap64 (1 + (Int.tmod (wrap64 (a0)) 4))) (wrap64 (a2))).bind fun t170 => ((shape_Meet.f (wrap64 (1 + (Int.tmod (wrap64 (a0)) 4))) (wrap64 (a2)) (wrap64 (a1))).bind fun t173 => (if t166 = t173 then (if (t167.length : Int) = (wrap64 (1 + (Int.tmod (wrap64 (a0)) 4))) then (if (t170.length : Int) = (wrap64 (1 + (Int.tmod (wrap64 (a0)) 4))) then (if t166 < 1 then (millstreamlaw07_ShapeMeets.j0 k a1 a2 (wrap64 (1 + (Int.tmod (wrap64 (a0)) 4))) t166 t167 t170 true) else ((millstreamlaw07_shown.f k).bind fun t174 => (millstreamlaw07_ShapeMeets.j0 k a1 a2 (wrap64 (1 + (Int.tmod (wrap64 (a0)) 4))) t166 t167 t170 (!t174)))) else (millstreamlaw07_ShapeMeets.j0 k a1 a2 (wrap64 (1 + (Int.tmod (wrap64 (a0)) 4))) t166 t167 t170 true)) else (millstreamlaw07_ShapeMeets.j0 k a1 a2 (wrap64 (1 + (Int.tmod (wrap64 (a0)) 4))) t166 t167 t170 true)) else (millstreamlaw07_ShapeMeets.j0 k a1 a2 (wrap64 (1 + (Int.tmod (wrap64 (a0)) 4))) t166 t167 t170 true))))) = some r := H
 have A4 := Aside0.mk A40
 clear A40
 replace H := Option.bind_eq_some_iff.mp H
 obtain ⟨t167, A50, H⟩ := H
 replace H : ((shape_Path.f (wrap64 (1 + (Int.tmod (wrap64 (a0)) 4))) (wrap64 (a2))).bind fun t170 => ((shape_Meet.f (wrap64 (1 + (Int.tmod (wrap64 (a0)) 4))) (wrap64 (a2)) (wrap64 (a1))).bind fun t173 => (if t166 = t173 then (if (t167.length : Int) = (wrap64 (1 + (Int.tmod (wrap64 (a0)) 4))) then (if (t170.length : Int) = (wrap64 (1 + (Int.tmod (wrap64 (a0)) 4))) then (if t166 < 1 then (millstreamlaw07_ShapeMeets.j0 k a1 a2 (wrap64 (1 + (Int.tmod (wrap64 (a0)) 4))) t166 t167 t170 true) else ((millstreamlaw07_shown.f k).bind fun t174 => (millstreamlaw07_ShapeMeets.j0 k a1 a2 (wrap64 (1 + (Int.tmod (wrap64 (a0)) 4))) t166 t167 t170 (!t174)))) else (millstreamlaw07_ShapeMeets.j0 k a1 a2 (wrap64 (1 + (Int.tmod (wrap64 (a0)) 4))) t166 t167 t170 true)) else (millstreamlaw07_ShapeMeets.j0 k a1 a2 (wrap64 (1 + (Int.tmod (wrap64 (a0)) 4))) t166 t167 t170 true)) else (millstreamlaw07_ShapeMeets.j0 k a1 a2 (wrap64 (1 + (Int.tmod (wrap64 (a0)) 4))) t166 t167 t170 true)))) = some r := H
 have A5 := Aside0.mk A50
 clear A50
 replace H := Option.bind_eq_some_iff.mp H
 obtain ⟨t170, A60, H⟩ := H
 replace H : ((shape_Meet.f (wrap64 (1 + (Int.tmod (wrap64 (a0)) 4))) (wrap64 (a2)) (wrap64 (a1))).bind fun t173 => (if t166 = t173 then (if (t167.length : Int) = (wrap64 (1 + (Int.tmod (wrap64 (a0)) 4))) then (if (t170.length : Int) = (wrap64 (1 + (Int.tmod (wrap64 (a0)) 4))) then (if t166 < 1 then (millstreamlaw07_ShapeMeets.j0 k a1 a2 (wrap64 (1 + (Int.tmod (wrap64 (a0)) 4))) t166 t167 t170 true) else ((millstreamlaw07_shown.f k).bind fun t174 => (millstreamlaw07_ShapeMeets.j0 k a1 a2 (wrap64 (1 + (Int.tmod (wrap64 (a0)) 4))) t166 t167 t170 (!t174)))) else (millstreamlaw07_ShapeMeets.j0 k a1 a2 (wrap64 (1 + (Int.tmod (wrap64 (a0)) 4))) t166 t167 t170 true)) else (millstreamlaw07_ShapeMeets.j0 k a1 a2 (wrap64 (1 + (Int.tmod (wrap64 (a0)) 4))) t166 t167 t170 true)) else (millstreamlaw07_ShapeMeets.j0 k a1 a2 (wrap64 (1 + (Int.tmod (wrap64 (a0)) 4))) t166 t167 t170 true))) = some r := H
 have A6 := Aside0.mk A60
 clear A60
 have HC7 := Aside0.mk H
 clear H
 go_enter Try.func5, Try.ntmps5
 go_upto_region 5 with (first | ((with_reducible refine gate_callee (f := 18) rfl ?_); refine goesL_ (some 21) rfl rfl Try.func18 (by kernel_rfl) rfl #[.int .i64 (wrap64 (1 + (Int.tmod (wrap64 (a0)) 4))), .int .i64 (wrap64 (a1)), .int .i64 (wrap64 (a2))] rfl (by (try simp only [List.map_toArray, List.map_cons, List.map_nil]); first | done | rfl | (simp only [List.length_drop, List.length_take]; rfl)) ?_; (with_reducible refine (shape_Meet.calls (wrap64 (1 + (Int.tmod (wrap64 (a0)) 4))) (wrap64 (a1)) (wrap64 (a2)) t166 _ A4.out).mono ?_); rintro e w8 ⟨rfl, hb⟩; refine ⟨_, rfl, ?_⟩; have n0_ := Aside0.mk (below_step (by repeat (first | (with_reducible first | exact HB.out | apply below_alloc | apply pw_below_drewN | apply below_drew1) | exact HB.out)) hb); clear HB; have HB := n0_; clear n0_; (try clear hb); (try clear hb2); (try clear hk); (try clear hi)) | ((with_reducible refine gate_callee (f := 16) rfl ?_); refine goesL_ (some 25) rfl rfl Try.func16 (by kernel_rfl) rfl #[.int .i64 (wrap64 (1 + (Int.tmod (wrap64 (a0)) 4))), .int .i64 (wrap64 (a1))] rfl (by (try simp only [List.map_toArray, List.map_cons, List.map_nil]); first | done | rfl | (simp only [List.length_drop, List.length_take]; rfl)) ?_; (with_reducible refine (shape_Path.calls (wrap64 (1 + (Int.tmod (wrap64 (a0)) 4))) (wrap64 (a1)) t167 _ A5.out).mono ?_); rintro e w9 ⟨v168, rfl, ho0, hb⟩; refine ⟨_, rfl, ?_⟩; have n0_ := Aside0.mk (Kd.R_lower ho0 (below_size (by repeat (first | (with_reducible first | exact HB.out | apply below_alloc | apply pw_below_drewN | apply below_drew1) | exact HB.out)))); have n1_ := Aside0.mk (below_step (by repeat (first | (with_reducible first | exact HB.out | apply below_alloc | apply pw_below_drewN | apply below_drew1) | exact HB.out)) hb); clear HB; have HO169 := n0_; have HB := n1_; clear n0_ n1_; (try clear hb); (try clear hb2); (try clear hk); (try clear hi); (try clear ho0)) | ((with_reducible refine gate_callee (f := 16) rfl ?_); refine goesL_ (some 29) rfl rfl Try.func16 (by kernel_rfl) rfl #[.int .i64 (wrap64 (1 + (Int.tmod (wrap64 (a0)) 4))), .int .i64 (wrap64 (a2))] rfl (by (try simp only [List.map_toArray, List.map_cons, List.map_nil]); first | done | rfl | (simp only [List.length_drop, List.length_take]; rfl)) ?_; (with_reducible refine (shape_Path.calls (wrap64 (1 + (Int.tmod (wrap64 (a0)) 4))) (wrap64 (a2)) t170 _ A6.out).mono ?_); rintro e w10 ⟨v171, rfl, ho0, hb⟩; refine ⟨_, rfl, ?_⟩; have n0_ := Aside0.mk (Kd.R_elder' (by (with_reducible repeat (first | apply Kd.R_alloc | apply Kd.R_drewN | apply Kd.R_drew)); exact HO169.out) (Kd.R_base ho0) hb); have n1_ := Aside0.mk (Kd.R_lower (Kd.R_new' ho0 (Kd.R_lt (by (with_reducible repeat (first | apply Kd.R_alloc | apply Kd.R_drewN | apply Kd.R_drew)); exact HO169.out))) (below_size (by repeat (first | (with_reducible first | exact HB.out | apply below_alloc | apply pw_below_drewN | apply below_drew1) | exact HB.out)))); have n2_ := Aside0.mk (below_step (by repeat (first | (with_reducible first | exact HB.out | apply below_alloc | apply pw_below_drewN | apply below_drew1) | exact HB.out)) hb); clear HO169; clear HB; have HO169 := n0_; have HO172 := n1_; have HB := n2_; clear n0_ n1_ n2_; (try clear hb); (try clear hb2); (try clear hk); (try clear hi); (try clear ho0)))
 (try simp only [Act.put, List.setIfInBounds_toArray, List.set_cons_zero, List.set_cons_succ])
 go_cut [57] (fun v57 wc => ∃ (kq : Nat) (x57_6 : Bool), v57 = .bool x57_6 ∧ Aside0 (millstreamlaw07_ShapeMeets.j0 kq a1 a2 (wrap64 (1 + (Int.tmod (wrap64 (a0)) 4))) t166 t167 t170 x57_6 = some r) ∧ Aside0 (kq ≤ k) ∧ Aside0 (Kd.R (Kd.int .i64) 3 wc w.heap.size (fun k_ => some k_ ≠ (v171 : Value).ownBlock) v168 t167) ∧ Aside0 (Kd.R (Kd.int .i64) 3 wc w.heap.size (fun k_ => some k_ ≠ (v168 : Value).ownBlock) v171 t170) ∧ Aside0 (Below w.heap.size w wc))
 case first =>
  have H := HC7.out
  clear HC7
  replace H := Option.bind_eq_some_iff.mp H
  obtain ⟨t173, A110, H⟩ := H
  replace H : (if t166 = t173 then (if (t167.length : Int) = (wrap64 (1 + (Int.tmod (wrap64 (a0)) 4))) then (if (t170.length : Int) = (wrap64 (1 + (Int.tmod (wrap64 (a0)) 4))) then (if t166 < 1 then (millstreamlaw07_ShapeMeets.j0 k a1 a2 (wrap64 (1 + (Int.tmod (wrap64 (a0)) 4))) t166 t167 t170 true) else ((millstreamlaw07_shown.f k).bind fun t174 => (millstreamlaw07_ShapeMeets.j0 k a1 a2 (wrap64 (1 + (Int.tmod (wrap64 (a0)) 4))) t166 t167 t170 (!t174)))) else (millstreamlaw07_ShapeMeets.j0 k a1 a2 (wrap64 (1 + (Int.tmod (wrap64 (a0)) 4))) t166 t167 t170 true)) else (millstreamlaw07_ShapeMeets.j0 k a1 a2 (wrap64 (1 + (Int.tmod (wrap64 (a0)) 4))) t166 t167 t170 true)) else (millstreamlaw07_ShapeMeets.j0 k a1 a2 (wrap64 (1 + (Int.tmod (wrap64 (a0)) 4))) t166 t167 t170 true)) = some r := H
  have A11 := Aside0.mk A110
  clear A110
  by_cases c12 : t166 = t173
  ·rw [if_pos c12] at H
   have c12b0 : (t166 == t173) = true := beq_iff_eq.mpr c12
   have c12b1 : (t166 != t173) = false := bne_eq_false_iff_eq.mpr c12
   clear c12
   (first | rw [c12b0] | (simp only [i64_w, i32_w]; rw [c12b0]) | skip)
   by_cases c13 : (t167.length : Int) = (wrap64 (1 + (Int.tmod (wrap64 (a0)) 4)))
   ·rw [if_pos c13] at H
    have c13b0 : ((t167.length : Int) == (wrap64 (1 + (Int.tmod (wrap64 (a0)) 4)))) = true := beq_iff_eq.mpr c13
    have c13b1 : ((t167.length : Int) != (wrap64 (1 + (Int.tmod (wrap64 (a0)) 4)))) = false := bne_eq_false_iff_eq.mpr c13
    clear c13
    by_cases c14 : (t170.length : Int) = (wrap64 (1 + (Int.tmod (wrap64 (a0)) 4)))
    ·rw [if_pos c14] at H
     have c14b0 : ((t170.length : Int) == (wrap64 (1 + (Int.tmod (wrap64 (a0)) 4)))) = true := beq_iff_eq.mpr c14
     have c14b1 : ((t170.length : Int) != (wrap64 (1 + (Int.tmod (wrap64 (a0)) 4)))) = false := bne_eq_false_iff_eq.mpr c14
     clear c14
     by_cases c15 : t166 < 1
     ·rw [if_pos c15] at H
      have c15b0 : decide (t166 < 1) = true := decide_eq_true c15
      clear c15
      have H' := Aside0.mk H
      clear H
      go_wp2_with (first | ((with_reducible refine gate_callee (f := 18) rfl ?_); refine goesL_ (some 36) rfl rfl Try.func18 (by kernel_rfl) rfl #[.int .i64 (wrap64 (1 + (Int.tmod (wrap64 (a0)) 4))), .int .i64 (wrap64 (a2)), .int .i64 (wrap64 (a1))] rfl (by (try simp only [List.map_toArray, List.map_cons, List.map_nil]); first | done | rfl | (simp only [List.length_drop, List.length_take]; rfl)) ?_; (with_reducible refine (shape_Meet.calls (wrap64 (1 + (Int.tmod (wrap64 (a0)) 4))) (wrap64 (a2)) (wrap64 (a1)) t173 _ A11.out).mono ?_); rintro e w16 ⟨rfl, hb⟩; refine ⟨_, rfl, ?_⟩; have n0_ := Aside0.mk (Kd.R_below (by (with_reducible repeat (first | apply Kd.R_alloc | apply Kd.R_drewN | apply Kd.R_drew)); exact HO169.out) hb); have n1_ := Aside0.mk (Kd.R_below (by (with_reducible repeat (first | apply Kd.R_alloc | apply Kd.R_drewN | apply Kd.R_drew)); exact HO172.out) hb); have n2_ := Aside0.mk (below_step (by repeat (first | (with_reducible first | exact HB.out | apply below_alloc | apply pw_below_drewN | apply below_drew1) | exact HB.out)) hb); clear HO169; clear HO172; clear HB; have HO169 := n0_; have HO172 := n1_; have HB := n2_; clear n0_ n1_ n2_; (try clear hb); (try clear hb2); (try clear hk); (try clear hi); obtain ⟨Ao17, co17, eo17⟩ := Kd.R_slice HO169.out; subst eo17; obtain ⟨Ao18, co18, eo18⟩ := Kd.R_slice HO172.out; subst eo18))
      go_meet
      case rel => exact ⟨_, (true), (by first | rfl | (simp; done) | (simp [*]; done)), H', ⟨by first | omega | exact Nat.le_refl _⟩, ⟨by (with_reducible repeat (first | apply Kd.R_alloc | apply Kd.R_drewN | apply Kd.R_drew)); exact Kd.R_mono HO169.out (fun _ hk => hk.2)⟩, ⟨by (with_reducible repeat (first | apply Kd.R_alloc | apply Kd.R_drewN | apply Kd.R_drew)); exact Kd.R_mono HO172.out (fun _ hk => hk.2)⟩, ⟨by repeat (first | (with_reducible first | exact HB.out | apply below_alloc | apply pw_below_drewN | apply below_drew1) | exact HB.out)⟩⟩
     ·rw [if_neg c15] at H
      have c15b0 : decide (t166 < 1) = false := decide_eq_false c15
      clear c15
      replace H := Option.bind_eq_some_iff.mp H
      obtain ⟨t174, A190, H⟩ := H
      replace H : (millstreamlaw07_ShapeMeets.j0 k a1 a2 (wrap64 (1 + (Int.tmod (wrap64 (a0)) 4))) t166 t167 t170 (!t174)) = some r := H
      have A19 := Aside0.mk A190
      clear A190
      have H' := Aside0.mk H
      clear H
      go_wp2_with (first | ((with_reducible refine gate_callee (f := 18) rfl ?_); refine goesL_ (some 36) rfl rfl Try.func18 (by kernel_rfl) rfl #[.int .i64 (wrap64 (1 + (Int.tmod (wrap64 (a0)) 4))), .int .i64 (wrap64 (a2)), .int .i64 (wrap64 (a1))] rfl (by (try simp only [List.map_toArray, List.map_cons, List.map_nil]); first | done | rfl | (simp only [List.length_drop, List.length_take]; rfl)) ?_; (with_reducible refine (shape_Meet.calls (wrap64 (1 + (Int.tmod (wrap64 (a0)) 4))) (wrap64 (a2)) (wrap64 (a1)) t173 _ A11.out).mono ?_); rintro e w20 ⟨rfl, hb⟩; refine ⟨_, rfl, ?_⟩; have n0_ := Aside0.mk (Kd.R_below (by (with_reducible repeat (first | apply Kd.R_alloc | apply Kd.R_drewN | apply Kd.R_drew)); exact HO169.out) hb); have n1_ := Aside0.mk (Kd.R_below (by (with_reducible repeat (first | apply Kd.R_alloc | apply Kd.R_drewN | apply Kd.R_drew)); exact HO172.out) hb); have n2_ := Aside0.mk (below_step (by repeat (first | (with_reducible first | exact HB.out | apply below_alloc | apply pw_below_drewN | apply below_drew1) | exact HB.out)) hb); clear HO169; clear HO172; clear HB; have HO169 := n0_; have HO172 := n1_; have HB := n2_; clear n0_ n1_ n2_; (try clear hb); (try clear hb2); (try clear hk); (try clear hi); obtain ⟨Ao21, co21, eo21⟩ := Kd.R_slice HO169.out; subst eo21; obtain ⟨Ao22, co22, eo22⟩ := Kd.R_slice HO172.out; subst eo22) | (go_at_call 20; (with_reducible refine (millstreamlaw07_shown.calls k  t174 _ A19.out).mono ?_); rintro e w23 ⟨rfl, hb⟩; have n0_ := Aside0.mk (Kd.R_below (by (with_reducible repeat (first | apply Kd.R_alloc | apply Kd.R_drewN | apply Kd.R_drew)); exact HO169.out) hb); have n1_ := Aside0.mk (Kd.R_below (by (with_reducible repeat (first | apply Kd.R_alloc | apply Kd.R_drewN | apply Kd.R_drew)); exact HO172.out) hb); have n2_ := Aside0.mk (below_step (by repeat (first | (with_reducible first | exact HB.out | apply below_alloc | apply pw_below_drewN | apply below_drew1) | exact HB.out)) hb); clear HO169; clear HO172; clear HB; have HO169 := n0_; have HO172 := n1_; have HB := n2_; clear n0_ n1_ n2_; (try clear hb); (try clear hb2); (try clear hk); (try clear hi)))
      go_meet
      case rel => exact ⟨_, (!t174), (by first | rfl | (simp; done) | (simp [*]; done)), H', ⟨by first | omega | exact Nat.le_refl _⟩, ⟨by (with_reducible repeat (first | apply Kd.R_alloc | apply Kd.R_drewN | apply Kd.R_drew)); exact Kd.R_mono HO169.out (fun _ hk => hk.2)⟩, ⟨by (with_reducible repeat (first | apply Kd.R_alloc | apply Kd.R_drewN | apply Kd.R_drew)); exact Kd.R_mono HO172.out (fun _ hk => hk.2)⟩, ⟨by repeat (first | (with_reducible first | exact HB.out | apply below_alloc | apply pw_below_drewN | apply below_drew1) | exact HB.out)⟩⟩
    ·rw [if_neg c14] at H
     have c14b0 : ((t170.length : Int) == (wrap64 (1 + (Int.tmod (wrap64 (a0)) 4)))) = false := beq_eq_false_iff_ne.mpr c14
     have c14b1 : ((t170.length : Int) != (wrap64 (1 + (Int.tmod (wrap64 (a0)) 4)))) = true := bne_iff_ne.mpr c14
     have H' := Aside0.mk H
     clear H
     go_wp2_with (first | ((with_reducible refine gate_callee (f := 18) rfl ?_); refine goesL_ (some 36) rfl rfl Try.func18 (by kernel_rfl) rfl #[.int .i64 (wrap64 (1 + (Int.tmod (wrap64 (a0)) 4))), .int .i64 (wrap64 (a2)), .int .i64 (wrap64 (a1))] rfl (by (try simp only [List.map_toArray, List.map_cons, List.map_nil]); first | done | rfl | (simp only [List.length_drop, List.length_take]; rfl)) ?_; (with_reducible refine (shape_Meet.calls (wrap64 (1 + (Int.tmod (wrap64 (a0)) 4))) (wrap64 (a2)) (wrap64 (a1)) t173 _ A11.out).mono ?_); rintro e w24 ⟨rfl, hb⟩; refine ⟨_, rfl, ?_⟩; have n0_ := Aside0.mk (Kd.R_below (by (with_reducible repeat (first | apply Kd.R_alloc | apply Kd.R_drewN | apply Kd.R_drew)); exact HO169.out) hb); have n1_ := Aside0.mk (Kd.R_below (by (with_reducible repeat (first | apply Kd.R_alloc | apply Kd.R_drewN | apply Kd.R_drew)); exact HO172.out) hb); have n2_ := Aside0.mk (below_step (by repeat (first | (with_reducible first | exact HB.out | apply below_alloc | apply pw_below_drewN | apply below_drew1) | exact HB.out)) hb); clear HO169; clear HO172; clear HB; have HO169 := n0_; have HO172 := n1_; have HB := n2_; clear n0_ n1_ n2_; (try clear hb); (try clear hb2); (try clear hk); (try clear hi); obtain ⟨Ao25, co25, eo25⟩ := Kd.R_slice HO169.out; subst eo25; obtain ⟨Ao26, co26, eo26⟩ := Kd.R_slice HO172.out; subst eo26))
     go_meet
     case rel => exact ⟨_, (true), (by first | rfl | (simp; done) | (simp [*]; done)), H', ⟨by first | omega | exact Nat.le_refl _⟩, ⟨by (with_reducible repeat (first | apply Kd.R_alloc | apply Kd.R_drewN | apply Kd.R_drew)); exact Kd.R_mono HO169.out (fun _ hk => hk.2)⟩, ⟨by (with_reducible repeat (first | apply Kd.R_alloc | apply Kd.R_drewN | apply Kd.R_drew)); exact Kd.R_mono HO172.out (fun _ hk => hk.2)⟩, ⟨by repeat (first | (with_reducible first | exact HB.out | apply below_alloc | apply pw_below_drewN | apply below_drew1) | exact HB.out)⟩⟩
   ·rw [if_neg c13] at H
    have c13b0 : ((t167.length : Int) == (wrap64 (1 + (Int.tmod (wrap64 (a0)) 4)))) = false := beq_eq_false_iff_ne.mpr c13
    have c13b1 : ((t167.length : Int) != (wrap64 (1 + (Int.tmod (wrap64 (a0)) 4)))) = true := bne_iff_ne.mpr c13
    have H' := Aside0.mk H
    clear H
    go_wp2_with (first | ((with_reducible refine gate_callee (f := 18) rfl ?_); refine goesL_ (some 36) rfl rfl Try.func18 (by kernel_rfl) rfl #[.int .i64 (wrap64 (1 + (Int.tmod (wrap64 (a0)) 4))), .int .i64 (wrap64 (a2)), .int .i64 (wrap64 (a1))] rfl (by (try simp only [List.map_toArray, List.map_cons, List.map_nil]); first | done | rfl | (simp only [List.length_drop, List.length_take]; rfl)) ?_; (with_reducible refine (shape_Meet.calls (wrap64 (1 + (Int.tmod (wrap64 (a0)) 4))) (wrap64 (a2)) (wrap64 (a1)) t173 _ A11.out).mono ?_); rintro e w27 ⟨rfl, hb⟩; refine ⟨_, rfl, ?_⟩; have n0_ := Aside0.mk (Kd.R_below (by (with_reducible repeat (first | apply Kd.R_alloc | apply Kd.R_drewN | apply Kd.R_drew)); exact HO169.out) hb); have n1_ := Aside0.mk (Kd.R_below (by (with_reducible repeat (first | apply Kd.R_alloc | apply Kd.R_drewN | apply Kd.R_drew)); exact HO172.out) hb); have n2_ := Aside0.mk (below_step (by repeat (first | (with_reducible first | exact HB.out | apply below_alloc | apply pw_below_drewN | apply below_drew1) | exact HB.out)) hb); clear HO169; clear HO172; clear HB; have HO169 := n0_; have HO172 := n1_; have HB := n2_; clear n0_ n1_ n2_; (try clear hb); (try clear hb2); (try clear hk); (try clear hi); obtain ⟨Ao28, co28, eo28⟩ := Kd.R_slice HO169.out; subst eo28))
    go_meet
    case rel => exact ⟨_, (true), (by first | rfl | (simp; done) | (simp [*]; done)), H', ⟨by first | omega | exact Nat.le_refl _⟩, ⟨by (with_reducible repeat (first | apply Kd.R_alloc | apply Kd.R_drewN | apply Kd.R_drew)); exact Kd.R_mono HO169.out (fun _ hk => hk.2)⟩, ⟨by (with_reducible repeat (first | apply Kd.R_alloc | apply Kd.R_drewN | apply Kd.R_drew)); exact Kd.R_mono HO172.out (fun _ hk => hk.2)⟩, ⟨by repeat (first | (with_reducible first | exact HB.out | apply below_alloc | apply pw_below_drewN | apply below_drew1) | exact HB.out)⟩⟩
  ·rw [if_neg c12] at H
   have c12b0 : (t166 == t173) = false := beq_eq_false_iff_ne.mpr c12
   have c12b1 : (t166 != t173) = true := bne_iff_ne.mpr c12
   (first | rw [c12b0] | (simp only [i64_w, i32_w]; rw [c12b0]) | skip)
   have H' := Aside0.mk H
   clear H
   go_wp2_with (first | ((with_reducible refine gate_callee (f := 18) rfl ?_); refine goesL_ (some 36) rfl rfl Try.func18 (by kernel_rfl) rfl #[.int .i64 (wrap64 (1 + (Int.tmod (wrap64 (a0)) 4))), .int .i64 (wrap64 (a2)), .int .i64 (wrap64 (a1))] rfl (by (try simp only [List.map_toArray, List.map_cons, List.map_nil]); first | done | rfl | (simp only [List.length_drop, List.length_take]; rfl)) ?_; (with_reducible refine (shape_Meet.calls (wrap64 (1 + (Int.tmod (wrap64 (a0)) 4))) (wrap64 (a2)) (wrap64 (a1)) t173 _ A11.out).mono ?_); rintro e w29 ⟨rfl, hb⟩; refine ⟨_, rfl, ?_⟩; have n0_ := Aside0.mk (Kd.R_below (by (with_reducible repeat (first | apply Kd.R_alloc | apply Kd.R_drewN | apply Kd.R_drew)); exact HO169.out) hb); have n1_ := Aside0.mk (Kd.R_below (by (with_reducible repeat (first | apply Kd.R_alloc | apply Kd.R_drewN | apply Kd.R_drew)); exact HO172.out) hb); have n2_ := Aside0.mk (below_step (by repeat (first | (with_reducible first | exact HB.out | apply below_alloc | apply pw_below_drewN | apply below_drew1) | exact HB.out)) hb); clear HO169; clear HO172; clear HB; have HO169 := n0_; have HO172 := n1_; have HB := n2_; clear n0_ n1_ n2_; (try clear hb); (try clear hb2); (try clear hk); (try clear hi)))
   go_meet
   case rel => exact ⟨_, (true), (by first | rfl | (simp; done) | (simp [*]; done)), H', ⟨by first | omega | exact Nat.le_refl _⟩, ⟨by (with_reducible repeat (first | apply Kd.R_alloc | apply Kd.R_drewN | apply Kd.R_drew)); exact Kd.R_mono HO169.out (fun _ hk => hk.2)⟩, ⟨by (with_reducible repeat (first | apply Kd.R_alloc | apply Kd.R_drewN | apply Kd.R_drew)); exact Kd.R_mono HO172.out (fun _ hk => hk.2)⟩, ⟨by repeat (first | (with_reducible first | exact HB.out | apply below_alloc | apply pw_below_drewN | apply below_drew1) | exact HB.out)⟩⟩
 case rest =>
  clear HC7
  try clear c1
  try clear p2
  try clear c5
  try clear p6
  try clear c12
  try clear c12b0
  try clear c12b1
  try clear c13
  try clear c13b0
  try clear c13b1
  try clear c14
  try clear c14b0
  try clear c14b1
  try clear c15
  try clear c15b0
  try clear c16
  try clear c18
  obtain ⟨kq, x57_6, rfl, HA, HJ6, HO_9, HO_10, HB⟩ := hcut
  cases kq with
  | zero => exact absurd HA.out (by simp [millstreamlaw07_ShapeMeets.j0])
  | succ kj6 =>
   have H := HA.out
   clear HA
   simp only [millstreamlaw07_ShapeMeets.j0] at H
   by_cases c30 : x57_6 = true
   ·subst c30
    have H1 : (some false) = some r := by rw [if_pos rfl] at H; exact H
    clear H
    have H := H1
    clear H1
    exact absurd ((Option.some.inj H).trans hr_.out) (by decide)
   ·replace c30 := Bool.eq_false_iff.mpr c30
    subst c30
    have H1 : (millstreamlaw07_ShapeMeets.l0 kj6 a1 a2 (wrap64 (1 + (Int.tmod (wrap64 (a0)) 4))) t166 t167 t170 0) = some r := by rw [if_neg (show ¬ (false = true) by decide)] at H; exact H
    clear H
    have H := H1
    clear H1
    have H' := Aside0.mk H
    clear H
    go_wp2
    go_loopg [11] kj6 (fun kq v11 w' => ∃ (x11_2 : Int), v11 = .int .i64 x11_2 ∧ Aside0 (millstreamlaw07_ShapeMeets.l0 kq a1 a2 (wrap64 (1 + (Int.tmod (wrap64 (a0)) 4))) t166 t167 t170 x11_2 = some r) ∧ Aside0 (kq ≤ kj6) ∧ Aside0 (Kd.R (Kd.int .i64) 3 w' w.heap.size (fun k_ => some k_ ≠ (v171 : Value).ownBlock) v168 t167) ∧ Aside0 (Kd.R (Kd.int .i64) 3 w' w.heap.size (fun k_ => some k_ ≠ (v168 : Value).ownBlock) v171 t170) ∧ Aside0 (Below w.heap.size w w'))
    case atStart => exact ⟨(0), (by first | rfl | (simp; done) | (simp [*]; done)), H', ⟨Nat.le_refl _⟩, ⟨by (with_reducible repeat (first | apply Kd.R_alloc | apply Kd.R_drewN | apply Kd.R_drew)); exact HO_9.out⟩, ⟨by (with_reducible repeat (first | apply Kd.R_alloc | apply Kd.R_drewN | apply Kd.R_drew)); exact HO_10.out⟩, ⟨by repeat (first | (with_reducible first | exact HB.out | apply below_alloc | apply pw_below_drewN | apply below_drew1) | exact HB.out)⟩⟩
    case round =>
     clear H'
     try clear c1
     try clear p2
     try clear c3
     try clear c5
     try clear p6
     try clear c12
     try clear c12b0
     try clear c12b1
     try clear c13
     try clear c13b0
     try clear c13b1
     try clear c14
     try clear c14b0
     try clear c14b1
     try clear c15
     try clear c15b0
     try clear c16
     try clear c18
     try clear c30
     try clear p2
     try clear p6
     obtain ⟨x11_2, rfl, HA, HK2, HO_9, HO_10, HB⟩ := hrel
     cases gk with
     | zero => exact absurd HA.out (by simp [millstreamlaw07_ShapeMeets.l0])
     | succ k2 =>
      have H := HA.out
      clear HA
      simp only [millstreamlaw07_ShapeMeets.l0] at H
      by_cases c31 : x11_2 < (wrap64 (1 + (Int.tmod (wrap64 (a0)) 4)))
      ·rw [if_pos c31] at H
       have c31b0 : decide (x11_2 < (wrap64 (1 + (Int.tmod (wrap64 (a0)) 4)))) = true := decide_eq_true c31
       clear c31
       by_cases c32 : 0 ≤ x11_2
       ·rw [if_pos c32] at H
        have c32b0 : decide (0 ≤ x11_2) = true := decide_eq_true c32
        clear c32
        by_cases c33 : x11_2 < (t167.length : Int)
        ·rw [if_pos c33] at H
         have c33b0 : decide (x11_2 < (t167.length : Int)) = true := decide_eq_true c33
         clear c33
         by_cases c34 : x11_2 < (t170.length : Int)
         ·rw [if_pos c34] at H
          have c34b0 : decide (x11_2 < (t170.length : Int)) = true := decide_eq_true c34
          clear c34
          replace H := Option.bind_eq_some_iff.mp H
          obtain ⟨t179, A350, H⟩ := H
          replace H : ((shape_Level.f k2 t166).bind fun t180 => (if (((rd t167 x11_2) == (rd t170 x11_2)) != (decide (t179 ≤ t180))) = true then (some false) else (millstreamlaw07_ShapeMeets.l0 k2 a1 a2 (wrap64 (1 + (Int.tmod (wrap64 (a0)) 4))) t166 t167 t170 (wrap64 (x11_2 + 1))))) = some r := H
          have A35 := Aside0.mk A350
          clear A350
          replace H := Option.bind_eq_some_iff.mp H
          obtain ⟨t180, A360, H⟩ := H
          replace H : (if (((rd t167 x11_2) == (rd t170 x11_2)) != (decide (t179 ≤ t180))) = true then (some false) else (millstreamlaw07_ShapeMeets.l0 k2 a1 a2 (wrap64 (1 + (Int.tmod (wrap64 (a0)) 4))) t166 t167 t170 (wrap64 (x11_2 + 1)))) = some r := H
          have A36 := Aside0.mk A360
          clear A360
          by_cases c37 : (((rd t167 x11_2) == (rd t170 x11_2)) != (decide (t179 ≤ t180))) = true
          ·rw [if_pos c37] at H
           have c37b0 : (((rd t167 x11_2) == (rd t170 x11_2)) != (decide (t179 ≤ t180))) = true := c37
           (try (have c37b1 : decide (((rd t167 x11_2) == (rd t170 x11_2)) = (decide (t179 ≤ t180))) = false := by simpa using c37))
           (try (have c37b2 : (((rd t167 x11_2) == (rd t170 x11_2)) == (decide (t179 ≤ t180))) = false := by simpa using c37))
           (try (have c37b3 : ¬ (((rd t167 x11_2) == (rd t170 x11_2)) = (decide (t179 ≤ t180))) := by simpa using c37))
           clear c37
           exact absurd ((Option.some.inj H).trans hr_.out) (by decide)
          ·rw [if_neg c37] at H
           have c37b0 : (((rd t167 x11_2) == (rd t170 x11_2)) != (decide (t179 ≤ t180))) = false := by simpa using c37
           (try (have c37b1 : decide (((rd t167 x11_2) == (rd t170 x11_2)) = (decide (t179 ≤ t180))) = true := by simpa using c37))
           (try (have c37b2 : (((rd t167 x11_2) == (rd t170 x11_2)) == (decide (t179 ≤ t180))) = true := by simpa using c37))
           clear c37
           have H' := Aside0.mk H
           clear H
           try go_wp2
           have n0_ := Aside0.mk (Kd.R_drew HO_9.out)
           have n1_ := Aside0.mk (Kd.R_drew HO_10.out)
           have n2_ := Aside0.mk (below_drew1 HB.out)
           clear HO_9
           clear HO_10
           clear HB
           have HO_9 := n0_
           have HO_10 := n1_
           have HB := n2_
           clear n0_ n1_ n2_
           obtain ⟨Ao39, co39, eo39⟩ := Kd.R_slice HO_9.out
           (first | subst eo39 | (injection eo39 with f1_ f2_ f3_; have f4_ := f1_.symm; have f5_ := f3_.symm; clear f1_ f2_ f3_; subst f4_; subst f5_))
           have p176 : 0 ≤ (x11_2 : Int) := of_decide_eq_true (by first | (with_reducible assumption) | assumption)
           have q176 : x11_2 < (t167.length : Int) := of_decide_eq_true (by first | (with_reducible assumption) | assumption)
           obtain ⟨ad176, e176, hx176_0⟩ := Kd.at_int (Kd.R_reads' HO_9.out).2.2 x11_2 p176 q176
           cases e176
           replace p176 := eq_true p176
           replace q176 := eq_true q176
           obtain ⟨Ao40, co40, eo40⟩ := Kd.R_slice HO_10.out
           (first | subst eo40 | (injection eo40 with f1_ f2_ f3_; have f4_ := f1_.symm; have f5_ := f3_.symm; clear f1_ f2_ f3_; subst f4_; subst f5_))
           have p177 : 0 ≤ (x11_2 : Int) := of_decide_eq_true (by first | (with_reducible assumption) | assumption)
           have q177 : x11_2 < (t170.length : Int) := of_decide_eq_true (by first | (with_reducible assumption) | assumption)
           obtain ⟨ad177, e177, hx177_0⟩ := Kd.at_int (Kd.R_reads' HO_10.out).2.2 x11_2 p177 q177
           cases e177
           replace p177 := eq_true p177
           replace q177 := eq_true q177
           have p178 : 0 ≤ (x11_2 : Int) := of_decide_eq_true (by first | (with_reducible assumption) | assumption)
           have q178 : x11_2 < (t167.length : Int) := of_decide_eq_true (by first | (with_reducible assumption) | assumption)
           obtain ⟨ad178, e178, hx178_0⟩ := Kd.at_int (Kd.R_reads' HO_9.out).2.2 x11_2 p178 q178
           obtain rfl : ad176 = ad178 := (by injection e178)
           replace p178 := eq_true p178
           replace q178 := eq_true q178
           refine start_ (n := 18) (S := fun w' => w'.cell? (ad176.add (x11_2).toNat) = some (.int .i64 (rd t167 x11_2)) ∧ w'.cell? (ad177.add (x11_2).toNat) = some (.int .i64 (rd t170 x11_2)) ∧ w'.cell? (ad176.add (x11_2).toNat) = some (.int .i64 (rd t167 x11_2))) (ds := []) #[false, false, false, false, false, false, false, false, false, false, false, false, false, false, false, false, false, false] (by kernel_rfl) rfl rfl ⟨hx176_0, hx177_0, hx178_0⟩ (fun hHeld => ?_); refine with_tabW millstreamlaw07_ShapeMeets.tab10 millstreamlaw07_ShapeMeets.bits10 (fun HT_ HW_ => ?_)
           generalize wr.drew = w38 at HO_9 HO_10 HB hx176_0 hx177_0 hx178_0 hHeld ⊢
           refine pure_ (i := 0) (N := some 63) (v := ?_) (a' := ?_) #[true, false, false, false, false, false, false, false, false, false, false, false, false, false, false, false, false, false] rfl rfl (any_of HT_.out (by kernel_rfl)) (fun _ _ _ h => h) (Or.inl ⟨by rfl, ?_⟩) ?_ ?_
           rotate_left
           ·intro w'
            go_simp
            with_reducible rfl
           rotate_left
           ·simp only [Act.put, List.setIfInBounds_toArray, List.set_cons_zero, List.set_cons_succ, i64_w, i32_w]
            rfl
           refine pure_ (i := 1) (N := some 64) (v := ?_) (a' := ?_) #[true, true, false, false, false, false, false, false, false, false, false, false, false, false, false, false, false, false] rfl rfl (any_of HT_.out (by kernel_rfl)) (fun _ _ _ h => h) (Or.inl ⟨by rfl, ?_⟩) ?_ ?_
           rotate_left
           ·intro w'
            go_simp
            with_reducible rfl
           rotate_left
           ·simp only [Act.put, List.setIfInBounds_toArray, List.set_cons_zero, List.set_cons_succ, i64_w, i32_w]
            rfl
           refine pure_ (i := 2) (N := some 65) (v := ?_) (a' := ?_) #[true, true, true, false, false, false, false, false, false, false, false, false, false, false, false, false, false, false] rfl rfl (any_of HT_.out (by kernel_rfl)) (fun _ _ _ h => h) (Or.inl ⟨by rfl, ?_⟩) ?_ ?_
           rotate_left
           ·intro w'
            go_simp
            with_reducible rfl
           rotate_left
           ·simp only [Act.put, List.setIfInBounds_toArray, List.set_cons_zero, List.set_cons_succ, i64_w, i32_w]
            rfl
           refine pure_ (i := 4) (N := some 67) (v := ?_) (a' := ?_) #[true, true, true, false, true, false, false, false, false, false, false, false, false, false, false, false, false, false] rfl rfl (any_of HT_.out (by kernel_rfl)) (fun _ _ _ h => h) (Or.inl ⟨by rfl, ?_⟩) ?_ ?_
           rotate_left
           ·intro w'
            go_simp
            with_reducible rfl
           rotate_left
           ·simp only [Act.put, List.setIfInBounds_toArray, List.set_cons_zero, List.set_cons_succ, i64_w, i32_w]
            rfl
           refine pure_ (i := 5) (N := some 68) (v := ?_) (a' := ?_) #[true, true, true, false, true, true, false, false, false, false, false, false, false, false, false, false, false, false] rfl rfl (any_of HT_.out (by kernel_rfl)) (fun _ _ _ h => h) (Or.inl ⟨by rfl, ?_⟩) ?_ ?_
           rotate_left
           ·intro w'
            go_simp
            with_reducible rfl
           rotate_left
           ·simp only [Act.put, List.setIfInBounds_toArray, List.set_cons_zero, List.set_cons_succ, i64_w, i32_w]
            rfl
           refine pure_ (i := 6) (N := some 69) (v := ?_) (a' := ?_) #[true, true, true, false, true, true, true, false, false, false, false, false, false, false, false, false, false, false] rfl rfl (any_of HT_.out (by kernel_rfl)) (fun _ _ _ h => h) (Or.inl ⟨by rfl, ?_⟩) ?_ ?_
           rotate_left
           ·intro w'
            go_simp
            with_reducible rfl
           rotate_left
           ·simp only [Act.put, List.setIfInBounds_toArray, List.set_cons_zero, List.set_cons_succ, i64_w, i32_w]
            rfl
           refine pure_ (i := 9) (N := some 72) (v := ?_) (a' := ?_) #[true, true, true, false, true, true, true, false, false, true, false, false, false, false, false, false, false, false] rfl rfl (any_of HT_.out (by kernel_rfl)) (fun _ _ _ h => h) (Or.inl ⟨by rfl, ?_⟩) ?_ ?_
           rotate_left
           ·intro w'
            go_simp
            with_reducible rfl
           rotate_left
           ·simp only [Act.put, List.setIfInBounds_toArray, List.set_cons_zero, List.set_cons_succ, i64_w, i32_w]
            rfl
           refine pure_ (i := 10) (N := some 73) (v := ?_) (a' := ?_) #[true, true, true, false, true, true, true, false, false, true, true, false, false, false, false, false, false, false] rfl rfl (any_of HT_.out (by kernel_rfl)) (fun _ _ _ h => h) (Or.inl ⟨by rfl, ?_⟩) ?_ ?_
           rotate_left
           ·intro w'
            go_simp
            with_reducible rfl
           rotate_left
           ·simp only [Act.put, List.setIfInBounds_toArray, List.set_cons_zero, List.set_cons_succ, i64_w, i32_w]
            rfl
           refine pure_ (i := 11) (N := some 74) (v := ?_) (a' := ?_) #[true, true, true, false, true, true, true, false, false, true, true, true, false, false, false, false, false, false] rfl rfl (any_of HT_.out (by kernel_rfl)) (fun _ _ _ h => h) (Or.inl ⟨by rfl, ?_⟩) ?_ ?_
           rotate_left
           ·intro w'
            go_simp
            with_reducible rfl
           rotate_left
           ·simp only [Act.put, List.setIfInBounds_toArray, List.set_cons_zero, List.set_cons_succ, i64_w, i32_w]
            rfl
           refine pure_ (i := 14) (N := some 77) (v := ?_) (a' := ?_) #[true, true, true, false, true, true, true, false, false, true, true, true, false, false, true, false, false, false] rfl rfl (any_of HT_.out (by kernel_rfl)) (fun _ _ _ h => h) (Or.inl ⟨by rfl, ?_⟩) ?_ ?_
           rotate_left
           ·intro w'
            go_simp
            with_reducible rfl
           rotate_left
           ·simp only [Act.put, List.setIfInBounds_toArray, List.set_cons_zero, List.set_cons_succ, i64_w, i32_w]
            rfl
           refine take_ (i := 3) (N := some 66) (v := ?_) (a' := ?_) #[true, true, true, true, true, true, true, false, false, true, true, true, false, false, true, false, false, false] rfl rfl (take_ofW HT_.out HW_.out (by kernel_rfl)) (fun _ _ _ h => h) (Or.inl ⟨by rfl, ?_⟩) hHeld ?_ ?_
           rotate_left
           ·rintro w' ⟨s0, s1, s2⟩
            go_simp
            with_reducible rfl
           rotate_left
           ·simp only [Act.put, List.setIfInBounds_toArray, List.set_cons_zero, List.set_cons_succ, i64_w, i32_w]
            rfl
           refine take_ (i := 7) (N := some 70) (v := ?_) (a' := ?_) #[true, true, true, true, true, true, true, true, false, true, true, true, false, false, true, false, false, false] rfl rfl (take_ofW HT_.out HW_.out (by kernel_rfl)) (fun _ _ _ h => h) (Or.inl ⟨by rfl, ?_⟩) hHeld ?_ ?_
           rotate_left
           ·rintro w' ⟨s0, s1, s2⟩
            go_simp
            with_reducible rfl
           rotate_left
           ·simp only [Act.put, List.setIfInBounds_toArray, List.set_cons_zero, List.set_cons_succ, i64_w, i32_w]
            rfl
           refine pure_ (i := 8) (N := some 71) (v := ?_) (a' := ?_) #[true, true, true, true, true, true, true, true, true, true, true, true, false, false, true, false, false, false] rfl rfl (any_of HT_.out (by kernel_rfl)) (fun _ _ _ h => h) (Or.inl ⟨by rfl, ?_⟩) ?_ ?_
           rotate_left
           ·intro w'
            go_simp
            with_reducible rfl
           rotate_left
           ·simp only [Act.put, List.setIfInBounds_toArray, List.set_cons_zero, List.set_cons_succ, i64_w, i32_w]
            rfl
           refine take_ (i := 12) (N := some 75) (v := ?_) (a' := ?_) #[true, true, true, true, true, true, true, true, true, true, true, true, true, false, true, false, false, false] rfl rfl (take_ofW HT_.out HW_.out (by kernel_rfl)) (fun _ _ _ h => h) (Or.inl ⟨by rfl, ?_⟩) hHeld ?_ ?_
           rotate_left
           ·rintro w' ⟨s0, s1, s2⟩
            go_simp
            with_reducible rfl
           rotate_left
           ·simp only [Act.put, List.setIfInBounds_toArray, List.set_cons_zero, List.set_cons_succ, i64_w, i32_w]
            rfl
           refine one_ (i := 13) (N := some 76) #[true, true, true, true, true, true, true, true, true, true, true, true, true, true, true, false, false, false] rfl rfl (one_of HT_.out (by kernel_rfl)) (by decide) (fun K hK => ?_)
           refine goes_ Try.func13 (by kernel_rfl) rfl #[.int .i64 (rd t167 x11_2)] (by rfl) rfl rfl (by (try simp only [List.map_toArray, List.map_cons, List.map_nil]); first | done | rfl | (simp only [List.length_drop, List.length_take]; rfl)) ?_
           with_reducible refine (shape_Level.calls k2 (rd t167 x11_2) t179 _ A35.out).mono ?_
           rintro e w41 ⟨rfl, hb⟩
           have HS0_ := (hb.cell (World.block_lt_of_cell? _ _ (hHeld.1))).trans (hHeld.1)
           have HS1_ := (hb.cell (World.block_lt_of_cell? _ _ (hHeld.2.1))).trans (hHeld.2.1)
           have HS2_ := (hb.cell (World.block_lt_of_cell? _ _ (hHeld.2.2))).trans (hHeld.2.2)
           refine ⟨_, rfl, ?_⟩
           have n0_ := Aside0.mk (Kd.R_below (by (with_reducible repeat (first | apply Kd.R_alloc | apply Kd.R_drewN | apply Kd.R_drew)); exact HO_9.out) hb)
           have n1_ := Aside0.mk (Kd.R_below (by (with_reducible repeat (first | apply Kd.R_alloc | apply Kd.R_drewN | apply Kd.R_drew)); exact HO_10.out) hb)
           have n2_ := Aside0.mk (below_step (by repeat (first | (with_reducible first | exact HB.out | apply below_alloc | apply pw_below_drewN | apply below_drew1) | exact HB.out)) hb)
           clear HO_9
           clear HO_10
           clear HB
           have HO_9 := n0_
           have HO_10 := n1_
           have HB := n2_
           clear n0_ n1_ n2_
           (try clear hb)
           (try clear hb2)
           (try clear hk)
           (try clear hi)
           refine hK.out _ _ ⟨HS0_, HS1_, HS2_⟩ (fun hHeld => ?_)
           clear hK K
           refine norm_ (a' := ?_) ?_ ?_
           rotate_left
           ·show Act.put _ (some 76) _ = _
            simp only [Act.put, List.setIfInBounds_toArray, List.set_cons_zero, List.set_cons_succ, i64_w, i32_w]
            rfl
           refine one_ (i := 15) (N := some 78) #[true, true, true, true, true, true, true, true, true, true, true, true, true, true, true, true, false, false] rfl rfl (one_of HT_.out (by kernel_rfl)) (by decide) (fun K hK => ?_)
           refine goes_ Try.func13 (by kernel_rfl) rfl #[.int .i64 t166] (by rfl) rfl rfl (by (try simp only [List.map_toArray, List.map_cons, List.map_nil]); first | done | rfl | (simp only [List.length_drop, List.length_take]; rfl)) ?_
           with_reducible refine (shape_Level.calls k2 t166 t180 _ A36.out).mono ?_
           rintro e w42 ⟨rfl, hb⟩
           have HS0_ := (hb.cell (World.block_lt_of_cell? _ _ (hHeld.1))).trans (hHeld.1)
           have HS1_ := (hb.cell (World.block_lt_of_cell? _ _ (hHeld.2.1))).trans (hHeld.2.1)
           have HS2_ := (hb.cell (World.block_lt_of_cell? _ _ (hHeld.2.2))).trans (hHeld.2.2)
           refine ⟨_, rfl, ?_⟩
           have n0_ := Aside0.mk (Kd.R_below (by (with_reducible repeat (first | apply Kd.R_alloc | apply Kd.R_drewN | apply Kd.R_drew)); exact HO_9.out) hb)
           have n1_ := Aside0.mk (Kd.R_below (by (with_reducible repeat (first | apply Kd.R_alloc | apply Kd.R_drewN | apply Kd.R_drew)); exact HO_10.out) hb)
           have n2_ := Aside0.mk (below_step (by repeat (first | (with_reducible first | exact HB.out | apply below_alloc | apply pw_below_drewN | apply below_drew1) | exact HB.out)) hb)
           clear HO_9
           clear HO_10
           clear HB
           have HO_9 := n0_
           have HO_10 := n1_
           have HB := n2_
           clear n0_ n1_ n2_
           (try clear hb)
           (try clear hb2)
           (try clear hk)
           (try clear hi)
           refine hK.out _ _ ⟨HS0_, HS1_, HS2_⟩ (fun hHeld => ?_)
           clear hK K
           refine norm_ (a' := ?_) ?_ ?_
           rotate_left
           ·show Act.put _ (some 78) _ = _
            simp only [Act.put, List.setIfInBounds_toArray, List.set_cons_zero, List.set_cons_succ, i64_w, i32_w]
            rfl
           refine pure_ (i := 16) (N := some 79) (v := ?_) (a' := ?_) #[true, true, true, true, true, true, true, true, true, true, true, true, true, true, true, true, true, false] rfl rfl (any_of HT_.out (by kernel_rfl)) (fun _ _ _ h => h) (Or.inl ⟨by rfl, ?_⟩) ?_ ?_
           rotate_left
           ·intro w'
            go_simp
            with_reducible rfl
           rotate_left
           ·simp only [Act.put, List.setIfInBounds_toArray, List.set_cons_zero, List.set_cons_succ, i64_w, i32_w]
            rfl
           refine pure_ (i := 17) (N := some 80) (v := ?_) (a' := ?_) #[true, true, true, true, true, true, true, true, true, true, true, true, true, true, true, true, true, true] rfl rfl (any_of HT_.out (by kernel_rfl)) (fun _ _ _ h => h) (Or.inl ⟨by rfl, ?_⟩) ?_ ?_
           rotate_left
           ·intro w'
            go_simp
            with_reducible rfl
           rotate_left
           ·simp only [Act.put, List.setIfInBounds_toArray, List.set_cons_zero, List.set_cons_succ, i64_w, i32_w]
            rfl
           refine done_ (done_of HT_.out (by kernel_rfl)) ?_
           try go_wp2
           go_roundg k2
           case measure => have := HJ6.out; have := HK2.out; omega
           case rel => exact ⟨(wrap64 (x11_2 + 1)), (by first | rfl | (simp; done) | (simp [*]; done)), H', ⟨by have := HJ6.out; have := HK2.out; omega⟩, ⟨by (with_reducible repeat (first | apply Kd.R_alloc | apply Kd.R_drewN | apply Kd.R_drew)); exact HO_9.out⟩, ⟨by (with_reducible repeat (first | apply Kd.R_alloc | apply Kd.R_drewN | apply Kd.R_drew)); exact HO_10.out⟩, ⟨by repeat (first | (with_reducible first | exact HB.out | apply below_alloc | apply pw_below_drewN | apply below_drew1) | exact HB.out)⟩⟩
         ·rw [if_neg c34] at H
          exact absurd H (by simp)
        ·rw [if_neg c33] at H
         exact absurd H (by simp)
       ·rw [if_neg c32] at H
        exact absurd H (by simp)
      ·rw [if_neg c31] at H
       have c31b0 : decide (x11_2 < (wrap64 (1 + (Int.tmod (wrap64 (a0)) 4)))) = false := decide_eq_false c31
       clear c31
       by_cases c43 : (wrap64 (Int.tdiv (wrap64 (a1)) 2)) = (wrap64 (Int.tdiv (wrap64 (a2)) 2))
       ·rw [if_pos c43] at H
        have c43b0 : ((wrap64 (Int.tdiv (wrap64 (a1)) 2)) == (wrap64 (Int.tdiv (wrap64 (a2)) 2))) = true := beq_iff_eq.mpr c43
        have c43b1 : ((wrap64 (Int.tdiv (wrap64 (a1)) 2)) != (wrap64 (Int.tdiv (wrap64 (a2)) 2))) = false := bne_eq_false_iff_eq.mpr c43
        clear c43
        replace H := Option.bind_eq_some_iff.mp H
        obtain ⟨t175, A440, H⟩ := H
        replace H : (some (t166 == t175)) = some r := H
        have A44 := Aside0.mk A440
        clear A440
        clear hr_
        obtain rfl := Option.some.inj H
        go_wp2_with (first | (go_at_call 9; (with_reducible refine (shape_Leaf.calls (wrap64 (1 + (Int.tmod (wrap64 (a0)) 4))) (wrap64 (a1)) t175 _ A44.out).mono ?_); rintro e w' ⟨rfl, ⟨nd, rfl⟩⟩))
        go_ret
        exact ⟨by first | rfl | (simp [errW_none, errW_some] <;> rfl) | (simp [*, errW_none, errW_some] <;> rfl), by repeat (first | (with_reducible first | exact HB.out | apply below_alloc | apply pw_below_drewN | apply below_drew1) | exact HB.out)⟩
       ·rw [if_neg c43] at H
        have c43b0 : ((wrap64 (Int.tdiv (wrap64 (a1)) 2)) == (wrap64 (Int.tdiv (wrap64 (a2)) 2))) = false := beq_eq_false_iff_ne.mpr c43
        have c43b1 : ((wrap64 (Int.tdiv (wrap64 (a1)) 2)) != (wrap64 (Int.tdiv (wrap64 (a2)) 2))) = true := bne_iff_ne.mpr c43
        clear hr_
        obtain rfl := Option.some.inj H
        go_wp2
        go_ret
        exact ⟨by first | rfl | (simp [errW_none, errW_some] <;> rfl) | (simp [*, errW_none, errW_some] <;> rfl), by repeat (first | (with_reducible first | exact HB.out | apply below_alloc | apply pw_below_drewN | apply below_drew1) | exact HB.out)⟩

/-! ### millstreamlaw07_ShapeKids: function 6 -/
def millstreamlaw07_ShapeKids.f (k : Nat) (a0 : Int) : Option (Bool) := (shape_Parent.f (wrap64 (2 * (wrap64 (1 + (wrap64 (a0))))))).bind fun t181 => (if t181 = (wrap64 (1 + (wrap64 (a0)))) then ((shape_Parent.f (wrap64 ((wrap64 (2 * (wrap64 (1 + (wrap64 (a0)))))) + 1))).bind fun t182 => (if t182 = (wrap64 (1 + (wrap64 (a0)))) then ((shape_Level.f k (wrap64 (2 * (wrap64 (1 + (wrap64 (a0))))))).bind fun t183 => ((shape_Level.f k (wrap64 (1 + (wrap64 (a0))))).bind fun t184 => (if t183 = (wrap64 (t184 + 1)) then ((shape_Level.f k (wrap64 ((wrap64 (2 * (wrap64 (1 + (wrap64 (a0)))))) + 1))).bind fun t185 => ((shape_Level.f k (wrap64 (1 + (wrap64 (a0))))).bind fun t186 => (if t185 = (wrap64 (t186 + 1)) then ((shape_Parent.f 1).bind fun t187 => (if t187 = 0 then ((shape_Parent.f (wrap64 (-(wrap64 (1 + (wrap64 (a0))))))).bind fun t188 => (if t188 = 0 then ((shape_Level.f k (wrap64 (-(wrap64 (1 + (wrap64 (a0))))))).bind fun t189 => (if t189 = 0 then ((millstreamlaw07_shown.f k).bind fun t190 => (some t190)) else (some false))) else (some false))) else (some false))) else (some false)))) else (some false)))) else (some false))) else (some false))
theorem millstreamlaw07_ShapeKids.mono : ∀ a0 k, LeO (millstreamlaw07_ShapeKids.f k a0) (millstreamlaw07_ShapeKids.f (k + 1) a0) := by
 intro a0 k
 unfold millstreamlaw07_ShapeKids.f
 repeat' first
   | (with_reducible exact millstreamlaw07_shown.mono _)
   | (with_reducible exact shape_Level.mono _ _)
   | (with_reducible exact LeO.refl _)
   | (with_reducible exact LeO.none _)
   | (with_reducible refine LeO.ite ?_ ?_)
   | (with_reducible refine LeO.bind ?_ (fun _ => ?_))
   | exact millstreamlaw07_shown.mono _
   | exact shape_Level.mono _ _
   | exact LeO.none _
   | refine LeO.ite ?_ ?_
   | refine LeO.bind ?_ (fun _ => ?_)
set_option maxHeartbeats 60000000 in
set_option maxRecDepth 100000 in
theorem millstreamlaw07_ShapeKids.calls (k : Nat) (a0 : Int) (r : Bool) (w : World) (h : millstreamlaw07_ShapeKids.f k a0 = some r) (hr_ : Aside0 (r = true)) :
  Calls Try.prog 6 #[.int .u16 a0] w fun e w' => e = .returned (.bool r) ∧ Below w.heap.size w w' := by
 have HB := Aside0.mk (Below.refl w.heap.size w)
 have H : ((shape_Parent.f (wrap64 (2 * (wrap64 (1 + (wrap64 (a0))))))).bind fun t181 => (if t181 = (wrap64 (1 + (wrap64 (a0)))) then ((shape_Parent.f (wrap64 ((wrap64 (2 * (wrap64 (1 + (wrap64 (a0)))))) + 1))).bind fun t182 => (if t182 = (wrap64 (1 + (wrap64 (a0)))) then ((shape_Level.f k (wrap64 (2 * (wrap64 (1 + (wrap64 (a0))))))).bind fun t183 => ((shape_Level.f k (wrap64 (1 + (wrap64 (a0))))).bind fun t184 => (if t183 = (wrap64 (t184 + 1)) then ((shape_Level.f k (wrap64 ((wrap64 (2 * (wrap64 (1 + (wrap64 (a0)))))) + 1))).bind fun t185 => ((shape_Level.f k (wrap64 (1 + (wrap64 (a0))))).bind fun t186 => (if t185 = (wrap64 (t186 + 1)) then ((shape_Parent.f 1).bind fun t187 => (if t187 = 0 then ((shape_Parent.f (wrap64 (-(wrap64 (1 + (wrap64 (a0))))))).bind fun t188 => (if t188 = 0 then ((shape_Level.f k (wrap64 (-(wrap64 (1 + (wrap64 (a0))))))).bind fun t189 => (if t189 = 0 then ((millstreamlaw07_shown.f k).bind fun t190 => (some t190)) else (some false))) else (some false))) else (some false))) else (some false)))) else (some false)))) else (some false))) else (some false))) = some r := h
 clear h
 replace H := Option.bind_eq_some_iff.mp H
 obtain ⟨t181, A20, H⟩ := H
 replace H : (if t181 = (wrap64 (1 + (wrap64 (a0)))) then ((shape_Parent.f (wrap64 ((wrap64 (2 * (wrap64 (1 + (wrap64 (a0)))))) + 1))).bind fun t182 => (if t182 = (wrap64 (1 + (wrap64 (a0)))) then ((shape_Level.f k (wrap64 (2 * (wrap64 (1 + (wrap64 (a0))))))).bind fun t183 => ((shape_Level.f k (wrap64 (1 + (wrap64 (a0))))).bind fun t184 => (if t183 = (wrap64 (t184 + 1)) then ((shape_Level.f k (wrap64 ((wrap64 (2 * (wrap64 (1 + (wrap64 (a0)))))) + 1))).bind fun t185 => ((shape_Level.f k (wrap64 (1 + (wrap64 (a0))))).bind fun t186 => (if t185 = (wrap64 (t186 + 1)) then ((shape_Parent.f 1).bind fun t187 => (if t187 = 0 then ((shape_Parent.f (wrap64 (-(wrap64 (1 + (wrap64 (a0))))))).bind fun t188 => (if t188 = 0 then ((shape_Level.f k (wrap64 (-(wrap64 (1 + (wrap64 (a0))))))).bind fun t189 => (if t189 = 0 then ((millstreamlaw07_shown.f k).bind fun t190 => (some t190)) else (some false))) else (some false))) else (some false))) else (some false)))) else (some false)))) else (some false))) else (some false)) = some r := H
 have A2 := Aside0.mk A20
 clear A20
 by_cases c3 : t181 = (wrap64 (1 + (wrap64 (a0))))
 ·rw [if_pos c3] at H
  have c3b0 : (t181 == (wrap64 (1 + (wrap64 (a0))))) = true := beq_iff_eq.mpr c3
  have c3b1 : (t181 != (wrap64 (1 + (wrap64 (a0))))) = false := bne_eq_false_iff_eq.mpr c3
  clear c3
  replace H := Option.bind_eq_some_iff.mp H
  obtain ⟨t182, A40, H⟩ := H
  replace H : (if t182 = (wrap64 (1 + (wrap64 (a0)))) then ((shape_Level.f k (wrap64 (2 * (wrap64 (1 + (wrap64 (a0))))))).bind fun t183 => ((shape_Level.f k (wrap64 (1 + (wrap64 (a0))))).bind fun t184 => (if t183 = (wrap64 (t184 + 1)) then ((shape_Level.f k (wrap64 ((wrap64 (2 * (wrap64 (1 + (wrap64 (a0)))))) + 1))).bind fun t185 => ((shape_Level.f k (wrap64 (1 + (wrap64 (a0))))).bind fun t186 => (if t185 = (wrap64 (t186 + 1)) then ((shape_Parent.f 1).bind fun t187 => (if t187 = 0 then ((shape_Parent.f (wrap64 (-(wrap64 (1 + (wrap64 (a0))))))).bind fun t188 => (if t188 = 0 then ((shape_Level.f k (wrap64 (-(wrap64 (1 + (wrap64 (a0))))))).bind fun t189 => (if t189 = 0 then ((millstreamlaw07_shown.f k).bind fun t190 => (some t190)) else (some false))) else (some false))) else (some false))) else (some false)))) else (some false)))) else (some false)) = some r := H
  have A4 := Aside0.mk A40
  clear A40
  by_cases c5 : t182 = (wrap64 (1 + (wrap64 (a0))))
  ·rw [if_pos c5] at H
   have c5b0 : (t182 == (wrap64 (1 + (wrap64 (a0))))) = true := beq_iff_eq.mpr c5
   have c5b1 : (t182 != (wrap64 (1 + (wrap64 (a0))))) = false := bne_eq_false_iff_eq.mpr c5
   clear c5
   replace H := Option.bind_eq_some_iff.mp H
   obtain ⟨t183, A60, H⟩ := H
   replace H : ((shape_Level.f k (wrap64 (1 + (wrap64 (a0))))).bind fun t184 => (if t183 = (wrap64 (t184 + 1)) then ((shape_Level.f k (wrap64 ((wrap64 (2 * (wrap64 (1 + (wrap64 (a0)))))) + 1))).bind fun t185 => ((shape_Level.f k (wrap64 (1 + (wrap64 (a0))))).bind fun t186 => (if t185 = (wrap64 (t186 + 1)) then ((shape_Parent.f 1).bind fun t187 => (if t187 = 0 then ((shape_Parent.f (wrap64 (-(wrap64 (1 + (wrap64 (a0))))))).bind fun t188 => (if t188 = 0 then ((shape_Level.f k (wrap64 (-(wrap64 (1 + (wrap64 (a0))))))).bind fun t189 => (if t189 = 0 then ((millstreamlaw07_shown.f k).bind fun t190 => (some t190)) else (some false))) else (some false))) else (some false))) else (some false)))) else (some false))) = some r := H
   have A6 := Aside0.mk A60
   clear A60
   replace H := Option.bind_eq_some_iff.mp H
   obtain ⟨t184, A70, H⟩ := H
   replace H : (if t183 = (wrap64 (t184 + 1)) then ((shape_Level.f k (wrap64 ((wrap64 (2 * (wrap64 (1 + (wrap64 (a0)))))) + 1))).bind fun t185 => ((shape_Level.f k (wrap64 (1 + (wrap64 (a0))))).bind fun t186 => (if t185 = (wrap64 (t186 + 1)) then ((shape_Parent.f 1).bind fun t187 => (if t187 = 0 then ((shape_Parent.f (wrap64 (-(wrap64 (1 + (wrap64 (a0))))))).bind fun t188 => (if t188 = 0 then ((shape_Level.f k (wrap64 (-(wrap64 (1 + (wrap64 (a0))))))).bind fun t189 => (if t189 = 0 then ((millstreamlaw07_shown.f k).bind fun t190 => (some t190)) else (some false))) else (some false))) else (some false))) else (some false)))) else (some false)) = some r := H
   have A7 := Aside0.mk A70
   clear A70
   by_cases c8 : t183 = (wrap64 (t184 + 1))
   ·rw [if_pos c8] at H
    have c8b0 : (t183 == (wrap64 (t184 + 1))) = true := beq_iff_eq.mpr c8
    have c8b1 : (t183 != (wrap64 (t184 + 1))) = false := bne_eq_false_iff_eq.mpr c8
    clear c8
    replace H := Option.bind_eq_some_iff.mp H
    obtain ⟨t185, A90, H⟩ := H
    replace H : ((shape_Level.f k (wrap64 (1 + (wrap64 (a0))))).bind fun t186 => (if t185 = (wrap64 (t186 + 1)) then ((shape_Parent.f 1).bind fun t187 => (if t187 = 0 then ((shape_Parent.f (wrap64 (-(wrap64 (1 + (wrap64 (a0))))))).bind fun t188 => (if t188 = 0 then ((shape_Level.f k (wrap64 (-(wrap64 (1 + (wrap64 (a0))))))).bind fun t189 => (if t189 = 0 then ((millstreamlaw07_shown.f k).bind fun t190 => (some t190)) else (some false))) else (some false))) else (some false))) else (some false))) = some r := H
    have A9 := Aside0.mk A90
    clear A90
    replace H := Option.bind_eq_some_iff.mp H
    obtain ⟨t186, A100, H⟩ := H
    replace H : (if t185 = (wrap64 (t186 + 1)) then ((shape_Parent.f 1).bind fun t187 => (if t187 = 0 then ((shape_Parent.f (wrap64 (-(wrap64 (1 + (wrap64 (a0))))))).bind fun t188 => (if t188 = 0 then ((shape_Level.f k (wrap64 (-(wrap64 (1 + (wrap64 (a0))))))).bind fun t189 => (if t189 = 0 then ((millstreamlaw07_shown.f k).bind fun t190 => (some t190)) else (some false))) else (some false))) else (some false))) else (some false)) = some r := H
    have A10 := Aside0.mk A100
    obtain rfl : t184 = t186 := Option.some.inj (A7.out.symm.trans A10.out) -- mended
    clear A100
    by_cases c11 : t185 = (wrap64 (t184 + 1))
    ·rw [if_pos c11] at H
     have c11b0 : (t185 == (wrap64 (t184 + 1))) = true := beq_iff_eq.mpr c11
     have c11b1 : (t185 != (wrap64 (t184 + 1))) = false := bne_eq_false_iff_eq.mpr c11
     clear c11
     replace H := Option.bind_eq_some_iff.mp H
     obtain ⟨t187, A120, H⟩ := H
     replace H : (if t187 = 0 then ((shape_Parent.f (wrap64 (-(wrap64 (1 + (wrap64 (a0))))))).bind fun t188 => (if t188 = 0 then ((shape_Level.f k (wrap64 (-(wrap64 (1 + (wrap64 (a0))))))).bind fun t189 => (if t189 = 0 then ((millstreamlaw07_shown.f k).bind fun t190 => (some t190)) else (some false))) else (some false))) else (some false)) = some r := H
     have A12 := Aside0.mk A120
     clear A120
     by_cases c13 : t187 = 0
     ·rw [if_pos c13] at H
      have c13b0 : (t187 == 0) = true := beq_iff_eq.mpr c13
      have c13b1 : (t187 != 0) = false := bne_eq_false_iff_eq.mpr c13
      clear c13
      replace H := Option.bind_eq_some_iff.mp H
      obtain ⟨t188, A140, H⟩ := H
      replace H : (if t188 = 0 then ((shape_Level.f k (wrap64 (-(wrap64 (1 + (wrap64 (a0))))))).bind fun t189 => (if t189 = 0 then ((millstreamlaw07_shown.f k).bind fun t190 => (some t190)) else (some false))) else (some false)) = some r := H
      have A14 := Aside0.mk A140
      clear A140
      by_cases c15 : t188 = 0
      ·rw [if_pos c15] at H
       have c15b0 : (t188 == 0) = true := beq_iff_eq.mpr c15
       have c15b1 : (t188 != 0) = false := bne_eq_false_iff_eq.mpr c15
       clear c15
       replace H := Option.bind_eq_some_iff.mp H
       obtain ⟨t189, A160, H⟩ := H
       replace H : (if t189 = 0 then ((millstreamlaw07_shown.f k).bind fun t190 => (some t190)) else (some false)) = some r := H
       have A16 := Aside0.mk A160
       clear A160
       by_cases c17 : t189 = 0
       ·rw [if_pos c17] at H
        have c17b0 : (t189 == 0) = true := beq_iff_eq.mpr c17
        have c17b1 : (t189 != 0) = false := bne_eq_false_iff_eq.mpr c17
        clear c17
        replace H := Option.bind_eq_some_iff.mp H
        obtain ⟨t190, A180, H⟩ := H
        replace H : (some t190) = some r := H
        have A18 := Aside0.mk A180
        clear A180
        clear hr_
        obtain rfl := Option.some.inj H
        go_enter Try.func6, Try.ntmps6
        go_wp2_with (first | ((with_reducible refine gate_callee (f := 11) rfl ?_); refine goesL_ (some 9) rfl rfl Try.func11 (by kernel_rfl) rfl #[.int .i64 (wrap64 (2 * (wrap64 (1 + (wrap64 (a0))))))] rfl (by (try simp only [List.map_toArray, List.map_cons, List.map_nil]); first | done | rfl | (simp only [List.length_drop, List.length_take]; rfl)) ?_; (with_reducible refine (shape_Parent.calls (wrap64 (2 * (wrap64 (1 + (wrap64 (a0)))))) t181 _ A2.out).mono ?_); rintro e w19 ⟨rfl, hb⟩; refine ⟨_, rfl, ?_⟩; have n0_ := Aside0.mk (below_step (by repeat (first | (with_reducible first | exact HB.out | apply below_alloc | apply pw_below_drewN | apply below_drew1) | exact HB.out)) hb); clear HB; have HB := n0_; clear n0_; (try clear hb); (try clear hb2); (try clear hk); (try clear hi)) | (go_at_call 11; (with_reducible refine (shape_Parent.calls (wrap64 ((wrap64 (2 * (wrap64 (1 + (wrap64 (a0)))))) + 1)) t182 _ A4.out).mono ?_); rintro e w20 ⟨rfl, hb⟩; have n0_ := Aside0.mk (below_step (by repeat (first | (with_reducible first | exact HB.out | apply below_alloc | apply pw_below_drewN | apply below_drew1) | exact HB.out)) hb); clear HB; have HB := n0_; clear n0_; (try clear hb); (try clear hb2); (try clear hk); (try clear hi)) | (go_at_call 13; (with_reducible refine (shape_Level.calls k (wrap64 (2 * (wrap64 (1 + (wrap64 (a0)))))) t183 _ A6.out).mono ?_); rintro e w21 ⟨rfl, hb⟩; have n0_ := Aside0.mk (below_step (by repeat (first | (with_reducible first | exact HB.out | apply below_alloc | apply pw_below_drewN | apply below_drew1) | exact HB.out)) hb); clear HB; have HB := n0_; clear n0_; (try clear hb); (try clear hb2); (try clear hk); (try clear hi)) | (go_at_call 13; (with_reducible refine (shape_Level.calls k (wrap64 (1 + (wrap64 (a0)))) t184 _ A7.out).mono ?_); rintro e w22 ⟨rfl, hb⟩; have n0_ := Aside0.mk (below_step (by repeat (first | (with_reducible first | exact HB.out | apply below_alloc | apply pw_below_drewN | apply below_drew1) | exact HB.out)) hb); clear HB; have HB := n0_; clear n0_; (try clear hb); (try clear hb2); (try clear hk); (try clear hi)) | (go_at_call 13; (with_reducible refine (shape_Level.calls k (wrap64 ((wrap64 (2 * (wrap64 (1 + (wrap64 (a0)))))) + 1)) t185 _ A9.out).mono ?_); rintro e w23 ⟨rfl, hb⟩; have n0_ := Aside0.mk (below_step (by repeat (first | (with_reducible first | exact HB.out | apply below_alloc | apply pw_below_drewN | apply below_drew1) | exact HB.out)) hb); clear HB; have HB := n0_; clear n0_; (try clear hb); (try clear hb2); (try clear hk); (try clear hi)) | (go_at_call 13; (with_reducible refine (shape_Level.calls k (wrap64 (1 + (wrap64 (a0)))) t184 _ A10.out).mono ?_); rintro e w24 ⟨rfl, hb⟩; have n0_ := Aside0.mk (below_step (by repeat (first | (with_reducible first | exact HB.out | apply below_alloc | apply pw_below_drewN | apply below_drew1) | exact HB.out)) hb); clear HB; have HB := n0_; clear n0_; (try clear hb); (try clear hb2); (try clear hk); (try clear hi)) | (go_at_call 11; (with_reducible refine (shape_Parent.calls 1 t187 _ A12.out).mono ?_); rintro e w25 ⟨rfl, hb⟩; have n0_ := Aside0.mk (below_step (by repeat (first | (with_reducible first | exact HB.out | apply below_alloc | apply pw_below_drewN | apply below_drew1) | exact HB.out)) hb); clear HB; have HB := n0_; clear n0_; (try clear hb); (try clear hb2); (try clear hk); (try clear hi)) | (go_at_call 11; (with_reducible refine (shape_Parent.calls (wrap64 (-(wrap64 (1 + (wrap64 (a0)))))) t188 _ A14.out).mono ?_); rintro e w26 ⟨rfl, hb⟩; have n0_ := Aside0.mk (below_step (by repeat (first | (with_reducible first | exact HB.out | apply below_alloc | apply pw_below_drewN | apply below_drew1) | exact HB.out)) hb); clear HB; have HB := n0_; clear n0_; (try clear hb); (try clear hb2); (try clear hk); (try clear hi)) | (go_at_call 13; (with_reducible refine (shape_Level.calls k (wrap64 (-(wrap64 (1 + (wrap64 (a0)))))) t189 _ A16.out).mono ?_); rintro e w27 ⟨rfl, hb⟩; have n0_ := Aside0.mk (below_step (by repeat (first | (with_reducible first | exact HB.out | apply below_alloc | apply pw_below_drewN | apply below_drew1) | exact HB.out)) hb); clear HB; have HB := n0_; clear n0_; (try clear hb); (try clear hb2); (try clear hk); (try clear hi)) | (go_at_call 20; (with_reducible refine (millstreamlaw07_shown.calls k  t190 _ A18.out).mono ?_); rintro e w28 ⟨rfl, hb⟩; have n0_ := Aside0.mk (below_step (by repeat (first | (with_reducible first | exact HB.out | apply below_alloc | apply pw_below_drewN | apply below_drew1) | exact HB.out)) hb); clear HB; have HB := n0_; clear n0_; (try clear hb); (try clear hb2); (try clear hk); (try clear hi)))
        go_ret
        exact ⟨by first | rfl | (simp [errW_none, errW_some] <;> rfl) | (simp [*, errW_none, errW_some] <;> rfl), by repeat (first | (with_reducible first | exact HB.out | apply below_alloc | apply pw_below_drewN | apply below_drew1) | exact HB.out)⟩
       ·rw [if_neg c17] at H
        have c17b0 : (t189 == 0) = false := beq_eq_false_iff_ne.mpr c17
        have c17b1 : (t189 != 0) = true := bne_iff_ne.mpr c17
        exact absurd ((Option.some.inj H).trans hr_.out) (by decide)
      ·rw [if_neg c15] at H
       have c15b0 : (t188 == 0) = false := beq_eq_false_iff_ne.mpr c15
       have c15b1 : (t188 != 0) = true := bne_iff_ne.mpr c15
       exact absurd ((Option.some.inj H).trans hr_.out) (by decide)
     ·rw [if_neg c13] at H
      have c13b0 : (t187 == 0) = false := beq_eq_false_iff_ne.mpr c13
      have c13b1 : (t187 != 0) = true := bne_iff_ne.mpr c13
      exact absurd ((Option.some.inj H).trans hr_.out) (by decide)
    ·rw [if_neg c11] at H
     have c11b0 : (t185 == (wrap64 (t184 + 1))) = false := beq_eq_false_iff_ne.mpr c11
     have c11b1 : (t185 != (wrap64 (t184 + 1))) = true := bne_iff_ne.mpr c11
     exact absurd ((Option.some.inj H).trans hr_.out) (by decide)
   ·rw [if_neg c8] at H
    have c8b0 : (t183 == (wrap64 (t184 + 1))) = false := beq_eq_false_iff_ne.mpr c8
    have c8b1 : (t183 != (wrap64 (t184 + 1))) = true := bne_iff_ne.mpr c8
    exact absurd ((Option.some.inj H).trans hr_.out) (by decide)
  ·rw [if_neg c5] at H
   have c5b0 : (t182 == (wrap64 (1 + (wrap64 (a0))))) = false := beq_eq_false_iff_ne.mpr c5
   have c5b1 : (t182 != (wrap64 (1 + (wrap64 (a0))))) = true := bne_iff_ne.mpr c5
   exact absurd ((Option.some.inj H).trans hr_.out) (by decide)
 ·rw [if_neg c3] at H
  have c3b0 : (t181 == (wrap64 (1 + (wrap64 (a0))))) = false := beq_eq_false_iff_ne.mpr c3
  have c3b1 : (t181 != (wrap64 (1 + (wrap64 (a0))))) = true := bne_iff_ne.mpr c3
  exact absurd ((Option.some.inj H).trans hr_.out) (by decide)

/-! ### millstreamlaw07_ShapeTurns: function 7 -/
def millstreamlaw07_ShapeTurns.l0 : Nat → Int → Int → Int → Int → Int → Option (Bool)
 | 0, _, _, _, _, _ => none
 | k + 1, x1, x2, x7, x8, x9 => if x9 < x7 then (millstreamlaw07_ShapeTurns.l0 k x1 x2 x7 (wrap64 (2 * x8)) (wrap64 (x9 + 1))) else ((shape_Path.f x7 (wrap64 (x1))).bind fun t191 => ((shape_Path.f x7 (wrap64 ((wrap64 (x1)) + (wrap64 (x8 * (wrap64 (x2))))))).bind fun t194 => ((millstreamref02_Ints.f k t191 t194).bind fun t197 => (if t197 = true then ((shape_Meet.f x7 (wrap64 (x1)) (wrap64 ((wrap64 (x1)) + (wrap64 (x8 * (wrap64 (x2))))))).bind fun t198 => ((shape_Leaf.f x7 (wrap64 ((wrap64 (x1)) + (wrap64 (x8 * (wrap64 (x2))))))).bind fun t199 => (if t198 = t199 then ((shape_Meet.f x7 (wrap64 ((wrap64 (x1)) + (wrap64 (x8 * (wrap64 (x2)))))) (wrap64 ((wrap64 (x1)) + (wrap64 (x8 * (wrap64 (x2))))))).bind fun t200 => ((shape_Leaf.f x7 (wrap64 (x1))).bind fun t201 => (if t200 = t201 then ((millstreamlaw07_shown.f k).bind fun t202 => (some t202)) else (some false)))) else (some false)))) else (some false)))))
def millstreamlaw07_ShapeTurns.f (k : Nat) (a0 : Int) (a1 : Int) (a2 : Int) : Option (Bool) := millstreamlaw07_ShapeTurns.l0 k a1 a2 (wrap64 (1 + (Int.tmod (wrap64 (a0)) 4))) 2 1
theorem millstreamlaw07_ShapeTurns.mono_l : ∀ k, (∀ y0 y1 y2 y3 y4, LeO (millstreamlaw07_ShapeTurns.l0 k y0 y1 y2 y3 y4) (millstreamlaw07_ShapeTurns.l0 (k + 1) y0 y1 y2 y3 y4))
 | 0 => fun _ _ _ _ _ r h => by simp [millstreamlaw07_ShapeTurns.l0] at h
 | k + 1 => by
  have ih0 := millstreamlaw07_ShapeTurns.mono_l k
  ·intro y0 y1 y2 y3 y4
   unfold millstreamlaw07_ShapeTurns.l0
   repeat' first
   | (with_reducible exact ih0 _ _ _ _ _)
   | (with_reducible exact millstreamlaw07_shown.mono _)
   | (with_reducible exact millstreamref02_Ints.mono _ _ _)
   | (with_reducible exact LeO.refl _)
   | (with_reducible exact LeO.none _)
   | (with_reducible refine LeO.ite ?_ ?_)
   | (with_reducible refine LeO.bind ?_ (fun _ => ?_))
   | exact ih0 _ _ _ _ _
   | exact millstreamlaw07_shown.mono _
   | exact millstreamref02_Ints.mono _ _ _
   | exact LeO.none _
   | refine LeO.ite ?_ ?_
   | refine LeO.bind ?_ (fun _ => ?_)
theorem millstreamlaw07_ShapeTurns.mono : ∀ a0 a1 a2 k, LeO (millstreamlaw07_ShapeTurns.f k a0 a1 a2) (millstreamlaw07_ShapeTurns.f (k + 1) a0 a1 a2) := by
 intro a0 a1 a2 k
 have ih0 := millstreamlaw07_ShapeTurns.mono_l k
 unfold millstreamlaw07_ShapeTurns.f
 repeat' first
   | (with_reducible exact ih0 _ _ _ _ _)
   | (with_reducible exact millstreamlaw07_shown.mono _)
   | (with_reducible exact millstreamref02_Ints.mono _ _ _)
   | (with_reducible exact LeO.refl _)
   | (with_reducible exact LeO.none _)
   | (with_reducible refine LeO.ite ?_ ?_)
   | (with_reducible refine LeO.bind ?_ (fun _ => ?_))
   | exact ih0 _ _ _ _ _
   | exact millstreamlaw07_shown.mono _
   | exact millstreamref02_Ints.mono _ _ _
   | exact LeO.none _
   | refine LeO.ite ?_ ?_
   | refine LeO.bind ?_ (fun _ => ?_)
set_option maxHeartbeats 60000000 in
set_option maxRecDepth 100000 in
theorem millstreamlaw07_ShapeTurns.calls (k : Nat) (a0 : Int) (a1 : Int) (a2 : Int) (r : Bool) (w : World) (h : millstreamlaw07_ShapeTurns.f k a0 a1 a2 = some r) (hr_ : Aside0 (r = true)) :
  Calls Try.prog 7 #[.int .u8 a0, .int .u16 a1, .int .u8 a2] w fun e w' => e = .returned (.bool r) ∧ Below w.heap.size w w' := by
 have HB := Aside0.mk (Below.refl w.heap.size w)
 have H : (millstreamlaw07_ShapeTurns.l0 k a1 a2 (wrap64 (1 + (Int.tmod (wrap64 (a0)) 4))) 2 1) = some r := h
 clear h
 have H' := Aside0.mk H
 clear H
 go_enter Try.func7, Try.ntmps7
 go_wp2
 go_loopg [8, 9] k (fun kq v8 v9 w' => ∃ (x8_1 : Int) (x9_1 : Int), v8 = .int .i64 x8_1 ∧ v9 = .int .i64 x9_1 ∧ Aside0 (millstreamlaw07_ShapeTurns.l0 kq a1 a2 (wrap64 (1 + (Int.tmod (wrap64 (a0)) 4))) x8_1 x9_1 = some r) ∧ Aside0 (kq ≤ k) ∧ Aside0 (Below w.heap.size w w'))
 case atStart => exact ⟨(2), (1), (by first | rfl | (simp; done) | (simp [*]; done)), (by first | rfl | (simp; done) | (simp [*]; done)), H', ⟨Nat.le_refl _⟩, ⟨by repeat (first | (with_reducible first | exact HB.out | apply below_alloc | apply pw_below_drewN | apply below_drew1) | exact HB.out)⟩⟩
 case round =>
  clear H'
  try clear p2
  obtain ⟨x8_1, x9_1, rfl, rfl, HA, HK1, HB⟩ := hrel
  cases gk with
  | zero => exact absurd HA.out (by simp [millstreamlaw07_ShapeTurns.l0])
  | succ k1 =>
   have H := HA.out
   clear HA
   simp only [millstreamlaw07_ShapeTurns.l0] at H
   by_cases c4 : x9_1 < (wrap64 (1 + (Int.tmod (wrap64 (a0)) 4)))
   ·rw [if_pos c4] at H
    have c4b0 : decide (x9_1 < (wrap64 (1 + (Int.tmod (wrap64 (a0)) 4)))) = true := decide_eq_true c4
    clear c4
    have H' := Aside0.mk H
    clear H
    go_wp2
    go_roundg k1
    case measure => have := HK1.out; omega
    case rel => exact ⟨(wrap64 (2 * x8_1)), (wrap64 (x9_1 + 1)), (by first | rfl | (simp; done) | (simp [*]; done)), (by first | rfl | (simp; done) | (simp [*]; done)), H', ⟨by have := HK1.out; omega⟩, ⟨by repeat (first | (with_reducible first | exact HB.out | apply below_alloc | apply pw_below_drewN | apply below_drew1) | exact HB.out)⟩⟩
   ·rw [if_neg c4] at H
    have c4b0 : decide (x9_1 < (wrap64 (1 + (Int.tmod (wrap64 (a0)) 4)))) = false := decide_eq_false c4
    clear c4
    replace H := Option.bind_eq_some_iff.mp H
    obtain ⟨t191, A50, H⟩ := H
    replace H : ((shape_Path.f (wrap64 (1 + (Int.tmod (wrap64 (a0)) 4))) (wrap64 ((wrap64 (a1)) + (wrap64 (x8_1 * (wrap64 (a2))))))).bind fun t194 => ((millstreamref02_Ints.f k1 t191 t194).bind fun t197 => (if t197 = true then ((shape_Meet.f (wrap64 (1 + (Int.tmod (wrap64 (a0)) 4))) (wrap64 (a1)) (wrap64 ((wrap64 (a1)) + (wrap64 (x8_1 * (wrap64 (a2))))))).bind fun t198 => ((shape_Leaf.f (wrap64 (1 + (Int.tmod (wrap64 (a0)) 4))) (wrap64 ((wrap64 (a1)) + (wrap64 (x8_1 * (wrap64 (a2))))))).bind fun t199 => (if t198 = t199 then ((shape_Meet.f (wrap64 (1 + (Int.tmod (wrap64 (a0)) 4))) (wrap64 ((wrap64 (a1)) + (wrap64 (x8_1 * (wrap64 (a2)))))) (wrap64 ((wrap64 (a1)) + (wrap64 (x8_1 * (wrap64 (a2))))))).bind fun t200 => ((shape_Leaf.f (wrap64 (1 + (Int.tmod (wrap64 (a0)) 4))) (wrap64 (a1))).bind fun t201 => (if t200 = t201 then ((millstreamlaw07_shown.f k1).bind fun t202 => (some t202)) else (some false)))) else (some false)))) else (some false)))) = some r := H
    have A5 := Aside0.mk A50
    clear A50
    replace H := Option.bind_eq_some_iff.mp H
    obtain ⟨t194, A60, H⟩ := H
    replace H : ((millstreamref02_Ints.f k1 t191 t194).bind fun t197 => (if t197 = true then ((shape_Meet.f (wrap64 (1 + (Int.tmod (wrap64 (a0)) 4))) (wrap64 (a1)) (wrap64 ((wrap64 (a1)) + (wrap64 (x8_1 * (wrap64 (a2))))))).bind fun t198 => ((shape_Leaf.f (wrap64 (1 + (Int.tmod (wrap64 (a0)) 4))) (wrap64 ((wrap64 (a1)) + (wrap64 (x8_1 * (wrap64 (a2))))))).bind fun t199 => (if t198 = t199 then ((shape_Meet.f (wrap64 (1 + (Int.tmod (wrap64 (a0)) 4))) (wrap64 ((wrap64 (a1)) + (wrap64 (x8_1 * (wrap64 (a2)))))) (wrap64 ((wrap64 (a1)) + (wrap64 (x8_1 * (wrap64 (a2))))))).bind fun t200 => ((shape_Leaf.f (wrap64 (1 + (Int.tmod (wrap64 (a0)) 4))) (wrap64 (a1))).bind fun t201 => (if t200 = t201 then ((millstreamlaw07_shown.f k1).bind fun t202 => (some t202)) else (some false)))) else (some false)))) else (some false))) = some r := H
    have A6 := Aside0.mk A60
    clear A60
    replace H := Option.bind_eq_some_iff.mp H
    obtain ⟨t197, A70, H⟩ := H
    replace H : (if t197 = true then ((shape_Meet.f (wrap64 (1 + (Int.tmod (wrap64 (a0)) 4))) (wrap64 (a1)) (wrap64 ((wrap64 (a1)) + (wrap64 (x8_1 * (wrap64 (a2))))))).bind fun t198 => ((shape_Leaf.f (wrap64 (1 + (Int.tmod (wrap64 (a0)) 4))) (wrap64 ((wrap64 (a1)) + (wrap64 (x8_1 * (wrap64 (a2))))))).bind fun t199 => (if t198 = t199 then ((shape_Meet.f (wrap64 (1 + (Int.tmod (wrap64 (a0)) 4))) (wrap64 ((wrap64 (a1)) + (wrap64 (x8_1 * (wrap64 (a2)))))) (wrap64 ((wrap64 (a1)) + (wrap64 (x8_1 * (wrap64 (a2))))))).bind fun t200 => ((shape_Leaf.f (wrap64 (1 + (Int.tmod (wrap64 (a0)) 4))) (wrap64 (a1))).bind fun t201 => (if t200 = t201 then ((millstreamlaw07_shown.f k1).bind fun t202 => (some t202)) else (some false)))) else (some false)))) else (some false)) = some r := H
    have A7 := Aside0.mk A70
    clear A70
    by_cases c8 : t197 = true
    ·subst c8
     have H1 : ((shape_Meet.f (wrap64 (1 + (Int.tmod (wrap64 (a0)) 4))) (wrap64 (a1)) (wrap64 ((wrap64 (a1)) + (wrap64 (x8_1 * (wrap64 (a2))))))).bind fun t198 => ((shape_Leaf.f (wrap64 (1 + (Int.tmod (wrap64 (a0)) 4))) (wrap64 ((wrap64 (a1)) + (wrap64 (x8_1 * (wrap64 (a2))))))).bind fun t199 => (if t198 = t199 then ((shape_Meet.f (wrap64 (1 + (Int.tmod (wrap64 (a0)) 4))) (wrap64 ((wrap64 (a1)) + (wrap64 (x8_1 * (wrap64 (a2)))))) (wrap64 ((wrap64 (a1)) + (wrap64 (x8_1 * (wrap64 (a2))))))).bind fun t200 => ((shape_Leaf.f (wrap64 (1 + (Int.tmod (wrap64 (a0)) 4))) (wrap64 (a1))).bind fun t201 => (if t200 = t201 then ((millstreamlaw07_shown.f k1).bind fun t202 => (some t202)) else (some false)))) else (some false)))) = some r := by rw [if_pos rfl] at H; exact H
     clear H
     have H := H1
     clear H1
     replace H := Option.bind_eq_some_iff.mp H
     obtain ⟨t198, A90, H⟩ := H
     replace H : ((shape_Leaf.f (wrap64 (1 + (Int.tmod (wrap64 (a0)) 4))) (wrap64 ((wrap64 (a1)) + (wrap64 (x8_1 * (wrap64 (a2))))))).bind fun t199 => (if t198 = t199 then ((shape_Meet.f (wrap64 (1 + (Int.tmod (wrap64 (a0)) 4))) (wrap64 ((wrap64 (a1)) + (wrap64 (x8_1 * (wrap64 (a2)))))) (wrap64 ((wrap64 (a1)) + (wrap64 (x8_1 * (wrap64 (a2))))))).bind fun t200 => ((shape_Leaf.f (wrap64 (1 + (Int.tmod (wrap64 (a0)) 4))) (wrap64 (a1))).bind fun t201 => (if t200 = t201 then ((millstreamlaw07_shown.f k1).bind fun t202 => (some t202)) else (some false)))) else (some false))) = some r := H
     have A9 := Aside0.mk A90
     clear A90
     replace H := Option.bind_eq_some_iff.mp H
     obtain ⟨t199, A100, H⟩ := H
     replace H : (if t198 = t199 then ((shape_Meet.f (wrap64 (1 + (Int.tmod (wrap64 (a0)) 4))) (wrap64 ((wrap64 (a1)) + (wrap64 (x8_1 * (wrap64 (a2)))))) (wrap64 ((wrap64 (a1)) + (wrap64 (x8_1 * (wrap64 (a2))))))).bind fun t200 => ((shape_Leaf.f (wrap64 (1 + (Int.tmod (wrap64 (a0)) 4))) (wrap64 (a1))).bind fun t201 => (if t200 = t201 then ((millstreamlaw07_shown.f k1).bind fun t202 => (some t202)) else (some false)))) else (some false)) = some r := H
     have A10 := Aside0.mk A100
     clear A100
     by_cases c11 : t198 = t199
     ·rw [if_pos c11] at H
      have c11b0 : (t198 == t199) = true := beq_iff_eq.mpr c11
      have c11b1 : (t198 != t199) = false := bne_eq_false_iff_eq.mpr c11
      clear c11
      replace H := Option.bind_eq_some_iff.mp H
      obtain ⟨t200, A120, H⟩ := H
      replace H : ((shape_Leaf.f (wrap64 (1 + (Int.tmod (wrap64 (a0)) 4))) (wrap64 (a1))).bind fun t201 => (if t200 = t201 then ((millstreamlaw07_shown.f k1).bind fun t202 => (some t202)) else (some false))) = some r := H
      have A12 := Aside0.mk A120
      clear A120
      replace H := Option.bind_eq_some_iff.mp H
      obtain ⟨t201, A130, H⟩ := H
      replace H : (if t200 = t201 then ((millstreamlaw07_shown.f k1).bind fun t202 => (some t202)) else (some false)) = some r := H
      have A13 := Aside0.mk A130
      clear A130
      by_cases c14 : t200 = t201
      ·rw [if_pos c14] at H
       have c14b0 : (t200 == t201) = true := beq_iff_eq.mpr c14
       have c14b1 : (t200 != t201) = false := bne_eq_false_iff_eq.mpr c14
       clear c14
       replace H := Option.bind_eq_some_iff.mp H
       obtain ⟨t202, A150, H⟩ := H
       replace H : (some t202) = some r := H
       have A15 := Aside0.mk A150
       clear A150
       clear hr_
       obtain rfl := Option.some.inj H
       go_wp2_with (first | ((with_reducible refine gate_callee (f := 16) rfl ?_); refine goesL_ (some 32) rfl rfl Try.func16 (by kernel_rfl) rfl #[.int .i64 (wrap64 (1 + (Int.tmod (wrap64 (a0)) 4))), .int .i64 (wrap64 (a1))] rfl (by (try simp only [List.map_toArray, List.map_cons, List.map_nil]); first | done | rfl | (simp only [List.length_drop, List.length_take]; rfl)) ?_; (with_reducible refine (shape_Path.calls (wrap64 (1 + (Int.tmod (wrap64 (a0)) 4))) (wrap64 (a1)) t191 _ A5.out).mono ?_); rintro e w16 ⟨v192, rfl, ho0, hb⟩; refine ⟨_, rfl, ?_⟩; have n0_ := Aside0.mk (Kd.R_lower ho0 (below_size (by repeat (first | (with_reducible first | exact HB.out | apply below_alloc | apply pw_below_drewN | apply below_drew1) | exact HB.out)))); have n1_ := Aside0.mk (below_step (by repeat (first | (with_reducible first | exact HB.out | apply below_alloc | apply pw_below_drewN | apply below_drew1) | exact HB.out)) hb); clear HB; have HO193 := n0_; have HB := n1_; clear n0_ n1_; (try clear hb); (try clear hb2); (try clear hk); (try clear hi); (try clear ho0)) | ((with_reducible refine gate_callee (f := 16) rfl ?_); refine goesL_ (some 35) rfl rfl Try.func16 (by kernel_rfl) rfl #[.int .i64 (wrap64 (1 + (Int.tmod (wrap64 (a0)) 4))), .int .i64 (wrap64 ((wrap64 (a1)) + (wrap64 (x8_1 * (wrap64 (a2))))))] rfl (by (try simp only [List.map_toArray, List.map_cons, List.map_nil]); first | done | rfl | (simp only [List.length_drop, List.length_take]; rfl)) ?_; (with_reducible refine (shape_Path.calls (wrap64 (1 + (Int.tmod (wrap64 (a0)) 4))) (wrap64 ((wrap64 (a1)) + (wrap64 (x8_1 * (wrap64 (a2)))))) t194 _ A6.out).mono ?_); rintro e w17 ⟨v195, rfl, ho0, hb⟩; refine ⟨_, rfl, ?_⟩; have n0_ := Aside0.mk (Kd.R_elder' (by (with_reducible repeat (first | apply Kd.R_alloc | apply Kd.R_drewN | apply Kd.R_drew)); exact HO193.out) (Kd.R_base ho0) hb); have n1_ := Aside0.mk (Kd.R_lower (Kd.R_new' ho0 (Kd.R_lt (by (with_reducible repeat (first | apply Kd.R_alloc | apply Kd.R_drewN | apply Kd.R_drew)); exact HO193.out))) (below_size (by repeat (first | (with_reducible first | exact HB.out | apply below_alloc | apply pw_below_drewN | apply below_drew1) | exact HB.out)))); have n2_ := Aside0.mk (below_step (by repeat (first | (with_reducible first | exact HB.out | apply below_alloc | apply pw_below_drewN | apply below_drew1) | exact HB.out)) hb); clear HO193; clear HB; have HO193 := n0_; have HO196 := n1_; have HB := n2_; clear n0_ n1_ n2_; (try clear hb); (try clear hb2); (try clear hk); (try clear hi); (try clear ho0); obtain ⟨Ao18, co18, eo18⟩ := Kd.R_slice HO193.out; subst eo18; obtain ⟨Ao19, co19, eo19⟩ := Kd.R_slice HO196.out; subst eo19) | ((with_reducible refine gate_callee (f := 15) rfl ?_); refine goesL_ (some 36) rfl rfl Try.func15 (by kernel_rfl) rfl #[.slice Ao18 t191.length co18, .slice Ao19 t194.length co19] rfl (by (try simp only [List.map_toArray, List.map_cons, List.map_nil]); first | done | rfl | (simp only [List.length_drop, List.length_take]; rfl)) ?_; (with_reducible refine (millstreamref02_Ints.calls k1 _ _ t191 _ _ t194 true _ ?side1 ?side2 ?side3 ?side4 A7.out).mono ?_); (case side1 => repeat (first | exact (Kd.R_reads' HO193.out).2.2 | (with_reducible refine Kd.C_alloc ?_ _) | (with_reducible refine Kd.C_drewN ?_ _) | (with_reducible refine Kd.C_drew ?_))); (case side2 => exact (Kd.R_reads' HO193.out).2.1); (case side3 => repeat (first | exact (Kd.R_reads' HO196.out).2.2 | (with_reducible refine Kd.C_alloc ?_ _) | (with_reducible refine Kd.C_drewN ?_ _) | (with_reducible refine Kd.C_drew ?_))); (case side4 => exact (Kd.R_reads' HO196.out).2.1); rintro e w' ⟨rfl, ⟨nd, rfl⟩⟩; refine ⟨_, rfl, ?_⟩) | (go_at_call 18; (with_reducible refine (shape_Meet.calls (wrap64 (1 + (Int.tmod (wrap64 (a0)) 4))) (wrap64 (a1)) (wrap64 ((wrap64 (a1)) + (wrap64 (x8_1 * (wrap64 (a2)))))) t198 _ A9.out).mono ?_); rintro e w20 ⟨rfl, hb⟩; have n0_ := Aside0.mk (Kd.R_below (by (with_reducible repeat (first | apply Kd.R_alloc | apply Kd.R_drewN | apply Kd.R_drew)); exact HO193.out) hb); have n1_ := Aside0.mk (Kd.R_below (by (with_reducible repeat (first | apply Kd.R_alloc | apply Kd.R_drewN | apply Kd.R_drew)); exact HO196.out) hb); have n2_ := Aside0.mk (below_step (by repeat (first | (with_reducible first | exact HB.out | apply below_alloc | apply pw_below_drewN | apply below_drew1) | exact HB.out)) hb); clear HO193; clear HO196; clear HB; have HO193 := n0_; have HO196 := n1_; have HB := n2_; clear n0_ n1_ n2_; (try clear hb); (try clear hb2); (try clear hk); (try clear hi)) | (go_at_call 9; (with_reducible refine (shape_Leaf.calls (wrap64 (1 + (Int.tmod (wrap64 (a0)) 4))) (wrap64 ((wrap64 (a1)) + (wrap64 (x8_1 * (wrap64 (a2)))))) t199 _ A10.out).mono ?_); rintro e w' ⟨rfl, ⟨nd, rfl⟩⟩) | (go_at_call 18; (with_reducible refine (shape_Meet.calls (wrap64 (1 + (Int.tmod (wrap64 (a0)) 4))) (wrap64 ((wrap64 (a1)) + (wrap64 (x8_1 * (wrap64 (a2)))))) (wrap64 ((wrap64 (a1)) + (wrap64 (x8_1 * (wrap64 (a2)))))) t200 _ A12.out).mono ?_); rintro e w21 ⟨rfl, hb⟩; have n0_ := Aside0.mk (Kd.R_below (by (with_reducible repeat (first | apply Kd.R_alloc | apply Kd.R_drewN | apply Kd.R_drew)); exact HO193.out) hb); have n1_ := Aside0.mk (Kd.R_below (by (with_reducible repeat (first | apply Kd.R_alloc | apply Kd.R_drewN | apply Kd.R_drew)); exact HO196.out) hb); have n2_ := Aside0.mk (below_step (by repeat (first | (with_reducible first | exact HB.out | apply below_alloc | apply pw_below_drewN | apply below_drew1) | exact HB.out)) hb); clear HO193; clear HO196; clear HB; have HO193 := n0_; have HO196 := n1_; have HB := n2_; clear n0_ n1_ n2_; (try clear hb); (try clear hb2); (try clear hk); (try clear hi)) | (go_at_call 9; (with_reducible refine (shape_Leaf.calls (wrap64 (1 + (Int.tmod (wrap64 (a0)) 4))) (wrap64 (a1)) t201 _ A13.out).mono ?_); rintro e w' ⟨rfl, ⟨nd, rfl⟩⟩) | (go_at_call 20; (with_reducible refine (millstreamlaw07_shown.calls k1  t202 _ A15.out).mono ?_); rintro e w22 ⟨rfl, hb⟩; have n0_ := Aside0.mk (Kd.R_below (by (with_reducible repeat (first | apply Kd.R_alloc | apply Kd.R_drewN | apply Kd.R_drew)); exact HO193.out) hb); have n1_ := Aside0.mk (Kd.R_below (by (with_reducible repeat (first | apply Kd.R_alloc | apply Kd.R_drewN | apply Kd.R_drew)); exact HO196.out) hb); have n2_ := Aside0.mk (below_step (by repeat (first | (with_reducible first | exact HB.out | apply below_alloc | apply pw_below_drewN | apply below_drew1) | exact HB.out)) hb); clear HO193; clear HO196; clear HB; have HO193 := n0_; have HO196 := n1_; have HB := n2_; clear n0_ n1_ n2_; (try clear hb); (try clear hb2); (try clear hk); (try clear hi)))
       go_ret
       exact ⟨by first | rfl | (simp [errW_none, errW_some] <;> rfl) | (simp [*, errW_none, errW_some] <;> rfl), by repeat (first | (with_reducible first | exact HB.out | apply below_alloc | apply pw_below_drewN | apply below_drew1) | exact HB.out)⟩
      ·rw [if_neg c14] at H
       have c14b0 : (t200 == t201) = false := beq_eq_false_iff_ne.mpr c14
       have c14b1 : (t200 != t201) = true := bne_iff_ne.mpr c14
       exact absurd ((Option.some.inj H).trans hr_.out) (by decide)
     ·rw [if_neg c11] at H
      have c11b0 : (t198 == t199) = false := beq_eq_false_iff_ne.mpr c11
      have c11b1 : (t198 != t199) = true := bne_iff_ne.mpr c11
      exact absurd ((Option.some.inj H).trans hr_.out) (by decide)
    ·replace c8 := Bool.eq_false_iff.mpr c8
     subst c8
     have H1 : (some false) = some r := by rw [if_neg (show ¬ (false = true) by decide)] at H; exact H
     clear H
     have H := H1
     clear H1
     exact absurd ((Option.some.inj H).trans hr_.out) (by decide)

end Go.Proofs.Ytmlapgclfnlipaa.PA
