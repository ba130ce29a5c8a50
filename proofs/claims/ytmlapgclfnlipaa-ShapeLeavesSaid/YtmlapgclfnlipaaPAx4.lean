-- Laid by a program of this session over the kit's print; hand-proved functions stand among them. Not trusted: Lean checks it.
import Derived.Test.YtmlapgclfnlipaaPAx0
import Derived.Test.YtmlapgclfnlipaaPAx1
import Derived.Test.YtmlapgclfnlipaaPAx2
namespace Go.Proofs.Ytmlapgclfnlipaa.PA
open Go.RowKit Go.Proofs.YtmlapgclfnlipaaW.PrintWords Go.Proofs.YtmlapgclfnlipaaW.PrintLast Go.Proofs.YtmlapgclfnlipaaW.PrintMore
attribute [local go_sem] max2_int min2_int max_two min_two max_three min_three max_four min_four   -- for this text's walks alone
set_option linter.unusedVariables false
set_option linter.unusedSimpArgs false

/-! ### millstreamlaw07_ShapeTurns: function 7 -/
def millstreamlaw07_ShapeTurns.l0 : Nat → Int → Int → Int → Int → Int → Option (Bool)
 | 0, _, _, _, _, _ => none
 | k + 1, x1, x2, x7, x8, x9 => if x9 < x7 then (millstreamlaw07_ShapeTurns.l0 k x1 x2 x7 (wrap64 (2 * x8)) (wrap64 (x9 + 1))) else ((shape_Path.f x7 (wrap64 (x1))).bind fun t191 => ((shape_Path.f x7 (wrap64 ((wrap64 (x1)) + (wrap64 (x8 * (wrap64 (x2))))))).bind fun t194 => ((millstreamref02_Ints.f k t191 t194).bind fun t197 => (if t197 = true then ((shape_Meet.f x7 (wrap64 (x1)) (wrap64 ((wrap64 (x1)) + (wrap64 (x8 * (wrap64 (x2))))))).bind fun t198 => ((shape_Leaf.f x7 (wrap64 ((wrap64 (x1)) + (wrap64 (x8 * (wrap64 (x2))))))).bind fun t199 => (if t198 = t199 then ((shape_Meet.f x7 (wrap64 ((wrap64 (x1)) + (wrap64 (x8 * (wrap64 (x2)))))) (wrap64 ((wrap64 (x1)) + (wrap64 (x8 * (wrap64 (x2))))))).bind fun t200 => ((shape_Leaf.f x7 (wrap64 (x1))).bind fun t201 => (if t200 = t201 then ((millstreamlaw07_shown.f k).bind fun t202 => (some t202)) else (some false)))) else (some false)))) else (some false)))))
def millstreamlaw07_ShapeTurns.f (k : Nat) (a0 : Int) (a1 : Int) (a2 : Int) : Option (Bool) := millstreamlaw07_ShapeTurns.l0 k a1 a2 (wrap64 (1 + (Int.tmod (wrap64 (a0)) 4))) 2 1
theorem millstreamlaw07_ShapeTurns.mono_l : ∀ k, (∀ y0 y1 y2 y3 y4, LeO (millstreamlaw07_ShapeTurns.l0 k y0 y1 y2 y3 y4) (millstreamlaw07_ShapeTurns.l0 (k + 1) y0 y1 y2 y3 y4))
 | 0 => fun _ _ _ _ _ r h => by simp [millstreamlaw07_ShapeTurns.l0] at h
 | k + 1 => by
  have ih0 := millstreamlaw07_ShapeTurns.mono_l k
  ·intro y0 y1 y2 y3 y4
   unfold millstreamlaw07_ShapeTurns.l0
   repeat' first
   | (with_reducible exact ih0 _ _ _ _ _)
   | (with_reducible exact millstreamlaw07_shown.mono _)
   | (with_reducible exact millstreamref02_Ints.mono _ _ _)
   | (with_reducible exact LeO.refl _)
   | (with_reducible exact LeO.none _)
   | (with_reducible refine LeO.ite ?_ ?_)
   | (with_reducible refine LeO.bind ?_ (fun _ => ?_))
   | exact ih0 _ _ _ _ _
   | exact millstreamlaw07_shown.mono _
   | exact millstreamref02_Ints.mono _ _ _
   | exact LeO.none _
   | refine LeO.ite ?_ ?_
   | refine LeO.bind ?_ (fun _ => ?_)
theorem millstreamlaw07_ShapeTurns.mono : ∀ a0 a1 a2 k, LeO (millstreamlaw07_ShapeTurns.f k a0 a1 a2) (millstreamlaw07_ShapeTurns.f (k + 1) a0 a1 a2) := by
 intro a0 a1 a2 k
 have ih0 := millstreamlaw07_ShapeTurns.mono_l k
 unfold millstreamlaw07_ShapeTurns.f
 repeat' first
   | (with_reducible exact ih0 _ _ _ _ _)
   | (with_reducible exact millstreamlaw07_shown.mono _)
   | (with_reducible exact millstreamref02_Ints.mono _ _ _)
   | (with_reducible exact LeO.refl _)
   | (with_reducible exact LeO.none _)
   | (with_reducible refine LeO.ite ?_ ?_)
   | (with_reducible refine LeO.bind ?_ (fun _ => ?_))
   | exact ih0 _ _ _ _ _
   | exact millstreamlaw07_shown.mono _
   | exact millstreamref02_Ints.mono _ _ _
   | exact LeO.none _
   | refine LeO.ite ?_ ?_
   | refine LeO.bind ?_ (fun _ => ?_)
set_option maxHeartbeats 60000000 in
set_option maxRecDepth 100000 in
theorem millstreamlaw07_ShapeTurns.calls (k : Nat) (a0 : Int) (a1 : Int) (a2 : Int) (r : Bool) (w : World) (h : millstreamlaw07_ShapeTurns.f k a0 a1 a2 = some r) (hr_ : Aside0 (r = true)) :
  Calls Try.prog 7 #[.int .u8 a0, .int .u16 a1, .int .u8 a2] w fun e w' => e = .returned (.bool r) ∧ Below w.heap.size w w' := by
 have HB := Aside0.mk (Below.refl w.heap.size w)
 have H : (millstreamlaw07_ShapeTurns.l0 k a1 a2 (wrap64 (1 + (Int.tmod (wrap64 (a0)) 4))) 2 1) = some r := h
 clear h
 have H' := Aside0.mk H
 clear H
 go_enter Try.func7, Try.ntmps7
 go_wp2
 go_loopg [8, 9] k (fun kq v8 v9 w' => ∃ (x8_1 : Int) (x9_1 : Int), v8 = .int .i64 x8_1 ∧ v9 = .int .i64 x9_1 ∧ Aside0 (millstreamlaw07_ShapeTurns.l0 kq a1 a2 (wrap64 (1 + (Int.tmod (wrap64 (a0)) 4))) x8_1 x9_1 = some r) ∧ Aside0 (kq ≤ k) ∧ Aside0 (Below w.heap.size w w'))
 case atStart => exact ⟨(2), (1), (by first | rfl | (simp; done) | (simp [*]; done)), (by first | rfl | (simp; done) | (simp [*]; done)), H', ⟨Nat.le_refl _⟩, ⟨by repeat (first | (with_reducible first | exact HB.out | apply below_alloc | apply pw_below_drewN | apply below_drew1) | exact HB.out)⟩⟩
 case round =>
  clear H'
  try clear p2
  obtain ⟨x8_1, x9_1, rfl, rfl, HA, HK1, HB⟩ := hrel
  cases gk with
  | zero => exact absurd HA.out (by simp [millstreamlaw07_ShapeTurns.l0])
  | succ k1 =>
   have H := HA.out
   clear HA
   simp only [millstreamlaw07_ShapeTurns.l0] at H
   by_cases c4 : x9_1 < (wrap64 (1 + (Int.tmod (wrap64 (a0)) 4)))
   ·rw [if_pos c4] at H
    have c4b0 : decide (x9_1 < (wrap64 (1 + (Int.tmod (wrap64 (a0)) 4)))) = true := decide_eq_true c4
    clear c4
    have H' := Aside0.mk H
    clear H
    go_wp2
    go_roundg k1
    case measure => have := HK1.out; omega
    case rel => exact ⟨(wrap64 (2 * x8_1)), (wrap64 (x9_1 + 1)), (by first | rfl | (simp; done) | (simp [*]; done)), (by first | rfl | (simp; done) | (simp [*]; done)), H', ⟨by have := HK1.out; omega⟩, ⟨by repeat (first | (with_reducible first | exact HB.out | apply below_alloc | apply pw_below_drewN | apply below_drew1) | exact HB.out)⟩⟩
   ·rw [if_neg c4] at H
    have c4b0 : decide (x9_1 < (wrap64 (1 + (Int.tmod (wrap64 (a0)) 4)))) = false := decide_eq_false c4
    clear c4
    replace H := Option.bind_eq_some_iff.mp H
    obtain ⟨t191, A50, H⟩ := H
    replace H : ((shape_Path.f (wrap64 (1 + (Int.tmod (wrap64 (a0)) 4))) (wrap64 ((wrap64 (a1)) + (wrap64 (x8_1 * (wrap64 (a2))))))).bind fun t194 => ((millstreamref02_Ints.f k1 t191 t194).bind fun t197 => (if t197 = true then ((shape_Meet.f (wrap64 (1 + (Int.tmod (wrap64 (a0)) 4))) (wrap64 (a1)) (wrap64 ((wrap64 (a1)) + (wrap64 (x8_1 * (wrap64 (a2))))))).bind fun t198 => ((shape_Leaf.f (wrap64 (1 + (Int.tmod (wrap64 (a0)) 4))) (wrap64 ((wrap64 (a1)) + (wrap64 (x8_1 * (wrap64 (a2))))))).bind fun t199 => (if t198 = t199 then ((shape_Meet.f (wrap64 (1 + (Int.tmod (wrap64 (a0)) 4))) (wrap64 ((wrap64 (a1)) + (wrap64 (x8_1 * (wrap64 (a2)))))) (wrap64 ((wrap64 (a1)) + (wrap64 (x8_1 * (wrap64 (a2))))))).bind fun t200 => ((shape_Leaf.f (wrap64 (1 + (Int.tmod (wrap64 (a0)) 4))) (wrap64 (a1))).bind fun t201 => (if t200 = t201 then ((millstreamlaw07_shown.f k1).bind fun t202 => (some t202)) else (some false)))) else (some false)))) else (some false)))) = some r := H
    have A5 := Aside0.mk A50
    clear A50
    replace H := Option.bind_eq_some_iff.mp H
    obtain ⟨t194, A60, H⟩ := H
    replace H : ((millstreamref02_Ints.f k1 t191 t194).bind fun t197 => (if t197 = true then ((shape_Meet.f (wrap64 (1 + (Int.tmod (wrap64 (a0)) 4))) (wrap64 (a1)) (wrap64 ((wrap64 (a1)) + (wrap64 (x8_1 * (wrap64 (a2))))))).bind fun t198 => ((shape_Leaf.f (wrap64 (1 + (Int.tmod (wrap64 (a0)) 4))) (wrap64 ((wrap64 (a1)) + (wrap64 (x8_1 * (wrap64 (a2))))))).bind fun t199 => (if t198 = t199 then ((shape_Meet.f (wrap64 (1 + (Int.tmod (wrap64 (a0)) 4))) (wrap64 ((wrap64 (a1)) + (wrap64 (x8_1 * (wrap64 (a2)))))) (wrap64 ((wrap64 (a1)) + (wrap64 (x8_1 * (wrap64 (a2))))))).bind fun t200 => ((shape_Leaf.f (wrap64 (1 + (Int.tmod (wrap64 (a0)) 4))) (wrap64 (a1))).bind fun t201 => (if t200 = t201 then ((millstreamlaw07_shown.f k1).bind fun t202 => (some t202)) else (some false)))) else (some false)))) else (some false))) = some r := H
    have A6 := Aside0.mk A60
    clear A60
    replace H := Option.bind_eq_some_iff.mp H
    obtain ⟨t197, A70, H⟩ := H
    replace H : (if t197 = true then ((shape_Meet.f (wrap64 (1 + (Int.tmod (wrap64 (a0)) 4))) (wrap64 (a1)) (wrap64 ((wrap64 (a1)) + (wrap64 (x8_1 * (wrap64 (a2))))))).bind fun t198 => ((shape_Leaf.f (wrap64 (1 + (Int.tmod (wrap64 (a0)) 4))) (wrap64 ((wrap64 (a1)) + (wrap64 (x8_1 * (wrap64 (a2))))))).bind fun t199 => (if t198 = t199 then ((shape_Meet.f (wrap64 (1 + (Int.tmod (wrap64 (a0)) 4))) (wrap64 ((wrap64 (a1)) + (wrap64 (x8_1 * (wrap64 (a2)))))) (wrap64 ((wrap64 (a1)) + (wrap64 (x8_1 * (wrap64 (a2))))))).bind fun t200 => ((shape_Leaf.f (wrap64 (1 + (Int.tmod (wrap64 (a0)) 4))) (wrap64 (a1))).bind fun t201 => (if t200 = t201 then ((millstreamlaw07_shown.f k1).bind fun t202 => (some t202)) else (some false)))) else (some false)))) else (some false)) = some r := H
    have A7 := Aside0.mk A70
    clear A70
    by_cases c8 : t197 = true
    ·subst c8
     have H1 : ((shape_Meet.f (wrap64 (1 + (Int.tmod (wrap64 (a0)) 4))) (wrap64 (a1)) (wrap64 ((wrap64 (a1)) + (wrap64 (x8_1 * (wrap64 (a2))))))).bind fun t198 => ((shape_Leaf.f (wrap64 (1 + (Int.tmod (wrap64 (a0)) 4))) (wrap64 ((wrap64 (a1)) + (wrap64 (x8_1 * (wrap64 (a2))))))).bind fun t199 => (if t198 = t199 then ((shape_Meet.f (wrap64 (1 + (Int.tmod (wrap64 (a0)) 4))) (wrap64 ((wrap64 (a1)) + (wrap64 (x8_1 * (wrap64 (a2)))))) (wrap64 ((wrap64 (a1)) + (wrap64 (x8_1 * (wrap64 (a2))))))).bind fun t200 => ((shape_Leaf.f (wrap64 (1 + (Int.tmod (wrap64 (a0)) 4))) (wrap64 (a1))).bind fun t201 => (if t200 = t201 then ((millstreamlaw07_shown.f k1).bind fun t202 => (some t202)) else (some false)))) else (some false)))) = some r := by rw [if_pos rfl] at H; exact H
     clear H
     have H := H1
     clear H1
     replace H := Option.bind_eq_some_iff.mp H
     obtain ⟨t198, A90, H⟩ := H
     replace H : ((shape_Leaf.f (wrap64 (1 + (Int.tmod (wrap64 (a0)) 4))) (wrap64 ((wrap64 (a1)) + (wrap64 (x8_1 * (wrap64 (a2))))))).bind fun t199 => (if t198 = t199 then ((shape_Meet.f (wrap64 (1 + (Int.tmod (wrap64 (a0)) 4))) (wrap64 ((wrap64 (a1)) + (wrap64 (x8_1 * (wrap64 (a2)))))) (wrap64 ((wrap64 (a1)) + (wrap64 (x8_1 * (wrap64 (a2))))))).bind fun t200 => ((shape_Leaf.f (wrap64 (1 + (Int.tmod (wrap64 (a0)) 4))) (wrap64 (a1))).bind fun t201 => (if t200 = t201 then ((millstreamlaw07_shown.f k1).bind fun t202 => (some t202)) else (some false)))) else (some false))) = some r := H
     have A9 := Aside0.mk A90
     clear A90
     replace H := Option.bind_eq_some_iff.mp H
     obtain ⟨t199, A100, H⟩ := H
     replace H : (if t198 = t199 then ((shape_Meet.f (wrap64 (1 + (Int.tmod (wrap64 (a0)) 4))) (wrap64 ((wrap64 (a1)) + (wrap64 (x8_1 * (wrap64 (a2)))))) (wrap64 ((wrap64 (a1)) + (wrap64 (x8_1 * (wrap64 (a2))))))).bind fun t200 => ((shape_Leaf.f (wrap64 (1 + (Int.tmod (wrap64 (a0)) 4))) (wrap64 (a1))).bind fun t201 => (if t200 = t201 then ((millstreamlaw07_shown.f k1).bind fun t202 => (some t202)) else (some false)))) else (some false)) = some r := H
     have A10 := Aside0.mk A100
     clear A100
     by_cases c11 : t198 = t199
     ·rw [if_pos c11] at H
      have c11b0 : (t198 == t199) = true := beq_iff_eq.mpr c11
      have c11b1 : (t198 != t199) = false := bne_eq_false_iff_eq.mpr c11
      clear c11
      replace H := Option.bind_eq_some_iff.mp H
      obtain ⟨t200, A120, H⟩ := H
      replace H : ((shape_Leaf.f (wrap64 (1 + (Int.tmod (wrap64 (a0)) 4))) (wrap64 (a1))).bind fun t201 => (if t200 = t201 then ((millstreamlaw07_shown.f k1).bind fun t202 => (some t202)) else (some false))) = some r := H
      have A12 := Aside0.mk A120
      clear A120
      replace H := Option.bind_eq_some_iff.mp H
      obtain ⟨t201, A130, H⟩ := H
      replace H : (if t200 = t201 then ((millstreamlaw07_shown.f k1).bind fun t202 => (some t202)) else (some false)) = some r := H
      have A13 := Aside0.mk A130
      clear A130
      by_cases c14 : t200 = t201
      ·rw [if_pos c14] at H
       have c14b0 : (t200 == t201) = true := beq_iff_eq.mpr c14
       have c14b1 : (t200 != t201) = false := bne_eq_false_iff_eq.mpr c14
       clear c14
       replace H := Option.bind_eq_some_iff.mp H
       obtain ⟨t202, A150, H⟩ := H
       replace H : (some t202) = some r := H
       have A15 := Aside0.mk A150
       clear A150
       clear hr_
       obtain rfl := Option.some.inj H
       go_wp2_with (first | ((with_reducible refine gate_callee (f := 16) rfl ?_); refine goesL_ (some 32) rfl rfl Try.func16 (by kernel_rfl) rfl #[.int .i64 (wrap64 (1 + (Int.tmod (wrap64 (a0)) 4))), .int .i64 (wrap64 (a1))] rfl (by (try simp only [List.map_toArray, List.map_cons, List.map_nil]); first | done | rfl | (simp only [List.length_drop, List.length_take]; rfl)) ?_; (with_reducible refine (shape_Path.calls (wrap64 (1 + (Int.tmod (wrap64 (a0)) 4))) (wrap64 (a1)) t191 _ A5.out).mono ?_); rintro e w16 ⟨v192, rfl, ho0, hb⟩; refine ⟨_, rfl, ?_⟩; have n0_ := Aside0.mk (Kd.R_lower ho0 (below_size (by repeat (first | (with_reducible first | exact HB.out | apply below_alloc | apply pw_below_drewN | apply below_drew1) | exact HB.out)))); have n1_ := Aside0.mk (below_step (by repeat (first | (with_reducible first | exact HB.out | apply below_alloc | apply pw_below_drewN | apply below_drew1) | exact HB.out)) hb); clear HB; have HO193 := n0_; have HB := n1_; clear n0_ n1_; (try clear hb); (try clear hb2); (try clear hk); (try clear hi); (try clear ho0)) | ((with_reducible refine gate_callee (f := 16) rfl ?_); refine goesL_ (some 35) rfl rfl Try.func16 (by kernel_rfl) rfl #[.int .i64 (wrap64 (1 + (Int.tmod (wrap64 (a0)) 4))), .int .i64 (wrap64 ((wrap64 (a1)) + (wrap64 (x8_1 * (wrap64 (a2))))))] rfl (by (try simp only [List.map_toArray, List.map_cons, List.map_nil]); first | done | rfl | (simp only [List.length_drop, List.length_take]; rfl)) ?_; (with_reducible refine (shape_Path.calls (wrap64 (1 + (Int.tmod (wrap64 (a0)) 4))) (wrap64 ((wrap64 (a1)) + (wrap64 (x8_1 * (wrap64 (a2)))))) t194 _ A6.out).mono ?_); rintro e w17 ⟨v195, rfl, ho0, hb⟩; refine ⟨_, rfl, ?_⟩; have n0_ := Aside0.mk (Kd.R_elder' (by (with_reducible repeat (first | apply Kd.R_alloc | apply Kd.R_drewN | apply Kd.R_drew)); exact HO193.out) (Kd.R_base ho0) hb); have n1_ := Aside0.mk (Kd.R_lower (Kd.R_new' ho0 (Kd.R_lt (by (with_reducible repeat (first | apply Kd.R_alloc | apply Kd.R_drewN | apply Kd.R_drew)); exact HO193.out))) (below_size (by repeat (first | (with_reducible first | exact HB.out | apply below_alloc | apply pw_below_drewN | apply below_drew1) | exact HB.out)))); have n2_ := Aside0.mk (below_step (by repeat (first | (with_reducible first | exact HB.out | apply below_alloc | apply pw_below_drewN | apply below_drew1) | exact HB.out)) hb); clear HO193; clear HB; have HO193 := n0_; have HO196 := n1_; have HB := n2_; clear n0_ n1_ n2_; (try clear hb); (try clear hb2); (try clear hk); (try clear hi); (try clear ho0); obtain ⟨Ao18, co18, eo18⟩ := Kd.R_slice HO193.out; subst eo18; obtain ⟨Ao19, co19, eo19⟩ := Kd.R_slice HO196.out; subst eo19) | ((with_reducible refine gate_callee (f := 15) rfl ?_); refine goesL_ (some 36) rfl rfl Try.func15 (by kernel_rfl) rfl #[.slice Ao18 t191.length co18, .slice Ao19 t194.length co19] rfl (by (try simp only [List.map_toArray, List.map_cons, List.map_nil]); first | done | rfl | (simp only [List.length_drop, List.length_take]; rfl)) ?_; (with_reducible refine (millstreamref02_Ints.calls k1 _ _ t191 _ _ t194 true _ ?side1 ?side2 ?side3 ?side4 A7.out).mono ?_); (case side1 => repeat (first | exact (Kd.R_reads' HO193.out).2.2 | (with_reducible refine Kd.C_alloc ?_ _) | (with_reducible refine Kd.C_drewN ?_ _) | (with_reducible refine Kd.C_drew ?_))); (case side2 => exact (Kd.R_reads' HO193.out).2.1); (case side3 => repeat (first | exact (Kd.R_reads' HO196.out).2.2 | (with_reducible refine Kd.C_alloc ?_ _) | (with_reducible refine Kd.C_drewN ?_ _) | (with_reducible refine Kd.C_drew ?_))); (case side4 => exact (Kd.R_reads' HO196.out).2.1); rintro e w' ⟨rfl, ⟨nd, rfl⟩⟩; refine ⟨_, rfl, ?_⟩) | (go_at_call 18; (with_reducible refine (shape_Meet.calls (wrap64 (1 + (Int.tmod (wrap64 (a0)) 4))) (wrap64 (a1)) (wrap64 ((wrap64 (a1)) + (wrap64 (x8_1 * (wrap64 (a2)))))) t198 _ A9.out).mono ?_); rintro e w20 ⟨rfl, hb⟩; have n0_ := Aside0.mk (Kd.R_below (by (with_reducible repeat (first | apply Kd.R_alloc | apply Kd.R_drewN | apply Kd.R_drew)); exact HO193.out) hb); have n1_ := Aside0.mk (Kd.R_below (by (with_reducible repeat (first | apply Kd.R_alloc | apply Kd.R_drewN | apply Kd.R_drew)); exact HO196.out) hb); have n2_ := Aside0.mk (below_step (by repeat (first | (with_reducible first | exact HB.out | apply below_alloc | apply pw_below_drewN | apply below_drew1) | exact HB.out)) hb); clear HO193; clear HO196; clear HB; have HO193 := n0_; have HO196 := n1_; have HB := n2_; clear n0_ n1_ n2_; (try clear hb); (try clear hb2); (try clear hk); (try clear hi)) | (go_at_call 9; (with_reducible refine (shape_Leaf.calls (wrap64 (1 + (Int.tmod (wrap64 (a0)) 4))) (wrap64 ((wrap64 (a1)) + (wrap64 (x8_1 * (wrap64 (a2)))))) t199 _ A10.out).mono ?_); rintro e w' ⟨rfl, ⟨nd, rfl⟩⟩) | (go_at_call 18; (with_reducible refine (shape_Meet.calls (wrap64 (1 + (Int.tmod (wrap64 (a0)) 4))) (wrap64 ((wrap64 (a1)) + (wrap64 (x8_1 * (wrap64 (a2)))))) (wrap64 ((wrap64 (a1)) + (wrap64 (x8_1 * (wrap64 (a2)))))) t200 _ A12.out).mono ?_); rintro e w21 ⟨rfl, hb⟩; have n0_ := Aside0.mk (Kd.R_below (by (with_reducible repeat (first | apply Kd.R_alloc | apply Kd.R_drewN | apply Kd.R_drew)); exact HO193.out) hb); have n1_ := Aside0.mk (Kd.R_below (by (with_reducible repeat (first | apply Kd.R_alloc | apply Kd.R_drewN | apply Kd.R_drew)); exact HO196.out) hb); have n2_ := Aside0.mk (below_step (by repeat (first | (with_reducible first | exact HB.out | apply below_alloc | apply pw_below_drewN | apply below_drew1) | exact HB.out)) hb); clear HO193; clear HO196; clear HB; have HO193 := n0_; have HO196 := n1_; have HB := n2_; clear n0_ n1_ n2_; (try clear hb); (try clear hb2); (try clear hk); (try clear hi)) | (go_at_call 9; (with_reducible refine (shape_Leaf.calls (wrap64 (1 + (Int.tmod (wrap64 (a0)) 4))) (wrap64 (a1)) t201 _ A13.out).mono ?_); rintro e w' ⟨rfl, ⟨nd, rfl⟩⟩) | (go_at_call 20; (with_reducible refine (millstreamlaw07_shown.calls k1  t202 _ A15.out).mono ?_); rintro e w22 ⟨rfl, hb⟩; have n0_ := Aside0.mk (Kd.R_below (by (with_reducible repeat (first | apply Kd.R_alloc | apply Kd.R_drewN | apply Kd.R_drew)); exact HO193.out) hb); have n1_ := Aside0.mk (Kd.R_below (by (with_reducible repeat (first | apply Kd.R_alloc | apply Kd.R_drewN | apply Kd.R_drew)); exact HO196.out) hb); have n2_ := Aside0.mk (below_step (by repeat (first | (with_reducible first | exact HB.out | apply below_alloc | apply pw_below_drewN | apply below_drew1) | exact HB.out)) hb); clear HO193; clear HO196; clear HB; have HO193 := n0_; have HO196 := n1_; have HB := n2_; clear n0_ n1_ n2_; (try clear hb); (try clear hb2); (try clear hk); (try clear hi)))
       go_ret
       exact ⟨by first | rfl | (simp [errW_none, errW_some] <;> rfl) | (simp [*, errW_none, errW_some] <;> rfl), by repeat (first | (with_reducible first | exact HB.out | apply below_alloc | apply pw_below_drewN | apply below_drew1) | exact HB.out)⟩
      ·rw [if_neg c14] at H
       have c14b0 : (t200 == t201) = false := beq_eq_false_iff_ne.mpr c14
       have c14b1 : (t200 != t201) = true := bne_iff_ne.mpr c14
       exact absurd ((Option.some.inj H).trans hr_.out) (by decide)
     ·rw [if_neg c11] at H
      have c11b0 : (t198 == t199) = false := beq_eq_false_iff_ne.mpr c11
      have c11b1 : (t198 != t199) = true := bne_iff_ne.mpr c11
      exact absurd ((Option.some.inj H).trans hr_.out) (by decide)
    ·replace c8 := Bool.eq_false_iff.mpr c8
     subst c8
     have H1 : (some false) = some r := by rw [if_neg (show ¬ (false = true) by decide)] at H; exact H
     clear H
     have H := H1
     clear H1
     exact absurd ((Option.some.inj H).trans hr_.out) (by decide)

/-! ### millstreamlaw07_ShapeLeaves: function 8 -/
mutual
def millstreamlaw07_ShapeLeaves.l0 : Nat → Int → Int → Int → Option (Bool)
 | 0, _, _, _ => none
 | k + 1, x3, x4, x5 => if x5 < x3 then (millstreamlaw07_ShapeLeaves.l0 k x3 (wrap64 (2 * x4)) (wrap64 (x5 + 1))) else (millstreamlaw07_ShapeLeaves.l1 k x3 x4 0)
def millstreamlaw07_ShapeLeaves.l1 : Nat → Int → Int → Int → Option (Bool)
 | 0, _, _, _ => none
 | k + 1, x3, x4, x6 => if x6 < x4 then ((shape_Leaf.f x3 (wrap64 (2 * x6))).bind fun t204 => (if t204 = (wrap64 (x4 + x6)) then ((shape_Leaf.f x3 (wrap64 ((wrap64 (2 * x6)) + 1))).bind fun t205 => (if t204 = t205 then ((shape_Level.f k t204).bind fun t206 => (if t206 = (wrap64 (x3 - 1)) then ((shape_Leaf.f x3 (wrap64 ((wrap64 (2 * x6)) + (wrap64 (2 * x4))))).bind fun t207 => (if t207 = t204 then (millstreamlaw07_ShapeLeaves.l1 k x3 x4 (wrap64 (x6 + 1))) else (some false))) else (some false))) else (some false))) else (some false))) else ((millstreamlaw07_shown.f k).bind fun t203 => (some t203))
end
def millstreamlaw07_ShapeLeaves.f (k : Nat) (a0 : Int) : Option (Bool) := millstreamlaw07_ShapeLeaves.l0 k (wrap64 (1 + (Int.tmod (wrap64 (a0)) 4))) 1 1
theorem millstreamlaw07_ShapeLeaves.mono_l : ∀ k, (∀ y0 y1 y2, LeO (millstreamlaw07_ShapeLeaves.l0 k y0 y1 y2) (millstreamlaw07_ShapeLeaves.l0 (k + 1) y0 y1 y2)) ∧ (∀ y0 y1 y2, LeO (millstreamlaw07_ShapeLeaves.l1 k y0 y1 y2) (millstreamlaw07_ShapeLeaves.l1 (k + 1) y0 y1 y2))
 | 0 => ⟨fun _ _ _ r h => by simp [millstreamlaw07_ShapeLeaves.l0] at h, fun _ _ _ r h => by simp [millstreamlaw07_ShapeLeaves.l1] at h⟩
 | k + 1 => by
  obtain ⟨ih0, ih1⟩ := millstreamlaw07_ShapeLeaves.mono_l k
  refine ⟨?_, ?_⟩
  ·intro y0 y1 y2
   unfold millstreamlaw07_ShapeLeaves.l0
   repeat' first
   | (with_reducible exact ih0 _ _ _)
   | (with_reducible exact ih1 _ _ _)
   | (with_reducible exact millstreamlaw07_shown.mono _)
   | (with_reducible exact shape_Level.mono _ _)
   | (with_reducible exact LeO.refl _)
   | (with_reducible exact LeO.none _)
   | (with_reducible refine LeO.ite ?_ ?_)
   | (with_reducible refine LeO.bind ?_ (fun _ => ?_))
   | exact ih0 _ _ _
   | exact ih1 _ _ _
   | exact millstreamlaw07_shown.mono _
   | exact shape_Level.mono _ _
   | exact LeO.none _
   | refine LeO.ite ?_ ?_
   | refine LeO.bind ?_ (fun _ => ?_)
  ·intro y0 y1 y2
   unfold millstreamlaw07_ShapeLeaves.l1
   repeat' first
   | (with_reducible exact ih0 _ _ _)
   | (with_reducible exact ih1 _ _ _)
   | (with_reducible exact millstreamlaw07_shown.mono _)
   | (with_reducible exact shape_Level.mono _ _)
   | (with_reducible exact LeO.refl _)
   | (with_reducible exact LeO.none _)
   | (with_reducible refine LeO.ite ?_ ?_)
   | (with_reducible refine LeO.bind ?_ (fun _ => ?_))
   | exact ih0 _ _ _
   | exact ih1 _ _ _
   | exact millstreamlaw07_shown.mono _
   | exact shape_Level.mono _ _
   | exact LeO.none _
   | refine LeO.ite ?_ ?_
   | refine LeO.bind ?_ (fun _ => ?_)
theorem millstreamlaw07_ShapeLeaves.mono : ∀ a0 k, LeO (millstreamlaw07_ShapeLeaves.f k a0) (millstreamlaw07_ShapeLeaves.f (k + 1) a0) := by
 intro a0 k
 obtain ⟨ih0, ih1⟩ := millstreamlaw07_ShapeLeaves.mono_l k
 unfold millstreamlaw07_ShapeLeaves.f
 repeat' first
   | (with_reducible exact ih0 _ _ _)
   | (with_reducible exact ih1 _ _ _)
   | (with_reducible exact millstreamlaw07_shown.mono _)
   | (with_reducible exact shape_Level.mono _ _)
   | (with_reducible exact LeO.refl _)
   | (with_reducible exact LeO.none _)
   | (with_reducible refine LeO.ite ?_ ?_)
   | (with_reducible refine LeO.bind ?_ (fun _ => ?_))
   | exact ih0 _ _ _
   | exact ih1 _ _ _
   | exact millstreamlaw07_shown.mono _
   | exact shape_Level.mono _ _
   | exact LeO.none _
   | refine LeO.ite ?_ ?_
   | refine LeO.bind ?_ (fun _ => ?_)
set_option maxHeartbeats 60000000 in
set_option maxRecDepth 100000 in
theorem millstreamlaw07_ShapeLeaves.calls (k : Nat) (a0 : Int) (r : Bool) (w : World) (h : millstreamlaw07_ShapeLeaves.f k a0 = some r) (hr_ : Aside0 (r = true)) :
  Calls Try.prog 8 #[.int .u8 a0] w fun e w' => e = .returned (.bool r) ∧ Below w.heap.size w w' := by
 have HB := Aside0.mk (Below.refl w.heap.size w)
 have H : (millstreamlaw07_ShapeLeaves.l0 k (wrap64 (1 + (Int.tmod (wrap64 (a0)) 4))) 1 1) = some r := h
 clear h
 have H' := Aside0.mk H
 clear H
 go_enter Try.func8, Try.ntmps8
 go_wp2
 go_loopg [4, 5] k (fun kq v4 v5 w' => ∃ (x4_1 : Int) (x5_1 : Int), v4 = .int .i64 x4_1 ∧ v5 = .int .i64 x5_1 ∧ Aside0 (millstreamlaw07_ShapeLeaves.l0 kq (wrap64 (1 + (Int.tmod (wrap64 (a0)) 4))) x4_1 x5_1 = some r) ∧ Aside0 (kq ≤ k) ∧ Aside0 (Below w.heap.size w w'))
 case atStart => exact ⟨(1), (1), (by first | rfl | (simp; done) | (simp [*]; done)), (by first | rfl | (simp; done) | (simp [*]; done)), H', ⟨Nat.le_refl _⟩, ⟨by repeat (first | (with_reducible first | exact HB.out | apply below_alloc | apply pw_below_drewN | apply below_drew1) | exact HB.out)⟩⟩
 case round =>
  clear H'
  obtain ⟨x4_1, x5_1, rfl, rfl, HA, HK1, HB⟩ := hrel
  cases gk with
  | zero => exact absurd HA.out (by simp [millstreamlaw07_ShapeLeaves.l0])
  | succ k1 =>
   have H := HA.out
   clear HA
   simp only [millstreamlaw07_ShapeLeaves.l0] at H
   by_cases c2 : x5_1 < (wrap64 (1 + (Int.tmod (wrap64 (a0)) 4)))
   ·rw [if_pos c2] at H
    have c2b0 : decide (x5_1 < (wrap64 (1 + (Int.tmod (wrap64 (a0)) 4)))) = true := decide_eq_true c2
    clear c2
    have H' := Aside0.mk H
    clear H
    go_wp2
    go_roundg k1
    case measure => have := HK1.out; omega
    case rel => exact ⟨(wrap64 (2 * x4_1)), (wrap64 (x5_1 + 1)), (by first | rfl | (simp; done) | (simp [*]; done)), (by first | rfl | (simp; done) | (simp [*]; done)), H', ⟨by have := HK1.out; omega⟩, ⟨by repeat (first | (with_reducible first | exact HB.out | apply below_alloc | apply pw_below_drewN | apply below_drew1) | exact HB.out)⟩⟩
   ·rw [if_neg c2] at H
    have c2b0 : decide (x5_1 < (wrap64 (1 + (Int.tmod (wrap64 (a0)) 4)))) = false := decide_eq_false c2
    clear c2
    have H' := Aside0.mk H
    clear H
    go_wp2
    go_loopg [6] k1 (fun kq v6 w' => ∃ (x6_2 : Int), v6 = .int .i64 x6_2 ∧ Aside0 (millstreamlaw07_ShapeLeaves.l1 kq (wrap64 (1 + (Int.tmod (wrap64 (a0)) 4))) x4_1 x6_2 = some r) ∧ Aside0 (kq ≤ k1) ∧ Aside0 (Below w.heap.size w w'))
    case atStart => exact ⟨(0), (by first | rfl | (simp; done) | (simp [*]; done)), H', ⟨Nat.le_refl _⟩, ⟨by repeat (first | (with_reducible first | exact HB.out | apply below_alloc | apply pw_below_drewN | apply below_drew1) | exact HB.out)⟩⟩
    case round =>
     clear H'
     try clear c2
     try clear c2b0
     try clear p2
     obtain ⟨x6_2, rfl, HA, HK2, HB⟩ := hrel
     cases gk with
     | zero => exact absurd HA.out (by simp [millstreamlaw07_ShapeLeaves.l1])
     | succ k2 =>
      have H := HA.out
      clear HA
      simp only [millstreamlaw07_ShapeLeaves.l1] at H
      by_cases c3 : x6_2 < x4_1
      ·rw [if_pos c3] at H
       have c3b0 : decide (x6_2 < x4_1) = true := decide_eq_true c3
       clear c3
       replace H := Option.bind_eq_some_iff.mp H
       obtain ⟨t204, A40, H⟩ := H
       replace H : (if t204 = (wrap64 (x4_1 + x6_2)) then ((shape_Leaf.f (wrap64 (1 + (Int.tmod (wrap64 (a0)) 4))) (wrap64 ((wrap64 (2 * x6_2)) + 1))).bind fun t205 => (if t204 = t205 then ((shape_Level.f k2 t204).bind fun t206 => (if t206 = (wrap64 ((wrap64 (1 + (Int.tmod (wrap64 (a0)) 4))) - 1)) then ((shape_Leaf.f (wrap64 (1 + (Int.tmod (wrap64 (a0)) 4))) (wrap64 ((wrap64 (2 * x6_2)) + (wrap64 (2 * x4_1))))).bind fun t207 => (if t207 = t204 then (millstreamlaw07_ShapeLeaves.l1 k2 (wrap64 (1 + (Int.tmod (wrap64 (a0)) 4))) x4_1 (wrap64 (x6_2 + 1))) else (some false))) else (some false))) else (some false))) else (some false)) = some r := H
       have A4 := Aside0.mk A40
       clear A40
       by_cases c5 : t204 = (wrap64 (x4_1 + x6_2))
       ·rw [if_pos c5] at H
        have c5b0 : (t204 == (wrap64 (x4_1 + x6_2))) = true := beq_iff_eq.mpr c5
        have c5b1 : (t204 != (wrap64 (x4_1 + x6_2))) = false := bne_eq_false_iff_eq.mpr c5
        clear c5
        replace H := Option.bind_eq_some_iff.mp H
        obtain ⟨t205, A60, H⟩ := H
        replace H : (if t204 = t205 then ((shape_Level.f k2 t204).bind fun t206 => (if t206 = (wrap64 ((wrap64 (1 + (Int.tmod (wrap64 (a0)) 4))) - 1)) then ((shape_Leaf.f (wrap64 (1 + (Int.tmod (wrap64 (a0)) 4))) (wrap64 ((wrap64 (2 * x6_2)) + (wrap64 (2 * x4_1))))).bind fun t207 => (if t207 = t204 then (millstreamlaw07_ShapeLeaves.l1 k2 (wrap64 (1 + (Int.tmod (wrap64 (a0)) 4))) x4_1 (wrap64 (x6_2 + 1))) else (some false))) else (some false))) else (some false)) = some r := H
        have A6 := Aside0.mk A60
        clear A60
        by_cases c7 : t204 = t205
        ·rw [if_pos c7] at H
         have c7b0 : (t204 == t205) = true := beq_iff_eq.mpr c7
         have c7b1 : (t204 != t205) = false := bne_eq_false_iff_eq.mpr c7
         clear c7
         replace H := Option.bind_eq_some_iff.mp H
         obtain ⟨t206, A80, H⟩ := H
         replace H : (if t206 = (wrap64 ((wrap64 (1 + (Int.tmod (wrap64 (a0)) 4))) - 1)) then ((shape_Leaf.f (wrap64 (1 + (Int.tmod (wrap64 (a0)) 4))) (wrap64 ((wrap64 (2 * x6_2)) + (wrap64 (2 * x4_1))))).bind fun t207 => (if t207 = t204 then (millstreamlaw07_ShapeLeaves.l1 k2 (wrap64 (1 + (Int.tmod (wrap64 (a0)) 4))) x4_1 (wrap64 (x6_2 + 1))) else (some false))) else (some false)) = some r := H
         have A8 := Aside0.mk A80
         clear A80
         by_cases c9 : t206 = (wrap64 ((wrap64 (1 + (Int.tmod (wrap64 (a0)) 4))) - 1))
         ·rw [if_pos c9] at H
          have c9b0 : (t206 == (wrap64 ((wrap64 (1 + (Int.tmod (wrap64 (a0)) 4))) - 1))) = true := beq_iff_eq.mpr c9
          have c9b1 : (t206 != (wrap64 ((wrap64 (1 + (Int.tmod (wrap64 (a0)) 4))) - 1))) = false := bne_eq_false_iff_eq.mpr c9
          clear c9
          replace H := Option.bind_eq_some_iff.mp H
          obtain ⟨t207, A100, H⟩ := H
          replace H : (if t207 = t204 then (millstreamlaw07_ShapeLeaves.l1 k2 (wrap64 (1 + (Int.tmod (wrap64 (a0)) 4))) x4_1 (wrap64 (x6_2 + 1))) else (some false)) = some r := H
          have A10 := Aside0.mk A100
          clear A100
          by_cases c11 : t207 = t204
          ·rw [if_pos c11] at H
           have c11b0 : (t207 == t204) = true := beq_iff_eq.mpr c11
           have c11b1 : (t207 != t204) = false := bne_eq_false_iff_eq.mpr c11
           clear c11
           have H' := Aside0.mk H
           clear H
           go_wp2_with (first | ((with_reducible refine gate_callee (f := 9) rfl ?_); refine goesL_ (some 27) rfl rfl Try.func9 (by kernel_rfl) rfl #[.int .i64 (wrap64 (1 + (Int.tmod (wrap64 (a0)) 4))), .int .i64 (wrap64 (2 * x6_2))] rfl (by (try simp only [List.map_toArray, List.map_cons, List.map_nil]); first | done | rfl | (simp only [List.length_drop, List.length_take]; rfl)) ?_; (with_reducible refine (shape_Leaf.calls (wrap64 (1 + (Int.tmod (wrap64 (a0)) 4))) (wrap64 (2 * x6_2)) t204 _ A4.out).mono ?_); rintro e w' ⟨rfl, ⟨nd, rfl⟩⟩; refine ⟨_, rfl, ?_⟩) | (go_at_call 9; (with_reducible refine (shape_Leaf.calls (wrap64 (1 + (Int.tmod (wrap64 (a0)) 4))) (wrap64 ((wrap64 (2 * x6_2)) + 1)) t205 _ A6.out).mono ?_); rintro e w' ⟨rfl, ⟨nd, rfl⟩⟩) | (go_at_call 13; (with_reducible refine (shape_Level.calls k2 t204 t206 _ A8.out).mono ?_); rintro e w12 ⟨rfl, hb⟩; have n0_ := Aside0.mk (below_step (by repeat (first | (with_reducible first | exact HB.out | apply below_alloc | apply pw_below_drewN | apply below_drew1) | exact HB.out)) hb); clear HB; have HB := n0_; clear n0_; (try clear hb); (try clear hb2); (try clear hk); (try clear hi)) | (go_at_call 9; (with_reducible refine (shape_Leaf.calls (wrap64 (1 + (Int.tmod (wrap64 (a0)) 4))) (wrap64 ((wrap64 (2 * x6_2)) + (wrap64 (2 * x4_1)))) t207 _ A10.out).mono ?_); rintro e w' ⟨rfl, ⟨nd, rfl⟩⟩))
           go_roundg k2
           case measure => have := HK1.out; have := HK2.out; omega
           case rel => exact ⟨(wrap64 (x6_2 + 1)), (by first | rfl | (simp; done) | (simp [*]; done)), H', ⟨by have := HK1.out; have := HK2.out; omega⟩, ⟨by repeat (first | (with_reducible first | exact HB.out | apply below_alloc | apply pw_below_drewN | apply below_drew1) | exact HB.out)⟩⟩
          ·rw [if_neg c11] at H
           have c11b0 : (t207 == t204) = false := beq_eq_false_iff_ne.mpr c11
           have c11b1 : (t207 != t204) = true := bne_iff_ne.mpr c11
           exact absurd ((Option.some.inj H).trans hr_.out) (by decide)
         ·rw [if_neg c9] at H
          have c9b0 : (t206 == (wrap64 ((wrap64 (1 + (Int.tmod (wrap64 (a0)) 4))) - 1))) = false := beq_eq_false_iff_ne.mpr c9
          have c9b1 : (t206 != (wrap64 ((wrap64 (1 + (Int.tmod (wrap64 (a0)) 4))) - 1))) = true := bne_iff_ne.mpr c9
          exact absurd ((Option.some.inj H).trans hr_.out) (by decide)
        ·rw [if_neg c7] at H
         have c7b0 : (t204 == t205) = false := beq_eq_false_iff_ne.mpr c7
         have c7b1 : (t204 != t205) = true := bne_iff_ne.mpr c7
         exact absurd ((Option.some.inj H).trans hr_.out) (by decide)
       ·rw [if_neg c5] at H
        have c5b0 : (t204 == (wrap64 (x4_1 + x6_2))) = false := beq_eq_false_iff_ne.mpr c5
        have c5b1 : (t204 != (wrap64 (x4_1 + x6_2))) = true := bne_iff_ne.mpr c5
        exact absurd ((Option.some.inj H).trans hr_.out) (by decide)
      ·rw [if_neg c3] at H
       have c3b0 : decide (x6_2 < x4_1) = false := decide_eq_false c3
       clear c3
       replace H := Option.bind_eq_some_iff.mp H
       obtain ⟨t203, A130, H⟩ := H
       replace H : (some t203) = some r := H
       have A13 := Aside0.mk A130
       clear A130
       clear hr_
       obtain rfl := Option.some.inj H
       go_wp2_with (first | ((with_reducible refine gate_callee (f := 20) rfl ?_); refine goesL_ (some 60) rfl rfl Try.func20 (by kernel_rfl) rfl #[] rfl (by (try simp only [List.map_toArray, List.map_cons, List.map_nil]); first | done | rfl | (simp only [List.length_drop, List.length_take]; rfl)) ?_; (with_reducible refine (millstreamlaw07_shown.calls k2  t203 _ A13.out).mono ?_); rintro e w14 ⟨rfl, hb⟩; refine ⟨_, rfl, ?_⟩; have n0_ := Aside0.mk (below_step (by repeat (first | (with_reducible first | exact HB.out | apply below_alloc | apply pw_below_drewN | apply below_drew1) | exact HB.out)) hb); clear HB; have HB := n0_; clear n0_; (try clear hb); (try clear hb2); (try clear hk); (try clear hi)))
       go_ret
       exact ⟨by first | rfl | (simp [errW_none, errW_some] <;> rfl) | (simp [*, errW_none, errW_some] <;> rfl), by repeat (first | (with_reducible first | exact HB.out | apply below_alloc | apply pw_below_drewN | apply below_drew1) | exact HB.out)⟩

end Go.Proofs.Ytmlapgclfnlipaa.PA
