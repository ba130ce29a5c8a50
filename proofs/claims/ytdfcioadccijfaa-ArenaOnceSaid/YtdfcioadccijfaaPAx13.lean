-- Laid by a program of this session over the kit's print; hand-proved functions stand among them. Not trusted: Lean checks it.
import Derived.Test.YtdfcioadccijfaaPAx0
import Derived.Test.YtdfcioadccijfaaPAx2
import Derived.Test.YtdfcioadccijfaaPAx4
namespace Go.Proofs.Ytdfcioadccijfaa.PA
open Go.RowKit Go.Proofs.YtdfcioadccijfaaW.PrintWords Go.Proofs.YtdfcioadccijfaaW.PrintLast Go.Proofs.YtdfcioadccijfaaW.PrintMore
attribute [local go_sem] max2_int min2_int max_two min_two max_three min_three max_four min_four   -- for this text's walks alone
set_option linter.unusedVariables false
set_option linter.unusedSimpArgs false

/-! ### millstreamlaw06_ArenaOnce: function 5 -/
mutual
def millstreamlaw06_ArenaOnce.j0 : Nat → Bool → Int → Int → Int → Int → Int → Int → Int → Int → Bool → Int → Int → Int → Option (Bool)
 | 0, _, _, _, _, _, _, _, _, _, _, _, _, _ => none
 | k + 1, x16, x275000, x275001, x275002, x275003, x275004, x275005, x275006, x275007, x275008, x275009, x275010, x275011 => if x16 = true then ((millstreamlaw06_shown.f k).bind fun t277 => (some t277)) else (millstreamlaw06_ArenaOnce.l0 k (([] : List Int)) 0 x275000 x275001 x275002 x275003 x275004 x275005 x275006 x275007 x275008 x275009 x275010 x275011)
def millstreamlaw06_ArenaOnce.l0 : Nat → List Int → Int → Int → Int → Int → Int → Int → Int → Int → Int → Bool → Int → Int → Int → Option (Bool)
 | 0, _, _, _, _, _, _, _, _, _, _, _, _, _, _ => none
 | k + 1, x3, x4, x275000, x275001, x275002, x275003, x275004, x275005, x275006, x275007, x275008, x275009, x275010, x275011 => if x4 < x275001 then ((arena_Cell.f x275000 x275001 x275002 x275003 x275004 x275005 x275006 x275007 x275008 x275009 x275010 x275011 x4).bind fun t281 => (if x3.length < 17592186044416 then (millstreamlaw06_ArenaOnce.l1 k (x3 ++ [t281]) x4 1 x275000 x275001 x275002 x275003 x275004 x275005 x275006 x275007 x275008 x275009 x275010 x275011) else (none))) else (millstreamlaw06_ArenaOnce.l4 k x3 0 x275000 x275001 x275002 x275003 x275004 x275005 x275006 x275007 x275008 x275009 x275010 x275011)
def millstreamlaw06_ArenaOnce.l1 : Nat → List Int → Int → Int → Int → Int → Int → Int → Int → Int → Int → Int → Bool → Int → Int → Int → Option (Bool)
 | 0, _, _, _, _, _, _, _, _, _, _, _, _, _, _, _ => none
 | k + 1, x3, x4, x5, x275000, x275001, x275002, x275003, x275004, x275005, x275006, x275007, x275008, x275009, x275010, x275011 => (millstreamref06_Nodes.f k x275000 x275001 x275002 x275003 x275004 x275005 x275006 x275007 x275008 x275009 x275010 x275011).bind fun t285 => (if x5 ≤ t285 then ((arena_Node.f x275000 x275001 x275002 x275003 x275004 x275005 x275006 x275007 x275008 x275009 x275010 x275011 x4 x5).bind fun t286 => (if x3.length < 17592186044416 then (millstreamlaw06_ArenaOnce.l1 k (x3 ++ [t286]) x4 (wrap64 (x5 + 1)) x275000 x275001 x275002 x275003 x275004 x275005 x275006 x275007 x275008 x275009 x275010 x275011) else (none))) else (millstreamlaw06_ArenaOnce.l2 k x3 x4 1 x275000 x275001 x275002 x275003 x275004 x275005 x275006 x275007 x275008 x275009 x275010 x275011))
def millstreamlaw06_ArenaOnce.l2 : Nat → List Int → Int → Int → Int → Int → Int → Int → Int → Int → Int → Int → Bool → Int → Int → Int → Option (Bool)
 | 0, _, _, _, _, _, _, _, _, _, _, _, _, _, _, _ => none
 | k + 1, x3, x4, x6, x275000, x275001, x275002, x275003, x275004, x275005, x275006, x275007, x275008, x275009, x275010, x275011 => if x6 ≤ x275004 then (millstreamlaw06_ArenaOnce.l3 k x3 x4 x6 0 x275000 x275001 x275002 x275003 x275004 x275005 x275006 x275007 x275008 x275009 x275010 x275011) else (millstreamlaw06_ArenaOnce.l0 k x3 (wrap64 (x4 + 1)) x275000 x275001 x275002 x275003 x275004 x275005 x275006 x275007 x275008 x275009 x275010 x275011)
def millstreamlaw06_ArenaOnce.l3 : Nat → List Int → Int → Int → Int → Int → Int → Int → Int → Int → Int → Int → Int → Bool → Int → Int → Int → Option (Bool)
 | 0, _, _, _, _, _, _, _, _, _, _, _, _, _, _, _, _ => none
 | k + 1, x3, x4, x6, x7, x275000, x275001, x275002, x275003, x275004, x275005, x275006, x275007, x275008, x275009, x275010, x275011 => if x7 < x275005 then ((arena_Slot.f x275000 x275001 x275002 x275003 x275004 x275005 x275006 x275007 x275008 x275009 x275010 x275011 x4 x6 x7).bind fun t290 => (if x3.length < 17592186044416 then (millstreamlaw06_ArenaOnce.l3 k (x3 ++ [t290]) x4 x6 (wrap64 (x7 + 1)) x275000 x275001 x275002 x275003 x275004 x275005 x275006 x275007 x275008 x275009 x275010 x275011) else (none))) else (millstreamlaw06_ArenaOnce.l2 k x3 x4 (wrap64 (x6 + 1)) x275000 x275001 x275002 x275003 x275004 x275005 x275006 x275007 x275008 x275009 x275010 x275011)
def millstreamlaw06_ArenaOnce.l4 : Nat → List Int → Int → Int → Int → Int → Int → Int → Int → Int → Int → Bool → Int → Int → Int → Option (Bool)
 | 0, _, _, _, _, _, _, _, _, _, _, _, _, _, _ => none
 | k + 1, x3, x8, x275000, x275001, x275002, x275003, x275004, x275005, x275006, x275007, x275008, x275009, x275010, x275011 => if x8 < x275000 then ((arena_Line.f x275000 x275001 x275002 x275003 x275004 x275005 x275006 x275007 x275008 x275009 x275010 x275011 x8).bind fun t294 => ((arena_Result.f x275000 x275001 x275002 x275003 x275004 x275005 x275006 x275007 x275008 x275009 x275010 x275011 x8).bind fun t295 => ((some (([t294, t295] : List Int) : List Int)).bind fun y296 => (if x3.length + y296.length < 17592186044416 then (millstreamlaw06_ArenaOnce.l4 k (x3 ++ y296) (wrap64 (x8 + 1)) x275000 x275001 x275002 x275003 x275004 x275005 x275006 x275007 x275008 x275009 x275010 x275011) else (none))))) else ((arena_Size.f x275000 x275001 x275002 x275003 x275004 x275005 x275006 x275007 x275008 x275009 x275010 x275011).bind fun t302 => (if (x3.length : Int) = t302 then (millstreamlaw06_ArenaOnce.l5 k x3 0) else (some false)))
def millstreamlaw06_ArenaOnce.l5 : Nat → List Int → Int → Option (Bool)
 | 0, _, _ => none
 | k + 1, x3, x9 => if x9 < (x3.length : Int) then (if 0 ≤ x9 then (if (rd x3 x9) = x9 then (millstreamlaw06_ArenaOnce.l5 k x3 (wrap64 (x9 + 1))) else (some false)) else (none)) else (some true)
end
def millstreamlaw06_ArenaOnce.f (k : Nat) (a0_0 : Int) (a0_1 : Int) (a0_2 : Int) (a0_3 : Int) (a0_4 : Int) (a0_5 : Int) (a0_6 : Int) (a0_7 : Int) (a0_8 : Bool) (a0_9 : Int) (a0_10 : Int) (a0_11 : Int) : Option (Bool) := (millstreamlaw06_may.f a0_0 a0_1 a0_2 a0_3 a0_4 a0_5 a0_6 a0_7 a0_8 a0_9 a0_10 a0_11).bind fun t275 => (if t275 = true then ((millstreamlaw06_shown.f k).bind fun t276 => (millstreamlaw06_ArenaOnce.j0 k (!t276) a0_0 a0_1 a0_2 a0_3 a0_4 a0_5 a0_6 a0_7 a0_8 a0_9 a0_10 a0_11)) else (millstreamlaw06_ArenaOnce.j0 k true a0_0 a0_1 a0_2 a0_3 a0_4 a0_5 a0_6 a0_7 a0_8 a0_9 a0_10 a0_11))
theorem millstreamlaw06_ArenaOnce.mono_l : ∀ k, (∀ y0 y1 y2 y3 y4 y5 y6 y7 y8 y9 y10 y11 y12, LeO (millstreamlaw06_ArenaOnce.j0 k y0 y1 y2 y3 y4 y5 y6 y7 y8 y9 y10 y11 y12) (millstreamlaw06_ArenaOnce.j0 (k + 1) y0 y1 y2 y3 y4 y5 y6 y7 y8 y9 y10 y11 y12)) ∧ (∀ y0 y1 y2 y3 y4 y5 y6 y7 y8 y9 y10 y11 y12 y13, LeO (millstreamlaw06_ArenaOnce.l0 k y0 y1 y2 y3 y4 y5 y6 y7 y8 y9 y10 y11 y12 y13) (millstreamlaw06_ArenaOnce.l0 (k + 1) y0 y1 y2 y3 y4 y5 y6 y7 y8 y9 y10 y11 y12 y13)) ∧ (∀ y0 y1 y2 y3 y4 y5 y6 y7 y8 y9 y10 y11 y12 y13 y14, LeO (millstreamlaw06_ArenaOnce.l1 k y0 y1 y2 y3 y4 y5 y6 y7 y8 y9 y10 y11 y12 y13 y14) (millstreamlaw06_ArenaOnce.l1 (k + 1) y0 y1 y2 y3 y4 y5 y6 y7 y8 y9 y10 y11 y12 y13 y14)) ∧ (∀ y0 y1 y2 y3 y4 y5 y6 y7 y8 y9 y10 y11 y12 y13 y14, LeO (millstreamlaw06_ArenaOnce.l2 k y0 y1 y2 y3 y4 y5 y6 y7 y8 y9 y10 y11 y12 y13 y14) (millstreamlaw06_ArenaOnce.l2 (k + 1) y0 y1 y2 y3 y4 y5 y6 y7 y8 y9 y10 y11 y12 y13 y14)) ∧ (∀ y0 y1 y2 y3 y4 y5 y6 y7 y8 y9 y10 y11 y12 y13 y14 y15, LeO (millstreamlaw06_ArenaOnce.l3 k y0 y1 y2 y3 y4 y5 y6 y7 y8 y9 y10 y11 y12 y13 y14 y15) (millstreamlaw06_ArenaOnce.l3 (k + 1) y0 y1 y2 y3 y4 y5 y6 y7 y8 y9 y10 y11 y12 y13 y14 y15)) ∧ (∀ y0 y1 y2 y3 y4 y5 y6 y7 y8 y9 y10 y11 y12 y13, LeO (millstreamlaw06_ArenaOnce.l4 k y0 y1 y2 y3 y4 y5 y6 y7 y8 y9 y10 y11 y12 y13) (millstreamlaw06_ArenaOnce.l4 (k + 1) y0 y1 y2 y3 y4 y5 y6 y7 y8 y9 y10 y11 y12 y13)) ∧ (∀ y0 y1, LeO (millstreamlaw06_ArenaOnce.l5 k y0 y1) (millstreamlaw06_ArenaOnce.l5 (k + 1) y0 y1))
 | 0 => ⟨fun _ _ _ _ _ _ _ _ _ _ _ _ _ r h => by simp [millstreamlaw06_ArenaOnce.j0] at h, fun _ _ _ _ _ _ _ _ _ _ _ _ _ _ r h => by simp [millstreamlaw06_ArenaOnce.l0] at h, fun _ _ _ _ _ _ _ _ _ _ _ _ _ _ _ r h => by simp [millstreamlaw06_ArenaOnce.l1] at h, fun _ _ _ _ _ _ _ _ _ _ _ _ _ _ _ r h => by simp [millstreamlaw06_ArenaOnce.l2] at h, fun _ _ _ _ _ _ _ _ _ _ _ _ _ _ _ _ r h => by simp [millstreamlaw06_ArenaOnce.l3] at h, fun _ _ _ _ _ _ _ _ _ _ _ _ _ _ r h => by simp [millstreamlaw06_ArenaOnce.l4] at h, fun _ _ r h => by simp [millstreamlaw06_ArenaOnce.l5] at h⟩
 | k + 1 => by
  obtain ⟨ih0, ih1, ih2, ih3, ih4, ih5, ih6⟩ := millstreamlaw06_ArenaOnce.mono_l k
  refine ⟨?_, ?_, ?_, ?_, ?_, ?_, ?_⟩
  ·intro y0 y1 y2 y3 y4 y5 y6 y7 y8 y9 y10 y11 y12
   unfold millstreamlaw06_ArenaOnce.j0
   repeat' first
   | (with_reducible exact ih0 _ _ _ _ _ _ _ _ _ _ _ _ _)
   | (with_reducible exact ih1 _ _ _ _ _ _ _ _ _ _ _ _ _ _)
   | (with_reducible exact ih2 _ _ _ _ _ _ _ _ _ _ _ _ _ _ _)
   | (with_reducible exact ih3 _ _ _ _ _ _ _ _ _ _ _ _ _ _ _)
   | (with_reducible exact ih4 _ _ _ _ _ _ _ _ _ _ _ _ _ _ _ _)
   | (with_reducible exact ih5 _ _ _ _ _ _ _ _ _ _ _ _ _ _)
   | (with_reducible exact ih6 _ _)
   | (with_reducible exact millstreamlaw06_shown.mono _)
   | (with_reducible exact millstreamref06_Nodes.mono _ _ _ _ _ _ _ _ _ _ _ _ _)
   | (with_reducible exact LeO.refl _)
   | (with_reducible exact LeO.none _)
   | (with_reducible refine LeO.ite ?_ ?_)
   | (with_reducible refine LeO.bind ?_ (fun _ => ?_))
   | exact ih0 _ _ _ _ _ _ _ _ _ _ _ _ _
   | exact ih1 _ _ _ _ _ _ _ _ _ _ _ _ _ _
   | exact ih2 _ _ _ _ _ _ _ _ _ _ _ _ _ _ _
   | exact ih3 _ _ _ _ _ _ _ _ _ _ _ _ _ _ _
   | exact ih4 _ _ _ _ _ _ _ _ _ _ _ _ _ _ _ _
   | exact ih5 _ _ _ _ _ _ _ _ _ _ _ _ _ _
   | exact ih6 _ _
   | exact millstreamlaw06_shown.mono _
   | exact millstreamref06_Nodes.mono _ _ _ _ _ _ _ _ _ _ _ _ _
   | exact LeO.none _
   | refine LeO.ite ?_ ?_
   | refine LeO.bind ?_ (fun _ => ?_)
  ·intro y0 y1 y2 y3 y4 y5 y6 y7 y8 y9 y10 y11 y12 y13
   unfold millstreamlaw06_ArenaOnce.l0
   repeat' first
   | (with_reducible exact ih0 _ _ _ _ _ _ _ _ _ _ _ _ _)
   | (with_reducible exact ih1 _ _ _ _ _ _ _ _ _ _ _ _ _ _)
   | (with_reducible exact ih2 _ _ _ _ _ _ _ _ _ _ _ _ _ _ _)
   | (with_reducible exact ih3 _ _ _ _ _ _ _ _ _ _ _ _ _ _ _)
   | (with_reducible exact ih4 _ _ _ _ _ _ _ _ _ _ _ _ _ _ _ _)
   | (with_reducible exact ih5 _ _ _ _ _ _ _ _ _ _ _ _ _ _)
   | (with_reducible exact ih6 _ _)
   | (with_reducible exact millstreamlaw06_shown.mono _)
   | (with_reducible exact millstreamref06_Nodes.mono _ _ _ _ _ _ _ _ _ _ _ _ _)
   | (with_reducible exact LeO.refl _)
   | (with_reducible exact LeO.none _)
   | (with_reducible refine LeO.ite ?_ ?_)
   | (with_reducible refine LeO.bind ?_ (fun _ => ?_))
   | exact ih0 _ _ _ _ _ _ _ _ _ _ _ _ _
   | exact ih1 _ _ _ _ _ _ _ _ _ _ _ _ _ _
   | exact ih2 _ _ _ _ _ _ _ _ _ _ _ _ _ _ _
   | exact ih3 _ _ _ _ _ _ _ _ _ _ _ _ _ _ _
   | exact ih4 _ _ _ _ _ _ _ _ _ _ _ _ _ _ _ _
   | exact ih5 _ _ _ _ _ _ _ _ _ _ _ _ _ _
   | exact ih6 _ _
   | exact millstreamlaw06_shown.mono _
   | exact millstreamref06_Nodes.mono _ _ _ _ _ _ _ _ _ _ _ _ _
   | exact LeO.none _
   | refine LeO.ite ?_ ?_
   | refine LeO.bind ?_ (fun _ => ?_)
  ·intro y0 y1 y2 y3 y4 y5 y6 y7 y8 y9 y10 y11 y12 y13 y14
   unfold millstreamlaw06_ArenaOnce.l1
   repeat' first
   | (with_reducible exact ih0 _ _ _ _ _ _ _ _ _ _ _ _ _)
   | (with_reducible exact ih1 _ _ _ _ _ _ _ _ _ _ _ _ _ _)
   | (with_reducible exact ih2 _ _ _ _ _ _ _ _ _ _ _ _ _ _ _)
   | (with_reducible exact ih3 _ _ _ _ _ _ _ _ _ _ _ _ _ _ _)
   | (with_reducible exact ih4 _ _ _ _ _ _ _ _ _ _ _ _ _ _ _ _)
   | (with_reducible exact ih5 _ _ _ _ _ _ _ _ _ _ _ _ _ _)
   | (with_reducible exact ih6 _ _)
   | (with_reducible exact millstreamlaw06_shown.mono _)
   | (with_reducible exact millstreamref06_Nodes.mono _ _ _ _ _ _ _ _ _ _ _ _ _)
   | (with_reducible exact LeO.refl _)
   | (with_reducible exact LeO.none _)
   | (with_reducible refine LeO.ite ?_ ?_)
   | (with_reducible refine LeO.bind ?_ (fun _ => ?_))
   | exact ih0 _ _ _ _ _ _ _ _ _ _ _ _ _
   | exact ih1 _ _ _ _ _ _ _ _ _ _ _ _ _ _
   | exact ih2 _ _ _ _ _ _ _ _ _ _ _ _ _ _ _
   | exact ih3 _ _ _ _ _ _ _ _ _ _ _ _ _ _ _
   | exact ih4 _ _ _ _ _ _ _ _ _ _ _ _ _ _ _ _
   | exact ih5 _ _ _ _ _ _ _ _ _ _ _ _ _ _
   | exact ih6 _ _
   | exact millstreamlaw06_shown.mono _
   | exact millstreamref06_Nodes.mono _ _ _ _ _ _ _ _ _ _ _ _ _
   | exact LeO.none _
   | refine LeO.ite ?_ ?_
   | refine LeO.bind ?_ (fun _ => ?_)
  ·intro y0 y1 y2 y3 y4 y5 y6 y7 y8 y9 y10 y11 y12 y13 y14
   unfold millstreamlaw06_ArenaOnce.l2
   repeat' first
   | (with_reducible exact ih0 _ _ _ _ _ _ _ _ _ _ _ _ _)
   | (with_reducible exact ih1 _ _ _ _ _ _ _ _ _ _ _ _ _ _)
   | (with_reducible exact ih2 _ _ _ _ _ _ _ _ _ _ _ _ _ _ _)
   | (with_reducible exact ih3 _ _ _ _ _ _ _ _ _ _ _ _ _ _ _)
   | (with_reducible exact ih4 _ _ _ _ _ _ _ _ _ _ _ _ _ _ _ _)
   | (with_reducible exact ih5 _ _ _ _ _ _ _ _ _ _ _ _ _ _)
   | (with_reducible exact ih6 _ _)
   | (with_reducible exact millstreamlaw06_shown.mono _)
   | (with_reducible exact millstreamref06_Nodes.mono _ _ _ _ _ _ _ _ _ _ _ _ _)
   | (with_reducible exact LeO.refl _)
   | (with_reducible exact LeO.none _)
   | (with_reducible refine LeO.ite ?_ ?_)
   | (with_reducible refine LeO.bind ?_ (fun _ => ?_))
   | exact ih0 _ _ _ _ _ _ _ _ _ _ _ _ _
   | exact ih1 _ _ _ _ _ _ _ _ _ _ _ _ _ _
   | exact ih2 _ _ _ _ _ _ _ _ _ _ _ _ _ _ _
   | exact ih3 _ _ _ _ _ _ _ _ _ _ _ _ _ _ _
   | exact ih4 _ _ _ _ _ _ _ _ _ _ _ _ _ _ _ _
   | exact ih5 _ _ _ _ _ _ _ _ _ _ _ _ _ _
   | exact ih6 _ _
   | exact millstreamlaw06_shown.mono _
   | exact millstreamref06_Nodes.mono _ _ _ _ _ _ _ _ _ _ _ _ _
   | exact LeO.none _
   | refine LeO.ite ?_ ?_
   | refine LeO.bind ?_ (fun _ => ?_)
  ·intro y0 y1 y2 y3 y4 y5 y6 y7 y8 y9 y10 y11 y12 y13 y14 y15
   unfold millstreamlaw06_ArenaOnce.l3
   repeat' first
   | (with_reducible exact ih0 _ _ _ _ _ _ _ _ _ _ _ _ _)
   | (with_reducible exact ih1 _ _ _ _ _ _ _ _ _ _ _ _ _ _)
   | (with_reducible exact ih2 _ _ _ _ _ _ _ _ _ _ _ _ _ _ _)
   | (with_reducible exact ih3 _ _ _ _ _ _ _ _ _ _ _ _ _ _ _)
   | (with_reducible exact ih4 _ _ _ _ _ _ _ _ _ _ _ _ _ _ _ _)
   | (with_reducible exact ih5 _ _ _ _ _ _ _ _ _ _ _ _ _ _)
   | (with_reducible exact ih6 _ _)
   | (with_reducible exact millstreamlaw06_shown.mono _)
   | (with_reducible exact millstreamref06_Nodes.mono _ _ _ _ _ _ _ _ _ _ _ _ _)
   | (with_reducible exact LeO.refl _)
   | (with_reducible exact LeO.none _)
   | (with_reducible refine LeO.ite ?_ ?_)
   | (with_reducible refine LeO.bind ?_ (fun _ => ?_))
   | exact ih0 _ _ _ _ _ _ _ _ _ _ _ _ _
   | exact ih1 _ _ _ _ _ _ _ _ _ _ _ _ _ _
   | exact ih2 _ _ _ _ _ _ _ _ _ _ _ _ _ _ _
   | exact ih3 _ _ _ _ _ _ _ _ _ _ _ _ _ _ _
   | exact ih4 _ _ _ _ _ _ _ _ _ _ _ _ _ _ _ _
   | exact ih5 _ _ _ _ _ _ _ _ _ _ _ _ _ _
   | exact ih6 _ _
   | exact millstreamlaw06_shown.mono _
   | exact millstreamref06_Nodes.mono _ _ _ _ _ _ _ _ _ _ _ _ _
   | exact LeO.none _
   | refine LeO.ite ?_ ?_
   | refine LeO.bind ?_ (fun _ => ?_)
  ·intro y0 y1 y2 y3 y4 y5 y6 y7 y8 y9 y10 y11 y12 y13
   unfold millstreamlaw06_ArenaOnce.l4
   repeat' first
   | (with_reducible exact ih0 _ _ _ _ _ _ _ _ _ _ _ _ _)
   | (with_reducible exact ih1 _ _ _ _ _ _ _ _ _ _ _ _ _ _)
   | (with_reducible exact ih2 _ _ _ _ _ _ _ _ _ _ _ _ _ _ _)
   | (with_reducible exact ih3 _ _ _ _ _ _ _ _ _ _ _ _ _ _ _)
   | (with_reducible exact ih4 _ _ _ _ _ _ _ _ _ _ _ _ _ _ _ _)
   | (with_reducible exact ih5 _ _ _ _ _ _ _ _ _ _ _ _ _ _)
   | (with_reducible exact ih6 _ _)
   | (with_reducible exact millstreamlaw06_shown.mono _)
   | (with_reducible exact millstreamref06_Nodes.mono _ _ _ _ _ _ _ _ _ _ _ _ _)
   | (with_reducible exact LeO.refl _)
   | (with_reducible exact LeO.none _)
   | (with_reducible refine LeO.ite ?_ ?_)
   | (with_reducible refine LeO.bind ?_ (fun _ => ?_))
   | exact ih0 _ _ _ _ _ _ _ _ _ _ _ _ _
   | exact ih1 _ _ _ _ _ _ _ _ _ _ _ _ _ _
   | exact ih2 _ _ _ _ _ _ _ _ _ _ _ _ _ _ _
   | exact ih3 _ _ _ _ _ _ _ _ _ _ _ _ _ _ _
   | exact ih4 _ _ _ _ _ _ _ _ _ _ _ _ _ _ _ _
   | exact ih5 _ _ _ _ _ _ _ _ _ _ _ _ _ _
   | exact ih6 _ _
   | exact millstreamlaw06_shown.mono _
   | exact millstreamref06_Nodes.mono _ _ _ _ _ _ _ _ _ _ _ _ _
   | exact LeO.none _
   | refine LeO.ite ?_ ?_
   | refine LeO.bind ?_ (fun _ => ?_)
  ·intro y0 y1
   unfold millstreamlaw06_ArenaOnce.l5
   repeat' first
   | (with_reducible exact ih0 _ _ _ _ _ _ _ _ _ _ _ _ _)
   | (with_reducible exact ih1 _ _ _ _ _ _ _ _ _ _ _ _ _ _)
   | (with_reducible exact ih2 _ _ _ _ _ _ _ _ _ _ _ _ _ _ _)
   | (with_reducible exact ih3 _ _ _ _ _ _ _ _ _ _ _ _ _ _ _)
   | (with_reducible exact ih4 _ _ _ _ _ _ _ _ _ _ _ _ _ _ _ _)
   | (with_reducible exact ih5 _ _ _ _ _ _ _ _ _ _ _ _ _ _)
   | (with_reducible exact ih6 _ _)
   | (with_reducible exact millstreamlaw06_shown.mono _)
   | (with_reducible exact millstreamref06_Nodes.mono _ _ _ _ _ _ _ _ _ _ _ _ _)
   | (with_reducible exact LeO.refl _)
   | (with_reducible exact LeO.none _)
   | (with_reducible refine LeO.ite ?_ ?_)
   | (with_reducible refine LeO.bind ?_ (fun _ => ?_))
   | exact ih0 _ _ _ _ _ _ _ _ _ _ _ _ _
   | exact ih1 _ _ _ _ _ _ _ _ _ _ _ _ _ _
   | exact ih2 _ _ _ _ _ _ _ _ _ _ _ _ _ _ _
   | exact ih3 _ _ _ _ _ _ _ _ _ _ _ _ _ _ _
   | exact ih4 _ _ _ _ _ _ _ _ _ _ _ _ _ _ _ _
   | exact ih5 _ _ _ _ _ _ _ _ _ _ _ _ _ _
   | exact ih6 _ _
   | exact millstreamlaw06_shown.mono _
   | exact millstreamref06_Nodes.mono _ _ _ _ _ _ _ _ _ _ _ _ _
   | exact LeO.none _
   | refine LeO.ite ?_ ?_
   | refine LeO.bind ?_ (fun _ => ?_)
theorem millstreamlaw06_ArenaOnce.mono : ∀ a0 a1 a2 a3 a4 a5 a6 a7 a8 a9 a10 a11 k, LeO (millstreamlaw06_ArenaOnce.f k a0 a1 a2 a3 a4 a5 a6 a7 a8 a9 a10 a11) (millstreamlaw06_ArenaOnce.f (k + 1) a0 a1 a2 a3 a4 a5 a6 a7 a8 a9 a10 a11) := by
 intro a0 a1 a2 a3 a4 a5 a6 a7 a8 a9 a10 a11 k
 obtain ⟨ih0, ih1, ih2, ih3, ih4, ih5, ih6⟩ := millstreamlaw06_ArenaOnce.mono_l k
 unfold millstreamlaw06_ArenaOnce.f
 repeat' first
   | (with_reducible exact ih0 _ _ _ _ _ _ _ _ _ _ _ _ _)
   | (with_reducible exact ih1 _ _ _ _ _ _ _ _ _ _ _ _ _ _)
   | (with_reducible exact ih2 _ _ _ _ _ _ _ _ _ _ _ _ _ _ _)
   | (with_reducible exact ih3 _ _ _ _ _ _ _ _ _ _ _ _ _ _ _)
   | (with_reducible exact ih4 _ _ _ _ _ _ _ _ _ _ _ _ _ _ _ _)
   | (with_reducible exact ih5 _ _ _ _ _ _ _ _ _ _ _ _ _ _)
   | (with_reducible exact ih6 _ _)
   | (with_reducible exact millstreamlaw06_shown.mono _)
   | (with_reducible exact millstreamref06_Nodes.mono _ _ _ _ _ _ _ _ _ _ _ _ _)
   | (with_reducible exact LeO.refl _)
   | (with_reducible exact LeO.none _)
   | (with_reducible refine LeO.ite ?_ ?_)
   | (with_reducible refine LeO.bind ?_ (fun _ => ?_))
   | exact ih0 _ _ _ _ _ _ _ _ _ _ _ _ _
   | exact ih1 _ _ _ _ _ _ _ _ _ _ _ _ _ _
   | exact ih2 _ _ _ _ _ _ _ _ _ _ _ _ _ _ _
   | exact ih3 _ _ _ _ _ _ _ _ _ _ _ _ _ _ _
   | exact ih4 _ _ _ _ _ _ _ _ _ _ _ _ _ _ _ _
   | exact ih5 _ _ _ _ _ _ _ _ _ _ _ _ _ _
   | exact ih6 _ _
   | exact millstreamlaw06_shown.mono _
   | exact millstreamref06_Nodes.mono _ _ _ _ _ _ _ _ _ _ _ _ _
   | exact LeO.none _
   | refine LeO.ite ?_ ?_
   | refine LeO.bind ?_ (fun _ => ?_)
def millstreamlaw06_ArenaOnce.T22 : Bool × List (List Nat × List Nat) := (true, [([], []), ([], []), ([], []), ([1, 2], [1, 2]), ([], []), ([], []), ([4, 5, 3], [4, 5]), ([3, 6], [3, 6]), ([0, 7, 6], [0, 7]), ([8, 8, 0, 1, 2, 3, 4, 5, 6, 7, 8], [0, 8])])
def millstreamlaw06_ArenaOnce.B22 : List Nat := [0, 0, 0, 6, 0, 0, 62, 126, 255, 511]
theorem millstreamlaw06_ArenaOnce.tab22 : rtab .any (opsOf Try.f5 22) = millstreamlaw06_ArenaOnce.T22 := by kernel_rfl
theorem millstreamlaw06_ArenaOnce.bits22 : waitsOk millstreamlaw06_ArenaOnce.T22.2 millstreamlaw06_ArenaOnce.B22 = true := by kernel_rfl
set_option maxHeartbeats 60000000 in
set_option maxRecDepth 100000 in
theorem millstreamlaw06_ArenaOnce.calls (k : Nat) (a0_0 : Int) (a0_1 : Int) (a0_2 : Int) (a0_3 : Int) (a0_4 : Int) (a0_5 : Int) (a0_6 : Int) (a0_7 : Int) (a0_8 : Bool) (a0_9 : Int) (a0_10 : Int) (a0_11 : Int) (r : Bool) (w : World) (h : millstreamlaw06_ArenaOnce.f k a0_0 a0_1 a0_2 a0_3 a0_4 a0_5 a0_6 a0_7 a0_8 a0_9 a0_10 a0_11 = some r) (hr_ : Aside0 (r = true)) :
  Calls Try.prog 5 #[.agg #[.int .i64 a0_0, .int .i64 a0_1, .int .i64 a0_2, .int .i64 a0_3, .int .i64 a0_4, .int .i64 a0_5, .int .i64 a0_6, .int .i64 a0_7, .bool a0_8, .int .i64 a0_9, .int .i64 a0_10, .int .i64 a0_11]] w fun e w' => e = .returned (.bool r) ∧ Below w.heap.size w w' := by
 have hu23 := Try.underlying23
 have HB := Aside0.mk (Below.refl w.heap.size w)
 have H : ((millstreamlaw06_may.f a0_0 a0_1 a0_2 a0_3 a0_4 a0_5 a0_6 a0_7 a0_8 a0_9 a0_10 a0_11).bind fun t275 => (if t275 = true then ((millstreamlaw06_shown.f k).bind fun t276 => (millstreamlaw06_ArenaOnce.j0 k (!t276) a0_0 a0_1 a0_2 a0_3 a0_4 a0_5 a0_6 a0_7 a0_8 a0_9 a0_10 a0_11)) else (millstreamlaw06_ArenaOnce.j0 k true a0_0 a0_1 a0_2 a0_3 a0_4 a0_5 a0_6 a0_7 a0_8 a0_9 a0_10 a0_11))) = some r := h
 clear h
 have HC2 := Aside0.mk H
 clear H
 go_enter Try.func5, Try.ntmps5
 go_upto_region 1 with (first | ((with_reducible refine gate_dst (N := 1) rfl ?_); refine box_event ?hg (N := 1) ?hd (cs := #[.int .i64 a0_0, .int .i64 a0_1, .int .i64 a0_2, .int .i64 a0_3, .int .i64 a0_4, .int .i64 a0_5, .int .i64 a0_6, .int .i64 a0_7, .bool a0_8, .int .i64 a0_9, .int .i64 a0_10, .int .i64 a0_11]) (t := 23) ?hr ?_; (case hd => rfl); (case hg => rfl); (case hr => first | (go_simp; done) | (go_simp; rfl)); intro gb274 hg w3 hbox hb; have n0_ := Aside0.mk (below_step (by repeat (first | (with_reducible first | exact HB.out | apply below_alloc | apply pw_below_drewN | apply below_drew1) | exact HB.out)) hb); have n1_ := Aside0.mk (hbox); have n2_ := Aside0.mk ((by rw [hg]; exact (below_size (by repeat (first | (with_reducible first | exact HB.out | apply below_alloc | apply pw_below_drewN | apply below_drew1) | exact HB.out))) : w.heap.size ≤ gb274)); have n3_ := Aside0.mk ((by rw [hg]; exact (below_size (by repeat (first | (with_reducible first | exact HB.out | apply below_alloc | apply pw_below_drewN | apply below_drew1) | exact HB.out))) : w.heap.size ≤ gb274)); clear HB; have HB := n0_; have BK274 := n1_; have GW274 := n2_; have GE274 := n3_; clear n0_ n1_ n2_ n3_; clear hb hbox hg))
 (try simp only [Act.put, List.setIfInBounds_toArray, List.set_cons_zero, List.set_cons_succ])
 go_cut [16] (fun v16 wc => ∃ (kq : Nat) (x16_1 : Bool), v16 = .bool x16_1 ∧ Aside0 (millstreamlaw06_ArenaOnce.j0 kq x16_1 a0_0 a0_1 a0_2 a0_3 a0_4 a0_5 a0_6 a0_7 a0_8 a0_9 a0_10 a0_11 = some r) ∧ Aside0 (kq ≤ k) ∧ Aside0 (wc.heap[gb274]? = some (.cells #[.int .i64 a0_0, .int .i64 a0_1, .int .i64 a0_2, .int .i64 a0_3, .int .i64 a0_4, .int .i64 a0_5, .int .i64 a0_6, .int .i64 a0_7, .bool a0_8, .int .i64 a0_9, .int .i64 a0_10, .int .i64 a0_11] 23 (0, 0))) ∧ Aside0 (Below w.heap.size w wc))
 case first =>
  have H := HC2.out
  clear HC2
  replace H := Option.bind_eq_some_iff.mp H
  obtain ⟨t275, A40, H⟩ := H
  replace H : (if t275 = true then ((millstreamlaw06_shown.f k).bind fun t276 => (millstreamlaw06_ArenaOnce.j0 k (!t276) a0_0 a0_1 a0_2 a0_3 a0_4 a0_5 a0_6 a0_7 a0_8 a0_9 a0_10 a0_11)) else (millstreamlaw06_ArenaOnce.j0 k true a0_0 a0_1 a0_2 a0_3 a0_4 a0_5 a0_6 a0_7 a0_8 a0_9 a0_10 a0_11)) = some r := H
  have A4 := Aside0.mk A40
  clear A40
  by_cases c5 : t275 = true
  ·subst c5
   have H1 : ((millstreamlaw06_shown.f k).bind fun t276 => (millstreamlaw06_ArenaOnce.j0 k (!t276) a0_0 a0_1 a0_2 a0_3 a0_4 a0_5 a0_6 a0_7 a0_8 a0_9 a0_10 a0_11)) = some r := by rw [if_pos rfl] at H; exact H
   clear H
   have H := H1
   clear H1
   replace H := Option.bind_eq_some_iff.mp H
   obtain ⟨t276, A60, H⟩ := H
   replace H : (millstreamlaw06_ArenaOnce.j0 k (!t276) a0_0 a0_1 a0_2 a0_3 a0_4 a0_5 a0_6 a0_7 a0_8 a0_9 a0_10 a0_11) = some r := H
   have A6 := Aside0.mk A60
   clear A60
   have H' := Aside0.mk H
   clear H
   have hcz7_0 : w3.cell? ⟨gb274, 0, none⟩ = some (.int .i64 a0_0) := (blk_cell BK274.out 0).trans rfl
   have hcz7_1 : w3.cell? ⟨gb274, 1, none⟩ = some (.int .i64 a0_1) := (blk_cell BK274.out 1).trans rfl
   have hcz7_2 : w3.cell? ⟨gb274, 2, none⟩ = some (.int .i64 a0_2) := (blk_cell BK274.out 2).trans rfl
   have hcz7_3 : w3.cell? ⟨gb274, 3, none⟩ = some (.int .i64 a0_3) := (blk_cell BK274.out 3).trans rfl
   have hcz7_4 : w3.cell? ⟨gb274, 4, none⟩ = some (.int .i64 a0_4) := (blk_cell BK274.out 4).trans rfl
   have hcz7_5 : w3.cell? ⟨gb274, 5, none⟩ = some (.int .i64 a0_5) := (blk_cell BK274.out 5).trans rfl
   have hcz7_6 : w3.cell? ⟨gb274, 6, none⟩ = some (.int .i64 a0_6) := (blk_cell BK274.out 6).trans rfl
   have hcz7_7 : w3.cell? ⟨gb274, 7, none⟩ = some (.int .i64 a0_7) := (blk_cell BK274.out 7).trans rfl
   have hcz7_8 : w3.cell? ⟨gb274, 8, none⟩ = some (.bool a0_8) := (blk_cell BK274.out 8).trans rfl
   have hcz7_9 : w3.cell? ⟨gb274, 9, none⟩ = some (.int .i64 a0_9) := (blk_cell BK274.out 9).trans rfl
   have hcz7_10 : w3.cell? ⟨gb274, 10, none⟩ = some (.int .i64 a0_10) := (blk_cell BK274.out 10).trans rfl
   have hcz7_11 : w3.cell? ⟨gb274, 11, none⟩ = some (.int .i64 a0_11) := (blk_cell BK274.out 11).trans rfl
   have hfz7_0 := blk_frozen BK274.out 0
   have hfz7_1 := blk_frozen BK274.out 1
   have hfz7_2 := blk_frozen BK274.out 2
   have hfz7_3 := blk_frozen BK274.out 3
   have hfz7_4 := blk_frozen BK274.out 4
   have hfz7_5 := blk_frozen BK274.out 5
   have hfz7_6 := blk_frozen BK274.out 6
   have hfz7_7 := blk_frozen BK274.out 7
   have hfz7_8 := blk_frozen BK274.out 8
   have hfz7_9 := blk_frozen BK274.out 9
   have hfz7_10 := blk_frozen BK274.out 10
   have hfz7_11 := blk_frozen BK274.out 11
   go_wp2_with (first | ((with_reducible refine gate_callee (f := 8) rfl ?_); refine goesL_ (some 11) rfl rfl Try.func8 (by kernel_rfl) rfl #[.agg #[.int .i64 a0_0, .int .i64 a0_1, .int .i64 a0_2, .int .i64 a0_3, .int .i64 a0_4, .int .i64 a0_5, .int .i64 a0_6, .int .i64 a0_7, .bool a0_8, .int .i64 a0_9, .int .i64 a0_10, .int .i64 a0_11]] rfl (by (try simp only [List.map_toArray, List.map_cons, List.map_nil]); first | done | rfl | (simp only [List.length_drop, List.length_take]; rfl)) ?_; (with_reducible refine (millstreamlaw06_may.calls a0_0 a0_1 a0_2 a0_3 a0_4 a0_5 a0_6 a0_7 a0_8 a0_9 a0_10 a0_11 true _ A4.out).mono ?_); rintro e w8 ⟨rfl, hb⟩; refine ⟨_, rfl, ?_⟩; have n0_ := Aside0.mk (blk_below (g := gb274) (o := .cells #[.int .i64 a0_0, .int .i64 a0_1, .int .i64 a0_2, .int .i64 a0_3, .int .i64 a0_4, .int .i64 a0_5, .int .i64 a0_6, .int .i64 a0_7, .bool a0_8, .int .i64 a0_9, .int .i64 a0_10, .int .i64 a0_11] 23 (0, 0)) (by (with_reducible repeat first | refine blk_drewN ?_ _ | refine blk_drew ?_ | refine blk_alloc ?_ _); exact BK274.out) hb); have n1_ := Aside0.mk (below_step (by repeat (first | (with_reducible first | exact HB.out | apply below_alloc | apply pw_below_drewN | apply below_drew1 | refine below_set ?_ GE274.out) | exact HB.out)) hb); clear BK274; clear HB; have BK274 := n0_; have HB := n1_; clear n0_ n1_; (try clear hb); (try clear hb2); (try clear hk); (try clear hi)) | (go_at_call 9; (with_reducible refine (millstreamlaw06_shown.calls k  t276 _ A6.out).mono ?_); rintro e w9 ⟨rfl, hb⟩; have n0_ := Aside0.mk (blk_below (g := gb274) (o := .cells #[.int .i64 a0_0, .int .i64 a0_1, .int .i64 a0_2, .int .i64 a0_3, .int .i64 a0_4, .int .i64 a0_5, .int .i64 a0_6, .int .i64 a0_7, .bool a0_8, .int .i64 a0_9, .int .i64 a0_10, .int .i64 a0_11] 23 (0, 0)) (by (with_reducible repeat first | refine blk_drewN ?_ _ | refine blk_drew ?_ | refine blk_alloc ?_ _); exact BK274.out) hb); have n1_ := Aside0.mk (below_step (by repeat (first | (with_reducible first | exact HB.out | apply below_alloc | apply pw_below_drewN | apply below_drew1 | refine below_set ?_ GE274.out) | exact HB.out)) hb); clear BK274; clear HB; have BK274 := n0_; have HB := n1_; clear n0_ n1_; (try clear hb); (try clear hb2); (try clear hk); (try clear hi)))
   go_meet
   case rel => exact ⟨_, (!t276), (by first | rfl | (simp; done) | (simp [*]; done)), H', ⟨by first | omega | exact Nat.le_refl _⟩, ⟨by (with_reducible repeat first | refine blk_drewN ?_ _ | refine blk_drew ?_ | refine blk_alloc ?_ _); exact BK274.out⟩, ⟨by repeat (first | (with_reducible first | exact HB.out | apply below_alloc | apply pw_below_drewN | apply below_drew1 | refine below_set ?_ GE274.out) | exact HB.out)⟩⟩
  ·replace c5 := Bool.eq_false_iff.mpr c5
   subst c5
   have H1 : (millstreamlaw06_ArenaOnce.j0 k true a0_0 a0_1 a0_2 a0_3 a0_4 a0_5 a0_6 a0_7 a0_8 a0_9 a0_10 a0_11) = some r := by rw [if_neg (show ¬ (false = true) by decide)] at H; exact H
   clear H
   have H := H1
   clear H1
   have H' := Aside0.mk H
   clear H
   have hcz10_0 : w3.cell? ⟨gb274, 0, none⟩ = some (.int .i64 a0_0) := (blk_cell BK274.out 0).trans rfl
   have hcz10_1 : w3.cell? ⟨gb274, 1, none⟩ = some (.int .i64 a0_1) := (blk_cell BK274.out 1).trans rfl
   have hcz10_2 : w3.cell? ⟨gb274, 2, none⟩ = some (.int .i64 a0_2) := (blk_cell BK274.out 2).trans rfl
   have hcz10_3 : w3.cell? ⟨gb274, 3, none⟩ = some (.int .i64 a0_3) := (blk_cell BK274.out 3).trans rfl
   have hcz10_4 : w3.cell? ⟨gb274, 4, none⟩ = some (.int .i64 a0_4) := (blk_cell BK274.out 4).trans rfl
   have hcz10_5 : w3.cell? ⟨gb274, 5, none⟩ = some (.int .i64 a0_5) := (blk_cell BK274.out 5).trans rfl
   have hcz10_6 : w3.cell? ⟨gb274, 6, none⟩ = some (.int .i64 a0_6) := (blk_cell BK274.out 6).trans rfl
   have hcz10_7 : w3.cell? ⟨gb274, 7, none⟩ = some (.int .i64 a0_7) := (blk_cell BK274.out 7).trans rfl
   have hcz10_8 : w3.cell? ⟨gb274, 8, none⟩ = some (.bool a0_8) := (blk_cell BK274.out 8).trans rfl
   have hcz10_9 : w3.cell? ⟨gb274, 9, none⟩ = some (.int .i64 a0_9) := (blk_cell BK274.out 9).trans rfl
   have hcz10_10 : w3.cell? ⟨gb274, 10, none⟩ = some (.int .i64 a0_10) := (blk_cell BK274.out 10).trans rfl
   have hcz10_11 : w3.cell? ⟨gb274, 11, none⟩ = some (.int .i64 a0_11) := (blk_cell BK274.out 11).trans rfl
   have hfz10_0 := blk_frozen BK274.out 0
   have hfz10_1 := blk_frozen BK274.out 1
   have hfz10_2 := blk_frozen BK274.out 2
   have hfz10_3 := blk_frozen BK274.out 3
   have hfz10_4 := blk_frozen BK274.out 4
   have hfz10_5 := blk_frozen BK274.out 5
   have hfz10_6 := blk_frozen BK274.out 6
   have hfz10_7 := blk_frozen BK274.out 7
   have hfz10_8 := blk_frozen BK274.out 8
   have hfz10_9 := blk_frozen BK274.out 9
   have hfz10_10 := blk_frozen BK274.out 10
   have hfz10_11 := blk_frozen BK274.out 11
   go_wp2_with (first | ((with_reducible refine gate_callee (f := 8) rfl ?_); refine goesL_ (some 11) rfl rfl Try.func8 (by kernel_rfl) rfl #[.agg #[.int .i64 a0_0, .int .i64 a0_1, .int .i64 a0_2, .int .i64 a0_3, .int .i64 a0_4, .int .i64 a0_5, .int .i64 a0_6, .int .i64 a0_7, .bool a0_8, .int .i64 a0_9, .int .i64 a0_10, .int .i64 a0_11]] rfl (by (try simp only [List.map_toArray, List.map_cons, List.map_nil]); first | done | rfl | (simp only [List.length_drop, List.length_take]; rfl)) ?_; (with_reducible refine (millstreamlaw06_may.calls a0_0 a0_1 a0_2 a0_3 a0_4 a0_5 a0_6 a0_7 a0_8 a0_9 a0_10 a0_11 false _ A4.out).mono ?_); rintro e w11 ⟨rfl, hb⟩; refine ⟨_, rfl, ?_⟩; have n0_ := Aside0.mk (blk_below (g := gb274) (o := .cells #[.int .i64 a0_0, .int .i64 a0_1, .int .i64 a0_2, .int .i64 a0_3, .int .i64 a0_4, .int .i64 a0_5, .int .i64 a0_6, .int .i64 a0_7, .bool a0_8, .int .i64 a0_9, .int .i64 a0_10, .int .i64 a0_11] 23 (0, 0)) (by (with_reducible repeat first | refine blk_drewN ?_ _ | refine blk_drew ?_ | refine blk_alloc ?_ _); exact BK274.out) hb); have n1_ := Aside0.mk (below_step (by repeat (first | (with_reducible first | exact HB.out | apply below_alloc | apply pw_below_drewN | apply below_drew1 | refine below_set ?_ GE274.out) | exact HB.out)) hb); clear BK274; clear HB; have BK274 := n0_; have HB := n1_; clear n0_ n1_; (try clear hb); (try clear hb2); (try clear hk); (try clear hi)))
   go_meet
   case rel => exact ⟨_, (true), (by first | rfl | (simp; done) | (simp [*]; done)), H', ⟨by first | omega | exact Nat.le_refl _⟩, ⟨by (with_reducible repeat first | refine blk_drewN ?_ _ | refine blk_drew ?_ | refine blk_alloc ?_ _); exact BK274.out⟩, ⟨by repeat (first | (with_reducible first | exact HB.out | apply below_alloc | apply pw_below_drewN | apply below_drew1 | refine below_set ?_ GE274.out) | exact HB.out)⟩⟩
 case rest =>
  clear HC2
  try clear p2
  try clear c5
  try clear c8
  try clear hcz10_0
  try clear hcz10_1
  try clear hcz10_10
  try clear hcz10_11
  try clear hcz10_2
  try clear hcz10_3
  try clear hcz10_4
  try clear hcz10_5
  try clear hcz10_6
  try clear hcz10_7
  try clear hcz10_8
  try clear hcz10_9
  try clear hcz7_0
  try clear hcz7_1
  try clear hcz7_10
  try clear hcz7_11
  try clear hcz7_2
  try clear hcz7_3
  try clear hcz7_4
  try clear hcz7_5
  try clear hcz7_6
  try clear hcz7_7
  try clear hcz7_8
  try clear hcz7_9
  try clear hfz10_0
  try clear hfz10_1
  try clear hfz10_10
  try clear hfz10_11
  try clear hfz10_2
  try clear hfz10_3
  try clear hfz10_4
  try clear hfz10_5
  try clear hfz10_6
  try clear hfz10_7
  try clear hfz10_8
  try clear hfz10_9
  try clear hfz7_0
  try clear hfz7_1
  try clear hfz7_10
  try clear hfz7_11
  try clear hfz7_2
  try clear hfz7_3
  try clear hfz7_4
  try clear hfz7_5
  try clear hfz7_6
  try clear hfz7_7
  try clear hfz7_8
  try clear hfz7_9
  obtain ⟨kq, x16_1, rfl, HA, HJ1, BK274, HB⟩ := hcut
  cases kq with
  | zero => exact absurd HA.out (by simp [millstreamlaw06_ArenaOnce.j0])
  | succ kj1 =>
   have H := HA.out
   clear HA
   simp only [millstreamlaw06_ArenaOnce.j0] at H
   by_cases c12 : x16_1 = true
   ·subst c12
    have H1 : ((millstreamlaw06_shown.f kj1).bind fun t277 => (some t277)) = some r := by rw [if_pos rfl] at H; exact H
    clear H
    have H := H1
    clear H1
    replace H := Option.bind_eq_some_iff.mp H
    obtain ⟨t277, A130, H⟩ := H
    replace H : (some t277) = some r := H
    have A13 := Aside0.mk A130
    clear A130
    clear hr_
    obtain rfl := Option.some.inj H
    go_wp2_with (first | ((with_reducible refine gate_callee (f := 9) rfl ?_); refine goesL_ (some 17) rfl rfl Try.func9 (by kernel_rfl) rfl #[] rfl (by (try simp only [List.map_toArray, List.map_cons, List.map_nil]); first | done | rfl | (simp only [List.length_drop, List.length_take]; rfl)) ?_; (with_reducible refine (millstreamlaw06_shown.calls kj1  t277 _ A13.out).mono ?_); rintro e w14 ⟨rfl, hb⟩; refine ⟨_, rfl, ?_⟩; have n0_ := Aside0.mk (blk_below (g := gb274) (o := .cells #[.int .i64 a0_0, .int .i64 a0_1, .int .i64 a0_2, .int .i64 a0_3, .int .i64 a0_4, .int .i64 a0_5, .int .i64 a0_6, .int .i64 a0_7, .bool a0_8, .int .i64 a0_9, .int .i64 a0_10, .int .i64 a0_11] 23 (0, 0)) (by (with_reducible repeat first | refine blk_drewN ?_ _ | refine blk_drew ?_ | refine blk_alloc ?_ _); exact BK274.out) hb); have n1_ := Aside0.mk (below_step (by repeat (first | (with_reducible first | exact HB.out | apply below_alloc | apply pw_below_drewN | apply below_drew1 | refine below_set ?_ GE274.out) | exact HB.out)) hb); clear BK274; clear HB; have BK274 := n0_; have HB := n1_; clear n0_ n1_; (try clear hb); (try clear hb2); (try clear hk); (try clear hi)))
    go_ret
    exact ⟨by first | rfl | (simp [errW_none, errW_some] <;> rfl) | (simp [*, errW_none, errW_some] <;> rfl), by repeat (first | (with_reducible first | exact HB.out | apply below_alloc | apply pw_below_drewN | apply below_drew1 | refine below_set ?_ GE274.out) | exact HB.out)⟩
   ·replace c12 := Bool.eq_false_iff.mpr c12
    subst c12
    have H1 : (millstreamlaw06_ArenaOnce.l0 kj1 (([] : List Int)) 0 a0_0 a0_1 a0_2 a0_3 a0_4 a0_5 a0_6 a0_7 a0_8 a0_9 a0_10 a0_11) = some r := by rw [if_neg (show ¬ (false = true) by decide)] at H; exact H
    clear H
    have H := H1
    clear H1
    obtain ⟨y278, hy278⟩ : ∃ y_ : List Int, y_ = (([] : List Int)) := ⟨_, rfl⟩
    replace H : (millstreamlaw06_ArenaOnce.l0 kj1 y278 0 a0_0 a0_1 a0_2 a0_3 a0_4 a0_5 a0_6 a0_7 a0_8 a0_9 a0_10 a0_11) = some r := by first | (rw [hy278]; with_reducible exact H) | (have H2_ := (Option.bind_some _ _).symm.trans H; rw [hy278]; with_reducible exact H2_) | (have H2_ := (Option.bind_some _ _).symm.trans H; with_reducible exact H2_) | with_reducible exact H | (rw [hy278]; exact H) | exact H
    have Ny278 := Aside0.mk hy278
    clear hy278
    have H' := Aside0.mk H
    clear H
    go_wp2_with (first | ((with_reducible refine gate_dst (N := 18) rfl ?_); refine Kd.R_lit (Kd.int .i64) _ 3 ?hg (N := 18) ?hd (xs := ([] : List Int)) (inner := []) (ok := fun _ => True) (okp := fun _ => True) ?hr ?hp (fun _ hk => hk) trivial (Below.refl _ _) (Nat.le_refl _) (by simp) ?_; (case hd => rfl); (case hg => rfl); (case hr => first | (go_simp; done) | (go_simp; rfl)); (case hp => exact (Reps.none _ _)); intro v279 w15 ho16 hb hg_ hnew_; clear hg_ hnew_; (first | rw [← Ny278.out] at ho16 | (simp only [Int.reduceToNat] at ho16; rw [← Ny278.out] at ho16)); have n0_ := Aside0.mk (Kd.R_lower ho16 (below_size (by repeat (first | (with_reducible first | exact HB.out | apply below_alloc | apply pw_below_drewN | apply below_drew1 | refine below_set ?_ GE274.out) | exact HB.out)))); have n1_ := Aside0.mk (blk_below (g := gb274) (o := .cells #[.int .i64 a0_0, .int .i64 a0_1, .int .i64 a0_2, .int .i64 a0_3, .int .i64 a0_4, .int .i64 a0_5, .int .i64 a0_6, .int .i64 a0_7, .bool a0_8, .int .i64 a0_9, .int .i64 a0_10, .int .i64 a0_11] 23 (0, 0)) (by (with_reducible repeat first | refine blk_drewN ?_ _ | refine blk_drew ?_ | refine blk_alloc ?_ _); exact BK274.out) hb); have n2_ := Aside0.mk (below_step (by repeat (first | (with_reducible first | exact HB.out | apply below_alloc | apply pw_below_drewN | apply below_drew1 | refine below_set ?_ GE274.out) | exact HB.out)) hb); clear BK274; clear HB; have HO280 := n0_; have BK274 := n1_; have HB := n2_; clear n0_ n1_ n2_; clear hb ho16))
    go_loopg [3, 4] kj1 (fun kq v3 v4 w' => ∃ (x3_2 : List Int) (x4_2 : Int), v4 = .int .i64 x4_2 ∧ Aside0 (millstreamlaw06_ArenaOnce.l0 kq x3_2 x4_2 a0_0 a0_1 a0_2 a0_3 a0_4 a0_5 a0_6 a0_7 a0_8 a0_9 a0_10 a0_11 = some r) ∧ Aside0 (kq ≤ kj1) ∧ Aside0 (Kd.R (Kd.int .i64) 3 w' w.heap.size (fun _ => True) v3 x3_2) ∧ Aside0 (w'.heap[gb274]? = some (.cells #[.int .i64 a0_0, .int .i64 a0_1, .int .i64 a0_2, .int .i64 a0_3, .int .i64 a0_4, .int .i64 a0_5, .int .i64 a0_6, .int .i64 a0_7, .bool a0_8, .int .i64 a0_9, .int .i64 a0_10, .int .i64 a0_11] 23 (0, 0))) ∧ Aside0 (Below w.heap.size w w'))
    case atStart => exact ⟨(y278), (0), (by first | rfl | (simp; done) | (simp [*]; done)), H', ⟨Nat.le_refl _⟩, ⟨by (with_reducible repeat (first | apply Kd.R_alloc | apply Kd.R_drewN | apply Kd.R_drew)); exact HO280.out⟩, ⟨by (with_reducible repeat first | refine blk_drewN ?_ _ | refine blk_drew ?_ | refine blk_alloc ?_ _); exact BK274.out⟩, ⟨by repeat (first | (with_reducible first | exact HB.out | apply below_alloc | apply pw_below_drewN | apply below_drew1 | refine below_set ?_ GE274.out) | exact HB.out)⟩⟩
    case round =>
     clear H'
     try clear c1
     try clear p2
     try clear c5
     try clear c8
     try clear c9
     try clear c12
     try clear hcz10_0
     try clear hcz10_1
     try clear hcz10_10
     try clear hcz10_11
     try clear hcz10_2
     try clear hcz10_3
     try clear hcz10_4
     try clear hcz10_5
     try clear hcz10_6
     try clear hcz10_7
     try clear hcz10_8
     try clear hcz10_9
     try clear hcz7_0
     try clear hcz7_1
     try clear hcz7_10
     try clear hcz7_11
     try clear hcz7_2
     try clear hcz7_3
     try clear hcz7_4
     try clear hcz7_5
     try clear hcz7_6
     try clear hcz7_7
     try clear hcz7_8
     try clear hcz7_9
     try clear hfz10_0
     try clear hfz10_1
     try clear hfz10_10
     try clear hfz10_11
     try clear hfz10_2
     try clear hfz10_3
     try clear hfz10_4
     try clear hfz10_5
     try clear hfz10_6
     try clear hfz10_7
     try clear hfz10_8
     try clear hfz10_9
     try clear hfz7_0
     try clear hfz7_1
     try clear hfz7_10
     try clear hfz7_11
     try clear hfz7_2
     try clear hfz7_3
     try clear hfz7_4
     try clear hfz7_5
     try clear hfz7_6
     try clear hfz7_7
     try clear hfz7_8
     try clear hfz7_9
     try clear p2
     obtain ⟨x3_2, x4_2, rfl, HA, HK2, HO_3, BK274, HB⟩ := hrel
     cases gk with
     | zero => exact absurd HA.out (by simp [millstreamlaw06_ArenaOnce.l0])
     | succ k2 =>
      have H := HA.out
      clear HA
      simp only [millstreamlaw06_ArenaOnce.l0] at H
      by_cases c17 : x4_2 < a0_1
      ·rw [if_pos c17] at H
       have c17b0 : decide (x4_2 < a0_1) = true := decide_eq_true c17
       clear c17
       replace H := Option.bind_eq_some_iff.mp H
       obtain ⟨t281, A180, H⟩ := H
       replace H : (if x3_2.length < 17592186044416 then (millstreamlaw06_ArenaOnce.l1 k2 (x3_2 ++ [t281]) x4_2 1 a0_0 a0_1 a0_2 a0_3 a0_4 a0_5 a0_6 a0_7 a0_8 a0_9 a0_10 a0_11) else (none)) = some r := H
       have A18 := Aside0.mk A180
       clear A180
       by_cases c19 : x3_2.length < 17592186044416
       ·rw [if_pos c19] at H
        have LMc19 := Aside0.mk c19
        clear c19
        obtain ⟨y282, hy282⟩ : ∃ y_ : List Int, y_ = (x3_2 ++ [t281]) := ⟨_, rfl⟩
        replace H : (millstreamlaw06_ArenaOnce.l1 k2 y282 x4_2 1 a0_0 a0_1 a0_2 a0_3 a0_4 a0_5 a0_6 a0_7 a0_8 a0_9 a0_10 a0_11) = some r := by first | (rw [hy282]; with_reducible exact H) | (have H2_ := (Option.bind_some _ _).symm.trans H; rw [hy282]; with_reducible exact H2_) | (have H2_ := (Option.bind_some _ _).symm.trans H; with_reducible exact H2_) | with_reducible exact H | (rw [hy282]; exact H) | exact H
        have Ny282 := Aside0.mk hy282
        clear hy282
        have H' := Aside0.mk H
        clear H
        have hcz20_0 : wr.cell? ⟨gb274, 0, none⟩ = some (.int .i64 a0_0) := (blk_cell BK274.out 0).trans rfl
        have hcz20_1 : wr.cell? ⟨gb274, 1, none⟩ = some (.int .i64 a0_1) := (blk_cell BK274.out 1).trans rfl
        have hcz20_2 : wr.cell? ⟨gb274, 2, none⟩ = some (.int .i64 a0_2) := (blk_cell BK274.out 2).trans rfl
        have hcz20_3 : wr.cell? ⟨gb274, 3, none⟩ = some (.int .i64 a0_3) := (blk_cell BK274.out 3).trans rfl
        have hcz20_4 : wr.cell? ⟨gb274, 4, none⟩ = some (.int .i64 a0_4) := (blk_cell BK274.out 4).trans rfl
        have hcz20_5 : wr.cell? ⟨gb274, 5, none⟩ = some (.int .i64 a0_5) := (blk_cell BK274.out 5).trans rfl
        have hcz20_6 : wr.cell? ⟨gb274, 6, none⟩ = some (.int .i64 a0_6) := (blk_cell BK274.out 6).trans rfl
        have hcz20_7 : wr.cell? ⟨gb274, 7, none⟩ = some (.int .i64 a0_7) := (blk_cell BK274.out 7).trans rfl
        have hcz20_8 : wr.cell? ⟨gb274, 8, none⟩ = some (.bool a0_8) := (blk_cell BK274.out 8).trans rfl
        have hcz20_9 : wr.cell? ⟨gb274, 9, none⟩ = some (.int .i64 a0_9) := (blk_cell BK274.out 9).trans rfl
        have hcz20_10 : wr.cell? ⟨gb274, 10, none⟩ = some (.int .i64 a0_10) := (blk_cell BK274.out 10).trans rfl
        have hcz20_11 : wr.cell? ⟨gb274, 11, none⟩ = some (.int .i64 a0_11) := (blk_cell BK274.out 11).trans rfl
        have hfz20_0 := blk_frozen BK274.out 0
        have hfz20_1 := blk_frozen BK274.out 1
        have hfz20_2 := blk_frozen BK274.out 2
        have hfz20_3 := blk_frozen BK274.out 3
        have hfz20_4 := blk_frozen BK274.out 4
        have hfz20_5 := blk_frozen BK274.out 5
        have hfz20_6 := blk_frozen BK274.out 6
        have hfz20_7 := blk_frozen BK274.out 7
        have hfz20_8 := blk_frozen BK274.out 8
        have hfz20_9 := blk_frozen BK274.out 9
        have hfz20_10 := blk_frozen BK274.out 10
        have hfz20_11 := blk_frozen BK274.out 11
        go_wp2_with (first | ((with_reducible refine gate_callee (f := 14) rfl ?_); refine goesL_ (some 28) rfl rfl Try.func14 (by kernel_rfl) rfl #[.agg #[.int .i64 a0_0, .int .i64 a0_1, .int .i64 a0_2, .int .i64 a0_3, .int .i64 a0_4, .int .i64 a0_5, .int .i64 a0_6, .int .i64 a0_7, .bool a0_8, .int .i64 a0_9, .int .i64 a0_10, .int .i64 a0_11], .int .i64 x4_2] rfl (by (try simp only [List.map_toArray, List.map_cons, List.map_nil]); first | done | rfl | (simp only [List.length_drop, List.length_take]; rfl)) ?_; (with_reducible refine (arena_Cell.calls a0_0 a0_1 a0_2 a0_3 a0_4 a0_5 a0_6 a0_7 a0_8 a0_9 a0_10 a0_11 x4_2 t281 _ A18.out).mono ?_); rintro e w21 ⟨rfl, hb⟩; refine ⟨_, rfl, ?_⟩; have n0_ := Aside0.mk (Kd.R_below (by (with_reducible repeat (first | apply Kd.R_alloc | apply Kd.R_drewN | apply Kd.R_drew)); exact HO_3.out) hb); have n1_ := Aside0.mk (blk_below (g := gb274) (o := .cells #[.int .i64 a0_0, .int .i64 a0_1, .int .i64 a0_2, .int .i64 a0_3, .int .i64 a0_4, .int .i64 a0_5, .int .i64 a0_6, .int .i64 a0_7, .bool a0_8, .int .i64 a0_9, .int .i64 a0_10, .int .i64 a0_11] 23 (0, 0)) (by (with_reducible repeat first | refine blk_drewN ?_ _ | refine blk_drew ?_ | refine blk_alloc ?_ _); exact BK274.out) hb); have n2_ := Aside0.mk (below_step (by repeat (first | (with_reducible first | exact HB.out | apply below_alloc | apply pw_below_drewN | apply below_drew1 | refine below_set ?_ GE274.out) | exact HB.out)) hb); clear HO_3; clear BK274; clear HB; have HO_3 := n0_; have BK274 := n1_; have HB := n2_; clear n0_ n1_ n2_; (try clear hb); (try clear hb2); (try clear hk); (try clear hi)) | ((with_reducible refine gate_builtin (b := .append) (xs := #[.tmp 25, .tmp 29]) rfl ?_); at_builtin; refine Kd.R_append (Kd.int .i64) (w0 := w) w.heap.size rfl (.tmp 25) (.tmp 29) 36 3 (.int .i64 0) 8 rfl Try.underlying36 info3 rfl (by decide) (by omega) u3 x3_2 t281 [.int .i64 t281] (fun _ => True) (fun _ => False) rfl rfl ?aP (fun _ hk => hk.elim) ?aF ?aO ?aB ?aS ?aL ?_; (case aP => exact rfl); (case aB => exact (by repeat (first | (with_reducible first | exact HB.out | apply below_alloc | apply pw_below_drewN | apply below_drew1 | refine below_set ?_ GE274.out) | exact HB.out))); (case aF => exact (fun _ _ => trivial)); (case aO => exact (by (with_reducible repeat (first | apply Kd.R_alloc | apply Kd.R_drewN | apply Kd.R_drew)); exact HO_3.out)); (case aS => exact (below_size (by repeat (first | (with_reducible first | exact HB.out | apply below_alloc | apply pw_below_drewN | apply below_drew1 | refine below_set ?_ GE274.out) | exact HB.out)))); (case aL => have := LMc19.out; omega); intro v283 w22 ho hb hg hat; rw [← Ny282.out] at ho; have n0_ := Aside0.mk (blk_grown (g := gb274) (o := .cells #[.int .i64 a0_0, .int .i64 a0_1, .int .i64 a0_2, .int .i64 a0_3, .int .i64 a0_4, .int .i64 a0_5, .int .i64 a0_6, .int .i64 a0_7, .bool a0_8, .int .i64 a0_9, .int .i64 a0_10, .int .i64 a0_11] 23 (0, 0)) (by (with_reducible repeat first | refine blk_drewN ?_ _ | refine blk_drew ?_ | refine blk_alloc ?_ _); exact BK274.out) hg (Kd.R_ne HO_3.out BK274.out (by decide))); have n1_ := Aside0.mk (hb); have n2_ := Aside0.mk (ho); clear BK274; clear HB; clear HO_3; have BK274 := n0_; have HB := n1_; have HO284 := n2_; clear n0_ n1_ n2_; clear ho hb hg hat))
        go_loopg [3, 5] k2 (fun kq v3 v5 w' => ∃ (x3_3 : List Int) (x5_3 : Int), v5 = .int .i64 x5_3 ∧ Aside0 (millstreamlaw06_ArenaOnce.l1 kq x3_3 x4_2 x5_3 a0_0 a0_1 a0_2 a0_3 a0_4 a0_5 a0_6 a0_7 a0_8 a0_9 a0_10 a0_11 = some r) ∧ Aside0 (kq ≤ k2) ∧ Aside0 (Kd.R (Kd.int .i64) 3 w' w.heap.size (fun _ => True) v3 x3_3) ∧ Aside0 (w'.heap[gb274]? = some (.cells #[.int .i64 a0_0, .int .i64 a0_1, .int .i64 a0_2, .int .i64 a0_3, .int .i64 a0_4, .int .i64 a0_5, .int .i64 a0_6, .int .i64 a0_7, .bool a0_8, .int .i64 a0_9, .int .i64 a0_10, .int .i64 a0_11] 23 (0, 0))) ∧ Aside0 (Below w.heap.size w w'))
        case atStart => exact ⟨(y282), (1), (by first | rfl | (simp; done) | (simp [*]; done)), H', ⟨Nat.le_refl _⟩, ⟨by (with_reducible repeat (first | apply Kd.R_alloc | apply Kd.R_drewN | apply Kd.R_drew)); exact HO284.out⟩, ⟨by (with_reducible repeat first | refine blk_drewN ?_ _ | refine blk_drew ?_ | refine blk_alloc ?_ _); exact BK274.out⟩, ⟨by repeat (first | (with_reducible first | exact HB.out | apply below_alloc | apply pw_below_drewN | apply below_drew1 | refine below_set ?_ GE274.out) | exact HB.out)⟩⟩
        case round =>
         clear H'
         try clear c1
         try clear p2
         try clear c5
         try clear c8
         try clear c9
         try clear c12
         try clear c14
         try clear c17
         try clear c17b0
         try clear c19
         try clear hcz10_0
         try clear hcz10_1
         try clear hcz10_10
         try clear hcz10_11
         try clear hcz10_2
         try clear hcz10_3
         try clear hcz10_4
         try clear hcz10_5
         try clear hcz10_6
         try clear hcz10_7
         try clear hcz10_8
         try clear hcz10_9
         try clear hcz20_0
         try clear hcz20_1
         try clear hcz20_10
         try clear hcz20_11
         try clear hcz20_2
         try clear hcz20_3
         try clear hcz20_4
         try clear hcz20_5
         try clear hcz20_6
         try clear hcz20_7
         try clear hcz20_8
         try clear hcz20_9
         try clear hcz7_0
         try clear hcz7_1
         try clear hcz7_10
         try clear hcz7_11
         try clear hcz7_2
         try clear hcz7_3
         try clear hcz7_4
         try clear hcz7_5
         try clear hcz7_6
         try clear hcz7_7
         try clear hcz7_8
         try clear hcz7_9
         try clear hfz10_0
         try clear hfz10_1
         try clear hfz10_10
         try clear hfz10_11
         try clear hfz10_2
         try clear hfz10_3
         try clear hfz10_4
         try clear hfz10_5
         try clear hfz10_6
         try clear hfz10_7
         try clear hfz10_8
         try clear hfz10_9
         try clear hfz20_0
         try clear hfz20_1
         try clear hfz20_10
         try clear hfz20_11
         try clear hfz20_2
         try clear hfz20_3
         try clear hfz20_4
         try clear hfz20_5
         try clear hfz20_6
         try clear hfz20_7
         try clear hfz20_8
         try clear hfz20_9
         try clear hfz7_0
         try clear hfz7_1
         try clear hfz7_10
         try clear hfz7_11
         try clear hfz7_2
         try clear hfz7_3
         try clear hfz7_4
         try clear hfz7_5
         try clear hfz7_6
         try clear hfz7_7
         try clear hfz7_8
         try clear hfz7_9
         try clear p2
         obtain ⟨x3_3, x5_3, rfl, HA, HK3, HO_3, BK274, HB⟩ := hrel
         cases gk with
         | zero => exact absurd HA.out (by simp [millstreamlaw06_ArenaOnce.l1])
         | succ k3 =>
          have H := HA.out
          clear HA
          simp only [millstreamlaw06_ArenaOnce.l1] at H
          replace H := Option.bind_eq_some_iff.mp H
          obtain ⟨t285, A230, H⟩ := H
          replace H : (if x5_3 ≤ t285 then ((arena_Node.f a0_0 a0_1 a0_2 a0_3 a0_4 a0_5 a0_6 a0_7 a0_8 a0_9 a0_10 a0_11 x4_2 x5_3).bind fun t286 => (if x3_3.length < 17592186044416 then (millstreamlaw06_ArenaOnce.l1 k3 (x3_3 ++ [t286]) x4_2 (wrap64 (x5_3 + 1)) a0_0 a0_1 a0_2 a0_3 a0_4 a0_5 a0_6 a0_7 a0_8 a0_9 a0_10 a0_11) else (none))) else (millstreamlaw06_ArenaOnce.l2 k3 x3_3 x4_2 1 a0_0 a0_1 a0_2 a0_3 a0_4 a0_5 a0_6 a0_7 a0_8 a0_9 a0_10 a0_11)) = some r := H
          have A23 := Aside0.mk A230
          clear A230
          by_cases c24 : x5_3 ≤ t285
          ·rw [if_pos c24] at H
           have c24b0 : decide (x5_3 ≤ t285) = true := decide_eq_true c24
           clear c24
           replace H := Option.bind_eq_some_iff.mp H
           obtain ⟨t286, A250, H⟩ := H
           replace H : (if x3_3.length < 17592186044416 then (millstreamlaw06_ArenaOnce.l1 k3 (x3_3 ++ [t286]) x4_2 (wrap64 (x5_3 + 1)) a0_0 a0_1 a0_2 a0_3 a0_4 a0_5 a0_6 a0_7 a0_8 a0_9 a0_10 a0_11) else (none)) = some r := H
           have A25 := Aside0.mk A250
           clear A250
           by_cases c26 : x3_3.length < 17592186044416
           ·rw [if_pos c26] at H
            have LMc26 := Aside0.mk c26
            clear c26
            obtain ⟨y287, hy287⟩ : ∃ y_ : List Int, y_ = (x3_3 ++ [t286]) := ⟨_, rfl⟩
            replace H : (millstreamlaw06_ArenaOnce.l1 k3 y287 x4_2 (wrap64 (x5_3 + 1)) a0_0 a0_1 a0_2 a0_3 a0_4 a0_5 a0_6 a0_7 a0_8 a0_9 a0_10 a0_11) = some r := by first | (rw [hy287]; with_reducible exact H) | (have H2_ := (Option.bind_some _ _).symm.trans H; rw [hy287]; with_reducible exact H2_) | (have H2_ := (Option.bind_some _ _).symm.trans H; with_reducible exact H2_) | with_reducible exact H | (rw [hy287]; exact H) | exact H
            have Ny287 := Aside0.mk hy287
            clear hy287
            have H' := Aside0.mk H
            clear H
            have hcz27_0 : wr.cell? ⟨gb274, 0, none⟩ = some (.int .i64 a0_0) := (blk_cell BK274.out 0).trans rfl
            have hcz27_1 : wr.cell? ⟨gb274, 1, none⟩ = some (.int .i64 a0_1) := (blk_cell BK274.out 1).trans rfl
            have hcz27_2 : wr.cell? ⟨gb274, 2, none⟩ = some (.int .i64 a0_2) := (blk_cell BK274.out 2).trans rfl
            have hcz27_3 : wr.cell? ⟨gb274, 3, none⟩ = some (.int .i64 a0_3) := (blk_cell BK274.out 3).trans rfl
            have hcz27_4 : wr.cell? ⟨gb274, 4, none⟩ = some (.int .i64 a0_4) := (blk_cell BK274.out 4).trans rfl
            have hcz27_5 : wr.cell? ⟨gb274, 5, none⟩ = some (.int .i64 a0_5) := (blk_cell BK274.out 5).trans rfl
            have hcz27_6 : wr.cell? ⟨gb274, 6, none⟩ = some (.int .i64 a0_6) := (blk_cell BK274.out 6).trans rfl
            have hcz27_7 : wr.cell? ⟨gb274, 7, none⟩ = some (.int .i64 a0_7) := (blk_cell BK274.out 7).trans rfl
            have hcz27_8 : wr.cell? ⟨gb274, 8, none⟩ = some (.bool a0_8) := (blk_cell BK274.out 8).trans rfl
            have hcz27_9 : wr.cell? ⟨gb274, 9, none⟩ = some (.int .i64 a0_9) := (blk_cell BK274.out 9).trans rfl
            have hcz27_10 : wr.cell? ⟨gb274, 10, none⟩ = some (.int .i64 a0_10) := (blk_cell BK274.out 10).trans rfl
            have hcz27_11 : wr.cell? ⟨gb274, 11, none⟩ = some (.int .i64 a0_11) := (blk_cell BK274.out 11).trans rfl
            have hfz27_0 := blk_frozen BK274.out 0
            have hfz27_1 := blk_frozen BK274.out 1
            have hfz27_2 := blk_frozen BK274.out 2
            have hfz27_3 := blk_frozen BK274.out 3
            have hfz27_4 := blk_frozen BK274.out 4
            have hfz27_5 := blk_frozen BK274.out 5
            have hfz27_6 := blk_frozen BK274.out 6
            have hfz27_7 := blk_frozen BK274.out 7
            have hfz27_8 := blk_frozen BK274.out 8
            have hfz27_9 := blk_frozen BK274.out 9
            have hfz27_10 := blk_frozen BK274.out 10
            have hfz27_11 := blk_frozen BK274.out 11
            go_wp2_with (first | ((with_reducible refine gate_callee (f := 11) rfl ?_); refine goesL_ (some 33) rfl rfl Try.func11 (by kernel_rfl) rfl #[.agg #[.int .i64 a0_0, .int .i64 a0_1, .int .i64 a0_2, .int .i64 a0_3, .int .i64 a0_4, .int .i64 a0_5, .int .i64 a0_6, .int .i64 a0_7, .bool a0_8, .int .i64 a0_9, .int .i64 a0_10, .int .i64 a0_11]] rfl (by (try simp only [List.map_toArray, List.map_cons, List.map_nil]); first | done | rfl | (simp only [List.length_drop, List.length_take]; rfl)) ?_; (with_reducible refine (millstreamref06_Nodes.calls k3 a0_0 a0_1 a0_2 a0_3 a0_4 a0_5 a0_6 a0_7 a0_8 a0_9 a0_10 a0_11 t285 _ A23.out).mono ?_); rintro e w28 ⟨rfl, hb⟩; refine ⟨_, rfl, ?_⟩; have n0_ := Aside0.mk (Kd.R_below (by (with_reducible repeat (first | apply Kd.R_alloc | apply Kd.R_drewN | apply Kd.R_drew)); exact HO_3.out) hb); have n1_ := Aside0.mk (blk_below (g := gb274) (o := .cells #[.int .i64 a0_0, .int .i64 a0_1, .int .i64 a0_2, .int .i64 a0_3, .int .i64 a0_4, .int .i64 a0_5, .int .i64 a0_6, .int .i64 a0_7, .bool a0_8, .int .i64 a0_9, .int .i64 a0_10, .int .i64 a0_11] 23 (0, 0)) (by (with_reducible repeat first | refine blk_drewN ?_ _ | refine blk_drew ?_ | refine blk_alloc ?_ _); exact BK274.out) hb); have n2_ := Aside0.mk (below_step (by repeat (first | (with_reducible first | exact HB.out | apply below_alloc | apply pw_below_drewN | apply below_drew1 | refine below_set ?_ GE274.out) | exact HB.out)) hb); clear HO_3; clear BK274; clear HB; have HO_3 := n0_; have BK274 := n1_; have HB := n2_; clear n0_ n1_ n2_; (try clear hb); (try clear hb2); (try clear hk); (try clear hi); have hcz29_0 : w28.cell? ⟨gb274, 0, none⟩ = some (.int .i64 a0_0) := (blk_cell BK274.out 0).trans rfl; have hcz29_1 : w28.cell? ⟨gb274, 1, none⟩ = some (.int .i64 a0_1) := (blk_cell BK274.out 1).trans rfl; have hcz29_2 : w28.cell? ⟨gb274, 2, none⟩ = some (.int .i64 a0_2) := (blk_cell BK274.out 2).trans rfl; have hcz29_3 : w28.cell? ⟨gb274, 3, none⟩ = some (.int .i64 a0_3) := (blk_cell BK274.out 3).trans rfl; have hcz29_4 : w28.cell? ⟨gb274, 4, none⟩ = some (.int .i64 a0_4) := (blk_cell BK274.out 4).trans rfl; have hcz29_5 : w28.cell? ⟨gb274, 5, none⟩ = some (.int .i64 a0_5) := (blk_cell BK274.out 5).trans rfl; have hcz29_6 : w28.cell? ⟨gb274, 6, none⟩ = some (.int .i64 a0_6) := (blk_cell BK274.out 6).trans rfl; have hcz29_7 : w28.cell? ⟨gb274, 7, none⟩ = some (.int .i64 a0_7) := (blk_cell BK274.out 7).trans rfl; have hcz29_8 : w28.cell? ⟨gb274, 8, none⟩ = some (.bool a0_8) := (blk_cell BK274.out 8).trans rfl; have hcz29_9 : w28.cell? ⟨gb274, 9, none⟩ = some (.int .i64 a0_9) := (blk_cell BK274.out 9).trans rfl; have hcz29_10 : w28.cell? ⟨gb274, 10, none⟩ = some (.int .i64 a0_10) := (blk_cell BK274.out 10).trans rfl; have hcz29_11 : w28.cell? ⟨gb274, 11, none⟩ = some (.int .i64 a0_11) := (blk_cell BK274.out 11).trans rfl; have hfz29_0 := blk_frozen BK274.out 0; have hfz29_1 := blk_frozen BK274.out 1; have hfz29_2 := blk_frozen BK274.out 2; have hfz29_3 := blk_frozen BK274.out 3; have hfz29_4 := blk_frozen BK274.out 4; have hfz29_5 := blk_frozen BK274.out 5; have hfz29_6 := blk_frozen BK274.out 6; have hfz29_7 := blk_frozen BK274.out 7; have hfz29_8 := blk_frozen BK274.out 8; have hfz29_9 := blk_frozen BK274.out 9; have hfz29_10 := blk_frozen BK274.out 10; have hfz29_11 := blk_frozen BK274.out 11) | ((with_reducible refine gate_callee (f := 16) rfl ?_); refine goesL_ (some 41) rfl rfl Try.func16 (by kernel_rfl) rfl #[.agg #[.int .i64 a0_0, .int .i64 a0_1, .int .i64 a0_2, .int .i64 a0_3, .int .i64 a0_4, .int .i64 a0_5, .int .i64 a0_6, .int .i64 a0_7, .bool a0_8, .int .i64 a0_9, .int .i64 a0_10, .int .i64 a0_11], .int .i64 x4_2, .int .i64 x5_3] rfl (by (try simp only [List.map_toArray, List.map_cons, List.map_nil]); first | done | rfl | (simp only [List.length_drop, List.length_take]; rfl)) ?_; (with_reducible refine (arena_Node.calls a0_0 a0_1 a0_2 a0_3 a0_4 a0_5 a0_6 a0_7 a0_8 a0_9 a0_10 a0_11 x4_2 x5_3 t286 _ A25.out).mono ?_); rintro e w30 ⟨rfl, hb⟩; refine ⟨_, rfl, ?_⟩; have n0_ := Aside0.mk (Kd.R_below (by (with_reducible repeat (first | apply Kd.R_alloc | apply Kd.R_drewN | apply Kd.R_drew)); exact HO_3.out) hb); have n1_ := Aside0.mk (blk_below (g := gb274) (o := .cells #[.int .i64 a0_0, .int .i64 a0_1, .int .i64 a0_2, .int .i64 a0_3, .int .i64 a0_4, .int .i64 a0_5, .int .i64 a0_6, .int .i64 a0_7, .bool a0_8, .int .i64 a0_9, .int .i64 a0_10, .int .i64 a0_11] 23 (0, 0)) (by (with_reducible repeat first | refine blk_drewN ?_ _ | refine blk_drew ?_ | refine blk_alloc ?_ _); exact BK274.out) hb); have n2_ := Aside0.mk (below_step (by repeat (first | (with_reducible first | exact HB.out | apply below_alloc | apply pw_below_drewN | apply below_drew1 | refine below_set ?_ GE274.out) | exact HB.out)) hb); clear HO_3; clear BK274; clear HB; have HO_3 := n0_; have BK274 := n1_; have HB := n2_; clear n0_ n1_ n2_; (try clear hb); (try clear hb2); (try clear hk); (try clear hi)) | ((with_reducible refine gate_builtin (b := .append) (xs := #[.tmp 37, .tmp 42]) rfl ?_); at_builtin; refine Kd.R_append (Kd.int .i64) (w0 := w) w.heap.size rfl (.tmp 37) (.tmp 42) 36 3 (.int .i64 0) 8 rfl Try.underlying36 info3 rfl (by decide) (by omega) u3 x3_3 t286 [.int .i64 t286] (fun _ => True) (fun _ => False) rfl rfl ?aP (fun _ hk => hk.elim) ?aF ?aO ?aB ?aS ?aL ?_; (case aP => exact rfl); (case aB => exact (by repeat (first | (with_reducible first | exact HB.out | apply below_alloc | apply pw_below_drewN | apply below_drew1 | refine below_set ?_ GE274.out) | exact HB.out))); (case aF => exact (fun _ _ => trivial)); (case aO => exact (by (with_reducible repeat (first | apply Kd.R_alloc | apply Kd.R_drewN | apply Kd.R_drew)); exact HO_3.out)); (case aS => exact (below_size (by repeat (first | (with_reducible first | exact HB.out | apply below_alloc | apply pw_below_drewN | apply below_drew1 | refine below_set ?_ GE274.out) | exact HB.out)))); (case aL => have := LMc26.out; omega); intro v288 w31 ho hb hg hat; rw [← Ny287.out] at ho; have n0_ := Aside0.mk (blk_grown (g := gb274) (o := .cells #[.int .i64 a0_0, .int .i64 a0_1, .int .i64 a0_2, .int .i64 a0_3, .int .i64 a0_4, .int .i64 a0_5, .int .i64 a0_6, .int .i64 a0_7, .bool a0_8, .int .i64 a0_9, .int .i64 a0_10, .int .i64 a0_11] 23 (0, 0)) (by (with_reducible repeat first | refine blk_drewN ?_ _ | refine blk_drew ?_ | refine blk_alloc ?_ _); exact BK274.out) hg (Kd.R_ne HO_3.out BK274.out (by decide))); have n1_ := Aside0.mk (hb); have n2_ := Aside0.mk (ho); clear BK274; clear HB; clear HO_3; have BK274 := n0_; have HB := n1_; have HO289 := n2_; clear n0_ n1_ n2_; clear ho hb hg hat))
            go_roundg k3
            case measure => have := HJ1.out; have := HK2.out; have := HK3.out; omega
            case rel => exact ⟨(y287), (wrap64 (x5_3 + 1)), (by first | rfl | (simp; done) | (simp [*]; done)), H', ⟨by have := HJ1.out; have := HK2.out; have := HK3.out; omega⟩, ⟨by (with_reducible repeat (first | apply Kd.R_alloc | apply Kd.R_drewN | apply Kd.R_drew)); exact HO289.out⟩, ⟨by (with_reducible repeat first | refine blk_drewN ?_ _ | refine blk_drew ?_ | refine blk_alloc ?_ _); exact BK274.out⟩, ⟨by repeat (first | (with_reducible first | exact HB.out | apply below_alloc | apply pw_below_drewN | apply below_drew1 | refine below_set ?_ GE274.out) | exact HB.out)⟩⟩
           ·rw [if_neg c26] at H
            exact absurd H (by simp)
          ·rw [if_neg c24] at H
           have c24b0 : decide (x5_3 ≤ t285) = false := decide_eq_false c24
           clear c24
           have H' := Aside0.mk H
           clear H
           have hcz32_0 : wr.cell? ⟨gb274, 0, none⟩ = some (.int .i64 a0_0) := (blk_cell BK274.out 0).trans rfl
           have hcz32_1 : wr.cell? ⟨gb274, 1, none⟩ = some (.int .i64 a0_1) := (blk_cell BK274.out 1).trans rfl
           have hcz32_2 : wr.cell? ⟨gb274, 2, none⟩ = some (.int .i64 a0_2) := (blk_cell BK274.out 2).trans rfl
           have hcz32_3 : wr.cell? ⟨gb274, 3, none⟩ = some (.int .i64 a0_3) := (blk_cell BK274.out 3).trans rfl
           have hcz32_4 : wr.cell? ⟨gb274, 4, none⟩ = some (.int .i64 a0_4) := (blk_cell BK274.out 4).trans rfl
           have hcz32_5 : wr.cell? ⟨gb274, 5, none⟩ = some (.int .i64 a0_5) := (blk_cell BK274.out 5).trans rfl
           have hcz32_6 : wr.cell? ⟨gb274, 6, none⟩ = some (.int .i64 a0_6) := (blk_cell BK274.out 6).trans rfl
           have hcz32_7 : wr.cell? ⟨gb274, 7, none⟩ = some (.int .i64 a0_7) := (blk_cell BK274.out 7).trans rfl
           have hcz32_8 : wr.cell? ⟨gb274, 8, none⟩ = some (.bool a0_8) := (blk_cell BK274.out 8).trans rfl
           have hcz32_9 : wr.cell? ⟨gb274, 9, none⟩ = some (.int .i64 a0_9) := (blk_cell BK274.out 9).trans rfl
           have hcz32_10 : wr.cell? ⟨gb274, 10, none⟩ = some (.int .i64 a0_10) := (blk_cell BK274.out 10).trans rfl
           have hcz32_11 : wr.cell? ⟨gb274, 11, none⟩ = some (.int .i64 a0_11) := (blk_cell BK274.out 11).trans rfl
           have hfz32_0 := blk_frozen BK274.out 0
           have hfz32_1 := blk_frozen BK274.out 1
           have hfz32_2 := blk_frozen BK274.out 2
           have hfz32_3 := blk_frozen BK274.out 3
           have hfz32_4 := blk_frozen BK274.out 4
           have hfz32_5 := blk_frozen BK274.out 5
           have hfz32_6 := blk_frozen BK274.out 6
           have hfz32_7 := blk_frozen BK274.out 7
           have hfz32_8 := blk_frozen BK274.out 8
           have hfz32_9 := blk_frozen BK274.out 9
           have hfz32_10 := blk_frozen BK274.out 10
           have hfz32_11 := blk_frozen BK274.out 11
           go_wp2_with (first | ((with_reducible refine gate_callee (f := 11) rfl ?_); refine goesL_ (some 33) rfl rfl Try.func11 (by kernel_rfl) rfl #[.agg #[.int .i64 a0_0, .int .i64 a0_1, .int .i64 a0_2, .int .i64 a0_3, .int .i64 a0_4, .int .i64 a0_5, .int .i64 a0_6, .int .i64 a0_7, .bool a0_8, .int .i64 a0_9, .int .i64 a0_10, .int .i64 a0_11]] rfl (by (try simp only [List.map_toArray, List.map_cons, List.map_nil]); first | done | rfl | (simp only [List.length_drop, List.length_take]; rfl)) ?_; (with_reducible refine (millstreamref06_Nodes.calls k3 a0_0 a0_1 a0_2 a0_3 a0_4 a0_5 a0_6 a0_7 a0_8 a0_9 a0_10 a0_11 t285 _ A23.out).mono ?_); rintro e w33 ⟨rfl, hb⟩; refine ⟨_, rfl, ?_⟩; have n0_ := Aside0.mk (Kd.R_below (by (with_reducible repeat (first | apply Kd.R_alloc | apply Kd.R_drewN | apply Kd.R_drew)); exact HO_3.out) hb); have n1_ := Aside0.mk (blk_below (g := gb274) (o := .cells #[.int .i64 a0_0, .int .i64 a0_1, .int .i64 a0_2, .int .i64 a0_3, .int .i64 a0_4, .int .i64 a0_5, .int .i64 a0_6, .int .i64 a0_7, .bool a0_8, .int .i64 a0_9, .int .i64 a0_10, .int .i64 a0_11] 23 (0, 0)) (by (with_reducible repeat first | refine blk_drewN ?_ _ | refine blk_drew ?_ | refine blk_alloc ?_ _); exact BK274.out) hb); have n2_ := Aside0.mk (below_step (by repeat (first | (with_reducible first | exact HB.out | apply below_alloc | apply pw_below_drewN | apply below_drew1 | refine below_set ?_ GE274.out) | exact HB.out)) hb); clear HO_3; clear BK274; clear HB; have HO_3 := n0_; have BK274 := n1_; have HB := n2_; clear n0_ n1_ n2_; (try clear hb); (try clear hb2); (try clear hk); (try clear hi)))
           go_loopg [3, 6] k3 (fun kq v3 v6 w' => ∃ (x3_4 : List Int) (x6_4 : Int), v6 = .int .i64 x6_4 ∧ Aside0 (millstreamlaw06_ArenaOnce.l2 kq x3_4 x4_2 x6_4 a0_0 a0_1 a0_2 a0_3 a0_4 a0_5 a0_6 a0_7 a0_8 a0_9 a0_10 a0_11 = some r) ∧ Aside0 (kq ≤ k3) ∧ Aside0 (Kd.R (Kd.int .i64) 3 w' w.heap.size (fun _ => True) v3 x3_4) ∧ Aside0 (w'.heap[gb274]? = some (.cells #[.int .i64 a0_0, .int .i64 a0_1, .int .i64 a0_2, .int .i64 a0_3, .int .i64 a0_4, .int .i64 a0_5, .int .i64 a0_6, .int .i64 a0_7, .bool a0_8, .int .i64 a0_9, .int .i64 a0_10, .int .i64 a0_11] 23 (0, 0))) ∧ Aside0 (Below w.heap.size w w'))
           case atStart => exact ⟨(x3_3), (1), (by first | rfl | (simp; done) | (simp [*]; done)), H', ⟨Nat.le_refl _⟩, ⟨by (with_reducible repeat (first | apply Kd.R_alloc | apply Kd.R_drewN | apply Kd.R_drew)); exact HO_3.out⟩, ⟨by (with_reducible repeat first | refine blk_drewN ?_ _ | refine blk_drew ?_ | refine blk_alloc ?_ _); exact BK274.out⟩, ⟨by repeat (first | (with_reducible first | exact HB.out | apply below_alloc | apply pw_below_drewN | apply below_drew1 | refine below_set ?_ GE274.out) | exact HB.out)⟩⟩
           case round =>
            clear H'
            try clear c1
            try clear c2
            try clear p2
            try clear c5
            try clear p6
            try clear c8
            try clear c9
            try clear c11
            try clear c12
            try clear c14
            try clear c16
            try clear c17
            try clear c17b0
            try clear c19
            try clear c24
            try clear c24b0
            try clear c26
            try clear hcz10_0
            try clear hcz10_1
            try clear hcz10_10
            try clear hcz10_11
            try clear hcz10_2
            try clear hcz10_3
            try clear hcz10_4
            try clear hcz10_5
            try clear hcz10_6
            try clear hcz10_7
            try clear hcz10_8
            try clear hcz10_9
            try clear hcz20_0
            try clear hcz20_1
            try clear hcz20_10
            try clear hcz20_11
            try clear hcz20_2
            try clear hcz20_3
            try clear hcz20_4
            try clear hcz20_5
            try clear hcz20_6
            try clear hcz20_7
            try clear hcz20_8
            try clear hcz20_9
            try clear hcz27_0
            try clear hcz27_1
            try clear hcz27_10
            try clear hcz27_11
            try clear hcz27_2
            try clear hcz27_3
            try clear hcz27_4
            try clear hcz27_5
            try clear hcz27_6
            try clear hcz27_7
            try clear hcz27_8
            try clear hcz27_9
            try clear hcz29_0
            try clear hcz29_1
            try clear hcz29_10
            try clear hcz29_11
            try clear hcz29_2
            try clear hcz29_3
            try clear hcz29_4
            try clear hcz29_5
            try clear hcz29_6
            try clear hcz29_7
            try clear hcz29_8
            try clear hcz29_9
            try clear hcz32_0
            try clear hcz32_1
            try clear hcz32_10
            try clear hcz32_11
            try clear hcz32_2
            try clear hcz32_3
            try clear hcz32_4
            try clear hcz32_5
            try clear hcz32_6
            try clear hcz32_7
            try clear hcz32_8
            try clear hcz32_9
            try clear hcz7_0
            try clear hcz7_1
            try clear hcz7_10
            try clear hcz7_11
            try clear hcz7_2
            try clear hcz7_3
            try clear hcz7_4
            try clear hcz7_5
            try clear hcz7_6
            try clear hcz7_7
            try clear hcz7_8
            try clear hcz7_9
            try clear hfz10_0
            try clear hfz10_1
            try clear hfz10_10
            try clear hfz10_11
            try clear hfz10_2
            try clear hfz10_3
            try clear hfz10_4
            try clear hfz10_5
            try clear hfz10_6
            try clear hfz10_7
            try clear hfz10_8
            try clear hfz10_9
            try clear hfz20_0
            try clear hfz20_1
            try clear hfz20_10
            try clear hfz20_11
            try clear hfz20_2
            try clear hfz20_3
            try clear hfz20_4
            try clear hfz20_5
            try clear hfz20_6
            try clear hfz20_7
            try clear hfz20_8
            try clear hfz20_9
            try clear hfz27_0
            try clear hfz27_1
            try clear hfz27_10
            try clear hfz27_11
            try clear hfz27_2
            try clear hfz27_3
            try clear hfz27_4
            try clear hfz27_5
            try clear hfz27_6
            try clear hfz27_7
            try clear hfz27_8
            try clear hfz27_9
            try clear hfz29_0
            try clear hfz29_1
            try clear hfz29_10
            try clear hfz29_11
            try clear hfz29_2
            try clear hfz29_3
            try clear hfz29_4
            try clear hfz29_5
            try clear hfz29_6
            try clear hfz29_7
            try clear hfz29_8
            try clear hfz29_9
            try clear hfz32_0
            try clear hfz32_1
            try clear hfz32_10
            try clear hfz32_11
            try clear hfz32_2
            try clear hfz32_3
            try clear hfz32_4
            try clear hfz32_5
            try clear hfz32_6
            try clear hfz32_7
            try clear hfz32_8
            try clear hfz32_9
            try clear hfz7_0
            try clear hfz7_1
            try clear hfz7_10
            try clear hfz7_11
            try clear hfz7_2
            try clear hfz7_3
            try clear hfz7_4
            try clear hfz7_5
            try clear hfz7_6
            try clear hfz7_7
            try clear hfz7_8
            try clear hfz7_9
            try clear p2
            obtain ⟨x3_4, x6_4, rfl, HA, HK4, HO_3, BK274, HB⟩ := hrel
            cases gk with
            | zero => exact absurd HA.out (by simp [millstreamlaw06_ArenaOnce.l2])
            | succ k4 =>
             have H := HA.out
             clear HA
             simp only [millstreamlaw06_ArenaOnce.l2] at H
             by_cases c34 : x6_4 ≤ a0_4
             ·rw [if_pos c34] at H
              have c34b0 : decide (x6_4 ≤ a0_4) = true := decide_eq_true c34
              clear c34
              have H' := Aside0.mk H
              clear H
              have hcz35_0 : wr.cell? ⟨gb274, 0, none⟩ = some (.int .i64 a0_0) := (blk_cell BK274.out 0).trans rfl
              have hcz35_1 : wr.cell? ⟨gb274, 1, none⟩ = some (.int .i64 a0_1) := (blk_cell BK274.out 1).trans rfl
              have hcz35_2 : wr.cell? ⟨gb274, 2, none⟩ = some (.int .i64 a0_2) := (blk_cell BK274.out 2).trans rfl
              have hcz35_3 : wr.cell? ⟨gb274, 3, none⟩ = some (.int .i64 a0_3) := (blk_cell BK274.out 3).trans rfl
              have hcz35_4 : wr.cell? ⟨gb274, 4, none⟩ = some (.int .i64 a0_4) := (blk_cell BK274.out 4).trans rfl
              have hcz35_5 : wr.cell? ⟨gb274, 5, none⟩ = some (.int .i64 a0_5) := (blk_cell BK274.out 5).trans rfl
              have hcz35_6 : wr.cell? ⟨gb274, 6, none⟩ = some (.int .i64 a0_6) := (blk_cell BK274.out 6).trans rfl
              have hcz35_7 : wr.cell? ⟨gb274, 7, none⟩ = some (.int .i64 a0_7) := (blk_cell BK274.out 7).trans rfl
              have hcz35_8 : wr.cell? ⟨gb274, 8, none⟩ = some (.bool a0_8) := (blk_cell BK274.out 8).trans rfl
              have hcz35_9 : wr.cell? ⟨gb274, 9, none⟩ = some (.int .i64 a0_9) := (blk_cell BK274.out 9).trans rfl
              have hcz35_10 : wr.cell? ⟨gb274, 10, none⟩ = some (.int .i64 a0_10) := (blk_cell BK274.out 10).trans rfl
              have hcz35_11 : wr.cell? ⟨gb274, 11, none⟩ = some (.int .i64 a0_11) := (blk_cell BK274.out 11).trans rfl
              have hfz35_0 := blk_frozen BK274.out 0
              have hfz35_1 := blk_frozen BK274.out 1
              have hfz35_2 := blk_frozen BK274.out 2
              have hfz35_3 := blk_frozen BK274.out 3
              have hfz35_4 := blk_frozen BK274.out 4
              have hfz35_5 := blk_frozen BK274.out 5
              have hfz35_6 := blk_frozen BK274.out 6
              have hfz35_7 := blk_frozen BK274.out 7
              have hfz35_8 := blk_frozen BK274.out 8
              have hfz35_9 := blk_frozen BK274.out 9
              have hfz35_10 := blk_frozen BK274.out 10
              have hfz35_11 := blk_frozen BK274.out 11
              go_wp2
              go_loopg [3, 7] k4 (fun kq v3 v7 w' => ∃ (x3_5 : List Int) (x7_5 : Int), v7 = .int .i64 x7_5 ∧ Aside0 (millstreamlaw06_ArenaOnce.l3 kq x3_5 x4_2 x6_4 x7_5 a0_0 a0_1 a0_2 a0_3 a0_4 a0_5 a0_6 a0_7 a0_8 a0_9 a0_10 a0_11 = some r) ∧ Aside0 (kq ≤ k4) ∧ Aside0 (Kd.R (Kd.int .i64) 3 w' w.heap.size (fun _ => True) v3 x3_5) ∧ Aside0 (w'.heap[gb274]? = some (.cells #[.int .i64 a0_0, .int .i64 a0_1, .int .i64 a0_2, .int .i64 a0_3, .int .i64 a0_4, .int .i64 a0_5, .int .i64 a0_6, .int .i64 a0_7, .bool a0_8, .int .i64 a0_9, .int .i64 a0_10, .int .i64 a0_11] 23 (0, 0))) ∧ Aside0 (Below w.heap.size w w'))
              case atStart => exact ⟨(x3_4), (0), (by first | rfl | (simp; done) | (simp [*]; done)), H', ⟨Nat.le_refl _⟩, ⟨by (with_reducible repeat (first | apply Kd.R_alloc | apply Kd.R_drewN | apply Kd.R_drew)); exact HO_3.out⟩, ⟨by (with_reducible repeat first | refine blk_drewN ?_ _ | refine blk_drew ?_ | refine blk_alloc ?_ _); exact BK274.out⟩, ⟨by repeat (first | (with_reducible first | exact HB.out | apply below_alloc | apply pw_below_drewN | apply below_drew1 | refine below_set ?_ GE274.out) | exact HB.out)⟩⟩
              case round =>
               clear H'
               try clear c1
               try clear c2
               try clear p2
               try clear c3
               try clear c5
               try clear p6
               try clear c8
               try clear c9
               try clear c11
               try clear c12
               try clear c14
               try clear c16
               try clear c17
               try clear c17b0
               try clear c19
               try clear c24
               try clear c24b0
               try clear c26
               try clear c34
               try clear c34b0
               try clear hcz10_0
               try clear hcz10_1
               try clear hcz10_10
               try clear hcz10_11
               try clear hcz10_2
               try clear hcz10_3
               try clear hcz10_4
               try clear hcz10_5
               try clear hcz10_6
               try clear hcz10_7
               try clear hcz10_8
               try clear hcz10_9
               try clear hcz20_0
               try clear hcz20_1
               try clear hcz20_10
               try clear hcz20_11
               try clear hcz20_2
               try clear hcz20_3
               try clear hcz20_4
               try clear hcz20_5
               try clear hcz20_6
               try clear hcz20_7
               try clear hcz20_8
               try clear hcz20_9
               try clear hcz27_0
               try clear hcz27_1
               try clear hcz27_10
               try clear hcz27_11
               try clear hcz27_2
               try clear hcz27_3
               try clear hcz27_4
               try clear hcz27_5
               try clear hcz27_6
               try clear hcz27_7
               try clear hcz27_8
               try clear hcz27_9
               try clear hcz29_0
               try clear hcz29_1
               try clear hcz29_10
               try clear hcz29_11
               try clear hcz29_2
               try clear hcz29_3
               try clear hcz29_4
               try clear hcz29_5
               try clear hcz29_6
               try clear hcz29_7
               try clear hcz29_8
               try clear hcz29_9
               try clear hcz32_0
               try clear hcz32_1
               try clear hcz32_10
               try clear hcz32_11
               try clear hcz32_2
               try clear hcz32_3
               try clear hcz32_4
               try clear hcz32_5
               try clear hcz32_6
               try clear hcz32_7
               try clear hcz32_8
               try clear hcz32_9
               try clear hcz35_0
               try clear hcz35_1
               try clear hcz35_10
               try clear hcz35_11
               try clear hcz35_2
               try clear hcz35_3
               try clear hcz35_4
               try clear hcz35_5
               try clear hcz35_6
               try clear hcz35_7
               try clear hcz35_8
               try clear hcz35_9
               try clear hcz7_0
               try clear hcz7_1
               try clear hcz7_10
               try clear hcz7_11
               try clear hcz7_2
               try clear hcz7_3
               try clear hcz7_4
               try clear hcz7_5
               try clear hcz7_6
               try clear hcz7_7
               try clear hcz7_8
               try clear hcz7_9
               try clear hfz10_0
               try clear hfz10_1
               try clear hfz10_10
               try clear hfz10_11
               try clear hfz10_2
               try clear hfz10_3
               try clear hfz10_4
               try clear hfz10_5
               try clear hfz10_6
               try clear hfz10_7
               try clear hfz10_8
               try clear hfz10_9
               try clear hfz20_0
               try clear hfz20_1
               try clear hfz20_10
               try clear hfz20_11
               try clear hfz20_2
               try clear hfz20_3
               try clear hfz20_4
               try clear hfz20_5
               try clear hfz20_6
               try clear hfz20_7
               try clear hfz20_8
               try clear hfz20_9
               try clear hfz27_0
               try clear hfz27_1
               try clear hfz27_10
               try clear hfz27_11
               try clear hfz27_2
               try clear hfz27_3
               try clear hfz27_4
               try clear hfz27_5
               try clear hfz27_6
               try clear hfz27_7
               try clear hfz27_8
               try clear hfz27_9
               try clear hfz29_0
               try clear hfz29_1
               try clear hfz29_10
               try clear hfz29_11
               try clear hfz29_2
               try clear hfz29_3
               try clear hfz29_4
               try clear hfz29_5
               try clear hfz29_6
               try clear hfz29_7
               try clear hfz29_8
               try clear hfz29_9
               try clear hfz32_0
               try clear hfz32_1
               try clear hfz32_10
               try clear hfz32_11
               try clear hfz32_2
               try clear hfz32_3
               try clear hfz32_4
               try clear hfz32_5
               try clear hfz32_6
               try clear hfz32_7
               try clear hfz32_8
               try clear hfz32_9
               try clear hfz35_0
               try clear hfz35_1
               try clear hfz35_10
               try clear hfz35_11
               try clear hfz35_2
               try clear hfz35_3
               try clear hfz35_4
               try clear hfz35_5
               try clear hfz35_6
               try clear hfz35_7
               try clear hfz35_8
               try clear hfz35_9
               try clear hfz7_0
               try clear hfz7_1
               try clear hfz7_10
               try clear hfz7_11
               try clear hfz7_2
               try clear hfz7_3
               try clear hfz7_4
               try clear hfz7_5
               try clear hfz7_6
               try clear hfz7_7
               try clear hfz7_8
               try clear hfz7_9
               try clear p2
               try clear p6
               obtain ⟨x3_5, x7_5, rfl, HA, HK5, HO_3, BK274, HB⟩ := hrel
               cases gk with
               | zero => exact absurd HA.out (by simp [millstreamlaw06_ArenaOnce.l3])
               | succ k5 =>
                have H := HA.out
                clear HA
                simp only [millstreamlaw06_ArenaOnce.l3] at H
                by_cases c36 : x7_5 < a0_5
                ·rw [if_pos c36] at H
                 have c36b0 : decide (x7_5 < a0_5) = true := decide_eq_true c36
                 clear c36
                 replace H := Option.bind_eq_some_iff.mp H
                 obtain ⟨t290, A370, H⟩ := H
                 replace H : (if x3_5.length < 17592186044416 then (millstreamlaw06_ArenaOnce.l3 k5 (x3_5 ++ [t290]) x4_2 x6_4 (wrap64 (x7_5 + 1)) a0_0 a0_1 a0_2 a0_3 a0_4 a0_5 a0_6 a0_7 a0_8 a0_9 a0_10 a0_11) else (none)) = some r := H
                 have A37 := Aside0.mk A370
                 clear A370
                 by_cases c38 : x3_5.length < 17592186044416
                 ·rw [if_pos c38] at H
                  have LMc38 := Aside0.mk c38
                  clear c38
                  obtain ⟨y291, hy291⟩ : ∃ y_ : List Int, y_ = (x3_5 ++ [t290]) := ⟨_, rfl⟩
                  replace H : (millstreamlaw06_ArenaOnce.l3 k5 y291 x4_2 x6_4 (wrap64 (x7_5 + 1)) a0_0 a0_1 a0_2 a0_3 a0_4 a0_5 a0_6 a0_7 a0_8 a0_9 a0_10 a0_11) = some r := by first | (rw [hy291]; with_reducible exact H) | (have H2_ := (Option.bind_some _ _).symm.trans H; rw [hy291]; with_reducible exact H2_) | (have H2_ := (Option.bind_some _ _).symm.trans H; with_reducible exact H2_) | with_reducible exact H | (rw [hy291]; exact H) | exact H
                  have Ny291 := Aside0.mk hy291
                  clear hy291
                  have H' := Aside0.mk H
                  clear H
                  have hcz39_0 : wr.cell? ⟨gb274, 0, none⟩ = some (.int .i64 a0_0) := (blk_cell BK274.out 0).trans rfl
                  have hcz39_1 : wr.cell? ⟨gb274, 1, none⟩ = some (.int .i64 a0_1) := (blk_cell BK274.out 1).trans rfl
                  have hcz39_2 : wr.cell? ⟨gb274, 2, none⟩ = some (.int .i64 a0_2) := (blk_cell BK274.out 2).trans rfl
                  have hcz39_3 : wr.cell? ⟨gb274, 3, none⟩ = some (.int .i64 a0_3) := (blk_cell BK274.out 3).trans rfl
                  have hcz39_4 : wr.cell? ⟨gb274, 4, none⟩ = some (.int .i64 a0_4) := (blk_cell BK274.out 4).trans rfl
                  have hcz39_5 : wr.cell? ⟨gb274, 5, none⟩ = some (.int .i64 a0_5) := (blk_cell BK274.out 5).trans rfl
                  have hcz39_6 : wr.cell? ⟨gb274, 6, none⟩ = some (.int .i64 a0_6) := (blk_cell BK274.out 6).trans rfl
                  have hcz39_7 : wr.cell? ⟨gb274, 7, none⟩ = some (.int .i64 a0_7) := (blk_cell BK274.out 7).trans rfl
                  have hcz39_8 : wr.cell? ⟨gb274, 8, none⟩ = some (.bool a0_8) := (blk_cell BK274.out 8).trans rfl
                  have hcz39_9 : wr.cell? ⟨gb274, 9, none⟩ = some (.int .i64 a0_9) := (blk_cell BK274.out 9).trans rfl
                  have hcz39_10 : wr.cell? ⟨gb274, 10, none⟩ = some (.int .i64 a0_10) := (blk_cell BK274.out 10).trans rfl
                  have hcz39_11 : wr.cell? ⟨gb274, 11, none⟩ = some (.int .i64 a0_11) := (blk_cell BK274.out 11).trans rfl
                  have hfz39_0 := blk_frozen BK274.out 0
                  have hfz39_1 := blk_frozen BK274.out 1
                  have hfz39_2 := blk_frozen BK274.out 2
                  have hfz39_3 := blk_frozen BK274.out 3
                  have hfz39_4 := blk_frozen BK274.out 4
                  have hfz39_5 := blk_frozen BK274.out 5
                  have hfz39_6 := blk_frozen BK274.out 6
                  have hfz39_7 := blk_frozen BK274.out 7
                  have hfz39_8 := blk_frozen BK274.out 8
                  have hfz39_9 := blk_frozen BK274.out 9
                  have hfz39_10 := blk_frozen BK274.out 10
                  have hfz39_11 := blk_frozen BK274.out 11
                  go_wp2_with (first | ((with_reducible refine gate_callee (f := 18) rfl ?_); refine goesL_ (some 61) rfl rfl Try.func18 (by kernel_rfl) rfl #[.agg #[.int .i64 a0_0, .int .i64 a0_1, .int .i64 a0_2, .int .i64 a0_3, .int .i64 a0_4, .int .i64 a0_5, .int .i64 a0_6, .int .i64 a0_7, .bool a0_8, .int .i64 a0_9, .int .i64 a0_10, .int .i64 a0_11], .int .i64 x4_2, .int .i64 x6_4, .int .i64 x7_5] rfl (by (try simp only [List.map_toArray, List.map_cons, List.map_nil]); first | done | rfl | (simp only [List.length_drop, List.length_take]; rfl)) ?_; (with_reducible refine (arena_Slot.calls a0_0 a0_1 a0_2 a0_3 a0_4 a0_5 a0_6 a0_7 a0_8 a0_9 a0_10 a0_11 x4_2 x6_4 x7_5 t290 _ A37.out).mono ?_); rintro e w40 ⟨rfl, hb⟩; refine ⟨_, rfl, ?_⟩; have n0_ := Aside0.mk (Kd.R_below (by (with_reducible repeat (first | apply Kd.R_alloc | apply Kd.R_drewN | apply Kd.R_drew)); exact HO_3.out) hb); have n1_ := Aside0.mk (blk_below (g := gb274) (o := .cells #[.int .i64 a0_0, .int .i64 a0_1, .int .i64 a0_2, .int .i64 a0_3, .int .i64 a0_4, .int .i64 a0_5, .int .i64 a0_6, .int .i64 a0_7, .bool a0_8, .int .i64 a0_9, .int .i64 a0_10, .int .i64 a0_11] 23 (0, 0)) (by (with_reducible repeat first | refine blk_drewN ?_ _ | refine blk_drew ?_ | refine blk_alloc ?_ _); exact BK274.out) hb); have n2_ := Aside0.mk (below_step (by repeat (first | (with_reducible first | exact HB.out | apply below_alloc | apply pw_below_drewN | apply below_drew1 | refine below_set ?_ GE274.out) | exact HB.out)) hb); clear HO_3; clear BK274; clear HB; have HO_3 := n0_; have BK274 := n1_; have HB := n2_; clear n0_ n1_ n2_; (try clear hb); (try clear hb2); (try clear hk); (try clear hi)) | ((with_reducible refine gate_builtin (b := .append) (xs := #[.tmp 56, .tmp 62]) rfl ?_); at_builtin; refine Kd.R_append (Kd.int .i64) (w0 := w) w.heap.size rfl (.tmp 56) (.tmp 62) 36 3 (.int .i64 0) 8 rfl Try.underlying36 info3 rfl (by decide) (by omega) u3 x3_5 t290 [.int .i64 t290] (fun _ => True) (fun _ => False) rfl rfl ?aP (fun _ hk => hk.elim) ?aF ?aO ?aB ?aS ?aL ?_; (case aP => exact rfl); (case aB => exact (by repeat (first | (with_reducible first | exact HB.out | apply below_alloc | apply pw_below_drewN | apply below_drew1 | refine below_set ?_ GE274.out) | exact HB.out))); (case aF => exact (fun _ _ => trivial)); (case aO => exact (by (with_reducible repeat (first | apply Kd.R_alloc | apply Kd.R_drewN | apply Kd.R_drew)); exact HO_3.out)); (case aS => exact (below_size (by repeat (first | (with_reducible first | exact HB.out | apply below_alloc | apply pw_below_drewN | apply below_drew1 | refine below_set ?_ GE274.out) | exact HB.out)))); (case aL => have := LMc38.out; omega); intro v292 w41 ho hb hg hat; rw [← Ny291.out] at ho; have n0_ := Aside0.mk (blk_grown (g := gb274) (o := .cells #[.int .i64 a0_0, .int .i64 a0_1, .int .i64 a0_2, .int .i64 a0_3, .int .i64 a0_4, .int .i64 a0_5, .int .i64 a0_6, .int .i64 a0_7, .bool a0_8, .int .i64 a0_9, .int .i64 a0_10, .int .i64 a0_11] 23 (0, 0)) (by (with_reducible repeat first | refine blk_drewN ?_ _ | refine blk_drew ?_ | refine blk_alloc ?_ _); exact BK274.out) hg (Kd.R_ne HO_3.out BK274.out (by decide))); have n1_ := Aside0.mk (hb); have n2_ := Aside0.mk (ho); clear BK274; clear HB; clear HO_3; have BK274 := n0_; have HB := n1_; have HO293 := n2_; clear n0_ n1_ n2_; clear ho hb hg hat))
                  go_roundg k5
                  case measure => have := HJ1.out; have := HK2.out; have := HK3.out; have := HK4.out; have := HK5.out; omega
                  case rel => exact ⟨(y291), (wrap64 (x7_5 + 1)), (by first | rfl | (simp; done) | (simp [*]; done)), H', ⟨by have := HJ1.out; have := HK2.out; have := HK3.out; have := HK4.out; have := HK5.out; omega⟩, ⟨by (with_reducible repeat (first | apply Kd.R_alloc | apply Kd.R_drewN | apply Kd.R_drew)); exact HO293.out⟩, ⟨by (with_reducible repeat first | refine blk_drewN ?_ _ | refine blk_drew ?_ | refine blk_alloc ?_ _); exact BK274.out⟩, ⟨by repeat (first | (with_reducible first | exact HB.out | apply below_alloc | apply pw_below_drewN | apply below_drew1 | refine below_set ?_ GE274.out) | exact HB.out)⟩⟩
                 ·rw [if_neg c38] at H
                  exact absurd H (by simp)
                ·rw [if_neg c36] at H
                 have c36b0 : decide (x7_5 < a0_5) = false := decide_eq_false c36
                 clear c36
                 have H' := Aside0.mk H
                 clear H
                 have hcz42_0 : wr.cell? ⟨gb274, 0, none⟩ = some (.int .i64 a0_0) := (blk_cell BK274.out 0).trans rfl
                 have hcz42_1 : wr.cell? ⟨gb274, 1, none⟩ = some (.int .i64 a0_1) := (blk_cell BK274.out 1).trans rfl
                 have hcz42_2 : wr.cell? ⟨gb274, 2, none⟩ = some (.int .i64 a0_2) := (blk_cell BK274.out 2).trans rfl
                 have hcz42_3 : wr.cell? ⟨gb274, 3, none⟩ = some (.int .i64 a0_3) := (blk_cell BK274.out 3).trans rfl
                 have hcz42_4 : wr.cell? ⟨gb274, 4, none⟩ = some (.int .i64 a0_4) := (blk_cell BK274.out 4).trans rfl
                 have hcz42_5 : wr.cell? ⟨gb274, 5, none⟩ = some (.int .i64 a0_5) := (blk_cell BK274.out 5).trans rfl
                 have hcz42_6 : wr.cell? ⟨gb274, 6, none⟩ = some (.int .i64 a0_6) := (blk_cell BK274.out 6).trans rfl
                 have hcz42_7 : wr.cell? ⟨gb274, 7, none⟩ = some (.int .i64 a0_7) := (blk_cell BK274.out 7).trans rfl
                 have hcz42_8 : wr.cell? ⟨gb274, 8, none⟩ = some (.bool a0_8) := (blk_cell BK274.out 8).trans rfl
                 have hcz42_9 : wr.cell? ⟨gb274, 9, none⟩ = some (.int .i64 a0_9) := (blk_cell BK274.out 9).trans rfl
                 have hcz42_10 : wr.cell? ⟨gb274, 10, none⟩ = some (.int .i64 a0_10) := (blk_cell BK274.out 10).trans rfl
                 have hcz42_11 : wr.cell? ⟨gb274, 11, none⟩ = some (.int .i64 a0_11) := (blk_cell BK274.out 11).trans rfl
                 have hfz42_0 := blk_frozen BK274.out 0
                 have hfz42_1 := blk_frozen BK274.out 1
                 have hfz42_2 := blk_frozen BK274.out 2
                 have hfz42_3 := blk_frozen BK274.out 3
                 have hfz42_4 := blk_frozen BK274.out 4
                 have hfz42_5 := blk_frozen BK274.out 5
                 have hfz42_6 := blk_frozen BK274.out 6
                 have hfz42_7 := blk_frozen BK274.out 7
                 have hfz42_8 := blk_frozen BK274.out 8
                 have hfz42_9 := blk_frozen BK274.out 9
                 have hfz42_10 := blk_frozen BK274.out 10
                 have hfz42_11 := blk_frozen BK274.out 11
                 go_wp2
                 go_roundg k5
                 case measure => have := HJ1.out; have := HK2.out; have := HK3.out; have := HK4.out; have := HK5.out; omega
                 case rel => exact ⟨(x3_5), (wrap64 (x6_4 + 1)), (by first | rfl | (simp; done) | (simp [*]; done)), H', ⟨by have := HJ1.out; have := HK2.out; have := HK3.out; have := HK4.out; have := HK5.out; omega⟩, ⟨by (with_reducible repeat (first | apply Kd.R_alloc | apply Kd.R_drewN | apply Kd.R_drew)); exact HO_3.out⟩, ⟨by (with_reducible repeat first | refine blk_drewN ?_ _ | refine blk_drew ?_ | refine blk_alloc ?_ _); exact BK274.out⟩, ⟨by repeat (first | (with_reducible first | exact HB.out | apply below_alloc | apply pw_below_drewN | apply below_drew1 | refine below_set ?_ GE274.out) | exact HB.out)⟩⟩
             ·rw [if_neg c34] at H
              have c34b0 : decide (x6_4 ≤ a0_4) = false := decide_eq_false c34
              clear c34
              have H' := Aside0.mk H
              clear H
              have hcz43_0 : wr.cell? ⟨gb274, 0, none⟩ = some (.int .i64 a0_0) := (blk_cell BK274.out 0).trans rfl
              have hcz43_1 : wr.cell? ⟨gb274, 1, none⟩ = some (.int .i64 a0_1) := (blk_cell BK274.out 1).trans rfl
              have hcz43_2 : wr.cell? ⟨gb274, 2, none⟩ = some (.int .i64 a0_2) := (blk_cell BK274.out 2).trans rfl
              have hcz43_3 : wr.cell? ⟨gb274, 3, none⟩ = some (.int .i64 a0_3) := (blk_cell BK274.out 3).trans rfl
              have hcz43_4 : wr.cell? ⟨gb274, 4, none⟩ = some (.int .i64 a0_4) := (blk_cell BK274.out 4).trans rfl
              have hcz43_5 : wr.cell? ⟨gb274, 5, none⟩ = some (.int .i64 a0_5) := (blk_cell BK274.out 5).trans rfl
              have hcz43_6 : wr.cell? ⟨gb274, 6, none⟩ = some (.int .i64 a0_6) := (blk_cell BK274.out 6).trans rfl
              have hcz43_7 : wr.cell? ⟨gb274, 7, none⟩ = some (.int .i64 a0_7) := (blk_cell BK274.out 7).trans rfl
              have hcz43_8 : wr.cell? ⟨gb274, 8, none⟩ = some (.bool a0_8) := (blk_cell BK274.out 8).trans rfl
              have hcz43_9 : wr.cell? ⟨gb274, 9, none⟩ = some (.int .i64 a0_9) := (blk_cell BK274.out 9).trans rfl
              have hcz43_10 : wr.cell? ⟨gb274, 10, none⟩ = some (.int .i64 a0_10) := (blk_cell BK274.out 10).trans rfl
              have hcz43_11 : wr.cell? ⟨gb274, 11, none⟩ = some (.int .i64 a0_11) := (blk_cell BK274.out 11).trans rfl
              have hfz43_0 := blk_frozen BK274.out 0
              have hfz43_1 := blk_frozen BK274.out 1
              have hfz43_2 := blk_frozen BK274.out 2
              have hfz43_3 := blk_frozen BK274.out 3
              have hfz43_4 := blk_frozen BK274.out 4
              have hfz43_5 := blk_frozen BK274.out 5
              have hfz43_6 := blk_frozen BK274.out 6
              have hfz43_7 := blk_frozen BK274.out 7
              have hfz43_8 := blk_frozen BK274.out 8
              have hfz43_9 := blk_frozen BK274.out 9
              have hfz43_10 := blk_frozen BK274.out 10
              have hfz43_11 := blk_frozen BK274.out 11
              go_wp2
              go_roundg k4
              case measure => have := HJ1.out; have := HK2.out; have := HK3.out; have := HK4.out; omega
              case rel => exact ⟨(x3_4), (wrap64 (x4_2 + 1)), (by first | rfl | (simp; done) | (simp [*]; done)), H', ⟨by have := HJ1.out; have := HK2.out; have := HK3.out; have := HK4.out; omega⟩, ⟨by (with_reducible repeat (first | apply Kd.R_alloc | apply Kd.R_drewN | apply Kd.R_drew)); exact HO_3.out⟩, ⟨by (with_reducible repeat first | refine blk_drewN ?_ _ | refine blk_drew ?_ | refine blk_alloc ?_ _); exact BK274.out⟩, ⟨by repeat (first | (with_reducible first | exact HB.out | apply below_alloc | apply pw_below_drewN | apply below_drew1 | refine below_set ?_ GE274.out) | exact HB.out)⟩⟩
       ·rw [if_neg c19] at H
        exact absurd H (by simp)
      ·rw [if_neg c17] at H
       have c17b0 : decide (x4_2 < a0_1) = false := decide_eq_false c17
       clear c17
       have H' := Aside0.mk H
       clear H
       have hcz44_0 : wr.cell? ⟨gb274, 0, none⟩ = some (.int .i64 a0_0) := (blk_cell BK274.out 0).trans rfl
       have hcz44_1 : wr.cell? ⟨gb274, 1, none⟩ = some (.int .i64 a0_1) := (blk_cell BK274.out 1).trans rfl
       have hcz44_2 : wr.cell? ⟨gb274, 2, none⟩ = some (.int .i64 a0_2) := (blk_cell BK274.out 2).trans rfl
       have hcz44_3 : wr.cell? ⟨gb274, 3, none⟩ = some (.int .i64 a0_3) := (blk_cell BK274.out 3).trans rfl
       have hcz44_4 : wr.cell? ⟨gb274, 4, none⟩ = some (.int .i64 a0_4) := (blk_cell BK274.out 4).trans rfl
       have hcz44_5 : wr.cell? ⟨gb274, 5, none⟩ = some (.int .i64 a0_5) := (blk_cell BK274.out 5).trans rfl
       have hcz44_6 : wr.cell? ⟨gb274, 6, none⟩ = some (.int .i64 a0_6) := (blk_cell BK274.out 6).trans rfl
       have hcz44_7 : wr.cell? ⟨gb274, 7, none⟩ = some (.int .i64 a0_7) := (blk_cell BK274.out 7).trans rfl
       have hcz44_8 : wr.cell? ⟨gb274, 8, none⟩ = some (.bool a0_8) := (blk_cell BK274.out 8).trans rfl
       have hcz44_9 : wr.cell? ⟨gb274, 9, none⟩ = some (.int .i64 a0_9) := (blk_cell BK274.out 9).trans rfl
       have hcz44_10 : wr.cell? ⟨gb274, 10, none⟩ = some (.int .i64 a0_10) := (blk_cell BK274.out 10).trans rfl
       have hcz44_11 : wr.cell? ⟨gb274, 11, none⟩ = some (.int .i64 a0_11) := (blk_cell BK274.out 11).trans rfl
       have hfz44_0 := blk_frozen BK274.out 0
       have hfz44_1 := blk_frozen BK274.out 1
       have hfz44_2 := blk_frozen BK274.out 2
       have hfz44_3 := blk_frozen BK274.out 3
       have hfz44_4 := blk_frozen BK274.out 4
       have hfz44_5 := blk_frozen BK274.out 5
       have hfz44_6 := blk_frozen BK274.out 6
       have hfz44_7 := blk_frozen BK274.out 7
       have hfz44_8 := blk_frozen BK274.out 8
       have hfz44_9 := blk_frozen BK274.out 9
       have hfz44_10 := blk_frozen BK274.out 10
       have hfz44_11 := blk_frozen BK274.out 11
       go_wp2
       go_loopg [3, 8] k2 (fun kq v3 v8 w' => ∃ (x3_3 : List Int) (x8_3 : Int), v8 = .int .i64 x8_3 ∧ Aside0 (millstreamlaw06_ArenaOnce.l4 kq x3_3 x8_3 a0_0 a0_1 a0_2 a0_3 a0_4 a0_5 a0_6 a0_7 a0_8 a0_9 a0_10 a0_11 = some r) ∧ Aside0 (kq ≤ k2) ∧ Aside0 (Kd.R (Kd.int .i64) 3 w' w.heap.size (fun _ => True) v3 x3_3) ∧ Aside0 (w'.heap[gb274]? = some (.cells #[.int .i64 a0_0, .int .i64 a0_1, .int .i64 a0_2, .int .i64 a0_3, .int .i64 a0_4, .int .i64 a0_5, .int .i64 a0_6, .int .i64 a0_7, .bool a0_8, .int .i64 a0_9, .int .i64 a0_10, .int .i64 a0_11] 23 (0, 0))) ∧ Aside0 (Below w.heap.size w w'))
       case atStart => exact ⟨(x3_2), (0), (by first | rfl | (simp; done) | (simp [*]; done)), H', ⟨Nat.le_refl _⟩, ⟨by (with_reducible repeat (first | apply Kd.R_alloc | apply Kd.R_drewN | apply Kd.R_drew)); exact HO_3.out⟩, ⟨by (with_reducible repeat first | refine blk_drewN ?_ _ | refine blk_drew ?_ | refine blk_alloc ?_ _); exact BK274.out⟩, ⟨by repeat (first | (with_reducible first | exact HB.out | apply below_alloc | apply pw_below_drewN | apply below_drew1 | refine below_set ?_ GE274.out) | exact HB.out)⟩⟩
       case round =>
        clear H'
        try clear c1
        try clear c2
        try clear p2
        try clear c3
        try clear c5
        try clear p6
        try clear c8
        try clear c9
        try clear c11
        try clear c12
        try clear c14
        try clear c16
        try clear c17
        try clear c17b0
        try clear c18
        try clear c19
        try clear c24
        try clear c24b0
        try clear c26
        try clear c34
        try clear c34b0
        try clear c36
        try clear c36b0
        try clear c38
        try clear hcz10_0
        try clear hcz10_1
        try clear hcz10_10
        try clear hcz10_11
        try clear hcz10_2
        try clear hcz10_3
        try clear hcz10_4
        try clear hcz10_5
        try clear hcz10_6
        try clear hcz10_7
        try clear hcz10_8
        try clear hcz10_9
        try clear hcz20_0
        try clear hcz20_1
        try clear hcz20_10
        try clear hcz20_11
        try clear hcz20_2
        try clear hcz20_3
        try clear hcz20_4
        try clear hcz20_5
        try clear hcz20_6
        try clear hcz20_7
        try clear hcz20_8
        try clear hcz20_9
        try clear hcz27_0
        try clear hcz27_1
        try clear hcz27_10
        try clear hcz27_11
        try clear hcz27_2
        try clear hcz27_3
        try clear hcz27_4
        try clear hcz27_5
        try clear hcz27_6
        try clear hcz27_7
        try clear hcz27_8
        try clear hcz27_9
        try clear hcz29_0
        try clear hcz29_1
        try clear hcz29_10
        try clear hcz29_11
        try clear hcz29_2
        try clear hcz29_3
        try clear hcz29_4
        try clear hcz29_5
        try clear hcz29_6
        try clear hcz29_7
        try clear hcz29_8
        try clear hcz29_9
        try clear hcz32_0
        try clear hcz32_1
        try clear hcz32_10
        try clear hcz32_11
        try clear hcz32_2
        try clear hcz32_3
        try clear hcz32_4
        try clear hcz32_5
        try clear hcz32_6
        try clear hcz32_7
        try clear hcz32_8
        try clear hcz32_9
        try clear hcz35_0
        try clear hcz35_1
        try clear hcz35_10
        try clear hcz35_11
        try clear hcz35_2
        try clear hcz35_3
        try clear hcz35_4
        try clear hcz35_5
        try clear hcz35_6
        try clear hcz35_7
        try clear hcz35_8
        try clear hcz35_9
        try clear hcz39_0
        try clear hcz39_1
        try clear hcz39_10
        try clear hcz39_11
        try clear hcz39_2
        try clear hcz39_3
        try clear hcz39_4
        try clear hcz39_5
        try clear hcz39_6
        try clear hcz39_7
        try clear hcz39_8
        try clear hcz39_9
        try clear hcz42_0
        try clear hcz42_1
        try clear hcz42_10
        try clear hcz42_11
        try clear hcz42_2
        try clear hcz42_3
        try clear hcz42_4
        try clear hcz42_5
        try clear hcz42_6
        try clear hcz42_7
        try clear hcz42_8
        try clear hcz42_9
        try clear hcz43_0
        try clear hcz43_1
        try clear hcz43_10
        try clear hcz43_11
        try clear hcz43_2
        try clear hcz43_3
        try clear hcz43_4
        try clear hcz43_5
        try clear hcz43_6
        try clear hcz43_7
        try clear hcz43_8
        try clear hcz43_9
        try clear hcz44_0
        try clear hcz44_1
        try clear hcz44_10
        try clear hcz44_11
        try clear hcz44_2
        try clear hcz44_3
        try clear hcz44_4
        try clear hcz44_5
        try clear hcz44_6
        try clear hcz44_7
        try clear hcz44_8
        try clear hcz44_9
        try clear hcz7_0
        try clear hcz7_1
        try clear hcz7_10
        try clear hcz7_11
        try clear hcz7_2
        try clear hcz7_3
        try clear hcz7_4
        try clear hcz7_5
        try clear hcz7_6
        try clear hcz7_7
        try clear hcz7_8
        try clear hcz7_9
        try clear hfz10_0
        try clear hfz10_1
        try clear hfz10_10
        try clear hfz10_11
        try clear hfz10_2
        try clear hfz10_3
        try clear hfz10_4
        try clear hfz10_5
        try clear hfz10_6
        try clear hfz10_7
        try clear hfz10_8
        try clear hfz10_9
        try clear hfz20_0
        try clear hfz20_1
        try clear hfz20_10
        try clear hfz20_11
        try clear hfz20_2
        try clear hfz20_3
        try clear hfz20_4
        try clear hfz20_5
        try clear hfz20_6
        try clear hfz20_7
        try clear hfz20_8
        try clear hfz20_9
        try clear hfz27_0
        try clear hfz27_1
        try clear hfz27_10
        try clear hfz27_11
        try clear hfz27_2
        try clear hfz27_3
        try clear hfz27_4
        try clear hfz27_5
        try clear hfz27_6
        try clear hfz27_7
        try clear hfz27_8
        try clear hfz27_9
        try clear hfz29_0
        try clear hfz29_1
        try clear hfz29_10
        try clear hfz29_11
        try clear hfz29_2
        try clear hfz29_3
        try clear hfz29_4
        try clear hfz29_5
        try clear hfz29_6
        try clear hfz29_7
        try clear hfz29_8
        try clear hfz29_9
        try clear hfz32_0
        try clear hfz32_1
        try clear hfz32_10
        try clear hfz32_11
        try clear hfz32_2
        try clear hfz32_3
        try clear hfz32_4
        try clear hfz32_5
        try clear hfz32_6
        try clear hfz32_7
        try clear hfz32_8
        try clear hfz32_9
        try clear hfz35_0
        try clear hfz35_1
        try clear hfz35_10
        try clear hfz35_11
        try clear hfz35_2
        try clear hfz35_3
        try clear hfz35_4
        try clear hfz35_5
        try clear hfz35_6
        try clear hfz35_7
        try clear hfz35_8
        try clear hfz35_9
        try clear hfz39_0
        try clear hfz39_1
        try clear hfz39_10
        try clear hfz39_11
        try clear hfz39_2
        try clear hfz39_3
        try clear hfz39_4
        try clear hfz39_5
        try clear hfz39_6
        try clear hfz39_7
        try clear hfz39_8
        try clear hfz39_9
        try clear hfz42_0
        try clear hfz42_1
        try clear hfz42_10
        try clear hfz42_11
        try clear hfz42_2
        try clear hfz42_3
        try clear hfz42_4
        try clear hfz42_5
        try clear hfz42_6
        try clear hfz42_7
        try clear hfz42_8
        try clear hfz42_9
        try clear hfz43_0
        try clear hfz43_1
        try clear hfz43_10
        try clear hfz43_11
        try clear hfz43_2
        try clear hfz43_3
        try clear hfz43_4
        try clear hfz43_5
        try clear hfz43_6
        try clear hfz43_7
        try clear hfz43_8
        try clear hfz43_9
        try clear hfz44_0
        try clear hfz44_1
        try clear hfz44_10
        try clear hfz44_11
        try clear hfz44_2
        try clear hfz44_3
        try clear hfz44_4
        try clear hfz44_5
        try clear hfz44_6
        try clear hfz44_7
        try clear hfz44_8
        try clear hfz44_9
        try clear hfz7_0
        try clear hfz7_1
        try clear hfz7_10
        try clear hfz7_11
        try clear hfz7_2
        try clear hfz7_3
        try clear hfz7_4
        try clear hfz7_5
        try clear hfz7_6
        try clear hfz7_7
        try clear hfz7_8
        try clear hfz7_9
        try clear p2
        try clear p6
        obtain ⟨x3_3, x8_3, rfl, HA, HK3, HO_3, BK274, HB⟩ := hrel
        cases gk with
        | zero => exact absurd HA.out (by simp [millstreamlaw06_ArenaOnce.l4])
        | succ k3 =>
         have H := HA.out
         clear HA
         simp only [millstreamlaw06_ArenaOnce.l4] at H
         by_cases c45 : x8_3 < a0_0
         ·rw [if_pos c45] at H
          have c45b0 : decide (x8_3 < a0_0) = true := decide_eq_true c45
          clear c45
          replace H := Option.bind_eq_some_iff.mp H
          obtain ⟨t294, A460, H⟩ := H
          replace H : ((arena_Result.f a0_0 a0_1 a0_2 a0_3 a0_4 a0_5 a0_6 a0_7 a0_8 a0_9 a0_10 a0_11 x8_3).bind fun t295 => ((some (([t294, t295] : List Int) : List Int)).bind fun y296 => (if x3_3.length + y296.length < 17592186044416 then (millstreamlaw06_ArenaOnce.l4 k3 (x3_3 ++ y296) (wrap64 (x8_3 + 1)) a0_0 a0_1 a0_2 a0_3 a0_4 a0_5 a0_6 a0_7 a0_8 a0_9 a0_10 a0_11) else (none)))) = some r := H
          have A46 := Aside0.mk A460
          clear A460
          replace H := Option.bind_eq_some_iff.mp H
          obtain ⟨t295, A470, H⟩ := H
          replace H : ((some (([t294, t295] : List Int) : List Int)).bind fun y296 => (if x3_3.length + y296.length < 17592186044416 then (millstreamlaw06_ArenaOnce.l4 k3 (x3_3 ++ y296) (wrap64 (x8_3 + 1)) a0_0 a0_1 a0_2 a0_3 a0_4 a0_5 a0_6 a0_7 a0_8 a0_9 a0_10 a0_11) else (none))) = some r := H
          have A47 := Aside0.mk A470
          clear A470
          obtain ⟨y296, hy296⟩ : ∃ y_ : List Int, y_ = (([t294, t295] : List Int)) := ⟨_, rfl⟩
          replace H : (if x3_3.length + y296.length < 17592186044416 then (millstreamlaw06_ArenaOnce.l4 k3 (x3_3 ++ y296) (wrap64 (x8_3 + 1)) a0_0 a0_1 a0_2 a0_3 a0_4 a0_5 a0_6 a0_7 a0_8 a0_9 a0_10 a0_11) else (none)) = some r := by first | (rw [hy296]; with_reducible exact H) | (have H2_ := (Option.bind_some _ _).symm.trans H; rw [hy296]; with_reducible exact H2_) | (have H2_ := (Option.bind_some _ _).symm.trans H; with_reducible exact H2_) | with_reducible exact H | (rw [hy296]; exact H) | exact H
          have Ny296 := Aside0.mk hy296
          clear hy296
          by_cases c48 : x3_3.length + y296.length < 17592186044416
          ·rw [if_pos c48] at H
           have LMc48 := Aside0.mk c48
           clear c48
           obtain ⟨y299, hy299⟩ : ∃ y_ : List Int, y_ = (x3_3 ++ y296) := ⟨_, rfl⟩
           replace H : (millstreamlaw06_ArenaOnce.l4 k3 y299 (wrap64 (x8_3 + 1)) a0_0 a0_1 a0_2 a0_3 a0_4 a0_5 a0_6 a0_7 a0_8 a0_9 a0_10 a0_11) = some r := by first | (rw [hy299]; with_reducible exact H) | (have H2_ := (Option.bind_some _ _).symm.trans H; rw [hy299]; with_reducible exact H2_) | (have H2_ := (Option.bind_some _ _).symm.trans H; with_reducible exact H2_) | with_reducible exact H | (rw [hy299]; exact H) | exact H
           have Ny299 := Aside0.mk hy299
           clear hy299
           have H' := Aside0.mk H
           clear H
           have hcz49_0 : wr.cell? ⟨gb274, 0, none⟩ = some (.int .i64 a0_0) := (blk_cell BK274.out 0).trans rfl
           have hcz49_1 : wr.cell? ⟨gb274, 1, none⟩ = some (.int .i64 a0_1) := (blk_cell BK274.out 1).trans rfl
           have hcz49_2 : wr.cell? ⟨gb274, 2, none⟩ = some (.int .i64 a0_2) := (blk_cell BK274.out 2).trans rfl
           have hcz49_3 : wr.cell? ⟨gb274, 3, none⟩ = some (.int .i64 a0_3) := (blk_cell BK274.out 3).trans rfl
           have hcz49_4 : wr.cell? ⟨gb274, 4, none⟩ = some (.int .i64 a0_4) := (blk_cell BK274.out 4).trans rfl
           have hcz49_5 : wr.cell? ⟨gb274, 5, none⟩ = some (.int .i64 a0_5) := (blk_cell BK274.out 5).trans rfl
           have hcz49_6 : wr.cell? ⟨gb274, 6, none⟩ = some (.int .i64 a0_6) := (blk_cell BK274.out 6).trans rfl
           have hcz49_7 : wr.cell? ⟨gb274, 7, none⟩ = some (.int .i64 a0_7) := (blk_cell BK274.out 7).trans rfl
           have hcz49_8 : wr.cell? ⟨gb274, 8, none⟩ = some (.bool a0_8) := (blk_cell BK274.out 8).trans rfl
           have hcz49_9 : wr.cell? ⟨gb274, 9, none⟩ = some (.int .i64 a0_9) := (blk_cell BK274.out 9).trans rfl
           have hcz49_10 : wr.cell? ⟨gb274, 10, none⟩ = some (.int .i64 a0_10) := (blk_cell BK274.out 10).trans rfl
           have hcz49_11 : wr.cell? ⟨gb274, 11, none⟩ = some (.int .i64 a0_11) := (blk_cell BK274.out 11).trans rfl
           have hfz49_0 := blk_frozen BK274.out 0
           have hfz49_1 := blk_frozen BK274.out 1
           have hfz49_2 := blk_frozen BK274.out 2
           have hfz49_3 := blk_frozen BK274.out 3
           have hfz49_4 := blk_frozen BK274.out 4
           have hfz49_5 := blk_frozen BK274.out 5
           have hfz49_6 := blk_frozen BK274.out 6
           have hfz49_7 := blk_frozen BK274.out 7
           have hfz49_8 := blk_frozen BK274.out 8
           have hfz49_9 := blk_frozen BK274.out 9
           have hfz49_10 := blk_frozen BK274.out 10
           have hfz49_11 := blk_frozen BK274.out 11
           try go_wp2
           have n0_ := Aside0.mk (Kd.R_drew HO_3.out)
           have n1_ := Aside0.mk (blk_drew BK274.out)
           have n2_ := Aside0.mk (below_drew1 HB.out)
           clear HO_3
           clear BK274
           clear HB
           have HO_3 := n0_
           have BK274 := n1_
           have HB := n2_
           clear n0_ n1_ n2_
           refine start_ (n := 10) (S := fun w' => w'.cell? ⟨gb274, 0, none⟩ = some (.int .i64 a0_0) ∧ w'.cell? ⟨gb274, 1, none⟩ = some (.int .i64 a0_1) ∧ w'.cell? ⟨gb274, 2, none⟩ = some (.int .i64 a0_2) ∧ w'.cell? ⟨gb274, 3, none⟩ = some (.int .i64 a0_3) ∧ w'.cell? ⟨gb274, 4, none⟩ = some (.int .i64 a0_4) ∧ w'.cell? ⟨gb274, 5, none⟩ = some (.int .i64 a0_5) ∧ w'.cell? ⟨gb274, 6, none⟩ = some (.int .i64 a0_6) ∧ w'.cell? ⟨gb274, 7, none⟩ = some (.int .i64 a0_7) ∧ w'.cell? ⟨gb274, 8, none⟩ = some (.bool a0_8) ∧ w'.cell? ⟨gb274, 9, none⟩ = some (.int .i64 a0_9) ∧ w'.cell? ⟨gb274, 10, none⟩ = some (.int .i64 a0_10) ∧ w'.cell? ⟨gb274, 11, none⟩ = some (.int .i64 a0_11)) (ds := []) #[false, false, false, false, false, false, false, false, false, false] (by kernel_rfl) rfl rfl ⟨(blk_cell BK274.out 0).trans rfl, (blk_cell BK274.out 1).trans rfl, (blk_cell BK274.out 2).trans rfl, (blk_cell BK274.out 3).trans rfl, (blk_cell BK274.out 4).trans rfl, (blk_cell BK274.out 5).trans rfl, (blk_cell BK274.out 6).trans rfl, (blk_cell BK274.out 7).trans rfl, (blk_cell BK274.out 8).trans rfl, (blk_cell BK274.out 9).trans rfl, (blk_cell BK274.out 10).trans rfl, (blk_cell BK274.out 11).trans rfl⟩ (fun hHeld => ?_); refine with_tabW millstreamlaw06_ArenaOnce.tab22 millstreamlaw06_ArenaOnce.bits22 (fun HT_ HW_ => ?_)
           generalize wr.drew = w50 at HO_3 BK274 HB hHeld ⊢
           refine pure_ (i := 0) (N := some 70) (v := ?_) (a' := ?_) #[true, false, false, false, false, false, false, false, false, false] rfl rfl (any_of HT_.out (by kernel_rfl)) (fun _ _ _ h => h) (Or.inl ⟨by rfl, ?_⟩) ?_ ?_
           rotate_left
           ·intro w'
            go_simp
            with_reducible rfl
           rotate_left
           ·simp only [Act.put, List.setIfInBounds_toArray, List.set_cons_zero, List.set_cons_succ, i64_w, i32_w]
            rfl
           refine pure_ (i := 2) (N := some 72) (v := ?_) (a' := ?_) #[true, false, true, false, false, false, false, false, false, false] rfl rfl (any_of HT_.out (by kernel_rfl)) (fun _ _ _ h => h) (Or.inl ⟨by rfl, ?_⟩) ?_ ?_
           rotate_left
           ·intro w'
            go_simp
            with_reducible rfl
           rotate_left
           ·simp only [Act.put, List.setIfInBounds_toArray, List.set_cons_zero, List.set_cons_succ, i64_w, i32_w]
            rfl
           refine pure_ (i := 5) (N := some 75) (v := ?_) (a' := ?_) #[true, false, true, false, false, true, false, false, false, false] rfl rfl (any_of HT_.out (by kernel_rfl)) (fun _ _ _ h => h) (Or.inl ⟨by rfl, ?_⟩) ?_ ?_
           rotate_left
           ·intro w'
            go_simp
            with_reducible rfl
           rotate_left
           ·simp only [Act.put, List.setIfInBounds_toArray, List.set_cons_zero, List.set_cons_succ, i64_w, i32_w]
            rfl
           refine take_ (i := 1) (N := some 71) (v := ?_) (a' := ?_) #[true, true, true, false, false, true, false, false, false, false] rfl rfl (take_ofW HT_.out HW_.out (by kernel_rfl)) (fun _ _ _ h => h) (Or.inl ⟨by rfl, ?_⟩) hHeld ?_ ?_
           rotate_left
           ·rintro w' ⟨s0, s1, s2, s3, s4, s5, s6, s7, s8, s9, s10, s11⟩
            go_simp
            with_reducible rfl
           rotate_left
           ·simp only [Act.put, List.setIfInBounds_toArray, List.set_cons_zero, List.set_cons_succ, i64_w, i32_w]
            rfl
           refine take_ (i := 4) (N := some 74) (v := ?_) (a' := ?_) #[true, true, true, false, true, true, false, false, false, false] rfl rfl (take_ofW HT_.out HW_.out (by kernel_rfl)) (fun _ _ _ h => h) (Or.inl ⟨by rfl, ?_⟩) hHeld ?_ ?_
           rotate_left
           ·rintro w' ⟨s0, s1, s2, s3, s4, s5, s6, s7, s8, s9, s10, s11⟩
            go_simp
            with_reducible rfl
           rotate_left
           ·simp only [Act.put, List.setIfInBounds_toArray, List.set_cons_zero, List.set_cons_succ, i64_w, i32_w]
            rfl
           refine one_ (i := 3) (N := some 73) #[true, true, true, true, true, true, false, false, false, false] rfl rfl (one_of HT_.out (by kernel_rfl)) (by decide) (fun K hK => ?_)
           refine goes_ Try.func20 (by kernel_rfl) rfl #[.agg #[.int .i64 a0_0, .int .i64 a0_1, .int .i64 a0_2, .int .i64 a0_3, .int .i64 a0_4, .int .i64 a0_5, .int .i64 a0_6, .int .i64 a0_7, .bool a0_8, .int .i64 a0_9, .int .i64 a0_10, .int .i64 a0_11], .int .i64 x8_3] (by rfl) rfl rfl (by (try simp only [List.map_toArray, List.map_cons, List.map_nil]); first | done | rfl | (simp only [List.length_drop, List.length_take]; rfl)) ?_
           with_reducible refine (arena_Line.calls a0_0 a0_1 a0_2 a0_3 a0_4 a0_5 a0_6 a0_7 a0_8 a0_9 a0_10 a0_11 x8_3 t294 _ A46.out).mono ?_
           rintro e w51 ⟨rfl, hb⟩
           refine ⟨_, rfl, ?_⟩
           have n0_ := Aside0.mk (Kd.R_below (by (with_reducible repeat (first | apply Kd.R_alloc | apply Kd.R_drewN | apply Kd.R_drew)); exact HO_3.out) hb)
           have n1_ := Aside0.mk (blk_below (g := gb274) (o := .cells #[.int .i64 a0_0, .int .i64 a0_1, .int .i64 a0_2, .int .i64 a0_3, .int .i64 a0_4, .int .i64 a0_5, .int .i64 a0_6, .int .i64 a0_7, .bool a0_8, .int .i64 a0_9, .int .i64 a0_10, .int .i64 a0_11] 23 (0, 0)) (by (with_reducible repeat first | refine blk_drewN ?_ _ | refine blk_drew ?_ | refine blk_alloc ?_ _); exact BK274.out) hb)
           have n2_ := Aside0.mk (below_step (by repeat (first | (with_reducible first | exact HB.out | apply below_alloc | apply pw_below_drewN | apply below_drew1 | refine below_set ?_ GE274.out) | exact HB.out)) hb)
           clear HO_3
           clear BK274
           clear HB
           have HO_3 := n0_
           have BK274 := n1_
           have HB := n2_
           clear n0_ n1_ n2_
           (try clear hb)
           (try clear hb2)
           (try clear hk)
           (try clear hi)
           refine hK.out _ _ ⟨(blk_cell BK274.out 0).trans rfl, (blk_cell BK274.out 1).trans rfl, (blk_cell BK274.out 2).trans rfl, (blk_cell BK274.out 3).trans rfl, (blk_cell BK274.out 4).trans rfl, (blk_cell BK274.out 5).trans rfl, (blk_cell BK274.out 6).trans rfl, (blk_cell BK274.out 7).trans rfl, (blk_cell BK274.out 8).trans rfl, (blk_cell BK274.out 9).trans rfl, (blk_cell BK274.out 10).trans rfl, (blk_cell BK274.out 11).trans rfl⟩ (fun hHeld => ?_)
           clear hK K
           refine norm_ (a' := ?_) ?_ ?_
           rotate_left
           ·show Act.put _ (some 73) _ = _
            simp only [Act.put, List.setIfInBounds_toArray, List.set_cons_zero, List.set_cons_succ, i64_w, i32_w]
            rfl
           refine one_ (i := 6) (N := some 76) #[true, true, true, true, true, true, true, false, false, false] rfl rfl (one_of HT_.out (by kernel_rfl)) (by decide) (fun K hK => ?_)
           refine goes_ Try.func22 (by kernel_rfl) rfl #[.agg #[.int .i64 a0_0, .int .i64 a0_1, .int .i64 a0_2, .int .i64 a0_3, .int .i64 a0_4, .int .i64 a0_5, .int .i64 a0_6, .int .i64 a0_7, .bool a0_8, .int .i64 a0_9, .int .i64 a0_10, .int .i64 a0_11], .int .i64 x8_3] (by rfl) rfl rfl (by (try simp only [List.map_toArray, List.map_cons, List.map_nil]); first | done | rfl | (simp only [List.length_drop, List.length_take]; rfl)) ?_
           with_reducible refine (arena_Result.calls a0_0 a0_1 a0_2 a0_3 a0_4 a0_5 a0_6 a0_7 a0_8 a0_9 a0_10 a0_11 x8_3 t295 _ A47.out).mono ?_
           rintro e w52 ⟨rfl, hb⟩
           refine ⟨_, rfl, ?_⟩
           have n0_ := Aside0.mk (Kd.R_below (by (with_reducible repeat (first | apply Kd.R_alloc | apply Kd.R_drewN | apply Kd.R_drew)); exact HO_3.out) hb)
           have n1_ := Aside0.mk (blk_below (g := gb274) (o := .cells #[.int .i64 a0_0, .int .i64 a0_1, .int .i64 a0_2, .int .i64 a0_3, .int .i64 a0_4, .int .i64 a0_5, .int .i64 a0_6, .int .i64 a0_7, .bool a0_8, .int .i64 a0_9, .int .i64 a0_10, .int .i64 a0_11] 23 (0, 0)) (by (with_reducible repeat first | refine blk_drewN ?_ _ | refine blk_drew ?_ | refine blk_alloc ?_ _); exact BK274.out) hb)
           have n2_ := Aside0.mk (below_step (by repeat (first | (with_reducible first | exact HB.out | apply below_alloc | apply pw_below_drewN | apply below_drew1 | refine below_set ?_ GE274.out) | exact HB.out)) hb)
           clear HO_3
           clear BK274
           clear HB
           have HO_3 := n0_
           have BK274 := n1_
           have HB := n2_
           clear n0_ n1_ n2_
           (try clear hb)
           (try clear hb2)
           (try clear hk)
           (try clear hi)
           refine hK.out _ _ ⟨(blk_cell BK274.out 0).trans rfl, (blk_cell BK274.out 1).trans rfl, (blk_cell BK274.out 2).trans rfl, (blk_cell BK274.out 3).trans rfl, (blk_cell BK274.out 4).trans rfl, (blk_cell BK274.out 5).trans rfl, (blk_cell BK274.out 6).trans rfl, (blk_cell BK274.out 7).trans rfl, (blk_cell BK274.out 8).trans rfl, (blk_cell BK274.out 9).trans rfl, (blk_cell BK274.out 10).trans rfl, (blk_cell BK274.out 11).trans rfl⟩ (fun hHeld => ?_)
           clear hK K
           refine norm_ (a' := ?_) ?_ ?_
           rotate_left
           ·show Act.put _ (some 76) _ = _
            simp only [Act.put, List.setIfInBounds_toArray, List.set_cons_zero, List.set_cons_succ, i64_w, i32_w]
            rfl
           refine one_ (i := 7) (N := some 77) #[true, true, true, true, true, true, true, true, false, false] rfl rfl (one_of HT_.out (by kernel_rfl)) (by decide) (fun K hK => ?_)
           refine Kd.R_lit_step (Kd.int .i64) _ 3 ?hg (N := 77) ?hd (xs := ([t294, t295] : List Int)) (inner := [.int .i64 t294, .int .i64 t295]) (ok := fun _ => True) (okp := fun _ => True) ?hr ?hp (fun _ hk => hk) trivial (Below.refl _ _) (Nat.le_refl _) (by simp) ?_; (case hd => rfl); (case hg => rfl); (case hr => first | (go_simp; done) | (go_simp; rfl)); (case hp => exact (Reps.one (show Kd.M (Kd.int .i64) _ _ _ t294 [.int .i64 t294] from rfl) (Reps.one (show Kd.M (Kd.int .i64) _ _ _ t295 [.int .i64 t295] from rfl) (Reps.none _ _))))
           intro v297 w53 ho54 hb hg_ hnew_
           clear hg_ hnew_
           (first | rw [← Ny296.out] at ho54 | (simp only [Int.reduceToNat] at ho54; rw [← Ny296.out] at ho54))
           have n0_ := Aside0.mk (Kd.R_elder' (by (with_reducible repeat (first | apply Kd.R_alloc | apply Kd.R_drewN | apply Kd.R_drew)); exact HO_3.out) (Kd.R_base ho54) hb)
           have n1_ := Aside0.mk (Kd.R_lower (Kd.R_new' ho54 (Kd.R_lt (by (with_reducible repeat (first | apply Kd.R_alloc | apply Kd.R_drewN | apply Kd.R_drew)); exact HO_3.out))) (below_size (by repeat (first | (with_reducible first | exact HB.out | apply below_alloc | apply pw_below_drewN | apply below_drew1 | refine below_set ?_ GE274.out) | exact HB.out))))
           have n2_ := Aside0.mk (blk_below (g := gb274) (o := .cells #[.int .i64 a0_0, .int .i64 a0_1, .int .i64 a0_2, .int .i64 a0_3, .int .i64 a0_4, .int .i64 a0_5, .int .i64 a0_6, .int .i64 a0_7, .bool a0_8, .int .i64 a0_9, .int .i64 a0_10, .int .i64 a0_11] 23 (0, 0)) (by (with_reducible repeat first | refine blk_drewN ?_ _ | refine blk_drew ?_ | refine blk_alloc ?_ _); exact BK274.out) hb)
           have n3_ := Aside0.mk (below_step (by repeat (first | (with_reducible first | exact HB.out | apply below_alloc | apply pw_below_drewN | apply below_drew1 | refine below_set ?_ GE274.out) | exact HB.out)) hb)
           clear HO_3
           clear BK274
           clear HB
           have HO_3 := n0_
           have HO298 := n1_
           have BK274 := n2_
           have HB := n3_
           clear n0_ n1_ n2_ n3_
           clear hb ho54
           obtain ⟨Ao56, co56, eo56⟩ := Kd.R_slice HO298.out
           (first | subst eo56 | (injection eo56 with f1_ f2_ f3_; have f4_ := f1_.symm; have f5_ := f3_.symm; clear f1_ f2_ f3_; subst f4_; subst f5_))
           refine hK.out _ _ ⟨(blk_cell BK274.out 0).trans rfl, (blk_cell BK274.out 1).trans rfl, (blk_cell BK274.out 2).trans rfl, (blk_cell BK274.out 3).trans rfl, (blk_cell BK274.out 4).trans rfl, (blk_cell BK274.out 5).trans rfl, (blk_cell BK274.out 6).trans rfl, (blk_cell BK274.out 7).trans rfl, (blk_cell BK274.out 8).trans rfl, (blk_cell BK274.out 9).trans rfl, (blk_cell BK274.out 10).trans rfl, (blk_cell BK274.out 11).trans rfl⟩ (fun hHeld => ?_)
           clear hK K
           refine norm_ (a' := ?_) ?_ ?_
           rotate_left
           ·show Act.put _ (some 77) _ = _
            simp only [Act.put, List.setIfInBounds_toArray, List.set_cons_zero, List.set_cons_succ, i64_w, i32_w]
            rfl
           refine one_ (i := 8) (N := some 78) #[true, true, true, true, true, true, true, true, true, false] rfl rfl (one_of HT_.out (by kernel_rfl)) (by decide) (fun K hK => ?_)
           refine Kd.R_append_rows_step (Kd.int .i64) (w0 := w) w.heap.size (by rfl) (.tmp 70) (.tmp 77) 36 3 (.int .i64 0) 8 rfl Try.underlying36 info3 rfl (by decide) (by omega) u3 x3_3 y296 _ _ _ (fun k_ => some k_ ≠ (.slice Ao56 y296.length co56 : Value).ownBlock) (fun _ => False) rfl rfl ?aO ?aR (fun _ _ h => h) (fun _ h => h.elim) ?aF ?aB ?aS ?aL ?_
           (case aR => repeat (first | exact (Kd.R_reads' HO298.out).2.2 | (with_reducible refine Kd.C_alloc ?_ _) | (with_reducible refine Kd.C_drewN ?_ _) | (with_reducible refine Kd.C_drew ?_)))
           (case aB => exact (by repeat (first | (with_reducible first | exact HB.out | apply below_alloc | apply pw_below_drewN | apply below_drew1 | refine below_set ?_ GE274.out) | exact HB.out)))
           (case aF => exact (fun k_ hk => Kd.fresh' (Kd.R_lt (by (with_reducible repeat (first | apply Kd.R_alloc | apply Kd.R_drewN | apply Kd.R_drew)); exact HO298.out)) k_ hk))
           (case aO => exact (by (with_reducible repeat (first | apply Kd.R_alloc | apply Kd.R_drewN | apply Kd.R_drew)); exact Kd.R_mono HO_3.out (fun _ hk => hk.2)))
           (case aS => exact (below_size (by repeat (first | (with_reducible first | exact HB.out | apply below_alloc | apply pw_below_drewN | apply below_drew1 | refine below_set ?_ GE274.out) | exact HB.out))))
           (case aL => have := LMc48.out; omega)
           intro v300 w55 ho hb hg hat
           rw [← Ny299.out] at ho
           have n0_ := Aside0.mk (blk_grown (g := gb274) (o := .cells #[.int .i64 a0_0, .int .i64 a0_1, .int .i64 a0_2, .int .i64 a0_3, .int .i64 a0_4, .int .i64 a0_5, .int .i64 a0_6, .int .i64 a0_7, .bool a0_8, .int .i64 a0_9, .int .i64 a0_10, .int .i64 a0_11] 23 (0, 0)) (by (with_reducible repeat first | refine blk_drewN ?_ _ | refine blk_drew ?_ | refine blk_alloc ?_ _); exact BK274.out) hg (Kd.R_ne HO_3.out BK274.out (by decide)))
           have n1_ := Aside0.mk (Kd.R_after (ok := (fun _ => True)) (by (with_reducible repeat (first | apply Kd.R_alloc | apply Kd.R_drewN | apply Kd.R_drew)); exact HO298.out) hg hat)
           have n2_ := Aside0.mk (hb)
           have n3_ := Aside0.mk (ho)
           clear BK274
           clear HO298
           clear HB
           clear HO_3
           have BK274 := n0_
           have HO298 := n1_
           have HB := n2_
           have HO301 := n3_
           clear n0_ n1_ n2_ n3_
           clear ho hb hg hat
           refine hK.out _ _ ⟨(blk_cell BK274.out 0).trans rfl, (blk_cell BK274.out 1).trans rfl, (blk_cell BK274.out 2).trans rfl, (blk_cell BK274.out 3).trans rfl, (blk_cell BK274.out 4).trans rfl, (blk_cell BK274.out 5).trans rfl, (blk_cell BK274.out 6).trans rfl, (blk_cell BK274.out 7).trans rfl, (blk_cell BK274.out 8).trans rfl, (blk_cell BK274.out 9).trans rfl, (blk_cell BK274.out 10).trans rfl, (blk_cell BK274.out 11).trans rfl⟩ (fun hHeld => ?_)
           clear hK K
           refine norm_ (a' := ?_) ?_ ?_
           rotate_left
           ·show Act.put _ (some 78) _ = _
            simp only [Act.put, List.setIfInBounds_toArray, List.set_cons_zero, List.set_cons_succ, i64_w, i32_w]
            rfl
           refine pure_ (i := 9) (N := some 3) (v := ?_) (a' := ?_) #[true, true, true, true, true, true, true, true, true, true] rfl rfl (any_of HT_.out (by kernel_rfl)) (fun _ _ _ h => h) (Or.inl ⟨by rfl, ?_⟩) ?_ ?_
           rotate_left
           ·intro w'
            go_simp
            with_reducible rfl
           rotate_left
           ·simp only [Act.put, List.setIfInBounds_toArray, List.set_cons_zero, List.set_cons_succ, i64_w, i32_w]
            rfl
           refine done_ (done_of HT_.out (by kernel_rfl)) ?_
           try go_wp2
           go_roundg k3
           case measure => have := HJ1.out; have := HK2.out; have := HK3.out; omega
           case rel => exact ⟨(y299), (wrap64 (x8_3 + 1)), (by first | rfl | (simp; done) | (simp [*]; done)), H', ⟨by have := HJ1.out; have := HK2.out; have := HK3.out; omega⟩, ⟨by (with_reducible repeat (first | apply Kd.R_alloc | apply Kd.R_drewN | apply Kd.R_drew)); exact Kd.R_mono HO301.out (fun _ hk => trivial)⟩, ⟨by (with_reducible repeat first | refine blk_drewN ?_ _ | refine blk_drew ?_ | refine blk_alloc ?_ _); exact BK274.out⟩, ⟨by repeat (first | (with_reducible first | exact HB.out | apply below_alloc | apply pw_below_drewN | apply below_drew1 | refine below_set ?_ GE274.out) | exact HB.out)⟩⟩
          ·rw [if_neg c48] at H
           exact absurd H (by simp)
         ·rw [if_neg c45] at H
          have c45b0 : decide (x8_3 < a0_0) = false := decide_eq_false c45
          clear c45
          replace H := Option.bind_eq_some_iff.mp H
          obtain ⟨t302, A570, H⟩ := H
          replace H : (if (x3_3.length : Int) = t302 then (millstreamlaw06_ArenaOnce.l5 k3 x3_3 0) else (some false)) = some r := H
          have A57 := Aside0.mk A570
          clear A570
          by_cases c58 : (x3_3.length : Int) = t302
          ·rw [if_pos c58] at H
           have c58b0 : ((x3_3.length : Int) == t302) = true := beq_iff_eq.mpr c58
           have c58b1 : ((x3_3.length : Int) != t302) = false := bne_eq_false_iff_eq.mpr c58
           clear c58
           have H' := Aside0.mk H
           clear H
           have hcz59_0 : wr.cell? ⟨gb274, 0, none⟩ = some (.int .i64 a0_0) := (blk_cell BK274.out 0).trans rfl
           have hcz59_1 : wr.cell? ⟨gb274, 1, none⟩ = some (.int .i64 a0_1) := (blk_cell BK274.out 1).trans rfl
           have hcz59_2 : wr.cell? ⟨gb274, 2, none⟩ = some (.int .i64 a0_2) := (blk_cell BK274.out 2).trans rfl
           have hcz59_3 : wr.cell? ⟨gb274, 3, none⟩ = some (.int .i64 a0_3) := (blk_cell BK274.out 3).trans rfl
           have hcz59_4 : wr.cell? ⟨gb274, 4, none⟩ = some (.int .i64 a0_4) := (blk_cell BK274.out 4).trans rfl
           have hcz59_5 : wr.cell? ⟨gb274, 5, none⟩ = some (.int .i64 a0_5) := (blk_cell BK274.out 5).trans rfl
           have hcz59_6 : wr.cell? ⟨gb274, 6, none⟩ = some (.int .i64 a0_6) := (blk_cell BK274.out 6).trans rfl
           have hcz59_7 : wr.cell? ⟨gb274, 7, none⟩ = some (.int .i64 a0_7) := (blk_cell BK274.out 7).trans rfl
           have hcz59_8 : wr.cell? ⟨gb274, 8, none⟩ = some (.bool a0_8) := (blk_cell BK274.out 8).trans rfl
           have hcz59_9 : wr.cell? ⟨gb274, 9, none⟩ = some (.int .i64 a0_9) := (blk_cell BK274.out 9).trans rfl
           have hcz59_10 : wr.cell? ⟨gb274, 10, none⟩ = some (.int .i64 a0_10) := (blk_cell BK274.out 10).trans rfl
           have hcz59_11 : wr.cell? ⟨gb274, 11, none⟩ = some (.int .i64 a0_11) := (blk_cell BK274.out 11).trans rfl
           have hfz59_0 := blk_frozen BK274.out 0
           have hfz59_1 := blk_frozen BK274.out 1
           have hfz59_2 := blk_frozen BK274.out 2
           have hfz59_3 := blk_frozen BK274.out 3
           have hfz59_4 := blk_frozen BK274.out 4
           have hfz59_5 := blk_frozen BK274.out 5
           have hfz59_6 := blk_frozen BK274.out 6
           have hfz59_7 := blk_frozen BK274.out 7
           have hfz59_8 := blk_frozen BK274.out 8
           have hfz59_9 := blk_frozen BK274.out 9
           have hfz59_10 := blk_frozen BK274.out 10
           have hfz59_11 := blk_frozen BK274.out 11
           obtain ⟨Ao60, co60, eo60⟩ := Kd.R_slice HO_3.out
           subst eo60
           go_wp2_with (first | ((with_reducible refine gate_callee (f := 12) rfl ?_); refine goesL_ (some 82) rfl rfl Try.func12 (by kernel_rfl) rfl #[.agg #[.int .i64 a0_0, .int .i64 a0_1, .int .i64 a0_2, .int .i64 a0_3, .int .i64 a0_4, .int .i64 a0_5, .int .i64 a0_6, .int .i64 a0_7, .bool a0_8, .int .i64 a0_9, .int .i64 a0_10, .int .i64 a0_11]] rfl (by (try simp only [List.map_toArray, List.map_cons, List.map_nil]); first | done | rfl | (simp only [List.length_drop, List.length_take]; rfl)) ?_; (with_reducible refine (arena_Size.calls a0_0 a0_1 a0_2 a0_3 a0_4 a0_5 a0_6 a0_7 a0_8 a0_9 a0_10 a0_11 t302 _ A57.out).mono ?_); rintro e w61 ⟨rfl, hb⟩; refine ⟨_, rfl, ?_⟩; have n0_ := Aside0.mk (Kd.R_below (by (with_reducible repeat (first | apply Kd.R_alloc | apply Kd.R_drewN | apply Kd.R_drew)); exact HO_3.out) hb); have n1_ := Aside0.mk (blk_below (g := gb274) (o := .cells #[.int .i64 a0_0, .int .i64 a0_1, .int .i64 a0_2, .int .i64 a0_3, .int .i64 a0_4, .int .i64 a0_5, .int .i64 a0_6, .int .i64 a0_7, .bool a0_8, .int .i64 a0_9, .int .i64 a0_10, .int .i64 a0_11] 23 (0, 0)) (by (with_reducible repeat first | refine blk_drewN ?_ _ | refine blk_drew ?_ | refine blk_alloc ?_ _); exact BK274.out) hb); have n2_ := Aside0.mk (below_step (by repeat (first | (with_reducible first | exact HB.out | apply below_alloc | apply pw_below_drewN | apply below_drew1 | refine below_set ?_ GE274.out) | exact HB.out)) hb); clear HO_3; clear BK274; clear HB; have HO_3 := n0_; have BK274 := n1_; have HB := n2_; clear n0_ n1_ n2_; (try clear hb); (try clear hb2); (try clear hk); (try clear hi)))
           go_loopg [9] k3 (fun kq v9 w' => ∃ (x9_4 : Int), v9 = .int .i64 x9_4 ∧ Aside0 (millstreamlaw06_ArenaOnce.l5 kq x3_3 x9_4 = some r) ∧ Aside0 (kq ≤ k3) ∧ Aside0 (Kd.R (Kd.int .i64) 3 w' w.heap.size (fun _ => True) (.slice Ao60 x3_3.length co60) x3_3) ∧ Aside0 (w'.heap[gb274]? = some (.cells #[.int .i64 a0_0, .int .i64 a0_1, .int .i64 a0_2, .int .i64 a0_3, .int .i64 a0_4, .int .i64 a0_5, .int .i64 a0_6, .int .i64 a0_7, .bool a0_8, .int .i64 a0_9, .int .i64 a0_10, .int .i64 a0_11] 23 (0, 0))) ∧ Aside0 (Below w.heap.size w w'))
           case atStart => exact ⟨(0), (by first | rfl | (simp; done) | (simp [*]; done)), H', ⟨Nat.le_refl _⟩, ⟨by (with_reducible repeat (first | apply Kd.R_alloc | apply Kd.R_drewN | apply Kd.R_drew)); exact HO_3.out⟩, ⟨by (with_reducible repeat first | refine blk_drewN ?_ _ | refine blk_drew ?_ | refine blk_alloc ?_ _); exact BK274.out⟩, ⟨by repeat (first | (with_reducible first | exact HB.out | apply below_alloc | apply pw_below_drewN | apply below_drew1 | refine below_set ?_ GE274.out) | exact HB.out)⟩⟩
           case round =>
            clear H'
            try clear c1
            try clear c2
            try clear p2
            try clear c3
            try clear c4
            try clear c5
            try clear p6
            try clear c8
            try clear c9
            try clear c11
            try clear c12
            try clear c14
            try clear c16
            try clear c17
            try clear c17b0
            try clear c18
            try clear c19
            try clear c20
            try clear c22
            try clear c24
            try clear c24b0
            try clear c26
            try clear c34
            try clear c34b0
            try clear c36
            try clear c36b0
            try clear c38
            try clear c45
            try clear c45b0
            try clear c48
            try clear c58
            try clear c58b0
            try clear c58b1
            try clear hcz10_0
            try clear hcz10_1
            try clear hcz10_10
            try clear hcz10_11
            try clear hcz10_2
            try clear hcz10_3
            try clear hcz10_4
            try clear hcz10_5
            try clear hcz10_6
            try clear hcz10_7
            try clear hcz10_8
            try clear hcz10_9
            try clear hcz20_0
            try clear hcz20_1
            try clear hcz20_10
            try clear hcz20_11
            try clear hcz20_2
            try clear hcz20_3
            try clear hcz20_4
            try clear hcz20_5
            try clear hcz20_6
            try clear hcz20_7
            try clear hcz20_8
            try clear hcz20_9
            try clear hcz27_0
            try clear hcz27_1
            try clear hcz27_10
            try clear hcz27_11
            try clear hcz27_2
            try clear hcz27_3
            try clear hcz27_4
            try clear hcz27_5
            try clear hcz27_6
            try clear hcz27_7
            try clear hcz27_8
            try clear hcz27_9
            try clear hcz29_0
            try clear hcz29_1
            try clear hcz29_10
            try clear hcz29_11
            try clear hcz29_2
            try clear hcz29_3
            try clear hcz29_4
            try clear hcz29_5
            try clear hcz29_6
            try clear hcz29_7
            try clear hcz29_8
            try clear hcz29_9
            try clear hcz32_0
            try clear hcz32_1
            try clear hcz32_10
            try clear hcz32_11
            try clear hcz32_2
            try clear hcz32_3
            try clear hcz32_4
            try clear hcz32_5
            try clear hcz32_6
            try clear hcz32_7
            try clear hcz32_8
            try clear hcz32_9
            try clear hcz35_0
            try clear hcz35_1
            try clear hcz35_10
            try clear hcz35_11
            try clear hcz35_2
            try clear hcz35_3
            try clear hcz35_4
            try clear hcz35_5
            try clear hcz35_6
            try clear hcz35_7
            try clear hcz35_8
            try clear hcz35_9
            try clear hcz39_0
            try clear hcz39_1
            try clear hcz39_10
            try clear hcz39_11
            try clear hcz39_2
            try clear hcz39_3
            try clear hcz39_4
            try clear hcz39_5
            try clear hcz39_6
            try clear hcz39_7
            try clear hcz39_8
            try clear hcz39_9
            try clear hcz42_0
            try clear hcz42_1
            try clear hcz42_10
            try clear hcz42_11
            try clear hcz42_2
            try clear hcz42_3
            try clear hcz42_4
            try clear hcz42_5
            try clear hcz42_6
            try clear hcz42_7
            try clear hcz42_8
            try clear hcz42_9
            try clear hcz43_0
            try clear hcz43_1
            try clear hcz43_10
            try clear hcz43_11
            try clear hcz43_2
            try clear hcz43_3
            try clear hcz43_4
            try clear hcz43_5
            try clear hcz43_6
            try clear hcz43_7
            try clear hcz43_8
            try clear hcz43_9
            try clear hcz44_0
            try clear hcz44_1
            try clear hcz44_10
            try clear hcz44_11
            try clear hcz44_2
            try clear hcz44_3
            try clear hcz44_4
            try clear hcz44_5
            try clear hcz44_6
            try clear hcz44_7
            try clear hcz44_8
            try clear hcz44_9
            try clear hcz49_0
            try clear hcz49_1
            try clear hcz49_10
            try clear hcz49_11
            try clear hcz49_2
            try clear hcz49_3
            try clear hcz49_4
            try clear hcz49_5
            try clear hcz49_6
            try clear hcz49_7
            try clear hcz49_8
            try clear hcz49_9
            try clear hcz59_0
            try clear hcz59_1
            try clear hcz59_10
            try clear hcz59_11
            try clear hcz59_2
            try clear hcz59_3
            try clear hcz59_4
            try clear hcz59_5
            try clear hcz59_6
            try clear hcz59_7
            try clear hcz59_8
            try clear hcz59_9
            try clear hcz7_0
            try clear hcz7_1
            try clear hcz7_10
            try clear hcz7_11
            try clear hcz7_2
            try clear hcz7_3
            try clear hcz7_4
            try clear hcz7_5
            try clear hcz7_6
            try clear hcz7_7
            try clear hcz7_8
            try clear hcz7_9
            try clear hfz10_0
            try clear hfz10_1
            try clear hfz10_10
            try clear hfz10_11
            try clear hfz10_2
            try clear hfz10_3
            try clear hfz10_4
            try clear hfz10_5
            try clear hfz10_6
            try clear hfz10_7
            try clear hfz10_8
            try clear hfz10_9
            try clear hfz20_0
            try clear hfz20_1
            try clear hfz20_10
            try clear hfz20_11
            try clear hfz20_2
            try clear hfz20_3
            try clear hfz20_4
            try clear hfz20_5
            try clear hfz20_6
            try clear hfz20_7
            try clear hfz20_8
            try clear hfz20_9
            try clear hfz27_0
            try clear hfz27_1
            try clear hfz27_10
            try clear hfz27_11
            try clear hfz27_2
            try clear hfz27_3
            try clear hfz27_4
            try clear hfz27_5
            try clear hfz27_6
            try clear hfz27_7
            try clear hfz27_8
            try clear hfz27_9
            try clear hfz29_0
            try clear hfz29_1
            try clear hfz29_10
            try clear hfz29_11
            try clear hfz29_2
            try clear hfz29_3
            try clear hfz29_4
            try clear hfz29_5
            try clear hfz29_6
            try clear hfz29_7
            try clear hfz29_8
            try clear hfz29_9
            try clear hfz32_0
            try clear hfz32_1
            try clear hfz32_10
            try clear hfz32_11
            try clear hfz32_2
            try clear hfz32_3
            try clear hfz32_4
            try clear hfz32_5
            try clear hfz32_6
            try clear hfz32_7
            try clear hfz32_8
            try clear hfz32_9
            try clear hfz35_0
            try clear hfz35_1
            try clear hfz35_10
            try clear hfz35_11
            try clear hfz35_2
            try clear hfz35_3
            try clear hfz35_4
            try clear hfz35_5
            try clear hfz35_6
            try clear hfz35_7
            try clear hfz35_8
            try clear hfz35_9
            try clear hfz39_0
            try clear hfz39_1
            try clear hfz39_10
            try clear hfz39_11
            try clear hfz39_2
            try clear hfz39_3
            try clear hfz39_4
            try clear hfz39_5
            try clear hfz39_6
            try clear hfz39_7
            try clear hfz39_8
            try clear hfz39_9
            try clear hfz42_0
            try clear hfz42_1
            try clear hfz42_10
            try clear hfz42_11
            try clear hfz42_2
            try clear hfz42_3
            try clear hfz42_4
            try clear hfz42_5
            try clear hfz42_6
            try clear hfz42_7
            try clear hfz42_8
            try clear hfz42_9
            try clear hfz43_0
            try clear hfz43_1
            try clear hfz43_10
            try clear hfz43_11
            try clear hfz43_2
            try clear hfz43_3
            try clear hfz43_4
            try clear hfz43_5
            try clear hfz43_6
            try clear hfz43_7
            try clear hfz43_8
            try clear hfz43_9
            try clear hfz44_0
            try clear hfz44_1
            try clear hfz44_10
            try clear hfz44_11
            try clear hfz44_2
            try clear hfz44_3
            try clear hfz44_4
            try clear hfz44_5
            try clear hfz44_6
            try clear hfz44_7
            try clear hfz44_8
            try clear hfz44_9
            try clear hfz49_0
            try clear hfz49_1
            try clear hfz49_10
            try clear hfz49_11
            try clear hfz49_2
            try clear hfz49_3
            try clear hfz49_4
            try clear hfz49_5
            try clear hfz49_6
            try clear hfz49_7
            try clear hfz49_8
            try clear hfz49_9
            try clear hfz59_0
            try clear hfz59_1
            try clear hfz59_10
            try clear hfz59_11
            try clear hfz59_2
            try clear hfz59_3
            try clear hfz59_4
            try clear hfz59_5
            try clear hfz59_6
            try clear hfz59_7
            try clear hfz59_8
            try clear hfz59_9
            try clear hfz7_0
            try clear hfz7_1
            try clear hfz7_10
            try clear hfz7_11
            try clear hfz7_2
            try clear hfz7_3
            try clear hfz7_4
            try clear hfz7_5
            try clear hfz7_6
            try clear hfz7_7
            try clear hfz7_8
            try clear hfz7_9
            try clear p2
            try clear p6
            obtain ⟨x9_4, rfl, HA, HK4, HO_3, BK274, HB⟩ := hrel
            cases gk with
            | zero => exact absurd HA.out (by simp [millstreamlaw06_ArenaOnce.l5])
            | succ k4 =>
             have H := HA.out
             clear HA
             simp only [millstreamlaw06_ArenaOnce.l5] at H
             by_cases c62 : x9_4 < (x3_3.length : Int)
             ·rw [if_pos c62] at H
              have c62b0 : decide (x9_4 < (x3_3.length : Int)) = true := decide_eq_true c62
              clear c62
              by_cases c63 : 0 ≤ x9_4
              ·rw [if_pos c63] at H
               have c63b0 : decide (0 ≤ x9_4) = true := decide_eq_true c63
               clear c63
               by_cases c64 : (rd x3_3 x9_4) = x9_4
               ·rw [if_pos c64] at H
                have c64b0 : ((rd x3_3 x9_4) == x9_4) = true := beq_iff_eq.mpr c64
                have c64b1 : ((rd x3_3 x9_4) != x9_4) = false := bne_eq_false_iff_eq.mpr c64
                clear c64
                have H' := Aside0.mk H
                clear H
                have p303 : 0 ≤ (x9_4 : Int) := of_decide_eq_true (by first | (with_reducible assumption) | assumption)
                have q303 : x9_4 < (x3_3.length : Int) := of_decide_eq_true (by first | (with_reducible assumption) | assumption)
                obtain ⟨ad303, e303, hx303_0⟩ := Kd.at_int (Kd.R_reads' HO_3.out).2.2 x9_4 p303 q303
                cases e303
                replace p303 := eq_true p303
                replace q303 := eq_true q303
                go_wp2
                go_roundg k4
                case measure => have := HJ1.out; have := HK2.out; have := HK3.out; have := HK4.out; omega
                case rel => exact ⟨(wrap64 (x9_4 + 1)), (by first | rfl | (simp; done) | (simp [*]; done)), H', ⟨by have := HJ1.out; have := HK2.out; have := HK3.out; have := HK4.out; omega⟩, ⟨by (with_reducible repeat (first | apply Kd.R_alloc | apply Kd.R_drewN | apply Kd.R_drew)); exact HO_3.out⟩, ⟨by (with_reducible repeat first | refine blk_drewN ?_ _ | refine blk_drew ?_ | refine blk_alloc ?_ _); exact BK274.out⟩, ⟨by repeat (first | (with_reducible first | exact HB.out | apply below_alloc | apply pw_below_drewN | apply below_drew1 | refine below_set ?_ GE274.out) | exact HB.out)⟩⟩
               ·rw [if_neg c64] at H
                have c64b0 : ((rd x3_3 x9_4) == x9_4) = false := beq_eq_false_iff_ne.mpr c64
                have c64b1 : ((rd x3_3 x9_4) != x9_4) = true := bne_iff_ne.mpr c64
                exact absurd ((Option.some.inj H).trans hr_.out) (by decide)
              ·rw [if_neg c63] at H
               exact absurd H (by simp)
             ·rw [if_neg c62] at H
              have c62b0 : decide (x9_4 < (x3_3.length : Int)) = false := decide_eq_false c62
              clear c62
              clear hr_
              obtain rfl := Option.some.inj H
              go_wp2
              go_ret
              exact ⟨by first | rfl | (simp [errW_none, errW_some] <;> rfl) | (simp [*, errW_none, errW_some] <;> rfl), by repeat (first | (with_reducible first | exact HB.out | apply below_alloc | apply pw_below_drewN | apply below_drew1 | refine below_set ?_ GE274.out) | exact HB.out)⟩
          ·rw [if_neg c58] at H
           have c58b0 : ((x3_3.length : Int) == t302) = false := beq_eq_false_iff_ne.mpr c58
           have c58b1 : ((x3_3.length : Int) != t302) = true := bne_iff_ne.mpr c58
           exact absurd ((Option.some.inj H).trans hr_.out) (by decide)

end Go.Proofs.Ytdfcioadccijfaa.PA
