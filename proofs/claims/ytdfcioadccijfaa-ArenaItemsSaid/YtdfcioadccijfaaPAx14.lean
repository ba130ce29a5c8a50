-- Laid by a program of this session over the kit's print; hand-proved functions stand among them. Not trusted: Lean checks it.
import Derived.Test.YtdfcioadccijfaaPAx0
import Derived.Test.YtdfcioadccijfaaPAx2
import Derived.Test.YtdfcioadccijfaaPAx4
namespace Go.Proofs.Ytdfcioadccijfaa.PA
open Go.RowKit Go.Proofs.YtdfcioadccijfaaW.PrintWords Go.Proofs.YtdfcioadccijfaaW.PrintLast Go.Proofs.YtdfcioadccijfaaW.PrintMore
attribute [local go_sem] max2_int min2_int max_two min_two max_three min_three max_four min_four   -- for this text's walks alone
set_option linter.unusedVariables false
set_option linter.unusedSimpArgs false

/-! ### millstreamlaw06_ArenaItems: function 6 -/
mutual
def millstreamlaw06_ArenaItems.j0 : Nat → Bool → Int → Int → Int → Int → Int → Int → Int → Int → Bool → Int → Int → Int → Option (Bool)
 | 0, _, _, _, _, _, _, _, _, _, _, _, _, _ => none
 | k + 1, x13, x305000, x305001, x305002, x305003, x305004, x305005, x305006, x305007, x305008, x305009, x305010, x305011 => if x13 = true then ((millstreamlaw06_shown.f k).bind fun t307 => (some t307)) else ((arena_Nodes.f x305000 x305001 x305002 x305003 x305004 x305005 x305006 x305007 x305008 x305009 x305010 x305011).bind fun t308 => (millstreamlaw06_ArenaItems.l0 k (wrap64 ((wrap64 (1 + t308)) + (wrap64 (x305004 * x305005)))) 1 x305000 x305001 x305002 x305003 x305004 x305005 x305006 x305007 x305008 x305009 x305010 x305011))
def millstreamlaw06_ArenaItems.l0 : Nat → Int → Int → Int → Int → Int → Int → Int → Int → Int → Int → Bool → Int → Int → Int → Option (Bool)
 | 0, _, _, _, _, _, _, _, _, _, _, _, _, _, _ => none
 | k + 1, x3, x4, x305000, x305001, x305002, x305003, x305004, x305005, x305006, x305007, x305008, x305009, x305010, x305011 => if x4 < x305001 then ((arena_Cell.f x305000 x305001 x305002 x305003 x305004 x305005 x305006 x305007 x305008 x305009 x305010 x305011 x4).bind fun t312 => ((arena_Cell.f x305000 x305001 x305002 x305003 x305004 x305005 x305006 x305007 x305008 x305009 x305010 x305011 (wrap64 (x4 - 1))).bind fun t313 => (if (wrap64 (t312 - t313)) = x3 then (millstreamlaw06_ArenaItems.l1 k x3 x4 1 x305000 x305001 x305002 x305003 x305004 x305005 x305006 x305007 x305008 x305009 x305010 x305011) else (some false)))) else ((arena_Line.f x305000 x305001 x305002 x305003 x305004 x305005 x305006 x305007 x305008 x305009 x305010 x305011 0).bind fun t309 => (if t309 = (wrap64 (x3 * x305001)) then ((arena_Result.f x305000 x305001 x305002 x305003 x305004 x305005 x305006 x305007 x305008 x305009 x305010 x305011 (wrap64 (x305000 - 1))).bind fun t310 => ((arena_Size.f x305000 x305001 x305002 x305003 x305004 x305005 x305006 x305007 x305008 x305009 x305010 x305011).bind fun t311 => (some (t310 == (wrap64 (t311 - 1)))))) else (some false)))
def millstreamlaw06_ArenaItems.l1 : Nat → Int → Int → Int → Int → Int → Int → Int → Int → Int → Int → Int → Bool → Int → Int → Int → Option (Bool)
 | 0, _, _, _, _, _, _, _, _, _, _, _, _, _, _, _ => none
 | k + 1, x3, x4, x5, x305000, x305001, x305002, x305003, x305004, x305005, x305006, x305007, x305008, x305009, x305010, x305011 => (millstreamref06_Nodes.f k x305000 x305001 x305002 x305003 x305004 x305005 x305006 x305007 x305008 x305009 x305010 x305011).bind fun t314 => (if x5 ≤ t314 then ((arena_Node.f x305000 x305001 x305002 x305003 x305004 x305005 x305006 x305007 x305008 x305009 x305010 x305011 x4 x5).bind fun t315 => ((arena_Node.f x305000 x305001 x305002 x305003 x305004 x305005 x305006 x305007 x305008 x305009 x305010 x305011 (wrap64 (x4 - 1)) x5).bind fun t316 => (if (wrap64 (t315 - t316)) = x3 then (millstreamlaw06_ArenaItems.l1 k x3 x4 (wrap64 (x5 + 1)) x305000 x305001 x305002 x305003 x305004 x305005 x305006 x305007 x305008 x305009 x305010 x305011) else (some false)))) else (millstreamlaw06_ArenaItems.l2 k x3 x4 1 x305000 x305001 x305002 x305003 x305004 x305005 x305006 x305007 x305008 x305009 x305010 x305011))
def millstreamlaw06_ArenaItems.l2 : Nat → Int → Int → Int → Int → Int → Int → Int → Int → Int → Int → Int → Bool → Int → Int → Int → Option (Bool)
 | 0, _, _, _, _, _, _, _, _, _, _, _, _, _, _, _ => none
 | k + 1, x3, x4, x6, x305000, x305001, x305002, x305003, x305004, x305005, x305006, x305007, x305008, x305009, x305010, x305011 => if x6 ≤ x305004 then ((arena_Slot.f x305000 x305001 x305002 x305003 x305004 x305005 x305006 x305007 x305008 x305009 x305010 x305011 x4 x6 (wrap64 (x305005 - 1))).bind fun t317 => ((arena_Slot.f x305000 x305001 x305002 x305003 x305004 x305005 x305006 x305007 x305008 x305009 x305010 x305011 (wrap64 (x4 - 1)) x6 (wrap64 (x305005 - 1))).bind fun t318 => (if (wrap64 (t317 - t318)) = x3 then (millstreamlaw06_ArenaItems.l2 k x3 x4 (wrap64 (x6 + 1)) x305000 x305001 x305002 x305003 x305004 x305005 x305006 x305007 x305008 x305009 x305010 x305011) else (some false)))) else (millstreamlaw06_ArenaItems.l0 k x3 (wrap64 (x4 + 1)) x305000 x305001 x305002 x305003 x305004 x305005 x305006 x305007 x305008 x305009 x305010 x305011)
end
def millstreamlaw06_ArenaItems.f (k : Nat) (a0_0 : Int) (a0_1 : Int) (a0_2 : Int) (a0_3 : Int) (a0_4 : Int) (a0_5 : Int) (a0_6 : Int) (a0_7 : Int) (a0_8 : Bool) (a0_9 : Int) (a0_10 : Int) (a0_11 : Int) : Option (Bool) := (millstreamlaw06_may.f a0_0 a0_1 a0_2 a0_3 a0_4 a0_5 a0_6 a0_7 a0_8 a0_9 a0_10 a0_11).bind fun t305 => (if t305 = true then ((millstreamlaw06_shown.f k).bind fun t306 => (millstreamlaw06_ArenaItems.j0 k (!t306) a0_0 a0_1 a0_2 a0_3 a0_4 a0_5 a0_6 a0_7 a0_8 a0_9 a0_10 a0_11)) else (millstreamlaw06_ArenaItems.j0 k true a0_0 a0_1 a0_2 a0_3 a0_4 a0_5 a0_6 a0_7 a0_8 a0_9 a0_10 a0_11))
theorem millstreamlaw06_ArenaItems.mono_l : ∀ k, (∀ y0 y1 y2 y3 y4 y5 y6 y7 y8 y9 y10 y11 y12, LeO (millstreamlaw06_ArenaItems.j0 k y0 y1 y2 y3 y4 y5 y6 y7 y8 y9 y10 y11 y12) (millstreamlaw06_ArenaItems.j0 (k + 1) y0 y1 y2 y3 y4 y5 y6 y7 y8 y9 y10 y11 y12)) ∧ (∀ y0 y1 y2 y3 y4 y5 y6 y7 y8 y9 y10 y11 y12 y13, LeO (millstreamlaw06_ArenaItems.l0 k y0 y1 y2 y3 y4 y5 y6 y7 y8 y9 y10 y11 y12 y13) (millstreamlaw06_ArenaItems.l0 (k + 1) y0 y1 y2 y3 y4 y5 y6 y7 y8 y9 y10 y11 y12 y13)) ∧ (∀ y0 y1 y2 y3 y4 y5 y6 y7 y8 y9 y10 y11 y12 y13 y14, LeO (millstreamlaw06_ArenaItems.l1 k y0 y1 y2 y3 y4 y5 y6 y7 y8 y9 y10 y11 y12 y13 y14) (millstreamlaw06_ArenaItems.l1 (k + 1) y0 y1 y2 y3 y4 y5 y6 y7 y8 y9 y10 y11 y12 y13 y14)) ∧ (∀ y0 y1 y2 y3 y4 y5 y6 y7 y8 y9 y10 y11 y12 y13 y14, LeO (millstreamlaw06_ArenaItems.l2 k y0 y1 y2 y3 y4 y5 y6 y7 y8 y9 y10 y11 y12 y13 y14) (millstreamlaw06_ArenaItems.l2 (k + 1) y0 y1 y2 y3 y4 y5 y6 y7 y8 y9 y10 y11 y12 y13 y14))
 | 0 => ⟨fun _ _ _ _ _ _ _ _ _ _ _ _ _ r h => by simp [millstreamlaw06_ArenaItems.j0] at h, fun _ _ _ _ _ _ _ _ _ _ _ _ _ _ r h => by simp [millstreamlaw06_ArenaItems.l0] at h, fun _ _ _ _ _ _ _ _ _ _ _ _ _ _ _ r h => by simp [millstreamlaw06_ArenaItems.l1] at h, fun _ _ _ _ _ _ _ _ _ _ _ _ _ _ _ r h => by simp [millstreamlaw06_ArenaItems.l2] at h⟩
 | k + 1 => by
  obtain ⟨ih0, ih1, ih2, ih3⟩ := millstreamlaw06_ArenaItems.mono_l k
  refine ⟨?_, ?_, ?_, ?_⟩
  ·intro y0 y1 y2 y3 y4 y5 y6 y7 y8 y9 y10 y11 y12
   unfold millstreamlaw06_ArenaItems.j0
   repeat' first
   | (with_reducible exact ih0 _ _ _ _ _ _ _ _ _ _ _ _ _)
   | (with_reducible exact ih1 _ _ _ _ _ _ _ _ _ _ _ _ _ _)
   | (with_reducible exact ih2 _ _ _ _ _ _ _ _ _ _ _ _ _ _ _)
   | (with_reducible exact ih3 _ _ _ _ _ _ _ _ _ _ _ _ _ _ _)
   | (with_reducible exact millstreamlaw06_shown.mono _)
   | (with_reducible exact millstreamref06_Nodes.mono _ _ _ _ _ _ _ _ _ _ _ _ _)
   | (with_reducible exact LeO.refl _)
   | (with_reducible exact LeO.none _)
   | (with_reducible refine LeO.ite ?_ ?_)
   | (with_reducible refine LeO.bind ?_ (fun _ => ?_))
   | exact ih0 _ _ _ _ _ _ _ _ _ _ _ _ _
   | exact ih1 _ _ _ _ _ _ _ _ _ _ _ _ _ _
   | exact ih2 _ _ _ _ _ _ _ _ _ _ _ _ _ _ _
   | exact ih3 _ _ _ _ _ _ _ _ _ _ _ _ _ _ _
   | exact millstreamlaw06_shown.mono _
   | exact millstreamref06_Nodes.mono _ _ _ _ _ _ _ _ _ _ _ _ _
   | exact LeO.none _
   | refine LeO.ite ?_ ?_
   | refine LeO.bind ?_ (fun _ => ?_)
  ·intro y0 y1 y2 y3 y4 y5 y6 y7 y8 y9 y10 y11 y12 y13
   unfold millstreamlaw06_ArenaItems.l0
   repeat' first
   | (with_reducible exact ih0 _ _ _ _ _ _ _ _ _ _ _ _ _)
   | (with_reducible exact ih1 _ _ _ _ _ _ _ _ _ _ _ _ _ _)
   | (with_reducible exact ih2 _ _ _ _ _ _ _ _ _ _ _ _ _ _ _)
   | (with_reducible exact ih3 _ _ _ _ _ _ _ _ _ _ _ _ _ _ _)
   | (with_reducible exact millstreamlaw06_shown.mono _)
   | (with_reducible exact millstreamref06_Nodes.mono _ _ _ _ _ _ _ _ _ _ _ _ _)
   | (with_reducible exact LeO.refl _)
   | (with_reducible exact LeO.none _)
   | (with_reducible refine LeO.ite ?_ ?_)
   | (with_reducible refine LeO.bind ?_ (fun _ => ?_))
   | exact ih0 _ _ _ _ _ _ _ _ _ _ _ _ _
   | exact ih1 _ _ _ _ _ _ _ _ _ _ _ _ _ _
   | exact ih2 _ _ _ _ _ _ _ _ _ _ _ _ _ _ _
   | exact ih3 _ _ _ _ _ _ _ _ _ _ _ _ _ _ _
   | exact millstreamlaw06_shown.mono _
   | exact millstreamref06_Nodes.mono _ _ _ _ _ _ _ _ _ _ _ _ _
   | exact LeO.none _
   | refine LeO.ite ?_ ?_
   | refine LeO.bind ?_ (fun _ => ?_)
  ·intro y0 y1 y2 y3 y4 y5 y6 y7 y8 y9 y10 y11 y12 y13 y14
   unfold millstreamlaw06_ArenaItems.l1
   repeat' first
   | (with_reducible exact ih0 _ _ _ _ _ _ _ _ _ _ _ _ _)
   | (with_reducible exact ih1 _ _ _ _ _ _ _ _ _ _ _ _ _ _)
   | (with_reducible exact ih2 _ _ _ _ _ _ _ _ _ _ _ _ _ _ _)
   | (with_reducible exact ih3 _ _ _ _ _ _ _ _ _ _ _ _ _ _ _)
   | (with_reducible exact millstreamlaw06_shown.mono _)
   | (with_reducible exact millstreamref06_Nodes.mono _ _ _ _ _ _ _ _ _ _ _ _ _)
   | (with_reducible exact LeO.refl _)
   | (with_reducible exact LeO.none _)
   | (with_reducible refine LeO.ite ?_ ?_)
   | (with_reducible refine LeO.bind ?_ (fun _ => ?_))
   | exact ih0 _ _ _ _ _ _ _ _ _ _ _ _ _
   | exact ih1 _ _ _ _ _ _ _ _ _ _ _ _ _ _
   | exact ih2 _ _ _ _ _ _ _ _ _ _ _ _ _ _ _
   | exact ih3 _ _ _ _ _ _ _ _ _ _ _ _ _ _ _
   | exact millstreamlaw06_shown.mono _
   | exact millstreamref06_Nodes.mono _ _ _ _ _ _ _ _ _ _ _ _ _
   | exact LeO.none _
   | refine LeO.ite ?_ ?_
   | refine LeO.bind ?_ (fun _ => ?_)
  ·intro y0 y1 y2 y3 y4 y5 y6 y7 y8 y9 y10 y11 y12 y13 y14
   unfold millstreamlaw06_ArenaItems.l2
   repeat' first
   | (with_reducible exact ih0 _ _ _ _ _ _ _ _ _ _ _ _ _)
   | (with_reducible exact ih1 _ _ _ _ _ _ _ _ _ _ _ _ _ _)
   | (with_reducible exact ih2 _ _ _ _ _ _ _ _ _ _ _ _ _ _ _)
   | (with_reducible exact ih3 _ _ _ _ _ _ _ _ _ _ _ _ _ _ _)
   | (with_reducible exact millstreamlaw06_shown.mono _)
   | (with_reducible exact millstreamref06_Nodes.mono _ _ _ _ _ _ _ _ _ _ _ _ _)
   | (with_reducible exact LeO.refl _)
   | (with_reducible exact LeO.none _)
   | (with_reducible refine LeO.ite ?_ ?_)
   | (with_reducible refine LeO.bind ?_ (fun _ => ?_))
   | exact ih0 _ _ _ _ _ _ _ _ _ _ _ _ _
   | exact ih1 _ _ _ _ _ _ _ _ _ _ _ _ _ _
   | exact ih2 _ _ _ _ _ _ _ _ _ _ _ _ _ _ _
   | exact ih3 _ _ _ _ _ _ _ _ _ _ _ _ _ _ _
   | exact millstreamlaw06_shown.mono _
   | exact millstreamref06_Nodes.mono _ _ _ _ _ _ _ _ _ _ _ _ _
   | exact LeO.none _
   | refine LeO.ite ?_ ?_
   | refine LeO.bind ?_ (fun _ => ?_)
theorem millstreamlaw06_ArenaItems.mono : ∀ a0 a1 a2 a3 a4 a5 a6 a7 a8 a9 a10 a11 k, LeO (millstreamlaw06_ArenaItems.f k a0 a1 a2 a3 a4 a5 a6 a7 a8 a9 a10 a11) (millstreamlaw06_ArenaItems.f (k + 1) a0 a1 a2 a3 a4 a5 a6 a7 a8 a9 a10 a11) := by
 intro a0 a1 a2 a3 a4 a5 a6 a7 a8 a9 a10 a11 k
 obtain ⟨ih0, ih1, ih2, ih3⟩ := millstreamlaw06_ArenaItems.mono_l k
 unfold millstreamlaw06_ArenaItems.f
 repeat' first
   | (with_reducible exact ih0 _ _ _ _ _ _ _ _ _ _ _ _ _)
   | (with_reducible exact ih1 _ _ _ _ _ _ _ _ _ _ _ _ _ _)
   | (with_reducible exact ih2 _ _ _ _ _ _ _ _ _ _ _ _ _ _ _)
   | (with_reducible exact ih3 _ _ _ _ _ _ _ _ _ _ _ _ _ _ _)
   | (with_reducible exact millstreamlaw06_shown.mono _)
   | (with_reducible exact millstreamref06_Nodes.mono _ _ _ _ _ _ _ _ _ _ _ _ _)
   | (with_reducible exact LeO.refl _)
   | (with_reducible exact LeO.none _)
   | (with_reducible refine LeO.ite ?_ ?_)
   | (with_reducible refine LeO.bind ?_ (fun _ => ?_))
   | exact ih0 _ _ _ _ _ _ _ _ _ _ _ _ _
   | exact ih1 _ _ _ _ _ _ _ _ _ _ _ _ _ _
   | exact ih2 _ _ _ _ _ _ _ _ _ _ _ _ _ _ _
   | exact ih3 _ _ _ _ _ _ _ _ _ _ _ _ _ _ _
   | exact millstreamlaw06_shown.mono _
   | exact millstreamref06_Nodes.mono _ _ _ _ _ _ _ _ _ _ _ _ _
   | exact LeO.none _
   | refine LeO.ite ?_ ?_
   | refine LeO.bind ?_ (fun _ => ?_)
def millstreamlaw06_ArenaItems.T3 : Bool × List (List Nat × List Nat) := (true, [([], []), ([0], [0]), ([1], [1]), ([], []), ([3], [3]), ([], []), ([5], [5]), ([4, 6], [4, 6]), ([2, 7], [2, 7]), ([8, 1, 0, 1, 2, 3, 4, 5, 6, 7, 8], [8])])
def millstreamlaw06_ArenaItems.B3 : List Nat := [0, 1, 3, 0, 8, 0, 32, 120, 255, 511]
theorem millstreamlaw06_ArenaItems.tab3 : rtab .any (opsOf Try.f6 3) = millstreamlaw06_ArenaItems.T3 := by kernel_rfl
theorem millstreamlaw06_ArenaItems.bits3 : waitsOk millstreamlaw06_ArenaItems.T3.2 millstreamlaw06_ArenaItems.B3 = true := by kernel_rfl
def millstreamlaw06_ArenaItems.T7 : Bool × List (List Nat × List Nat) := (true, [([], []), ([], []), ([0, 1], [0, 1]), ([], []), ([], []), ([4], [4]), ([3, 5, 2], [3, 5]), ([2, 6], [2, 6]), ([], []), ([7, 8], [7, 8])])
def millstreamlaw06_ArenaItems.B7 : List Nat := [0, 0, 3, 0, 0, 16, 63, 127, 0, 511]
theorem millstreamlaw06_ArenaItems.tab7 : rtab .any (opsOf Try.f6 7) = millstreamlaw06_ArenaItems.T7 := by kernel_rfl
theorem millstreamlaw06_ArenaItems.bits7 : waitsOk millstreamlaw06_ArenaItems.T7.2 millstreamlaw06_ArenaItems.B7 = true := by kernel_rfl
def millstreamlaw06_ArenaItems.T12 : Bool × List (List Nat × List Nat) := (true, [([], []), ([], []), ([], []), ([0, 1, 2], [0, 1, 2]), ([], []), ([], []), ([5], [5]), ([], []), ([4, 6, 7, 3], [4, 6, 7]), ([3, 8], [3, 8]), ([], []), ([9, 10], [9, 10])])
def millstreamlaw06_ArenaItems.B12 : List Nat := [0, 0, 0, 7, 0, 0, 32, 0, 255, 511, 0, 2047]
theorem millstreamlaw06_ArenaItems.tab12 : rtab .any (opsOf Try.f6 12) = millstreamlaw06_ArenaItems.T12 := by kernel_rfl
theorem millstreamlaw06_ArenaItems.bits12 : waitsOk millstreamlaw06_ArenaItems.T12.2 millstreamlaw06_ArenaItems.B12 = true := by kernel_rfl
def millstreamlaw06_ArenaItems.T17 : Bool × List (List Nat × List Nat) := (true, [([], []), ([], []), ([], []), ([], []), ([3], [3]), ([4], [4]), ([0, 1, 2, 5], [0, 1, 2, 5]), ([], []), ([], []), ([8], [8]), ([], []), ([], []), ([11], [11]), ([12], [12]), ([7, 9, 10, 13, 6], [7, 9, 10, 13]), ([6, 14], [6, 14]), ([], []), ([15, 16], [15, 16])])
def millstreamlaw06_ArenaItems.B17 : List Nat := [0, 0, 0, 0, 8, 24, 63, 0, 0, 256, 0, 0, 2048, 6144, 16383, 32767, 0, 131071]
theorem millstreamlaw06_ArenaItems.tab17 : rtab .any (opsOf Try.f6 17) = millstreamlaw06_ArenaItems.T17 := by kernel_rfl
theorem millstreamlaw06_ArenaItems.bits17 : waitsOk millstreamlaw06_ArenaItems.T17.2 millstreamlaw06_ArenaItems.B17 = true := by kernel_rfl
def millstreamlaw06_ArenaItems.T19 : Bool × List (List Nat × List Nat) := (true, [([], []), ([0], [0]), ([], []), ([], []), ([3], [3]), ([2, 4], [2, 4]), ([1, 5], [1, 5]), ([6, 1], [6]), ([7], [7]), ([7], [7]), ([9, 7], [7, 9]), ([10, 7], [7, 10]), ([8, 11, 7, 7], [7, 8, 11]), ([7], [7]), ([13, 12, 7], [7, 13]), ([14, 7], [7, 14]), ([12, 15, 7], [7, 12, 15]), ([7, 16], [7, 16]), ([17, 14, 0, 1, 2, 3, 4, 5, 6, 7, 8, 9, 10, 11, 12, 13, 14, 15, 16, 17], [17])])
def millstreamlaw06_ArenaItems.B19 : List Nat := [0, 1, 0, 0, 8, 28, 63, 127, 255, 255, 767, 1791, 4095, 255, 16383, 32767, 65535, 131071, 262143]
theorem millstreamlaw06_ArenaItems.tab19 : rtab .any (opsOf Try.f6 19) = millstreamlaw06_ArenaItems.T19 := by kernel_rfl
theorem millstreamlaw06_ArenaItems.bits19 : waitsOk millstreamlaw06_ArenaItems.T19.2 millstreamlaw06_ArenaItems.B19 = true := by kernel_rfl
set_option maxHeartbeats 60000000 in
set_option maxRecDepth 100000 in
theorem millstreamlaw06_ArenaItems.calls (k : Nat) (a0_0 : Int) (a0_1 : Int) (a0_2 : Int) (a0_3 : Int) (a0_4 : Int) (a0_5 : Int) (a0_6 : Int) (a0_7 : Int) (a0_8 : Bool) (a0_9 : Int) (a0_10 : Int) (a0_11 : Int) (r : Bool) (w : World) (h : millstreamlaw06_ArenaItems.f k a0_0 a0_1 a0_2 a0_3 a0_4 a0_5 a0_6 a0_7 a0_8 a0_9 a0_10 a0_11 = some r) (hr_ : Aside0 (r = true)) :
  Calls Try.prog 6 #[.agg #[.int .i64 a0_0, .int .i64 a0_1, .int .i64 a0_2, .int .i64 a0_3, .int .i64 a0_4, .int .i64 a0_5, .int .i64 a0_6, .int .i64 a0_7, .bool a0_8, .int .i64 a0_9, .int .i64 a0_10, .int .i64 a0_11]] w fun e w' => e = .returned (.bool r) ∧ Below w.heap.size w w' := by
 have hu23 := Try.underlying23
 have HB := Aside0.mk (Below.refl w.heap.size w)
 have H : ((millstreamlaw06_may.f a0_0 a0_1 a0_2 a0_3 a0_4 a0_5 a0_6 a0_7 a0_8 a0_9 a0_10 a0_11).bind fun t305 => (if t305 = true then ((millstreamlaw06_shown.f k).bind fun t306 => (millstreamlaw06_ArenaItems.j0 k (!t306) a0_0 a0_1 a0_2 a0_3 a0_4 a0_5 a0_6 a0_7 a0_8 a0_9 a0_10 a0_11)) else (millstreamlaw06_ArenaItems.j0 k true a0_0 a0_1 a0_2 a0_3 a0_4 a0_5 a0_6 a0_7 a0_8 a0_9 a0_10 a0_11))) = some r := h
 clear h
 have HC2 := Aside0.mk H
 clear H
 go_enter Try.func6, Try.ntmps6
 go_upto_region 1 with (first | ((with_reducible refine gate_dst (N := 1) rfl ?_); refine box_event ?hg (N := 1) ?hd (cs := #[.int .i64 a0_0, .int .i64 a0_1, .int .i64 a0_2, .int .i64 a0_3, .int .i64 a0_4, .int .i64 a0_5, .int .i64 a0_6, .int .i64 a0_7, .bool a0_8, .int .i64 a0_9, .int .i64 a0_10, .int .i64 a0_11]) (t := 23) ?hr ?_; (case hd => rfl); (case hg => rfl); (case hr => first | (go_simp; done) | (go_simp; rfl)); intro gb304 hg w3 hbox hb; have n0_ := Aside0.mk (below_step (by repeat (first | (with_reducible first | exact HB.out | apply below_alloc | apply pw_below_drewN | apply below_drew1) | exact HB.out)) hb); have n1_ := Aside0.mk (hbox); have n2_ := Aside0.mk ((by rw [hg]; exact (below_size (by repeat (first | (with_reducible first | exact HB.out | apply below_alloc | apply pw_below_drewN | apply below_drew1) | exact HB.out))) : w.heap.size ≤ gb304)); have n3_ := Aside0.mk ((by rw [hg]; exact (below_size (by repeat (first | (with_reducible first | exact HB.out | apply below_alloc | apply pw_below_drewN | apply below_drew1) | exact HB.out))) : w.heap.size ≤ gb304)); clear HB; have HB := n0_; have BK304 := n1_; have GW304 := n2_; have GE304 := n3_; clear n0_ n1_ n2_ n3_; clear hb hbox hg))
 (try simp only [Act.put, List.setIfInBounds_toArray, List.set_cons_zero, List.set_cons_succ])
 go_cut [13] (fun v13 wc => ∃ (kq : Nat) (x13_1 : Bool), v13 = .bool x13_1 ∧ Aside0 (millstreamlaw06_ArenaItems.j0 kq x13_1 a0_0 a0_1 a0_2 a0_3 a0_4 a0_5 a0_6 a0_7 a0_8 a0_9 a0_10 a0_11 = some r) ∧ Aside0 (kq ≤ k) ∧ Aside0 (wc.heap[gb304]? = some (.cells #[.int .i64 a0_0, .int .i64 a0_1, .int .i64 a0_2, .int .i64 a0_3, .int .i64 a0_4, .int .i64 a0_5, .int .i64 a0_6, .int .i64 a0_7, .bool a0_8, .int .i64 a0_9, .int .i64 a0_10, .int .i64 a0_11] 23 (0, 0))) ∧ Aside0 (Below w.heap.size w wc))
 case first =>
  have H := HC2.out
  clear HC2
  replace H := Option.bind_eq_some_iff.mp H
  obtain ⟨t305, A40, H⟩ := H
  replace H : (if t305 = true then ((millstreamlaw06_shown.f k).bind fun t306 => (millstreamlaw06_ArenaItems.j0 k (!t306) a0_0 a0_1 a0_2 a0_3 a0_4 a0_5 a0_6 a0_7 a0_8 a0_9 a0_10 a0_11)) else (millstreamlaw06_ArenaItems.j0 k true a0_0 a0_1 a0_2 a0_3 a0_4 a0_5 a0_6 a0_7 a0_8 a0_9 a0_10 a0_11)) = some r := H
  have A4 := Aside0.mk A40
  clear A40
  by_cases c5 : t305 = true
  ·subst c5
   have H1 : ((millstreamlaw06_shown.f k).bind fun t306 => (millstreamlaw06_ArenaItems.j0 k (!t306) a0_0 a0_1 a0_2 a0_3 a0_4 a0_5 a0_6 a0_7 a0_8 a0_9 a0_10 a0_11)) = some r := by rw [if_pos rfl] at H; exact H
   clear H
   have H := H1
   clear H1
   replace H := Option.bind_eq_some_iff.mp H
   obtain ⟨t306, A60, H⟩ := H
   replace H : (millstreamlaw06_ArenaItems.j0 k (!t306) a0_0 a0_1 a0_2 a0_3 a0_4 a0_5 a0_6 a0_7 a0_8 a0_9 a0_10 a0_11) = some r := H
   have A6 := Aside0.mk A60
   clear A60
   have H' := Aside0.mk H
   clear H
   have hcz7_0 : w3.cell? ⟨gb304, 0, none⟩ = some (.int .i64 a0_0) := (blk_cell BK304.out 0).trans rfl
   have hcz7_1 : w3.cell? ⟨gb304, 1, none⟩ = some (.int .i64 a0_1) := (blk_cell BK304.out 1).trans rfl
   have hcz7_2 : w3.cell? ⟨gb304, 2, none⟩ = some (.int .i64 a0_2) := (blk_cell BK304.out 2).trans rfl
   have hcz7_3 : w3.cell? ⟨gb304, 3, none⟩ = some (.int .i64 a0_3) := (blk_cell BK304.out 3).trans rfl
   have hcz7_4 : w3.cell? ⟨gb304, 4, none⟩ = some (.int .i64 a0_4) := (blk_cell BK304.out 4).trans rfl
   have hcz7_5 : w3.cell? ⟨gb304, 5, none⟩ = some (.int .i64 a0_5) := (blk_cell BK304.out 5).trans rfl
   have hcz7_6 : w3.cell? ⟨gb304, 6, none⟩ = some (.int .i64 a0_6) := (blk_cell BK304.out 6).trans rfl
   have hcz7_7 : w3.cell? ⟨gb304, 7, none⟩ = some (.int .i64 a0_7) := (blk_cell BK304.out 7).trans rfl
   have hcz7_8 : w3.cell? ⟨gb304, 8, none⟩ = some (.bool a0_8) := (blk_cell BK304.out 8).trans rfl
   have hcz7_9 : w3.cell? ⟨gb304, 9, none⟩ = some (.int .i64 a0_9) := (blk_cell BK304.out 9).trans rfl
   have hcz7_10 : w3.cell? ⟨gb304, 10, none⟩ = some (.int .i64 a0_10) := (blk_cell BK304.out 10).trans rfl
   have hcz7_11 : w3.cell? ⟨gb304, 11, none⟩ = some (.int .i64 a0_11) := (blk_cell BK304.out 11).trans rfl
   have hfz7_0 := blk_frozen BK304.out 0
   have hfz7_1 := blk_frozen BK304.out 1
   have hfz7_2 := blk_frozen BK304.out 2
   have hfz7_3 := blk_frozen BK304.out 3
   have hfz7_4 := blk_frozen BK304.out 4
   have hfz7_5 := blk_frozen BK304.out 5
   have hfz7_6 := blk_frozen BK304.out 6
   have hfz7_7 := blk_frozen BK304.out 7
   have hfz7_8 := blk_frozen BK304.out 8
   have hfz7_9 := blk_frozen BK304.out 9
   have hfz7_10 := blk_frozen BK304.out 10
   have hfz7_11 := blk_frozen BK304.out 11
   go_wp2_with (first | ((with_reducible refine gate_callee (f := 8) rfl ?_); refine goesL_ (some 8) rfl rfl Try.func8 (by kernel_rfl) rfl #[.agg #[.int .i64 a0_0, .int .i64 a0_1, .int .i64 a0_2, .int .i64 a0_3, .int .i64 a0_4, .int .i64 a0_5, .int .i64 a0_6, .int .i64 a0_7, .bool a0_8, .int .i64 a0_9, .int .i64 a0_10, .int .i64 a0_11]] rfl (by (try simp only [List.map_toArray, List.map_cons, List.map_nil]); first | done | rfl | (simp only [List.length_drop, List.length_take]; rfl)) ?_; (with_reducible refine (millstreamlaw06_may.calls a0_0 a0_1 a0_2 a0_3 a0_4 a0_5 a0_6 a0_7 a0_8 a0_9 a0_10 a0_11 true _ A4.out).mono ?_); rintro e w8 ⟨rfl, hb⟩; refine ⟨_, rfl, ?_⟩; have n0_ := Aside0.mk (blk_below (g := gb304) (o := .cells #[.int .i64 a0_0, .int .i64 a0_1, .int .i64 a0_2, .int .i64 a0_3, .int .i64 a0_4, .int .i64 a0_5, .int .i64 a0_6, .int .i64 a0_7, .bool a0_8, .int .i64 a0_9, .int .i64 a0_10, .int .i64 a0_11] 23 (0, 0)) (by (with_reducible repeat first | refine blk_drewN ?_ _ | refine blk_drew ?_ | refine blk_alloc ?_ _); exact BK304.out) hb); have n1_ := Aside0.mk (below_step (by repeat (first | (with_reducible first | exact HB.out | apply below_alloc | apply pw_below_drewN | apply below_drew1 | refine below_set ?_ GE304.out) | exact HB.out)) hb); clear BK304; clear HB; have BK304 := n0_; have HB := n1_; clear n0_ n1_; (try clear hb); (try clear hb2); (try clear hk); (try clear hi)) | (go_at_call 9; (with_reducible refine (millstreamlaw06_shown.calls k  t306 _ A6.out).mono ?_); rintro e w9 ⟨rfl, hb⟩; have n0_ := Aside0.mk (blk_below (g := gb304) (o := .cells #[.int .i64 a0_0, .int .i64 a0_1, .int .i64 a0_2, .int .i64 a0_3, .int .i64 a0_4, .int .i64 a0_5, .int .i64 a0_6, .int .i64 a0_7, .bool a0_8, .int .i64 a0_9, .int .i64 a0_10, .int .i64 a0_11] 23 (0, 0)) (by (with_reducible repeat first | refine blk_drewN ?_ _ | refine blk_drew ?_ | refine blk_alloc ?_ _); exact BK304.out) hb); have n1_ := Aside0.mk (below_step (by repeat (first | (with_reducible first | exact HB.out | apply below_alloc | apply pw_below_drewN | apply below_drew1 | refine below_set ?_ GE304.out) | exact HB.out)) hb); clear BK304; clear HB; have BK304 := n0_; have HB := n1_; clear n0_ n1_; (try clear hb); (try clear hb2); (try clear hk); (try clear hi)))
   go_meet
   case rel => exact ⟨_, (!t306), (by first | rfl | (simp; done) | (simp [*]; done)), H', ⟨by first | omega | exact Nat.le_refl _⟩, ⟨by (with_reducible repeat first | refine blk_drewN ?_ _ | refine blk_drew ?_ | refine blk_alloc ?_ _); exact BK304.out⟩, ⟨by repeat (first | (with_reducible first | exact HB.out | apply below_alloc | apply pw_below_drewN | apply below_drew1 | refine below_set ?_ GE304.out) | exact HB.out)⟩⟩
  ·replace c5 := Bool.eq_false_iff.mpr c5
   subst c5
   have H1 : (millstreamlaw06_ArenaItems.j0 k true a0_0 a0_1 a0_2 a0_3 a0_4 a0_5 a0_6 a0_7 a0_8 a0_9 a0_10 a0_11) = some r := by rw [if_neg (show ¬ (false = true) by decide)] at H; exact H
   clear H
   have H := H1
   clear H1
   have H' := Aside0.mk H
   clear H
   have hcz10_0 : w3.cell? ⟨gb304, 0, none⟩ = some (.int .i64 a0_0) := (blk_cell BK304.out 0).trans rfl
   have hcz10_1 : w3.cell? ⟨gb304, 1, none⟩ = some (.int .i64 a0_1) := (blk_cell BK304.out 1).trans rfl
   have hcz10_2 : w3.cell? ⟨gb304, 2, none⟩ = some (.int .i64 a0_2) := (blk_cell BK304.out 2).trans rfl
   have hcz10_3 : w3.cell? ⟨gb304, 3, none⟩ = some (.int .i64 a0_3) := (blk_cell BK304.out 3).trans rfl
   have hcz10_4 : w3.cell? ⟨gb304, 4, none⟩ = some (.int .i64 a0_4) := (blk_cell BK304.out 4).trans rfl
   have hcz10_5 : w3.cell? ⟨gb304, 5, none⟩ = some (.int .i64 a0_5) := (blk_cell BK304.out 5).trans rfl
   have hcz10_6 : w3.cell? ⟨gb304, 6, none⟩ = some (.int .i64 a0_6) := (blk_cell BK304.out 6).trans rfl
   have hcz10_7 : w3.cell? ⟨gb304, 7, none⟩ = some (.int .i64 a0_7) := (blk_cell BK304.out 7).trans rfl
   have hcz10_8 : w3.cell? ⟨gb304, 8, none⟩ = some (.bool a0_8) := (blk_cell BK304.out 8).trans rfl
   have hcz10_9 : w3.cell? ⟨gb304, 9, none⟩ = some (.int .i64 a0_9) := (blk_cell BK304.out 9).trans rfl
   have hcz10_10 : w3.cell? ⟨gb304, 10, none⟩ = some (.int .i64 a0_10) := (blk_cell BK304.out 10).trans rfl
   have hcz10_11 : w3.cell? ⟨gb304, 11, none⟩ = some (.int .i64 a0_11) := (blk_cell BK304.out 11).trans rfl
   have hfz10_0 := blk_frozen BK304.out 0
   have hfz10_1 := blk_frozen BK304.out 1
   have hfz10_2 := blk_frozen BK304.out 2
   have hfz10_3 := blk_frozen BK304.out 3
   have hfz10_4 := blk_frozen BK304.out 4
   have hfz10_5 := blk_frozen BK304.out 5
   have hfz10_6 := blk_frozen BK304.out 6
   have hfz10_7 := blk_frozen BK304.out 7
   have hfz10_8 := blk_frozen BK304.out 8
   have hfz10_9 := blk_frozen BK304.out 9
   have hfz10_10 := blk_frozen BK304.out 10
   have hfz10_11 := blk_frozen BK304.out 11
   go_wp2_with (first | ((with_reducible refine gate_callee (f := 8) rfl ?_); refine goesL_ (some 8) rfl rfl Try.func8 (by kernel_rfl) rfl #[.agg #[.int .i64 a0_0, .int .i64 a0_1, .int .i64 a0_2, .int .i64 a0_3, .int .i64 a0_4, .int .i64 a0_5, .int .i64 a0_6, .int .i64 a0_7, .bool a0_8, .int .i64 a0_9, .int .i64 a0_10, .int .i64 a0_11]] rfl (by (try simp only [List.map_toArray, List.map_cons, List.map_nil]); first | done | rfl | (simp only [List.length_drop, List.length_take]; rfl)) ?_; (with_reducible refine (millstreamlaw06_may.calls a0_0 a0_1 a0_2 a0_3 a0_4 a0_5 a0_6 a0_7 a0_8 a0_9 a0_10 a0_11 false _ A4.out).mono ?_); rintro e w11 ⟨rfl, hb⟩; refine ⟨_, rfl, ?_⟩; have n0_ := Aside0.mk (blk_below (g := gb304) (o := .cells #[.int .i64 a0_0, .int .i64 a0_1, .int .i64 a0_2, .int .i64 a0_3, .int .i64 a0_4, .int .i64 a0_5, .int .i64 a0_6, .int .i64 a0_7, .bool a0_8, .int .i64 a0_9, .int .i64 a0_10, .int .i64 a0_11] 23 (0, 0)) (by (with_reducible repeat first | refine blk_drewN ?_ _ | refine blk_drew ?_ | refine blk_alloc ?_ _); exact BK304.out) hb); have n1_ := Aside0.mk (below_step (by repeat (first | (with_reducible first | exact HB.out | apply below_alloc | apply pw_below_drewN | apply below_drew1 | refine below_set ?_ GE304.out) | exact HB.out)) hb); clear BK304; clear HB; have BK304 := n0_; have HB := n1_; clear n0_ n1_; (try clear hb); (try clear hb2); (try clear hk); (try clear hi)))
   go_meet
   case rel => exact ⟨_, (true), (by first | rfl | (simp; done) | (simp [*]; done)), H', ⟨by first | omega | exact Nat.le_refl _⟩, ⟨by (with_reducible repeat first | refine blk_drewN ?_ _ | refine blk_drew ?_ | refine blk_alloc ?_ _); exact BK304.out⟩, ⟨by repeat (first | (with_reducible first | exact HB.out | apply below_alloc | apply pw_below_drewN | apply below_drew1 | refine below_set ?_ GE304.out) | exact HB.out)⟩⟩
 case rest =>
  clear HC2
  try clear p2
  try clear c5
  try clear c6
  try clear c8
  try clear hcz10_0
  try clear hcz10_1
  try clear hcz10_10
  try clear hcz10_11
  try clear hcz10_2
  try clear hcz10_3
  try clear hcz10_4
  try clear hcz10_5
  try clear hcz10_6
  try clear hcz10_7
  try clear hcz10_8
  try clear hcz10_9
  try clear hcz7_0
  try clear hcz7_1
  try clear hcz7_10
  try clear hcz7_11
  try clear hcz7_2
  try clear hcz7_3
  try clear hcz7_4
  try clear hcz7_5
  try clear hcz7_6
  try clear hcz7_7
  try clear hcz7_8
  try clear hcz7_9
  try clear hfz10_0
  try clear hfz10_1
  try clear hfz10_10
  try clear hfz10_11
  try clear hfz10_2
  try clear hfz10_3
  try clear hfz10_4
  try clear hfz10_5
  try clear hfz10_6
  try clear hfz10_7
  try clear hfz10_8
  try clear hfz10_9
  try clear hfz7_0
  try clear hfz7_1
  try clear hfz7_10
  try clear hfz7_11
  try clear hfz7_2
  try clear hfz7_3
  try clear hfz7_4
  try clear hfz7_5
  try clear hfz7_6
  try clear hfz7_7
  try clear hfz7_8
  try clear hfz7_9
  obtain ⟨kq, x13_1, rfl, HA, HJ1, BK304, HB⟩ := hcut
  cases kq with
  | zero => exact absurd HA.out (by simp [millstreamlaw06_ArenaItems.j0])
  | succ kj1 =>
   have H := HA.out
   clear HA
   simp only [millstreamlaw06_ArenaItems.j0] at H
   by_cases c12 : x13_1 = true
   ·subst c12
    have H1 : ((millstreamlaw06_shown.f kj1).bind fun t307 => (some t307)) = some r := by rw [if_pos rfl] at H; exact H
    clear H
    have H := H1
    clear H1
    replace H := Option.bind_eq_some_iff.mp H
    obtain ⟨t307, A130, H⟩ := H
    replace H : (some t307) = some r := H
    have A13 := Aside0.mk A130
    clear A130
    clear hr_
    obtain rfl := Option.some.inj H
    go_wp2_with (first | ((with_reducible refine gate_callee (f := 9) rfl ?_); refine goesL_ (some 14) rfl rfl Try.func9 (by kernel_rfl) rfl #[] rfl (by (try simp only [List.map_toArray, List.map_cons, List.map_nil]); first | done | rfl | (simp only [List.length_drop, List.length_take]; rfl)) ?_; (with_reducible refine (millstreamlaw06_shown.calls kj1  t307 _ A13.out).mono ?_); rintro e w14 ⟨rfl, hb⟩; refine ⟨_, rfl, ?_⟩; have n0_ := Aside0.mk (blk_below (g := gb304) (o := .cells #[.int .i64 a0_0, .int .i64 a0_1, .int .i64 a0_2, .int .i64 a0_3, .int .i64 a0_4, .int .i64 a0_5, .int .i64 a0_6, .int .i64 a0_7, .bool a0_8, .int .i64 a0_9, .int .i64 a0_10, .int .i64 a0_11] 23 (0, 0)) (by (with_reducible repeat first | refine blk_drewN ?_ _ | refine blk_drew ?_ | refine blk_alloc ?_ _); exact BK304.out) hb); have n1_ := Aside0.mk (below_step (by repeat (first | (with_reducible first | exact HB.out | apply below_alloc | apply pw_below_drewN | apply below_drew1 | refine below_set ?_ GE304.out) | exact HB.out)) hb); clear BK304; clear HB; have BK304 := n0_; have HB := n1_; clear n0_ n1_; (try clear hb); (try clear hb2); (try clear hk); (try clear hi)))
    go_ret
    exact ⟨by first | rfl | (simp [errW_none, errW_some] <;> rfl) | (simp [*, errW_none, errW_some] <;> rfl), by repeat (first | (with_reducible first | exact HB.out | apply below_alloc | apply pw_below_drewN | apply below_drew1 | refine below_set ?_ GE304.out) | exact HB.out)⟩
   ·replace c12 := Bool.eq_false_iff.mpr c12
    subst c12
    have H1 : ((arena_Nodes.f a0_0 a0_1 a0_2 a0_3 a0_4 a0_5 a0_6 a0_7 a0_8 a0_9 a0_10 a0_11).bind fun t308 => (millstreamlaw06_ArenaItems.l0 kj1 (wrap64 ((wrap64 (1 + t308)) + (wrap64 (a0_4 * a0_5)))) 1 a0_0 a0_1 a0_2 a0_3 a0_4 a0_5 a0_6 a0_7 a0_8 a0_9 a0_10 a0_11)) = some r := by rw [if_neg (show ¬ (false = true) by decide)] at H; exact H
    clear H
    have H := H1
    clear H1
    replace H := Option.bind_eq_some_iff.mp H
    obtain ⟨t308, A150, H⟩ := H
    replace H : (millstreamlaw06_ArenaItems.l0 kj1 (wrap64 ((wrap64 (1 + t308)) + (wrap64 (a0_4 * a0_5)))) 1 a0_0 a0_1 a0_2 a0_3 a0_4 a0_5 a0_6 a0_7 a0_8 a0_9 a0_10 a0_11) = some r := H
    have A15 := Aside0.mk A150
    clear A150
    have H' := Aside0.mk H
    clear H
    try go_wp2
    have n0_ := Aside0.mk (blk_drew BK304.out)
    have n1_ := Aside0.mk (below_drew1 HB.out)
    clear BK304
    clear HB
    have BK304 := n0_
    have HB := n1_
    clear n0_ n1_
    refine start_ (n := 10) (S := fun w' => w'.cell? ⟨gb304, 0, none⟩ = some (.int .i64 a0_0) ∧ w'.cell? ⟨gb304, 1, none⟩ = some (.int .i64 a0_1) ∧ w'.cell? ⟨gb304, 2, none⟩ = some (.int .i64 a0_2) ∧ w'.cell? ⟨gb304, 3, none⟩ = some (.int .i64 a0_3) ∧ w'.cell? ⟨gb304, 4, none⟩ = some (.int .i64 a0_4) ∧ w'.cell? ⟨gb304, 5, none⟩ = some (.int .i64 a0_5) ∧ w'.cell? ⟨gb304, 6, none⟩ = some (.int .i64 a0_6) ∧ w'.cell? ⟨gb304, 7, none⟩ = some (.int .i64 a0_7) ∧ w'.cell? ⟨gb304, 8, none⟩ = some (.bool a0_8) ∧ w'.cell? ⟨gb304, 9, none⟩ = some (.int .i64 a0_9) ∧ w'.cell? ⟨gb304, 10, none⟩ = some (.int .i64 a0_10) ∧ w'.cell? ⟨gb304, 11, none⟩ = some (.int .i64 a0_11)) (ds := []) #[false, false, false, false, false, false, false, false, false, false] (by kernel_rfl) rfl rfl ⟨(blk_cell BK304.out 0).trans rfl, (blk_cell BK304.out 1).trans rfl, (blk_cell BK304.out 2).trans rfl, (blk_cell BK304.out 3).trans rfl, (blk_cell BK304.out 4).trans rfl, (blk_cell BK304.out 5).trans rfl, (blk_cell BK304.out 6).trans rfl, (blk_cell BK304.out 7).trans rfl, (blk_cell BK304.out 8).trans rfl, (blk_cell BK304.out 9).trans rfl, (blk_cell BK304.out 10).trans rfl, (blk_cell BK304.out 11).trans rfl⟩ (fun hHeld => ?_); refine with_tabW millstreamlaw06_ArenaItems.tab3 millstreamlaw06_ArenaItems.bits3 (fun HT_ HW_ => ?_)
    generalize wc.drew = w16 at BK304 HB hHeld ⊢
    refine pure_ (i := 3) (N := some 18) (v := ?_) (a' := ?_) #[false, false, false, true, false, false, false, false, false, false] rfl rfl (any_of HT_.out (by kernel_rfl)) (fun _ _ _ h => h) (Or.inl ⟨by rfl, ?_⟩) ?_ ?_
    rotate_left
    ·intro w'
     go_simp
     with_reducible rfl
    rotate_left
    ·simp only [Act.put, List.setIfInBounds_toArray, List.set_cons_zero, List.set_cons_succ, i64_w, i32_w]
     rfl
    refine pure_ (i := 5) (N := some 20) (v := ?_) (a' := ?_) #[false, false, false, true, false, true, false, false, false, false] rfl rfl (any_of HT_.out (by kernel_rfl)) (fun _ _ _ h => h) (Or.inl ⟨by rfl, ?_⟩) ?_ ?_
    rotate_left
    ·intro w'
     go_simp
     with_reducible rfl
    rotate_left
    ·simp only [Act.put, List.setIfInBounds_toArray, List.set_cons_zero, List.set_cons_succ, i64_w, i32_w]
     rfl
    refine take_ (i := 0) (N := some 15) (v := ?_) (a' := ?_) #[true, false, false, true, false, true, false, false, false, false] rfl rfl (take_ofW HT_.out HW_.out (by kernel_rfl)) (fun _ _ _ h => h) (Or.inl ⟨by rfl, ?_⟩) hHeld ?_ ?_
    rotate_left
    ·rintro w' ⟨s0, s1, s2, s3, s4, s5, s6, s7, s8, s9, s10, s11⟩
     go_simp
     with_reducible rfl
    rotate_left
    ·simp only [Act.put, List.setIfInBounds_toArray, List.set_cons_zero, List.set_cons_succ, i64_w, i32_w]
     rfl
    refine take_ (i := 4) (N := some 19) (v := ?_) (a' := ?_) #[true, false, false, true, true, true, false, false, false, false] rfl rfl (take_ofW HT_.out HW_.out (by kernel_rfl)) (fun _ _ _ h => h) (Or.inl ⟨by rfl, ?_⟩) hHeld ?_ ?_
    rotate_left
    ·rintro w' ⟨s0, s1, s2, s3, s4, s5, s6, s7, s8, s9, s10, s11⟩
     go_simp
     with_reducible rfl
    rotate_left
    ·simp only [Act.put, List.setIfInBounds_toArray, List.set_cons_zero, List.set_cons_succ, i64_w, i32_w]
     rfl
    refine take_ (i := 6) (N := some 21) (v := ?_) (a' := ?_) #[true, false, false, true, true, true, true, false, false, false] rfl rfl (take_ofW HT_.out HW_.out (by kernel_rfl)) (fun _ _ _ h => h) (Or.inl ⟨by rfl, ?_⟩) hHeld ?_ ?_
    rotate_left
    ·rintro w' ⟨s0, s1, s2, s3, s4, s5, s6, s7, s8, s9, s10, s11⟩
     go_simp
     with_reducible rfl
    rotate_left
    ·simp only [Act.put, List.setIfInBounds_toArray, List.set_cons_zero, List.set_cons_succ, i64_w, i32_w]
     rfl
    refine pure_ (i := 7) (N := some 22) (v := ?_) (a' := ?_) #[true, false, false, true, true, true, true, true, false, false] rfl rfl (any_of HT_.out (by kernel_rfl)) (fun _ _ _ h => h) (Or.inl ⟨by rfl, ?_⟩) ?_ ?_
    rotate_left
    ·intro w'
     go_simp
     with_reducible rfl
    rotate_left
    ·simp only [Act.put, List.setIfInBounds_toArray, List.set_cons_zero, List.set_cons_succ, i64_w, i32_w]
     rfl
    refine one_ (i := 1) (N := some 16) #[true, true, false, true, true, true, true, true, false, false] rfl rfl (one_of HT_.out (by kernel_rfl)) (by decide) (fun K hK => ?_)
    refine goes_ Try.func10 (by kernel_rfl) rfl #[.agg #[.int .i64 a0_0, .int .i64 a0_1, .int .i64 a0_2, .int .i64 a0_3, .int .i64 a0_4, .int .i64 a0_5, .int .i64 a0_6, .int .i64 a0_7, .bool a0_8, .int .i64 a0_9, .int .i64 a0_10, .int .i64 a0_11]] (by rfl) rfl rfl (by (try simp only [List.map_toArray, List.map_cons, List.map_nil]); first | done | rfl | (simp only [List.length_drop, List.length_take]; rfl)) ?_
    with_reducible refine (arena_Nodes.calls a0_0 a0_1 a0_2 a0_3 a0_4 a0_5 a0_6 a0_7 a0_8 a0_9 a0_10 a0_11 t308 _ A15.out).mono ?_
    rintro e w17 ⟨rfl, hb⟩
    refine ⟨_, rfl, ?_⟩
    have n0_ := Aside0.mk (blk_below (g := gb304) (o := .cells #[.int .i64 a0_0, .int .i64 a0_1, .int .i64 a0_2, .int .i64 a0_3, .int .i64 a0_4, .int .i64 a0_5, .int .i64 a0_6, .int .i64 a0_7, .bool a0_8, .int .i64 a0_9, .int .i64 a0_10, .int .i64 a0_11] 23 (0, 0)) (by (with_reducible repeat first | refine blk_drewN ?_ _ | refine blk_drew ?_ | refine blk_alloc ?_ _); exact BK304.out) hb)
    have n1_ := Aside0.mk (below_step (by repeat (first | (with_reducible first | exact HB.out | apply below_alloc | apply pw_below_drewN | apply below_drew1 | refine below_set ?_ GE304.out) | exact HB.out)) hb)
    clear BK304
    clear HB
    have BK304 := n0_
    have HB := n1_
    clear n0_ n1_
    (try clear hb)
    (try clear hb2)
    (try clear hk)
    (try clear hi)
    refine hK.out _ _ ⟨(blk_cell BK304.out 0).trans rfl, (blk_cell BK304.out 1).trans rfl, (blk_cell BK304.out 2).trans rfl, (blk_cell BK304.out 3).trans rfl, (blk_cell BK304.out 4).trans rfl, (blk_cell BK304.out 5).trans rfl, (blk_cell BK304.out 6).trans rfl, (blk_cell BK304.out 7).trans rfl, (blk_cell BK304.out 8).trans rfl, (blk_cell BK304.out 9).trans rfl, (blk_cell BK304.out 10).trans rfl, (blk_cell BK304.out 11).trans rfl⟩ (fun hHeld => ?_)
    clear hK K
    refine norm_ (a' := ?_) ?_ ?_
    rotate_left
    ·show Act.put _ (some 16) _ = _
     simp only [Act.put, List.setIfInBounds_toArray, List.set_cons_zero, List.set_cons_succ, i64_w, i32_w]
     rfl
    refine pure_ (i := 2) (N := some 17) (v := ?_) (a' := ?_) #[true, true, true, true, true, true, true, true, false, false] rfl rfl (any_of HT_.out (by kernel_rfl)) (fun _ _ _ h => h) (Or.inl ⟨by rfl, ?_⟩) ?_ ?_
    rotate_left
    ·intro w'
     go_simp
     with_reducible rfl
    rotate_left
    ·simp only [Act.put, List.setIfInBounds_toArray, List.set_cons_zero, List.set_cons_succ, i64_w, i32_w]
     rfl
    refine pure_ (i := 8) (N := some 23) (v := ?_) (a' := ?_) #[true, true, true, true, true, true, true, true, true, false] rfl rfl (any_of HT_.out (by kernel_rfl)) (fun _ _ _ h => h) (Or.inl ⟨by rfl, ?_⟩) ?_ ?_
    rotate_left
    ·intro w'
     go_simp
     with_reducible rfl
    rotate_left
    ·simp only [Act.put, List.setIfInBounds_toArray, List.set_cons_zero, List.set_cons_succ, i64_w, i32_w]
     rfl
    refine pure_ (i := 9) (N := some 3) (v := ?_) (a' := ?_) #[true, true, true, true, true, true, true, true, true, true] rfl rfl (any_of HT_.out (by kernel_rfl)) (fun _ _ _ h => h) (Or.inl ⟨by rfl, ?_⟩) ?_ ?_
    rotate_left
    ·intro w'
     go_simp
     with_reducible rfl
    rotate_left
    ·simp only [Act.put, List.setIfInBounds_toArray, List.set_cons_zero, List.set_cons_succ, i64_w, i32_w]
     rfl
    refine done_ (done_of HT_.out (by kernel_rfl)) ?_
    try go_wp2
    go_loopg [4] kj1 (fun kq v4 w' => ∃ (x4_2 : Int), v4 = .int .i64 x4_2 ∧ Aside0 (millstreamlaw06_ArenaItems.l0 kq (wrap64 ((wrap64 (1 + t308)) + (wrap64 (a0_4 * a0_5)))) x4_2 a0_0 a0_1 a0_2 a0_3 a0_4 a0_5 a0_6 a0_7 a0_8 a0_9 a0_10 a0_11 = some r) ∧ Aside0 (kq ≤ kj1) ∧ Aside0 (w'.heap[gb304]? = some (.cells #[.int .i64 a0_0, .int .i64 a0_1, .int .i64 a0_2, .int .i64 a0_3, .int .i64 a0_4, .int .i64 a0_5, .int .i64 a0_6, .int .i64 a0_7, .bool a0_8, .int .i64 a0_9, .int .i64 a0_10, .int .i64 a0_11] 23 (0, 0))) ∧ Aside0 (Below w.heap.size w w'))
    case atStart => exact ⟨(1), (by first | rfl | (simp; done) | (simp [*]; done)), H', ⟨Nat.le_refl _⟩, ⟨by (with_reducible repeat first | refine blk_drewN ?_ _ | refine blk_drew ?_ | refine blk_alloc ?_ _); exact BK304.out⟩, ⟨by repeat (first | (with_reducible first | exact HB.out | apply below_alloc | apply pw_below_drewN | apply below_drew1 | refine below_set ?_ GE304.out) | exact HB.out)⟩⟩
    case round =>
     clear H'
     try clear c1
     try clear p2
     try clear c5
     try clear c6
     try clear p6
     try clear c8
     try clear c9
     try clear c10
     try clear c12
     try clear hcz10_0
     try clear hcz10_1
     try clear hcz10_10
     try clear hcz10_11
     try clear hcz10_2
     try clear hcz10_3
     try clear hcz10_4
     try clear hcz10_5
     try clear hcz10_6
     try clear hcz10_7
     try clear hcz10_8
     try clear hcz10_9
     try clear hcz7_0
     try clear hcz7_1
     try clear hcz7_10
     try clear hcz7_11
     try clear hcz7_2
     try clear hcz7_3
     try clear hcz7_4
     try clear hcz7_5
     try clear hcz7_6
     try clear hcz7_7
     try clear hcz7_8
     try clear hcz7_9
     try clear hfz10_0
     try clear hfz10_1
     try clear hfz10_10
     try clear hfz10_11
     try clear hfz10_2
     try clear hfz10_3
     try clear hfz10_4
     try clear hfz10_5
     try clear hfz10_6
     try clear hfz10_7
     try clear hfz10_8
     try clear hfz10_9
     try clear hfz7_0
     try clear hfz7_1
     try clear hfz7_10
     try clear hfz7_11
     try clear hfz7_2
     try clear hfz7_3
     try clear hfz7_4
     try clear hfz7_5
     try clear hfz7_6
     try clear hfz7_7
     try clear hfz7_8
     try clear hfz7_9
     try clear p2
     obtain ⟨x4_2, rfl, HA, HK2, BK304, HB⟩ := hrel
     cases gk with
     | zero => exact absurd HA.out (by simp [millstreamlaw06_ArenaItems.l0])
     | succ k2 =>
      have H := HA.out
      clear HA
      simp only [millstreamlaw06_ArenaItems.l0] at H
      by_cases c18 : x4_2 < a0_1
      ·rw [if_pos c18] at H
       have c18b0 : decide (x4_2 < a0_1) = true := decide_eq_true c18
       clear c18
       replace H := Option.bind_eq_some_iff.mp H
       obtain ⟨t312, A190, H⟩ := H
       replace H : ((arena_Cell.f a0_0 a0_1 a0_2 a0_3 a0_4 a0_5 a0_6 a0_7 a0_8 a0_9 a0_10 a0_11 (wrap64 (x4_2 - 1))).bind fun t313 => (if (wrap64 (t312 - t313)) = (wrap64 ((wrap64 (1 + t308)) + (wrap64 (a0_4 * a0_5)))) then (millstreamlaw06_ArenaItems.l1 k2 (wrap64 ((wrap64 (1 + t308)) + (wrap64 (a0_4 * a0_5)))) x4_2 1 a0_0 a0_1 a0_2 a0_3 a0_4 a0_5 a0_6 a0_7 a0_8 a0_9 a0_10 a0_11) else (some false))) = some r := H
       have A19 := Aside0.mk A190
       clear A190
       replace H := Option.bind_eq_some_iff.mp H
       obtain ⟨t313, A200, H⟩ := H
       replace H : (if (wrap64 (t312 - t313)) = (wrap64 ((wrap64 (1 + t308)) + (wrap64 (a0_4 * a0_5)))) then (millstreamlaw06_ArenaItems.l1 k2 (wrap64 ((wrap64 (1 + t308)) + (wrap64 (a0_4 * a0_5)))) x4_2 1 a0_0 a0_1 a0_2 a0_3 a0_4 a0_5 a0_6 a0_7 a0_8 a0_9 a0_10 a0_11) else (some false)) = some r := H
       have A20 := Aside0.mk A200
       clear A200
       by_cases c21 : (wrap64 (t312 - t313)) = (wrap64 ((wrap64 (1 + t308)) + (wrap64 (a0_4 * a0_5))))
       ·rw [if_pos c21] at H
        have c21b0 : ((wrap64 (t312 - t313)) == (wrap64 ((wrap64 (1 + t308)) + (wrap64 (a0_4 * a0_5))))) = true := beq_iff_eq.mpr c21
        have c21b1 : ((wrap64 (t312 - t313)) != (wrap64 ((wrap64 (1 + t308)) + (wrap64 (a0_4 * a0_5))))) = false := bne_eq_false_iff_eq.mpr c21
        clear c21
        have H' := Aside0.mk H
        clear H
        have hcz22_0 : wr.cell? ⟨gb304, 0, none⟩ = some (.int .i64 a0_0) := (blk_cell BK304.out 0).trans rfl
        have hcz22_1 : wr.cell? ⟨gb304, 1, none⟩ = some (.int .i64 a0_1) := (blk_cell BK304.out 1).trans rfl
        have hcz22_2 : wr.cell? ⟨gb304, 2, none⟩ = some (.int .i64 a0_2) := (blk_cell BK304.out 2).trans rfl
        have hcz22_3 : wr.cell? ⟨gb304, 3, none⟩ = some (.int .i64 a0_3) := (blk_cell BK304.out 3).trans rfl
        have hcz22_4 : wr.cell? ⟨gb304, 4, none⟩ = some (.int .i64 a0_4) := (blk_cell BK304.out 4).trans rfl
        have hcz22_5 : wr.cell? ⟨gb304, 5, none⟩ = some (.int .i64 a0_5) := (blk_cell BK304.out 5).trans rfl
        have hcz22_6 : wr.cell? ⟨gb304, 6, none⟩ = some (.int .i64 a0_6) := (blk_cell BK304.out 6).trans rfl
        have hcz22_7 : wr.cell? ⟨gb304, 7, none⟩ = some (.int .i64 a0_7) := (blk_cell BK304.out 7).trans rfl
        have hcz22_8 : wr.cell? ⟨gb304, 8, none⟩ = some (.bool a0_8) := (blk_cell BK304.out 8).trans rfl
        have hcz22_9 : wr.cell? ⟨gb304, 9, none⟩ = some (.int .i64 a0_9) := (blk_cell BK304.out 9).trans rfl
        have hcz22_10 : wr.cell? ⟨gb304, 10, none⟩ = some (.int .i64 a0_10) := (blk_cell BK304.out 10).trans rfl
        have hcz22_11 : wr.cell? ⟨gb304, 11, none⟩ = some (.int .i64 a0_11) := (blk_cell BK304.out 11).trans rfl
        have hfz22_0 := blk_frozen BK304.out 0
        have hfz22_1 := blk_frozen BK304.out 1
        have hfz22_2 := blk_frozen BK304.out 2
        have hfz22_3 := blk_frozen BK304.out 3
        have hfz22_4 := blk_frozen BK304.out 4
        have hfz22_5 := blk_frozen BK304.out 5
        have hfz22_6 := blk_frozen BK304.out 6
        have hfz22_7 := blk_frozen BK304.out 7
        have hfz22_8 := blk_frozen BK304.out 8
        have hfz22_9 := blk_frozen BK304.out 9
        have hfz22_10 := blk_frozen BK304.out 10
        have hfz22_11 := blk_frozen BK304.out 11
        try go_wp2
        have n0_ := Aside0.mk (blk_drew BK304.out)
        have n1_ := Aside0.mk (below_drew1 HB.out)
        clear BK304
        clear HB
        have BK304 := n0_
        have HB := n1_
        clear n0_ n1_
        refine start_ (n := 10) (S := fun w' => w'.cell? ⟨gb304, 0, none⟩ = some (.int .i64 a0_0) ∧ w'.cell? ⟨gb304, 1, none⟩ = some (.int .i64 a0_1) ∧ w'.cell? ⟨gb304, 2, none⟩ = some (.int .i64 a0_2) ∧ w'.cell? ⟨gb304, 3, none⟩ = some (.int .i64 a0_3) ∧ w'.cell? ⟨gb304, 4, none⟩ = some (.int .i64 a0_4) ∧ w'.cell? ⟨gb304, 5, none⟩ = some (.int .i64 a0_5) ∧ w'.cell? ⟨gb304, 6, none⟩ = some (.int .i64 a0_6) ∧ w'.cell? ⟨gb304, 7, none⟩ = some (.int .i64 a0_7) ∧ w'.cell? ⟨gb304, 8, none⟩ = some (.bool a0_8) ∧ w'.cell? ⟨gb304, 9, none⟩ = some (.int .i64 a0_9) ∧ w'.cell? ⟨gb304, 10, none⟩ = some (.int .i64 a0_10) ∧ w'.cell? ⟨gb304, 11, none⟩ = some (.int .i64 a0_11)) (ds := []) #[false, false, false, false, false, false, false, false, false, false] (by kernel_rfl) rfl rfl ⟨(blk_cell BK304.out 0).trans rfl, (blk_cell BK304.out 1).trans rfl, (blk_cell BK304.out 2).trans rfl, (blk_cell BK304.out 3).trans rfl, (blk_cell BK304.out 4).trans rfl, (blk_cell BK304.out 5).trans rfl, (blk_cell BK304.out 6).trans rfl, (blk_cell BK304.out 7).trans rfl, (blk_cell BK304.out 8).trans rfl, (blk_cell BK304.out 9).trans rfl, (blk_cell BK304.out 10).trans rfl, (blk_cell BK304.out 11).trans rfl⟩ (fun hHeld => ?_); refine with_tabW millstreamlaw06_ArenaItems.tab7 millstreamlaw06_ArenaItems.bits7 (fun HT_ HW_ => ?_)
        generalize wr.drew = w23 at BK304 HB hHeld ⊢
        refine pure_ (i := 1) (N := some 31) (v := ?_) (a' := ?_) #[false, true, false, false, false, false, false, false, false, false] rfl rfl (any_of HT_.out (by kernel_rfl)) (fun _ _ _ h => h) (Or.inl ⟨by rfl, ?_⟩) ?_ ?_
        rotate_left
        ·intro w'
         go_simp
         with_reducible rfl
        rotate_left
        ·simp only [Act.put, List.setIfInBounds_toArray, List.set_cons_zero, List.set_cons_succ, i64_w, i32_w]
         rfl
        refine pure_ (i := 4) (N := some 34) (v := ?_) (a' := ?_) #[false, true, false, false, true, false, false, false, false, false] rfl rfl (any_of HT_.out (by kernel_rfl)) (fun _ _ _ h => h) (Or.inl ⟨by rfl, ?_⟩) ?_ ?_
        rotate_left
        ·intro w'
         go_simp
         with_reducible rfl
        rotate_left
        ·simp only [Act.put, List.setIfInBounds_toArray, List.set_cons_zero, List.set_cons_succ, i64_w, i32_w]
         rfl
        refine pure_ (i := 5) (N := some 35) (v := ?_) (a' := ?_) #[false, true, false, false, true, true, false, false, false, false] rfl rfl (any_of HT_.out (by kernel_rfl)) (fun _ _ _ h => h) (Or.inl ⟨by rfl, ?_⟩) ?_ ?_
        rotate_left
        ·intro w'
         go_simp
         with_reducible rfl
        rotate_left
        ·simp only [Act.put, List.setIfInBounds_toArray, List.set_cons_zero, List.set_cons_succ, i64_w, i32_w]
         rfl
        refine pure_ (i := 8) (N := some 38) (v := ?_) (a' := ?_) #[false, true, false, false, true, true, false, false, true, false] rfl rfl (any_of HT_.out (by kernel_rfl)) (fun _ _ _ h => h) (Or.inl ⟨by rfl, ?_⟩) ?_ ?_
        rotate_left
        ·intro w'
         go_simp
         with_reducible rfl
        rotate_left
        ·simp only [Act.put, List.setIfInBounds_toArray, List.set_cons_zero, List.set_cons_succ, i64_w, i32_w]
         rfl
        refine take_ (i := 0) (N := some 30) (v := ?_) (a' := ?_) #[true, true, false, false, true, true, false, false, true, false] rfl rfl (take_ofW HT_.out HW_.out (by kernel_rfl)) (fun _ _ _ h => h) (Or.inl ⟨by rfl, ?_⟩) hHeld ?_ ?_
        rotate_left
        ·rintro w' ⟨s0, s1, s2, s3, s4, s5, s6, s7, s8, s9, s10, s11⟩
         go_simp
         with_reducible rfl
        rotate_left
        ·simp only [Act.put, List.setIfInBounds_toArray, List.set_cons_zero, List.set_cons_succ, i64_w, i32_w]
         rfl
        refine take_ (i := 3) (N := some 33) (v := ?_) (a' := ?_) #[true, true, false, true, true, true, false, false, true, false] rfl rfl (take_ofW HT_.out HW_.out (by kernel_rfl)) (fun _ _ _ h => h) (Or.inl ⟨by rfl, ?_⟩) hHeld ?_ ?_
        rotate_left
        ·rintro w' ⟨s0, s1, s2, s3, s4, s5, s6, s7, s8, s9, s10, s11⟩
         go_simp
         with_reducible rfl
        rotate_left
        ·simp only [Act.put, List.setIfInBounds_toArray, List.set_cons_zero, List.set_cons_succ, i64_w, i32_w]
         rfl
        refine one_ (i := 2) (N := some 32) #[true, true, true, true, true, true, false, false, true, false] rfl rfl (one_of HT_.out (by kernel_rfl)) (by decide) (fun K hK => ?_)
        refine goes_ Try.func14 (by kernel_rfl) rfl #[.agg #[.int .i64 a0_0, .int .i64 a0_1, .int .i64 a0_2, .int .i64 a0_3, .int .i64 a0_4, .int .i64 a0_5, .int .i64 a0_6, .int .i64 a0_7, .bool a0_8, .int .i64 a0_9, .int .i64 a0_10, .int .i64 a0_11], .int .i64 x4_2] (by rfl) rfl rfl (by (try simp only [List.map_toArray, List.map_cons, List.map_nil]); first | done | rfl | (simp only [List.length_drop, List.length_take]; rfl)) ?_
        with_reducible refine (arena_Cell.calls a0_0 a0_1 a0_2 a0_3 a0_4 a0_5 a0_6 a0_7 a0_8 a0_9 a0_10 a0_11 x4_2 t312 _ A19.out).mono ?_
        rintro e w24 ⟨rfl, hb⟩
        refine ⟨_, rfl, ?_⟩
        have n0_ := Aside0.mk (blk_below (g := gb304) (o := .cells #[.int .i64 a0_0, .int .i64 a0_1, .int .i64 a0_2, .int .i64 a0_3, .int .i64 a0_4, .int .i64 a0_5, .int .i64 a0_6, .int .i64 a0_7, .bool a0_8, .int .i64 a0_9, .int .i64 a0_10, .int .i64 a0_11] 23 (0, 0)) (by (with_reducible repeat first | refine blk_drewN ?_ _ | refine blk_drew ?_ | refine blk_alloc ?_ _); exact BK304.out) hb)
        have n1_ := Aside0.mk (below_step (by repeat (first | (with_reducible first | exact HB.out | apply below_alloc | apply pw_below_drewN | apply below_drew1 | refine below_set ?_ GE304.out) | exact HB.out)) hb)
        clear BK304
        clear HB
        have BK304 := n0_
        have HB := n1_
        clear n0_ n1_
        (try clear hb)
        (try clear hb2)
        (try clear hk)
        (try clear hi)
        refine hK.out _ _ ⟨(blk_cell BK304.out 0).trans rfl, (blk_cell BK304.out 1).trans rfl, (blk_cell BK304.out 2).trans rfl, (blk_cell BK304.out 3).trans rfl, (blk_cell BK304.out 4).trans rfl, (blk_cell BK304.out 5).trans rfl, (blk_cell BK304.out 6).trans rfl, (blk_cell BK304.out 7).trans rfl, (blk_cell BK304.out 8).trans rfl, (blk_cell BK304.out 9).trans rfl, (blk_cell BK304.out 10).trans rfl, (blk_cell BK304.out 11).trans rfl⟩ (fun hHeld => ?_)
        clear hK K
        refine norm_ (a' := ?_) ?_ ?_
        rotate_left
        ·show Act.put _ (some 32) _ = _
         simp only [Act.put, List.setIfInBounds_toArray, List.set_cons_zero, List.set_cons_succ, i64_w, i32_w]
         rfl
        refine one_ (i := 6) (N := some 36) #[true, true, true, true, true, true, true, false, true, false] rfl rfl (one_of HT_.out (by kernel_rfl)) (by decide) (fun K hK => ?_)
        refine goes_ Try.func14 (by kernel_rfl) rfl #[.agg #[.int .i64 a0_0, .int .i64 a0_1, .int .i64 a0_2, .int .i64 a0_3, .int .i64 a0_4, .int .i64 a0_5, .int .i64 a0_6, .int .i64 a0_7, .bool a0_8, .int .i64 a0_9, .int .i64 a0_10, .int .i64 a0_11], .int .i64 (wrap64 (x4_2 - 1))] (by rfl) rfl rfl (by (try simp only [List.map_toArray, List.map_cons, List.map_nil]); first | done | rfl | (simp only [List.length_drop, List.length_take]; rfl)) ?_
        with_reducible refine (arena_Cell.calls a0_0 a0_1 a0_2 a0_3 a0_4 a0_5 a0_6 a0_7 a0_8 a0_9 a0_10 a0_11 (wrap64 (x4_2 - 1)) t313 _ A20.out).mono ?_
        rintro e w25 ⟨rfl, hb⟩
        refine ⟨_, rfl, ?_⟩
        have n0_ := Aside0.mk (blk_below (g := gb304) (o := .cells #[.int .i64 a0_0, .int .i64 a0_1, .int .i64 a0_2, .int .i64 a0_3, .int .i64 a0_4, .int .i64 a0_5, .int .i64 a0_6, .int .i64 a0_7, .bool a0_8, .int .i64 a0_9, .int .i64 a0_10, .int .i64 a0_11] 23 (0, 0)) (by (with_reducible repeat first | refine blk_drewN ?_ _ | refine blk_drew ?_ | refine blk_alloc ?_ _); exact BK304.out) hb)
        have n1_ := Aside0.mk (below_step (by repeat (first | (with_reducible first | exact HB.out | apply below_alloc | apply pw_below_drewN | apply below_drew1 | refine below_set ?_ GE304.out) | exact HB.out)) hb)
        clear BK304
        clear HB
        have BK304 := n0_
        have HB := n1_
        clear n0_ n1_
        (try clear hb)
        (try clear hb2)
        (try clear hk)
        (try clear hi)
        refine hK.out _ _ ⟨(blk_cell BK304.out 0).trans rfl, (blk_cell BK304.out 1).trans rfl, (blk_cell BK304.out 2).trans rfl, (blk_cell BK304.out 3).trans rfl, (blk_cell BK304.out 4).trans rfl, (blk_cell BK304.out 5).trans rfl, (blk_cell BK304.out 6).trans rfl, (blk_cell BK304.out 7).trans rfl, (blk_cell BK304.out 8).trans rfl, (blk_cell BK304.out 9).trans rfl, (blk_cell BK304.out 10).trans rfl, (blk_cell BK304.out 11).trans rfl⟩ (fun hHeld => ?_)
        clear hK K
        refine norm_ (a' := ?_) ?_ ?_
        rotate_left
        ·show Act.put _ (some 36) _ = _
         simp only [Act.put, List.setIfInBounds_toArray, List.set_cons_zero, List.set_cons_succ, i64_w, i32_w]
         rfl
        refine pure_ (i := 7) (N := some 37) (v := ?_) (a' := ?_) #[true, true, true, true, true, true, true, true, true, false] rfl rfl (any_of HT_.out (by kernel_rfl)) (fun _ _ _ h => h) (Or.inl ⟨by rfl, ?_⟩) ?_ ?_
        rotate_left
        ·intro w'
         go_simp
         with_reducible rfl
        rotate_left
        ·simp only [Act.put, List.setIfInBounds_toArray, List.set_cons_zero, List.set_cons_succ, i64_w, i32_w]
         rfl
        refine pure_ (i := 9) (N := some 39) (v := ?_) (a' := ?_) #[true, true, true, true, true, true, true, true, true, true] rfl rfl (any_of HT_.out (by kernel_rfl)) (fun _ _ _ h => h) (Or.inl ⟨by rfl, ?_⟩) ?_ ?_
        rotate_left
        ·intro w'
         go_simp
         with_reducible rfl
        rotate_left
        ·simp only [Act.put, List.setIfInBounds_toArray, List.set_cons_zero, List.set_cons_succ, i64_w, i32_w]
         rfl
        refine done_ (done_of HT_.out (by kernel_rfl)) ?_
        try go_wp2
        go_loopg [5] k2 (fun kq v5 w' => ∃ (x5_3 : Int), v5 = .int .i64 x5_3 ∧ Aside0 (millstreamlaw06_ArenaItems.l1 kq (wrap64 ((wrap64 (1 + t308)) + (wrap64 (a0_4 * a0_5)))) x4_2 x5_3 a0_0 a0_1 a0_2 a0_3 a0_4 a0_5 a0_6 a0_7 a0_8 a0_9 a0_10 a0_11 = some r) ∧ Aside0 (kq ≤ k2) ∧ Aside0 (w'.heap[gb304]? = some (.cells #[.int .i64 a0_0, .int .i64 a0_1, .int .i64 a0_2, .int .i64 a0_3, .int .i64 a0_4, .int .i64 a0_5, .int .i64 a0_6, .int .i64 a0_7, .bool a0_8, .int .i64 a0_9, .int .i64 a0_10, .int .i64 a0_11] 23 (0, 0))) ∧ Aside0 (Below w.heap.size w w'))
        case atStart => exact ⟨(1), (by first | rfl | (simp; done) | (simp [*]; done)), H', ⟨Nat.le_refl _⟩, ⟨by (with_reducible repeat first | refine blk_drewN ?_ _ | refine blk_drew ?_ | refine blk_alloc ?_ _); exact BK304.out⟩, ⟨by repeat (first | (with_reducible first | exact HB.out | apply below_alloc | apply pw_below_drewN | apply below_drew1 | refine below_set ?_ GE304.out) | exact HB.out)⟩⟩
        case round =>
         clear H'
         try clear c1
         try clear c2
         try clear p2
         try clear c5
         try clear c6
         try clear p6
         try clear c8
         try clear c9
         try clear c10
         try clear c12
         try clear c14
         try clear c18
         try clear c18b0
         try clear c21
         try clear c21b0
         try clear c21b1
         try clear hcz10_0
         try clear hcz10_1
         try clear hcz10_10
         try clear hcz10_11
         try clear hcz10_2
         try clear hcz10_3
         try clear hcz10_4
         try clear hcz10_5
         try clear hcz10_6
         try clear hcz10_7
         try clear hcz10_8
         try clear hcz10_9
         try clear hcz22_0
         try clear hcz22_1
         try clear hcz22_10
         try clear hcz22_11
         try clear hcz22_2
         try clear hcz22_3
         try clear hcz22_4
         try clear hcz22_5
         try clear hcz22_6
         try clear hcz22_7
         try clear hcz22_8
         try clear hcz22_9
         try clear hcz7_0
         try clear hcz7_1
         try clear hcz7_10
         try clear hcz7_11
         try clear hcz7_2
         try clear hcz7_3
         try clear hcz7_4
         try clear hcz7_5
         try clear hcz7_6
         try clear hcz7_7
         try clear hcz7_8
         try clear hcz7_9
         try clear hfz10_0
         try clear hfz10_1
         try clear hfz10_10
         try clear hfz10_11
         try clear hfz10_2
         try clear hfz10_3
         try clear hfz10_4
         try clear hfz10_5
         try clear hfz10_6
         try clear hfz10_7
         try clear hfz10_8
         try clear hfz10_9
         try clear hfz22_0
         try clear hfz22_1
         try clear hfz22_10
         try clear hfz22_11
         try clear hfz22_2
         try clear hfz22_3
         try clear hfz22_4
         try clear hfz22_5
         try clear hfz22_6
         try clear hfz22_7
         try clear hfz22_8
         try clear hfz22_9
         try clear hfz7_0
         try clear hfz7_1
         try clear hfz7_10
         try clear hfz7_11
         try clear hfz7_2
         try clear hfz7_3
         try clear hfz7_4
         try clear hfz7_5
         try clear hfz7_6
         try clear hfz7_7
         try clear hfz7_8
         try clear hfz7_9
         try clear p2
         try clear p6
         obtain ⟨x5_3, rfl, HA, HK3, BK304, HB⟩ := hrel
         cases gk with
         | zero => exact absurd HA.out (by simp [millstreamlaw06_ArenaItems.l1])
         | succ k3 =>
          have H := HA.out
          clear HA
          simp only [millstreamlaw06_ArenaItems.l1] at H
          replace H := Option.bind_eq_some_iff.mp H
          obtain ⟨t314, A260, H⟩ := H
          replace H : (if x5_3 ≤ t314 then ((arena_Node.f a0_0 a0_1 a0_2 a0_3 a0_4 a0_5 a0_6 a0_7 a0_8 a0_9 a0_10 a0_11 x4_2 x5_3).bind fun t315 => ((arena_Node.f a0_0 a0_1 a0_2 a0_3 a0_4 a0_5 a0_6 a0_7 a0_8 a0_9 a0_10 a0_11 (wrap64 (x4_2 - 1)) x5_3).bind fun t316 => (if (wrap64 (t315 - t316)) = (wrap64 ((wrap64 (1 + t308)) + (wrap64 (a0_4 * a0_5)))) then (millstreamlaw06_ArenaItems.l1 k3 (wrap64 ((wrap64 (1 + t308)) + (wrap64 (a0_4 * a0_5)))) x4_2 (wrap64 (x5_3 + 1)) a0_0 a0_1 a0_2 a0_3 a0_4 a0_5 a0_6 a0_7 a0_8 a0_9 a0_10 a0_11) else (some false)))) else (millstreamlaw06_ArenaItems.l2 k3 (wrap64 ((wrap64 (1 + t308)) + (wrap64 (a0_4 * a0_5)))) x4_2 1 a0_0 a0_1 a0_2 a0_3 a0_4 a0_5 a0_6 a0_7 a0_8 a0_9 a0_10 a0_11)) = some r := H
          have A26 := Aside0.mk A260
          clear A260
          by_cases c27 : x5_3 ≤ t314
          ·rw [if_pos c27] at H
           have c27b0 : decide (x5_3 ≤ t314) = true := decide_eq_true c27
           clear c27
           replace H := Option.bind_eq_some_iff.mp H
           obtain ⟨t315, A280, H⟩ := H
           replace H : ((arena_Node.f a0_0 a0_1 a0_2 a0_3 a0_4 a0_5 a0_6 a0_7 a0_8 a0_9 a0_10 a0_11 (wrap64 (x4_2 - 1)) x5_3).bind fun t316 => (if (wrap64 (t315 - t316)) = (wrap64 ((wrap64 (1 + t308)) + (wrap64 (a0_4 * a0_5)))) then (millstreamlaw06_ArenaItems.l1 k3 (wrap64 ((wrap64 (1 + t308)) + (wrap64 (a0_4 * a0_5)))) x4_2 (wrap64 (x5_3 + 1)) a0_0 a0_1 a0_2 a0_3 a0_4 a0_5 a0_6 a0_7 a0_8 a0_9 a0_10 a0_11) else (some false))) = some r := H
           have A28 := Aside0.mk A280
           clear A280
           replace H := Option.bind_eq_some_iff.mp H
           obtain ⟨t316, A290, H⟩ := H
           replace H : (if (wrap64 (t315 - t316)) = (wrap64 ((wrap64 (1 + t308)) + (wrap64 (a0_4 * a0_5)))) then (millstreamlaw06_ArenaItems.l1 k3 (wrap64 ((wrap64 (1 + t308)) + (wrap64 (a0_4 * a0_5)))) x4_2 (wrap64 (x5_3 + 1)) a0_0 a0_1 a0_2 a0_3 a0_4 a0_5 a0_6 a0_7 a0_8 a0_9 a0_10 a0_11) else (some false)) = some r := H
           have A29 := Aside0.mk A290
           clear A290
           by_cases c30 : (wrap64 (t315 - t316)) = (wrap64 ((wrap64 (1 + t308)) + (wrap64 (a0_4 * a0_5))))
           ·rw [if_pos c30] at H
            have c30b0 : ((wrap64 (t315 - t316)) == (wrap64 ((wrap64 (1 + t308)) + (wrap64 (a0_4 * a0_5))))) = true := beq_iff_eq.mpr c30
            have c30b1 : ((wrap64 (t315 - t316)) != (wrap64 ((wrap64 (1 + t308)) + (wrap64 (a0_4 * a0_5))))) = false := bne_eq_false_iff_eq.mpr c30
            clear c30
            have H' := Aside0.mk H
            clear H
            have hcz31_0 : wr.cell? ⟨gb304, 0, none⟩ = some (.int .i64 a0_0) := (blk_cell BK304.out 0).trans rfl
            have hcz31_1 : wr.cell? ⟨gb304, 1, none⟩ = some (.int .i64 a0_1) := (blk_cell BK304.out 1).trans rfl
            have hcz31_2 : wr.cell? ⟨gb304, 2, none⟩ = some (.int .i64 a0_2) := (blk_cell BK304.out 2).trans rfl
            have hcz31_3 : wr.cell? ⟨gb304, 3, none⟩ = some (.int .i64 a0_3) := (blk_cell BK304.out 3).trans rfl
            have hcz31_4 : wr.cell? ⟨gb304, 4, none⟩ = some (.int .i64 a0_4) := (blk_cell BK304.out 4).trans rfl
            have hcz31_5 : wr.cell? ⟨gb304, 5, none⟩ = some (.int .i64 a0_5) := (blk_cell BK304.out 5).trans rfl
            have hcz31_6 : wr.cell? ⟨gb304, 6, none⟩ = some (.int .i64 a0_6) := (blk_cell BK304.out 6).trans rfl
            have hcz31_7 : wr.cell? ⟨gb304, 7, none⟩ = some (.int .i64 a0_7) := (blk_cell BK304.out 7).trans rfl
            have hcz31_8 : wr.cell? ⟨gb304, 8, none⟩ = some (.bool a0_8) := (blk_cell BK304.out 8).trans rfl
            have hcz31_9 : wr.cell? ⟨gb304, 9, none⟩ = some (.int .i64 a0_9) := (blk_cell BK304.out 9).trans rfl
            have hcz31_10 : wr.cell? ⟨gb304, 10, none⟩ = some (.int .i64 a0_10) := (blk_cell BK304.out 10).trans rfl
            have hcz31_11 : wr.cell? ⟨gb304, 11, none⟩ = some (.int .i64 a0_11) := (blk_cell BK304.out 11).trans rfl
            have hfz31_0 := blk_frozen BK304.out 0
            have hfz31_1 := blk_frozen BK304.out 1
            have hfz31_2 := blk_frozen BK304.out 2
            have hfz31_3 := blk_frozen BK304.out 3
            have hfz31_4 := blk_frozen BK304.out 4
            have hfz31_5 := blk_frozen BK304.out 5
            have hfz31_6 := blk_frozen BK304.out 6
            have hfz31_7 := blk_frozen BK304.out 7
            have hfz31_8 := blk_frozen BK304.out 8
            have hfz31_9 := blk_frozen BK304.out 9
            have hfz31_10 := blk_frozen BK304.out 10
            have hfz31_11 := blk_frozen BK304.out 11
            try go_wp2_with (first | ((with_reducible refine gate_callee (f := 11) rfl ?_); refine goesL_ (some 42) rfl rfl Try.func11 (by kernel_rfl) rfl #[.agg #[.int .i64 a0_0, .int .i64 a0_1, .int .i64 a0_2, .int .i64 a0_3, .int .i64 a0_4, .int .i64 a0_5, .int .i64 a0_6, .int .i64 a0_7, .bool a0_8, .int .i64 a0_9, .int .i64 a0_10, .int .i64 a0_11]] rfl (by (try simp only [List.map_toArray, List.map_cons, List.map_nil]); first | done | rfl | (simp only [List.length_drop, List.length_take]; rfl)) ?_; (with_reducible refine (millstreamref06_Nodes.calls k3 a0_0 a0_1 a0_2 a0_3 a0_4 a0_5 a0_6 a0_7 a0_8 a0_9 a0_10 a0_11 t314 _ A26.out).mono ?_); rintro e w32 ⟨rfl, hb⟩; refine ⟨_, rfl, ?_⟩; have n0_ := Aside0.mk (blk_below (g := gb304) (o := .cells #[.int .i64 a0_0, .int .i64 a0_1, .int .i64 a0_2, .int .i64 a0_3, .int .i64 a0_4, .int .i64 a0_5, .int .i64 a0_6, .int .i64 a0_7, .bool a0_8, .int .i64 a0_9, .int .i64 a0_10, .int .i64 a0_11] 23 (0, 0)) (by (with_reducible repeat first | refine blk_drewN ?_ _ | refine blk_drew ?_ | refine blk_alloc ?_ _); exact BK304.out) hb); have n1_ := Aside0.mk (below_step (by repeat (first | (with_reducible first | exact HB.out | apply below_alloc | apply pw_below_drewN | apply below_drew1 | refine below_set ?_ GE304.out) | exact HB.out)) hb); clear BK304; clear HB; have BK304 := n0_; have HB := n1_; clear n0_ n1_; (try clear hb); (try clear hb2); (try clear hk); (try clear hi)))
            have n0_ := Aside0.mk (blk_drew BK304.out)
            have n1_ := Aside0.mk (below_drew1 HB.out)
            clear BK304
            clear HB
            have BK304 := n0_
            have HB := n1_
            clear n0_ n1_
            refine start_ (n := 12) (S := fun w' => w'.cell? ⟨gb304, 0, none⟩ = some (.int .i64 a0_0) ∧ w'.cell? ⟨gb304, 1, none⟩ = some (.int .i64 a0_1) ∧ w'.cell? ⟨gb304, 2, none⟩ = some (.int .i64 a0_2) ∧ w'.cell? ⟨gb304, 3, none⟩ = some (.int .i64 a0_3) ∧ w'.cell? ⟨gb304, 4, none⟩ = some (.int .i64 a0_4) ∧ w'.cell? ⟨gb304, 5, none⟩ = some (.int .i64 a0_5) ∧ w'.cell? ⟨gb304, 6, none⟩ = some (.int .i64 a0_6) ∧ w'.cell? ⟨gb304, 7, none⟩ = some (.int .i64 a0_7) ∧ w'.cell? ⟨gb304, 8, none⟩ = some (.bool a0_8) ∧ w'.cell? ⟨gb304, 9, none⟩ = some (.int .i64 a0_9) ∧ w'.cell? ⟨gb304, 10, none⟩ = some (.int .i64 a0_10) ∧ w'.cell? ⟨gb304, 11, none⟩ = some (.int .i64 a0_11)) (ds := []) #[false, false, false, false, false, false, false, false, false, false, false, false] (by kernel_rfl) rfl rfl ⟨(blk_cell BK304.out 0).trans rfl, (blk_cell BK304.out 1).trans rfl, (blk_cell BK304.out 2).trans rfl, (blk_cell BK304.out 3).trans rfl, (blk_cell BK304.out 4).trans rfl, (blk_cell BK304.out 5).trans rfl, (blk_cell BK304.out 6).trans rfl, (blk_cell BK304.out 7).trans rfl, (blk_cell BK304.out 8).trans rfl, (blk_cell BK304.out 9).trans rfl, (blk_cell BK304.out 10).trans rfl, (blk_cell BK304.out 11).trans rfl⟩ (fun hHeld => ?_); refine with_tabW millstreamlaw06_ArenaItems.tab12 millstreamlaw06_ArenaItems.bits12 (fun HT_ HW_ => ?_)
            generalize w32.drew = w33 at BK304 HB hHeld ⊢
            refine pure_ (i := 1) (N := some 47) (v := ?_) (a' := ?_) #[false, true, false, false, false, false, false, false, false, false, false, false] rfl rfl (any_of HT_.out (by kernel_rfl)) (fun _ _ _ h => h) (Or.inl ⟨by rfl, ?_⟩) ?_ ?_
            rotate_left
            ·intro w'
             go_simp
             with_reducible rfl
            rotate_left
            ·simp only [Act.put, List.setIfInBounds_toArray, List.set_cons_zero, List.set_cons_succ, i64_w, i32_w]
             rfl
            refine pure_ (i := 2) (N := some 48) (v := ?_) (a' := ?_) #[false, true, true, false, false, false, false, false, false, false, false, false] rfl rfl (any_of HT_.out (by kernel_rfl)) (fun _ _ _ h => h) (Or.inl ⟨by rfl, ?_⟩) ?_ ?_
            rotate_left
            ·intro w'
             go_simp
             with_reducible rfl
            rotate_left
            ·simp only [Act.put, List.setIfInBounds_toArray, List.set_cons_zero, List.set_cons_succ, i64_w, i32_w]
             rfl
            refine pure_ (i := 5) (N := some 51) (v := ?_) (a' := ?_) #[false, true, true, false, false, true, false, false, false, false, false, false] rfl rfl (any_of HT_.out (by kernel_rfl)) (fun _ _ _ h => h) (Or.inl ⟨by rfl, ?_⟩) ?_ ?_
            rotate_left
            ·intro w'
             go_simp
             with_reducible rfl
            rotate_left
            ·simp only [Act.put, List.setIfInBounds_toArray, List.set_cons_zero, List.set_cons_succ, i64_w, i32_w]
             rfl
            refine pure_ (i := 6) (N := some 52) (v := ?_) (a' := ?_) #[false, true, true, false, false, true, true, false, false, false, false, false] rfl rfl (any_of HT_.out (by kernel_rfl)) (fun _ _ _ h => h) (Or.inl ⟨by rfl, ?_⟩) ?_ ?_
            rotate_left
            ·intro w'
             go_simp
             with_reducible rfl
            rotate_left
            ·simp only [Act.put, List.setIfInBounds_toArray, List.set_cons_zero, List.set_cons_succ, i64_w, i32_w]
             rfl
            refine pure_ (i := 7) (N := some 53) (v := ?_) (a' := ?_) #[false, true, true, false, false, true, true, true, false, false, false, false] rfl rfl (any_of HT_.out (by kernel_rfl)) (fun _ _ _ h => h) (Or.inl ⟨by rfl, ?_⟩) ?_ ?_
            rotate_left
            ·intro w'
             go_simp
             with_reducible rfl
            rotate_left
            ·simp only [Act.put, List.setIfInBounds_toArray, List.set_cons_zero, List.set_cons_succ, i64_w, i32_w]
             rfl
            refine pure_ (i := 10) (N := some 56) (v := ?_) (a' := ?_) #[false, true, true, false, false, true, true, true, false, false, true, false] rfl rfl (any_of HT_.out (by kernel_rfl)) (fun _ _ _ h => h) (Or.inl ⟨by rfl, ?_⟩) ?_ ?_
            rotate_left
            ·intro w'
             go_simp
             with_reducible rfl
            rotate_left
            ·simp only [Act.put, List.setIfInBounds_toArray, List.set_cons_zero, List.set_cons_succ, i64_w, i32_w]
             rfl
            refine take_ (i := 0) (N := some 46) (v := ?_) (a' := ?_) #[true, true, true, false, false, true, true, true, false, false, true, false] rfl rfl (take_ofW HT_.out HW_.out (by kernel_rfl)) (fun _ _ _ h => h) (Or.inl ⟨by rfl, ?_⟩) hHeld ?_ ?_
            rotate_left
            ·rintro w' ⟨s0, s1, s2, s3, s4, s5, s6, s7, s8, s9, s10, s11⟩
             go_simp
             with_reducible rfl
            rotate_left
            ·simp only [Act.put, List.setIfInBounds_toArray, List.set_cons_zero, List.set_cons_succ, i64_w, i32_w]
             rfl
            refine take_ (i := 4) (N := some 50) (v := ?_) (a' := ?_) #[true, true, true, false, true, true, true, true, false, false, true, false] rfl rfl (take_ofW HT_.out HW_.out (by kernel_rfl)) (fun _ _ _ h => h) (Or.inl ⟨by rfl, ?_⟩) hHeld ?_ ?_
            rotate_left
            ·rintro w' ⟨s0, s1, s2, s3, s4, s5, s6, s7, s8, s9, s10, s11⟩
             go_simp
             with_reducible rfl
            rotate_left
            ·simp only [Act.put, List.setIfInBounds_toArray, List.set_cons_zero, List.set_cons_succ, i64_w, i32_w]
             rfl
            refine one_ (i := 3) (N := some 49) #[true, true, true, true, true, true, true, true, false, false, true, false] rfl rfl (one_of HT_.out (by kernel_rfl)) (by decide) (fun K hK => ?_)
            refine goes_ Try.func16 (by kernel_rfl) rfl #[.agg #[.int .i64 a0_0, .int .i64 a0_1, .int .i64 a0_2, .int .i64 a0_3, .int .i64 a0_4, .int .i64 a0_5, .int .i64 a0_6, .int .i64 a0_7, .bool a0_8, .int .i64 a0_9, .int .i64 a0_10, .int .i64 a0_11], .int .i64 x4_2, .int .i64 x5_3] (by rfl) rfl rfl (by (try simp only [List.map_toArray, List.map_cons, List.map_nil]); first | done | rfl | (simp only [List.length_drop, List.length_take]; rfl)) ?_
            with_reducible refine (arena_Node.calls a0_0 a0_1 a0_2 a0_3 a0_4 a0_5 a0_6 a0_7 a0_8 a0_9 a0_10 a0_11 x4_2 x5_3 t315 _ A28.out).mono ?_
            rintro e w34 ⟨rfl, hb⟩
            refine ⟨_, rfl, ?_⟩
            have n0_ := Aside0.mk (blk_below (g := gb304) (o := .cells #[.int .i64 a0_0, .int .i64 a0_1, .int .i64 a0_2, .int .i64 a0_3, .int .i64 a0_4, .int .i64 a0_5, .int .i64 a0_6, .int .i64 a0_7, .bool a0_8, .int .i64 a0_9, .int .i64 a0_10, .int .i64 a0_11] 23 (0, 0)) (by (with_reducible repeat first | refine blk_drewN ?_ _ | refine blk_drew ?_ | refine blk_alloc ?_ _); exact BK304.out) hb)
            have n1_ := Aside0.mk (below_step (by repeat (first | (with_reducible first | exact HB.out | apply below_alloc | apply pw_below_drewN | apply below_drew1 | refine below_set ?_ GE304.out) | exact HB.out)) hb)
            clear BK304
            clear HB
            have BK304 := n0_
            have HB := n1_
            clear n0_ n1_
            (try clear hb)
            (try clear hb2)
            (try clear hk)
            (try clear hi)
            refine hK.out _ _ ⟨(blk_cell BK304.out 0).trans rfl, (blk_cell BK304.out 1).trans rfl, (blk_cell BK304.out 2).trans rfl, (blk_cell BK304.out 3).trans rfl, (blk_cell BK304.out 4).trans rfl, (blk_cell BK304.out 5).trans rfl, (blk_cell BK304.out 6).trans rfl, (blk_cell BK304.out 7).trans rfl, (blk_cell BK304.out 8).trans rfl, (blk_cell BK304.out 9).trans rfl, (blk_cell BK304.out 10).trans rfl, (blk_cell BK304.out 11).trans rfl⟩ (fun hHeld => ?_)
            clear hK K
            refine norm_ (a' := ?_) ?_ ?_
            rotate_left
            ·show Act.put _ (some 49) _ = _
             simp only [Act.put, List.setIfInBounds_toArray, List.set_cons_zero, List.set_cons_succ, i64_w, i32_w]
             rfl
            refine one_ (i := 8) (N := some 54) #[true, true, true, true, true, true, true, true, true, false, true, false] rfl rfl (one_of HT_.out (by kernel_rfl)) (by decide) (fun K hK => ?_)
            refine goes_ Try.func16 (by kernel_rfl) rfl #[.agg #[.int .i64 a0_0, .int .i64 a0_1, .int .i64 a0_2, .int .i64 a0_3, .int .i64 a0_4, .int .i64 a0_5, .int .i64 a0_6, .int .i64 a0_7, .bool a0_8, .int .i64 a0_9, .int .i64 a0_10, .int .i64 a0_11], .int .i64 (wrap64 (x4_2 - 1)), .int .i64 x5_3] (by rfl) rfl rfl (by (try simp only [List.map_toArray, List.map_cons, List.map_nil]); first | done | rfl | (simp only [List.length_drop, List.length_take]; rfl)) ?_
            with_reducible refine (arena_Node.calls a0_0 a0_1 a0_2 a0_3 a0_4 a0_5 a0_6 a0_7 a0_8 a0_9 a0_10 a0_11 (wrap64 (x4_2 - 1)) x5_3 t316 _ A29.out).mono ?_
            rintro e w35 ⟨rfl, hb⟩
            refine ⟨_, rfl, ?_⟩
            have n0_ := Aside0.mk (blk_below (g := gb304) (o := .cells #[.int .i64 a0_0, .int .i64 a0_1, .int .i64 a0_2, .int .i64 a0_3, .int .i64 a0_4, .int .i64 a0_5, .int .i64 a0_6, .int .i64 a0_7, .bool a0_8, .int .i64 a0_9, .int .i64 a0_10, .int .i64 a0_11] 23 (0, 0)) (by (with_reducible repeat first | refine blk_drewN ?_ _ | refine blk_drew ?_ | refine blk_alloc ?_ _); exact BK304.out) hb)
            have n1_ := Aside0.mk (below_step (by repeat (first | (with_reducible first | exact HB.out | apply below_alloc | apply pw_below_drewN | apply below_drew1 | refine below_set ?_ GE304.out) | exact HB.out)) hb)
            clear BK304
            clear HB
            have BK304 := n0_
            have HB := n1_
            clear n0_ n1_
            (try clear hb)
            (try clear hb2)
            (try clear hk)
            (try clear hi)
            refine hK.out _ _ ⟨(blk_cell BK304.out 0).trans rfl, (blk_cell BK304.out 1).trans rfl, (blk_cell BK304.out 2).trans rfl, (blk_cell BK304.out 3).trans rfl, (blk_cell BK304.out 4).trans rfl, (blk_cell BK304.out 5).trans rfl, (blk_cell BK304.out 6).trans rfl, (blk_cell BK304.out 7).trans rfl, (blk_cell BK304.out 8).trans rfl, (blk_cell BK304.out 9).trans rfl, (blk_cell BK304.out 10).trans rfl, (blk_cell BK304.out 11).trans rfl⟩ (fun hHeld => ?_)
            clear hK K
            refine norm_ (a' := ?_) ?_ ?_
            rotate_left
            ·show Act.put _ (some 54) _ = _
             simp only [Act.put, List.setIfInBounds_toArray, List.set_cons_zero, List.set_cons_succ, i64_w, i32_w]
             rfl
            refine pure_ (i := 9) (N := some 55) (v := ?_) (a' := ?_) #[true, true, true, true, true, true, true, true, true, true, true, false] rfl rfl (any_of HT_.out (by kernel_rfl)) (fun _ _ _ h => h) (Or.inl ⟨by rfl, ?_⟩) ?_ ?_
            rotate_left
            ·intro w'
             go_simp
             with_reducible rfl
            rotate_left
            ·simp only [Act.put, List.setIfInBounds_toArray, List.set_cons_zero, List.set_cons_succ, i64_w, i32_w]
             rfl
            refine pure_ (i := 11) (N := some 57) (v := ?_) (a' := ?_) #[true, true, true, true, true, true, true, true, true, true, true, true] rfl rfl (any_of HT_.out (by kernel_rfl)) (fun _ _ _ h => h) (Or.inl ⟨by rfl, ?_⟩) ?_ ?_
            rotate_left
            ·intro w'
             go_simp
             with_reducible rfl
            rotate_left
            ·simp only [Act.put, List.setIfInBounds_toArray, List.set_cons_zero, List.set_cons_succ, i64_w, i32_w]
             rfl
            refine done_ (done_of HT_.out (by kernel_rfl)) ?_
            try go_wp2
            go_roundg k3
            case measure => have := HJ1.out; have := HK2.out; have := HK3.out; omega
            case rel => exact ⟨(wrap64 (x5_3 + 1)), (by first | rfl | (simp; done) | (simp [*]; done)), H', ⟨by have := HJ1.out; have := HK2.out; have := HK3.out; omega⟩, ⟨by (with_reducible repeat first | refine blk_drewN ?_ _ | refine blk_drew ?_ | refine blk_alloc ?_ _); exact BK304.out⟩, ⟨by repeat (first | (with_reducible first | exact HB.out | apply below_alloc | apply pw_below_drewN | apply below_drew1 | refine below_set ?_ GE304.out) | exact HB.out)⟩⟩
           ·rw [if_neg c30] at H
            have c30b0 : ((wrap64 (t315 - t316)) == (wrap64 ((wrap64 (1 + t308)) + (wrap64 (a0_4 * a0_5))))) = false := beq_eq_false_iff_ne.mpr c30
            have c30b1 : ((wrap64 (t315 - t316)) != (wrap64 ((wrap64 (1 + t308)) + (wrap64 (a0_4 * a0_5))))) = true := bne_iff_ne.mpr c30
            exact absurd ((Option.some.inj H).trans hr_.out) (by decide)
          ·rw [if_neg c27] at H
           have c27b0 : decide (x5_3 ≤ t314) = false := decide_eq_false c27
           clear c27
           have H' := Aside0.mk H
           clear H
           have hcz36_0 : wr.cell? ⟨gb304, 0, none⟩ = some (.int .i64 a0_0) := (blk_cell BK304.out 0).trans rfl
           have hcz36_1 : wr.cell? ⟨gb304, 1, none⟩ = some (.int .i64 a0_1) := (blk_cell BK304.out 1).trans rfl
           have hcz36_2 : wr.cell? ⟨gb304, 2, none⟩ = some (.int .i64 a0_2) := (blk_cell BK304.out 2).trans rfl
           have hcz36_3 : wr.cell? ⟨gb304, 3, none⟩ = some (.int .i64 a0_3) := (blk_cell BK304.out 3).trans rfl
           have hcz36_4 : wr.cell? ⟨gb304, 4, none⟩ = some (.int .i64 a0_4) := (blk_cell BK304.out 4).trans rfl
           have hcz36_5 : wr.cell? ⟨gb304, 5, none⟩ = some (.int .i64 a0_5) := (blk_cell BK304.out 5).trans rfl
           have hcz36_6 : wr.cell? ⟨gb304, 6, none⟩ = some (.int .i64 a0_6) := (blk_cell BK304.out 6).trans rfl
           have hcz36_7 : wr.cell? ⟨gb304, 7, none⟩ = some (.int .i64 a0_7) := (blk_cell BK304.out 7).trans rfl
           have hcz36_8 : wr.cell? ⟨gb304, 8, none⟩ = some (.bool a0_8) := (blk_cell BK304.out 8).trans rfl
           have hcz36_9 : wr.cell? ⟨gb304, 9, none⟩ = some (.int .i64 a0_9) := (blk_cell BK304.out 9).trans rfl
           have hcz36_10 : wr.cell? ⟨gb304, 10, none⟩ = some (.int .i64 a0_10) := (blk_cell BK304.out 10).trans rfl
           have hcz36_11 : wr.cell? ⟨gb304, 11, none⟩ = some (.int .i64 a0_11) := (blk_cell BK304.out 11).trans rfl
           have hfz36_0 := blk_frozen BK304.out 0
           have hfz36_1 := blk_frozen BK304.out 1
           have hfz36_2 := blk_frozen BK304.out 2
           have hfz36_3 := blk_frozen BK304.out 3
           have hfz36_4 := blk_frozen BK304.out 4
           have hfz36_5 := blk_frozen BK304.out 5
           have hfz36_6 := blk_frozen BK304.out 6
           have hfz36_7 := blk_frozen BK304.out 7
           have hfz36_8 := blk_frozen BK304.out 8
           have hfz36_9 := blk_frozen BK304.out 9
           have hfz36_10 := blk_frozen BK304.out 10
           have hfz36_11 := blk_frozen BK304.out 11
           go_wp2_with (first | ((with_reducible refine gate_callee (f := 11) rfl ?_); refine goesL_ (some 42) rfl rfl Try.func11 (by kernel_rfl) rfl #[.agg #[.int .i64 a0_0, .int .i64 a0_1, .int .i64 a0_2, .int .i64 a0_3, .int .i64 a0_4, .int .i64 a0_5, .int .i64 a0_6, .int .i64 a0_7, .bool a0_8, .int .i64 a0_9, .int .i64 a0_10, .int .i64 a0_11]] rfl (by (try simp only [List.map_toArray, List.map_cons, List.map_nil]); first | done | rfl | (simp only [List.length_drop, List.length_take]; rfl)) ?_; (with_reducible refine (millstreamref06_Nodes.calls k3 a0_0 a0_1 a0_2 a0_3 a0_4 a0_5 a0_6 a0_7 a0_8 a0_9 a0_10 a0_11 t314 _ A26.out).mono ?_); rintro e w37 ⟨rfl, hb⟩; refine ⟨_, rfl, ?_⟩; have n0_ := Aside0.mk (blk_below (g := gb304) (o := .cells #[.int .i64 a0_0, .int .i64 a0_1, .int .i64 a0_2, .int .i64 a0_3, .int .i64 a0_4, .int .i64 a0_5, .int .i64 a0_6, .int .i64 a0_7, .bool a0_8, .int .i64 a0_9, .int .i64 a0_10, .int .i64 a0_11] 23 (0, 0)) (by (with_reducible repeat first | refine blk_drewN ?_ _ | refine blk_drew ?_ | refine blk_alloc ?_ _); exact BK304.out) hb); have n1_ := Aside0.mk (below_step (by repeat (first | (with_reducible first | exact HB.out | apply below_alloc | apply pw_below_drewN | apply below_drew1 | refine below_set ?_ GE304.out) | exact HB.out)) hb); clear BK304; clear HB; have BK304 := n0_; have HB := n1_; clear n0_ n1_; (try clear hb); (try clear hb2); (try clear hk); (try clear hi)))
           go_loopg [6] k3 (fun kq v6 w' => ∃ (x6_4 : Int), v6 = .int .i64 x6_4 ∧ Aside0 (millstreamlaw06_ArenaItems.l2 kq (wrap64 ((wrap64 (1 + t308)) + (wrap64 (a0_4 * a0_5)))) x4_2 x6_4 a0_0 a0_1 a0_2 a0_3 a0_4 a0_5 a0_6 a0_7 a0_8 a0_9 a0_10 a0_11 = some r) ∧ Aside0 (kq ≤ k3) ∧ Aside0 (w'.heap[gb304]? = some (.cells #[.int .i64 a0_0, .int .i64 a0_1, .int .i64 a0_2, .int .i64 a0_3, .int .i64 a0_4, .int .i64 a0_5, .int .i64 a0_6, .int .i64 a0_7, .bool a0_8, .int .i64 a0_9, .int .i64 a0_10, .int .i64 a0_11] 23 (0, 0))) ∧ Aside0 (Below w.heap.size w w'))
           case atStart => exact ⟨(1), (by first | rfl | (simp; done) | (simp [*]; done)), H', ⟨Nat.le_refl _⟩, ⟨by (with_reducible repeat first | refine blk_drewN ?_ _ | refine blk_drew ?_ | refine blk_alloc ?_ _); exact BK304.out⟩, ⟨by repeat (first | (with_reducible first | exact HB.out | apply below_alloc | apply pw_below_drewN | apply below_drew1 | refine below_set ?_ GE304.out) | exact HB.out)⟩⟩
           case round =>
            clear H'
            try clear c1
            try clear c2
            try clear p2
            try clear c3
            try clear c5
            try clear c6
            try clear p6
            try clear c8
            try clear c9
            try clear c10
            try clear c11
            try clear c12
            try clear c14
            try clear c16
            try clear c18
            try clear c18b0
            try clear c21
            try clear c21b0
            try clear c21b1
            try clear c27
            try clear c27b0
            try clear c30
            try clear c30b0
            try clear c30b1
            try clear hcz10_0
            try clear hcz10_1
            try clear hcz10_10
            try clear hcz10_11
            try clear hcz10_2
            try clear hcz10_3
            try clear hcz10_4
            try clear hcz10_5
            try clear hcz10_6
            try clear hcz10_7
            try clear hcz10_8
            try clear hcz10_9
            try clear hcz22_0
            try clear hcz22_1
            try clear hcz22_10
            try clear hcz22_11
            try clear hcz22_2
            try clear hcz22_3
            try clear hcz22_4
            try clear hcz22_5
            try clear hcz22_6
            try clear hcz22_7
            try clear hcz22_8
            try clear hcz22_9
            try clear hcz31_0
            try clear hcz31_1
            try clear hcz31_10
            try clear hcz31_11
            try clear hcz31_2
            try clear hcz31_3
            try clear hcz31_4
            try clear hcz31_5
            try clear hcz31_6
            try clear hcz31_7
            try clear hcz31_8
            try clear hcz31_9
            try clear hcz36_0
            try clear hcz36_1
            try clear hcz36_10
            try clear hcz36_11
            try clear hcz36_2
            try clear hcz36_3
            try clear hcz36_4
            try clear hcz36_5
            try clear hcz36_6
            try clear hcz36_7
            try clear hcz36_8
            try clear hcz36_9
            try clear hcz7_0
            try clear hcz7_1
            try clear hcz7_10
            try clear hcz7_11
            try clear hcz7_2
            try clear hcz7_3
            try clear hcz7_4
            try clear hcz7_5
            try clear hcz7_6
            try clear hcz7_7
            try clear hcz7_8
            try clear hcz7_9
            try clear hfz10_0
            try clear hfz10_1
            try clear hfz10_10
            try clear hfz10_11
            try clear hfz10_2
            try clear hfz10_3
            try clear hfz10_4
            try clear hfz10_5
            try clear hfz10_6
            try clear hfz10_7
            try clear hfz10_8
            try clear hfz10_9
            try clear hfz22_0
            try clear hfz22_1
            try clear hfz22_10
            try clear hfz22_11
            try clear hfz22_2
            try clear hfz22_3
            try clear hfz22_4
            try clear hfz22_5
            try clear hfz22_6
            try clear hfz22_7
            try clear hfz22_8
            try clear hfz22_9
            try clear hfz31_0
            try clear hfz31_1
            try clear hfz31_10
            try clear hfz31_11
            try clear hfz31_2
            try clear hfz31_3
            try clear hfz31_4
            try clear hfz31_5
            try clear hfz31_6
            try clear hfz31_7
            try clear hfz31_8
            try clear hfz31_9
            try clear hfz36_0
            try clear hfz36_1
            try clear hfz36_10
            try clear hfz36_11
            try clear hfz36_2
            try clear hfz36_3
            try clear hfz36_4
            try clear hfz36_5
            try clear hfz36_6
            try clear hfz36_7
            try clear hfz36_8
            try clear hfz36_9
            try clear hfz7_0
            try clear hfz7_1
            try clear hfz7_10
            try clear hfz7_11
            try clear hfz7_2
            try clear hfz7_3
            try clear hfz7_4
            try clear hfz7_5
            try clear hfz7_6
            try clear hfz7_7
            try clear hfz7_8
            try clear hfz7_9
            try clear p2
            try clear p6
            obtain ⟨x6_4, rfl, HA, HK4, BK304, HB⟩ := hrel
            cases gk with
            | zero => exact absurd HA.out (by simp [millstreamlaw06_ArenaItems.l2])
            | succ k4 =>
             have H := HA.out
             clear HA
             simp only [millstreamlaw06_ArenaItems.l2] at H
             by_cases c38 : x6_4 ≤ a0_4
             ·rw [if_pos c38] at H
              have c38b0 : decide (x6_4 ≤ a0_4) = true := decide_eq_true c38
              clear c38
              replace H := Option.bind_eq_some_iff.mp H
              obtain ⟨t317, A390, H⟩ := H
              replace H : ((arena_Slot.f a0_0 a0_1 a0_2 a0_3 a0_4 a0_5 a0_6 a0_7 a0_8 a0_9 a0_10 a0_11 (wrap64 (x4_2 - 1)) x6_4 (wrap64 (a0_5 - 1))).bind fun t318 => (if (wrap64 (t317 - t318)) = (wrap64 ((wrap64 (1 + t308)) + (wrap64 (a0_4 * a0_5)))) then (millstreamlaw06_ArenaItems.l2 k4 (wrap64 ((wrap64 (1 + t308)) + (wrap64 (a0_4 * a0_5)))) x4_2 (wrap64 (x6_4 + 1)) a0_0 a0_1 a0_2 a0_3 a0_4 a0_5 a0_6 a0_7 a0_8 a0_9 a0_10 a0_11) else (some false))) = some r := H
              have A39 := Aside0.mk A390
              clear A390
              replace H := Option.bind_eq_some_iff.mp H
              obtain ⟨t318, A400, H⟩ := H
              replace H : (if (wrap64 (t317 - t318)) = (wrap64 ((wrap64 (1 + t308)) + (wrap64 (a0_4 * a0_5)))) then (millstreamlaw06_ArenaItems.l2 k4 (wrap64 ((wrap64 (1 + t308)) + (wrap64 (a0_4 * a0_5)))) x4_2 (wrap64 (x6_4 + 1)) a0_0 a0_1 a0_2 a0_3 a0_4 a0_5 a0_6 a0_7 a0_8 a0_9 a0_10 a0_11) else (some false)) = some r := H
              have A40 := Aside0.mk A400
              clear A400
              by_cases c41 : (wrap64 (t317 - t318)) = (wrap64 ((wrap64 (1 + t308)) + (wrap64 (a0_4 * a0_5))))
              ·rw [if_pos c41] at H
               have c41b0 : ((wrap64 (t317 - t318)) == (wrap64 ((wrap64 (1 + t308)) + (wrap64 (a0_4 * a0_5))))) = true := beq_iff_eq.mpr c41
               have c41b1 : ((wrap64 (t317 - t318)) != (wrap64 ((wrap64 (1 + t308)) + (wrap64 (a0_4 * a0_5))))) = false := bne_eq_false_iff_eq.mpr c41
               clear c41
               have H' := Aside0.mk H
               clear H
               have hcz42_0 : wr.cell? ⟨gb304, 0, none⟩ = some (.int .i64 a0_0) := (blk_cell BK304.out 0).trans rfl
               have hcz42_1 : wr.cell? ⟨gb304, 1, none⟩ = some (.int .i64 a0_1) := (blk_cell BK304.out 1).trans rfl
               have hcz42_2 : wr.cell? ⟨gb304, 2, none⟩ = some (.int .i64 a0_2) := (blk_cell BK304.out 2).trans rfl
               have hcz42_3 : wr.cell? ⟨gb304, 3, none⟩ = some (.int .i64 a0_3) := (blk_cell BK304.out 3).trans rfl
               have hcz42_4 : wr.cell? ⟨gb304, 4, none⟩ = some (.int .i64 a0_4) := (blk_cell BK304.out 4).trans rfl
               have hcz42_5 : wr.cell? ⟨gb304, 5, none⟩ = some (.int .i64 a0_5) := (blk_cell BK304.out 5).trans rfl
               have hcz42_6 : wr.cell? ⟨gb304, 6, none⟩ = some (.int .i64 a0_6) := (blk_cell BK304.out 6).trans rfl
               have hcz42_7 : wr.cell? ⟨gb304, 7, none⟩ = some (.int .i64 a0_7) := (blk_cell BK304.out 7).trans rfl
               have hcz42_8 : wr.cell? ⟨gb304, 8, none⟩ = some (.bool a0_8) := (blk_cell BK304.out 8).trans rfl
               have hcz42_9 : wr.cell? ⟨gb304, 9, none⟩ = some (.int .i64 a0_9) := (blk_cell BK304.out 9).trans rfl
               have hcz42_10 : wr.cell? ⟨gb304, 10, none⟩ = some (.int .i64 a0_10) := (blk_cell BK304.out 10).trans rfl
               have hcz42_11 : wr.cell? ⟨gb304, 11, none⟩ = some (.int .i64 a0_11) := (blk_cell BK304.out 11).trans rfl
               have hfz42_0 := blk_frozen BK304.out 0
               have hfz42_1 := blk_frozen BK304.out 1
               have hfz42_2 := blk_frozen BK304.out 2
               have hfz42_3 := blk_frozen BK304.out 3
               have hfz42_4 := blk_frozen BK304.out 4
               have hfz42_5 := blk_frozen BK304.out 5
               have hfz42_6 := blk_frozen BK304.out 6
               have hfz42_7 := blk_frozen BK304.out 7
               have hfz42_8 := blk_frozen BK304.out 8
               have hfz42_9 := blk_frozen BK304.out 9
               have hfz42_10 := blk_frozen BK304.out 10
               have hfz42_11 := blk_frozen BK304.out 11
               try go_wp2
               have n0_ := Aside0.mk (blk_drew BK304.out)
               have n1_ := Aside0.mk (below_drew1 HB.out)
               clear BK304
               clear HB
               have BK304 := n0_
               have HB := n1_
               clear n0_ n1_
               refine start_ (n := 18) (S := fun w' => w'.cell? ⟨gb304, 0, none⟩ = some (.int .i64 a0_0) ∧ w'.cell? ⟨gb304, 1, none⟩ = some (.int .i64 a0_1) ∧ w'.cell? ⟨gb304, 2, none⟩ = some (.int .i64 a0_2) ∧ w'.cell? ⟨gb304, 3, none⟩ = some (.int .i64 a0_3) ∧ w'.cell? ⟨gb304, 4, none⟩ = some (.int .i64 a0_4) ∧ w'.cell? ⟨gb304, 5, none⟩ = some (.int .i64 a0_5) ∧ w'.cell? ⟨gb304, 6, none⟩ = some (.int .i64 a0_6) ∧ w'.cell? ⟨gb304, 7, none⟩ = some (.int .i64 a0_7) ∧ w'.cell? ⟨gb304, 8, none⟩ = some (.bool a0_8) ∧ w'.cell? ⟨gb304, 9, none⟩ = some (.int .i64 a0_9) ∧ w'.cell? ⟨gb304, 10, none⟩ = some (.int .i64 a0_10) ∧ w'.cell? ⟨gb304, 11, none⟩ = some (.int .i64 a0_11)) (ds := []) #[false, false, false, false, false, false, false, false, false, false, false, false, false, false, false, false, false, false] (by kernel_rfl) rfl rfl ⟨(blk_cell BK304.out 0).trans rfl, (blk_cell BK304.out 1).trans rfl, (blk_cell BK304.out 2).trans rfl, (blk_cell BK304.out 3).trans rfl, (blk_cell BK304.out 4).trans rfl, (blk_cell BK304.out 5).trans rfl, (blk_cell BK304.out 6).trans rfl, (blk_cell BK304.out 7).trans rfl, (blk_cell BK304.out 8).trans rfl, (blk_cell BK304.out 9).trans rfl, (blk_cell BK304.out 10).trans rfl, (blk_cell BK304.out 11).trans rfl⟩ (fun hHeld => ?_); refine with_tabW millstreamlaw06_ArenaItems.tab17 millstreamlaw06_ArenaItems.bits17 (fun HT_ HW_ => ?_)
               generalize wr.drew = w43 at BK304 HB hHeld ⊢
               refine pure_ (i := 1) (N := some 65) (v := ?_) (a' := ?_) #[false, true, false, false, false, false, false, false, false, false, false, false, false, false, false, false, false, false] rfl rfl (any_of HT_.out (by kernel_rfl)) (fun _ _ _ h => h) (Or.inl ⟨by rfl, ?_⟩) ?_ ?_
               rotate_left
               ·intro w'
                go_simp
                with_reducible rfl
               rotate_left
               ·simp only [Act.put, List.setIfInBounds_toArray, List.set_cons_zero, List.set_cons_succ, i64_w, i32_w]
                rfl
               refine pure_ (i := 2) (N := some 66) (v := ?_) (a' := ?_) #[false, true, true, false, false, false, false, false, false, false, false, false, false, false, false, false, false, false] rfl rfl (any_of HT_.out (by kernel_rfl)) (fun _ _ _ h => h) (Or.inl ⟨by rfl, ?_⟩) ?_ ?_
               rotate_left
               ·intro w'
                go_simp
                with_reducible rfl
               rotate_left
               ·simp only [Act.put, List.setIfInBounds_toArray, List.set_cons_zero, List.set_cons_succ, i64_w, i32_w]
                rfl
               refine pure_ (i := 3) (N := some 67) (v := ?_) (a' := ?_) #[false, true, true, true, false, false, false, false, false, false, false, false, false, false, false, false, false, false] rfl rfl (any_of HT_.out (by kernel_rfl)) (fun _ _ _ h => h) (Or.inl ⟨by rfl, ?_⟩) ?_ ?_
               rotate_left
               ·intro w'
                go_simp
                with_reducible rfl
               rotate_left
               ·simp only [Act.put, List.setIfInBounds_toArray, List.set_cons_zero, List.set_cons_succ, i64_w, i32_w]
                rfl
               refine pure_ (i := 8) (N := some 72) (v := ?_) (a' := ?_) #[false, true, true, true, false, false, false, false, true, false, false, false, false, false, false, false, false, false] rfl rfl (any_of HT_.out (by kernel_rfl)) (fun _ _ _ h => h) (Or.inl ⟨by rfl, ?_⟩) ?_ ?_
               rotate_left
               ·intro w'
                go_simp
                with_reducible rfl
               rotate_left
               ·simp only [Act.put, List.setIfInBounds_toArray, List.set_cons_zero, List.set_cons_succ, i64_w, i32_w]
                rfl
               refine pure_ (i := 9) (N := some 73) (v := ?_) (a' := ?_) #[false, true, true, true, false, false, false, false, true, true, false, false, false, false, false, false, false, false] rfl rfl (any_of HT_.out (by kernel_rfl)) (fun _ _ _ h => h) (Or.inl ⟨by rfl, ?_⟩) ?_ ?_
               rotate_left
               ·intro w'
                go_simp
                with_reducible rfl
               rotate_left
               ·simp only [Act.put, List.setIfInBounds_toArray, List.set_cons_zero, List.set_cons_succ, i64_w, i32_w]
                rfl
               refine pure_ (i := 10) (N := some 74) (v := ?_) (a' := ?_) #[false, true, true, true, false, false, false, false, true, true, true, false, false, false, false, false, false, false] rfl rfl (any_of HT_.out (by kernel_rfl)) (fun _ _ _ h => h) (Or.inl ⟨by rfl, ?_⟩) ?_ ?_
               rotate_left
               ·intro w'
                go_simp
                with_reducible rfl
               rotate_left
               ·simp only [Act.put, List.setIfInBounds_toArray, List.set_cons_zero, List.set_cons_succ, i64_w, i32_w]
                rfl
               refine pure_ (i := 11) (N := some 75) (v := ?_) (a' := ?_) #[false, true, true, true, false, false, false, false, true, true, true, true, false, false, false, false, false, false] rfl rfl (any_of HT_.out (by kernel_rfl)) (fun _ _ _ h => h) (Or.inl ⟨by rfl, ?_⟩) ?_ ?_
               rotate_left
               ·intro w'
                go_simp
                with_reducible rfl
               rotate_left
               ·simp only [Act.put, List.setIfInBounds_toArray, List.set_cons_zero, List.set_cons_succ, i64_w, i32_w]
                rfl
               refine pure_ (i := 16) (N := some 80) (v := ?_) (a' := ?_) #[false, true, true, true, false, false, false, false, true, true, true, true, false, false, false, false, true, false] rfl rfl (any_of HT_.out (by kernel_rfl)) (fun _ _ _ h => h) (Or.inl ⟨by rfl, ?_⟩) ?_ ?_
               rotate_left
               ·intro w'
                go_simp
                with_reducible rfl
               rotate_left
               ·simp only [Act.put, List.setIfInBounds_toArray, List.set_cons_zero, List.set_cons_succ, i64_w, i32_w]
                rfl
               refine take_ (i := 0) (N := some 64) (v := ?_) (a' := ?_) #[true, true, true, true, false, false, false, false, true, true, true, true, false, false, false, false, true, false] rfl rfl (take_ofW HT_.out HW_.out (by kernel_rfl)) (fun _ _ _ h => h) (Or.inl ⟨by rfl, ?_⟩) hHeld ?_ ?_
               rotate_left
               ·rintro w' ⟨s0, s1, s2, s3, s4, s5, s6, s7, s8, s9, s10, s11⟩
                go_simp
                with_reducible rfl
               rotate_left
               ·simp only [Act.put, List.setIfInBounds_toArray, List.set_cons_zero, List.set_cons_succ, i64_w, i32_w]
                rfl
               refine take_ (i := 4) (N := some 68) (v := ?_) (a' := ?_) #[true, true, true, true, true, false, false, false, true, true, true, true, false, false, false, false, true, false] rfl rfl (take_ofW HT_.out HW_.out (by kernel_rfl)) (fun _ _ _ h => h) (Or.inl ⟨by rfl, ?_⟩) hHeld ?_ ?_
               rotate_left
               ·rintro w' ⟨s0, s1, s2, s3, s4, s5, s6, s7, s8, s9, s10, s11⟩
                go_simp
                with_reducible rfl
               rotate_left
               ·simp only [Act.put, List.setIfInBounds_toArray, List.set_cons_zero, List.set_cons_succ, i64_w, i32_w]
                rfl
               refine pure_ (i := 5) (N := some 69) (v := ?_) (a' := ?_) #[true, true, true, true, true, true, false, false, true, true, true, true, false, false, false, false, true, false] rfl rfl (any_of HT_.out (by kernel_rfl)) (fun _ _ _ h => h) (Or.inl ⟨by rfl, ?_⟩) ?_ ?_
               rotate_left
               ·intro w'
                go_simp
                with_reducible rfl
               rotate_left
               ·simp only [Act.put, List.setIfInBounds_toArray, List.set_cons_zero, List.set_cons_succ, i64_w, i32_w]
                rfl
               refine take_ (i := 7) (N := some 71) (v := ?_) (a' := ?_) #[true, true, true, true, true, true, false, true, true, true, true, true, false, false, false, false, true, false] rfl rfl (take_ofW HT_.out HW_.out (by kernel_rfl)) (fun _ _ _ h => h) (Or.inl ⟨by rfl, ?_⟩) hHeld ?_ ?_
               rotate_left
               ·rintro w' ⟨s0, s1, s2, s3, s4, s5, s6, s7, s8, s9, s10, s11⟩
                go_simp
                with_reducible rfl
               rotate_left
               ·simp only [Act.put, List.setIfInBounds_toArray, List.set_cons_zero, List.set_cons_succ, i64_w, i32_w]
                rfl
               refine take_ (i := 12) (N := some 76) (v := ?_) (a' := ?_) #[true, true, true, true, true, true, false, true, true, true, true, true, true, false, false, false, true, false] rfl rfl (take_ofW HT_.out HW_.out (by kernel_rfl)) (fun _ _ _ h => h) (Or.inl ⟨by rfl, ?_⟩) hHeld ?_ ?_
               rotate_left
               ·rintro w' ⟨s0, s1, s2, s3, s4, s5, s6, s7, s8, s9, s10, s11⟩
                go_simp
                with_reducible rfl
               rotate_left
               ·simp only [Act.put, List.setIfInBounds_toArray, List.set_cons_zero, List.set_cons_succ, i64_w, i32_w]
                rfl
               refine pure_ (i := 13) (N := some 77) (v := ?_) (a' := ?_) #[true, true, true, true, true, true, false, true, true, true, true, true, true, true, false, false, true, false] rfl rfl (any_of HT_.out (by kernel_rfl)) (fun _ _ _ h => h) (Or.inl ⟨by rfl, ?_⟩) ?_ ?_
               rotate_left
               ·intro w'
                go_simp
                with_reducible rfl
               rotate_left
               ·simp only [Act.put, List.setIfInBounds_toArray, List.set_cons_zero, List.set_cons_succ, i64_w, i32_w]
                rfl
               refine one_ (i := 6) (N := some 70) #[true, true, true, true, true, true, true, true, true, true, true, true, true, true, false, false, true, false] rfl rfl (one_of HT_.out (by kernel_rfl)) (by decide) (fun K hK => ?_)
               refine goes_ Try.func18 (by kernel_rfl) rfl #[.agg #[.int .i64 a0_0, .int .i64 a0_1, .int .i64 a0_2, .int .i64 a0_3, .int .i64 a0_4, .int .i64 a0_5, .int .i64 a0_6, .int .i64 a0_7, .bool a0_8, .int .i64 a0_9, .int .i64 a0_10, .int .i64 a0_11], .int .i64 x4_2, .int .i64 x6_4, .int .i64 (wrap64 (a0_5 - 1))] (by rfl) rfl rfl (by (try simp only [List.map_toArray, List.map_cons, List.map_nil]); first | done | rfl | (simp only [List.length_drop, List.length_take]; rfl)) ?_
               with_reducible refine (arena_Slot.calls a0_0 a0_1 a0_2 a0_3 a0_4 a0_5 a0_6 a0_7 a0_8 a0_9 a0_10 a0_11 x4_2 x6_4 (wrap64 (a0_5 - 1)) t317 _ A39.out).mono ?_
               rintro e w44 ⟨rfl, hb⟩
               refine ⟨_, rfl, ?_⟩
               have n0_ := Aside0.mk (blk_below (g := gb304) (o := .cells #[.int .i64 a0_0, .int .i64 a0_1, .int .i64 a0_2, .int .i64 a0_3, .int .i64 a0_4, .int .i64 a0_5, .int .i64 a0_6, .int .i64 a0_7, .bool a0_8, .int .i64 a0_9, .int .i64 a0_10, .int .i64 a0_11] 23 (0, 0)) (by (with_reducible repeat first | refine blk_drewN ?_ _ | refine blk_drew ?_ | refine blk_alloc ?_ _); exact BK304.out) hb)
               have n1_ := Aside0.mk (below_step (by repeat (first | (with_reducible first | exact HB.out | apply below_alloc | apply pw_below_drewN | apply below_drew1 | refine below_set ?_ GE304.out) | exact HB.out)) hb)
               clear BK304
               clear HB
               have BK304 := n0_
               have HB := n1_
               clear n0_ n1_
               (try clear hb)
               (try clear hb2)
               (try clear hk)
               (try clear hi)
               refine hK.out _ _ ⟨(blk_cell BK304.out 0).trans rfl, (blk_cell BK304.out 1).trans rfl, (blk_cell BK304.out 2).trans rfl, (blk_cell BK304.out 3).trans rfl, (blk_cell BK304.out 4).trans rfl, (blk_cell BK304.out 5).trans rfl, (blk_cell BK304.out 6).trans rfl, (blk_cell BK304.out 7).trans rfl, (blk_cell BK304.out 8).trans rfl, (blk_cell BK304.out 9).trans rfl, (blk_cell BK304.out 10).trans rfl, (blk_cell BK304.out 11).trans rfl⟩ (fun hHeld => ?_)
               clear hK K
               refine norm_ (a' := ?_) ?_ ?_
               rotate_left
               ·show Act.put _ (some 70) _ = _
                simp only [Act.put, List.setIfInBounds_toArray, List.set_cons_zero, List.set_cons_succ, i64_w, i32_w]
                rfl
               refine one_ (i := 14) (N := some 78) #[true, true, true, true, true, true, true, true, true, true, true, true, true, true, true, false, true, false] rfl rfl (one_of HT_.out (by kernel_rfl)) (by decide) (fun K hK => ?_)
               refine goes_ Try.func18 (by kernel_rfl) rfl #[.agg #[.int .i64 a0_0, .int .i64 a0_1, .int .i64 a0_2, .int .i64 a0_3, .int .i64 a0_4, .int .i64 a0_5, .int .i64 a0_6, .int .i64 a0_7, .bool a0_8, .int .i64 a0_9, .int .i64 a0_10, .int .i64 a0_11], .int .i64 (wrap64 (x4_2 - 1)), .int .i64 x6_4, .int .i64 (wrap64 (a0_5 - 1))] (by rfl) rfl rfl (by (try simp only [List.map_toArray, List.map_cons, List.map_nil]); first | done | rfl | (simp only [List.length_drop, List.length_take]; rfl)) ?_
               with_reducible refine (arena_Slot.calls a0_0 a0_1 a0_2 a0_3 a0_4 a0_5 a0_6 a0_7 a0_8 a0_9 a0_10 a0_11 (wrap64 (x4_2 - 1)) x6_4 (wrap64 (a0_5 - 1)) t318 _ A40.out).mono ?_
               rintro e w45 ⟨rfl, hb⟩
               refine ⟨_, rfl, ?_⟩
               have n0_ := Aside0.mk (blk_below (g := gb304) (o := .cells #[.int .i64 a0_0, .int .i64 a0_1, .int .i64 a0_2, .int .i64 a0_3, .int .i64 a0_4, .int .i64 a0_5, .int .i64 a0_6, .int .i64 a0_7, .bool a0_8, .int .i64 a0_9, .int .i64 a0_10, .int .i64 a0_11] 23 (0, 0)) (by (with_reducible repeat first | refine blk_drewN ?_ _ | refine blk_drew ?_ | refine blk_alloc ?_ _); exact BK304.out) hb)
               have n1_ := Aside0.mk (below_step (by repeat (first | (with_reducible first | exact HB.out | apply below_alloc | apply pw_below_drewN | apply below_drew1 | refine below_set ?_ GE304.out) | exact HB.out)) hb)
               clear BK304
               clear HB
               have BK304 := n0_
               have HB := n1_
               clear n0_ n1_
               (try clear hb)
               (try clear hb2)
               (try clear hk)
               (try clear hi)
               refine hK.out _ _ ⟨(blk_cell BK304.out 0).trans rfl, (blk_cell BK304.out 1).trans rfl, (blk_cell BK304.out 2).trans rfl, (blk_cell BK304.out 3).trans rfl, (blk_cell BK304.out 4).trans rfl, (blk_cell BK304.out 5).trans rfl, (blk_cell BK304.out 6).trans rfl, (blk_cell BK304.out 7).trans rfl, (blk_cell BK304.out 8).trans rfl, (blk_cell BK304.out 9).trans rfl, (blk_cell BK304.out 10).trans rfl, (blk_cell BK304.out 11).trans rfl⟩ (fun hHeld => ?_)
               clear hK K
               refine norm_ (a' := ?_) ?_ ?_
               rotate_left
               ·show Act.put _ (some 78) _ = _
                simp only [Act.put, List.setIfInBounds_toArray, List.set_cons_zero, List.set_cons_succ, i64_w, i32_w]
                rfl
               refine pure_ (i := 15) (N := some 79) (v := ?_) (a' := ?_) #[true, true, true, true, true, true, true, true, true, true, true, true, true, true, true, true, true, false] rfl rfl (any_of HT_.out (by kernel_rfl)) (fun _ _ _ h => h) (Or.inl ⟨by rfl, ?_⟩) ?_ ?_
               rotate_left
               ·intro w'
                go_simp
                with_reducible rfl
               rotate_left
               ·simp only [Act.put, List.setIfInBounds_toArray, List.set_cons_zero, List.set_cons_succ, i64_w, i32_w]
                rfl
               refine pure_ (i := 17) (N := some 81) (v := ?_) (a' := ?_) #[true, true, true, true, true, true, true, true, true, true, true, true, true, true, true, true, true, true] rfl rfl (any_of HT_.out (by kernel_rfl)) (fun _ _ _ h => h) (Or.inl ⟨by rfl, ?_⟩) ?_ ?_
               rotate_left
               ·intro w'
                go_simp
                with_reducible rfl
               rotate_left
               ·simp only [Act.put, List.setIfInBounds_toArray, List.set_cons_zero, List.set_cons_succ, i64_w, i32_w]
                rfl
               refine done_ (done_of HT_.out (by kernel_rfl)) ?_
               try go_wp2
               go_roundg k4
               case measure => have := HJ1.out; have := HK2.out; have := HK3.out; have := HK4.out; omega
               case rel => exact ⟨(wrap64 (x6_4 + 1)), (by first | rfl | (simp; done) | (simp [*]; done)), H', ⟨by have := HJ1.out; have := HK2.out; have := HK3.out; have := HK4.out; omega⟩, ⟨by (with_reducible repeat first | refine blk_drewN ?_ _ | refine blk_drew ?_ | refine blk_alloc ?_ _); exact BK304.out⟩, ⟨by repeat (first | (with_reducible first | exact HB.out | apply below_alloc | apply pw_below_drewN | apply below_drew1 | refine below_set ?_ GE304.out) | exact HB.out)⟩⟩
              ·rw [if_neg c41] at H
               have c41b0 : ((wrap64 (t317 - t318)) == (wrap64 ((wrap64 (1 + t308)) + (wrap64 (a0_4 * a0_5))))) = false := beq_eq_false_iff_ne.mpr c41
               have c41b1 : ((wrap64 (t317 - t318)) != (wrap64 ((wrap64 (1 + t308)) + (wrap64 (a0_4 * a0_5))))) = true := bne_iff_ne.mpr c41
               exact absurd ((Option.some.inj H).trans hr_.out) (by decide)
             ·rw [if_neg c38] at H
              have c38b0 : decide (x6_4 ≤ a0_4) = false := decide_eq_false c38
              clear c38
              have H' := Aside0.mk H
              clear H
              have hcz46_0 : wr.cell? ⟨gb304, 0, none⟩ = some (.int .i64 a0_0) := (blk_cell BK304.out 0).trans rfl
              have hcz46_1 : wr.cell? ⟨gb304, 1, none⟩ = some (.int .i64 a0_1) := (blk_cell BK304.out 1).trans rfl
              have hcz46_2 : wr.cell? ⟨gb304, 2, none⟩ = some (.int .i64 a0_2) := (blk_cell BK304.out 2).trans rfl
              have hcz46_3 : wr.cell? ⟨gb304, 3, none⟩ = some (.int .i64 a0_3) := (blk_cell BK304.out 3).trans rfl
              have hcz46_4 : wr.cell? ⟨gb304, 4, none⟩ = some (.int .i64 a0_4) := (blk_cell BK304.out 4).trans rfl
              have hcz46_5 : wr.cell? ⟨gb304, 5, none⟩ = some (.int .i64 a0_5) := (blk_cell BK304.out 5).trans rfl
              have hcz46_6 : wr.cell? ⟨gb304, 6, none⟩ = some (.int .i64 a0_6) := (blk_cell BK304.out 6).trans rfl
              have hcz46_7 : wr.cell? ⟨gb304, 7, none⟩ = some (.int .i64 a0_7) := (blk_cell BK304.out 7).trans rfl
              have hcz46_8 : wr.cell? ⟨gb304, 8, none⟩ = some (.bool a0_8) := (blk_cell BK304.out 8).trans rfl
              have hcz46_9 : wr.cell? ⟨gb304, 9, none⟩ = some (.int .i64 a0_9) := (blk_cell BK304.out 9).trans rfl
              have hcz46_10 : wr.cell? ⟨gb304, 10, none⟩ = some (.int .i64 a0_10) := (blk_cell BK304.out 10).trans rfl
              have hcz46_11 : wr.cell? ⟨gb304, 11, none⟩ = some (.int .i64 a0_11) := (blk_cell BK304.out 11).trans rfl
              have hfz46_0 := blk_frozen BK304.out 0
              have hfz46_1 := blk_frozen BK304.out 1
              have hfz46_2 := blk_frozen BK304.out 2
              have hfz46_3 := blk_frozen BK304.out 3
              have hfz46_4 := blk_frozen BK304.out 4
              have hfz46_5 := blk_frozen BK304.out 5
              have hfz46_6 := blk_frozen BK304.out 6
              have hfz46_7 := blk_frozen BK304.out 7
              have hfz46_8 := blk_frozen BK304.out 8
              have hfz46_9 := blk_frozen BK304.out 9
              have hfz46_10 := blk_frozen BK304.out 10
              have hfz46_11 := blk_frozen BK304.out 11
              go_wp2
              go_roundg k4
              case measure => have := HJ1.out; have := HK2.out; have := HK3.out; have := HK4.out; omega
              case rel => exact ⟨(wrap64 (x4_2 + 1)), (by first | rfl | (simp; done) | (simp [*]; done)), H', ⟨by have := HJ1.out; have := HK2.out; have := HK3.out; have := HK4.out; omega⟩, ⟨by (with_reducible repeat first | refine blk_drewN ?_ _ | refine blk_drew ?_ | refine blk_alloc ?_ _); exact BK304.out⟩, ⟨by repeat (first | (with_reducible first | exact HB.out | apply below_alloc | apply pw_below_drewN | apply below_drew1 | refine below_set ?_ GE304.out) | exact HB.out)⟩⟩
       ·rw [if_neg c21] at H
        have c21b0 : ((wrap64 (t312 - t313)) == (wrap64 ((wrap64 (1 + t308)) + (wrap64 (a0_4 * a0_5))))) = false := beq_eq_false_iff_ne.mpr c21
        have c21b1 : ((wrap64 (t312 - t313)) != (wrap64 ((wrap64 (1 + t308)) + (wrap64 (a0_4 * a0_5))))) = true := bne_iff_ne.mpr c21
        exact absurd ((Option.some.inj H).trans hr_.out) (by decide)
      ·rw [if_neg c18] at H
       have c18b0 : decide (x4_2 < a0_1) = false := decide_eq_false c18
       clear c18
       replace H := Option.bind_eq_some_iff.mp H
       obtain ⟨t309, A470, H⟩ := H
       replace H : (if t309 = (wrap64 ((wrap64 ((wrap64 (1 + t308)) + (wrap64 (a0_4 * a0_5)))) * a0_1)) then ((arena_Result.f a0_0 a0_1 a0_2 a0_3 a0_4 a0_5 a0_6 a0_7 a0_8 a0_9 a0_10 a0_11 (wrap64 (a0_0 - 1))).bind fun t310 => ((arena_Size.f a0_0 a0_1 a0_2 a0_3 a0_4 a0_5 a0_6 a0_7 a0_8 a0_9 a0_10 a0_11).bind fun t311 => (some (t310 == (wrap64 (t311 - 1)))))) else (some false)) = some r := H
       have A47 := Aside0.mk A470
       clear A470
       by_cases c48 : t309 = (wrap64 ((wrap64 ((wrap64 (1 + t308)) + (wrap64 (a0_4 * a0_5)))) * a0_1))
       ·rw [if_pos c48] at H
        have c48b0 : (t309 == (wrap64 ((wrap64 ((wrap64 (1 + t308)) + (wrap64 (a0_4 * a0_5)))) * a0_1))) = true := beq_iff_eq.mpr c48
        have c48b1 : (t309 != (wrap64 ((wrap64 ((wrap64 (1 + t308)) + (wrap64 (a0_4 * a0_5)))) * a0_1))) = false := bne_eq_false_iff_eq.mpr c48
        clear c48
        replace H := Option.bind_eq_some_iff.mp H
        obtain ⟨t310, A490, H⟩ := H
        replace H : ((arena_Size.f a0_0 a0_1 a0_2 a0_3 a0_4 a0_5 a0_6 a0_7 a0_8 a0_9 a0_10 a0_11).bind fun t311 => (some (t310 == (wrap64 (t311 - 1))))) = some r := H
        have A49 := Aside0.mk A490
        clear A490
        replace H := Option.bind_eq_some_iff.mp H
        obtain ⟨t311, A500, H⟩ := H
        replace H : (some (t310 == (wrap64 (t311 - 1)))) = some r := H
        have A50 := Aside0.mk A500
        clear A500
        clear hr_
        obtain rfl := Option.some.inj H
        have hcz51_0 : wr.cell? ⟨gb304, 0, none⟩ = some (.int .i64 a0_0) := (blk_cell BK304.out 0).trans rfl
        have hcz51_1 : wr.cell? ⟨gb304, 1, none⟩ = some (.int .i64 a0_1) := (blk_cell BK304.out 1).trans rfl
        have hcz51_2 : wr.cell? ⟨gb304, 2, none⟩ = some (.int .i64 a0_2) := (blk_cell BK304.out 2).trans rfl
        have hcz51_3 : wr.cell? ⟨gb304, 3, none⟩ = some (.int .i64 a0_3) := (blk_cell BK304.out 3).trans rfl
        have hcz51_4 : wr.cell? ⟨gb304, 4, none⟩ = some (.int .i64 a0_4) := (blk_cell BK304.out 4).trans rfl
        have hcz51_5 : wr.cell? ⟨gb304, 5, none⟩ = some (.int .i64 a0_5) := (blk_cell BK304.out 5).trans rfl
        have hcz51_6 : wr.cell? ⟨gb304, 6, none⟩ = some (.int .i64 a0_6) := (blk_cell BK304.out 6).trans rfl
        have hcz51_7 : wr.cell? ⟨gb304, 7, none⟩ = some (.int .i64 a0_7) := (blk_cell BK304.out 7).trans rfl
        have hcz51_8 : wr.cell? ⟨gb304, 8, none⟩ = some (.bool a0_8) := (blk_cell BK304.out 8).trans rfl
        have hcz51_9 : wr.cell? ⟨gb304, 9, none⟩ = some (.int .i64 a0_9) := (blk_cell BK304.out 9).trans rfl
        have hcz51_10 : wr.cell? ⟨gb304, 10, none⟩ = some (.int .i64 a0_10) := (blk_cell BK304.out 10).trans rfl
        have hcz51_11 : wr.cell? ⟨gb304, 11, none⟩ = some (.int .i64 a0_11) := (blk_cell BK304.out 11).trans rfl
        have hfz51_0 := blk_frozen BK304.out 0
        have hfz51_1 := blk_frozen BK304.out 1
        have hfz51_2 := blk_frozen BK304.out 2
        have hfz51_3 := blk_frozen BK304.out 3
        have hfz51_4 := blk_frozen BK304.out 4
        have hfz51_5 := blk_frozen BK304.out 5
        have hfz51_6 := blk_frozen BK304.out 6
        have hfz51_7 := blk_frozen BK304.out 7
        have hfz51_8 := blk_frozen BK304.out 8
        have hfz51_9 := blk_frozen BK304.out 9
        have hfz51_10 := blk_frozen BK304.out 10
        have hfz51_11 := blk_frozen BK304.out 11
        try go_wp2
        have n0_ := Aside0.mk (blk_drew BK304.out)
        have n1_ := Aside0.mk (below_drew1 HB.out)
        clear BK304
        clear HB
        have BK304 := n0_
        have HB := n1_
        clear n0_ n1_
        refine start_ (n := 19) (S := fun w' => w'.cell? ⟨gb304, 0, none⟩ = some (.int .i64 a0_0) ∧ w'.cell? ⟨gb304, 1, none⟩ = some (.int .i64 a0_1) ∧ w'.cell? ⟨gb304, 2, none⟩ = some (.int .i64 a0_2) ∧ w'.cell? ⟨gb304, 3, none⟩ = some (.int .i64 a0_3) ∧ w'.cell? ⟨gb304, 4, none⟩ = some (.int .i64 a0_4) ∧ w'.cell? ⟨gb304, 5, none⟩ = some (.int .i64 a0_5) ∧ w'.cell? ⟨gb304, 6, none⟩ = some (.int .i64 a0_6) ∧ w'.cell? ⟨gb304, 7, none⟩ = some (.int .i64 a0_7) ∧ w'.cell? ⟨gb304, 8, none⟩ = some (.bool a0_8) ∧ w'.cell? ⟨gb304, 9, none⟩ = some (.int .i64 a0_9) ∧ w'.cell? ⟨gb304, 10, none⟩ = some (.int .i64 a0_10) ∧ w'.cell? ⟨gb304, 11, none⟩ = some (.int .i64 a0_11)) (ds := []) #[false, false, false, false, false, false, false, false, false, false, false, false, false, false, false, false, false, false, false] (by kernel_rfl) rfl rfl ⟨(blk_cell BK304.out 0).trans rfl, (blk_cell BK304.out 1).trans rfl, (blk_cell BK304.out 2).trans rfl, (blk_cell BK304.out 3).trans rfl, (blk_cell BK304.out 4).trans rfl, (blk_cell BK304.out 5).trans rfl, (blk_cell BK304.out 6).trans rfl, (blk_cell BK304.out 7).trans rfl, (blk_cell BK304.out 8).trans rfl, (blk_cell BK304.out 9).trans rfl, (blk_cell BK304.out 10).trans rfl, (blk_cell BK304.out 11).trans rfl⟩ (fun hHeld => ?_); refine with_tabW millstreamlaw06_ArenaItems.tab19 millstreamlaw06_ArenaItems.bits19 (fun HT_ HW_ => ?_)
        generalize wr.drew = w52 at BK304 HB hHeld ⊢
        refine pure_ (i := 2) (N := some 84) (v := ?_) (a' := ?_) #[false, false, true, false, false, false, false, false, false, false, false, false, false, false, false, false, false, false, false] rfl rfl (any_of HT_.out (by kernel_rfl)) (fun _ _ _ h => h) (Or.inl ⟨by rfl, ?_⟩) ?_ ?_
        rotate_left
        ·intro w'
         go_simp
         with_reducible rfl
        rotate_left
        ·simp only [Act.put, List.setIfInBounds_toArray, List.set_cons_zero, List.set_cons_succ, i64_w, i32_w]
         rfl
        refine pure_ (i := 3) (N := some 85) (v := ?_) (a' := ?_) #[false, false, true, true, false, false, false, false, false, false, false, false, false, false, false, false, false, false, false] rfl rfl (any_of HT_.out (by kernel_rfl)) (fun _ _ _ h => h) (Or.inl ⟨by rfl, ?_⟩) ?_ ?_
        rotate_left
        ·intro w'
         go_simp
         with_reducible rfl
        rotate_left
        ·simp only [Act.put, List.setIfInBounds_toArray, List.set_cons_zero, List.set_cons_succ, i64_w, i32_w]
         rfl
        refine take_ (i := 0) (N := some 82) (v := ?_) (a' := ?_) #[true, false, true, true, false, false, false, false, false, false, false, false, false, false, false, false, false, false, false] rfl rfl (take_ofW HT_.out HW_.out (by kernel_rfl)) (fun _ _ _ h => h) (Or.inl ⟨by rfl, ?_⟩) hHeld ?_ ?_
        rotate_left
        ·rintro w' ⟨s0, s1, s2, s3, s4, s5, s6, s7, s8, s9, s10, s11⟩
         go_simp
         with_reducible rfl
        rotate_left
        ·simp only [Act.put, List.setIfInBounds_toArray, List.set_cons_zero, List.set_cons_succ, i64_w, i32_w]
         rfl
        refine take_ (i := 4) (N := some 86) (v := ?_) (a' := ?_) #[true, false, true, true, true, false, false, false, false, false, false, false, false, false, false, false, false, false, false] rfl rfl (take_ofW HT_.out HW_.out (by kernel_rfl)) (fun _ _ _ h => h) (Or.inl ⟨by rfl, ?_⟩) hHeld ?_ ?_
        rotate_left
        ·rintro w' ⟨s0, s1, s2, s3, s4, s5, s6, s7, s8, s9, s10, s11⟩
         go_simp
         with_reducible rfl
        rotate_left
        ·simp only [Act.put, List.setIfInBounds_toArray, List.set_cons_zero, List.set_cons_succ, i64_w, i32_w]
         rfl
        refine pure_ (i := 5) (N := some 87) (v := ?_) (a' := ?_) #[true, false, true, true, true, true, false, false, false, false, false, false, false, false, false, false, false, false, false] rfl rfl (any_of HT_.out (by kernel_rfl)) (fun _ _ _ h => h) (Or.inl ⟨by rfl, ?_⟩) ?_ ?_
        rotate_left
        ·intro w'
         go_simp
         with_reducible rfl
        rotate_left
        ·simp only [Act.put, List.setIfInBounds_toArray, List.set_cons_zero, List.set_cons_succ, i64_w, i32_w]
         rfl
        refine one_ (i := 1) (N := some 83) #[true, true, true, true, true, true, false, false, false, false, false, false, false, false, false, false, false, false, false] rfl rfl (one_of HT_.out (by kernel_rfl)) (by decide) (fun K hK => ?_)
        refine goes_ Try.func20 (by kernel_rfl) rfl #[.agg #[.int .i64 a0_0, .int .i64 a0_1, .int .i64 a0_2, .int .i64 a0_3, .int .i64 a0_4, .int .i64 a0_5, .int .i64 a0_6, .int .i64 a0_7, .bool a0_8, .int .i64 a0_9, .int .i64 a0_10, .int .i64 a0_11], .int .i64 0] (by rfl) rfl rfl (by (try simp only [List.map_toArray, List.map_cons, List.map_nil]); first | done | rfl | (simp only [List.length_drop, List.length_take]; rfl)) ?_
        with_reducible refine (arena_Line.calls a0_0 a0_1 a0_2 a0_3 a0_4 a0_5 a0_6 a0_7 a0_8 a0_9 a0_10 a0_11 0 t309 _ A47.out).mono ?_
        rintro e w53 ⟨rfl, hb⟩
        refine ⟨_, rfl, ?_⟩
        have n0_ := Aside0.mk (blk_below (g := gb304) (o := .cells #[.int .i64 a0_0, .int .i64 a0_1, .int .i64 a0_2, .int .i64 a0_3, .int .i64 a0_4, .int .i64 a0_5, .int .i64 a0_6, .int .i64 a0_7, .bool a0_8, .int .i64 a0_9, .int .i64 a0_10, .int .i64 a0_11] 23 (0, 0)) (by (with_reducible repeat first | refine blk_drewN ?_ _ | refine blk_drew ?_ | refine blk_alloc ?_ _); exact BK304.out) hb)
        have n1_ := Aside0.mk (below_step (by repeat (first | (with_reducible first | exact HB.out | apply below_alloc | apply pw_below_drewN | apply below_drew1 | refine below_set ?_ GE304.out) | exact HB.out)) hb)
        clear BK304
        clear HB
        have BK304 := n0_
        have HB := n1_
        clear n0_ n1_
        (try clear hb)
        (try clear hb2)
        (try clear hk)
        (try clear hi)
        refine hK.out _ _ ⟨(blk_cell BK304.out 0).trans rfl, (blk_cell BK304.out 1).trans rfl, (blk_cell BK304.out 2).trans rfl, (blk_cell BK304.out 3).trans rfl, (blk_cell BK304.out 4).trans rfl, (blk_cell BK304.out 5).trans rfl, (blk_cell BK304.out 6).trans rfl, (blk_cell BK304.out 7).trans rfl, (blk_cell BK304.out 8).trans rfl, (blk_cell BK304.out 9).trans rfl, (blk_cell BK304.out 10).trans rfl, (blk_cell BK304.out 11).trans rfl⟩ (fun hHeld => ?_)
        clear hK K
        refine norm_ (a' := ?_) ?_ ?_
        rotate_left
        ·show Act.put _ (some 83) _ = _
         simp only [Act.put, List.setIfInBounds_toArray, List.set_cons_zero, List.set_cons_succ, i64_w, i32_w]
         rfl
        refine pure_ (i := 6) (N := some 88) (v := ?_) (a' := ?_) #[true, true, true, true, true, true, true, false, false, false, false, false, false, false, false, false, false, false, false] rfl rfl (any_of HT_.out (by kernel_rfl)) (fun _ _ _ h => h) (Or.inl ⟨by rfl, ?_⟩) ?_ ?_
        rotate_left
        ·intro w'
         go_simp
         with_reducible rfl
        rotate_left
        ·simp only [Act.put, List.setIfInBounds_toArray, List.set_cons_zero, List.set_cons_succ, i64_w, i32_w]
         rfl
        refine pure_ (i := 7) (N := some 89) (v := ?_) (a' := ?_) #[true, true, true, true, true, true, true, true, false, false, false, false, false, false, false, false, false, false, false] rfl rfl (any_of HT_.out (by kernel_rfl)) (fun _ _ _ h => h) (Or.inl ⟨by rfl, ?_⟩) ?_ ?_
        rotate_left
        ·intro w'
         go_simp
         with_reducible rfl
        rotate_left
        ·simp only [Act.put, List.setIfInBounds_toArray, List.set_cons_zero, List.set_cons_succ, i64_w, i32_w]
         rfl
        refine pure_ (i := 9) (N := some 91) (v := ?_) (a' := ?_) #[true, true, true, true, true, true, true, true, false, true, false, false, false, false, false, false, false, false, false] rfl rfl (any_of HT_.out (by kernel_rfl)) (fun _ _ _ h => h) (Or.inl ⟨by rfl, ?_⟩) ?_ ?_
        rotate_left
        ·intro w'
         go_simp
         with_reducible rfl
        rotate_left
        ·simp only [Act.put, List.setIfInBounds_toArray, List.set_cons_zero, List.set_cons_succ, i64_w, i32_w]
         rfl
        refine take_ (i := 8) (N := some 90) (v := ?_) (a' := ?_) #[true, true, true, true, true, true, true, true, true, true, false, false, false, false, false, false, false, false, false] rfl rfl (take_ofW HT_.out HW_.out (by kernel_rfl)) (fun _ _ _ h => h) (Or.inl ⟨by rfl, ?_⟩) hHeld ?_ ?_
        rotate_left
        ·rintro w' ⟨s0, s1, s2, s3, s4, s5, s6, s7, s8, s9, s10, s11⟩
         go_simp
         with_reducible rfl
        rotate_left
        ·simp only [Act.put, List.setIfInBounds_toArray, List.set_cons_zero, List.set_cons_succ, i64_w, i32_w]
         rfl
        refine take_ (i := 10) (N := some 92) (v := ?_) (a' := ?_) #[true, true, true, true, true, true, true, true, true, true, true, false, false, false, false, false, false, false, false] rfl rfl (take_ofW HT_.out HW_.out (by kernel_rfl)) (fun _ _ _ h => h) (Or.inl ⟨by rfl, ?_⟩) hHeld ?_ ?_
        rotate_left
        ·rintro w' ⟨s0, s1, s2, s3, s4, s5, s6, s7, s8, s9, s10, s11⟩
         go_simp
         with_reducible rfl
        rotate_left
        ·simp only [Act.put, List.setIfInBounds_toArray, List.set_cons_zero, List.set_cons_succ, i64_w, i32_w]
         rfl
        refine pure_ (i := 11) (N := some 93) (v := ?_) (a' := ?_) #[true, true, true, true, true, true, true, true, true, true, true, true, false, false, false, false, false, false, false] rfl rfl (any_of HT_.out (by kernel_rfl)) (fun _ _ _ h => h) (Or.inl ⟨by rfl, ?_⟩) ?_ ?_
        rotate_left
        ·intro w'
         go_simp
         with_reducible rfl
        rotate_left
        ·simp only [Act.put, List.setIfInBounds_toArray, List.set_cons_zero, List.set_cons_succ, i64_w, i32_w]
         rfl
        refine take_ (i := 13) (N := some 95) (v := ?_) (a' := ?_) #[true, true, true, true, true, true, true, true, true, true, true, true, false, true, false, false, false, false, false] rfl rfl (take_ofW HT_.out HW_.out (by kernel_rfl)) (fun _ _ _ h => h) (Or.inl ⟨by rfl, ?_⟩) hHeld ?_ ?_
        rotate_left
        ·rintro w' ⟨s0, s1, s2, s3, s4, s5, s6, s7, s8, s9, s10, s11⟩
         go_simp
         with_reducible rfl
        rotate_left
        ·simp only [Act.put, List.setIfInBounds_toArray, List.set_cons_zero, List.set_cons_succ, i64_w, i32_w]
         rfl
        refine one_ (i := 12) (N := some 94) #[true, true, true, true, true, true, true, true, true, true, true, true, true, true, false, false, false, false, false] rfl rfl (one_of HT_.out (by kernel_rfl)) (by decide) (fun K hK => ?_)
        refine goes_ Try.func22 (by kernel_rfl) rfl #[.agg #[.int .i64 a0_0, .int .i64 a0_1, .int .i64 a0_2, .int .i64 a0_3, .int .i64 a0_4, .int .i64 a0_5, .int .i64 a0_6, .int .i64 a0_7, .bool a0_8, .int .i64 a0_9, .int .i64 a0_10, .int .i64 a0_11], .int .i64 (wrap64 (a0_0 - 1))] (by rfl) rfl rfl (by (try simp only [List.map_toArray, List.map_cons, List.map_nil]); first | done | rfl | (simp only [List.length_drop, List.length_take]; rfl)) ?_
        with_reducible refine (arena_Result.calls a0_0 a0_1 a0_2 a0_3 a0_4 a0_5 a0_6 a0_7 a0_8 a0_9 a0_10 a0_11 (wrap64 (a0_0 - 1)) t310 _ A49.out).mono ?_
        rintro e w54 ⟨rfl, hb⟩
        refine ⟨_, rfl, ?_⟩
        have n0_ := Aside0.mk (blk_below (g := gb304) (o := .cells #[.int .i64 a0_0, .int .i64 a0_1, .int .i64 a0_2, .int .i64 a0_3, .int .i64 a0_4, .int .i64 a0_5, .int .i64 a0_6, .int .i64 a0_7, .bool a0_8, .int .i64 a0_9, .int .i64 a0_10, .int .i64 a0_11] 23 (0, 0)) (by (with_reducible repeat first | refine blk_drewN ?_ _ | refine blk_drew ?_ | refine blk_alloc ?_ _); exact BK304.out) hb)
        have n1_ := Aside0.mk (below_step (by repeat (first | (with_reducible first | exact HB.out | apply below_alloc | apply pw_below_drewN | apply below_drew1 | refine below_set ?_ GE304.out) | exact HB.out)) hb)
        clear BK304
        clear HB
        have BK304 := n0_
        have HB := n1_
        clear n0_ n1_
        (try clear hb)
        (try clear hb2)
        (try clear hk)
        (try clear hi)
        refine hK.out _ _ ⟨(blk_cell BK304.out 0).trans rfl, (blk_cell BK304.out 1).trans rfl, (blk_cell BK304.out 2).trans rfl, (blk_cell BK304.out 3).trans rfl, (blk_cell BK304.out 4).trans rfl, (blk_cell BK304.out 5).trans rfl, (blk_cell BK304.out 6).trans rfl, (blk_cell BK304.out 7).trans rfl, (blk_cell BK304.out 8).trans rfl, (blk_cell BK304.out 9).trans rfl, (blk_cell BK304.out 10).trans rfl, (blk_cell BK304.out 11).trans rfl⟩ (fun hHeld => ?_)
        clear hK K
        refine norm_ (a' := ?_) ?_ ?_
        rotate_left
        ·show Act.put _ (some 94) _ = _
         simp only [Act.put, List.setIfInBounds_toArray, List.set_cons_zero, List.set_cons_succ, i64_w, i32_w]
         rfl
        refine one_ (i := 14) (N := some 96) #[true, true, true, true, true, true, true, true, true, true, true, true, true, true, true, false, false, false, false] rfl rfl (one_of HT_.out (by kernel_rfl)) (by decide) (fun K hK => ?_)
        refine goes_ Try.func12 (by kernel_rfl) rfl #[.agg #[.int .i64 a0_0, .int .i64 a0_1, .int .i64 a0_2, .int .i64 a0_3, .int .i64 a0_4, .int .i64 a0_5, .int .i64 a0_6, .int .i64 a0_7, .bool a0_8, .int .i64 a0_9, .int .i64 a0_10, .int .i64 a0_11]] (by rfl) rfl rfl (by (try simp only [List.map_toArray, List.map_cons, List.map_nil]); first | done | rfl | (simp only [List.length_drop, List.length_take]; rfl)) ?_
        with_reducible refine (arena_Size.calls a0_0 a0_1 a0_2 a0_3 a0_4 a0_5 a0_6 a0_7 a0_8 a0_9 a0_10 a0_11 t311 _ A50.out).mono ?_
        rintro e w55 ⟨rfl, hb⟩
        refine ⟨_, rfl, ?_⟩
        have n0_ := Aside0.mk (blk_below (g := gb304) (o := .cells #[.int .i64 a0_0, .int .i64 a0_1, .int .i64 a0_2, .int .i64 a0_3, .int .i64 a0_4, .int .i64 a0_5, .int .i64 a0_6, .int .i64 a0_7, .bool a0_8, .int .i64 a0_9, .int .i64 a0_10, .int .i64 a0_11] 23 (0, 0)) (by (with_reducible repeat first | refine blk_drewN ?_ _ | refine blk_drew ?_ | refine blk_alloc ?_ _); exact BK304.out) hb)
        have n1_ := Aside0.mk (below_step (by repeat (first | (with_reducible first | exact HB.out | apply below_alloc | apply pw_below_drewN | apply below_drew1 | refine below_set ?_ GE304.out) | exact HB.out)) hb)
        clear BK304
        clear HB
        have BK304 := n0_
        have HB := n1_
        clear n0_ n1_
        (try clear hb)
        (try clear hb2)
        (try clear hk)
        (try clear hi)
        refine hK.out _ _ ⟨(blk_cell BK304.out 0).trans rfl, (blk_cell BK304.out 1).trans rfl, (blk_cell BK304.out 2).trans rfl, (blk_cell BK304.out 3).trans rfl, (blk_cell BK304.out 4).trans rfl, (blk_cell BK304.out 5).trans rfl, (blk_cell BK304.out 6).trans rfl, (blk_cell BK304.out 7).trans rfl, (blk_cell BK304.out 8).trans rfl, (blk_cell BK304.out 9).trans rfl, (blk_cell BK304.out 10).trans rfl, (blk_cell BK304.out 11).trans rfl⟩ (fun hHeld => ?_)
        clear hK K
        refine norm_ (a' := ?_) ?_ ?_
        rotate_left
        ·show Act.put _ (some 96) _ = _
         simp only [Act.put, List.setIfInBounds_toArray, List.set_cons_zero, List.set_cons_succ, i64_w, i32_w]
         rfl
        refine pure_ (i := 15) (N := some 97) (v := ?_) (a' := ?_) #[true, true, true, true, true, true, true, true, true, true, true, true, true, true, true, true, false, false, false] rfl rfl (any_of HT_.out (by kernel_rfl)) (fun _ _ _ h => h) (Or.inl ⟨by rfl, ?_⟩) ?_ ?_
        rotate_left
        ·intro w'
         go_simp
         with_reducible rfl
        rotate_left
        ·simp only [Act.put, List.setIfInBounds_toArray, List.set_cons_zero, List.set_cons_succ, i64_w, i32_w]
         rfl
        refine pure_ (i := 16) (N := some 98) (v := ?_) (a' := ?_) #[true, true, true, true, true, true, true, true, true, true, true, true, true, true, true, true, true, false, false] rfl rfl (any_of HT_.out (by kernel_rfl)) (fun _ _ _ h => h) (Or.inl ⟨by rfl, ?_⟩) ?_ ?_
        rotate_left
        ·intro w'
         go_simp
         with_reducible rfl
        rotate_left
        ·simp only [Act.put, List.setIfInBounds_toArray, List.set_cons_zero, List.set_cons_succ, i64_w, i32_w]
         rfl
        refine pure_ (i := 17) (N := some 99) (v := ?_) (a' := ?_) #[true, true, true, true, true, true, true, true, true, true, true, true, true, true, true, true, true, true, false] rfl rfl (any_of HT_.out (by kernel_rfl)) (fun _ _ _ h => h) (Or.inl ⟨by rfl, ?_⟩) ?_ ?_
        rotate_left
        ·intro w'
         go_simp
         with_reducible rfl
        rotate_left
        ·simp only [Act.put, List.setIfInBounds_toArray, List.set_cons_zero, List.set_cons_succ, i64_w, i32_w]
         rfl
        refine pure_ (i := 18) (N := some 2) (v := ?_) (a' := ?_) #[true, true, true, true, true, true, true, true, true, true, true, true, true, true, true, true, true, true, true] rfl rfl (any_of HT_.out (by kernel_rfl)) (fun _ _ _ h => h) (Or.inl ⟨by rfl, ?_⟩) ?_ ?_
        rotate_left
        ·intro w'
         go_simp
         with_reducible rfl
        rotate_left
        ·simp only [Act.put, List.setIfInBounds_toArray, List.set_cons_zero, List.set_cons_succ, i64_w, i32_w]
         rfl
        refine done_ (done_of HT_.out (by kernel_rfl)) ?_
        try go_wp2
        go_ret
        exact ⟨by first | rfl | (simp [errW_none, errW_some] <;> rfl) | (simp [*, errW_none, errW_some] <;> rfl), by repeat (first | (with_reducible first | exact HB.out | apply below_alloc | apply pw_below_drewN | apply below_drew1 | refine below_set ?_ GE304.out) | exact HB.out)⟩
       ·rw [if_neg c48] at H
        have c48b0 : (t309 == (wrap64 ((wrap64 ((wrap64 (1 + t308)) + (wrap64 (a0_4 * a0_5)))) * a0_1))) = false := beq_eq_false_iff_ne.mpr c48
        have c48b1 : (t309 != (wrap64 ((wrap64 ((wrap64 (1 + t308)) + (wrap64 (a0_4 * a0_5)))) * a0_1))) = true := bne_iff_ne.mpr c48
        exact absurd ((Option.some.inj H).trans hr_.out) (by decide)

end Go.Proofs.Ytdfcioadccijfaa.PA
