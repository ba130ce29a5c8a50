/- What the chapter's functions come to, in plain words. Conditions: none but those that each law names. -/
import Derived.Test.YtihdfkdinfmhlaaF4
import Derived.Test.YtihdfkdinfmhlaaSimPure
set_option linter.unusedVariables false
set_option linter.unusedSimpArgs false
set_option maxRecDepth 10000
namespace Go.Proofs.YtihdfkdinfmhlaaS
open Go Go.Proofs

/-- The word at a place. -/
def word (l : List (List PV)) (i : Int) : Int := pInt ((l.getD i.toNat []).headD PV.undef)
/-- The box at a place. -/
def bx (l : List (List PV)) (i : Int) : List (List PV) := pList ((l.getD i.toNat []).headD PV.undef)
theorem f12_in (x : S25) (i : Int) (h0 : 0 ≤ i) (h1 : i < (x.a0.length : Int)) : f12 0 x i = some ⟨word x.a0 i, 0⟩ := by
  have e1 : decide (i < 0) = false := decide_eq_false (by omega)
  have e2 : decide (i ≥ (x.a0.length : Int)) = false := decide_eq_false (by omega)
  have e3 : (decide (0 ≤ i) && decide (i < (x.a0.length : Int))) = true := by rw [decide_eq_true h0, decide_eq_true h1]; rfl
  unfold f12 f12t0
  simp only [e1, e2, e3, Tr.run, cond_true, cond_false]
  all_goals rfl
theorem f12_out (x : S25) (i : Int) (h : i < 0 ∨ (x.a0.length : Int) ≤ i) : f12 0 x i = some ⟨0, 30⟩ := by
  unfold f12 f12t0
  by_cases c : i < 0
  · simp only [decide_eq_true c, Tr.run, cond_true]
  · simp only [decide_eq_false c, decide_eq_true (show i ≥ (x.a0.length : Int) by omega), Tr.run, cond_true, cond_false]
theorem f13_in (x : S30) (i : Int) (h0 : 0 ≤ i) (h1 : i < (x.a0.length : Int)) : f13 0 x i = some ⟨word x.a0 i, 0⟩ := by
  have e1 : decide (i < 0) = false := decide_eq_false (by omega)
  have e2 : decide (i ≥ (x.a0.length : Int)) = false := decide_eq_false (by omega)
  have e3 : (decide (0 ≤ i) && decide (i < (x.a0.length : Int))) = true := by rw [decide_eq_true h0, decide_eq_true h1]; rfl
  unfold f13 f13t0
  simp only [e1, e2, e3, Tr.run, cond_true, cond_false]
  all_goals rfl
theorem f13_out (x : S30) (i : Int) (h : i < 0 ∨ (x.a0.length : Int) ≤ i) : f13 0 x i = some ⟨0, 30⟩ := by
  unfold f13 f13t0
  by_cases c : i < 0
  · simp only [decide_eq_true c, Tr.run, cond_true]
  · simp only [decide_eq_false c, decide_eq_true (show i ≥ (x.a0.length : Int) by omega), Tr.run, cond_true, cond_false]
theorem f14_in (x : S25) (i : Int) (v : Int) (h0 : 0 ≤ i) (h1 : i < (x.a0.length : Int)) (hl : x.a0.length ≤ 1000) : f14 0 x i v = some ⟨x.a0.set i.toNat [PV.int .i64 v], x.a1, 0⟩ := by
  have e1 : decide (i < 0) = false := decide_eq_false (by omega)
  have e2 : decide (i ≥ (x.a0.length : Int)) = false := decide_eq_false (by omega)
  have e3 : (decide (0 ≤ i) && decide (i < (x.a0.length : Int))) = true := by rw [decide_eq_true h0, decide_eq_true h1]; rfl
  have e4 : decide (x.a0.length ≤ most) = true := most_ok hl
  unfold f14 f14t0
  simp only [e1, e2, e3, e4, Tr.run, cond_true, cond_false]
  all_goals rfl
theorem f14_out (x : S25) (i : Int) (v : Int) (h : i < 0 ∨ (x.a0.length : Int) ≤ i) : f14 0 x i v = some ⟨x.a0, x.a1, 30⟩ := by
  unfold f14 f14t0
  by_cases c : i < 0
  · simp only [decide_eq_true c, Tr.run, cond_true]
  · simp only [decide_eq_false c, decide_eq_true (show i ≥ (x.a0.length : Int) by omega), Tr.run, cond_true, cond_false]
theorem f15_in (x : S30) (i : Int) (v : Int) (h0 : 0 ≤ i) (h1 : i < (x.a0.length : Int)) (hl : x.a0.length ≤ 1000) : f15 0 x i v = some ⟨x.a0.set i.toNat [PV.int .i64 v], x.a1, 0⟩ := by
  have e1 : decide (i < 0) = false := decide_eq_false (by omega)
  have e2 : decide (i ≥ (x.a0.length : Int)) = false := decide_eq_false (by omega)
  have e3 : (decide (0 ≤ i) && decide (i < (x.a0.length : Int))) = true := by rw [decide_eq_true h0, decide_eq_true h1]; rfl
  have e4 : decide (x.a0.length ≤ most) = true := most_ok hl
  unfold f15 f15t0
  simp only [e1, e2, e3, e4, Tr.run, cond_true, cond_false]
  all_goals rfl
theorem f15_out (x : S30) (i : Int) (v : Int) (h : i < 0 ∨ (x.a0.length : Int) ≤ i) : f15 0 x i v = some ⟨x.a0, x.a1, 30⟩ := by
  unfold f15 f15t0
  by_cases c : i < 0
  · simp only [decide_eq_true c, Tr.run, cond_true]
  · simp only [decide_eq_false c, decide_eq_true (show i ≥ (x.a0.length : Int) by omega), Tr.run, cond_true, cond_false]
theorem f16_in (x : S25) (i : Int) (v : Int) (h0 : 0 ≤ i) (h1 : i < (x.a0.length : Int)) (hl : x.a0.length ≤ 1000) : f16 0 x i v = some ⟨x.a0.set i.toNat [PV.int .i64 v], x.a1, word x.a0 i, 0⟩ := by
  have e1 : decide (i < 0) = false := decide_eq_false (by omega)
  have e2 : decide (i ≥ (x.a0.length : Int)) = false := decide_eq_false (by omega)
  have e3 : (decide (0 ≤ i) && decide (i < (x.a0.length : Int))) = true := by rw [decide_eq_true h0, decide_eq_true h1]; rfl
  have e4 : decide (x.a0.length ≤ most) = true := most_ok hl
  unfold f16 f16t0
  simp only [e1, e2, e3, e4, Tr.run, cond_true, cond_false]
  all_goals rfl
theorem f16_out (x : S25) (i : Int) (v : Int) (h : i < 0 ∨ (x.a0.length : Int) ≤ i) : f16 0 x i v = some ⟨x.a0, x.a1, 0, 30⟩ := by
  unfold f16 f16t0
  by_cases c : i < 0
  · simp only [decide_eq_true c, Tr.run, cond_true]
  · simp only [decide_eq_false c, decide_eq_true (show i ≥ (x.a0.length : Int) by omega), Tr.run, cond_true, cond_false]
theorem f17_in (x : S30) (i : Int) (v : Int) (h0 : 0 ≤ i) (h1 : i < (x.a0.length : Int)) (hl : x.a0.length ≤ 1000) : f17 0 x i v = some ⟨x.a0.set i.toNat [PV.int .i64 v], x.a1, word x.a0 i, 0⟩ := by
  have e1 : decide (i < 0) = false := decide_eq_false (by omega)
  have e2 : decide (i ≥ (x.a0.length : Int)) = false := decide_eq_false (by omega)
  have e3 : (decide (0 ≤ i) && decide (i < (x.a0.length : Int))) = true := by rw [decide_eq_true h0, decide_eq_true h1]; rfl
  have e4 : decide (x.a0.length ≤ most) = true := most_ok hl
  unfold f17 f17t0
  simp only [e1, e2, e3, e4, Tr.run, cond_true, cond_false]
  all_goals rfl
theorem f17_out (x : S30) (i : Int) (v : Int) (h : i < 0 ∨ (x.a0.length : Int) ≤ i) : f17 0 x i v = some ⟨x.a0, x.a1, 0, 30⟩ := by
  unfold f17 f17t0
  by_cases c : i < 0
  · simp only [decide_eq_true c, Tr.run, cond_true]
  · simp only [decide_eq_false c, decide_eq_true (show i ≥ (x.a0.length : Int) by omega), Tr.run, cond_true, cond_false]
theorem f18_eq (x : S25) (i : Int) (old v : Int) (h0 : 0 ≤ i) (h1 : i < (x.a0.length : Int)) (hl : x.a0.length ≤ 1000) (e : word x.a0 i = old) : f18 0 x i old v = some ⟨x.a0.set i.toNat [PV.int .i64 v], x.a1, true, 0⟩ := by
  have e1 : decide (i < 0) = false := decide_eq_false (by omega)
  have e2 : decide (i ≥ (x.a0.length : Int)) = false := decide_eq_false (by omega)
  have e3 : (decide (0 ≤ i) && decide (i < (x.a0.length : Int))) = true := by rw [decide_eq_true h0, decide_eq_true h1]; rfl
  have e4 : decide (x.a0.length ≤ most) = true := most_ok hl
  have e5 : (pInt ((x.a0.getD i.toNat []).headD PV.undef) == old) = true := by
    show (word x.a0 i == old) = true
    simp [e]
  unfold f18 f18t0
  simp only [e1, e2, e3, e4, e5, Tr.run, cond_true, cond_false]
theorem f18_ne (x : S25) (i : Int) (old v : Int) (h0 : 0 ≤ i) (h1 : i < (x.a0.length : Int)) (hl : x.a0.length ≤ 1000) (e : word x.a0 i ≠ old) : f18 0 x i old v = some ⟨x.a0, x.a1, false, 0⟩ := by
  have e1 : decide (i < 0) = false := decide_eq_false (by omega)
  have e2 : decide (i ≥ (x.a0.length : Int)) = false := decide_eq_false (by omega)
  have e3 : (decide (0 ≤ i) && decide (i < (x.a0.length : Int))) = true := by rw [decide_eq_true h0, decide_eq_true h1]; rfl
  have e4 : decide (x.a0.length ≤ most) = true := most_ok hl
  have e5 : (pInt ((x.a0.getD i.toNat []).headD PV.undef) == old) = false := by
    show (word x.a0 i == old) = false
    simp [e]
  unfold f18 f18t0
  simp only [e1, e2, e3, e4, e5, Tr.run, cond_true, cond_false]
theorem f18_out (x : S25) (i : Int) (old v : Int) (h : i < 0 ∨ (x.a0.length : Int) ≤ i) : f18 0 x i old v = some ⟨x.a0, x.a1, false, 30⟩ := by
  unfold f18 f18t0
  by_cases c : i < 0
  · simp only [decide_eq_true c, Tr.run, cond_true]
  · simp only [decide_eq_false c, decide_eq_true (show i ≥ (x.a0.length : Int) by omega), Tr.run, cond_true, cond_false]
theorem f19_eq (x : S30) (i : Int) (old v : Int) (h0 : 0 ≤ i) (h1 : i < (x.a0.length : Int)) (hl : x.a0.length ≤ 1000) (e : word x.a0 i = old) : f19 0 x i old v = some ⟨x.a0.set i.toNat [PV.int .i64 v], x.a1, true, 0⟩ := by
  have e1 : decide (i < 0) = false := decide_eq_false (by omega)
  have e2 : decide (i ≥ (x.a0.length : Int)) = false := decide_eq_false (by omega)
  have e3 : (decide (0 ≤ i) && decide (i < (x.a0.length : Int))) = true := by rw [decide_eq_true h0, decide_eq_true h1]; rfl
  have e4 : decide (x.a0.length ≤ most) = true := most_ok hl
  have e5 : (pInt ((x.a0.getD i.toNat []).headD PV.undef) != old) = false := by
    show (word x.a0 i != old) = false
    simp [e]
  unfold f19 f19t0
  simp only [e1, e2, e3, e4, e5, Tr.run, cond_true, cond_false]
theorem f19_ne (x : S30) (i : Int) (old v : Int) (h0 : 0 ≤ i) (h1 : i < (x.a0.length : Int)) (hl : x.a0.length ≤ 1000) (e : word x.a0 i ≠ old) : f19 0 x i old v = some ⟨x.a0, x.a1, false, 0⟩ := by
  have e1 : decide (i < 0) = false := decide_eq_false (by omega)
  have e2 : decide (i ≥ (x.a0.length : Int)) = false := decide_eq_false (by omega)
  have e3 : (decide (0 ≤ i) && decide (i < (x.a0.length : Int))) = true := by rw [decide_eq_true h0, decide_eq_true h1]; rfl
  have e4 : decide (x.a0.length ≤ most) = true := most_ok hl
  have e5 : (pInt ((x.a0.getD i.toNat []).headD PV.undef) != old) = true := by
    show (word x.a0 i != old) = true
    simp [e]
  unfold f19 f19t0
  simp only [e1, e2, e3, e4, e5, Tr.run, cond_true, cond_false]
theorem f19_out (x : S30) (i : Int) (old v : Int) (h : i < 0 ∨ (x.a0.length : Int) ≤ i) : f19 0 x i old v = some ⟨x.a0, x.a1, false, 30⟩ := by
  unfold f19 f19t0
  by_cases c : i < 0
  · simp only [decide_eq_true c, Tr.run, cond_true]
  · simp only [decide_eq_false c, decide_eq_true (show i ≥ (x.a0.length : Int) by omega), Tr.run, cond_true, cond_false]
theorem f21_in (x : S25) (i : Int) (h0 : 0 ≤ i) (h1 : i < (x.a1.length : Int)) (hb : (bx x.a1 i).length ≤ 1000) : f21 0 x i = some ⟨bx x.a1 i, 0⟩ := by
  have e1 : decide (i < 0) = false := decide_eq_false (by omega)
  have e2 : decide (i ≥ (x.a1.length : Int)) = false := decide_eq_false (by omega)
  have e3 : (decide (0 ≤ i) && decide (i < (x.a1.length : Int))) = true := by rw [decide_eq_true h0, decide_eq_true h1]; rfl
  have e4 : decide ((pList ((x.a1.getD i.toNat []).headD PV.undef)).length ≤ most) = true := most_ok hb
  unfold f21 f21t0
  simp only [e1, e2, e3, e4, Tr.run, cond_true, cond_false]
  all_goals rfl
theorem f21_out (x : S25) (i : Int) (h : i < 0 ∨ (x.a1.length : Int) ≤ i) : f21 0 x i = some ⟨[], 30⟩ := by
  unfold f21 f21t0
  by_cases c : i < 0
  · simp only [decide_eq_true c, Tr.run, cond_true]
  · simp only [decide_eq_false c, decide_eq_true (show i ≥ (x.a1.length : Int) by omega), Tr.run, cond_true, cond_false]
theorem f22_in (x : S30) (i : Int) (h0 : 0 ≤ i) (h1 : i < (x.a1.length : Int)) (hb : (bx x.a1 i).length ≤ 1000) : f22 0 x i = some ⟨bx x.a1 i, 0⟩ := by
  have e1 : decide (i < 0) = false := decide_eq_false (by omega)
  have e2 : decide (i ≥ (x.a1.length : Int)) = false := decide_eq_false (by omega)
  have e3 : (decide (0 ≤ i) && decide (i < (x.a1.length : Int))) = true := by rw [decide_eq_true h0, decide_eq_true h1]; rfl
  have e4 : decide ((pList ((x.a1.getD i.toNat []).headD PV.undef)).length ≤ most) = true := most_ok hb
  unfold f22 f22t0
  simp only [e1, e2, e3, e4, Tr.run, cond_true, cond_false]
  all_goals rfl
theorem f22_out (x : S30) (i : Int) (h : i < 0 ∨ (x.a1.length : Int) ≤ i) : f22 0 x i = some ⟨[], 30⟩ := by
  unfold f22 f22t0
  by_cases c : i < 0
  · simp only [decide_eq_true c, Tr.run, cond_true]
  · simp only [decide_eq_false c, decide_eq_true (show i ≥ (x.a1.length : Int) by omega), Tr.run, cond_true, cond_false]
theorem f23_in (x : S25) (i : Int) (b : List (List PV)) (h0 : 0 ≤ i) (h1 : i < (x.a1.length : Int)) (hl : x.a1.length ≤ 1000) (hb : b.length ≤ 1000) : f23 0 x i b = some ⟨x.a0, x.a1.set i.toNat [PV.list 68 b], 0⟩ := by
  have e1 : decide (i < 0) = false := decide_eq_false (by omega)
  have e2 : decide (i ≥ (x.a1.length : Int)) = false := decide_eq_false (by omega)
  have e3 : (decide (0 ≤ i) && decide (i < (x.a1.length : Int))) = true := by rw [decide_eq_true h0, decide_eq_true h1]; rfl
  have e4 : decide (x.a1.length ≤ most) = true := most_ok hl
  have e5 : decide (b.length ≤ most) = true := most_ok hb
  unfold f23 f23t0
  simp only [e1, e2, e3, e4, e5, Tr.run, cond_true, cond_false]
  all_goals rfl
theorem f23_out (x : S25) (i : Int) (b : List (List PV)) (h : i < 0 ∨ (x.a1.length : Int) ≤ i) : f23 0 x i b = some ⟨x.a0, x.a1, 30⟩ := by
  unfold f23 f23t0
  by_cases c : i < 0
  · simp only [decide_eq_true c, Tr.run, cond_true]
  · simp only [decide_eq_false c, decide_eq_true (show i ≥ (x.a1.length : Int) by omega), Tr.run, cond_true, cond_false]
theorem f24_in (x : S30) (i : Int) (b : List (List PV)) (h0 : 0 ≤ i) (h1 : i < (x.a1.length : Int)) (hl : x.a1.length ≤ 1000) (hb : b.length ≤ 1000) : f24 0 x i b = some ⟨x.a0, x.a1.set i.toNat [PV.list 81 b], 0⟩ := by
  have e1 : decide (i < 0) = false := decide_eq_false (by omega)
  have e2 : decide (i ≥ (x.a1.length : Int)) = false := decide_eq_false (by omega)
  have e3 : (decide (0 ≤ i) && decide (i < (x.a1.length : Int))) = true := by rw [decide_eq_true h0, decide_eq_true h1]; rfl
  have e4 : decide (x.a1.length ≤ most) = true := most_ok hl
  have e5 : decide (b.length ≤ most) = true := most_ok hb
  unfold f24 f24t0
  simp only [e1, e2, e3, e4, e5, Tr.run, cond_true, cond_false]
  all_goals rfl
theorem f24_out (x : S30) (i : Int) (b : List (List PV)) (h : i < 0 ∨ (x.a1.length : Int) ≤ i) : f24 0 x i b = some ⟨x.a0, x.a1, 30⟩ := by
  unfold f24 f24t0
  by_cases c : i < 0
  · simp only [decide_eq_true c, Tr.run, cond_true]
  · simp only [decide_eq_false c, decide_eq_true (show i ≥ (x.a1.length : Int) by omega), Tr.run, cond_true, cond_false]
theorem long_no {x : S25} (h : long x = false) : x.a0.length ≤ 300 ∧ x.a1.length ≤ 50 ∧ ∀ i, i < x.a1.length → (pList ((x.a1.getD i []).headD PV.undef)).length ≤ 50 := by
  unfold long at h
  simp only [Bool.or_eq_false_iff, Bool.not_eq_false', decide_eq_false_iff_not] at h
  obtain ⟨h1, h2, h3⟩ := h
  refine ⟨by omega, by omega, fun i hi => ?_⟩
  have := (all_range'.1 h1) i (by omega) (by omega)
  unfold shortB at this
  simp only [Bool.not_eq_true', decide_eq_false_iff_not] at this
  omega
/-- Boxes that are short enough. -/
def Short (l : List (List PV)) : Prop := l.length ≤ 1000 ∧ ∀ i, i < l.length → (pList ((l.getD i []).headD PV.undef)).length ≤ 1000
theorem mem_ok (w l : List (List PV)) (h : Short l) : (memOk ⟨w, l⟩ && decide (l.length ≤ most)) = true := by
  rw [most_ok h.1, Bool.and_true]
  unfold memOk
  rw [all_range']
  intro j _ hj
  exact most_ok (h.2 j (by simpa using hj))
theorem box_map (l : List (List PV)) (j : Nat) (hj : j < l.length) : pList (((l.map box81).getD j []).headD PV.undef) = pList ((l.getD j []).headD PV.undef) := by
  simp [List.getD_eq_getElem?_getD, hj, box81, pList]
theorem pre_ok (w l : List (List PV)) (hw : w.length ≤ 1000) (h : Short l) : pre20 ⟨w, l.map box81⟩ = true := by
  unfold pre20 boxesOk
  simp only [List.length_map]
  rw [decide_eq_true (huge_ok hw), decide_eq_true (huge_ok h.1), Bool.and_true, Bool.true_and, all_range']
  intro j _ hj
  have hj' : j < l.length := by simpa using hj
  refine decide_eq_true ?_
  unfold boxAt
  rw [box_map l j hj']
  exact huge_ok (h.2 j hj')
theorem same20_refl (x : S30) : same20 x x = true := by
  unfold same20
  rw [alike1_refl, beq_self_eq_true, Bool.true_and, Bool.true_and, all_range']
  intro j _ _
  exact alike3_refl _
theorem short_of {x : S25} (h : long x = false) : Short x.a1 := by
  obtain ⟨_, h2, h3⟩ := long_no h
  exact ⟨by omega, fun i hi => by have := h3 i hi; omega⟩
theorem short_set {l : List (List PV)} (h : Short l) (i : Nat) (b : List (List PV)) (hb : b.length ≤ 1000) : Short (l.set i [PV.list 68 b]) := by
  refine ⟨by rw [List.length_set]; exact h.1, fun j hj => ?_⟩
  rw [List.length_set] at hj
  by_cases e : i = j
  · subst e
    simp [List.getD_eq_getElem?_getD, hj, pList, hb]
  · have := h.2 j hj
    simpa [List.getD_eq_getElem?_getD, List.getElem?_set, e] using this
theorem word_set {l : List (List PV)} {k : Int} (h0 : 0 ≤ k) (h1 : k < (l.length : Int)) (v : Int) : word (l.set k.toNat [PV.int .i64 v]) k = v := by
  have : k.toNat < l.length := by omega
  simp [word, List.getD_eq_getElem?_getD, this, pInt]
theorem word_other {l : List (List PV)} {k j : Int} (h0 : 0 ≤ k) (h1 : 0 ≤ j) (hne : k ≠ j) (v : List PV) : word (l.set k.toNat v) j = word l j := by
  have : k.toNat ≠ j.toNat := by omega
  simp [word, List.getD_eq_getElem?_getD, List.getElem?_set, this]
/-- A place of a list that is not empty. -/
theorem place_of {t : Int} {n : Nat} (ht : 0 ≤ t ∧ t ≤ 255) (hn : (n : Int) ≠ 0) : 0 ≤ (IntKind.i64.wrap t).tmod (n : Int) ∧ (IntKind.i64.wrap t).tmod (n : Int) < (n : Int) := by
  rw [wrap_small (by omega) (by omega)]
  exact ⟨Int.tmod_nonneg _ ht.1, Int.tmod_lt_of_pos _ (by omega)⟩
theorem short_new (n : Nat) (h : n ≤ 1000) : Short (List.replicate n [PV.list 68 []]) := by
  refine ⟨by simpa using h, fun i hi => ?_⟩
  have : i < n := by simpa using hi
  simp [List.getD_eq_getElem?_getD, this, pList]
theorem bx_map {l : List (List PV)} {i : Int} (h0 : 0 ≤ i) (h1 : i < (l.length : Int)) : bx (l.map box81) i = bx l i := box_map l i.toNat (by omega)
theorem same_set (w l : List (List PV)) (k : Nat) (b : List (List PV)) : same20 ⟨w, (l.set k [PV.list 68 b]).map box81⟩ ⟨w, (l.map box81).set k [PV.list 81 b]⟩ = true := by
  rw [List.map_set]
  exact same20_refl _
theorem same_new (m n : Nat) : same20 ⟨List.replicate m [PV.int .i64 0], (List.replicate n [PV.list 68 []]).map box81⟩ ⟨List.replicate m [PV.int .i64 0], List.replicate n [PV.list 81 []]⟩ = true := by
  rw [List.map_replicate]
  exact same20_refl _
theorem bx_set {l : List (List PV)} {k : Int} (h0 : 0 ≤ k) (h1 : k < (l.length : Int)) (b : List (List PV)) : bx (l.set k.toNat [PV.list 68 b]) k = b := by
  have : k.toNat < l.length := by omega
  simp [bx, List.getD_eq_getElem?_getD, this, pList]
theorem bx_other {l : List (List PV)} {k j : Int} (h0 : 0 ≤ k) (h1 : 0 ≤ j) (hne : k ≠ j) (v : List PV) : bx (l.set k.toNat v) j = bx l j := by
  have : k.toNat ≠ j.toNat := by omega
  simp [bx, List.getD_eq_getElem?_getD, List.getElem?_set, this]
end Go.Proofs.YtihdfkdinfmhlaaS
