/- The pieces of slices.Concat, in plain words. Conditions: none. -/
import Derived.Test.YtahflgbdcnipnaaJ0
import Derived.Test.YtahflgbdcnipnaaSimPure
set_option linter.unusedVariables false
set_option linter.unusedSimpArgs false
set_option maxRecDepth 10000
namespace Go.Proofs.YtahflgbdcnipnaaS
open Go Go.Proofs
def row44 (e : List PV) : List (List PV) := pList (e.headD PV.undef)
/-- All elements, one list behind the other. -/
def flat (xs : List (List PV)) : List (List PV) := xs.flatMap row44
theorem flat_next {xs : List (List PV)} {i : Nat} (h : i < xs.length) : flat (xs.take (i + 1)) = flat (xs.take i) ++ row44 (xs.getD i []) := by
  have e : xs.take (i + 1) = xs.take i ++ [xs.getD i []] := by
    rw [List.take_add_one, List.getD_eq_getElem?_getD, List.getElem?_eq_getElem h]
    rfl
  rw [e]
  simp [flat, List.flatMap_append]
theorem flat_le {xs : List (List PV)} (i : Nat) : (flat (xs.take i)).length ≤ (flat xs).length := by
  conv => rhs; rw [← List.take_append_drop i xs]
  simp only [flat, List.flatMap_append, List.length_append]
  omega
theorem ja_loop {N : Nat} {xs : List (List PV)} (h1 : xs.length ≤ 1000000) (h2 : (flat xs).length ≤ 1000000) : ∀ (k i : Nat), i + k = xs.length → loopN (jaL0r N xs) (k + 1) (.s0 ((flat (xs.take i)).length : Int) (i : Int)) = some (.e0 ((flat xs).length : Int))
  | 0, i, h => by
    have e : xs.take i = xs := List.take_of_length_le (by omega)
    rw [e]
    exact loopN_end (run_false (decide_eq_false (by omega)) rfl)
  | k + 1, i, h => by
    have hi : i < xs.length := by omega
    have hl := flat_le (xs := xs) (i + 1)
    rw [flat_next hi, List.length_append] at hl
    have d1 : decide ((i : Int) < (xs.length : Int)) = true := decide_eq_true (by omega)
    have d2 : (decide (0 ≤ (i : Int)) && decide ((i : Int) < (xs.length : Int))) = true := by rw [d1, decide_eq_true (show (0 : Int) ≤ (i : Int) by omega)]; rfl
    have w1 : IntKind.i64.wrap (((flat (xs.take i)).length : Int) + ((row44 (xs.getD i [])).length : Int)) = ((flat (xs.take (i + 1))).length : Int) := by
      rw [flat_next hi, List.length_append, wrap_small (by omega) (by omega)]
      omega
    have w1' : IntKind.i64.wrap (((flat (xs.take i)).length : Int) + ((pList ((xs.getD (i : Int).toNat []).headD PV.undef)).length : Int)) = ((flat (xs.take (i + 1))).length : Int) := w1
    rw [loopN_next (y := .s0 ((flat (xs.take (i + 1))).length : Int) ((i + 1 : Nat) : Int)) ?_]
    · exact ja_loop h1 h2 k (i + 1) (by omega)
    · refine run_true d1 (run_true d2 (run_false (decide_eq_false (by rw [w1']; omega)) ?_))
      show some (Sum.inl (jaL0s.s0 _ _)) = _
      rw [w1', wrap_next (i := i) (by omega)]
theorem ja_val {xs : List (List PV)} (h1 : xs.length ≤ 1000000) (h2 : (flat xs).length ≤ 1000000) : ja (xs.length + 1) xs = some ⟨xs, ((flat xs).length : Int)⟩ := by
  have h := ja_loop (N := xs.length + 1) h1 h2 xs.length 0 (by omega)
  have h' : loopN (jaL0r (xs.length + 1) xs) (xs.length + 1) (.s0 0 0) = some (.e0 ((flat xs).length : Int)) := h
  unfold ja
  rw [h']
  rfl
theorem jb_loop {N : Nat} {xs : List (List PV)} (h1 : xs.length ≤ 1000000) (h2 : (flat xs).length ≤ 1000000) : ∀ (k i : Nat), i + k = xs.length → loopN (jbL0r N xs) (k + 1) (.s1 (i : Int) (flat (xs.take i))) = some (.e1 (flat xs))
  | 0, i, h => by
    have e : xs.take i = xs := List.take_of_length_le (by omega)
    rw [e]
    exact loopN_end (run_false (decide_eq_false (by omega)) rfl)
  | k + 1, i, h => by
    have hi : i < xs.length := by omega
    have hl := flat_le (xs := xs) (i + 1)
    rw [flat_next hi, List.length_append] at hl
    have d1 : decide ((i : Int) < (xs.length : Int)) = true := decide_eq_true (by omega)
    have d2 : (decide (0 ≤ (i : Int)) && decide ((i : Int) < (xs.length : Int))) = true := by rw [d1, decide_eq_true (show (0 : Int) ≤ (i : Int) by omega)]; rfl
    have d3 : (flat (xs.take i)).length + (row44 (xs.getD i [])).length ≤ most := show _ ≤ 1000000 by omega
    rw [loopN_next (y := .s1 ((i + 1 : Nat) : Int) (flat (xs.take (i + 1)))) ?_]
    · exact jb_loop h1 h2 k (i + 1) (by omega)
    · refine run_true d1 (run_true d2 (run_true (decide_eq_true d3) ?_))
      show some (Sum.inl (jbL0s.s1 _ (flat (xs.take i) ++ row44 (xs.getD i [])))) = _
      rw [wrap_next (i := i) (by omega), flat_next hi]
theorem jb_val {xs : List (List PV)} (h1 : xs.length ≤ 1000000) (h2 : (flat xs).length ≤ 1000000) : ∃ o, jb (xs.length + 1) xs = some o ∧ (jbW o).plain = .pv (.list 44 (flat xs)) := by
  match xs, h1, h2 with
  | [], h1, h2 => exact ⟨.r0 [], rfl, rfl⟩
  | a :: l, h1, h2 =>
    refine ⟨.r1 (flat (a :: l)), ?_, rfl⟩
    have hl := flat_le (xs := a :: l) 1
    rw [flat_next (by simp)] at hl
    have hl' : (row44 a).length ≤ 1000000 := by
      have : (flat (List.take 0 (a :: l)) ++ row44 ((a :: l).getD 0 [])).length = (row44 a).length := by simp [flat]
      omega
    have d1 : decide ((0 : Int) < (((a :: l).length : Nat) : Int)) = true := decide_eq_true (by simp)
    have e0 : jbL0r ((a :: l).length + 1) (a :: l) .s0 = some (.inl (.s1 ((1 : Nat) : Int) (flat ((a :: l).take 1)))) := by
      refine run_true d1 (run_true (by rw [d1]; rfl) (run_true (decide_eq_true (show ([] : List (List PV)).length + (row44 a).length ≤ most from show _ ≤ 1000000 by simpa using hl')) ?_))
      show some (Sum.inl (jbL0s.s1 1 ([] ++ row44 a))) = _
      simp [flat]
    unfold jb
    have hq : loopN (jbL0r ((a :: l).length + 1) (a :: l)) (a :: l).length (.s1 ((1 : Nat) : Int) (flat ((a :: l).take 1))) = some (.e1 (flat (a :: l))) := jb_loop h1 h2 l.length 1 (by simp; omega)
    rw [loopN_next e0, hq]
    rfl
end Go.Proofs.YtahflgbdcnipnaaS
