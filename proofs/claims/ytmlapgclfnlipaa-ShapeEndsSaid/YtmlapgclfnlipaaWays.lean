/- Leaves, ways and meets of chapter 7: finite facts. Conditions: a depth of at most 4. -/
import Derived.Test.YtmlapgclfnlipaaShape
import Derived.Test.YtmlapgclfnlipaaSays
import Derived.Test.YtmlapgclfnlipaaPAx1
import Derived.Test.YtmlapgclfnlipaaPAx2
set_option linter.unusedVariables false
set_option linter.unusedSimpArgs false
namespace Go.Proofs.Ytmlapgclfnlipaa.PA
open Go.RowKit Go.Proofs.YtmlapgclfnlipaaW.PrintWords Go.Proofs.YtmlapgclfnlipaaW.PrintLast Go.Proofs.YtmlapgclfnlipaaW.PrintMore
/-- 2 to the depth less one. -/
def half (d : Int) : Int := if d < 2 then 1 else if d < 3 then 2 else if d < 4 then 4 else 8
/-- The leaf. -/
def lf (d t : Int) : Int := if d < 1 then 0 else half d + t / 2 % half d
theorem lf_in (d t : Int) (h : 0 ≤ d ∧ d ≤ 4) : 0 ≤ lf d t ∧ lf d t < 16 := by
  unfold lf half; repeat' split
  all_goals omega
theorem lf_low (d t : Int) (h : 1 ≤ d ∧ d ≤ 4) : half d ≤ lf d t ∧ lf d t < 2 * half d := by
  unfold lf half; repeat' split
  all_goals omega
theorem wraps_i64 (n : Int) (h₀ : 0 ≤ n) (h₁ : n < 2 ^ 63) : IntKind.i64.wrap n = n := by rw [IntKind.wrap_i64]; omega
theorem and1 (x : Int) (h0 : 0 ≤ x) (h1 : x < 2 ^ 63) : Go.bits .and .i64 x 0 = 0 := by
  have := bits_mask .i64 63 (by decide) wraps_i64 0 (by decide) x h0 h1
  simpa [Int.emod_one] using this
theorem and2 (x : Int) (h0 : 0 ≤ x) (h1 : x < 2 ^ 63) : Go.bits .and .i64 x 1 = x % 2 := bits_mask .i64 63 (by decide) wraps_i64 1 (by decide) x h0 h1
theorem and4 (x : Int) (h0 : 0 ≤ x) (h1 : x < 2 ^ 63) : Go.bits .and .i64 x 3 = x % 4 := bits_mask .i64 63 (by decide) wraps_i64 2 (by decide) x h0 h1
theorem and8 (x : Int) (h0 : 0 ≤ x) (h1 : x < 2 ^ 63) : Go.bits .and .i64 x 7 = x % 8 := bits_mask .i64 63 (by decide) wraps_i64 3 (by decide) x h0 h1
theorem or_ (i : Nat) (hi : i ≤ 3) (y : Int) (h0 : 0 ≤ y) (h1 : y < 2 ^ i) : Go.bits .or .i64 (2 ^ i) y = 2 ^ i + y := by
  have hp : (2 : Int) ^ i ≤ 8 := by
    have : i = 0 ∨ i = 1 ∨ i = 2 ∨ i = 3 := by omega
    rcases this with rfl | rfl | rfl | rfl <;> decide
  exact bits_join .i64 63 (by decide) wraps_i64 i (2 ^ i) y (Int.le_of_lt (Int.pow_pos (by decide))) (Int.emod_self) (by omega) h0 h1 (by omega)
theorem leaf_eq (d t : Int) (h : 0 ≤ d ∧ d ≤ 4) (ht : 0 ≤ t ∧ t ≤ 9223372036854775807) : shape_Leaf.f d t = some (lf d t) := by
  unfold shape_Leaf.f lf half
  have hd : d = 0 ∨ d = 1 ∨ d = 2 ∨ d = 3 ∨ d = 4 := by omega
  have p0 : (2 : Int) ^ 63 = 9223372036854775808 := by decide +kernel
  rcases hd with rfl | rfl | rfl | rfl | rfl
  · rfl
  · rw [if_neg (by omega), show wrap64 (1 - 1) = 0 by decide +kernel, show shl .i64 1 0 = 1 by decide +kernel, show wrap64 (1 - 1) = 0 by decide +kernel, and1 _ (by omega) (by omega), if_pos (by omega), if_neg (by omega), if_pos (by omega), show Go.bits .or .i64 1 0 = 1 by decide +kernel, Int.emod_one]; rfl
  · rw [if_neg (by omega), show wrap64 (2 - 1) = 1 by decide +kernel, show shl .i64 1 1 = 2 by decide +kernel, show wrap64 (2 - 1) = 1 by decide +kernel, and2 _ (by omega) (by omega), if_pos (by omega), if_neg (by omega), if_neg (by omega), if_pos (by omega)]
    exact congrArg some (or_ 1 (by omega) _ (by omega) (by omega))
  · rw [if_neg (by omega), show wrap64 (3 - 1) = 2 by decide +kernel, show shl .i64 1 2 = 4 by decide +kernel, show wrap64 (4 - 1) = 3 by decide +kernel, and4 _ (by omega) (by omega), if_pos (by omega), if_neg (by omega), if_neg (by omega), if_neg (by omega), if_pos (by omega)]
    exact congrArg some (or_ 2 (by omega) _ (by omega) (by omega))
  · rw [if_neg (by omega), show wrap64 (4 - 1) = 3 by decide +kernel, show shl .i64 1 3 = 8 by decide +kernel, show wrap64 (8 - 1) = 7 by decide +kernel, and8 _ (by omega) (by omega), if_pos (by omega), if_neg (by omega), if_neg (by omega), if_neg (by omega), if_neg (by omega)]
    exact congrArg some (or_ 3 (by omega) _ (by omega) (by omega))
theorem refleaf_eq (k : Nat) (hk : 6 ≤ k) (d t : Int) (h : 0 ≤ d ∧ d ≤ 4) (ht : 0 ≤ t ∧ t ≤ 9223372036854775800) : millstreamref07_Leaf.f k d t = some (lf d t) := by
  obtain ⟨k, rfl⟩ : ∃ q, k = q + 6 := ⟨k - 6, by omega⟩
  have hd : d = 0 ∨ d = 1 ∨ d = 2 ∨ d = 3 ∨ d = 4 := by omega
  have e1 : wrap64 1 = 1 := by decide +kernel
  have e2 : wrap64 2 = 2 := by decide +kernel
  have e3 : wrap64 3 = 3 := by decide +kernel
  have e4 : wrap64 4 = 4 := by decide +kernel
  have e8 : wrap64 8 = 8 := by decide +kernel
  have et : wrap64 (Int.tdiv t 2) = t / 2 := by rw [Int.tdiv_eq_ediv_of_nonneg ht.1, w64 (by omega) (by omega)]
  have em : ∀ m : Int, Int.tmod (t / 2) m = t / 2 % m := fun m => Int.tmod_eq_emod_of_nonneg (by omega)
  unfold millstreamref07_Leaf.f lf half
  rcases hd with rfl | rfl | rfl | rfl | rfl
  · rfl
  · simp [millstreamref07_Leaf.l0, et, em, e1, Int.emod_one]
  · simp [millstreamref07_Leaf.l0, et, em, e1, e2, e3, e4, e8]
    rw [w64 (by omega) (by omega)]
  · simp [millstreamref07_Leaf.l0, et, em, e1, e2, e3, e4, e8]
    rw [w64 (by omega) (by omega)]
  · simp [millstreamref07_Leaf.l0, et, em, e1, e2, e3, e4, e8]
    rw [w64 (by omega) (by omega)]
/-- The way up. -/
def pth (q : Int) : List Int := (upl 6 q).getD []
theorem upl_ : ∀ q : Fin 16, upl 6 (q.val : Int) = some (pth (q.val : Int)) ∧ millstreamref07_Path.l0 20 [] (q.val : Int) = some (pth (q.val : Int)) ∧ millstreamref02_Ints.f 20 (pth (q.val : Int)) (pth (q.val : Int)) = some true ∧ ((pth (q.val : Int)).length : Int) = (if (q.val : Int) < 1 then 0 else if (q.val : Int) < 2 then 1 else if (q.val : Int) < 4 then 2 else if (q.val : Int) < 8 then 3 else 4) := by decide +kernel
theorem meet_ : ∀ q r : Fin 16, (pth (q.val : Int)).length = (pth (r.val : Int)).length → millstreamref07_Meet.l0 20 (pth (q.val : Int)) (pth (r.val : Int)) 0 = some (mtl (pth (q.val : Int)) (r.val : Int)) := by decide +kernel
theorem fin16 {P : Int → Prop} (h : ∀ q : Fin 16, P (q.val : Int)) (x : Int) (h0 : 0 ≤ x ∧ x < 16) : P x := by
  have := h ⟨x.toNat, by omega⟩
  have e : ((x.toNat : Nat) : Int) = x := by omega
  simpa only [e] using this
theorem upl_eq (x : Int) (h : 0 ≤ x ∧ x < 16) : upl 6 x = some (pth x) := fin16 (P := fun x => upl 6 x = some (pth x)) (fun q => (upl_ q).1) x h
theorem refpath_eq (x : Int) (h : 0 ≤ x ∧ x < 16) : millstreamref07_Path.l0 20 [] x = some (pth x) := fin16 (P := fun x => millstreamref07_Path.l0 20 [] x = some (pth x)) (fun q => (upl_ q).2.1) x h
theorem ints_eq (x : Int) (h : 0 ≤ x ∧ x < 16) : millstreamref02_Ints.f 20 (pth x) (pth x) = some true := fin16 (P := fun x => millstreamref02_Ints.f 20 (pth x) (pth x) = some true) (fun q => (upl_ q).2.2.1) x h
theorem pth_len (x : Int) (h : 0 ≤ x ∧ x < 16) : ((pth x).length : Int) = (if x < 1 then 0 else if x < 2 then 1 else if x < 4 then 2 else if x < 8 then 3 else 4) := fin16 (P := fun x => ((pth x).length : Int) = (if x < 1 then 0 else if x < 2 then 1 else if x < 4 then 2 else if x < 8 then 3 else 4)) (fun q => (upl_ q).2.2.2) x h
theorem two16 {P : Int → Int → Prop} (h : ∀ q r : Fin 16, P (q.val : Int) (r.val : Int)) (x y : Int) (h0 : 0 ≤ x ∧ x < 16) (h1 : 0 ≤ y ∧ y < 16) : P x y := fin16 (P := fun x => P x y) (fun q => fin16 (P := fun y => P (q.val : Int) y) (fun r => h q r) y h1) x h0
theorem refmeet_eq (x y : Int) (h0 : 0 ≤ x ∧ x < 16) (h1 : 0 ≤ y ∧ y < 16) (hl : (pth x).length = (pth y).length) : millstreamref07_Meet.l0 20 (pth x) (pth y) 0 = some (mtl (pth x) y) := two16 (P := fun x y => (pth x).length = (pth y).length → millstreamref07_Meet.l0 20 (pth x) (pth y) 0 = some (mtl (pth x) y)) meet_ x y h0 h1 hl
theorem up2 {α : Type} {f : Nat → Option α} (hm : ∀ k, LeO (f k) (f (k + 1))) {k0 : Nat} {r : α} (h : f k0 = some r) (k : Nat) (hk : k0 ≤ k) : f k = some r := by
  obtain ⟨n, rfl⟩ : ∃ n, k = k0 + n := ⟨k - k0, by omega⟩
  clear hk
  induction n with
  | zero => exact h
  | succ n ih => exact hm (k0 + n) r ih
theorem lf_len (d t : Int) (h : 0 ≤ d ∧ d ≤ 4) : ((pth (lf d t)).length : Int) = d := by
  rw [pth_len _ (lf_in d t h)]
  by_cases h0 : d < 1
  · have : lf d t = 0 := by unfold lf; rw [if_pos h0]
    rw [this]; simp; omega
  · have h1 := lf_low d t ⟨by omega, h.2⟩
    have hd : d = 1 ∨ d = 2 ∨ d = 3 ∨ d = 4 := by omega
    have q1 : half 1 = 1 := by decide
    have q2 : half 2 = 2 := by decide
    have q3 : half 3 = 4 := by decide
    have q4 : half 4 = 8 := by decide
    rcases hd with rfl | rfl | rfl | rfl
    · rw [q1] at h1; repeat' split
      all_goals omega
    · rw [q2] at h1; repeat' split
      all_goals omega
    · rw [q3] at h1; repeat' split
      all_goals omega
    · rw [q4] at h1; repeat' split
      all_goals omega
theorem path_eq (d t : Int) (h : 0 ≤ d ∧ d ≤ 4) (ht : 0 ≤ t ∧ t ≤ 9223372036854775800) : shape_Path.f d t = some (pth (lf d t)) := by
  unfold shape_Path.f
  rw [leaf_eq d t h (by omega)]
  exact upl_eq _ (lf_in d t h)
theorem meet_eq (d t u : Int) (h : 0 ≤ d ∧ d ≤ 4) (ht : 0 ≤ t ∧ t ≤ 9223372036854775800) (hu : 0 ≤ u ∧ u ≤ 9223372036854775800) : shape_Meet.f d t u = some (mtl (pth (lf d t)) (lf d u)) := by
  unfold shape_Meet.f
  rw [leaf_eq d u h (by omega), leaf_eq d t h (by omega)]
  simp only [Option.bind_some]
  rw [upl_eq _ (lf_in d t h)]
  rfl
theorem shown_g : millstreamlaw07_shown.g 8 = some true := by decide +kernel
theorem shown_k (k : Nat) (hk : 8 ≤ k) : millstreamlaw07_shown.f k = some true := by
  refine up2 (f := millstreamlaw07_shown.f) millstreamlaw07_shown.mono (k0 := 8) ?_ k hk
  unfold millstreamlaw07_shown.f
  rw [if_pos shown_g]
end Go.Proofs.Ytmlapgclfnlipaa.PA
