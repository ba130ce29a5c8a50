/- ShapeLeaves: each pair's leaf is the next one. Conditions: none. -/
import Derived.Test.YtmlapgclfnlipaaWays
import Derived.Test.YtmlapgclfnlipaaSays
import Derived.Test.YtmlapgclfnlipaaPAx1
import Derived.Test.YtmlapgclfnlipaaPAx4
import Derived.Test.YtmlapgclfnlipaaSaysShapeLeaves
set_option linter.unusedVariables false
set_option linter.unusedSimpArgs false
namespace Go.Proofs.Ytmlapgclfnlipaa.Pure
open Go.RowKit Go.Proofs.Ytmlapgclfnlipaa.PA Go.Proofs.YtmlapgclfnlipaaW.PrintWords Go.Proofs.YtmlapgclfnlipaaW.PrintLast
theorem lv16 : ∀ q : Fin 16, 1 ≤ (q.val : Int) → lv (q.val : Int) = (if (q.val : Int) < 2 then 0 else if (q.val : Int) < 4 then 1 else if (q.val : Int) < 8 then 2 else 3) := by decide +kernel
theorem lv16_eq (x : Int) (h : 0 ≤ x ∧ x < 16) (h1 : 1 ≤ x) : lv x = (if x < 2 then 0 else if x < 4 then 1 else if x < 8 then 2 else 3) := fin16 (P := fun x => 1 ≤ x → lv x = (if x < 2 then 0 else if x < 4 then 1 else if x < 8 then 2 else 3)) lv16 x h h1
theorem leaf_round (d m x : Int) (hd : 1 ≤ d ∧ d ≤ 4) (hm : m = half d) (hx : 0 ≤ x ∧ x < m) : shape_Leaf.f d (2 * x) = some (m + x) ∧ shape_Leaf.f d (2 * x + 1) = some (m + x) ∧ shape_Leaf.f d (2 * x + 2 * m) = some (m + x) ∧ lv (m + x) = d - 1 ∧ m ≤ 8 := by
  have hd' : d = 1 ∨ d = 2 ∨ d = 3 ∨ d = 4 := by omega
  have h8 : m ≤ 8 := by rw [hm]; unfold half; (repeat' split) <;> omega
  rw [leaf_eq d _ (by omega) (by omega), leaf_eq d _ (by omega) (by omega), leaf_eq d _ (by omega) (by omega), lv16_eq (m + x) (by omega) (by omega)]
  unfold lf
  rw [if_neg (by omega), if_neg (by omega), if_neg (by omega), ← hm]
  rcases hd' with rfl | rfl | rfl | rfl
  · obtain rfl : m = 1 := hm; refine ⟨by congr 1; omega, by congr 1; omega, by congr 1; omega, ?_, by omega⟩; (repeat' split) <;> omega
  · obtain rfl : m = 2 := hm; refine ⟨by congr 1; omega, by congr 1; omega, by congr 1; omega, ?_, by omega⟩; (repeat' split) <;> omega
  · obtain rfl : m = 4 := hm; refine ⟨by congr 1; omega, by congr 1; omega, by congr 1; omega, ?_, by omega⟩; (repeat' split) <;> omega
  · obtain rfl : m = 8 := hm; refine ⟨by congr 1; omega, by congr 1; omega, by congr 1; omega, ?_, by omega⟩; (repeat' split) <;> omega
theorem l1_all (d m : Int) (hd : 1 ≤ d ∧ d ≤ 4) (hm : m = half d) : ∀ (n k : Nat) (x : Int), 0 ≤ x → x + n = m → n + 20 ≤ k → millstreamlaw07_ShapeLeaves.l1 k d m x = some true
  | 0, k, x, h0, h1, hk => by
    obtain ⟨k, rfl⟩ : ∃ q, k = q + 1 := ⟨k - 1, by omega⟩
    simp only [millstreamlaw07_ShapeLeaves.l1]
    rw [if_neg (by omega), shown_k k (by omega)]
    rfl
  | n + 1, k, x, h0, h1, hk => by
    obtain ⟨k, rfl⟩ : ∃ q, k = q + 1 := ⟨k - 1, by omega⟩
    obtain ⟨a, b, c, e, h8⟩ := leaf_round d m x hd hm (by omega)
    simp only [millstreamlaw07_ShapeLeaves.l1]
    rw [if_pos (by omega), w64 (x := 2 * x) (by omega) (by omega), w64 (x := 2 * x + 1) (by omega) (by omega), w64 (x := 2 * m) (by omega) (by omega), w64 (x := 2 * x + 2 * m) (by omega) (by omega), a]
    simp only [Option.bind_some]
    rw [w64 (x := m + x) (by omega) (by omega), if_pos (by trivial), b]
    simp only [Option.bind_some]
    rw [if_pos (by trivial), level_eq k (by omega) (m + x) (by omega) (by omega)]
    simp only [Option.bind_some]
    rw [w64 (x := d - 1) (by omega) (by omega), if_pos e, c]
    simp only [Option.bind_some]
    rw [if_pos (by trivial), w64 (by omega) (by omega)]
    exact l1_all d m hd hm n k (x + 1) (by omega) (by omega) (by omega)
theorem ShapeLeaves : millstreamlaw07_ShapeLeaves.Claim := by
  intro x0 h0
  refine ⟨100, ?_⟩
  unfold millstreamlaw07_ShapeLeaves.f
  unfold Inu8 at h0
  rw [w64 (x := x0) (by omega) (by omega), Int.tmod_eq_emod_of_nonneg (by omega), w64 (by omega) (by omega)]
  obtain ⟨d, hd⟩ : ∃ d, 1 + x0 % 4 = d := ⟨_, rfl⟩
  rw [hd]
  have hd5 : d = 1 ∨ d = 2 ∨ d = 3 ∨ d = 4 := by omega
  have b1 : wrap64 (1 + 1) = 2 := by decide +kernel
  have b2 : wrap64 (2 + 1) = 3 := by decide +kernel
  have b3 : wrap64 (3 + 1) = 4 := by decide +kernel
  have c0 : wrap64 (2 * 1) = 2 := by decide +kernel
  have c1 : wrap64 (2 * 2) = 4 := by decide +kernel
  have c2 : wrap64 (2 * 4) = 8 := by decide +kernel
  have S : ∀ (k : Nat) (d m i : Int), i < d → millstreamlaw07_ShapeLeaves.l0 (k + 1) d m i = millstreamlaw07_ShapeLeaves.l0 k d (wrap64 (2 * m)) (wrap64 (i + 1)) := by
    intro k d m i hi
    simp only [millstreamlaw07_ShapeLeaves.l0]
    rw [if_pos hi]
  have E : ∀ (k : Nat) (d m i : Int), ¬ i < d → millstreamlaw07_ShapeLeaves.l0 (k + 1) d m i = millstreamlaw07_ShapeLeaves.l1 k d m 0 := by
    intro k d m i hi
    simp only [millstreamlaw07_ShapeLeaves.l0]
    rw [if_neg hi]
  rcases hd5 with rfl | rfl | rfl | rfl
  · rw [E 99 1 1 1 (by omega)]
    exact l1_all 1 1 (by omega) (by decide) 1 99 0 (by omega) (by omega) (by omega)
  · rw [S 99 2 1 1 (by omega), b1, c0, E 98 2 2 2 (by omega)]
    exact l1_all 2 2 (by omega) (by decide) 2 98 0 (by omega) (by omega) (by omega)
  · rw [S 99 3 1 1 (by omega), b1, c0, S 98 3 2 2 (by omega), b2, c1, E 97 3 4 3 (by omega)]
    exact l1_all 3 4 (by omega) (by decide) 4 97 0 (by omega) (by omega) (by omega)
  · rw [S 99 4 1 1 (by omega), b1, c0, S 98 4 2 2 (by omega), b2, c1, S 97 4 4 3 (by omega), b3, c2, E 96 4 8 4 (by omega)]
    exact l1_all 4 8 (by omega) (by decide) 8 96 0 (by omega) (by omega) (by omega)
end Go.Proofs.Ytmlapgclfnlipaa.Pure
