/- ShapeTurns: as many leaves on, twice, is the same leaf. Conditions: none. -/
import Derived.Test.YtmlapgclfnlipaaWays
import Derived.Test.YtmlapgclfnlipaaSays
import Derived.Test.YtmlapgclfnlipaaPAx1
import Derived.Test.YtmlapgclfnlipaaPAx2
import Derived.Test.YtmlapgclfnlipaaPAx4
import Derived.Test.YtmlapgclfnlipaaSaysShapeTurns
set_option linter.unusedVariables false
set_option linter.unusedSimpArgs false
namespace Go.Proofs.Ytmlapgclfnlipaa.Pure
open Go.RowKit Go.Proofs.Ytmlapgclfnlipaa.PA Go.Proofs.YtmlapgclfnlipaaW.PrintWords Go.Proofs.YtmlapgclfnlipaaW.PrintLast
theorem self_ : ∀ q : Fin 16, 1 ≤ (q.val : Int) → mtl (pth (q.val : Int)) (q.val : Int) = (q.val : Int) := by decide +kernel
theorem self_eq (x : Int) (h : 0 ≤ x ∧ x < 16) (h1 : 1 ≤ x) : mtl (pth x) x = x := fin16 (P := fun x => 1 ≤ x → mtl (pth x) x = x) self_ x h h1
theorem turn_end (k : Nat) (hk : 30 ≤ k) (x1 x2 d m : Int) (hd : 1 ≤ d ∧ d ≤ 4) (h1 : 0 ≤ x1 ∧ x1 ≤ 65535) (h2 : 0 ≤ x2 ∧ x2 ≤ 255) (hm : m = 2 * half d) (i : Int) (hi : ¬ i < d) : millstreamlaw07_ShapeTurns.l0 (k + 1) x1 x2 d m i = some true := by
  have hm16 : 2 ≤ m ∧ m ≤ 16 := by rw [hm]; unfold half; (repeat' split) <;> omega
  have hmm : 0 ≤ m * x2 ∧ m * x2 ≤ 16 * 255 := ⟨Int.mul_nonneg (by omega) h2.1, Int.mul_le_mul hm16.2 h2.2 h2.1 (by omega)⟩
  have e1 : wrap64 x1 = x1 := w64 (by omega) (by omega)
  have e2 : wrap64 x2 = x2 := w64 (by omega) (by omega)
  have e3 : wrap64 (m * x2) = m * x2 := w64 (by omega) (by omega)
  have e4 : wrap64 (x1 + m * x2) = x1 + m * x2 := w64 (by omega) (by omega)
  have hl : lf d (x1 + m * x2) = lf d x1 := by
    subst hm
    unfold lf
    rw [if_neg (by omega), if_neg (by omega)]
    congr 1
    have hd' : d = 1 ∨ d = 2 ∨ d = 3 ∨ d = 4 := by omega
    rcases hd' with rfl | rfl | rfl | rfl
    · rw [show half 1 = 1 by decide]; omega
    · rw [show half 2 = 2 by decide]; omega
    · rw [show half 3 = 4 by decide]; omega
    · rw [show half 4 = 8 by decide]; omega
  have hd0 : 0 ≤ d ∧ d ≤ 4 := by omega
  have hq := lf_in d x1 hd0
  have hq1 : 1 ≤ lf d x1 := by
    have := lf_low d x1 hd
    have : 1 ≤ half d := by unfold half; (repeat' split) <;> omega
    omega
  have I : millstreamref02_Ints.f k (pth (lf d x1)) (pth (lf d x1)) = some true :=
    up2 (f := fun k => millstreamref02_Ints.f k (pth (lf d x1)) (pth (lf d x1))) (millstreamref02_Ints.mono _ _) (k0 := 20) (ints_eq _ hq) k (by omega)
  simp only [millstreamlaw07_ShapeTurns.l0]
  rw [if_neg hi, e1, e2, e3, e4, path_eq d x1 hd0 (by omega), path_eq d (x1 + m * x2) hd0 (by omega), hl]
  simp only [Option.bind_some]
  rw [I]
  simp only [Option.bind_some]
  rw [if_pos (by trivial), meet_eq d x1 (x1 + m * x2) hd0 (by omega) (by omega), leaf_eq d (x1 + m * x2) hd0 (by omega), hl, self_eq _ hq hq1]
  simp only [Option.bind_some]
  rw [if_pos (by trivial), meet_eq d (x1 + m * x2) (x1 + m * x2) hd0 (by omega) (by omega), leaf_eq d x1 hd0 (by omega), hl, self_eq _ hq hq1]
  simp only [Option.bind_some]
  rw [if_pos (by trivial), shown_k k (by omega)]
  rfl
theorem ShapeTurns : millstreamlaw07_ShapeTurns.Claim := by
  intro x0 x1 x2 h0 h1 h2
  refine ⟨100, ?_⟩
  unfold millstreamlaw07_ShapeTurns.f
  unfold Inu8 at h0 h2
  unfold Inu16 at h1
  rw [w64 (x := x0) (by omega) (by omega), Int.tmod_eq_emod_of_nonneg (by omega), w64 (by omega) (by omega)]
  obtain ⟨d, hd⟩ : ∃ d, 1 + x0 % 4 = d := ⟨_, rfl⟩
  rw [hd]
  have hd5 : d = 1 ∨ d = 2 ∨ d = 3 ∨ d = 4 := by omega
  have b1 : wrap64 (1 + 1) = 2 := by decide +kernel
  have b2 : wrap64 (2 + 1) = 3 := by decide +kernel
  have b3 : wrap64 (3 + 1) = 4 := by decide +kernel
  have c1 : wrap64 (2 * 2) = 4 := by decide +kernel
  have c2 : wrap64 (2 * 4) = 8 := by decide +kernel
  have c3 : wrap64 (2 * 8) = 16 := by decide +kernel
  have S : ∀ (k : Nat) (d m i : Int), i < d → millstreamlaw07_ShapeTurns.l0 (k + 1) x1 x2 d m i = millstreamlaw07_ShapeTurns.l0 k x1 x2 d (wrap64 (2 * m)) (wrap64 (i + 1)) := by
    intro k d m i hi
    simp only [millstreamlaw07_ShapeTurns.l0]
    rw [if_pos hi]
  have A : ∀ (h1 : 0 ≤ x1 ∧ x1 ≤ 65535) (h2 : 0 ≤ x2 ∧ x2 ≤ 255), millstreamlaw07_ShapeTurns.l0 100 x1 x2 d 2 1 = some true := by
    intro h1 h2
    rcases hd5 with rfl | rfl | rfl | rfl
    · exact turn_end 99 (by omega) x1 x2 1 2 (by omega) h1 h2 (by decide) 1 (by omega)
    · rw [S 99 2 2 1 (by omega), b1, c1]
      exact turn_end 98 (by omega) x1 x2 2 4 (by omega) h1 h2 (by decide) 2 (by omega)
    · rw [S 99 3 2 1 (by omega), b1, c1, S 98 3 4 2 (by omega), b2, c2]
      exact turn_end 97 (by omega) x1 x2 3 8 (by omega) h1 h2 (by decide) 3 (by omega)
    · rw [S 99 4 2 1 (by omega), b1, c1, S 98 4 4 2 (by omega), b2, c2, S 97 4 8 3 (by omega), b3, c3]
      exact turn_end 96 (by omega) x1 x2 4 16 (by omega) h1 h2 (by decide) 4 (by omega)
  exact A (by omega) (by omega)
end Go.Proofs.Ytmlapgclfnlipaa.Pure
