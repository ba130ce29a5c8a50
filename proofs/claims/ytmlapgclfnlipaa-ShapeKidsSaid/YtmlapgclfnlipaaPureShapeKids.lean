/- ShapeKids: kids' parents and levels. Conditions: none. -/
import Derived.Test.YtmlapgclfnlipaaWays
import Derived.Test.YtmlapgclfnlipaaSays
import Derived.Test.YtmlapgclfnlipaaPAx1
import Derived.Test.YtmlapgclfnlipaaPAx3
import Derived.Test.YtmlapgclfnlipaaSaysShapeKids
set_option linter.unusedVariables false
set_option linter.unusedSimpArgs false
namespace Go.Proofs.Ytmlapgclfnlipaa.Pure
open Go.RowKit Go.Proofs.Ytmlapgclfnlipaa.PA Go.Proofs.YtmlapgclfnlipaaW.PrintWords Go.Proofs.YtmlapgclfnlipaaW.PrintLast
theorem par_ (n m : Int) (h : (if n < 0 then 0 else n) / 2 = m) : shape_Parent.f n = some m := by
  unfold shape_Parent.f mx
  rw [h]
theorem lv_kid (k x : Int) (h : 1 ≤ k) (hx : x / 2 = k) : lv x = lv k + 1 := by
  have a := len_step x (by omega)
  rw [hx] at a
  have b := len_step k (by omega)
  have c := len_in (k / 2)
  unfold lv
  rw [if_neg (by omega), if_neg (by omega)]
  omega
theorem ShapeKids : millstreamlaw07_ShapeKids.Claim := by
  intro x0 h0
  refine ⟨100, ?_⟩
  unfold Inu16 at h0
  have e0 : wrap64 x0 = x0 := w64 (by omega) (by omega)
  obtain ⟨k, hk⟩ : ∃ k, 1 + x0 = k := ⟨_, rfl⟩
  unfold millstreamlaw07_ShapeKids.f
  have e1 : wrap64 (1 + x0) = k := by rw [w64 (by omega) (by omega)]; exact hk
  have e2 : wrap64 (2 * k) = 2 * k := w64 (by omega) (by omega)
  have e3 : wrap64 (2 * k + 1) = 2 * k + 1 := w64 (by omega) (by omega)
  have e4 : wrap64 (-k) = -k := w64 (by omega) (by omega)
  have l1 : 0 ≤ lv k ∧ lv k ≤ 100 := by
    have := len_lt 17 k (by omega)
    have := len_step k (by omega)
    have := len_in (k / 2)
    unfold lv
    split <;> omega
  have e5 : wrap64 (lv k + 1) = lv k + 1 := w64 (by omega) (by omega)
  rw [e0, e1, e2, e3, e4, par_ (2 * k) k (by split <;> omega)]
  simp only [Option.bind_some]
  rw [if_pos (by trivial), par_ (2 * k + 1) k (by split <;> omega)]
  simp only [Option.bind_some]
  rw [if_pos (by trivial), level_eq 100 (by omega) (2 * k) (by omega) (by omega), level_eq 100 (by omega) k (by omega) (by omega)]
  simp only [Option.bind_some]
  rw [e5, if_pos (lv_kid k (2 * k) (by omega) (by omega)), level_eq 100 (by omega) (2 * k + 1) (by omega) (by omega)]
  simp only [Option.bind_some]
  rw [if_pos (lv_kid k (2 * k + 1) (by omega) (by omega)), par_ 1 0 (by decide)]
  simp only [Option.bind_some]
  rw [if_pos (by trivial), par_ (-k) 0 (by split <;> omega)]
  simp only [Option.bind_some]
  rw [if_pos (by trivial), level_eq 100 (by omega) (-k) (by omega) (by omega)]
  simp only [Option.bind_some]
  rw [if_pos (by unfold lv; rw [if_pos (by omega)]), shown_k 100 (by omega)]
  rfl
end Go.Proofs.Ytmlapgclfnlipaa.Pure
