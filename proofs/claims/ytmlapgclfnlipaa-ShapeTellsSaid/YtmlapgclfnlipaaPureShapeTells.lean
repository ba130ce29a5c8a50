/- ShapeTells: each answer is the same number or list. Conditions: none. -/
import Derived.Test.YtmlapgclfnlipaaWays
import Derived.Test.YtmlapgclfnlipaaSays
import Derived.Test.YtmlapgclfnlipaaPAx1
import Derived.Test.YtmlapgclfnlipaaPAx2
import Derived.Test.YtmlapgclfnlipaaPAx3
import Derived.Test.YtmlapgclfnlipaaSaysShapeTells
set_option linter.unusedVariables false
set_option linter.unusedSimpArgs false
namespace Go.Proofs.Ytmlapgclfnlipaa.Pure
open Go.RowKit Go.Proofs.Ytmlapgclfnlipaa.PA Go.Proofs.YtmlapgclfnlipaaW.PrintWords Go.Proofs.YtmlapgclfnlipaaW.PrintLast
theorem parents (n : Int) (h : Ini64 n) : shape_Parent.f n = some (if n < 1 then 0 else n / 2) ∧ millstreamref07_Parent.f n = some (if n < 1 then 0 else n / 2) := by
  unfold Ini64 at h
  constructor
  · unfold shape_Parent.f mx
    congr 1
    by_cases a : n < 1
    · rw [if_pos a]; split <;> omega
    · rw [if_neg a, if_neg (by omega)]
  · by_cases a : n < 1
    · unfold millstreamref07_Parent.f
      rw [if_pos a, if_pos (by omega)]
    · rw [if_neg a, refparent_eq n (by omega)]
theorem ShapeTells : millstreamlaw07_ShapeTells.Claim := by
  intro x0 x1 x2 x3 h0 h1 h2 h3
  refine ⟨100, ?_⟩
  unfold millstreamlaw07_ShapeTells.f
  have hh0 := h0; have hh1 := h1; have hh2 := h2; have hh3 := h3
  unfold Inu8 at hh0
  unfold Inu16 at hh1 hh2
  unfold Ini64 at hh3
  have e0 : wrap64 x0 = x0 := w64 (by omega) (by omega)
  have e1 : wrap64 x1 = x1 := w64 (by omega) (by omega)
  have e2 : wrap64 x2 = x2 := w64 (by omega) (by omega)
  rw [e0, e1, e2]
  obtain ⟨d, hd⟩ : ∃ d, Int.tmod x0 5 = d := ⟨_, rfl⟩
  have hd5 : 0 ≤ d ∧ d ≤ 4 := by
    rw [Int.tmod_eq_emod_of_nonneg (by omega)] at hd
    omega
  rw [hd]
  have P : ∀ t : Int, 0 ≤ t → t ≤ 9223372036854775800 → millstreamref07_Path.f 100 d t = some (pth (lf d t)) := by
    intro t ht0 ht1
    refine up2 (f := fun k => millstreamref07_Path.f k d t) (millstreamref07_Path.mono d t) (k0 := 20) ?_ 100 (by omega)
    show millstreamref07_Path.f 20 d t = _
    unfold millstreamref07_Path.f
    rw [refleaf_eq 20 (by omega) d t hd5 ⟨ht0, ht1⟩]
    exact refpath_eq _ (lf_in d t hd5)
  have M : millstreamref07_Meet.f 100 d x1 x2 = some (mtl (pth (lf d x1)) (lf d x2)) := by
    unfold millstreamref07_Meet.f
    rw [P x1 (by omega) (by omega), P x2 (by omega) (by omega)]
    simp only [Option.bind_some]
    refine up2 (f := fun k => millstreamref07_Meet.l0 k (pth (lf d x1)) (pth (lf d x2)) 0) (fun k => (millstreamref07_Meet.mono_l k) _ _ _) (k0 := 20) ?_ 100 (by omega)
    exact refmeet_eq _ _ (lf_in d x1 hd5) (lf_in d x2 hd5) (by have := lf_len d x1 hd5; have := lf_len d x2 hd5; omega)
  have I : millstreamref02_Ints.f 100 (pth (lf d x1)) (pth (lf d x1)) = some true :=
    up2 (f := fun k => millstreamref02_Ints.f k (pth (lf d x1)) (pth (lf d x1))) (millstreamref02_Ints.mono _ _) (k0 := 20) (ints_eq _ (lf_in d x1 hd5)) 100 (by omega)
  rw [leaf_eq d x1 hd5 (by omega), refleaf_eq 100 (by omega) d x1 hd5 (by omega)]
  simp only [Option.bind_some]
  rw [if_pos (by trivial), (parents x3 h3).1, (parents x3 h3).2]
  simp only [Option.bind_some]
  rw [if_pos (by trivial), level_eq 100 (by omega) x3 (by omega) (by omega), reflevel_eq 100 (by omega) x3 (by omega)]
  simp only [Option.bind_some]
  rw [if_pos (by trivial), path_eq d x1 hd5 (by omega), P x1 (by omega) (by omega)]
  simp only [Option.bind_some]
  rw [I]
  simp only [Option.bind_some]
  rw [if_pos (by trivial), meet_eq d x1 x2 hd5 (by omega) (by omega), M]
  simp only [Option.bind_some]
  rw [if_pos (by trivial), shown_k 100 (by omega)]
  rfl
end Go.Proofs.Ytmlapgclfnlipaa.Pure
