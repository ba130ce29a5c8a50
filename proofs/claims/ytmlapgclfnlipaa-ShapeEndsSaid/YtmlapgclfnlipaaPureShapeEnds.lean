/- ShapeEnds: a way goes up level by level, and ends at the top. Conditions: none. -/
import Derived.Test.YtmlapgclfnlipaaWays
import Derived.Test.YtmlapgclfnlipaaSays
import Derived.Test.YtmlapgclfnlipaaPAx1
import Derived.Test.YtmlapgclfnlipaaPAx4
import Derived.Test.YtmlapgclfnlipaaSaysShapeEnds
set_option linter.unusedVariables false
set_option linter.unusedSimpArgs false
namespace Go.Proofs.Ytmlapgclfnlipaa.Pure
open Go.RowKit Go.Proofs.Ytmlapgclfnlipaa.PA Go.Proofs.YtmlapgclfnlipaaW.PrintWords Go.Proofs.YtmlapgclfnlipaaW.PrintLast
theorem way_ : ∀ q : Fin 16, ∀ i : Fin 4, i.val < (pth (q.val : Int)).length → 1 ≤ rd (pth (q.val : Int)) (i.val : Int) ∧ rd (pth (q.val : Int)) (i.val : Int) < 16 ∧ lv (rd (pth (q.val : Int)) (i.val : Int)) = ((pth (q.val : Int)).length : Int) - 1 - (i.val : Int) ∧ (i.val = 0 → rd (pth (q.val : Int)) (i.val : Int) = (q.val : Int)) ∧ (1 ≤ i.val → shape_Parent.f (rd (pth (q.val : Int)) ((i.val : Int) - 1)) = some (rd (pth (q.val : Int)) (i.val : Int))) ∧ ((i.val : Int) = ((pth (q.val : Int)).length : Int) - 1 → rd (pth (q.val : Int)) (i.val : Int) = 1) := by decide +kernel
theorem way_eq (q : Int) (hq : 0 ≤ q ∧ q < 16) (i : Fin 4) (hi : i.val < (pth q).length) : 1 ≤ rd (pth q) (i.val : Int) ∧ rd (pth q) (i.val : Int) < 16 ∧ lv (rd (pth q) (i.val : Int)) = ((pth q).length : Int) - 1 - (i.val : Int) ∧ (i.val = 0 → rd (pth q) (i.val : Int) = q) ∧ (1 ≤ i.val → shape_Parent.f (rd (pth q) ((i.val : Int) - 1)) = some (rd (pth q) (i.val : Int))) ∧ ((i.val : Int) = ((pth q).length : Int) - 1 → rd (pth q) (i.val : Int) = 1) :=
  fin16 (P := fun q => ∀ i : Fin 4, i.val < (pth q).length → 1 ≤ rd (pth q) (i.val : Int) ∧ rd (pth q) (i.val : Int) < 16 ∧ lv (rd (pth q) (i.val : Int)) = ((pth q).length : Int) - 1 - (i.val : Int) ∧ (i.val = 0 → rd (pth q) (i.val : Int) = q) ∧ (1 ≤ i.val → shape_Parent.f (rd (pth q) ((i.val : Int) - 1)) = some (rd (pth q) (i.val : Int))) ∧ ((i.val : Int) = ((pth q).length : Int) - 1 → rd (pth q) (i.val : Int) = 1)) way_ q hq i hi
set_option maxHeartbeats 4000000 in
theorem ends_ (d x1 : Int) (hd : 0 ≤ d ∧ d ≤ 4) (h1 : 0 ≤ x1 ∧ x1 ≤ 65535) : ∀ (n i k : Nat), (i : Int) + n = d → n + 5 ≤ k → millstreamlaw07_ShapeEnds.l0 k x1 d (pth (lf d x1)) i = some true
  | 0, i, k, hi, hk => by
    obtain ⟨k, rfl⟩ : ∃ y, k = y + 1 := ⟨k - 1, by omega⟩
    simp only [millstreamlaw07_ShapeEnds.l0]
    rw [if_neg (by omega)]
  | n + 1, i, k, hi, hk => by
    obtain ⟨k, rfl⟩ : ∃ y, k = y + 1 := ⟨k - 1, by omega⟩
    have hl := lf_len d x1 hd
    have e1 : wrap64 ((i : Int) + 1) = ((i + 1 : Nat) : Int) := by rw [w64 (by omega) (by omega)]; omega
    have e2 : wrap64 (d - 1) = d - 1 := w64 (by omega) (by omega)
    have e3 : wrap64 (d - 1 - (i : Int)) = d - 1 - i := w64 (by omega) (by omega)
    have W := way_eq (lf d x1) (lf_in d x1 hd) ⟨i, by omega⟩ (by show i < (pth (lf d x1)).length; omega)
    rw [hl] at W
    obtain ⟨p, hp⟩ : ∃ p, pth (lf d x1) = p := ⟨_, rfl⟩
    obtain ⟨q, hq⟩ : ∃ q, lf d x1 = q := ⟨_, rfl⟩
    obtain ⟨o1, o2, o3, o4, o5, o6⟩ : 1 ≤ rd (pth (lf d x1)) (i : Int) ∧ rd (pth (lf d x1)) (i : Int) < 16 ∧ lv (rd (pth (lf d x1)) (i : Int)) = d - 1 - (i : Int) ∧ (i = 0 → rd (pth (lf d x1)) (i : Int) = lf d x1) ∧ (1 ≤ i → shape_Parent.f (rd (pth (lf d x1)) ((i : Int) - 1)) = some (rd (pth (lf d x1)) (i : Int))) ∧ ((i : Int) = d - 1 → rd (pth (lf d x1)) (i : Int) = 1) := W
    have H := ends_ d x1 hd h1 n (i + 1) k (by omega) (by omega)
    rw [hp] at o1 o2 o3 o4 o5 o6 hl H ⊢
    rw [hq] at o4
    simp only [millstreamlaw07_ShapeEnds.l0]
    rw [if_pos (by omega), if_pos (by omega), if_pos (by omega), level_eq k (by omega) (rd p i) (by omega) (by omega)]
    simp only [Option.bind_some]
    rw [e1, e2, e3, if_pos o3]
    have T : (if (i : Int) = d - 1 then (if rd p (i : Int) = 1 then millstreamlaw07_ShapeEnds.l0 k x1 d p ((i + 1 : Nat) : Int) else some false) else millstreamlaw07_ShapeEnds.l0 k x1 d p ((i + 1 : Nat) : Int)) = some true := by
      by_cases a : (i : Int) = d - 1
      · rw [if_pos a, if_pos (o6 a)]; exact H
      · rw [if_neg a]; exact H
    by_cases z : (i : Int) = 0
    · rw [if_pos z, w64 (x := x1) (by omega) (by omega), leaf_eq d x1 hd (by omega), hq]
      simp only [Option.bind_some]
      rw [if_pos (o4 (by omega)), if_neg (by omega)]
      exact T
    · have e4 : wrap64 ((i : Int) - 1) = (i : Int) - 1 := w64 (by omega) (by omega)
      rw [if_neg z, if_pos (by omega), e4, if_pos (by omega), if_pos (by omega), o5 (by omega)]
      simp only [Option.bind_some]
      rw [if_pos (by trivial)]
      exact T
theorem ShapeEnds : millstreamlaw07_ShapeEnds.Claim := by
  intro x0 x1 h0 h1
  refine ⟨100, ?_⟩
  unfold millstreamlaw07_ShapeEnds.f
  unfold Inu8 at h0
  unfold Inu16 at h1
  rw [w64 (x := x0) (by omega) (by omega), w64 (x := x1) (by omega) (by omega)]
  obtain ⟨d, hd⟩ : ∃ d, Int.tmod x0 5 = d := ⟨_, rfl⟩
  have hd5 : 0 ≤ d ∧ d ≤ 4 := by
    rw [Int.tmod_eq_emod_of_nonneg (by omega)] at hd
    omega
  rw [hd, path_eq d x1 hd5 (by omega)]
  simp only [Option.bind_some]
  rw [if_pos (lf_len d x1 hd5), shown_k 100 (by omega)]
  simp only [Option.bind_some, Bool.not_true, millstreamlaw07_ShapeEnds.j0]
  rw [if_neg (by simp)]
  exact ends_ d x1 hd5 (by omega) d.toNat 0 99 (by omega) (by omega)
end Go.Proofs.Ytmlapgclfnlipaa.Pure
