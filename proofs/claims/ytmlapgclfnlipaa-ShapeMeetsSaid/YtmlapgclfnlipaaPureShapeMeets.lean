/- ShapeMeets: ways are one above where they meet, and apart below. Conditions: none. -/
import Derived.Test.YtmlapgclfnlipaaWays
import Derived.Test.YtmlapgclfnlipaaSays
import Derived.Test.YtmlapgclfnlipaaPAx2
import Derived.Test.YtmlapgclfnlipaaPAx5
import Derived.Test.YtmlapgclfnlipaaSaysShapeMeets
set_option linter.unusedVariables false
set_option linter.unusedSimpArgs false
namespace Go.Proofs.Ytmlapgclfnlipaa.Pure
open Go.RowKit Go.Proofs.Ytmlapgclfnlipaa.PA Go.Proofs.YtmlapgclfnlipaaW.PrintWords Go.Proofs.YtmlapgclfnlipaaW.PrintLast
/-- What is asked at the i-th node of two ways. -/
def okAt (q r : Int) (i : Nat) : Bool := ((rd (pth q) i == rd (pth r) i) != decide (lv (rd (pth q) i) ≤ lv (mtl (pth q) r))) == false && decide (0 ≤ rd (pth q) i) && decide (rd (pth q) i < 16)
theorem meets_ : ∀ q r : Fin 16, 1 ≤ (q.val : Int) → (pth (q.val : Int)).length = (pth (r.val : Int)).length → mtl (pth (q.val : Int)) (r.val : Int) = mtl (pth (r.val : Int)) (q.val : Int) ∧ 1 ≤ mtl (pth (q.val : Int)) (r.val : Int) ∧ mtl (pth (q.val : Int)) (r.val : Int) < 16 ∧ (∀ i : Fin 4, i.val < (pth (q.val : Int)).length → okAt (q.val : Int) (r.val : Int) i.val = true) ∧ ((q.val : Int) = (r.val : Int) → mtl (pth (q.val : Int)) (r.val : Int) = (q.val : Int)) := by decide +kernel
theorem meets_eq (q r : Int) (hq : 0 ≤ q ∧ q < 16) (hr : 0 ≤ r ∧ r < 16) (h1 : 1 ≤ q) (hl : (pth q).length = (pth r).length) : mtl (pth q) r = mtl (pth r) q ∧ 1 ≤ mtl (pth q) r ∧ mtl (pth q) r < 16 ∧ (∀ i : Fin 4, i.val < (pth q).length → okAt q r i.val = true) ∧ (q = r → mtl (pth q) r = q) :=
  two16 (P := fun q r => 1 ≤ q → (pth q).length = (pth r).length → mtl (pth q) r = mtl (pth r) q ∧ 1 ≤ mtl (pth q) r ∧ mtl (pth q) r < 16 ∧ (∀ i : Fin 4, i.val < (pth q).length → okAt q r i.val = true) ∧ (q = r → mtl (pth q) r = q)) meets_ q r hq hr h1 hl
theorem loop_ (d x1 x2 : Int) (hd : 1 ≤ d ∧ d ≤ 4) (h1 : 0 ≤ x1 ∧ x1 ≤ 65535) (h2 : 0 ≤ x2 ∧ x2 ≤ 65535) (q r : Int) (hq0 : lf d x1 = q) (hr0 : lf d x2 = r) (hq : 0 ≤ q ∧ q < 16) (hr : 0 ≤ r ∧ r < 16) (hq1 : 1 ≤ q) (hlq : ((pth q).length : Int) = d) (hlr : ((pth r).length : Int) = d) : ∀ (n i k : Nat), (i : Int) + n = d → n + 5 ≤ k → millstreamlaw07_ShapeMeets.l0 k x1 x2 d (mtl (pth q) r) (pth q) (pth r) i = some true
  | 0, i, k, hi, hk => by
    obtain ⟨k, rfl⟩ : ∃ y, k = y + 1 := ⟨k - 1, by omega⟩
    obtain ⟨_, _, _, _, M⟩ := meets_eq q r hq hr hq1 (by omega)
    simp only [millstreamlaw07_ShapeMeets.l0]
    rw [if_neg (by omega), w64 (x := x1) (by omega) (by omega), w64 (x := x2) (by omega) (by omega), Int.tdiv_eq_ediv_of_nonneg h1.1, Int.tdiv_eq_ediv_of_nonneg h2.1, w64 (x := x1 / 2) (by omega) (by omega), w64 (x := x2 / 2) (by omega) (by omega)]
    by_cases a : x1 / 2 = x2 / 2
    · rw [if_pos a, leaf_eq d x1 (by omega) (by omega), hq0]
      simp only [Option.bind_some]
      have : q = r := by rw [← hq0, ← hr0]; unfold lf; rw [a]
      rw [M this]
      simp
    · rw [if_neg a]
  | n + 1, i, k, hi, hk => by
    obtain ⟨k, rfl⟩ : ∃ y, k = y + 1 := ⟨k - 1, by omega⟩
    obtain ⟨_, m1, m2, O, _⟩ := meets_eq q r hq hr hq1 (by omega)
    have o := O ⟨i, by omega⟩ (by show i < _; omega)
    simp only [okAt, Bool.and_eq_true, beq_iff_eq, decide_eq_true_eq] at o
    obtain ⟨⟨o1, o2⟩, o3⟩ := o
    simp only [millstreamlaw07_ShapeMeets.l0]
    rw [if_pos (by omega), if_pos (by omega), if_pos (by omega), if_pos (by omega), level_eq k (by omega) (rd (pth q) i) (by omega) (by omega), level_eq k (by omega) (mtl (pth q) r) (by omega) (by omega)]
    simp only [Option.bind_some]
    rw [o1, if_neg (by simp), w64 (by omega) (by omega)]
    exact loop_ d x1 x2 hd h1 h2 q r hq0 hr0 hq hr hq1 hlq hlr n (i + 1) k (by omega) (by omega)
theorem ShapeMeets : millstreamlaw07_ShapeMeets.Claim := by
  intro x0 x1 x2 h0 h1 h2
  refine ⟨100, ?_⟩
  unfold millstreamlaw07_ShapeMeets.f
  unfold Inu8 at h0
  unfold Inu16 at h1 h2
  rw [w64 (x := x0) (by omega) (by omega), Int.tmod_eq_emod_of_nonneg (by omega), w64 (x := 1 + x0 % 4) (by omega) (by omega), w64 (x := x1) (by omega) (by omega), w64 (x := x2) (by omega) (by omega)]
  obtain ⟨d, hd⟩ : ∃ d, 1 + x0 % 4 = d := ⟨_, rfl⟩
  rw [hd]
  have hd4 : 1 ≤ d ∧ d ≤ 4 := by omega
  have hd0 : 0 ≤ d ∧ d ≤ 4 := by omega
  have hq := lf_in d x1 hd0
  have hr := lf_in d x2 hd0
  have hlq := lf_len d x1 hd0
  have hlr := lf_len d x2 hd0
  have hh : 1 ≤ half d := by unfold half; (repeat' split) <;> omega
  have hq1 : 1 ≤ lf d x1 := by have := lf_low d x1 hd4; omega
  obtain ⟨m1, m2, m3, _, _⟩ := meets_eq _ _ hq hr hq1 (by omega)
  rw [meet_eq d x1 x2 hd0 (by omega) (by omega), path_eq d x1 hd0 (by omega), path_eq d x2 hd0 (by omega), meet_eq d x2 x1 hd0 (by omega) (by omega)]
  simp only [Option.bind_some]
  rw [if_pos m1, if_pos hlq, if_pos hlr, if_neg (by omega), shown_k 100 (by omega)]
  simp only [Option.bind_some, Bool.not_true, millstreamlaw07_ShapeMeets.j0]
  rw [if_neg (by simp)]
  exact loop_ d x1 x2 hd4 (by omega) (by omega) _ _ rfl rfl hq hr hq1 hlq hlr d.toNat 0 99 (by omega) (by omega)
end Go.Proofs.Ytmlapgclfnlipaa.Pure
