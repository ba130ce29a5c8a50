/- What an op does to a cell: the program's Apply and the reference's are one function, told in whole numbers. Conditions: the numbers are of 64 bits. -/
import Derived.Test.YtokcblafahiphaaSays
set_option linter.unusedVariables false
set_option linter.unusedSimpArgs false
namespace Go.Proofs.Ytokcblafahiphaa.PA
open Go.RowKit Go.Proofs.YtokcblafahiphaaW.PrintWords Go.Proofs.YtokcblafahiphaaW.PrintLast Go.Proofs.YtokcblafahiphaaW.PrintMore
theorem u64w (x : Int) : IntKind.u64.wrap x = x % 18446744073709551616 := by
  simp [IntKind.wrap, IntKind.bits, IntKind.signed]
theorem i64w (x : Int) : IntKind.i64.wrap x = wrap64 x := by
  have e : IntKind.i64.wrap x = if x % 18446744073709551616 ≥ 9223372036854775808 then x % 18446744073709551616 - 18446744073709551616 else x % 18446744073709551616 := by simp [IntKind.wrap, IntKind.bits, IntKind.signed]
  rw [e]
  unfold wrap64
  split <;> omega
theorem w64_id {x : Int} (h : Ini64 x) : wrap64 x = x := by unfold Ini64 at h; unfold wrap64; omega
theorem w64_in (x : Int) : Ini64 (wrap64 x) := by unfold Ini64 wrap64; omega
theorem bits_in (op : BinOp) (x y : Int) : Ini64 (Go.bits op .i64 x y) := by
  unfold Go.bits
  rw [i64w]
  exact w64_in _

/-- What op (tag, v) makes of x, and whether it is done. -/
def ap (tag v x lo hi : Int) : Int × Bool :=
  if tag = 1 then (wrap64 (x + v), true)
  else if tag = 2 then (wrap64 (x - v), true)
  else if tag = 3 then (Go.bits .or .i64 x v, true)
  else if tag = 4 then (Go.bits .and .i64 x v, true)
  else if tag = 5 then (if x ≤ v then v else x, true)
  else if tag = 6 then (if x ≤ v then x else v, true)
  else if tag = 7 then (v, true)
  else if tag = 8 then (if lo ≤ x + v ∧ x + v ≤ hi then (x + v, true) else (x, false))
  else if tag = 9 then (if v < 0 ∨ x < lo then (x, false) else if x - v < lo then (lo, true) else (x - v, true))
  else (x, false)
theorem ap_in {tag v x lo hi : Int} (hv : Ini64 v) (hx : Ini64 x) (hlo : Ini64 lo) (hhi : Ini64 hi) : Ini64 (ap tag v x lo hi).1 := by
  unfold ap
  split
  · exact w64_in (x + v)
  split
  · exact w64_in (x - v)
  split
  · exact bits_in .or x v
  split
  · exact bits_in .and x v
  split
  · split
    · exact hv
    · exact hx
  split
  · split
    · exact hx
    · exact hv
  split
  · exact hv
  split
  · split
    · show Ini64 (x + v)
      unfold Ini64 at *; omega
    · exact hx
  split
  · split
    · exact hx
    · split
      · exact hlo
      · show Ini64 (x - v)
        unfold Ini64 at *; omega
  exact hx
theorem oper_beyond_eq {x v lo hi : Int} (hv : Ini64 v) (hx : Ini64 x) (hlo : Ini64 lo) (hhi : Ini64 hi) : oper_beyond.f x v lo hi = some (decide (¬ (lo ≤ x + v ∧ x + v ≤ hi))) := by
  unfold Ini64 at *
  have e : ∀ (p q : Prop) [Decidable p] [Decidable q], (p ↔ q) → some (decide p) = some (decide q) := fun p q _ _ h => by rw [decide_eq_decide.2 h]
  have et : ∀ (q : Prop) [Decidable q], q → some true = some (decide q) := fun q _ h => by rw [decide_eq_true h]
  by_cases ho : -9223372036854775808 ≤ x + v ∧ x + v ≤ 9223372036854775807
  · have hw : wrap64 (x + v) = x + v := by unfold wrap64; omega
    unfold oper_beyond.f
    rw [hw]
    by_cases h0 : v ≥ 0
    · rw [if_pos h0, if_pos (by omega)]
      by_cases hl : x + v < lo
      · rw [if_pos hl]; apply et; omega
      · rw [if_neg hl]; apply e; omega
    · rw [if_neg h0, if_pos (by omega), if_pos (by omega)]
      by_cases hl : x + v < lo
      · rw [if_pos hl]; apply et; omega
      · rw [if_neg hl]; apply e; omega
  · have hr : some true = some (decide (¬ (lo ≤ x + v ∧ x + v ≤ hi))) := by apply et; omega
    rw [← hr]
    unfold oper_beyond.f
    by_cases h0 : v ≥ 0
    · have hw : ¬ wrap64 (x + v) ≥ x := by unfold wrap64; omega
      rw [if_pos h0, if_neg hw, if_neg (by omega)]
    · have hw : ¬ wrap64 (x + v) < x := by unfold wrap64; omega
      rw [if_neg h0, if_pos (by omega), if_neg hw]
/-- A take. -/
def tk (v x lo : Int) : Int × Bool := if v < 0 ∨ x < lo then (x, false) else if x - v < lo then (lo, true) else (x - v, true)
theorem oper_j0 {tag v x lo : Int} (k : Nat) (hv : Ini64 v) (hx : Ini64 x) (hlo : Ini64 lo) (h0 : ¬ v < 0) : oper_Apply.j0 (k + 2) x lo (decide (x < lo)) tag v = some (tk v x lo) := by
  unfold Ini64 at *
  simp only [oper_Apply.j0]
  by_cases hl : x < lo
  · rw [if_pos (by simpa using hl), show tk v x lo = (x, false) from if_pos (Or.inr hl)]
  rw [if_neg (by simpa using hl)]
  have hr : tk v x lo = if x - v < lo then (lo, true) else (x - v, true) := if_neg (by omega)
  rw [hr]
  by_cases ho : -9223372036854775808 ≤ x - v
  · have e : wrap64 (x - v) = x - v := by unfold wrap64; omega
    rw [e, if_pos (by omega)]
    simp only [oper_Apply.j1]
    by_cases hg : x - v < lo
    · rw [if_neg (by simp; omega), if_pos hg]
    · rw [if_pos (by simp; omega), if_neg hg]
  · have e : ¬ wrap64 (x - v) ≤ x := by unfold wrap64; omega
    rw [if_neg e]
    simp only [oper_Apply.j1]
    rw [if_neg (by simp), if_pos (by omega)]
theorem ref_j0 {tag v x lo : Int} (k : Nat) (hv : Ini64 v) (hx : Ini64 x) (hlo : Ini64 lo) (h0 : ¬ v < 0) : millstreamref01_Apply.j0 (k + 1) x lo (decide (x < lo)) tag v = some (tk v x lo) := by
  unfold Ini64 at *
  simp only [millstreamref01_Apply.j0]
  by_cases hl : x < lo
  · rw [if_pos (by simpa using hl), show tk v x lo = (x, false) from if_pos (Or.inr hl)]
  rw [if_neg (by simpa using hl)]
  have hr : tk v x lo = if x - v < lo then (lo, true) else (x - v, true) := if_neg (by omega)
  rw [hr]
  simp only [u64w]
  by_cases hg : x - v < lo
  · rw [if_pos hg, if_pos (by omega)]
  · rw [if_neg hg]
    by_cases he : x - v = lo
    · rw [if_pos (by omega), he]
    · rw [if_neg (by omega)]; congr 2; unfold wrap64; omega
theorem oper_Apply_eq {tag v x lo hi : Int} (k : Nat) (hk : 2 ≤ k) (hv : Ini64 v) (hx : Ini64 x) (hlo : Ini64 lo) (hhi : Ini64 hi) : oper_Apply.f k tag v x lo hi = some (ap tag v x lo hi) := by
  obtain ⟨k, rfl⟩ : ∃ m, k = m + 2 := ⟨k - 2, by omega⟩
  unfold oper_Apply.f ap
  by_cases h2 : tag = 2
  · rw [if_pos h2, if_neg (by omega), if_pos h2]; congr 2; unfold Ini64 at *; unfold wrap64; omega
  by_cases h1 : tag = 1
  · rw [if_neg h2, if_pos h1, if_pos h1]
  rw [if_neg h2, if_neg h1, if_neg h1, if_neg h2]
  by_cases h3 : tag = 3
  · rw [if_pos h3, if_pos h3]
  rw [if_neg h3, if_neg h3]
  by_cases h4 : tag = 4
  · rw [if_pos h4, if_pos h4]
  rw [if_neg h4, if_neg h4]
  by_cases h5 : tag = 5
  · rw [if_pos h5, if_pos h5]; congr 2; unfold mx; split <;> split <;> omega
  rw [if_neg h5, if_neg h5]
  by_cases h6 : tag = 6
  · rw [if_pos h6, if_pos h6]; congr 2; unfold mn; split <;> split <;> omega
  rw [if_neg h6, if_neg h6]
  by_cases h7 : tag = 7
  · rw [if_pos h7, if_pos h7]
  rw [if_neg h7, if_neg h7]
  by_cases h9 : tag = 9
  · rw [if_pos h9, if_neg (by omega : ¬ tag = 8), if_pos h9]
    by_cases hv0 : v < 0
    · rw [if_pos hv0, if_pos (Or.inl hv0)]; simp only [oper_Apply.j0]; rfl
    · rw [if_neg hv0]; exact oper_j0 k hv hx hlo hv0
  rw [if_neg h9]
  by_cases h8 : tag = 8
  · rw [if_pos h8, if_pos h8, oper_beyond_eq hv hx hlo hhi]
    simp only [Option.bind_some]
    by_cases hb : lo ≤ x + v ∧ x + v ≤ hi
    · rw [if_neg (by simp [hb]), if_pos hb]; unfold Ini64 at *; congr 2; unfold wrap64; omega
    · rw [if_pos (by rw [decide_eq_true_eq]; exact hb), if_neg hb]
  rw [if_neg h8, if_neg h8, if_neg h9]
theorem ref_Apply_eq {tag v x lo hi : Int} (k : Nat) (hk : 1 ≤ k) (hv : Ini64 v) (hx : Ini64 x) (hlo : Ini64 lo) (hhi : Ini64 hi) : millstreamref01_Apply.f k tag v x lo hi = some (ap tag v x lo hi) := by
  obtain ⟨k, rfl⟩ : ∃ m, k = m + 1 := ⟨k - 1, by omega⟩
  unfold millstreamref01_Apply.f ap
  by_cases h1 : tag = 1
  · rw [if_pos h1, if_pos h1]
  rw [if_neg h1, if_neg h1]
  by_cases h2 : tag = 2
  · rw [if_pos h2, if_pos h2]
  rw [if_neg h2, if_neg h2]
  by_cases h3 : tag = 3
  · rw [if_pos h3, if_pos h3]
  rw [if_neg h3, if_neg h3]
  by_cases h4 : tag = 4
  · rw [if_pos h4, if_pos h4]
  rw [if_neg h4, if_neg h4]
  by_cases h5 : tag = 5
  · rw [if_pos h5, if_pos h5]; congr 2; unfold mx; split <;> split <;> omega
  rw [if_neg h5, if_neg h5]
  by_cases h6 : tag = 6
  · rw [if_pos h6, if_pos h6]; congr 2; unfold mn; split <;> split <;> omega
  rw [if_neg h6, if_neg h6]
  by_cases h7 : tag = 7
  · rw [if_pos h7, if_pos h7]
  rw [if_neg h7, if_neg h7]
  by_cases h8 : tag = 8
  · rw [if_pos h8, if_pos h8]
    unfold millstreamref01_sum.f
    simp only [Option.bind_some]
    unfold Ini64 at *
    by_cases ho : -9223372036854775808 ≤ x + v ∧ x + v ≤ 9223372036854775807
    · have e : wrap64 (x + v) = x + v := by unfold wrap64; omega
      rw [e, if_pos (by simp only [beq_iff_eq]; apply decide_eq_decide.2; omega)]
      by_cases hb : lo ≤ x + v ∧ x + v ≤ hi
      · rw [if_neg (by omega), if_neg (by omega), if_pos hb]
      · rw [if_neg hb]
        by_cases hl : x + v < lo
        · rw [if_pos hl]
        · rw [if_neg hl, if_pos (by omega)]
    · rw [if_neg (by omega : ¬ (lo ≤ x + v ∧ x + v ≤ hi)), if_neg]
      simp only [beq_iff_eq]
      intro h
      have := decide_eq_decide.1 h
      unfold wrap64 at this
      omega
  rw [if_neg h8, if_neg h8]
  by_cases h9 : tag = 9
  · rw [if_pos h9, if_pos h9]
    by_cases hv0 : v < 0
    · rw [if_pos hv0, if_pos (Or.inl hv0)]; simp only [millstreamref01_Apply.j0]; rfl
    · rw [if_neg hv0]; exact ref_j0 k hv hx hlo hv0
  rw [if_neg h9, if_neg h9]
end Go.Proofs.Ytokcblafahiphaa.PA
