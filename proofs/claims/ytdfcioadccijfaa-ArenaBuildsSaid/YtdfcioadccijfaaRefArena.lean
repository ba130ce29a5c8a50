/- Places of an arena, the reference's. Conditions: the config may be. -/
import Derived.Test.YtdfcioadccijfaaArena
import Derived.Test.YtdfcioadccijfaaSays
import Derived.Test.YtdfcioadccijfaaPAx4
import Derived.Test.YtdfcioadccijfaaPAx5
import Derived.Test.YtdfcioadccijfaaPAx6
set_option linter.unusedVariables false
set_option linter.unusedSimpArgs false
namespace Go.Proofs.Ytdfcioadccijfaa.PA
open Go.RowKit Go.Proofs.YtdfcioadccijfaaW.PrintWords Go.Proofs.YtdfcioadccijfaaW.PrintLast Go.Proofs.YtdfcioadccijfaaW.PrintMore
section
variable {a b c d e f g h : Int} {i : Bool} {j k l : Int}
theorem ref_nodes (m : MayBe a b c d e f g h i j k l) (q : Nat) (hq : 6 ≤ q) : millstreamref06_Nodes.f q a b c d e f g h i j k l = some (pw d - 1) := by
  obtain ⟨q, rfl⟩ : ∃ n, q = n + 6 := ⟨q - 6, by omega⟩
  have hd : d = 0 ∨ d = 1 ∨ d = 2 ∨ d = 3 ∨ d = 4 := by have := m.de; omega
  have e0 : wrap64 1 = 1 := by decide +kernel
  have e1 : wrap64 2 = 2 := by decide +kernel
  have e2 : wrap64 3 = 3 := by decide +kernel
  have e3 : wrap64 4 = 4 := by decide +kernel
  have e4 : wrap64 8 = 8 := by decide +kernel
  have e5 : wrap64 16 = 16 := by decide +kernel
  have e6 : wrap64 7 = 7 := by decide +kernel
  have e7 : wrap64 15 = 15 := by decide +kernel
  have e8 : wrap64 0 = 0 := by decide +kernel
  unfold millstreamref06_Nodes.f
  rcases hd with rfl | rfl | rfl | rfl | rfl <;> simp [millstreamref06_Nodes.l0, pw, e0, e1, e2, e3, e4, e5, e6, e7, e8]
theorem ref_block (m : MayBe a b c d e f g h i j k l) (q : Nat) (hq : 6 ≤ q) : millstreamref06_block.f q a b c d e f g h i j k l = some (blk d e f) := by
  have h1 := pw_in d; have h2 := le_in m.la m.wi
  unfold millstreamref06_block.f
  rw [ref_nodes m q hq]
  simp only [Option.bind_some]
  rw [w64 (x := 1 + (pw d - 1)) (by omega) (by omega), w64 (x := e * f) (by omega) (by omega), w64 (by omega) (by omega)]
  unfold blk
  congr 1
  omega
theorem ref_size (m : MayBe a b c d e f g h i j k l) (q : Nat) (hq : 6 ≤ q) : millstreamref06_Size.f q a b c d e f g h i j k l = some (b * blk d e f + 2 * a) := by
  have h3 := blk_in (d := d) m.la m.wi
  have h4 : 0 ≤ b * blk d e f ∧ b * blk d e f ≤ 160 := mul_in (n := 0) (by have := m.it; omega) h3
  have h5 := m.t
  unfold millstreamref06_Size.f
  rw [ref_block m q hq]
  simp only [Option.bind_some]
  rw [w64 (x := b * blk d e f) (by omega) (by omega), w64 (x := 2 * a) (by omega) (by omega), w64 (by omega) (by omega)]
theorem ref_cell (m : MayBe a b c d e f g h i j k l) (q : Nat) (hq : 6 ≤ q) (x : Int) : millstreamref06_Cell.f q a b c d e f g h i j k l x = some (if x < 0 ∨ x ≥ b then -1 else x * blk d e f) := by
  unfold millstreamref06_Cell.f
  by_cases h1 : x < 0
  · rw [if_pos h1, if_pos (Or.inl h1)]
  rw [if_neg h1]
  by_cases h2 : x ≥ b
  · rw [if_pos h2, if_pos (Or.inr h2)]
  have h3 := blk_in (d := d) m.la m.wi
  have h4 : 0 ≤ x * blk d e f ∧ x * blk d e f ≤ 160 := mul_in (n := 0) (by have := m.it; omega) h3
  rw [if_neg h2, if_neg (by omega), ref_block m q hq]
  simp only [Option.bind_some]
  rw [w64 (by omega) (by omega)]
theorem ref_node (m : MayBe a b c d e f g h i j k l) (q : Nat) (hq : 6 ≤ q) (x n : Int) : millstreamref06_Node.f q a b c d e f g h i j k l x n = some (if x < 0 ∨ x ≥ b ∨ n < 1 ∨ n ≥ pw d then -1 else x * blk d e f + n) := by
  unfold millstreamref06_Node.f
  by_cases h1 : x < 0
  · rw [if_pos h1, if_pos (by omega)]
  rw [if_neg h1]
  by_cases h2 : x ≥ b
  · rw [if_pos h2, if_pos (by omega)]
  rw [if_neg h2]
  by_cases h3 : n < 1
  · rw [if_pos h3, if_pos (by omega)]
  rw [if_neg h3, ref_nodes m q hq]
  simp only [Option.bind_some]
  by_cases h4 : n > pw d - 1
  · rw [if_pos h4, if_pos (by omega)]
  have h0 := pw_in d
  have h5 := blk_in (d := d) m.la m.wi
  have h6 : 0 ≤ x * blk d e f ∧ x * blk d e f ≤ 160 := mul_in (n := 0) (by have := m.it; omega) h5
  rw [if_neg h4, if_neg (by omega), ref_block m q hq]
  simp only [Option.bind_some]
  rw [w64 (x := x * blk d e f) (by omega) (by omega), w64 (by omega) (by omega)]
theorem ref_slot_j (m : MayBe a b c d e f g h i j k l) (q : Nat) (hq : 6 ≤ q) (x y n : Int) (hx : ¬ (x < 0 ∨ x ≥ b ∨ y < 1 ∨ y > e ∨ n < 0 ∨ n ≥ f)) : millstreamref06_Slot.j0 (q + 1) x y n false a b c d e f g h i j k l = some (x * blk d e f + pw d + (y - 1) * f + n) := by
  have h0 := pw_in d
  have h5 := blk_in (d := d) m.la m.wi
  have hl := m.la
  have hw := m.wi
  have h6 : 0 ≤ x * blk d e f ∧ x * blk d e f ≤ 160 := mul_in (n := 0) (by have := m.it; omega) h5
  have h7 : 0 ≤ (y - 1) * f ∧ (y - 1) * f ≤ 24 := le_in (by omega) m.wi
  simp only [millstreamref06_Slot.j0]
  rw [if_neg (by simp), ref_block m q hq, ref_nodes m q hq]
  simp only [Option.bind_some]
  rw [w64 (x := x * blk d e f) (by omega) (by omega), w64 (x := x * blk d e f + 1) (by omega) (by omega), w64 (x := x * blk d e f + 1 + (pw d - 1)) (by omega) (by omega), w64 (x := y - 1) (by omega) (by omega), w64 (x := (y - 1) * f) (by omega) (by omega), w64 (x := x * blk d e f + 1 + (pw d - 1) + (y - 1) * f) (by omega) (by omega), w64 (by omega) (by omega)]
  congr 1
  omega
theorem ref_slot (m : MayBe a b c d e f g h i j k l) (q : Nat) (hq : 7 ≤ q) (x y n : Int) : millstreamref06_Slot.f q a b c d e f g h i j k l x y n = some (if x < 0 ∨ x ≥ b ∨ y < 1 ∨ y > e ∨ n < 0 ∨ n ≥ f then -1 else x * blk d e f + pw d + (y - 1) * f + n) := by
  obtain ⟨q, rfl⟩ : ∃ n, q = n + 1 := ⟨q - 1, by omega⟩
  have ht : millstreamref06_Slot.j0 (q + 1) x y n true a b c d e f g h i j k l = some (-1) := by simp only [millstreamref06_Slot.j0]; rfl
  unfold millstreamref06_Slot.f
  by_cases h1 : x < 0
  · rw [if_pos h1, if_pos (by omega), ht]
  rw [if_neg h1]
  by_cases h2 : x ≥ b
  · rw [if_pos h2, if_pos (by omega), ht]
  rw [if_neg h2]
  by_cases h3 : y < 1
  · rw [if_pos h3, if_pos (by omega), ht]
  rw [if_neg h3]
  by_cases h4 : y > e
  · rw [if_pos h4, if_pos (by omega), ht]
  rw [if_neg h4]
  by_cases h5 : n < 0
  · rw [if_pos h5, if_pos (by omega), ht]
  rw [if_neg h5]
  by_cases h6 : n ≥ f
  · rw [decide_eq_true h6, if_pos (by omega), ht]
  rw [decide_eq_false h6, if_neg (by omega)]
  exact ref_slot_j m q (by omega) x y n (by omega)
theorem ref_line (m : MayBe a b c d e f g h i j k l) (q : Nat) (hq : 6 ≤ q) (t : Int) : millstreamref06_Line.f q a b c d e f g h i j k l t = some (if t < 0 ∨ t ≥ a then -1 else b * blk d e f + 2 * t) := by
  unfold millstreamref06_Line.f
  by_cases h1 : t < 0
  · rw [if_pos h1, if_pos (Or.inl h1)]
  rw [if_neg h1]
  by_cases h2 : t ≥ a
  · rw [if_pos h2, if_pos (Or.inr h2)]
  have h3 := blk_in (d := d) m.la m.wi
  have h4 : 0 ≤ b * blk d e f ∧ b * blk d e f ≤ 160 := mul_in (n := 0) (by have := m.it; omega) h3
  have h5 := m.t
  rw [if_neg h2, if_neg (by omega), ref_block m q hq]
  simp only [Option.bind_some]
  rw [w64 (x := b * blk d e f) (by omega) (by omega), w64 (x := 2 * t) (by omega) (by omega), w64 (by omega) (by omega)]
theorem ref_result (m : MayBe a b c d e f g h i j k l) (q : Nat) (hq : 6 ≤ q) (t : Int) : millstreamref06_Result.f q a b c d e f g h i j k l t = some (if t < 0 ∨ t ≥ a then -1 else b * blk d e f + 2 * t + 1) := by
  unfold millstreamref06_Result.f
  by_cases h1 : t < 0
  · rw [if_pos h1, if_pos (Or.inl h1)]
  rw [if_neg h1]
  by_cases h2 : t ≥ a
  · rw [if_pos h2, if_pos (Or.inr h2)]
  have h3 := blk_in (d := d) m.la m.wi
  have h4 : 0 ≤ b * blk d e f ∧ b * blk d e f ≤ 160 := mul_in (n := 0) (by have := m.it; omega) h3
  have h5 := m.t
  rw [if_neg h2, if_neg (by omega), ref_block m q hq]
  simp only [Option.bind_some]
  rw [w64 (x := b * blk d e f) (by omega) (by omega), w64 (x := 2 * t) (by omega) (by omega), w64 (x := b * blk d e f + 2 * t) (by omega) (by omega), w64 (by omega) (by omega)]
end
end Go.Proofs.Ytdfcioadccijfaa.PA
