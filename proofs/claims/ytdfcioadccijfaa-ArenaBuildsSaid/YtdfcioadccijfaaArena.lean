/- Places of an arena: the program's and the reference's are one function of whole numbers. Conditions: the config may be. -/
import Derived.Test.YtdfcioadccijfaaRefConfig
import Derived.Test.YtdfcioadccijfaaSays
import Derived.Test.YtdfcioadccijfaaPAx2
set_option linter.unusedVariables false
set_option linter.unusedSimpArgs false
namespace Go.Proofs.Ytdfcioadccijfaa.PA
open Go.RowKit Go.Proofs.YtdfcioadccijfaaW.PrintWords Go.Proofs.YtdfcioadccijfaaW.PrintLast Go.Proofs.YtdfcioadccijfaaW.PrintMore
/-- 2 to the d. -/
def pw (d : Int) : Int := if d < 1 then 1 else if d < 2 then 2 else if d < 3 then 4 else if d < 4 then 8 else 16
/-- The words of an item. -/
def blk (d e f : Int) : Int := pw d + e * f
theorem pw_in (d : Int) : 1 ≤ pw d ∧ pw d ≤ 16 := by
  unfold pw
  repeat' split
  all_goals omega
theorem le_in {e f : Int} (he : 0 ≤ e ∧ e ≤ 3) (hf : 1 ≤ f ∧ f ≤ 8) : 0 ≤ e * f ∧ e * f ≤ 24 := by
  have h : e = 0 ∨ e = 1 ∨ e = 2 ∨ e = 3 := by omega
  rcases h with rfl | rfl | rfl | rfl <;> omega
theorem blk_in {d e f : Int} (he : 0 ≤ e ∧ e ≤ 3) (hf : 1 ≤ f ∧ f ≤ 8) : 1 ≤ blk d e f ∧ blk d e f ≤ 40 := by
  have := pw_in d; have := le_in he hf; unfold blk; omega
theorem mul_in {x b : Int} {n : Int} (hx : 0 ≤ x ∧ x ≤ 4) (hb : 1 ≤ b ∧ b ≤ 40) : 0 ≤ x * b ∧ x * b ≤ 160 := by
  have h : x = 0 ∨ x = 1 ∨ x = 2 ∨ x = 3 ∨ x = 4 := by omega
  rcases h with rfl | rfl | rfl | rfl | rfl <;> omega
theorem w64 {x : Int} (h1 : -9223372036854775808 ≤ x) (h2 : x ≤ 9223372036854775807) : wrap64 x = x := by unfold wrap64; omega
section
variable {a b c d e f g h : Int} {i : Bool} {j k l : Int}
theorem nodes_eq (m : MayBe a b c d e f g h i j k l) : arena_Nodes.f a b c d e f g h i j k l = some (pw d - 1) := by
  have hd : d = 0 ∨ d = 1 ∨ d = 2 ∨ d = 3 ∨ d = 4 := by have := m.de; omega
  unfold arena_Nodes.f
  rw [if_pos m.de.1]
  rcases hd with rfl | rfl | rfl | rfl | rfl <;> decide +kernel
theorem of_eq (m : MayBe a b c d e f g h i j k l) : arena_of.f a b c d e f g h i j k l = some (1, pw d, blk d e f, b * blk d e f) := by
  have h1 := pw_in d; have h2 := le_in m.la m.wi; have h3 := blk_in (d := d) m.la m.wi
  have h4 : 0 ≤ b * blk d e f ∧ b * blk d e f ≤ 160 := mul_in (n := 0) (by have := m.it; omega) h3
  unfold arena_of.f
  rw [nodes_eq m]
  simp only [Option.bind_some]
  have e1 : wrap64 (1 + (pw d - 1)) = pw d := by rw [w64 (by omega) (by omega)]; omega
  have e2 : wrap64 (e * f) = e * f := w64 (by omega) (by omega)
  have e3 : wrap64 (pw d + e * f) = blk d e f := by rw [w64 (by omega) (by omega)]; rfl
  have e4 : wrap64 (b * blk d e f) = b * blk d e f := w64 (by omega) (by omega)
  rw [e1, e2, e3, e4]
theorem size_eq (m : MayBe a b c d e f g h i j k l) : arena_Size.f a b c d e f g h i j k l = some (b * blk d e f + 2 * a) := by
  have h3 := blk_in (d := d) m.la m.wi
  have h4 : 0 ≤ b * blk d e f ∧ b * blk d e f ≤ 160 := mul_in (n := 0) (by have := m.it; omega) h3
  have h5 := m.t
  unfold arena_Size.f
  rw [of_eq m]
  simp only [Option.bind_some]
  rw [w64 (x := 2 * a) (by omega) (by omega), w64 (by omega) (by omega)]
theorem cell_eq (m : MayBe a b c d e f g h i j k l) (x : Int) : arena_Cell.f a b c d e f g h i j k l x = some (if x < 0 ∨ x ≥ b then -1 else x * blk d e f) := by
  unfold arena_Cell.f arena_Cell.clof
  by_cases hx : x < 0 ∨ x ≥ b
  · rw [if_pos hx, if_pos hx]
  · have h3 := blk_in (d := d) m.la m.wi
    have h4 : 0 ≤ x * blk d e f ∧ x * blk d e f ≤ 160 := mul_in (n := 0) (by have := m.it; omega) h3
    rw [if_neg hx, if_neg hx, of_eq m]
    simp only [Option.bind_some]
    rw [w64 (by omega) (by omega)]
theorem node_eq (m : MayBe a b c d e f g h i j k l) (x n : Int) : arena_Node.f a b c d e f g h i j k l x n = some (if x < 0 ∨ x ≥ b ∨ n < 1 ∨ n ≥ pw d then -1 else x * blk d e f + n) := by
  unfold arena_Node.f arena_Node.clof arena_Node.leaff
  by_cases hx : x < 0 ∨ x ≥ b
  · rw [if_pos hx, if_pos (by omega)]
  · have h1 := pw_in d
    have h3 := blk_in (d := d) m.la m.wi
    have h4 : 0 ≤ x * blk d e f ∧ x * blk d e f ≤ 160 := mul_in (n := 0) (by have := m.it; omega) h3
    rw [if_neg hx, nodes_eq m]
    simp only [Option.bind_some]
    have e1 : wrap64 (1 + (pw d - 1)) = pw d := by rw [w64 (by omega) (by omega)]; omega
    rw [e1]
    by_cases hn : n < 1 ∨ n ≥ pw d
    · rw [if_pos hn, if_pos (by omega)]
    · rw [if_neg hn, if_neg (by omega), of_eq m]
      simp only [Option.bind_some]
      rw [w64 (x := x * blk d e f) (by omega) (by omega), w64 (by omega) (by omega)]
theorem slot_eq (m : MayBe a b c d e f g h i j k l) (x y n : Int) : arena_Slot.f a b c d e f g h i j k l x y n = some (if x < 0 ∨ x ≥ b ∨ y < 1 ∨ y > e ∨ n < 0 ∨ n ≥ f then -1 else x * blk d e f + pw d + (y - 1) * f + n) := by
  unfold arena_Slot.f arena_Slot.clof arena_Slot.midf arena_Slot.leaff
  have hl := m.la
  have hw := m.wi
  by_cases hx : x < 0 ∨ x ≥ b
  · rw [if_pos hx, if_pos (by omega)]
  · have h1 := pw_in d
    have h3 := blk_in (d := d) m.la m.wi
    have h4 : 0 ≤ x * blk d e f ∧ x * blk d e f ≤ 160 := mul_in (n := 0) (by have := m.it; omega) h3
    rw [if_neg hx, w64 (x := 1 + e) (by omega) (by omega)]
    by_cases hy : y < 1 ∨ y ≥ 1 + e
    · rw [if_pos hy, if_pos (by omega)]
    · rw [if_neg hy]
      by_cases hn : n < 0 ∨ n ≥ f
      · rw [if_pos hn, if_pos (by omega)]
      · have h5 : 0 ≤ (y - 1) * f ∧ (y - 1) * f ≤ 24 := le_in (by omega) m.wi
        rw [if_neg hn, if_neg (by omega), of_eq m]
        simp only [Option.bind_some]
        rw [w64 (x := x * blk d e f) (by omega) (by omega), w64 (x := x * blk d e f + pw d) (by omega) (by omega), w64 (x := y - 1) (by omega) (by omega), w64 (x := (y - 1) * f) (by omega) (by omega), w64 (x := x * blk d e f + pw d + (y - 1) * f) (by omega) (by omega), w64 (by omega) (by omega)]
theorem line_eq (m : MayBe a b c d e f g h i j k l) (t : Int) : arena_Line.f a b c d e f g h i j k l t = some (if t < 0 ∨ t ≥ a then -1 else b * blk d e f + 2 * t) := by
  unfold arena_Line.f arena_Line.clof
  by_cases hx : t < 0 ∨ t ≥ a
  · rw [if_pos hx, if_pos hx]
  · have h3 := blk_in (d := d) m.la m.wi
    have h4 : 0 ≤ b * blk d e f ∧ b * blk d e f ≤ 160 := mul_in (n := 0) (by have := m.it; omega) h3
    have h5 := m.t
    rw [if_neg hx, if_neg hx, of_eq m]
    simp only [Option.bind_some]
    rw [w64 (x := 2 * t) (by omega) (by omega), w64 (by omega) (by omega)]
theorem result_eq (m : MayBe a b c d e f g h i j k l) (t : Int) : arena_Result.f a b c d e f g h i j k l t = some (if t < 0 ∨ t ≥ a then -1 else b * blk d e f + 2 * t + 1) := by
  unfold arena_Result.f arena_Result.clof
  by_cases hx : t < 0 ∨ t ≥ a
  · rw [if_pos hx, if_pos hx]
  · have h3 := blk_in (d := d) m.la m.wi
    have h4 : 0 ≤ b * blk d e f ∧ b * blk d e f ≤ 160 := mul_in (n := 0) (by have := m.it; omega) h3
    have h5 := m.t
    rw [if_neg hx, if_neg hx, of_eq m]
    simp only [Option.bind_some]
    rw [w64 (x := 2 * t) (by omega) (by omega), w64 (x := b * blk d e f + 2 * t) (by omega) (by omega), w64 (by omega) (by omega)]
end
end Go.Proofs.Ytdfcioadccijfaa.PA
