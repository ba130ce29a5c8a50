/- Plain laws of ops: what is done twice, in another order, back, in wider bounds. Conditions: the numbers are of 64 bits. -/
import Derived.Test.YtokcblafahiphaaOper
set_option linter.unusedVariables false
set_option linter.unusedSimpArgs false
namespace Go.Proofs.Ytokcblafahiphaa.PA
open Go.RowKit Go.Proofs.YtokcblafahiphaaW.PrintWords Go.Proofs.YtokcblafahiphaaW.PrintLast Go.Proofs.YtokcblafahiphaaW.PrintMore
theorem shown_true (k : Nat) (hk : 2 ≤ k) : millstreamlaw01_shown.f k = some true := by
  unfold millstreamlaw01_shown.f
  have i : ∀ x : Int, -100 ≤ x → x ≤ 100 → Ini64 x := fun x h1 h2 => by unfold Ini64; omega
  rw [oper_Apply_eq k hk (i 5 (by decide) (by decide)) (i 3 (by decide) (by decide)) (i 0 (by decide) (by decide)) (i 9 (by decide) (by decide))]
  rw [oper_Apply_eq k hk (i 7 (by decide) (by decide)) (i 3 (by decide) (by decide)) (i 0 (by decide) (by decide)) (i 9 (by decide) (by decide))]
  rw [oper_Apply_eq k hk (i 7 (by decide) (by decide)) (i 3 (by decide) (by decide)) (i 0 (by decide) (by decide)) (i 0 (by decide) (by decide))]
  decide +kernel
theorem ofInt_wrap (n : Int) : BitVec.ofInt 64 (wrap64 n) = BitVec.ofInt 64 n := by
  apply BitVec.eq_of_toInt_eq
  rw [BitVec.toInt_ofInt, BitVec.toInt_ofInt]
  unfold wrap64
  simp only [Int.bmod]
  split <;> split <;> omega
theorem bits_or (x y : Int) : Go.bits .or .i64 x y = wrap64 ((BitVec.ofInt 64 x ||| BitVec.ofInt 64 y).toNat : Int) := by unfold Go.bits; rw [i64w]; rfl
theorem bits_and (x y : Int) : Go.bits .and .i64 x y = wrap64 ((BitVec.ofInt 64 x &&& BitVec.ofInt 64 y).toNat : Int) := by unfold Go.bits; rw [i64w]; rfl
theorem ofInt_toNat (b : BitVec 64) : BitVec.ofInt 64 (b.toNat : Int) = b := by
  apply BitVec.eq_of_toNat_eq
  rw [BitVec.toNat_ofInt]
  have := b.isLt
  omega
theorem or_or (x v w : Int) : Go.bits .or .i64 (Go.bits .or .i64 x v) w = wrap64 ((BitVec.ofInt 64 x ||| BitVec.ofInt 64 v ||| BitVec.ofInt 64 w).toNat : Int) := by
  rw [bits_or, bits_or x v, ofInt_wrap, ofInt_toNat]
theorem and_and (x v w : Int) : Go.bits .and .i64 (Go.bits .and .i64 x v) w = wrap64 ((BitVec.ofInt 64 x &&& BitVec.ofInt 64 v &&& BitVec.ofInt 64 w).toNat : Int) := by
  rw [bits_and, bits_and x v, ofInt_wrap, ofInt_toNat]
theorem or_twice (x v : Int) : Go.bits .or .i64 (Go.bits .or .i64 x v) v = Go.bits .or .i64 x v := by
  rw [or_or, bits_or, BitVec.or_assoc, BitVec.or_self]
theorem and_twice (x v : Int) : Go.bits .and .i64 (Go.bits .and .i64 x v) v = Go.bits .and .i64 x v := by
  rw [and_and, bits_and, BitVec.and_assoc, BitVec.and_self]
theorem or_swap (x v w : Int) : Go.bits .or .i64 (Go.bits .or .i64 x v) w = Go.bits .or .i64 (Go.bits .or .i64 x w) v := by
  rw [or_or, or_or, BitVec.or_assoc, BitVec.or_assoc, BitVec.or_comm (BitVec.ofInt 64 v)]
theorem and_swap (x v w : Int) : Go.bits .and .i64 (Go.bits .and .i64 x v) w = Go.bits .and .i64 (Go.bits .and .i64 x w) v := by
  rw [and_and, and_and, BitVec.and_assoc, BitVec.and_assoc, BitVec.and_comm (BitVec.ofInt 64 v)]
theorem ap1 (v x lo hi : Int) : ap 1 v x lo hi = (wrap64 (x + v), true) := rfl
theorem ap2 (v x lo hi : Int) : ap 2 v x lo hi = (wrap64 (x - v), true) := rfl
theorem ap3 (v x lo hi : Int) : ap 3 v x lo hi = (Go.bits .or .i64 x v, true) := rfl
theorem ap4 (v x lo hi : Int) : ap 4 v x lo hi = (Go.bits .and .i64 x v, true) := rfl
theorem ap5 (v x lo hi : Int) : ap 5 v x lo hi = (if x ≤ v then v else x, true) := rfl
theorem ap6 (v x lo hi : Int) : ap 6 v x lo hi = (if x ≤ v then x else v, true) := rfl
theorem ap7 (v x lo hi : Int) : ap 7 v x lo hi = (v, true) := rfl
theorem ap8 (v x lo hi : Int) : ap 8 v x lo hi = (if lo ≤ x + v ∧ x + v ≤ hi then (x + v, true) else (x, false)) := rfl
theorem ap9 (v x lo hi : Int) : ap 9 v x lo hi = (if v < 0 ∨ x < lo then (x, false) else if x - v < lo then (lo, true) else (x - v, true)) := rfl
theorem ap_twice {tag v x lo hi : Int} (h3 : 3 ≤ tag) (h7 : tag ≤ 7) : (ap tag v (ap tag v x lo hi).1 lo hi).1 = (ap tag v x lo hi).1 ∧ (ap tag v x lo hi).2 = true := by
  have h : tag = 3 ∨ tag = 4 ∨ tag = 5 ∨ tag = 6 ∨ tag = 7 := by omega
  rcases h with rfl | rfl | rfl | rfl | rfl
  · rw [ap3, ap3]; exact ⟨or_twice x v, rfl⟩
  · rw [ap4, ap4]; exact ⟨and_twice x v, rfl⟩
  · rw [ap5, ap5]; refine ⟨?_, rfl⟩; simp only []; repeat' split
    all_goals omega
  · rw [ap6, ap6]; refine ⟨?_, rfl⟩; simp only []; repeat' split
    all_goals omega
  · rw [ap7, ap7]; exact ⟨rfl, rfl⟩
theorem ap_swap {tag v w x lo hi : Int} (h1 : 1 ≤ tag) (h6 : tag ≤ 6) : (ap tag w (ap tag v x lo hi).1 lo hi).1 = (ap tag v (ap tag w x lo hi).1 lo hi).1 := by
  have h : tag = 1 ∨ tag = 2 ∨ tag = 3 ∨ tag = 4 ∨ tag = 5 ∨ tag = 6 := by omega
  rcases h with rfl | rfl | rfl | rfl | rfl | rfl
  · rw [ap1, ap1, ap1, ap1]; show wrap64 (wrap64 (x + v) + w) = wrap64 (wrap64 (x + w) + v); unfold wrap64; omega
  · rw [ap2, ap2, ap2, ap2]; show wrap64 (wrap64 (x - v) - w) = wrap64 (wrap64 (x - w) - v); unfold wrap64; omega
  · rw [ap3, ap3, ap3, ap3]; exact or_swap x v w
  · rw [ap4, ap4, ap4, ap4]; exact and_swap x v w
  · rw [ap5, ap5, ap5, ap5]; simp only []; repeat' split
    all_goals omega
  · rw [ap6, ap6, ap6, ap6]; simp only []; repeat' split
    all_goals omega
theorem zero_in : Ini64 0 := by unfold Ini64; omega
end Go.Proofs.Ytokcblafahiphaa.PA
