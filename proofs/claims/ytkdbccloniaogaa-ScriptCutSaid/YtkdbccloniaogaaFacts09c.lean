/- Numbers out of eight bytes, and entries out of theirs. Conditions: none. -/
import Derived.Test.YtkdbccloniaogaaFacts09b
set_option linter.unusedVariables false
set_option linter.unusedSimpArgs false
set_option maxRecDepth 10000
namespace Go.Proofs.YtkdbccloniaogaaS
open Go Go.Proofs
theorem fdiv_pos2 (v : Int) (k : Nat) : v.fdiv (2 ^ k) = v / 2 ^ k := by
  have h : (0 : Int) ≤ 2 ^ k := Int.pow_nonneg (by omega)
  exact Int.fdiv_eq_ediv_of_nonneg v h
/-- A number out of eight bytes. -/
def num8 (b1 b2 b3 b4 b5 b6 b7 b8 : Int) : Int := IntKind.i64.wrap (((((((b1 * 256 + b2) * 256 + b3) * 256 + b4) * 256 + b5) * 256 + b6) * 256 + b7) * 256 + b8)
theorem step_plain {a b : Int} (h0 : 0 ≤ b) (h1 : b < 256) (a0 : 0 ≤ a) (a1 : a < 281474976710656) : step8 a b = a * 256 + b := by
  rw [step8_val a b h0 h1]
  exact wrap_small (by omega) (by omega)
theorem val8_num (s : ByteArray) : val8 8 0 s = (num8 (hd s) (hd (tl s)) (hd (tl (tl s))) (hd (tl (tl (tl s)))) (hd (tl (tl (tl (tl s))))) (hd (tl (tl (tl (tl (tl s)))))) (hd (tl (tl (tl (tl (tl (tl s))))))) (hd (tl (tl (tl (tl (tl (tl (tl s)))))))), tl (tl (tl (tl (tl (tl (tl (tl s)))))))) := by
  simp only [val8]
  obtain ⟨p1, q1⟩ := hd_in s
  obtain ⟨p2, q2⟩ := hd_in (tl s)
  obtain ⟨p3, q3⟩ := hd_in (tl (tl s))
  obtain ⟨p4, q4⟩ := hd_in (tl (tl (tl s)))
  obtain ⟨p5, q5⟩ := hd_in (tl (tl (tl (tl s))))
  obtain ⟨p6, q6⟩ := hd_in (tl (tl (tl (tl (tl s)))))
  obtain ⟨p7, q7⟩ := hd_in (tl (tl (tl (tl (tl (tl s))))))
  obtain ⟨p8, q8⟩ := hd_in (tl (tl (tl (tl (tl (tl (tl s)))))))
  generalize hd s = b1 at *
  generalize hd (tl s) = b2 at *
  generalize hd (tl (tl s)) = b3 at *
  generalize hd (tl (tl (tl s))) = b4 at *
  generalize hd (tl (tl (tl (tl s)))) = b5 at *
  generalize hd (tl (tl (tl (tl (tl s))))) = b6 at *
  generalize hd (tl (tl (tl (tl (tl (tl s)))))) = b7 at *
  generalize hd (tl (tl (tl (tl (tl (tl (tl s))))))) = b8 at *
  have e1 : step8 0 b1 = b1 := by rw [step_plain p1 q1 (by omega) (by omega)]; omega
  have e2 : step8 b1 b2 = b1 * 256 + b2 := step_plain p2 q2 (by omega) (by omega)
  have e3 : step8 (b1 * 256 + b2) b3 = (b1 * 256 + b2) * 256 + b3 := step_plain p3 q3 (by omega) (by omega)
  have e4 := step_plain (a := (b1 * 256 + b2) * 256 + b3) p4 q4 (by omega) (by omega)
  have e5 := step_plain (a := ((b1 * 256 + b2) * 256 + b3) * 256 + b4) p5 q5 (by omega) (by omega)
  have e6 := step_plain (a := (((b1 * 256 + b2) * 256 + b3) * 256 + b4) * 256 + b5) p6 q6 (by omega) (by omega)
  have e7 := step_plain (a := ((((b1 * 256 + b2) * 256 + b3) * 256 + b4) * 256 + b5) * 256 + b6) p7 q7 (by omega) (by omega)
  rw [e1, e2, e3, e4, e5, e6, e7, step8_val _ b8 p8 q8]
  rfl
theorem w64 (n : Int) : IntKind.i64.wrap n = (n + 9223372036854775808) % 18446744073709551616 - 9223372036854775808 := IntKind.wrap_i64 n
theorem vByte_eq (v : Int) (k : Nat) : vByte v k = u8 (v / 2 ^ k) := by
  unfold vByte
  rw [fdiv_pos2]
theorem u8_congr {a b : Int} (h : a % 256 = b % 256) : byteOf (u8 a) = byteOf (u8 b) := by
  have h1 := byte_u8 a
  have h2 := byte_u8 b
  apply UInt8.toNat_inj.1
  omega
/-- The bytes of a number that was taken out of eight. -/
theorem num8_bytes {b1 b2 b3 b4 b5 b6 b7 b8 : Int} (p1 : 0 ≤ b1) (q1 : b1 < 256) (p2 : 0 ≤ b2) (q2 : b2 < 256) (p3 : 0 ≤ b3) (q3 : b3 < 256) (p4 : 0 ≤ b4) (q4 : b4 < 256) (p5 : 0 ≤ b5) (q5 : b5 < 256) (p6 : 0 ≤ b6) (q6 : b6 < 256) (p7 : 0 ≤ b7) (q7 : b7 < 256) (p8 : 0 ≤ b8) (q8 : b8 < 256) :
    num8 b1 b2 b3 b4 b5 b6 b7 b8 / 2 ^ 56 % 256 = b1 ∧ num8 b1 b2 b3 b4 b5 b6 b7 b8 / 2 ^ 48 % 256 = b2 ∧ num8 b1 b2 b3 b4 b5 b6 b7 b8 / 2 ^ 40 % 256 = b3 ∧ num8 b1 b2 b3 b4 b5 b6 b7 b8 / 2 ^ 32 % 256 = b4 ∧ num8 b1 b2 b3 b4 b5 b6 b7 b8 / 2 ^ 24 % 256 = b5 ∧ num8 b1 b2 b3 b4 b5 b6 b7 b8 / 2 ^ 16 % 256 = b6 ∧ num8 b1 b2 b3 b4 b5 b6 b7 b8 / 2 ^ 8 % 256 = b7 ∧ num8 b1 b2 b3 b4 b5 b6 b7 b8 / 2 ^ 0 % 256 = b8 := by
  unfold num8
  rw [w64]
  have c56 : (2 : Int) ^ 56 = 72057594037927936 := by decide
  have c48 : (2 : Int) ^ 48 = 281474976710656 := by decide
  have c40 : (2 : Int) ^ 40 = 1099511627776 := by decide
  have c32 : (2 : Int) ^ 32 = 4294967296 := by decide
  have c24 : (2 : Int) ^ 24 = 16777216 := by decide
  have c16 : (2 : Int) ^ 16 = 65536 := by decide
  have c8 : (2 : Int) ^ 8 = 256 := by decide
  have c0 : (2 : Int) ^ 0 = 1 := by decide
  rw [c56, c48, c40, c32, c24, c16, c8, c0]
  refine ⟨?_, ?_, ?_, ?_, ?_, ?_, ?_, ?_⟩ <;> omega
/-- A number out of its own bytes. -/
theorem num8_own {v : Int} (h0 : -9223372036854775808 ≤ v) (h1 : v ≤ 9223372036854775807) : num8 (v / 2 ^ 56 % 256) (v / 2 ^ 48 % 256) (v / 2 ^ 40 % 256) (v / 2 ^ 32 % 256) (v / 2 ^ 24 % 256) (v / 2 ^ 16 % 256) (v / 2 ^ 8 % 256) (v / 2 ^ 0 % 256) = v := by
  unfold num8
  rw [w64]
  have c56 : (2 : Int) ^ 56 = 72057594037927936 := by decide
  have c48 : (2 : Int) ^ 48 = 281474976710656 := by decide
  have c40 : (2 : Int) ^ 40 = 1099511627776 := by decide
  have c32 : (2 : Int) ^ 32 = 4294967296 := by decide
  have c24 : (2 : Int) ^ 24 = 16777216 := by decide
  have c16 : (2 : Int) ^ 16 = 65536 := by decide
  have c8 : (2 : Int) ^ 8 = 256 := by decide
  have c0 : (2 : Int) ^ 0 = 1 := by decide
  rw [c56, c48, c40, c32, c24, c16, c8, c0]
  omega
end Go.Proofs.YtkdbccloniaogaaS
