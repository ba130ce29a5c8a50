/- Bytes that are decoded are encoded into the same bytes. Conditions: none. -/
import Derived.Test.YtkdbccloniaogaaFacts09
import Derived.Test.YtkdbccloniaogaaU6
set_option linter.unusedVariables false
set_option linter.unusedSimpArgs false
set_option maxRecDepth 10000
namespace Go.Proofs.YtkdbccloniaogaaS
open Go Go.Proofs
theorem get0 {s : ByteArray} {b : UInt8} {l : List UInt8} (h : s.data.toList = b :: l) : s.get! 0 = b := by
  show s.data[0]! = b
  have : s.data[0]? = some b := by
    rw [← Array.getElem?_toList, h]
    rfl
  simp [getElem!_def, this]
theorem size_list (s : ByteArray) : s.data.toList.length = s.size := by
  rw [Array.length_toList]
  rfl
theorem tl_list (s : ByteArray) : (tl s).data.toList = s.data.toList.tail := by
  unfold tl
  rw [ByteArray.data_extract, Array.toList_extract]
  rw [← size_list]
  simp [List.extract, List.take_of_length_le]
theorem byte_u8 (n : Int) : ((byteOf (u8 n)).toNat : Int) = n % 256 := by
  show ((UInt8.ofNat (IntKind.u8.wrap n).toNat).toNat : Int) = _
  have e : IntKind.u8.wrap n = n % 256 := by
    have : IntKind.u8.wrap n = n % 256 := by
      unfold IntKind.wrap
      simp [IntKind.bits, IntKind.signed]
    exact this
  rw [e, UInt8.toNat_ofNat']
  have h0 : 0 ≤ n % 256 := by omega
  have h1 : n % 256 < 256 := by omega
  omega
theorem hd_u8 (n : Int) (r : List (List PV)) : hd (strOf (u8 n :: r)) = n % 256 := by
  unfold hd
  rw [get0 (b := byteOf (u8 n)) (l := r.map byteOf) (by rw [strOf_list]; rfl), byte_u8]
theorem tl_strOf (e : List PV) (r : List (List PV)) : tl (strOf (e :: r)) = strOf r := by
  apply bytes_ext
  rw [tl_list, strOf_list, strOf_list]
  rfl
/-- The first byte, and the rest. -/
theorem cons_back {s : ByteArray} (h : 0 < s.size) : strOf [u8 (hd s)] ++ tl s = s := by
  apply bytes_ext
  have hl := size_list s
  have e : (strOf [u8 (hd s)] ++ tl s).data.toList = (strOf [u8 (hd s)]).data.toList ++ (tl s).data.toList := by simp [ByteArray.data_append]
  rw [e, strOf_list, tl_list]
  match hq : s.data.toList, hl with
  | b :: l, _ =>
    have hb : byteOf (u8 (hd s)) = b := by
      have h1 := byte_u8 (hd s)
      have h2 := hd_in s
      have h3 : hd s = (b.toNat : Int) := by
        unfold hd
        rw [get0 hq]
      apply UInt8.toNat_inj.1
      omega
    show byteOf (u8 (hd s)) :: l = b :: l
    rw [hb]
  | [], hl => simp at hl; omega
theorem step8_val (a b : Int) (h0 : 0 ≤ b) (h1 : b < 256) : step8 a b = IntKind.i64.wrap (a * 256 + b) := by
  have w64 : ∀ n : Int, IntKind.i64.wrap n = (n + 9223372036854775808) % 18446744073709551616 - 9223372036854775808 := fun n => IntKind.wrap_i64 n
  unfold step8
  have hp : (2 : Int) ^ min (Int.toNat 8) IntKind.i64.bits = 256 := by decide
  rw [hp]
  have e : (BitVec.ofInt IntKind.i64.bits (IntKind.i64.wrap (a * 256)) ||| BitVec.ofInt IntKind.i64.bits b).toNat = ((a % 72057594037927936) * 256 + b).toNat := by
    rw [BitVec.toNat_or, BitVec.toNat_ofInt, BitVec.toNat_ofInt]
    have hb : IntKind.i64.bits = 64 := rfl
    rw [hb, w64]
    have q1 : (((a * 256 + 9223372036854775808) % 18446744073709551616 - 9223372036854775808) % ((2 ^ 64 : Nat) : Int)).toNat = (a % 72057594037927936).toNat <<< 8 := by
      rw [Nat.shiftLeft_eq]
      have : ((2 ^ 64 : Nat) : Int) = 18446744073709551616 := by decide
      rw [this]
      omega
    have q2 : (b % ((2 ^ 64 : Nat) : Int)).toNat = b.toNat := by
      have : ((2 ^ 64 : Nat) : Int) = 18446744073709551616 := by decide
      rw [this]
      omega
    rw [q1, q2, ← Nat.shiftLeft_add_eq_or_of_lt (show b.toNat < 2 ^ 8 by omega), Nat.shiftLeft_eq]
    omega
  rw [e, w64, w64]
  omega
theorem back_loop {n0 : Int} : ∀ (f : Nat) (out : List (List PV)) (s : ByteArray), s.size < f → (decR n0 f out s).2.2 = 0 → (∀ s : ByteArray, 0 < s.size → 1 ≤ hd s → hd s ≤ 3 → sizeK (hd s) ≤ s.size → strOf (enc1 (dec1 s).1) ++ (dec1 s).2 = s) → strOf (encs (decR n0 f out s).1) = strOf (encs out) ++ s
  | 0, out, s, h, _, _ => by omega
  | f + 1, out, s, h, hz, hb => by
    rcases Nat.eq_zero_or_pos s.size with h0 | h0
    · rw [decR_end h0]
      apply bytes_ext
      have e : s.data.toList = [] := by
        have hl := size_list s
        exact List.length_eq_zero_iff.1 (by omega)
      simp [ByteArray.data_append, e]
    · by_cases k : hd s < 1 ∨ 3 < hd s
      · rw [decR_stop h0 k] at hz
        cases hz
      · have k1 : 1 ≤ hd s := by omega
        have k3 : hd s ≤ 3 := by omega
        rcases Nat.lt_or_ge s.size (sizeK (hd s)) with hq | hq
        · rw [decR_short h0 k1 k3 hq] at hz
          cases hz
        · have hdz := dec1_size k1 k3
          have hp := sizeK_pos (hd s)
          rw [decR_next h0 k1 k3 hq] at hz ⊢
          rw [back_loop f _ _ (by omega) hz hb, encs_append, strOf_append, ByteArray.append_assoc]
          have : encs [(dec1 s).1] = enc1 (dec1 s).1 := by simp [encs]
          rw [this, hb s h0 k1 k3 hq]
end Go.Proofs.YtkdbccloniaogaaS
