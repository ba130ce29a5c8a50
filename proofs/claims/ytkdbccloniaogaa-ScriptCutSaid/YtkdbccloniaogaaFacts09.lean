/- Bytes one behind the other, and the first entry that may not be. Conditions: none. -/
import Derived.Test.YtkdbccloniaogaaU2
import Derived.Test.YtkdbccloniaogaaU3
import Derived.Test.YtkdbccloniaogaaSimPure
set_option linter.unusedVariables false
set_option linter.unusedSimpArgs false
set_option maxRecDepth 10000
namespace Go.Proofs.YtkdbccloniaogaaS
open Go Go.Proofs
def byteOf (e : List PV) : UInt8 := UInt8.ofNat (pInt (e.headD .undef)).toNat
theorem push_list (l : List Int) : ∀ (r : ByteArray), (l.foldl (fun r n => r.push (UInt8.ofNat n.toNat)) r).data.toList = r.data.toList ++ l.map fun n => UInt8.ofNat n.toNat := by
  induction l with
  | nil => intro r; simp
  | cons n l ih =>
    intro r
    rw [List.foldl_cons, ih]
    simp [ByteArray.push]
theorem strOf_list (xs : List (List PV)) : (strOf xs).data.toList = xs.map byteOf := by
  unfold strOf
  rw [push_list, List.map_map]
  rfl
theorem strOf_size (xs : List (List PV)) : (strOf xs).size = xs.length := by
  show (strOf xs).data.size = _
  rw [← Array.length_toList, strOf_list, List.length_map]
theorem bytes_ext {a b : ByteArray} (h : a.data.toList = b.data.toList) : a = b := by
  cases a with
  | mk a =>
  cases b with
  | mk b =>
    congr 1
    exact Array.ext' h
theorem strOf_append (a b : List (List PV)) : strOf (a ++ b) = strOf a ++ strOf b := by
  apply bytes_ext
  rw [strOf_list, List.map_append]
  have : (strOf a ++ strOf b).data.toList = (strOf a).data.toList ++ (strOf b).data.toList := by
    simp [ByteArray.data_append]
  rw [this, strOf_list, strOf_list]
theorem encs_append (a b : List (List PV)) : encs (a ++ b) = encs a ++ encs b := by
  simp [encs, List.flatMap_append]
def scanL (q : List PV → Int) : List (List PV) → Nat → Int × Int
  | [], _ => (0, 0)
  | e :: r, i => if q e = 0 then scanL q r (i + 1) else ((i : Int), q e)
theorem scanL_zero {q : List PV → Int} {e : List PV} {r : List (List PV)} {i : Nat} (h : q e = 0) : scanL q (e :: r) i = scanL q r (i + 1) := by
  simp only [scanL]
  rw [if_pos h]
theorem scanL_hit {q : List PV → Int} {e : List PV} {r : List (List PV)} {i : Nat} (h : ¬ q e = 0) : scanL q (e :: r) i = ((i : Int), q e) := by
  simp only [scanL]
  rw [if_neg h]
theorem scanE_L (q : List PV → Int) (xs : List (List PV)) : ∀ (n i : Nat), i + n = xs.length → scanE (fun j => q (xs.getD j [])) n i = scanL q (xs.drop i) i
  | 0, i, h => by
    rw [List.drop_of_length_le (by omega)]
    rfl
  | n + 1, i, h => by
    have hi : i < xs.length := by omega
    rw [List.drop_eq_getElem_cons hi]
    have e : xs.getD i [] = xs[i] := by simp [List.getD_eq_getElem?_getD, hi]
    simp only [scanE, scanL]
    rw [e, scanE_L q xs n (i + 1) (by omega)]
theorem scanE_all (q : List PV → Int) (xs : List (List PV)) : scanE (fun j => q (xs.getD j [])) xs.length 0 = scanL q xs 0 := by
  have := scanE_L q xs xs.length 0 (by omega)
  rwa [List.drop_zero] at this
theorem scanL_none {q : List PV → Int} : ∀ {xs : List (List PV)} {i : Nat}, (scanL q xs i).2 = 0 → scanL q xs i = (0, 0) ∧ ∀ e ∈ xs, q e = 0
  | [], i, h => ⟨rfl, by simp⟩
  | e :: r, i, h => by
    simp only [scanL] at h ⊢
    by_cases hq : q e = 0
    · rw [if_pos hq] at h ⊢
      obtain ⟨h1, h2⟩ := scanL_none h
      refine ⟨h1, fun f hf => ?_⟩
      rcases List.mem_cons.1 hf with rfl | hf
      · exact hq
      · exact h2 f hf
    · rw [if_neg hq] at h
      exact absurd h hq
theorem scanL_append (q : List PV → Int) (b : List (List PV)) : ∀ (a : List (List PV)) (i : Nat), scanL q (a ++ b) i = if (scanL q a i).2 = 0 then scanL q b (i + a.length) else scanL q a i
  | [], i => by simp [scanL]
  | e :: r, i => by
    rw [List.cons_append]
    by_cases hq : q e = 0
    · rw [scanL_zero hq, scanL_zero hq, scanL_append q b r (i + 1), List.length_cons, show i + 1 + r.length = i + (r.length + 1) by omega]
    · rw [scanL_hit hq, scanL_hit hq, if_neg (show ¬ ((i : Int), q e).2 = 0 from hq)]
theorem scanL_shift (q : List PV → Int) (k : Nat) : ∀ (a : List (List PV)) (i : Nat), scanL q a (i + k) = if (scanL q a i).2 = 0 then (0, 0) else ((scanL q a i).1 + (k : Int), (scanL q a i).2)
  | [], i => by simp [scanL]
  | e :: r, i => by
    by_cases hq : q e = 0
    · rw [scanL_zero hq, scanL_zero hq, show i + k + 1 = i + 1 + k by omega]
      exact scanL_shift q k r (i + 1)
    · rw [scanL_hit hq, scanL_hit hq, if_neg (show ¬ ((i : Int), q e).2 = 0 from hq)]
      simp
theorem scanL_at {q : List PV → Int} : ∀ {xs : List (List PV)} {i : Nat}, (scanL q xs i).2 ≠ 0 → (i : Int) ≤ (scanL q xs i).1 ∧ (scanL q xs i).1 < ((i + xs.length : Nat) : Int)
  | [], i, h => absurd rfl h
  | e :: r, i, h => by
    simp only [scanL] at h ⊢
    by_cases hq : q e = 0
    · rw [if_pos hq] at h ⊢
      have := scanL_at h
      rw [List.length_cons]
      omega
    · rw [if_neg hq]
      rw [List.length_cons]
      exact ⟨Int.le_refl _, by show (i : Int) < _; omega⟩
theorem all11_small (x0 : S23) (xs : List (List PV)) (h : xs.length ≤ 60000) : all11R x0 xs = bif chk5 x0 != 0 then (0, chk5 x0) else scanL (chkE11 x0) xs 0 := by
  unfold all11R
  rw [decide_eq_false (show ¬ (xs.length : Int) > 65536 by omega), scanE_all]
  rfl
end Go.Proofs.YtkdbccloniaogaaS
