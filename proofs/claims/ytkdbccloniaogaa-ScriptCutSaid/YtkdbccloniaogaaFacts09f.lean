/- Where bytes are cut off: which entry that is, and what decoding them comes to. Conditions: the entries' kinds. -/
import Derived.Test.YtkdbccloniaogaaFacts09e
set_option linter.unusedVariables false
set_option linter.unusedSimpArgs false
set_option maxRecDepth 10000
namespace Go.Proofs.YtkdbccloniaogaaS
open Go Go.Proofs
noncomputable def endL (xs : List (List PV)) (j : Nat) : Nat := (encs (xs.take j)).length
theorem endL_zero (xs : List (List PV)) : endL xs 0 = 0 := rfl
theorem endL_all (xs : List (List PV)) : endL xs xs.length = (encs xs).length := by
  unfold endL
  rw [List.take_length]
theorem endL_next {xs : List (List PV)} {j : Nat} (h : j < xs.length) : endL xs (j + 1) = endL xs j + sizeK (kindOf (xs.getD j [])) := by
  unfold endL
  rw [encs_next h, List.length_append, enc1_len]
theorem endL_le (xs : List (List PV)) (j : Nat) : endL xs j ≤ 12 * xs.length := by
  have := encs_le (xs.take j)
  rw [List.length_take] at this
  unfold endL
  omega
/-- The last end that is not behind n, of the first m. -/
noncomputable def begF (xs : List (List PV)) (n : Int) : Nat → Int
  | 0 => 0
  | m + 1 => if (endL xs m : Int) ≤ n then (endL xs m : Int) else begF xs n m
theorem beg_spec {xs : List (List PV)} {n : Int} (h0 : 0 ≤ n) : ∀ m, ∃ k, k ≤ m ∧ begF xs n (m + 1) = (endL xs k : Int) ∧ (endL xs k : Int) ≤ n ∧ ∀ j, k < j → j ≤ m → n < (endL xs j : Int)
  | 0 => by
    refine ⟨0, Nat.le_refl _, ?_, ?_, fun j h1 h2 => by omega⟩
    · unfold begF
      rw [endL_zero, if_pos (by omega)]
    · rw [endL_zero]; omega
  | m + 1 => by
    obtain ⟨k, h1, h2, h3, h4⟩ := beg_spec h0 m (xs := xs)
    unfold begF
    by_cases c : (endL xs (m + 1) : Int) ≤ n
    · rw [if_pos c]
      exact ⟨m + 1, Nat.le_refl _, rfl, c, fun j h5 h6 => by omega⟩
    · rw [if_neg c]
      refine ⟨k, by omega, h2, h3, fun j h5 h6 => ?_⟩
      rcases Nat.lt_or_ge m j with q | q
      · have : j = m + 1 := by omega
        subst this
        omega
      · exact h4 j h5 q
theorem encs_split {xs : List (List PV)} {k : Nat} (h : k < xs.length) : encs xs = encs (xs.take k) ++ (enc1 (xs.getD k []) ++ encs (xs.drop (k + 1))) := by
  have h1 : xs = xs.take k ++ (xs.getD k [] :: xs.drop (k + 1)) := by
    rw [List.getD_eq_getElem?_getD, List.getElem?_eq_getElem h, Option.getD_some, List.getElem_cons_drop, List.take_append_drop]
  have h2 : encs xs = encs (xs.take k ++ (xs.getD k [] :: xs.drop (k + 1))) := congrArg encs h1
  rw [h2, encs_append]
  rfl
theorem kinds_take {xs : List (List PV)} (h : Kinds xs) (k : Nat) : Kinds (xs.take k) := fun e he => h e (List.mem_of_mem_take he)
/-- Bytes that are cut off. -/
theorem cut_at {xs : List (List PV)} (hk : Kinds xs) {n : Nat} (hn : n ≤ (encs xs).length) : (begF xs n (xs.length + 1) < (n : Int) → dec18 (strOf ((encs xs).take n)) = ([], begF xs n (xs.length + 1), 94)) ∧
    (begF xs n (xs.length + 1) = (n : Int) → ∃ out, dec18 (strOf ((encs xs).take n)) = (out, 0, 0)) ∧ begF xs n (xs.length + 1) ≤ (n : Int) := by
  obtain ⟨k, h1, h2, h3, h4⟩ := beg_spec (xs := xs) (n := (n : Int)) (by omega) xs.length
  rw [h2]
  have hlen : ((encs xs).take n).length = n := by rw [List.length_take]; omega
  refine ⟨fun h => ?_, fun h => ?_, h3⟩
  · have hkl : k < xs.length := by
      rcases Nat.lt_or_ge k xs.length with q | q
      · exact q
      · have : k = xs.length := by omega
        subst this
        rw [endL_all] at h
        omega
    have h5 := h4 (k + 1) (by omega) (by omega)
    rw [endL_next hkl] at h5
    have hs := encs_split hkl
    have hel : endL xs k = (encs (xs.take k)).length := rfl
    obtain ⟨k1, k3⟩ := hk (xs.getD k []) (by rw [List.getD_eq_getElem?_getD, List.getElem?_eq_getElem hkl]; exact List.getElem_mem hkl)
    have hcl := enc1_len (xs.getD k [])
    have ht : (encs xs).take n = encs (xs.take k) ++ (enc1 (xs.getD k [])).take (n - endL xs k) := by
      rw [hs, List.take_append, ← hel, List.take_of_length_le (by omega), List.take_append]
      have : n - endL xs k - (enc1 (xs.getD k [])).length = 0 := by omega
      rw [this, List.take_zero, List.append_nil]
    have hpl : ((enc1 (xs.getD k [])).take (n - endL xs k)).length = n - endL xs k := by
      rw [List.length_take]; omega
    have hp0 : 0 < n - endL xs k := by omega
    have hhd : hd (strOf ((enc1 (xs.getD k [])).take (n - endL xs k))) = kindOf (xs.getD k []) := by
      obtain ⟨q, hq⟩ : ∃ q, enc1 (xs.getD k []) = u8 (kindOf (xs.getD k [])) :: q := by
        unfold enc1
        obtain ⟨z, hz⟩ : ∃ z, sizeK (kindOf (xs.getD k [])) = z + 1 := ⟨sizeK (kindOf (xs.getD k [])) - 1, by have := sizeK_pos (kindOf (xs.getD k [])); omega⟩
        rw [hz]
        exact ⟨_, rfl⟩
      obtain ⟨z, hz⟩ : ∃ z, n - endL xs k = z + 1 := ⟨n - endL xs k - 1, by omega⟩
      rw [hq, hz, List.take_succ_cons, hd_u8]
      omega
    rw [ht]
    unfold dec18
    rw [cut_short (kinds_take hk k) (by rw [strOf_size, List.length_append]; omega) (by rw [hpl]; exact hp0) (by rw [hhd]; exact k1) (by rw [hhd]; exact k3) (by rw [hhd, hpl]; omega)]
    have e : ((strOf (encs (xs.take k) ++ (enc1 (xs.getD k [])).take (n - endL xs k))).size : Int) - (((enc1 (xs.getD k [])).take (n - endL xs k)).length : Int) = (endL xs k : Int) := by
      rw [strOf_size, List.length_append]
      omega
    rw [e]
  · have hel : endL xs k = (encs (xs.take k)).length := rfl
    have ht : (encs xs).take n = encs (xs.take k) := by
      rcases Nat.lt_or_ge k xs.length with q | q
      · rw [encs_split q, List.take_append, ← hel, List.take_of_length_le (by omega)]
        have : n - endL xs k = 0 := by omega
        rw [this, List.take_zero, List.append_nil]
      · rw [List.take_of_length_le q, List.take_of_length_le]
        rw [List.take_of_length_le q] at hel
        omega
    rw [ht]
    unfold dec18
    obtain ⟨out, h5, _⟩ := cut_whole (n0 := (strOf (encs (xs.take k))).size) (kinds_take hk k) (f := (strOf (encs (xs.take k))).size + 9) (by rw [strOf_size]; omega)
    exact ⟨out, h5⟩
theorem cut_extract (l : List (List PV)) (n : Nat) : (strOf l).extract 0 n = strOf (l.take n) := by
  apply bytes_ext
  rw [strOf_list]
  rw [ByteArray.data_extract, Array.toList_extract, strOf_list]
  simp [List.extract_eq_take_drop, List.map_take]
theorem byte_wrap {x : Int} (h0 : 0 ≤ x) (h1 : x ≤ 255) : strOf [[PV.int .u8 x]] = strOf [u8 x] := by
  apply strOf_same
  have : IntKind.u8.wrap x = x := by
    unfold IntKind.wrap
    simp [IntKind.bits, IntKind.signed]
    omega
  unfold u8
  rw [this]
/-- A byte more. -/
theorem cut_more {xs : List (List PV)} (hk : Kinds xs) {x : Int} (h0 : 0 ≤ x) (h1 : x ≤ 255) :
    (x = 3 → ∃ out, dec18 (strOf (encs xs) ++ strOf [[PV.int .u8 x]]) = (out, 0, 0) ∧ out.length = xs.length + 1) ∧
    (1 ≤ x → x < 3 → dec18 (strOf (encs xs) ++ strOf [[PV.int .u8 x]]) = ([], ((strOf (encs xs)).size : Int), 94)) ∧
    (x < 1 ∨ 3 < x → dec18 (strOf (encs xs) ++ strOf [[PV.int .u8 x]]) = ([], ((strOf (encs xs)).size : Int), 90)) := by
  rw [byte_wrap h0 h1, ← strOf_append]
  have hh : hd (strOf [u8 x]) = x := by rw [hd_u8]; omega
  have hz : ((strOf (encs xs ++ [u8 x])).size : Int) - (([u8 x] : List (List PV)).length : Int) = ((strOf (encs xs)).size : Int) := by
    rw [strOf_size, strOf_size, List.length_append]
    simp only [List.length_cons, List.length_nil]
    omega
  have hf : (encs xs).length < (strOf (encs xs ++ [u8 x])).size + 9 := by
    rw [strOf_size, List.length_append]; omega
  refine ⟨fun h => ?_, fun h2 h3 => ?_, fun h => ?_⟩
  · subst h
    unfold dec18
    have hl := encs_length_le xs hk
    obtain ⟨out, g1, g2⟩ := cut_loop (n0 := (strOf (encs xs ++ [u8 3])).size) [u8 3] xs ((strOf (encs xs ++ [u8 3])).size + 9 - xs.length) [] hk
    rw [show xs.length + ((strOf (encs xs ++ [u8 3])).size + 9 - xs.length) = (strOf (encs xs ++ [u8 3])).size + 9 by rw [strOf_size, List.length_append]; omega] at g1
    obtain ⟨g, hg⟩ : ∃ g, (strOf (encs xs ++ [u8 3])).size + 9 - xs.length = g + 1 + 1 := ⟨(strOf (encs xs ++ [u8 3])).size + 9 - xs.length - 2, by rw [strOf_size, List.length_append]; omega⟩
    rw [hg] at g1
    have hz3 : sizeK 3 = 1 := rfl
    rw [decR_next (s := strOf [u8 3]) (by rw [strOf_size]; simp) (by rw [hh]; omega) (by rw [hh]; omega) (by rw [hh, hz3, strOf_size]; simp)] at g1
    have htl : (dec1 (strOf [u8 3])).2 = strOf [] := by
      unfold dec1
      rw [hh, if_pos rfl]
      exact tl_strOf _ _
    rw [htl, decR_end (s := strOf []) (by rw [strOf_size]; rfl)] at g1
    refine ⟨_, g1, ?_⟩
    rw [List.length_append, g2]
    simp
  · unfold dec18
    have h13 : 1 < sizeK x := by
      rcases show x = 1 ∨ x = 2 by omega with rfl | rfl
      · exact show 1 < 12 by omega
      · exact show 1 < 2 by omega
    rw [cut_short hk hf (by simp) (by rw [hh]; omega) (by rw [hh]; omega) (by rw [hh]; simpa using h13), hz]
  · unfold dec18
    rw [cut_stop hk hf (by simp) (by rw [hh]; exact h), hz]
end Go.Proofs.YtkdbccloniaogaaS
