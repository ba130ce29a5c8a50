/- Leaves, levels, ways and meets of chapter 7 as plain numbers and lists. Conditions: a depth of at most 4. -/
import Derived.Test.YtmlapgclfnlipaaSays
import Derived.Test.YtmlapgclfnlipaaPAx1
set_option linter.unusedVariables false
set_option linter.unusedSimpArgs false
namespace Go.Proofs.Ytmlapgclfnlipaa.PA
open Go.RowKit Go.Proofs.YtmlapgclfnlipaaW.PrintWords Go.Proofs.YtmlapgclfnlipaaW.PrintLast Go.Proofs.YtmlapgclfnlipaaW.PrintMore
theorem w64 {x : Int} (h1 : -9223372036854775808 ≤ x) (h2 : x ≤ 9223372036854775807) : wrap64 x = x := by unfold wrap64; omega
/-! ### the length in bits -/
/-- How many bits. -/
def len (x : Int) : Int := if x ≤ 0 then 0 else 1 + (Nat.log2 x.toNat : Int)
theorem len_step (x : Int) (h : 1 ≤ x) : len x = 1 + len (x / 2) := by
  unfold len
  rw [if_neg (by omega), Nat.log2_def]
  have e : (x / 2).toNat = x.toNat / 2 := by omega
  by_cases h2 : 2 ≤ x.toNat
  · rw [if_pos h2, if_neg (by omega), e]; omega
  · rw [if_neg h2, if_pos (by omega)]; rfl
theorem len_in (x : Int) : 0 ≤ len x := by unfold len; split <;> omega
theorem len_none (x : Int) (h : x ≤ 0) : len x = 0 := by unfold len; rw [if_pos h]
theorem len_shift8 (x : Int) (h : 256 ≤ x) : len x = 8 + len (x / 256) := by
  rw [len_step x (by omega), len_step (x / 2) (by omega), len_step (x / 2 / 2) (by omega), len_step (x / 2 / 2 / 2) (by omega), len_step (x / 2 / 2 / 2 / 2) (by omega), len_step (x / 2 / 2 / 2 / 2 / 2) (by omega), len_step (x / 2 / 2 / 2 / 2 / 2 / 2) (by omega), len_step (x / 2 / 2 / 2 / 2 / 2 / 2 / 2) (by omega)]
  have e : x / 2 / 2 / 2 / 2 / 2 / 2 / 2 / 2 = x / 256 := by omega
  rw [e]; omega
theorem len_shift16 (x : Int) (h : 65536 ≤ x) : len x = 16 + len (x / 65536) := by
  rw [len_shift8 x (by omega), len_shift8 (x / 256) (by omega)]
  have e : x / 256 / 256 = x / 65536 := by omega
  rw [e]; omega
theorem len_shift32 (x : Int) (h : 4294967296 ≤ x) : len x = 32 + len (x / 4294967296) := by
  rw [len_shift16 x (by omega), len_shift16 (x / 65536) (by omega)]
  have e : x / 65536 / 65536 = x / 4294967296 := by omega
  rw [e]; omega
theorem len_lt : ∀ (m : Nat) (x : Int), x < 2 ^ m → len x ≤ m
  | 0, x, h => by rw [len_none x (by omega)]; omega
  | m + 1, x, h => by
    by_cases h0 : x ≤ 0
    · rw [len_none x h0]; omega
    · rw [len_step x (by omega)]
      have : x / 2 < 2 ^ m := by rw [Int.pow_succ] at h; omega
      have := len_lt m (x / 2) this
      omega
def table : ByteArray := ⟨#[0, 1, 2, 2, 3, 3, 3, 3, 4, 4, 4, 4, 4, 4, 4, 4, 5, 5, 5, 5, 5, 5, 5, 5, 5, 5, 5, 5, 5, 5, 5, 5, 6, 6, 6, 6, 6, 6, 6, 6, 6, 6, 6, 6, 6, 6, 6, 6, 6, 6, 6, 6, 6, 6, 6, 6, 6, 6, 6, 6, 6, 6, 6, 6, 7, 7, 7, 7, 7, 7, 7, 7, 7, 7, 7, 7, 7, 7, 7, 7, 7, 7, 7, 7, 7, 7, 7, 7, 7, 7, 7, 7, 7, 7, 7, 7, 7, 7, 7, 7, 7, 7, 7, 7, 7, 7, 7, 7, 7, 7, 7, 7, 7, 7, 7, 7, 7, 7, 7, 7, 7, 7, 7, 7, 7, 7, 7, 7, 8, 8, 8, 8, 8, 8, 8, 8, 8, 8, 8, 8, 8, 8, 8, 8, 8, 8, 8, 8, 8, 8, 8, 8, 8, 8, 8, 8, 8, 8, 8, 8, 8, 8, 8, 8, 8, 8, 8, 8, 8, 8, 8, 8, 8, 8, 8, 8, 8, 8, 8, 8, 8, 8, 8, 8, 8, 8, 8, 8, 8, 8, 8, 8, 8, 8, 8, 8, 8, 8, 8, 8, 8, 8, 8, 8, 8, 8, 8, 8, 8, 8, 8, 8, 8, 8, 8, 8, 8, 8, 8, 8, 8, 8, 8, 8, 8, 8, 8, 8, 8, 8, 8, 8, 8, 8, 8, 8, 8, 8, 8, 8, 8, 8, 8, 8, 8, 8, 8, 8, 8, 8, 8, 8, 8, 8, 8, 8]⟩
theorem table_len_ : ∀ i : Fin 256, bt table (i.val : Int) = len (i.val : Int) := by decide +kernel
theorem table_len (i : Int) (h0 : 0 ≤ i) (h1 : i < 256) : bt table i = len i := by
  have := table_len_ ⟨i.toNat, by omega⟩
  have e : ((i.toNat : Nat) : Int) = i := by omega
  simpa only [e] using this
set_option maxRecDepth 100000 in
theorem len64_j (k : Nat) (x z : Int) (h0 : 0 ≤ x) (h1 : x < 4294967296) (hz : 0 ≤ z ∧ z ≤ 100) : bits_Len64.j0 (k + 1) x z = some (z + len x) := by
  rw [bits_Len64.j0]
  have T := fun i h0 h1 => table_len i h0 h1
  unfold table at T
  have hl := len_in
  by_cases a : x ≥ 65536
  · rw [if_pos a]
    have l1 := len_shift16 x a
    by_cases b : x / 65536 ≥ 256
    · have l2 := len_shift8 (x / 65536) b
      have e : x / 65536 / 256 % 256 = x / 65536 / 256 := by omega
      rw [if_pos b, e, if_pos (by omega), if_pos (by omega), T _ (by omega) (by omega)]
      have l3 := len_lt 8 (x / 65536 / 256) (by omega)
      have l4 := len_in (x / 65536 / 256)
      rw [w64 (x := z + 16) (by omega) (by omega), w64 (x := z + 16 + 8) (by omega) (by omega), w64 (x := len (x / 65536 / 256)) (by omega) (by omega), w64 (by omega) (by omega)]
      congr 1; omega
    · have e : x / 65536 % 256 = x / 65536 := by omega
      rw [if_neg b, e, if_pos (by omega), if_pos (by omega), T _ (by omega) (by omega)]
      have l3 := len_lt 8 (x / 65536) (by omega)
      have l4 := len_in (x / 65536)
      rw [w64 (x := z + 16) (by omega) (by omega), w64 (x := len (x / 65536)) (by omega) (by omega), w64 (by omega) (by omega)]
      congr 1; omega
  · rw [if_neg a]
    by_cases b : x ≥ 256
    · have l2 := len_shift8 x b
      have e : x / 256 % 256 = x / 256 := by omega
      rw [if_pos b, e, if_pos (by omega), if_pos (by omega), T _ (by omega) (by omega)]
      have l3 := len_lt 8 (x / 256) (by omega)
      have l4 := len_in (x / 256)
      rw [w64 (x := z + 8) (by omega) (by omega), w64 (x := len (x / 256)) (by omega) (by omega), w64 (by omega) (by omega)]
      congr 1; omega
    · have e : x % 256 = x := by omega
      rw [if_neg b, e, if_pos (by omega), if_pos (by omega), T _ (by omega) (by omega)]
      have l3 := len_lt 8 x (by omega)
      have l4 := len_in x
      rw [w64 (x := len x) (by omega) (by omega), w64 (by omega) (by omega)]
theorem len64 (k : Nat) (x : Int) (h0 : 0 ≤ x) (h1 : x < 18446744073709551616) : bits_Len.f (k + 1) x = some (len x) := by
  unfold bits_Len.f bits_Len64.f
  by_cases a : x ≥ 4294967296
  · rw [if_pos a, len64_j k _ 32 (by omega) (by omega) (by omega), len_shift32 x a]; rfl
  · rw [if_neg a, len64_j k _ 0 (by omega) (by omega) (by omega)]
    simp
/-- The level of a node. -/
def lv (n : Int) : Int := if n < 1 then 0 else len n - 1
theorem level_eq (k : Nat) (hk : 1 ≤ k) (n : Int) (h1 : -9223372036854775808 ≤ n) (h2 : n ≤ 9223372036854775807) : shape_Level.f k n = some (lv n) := by
  obtain ⟨k, rfl⟩ : ∃ q, k = q + 1 := ⟨k - 1, by omega⟩
  have e : mx n 0 = if n < 0 then 0 else n := rfl
  have u : IntKind.u64.wrap (mx n 0) = mx n 0 := by
    have : 0 ≤ mx n 0 ∧ mx n 0 ≤ 9223372036854775807 := by rw [e]; split <;> omega
    simp [IntKind.wrap, IntKind.bits, IntKind.signed]
    omega
  unfold shape_Level.f
  rw [u, len64 k _ (by rw [e]; split <;> omega) (by rw [e]; split <;> omega)]
  simp only [Option.bind_some]
  have l1 := len_in (mx n 0)
  have l2 := len_lt 63 (mx n 0) (by rw [e]; split <;> omega)
  rw [w64 (by omega) (by omega)]
  unfold lv
  by_cases hn : n < 1
  · rw [if_pos hn, len_none _ (by rw [e]; split <;> omega)]; rfl
  · rw [if_neg hn]
    have l3 := len_step n (by omega)
    have l4 := len_in (n / 2)
    have e2 : mx n 0 = n := by rw [e]; split <;> omega
    rw [e2]
    congr 1
    unfold mx
    split <;> omega
theorem refparent_eq (x : Int) (h : 0 ≤ x ∧ x ≤ 9223372036854775807) : millstreamref07_Parent.f x = some (x / 2) := by
  unfold millstreamref07_Parent.f
  by_cases a : x < 2
  · rw [if_pos a]; congr 1; omega
  · rw [if_neg a, Int.tdiv_eq_ediv_of_nonneg h.1, w64 (by omega) (by omega)]
theorem reflevel_l : ∀ (m k : Nat) (x z : Int), m + 1 ≤ k → 1 ≤ x → x < 2 ^ m → x ≤ 9223372036854775807 → 0 ≤ z → z + m ≤ 1000 → millstreamref07_Level.l0 k x z = some (z + (len x - 1))
  | 0, k, x, z, hk, h1, h2, _, hz, _ => by omega
  | m + 1, k, x, z, hk, h1, h2, h3, hz, hm => by
    obtain ⟨k, rfl⟩ : ∃ q, k = q + 1 := ⟨k - 1, by omega⟩
    simp only [millstreamref07_Level.l0]
    by_cases a : x > 1
    · rw [if_pos a, refparent_eq x (by omega)]
      simp only [Option.bind_some]
      rw [w64 (by omega) (by omega), reflevel_l m k (x / 2) (z + 1) (by omega) (by omega) (by rw [Int.pow_succ] at h2; omega) (by omega) (by omega) (by omega), len_step x (by omega)]
      congr 1; omega
    · have e : x = 1 := by omega
      subst e
      rw [if_neg a]
      have : len 1 = 1 := by decide +kernel
      rw [this]; congr 1; omega
theorem reflevel_eq (k : Nat) (hk : 70 ≤ k) (n : Int) (h2 : n ≤ 9223372036854775807) : millstreamref07_Level.f k n = some (lv n) := by
  unfold millstreamref07_Level.f lv
  by_cases a : n < 1
  · obtain ⟨k, rfl⟩ : ∃ q, k = q + 1 := ⟨k - 1, by omega⟩
    rw [if_pos a]
    simp only [millstreamref07_Level.l0]
    rw [if_neg (by omega)]
  · rw [if_neg a, reflevel_l 63 k n 0 (by omega) (by omega) (by omega) h2 (by omega) (by omega)]
    congr 1; omega
end Go.Proofs.Ytmlapgclfnlipaa.PA
