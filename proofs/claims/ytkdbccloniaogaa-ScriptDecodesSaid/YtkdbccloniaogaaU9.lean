/- The reference's Decode in plain words. Conditions: none. -/
import Derived.Test.YtkdbccloniaogaaF2x19
import Derived.Test.YtkdbccloniaogaaFacts09d
import Derived.Test.YtkdbccloniaogaaSimPure
set_option linter.unusedVariables false
set_option linter.unusedSimpArgs false
set_option maxRecDepth 10000
namespace Go.Proofs.YtkdbccloniaogaaS
open Go Go.Proofs
/-- The byte at i. -/
def bAt (x0 : ByteArray) (i : Nat) : Int := ((x0.get! i).toNat : Int)
def sfx (x0 : ByteArray) (a : Nat) : ByteArray := x0.extract a x0.size
theorem sfx_list (x0 : ByteArray) (a : Nat) : (sfx x0 a).data.toList = x0.data.toList.drop a := by
  unfold sfx
  rw [ByteArray.data_extract, Array.toList_extract, ← size_list]
  simp [List.extract, List.take_of_length_le]
theorem sfx_size (x0 : ByteArray) (a : Nat) : (sfx x0 a).size = x0.size - a := by
  rw [← size_list, sfx_list, List.length_drop, size_list]
theorem sfx_tl (x0 : ByteArray) (a : Nat) : tl (sfx x0 a) = sfx x0 (a + 1) := by
  apply bytes_ext
  rw [tl_list, sfx_list, sfx_list, List.tail_drop]
theorem sfx_all (x0 : ByteArray) : sfx x0 0 = x0 := by
  apply bytes_ext
  rw [sfx_list, List.drop_zero]
theorem get_list {x0 : ByteArray} {a : Nat} (h : a < x0.size) : x0.data.toList[a]? = some (x0.get! a) := by
  rw [← size_list] at h
  cases x0 with
  | mk d =>
    have h' : a < d.size := by simpa using h
    show d.toList[a]? = some (d[a]!)
    rw [Array.getElem?_toList, Array.getElem?_eq_getElem h', getElem!_pos d a h']
theorem sfx_hd {x0 : ByteArray} {a : Nat} (h : a < x0.size) : hd (sfx x0 a) = bAt x0 a := by
  have hg := get_list h
  have hl : (sfx x0 a).data.toList = x0.get! a :: x0.data.toList.drop (a + 1) := by
    rw [sfx_list]
    have h' : a < x0.data.toList.length := by rw [size_list]; exact h
    rw [List.drop_eq_getElem_cons h']
    rw [List.getElem?_eq_getElem h'] at hg
    rw [Option.some.inj hg]
  unfold hd bAt
  rw [get0 hl]
theorem bAt_in (x0 : ByteArray) (i : Nat) : 0 ≤ bAt x0 i ∧ bAt x0 i < 256 := by
  have : (x0.get! i).toNat < 256 := (x0.get! i).toNat_lt
  unfold bAt
  omega
theorem bAt_wr (x0 : ByteArray) (i : Nat) : IntKind.i64.wrap (bAt x0 i) = bAt x0 i := by
  have := bAt_in x0 i
  exact wrap_small (by omega) (by omega)
theorem wr_add {a k : Nat} (h : a + k ≤ 2000000) : IntKind.i64.wrap ((a : Int) + (k : Int)) = ((a + k : Nat) : Int) := by
  rw [← Int.natCast_add]
  exact wrap_small (by omega) (by omega)
theorem u64_wr (n : Int) (h0 : 0 ≤ n) (h1 : n < 18446744073709551616) : IntKind.u64.wrap n = n := by
  unfold IntKind.wrap
  simp [IntKind.bits, IntKind.signed]
  omega
/-- A number out of bytes. -/
def accB (x0 : ByteArray) (a : Nat) : Nat → Int
  | 0 => 0
  | k + 1 => 256 * accB x0 a k + bAt x0 (a + 4 + k)
def pow256 : Nat → Int
  | 0 => 1
  | k + 1 => 256 * pow256 k
theorem acc_in (x0 : ByteArray) (a : Nat) : ∀ k, 0 ≤ accB x0 a k ∧ accB x0 a k < pow256 k
  | 0 => by simp [accB, pow256]
  | k + 1 => by
    have h1 := acc_in x0 a k
    have h2 := bAt_in x0 (a + 4 + k)
    simp only [accB, pow256]
    omega
theorem pow_le : ∀ k, k ≤ 8 → pow256 k ≤ 18446744073709551616 := by
  intro k hk
  rcases show k = 0 ∨ k = 1 ∨ k = 2 ∨ k = 3 ∨ k = 4 ∨ k = 5 ∨ k = 6 ∨ k = 7 ∨ k = 8 by omega with h | h | h | h | h | h | h | h | h <;> subst h <;> decide
theorem acc_step {x0 : ByteArray} {a k : Nat} (hk : k < 8) : IntKind.u64.wrap (IntKind.u64.wrap (256 * accB x0 a k) + IntKind.u64.wrap (bAt x0 (a + 4 + k))) = accB x0 a (k + 1) := by
  have h1 := acc_in x0 a (k + 1)
  have h2 := pow_le (k + 1) (by omega)
  have h3 := acc_in x0 a k
  have h4 := bAt_in x0 (a + 4 + k)
  simp only [accB] at h1
  rw [u64_wr (256 * accB x0 a k) (by omega) (by omega), u64_wr (bAt x0 (a + 4 + k)) (by omega) (by omega), u64_wr _ (by omega) (by omega)]
  rfl
theorem acc_num {x0 : ByteArray} {a : Nat} (h : a + 12 ≤ x0.size) : (val8 8 0 (sfx x0 (a + 4))).1 = IntKind.i64.wrap (accB x0 a 8) := by
  rw [val8_num]
  simp only [sfx_tl]
  rw [sfx_hd (by omega), sfx_hd (by omega), sfx_hd (by omega), sfx_hd (by omega), sfx_hd (by omega), sfx_hd (by omega), sfx_hd (by omega), sfx_hd (by omega)]
  unfold num8
  congr 1
  simp only [accB, Nat.add_zero]
  show _ = 256 * (256 * (256 * (256 * (256 * (256 * (256 * (256 * 0 + bAt x0 (a + 4)) + bAt x0 (a + 4 + 1)) + bAt x0 (a + 4 + 1 + 1)) + bAt x0 (a + 4 + 1 + 1 + 1)) + bAt x0 (a + 4 + 1 + 1 + 1 + 1)) + bAt x0 (a + 4 + 1 + 1 + 1 + 1 + 1)) + bAt x0 (a + 4 + 1 + 1 + 1 + 1 + 1 + 1)) + bAt x0 (a + 4 + 1 + 1 + 1 + 1 + 1 + 1 + 1)
  omega
theorem val_rest {x0 : ByteArray} {a : Nat} : (val8 8 0 (sfx x0 a)).2 = sfx x0 (a + 8) := by
  rw [val8_num]
  simp only [sfx_tl]
/-- The entry that begins at a. -/
theorem dec_at1 {x0 : ByteArray} {a : Nat} (h : a + 12 ≤ x0.size) (k : bAt x0 a = 1) : dec1 (sfx x0 a) = (ent (bAt x0 a) (bAt x0 (a + 1)) (bAt x0 (a + 2)) (bAt x0 (a + 3)) (IntKind.i64.wrap (accB x0 a 8)), sfx x0 (a + 12)) := by
  unfold dec1
  rw [sfx_hd (show a < x0.size by omega), if_neg (by omega), if_neg (by omega)]
  simp only [sfx_tl]
  rw [sfx_hd (by omega), sfx_hd (by omega), sfx_hd (by omega)]
  show (ent _ _ _ _ (val8 8 0 (sfx x0 (a + 4))).1, (val8 8 0 (sfx x0 (a + 4))).2) = _
  rw [acc_num h, val_rest]
theorem dec_at2 {x0 : ByteArray} {a : Nat} (h : a + 2 ≤ x0.size) (k : bAt x0 a = 2) : dec1 (sfx x0 a) = (ent (bAt x0 a) (bAt x0 (a + 1)) 0 0 0, sfx x0 (a + 2)) := by
  unfold dec1
  rw [sfx_hd (show a < x0.size by omega), if_neg (by omega), if_pos k]
  simp only [sfx_tl]
  rw [sfx_hd (by omega)]
theorem dec_at3 {x0 : ByteArray} {a : Nat} (h : a + 1 ≤ x0.size) (k : bAt x0 a = 3) : dec1 (sfx x0 a) = (ent (bAt x0 a) 0 0 0 0, sfx x0 (a + 1)) := by
  unfold dec1
  rw [sfx_hd (show a < x0.size by omega), if_pos k]
  simp only [sfx_tl]
theorem in19L297 {N : Nat} {x0 : ByteArray} (h : 0 + 12 ≤ x0.size) (hx : x0.size ≤ 900000) : ∀ (m c : Nat), c + m = 8 → loopN (f19L0iL297r N x0) (m + 1) (.s0 (accB x0 0 c) (c : Int)) = some (.e0 (accB x0 0 8))
  | 0, c, e => by
    obtain rfl : c = 8 := by omega
    exact loopN_end (run_false (decide_eq_false (by omega)) rfl)
  | m + 1, c, e => by
    have w : IntKind.i64.wrap (IntKind.i64.wrap ((0 : Int) + 4) + (c : Int)) = ((0 + 4 + c : Nat) : Int) := by
      rw [show IntKind.i64.wrap ((0 : Int) + 4) = ((0 + 4 : Nat) : Int) from wr_add (a := 0) (k := 4) (by omega)]
      exact wr_add (by omega)
    have hr : f19L0iL297r N x0 (.s0 (accB x0 0 c) (c : Int)) = some (.inl (.s0 (accB x0 0 (c + 1)) ((c + 1 : Nat) : Int))) := by
      refine run_true (decide_eq_true (by omega)) (run_true ?_ ?_)
      · rw [w, decide_eq_true (show (0 : Int) ≤ ((0 + 4 + c : Nat) : Int) by omega), decide_eq_true (show ((0 + 4 + c : Nat) : Int) < (x0.size : Int) by omega)]
        rfl
      · show some (Sum.inl (f19L0iL297s.s0 (IntKind.u64.wrap (IntKind.u64.wrap (256 * accB x0 0 c) + IntKind.u64.wrap ((x0.get! (IntKind.i64.wrap (IntKind.i64.wrap ((0 : Int) + 4) + (c : Int))).toNat).toNat : Int))) (IntKind.i64.wrap ((c : Int) + 1)))) = _
        rw [w, wrap_next (i := c) (by omega)]
        rw [show IntKind.u64.wrap (IntKind.u64.wrap (256 * accB x0 0 c) + IntKind.u64.wrap ((x0.get! (((0 + 4 + c : Nat) : Int)).toNat).toNat : Int)) = accB x0 0 (c + 1) from acc_step (by omega)]
    rw [loopN_next hr]
    exact in19L297 h hx m (c + 1) (by omega)
theorem in19L383 {N : Nat} {x0 : ByteArray} {a : Nat} {out : List (List PV)} (h : a + 12 ≤ x0.size) (hx : x0.size ≤ 900000) : ∀ (m c : Nat), c + m = 8 → loopN (f19L0iL383r N x0 (a : Int) out) (m + 1) (.s0 (accB x0 a c) (c : Int)) = some (.e0 (accB x0 a 8))
  | 0, c, e => by
    obtain rfl : c = 8 := by omega
    exact loopN_end (run_false (decide_eq_false (by omega)) rfl)
  | m + 1, c, e => by
    have w : IntKind.i64.wrap (IntKind.i64.wrap ((a : Int) + 4) + (c : Int)) = ((a + 4 + c : Nat) : Int) := by
      rw [show IntKind.i64.wrap ((a : Int) + 4) = ((a + 4 : Nat) : Int) from wr_add (a := a) (k := 4) (by omega)]
      exact wr_add (by omega)
    have hr : f19L0iL383r N x0 (a : Int) out (.s0 (accB x0 a c) (c : Int)) = some (.inl (.s0 (accB x0 a (c + 1)) ((c + 1 : Nat) : Int))) := by
      refine run_true (decide_eq_true (by omega)) (run_true ?_ ?_)
      · rw [w, decide_eq_true (show (0 : Int) ≤ ((a + 4 + c : Nat) : Int) by omega), decide_eq_true (show ((a + 4 + c : Nat) : Int) < (x0.size : Int) by omega)]
        rfl
      · show some (Sum.inl (f19L0iL383s.s0 (IntKind.u64.wrap (IntKind.u64.wrap (256 * accB x0 a c) + IntKind.u64.wrap ((x0.get! (IntKind.i64.wrap (IntKind.i64.wrap ((a : Int) + 4) + (c : Int))).toNat).toNat : Int))) (IntKind.i64.wrap ((c : Int) + 1)))) = _
        rw [w, wrap_next (i := c) (by omega)]
        rw [show IntKind.u64.wrap (IntKind.u64.wrap (256 * accB x0 a c) + IntKind.u64.wrap ((x0.get! (((a + 4 + c : Nat) : Int)).toNat).toNat : Int)) = accB x0 a (c + 1) from acc_step (by omega)]
    rw [loopN_next hr]
    exact in19L383 h hx m (c + 1) (by omega)
theorem in19L469 {N : Nat} {x0 : ByteArray} {a : Nat} {out : List (List PV)} (h : a + 12 ≤ x0.size) (hx : x0.size ≤ 900000) : ∀ (m c : Nat), c + m = 8 → loopN (f19L0iL469r N x0 (a : Int) out) (m + 1) (.s0 (accB x0 a c) (c : Int)) = some (.e0 (accB x0 a 8))
  | 0, c, e => by
    obtain rfl : c = 8 := by omega
    exact loopN_end (run_false (decide_eq_false (by omega)) rfl)
  | m + 1, c, e => by
    have w : IntKind.i64.wrap (IntKind.i64.wrap ((a : Int) + 4) + (c : Int)) = ((a + 4 + c : Nat) : Int) := by
      rw [show IntKind.i64.wrap ((a : Int) + 4) = ((a + 4 : Nat) : Int) from wr_add (a := a) (k := 4) (by omega)]
      exact wr_add (by omega)
    have hr : f19L0iL469r N x0 (a : Int) out (.s0 (accB x0 a c) (c : Int)) = some (.inl (.s0 (accB x0 a (c + 1)) ((c + 1 : Nat) : Int))) := by
      refine run_true (decide_eq_true (by omega)) (run_true ?_ ?_)
      · rw [w, decide_eq_true (show (0 : Int) ≤ ((a + 4 + c : Nat) : Int) by omega), decide_eq_true (show ((a + 4 + c : Nat) : Int) < (x0.size : Int) by omega)]
        rfl
      · show some (Sum.inl (f19L0iL469s.s0 (IntKind.u64.wrap (IntKind.u64.wrap (256 * accB x0 a c) + IntKind.u64.wrap ((x0.get! (IntKind.i64.wrap (IntKind.i64.wrap ((a : Int) + 4) + (c : Int))).toNat).toNat : Int))) (IntKind.i64.wrap ((c : Int) + 1)))) = _
        rw [w, wrap_next (i := c) (by omega)]
        rw [show IntKind.u64.wrap (IntKind.u64.wrap (256 * accB x0 a c) + IntKind.u64.wrap ((x0.get! (((a + 4 + c : Nat) : Int)).toNat).toNat : Int)) = accB x0 a (c + 1) from acc_step (by omega)]
    rw [loopN_next hr]
    exact in19L469 h hx m (c + 1) (by omega)
theorem r19a0 {N : Nat} {x0 : ByteArray} (h : x0.size ≤ 0) : f19L0r N x0 .s0 = some (.inr .e2) := bif_false (decide_eq_false (by omega)) rfl
theorem r19b0 {N : Nat} {x0 : ByteArray} (h : 0 < x0.size) (k : bAt x0 0 < 1 ∨ 3 < bAt x0 0) : f19L0r N x0 .s0 = some (.inr .e0) := by
  have q1 : decide ((0 : Int) < (x0.size : Int)) = true := decide_eq_true (by omega)
  have q2 : (decide ((0 : Int) ≤ (0 : Int)) && decide ((0 : Int) < (x0.size : Int))) = true := by
    rw [q1, decide_eq_true (show (0 : Int) ≤ (0 : Int) by omega)]
    rfl
  have hb := bAt_wr x0 0
  refine bif_true q1 (bif_true q2 ?_)
  by_cases k1 : bAt x0 0 < 1
  · exact bif_true (show decide (IntKind.i64.wrap (bAt x0 0) < 1) = true by rw [hb]; exact decide_eq_true k1) rfl
  · exact bif_false (show decide (IntKind.i64.wrap (bAt x0 0) < 1) = false by rw [hb]; exact decide_eq_false k1) (bif_true (show decide (IntKind.i64.wrap (bAt x0 0) > 3) = true by rw [hb]; exact decide_eq_true (by omega)) rfl)
theorem r19c01 {N : Nat} {x0 : ByteArray} (hx : x0.size ≤ 900000) (h : 0 < x0.size) (k : bAt x0 0 = 1) (hz : x0.size < 0 + 12) : f19L0r N x0 .s0 = some (.inr .e1) := by
  have q1 : decide ((0 : Int) < (x0.size : Int)) = true := decide_eq_true (by omega)
  have q2 : (decide ((0 : Int) ≤ (0 : Int)) && decide ((0 : Int) < (x0.size : Int))) = true := by
    rw [q1, decide_eq_true (show (0 : Int) ≤ (0 : Int) by omega)]
    rfl
  have hb := bAt_wr x0 0
  have n1 : decide (IntKind.i64.wrap (bAt x0 0) < 1) = false := by rw [hb]; exact decide_eq_false (by omega)
  have n3 : decide (IntKind.i64.wrap (bAt x0 0) > 3) = false := by rw [hb]; exact decide_eq_false (by omega)
  have e1 : (IntKind.i64.wrap (bAt x0 0) == 1) = true := by rw [hb, k]; rfl
  have g : decide (IntKind.i64.wrap ((0 : Int) + 12) > (x0.size : Int)) = true := by
    rw [show IntKind.i64.wrap ((0 : Int) + 12) = ((0 + 12 : Nat) : Int) from wr_add (a := 0) (k := 12) (by omega)]
    exact decide_eq_true (by omega)
  exact bif_true q1 (bif_true q2 (bif_false n1 (bif_false n3 (bif_true e1 (bif_true g rfl)))))
theorem r19d01 {N : Nat} (hN : 9 ≤ N) {x0 : ByteArray} (hx : x0.size ≤ 900000) (k : bAt x0 0 = 1) (hz : 0 + 12 ≤ x0.size) : f19L0r N x0 .s0 = some (.inl (.s1 ((0 + 12 : Nat) : Int) ([(dec1 (sfx x0 0)).1]))) := by
  have q1 : decide ((0 : Int) < (x0.size : Int)) = true := decide_eq_true (by omega)
  have q2 : (decide ((0 : Int) ≤ (0 : Int)) && decide ((0 : Int) < (x0.size : Int))) = true := by
    rw [q1, decide_eq_true (show (0 : Int) ≤ (0 : Int) by omega)]
    rfl
  have hb := bAt_wr x0 0
  have n1 : decide (IntKind.i64.wrap (bAt x0 0) < 1) = false := by rw [hb]; exact decide_eq_false (by omega)
  have n3 : decide (IntKind.i64.wrap (bAt x0 0) > 3) = false := by rw [hb]; exact decide_eq_false (by omega)
  have e1 : (IntKind.i64.wrap (bAt x0 0) == 1) = true := by rw [hb, k]; rfl
  have g : decide (IntKind.i64.wrap ((0 : Int) + 12) > (x0.size : Int)) = false := by
    rw [show IntKind.i64.wrap ((0 : Int) + 12) = ((0 + 12 : Nat) : Int) from wr_add (a := 0) (k := 12) (by omega)]
    exact decide_eq_false (by omega)
  have l3 : decide (IntKind.i64.wrap (bAt x0 0) < 3) = true := by rw [hb]; exact decide_eq_true (by omega)
  have p1 : (decide ((0 : Int) ≤ IntKind.i64.wrap ((0 : Int) + 1)) && decide (IntKind.i64.wrap ((0 : Int) + 1) < (x0.size : Int))) = true := by
    rw [show IntKind.i64.wrap ((0 : Int) + 1) = ((0 + 1 : Nat) : Int) from wr_add (a := 0) (k := 1) (by omega), decide_eq_true (show (0 : Int) ≤ ((0 + 1 : Nat) : Int) by omega), decide_eq_true (show ((0 + 1 : Nat) : Int) < (x0.size : Int) by omega)]
    rfl
  have p2 : (decide ((0 : Int) ≤ IntKind.i64.wrap ((0 : Int) + 2)) && decide (IntKind.i64.wrap ((0 : Int) + 2) < (x0.size : Int))) = true := by
    rw [show IntKind.i64.wrap ((0 : Int) + 2) = ((0 + 2 : Nat) : Int) from wr_add (a := 0) (k := 2) (by omega), decide_eq_true (show (0 : Int) ≤ ((0 + 2 : Nat) : Int) by omega), decide_eq_true (show ((0 + 2 : Nat) : Int) < (x0.size : Int) by omega)]
    rfl
  have p3 : (decide ((0 : Int) ≤ IntKind.i64.wrap ((0 : Int) + 3)) && decide (IntKind.i64.wrap ((0 : Int) + 3) < (x0.size : Int))) = true := by
    rw [show IntKind.i64.wrap ((0 : Int) + 3) = ((0 + 3 : Nat) : Int) from wr_add (a := 0) (k := 3) (by omega), decide_eq_true (show (0 : Int) ≤ ((0 + 3 : Nat) : Int) by omega), decide_eq_true (show ((0 + 3 : Nat) : Int) < (x0.size : Int) by omega)]
    rfl
  refine bif_true q1 (bif_true q2 (bif_false n1 (bif_false n3 (bif_true e1 (bif_false g (bif_true l3 (bif_true p1 (bif_true e1 (bif_true p2 (?_))))))))))
  rw [dec_at1 hz k]
  have hl := in19L297 (N := N) hz hx 8 0 (by omega)
  have hl2 := loopN_more _ _ _ hl (N - 9)
  rw [show 8 + 1 + (N - 9) = N by omega] at hl2
  show (loopN (f19L0iL297r N x0) N (.s0 (accB x0 0 0) ((0 : Nat) : Int))).bind _ = _
  rw [hl2]
  refine run_true p3 ?_
  show some (Sum.inl (f19L0s.s1 (12) ([[PV.int .i64 (IntKind.i64.wrap (bAt x0 0)), PV.int .i64 (IntKind.i64.wrap ((x0.get! (IntKind.i64.wrap ((0 : Int) + 1)).toNat).toNat : Int)), PV.int .i64 (IntKind.i64.wrap ((x0.get! (IntKind.i64.wrap ((0 : Int) + 2)).toNat).toNat : Int)), PV.int .i64 (IntKind.i64.wrap ((x0.get! (IntKind.i64.wrap ((0 : Int) + 3)).toNat).toNat : Int)), PV.int .i64 (IntKind.i64.wrap (accB x0 0 8))]]))) = _
  rw [hb, show ((x0.get! (IntKind.i64.wrap ((0 : Int) + 1)).toNat).toNat : Int) = bAt x0 (0 + 1) from (by rw [show IntKind.i64.wrap ((0 : Int) + 1) = ((0 + 1 : Nat) : Int) from wr_add (a := 0) (k := 1) (by omega)]; rfl), bAt_wr x0 (0 + 1), show ((x0.get! (IntKind.i64.wrap ((0 : Int) + 2)).toNat).toNat : Int) = bAt x0 (0 + 2) from (by rw [show IntKind.i64.wrap ((0 : Int) + 2) = ((0 + 2 : Nat) : Int) from wr_add (a := 0) (k := 2) (by omega)]; rfl), bAt_wr x0 (0 + 2), show ((x0.get! (IntKind.i64.wrap ((0 : Int) + 3)).toNat).toNat : Int) = bAt x0 (0 + 3) from (by rw [show IntKind.i64.wrap ((0 : Int) + 3) = ((0 + 3 : Nat) : Int) from wr_add (a := 0) (k := 3) (by omega)]; rfl), bAt_wr x0 (0 + 3)]
  rfl
theorem r19c02 {N : Nat} {x0 : ByteArray} (hx : x0.size ≤ 900000) (h : 0 < x0.size) (k : bAt x0 0 = 2) (hz : x0.size < 0 + 2) : f19L0r N x0 .s0 = some (.inr .e1) := by
  have q1 : decide ((0 : Int) < (x0.size : Int)) = true := decide_eq_true (by omega)
  have q2 : (decide ((0 : Int) ≤ (0 : Int)) && decide ((0 : Int) < (x0.size : Int))) = true := by
    rw [q1, decide_eq_true (show (0 : Int) ≤ (0 : Int) by omega)]
    rfl
  have hb := bAt_wr x0 0
  have n1 : decide (IntKind.i64.wrap (bAt x0 0) < 1) = false := by rw [hb]; exact decide_eq_false (by omega)
  have n3 : decide (IntKind.i64.wrap (bAt x0 0) > 3) = false := by rw [hb]; exact decide_eq_false (by omega)
  have e1 : (IntKind.i64.wrap (bAt x0 0) == 1) = false := by rw [hb, k]; rfl
  have e2 : (IntKind.i64.wrap (bAt x0 0) == 2) = true := by rw [hb, k]; rfl
  have g : decide (IntKind.i64.wrap ((0 : Int) + 2) > (x0.size : Int)) = true := by
    rw [show IntKind.i64.wrap ((0 : Int) + 2) = ((0 + 2 : Nat) : Int) from wr_add (a := 0) (k := 2) (by omega)]
    exact decide_eq_true (by omega)
  exact bif_true q1 (bif_true q2 (bif_false n1 (bif_false n3 (bif_false e1 (bif_true e2 (bif_true g rfl))))))
theorem r19d02 {N : Nat} (hN : 9 ≤ N) {x0 : ByteArray} (hx : x0.size ≤ 900000) (k : bAt x0 0 = 2) (hz : 0 + 2 ≤ x0.size) : f19L0r N x0 .s0 = some (.inl (.s1 ((0 + 2 : Nat) : Int) ([(dec1 (sfx x0 0)).1]))) := by
  have q1 : decide ((0 : Int) < (x0.size : Int)) = true := decide_eq_true (by omega)
  have q2 : (decide ((0 : Int) ≤ (0 : Int)) && decide ((0 : Int) < (x0.size : Int))) = true := by
    rw [q1, decide_eq_true (show (0 : Int) ≤ (0 : Int) by omega)]
    rfl
  have hb := bAt_wr x0 0
  have n1 : decide (IntKind.i64.wrap (bAt x0 0) < 1) = false := by rw [hb]; exact decide_eq_false (by omega)
  have n3 : decide (IntKind.i64.wrap (bAt x0 0) > 3) = false := by rw [hb]; exact decide_eq_false (by omega)
  have e1 : (IntKind.i64.wrap (bAt x0 0) == 1) = false := by rw [hb, k]; rfl
  have e2 : (IntKind.i64.wrap (bAt x0 0) == 2) = true := by rw [hb, k]; rfl
  have g : decide (IntKind.i64.wrap ((0 : Int) + 2) > (x0.size : Int)) = false := by
    rw [show IntKind.i64.wrap ((0 : Int) + 2) = ((0 + 2 : Nat) : Int) from wr_add (a := 0) (k := 2) (by omega)]
    exact decide_eq_false (by omega)
  have l3 : decide (IntKind.i64.wrap (bAt x0 0) < 3) = true := by rw [hb]; exact decide_eq_true (by omega)
  have p1 : (decide ((0 : Int) ≤ IntKind.i64.wrap ((0 : Int) + 1)) && decide (IntKind.i64.wrap ((0 : Int) + 1) < (x0.size : Int))) = true := by
    rw [show IntKind.i64.wrap ((0 : Int) + 1) = ((0 + 1 : Nat) : Int) from wr_add (a := 0) (k := 1) (by omega), decide_eq_true (show (0 : Int) ≤ ((0 + 1 : Nat) : Int) by omega), decide_eq_true (show ((0 + 1 : Nat) : Int) < (x0.size : Int) by omega)]
    rfl
  refine bif_true q1 (bif_true q2 (bif_false n1 (bif_false n3 (bif_false e1 (bif_true e2 (bif_false g (bif_true l3 (bif_true p1 (bif_false e1 (?_))))))))))
  rw [dec_at2 hz k]
  show some (Sum.inl (f19L0s.s1 (2) ([[PV.int .i64 (IntKind.i64.wrap (bAt x0 0)), PV.int .i64 (IntKind.i64.wrap ((x0.get! (IntKind.i64.wrap ((0 : Int) + 1)).toNat).toNat : Int)), PV.int .i64 0, PV.int .i64 0, PV.int .i64 0]]))) = _
  rw [hb, show ((x0.get! (IntKind.i64.wrap ((0 : Int) + 1)).toNat).toNat : Int) = bAt x0 (0 + 1) from (by rw [show IntKind.i64.wrap ((0 : Int) + 1) = ((0 + 1 : Nat) : Int) from wr_add (a := 0) (k := 1) (by omega)]; rfl), bAt_wr x0 (0 + 1)]
  rfl
theorem r19c03 {N : Nat} {x0 : ByteArray} (hx : x0.size ≤ 900000) (h : 0 < x0.size) (k : bAt x0 0 = 3) (hz : x0.size < 0 + 1) : f19L0r N x0 .s0 = some (.inr .e1) := by
  have q1 : decide ((0 : Int) < (x0.size : Int)) = true := decide_eq_true (by omega)
  have q2 : (decide ((0 : Int) ≤ (0 : Int)) && decide ((0 : Int) < (x0.size : Int))) = true := by
    rw [q1, decide_eq_true (show (0 : Int) ≤ (0 : Int) by omega)]
    rfl
  have hb := bAt_wr x0 0
  have n1 : decide (IntKind.i64.wrap (bAt x0 0) < 1) = false := by rw [hb]; exact decide_eq_false (by omega)
  have n3 : decide (IntKind.i64.wrap (bAt x0 0) > 3) = false := by rw [hb]; exact decide_eq_false (by omega)
  have e1 : (IntKind.i64.wrap (bAt x0 0) == 1) = false := by rw [hb, k]; rfl
  have e2 : (IntKind.i64.wrap (bAt x0 0) == 2) = false := by rw [hb, k]; rfl
  have g : decide (IntKind.i64.wrap ((0 : Int) + 1) > (x0.size : Int)) = true := by
    rw [show IntKind.i64.wrap ((0 : Int) + 1) = ((0 + 1 : Nat) : Int) from wr_add (a := 0) (k := 1) (by omega)]
    exact decide_eq_true (by omega)
  exact bif_true q1 (bif_true q2 (bif_false n1 (bif_false n3 (bif_false e1 (bif_false e2 (bif_true g rfl))))))
theorem r19d03 {N : Nat} (hN : 9 ≤ N) {x0 : ByteArray} (hx : x0.size ≤ 900000) (k : bAt x0 0 = 3) (hz : 0 + 1 ≤ x0.size) : f19L0r N x0 .s0 = some (.inl (.s1 ((0 + 1 : Nat) : Int) ([(dec1 (sfx x0 0)).1]))) := by
  have q1 : decide ((0 : Int) < (x0.size : Int)) = true := decide_eq_true (by omega)
  have q2 : (decide ((0 : Int) ≤ (0 : Int)) && decide ((0 : Int) < (x0.size : Int))) = true := by
    rw [q1, decide_eq_true (show (0 : Int) ≤ (0 : Int) by omega)]
    rfl
  have hb := bAt_wr x0 0
  have n1 : decide (IntKind.i64.wrap (bAt x0 0) < 1) = false := by rw [hb]; exact decide_eq_false (by omega)
  have n3 : decide (IntKind.i64.wrap (bAt x0 0) > 3) = false := by rw [hb]; exact decide_eq_false (by omega)
  have e1 : (IntKind.i64.wrap (bAt x0 0) == 1) = false := by rw [hb, k]; rfl
  have e2 : (IntKind.i64.wrap (bAt x0 0) == 2) = false := by rw [hb, k]; rfl
  have g : decide (IntKind.i64.wrap ((0 : Int) + 1) > (x0.size : Int)) = false := by
    rw [show IntKind.i64.wrap ((0 : Int) + 1) = ((0 + 1 : Nat) : Int) from wr_add (a := 0) (k := 1) (by omega)]
    exact decide_eq_false (by omega)
  have l3 : decide (IntKind.i64.wrap (bAt x0 0) < 3) = false := by rw [hb]; exact decide_eq_false (by omega)
  refine bif_true q1 (bif_true q2 (bif_false n1 (bif_false n3 (bif_false e1 (bif_false e2 (bif_false g (bif_false l3 (bif_false e1 (?_)))))))))
  rw [dec_at3 hz k]
  show some (Sum.inl (f19L0s.s1 (1) ([[PV.int .i64 (IntKind.i64.wrap (bAt x0 0)), PV.int .i64 0, PV.int .i64 0, PV.int .i64 0, PV.int .i64 0]]))) = _
  rw [hb]
  rfl
theorem r19a1 {N : Nat} {x0 : ByteArray} {a : Nat} {out : List (List PV)} (h : x0.size ≤ a) : f19L0r N x0 (.s1 (a : Int) out) = some (.inr (.e5 out)) := bif_false (decide_eq_false (by omega)) rfl
theorem r19b1 {N : Nat} {x0 : ByteArray} {a : Nat} {out : List (List PV)} (h : a < x0.size) (k : bAt x0 a < 1 ∨ 3 < bAt x0 a) : f19L0r N x0 (.s1 (a : Int) out) = some (.inr (.e3 (a : Int) out)) := by
  have q1 : decide ((a : Int) < (x0.size : Int)) = true := decide_eq_true (by omega)
  have q2 : (decide ((0 : Int) ≤ (a : Int)) && decide ((a : Int) < (x0.size : Int))) = true := by
    rw [q1, decide_eq_true (show (0 : Int) ≤ (a : Int) by omega)]
    rfl
  have hb := bAt_wr x0 a
  refine bif_true q1 (bif_true q2 ?_)
  by_cases k1 : bAt x0 a < 1
  · exact bif_true (show decide (IntKind.i64.wrap (bAt x0 a) < 1) = true by rw [hb]; exact decide_eq_true k1) rfl
  · exact bif_false (show decide (IntKind.i64.wrap (bAt x0 a) < 1) = false by rw [hb]; exact decide_eq_false k1) (bif_true (show decide (IntKind.i64.wrap (bAt x0 a) > 3) = true by rw [hb]; exact decide_eq_true (by omega)) rfl)
theorem r19c11 {N : Nat} {x0 : ByteArray} {a : Nat} {out : List (List PV)} (hx : x0.size ≤ 900000) (h : a < x0.size) (k : bAt x0 a = 1) (hz : x0.size < a + 12) : f19L0r N x0 (.s1 (a : Int) out) = some (.inr (.e4 (a : Int) out)) := by
  have q1 : decide ((a : Int) < (x0.size : Int)) = true := decide_eq_true (by omega)
  have q2 : (decide ((0 : Int) ≤ (a : Int)) && decide ((a : Int) < (x0.size : Int))) = true := by
    rw [q1, decide_eq_true (show (0 : Int) ≤ (a : Int) by omega)]
    rfl
  have hb := bAt_wr x0 a
  have n1 : decide (IntKind.i64.wrap (bAt x0 a) < 1) = false := by rw [hb]; exact decide_eq_false (by omega)
  have n3 : decide (IntKind.i64.wrap (bAt x0 a) > 3) = false := by rw [hb]; exact decide_eq_false (by omega)
  have e1 : (IntKind.i64.wrap (bAt x0 a) == 1) = true := by rw [hb, k]; rfl
  have g : decide (IntKind.i64.wrap ((a : Int) + 12) > (x0.size : Int)) = true := by
    rw [show IntKind.i64.wrap ((a : Int) + 12) = ((a + 12 : Nat) : Int) from wr_add (a := a) (k := 12) (by omega)]
    exact decide_eq_true (by omega)
  exact bif_true q1 (bif_true q2 (bif_false n1 (bif_false n3 (bif_true e1 (bif_true g rfl)))))
theorem r19d11 {N : Nat} (hN : 9 ≤ N) {x0 : ByteArray} {a : Nat} {out : List (List PV)} (hx : x0.size ≤ 900000) (ho : out.length ≤ 900000) (k : bAt x0 a = 1) (hz : a + 12 ≤ x0.size) : f19L0r N x0 (.s1 (a : Int) out) = some (.inl (.s2 ((a + 12 : Nat) : Int) (out ++ [(dec1 (sfx x0 a)).1]))) := by
  have q1 : decide ((a : Int) < (x0.size : Int)) = true := decide_eq_true (by omega)
  have q2 : (decide ((0 : Int) ≤ (a : Int)) && decide ((a : Int) < (x0.size : Int))) = true := by
    rw [q1, decide_eq_true (show (0 : Int) ≤ (a : Int) by omega)]
    rfl
  have hb := bAt_wr x0 a
  have n1 : decide (IntKind.i64.wrap (bAt x0 a) < 1) = false := by rw [hb]; exact decide_eq_false (by omega)
  have n3 : decide (IntKind.i64.wrap (bAt x0 a) > 3) = false := by rw [hb]; exact decide_eq_false (by omega)
  have e1 : (IntKind.i64.wrap (bAt x0 a) == 1) = true := by rw [hb, k]; rfl
  have g : decide (IntKind.i64.wrap ((a : Int) + 12) > (x0.size : Int)) = false := by
    rw [show IntKind.i64.wrap ((a : Int) + 12) = ((a + 12 : Nat) : Int) from wr_add (a := a) (k := 12) (by omega)]
    exact decide_eq_false (by omega)
  have l3 : decide (IntKind.i64.wrap (bAt x0 a) < 3) = true := by rw [hb]; exact decide_eq_true (by omega)
  have p1 : (decide ((0 : Int) ≤ IntKind.i64.wrap ((a : Int) + 1)) && decide (IntKind.i64.wrap ((a : Int) + 1) < (x0.size : Int))) = true := by
    rw [show IntKind.i64.wrap ((a : Int) + 1) = ((a + 1 : Nat) : Int) from wr_add (a := a) (k := 1) (by omega), decide_eq_true (show (0 : Int) ≤ ((a + 1 : Nat) : Int) by omega), decide_eq_true (show ((a + 1 : Nat) : Int) < (x0.size : Int) by omega)]
    rfl
  have p2 : (decide ((0 : Int) ≤ IntKind.i64.wrap ((a : Int) + 2)) && decide (IntKind.i64.wrap ((a : Int) + 2) < (x0.size : Int))) = true := by
    rw [show IntKind.i64.wrap ((a : Int) + 2) = ((a + 2 : Nat) : Int) from wr_add (a := a) (k := 2) (by omega), decide_eq_true (show (0 : Int) ≤ ((a + 2 : Nat) : Int) by omega), decide_eq_true (show ((a + 2 : Nat) : Int) < (x0.size : Int) by omega)]
    rfl
  have p3 : (decide ((0 : Int) ≤ IntKind.i64.wrap ((a : Int) + 3)) && decide (IntKind.i64.wrap ((a : Int) + 3) < (x0.size : Int))) = true := by
    rw [show IntKind.i64.wrap ((a : Int) + 3) = ((a + 3 : Nat) : Int) from wr_add (a := a) (k := 3) (by omega), decide_eq_true (show (0 : Int) ≤ ((a + 3 : Nat) : Int) by omega), decide_eq_true (show ((a + 3 : Nat) : Int) < (x0.size : Int) by omega)]
    rfl
  refine bif_true q1 (bif_true q2 (bif_false n1 (bif_false n3 (bif_true e1 (bif_false g (bif_true l3 (bif_true p1 (bif_true e1 (bif_true p2 (?_))))))))))
  rw [dec_at1 hz k]
  have hl := in19L383 (N := N) (out := out) hz hx 8 0 (by omega)
  have hl2 := loopN_more _ _ _ hl (N - 9)
  rw [show 8 + 1 + (N - 9) = N by omega] at hl2
  show (loopN (f19L0iL383r N x0 (a : Int) out) N (.s0 (accB x0 a 0) ((0 : Nat) : Int))).bind _ = _
  rw [hl2]
  refine run_true p3 (run_true (decide_eq_true (show out.length + 1 ≤ 1000000 by omega)) ?_)
  show some (Sum.inl (f19L0s.s2 (IntKind.i64.wrap ((a : Int) + 12)) (out ++ [[PV.int .i64 (IntKind.i64.wrap (bAt x0 a)), PV.int .i64 (IntKind.i64.wrap ((x0.get! (IntKind.i64.wrap ((a : Int) + 1)).toNat).toNat : Int)), PV.int .i64 (IntKind.i64.wrap ((x0.get! (IntKind.i64.wrap ((a : Int) + 2)).toNat).toNat : Int)), PV.int .i64 (IntKind.i64.wrap ((x0.get! (IntKind.i64.wrap ((a : Int) + 3)).toNat).toNat : Int)), PV.int .i64 (IntKind.i64.wrap (accB x0 a 8))]]))) = _
  rw [hb, show ((x0.get! (IntKind.i64.wrap ((a : Int) + 1)).toNat).toNat : Int) = bAt x0 (a + 1) from (by rw [show IntKind.i64.wrap ((a : Int) + 1) = ((a + 1 : Nat) : Int) from wr_add (a := a) (k := 1) (by omega)]; rfl), bAt_wr x0 (a + 1), show ((x0.get! (IntKind.i64.wrap ((a : Int) + 2)).toNat).toNat : Int) = bAt x0 (a + 2) from (by rw [show IntKind.i64.wrap ((a : Int) + 2) = ((a + 2 : Nat) : Int) from wr_add (a := a) (k := 2) (by omega)]; rfl), bAt_wr x0 (a + 2), show ((x0.get! (IntKind.i64.wrap ((a : Int) + 3)).toNat).toNat : Int) = bAt x0 (a + 3) from (by rw [show IntKind.i64.wrap ((a : Int) + 3) = ((a + 3 : Nat) : Int) from wr_add (a := a) (k := 3) (by omega)]; rfl), bAt_wr x0 (a + 3), show IntKind.i64.wrap ((a : Int) + 12) = ((a + 12 : Nat) : Int) from wr_add (a := a) (k := 12) (by omega)]
  rfl
theorem r19c12 {N : Nat} {x0 : ByteArray} {a : Nat} {out : List (List PV)} (hx : x0.size ≤ 900000) (h : a < x0.size) (k : bAt x0 a = 2) (hz : x0.size < a + 2) : f19L0r N x0 (.s1 (a : Int) out) = some (.inr (.e4 (a : Int) out)) := by
  have q1 : decide ((a : Int) < (x0.size : Int)) = true := decide_eq_true (by omega)
  have q2 : (decide ((0 : Int) ≤ (a : Int)) && decide ((a : Int) < (x0.size : Int))) = true := by
    rw [q1, decide_eq_true (show (0 : Int) ≤ (a : Int) by omega)]
    rfl
  have hb := bAt_wr x0 a
  have n1 : decide (IntKind.i64.wrap (bAt x0 a) < 1) = false := by rw [hb]; exact decide_eq_false (by omega)
  have n3 : decide (IntKind.i64.wrap (bAt x0 a) > 3) = false := by rw [hb]; exact decide_eq_false (by omega)
  have e1 : (IntKind.i64.wrap (bAt x0 a) == 1) = false := by rw [hb, k]; rfl
  have e2 : (IntKind.i64.wrap (bAt x0 a) == 2) = true := by rw [hb, k]; rfl
  have g : decide (IntKind.i64.wrap ((a : Int) + 2) > (x0.size : Int)) = true := by
    rw [show IntKind.i64.wrap ((a : Int) + 2) = ((a + 2 : Nat) : Int) from wr_add (a := a) (k := 2) (by omega)]
    exact decide_eq_true (by omega)
  exact bif_true q1 (bif_true q2 (bif_false n1 (bif_false n3 (bif_false e1 (bif_true e2 (bif_true g rfl))))))
theorem r19d12 {N : Nat} (hN : 9 ≤ N) {x0 : ByteArray} {a : Nat} {out : List (List PV)} (hx : x0.size ≤ 900000) (ho : out.length ≤ 900000) (k : bAt x0 a = 2) (hz : a + 2 ≤ x0.size) : f19L0r N x0 (.s1 (a : Int) out) = some (.inl (.s2 ((a + 2 : Nat) : Int) (out ++ [(dec1 (sfx x0 a)).1]))) := by
  have q1 : decide ((a : Int) < (x0.size : Int)) = true := decide_eq_true (by omega)
  have q2 : (decide ((0 : Int) ≤ (a : Int)) && decide ((a : Int) < (x0.size : Int))) = true := by
    rw [q1, decide_eq_true (show (0 : Int) ≤ (a : Int) by omega)]
    rfl
  have hb := bAt_wr x0 a
  have n1 : decide (IntKind.i64.wrap (bAt x0 a) < 1) = false := by rw [hb]; exact decide_eq_false (by omega)
  have n3 : decide (IntKind.i64.wrap (bAt x0 a) > 3) = false := by rw [hb]; exact decide_eq_false (by omega)
  have e1 : (IntKind.i64.wrap (bAt x0 a) == 1) = false := by rw [hb, k]; rfl
  have e2 : (IntKind.i64.wrap (bAt x0 a) == 2) = true := by rw [hb, k]; rfl
  have g : decide (IntKind.i64.wrap ((a : Int) + 2) > (x0.size : Int)) = false := by
    rw [show IntKind.i64.wrap ((a : Int) + 2) = ((a + 2 : Nat) : Int) from wr_add (a := a) (k := 2) (by omega)]
    exact decide_eq_false (by omega)
  have l3 : decide (IntKind.i64.wrap (bAt x0 a) < 3) = true := by rw [hb]; exact decide_eq_true (by omega)
  have p1 : (decide ((0 : Int) ≤ IntKind.i64.wrap ((a : Int) + 1)) && decide (IntKind.i64.wrap ((a : Int) + 1) < (x0.size : Int))) = true := by
    rw [show IntKind.i64.wrap ((a : Int) + 1) = ((a + 1 : Nat) : Int) from wr_add (a := a) (k := 1) (by omega), decide_eq_true (show (0 : Int) ≤ ((a + 1 : Nat) : Int) by omega), decide_eq_true (show ((a + 1 : Nat) : Int) < (x0.size : Int) by omega)]
    rfl
  refine bif_true q1 (bif_true q2 (bif_false n1 (bif_false n3 (bif_false e1 (bif_true e2 (bif_false g (bif_true l3 (bif_true p1 (bif_false e1 (?_))))))))))
  rw [dec_at2 hz k]
  refine run_true (decide_eq_true (show out.length + 1 ≤ 1000000 by omega)) ?_
  show some (Sum.inl (f19L0s.s2 (IntKind.i64.wrap ((a : Int) + 2)) (out ++ [[PV.int .i64 (IntKind.i64.wrap (bAt x0 a)), PV.int .i64 (IntKind.i64.wrap ((x0.get! (IntKind.i64.wrap ((a : Int) + 1)).toNat).toNat : Int)), PV.int .i64 0, PV.int .i64 0, PV.int .i64 0]]))) = _
  rw [hb, show ((x0.get! (IntKind.i64.wrap ((a : Int) + 1)).toNat).toNat : Int) = bAt x0 (a + 1) from (by rw [show IntKind.i64.wrap ((a : Int) + 1) = ((a + 1 : Nat) : Int) from wr_add (a := a) (k := 1) (by omega)]; rfl), bAt_wr x0 (a + 1), show IntKind.i64.wrap ((a : Int) + 2) = ((a + 2 : Nat) : Int) from wr_add (a := a) (k := 2) (by omega)]
  rfl
theorem r19c13 {N : Nat} {x0 : ByteArray} {a : Nat} {out : List (List PV)} (hx : x0.size ≤ 900000) (h : a < x0.size) (k : bAt x0 a = 3) (hz : x0.size < a + 1) : f19L0r N x0 (.s1 (a : Int) out) = some (.inr (.e4 (a : Int) out)) := by
  have q1 : decide ((a : Int) < (x0.size : Int)) = true := decide_eq_true (by omega)
  have q2 : (decide ((0 : Int) ≤ (a : Int)) && decide ((a : Int) < (x0.size : Int))) = true := by
    rw [q1, decide_eq_true (show (0 : Int) ≤ (a : Int) by omega)]
    rfl
  have hb := bAt_wr x0 a
  have n1 : decide (IntKind.i64.wrap (bAt x0 a) < 1) = false := by rw [hb]; exact decide_eq_false (by omega)
  have n3 : decide (IntKind.i64.wrap (bAt x0 a) > 3) = false := by rw [hb]; exact decide_eq_false (by omega)
  have e1 : (IntKind.i64.wrap (bAt x0 a) == 1) = false := by rw [hb, k]; rfl
  have e2 : (IntKind.i64.wrap (bAt x0 a) == 2) = false := by rw [hb, k]; rfl
  have g : decide (IntKind.i64.wrap ((a : Int) + 1) > (x0.size : Int)) = true := by
    rw [show IntKind.i64.wrap ((a : Int) + 1) = ((a + 1 : Nat) : Int) from wr_add (a := a) (k := 1) (by omega)]
    exact decide_eq_true (by omega)
  exact bif_true q1 (bif_true q2 (bif_false n1 (bif_false n3 (bif_false e1 (bif_false e2 (bif_true g rfl))))))
theorem r19d13 {N : Nat} (hN : 9 ≤ N) {x0 : ByteArray} {a : Nat} {out : List (List PV)} (hx : x0.size ≤ 900000) (ho : out.length ≤ 900000) (k : bAt x0 a = 3) (hz : a + 1 ≤ x0.size) : f19L0r N x0 (.s1 (a : Int) out) = some (.inl (.s2 ((a + 1 : Nat) : Int) (out ++ [(dec1 (sfx x0 a)).1]))) := by
  have q1 : decide ((a : Int) < (x0.size : Int)) = true := decide_eq_true (by omega)
  have q2 : (decide ((0 : Int) ≤ (a : Int)) && decide ((a : Int) < (x0.size : Int))) = true := by
    rw [q1, decide_eq_true (show (0 : Int) ≤ (a : Int) by omega)]
    rfl
  have hb := bAt_wr x0 a
  have n1 : decide (IntKind.i64.wrap (bAt x0 a) < 1) = false := by rw [hb]; exact decide_eq_false (by omega)
  have n3 : decide (IntKind.i64.wrap (bAt x0 a) > 3) = false := by rw [hb]; exact decide_eq_false (by omega)
  have e1 : (IntKind.i64.wrap (bAt x0 a) == 1) = false := by rw [hb, k]; rfl
  have e2 : (IntKind.i64.wrap (bAt x0 a) == 2) = false := by rw [hb, k]; rfl
  have g : decide (IntKind.i64.wrap ((a : Int) + 1) > (x0.size : Int)) = false := by
    rw [show IntKind.i64.wrap ((a : Int) + 1) = ((a + 1 : Nat) : Int) from wr_add (a := a) (k := 1) (by omega)]
    exact decide_eq_false (by omega)
  have l3 : decide (IntKind.i64.wrap (bAt x0 a) < 3) = false := by rw [hb]; exact decide_eq_false (by omega)
  refine bif_true q1 (bif_true q2 (bif_false n1 (bif_false n3 (bif_false e1 (bif_false e2 (bif_false g (bif_false l3 (bif_false e1 (?_)))))))))
  rw [dec_at3 hz k]
  refine run_true (decide_eq_true (show out.length + 1 ≤ 1000000 by omega)) ?_
  show some (Sum.inl (f19L0s.s2 (IntKind.i64.wrap ((a : Int) + 1)) (out ++ [[PV.int .i64 (IntKind.i64.wrap (bAt x0 a)), PV.int .i64 0, PV.int .i64 0, PV.int .i64 0, PV.int .i64 0]]))) = _
  rw [hb, show IntKind.i64.wrap ((a : Int) + 1) = ((a + 1 : Nat) : Int) from wr_add (a := a) (k := 1) (by omega)]
  rfl
theorem r19a2 {N : Nat} {x0 : ByteArray} {a : Nat} {out : List (List PV)} (h : x0.size ≤ a) : f19L0r N x0 (.s2 (a : Int) out) = some (.inr (.e8 out)) := bif_false (decide_eq_false (by omega)) rfl
theorem r19b2 {N : Nat} {x0 : ByteArray} {a : Nat} {out : List (List PV)} (h : a < x0.size) (k : bAt x0 a < 1 ∨ 3 < bAt x0 a) : f19L0r N x0 (.s2 (a : Int) out) = some (.inr (.e6 (a : Int) out)) := by
  have q1 : decide ((a : Int) < (x0.size : Int)) = true := decide_eq_true (by omega)
  have q2 : (decide ((0 : Int) ≤ (a : Int)) && decide ((a : Int) < (x0.size : Int))) = true := by
    rw [q1, decide_eq_true (show (0 : Int) ≤ (a : Int) by omega)]
    rfl
  have hb := bAt_wr x0 a
  refine bif_true q1 (bif_true q2 ?_)
  by_cases k1 : bAt x0 a < 1
  · exact bif_true (show decide (IntKind.i64.wrap (bAt x0 a) < 1) = true by rw [hb]; exact decide_eq_true k1) rfl
  · exact bif_false (show decide (IntKind.i64.wrap (bAt x0 a) < 1) = false by rw [hb]; exact decide_eq_false k1) (bif_true (show decide (IntKind.i64.wrap (bAt x0 a) > 3) = true by rw [hb]; exact decide_eq_true (by omega)) rfl)
theorem r19c21 {N : Nat} {x0 : ByteArray} {a : Nat} {out : List (List PV)} (hx : x0.size ≤ 900000) (h : a < x0.size) (k : bAt x0 a = 1) (hz : x0.size < a + 12) : f19L0r N x0 (.s2 (a : Int) out) = some (.inr (.e7 (a : Int) out)) := by
  have q1 : decide ((a : Int) < (x0.size : Int)) = true := decide_eq_true (by omega)
  have q2 : (decide ((0 : Int) ≤ (a : Int)) && decide ((a : Int) < (x0.size : Int))) = true := by
    rw [q1, decide_eq_true (show (0 : Int) ≤ (a : Int) by omega)]
    rfl
  have hb := bAt_wr x0 a
  have n1 : decide (IntKind.i64.wrap (bAt x0 a) < 1) = false := by rw [hb]; exact decide_eq_false (by omega)
  have n3 : decide (IntKind.i64.wrap (bAt x0 a) > 3) = false := by rw [hb]; exact decide_eq_false (by omega)
  have e1 : (IntKind.i64.wrap (bAt x0 a) == 1) = true := by rw [hb, k]; rfl
  have g : decide (IntKind.i64.wrap ((a : Int) + 12) > (x0.size : Int)) = true := by
    rw [show IntKind.i64.wrap ((a : Int) + 12) = ((a + 12 : Nat) : Int) from wr_add (a := a) (k := 12) (by omega)]
    exact decide_eq_true (by omega)
  exact bif_true q1 (bif_true q2 (bif_false n1 (bif_false n3 (bif_true e1 (bif_true g rfl)))))
theorem r19d21 {N : Nat} (hN : 9 ≤ N) {x0 : ByteArray} {a : Nat} {out : List (List PV)} (hx : x0.size ≤ 900000) (ho : out.length ≤ 900000) (k : bAt x0 a = 1) (hz : a + 12 ≤ x0.size) : f19L0r N x0 (.s2 (a : Int) out) = some (.inl (.s2 ((a + 12 : Nat) : Int) (out ++ [(dec1 (sfx x0 a)).1]))) := by
  have q1 : decide ((a : Int) < (x0.size : Int)) = true := decide_eq_true (by omega)
  have q2 : (decide ((0 : Int) ≤ (a : Int)) && decide ((a : Int) < (x0.size : Int))) = true := by
    rw [q1, decide_eq_true (show (0 : Int) ≤ (a : Int) by omega)]
    rfl
  have hb := bAt_wr x0 a
  have n1 : decide (IntKind.i64.wrap (bAt x0 a) < 1) = false := by rw [hb]; exact decide_eq_false (by omega)
  have n3 : decide (IntKind.i64.wrap (bAt x0 a) > 3) = false := by rw [hb]; exact decide_eq_false (by omega)
  have e1 : (IntKind.i64.wrap (bAt x0 a) == 1) = true := by rw [hb, k]; rfl
  have g : decide (IntKind.i64.wrap ((a : Int) + 12) > (x0.size : Int)) = false := by
    rw [show IntKind.i64.wrap ((a : Int) + 12) = ((a + 12 : Nat) : Int) from wr_add (a := a) (k := 12) (by omega)]
    exact decide_eq_false (by omega)
  have l3 : decide (IntKind.i64.wrap (bAt x0 a) < 3) = true := by rw [hb]; exact decide_eq_true (by omega)
  have p1 : (decide ((0 : Int) ≤ IntKind.i64.wrap ((a : Int) + 1)) && decide (IntKind.i64.wrap ((a : Int) + 1) < (x0.size : Int))) = true := by
    rw [show IntKind.i64.wrap ((a : Int) + 1) = ((a + 1 : Nat) : Int) from wr_add (a := a) (k := 1) (by omega), decide_eq_true (show (0 : Int) ≤ ((a + 1 : Nat) : Int) by omega), decide_eq_true (show ((a + 1 : Nat) : Int) < (x0.size : Int) by omega)]
    rfl
  have p2 : (decide ((0 : Int) ≤ IntKind.i64.wrap ((a : Int) + 2)) && decide (IntKind.i64.wrap ((a : Int) + 2) < (x0.size : Int))) = true := by
    rw [show IntKind.i64.wrap ((a : Int) + 2) = ((a + 2 : Nat) : Int) from wr_add (a := a) (k := 2) (by omega), decide_eq_true (show (0 : Int) ≤ ((a + 2 : Nat) : Int) by omega), decide_eq_true (show ((a + 2 : Nat) : Int) < (x0.size : Int) by omega)]
    rfl
  have p3 : (decide ((0 : Int) ≤ IntKind.i64.wrap ((a : Int) + 3)) && decide (IntKind.i64.wrap ((a : Int) + 3) < (x0.size : Int))) = true := by
    rw [show IntKind.i64.wrap ((a : Int) + 3) = ((a + 3 : Nat) : Int) from wr_add (a := a) (k := 3) (by omega), decide_eq_true (show (0 : Int) ≤ ((a + 3 : Nat) : Int) by omega), decide_eq_true (show ((a + 3 : Nat) : Int) < (x0.size : Int) by omega)]
    rfl
  refine bif_true q1 (bif_true q2 (bif_false n1 (bif_false n3 (bif_true e1 (bif_false g (bif_true l3 (bif_true p1 (bif_true e1 (bif_true p2 (?_))))))))))
  rw [dec_at1 hz k]
  have hl := in19L469 (N := N) (out := out) hz hx 8 0 (by omega)
  have hl2 := loopN_more _ _ _ hl (N - 9)
  rw [show 8 + 1 + (N - 9) = N by omega] at hl2
  show (loopN (f19L0iL469r N x0 (a : Int) out) N (.s0 (accB x0 a 0) ((0 : Nat) : Int))).bind _ = _
  rw [hl2]
  refine run_true p3 (run_true (decide_eq_true (show out.length + 1 ≤ 1000000 by omega)) ?_)
  show some (Sum.inl (f19L0s.s2 (IntKind.i64.wrap ((a : Int) + 12)) (out ++ [[PV.int .i64 (IntKind.i64.wrap (bAt x0 a)), PV.int .i64 (IntKind.i64.wrap ((x0.get! (IntKind.i64.wrap ((a : Int) + 1)).toNat).toNat : Int)), PV.int .i64 (IntKind.i64.wrap ((x0.get! (IntKind.i64.wrap ((a : Int) + 2)).toNat).toNat : Int)), PV.int .i64 (IntKind.i64.wrap ((x0.get! (IntKind.i64.wrap ((a : Int) + 3)).toNat).toNat : Int)), PV.int .i64 (IntKind.i64.wrap (accB x0 a 8))]]))) = _
  rw [hb, show ((x0.get! (IntKind.i64.wrap ((a : Int) + 1)).toNat).toNat : Int) = bAt x0 (a + 1) from (by rw [show IntKind.i64.wrap ((a : Int) + 1) = ((a + 1 : Nat) : Int) from wr_add (a := a) (k := 1) (by omega)]; rfl), bAt_wr x0 (a + 1), show ((x0.get! (IntKind.i64.wrap ((a : Int) + 2)).toNat).toNat : Int) = bAt x0 (a + 2) from (by rw [show IntKind.i64.wrap ((a : Int) + 2) = ((a + 2 : Nat) : Int) from wr_add (a := a) (k := 2) (by omega)]; rfl), bAt_wr x0 (a + 2), show ((x0.get! (IntKind.i64.wrap ((a : Int) + 3)).toNat).toNat : Int) = bAt x0 (a + 3) from (by rw [show IntKind.i64.wrap ((a : Int) + 3) = ((a + 3 : Nat) : Int) from wr_add (a := a) (k := 3) (by omega)]; rfl), bAt_wr x0 (a + 3), show IntKind.i64.wrap ((a : Int) + 12) = ((a + 12 : Nat) : Int) from wr_add (a := a) (k := 12) (by omega)]
  rfl
theorem r19c22 {N : Nat} {x0 : ByteArray} {a : Nat} {out : List (List PV)} (hx : x0.size ≤ 900000) (h : a < x0.size) (k : bAt x0 a = 2) (hz : x0.size < a + 2) : f19L0r N x0 (.s2 (a : Int) out) = some (.inr (.e7 (a : Int) out)) := by
  have q1 : decide ((a : Int) < (x0.size : Int)) = true := decide_eq_true (by omega)
  have q2 : (decide ((0 : Int) ≤ (a : Int)) && decide ((a : Int) < (x0.size : Int))) = true := by
    rw [q1, decide_eq_true (show (0 : Int) ≤ (a : Int) by omega)]
    rfl
  have hb := bAt_wr x0 a
  have n1 : decide (IntKind.i64.wrap (bAt x0 a) < 1) = false := by rw [hb]; exact decide_eq_false (by omega)
  have n3 : decide (IntKind.i64.wrap (bAt x0 a) > 3) = false := by rw [hb]; exact decide_eq_false (by omega)
  have e1 : (IntKind.i64.wrap (bAt x0 a) == 1) = false := by rw [hb, k]; rfl
  have e2 : (IntKind.i64.wrap (bAt x0 a) == 2) = true := by rw [hb, k]; rfl
  have g : decide (IntKind.i64.wrap ((a : Int) + 2) > (x0.size : Int)) = true := by
    rw [show IntKind.i64.wrap ((a : Int) + 2) = ((a + 2 : Nat) : Int) from wr_add (a := a) (k := 2) (by omega)]
    exact decide_eq_true (by omega)
  exact bif_true q1 (bif_true q2 (bif_false n1 (bif_false n3 (bif_false e1 (bif_true e2 (bif_true g rfl))))))
theorem r19d22 {N : Nat} (hN : 9 ≤ N) {x0 : ByteArray} {a : Nat} {out : List (List PV)} (hx : x0.size ≤ 900000) (ho : out.length ≤ 900000) (k : bAt x0 a = 2) (hz : a + 2 ≤ x0.size) : f19L0r N x0 (.s2 (a : Int) out) = some (.inl (.s2 ((a + 2 : Nat) : Int) (out ++ [(dec1 (sfx x0 a)).1]))) := by
  have q1 : decide ((a : Int) < (x0.size : Int)) = true := decide_eq_true (by omega)
  have q2 : (decide ((0 : Int) ≤ (a : Int)) && decide ((a : Int) < (x0.size : Int))) = true := by
    rw [q1, decide_eq_true (show (0 : Int) ≤ (a : Int) by omega)]
    rfl
  have hb := bAt_wr x0 a
  have n1 : decide (IntKind.i64.wrap (bAt x0 a) < 1) = false := by rw [hb]; exact decide_eq_false (by omega)
  have n3 : decide (IntKind.i64.wrap (bAt x0 a) > 3) = false := by rw [hb]; exact decide_eq_false (by omega)
  have e1 : (IntKind.i64.wrap (bAt x0 a) == 1) = false := by rw [hb, k]; rfl
  have e2 : (IntKind.i64.wrap (bAt x0 a) == 2) = true := by rw [hb, k]; rfl
  have g : decide (IntKind.i64.wrap ((a : Int) + 2) > (x0.size : Int)) = false := by
    rw [show IntKind.i64.wrap ((a : Int) + 2) = ((a + 2 : Nat) : Int) from wr_add (a := a) (k := 2) (by omega)]
    exact decide_eq_false (by omega)
  have l3 : decide (IntKind.i64.wrap (bAt x0 a) < 3) = true := by rw [hb]; exact decide_eq_true (by omega)
  have p1 : (decide ((0 : Int) ≤ IntKind.i64.wrap ((a : Int) + 1)) && decide (IntKind.i64.wrap ((a : Int) + 1) < (x0.size : Int))) = true := by
    rw [show IntKind.i64.wrap ((a : Int) + 1) = ((a + 1 : Nat) : Int) from wr_add (a := a) (k := 1) (by omega), decide_eq_true (show (0 : Int) ≤ ((a + 1 : Nat) : Int) by omega), decide_eq_true (show ((a + 1 : Nat) : Int) < (x0.size : Int) by omega)]
    rfl
  refine bif_true q1 (bif_true q2 (bif_false n1 (bif_false n3 (bif_false e1 (bif_true e2 (bif_false g (bif_true l3 (bif_true p1 (bif_false e1 (?_))))))))))
  rw [dec_at2 hz k]
  refine run_true (decide_eq_true (show out.length + 1 ≤ 1000000 by omega)) ?_
  show some (Sum.inl (f19L0s.s2 (IntKind.i64.wrap ((a : Int) + 2)) (out ++ [[PV.int .i64 (IntKind.i64.wrap (bAt x0 a)), PV.int .i64 (IntKind.i64.wrap ((x0.get! (IntKind.i64.wrap ((a : Int) + 1)).toNat).toNat : Int)), PV.int .i64 0, PV.int .i64 0, PV.int .i64 0]]))) = _
  rw [hb, show ((x0.get! (IntKind.i64.wrap ((a : Int) + 1)).toNat).toNat : Int) = bAt x0 (a + 1) from (by rw [show IntKind.i64.wrap ((a : Int) + 1) = ((a + 1 : Nat) : Int) from wr_add (a := a) (k := 1) (by omega)]; rfl), bAt_wr x0 (a + 1), show IntKind.i64.wrap ((a : Int) + 2) = ((a + 2 : Nat) : Int) from wr_add (a := a) (k := 2) (by omega)]
  rfl
theorem r19c23 {N : Nat} {x0 : ByteArray} {a : Nat} {out : List (List PV)} (hx : x0.size ≤ 900000) (h : a < x0.size) (k : bAt x0 a = 3) (hz : x0.size < a + 1) : f19L0r N x0 (.s2 (a : Int) out) = some (.inr (.e7 (a : Int) out)) := by
  have q1 : decide ((a : Int) < (x0.size : Int)) = true := decide_eq_true (by omega)
  have q2 : (decide ((0 : Int) ≤ (a : Int)) && decide ((a : Int) < (x0.size : Int))) = true := by
    rw [q1, decide_eq_true (show (0 : Int) ≤ (a : Int) by omega)]
    rfl
  have hb := bAt_wr x0 a
  have n1 : decide (IntKind.i64.wrap (bAt x0 a) < 1) = false := by rw [hb]; exact decide_eq_false (by omega)
  have n3 : decide (IntKind.i64.wrap (bAt x0 a) > 3) = false := by rw [hb]; exact decide_eq_false (by omega)
  have e1 : (IntKind.i64.wrap (bAt x0 a) == 1) = false := by rw [hb, k]; rfl
  have e2 : (IntKind.i64.wrap (bAt x0 a) == 2) = false := by rw [hb, k]; rfl
  have g : decide (IntKind.i64.wrap ((a : Int) + 1) > (x0.size : Int)) = true := by
    rw [show IntKind.i64.wrap ((a : Int) + 1) = ((a + 1 : Nat) : Int) from wr_add (a := a) (k := 1) (by omega)]
    exact decide_eq_true (by omega)
  exact bif_true q1 (bif_true q2 (bif_false n1 (bif_false n3 (bif_false e1 (bif_false e2 (bif_true g rfl))))))
theorem r19d23 {N : Nat} (hN : 9 ≤ N) {x0 : ByteArray} {a : Nat} {out : List (List PV)} (hx : x0.size ≤ 900000) (ho : out.length ≤ 900000) (k : bAt x0 a = 3) (hz : a + 1 ≤ x0.size) : f19L0r N x0 (.s2 (a : Int) out) = some (.inl (.s2 ((a + 1 : Nat) : Int) (out ++ [(dec1 (sfx x0 a)).1]))) := by
  have q1 : decide ((a : Int) < (x0.size : Int)) = true := decide_eq_true (by omega)
  have q2 : (decide ((0 : Int) ≤ (a : Int)) && decide ((a : Int) < (x0.size : Int))) = true := by
    rw [q1, decide_eq_true (show (0 : Int) ≤ (a : Int) by omega)]
    rfl
  have hb := bAt_wr x0 a
  have n1 : decide (IntKind.i64.wrap (bAt x0 a) < 1) = false := by rw [hb]; exact decide_eq_false (by omega)
  have n3 : decide (IntKind.i64.wrap (bAt x0 a) > 3) = false := by rw [hb]; exact decide_eq_false (by omega)
  have e1 : (IntKind.i64.wrap (bAt x0 a) == 1) = false := by rw [hb, k]; rfl
  have e2 : (IntKind.i64.wrap (bAt x0 a) == 2) = false := by rw [hb, k]; rfl
  have g : decide (IntKind.i64.wrap ((a : Int) + 1) > (x0.size : Int)) = false := by
    rw [show IntKind.i64.wrap ((a : Int) + 1) = ((a + 1 : Nat) : Int) from wr_add (a := a) (k := 1) (by omega)]
    exact decide_eq_false (by omega)
  have l3 : decide (IntKind.i64.wrap (bAt x0 a) < 3) = false := by rw [hb]; exact decide_eq_false (by omega)
  refine bif_true q1 (bif_true q2 (bif_false n1 (bif_false n3 (bif_false e1 (bif_false e2 (bif_false g (bif_false l3 (bif_false e1 (?_)))))))))
  rw [dec_at3 hz k]
  refine run_true (decide_eq_true (show out.length + 1 ≤ 1000000 by omega)) ?_
  show some (Sum.inl (f19L0s.s2 (IntKind.i64.wrap ((a : Int) + 1)) (out ++ [[PV.int .i64 (IntKind.i64.wrap (bAt x0 a)), PV.int .i64 0, PV.int .i64 0, PV.int .i64 0, PV.int .i64 0]]))) = _
  rw [hb, show IntKind.i64.wrap ((a : Int) + 1) = ((a + 1 : Nat) : Int) from wr_add (a := a) (k := 1) (by omega)]
  rfl
/-- What is handed back behind the loop. -/
noncomputable def back19 : f19L0e → Option f19o
  | .e0 => Tr.run (.ret (.r0 ([]) ((0 : Int)) ((90 : Int))))
  | .e1 => Tr.run (.ret (.r0 ([]) ((0 : Int)) ((94 : Int))))
  | .e2 => Tr.run (.ret (.r0 ([]) ((0 : Int)) ((0 : Int))))
  | .e3 w _ => Tr.run (.ret (.r0 ([]) (w) ((90 : Int))))
  | .e4 w _ => Tr.run (.ret (.r0 ([]) (w) ((94 : Int))))
  | .e5 w => Tr.run (.ret (.r0 (w) ((0 : Int)) ((0 : Int))))
  | .e6 w _ => Tr.run (.ret (.r0 ([]) (w) ((90 : Int))))
  | .e7 w _ => Tr.run (.ret (.r0 ([]) (w) ((94 : Int))))
  | .e8 w => Tr.run (.ret (.r0 (w) ((0 : Int)) ((0 : Int))))
theorem f19_eq (N : Nat) (x0 : ByteArray) : f19 N x0 = (loopN (f19L0r N x0) N .s0).bind back19 := by
  unfold f19
  congr 1
def out19 (r : List (List PV) × Int × Int) : f19o := ⟨r.1, r.2.1, r.2.2⟩
theorem size_back {x0 : ByteArray} {a : Nat} (h : a ≤ x0.size) : (x0.size : Int) - ((sfx x0 a).size : Int) = (a : Int) := by
  rw [sfx_size]; omega
theorem dec19_loop2 {N : Nat} {x0 : ByteArray} (hN : 9 ≤ N) (hx : x0.size ≤ 900000) : ∀ (f : Nat) (out : List (List PV)) (a : Nat), x0.size - a < f → out.length ≤ a → a ≤ x0.size → (loopN (f19L0r N x0) f (.s2 (a : Int) out)).bind back19 = some (out19 (decR x0.size f out (sfx x0 a)))
  | 0, out, a, h, _, _ => by omega
  | f + 1, out, a, h, ho, hle => by
    have hsz := sfx_size x0 a
    rcases Nat.lt_or_ge a x0.size with ha | ha
    · have hh := sfx_hd ha
      have h0 : 0 < (sfx x0 a).size := by omega
      have hbk := size_back (x0 := x0) (a := a) (by omega)
      by_cases k : bAt x0 a < 1 ∨ 3 < bAt x0 a
      · rw [loopN_end (r19b2 ha k), decR_stop h0 (by rw [hh]; exact k), hbk]
        rfl
      · rcases show bAt x0 a = 1 ∨ bAt x0 a = 2 ∨ bAt x0 a = 3 by omega with k | k | k
        · rcases Nat.lt_or_ge x0.size (a + 12) with hz | hz
          · rw [loopN_end (r19c21 hx ha k hz), decR_short h0 (by rw [hh]; omega) (by rw [hh]; omega) (by rw [hh, k, hsz]; show _ < 12; omega), hbk]
            rfl
          · have hd2 := dec_at1 hz k
            rw [loopN_next (r19d21 hN hx (by omega) k hz), decR_next h0 (by rw [hh]; omega) (by rw [hh]; omega) (by rw [hh, k, hsz]; show 12 ≤ _; omega), show (dec1 (sfx x0 a)).2 = sfx x0 (a + 12) by rw [hd2]]
            exact dec19_loop2 hN hx f _ _ (by omega) (by simp only [List.length_append, List.length_cons, List.length_nil]; omega) (by omega)
        · rcases Nat.lt_or_ge x0.size (a + 2) with hz | hz
          · rw [loopN_end (r19c22 hx ha k hz), decR_short h0 (by rw [hh]; omega) (by rw [hh]; omega) (by rw [hh, k, hsz]; show _ < 2; omega), hbk]
            rfl
          · have hd2 := dec_at2 hz k
            rw [loopN_next (r19d22 hN hx (by omega) k hz), decR_next h0 (by rw [hh]; omega) (by rw [hh]; omega) (by rw [hh, k, hsz]; show 2 ≤ _; omega), show (dec1 (sfx x0 a)).2 = sfx x0 (a + 2) by rw [hd2]]
            exact dec19_loop2 hN hx f _ _ (by omega) (by simp only [List.length_append, List.length_cons, List.length_nil]; omega) (by omega)
        · rcases Nat.lt_or_ge x0.size (a + 1) with hz | hz
          · rw [loopN_end (r19c23 hx ha k hz), decR_short h0 (by rw [hh]; omega) (by rw [hh]; omega) (by rw [hh, k, hsz]; show _ < 1; omega), hbk]
            rfl
          · have hd2 := dec_at3 hz k
            rw [loopN_next (r19d23 hN hx (by omega) k hz), decR_next h0 (by rw [hh]; omega) (by rw [hh]; omega) (by rw [hh, k, hsz]; show 1 ≤ _; omega), show (dec1 (sfx x0 a)).2 = sfx x0 (a + 1) by rw [hd2]]
            exact dec19_loop2 hN hx f _ _ (by omega) (by simp only [List.length_append, List.length_cons, List.length_nil]; omega) (by omega)
    · have h0 : (sfx x0 a).size = 0 := by omega
      rw [loopN_end (r19a2 ha), decR_end h0]
      rfl
theorem dec19_loop1 {N : Nat} {x0 : ByteArray} (hN : 9 ≤ N) (hx : x0.size ≤ 900000) (f : Nat) (out : List (List PV)) (a : Nat) (h : x0.size - a < f) (ho : out.length ≤ a) (hle : a ≤ x0.size) : (loopN (f19L0r N x0) f (.s1 (a : Int) out)).bind back19 = some (out19 (decR x0.size f out (sfx x0 a))) := by
  obtain ⟨f, rfl⟩ : ∃ g, f = g + 1 := ⟨f - 1, by omega⟩
  have hsz := sfx_size x0 a
  rcases Nat.lt_or_ge a x0.size with ha | ha
  · have hh := sfx_hd ha
    have h0 : 0 < (sfx x0 a).size := by omega
    have hbk := size_back (x0 := x0) (a := a) (by omega)
    by_cases k : bAt x0 a < 1 ∨ 3 < bAt x0 a
    · rw [loopN_end (r19b1 ha k), decR_stop h0 (by rw [hh]; exact k), hbk]
      rfl
    · rcases show bAt x0 a = 1 ∨ bAt x0 a = 2 ∨ bAt x0 a = 3 by omega with k | k | k
      · rcases Nat.lt_or_ge x0.size (a + 12) with hz | hz
        · rw [loopN_end (r19c11 hx ha k hz), decR_short h0 (by rw [hh]; omega) (by rw [hh]; omega) (by rw [hh, k, hsz]; show _ < 12; omega), hbk]
          rfl
        · have hd2 := dec_at1 hz k
          rw [loopN_next (r19d11 hN hx (by omega) k hz), decR_next h0 (by rw [hh]; omega) (by rw [hh]; omega) (by rw [hh, k, hsz]; show 12 ≤ _; omega), show (dec1 (sfx x0 a)).2 = sfx x0 (a + 12) by rw [hd2]]
          exact dec19_loop2 hN hx f _ _ (by omega) (by simp only [List.length_append, List.length_cons, List.length_nil]; omega) (by omega)
      · rcases Nat.lt_or_ge x0.size (a + 2) with hz | hz
        · rw [loopN_end (r19c12 hx ha k hz), decR_short h0 (by rw [hh]; omega) (by rw [hh]; omega) (by rw [hh, k, hsz]; show _ < 2; omega), hbk]
          rfl
        · have hd2 := dec_at2 hz k
          rw [loopN_next (r19d12 hN hx (by omega) k hz), decR_next h0 (by rw [hh]; omega) (by rw [hh]; omega) (by rw [hh, k, hsz]; show 2 ≤ _; omega), show (dec1 (sfx x0 a)).2 = sfx x0 (a + 2) by rw [hd2]]
          exact dec19_loop2 hN hx f _ _ (by omega) (by simp only [List.length_append, List.length_cons, List.length_nil]; omega) (by omega)
      · rcases Nat.lt_or_ge x0.size (a + 1) with hz | hz
        · rw [loopN_end (r19c13 hx ha k hz), decR_short h0 (by rw [hh]; omega) (by rw [hh]; omega) (by rw [hh, k, hsz]; show _ < 1; omega), hbk]
          rfl
        · have hd2 := dec_at3 hz k
          rw [loopN_next (r19d13 hN hx (by omega) k hz), decR_next h0 (by rw [hh]; omega) (by rw [hh]; omega) (by rw [hh, k, hsz]; show 1 ≤ _; omega), show (dec1 (sfx x0 a)).2 = sfx x0 (a + 1) by rw [hd2]]
          exact dec19_loop2 hN hx f _ _ (by omega) (by simp only [List.length_append, List.length_cons, List.length_nil]; omega) (by omega)
  · have h0 : (sfx x0 a).size = 0 := by omega
    rw [loopN_end (r19a1 ha), decR_end h0]
    rfl
theorem dec19_loop0 {N : Nat} {x0 : ByteArray} (hN : 9 ≤ N) (hx : x0.size ≤ 900000) (f : Nat) (h : x0.size < f) : (loopN (f19L0r N x0) f .s0).bind back19 = some (out19 (decR x0.size f [] (sfx x0 0))) := by
  obtain ⟨f, rfl⟩ : ∃ g, f = g + 1 := ⟨f - 1, by omega⟩
  have hsz := sfx_size x0 0
  rcases Nat.lt_or_ge 0 x0.size with ha | ha
  · have hh := sfx_hd ha
    have h0 : 0 < (sfx x0 0).size := by omega
    have hbk := size_back (x0 := x0) (a := 0) (by omega)
    by_cases k : bAt x0 0 < 1 ∨ 3 < bAt x0 0
    · rw [loopN_end (r19b0 ha k), decR_stop h0 (by rw [hh]; exact k), hbk]
      rfl
    · rcases show bAt x0 0 = 1 ∨ bAt x0 0 = 2 ∨ bAt x0 0 = 3 by omega with k | k | k
      · rcases Nat.lt_or_ge x0.size (0 + 12) with hz | hz
        · rw [loopN_end (r19c01 hx ha k hz), decR_short h0 (by rw [hh]; omega) (by rw [hh]; omega) (by rw [hh, k, hsz]; show _ < 12; omega), hbk]
          rfl
        · have hd2 := dec_at1 hz k
          rw [loopN_next (r19d01 hN hx k hz), decR_next h0 (by rw [hh]; omega) (by rw [hh]; omega) (by rw [hh, k, hsz]; show 12 ≤ _; omega), show (dec1 (sfx x0 0)).2 = sfx x0 (0 + 12) by rw [hd2]]
          exact dec19_loop1 hN hx f _ _ (by omega) (by simp only [List.length_cons, List.length_nil]; omega) (by omega)
      · rcases Nat.lt_or_ge x0.size (0 + 2) with hz | hz
        · rw [loopN_end (r19c02 hx ha k hz), decR_short h0 (by rw [hh]; omega) (by rw [hh]; omega) (by rw [hh, k, hsz]; show _ < 2; omega), hbk]
          rfl
        · have hd2 := dec_at2 hz k
          rw [loopN_next (r19d02 hN hx k hz), decR_next h0 (by rw [hh]; omega) (by rw [hh]; omega) (by rw [hh, k, hsz]; show 2 ≤ _; omega), show (dec1 (sfx x0 0)).2 = sfx x0 (0 + 2) by rw [hd2]]
          exact dec19_loop1 hN hx f _ _ (by omega) (by simp only [List.length_cons, List.length_nil]; omega) (by omega)
      · rcases Nat.lt_or_ge x0.size (0 + 1) with hz | hz
        · rw [loopN_end (r19c03 hx ha k hz), decR_short h0 (by rw [hh]; omega) (by rw [hh]; omega) (by rw [hh, k, hsz]; show _ < 1; omega), hbk]
          rfl
        · have hd2 := dec_at3 hz k
          rw [loopN_next (r19d03 hN hx k hz), decR_next h0 (by rw [hh]; omega) (by rw [hh]; omega) (by rw [hh, k, hsz]; show 1 ≤ _; omega), show (dec1 (sfx x0 0)).2 = sfx x0 (0 + 1) by rw [hd2]]
          exact dec19_loop1 hN hx f _ _ (by omega) (by simp only [List.length_cons, List.length_nil]; omega) (by omega)
  · have h0 : (sfx x0 0).size = 0 := by omega
    rw [loopN_end (r19a0 ha), decR_end h0]
    rfl
theorem f19_val {s : ByteArray} (hx : s.size ≤ 900000) : f19 (s.size + 9) s = some (out19 (decR s.size (s.size + 9) [] s)) := by
  rw [f19_eq, dec19_loop0 (by omega) hx _ (by omega), sfx_all]
noncomputable def f19P : Ora := ⟨fun ps => okPs [(false, [.str])] ps && decide ((pStr (ps.headD .undef)).size ≤ 900000), fun ps => .pv (.tup [.list 42 (dec18 (pStr (ps.headD .undef))).1, .int .i64 (dec18 (pStr (ps.headD .undef))).2.1, .int .i64 (dec18 (pStr (ps.headD .undef))).2.2])⟩
theorem f19P_spec : Spec Try.prog 19 f19P := spec_fit 100 f19rs [(false, [.str])] (fun ps => decide ((pStr (ps.headD .undef)).size ≤ 900000)) _ mixed fun ps hm hs hp => by
  have hc : canPs [(false, [.str])] ps = [PV.str (pStr (ps.headD PV.undef))] := by kernel_rfl
  refine ⟨E0 ((pStr (ps.headD .undef)).size + 9), _, rfl, E0_ok _, ?_, .inl rfl⟩
  rw [hc, f19_run, f19_val (of_decide_eq_true hp)]
  rfl
end Go.Proofs.YtkdbccloniaogaaS
