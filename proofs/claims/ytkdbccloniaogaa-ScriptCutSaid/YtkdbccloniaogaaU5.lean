/- Decode in plain words. Conditions: none. -/
import Derived.Test.YtkdbccloniaogaaF2x18
import Derived.Test.YtkdbccloniaogaaU2
import Derived.Test.YtkdbccloniaogaaSimPure
set_option linter.unusedVariables false
set_option linter.unusedSimpArgs false
set_option maxRecDepth 10000
namespace Go.Proofs.YtkdbccloniaogaaS
open Go Go.Proofs
def hd (s : ByteArray) : Int := ((s.get! 0).toNat : Int)
def tl (s : ByteArray) : ByteArray := s.extract 1 s.size
theorem hd_in (s : ByteArray) : 0 ≤ hd s ∧ hd s < 256 := by
  have : (s.get! 0).toNat < 256 := (s.get! 0).toNat_lt
  unfold hd
  omega
theorem hd_wrap (s : ByteArray) : IntKind.i64.wrap (hd s) = hd s := by
  have := hd_in s
  exact wrap_small (by omega) (by omega)
theorem tl_size (s : ByteArray) : (tl s).size = s.size - 1 := by
  unfold tl
  rw [ByteArray.size_extract]
  omega
def step8 (v b : Int) : Int := IntKind.i64.wrap (((BitVec.ofInt IntKind.i64.bits (IntKind.i64.wrap (v * 2 ^ min (Int.toNat 8) IntKind.i64.bits)) ||| BitVec.ofInt IntKind.i64.bits b).toNat : Nat) : Int)
/-- A number out of so many bytes, and what is left. -/
def val8 : Nat → Int → ByteArray → Int × ByteArray
  | 0, v, s => (v, s)
  | n + 1, v, s => val8 n (step8 v (hd s)) (tl s)
theorem val8_size : ∀ (n : Nat) (v : Int) (s : ByteArray), (val8 n v s).2.size = s.size - n
  | 0, v, s => rfl
  | n + 1, v, s => by
    simp only [val8]
    rw [val8_size n, tl_size]
    omega
def ent (a b c d e : Int) : List PV := [.int .i64 a, .int .i64 b, .int .i64 c, .int .i64 d, .int .i64 e]
/-- The first entry, and what is left. -/
def dec1 (s : ByteArray) : List PV × ByteArray :=
  if hd s = 3 then (ent (hd s) 0 0 0 0, tl s)
  else if hd s = 2 then (ent (hd s) (hd (tl s)) 0 0 0, tl (tl s))
  else (ent (hd s) (hd (tl s)) (hd (tl (tl s))) (hd (tl (tl (tl s)))) (val8 8 0 (tl (tl (tl (tl s))))).1, (val8 8 0 (tl (tl (tl (tl s))))).2)
theorem dec1_size {s : ByteArray} (k1 : 1 ≤ hd s) (k3 : hd s ≤ 3) : (dec1 s).2.size = s.size - sizeK (hd s) := by
  unfold dec1
  have : hd s = 1 ∨ hd s = 2 ∨ hd s = 3 := by omega
  rcases this with e | e | e <;> rw [e] <;> simp [sizeK, tl_size, val8_size] <;> omega
def decR (n0 : Int) : Nat → List (List PV) → ByteArray → List (List PV) × Int × Int
  | 0, out, _ => (out, 0, 0)
  | f + 1, out, s => bif s.size == 0 then (out, 0, 0) else bif (decide (hd s < 1) || decide (hd s > 3)) then ([], n0 - (s.size : Int), 90) else bif decide (s.size < sizeK (hd s)) then ([], n0 - (s.size : Int), 94) else decR n0 f (out ++ [(dec1 s).1]) (dec1 s).2
theorem inner173 {N : Nat} {x0 : ByteArray}  : ∀ (m c : Nat) (v : Int) (s : ByteArray), c + m = 8 → m ≤ s.size → loopN (f18L0iL173r N x0 ) (m + 1) (.s0 (c : Int) v s) = some (.e0 (val8 m v s).1 (val8 m v s).2)
  | 0, c, v, s, h, hs => loopN_end (run_false (decide_eq_false (by omega)) rfl)
  | m + 1, c, v, s, h, hs => by
    have hr : f18L0iL173r N x0  (.s0 (c : Int) v s) = some (.inl (.s0 ((c + 1 : Nat) : Int) (step8 v (hd s)) (tl s))) := by
      refine run_true (decide_eq_true (by omega)) (run_true (decide_eq_true (by omega)) ?_)
      show some (Sum.inl (f18L0iL173s.s0 (IntKind.i64.wrap ((c : Int) + 1)) _ _)) = _
      rw [wrap_next (i := c) (by omega)]
      rfl
    rw [loopN_next hr]
    exact inner173 m (c + 1) _ _ (by omega) (by rw [tl_size]; omega)
theorem inner215 {N : Nat} {x0 : ByteArray} {z0 : List (List PV)} {z1 : ByteArray} : ∀ (m c : Nat) (v : Int) (s : ByteArray), c + m = 8 → m ≤ s.size → loopN (f18L0iL215r N x0 z0 z1) (m + 1) (.s0 (c : Int) v s) = some (.e0 (val8 m v s).1 (val8 m v s).2)
  | 0, c, v, s, h, hs => loopN_end (run_false (decide_eq_false (by omega)) rfl)
  | m + 1, c, v, s, h, hs => by
    have hr : f18L0iL215r N x0 z0 z1 (.s0 (c : Int) v s) = some (.inl (.s0 ((c + 1 : Nat) : Int) (step8 v (hd s)) (tl s))) := by
      refine run_true (decide_eq_true (by omega)) (run_true (decide_eq_true (by omega)) ?_)
      show some (Sum.inl (f18L0iL215s.s0 (IntKind.i64.wrap ((c : Int) + 1)) _ _)) = _
      rw [wrap_next (i := c) (by omega)]
      rfl
    rw [loopN_next hr]
    exact inner215 m (c + 1) _ _ (by omega) (by rw [tl_size]; omega)
theorem inner257 {N : Nat} {x0 : ByteArray} {z0 : List (List PV)} {z1 : ByteArray} : ∀ (m c : Nat) (v : Int) (s : ByteArray), c + m = 8 → m ≤ s.size → loopN (f18L0iL257r N x0 z0 z1) (m + 1) (.s0 (c : Int) v s) = some (.e0 (val8 m v s).1 (val8 m v s).2)
  | 0, c, v, s, h, hs => loopN_end (run_false (decide_eq_false (by omega)) rfl)
  | m + 1, c, v, s, h, hs => by
    have hr : f18L0iL257r N x0 z0 z1 (.s0 (c : Int) v s) = some (.inl (.s0 ((c + 1 : Nat) : Int) (step8 v (hd s)) (tl s))) := by
      refine run_true (decide_eq_true (by omega)) (run_true (decide_eq_true (by omega)) ?_)
      show some (Sum.inl (f18L0iL257s.s0 (IntKind.i64.wrap ((c : Int) + 1)) _ _)) = _
      rw [wrap_next (i := c) (by omega)]
      rfl
    rw [loopN_next hr]
    exact inner257 m (c + 1) _ _ (by omega) (by rw [tl_size]; omega)
theorem rnd0 {N : Nat} {x0 s : ByteArray} {out : List (List PV)} (hN : 9 ≤ N) (h0 : 0 < s.size) (k1 : 1 ≤ hd s) (k3 : hd s ≤ 3) (hz : sizeK (hd s) ≤ s.size) : f18L0r N s .s0 = some (.inl (.s1 [(dec1 s).1] (dec1 s).2)) := by
  have hw := hd_wrap s
  have hf : f27 0 (IntKind.i64.wrap (hd s)) = some ⟨(sizeK (hd s) : Int)⟩ := by rw [hw]; exact f27_val _
  have t1 := tl_size s
  have t2 := tl_size (tl s)
  have t3 := tl_size (tl (tl s))
  have t4 := tl_size (tl (tl (tl s)))
  have hpos : decide ((s.size : Int) > 0) = true := decide_eq_true (by omega)
  have hpos2 : (decide ((0 : Int) ≤ 0) && decide ((0 : Int) < (s.size : Int))) = true := by
    rw [decide_eq_true (show (0 : Int) < (s.size : Int) by omega)]
    rfl
  refine bif_true hpos (bif_true hpos2 (bif_false ?_ (bif_false ?_ (bif_true ?_ (bif_false ?_ (bif_true (decide_eq_true h0) ?_))))))
  · show decide (IntKind.i64.wrap (hd s) < 1) = false
    rw [hw]
    exact decide_eq_false (by omega)
  · show decide (IntKind.i64.wrap (hd s) > 3) = false
    rw [hw]
    exact decide_eq_false (by omega)
  · show (f27 0 (IntKind.i64.wrap (hd s))).isSome = true
    rw [hf]
    rfl
  · show decide ((s.size : Int) < ((f27 0 (IntKind.i64.wrap (hd s))).getD f27d).y1) = false
    rw [hf]
    exact decide_eq_false (show ¬ (s.size : Int) < (sizeK (hd s) : Int) by omega)
  by_cases e3 : hd s = 3
  · have hd1 : dec1 s = (ent (hd s) 0 0 0 0, tl s) := by unfold dec1; rw [if_pos e3]
    rw [hd1]
    refine bif_false (show (IntKind.i64.wrap (hd s) != 3) = false by rw [hw, e3]; rfl) (bif_false (show (IntKind.i64.wrap (hd s) == 1) = false by rw [hw, e3]; rfl) ?_)
    exact rfl
  · have hz2 : 2 ≤ s.size := by
      have : hd s = 1 ∨ hd s = 2 := by omega
      rcases this with e | e <;> rw [e] at hz <;> simp [sizeK] at hz <;> omega
    refine bif_true (show (IntKind.i64.wrap (hd s) != 3) = true by rw [hw]; simpa using e3) (bif_true (decide_eq_true (show 0 < (tl s).size by omega)) ?_)
    by_cases e1 : hd s = 1
    · have hz12 : 12 ≤ s.size := by rw [e1] at hz; exact hz
      have hd1 : dec1 s = (ent (hd s) (hd (tl s)) (hd (tl (tl s))) (hd (tl (tl (tl s)))) (val8 8 0 (tl (tl (tl (tl s))))).1, (val8 8 0 (tl (tl (tl (tl s))))).2) := by
        unfold dec1
        rw [if_neg (by omega), if_neg (by omega)]
      rw [hd1]
      refine bif_true (show (IntKind.i64.wrap (hd s) == 1) = true by rw [hw, e1]; rfl) (bif_true (decide_eq_true (show 0 < (tl (tl s)).size by omega)) (bif_true (decide_eq_true (show 0 < (tl (tl (tl s))).size by omega)) ?_))
      have hv := inner173 (N := N) (x0 := s) 8 0 0 (tl (tl (tl (tl s)))) rfl (by omega)
      have hv2 := loopN_more _ _ _ hv (N - 9)
      rw [show 8 + 1 + (N - 9) = N by omega] at hv2
      have hv3 : loopN (f18L0iL173r N s ) N (.s0 (0 : Int) 0 (tl (tl (tl (tl s))))) = _ := hv2
      show (loopN (f18L0iL173r N s ) N (f18L0iL173s.s0 (0 : Int) 0 (tl (tl (tl (tl s)))))).bind _ = _
      rw [hv3]
      exact rfl
    · have e2 : hd s = 2 := by omega
      have hd1 : dec1 s = (ent (hd s) (hd (tl s)) 0 0 0, tl (tl s)) := by
        unfold dec1
        rw [if_neg e3, if_pos e2]
      rw [hd1]
      refine bif_false (show (IntKind.i64.wrap (hd s) == 1) = false by rw [hw, e2]; rfl) ?_
      exact rfl
theorem rnd1 {N : Nat} {x0 s : ByteArray} {out : List (List PV)} (hN : 9 ≤ N) (h0 : 0 < s.size) (k1 : 1 ≤ hd s) (k3 : hd s ≤ 3) (hz : sizeK (hd s) ≤ s.size) (ho : out.length + 1 ≤ 1000000) : f18L0r N x0 (.s1 out s) = some (.inl (.s2 (out ++ [(dec1 s).1]) (dec1 s).2)) := by
  have hw := hd_wrap s
  have hf : f27 0 (IntKind.i64.wrap (hd s)) = some ⟨(sizeK (hd s) : Int)⟩ := by rw [hw]; exact f27_val _
  have t1 := tl_size s
  have t2 := tl_size (tl s)
  have t3 := tl_size (tl (tl s))
  have t4 := tl_size (tl (tl (tl s)))
  have hpos : decide ((s.size : Int) > 0) = true := decide_eq_true (by omega)
  have hpos2 : (decide ((0 : Int) ≤ 0) && decide ((0 : Int) < (s.size : Int))) = true := by
    rw [decide_eq_true (show (0 : Int) < (s.size : Int) by omega)]
    rfl
  refine bif_true hpos (bif_true hpos2 (bif_false ?_ (bif_false ?_ (bif_true ?_ (bif_false ?_ (bif_true (decide_eq_true h0) ?_))))))
  · show decide (IntKind.i64.wrap (hd s) < 1) = false
    rw [hw]
    exact decide_eq_false (by omega)
  · show decide (IntKind.i64.wrap (hd s) > 3) = false
    rw [hw]
    exact decide_eq_false (by omega)
  · show (f27 0 (IntKind.i64.wrap (hd s))).isSome = true
    rw [hf]
    rfl
  · show decide ((s.size : Int) < ((f27 0 (IntKind.i64.wrap (hd s))).getD f27d).y1) = false
    rw [hf]
    exact decide_eq_false (show ¬ (s.size : Int) < (sizeK (hd s) : Int) by omega)
  by_cases e3 : hd s = 3
  · have hd1 : dec1 s = (ent (hd s) 0 0 0 0, tl s) := by unfold dec1; rw [if_pos e3]
    rw [hd1]
    refine bif_false (show (IntKind.i64.wrap (hd s) != 3) = false by rw [hw, e3]; rfl) (bif_false (show (IntKind.i64.wrap (hd s) == 1) = false by rw [hw, e3]; rfl) ?_)
    exact run_true (decide_eq_true ho) rfl
  · have hz2 : 2 ≤ s.size := by
      have : hd s = 1 ∨ hd s = 2 := by omega
      rcases this with e | e <;> rw [e] at hz <;> simp [sizeK] at hz <;> omega
    refine bif_true (show (IntKind.i64.wrap (hd s) != 3) = true by rw [hw]; simpa using e3) (bif_true (decide_eq_true (show 0 < (tl s).size by omega)) ?_)
    by_cases e1 : hd s = 1
    · have hz12 : 12 ≤ s.size := by rw [e1] at hz; exact hz
      have hd1 : dec1 s = (ent (hd s) (hd (tl s)) (hd (tl (tl s))) (hd (tl (tl (tl s)))) (val8 8 0 (tl (tl (tl (tl s))))).1, (val8 8 0 (tl (tl (tl (tl s))))).2) := by
        unfold dec1
        rw [if_neg (by omega), if_neg (by omega)]
      rw [hd1]
      refine bif_true (show (IntKind.i64.wrap (hd s) == 1) = true by rw [hw, e1]; rfl) (bif_true (decide_eq_true (show 0 < (tl (tl s)).size by omega)) (bif_true (decide_eq_true (show 0 < (tl (tl (tl s))).size by omega)) ?_))
      have hv := inner215 (N := N) (x0 := x0) (z0 := out) (z1 := s) 8 0 0 (tl (tl (tl (tl s)))) rfl (by omega)
      have hv2 := loopN_more _ _ _ hv (N - 9)
      rw [show 8 + 1 + (N - 9) = N by omega] at hv2
      have hv3 : loopN (f18L0iL215r N x0 out s) N (.s0 (0 : Int) 0 (tl (tl (tl (tl s))))) = _ := hv2
      show (loopN (f18L0iL215r N x0 out s) N (f18L0iL215s.s0 (0 : Int) 0 (tl (tl (tl (tl s)))))).bind _ = _
      rw [hv3]
      exact run_true (decide_eq_true ho) rfl
    · have e2 : hd s = 2 := by omega
      have hd1 : dec1 s = (ent (hd s) (hd (tl s)) 0 0 0, tl (tl s)) := by
        unfold dec1
        rw [if_neg e3, if_pos e2]
      rw [hd1]
      refine bif_false (show (IntKind.i64.wrap (hd s) == 1) = false by rw [hw, e2]; rfl) ?_
      exact run_true (decide_eq_true ho) rfl
theorem rnd2 {N : Nat} {x0 s : ByteArray} {out : List (List PV)} (hN : 9 ≤ N) (h0 : 0 < s.size) (k1 : 1 ≤ hd s) (k3 : hd s ≤ 3) (hz : sizeK (hd s) ≤ s.size) (ho : out.length + 1 ≤ 1000000) : f18L0r N x0 (.s2 out s) = some (.inl (.s2 (out ++ [(dec1 s).1]) (dec1 s).2)) := by
  have hw := hd_wrap s
  have hf : f27 0 (IntKind.i64.wrap (hd s)) = some ⟨(sizeK (hd s) : Int)⟩ := by rw [hw]; exact f27_val _
  have t1 := tl_size s
  have t2 := tl_size (tl s)
  have t3 := tl_size (tl (tl s))
  have t4 := tl_size (tl (tl (tl s)))
  have hpos : decide ((s.size : Int) > 0) = true := decide_eq_true (by omega)
  have hpos2 : (decide ((0 : Int) ≤ 0) && decide ((0 : Int) < (s.size : Int))) = true := by
    rw [decide_eq_true (show (0 : Int) < (s.size : Int) by omega)]
    rfl
  refine bif_true hpos (bif_true hpos2 (bif_false ?_ (bif_false ?_ (bif_true ?_ (bif_false ?_ (bif_true (decide_eq_true h0) ?_))))))
  · show decide (IntKind.i64.wrap (hd s) < 1) = false
    rw [hw]
    exact decide_eq_false (by omega)
  · show decide (IntKind.i64.wrap (hd s) > 3) = false
    rw [hw]
    exact decide_eq_false (by omega)
  · show (f27 0 (IntKind.i64.wrap (hd s))).isSome = true
    rw [hf]
    rfl
  · show decide ((s.size : Int) < ((f27 0 (IntKind.i64.wrap (hd s))).getD f27d).y1) = false
    rw [hf]
    exact decide_eq_false (show ¬ (s.size : Int) < (sizeK (hd s) : Int) by omega)
  by_cases e3 : hd s = 3
  · have hd1 : dec1 s = (ent (hd s) 0 0 0 0, tl s) := by unfold dec1; rw [if_pos e3]
    rw [hd1]
    refine bif_false (show (IntKind.i64.wrap (hd s) != 3) = false by rw [hw, e3]; rfl) (bif_false (show (IntKind.i64.wrap (hd s) == 1) = false by rw [hw, e3]; rfl) ?_)
    exact run_true (decide_eq_true ho) rfl
  · have hz2 : 2 ≤ s.size := by
      have : hd s = 1 ∨ hd s = 2 := by omega
      rcases this with e | e <;> rw [e] at hz <;> simp [sizeK] at hz <;> omega
    refine bif_true (show (IntKind.i64.wrap (hd s) != 3) = true by rw [hw]; simpa using e3) (bif_true (decide_eq_true (show 0 < (tl s).size by omega)) ?_)
    by_cases e1 : hd s = 1
    · have hz12 : 12 ≤ s.size := by rw [e1] at hz; exact hz
      have hd1 : dec1 s = (ent (hd s) (hd (tl s)) (hd (tl (tl s))) (hd (tl (tl (tl s)))) (val8 8 0 (tl (tl (tl (tl s))))).1, (val8 8 0 (tl (tl (tl (tl s))))).2) := by
        unfold dec1
        rw [if_neg (by omega), if_neg (by omega)]
      rw [hd1]
      refine bif_true (show (IntKind.i64.wrap (hd s) == 1) = true by rw [hw, e1]; rfl) (bif_true (decide_eq_true (show 0 < (tl (tl s)).size by omega)) (bif_true (decide_eq_true (show 0 < (tl (tl (tl s))).size by omega)) ?_))
      have hv := inner257 (N := N) (x0 := x0) (z0 := out) (z1 := s) 8 0 0 (tl (tl (tl (tl s)))) rfl (by omega)
      have hv2 := loopN_more _ _ _ hv (N - 9)
      rw [show 8 + 1 + (N - 9) = N by omega] at hv2
      have hv3 : loopN (f18L0iL257r N x0 out s) N (.s0 (0 : Int) 0 (tl (tl (tl (tl s))))) = _ := hv2
      show (loopN (f18L0iL257r N x0 out s) N (f18L0iL257s.s0 (0 : Int) 0 (tl (tl (tl (tl s)))))).bind _ = _
      rw [hv3]
      exact run_true (decide_eq_true ho) rfl
    · have e2 : hd s = 2 := by omega
      have hd1 : dec1 s = (ent (hd s) (hd (tl s)) 0 0 0, tl (tl s)) := by
        unfold dec1
        rw [if_neg e3, if_pos e2]
      rw [hd1]
      refine bif_false (show (IntKind.i64.wrap (hd s) == 1) = false by rw [hw, e2]; rfl) ?_
      exact run_true (decide_eq_true ho) rfl
theorem stop0a {N : Nat} {x0 s : ByteArray} {out : List (List PV)} (h0 : s.size = 0) : f18L0r N s .s0 = some (.inr (.e2)) :=
  bif_false (decide_eq_false (by omega)) rfl
theorem stop0b {N : Nat} {x0 s : ByteArray} {out : List (List PV)} (h0 : 0 < s.size) (k : hd s < 1 ∨ 3 < hd s) : f18L0r N s .s0 = some (.inr (.e0)) := by
  have hw := hd_wrap s
  have hpos2 : (decide ((0 : Int) ≤ 0) && decide ((0 : Int) < (s.size : Int))) = true := by
    rw [decide_eq_true (show (0 : Int) < (s.size : Int) by omega)]
    rfl
  refine bif_true (decide_eq_true (by omega)) (bif_true hpos2 ?_)
  by_cases k1 : hd s < 1
  · exact bif_true (show decide (IntKind.i64.wrap (hd s) < 1) = true by rw [hw]; exact decide_eq_true k1) rfl
  · exact bif_false (show decide (IntKind.i64.wrap (hd s) < 1) = false by rw [hw]; exact decide_eq_false k1) (bif_true (show decide (IntKind.i64.wrap (hd s) > 3) = true by rw [hw]; exact decide_eq_true (by omega)) rfl)
theorem stop0c {N : Nat} {x0 s : ByteArray} {out : List (List PV)} (h0 : 0 < s.size) (k1 : 1 ≤ hd s) (k3 : hd s ≤ 3) (hz : s.size < sizeK (hd s)) : f18L0r N s .s0 = some (.inr (.e1)) := by
  have hw := hd_wrap s
  have hf : f27 0 (IntKind.i64.wrap (hd s)) = some ⟨(sizeK (hd s) : Int)⟩ := by rw [hw]; exact f27_val _
  have hpos2 : (decide ((0 : Int) ≤ 0) && decide ((0 : Int) < (s.size : Int))) = true := by
    rw [decide_eq_true (show (0 : Int) < (s.size : Int) by omega)]
    rfl
  refine bif_true (decide_eq_true (by omega)) (bif_true hpos2 (bif_false ?_ (bif_false ?_ (bif_true ?_ (bif_true ?_ rfl)))))
  · show decide (IntKind.i64.wrap (hd s) < 1) = false
    rw [hw]
    exact decide_eq_false (by omega)
  · show decide (IntKind.i64.wrap (hd s) > 3) = false
    rw [hw]
    exact decide_eq_false (by omega)
  · show (f27 0 (IntKind.i64.wrap (hd s))).isSome = true
    rw [hf]
    rfl
  · show decide ((s.size : Int) < ((f27 0 (IntKind.i64.wrap (hd s))).getD f27d).y1) = true
    rw [hf]
    exact decide_eq_true (show (s.size : Int) < (sizeK (hd s) : Int) by omega)
theorem stop1a {N : Nat} {x0 s : ByteArray} {out : List (List PV)} (h0 : s.size = 0) : f18L0r N x0 (.s1 out s) = some (.inr (.e5 out s)) :=
  bif_false (decide_eq_false (by omega)) rfl
theorem stop1b {N : Nat} {x0 s : ByteArray} {out : List (List PV)} (h0 : 0 < s.size) (k : hd s < 1 ∨ 3 < hd s) : f18L0r N x0 (.s1 out s) = some (.inr (.e3 out s)) := by
  have hw := hd_wrap s
  have hpos2 : (decide ((0 : Int) ≤ 0) && decide ((0 : Int) < (s.size : Int))) = true := by
    rw [decide_eq_true (show (0 : Int) < (s.size : Int) by omega)]
    rfl
  refine bif_true (decide_eq_true (by omega)) (bif_true hpos2 ?_)
  by_cases k1 : hd s < 1
  · exact bif_true (show decide (IntKind.i64.wrap (hd s) < 1) = true by rw [hw]; exact decide_eq_true k1) rfl
  · exact bif_false (show decide (IntKind.i64.wrap (hd s) < 1) = false by rw [hw]; exact decide_eq_false k1) (bif_true (show decide (IntKind.i64.wrap (hd s) > 3) = true by rw [hw]; exact decide_eq_true (by omega)) rfl)
theorem stop1c {N : Nat} {x0 s : ByteArray} {out : List (List PV)} (h0 : 0 < s.size) (k1 : 1 ≤ hd s) (k3 : hd s ≤ 3) (hz : s.size < sizeK (hd s)) : f18L0r N x0 (.s1 out s) = some (.inr (.e4 out s)) := by
  have hw := hd_wrap s
  have hf : f27 0 (IntKind.i64.wrap (hd s)) = some ⟨(sizeK (hd s) : Int)⟩ := by rw [hw]; exact f27_val _
  have hpos2 : (decide ((0 : Int) ≤ 0) && decide ((0 : Int) < (s.size : Int))) = true := by
    rw [decide_eq_true (show (0 : Int) < (s.size : Int) by omega)]
    rfl
  refine bif_true (decide_eq_true (by omega)) (bif_true hpos2 (bif_false ?_ (bif_false ?_ (bif_true ?_ (bif_true ?_ rfl)))))
  · show decide (IntKind.i64.wrap (hd s) < 1) = false
    rw [hw]
    exact decide_eq_false (by omega)
  · show decide (IntKind.i64.wrap (hd s) > 3) = false
    rw [hw]
    exact decide_eq_false (by omega)
  · show (f27 0 (IntKind.i64.wrap (hd s))).isSome = true
    rw [hf]
    rfl
  · show decide ((s.size : Int) < ((f27 0 (IntKind.i64.wrap (hd s))).getD f27d).y1) = true
    rw [hf]
    exact decide_eq_true (show (s.size : Int) < (sizeK (hd s) : Int) by omega)
theorem stop2a {N : Nat} {x0 s : ByteArray} {out : List (List PV)} (h0 : s.size = 0) : f18L0r N x0 (.s2 out s) = some (.inr (.e8 out s)) :=
  bif_false (decide_eq_false (by omega)) rfl
theorem stop2b {N : Nat} {x0 s : ByteArray} {out : List (List PV)} (h0 : 0 < s.size) (k : hd s < 1 ∨ 3 < hd s) : f18L0r N x0 (.s2 out s) = some (.inr (.e6 out s)) := by
  have hw := hd_wrap s
  have hpos2 : (decide ((0 : Int) ≤ 0) && decide ((0 : Int) < (s.size : Int))) = true := by
    rw [decide_eq_true (show (0 : Int) < (s.size : Int) by omega)]
    rfl
  refine bif_true (decide_eq_true (by omega)) (bif_true hpos2 ?_)
  by_cases k1 : hd s < 1
  · exact bif_true (show decide (IntKind.i64.wrap (hd s) < 1) = true by rw [hw]; exact decide_eq_true k1) rfl
  · exact bif_false (show decide (IntKind.i64.wrap (hd s) < 1) = false by rw [hw]; exact decide_eq_false k1) (bif_true (show decide (IntKind.i64.wrap (hd s) > 3) = true by rw [hw]; exact decide_eq_true (by omega)) rfl)
theorem stop2c {N : Nat} {x0 s : ByteArray} {out : List (List PV)} (h0 : 0 < s.size) (k1 : 1 ≤ hd s) (k3 : hd s ≤ 3) (hz : s.size < sizeK (hd s)) : f18L0r N x0 (.s2 out s) = some (.inr (.e7 out s)) := by
  have hw := hd_wrap s
  have hf : f27 0 (IntKind.i64.wrap (hd s)) = some ⟨(sizeK (hd s) : Int)⟩ := by rw [hw]; exact f27_val _
  have hpos2 : (decide ((0 : Int) ≤ 0) && decide ((0 : Int) < (s.size : Int))) = true := by
    rw [decide_eq_true (show (0 : Int) < (s.size : Int) by omega)]
    rfl
  refine bif_true (decide_eq_true (by omega)) (bif_true hpos2 (bif_false ?_ (bif_false ?_ (bif_true ?_ (bif_true ?_ rfl)))))
  · show decide (IntKind.i64.wrap (hd s) < 1) = false
    rw [hw]
    exact decide_eq_false (by omega)
  · show decide (IntKind.i64.wrap (hd s) > 3) = false
    rw [hw]
    exact decide_eq_false (by omega)
  · show (f27 0 (IntKind.i64.wrap (hd s))).isSome = true
    rw [hf]
    rfl
  · show decide ((s.size : Int) < ((f27 0 (IntKind.i64.wrap (hd s))).getD f27d).y1) = true
    rw [hf]
    exact decide_eq_true (show (s.size : Int) < (sizeK (hd s) : Int) by omega)
end Go.Proofs.YtkdbccloniaogaaS
