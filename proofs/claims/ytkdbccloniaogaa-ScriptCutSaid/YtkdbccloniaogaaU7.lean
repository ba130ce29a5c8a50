/- The reference's Encode in plain words. Conditions: none. -/
import Derived.Test.YtkdbccloniaogaaF2x17
import Derived.Test.YtkdbccloniaogaaFacts09c
import Derived.Test.YtkdbccloniaogaaSimPure
set_option linter.unusedVariables false
set_option linter.unusedSimpArgs false
set_option maxRecDepth 10000
namespace Go.Proofs.YtkdbccloniaogaaS
open Go Go.Proofs
def rbAt (v : Int) (z : Int) : List PV := [PV.int .u8 (IntKind.u8.wrap ((IntKind.u64.wrap v).fdiv ((2 : Int) ^ min (IntKind.i64.wrap ((8 : Int) * z)).toNat IntKind.u64.bits)))]
def down (v : Int) : Nat → List (List PV)
  | 0 => []
  | m + 1 => rbAt v (m : Int) :: down v m
theorem rb_eq (v : Int) (z s : Nat) (h : min (IntKind.i64.wrap ((8 : Int) * (z : Int))).toNat IntKind.u64.bits = s) (hs : s ≤ 56) (c : (2 : Int) ^ s ∣ 72057594037927936) : rbAt v (z : Int) = vByte v s := by
  unfold rbAt vByte u8
  rw [h, fdiv_pos2, fdiv_pos2]
  have u : ∀ n : Int, IntKind.u8.wrap n = n % 256 := fun n => by
    unfold IntKind.wrap
    simp [IntKind.bits, IntKind.signed]
  have q : IntKind.u64.wrap v = v % 18446744073709551616 := by
    unfold IntKind.wrap
    simp [IntKind.bits, IntKind.signed]
  rw [u, u, q]
  obtain ⟨d, hd⟩ := c
  have hp : (0 : Int) < 2 ^ s := Int.pow_pos (by omega)
  have e1 : v % 18446744073709551616 = v - 2 ^ s * (d * 256 * (v / 18446744073709551616)) := by
    have : (18446744073709551616 : Int) = 2 ^ s * (d * 256) := by
      rw [← Int.mul_assoc, ← hd]
      rfl
    have h2 := Int.emod_add_mul_ediv v 18446744073709551616
    have h3 : ∀ q : Int, 18446744073709551616 * q = 2 ^ s * (d * 256 * q) := fun q => by
      rw [← Int.mul_assoc, ← this]
    have h4 := h3 (v / 18446744073709551616)
    omega
  rw [e1, Int.sub_mul_ediv_left _ _ (by omega : (2 : Int) ^ s ≠ 0), show v / 2 ^ s - d * 256 * (v / 18446744073709551616) = v / 2 ^ s - 256 * (d * (v / 18446744073709551616)) by rw [Int.mul_comm d 256, Int.mul_assoc]]
  have : ((v / 2 ^ s - 256 * (d * (v / 18446744073709551616))) % 256) = (v / 2 ^ s) % 256 := by omega
  rw [this]
theorem down_eq (v : Int) : down v 8 = [vByte v 56, vByte v 48, vByte v 40, vByte v 32, vByte v 24, vByte v 16, vByte v 8, vByte v 0] := by
  simp only [down]
  rw [rb_eq v 7 56 (by decide) (by omega) ⟨1, by decide⟩, rb_eq v 6 48 (by decide) (by omega) ⟨256, by decide⟩, rb_eq v 5 40 (by decide) (by omega) ⟨65536, by decide⟩, rb_eq v 4 32 (by decide) (by omega) ⟨16777216, by decide⟩, rb_eq v 3 24 (by decide) (by omega) ⟨4294967296, by decide⟩, rb_eq v 2 16 (by decide) (by omega) ⟨1099511627776, by decide⟩, rb_eq v 1 8 (by decide) (by omega) ⟨281474976710656, by decide⟩, rb_eq v 0 0 (by decide) (by omega) ⟨72057594037927936, by decide⟩]
noncomputable def eV (e : List PV) : Int := (S38r (PV.agg e)).a4
noncomputable def e4 (e : List PV) : List (List PV) := [u8 (kindOf e), u8 (S38r (PV.agg e)).a1, u8 (S38r (PV.agg e)).a2, u8 (S38r (PV.agg e)).a3]
theorem enc_k1 {e : List PV} (h : kindOf e = 1) : enc1 e = e4 e ++ down (eV e) 8 := by
  rw [down_eq]
  show (by12 (S38r (PV.agg e))).take (sizeK (kindOf e)) = _
  rw [show sizeK (kindOf e) = 12 by rw [h]; rfl]
  rfl
theorem enc_k2 {e : List PV} (h : kindOf e = 2) : enc1 e = [u8 (kindOf e), u8 (S38r (PV.agg e)).a1] := by
  show (by12 (S38r (PV.agg e))).take (sizeK (kindOf e)) = _
  rw [show sizeK (kindOf e) = 2 by rw [h]; rfl]
  rfl
theorem enc_k3 {e : List PV} (h : kindOf e ≠ 1) (h2 : kindOf e ≠ 2) : enc1 e = [u8 (kindOf e)] := by
  show (by12 (S38r (PV.agg e))).take (sizeK (kindOf e)) = _
  have : sizeK (kindOf e) = 1 := by
    unfold sizeK
    rw [show (kindOf e == 1) = false by simpa using h, show (kindOf e == 2) = false by simpa using h2]
    rfl
  rw [this]
  rfl
theorem inA252 {N : Nat} {x0 : List (List PV)} : ∀ (m : Nat) (w : List (List PV)), m ≤ 8 → w.length + m ≤ 900000 → loopN (f17L0iL252r N x0 ) (m + 1) (.s1 ((m : Int) - 1) w) = some (.e0 (w ++ down (eV (x0.getD 0 [])) m))
  | 0, w, _, _ => by
    rw [show w ++ down (eV (x0.getD 0 [])) 0 = w from List.append_nil w]
    exact loopN_end (run_false (decide_eq_false (by omega)) rfl)
  | m + 1, w, hm, hw => by
    have hr : f17L0iL252r N x0  (.s1 (((m + 1 : Nat) : Int) - 1) w) = some (.inl (.s1 ((m : Int) - 1) (w ++ [rbAt (eV (x0.getD 0 [])) (m : Int)]))) := by
      rw [show ((m + 1 : Nat) : Int) - 1 = (m : Int) by omega]
      have h8 : IntKind.i64.wrap ((8 : Int) * (m : Int)) = 8 * (m : Int) := wrap_small (n := 8 * (m : Int)) (by omega) (by omega)
      refine run_true (decide_eq_true (by omega)) (run_true (show decide ((0 : Int) ≤ IntKind.i64.wrap ((8 : Int) * (m : Int))) = true by rw [h8]; exact decide_eq_true (by omega)) (run_true (decide_eq_true (show w.length + 1 ≤ 1000000 by omega)) ?_))
      show some (Sum.inl (f17L0iL252s.s1 (IntKind.i64.wrap ((m : Int) - 1)) _)) = _
      rw [wrap_small (n := (m : Int) - 1) (by omega) (by omega)]
      rfl
    rw [loopN_next hr, inA252 m (w ++ [rbAt (eV (x0.getD 0 [])) (m : Int)]) (by omega) (by simp only [List.length_append, List.length_cons, List.length_nil]; omega)]
    simp [down]
theorem inB252 {N : Nat} (hN : 9 ≤ N) {x0 : List (List PV)} : loopN (f17L0iL252r N x0 ) N .s0 = some (.e0 (e4 (x0.getD 0 []) ++ down (eV (x0.getD 0 [])) 8)) := by
  have hr : f17L0iL252r N x0  .s0 = some (.inl (.s1 (((7 : Nat) : Int) - 1) ((e4 (x0.getD 0 [])) ++ [rbAt (eV (x0.getD 0 [])) ((7 : Nat) : Int)]))) := by
    rfl
  have h := inA252 (N := N) (x0 := x0) 7 ((e4 (x0.getD 0 [])) ++ [rbAt (eV (x0.getD 0 [])) ((7 : Nat) : Int)]) (by omega) (by simp only [List.length_append, List.length_cons, List.length_nil, e4]; omega)
  have h9 : loopN (f17L0iL252r N x0 ) (7 + 1 + 1) .s0 = _ := (loopN_next hr).trans h
  have h10 := loopN_more _ _ _ h9 (N - 9)
  rw [show 7 + 1 + 1 + (N - 9) = N by omega] at h10
  rw [h10]
  simp [down]
theorem inA295 {N : Nat} {x0 : List (List PV)} {i : Nat} {acc : List (List PV)} : ∀ (m : Nat) (w : List (List PV)), m ≤ 8 → w.length + m ≤ 900000 → loopN (f17L0iL295r N x0 (i : Int) acc) (m + 1) (.s1 ((m : Int) - 1) w) = some (.e0 (w ++ down (eV (x0.getD i [])) m))
  | 0, w, _, _ => by
    rw [show w ++ down (eV (x0.getD i [])) 0 = w from List.append_nil w]
    exact loopN_end (run_false (decide_eq_false (by omega)) rfl)
  | m + 1, w, hm, hw => by
    have hr : f17L0iL295r N x0 (i : Int) acc (.s1 (((m + 1 : Nat) : Int) - 1) w) = some (.inl (.s1 ((m : Int) - 1) (w ++ [rbAt (eV (x0.getD i [])) (m : Int)]))) := by
      rw [show ((m + 1 : Nat) : Int) - 1 = (m : Int) by omega]
      have h8 : IntKind.i64.wrap ((8 : Int) * (m : Int)) = 8 * (m : Int) := wrap_small (n := 8 * (m : Int)) (by omega) (by omega)
      refine run_true (decide_eq_true (by omega)) (run_true (show decide ((0 : Int) ≤ IntKind.i64.wrap ((8 : Int) * (m : Int))) = true by rw [h8]; exact decide_eq_true (by omega)) (run_true (decide_eq_true (show w.length + 1 ≤ 1000000 by omega)) ?_))
      show some (Sum.inl (f17L0iL295s.s1 (IntKind.i64.wrap ((m : Int) - 1)) _)) = _
      rw [wrap_small (n := (m : Int) - 1) (by omega) (by omega)]
      rfl
    rw [loopN_next hr, inA295 m (w ++ [rbAt (eV (x0.getD i [])) (m : Int)]) (by omega) (by simp only [List.length_append, List.length_cons, List.length_nil]; omega)]
    simp [down]
theorem inB295 {N : Nat} (hN : 9 ≤ N) {x0 : List (List PV)} {i : Nat} {acc : List (List PV)} (ha : acc.length ≤ 800000) : loopN (f17L0iL295r N x0 (i : Int) acc) N .s0 = some (.e0 (acc ++ e4 (x0.getD i []) ++ down (eV (x0.getD i [])) 8)) := by
  have hr : f17L0iL295r N x0 (i : Int) acc .s0 = some (.inl (.s1 (((7 : Nat) : Int) - 1) ((acc ++ e4 (x0.getD i [])) ++ [rbAt (eV (x0.getD i [])) ((7 : Nat) : Int)]))) := by
    have e : acc ++ [u8 (kindOf (x0.getD i []))] ++ [u8 (S38r (PV.agg (x0.getD i []))).a1] ++ [u8 (S38r (PV.agg (x0.getD i []))).a2, u8 (S38r (PV.agg (x0.getD i []))).a3] = acc ++ e4 (x0.getD i []) := by simp [e4]
    rw [← e]
    refine run_true (decide_eq_true ?_) rfl
    show (acc ++ [_] ++ [_] ++ [_, _]).length + 1 ≤ 1000000
    simp only [List.length_append, List.length_cons, List.length_nil]
    omega
  have h := inA295 (N := N) (x0 := x0) (i := i) (acc := acc) 7 ((acc ++ e4 (x0.getD i [])) ++ [rbAt (eV (x0.getD i [])) ((7 : Nat) : Int)]) (by omega) (by simp only [List.length_append, List.length_cons, List.length_nil, e4]; omega)
  have h9 : loopN (f17L0iL295r N x0 (i : Int) acc) (7 + 1 + 1) .s0 = _ := (loopN_next hr).trans h
  have h10 := loopN_more _ _ _ h9 (N - 9)
  rw [show 7 + 1 + 1 + (N - 9) = N by omega] at h10
  rw [h10]
  simp [down]
theorem inA339 {N : Nat} {x0 : List (List PV)} {i : Nat} {acc : List (List PV)} : ∀ (m : Nat) (w : List (List PV)), m ≤ 8 → w.length + m ≤ 900000 → loopN (f17L0iL339r N x0 (i : Int) acc) (m + 1) (.s1 ((m : Int) - 1) w) = some (.e0 (w ++ down (eV (x0.getD i [])) m))
  | 0, w, _, _ => by
    rw [show w ++ down (eV (x0.getD i [])) 0 = w from List.append_nil w]
    exact loopN_end (run_false (decide_eq_false (by omega)) rfl)
  | m + 1, w, hm, hw => by
    have hr : f17L0iL339r N x0 (i : Int) acc (.s1 (((m + 1 : Nat) : Int) - 1) w) = some (.inl (.s1 ((m : Int) - 1) (w ++ [rbAt (eV (x0.getD i [])) (m : Int)]))) := by
      rw [show ((m + 1 : Nat) : Int) - 1 = (m : Int) by omega]
      have h8 : IntKind.i64.wrap ((8 : Int) * (m : Int)) = 8 * (m : Int) := wrap_small (n := 8 * (m : Int)) (by omega) (by omega)
      refine run_true (decide_eq_true (by omega)) (run_true (show decide ((0 : Int) ≤ IntKind.i64.wrap ((8 : Int) * (m : Int))) = true by rw [h8]; exact decide_eq_true (by omega)) (run_true (decide_eq_true (show w.length + 1 ≤ 1000000 by omega)) ?_))
      show some (Sum.inl (f17L0iL339s.s1 (IntKind.i64.wrap ((m : Int) - 1)) _)) = _
      rw [wrap_small (n := (m : Int) - 1) (by omega) (by omega)]
      rfl
    rw [loopN_next hr, inA339 m (w ++ [rbAt (eV (x0.getD i [])) (m : Int)]) (by omega) (by simp only [List.length_append, List.length_cons, List.length_nil]; omega)]
    simp [down]
theorem inB339 {N : Nat} (hN : 9 ≤ N) {x0 : List (List PV)} {i : Nat} {acc : List (List PV)} (ha : acc.length ≤ 800000) : loopN (f17L0iL339r N x0 (i : Int) acc) N .s0 = some (.e0 (acc ++ e4 (x0.getD i []) ++ down (eV (x0.getD i [])) 8)) := by
  have hr : f17L0iL339r N x0 (i : Int) acc .s0 = some (.inl (.s1 (((7 : Nat) : Int) - 1) ((acc ++ e4 (x0.getD i [])) ++ [rbAt (eV (x0.getD i [])) ((7 : Nat) : Int)]))) := by
    have e : acc ++ [u8 (kindOf (x0.getD i []))] ++ [u8 (S38r (PV.agg (x0.getD i []))).a1] ++ [u8 (S38r (PV.agg (x0.getD i []))).a2, u8 (S38r (PV.agg (x0.getD i []))).a3] = acc ++ e4 (x0.getD i []) := by simp [e4]
    rw [← e]
    refine run_true (decide_eq_true ?_) rfl
    show (acc ++ [_] ++ [_] ++ [_, _]).length + 1 ≤ 1000000
    simp only [List.length_append, List.length_cons, List.length_nil]
    omega
  have h := inA339 (N := N) (x0 := x0) (i := i) (acc := acc) 7 ((acc ++ e4 (x0.getD i [])) ++ [rbAt (eV (x0.getD i [])) ((7 : Nat) : Int)]) (by omega) (by simp only [List.length_append, List.length_cons, List.length_nil, e4]; omega)
  have h9 : loopN (f17L0iL339r N x0 (i : Int) acc) (7 + 1 + 1) .s0 = _ := (loopN_next hr).trans h
  have h10 := loopN_more _ _ _ h9 (N - 9)
  rw [show 7 + 1 + 1 + (N - 9) = N by omega] at h10
  rw [h10]
  simp [down]
theorem inA425 {N : Nat} {x0 : List (List PV)} {i : Nat} {acc : List (List PV)} : ∀ (m : Nat) (w : List (List PV)), m ≤ 8 → w.length + m ≤ 900000 → loopN (f17L0iL425r N x0 (i : Int) acc) (m + 1) (.s1 ((m : Int) - 1) w) = some (.e0 (w ++ down (eV (x0.getD i [])) m))
  | 0, w, _, _ => by
    rw [show w ++ down (eV (x0.getD i [])) 0 = w from List.append_nil w]
    exact loopN_end (run_false (decide_eq_false (by omega)) rfl)
  | m + 1, w, hm, hw => by
    have hr : f17L0iL425r N x0 (i : Int) acc (.s1 (((m + 1 : Nat) : Int) - 1) w) = some (.inl (.s1 ((m : Int) - 1) (w ++ [rbAt (eV (x0.getD i [])) (m : Int)]))) := by
      rw [show ((m + 1 : Nat) : Int) - 1 = (m : Int) by omega]
      have h8 : IntKind.i64.wrap ((8 : Int) * (m : Int)) = 8 * (m : Int) := wrap_small (n := 8 * (m : Int)) (by omega) (by omega)
      refine run_true (decide_eq_true (by omega)) (run_true (show decide ((0 : Int) ≤ IntKind.i64.wrap ((8 : Int) * (m : Int))) = true by rw [h8]; exact decide_eq_true (by omega)) (run_true (decide_eq_true (show w.length + 1 ≤ 1000000 by omega)) ?_))
      show some (Sum.inl (f17L0iL425s.s1 (IntKind.i64.wrap ((m : Int) - 1)) _)) = _
      rw [wrap_small (n := (m : Int) - 1) (by omega) (by omega)]
      rfl
    rw [loopN_next hr, inA425 m (w ++ [rbAt (eV (x0.getD i [])) (m : Int)]) (by omega) (by simp only [List.length_append, List.length_cons, List.length_nil]; omega)]
    simp [down]
theorem inB425 {N : Nat} (hN : 9 ≤ N) {x0 : List (List PV)} {i : Nat} {acc : List (List PV)} (ha : acc.length ≤ 800000) : loopN (f17L0iL425r N x0 (i : Int) acc) N .s0 = some (.e0 (acc ++ e4 (x0.getD i []) ++ down (eV (x0.getD i [])) 8)) := by
  have hr : f17L0iL425r N x0 (i : Int) acc .s0 = some (.inl (.s1 (((7 : Nat) : Int) - 1) ((acc ++ e4 (x0.getD i [])) ++ [rbAt (eV (x0.getD i [])) ((7 : Nat) : Int)]))) := by
    have e : acc ++ [u8 (kindOf (x0.getD i []))] ++ [u8 (S38r (PV.agg (x0.getD i []))).a1] ++ [u8 (S38r (PV.agg (x0.getD i []))).a2, u8 (S38r (PV.agg (x0.getD i []))).a3] = acc ++ e4 (x0.getD i []) := by simp [e4]
    rw [← e]
    refine run_true (decide_eq_true ?_) rfl
    show (acc ++ [_] ++ [_] ++ [_, _]).length + 1 ≤ 1000000
    simp only [List.length_append, List.length_cons, List.length_nil]
    omega
  have h := inA425 (N := N) (x0 := x0) (i := i) (acc := acc) 7 ((acc ++ e4 (x0.getD i [])) ++ [rbAt (eV (x0.getD i [])) ((7 : Nat) : Int)]) (by omega) (by simp only [List.length_append, List.length_cons, List.length_nil, e4]; omega)
  have h9 : loopN (f17L0iL425r N x0 (i : Int) acc) (7 + 1 + 1) .s0 = _ := (loopN_next hr).trans h
  have h10 := loopN_more _ _ _ h9 (N - 9)
  rw [show 7 + 1 + 1 + (N - 9) = N by omega] at h10
  rw [h10]
  simp [down]
theorem inA381 {N : Nat} {x0 : List (List PV)} : ∀ (m : Nat) (w : List (List PV)), m ≤ 8 → w.length + m ≤ 900000 → loopN (f17L0iL381r N x0 ) (m + 1) (.s1 ((m : Int) - 1) w) = some (.e0 (w ++ down (eV (x0.getD 1 [])) m))
  | 0, w, _, _ => by
    rw [show w ++ down (eV (x0.getD 1 [])) 0 = w from List.append_nil w]
    exact loopN_end (run_false (decide_eq_false (by omega)) rfl)
  | m + 1, w, hm, hw => by
    have hr : f17L0iL381r N x0  (.s1 (((m + 1 : Nat) : Int) - 1) w) = some (.inl (.s1 ((m : Int) - 1) (w ++ [rbAt (eV (x0.getD 1 [])) (m : Int)]))) := by
      rw [show ((m + 1 : Nat) : Int) - 1 = (m : Int) by omega]
      have h8 : IntKind.i64.wrap ((8 : Int) * (m : Int)) = 8 * (m : Int) := wrap_small (n := 8 * (m : Int)) (by omega) (by omega)
      refine run_true (decide_eq_true (by omega)) (run_true (show decide ((0 : Int) ≤ IntKind.i64.wrap ((8 : Int) * (m : Int))) = true by rw [h8]; exact decide_eq_true (by omega)) (run_true (decide_eq_true (show w.length + 1 ≤ 1000000 by omega)) ?_))
      show some (Sum.inl (f17L0iL381s.s1 (IntKind.i64.wrap ((m : Int) - 1)) _)) = _
      rw [wrap_small (n := (m : Int) - 1) (by omega) (by omega)]
      rfl
    rw [loopN_next hr, inA381 m (w ++ [rbAt (eV (x0.getD 1 [])) (m : Int)]) (by omega) (by simp only [List.length_append, List.length_cons, List.length_nil]; omega)]
    simp [down]
theorem inB381 {N : Nat} (hN : 9 ≤ N) {x0 : List (List PV)} : loopN (f17L0iL381r N x0 ) N .s0 = some (.e0 ([u8 (kindOf (x0.getD 0 []))] ++ e4 (x0.getD 1 []) ++ down (eV (x0.getD 1 [])) 8)) := by
  have hr : f17L0iL381r N x0  .s0 = some (.inl (.s1 (((7 : Nat) : Int) - 1) (([u8 (kindOf (x0.getD 0 []))] ++ e4 (x0.getD 1 [])) ++ [rbAt (eV (x0.getD 1 [])) ((7 : Nat) : Int)]))) := by
    rfl
  have h := inA381 (N := N) (x0 := x0) 7 (([u8 (kindOf (x0.getD 0 []))] ++ e4 (x0.getD 1 [])) ++ [rbAt (eV (x0.getD 1 [])) ((7 : Nat) : Int)]) (by omega) (by simp only [List.length_append, List.length_cons, List.length_nil, e4]; omega)
  have h9 : loopN (f17L0iL381r N x0 ) (7 + 1 + 1) .s0 = _ := (loopN_next hr).trans h
  have h10 := loopN_more _ _ _ h9 (N - 9)
  rw [show 7 + 1 + 1 + (N - 9) = N by omega] at h10
  rw [h10]
  simp [down]
/-- Where the loop stands. -/
inductive St17 (x0 : List (List PV)) : f17L0s → Nat → List (List PV) → Prop
  | s1 (i : Nat) (acc : List (List PV)) : St17 x0 (.s1 (i : Int) acc) i acc
  | s2 (i : Nat) (acc : List (List PV)) : St17 x0 (.s2 (i : Int) acc) i acc
  | s3 : St17 x0 .s3 1 [u8 (kindOf (x0.getD 0 []))]
  | s4 (i : Nat) (acc : List (List PV)) : St17 x0 (.s4 (i : Int) acc) i acc
theorem r171 {N : Nat} (hN : 9 ≤ N) {x0 : List (List PV)} {i : Nat} {acc : List (List PV)} (ha : acc.length ≤ 200000) (hi : i < x0.length) (hl : x0.length ≤ 10000) : ∃ σ, f17L0r N x0 (.s1 (i : Int) acc) = some (.inl σ) ∧ St17 x0 σ (i + 1) (acc ++ enc1 (x0.getD i [])) := by
  have q1 : decide ((i : Int) < (x0.length : Int)) = true := decide_eq_true (by omega)
  have q2 : (decide ((0 : Int) ≤ (i : Int)) && decide ((i : Int) < (x0.length : Int))) = true := by
    rw [q1, decide_eq_true (show (0 : Int) ≤ (i : Int) by omega)]
    rfl
  have hwr : IntKind.i64.wrap ((i : Int) + 1) = ((i + 1 : Nat) : Int) := wrap_next (i := i) (by omega)
  by_cases k1 : kindOf (x0.getD i []) = 1
  · have c1 : (kindOf (x0.getD i []) == 1) = true := by rw [k1]; rfl
    refine ⟨(.s1 ((i + 1 : Nat) : Int) (acc ++ enc1 (x0.getD i []))), ?_, ?_⟩
    · refine bif_true q1 (bif_true q2 (bif_true (decide_eq_true (show _ ≤ 1000000 by simp only [List.length_append, List.length_cons, List.length_nil]; omega)) (bif_true c1 (bif_true (decide_eq_true (show _ ≤ 1000000 by simp only [List.length_append, List.length_cons, List.length_nil]; omega)) (bif_true c1 (bif_true (decide_eq_true (show _ ≤ 1000000 by simp only [List.length_append, List.length_cons, List.length_nil]; omega)) ?_))))))
      rw [show acc ++ enc1 (x0.getD i []) = acc ++ e4 (x0.getD i []) ++ down (eV (x0.getD i [])) 8 from (by rw [enc_k1 k1] <;> simp)]
      show (loopN (f17L0iL295r N x0 (i : Int) acc) N .s0).bind _ = _
      rw [inB295 hN (by omega)]
      show some (Sum.inl (f17L0s.s1 (IntKind.i64.wrap ((i : Int) + 1)) _)) = _
      rw [hwr]
    · exact .s1 _ _
  · have c1 : (kindOf (x0.getD i []) == 1) = false := by simpa using k1
    by_cases k2 : kindOf (x0.getD i []) = 2
    · have c2 : (kindOf (x0.getD i []) == 2) = true := by rw [k2]; rfl
      refine ⟨(.s2 ((i + 1 : Nat) : Int) (acc ++ enc1 (x0.getD i []))), ?_, ?_⟩
      · refine bif_true q1 (bif_true q2 (bif_true (decide_eq_true (show _ ≤ 1000000 by simp only [List.length_append, List.length_cons, List.length_nil]; omega)) (bif_false c1 (bif_true c2 (bif_true (decide_eq_true (show _ ≤ 1000000 by simp only [List.length_append, List.length_cons, List.length_nil]; omega)) (bif_false c1 ?_))))))
        rw [enc_k2 k2]
        rw [show acc ++ [u8 (kindOf (x0.getD i [])), u8 (S38r (PV.agg (x0.getD i []))).a1] = acc ++ [u8 (kindOf (x0.getD i []))] ++ [u8 (S38r (PV.agg (x0.getD i []))).a1] by simp]
        show some (Sum.inl (f17L0s.s2 (IntKind.i64.wrap ((i : Int) + 1)) _)) = _
        rw [hwr]
        rfl
      · exact .s2 _ _
    · have c2 : (kindOf (x0.getD i []) == 2) = false := by simpa using k2
      refine ⟨(.s4 ((i + 1 : Nat) : Int) (acc ++ enc1 (x0.getD i []))), ?_, ?_⟩
      · refine bif_true q1 (bif_true q2 (bif_true (decide_eq_true (show _ ≤ 1000000 by simp only [List.length_append, List.length_cons, List.length_nil]; omega)) (bif_false c1 (bif_false c2 (bif_false c1 ?_)))))
        rw [enc_k3 k1 k2]
        show some (Sum.inl (f17L0s.s4 (IntKind.i64.wrap ((i : Int) + 1)) _)) = _
        rw [hwr]
        rfl
      · exact .s4 _ _
theorem r172 {N : Nat} (hN : 9 ≤ N) {x0 : List (List PV)} {i : Nat} {acc : List (List PV)} (ha : acc.length ≤ 200000) (hi : i < x0.length) (hl : x0.length ≤ 10000) : ∃ σ, f17L0r N x0 (.s2 (i : Int) acc) = some (.inl σ) ∧ St17 x0 σ (i + 1) (acc ++ enc1 (x0.getD i [])) := by
  have q1 : decide ((i : Int) < (x0.length : Int)) = true := decide_eq_true (by omega)
  have q2 : (decide ((0 : Int) ≤ (i : Int)) && decide ((i : Int) < (x0.length : Int))) = true := by
    rw [q1, decide_eq_true (show (0 : Int) ≤ (i : Int) by omega)]
    rfl
  have hwr : IntKind.i64.wrap ((i : Int) + 1) = ((i + 1 : Nat) : Int) := wrap_next (i := i) (by omega)
  by_cases k1 : kindOf (x0.getD i []) = 1
  · have c1 : (kindOf (x0.getD i []) == 1) = true := by rw [k1]; rfl
    refine ⟨(.s1 ((i + 1 : Nat) : Int) (acc ++ enc1 (x0.getD i []))), ?_, ?_⟩
    · refine bif_true q1 (bif_true q2 (bif_true (decide_eq_true (show _ ≤ 1000000 by simp only [List.length_append, List.length_cons, List.length_nil]; omega)) (bif_true c1 (bif_true (decide_eq_true (show _ ≤ 1000000 by simp only [List.length_append, List.length_cons, List.length_nil]; omega)) (bif_true c1 (bif_true (decide_eq_true (show _ ≤ 1000000 by simp only [List.length_append, List.length_cons, List.length_nil]; omega)) ?_))))))
      rw [show acc ++ enc1 (x0.getD i []) = acc ++ e4 (x0.getD i []) ++ down (eV (x0.getD i [])) 8 from (by rw [enc_k1 k1] <;> simp)]
      show (loopN (f17L0iL339r N x0 (i : Int) acc) N .s0).bind _ = _
      rw [inB339 hN (by omega)]
      show some (Sum.inl (f17L0s.s1 (IntKind.i64.wrap ((i : Int) + 1)) _)) = _
      rw [hwr]
    · exact .s1 _ _
  · have c1 : (kindOf (x0.getD i []) == 1) = false := by simpa using k1
    by_cases k2 : kindOf (x0.getD i []) = 2
    · have c2 : (kindOf (x0.getD i []) == 2) = true := by rw [k2]; rfl
      refine ⟨(.s2 ((i + 1 : Nat) : Int) (acc ++ enc1 (x0.getD i []))), ?_, ?_⟩
      · refine bif_true q1 (bif_true q2 (bif_true (decide_eq_true (show _ ≤ 1000000 by simp only [List.length_append, List.length_cons, List.length_nil]; omega)) (bif_false c1 (bif_true c2 (bif_true (decide_eq_true (show _ ≤ 1000000 by simp only [List.length_append, List.length_cons, List.length_nil]; omega)) (bif_false c1 ?_))))))
        rw [enc_k2 k2]
        rw [show acc ++ [u8 (kindOf (x0.getD i [])), u8 (S38r (PV.agg (x0.getD i []))).a1] = acc ++ [u8 (kindOf (x0.getD i []))] ++ [u8 (S38r (PV.agg (x0.getD i []))).a1] by simp]
        show some (Sum.inl (f17L0s.s2 (IntKind.i64.wrap ((i : Int) + 1)) _)) = _
        rw [hwr]
        rfl
      · exact .s2 _ _
    · have c2 : (kindOf (x0.getD i []) == 2) = false := by simpa using k2
      refine ⟨(.s4 ((i + 1 : Nat) : Int) (acc ++ enc1 (x0.getD i []))), ?_, ?_⟩
      · refine bif_true q1 (bif_true q2 (bif_true (decide_eq_true (show _ ≤ 1000000 by simp only [List.length_append, List.length_cons, List.length_nil]; omega)) (bif_false c1 (bif_false c2 (bif_false c1 ?_)))))
        rw [enc_k3 k1 k2]
        show some (Sum.inl (f17L0s.s4 (IntKind.i64.wrap ((i : Int) + 1)) _)) = _
        rw [hwr]
        rfl
      · exact .s4 _ _
theorem r174 {N : Nat} (hN : 9 ≤ N) {x0 : List (List PV)} {i : Nat} {acc : List (List PV)} (ha : acc.length ≤ 200000) (hi : i < x0.length) (hl : x0.length ≤ 10000) : ∃ σ, f17L0r N x0 (.s4 (i : Int) acc) = some (.inl σ) ∧ St17 x0 σ (i + 1) (acc ++ enc1 (x0.getD i [])) := by
  have q1 : decide ((i : Int) < (x0.length : Int)) = true := decide_eq_true (by omega)
  have q2 : (decide ((0 : Int) ≤ (i : Int)) && decide ((i : Int) < (x0.length : Int))) = true := by
    rw [q1, decide_eq_true (show (0 : Int) ≤ (i : Int) by omega)]
    rfl
  have hwr : IntKind.i64.wrap ((i : Int) + 1) = ((i + 1 : Nat) : Int) := wrap_next (i := i) (by omega)
  by_cases k1 : kindOf (x0.getD i []) = 1
  · have c1 : (kindOf (x0.getD i []) == 1) = true := by rw [k1]; rfl
    refine ⟨(.s1 ((i + 1 : Nat) : Int) (acc ++ enc1 (x0.getD i []))), ?_, ?_⟩
    · refine bif_true q1 (bif_true q2 (bif_true (decide_eq_true (show _ ≤ 1000000 by simp only [List.length_append, List.length_cons, List.length_nil]; omega)) (bif_true c1 (bif_true (decide_eq_true (show _ ≤ 1000000 by simp only [List.length_append, List.length_cons, List.length_nil]; omega)) (bif_true c1 (bif_true (decide_eq_true (show _ ≤ 1000000 by simp only [List.length_append, List.length_cons, List.length_nil]; omega)) ?_))))))
      rw [show acc ++ enc1 (x0.getD i []) = acc ++ e4 (x0.getD i []) ++ down (eV (x0.getD i [])) 8 from (by rw [enc_k1 k1] <;> simp)]
      show (loopN (f17L0iL425r N x0 (i : Int) acc) N .s0).bind _ = _
      rw [inB425 hN (by omega)]
      show some (Sum.inl (f17L0s.s1 (IntKind.i64.wrap ((i : Int) + 1)) _)) = _
      rw [hwr]
    · exact .s1 _ _
  · have c1 : (kindOf (x0.getD i []) == 1) = false := by simpa using k1
    by_cases k2 : kindOf (x0.getD i []) = 2
    · have c2 : (kindOf (x0.getD i []) == 2) = true := by rw [k2]; rfl
      refine ⟨(.s2 ((i + 1 : Nat) : Int) (acc ++ enc1 (x0.getD i []))), ?_, ?_⟩
      · refine bif_true q1 (bif_true q2 (bif_true (decide_eq_true (show _ ≤ 1000000 by simp only [List.length_append, List.length_cons, List.length_nil]; omega)) (bif_false c1 (bif_true c2 (bif_true (decide_eq_true (show _ ≤ 1000000 by simp only [List.length_append, List.length_cons, List.length_nil]; omega)) (bif_false c1 ?_))))))
        rw [enc_k2 k2]
        rw [show acc ++ [u8 (kindOf (x0.getD i [])), u8 (S38r (PV.agg (x0.getD i []))).a1] = acc ++ [u8 (kindOf (x0.getD i []))] ++ [u8 (S38r (PV.agg (x0.getD i []))).a1] by simp]
        show some (Sum.inl (f17L0s.s2 (IntKind.i64.wrap ((i : Int) + 1)) _)) = _
        rw [hwr]
        rfl
      · exact .s2 _ _
    · have c2 : (kindOf (x0.getD i []) == 2) = false := by simpa using k2
      refine ⟨(.s4 ((i + 1 : Nat) : Int) (acc ++ enc1 (x0.getD i []))), ?_, ?_⟩
      · refine bif_true q1 (bif_true q2 (bif_true (decide_eq_true (show _ ≤ 1000000 by simp only [List.length_append, List.length_cons, List.length_nil]; omega)) (bif_false c1 (bif_false c2 (bif_false c1 ?_)))))
        rw [enc_k3 k1 k2]
        show some (Sum.inl (f17L0s.s4 (IntKind.i64.wrap ((i : Int) + 1)) _)) = _
        rw [hwr]
        rfl
      · exact .s4 _ _
theorem r170 {N : Nat} (hN : 9 ≤ N) {x0 : List (List PV)} (hi : 0 < x0.length) (hl : x0.length ≤ 10000) : ∃ σ, f17L0r N x0 .s0 = some (.inl σ) ∧ St17 x0 σ (0 + 1) (enc1 (x0.getD 0 [])) := by
  have q1 : decide ((0 : Int) < (x0.length : Int)) = true := decide_eq_true (by omega)
  have q2 : (decide ((0 : Int) ≤ (0 : Int)) && decide ((0 : Int) < (x0.length : Int))) = true := by
    rw [q1, decide_eq_true (show (0 : Int) ≤ (0 : Int) by omega)]
    rfl
  by_cases k1 : kindOf (x0.getD 0 []) = 1
  · have c1 : (kindOf (x0.getD 0 []) == 1) = true := by rw [k1]; rfl
    refine ⟨(.s1 ((1 : Nat) : Int) (enc1 (x0.getD 0 []))), ?_, ?_⟩
    · refine bif_true q1 (bif_true q2 (bif_true c1 (bif_true c1 ?_)))
      rw [show enc1 (x0.getD 0 []) = e4 (x0.getD 0 []) ++ down (eV (x0.getD 0 [])) 8 from (by rw [enc_k1 k1] <;> simp)]
      show (loopN (f17L0iL252r N x0 ) N .s0).bind _ = _
      rw [inB252 hN ]
      rfl
    · exact .s1 1 _
  · have c1 : (kindOf (x0.getD 0 []) == 1) = false := by simpa using k1
    by_cases k2 : kindOf (x0.getD 0 []) = 2
    · have c2 : (kindOf (x0.getD 0 []) == 2) = true := by rw [k2]; rfl
      refine ⟨(.s2 ((1 : Nat) : Int) (enc1 (x0.getD 0 []))), ?_, ?_⟩
      · refine bif_true q1 (bif_true q2 (bif_false c1 (bif_true c2 (bif_false c1 ?_))))
        rw [enc_k2 k2]
        rfl
      · exact .s2 1 _
    · have c2 : (kindOf (x0.getD 0 []) == 2) = false := by simpa using k2
      refine ⟨.s3, ?_, ?_⟩
      · refine bif_true q1 (bif_true q2 (bif_false c1 (bif_false c2 (bif_false c1 ?_))))
        rfl
      · rw [enc_k3 k1 k2]
        exact .s3
theorem r173 {N : Nat} (hN : 9 ≤ N) {x0 : List (List PV)} (hi : 1 < x0.length) (hl : x0.length ≤ 10000) : ∃ σ, f17L0r N x0 .s3 = some (.inl σ) ∧ St17 x0 σ (1 + 1) ([u8 (kindOf (x0.getD 0 []))] ++ enc1 (x0.getD 1 [])) := by
  have q1 : decide ((1 : Int) < (x0.length : Int)) = true := decide_eq_true (by omega)
  have q2 : (decide ((0 : Int) ≤ (1 : Int)) && decide ((1 : Int) < (x0.length : Int))) = true := by
    rw [q1, decide_eq_true (show (0 : Int) ≤ (1 : Int) by omega)]
    rfl
  by_cases k1 : kindOf (x0.getD 1 []) = 1
  · have c1 : (kindOf (x0.getD 1 []) == 1) = true := by rw [k1]; rfl
    refine ⟨(.s1 ((2 : Nat) : Int) ([u8 (kindOf (x0.getD 0 []))] ++ enc1 (x0.getD 1 []))), ?_, ?_⟩
    · refine bif_true q1 (bif_true q2 (bif_true c1 (bif_true c1 ?_)))
      rw [show [u8 (kindOf (x0.getD 0 []))] ++ enc1 (x0.getD 1 []) = [u8 (kindOf (x0.getD 0 []))] ++ e4 (x0.getD 1 []) ++ down (eV (x0.getD 1 [])) 8 from (by rw [enc_k1 k1] <;> simp)]
      show (loopN (f17L0iL381r N x0 ) N .s0).bind _ = _
      rw [inB381 hN ]
      rfl
    · exact .s1 2 _
  · have c1 : (kindOf (x0.getD 1 []) == 1) = false := by simpa using k1
    by_cases k2 : kindOf (x0.getD 1 []) = 2
    · have c2 : (kindOf (x0.getD 1 []) == 2) = true := by rw [k2]; rfl
      refine ⟨(.s2 ((2 : Nat) : Int) ([u8 (kindOf (x0.getD 0 []))] ++ enc1 (x0.getD 1 []))), ?_, ?_⟩
      · refine bif_true q1 (bif_true q2 (bif_false c1 (bif_true c2 (bif_false c1 ?_))))
        rw [enc_k2 k2]
        rfl
      · exact .s2 2 _
    · have c2 : (kindOf (x0.getD 1 []) == 2) = false := by simpa using k2
      refine ⟨(.s4 ((2 : Nat) : Int) ([u8 (kindOf (x0.getD 0 []))] ++ enc1 (x0.getD 1 []))), ?_, ?_⟩
      · refine bif_true q1 (bif_true q2 (bif_false c1 (bif_false c2 (bif_false c1 ?_))))
        rw [enc_k3 k1 k2]
        rfl
      · exact .s4 2 _
end Go.Proofs.YtkdbccloniaogaaS
