/- Encode in plain words. Conditions: none. -/
import Derived.Test.YtkdbccloniaogaaF2
import Derived.Test.YtkdbccloniaogaaSimPure
set_option linter.unusedVariables false
set_option linter.unusedSimpArgs false
set_option maxRecDepth 10000
namespace Go.Proofs.YtkdbccloniaogaaS
open Go Go.Proofs
/-- How many bytes an entry of a kind has. -/
def sizeK (k : Int) : Nat := bif k == 1 then 12 else bif k == 2 then 2 else 1
theorem f27_val (k : Int) : f27 0 k = some ⟨(sizeK k : Int)⟩ := by
  unfold f27 f27t0 sizeK
  refine run_test (fun h => by rw [h]; rfl) (fun h => ?_)
  rw [h]
  refine run_test (fun h => by rw [h]; rfl) (fun h => ?_)
  rw [h]
  rfl
theorem sizeK_le (k : Int) : sizeK k ≤ 12 := by
  unfold sizeK
  cases (k == 1) <;> cases (k == 2) <;> decide
def kindOf (e : List PV) : Int := pInt (e.headD PV.undef)
/-- An entry's bytes. -/
noncomputable def enc1 (e : List PV) : List (List PV) := (by12 (S38r (PV.agg e))).take (sizeK (kindOf e))
noncomputable def encs (xs : List (List PV)) : List (List PV) := xs.flatMap enc1
theorem enc1_le (e : List PV) : (enc1 e).length ≤ 12 := by
  unfold enc1
  rw [List.length_take]
  have := sizeK_le (kindOf e)
  omega
theorem encs_le : ∀ xs : List (List PV), (encs xs).length ≤ 12 * xs.length
  | [] => by simp [encs]
  | e :: r => by
    have h1 := encs_le r
    have h2 := enc1_le e
    have : encs (e :: r) = enc1 e ++ encs r := rfl
    rw [this, List.length_append, List.length_cons]
    omega
theorem encs_next {xs : List (List PV)} {i : Nat} (h : i < xs.length) : encs (xs.take (i + 1)) = encs (xs.take i) ++ enc1 (xs.getD i []) := by
  have e : xs.take (i + 1) = xs.take i ++ [xs.getD i []] := by
    rw [List.take_add_one, List.getD_eq_getElem?_getD, List.getElem?_eq_getElem h]
    rfl
  rw [e]
  simp [encs, List.flatMap_append]
theorem size_in (k : Int) (x : S38) : (decide ((0 : Int) ≤ ((0 : Nat) : Int)) && decide (((0 : Nat) : Int) ≤ ((sizeK k : Nat) : Int)) && decide (((sizeK k : Nat) : Int) ≤ (((by12 x).length : Nat) : Int))) = true := by
  have h : (by12 x).length = 12 := rfl
  have := sizeK_le k
  rw [h, decide_eq_true (show (0 : Int) ≤ ((0 : Nat) : Int) by omega), decide_eq_true (show ((0 : Nat) : Int) ≤ ((sizeK k : Nat) : Int) by omega), decide_eq_true (show ((sizeK k : Nat) : Int) ≤ ((12 : Nat) : Int) by omega)]
  rfl
theorem enc_round {N i : Nat} {xs acc : List (List PV)} (hi : i < xs.length) (hl : xs.length ≤ 10000) (ha : acc.length ≤ 900000) : f16L0r N xs (.s2 (i : Int) acc) = some (.inl (.s2 ((i + 1 : Nat) : Int) (acc ++ enc1 (xs.getD i [])))) := by
  have h1 : decide ((i : Int) < (xs.length : Int)) = true := decide_eq_true (by omega)
  have h2 : decide ((0 : Int) ≤ (i : Int)) = true := decide_eq_true (by omega)
  have hs : f27 0 (pInt ((xs.getD (i : Int).toNat []).headD PV.undef)) = some ⟨(sizeK (kindOf (xs.getD i [])) : Int)⟩ := f27_val _
  have he := enc1_le (xs.getD i [])
  refine run_true h1 (run_true (by rw [h1, h2]; rfl) (run_true (by rw [hs]; rfl) (run_true ?_ (run_true ?_ ?_))))
  · rw [hs]
    exact size_in _ (S38r (PV.agg (xs.getD i [])))
  · rw [hs]
    exact decide_eq_true (show acc.length + (enc1 (xs.getD i [])).length ≤ 1000000 by omega)
  · rw [hs]
    show some (Sum.inl (f16L0s.s2 (IntKind.i64.wrap ((i : Int) + 1)) (acc ++ enc1 (xs.getD i [])))) = _
    rw [wrap_next (i := i) (by omega)]
theorem enc_loop {N : Nat} {xs : List (List PV)} (hl : xs.length ≤ 10000) : ∀ (k i : Nat), i + k = xs.length → loopN (f16L0r N xs) (k + 1) (.s2 (i : Int) (encs (xs.take i))) = some (.e2 (encs xs))
  | 0, i, h => by
    rw [List.take_of_length_le (by omega)]
    exact loopN_end (run_false (decide_eq_false (by omega)) rfl)
  | k + 1, i, h => by
    have hi : i < xs.length := by omega
    have := encs_le (xs.take i)
    rw [List.length_take] at this
    rw [loopN_next (enc_round hi hl (by omega)), ← encs_next hi]
    exact enc_loop hl k (i + 1) (by omega)
theorem enc_first {N : Nat} {xs : List (List PV)} (h : 0 < xs.length) : f16L0r N xs .s0 = some (.inl .s1) := by
  have h1 : decide ((0 : Int) < (xs.length : Int)) = true := decide_eq_true (by omega)
  have hs : f27 0 (pInt ((xs.getD (Int.toNat (0 : Int)) []).headD PV.undef)) = some ⟨(sizeK (kindOf (xs.getD 0 [])) : Int)⟩ := f27_val _
  have he := enc1_le (xs.getD 0 [])
  refine run_true h1 (run_true (by rw [h1]; rfl) (run_true (by rw [hs]; rfl) (run_true ?_ (run_true ?_ rfl))))
  · rw [hs]
    exact size_in _ (S38r (PV.agg (xs.getD 0 [])))
  · rw [hs]
    exact decide_eq_true (show (enc1 (xs.getD 0 [])).length ≤ 1000000 by omega)
theorem enc_second {N : Nat} {xs : List (List PV)} (h : 1 < xs.length) : f16L0r N xs .s1 = some (.inl (.s2 ((2 : Nat) : Int) (enc1 (xs.getD 0 []) ++ enc1 (xs.getD 1 [])))) := by
  have h1 : decide ((1 : Int) < (xs.length : Int)) = true := decide_eq_true (by omega)
  have hs0 : f27 0 (pInt ((xs.getD (Int.toNat (0 : Int)) []).headD PV.undef)) = some ⟨(sizeK (kindOf (xs.getD 0 [])) : Int)⟩ := f27_val _
  have hs : f27 0 (pInt ((xs.getD (Int.toNat (1 : Int)) []).headD PV.undef)) = some ⟨(sizeK (kindOf (xs.getD 1 [])) : Int)⟩ := f27_val _
  have he0 := enc1_le (xs.getD 0 [])
  have he := enc1_le (xs.getD 1 [])
  refine run_true h1 (run_true (by rw [h1]; rfl) (run_true (by rw [hs]; rfl) (run_true ?_ (run_true ?_ ?_))))
  · rw [hs]
    exact size_in _ (S38r (PV.agg (xs.getD 1 [])))
  · rw [hs, hs0]
    exact decide_eq_true (show (enc1 (xs.getD 0 [])).length + (enc1 (xs.getD 1 [])).length ≤ 1000000 by omega)
  · rw [hs, hs0]
    rfl
theorem f16_val {xs : List (List PV)} (hl : xs.length ≤ 10000) : f16 (xs.length + 1) xs = some ⟨strOf (encs xs)⟩ := by
  unfold f16
  match xs, hl with
  | [], hl => rfl
  | [a], hl =>
    have hs : f27 0 (pInt (([a].getD (Int.toNat (0 : Int)) []).headD PV.undef)) = some ⟨(sizeK (kindOf a) : Int)⟩ := f27_val _
    rw [show [a].length + 1 = 0 + 1 + 1 from rfl, loopN_next (enc_first (by simp)), loopN_end (z := f16L0e.e1) (run_false rfl rfl)]
    show Tr.run (f16t13 [a]) = _
    unfold f16t13
    rw [hs]
    show some (f16o.r0 (strOf (enc1 a))) = _
    have : encs [a] = enc1 a := by simp [encs]
    rw [this]
  | a :: b :: l, hl =>
    rw [show (a :: b :: l).length + 1 = (l.length + 1) + 1 + 1 by simp, loopN_next (enc_first (by simp)), loopN_next (enc_second (by simp))]
    have h := enc_loop (N := l.length + 1 + 1 + 1) (xs := a :: b :: l) hl l.length 2 (by simp; omega)
    have e : encs ((a :: b :: l).take 2) = enc1 a ++ enc1 b := by simp [encs]
    rw [e] at h
    show (loopN _ (l.length + 1) (f16L0s.s2 ((2 : Nat) : Int) (enc1 a ++ enc1 b))).bind _ = _
    rw [h]
    rfl
noncomputable def f16P : Ora := ⟨fun ps => okPs [(false, [.list 38])] ps && decide ((pList (ps.headD .undef)).length ≤ 10000), fun ps => .pv (.str (strOf (encs (pList (ps.headD .undef)))))⟩
theorem f16P_spec : Spec Try.prog 16 f16P := spec_at 100 [(false, [.list 38])] (fun ps => decide ((pList (ps.headD .undef)).length ≤ 10000)) _ mixed fun ps hm hs hp => by
  have hc : canPs [(false, [.list 38])] ps = [PV.list 38 (pList (ps.headD PV.undef))] := by kernel_rfl
  refine ⟨E1 ((pList (ps.headD .undef)).length + 1), _, rfl, E1_ok _, ?_, .inl rfl⟩
  rw [hc, f16_run, f16_val (of_decide_eq_true hp)]
  rfl
end Go.Proofs.YtkdbccloniaogaaS
