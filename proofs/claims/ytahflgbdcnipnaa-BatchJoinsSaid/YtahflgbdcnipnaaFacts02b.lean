/- More of what batches come to. Conditions: none but those that each law names. -/
import Derived.Test.YtahflgbdcnipnaaFacts02
set_option linter.unusedVariables false
set_option linter.unusedSimpArgs false
set_option maxRecDepth 10000
namespace Go.Proofs.YtahflgbdcnipnaaS
open Go Go.Proofs
theorem prior_at (xs : List (List PV)) (x lo hi : Int) (k : Nat) (hk : k < xs.length) : (priorsOf xs x lo hi).getD k [] = [PV.int .i64 (allOf (xs.take k) x lo hi)] := by
  have hx : priorsOf xs x lo hi = priorsOf (xs.take k ++ xs.drop k) x lo hi := by rw [List.take_append_drop]
  rw [hx, priorsOf_append]
  have hl : (priorsOf (xs.take k) x lo hi).length = k := by
    rw [priorsOf_len, List.length_take]
    omega
  obtain ⟨e, r, he⟩ : ∃ e r, xs.drop k = e :: r := ⟨xs[k], xs.drop (k + 1), List.drop_eq_getElem_cons hk⟩
  rw [he]
  have hw := walkE_eq (e :: r) (allOf (xs.take k) x lo hi) lo hi
  obtain ⟨q, qs, _, _, h3⟩ := steps_cons (show steps 0 lo hi (entOf e :: r.map entOf) _ = _ from hw)
  have hp : priorsOf (e :: r) (allOf (xs.take k) x lo hi) lo hi = [PV.int .i64 (allOf (xs.take k) x lo hi)] :: qs.map (fun p => [PV.int .i64 p.1]) := by
    unfold priorsOf
    rw [h3]
    rfl
  rw [hp, List.getD_eq_getElem?_getD, List.getElem?_append_right (by omega), hl, Nat.sub_self]
  rfl
theorem upto_val {xs : List (List PV)} {k : Int} (h0 : 0 ≤ k) (h1 : k ≤ (xs.length : Int)) (hl : xs.length ≤ 1000) : f14 0 xs k = some ⟨xs.take k.toNat⟩ := by
  have e : (if (0 : Int) < (if (xs.length : Int) < k then (xs.length : Int) else k) then (if (xs.length : Int) < k then (xs.length : Int) else k) else (0 : Int)) = k := by
    have c : ¬ (xs.length : Int) < k := by omega
    simp only [if_neg c]
    split <;> omega
  unfold f14 f14t0
  rw [e]
  refine run_true ?_ (run_true ?_ ?_)
  · rw [decide_eq_true (show (0 : Int) ≤ ((0 : Nat) : Int) by omega), decide_eq_true (show ((0 : Nat) : Int) ≤ k by omega), decide_eq_true h1]
    rfl
  · refine most_ok ?_
    have := List.length_take_le k.toNat xs
    show (List.drop 0 (List.take k.toNat xs)).length ≤ 1000
    rw [List.drop_zero, List.length_take]
    omega
  · rfl
end Go.Proofs.YtahflgbdcnipnaaS
