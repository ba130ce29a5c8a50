/- What is ahead of each op. Conditions: none. -/
import Derived.Test.YtfkndbihfdjinaaFacts12c
set_option linter.unusedVariables false
set_option linter.unusedSimpArgs false
set_option maxRecDepth 10000
namespace Go.Proofs.YtfkndbihfdjinaaS
open Go Go.Proofs
theorem prior_at (xs : List (List PV)) (x lo hi : Int) (k : Nat) (hk : k < xs.length) : (priorsOf xs x lo hi).getD k [] = [PV.int .i64 (allOf (xs.take k) x lo hi)] := by
  obtain ⟨e, r, he⟩ : ∃ e r, xs.drop k = e :: r := ⟨xs[k], xs.drop (k + 1), List.drop_eq_getElem_cons hk⟩
  have hx : walkE xs x lo hi = walkE (xs.take k) x lo hi ++ walkE (e :: r) (allOf (xs.take k) x lo hi) lo hi := by
    rw [← walkE_append, ← he, List.take_append_drop]
  have hl : (walkE (xs.take k) x lo hi).length = k := by
    rw [walkE_len, List.length_take]
    omega
  unfold priorsOf
  rw [hx, walkE_cons, List.getD_eq_getElem?_getD, List.getElem?_map, List.getElem?_append_right (by omega), hl, Nat.sub_self]
  rfl
theorem log_fresh (x : S38) (v : Int) (h : x.a35 = []) : logOf x v = (List.range' 0 x.a20.length).map (mkAt x v) := by
  unfold logOf
  rw [h, List.nil_append]
theorem mk_at (x : S38) (v : Int) (n i : Nat) (hi : i < n) : (((List.range' 0 n).map (mkAt x v)).getD i []) = mkAt x v i := by
  simp [List.getD_eq_getElem?_getD, hi]
end Go.Proofs.YtfkndbihfdjinaaS
