/- What batches come to, in plain words. Conditions: none but those that each law names. -/
import Derived.Test.YtahflgbdcnipnaaF4
import Derived.Test.YtahflgbdcnipnaaSimPure
set_option linter.unusedVariables false
set_option linter.unusedSimpArgs false
set_option maxRecDepth 10000
namespace Go.Proofs.YtahflgbdcnipnaaS
open Go Go.Proofs

theorem lb_append (x : Int) (a b : List (Int × Int)) : lb x (a ++ b) = lb (lb x a) b := by
  unfold lb
  rw [List.foldl_append]
theorem lb_cons (x : Int) (p : Int × Int) (a : List (Int × Int)) : lb x (p :: a) = lb p.2 a := rfl
theorem steps_cons {k : Nat} {lo hi x : Int} {e : Ent} {r : List Ent} {ps : List (Int × Int)} (h : steps k lo hi (e :: r) x = some ps) : ∃ q qs, oper_Apply.f k e.f1.f0 e.f1.f1 x lo hi = some q ∧ steps k lo hi r q.1 = some qs ∧ ps = (x, q.1) :: qs := by
  simp only [steps] at h
  obtain ⟨q, ha, h⟩ := Option.bind_eq_some_iff.mp h
  obtain ⟨qs, hz, rfl⟩ := Option.map_eq_some_iff.mp h
  exact ⟨q, qs, ha, hz, rfl⟩
theorem steps_append (k : Nat) (lo hi : Int) : ∀ (a b : List Ent) (x : Int) (pa pb : List (Int × Int)), steps k lo hi a x = some pa → steps k lo hi b (lb x pa) = some pb → steps k lo hi (a ++ b) x = some (pa ++ pb)
  | [], b, x, pa, pb, ha, hb => by
    obtain rfl := Option.some.inj ha
    exact hb
  | e :: r, b, x, pa, pb, ha, hb => by
    obtain ⟨q, qs, h1, h2, rfl⟩ := steps_cons ha
    rw [lb_cons] at hb
    have := steps_append k lo hi r b q.1 qs pb h2 hb
    show (oper_Apply.f k e.f1.f0 e.f1.f1 x lo hi).bind _ = _
    rw [h1]
    show (steps k lo hi (r ++ b) q.1).map _ = _
    rw [this]
    rfl
theorem walkE_append (a b : List (List PV)) (x lo hi : Int) : walkE (a ++ b) x lo hi = walkE a x lo hi ++ walkE b (allOf a x lo hi) lo hi := by
  have h := steps_append 0 lo hi (a.map entOf) (b.map entOf) x _ _ (walkE_eq a x lo hi) (walkE_eq b (allOf a x lo hi) lo hi)
  rw [← List.map_append, walkE_eq] at h
  exact Option.some.inj h
theorem allOf_append (a b : List (List PV)) (x lo hi : Int) : allOf (a ++ b) x lo hi = allOf b (allOf a x lo hi) lo hi := by
  unfold allOf
  rw [walkE_append, lb_append]
  rfl
theorem priorsOf_append (a b : List (List PV)) (x lo hi : Int) : priorsOf (a ++ b) x lo hi = priorsOf a x lo hi ++ priorsOf b (allOf a x lo hi) lo hi := by
  unfold priorsOf
  rw [walkE_append, List.map_append]
theorem priorsOf_len (a : List (List PV)) (x lo hi : Int) : (priorsOf a x lo hi).length = a.length := by
  unfold priorsOf
  rw [List.length_map, walkE_len]
theorem flat_two (a b : List (List PV)) : flat [[PV.list 44 a], [PV.list 44 b]] = a ++ b := by simp [flat, row44, pList]
theorem mill_ok {n : Nat} (h : n ≤ 1000) : decide (n < 1000000) = true := decide_eq_true (by omega)
theorem join_val {l : List (List PV)} (h1 : l.length ≤ 1000) (h2 : (flat l).length ≤ 1000) : f12 0 l = some ⟨flat l⟩ := by
  refine run_true ?_ rfl
  unfold pre21
  rw [decide_eq_true (show l.length ≤ 1000000 by omega), decide_eq_true (show (flat l).length ≤ 1000000 by omega)]
  rfl
end Go.Proofs.YtahflgbdcnipnaaS
