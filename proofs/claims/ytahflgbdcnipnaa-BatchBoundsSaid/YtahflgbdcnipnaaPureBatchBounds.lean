/- The pure statement that is left of BatchBounds. Conditions: the numbers' own ranges. -/
import Derived.Test.YtahflgbdcnipnaaFacts02c
import Derived.Test.YtahflgbdcnipnaaF5
import Derived.Test.YtahflgbdcnipnaaSimPure
set_option linter.unusedVariables false
set_option linter.unusedSimpArgs false
set_option maxRecDepth 10000
namespace Go.Proofs.YtahflgbdcnipnaaS
open Go Go.Proofs
def tagAt (xs : List (List PV)) (i : Nat) : S41 := ⟨pInt ((xs.getD i []).tail.headD PV.undef), pInt ((xs.getD i []).tail.tail.headD PV.undef)⟩
noncomputable def mayB (xs : List (List PV)) (i : Nat) : Bool := ((f19 0 (tagAt xs i) true).getD f19d).y1
theorem f19_isSome (x : S41) (b : Bool) : (f19 0 x b).isSome = true := Tr.whole_some (by kernel_rfl)
theorem may_tag {x : S41} (h : ((f19 0 x true).getD f19d).y1 = true) : x.a0 = 8 ∨ x.a0 = 9 := by
  by_cases c : x.a0 = 8
  · exact .inl c
  by_cases d : x.a0 = 9
  · exact .inr d
  exfalso
  have e : f19 0 x true = some ⟨false⟩ := run_true rfl (run_false (by simpa using c) (run_false (by simpa using d) rfl))
  rw [e] at h
  cases h
theorem steps_within {lo hi : Int} : ∀ (l : List Ent) (x : Int) (ps : List (Int × Int)), steps 0 lo hi l x = some ps → (∀ e ∈ l, e.f1.f0 = 8 ∨ e.f1.f0 = 9) → lo ≤ x → x ≤ hi → (∀ p ∈ ps, lo ≤ p.1 ∧ p.1 ≤ hi) ∧ lo ≤ lb x ps ∧ lb x ps ≤ hi
  | [], x, ps, h, _, h1, h2 => by
    obtain rfl := Option.some.inj h
    exact ⟨fun p hp => (by cases hp), h1, h2⟩
  | e :: r, x, ps, h, ht, h1, h2 => by
    obtain ⟨q, qs, ha, hs, rfl⟩ := steps_cons h
    have hs26 : (f26 0 ⟨e.f1.f0, e.f1.f1⟩ x lo hi).isSome = true := Tr.whole_some (by kernel_rfl)
    have hw := f26_within (v := e.f1.f1) (ht e (by simp)) h1 h2 (ap e.f1.f0 e.f1.f1 x lo hi) (some_getD f26d hs26)
    have hq : q.1 = (ap e.f1.f0 e.f1.f1 x lo hi).y1 := by
      have := Option.some.inj ha
      rw [← this]
    rw [← hq] at hw
    obtain ⟨g1, g2⟩ := steps_within r q.1 qs hs (fun e' he => ht e' (by simp [he])) hw.1 hw.2
    refine ⟨fun p hp => ?_, g2⟩
    rcases List.mem_cons.1 hp with rfl | hp
    · exact ⟨h1, h2⟩
    · exact g1 p hp
theorem pureBatchBounds (x0 : List (List PV)) (x1 : Int) (x2 : Int) (x3 : Int) (h0 : Wf (PV.list 44 x0)) (h1 : Wf (PV.int .i64 x1)) (h2 : Wf (PV.int .i64 x2)) (h3 : Wf (PV.int .i64 x3)) (hm : Meant Try.prog [PV.list 44 x0, PV.int .i64 x1, PV.int .i64 x2, PV.int .i64 x3]) : ∃ N, f6 N x0 x1 x2 x3 = some ⟨true⟩ := by
  refine ⟨x0.length + 1, ?_⟩
  unfold f6
  refine bif_elim (fun h => rfl) (fun l0 => ?_)
  have l0 := of_decide_eq_false l0
  refine bif_elim (fun h => rfl) (fun b1 => ?_)
  have b1 := of_decide_eq_false b1
  refine bif_elim (fun h => rfl) (fun b2 => ?_)
  have b2 := of_decide_eq_false b2
  have hA := loop_all (stp := f6L0r (x0.length + 1) x0 x1 x2 x3) (fun i => .s0 (i : Int)) .e0 .e1 (mayB x0) x0.length
    (fun i hi hp => by
      have d1 : decide ((i : Int) < (x0.length : Int)) = true := decide_eq_true (by omega)
      have d2 : (decide (0 ≤ (i : Int)) && decide ((i : Int) < (x0.length : Int))) = true := by rw [d1, decide_eq_true (show (0 : Int) ≤ (i : Int) by omega)]; rfl
      have hq : ((f19 0 (tagAt x0 (i : Int).toNat) true).getD f19d).y1 = true := hp
      refine run_true d1 (run_true d2 (run_true (f19_isSome _ _) (run_false (congrArg Bool.not hq) ?_)))
      show some (Sum.inl (f6L0s.s0 (IntKind.i64.wrap ((i : Int) + 1)))) = _
      rw [wrap_next (i := i) (by omega)])
    (fun i hi hp => by
      have d1 : decide ((i : Int) < (x0.length : Int)) = true := decide_eq_true (by omega)
      have d2 : (decide (0 ≤ (i : Int)) && decide ((i : Int) < (x0.length : Int))) = true := by rw [d1, decide_eq_true (show (0 : Int) ≤ (i : Int) by omega)]; rfl
      have hq : ((f19 0 (tagAt x0 (i : Int).toNat) true).getD f19d).y1 = false := hp
      exact run_true d1 (run_true d2 (run_true (f19_isSome _ _) (run_true (congrArg Bool.not hq) rfl))))
    (run_false (decide_eq_false (show ¬ ((x0.length : Int) < (x0.length : Int)) by omega)) rfl) x0.length 0 (by omega)
  have hA' : loopN (f6L0r (x0.length + 1) x0 x1 x2 x3) (x0.length + 1) (.s0 (0 : Int)) = some (bif (List.range' 0 x0.length).all (mayB x0) then .e1 else .e0) := hA
  rw [hA']
  cases hall : (List.range' 0 x0.length).all (mayB x0) with
  | false => rfl
  | true =>
  have htag : ∀ e ∈ x0.map entOf, e.f1.f0 = 8 ∨ e.f1.f0 = 9 := by
    intro e he
    obtain ⟨a, ha, rfl⟩ := List.mem_map.1 he
    obtain ⟨j, hj, rfl⟩ := List.getElem_of_mem ha
    have hm1 := (all_range'.1 hall) j (by omega) (by omega)
    have := may_tag hm1
    simpa [tagAt, entOf, List.getD_eq_getElem?_getD, hj] using this
  obtain ⟨w1, w2, w3⟩ := steps_within _ _ _ (walkE_eq x0 x1 x2 x3) htag (by omega) (by omega)
  have hp := priorsOf_len x0 x1 x2 x3
  have hat : ∀ i, i < x0.length → x2 ≤ pInt (((priorsOf x0 x1 x2 x3).getD i []).headD PV.undef) ∧ pInt (((priorsOf x0 x1 x2 x3).getD i []).headD PV.undef) ≤ x3 := by
    intro i hi
    have hl := walkE_len x0 x1 x2 x3
    have := w1 _ (List.getElem_mem (show i < (walkE x0 x1 x2 x3).length by omega))
    simpa [priorsOf, List.getD_eq_getElem?_getD, hl, hi, pInt] using this
  refine bif_true (mill_ok (show x0.length ≤ 1000 by omega)) ?_
  have hB := loop_all (stp := f6L6r (x0.length + 1) x0 x1 x2 x3) (fun i => .s0 (i : Int)) .e0 .e1 (fun _ => true) x0.length
    (fun i hi _ => by
      have d1 : decide ((i : Int) < ((priorsOf x0 x1 x2 x3).length : Int)) = true := decide_eq_true (by omega)
      have d2 : (decide (0 ≤ (i : Int)) && decide ((i : Int) < ((priorsOf x0 x1 x2 x3).length : Int))) = true := by rw [d1, decide_eq_true (show (0 : Int) ≤ (i : Int) by omega)]; rfl
      obtain ⟨c1, c2⟩ := hat i hi
      refine run_true d1 (run_true d2 (run_false (decide_eq_false (show ¬ (pInt (((priorsOf x0 x1 x2 x3).getD (i : Int).toNat []).headD PV.undef) < x2) from Int.not_lt.2 c1)) (run_true d2 (run_false (decide_eq_false (show ¬ (pInt (((priorsOf x0 x1 x2 x3).getD (i : Int).toNat []).headD PV.undef) > x3) from Int.not_lt.2 c2)) ?_))))
      show some (Sum.inl (f6L6s.s0 (IntKind.i64.wrap ((i : Int) + 1)))) = _
      rw [wrap_next (i := i) (by omega)])
    (fun i _ h => by cases h)
    (run_false (decide_eq_false (show ¬ ((x0.length : Int) < ((priorsOf x0 x1 x2 x3).length : Int)) by omega)) rfl) x0.length 0 (by omega)
  have hB' : loopN (f6L6r (x0.length + 1) x0 x1 x2 x3) (x0.length + 1) (.s0 (0 : Int)) = some .e1 := by
    have ha : (List.range' 0 x0.length).all (fun _ => true) = true := by simp
    rw [ha] at hB
    exact hB
  rw [hB']
  refine run_true (mill_ok (by omega)) (run_true (by simp [hp]) (run_true (decide_eq_true w2) ?_))
  exact congrArg (fun b => some (f6o.r0 b)) (decide_eq_true w3)
end Go.Proofs.YtahflgbdcnipnaaS
