/- Loops of the chapter, in plain words. Conditions: none. -/
import Derived.Test.YtjoebchkchoomaaF1
import Derived.Test.YtjoebchkchoomaaSimPure
set_option linter.unusedVariables false
set_option linter.unusedSimpArgs false
set_option maxRecDepth 10000
namespace Go.Proofs.YtjoebchkchoomaaS
open Go Go.Proofs
def huge : Nat := 4611686018427387904
def same1 (xs ys : List (List PV)) (i : Nat) : Bool := !(pInt ((xs.getD i []).headD PV.undef) != pInt ((ys.getD i []).headD PV.undef))
def same2 (xs ys : List (List PV)) (i : Nat) : Bool := pInt ((xs.getD i []).headD PV.undef) == pInt ((ys.getD i []).headD PV.undef) && (pInt ((xs.getD i []).tail.headD PV.undef) == pInt ((ys.getD i []).tail.headD PV.undef) && true)
def same3 (xs ys : List (List PV)) (i : Nat) : Bool := pInt ((xs.getD i []).headD PV.undef) == pInt ((ys.getD i []).headD PV.undef) && (pInt ((xs.getD i []).tail.headD PV.undef) == pInt ((ys.getD i []).tail.headD PV.undef) && (pInt ((xs.getD i []).tail.tail.headD PV.undef) == pInt ((ys.getD i []).tail.tail.headD PV.undef) && true) && true)
/-- Lists of the same elements. -/
def alike (p : List (List PV) → List (List PV) → Nat → Bool) (xs ys : List (List PV)) : Bool := (xs.length == ys.length) && (List.range' 0 xs.length).all (p xs ys)
theorem Meant.cells {P : Program} {ps : List PV} (hm : Meant P ps) (i : Nat) {cs : List PV} (hp : ps[i]? = some (.agg cs)) : Meant P cs := by
  obtain ⟨w, S, v, hv⟩ := hm.get hp
  simp only [VP] at hv
  obtain ⟨us, _, h⟩ := hv
  exact ⟨w, S, us, h⟩
theorem loopN_more {σ τ : Type} {stp : σ → Option (σ ⊕ τ)} : ∀ (k : Nat) (a : σ) (b : τ), loopN stp k a = some b → ∀ m, loopN stp (k + m) a = some b := by
  intro k
  induction k with
  | zero => intro a b h; cases h
  | succ k ih =>
    intro a b h m
    rw [Nat.add_right_comm, loopN_succ]
    rw [loopN_succ] at h
    cases hs : stp a with
    | none => rw [hs] at h; cases h
    | some r =>
      rw [hs] at h
      cases r with
      | inl y => exact ih y b h m
      | inr z => exact h
theorem alike1_refl (xs : List (List PV)) : alike same1 xs xs = true := by
  unfold alike
  rw [beq_self_eq_true, Bool.true_and, all_range']
  intro j _ _
  simp [same1]
theorem alike2_refl (xs : List (List PV)) : alike same2 xs xs = true := by
  unfold alike
  rw [beq_self_eq_true, Bool.true_and, all_range']
  intro j _ _
  simp [same2]
theorem alike3_refl (xs : List (List PV)) : alike same3 xs xs = true := by
  unfold alike
  rw [beq_self_eq_true, Bool.true_and, all_range']
  intro j _ _
  simp [same3]
theorem most_ok {n : Nat} (h : n ≤ 1000) : decide (n ≤ most) = true := decide_eq_true (show n ≤ 1000000 by omega)
theorem huge_ok {n : Nat} (h : n ≤ 1000) : n ≤ huge := show n ≤ 4611686018427387904 by omega
def same6 (xs ys : List (List PV)) (i : Nat) : Bool := pInt ((xs.getD i []).headD PV.undef) == pInt ((ys.getD i []).headD PV.undef) && (pInt ((xs.getD i []).tail.headD PV.undef) == pInt ((ys.getD i []).tail.headD PV.undef) && (pInt ((xs.getD i []).tail.tail.headD PV.undef) == pInt ((ys.getD i []).tail.tail.headD PV.undef) && (pInt ((xs.getD i []).tail.tail.tail.headD PV.undef) == pInt ((ys.getD i []).tail.tail.tail.headD PV.undef) && true) && (pInt ((xs.getD i []).tail.tail.tail.tail.headD PV.undef) == pInt ((ys.getD i []).tail.tail.tail.tail.headD PV.undef) && (pInt ((xs.getD i []).tail.tail.tail.tail.tail.headD PV.undef) == pInt ((ys.getD i []).tail.tail.tail.tail.tail.headD PV.undef) && true))))
theorem val17 {xs ys : List (List PV)} (hl : xs.length ≤ huge) : ∃ N, f17 N xs ys = some (.r0 (alike same3 xs ys)) := by
  refine ⟨xs.length + 1, ?_⟩
  unfold f17 alike
  by_cases e : xs.length = ys.length
  · have e1 : ((xs.length : Int) != (ys.length : Int)) = false := by simp [e]
    have e2 : (xs.length == ys.length) = true := by simp [e]
    have hl' : xs.length ≤ 4611686018427387904 := hl
    rw [e1, cond_false, e2, Bool.true_and]
    have h := loop_all (stp := f17L0r (xs.length + 1) xs ys) (fun i => .s0 (i : Int)) .e0 .e1 (same3 xs ys) xs.length
      (fun i hi hp => by
        have h1 : decide ((i : Int) < (xs.length : Int)) = true := decide_eq_true (by omega)
        have h2 : decide ((0 : Int) ≤ (i : Int)) = true := decide_eq_true (by omega)
        have h3 : decide ((i : Int) < (ys.length : Int)) = true := decide_eq_true (by omega)
        unfold same3 at hp
        simp only [f17L0r, f17L0it5, Tr.run, Int.toNat_natCast, h1, h2, h3, wrap_next (i := i) (by omega), Bool.and_self, cond_true, hp, Bool.not_true, cond_false])
      (fun i hi hp => by
        have h1 : decide ((i : Int) < (xs.length : Int)) = true := decide_eq_true (by omega)
        have h2 : decide ((0 : Int) ≤ (i : Int)) = true := decide_eq_true (by omega)
        have h3 : decide ((i : Int) < (ys.length : Int)) = true := decide_eq_true (by omega)
        unfold same3 at hp
        simp only [f17L0r, f17L0it5, Tr.run, Int.toNat_natCast, h1, h2, h3, Bool.and_self, cond_true, hp, Bool.not_false, cond_true])
      (by
        have h1 : decide ((xs.length : Int) < (xs.length : Int)) = false := decide_eq_false (by omega)
        simp only [f17L0r, f17L0it5, Tr.run, h1, cond_false]) xs.length 0 (by omega)
    have h' : loopN (f17L0r (xs.length + 1) xs ys) (xs.length + 1) (.s0 (0 : Int)) = some (bif (List.range' 0 xs.length).all (same3 xs ys) then .e1 else .e0) := h
    rw [h']
    cases (List.range' 0 xs.length).all (same3 xs ys) <;> rfl
  · have e1 : ((xs.length : Int) != (ys.length : Int)) = true := by
      simp only [bne_iff_ne]
      omega
    have e2 : (xs.length == ys.length) = false := by simp [e]
    rw [e1, cond_true, e2, Bool.false_and]
    rfl
noncomputable def f17O : Ora := ⟨fun ps => okPs [(false, [.list 96]), (false, [.list 96])] ps && decide ((pList (ps.headD .undef)).length ≤ huge), fun ps => .pv (.bool (alike same3 (pList (ps.headD .undef)) (pList (ps.tail.headD .undef))))⟩
theorem f17_spec : Spec Try.prog 17 f17O := spec_at 100 [(false, [.list 96]), (false, [.list 96])] (fun ps => decide ((pList (ps.headD .undef)).length ≤ huge)) _ mixed fun ps hm hs hp => by
  obtain ⟨N, h1⟩ := val17 (xs := pList (ps.headD .undef)) (ys := pList (ps.tail.headD .undef)) (of_decide_eq_true hp)
  refine ⟨E1 N, _, rfl, E1_ok N, ?_, .inl rfl⟩
  have := f17_run N (pList (ps.headD .undef)) (pList (ps.tail.headD .undef))
  rw [h1] at this
  exact this
theorem val61 {xs ys : List (List PV)} (hl : xs.length ≤ huge) : ∃ N, f61 N xs ys = some (.r0 (alike same1 xs ys)) := by
  refine ⟨xs.length + 1, ?_⟩
  unfold f61 alike
  by_cases e : xs.length = ys.length
  · have e1 : ((xs.length : Int) != (ys.length : Int)) = false := by simp [e]
    have e2 : (xs.length == ys.length) = true := by simp [e]
    have hl' : xs.length ≤ 4611686018427387904 := hl
    rw [e1, cond_false, e2, Bool.true_and]
    have h := loop_all (stp := f61L0r (xs.length + 1) xs ys) (fun i => .s0 (i : Int)) .e0 .e1 (same1 xs ys) xs.length
      (fun i hi hp => by
        have h1 : decide ((i : Int) < (xs.length : Int)) = true := decide_eq_true (by omega)
        have h2 : decide ((0 : Int) ≤ (i : Int)) = true := decide_eq_true (by omega)
        have h3 : decide ((i : Int) < (ys.length : Int)) = true := decide_eq_true (by omega)
        have hp2 : (pInt ((xs.getD i []).headD PV.undef) != pInt ((ys.getD i []).headD PV.undef)) = !(same1 xs ys i) := by simp [same1]
        rw [hp] at hp2
        simp only [f61L0r, f61L0it5, Tr.run, Int.toNat_natCast, h1, h2, h3, wrap_next (i := i) (by omega), Bool.and_self, cond_true, hp2, Bool.not_true, cond_false])
      (fun i hi hp => by
        have h1 : decide ((i : Int) < (xs.length : Int)) = true := decide_eq_true (by omega)
        have h2 : decide ((0 : Int) ≤ (i : Int)) = true := decide_eq_true (by omega)
        have h3 : decide ((i : Int) < (ys.length : Int)) = true := decide_eq_true (by omega)
        have hp2 : (pInt ((xs.getD i []).headD PV.undef) != pInt ((ys.getD i []).headD PV.undef)) = !(same1 xs ys i) := by simp [same1]
        rw [hp] at hp2
        simp only [f61L0r, f61L0it5, Tr.run, Int.toNat_natCast, h1, h2, h3, Bool.and_self, cond_true, hp2, Bool.not_false, cond_true])
      (by
        have h1 : decide ((xs.length : Int) < (xs.length : Int)) = false := decide_eq_false (by omega)
        simp only [f61L0r, f61L0it5, Tr.run, h1, cond_false]) xs.length 0 (by omega)
    have h' : loopN (f61L0r (xs.length + 1) xs ys) (xs.length + 1) (.s0 (0 : Int)) = some (bif (List.range' 0 xs.length).all (same1 xs ys) then .e1 else .e0) := h
    rw [h']
    cases (List.range' 0 xs.length).all (same1 xs ys) <;> rfl
  · have e1 : ((xs.length : Int) != (ys.length : Int)) = true := by
      simp only [bne_iff_ne]
      omega
    have e2 : (xs.length == ys.length) = false := by simp [e]
    rw [e1, cond_true, e2, Bool.false_and]
    rfl
noncomputable def f61O : Ora := ⟨fun ps => okPs [(false, [.list 3]), (false, [.list 3])] ps && decide ((pList (ps.headD .undef)).length ≤ huge), fun ps => .pv (.bool (alike same1 (pList (ps.headD .undef)) (pList (ps.tail.headD .undef))))⟩
theorem f61_spec : Spec Try.prog 61 f61O := spec_at 100 [(false, [.list 3]), (false, [.list 3])] (fun ps => decide ((pList (ps.headD .undef)).length ≤ huge)) _ mixed fun ps hm hs hp => by
  obtain ⟨N, h1⟩ := val61 (xs := pList (ps.headD .undef)) (ys := pList (ps.tail.headD .undef)) (of_decide_eq_true hp)
  refine ⟨E1 N, _, rfl, E1_ok N, ?_, .inl rfl⟩
  have := f61_run N (pList (ps.headD .undef)) (pList (ps.tail.headD .undef))
  rw [h1] at this
  exact this
theorem val64 {xs ys : List (List PV)} (hl : xs.length ≤ huge) : ∃ N, f64 N xs ys = some (.r0 (alike same1 xs ys)) := by
  refine ⟨xs.length + 1, ?_⟩
  unfold f64 alike
  by_cases e : xs.length = ys.length
  · have e1 : ((xs.length : Int) != (ys.length : Int)) = false := by simp [e]
    have e2 : (xs.length == ys.length) = true := by simp [e]
    have hl' : xs.length ≤ 4611686018427387904 := hl
    rw [e1, cond_false, e2, Bool.true_and]
    have h := loop_all (stp := f64L0r (xs.length + 1) xs ys) (fun i => .s0 (i : Int)) .e0 .e1 (same1 xs ys) xs.length
      (fun i hi hp => by
        have h1 : decide ((i : Int) < (xs.length : Int)) = true := decide_eq_true (by omega)
        have h2 : decide ((0 : Int) ≤ (i : Int)) = true := decide_eq_true (by omega)
        have h3 : decide ((i : Int) < (ys.length : Int)) = true := decide_eq_true (by omega)
        have hp2 : (pInt ((xs.getD i []).headD PV.undef) != pInt ((ys.getD i []).headD PV.undef)) = !(same1 xs ys i) := by simp [same1]
        rw [hp] at hp2
        simp only [f64L0r, f64L0it5, Tr.run, Int.toNat_natCast, h1, h2, h3, wrap_next (i := i) (by omega), Bool.and_self, cond_true, hp2, Bool.not_true, cond_false])
      (fun i hi hp => by
        have h1 : decide ((i : Int) < (xs.length : Int)) = true := decide_eq_true (by omega)
        have h2 : decide ((0 : Int) ≤ (i : Int)) = true := decide_eq_true (by omega)
        have h3 : decide ((i : Int) < (ys.length : Int)) = true := decide_eq_true (by omega)
        have hp2 : (pInt ((xs.getD i []).headD PV.undef) != pInt ((ys.getD i []).headD PV.undef)) = !(same1 xs ys i) := by simp [same1]
        rw [hp] at hp2
        simp only [f64L0r, f64L0it5, Tr.run, Int.toNat_natCast, h1, h2, h3, Bool.and_self, cond_true, hp2, Bool.not_false, cond_true])
      (by
        have h1 : decide ((xs.length : Int) < (xs.length : Int)) = false := decide_eq_false (by omega)
        simp only [f64L0r, f64L0it5, Tr.run, h1, cond_false]) xs.length 0 (by omega)
    have h' : loopN (f64L0r (xs.length + 1) xs ys) (xs.length + 1) (.s0 (0 : Int)) = some (bif (List.range' 0 xs.length).all (same1 xs ys) then .e1 else .e0) := h
    rw [h']
    cases (List.range' 0 xs.length).all (same1 xs ys) <;> rfl
  · have e1 : ((xs.length : Int) != (ys.length : Int)) = true := by
      simp only [bne_iff_ne]
      omega
    have e2 : (xs.length == ys.length) = false := by simp [e]
    rw [e1, cond_true, e2, Bool.false_and]
    rfl
noncomputable def f64O : Ora := ⟨fun ps => okPs [(false, [.list 3]), (false, [.list 3])] ps && decide ((pList (ps.headD .undef)).length ≤ huge), fun ps => .pv (.bool (alike same1 (pList (ps.headD .undef)) (pList (ps.tail.headD .undef))))⟩
theorem f64_spec : Spec Try.prog 64 f64O := spec_at 100 [(false, [.list 3]), (false, [.list 3])] (fun ps => decide ((pList (ps.headD .undef)).length ≤ huge)) _ mixed fun ps hm hs hp => by
  obtain ⟨N, h1⟩ := val64 (xs := pList (ps.headD .undef)) (ys := pList (ps.tail.headD .undef)) (of_decide_eq_true hp)
  refine ⟨E1 N, _, rfl, E1_ok N, ?_, .inl rfl⟩
  have := f64_run N (pList (ps.headD .undef)) (pList (ps.tail.headD .undef))
  rw [h1] at this
  exact this
theorem val65 {xs ys : List (List PV)} (hl : xs.length ≤ huge) : ∃ N, f65 N xs ys = some (.r0 (alike same2 xs ys)) := by
  refine ⟨xs.length + 1, ?_⟩
  unfold f65 alike
  by_cases e : xs.length = ys.length
  · have e1 : ((xs.length : Int) != (ys.length : Int)) = false := by simp [e]
    have e2 : (xs.length == ys.length) = true := by simp [e]
    have hl' : xs.length ≤ 4611686018427387904 := hl
    rw [e1, cond_false, e2, Bool.true_and]
    have h := loop_all (stp := f65L0r (xs.length + 1) xs ys) (fun i => .s0 (i : Int)) .e0 .e1 (same2 xs ys) xs.length
      (fun i hi hp => by
        have h1 : decide ((i : Int) < (xs.length : Int)) = true := decide_eq_true (by omega)
        have h2 : decide ((0 : Int) ≤ (i : Int)) = true := decide_eq_true (by omega)
        have h3 : decide ((i : Int) < (ys.length : Int)) = true := decide_eq_true (by omega)
        unfold same2 at hp
        simp only [f65L0r, f65L0it5, Tr.run, Int.toNat_natCast, h1, h2, h3, wrap_next (i := i) (by omega), Bool.and_self, cond_true, hp, Bool.not_true, cond_false])
      (fun i hi hp => by
        have h1 : decide ((i : Int) < (xs.length : Int)) = true := decide_eq_true (by omega)
        have h2 : decide ((0 : Int) ≤ (i : Int)) = true := decide_eq_true (by omega)
        have h3 : decide ((i : Int) < (ys.length : Int)) = true := decide_eq_true (by omega)
        unfold same2 at hp
        simp only [f65L0r, f65L0it5, Tr.run, Int.toNat_natCast, h1, h2, h3, Bool.and_self, cond_true, hp, Bool.not_false, cond_true])
      (by
        have h1 : decide ((xs.length : Int) < (xs.length : Int)) = false := decide_eq_false (by omega)
        simp only [f65L0r, f65L0it5, Tr.run, h1, cond_false]) xs.length 0 (by omega)
    have h' : loopN (f65L0r (xs.length + 1) xs ys) (xs.length + 1) (.s0 (0 : Int)) = some (bif (List.range' 0 xs.length).all (same2 xs ys) then .e1 else .e0) := h
    rw [h']
    cases (List.range' 0 xs.length).all (same2 xs ys) <;> rfl
  · have e1 : ((xs.length : Int) != (ys.length : Int)) = true := by
      simp only [bne_iff_ne]
      omega
    have e2 : (xs.length == ys.length) = false := by simp [e]
    rw [e1, cond_true, e2, Bool.false_and]
    rfl
noncomputable def f65O : Ora := ⟨fun ps => okPs [(false, [.list 66]), (false, [.list 66])] ps && decide ((pList (ps.headD .undef)).length ≤ huge), fun ps => .pv (.bool (alike same2 (pList (ps.headD .undef)) (pList (ps.tail.headD .undef))))⟩
theorem f65_spec : Spec Try.prog 65 f65O := spec_at 100 [(false, [.list 66]), (false, [.list 66])] (fun ps => decide ((pList (ps.headD .undef)).length ≤ huge)) _ mixed fun ps hm hs hp => by
  obtain ⟨N, h1⟩ := val65 (xs := pList (ps.headD .undef)) (ys := pList (ps.tail.headD .undef)) (of_decide_eq_true hp)
  refine ⟨E1 N, _, rfl, E1_ok N, ?_, .inl rfl⟩
  have := f65_run N (pList (ps.headD .undef)) (pList (ps.tail.headD .undef))
  rw [h1] at this
  exact this
theorem val66 {xs ys : List (List PV)} (hl : xs.length ≤ huge) : ∃ N, f66 N xs ys = some (.r0 (alike same3 xs ys)) := by
  refine ⟨xs.length + 1, ?_⟩
  unfold f66 alike
  by_cases e : xs.length = ys.length
  · have e1 : ((xs.length : Int) != (ys.length : Int)) = false := by simp [e]
    have e2 : (xs.length == ys.length) = true := by simp [e]
    have hl' : xs.length ≤ 4611686018427387904 := hl
    rw [e1, cond_false, e2, Bool.true_and]
    have h := loop_all (stp := f66L0r (xs.length + 1) xs ys) (fun i => .s0 (i : Int)) .e0 .e1 (same3 xs ys) xs.length
      (fun i hi hp => by
        have h1 : decide ((i : Int) < (xs.length : Int)) = true := decide_eq_true (by omega)
        have h2 : decide ((0 : Int) ≤ (i : Int)) = true := decide_eq_true (by omega)
        have h3 : decide ((i : Int) < (ys.length : Int)) = true := decide_eq_true (by omega)
        unfold same3 at hp
        simp only [f66L0r, f66L0it5, Tr.run, Int.toNat_natCast, h1, h2, h3, wrap_next (i := i) (by omega), Bool.and_self, cond_true, hp, Bool.not_true, cond_false])
      (fun i hi hp => by
        have h1 : decide ((i : Int) < (xs.length : Int)) = true := decide_eq_true (by omega)
        have h2 : decide ((0 : Int) ≤ (i : Int)) = true := decide_eq_true (by omega)
        have h3 : decide ((i : Int) < (ys.length : Int)) = true := decide_eq_true (by omega)
        unfold same3 at hp
        simp only [f66L0r, f66L0it5, Tr.run, Int.toNat_natCast, h1, h2, h3, Bool.and_self, cond_true, hp, Bool.not_false, cond_true])
      (by
        have h1 : decide ((xs.length : Int) < (xs.length : Int)) = false := decide_eq_false (by omega)
        simp only [f66L0r, f66L0it5, Tr.run, h1, cond_false]) xs.length 0 (by omega)
    have h' : loopN (f66L0r (xs.length + 1) xs ys) (xs.length + 1) (.s0 (0 : Int)) = some (bif (List.range' 0 xs.length).all (same3 xs ys) then .e1 else .e0) := h
    rw [h']
    cases (List.range' 0 xs.length).all (same3 xs ys) <;> rfl
  · have e1 : ((xs.length : Int) != (ys.length : Int)) = true := by
      simp only [bne_iff_ne]
      omega
    have e2 : (xs.length == ys.length) = false := by simp [e]
    rw [e1, cond_true, e2, Bool.false_and]
    rfl
noncomputable def f66O : Ora := ⟨fun ps => okPs [(false, [.list 78]), (false, [.list 78])] ps && decide ((pList (ps.headD .undef)).length ≤ huge), fun ps => .pv (.bool (alike same3 (pList (ps.headD .undef)) (pList (ps.tail.headD .undef))))⟩
theorem f66_spec : Spec Try.prog 66 f66O := spec_at 100 [(false, [.list 78]), (false, [.list 78])] (fun ps => decide ((pList (ps.headD .undef)).length ≤ huge)) _ mixed fun ps hm hs hp => by
  obtain ⟨N, h1⟩ := val66 (xs := pList (ps.headD .undef)) (ys := pList (ps.tail.headD .undef)) (of_decide_eq_true hp)
  refine ⟨E1 N, _, rfl, E1_ok N, ?_, .inl rfl⟩
  have := f66_run N (pList (ps.headD .undef)) (pList (ps.tail.headD .undef))
  rw [h1] at this
  exact this
theorem val42 {xs ys : List (List PV)} (hl : xs.length ≤ huge) : ∃ N, f42 N xs ys = some (.r0 (alike same6 xs ys)) := by
  refine ⟨xs.length + 1, ?_⟩
  unfold f42 alike
  by_cases e : xs.length = ys.length
  · have e1 : ((xs.length : Int) != (ys.length : Int)) = false := by simp [e]
    have e2 : (xs.length == ys.length) = true := by simp [e]
    have hl' : xs.length ≤ 4611686018427387904 := hl
    rw [e1, cond_false, e2, Bool.true_and]
    have h := loop_all (stp := f42L0r (xs.length + 1) xs ys) (fun i => .s0 (i : Int)) .e0 .e1 (same6 xs ys) xs.length
      (fun i hi hp => by
        have h1 : decide ((i : Int) < (xs.length : Int)) = true := decide_eq_true (by omega)
        have h2 : decide ((0 : Int) ≤ (i : Int)) = true := decide_eq_true (by omega)
        have h3 : decide ((i : Int) < (ys.length : Int)) = true := decide_eq_true (by omega)
        unfold same6 at hp
        simp only [f42L0r, f42L0it5, Tr.run, Int.toNat_natCast, h1, h2, h3, wrap_next (i := i) (by omega), Bool.and_self, cond_true, hp, Bool.not_true, cond_false])
      (fun i hi hp => by
        have h1 : decide ((i : Int) < (xs.length : Int)) = true := decide_eq_true (by omega)
        have h2 : decide ((0 : Int) ≤ (i : Int)) = true := decide_eq_true (by omega)
        have h3 : decide ((i : Int) < (ys.length : Int)) = true := decide_eq_true (by omega)
        unfold same6 at hp
        simp only [f42L0r, f42L0it5, Tr.run, Int.toNat_natCast, h1, h2, h3, Bool.and_self, cond_true, hp, Bool.not_false, cond_true])
      (by
        have h1 : decide ((xs.length : Int) < (xs.length : Int)) = false := decide_eq_false (by omega)
        simp only [f42L0r, f42L0it5, Tr.run, h1, cond_false]) xs.length 0 (by omega)
    have h' : loopN (f42L0r (xs.length + 1) xs ys) (xs.length + 1) (.s0 (0 : Int)) = some (bif (List.range' 0 xs.length).all (same6 xs ys) then .e1 else .e0) := h
    rw [h']
    cases (List.range' 0 xs.length).all (same6 xs ys) <;> rfl
  · have e1 : ((xs.length : Int) != (ys.length : Int)) = true := by
      simp only [bne_iff_ne]
      omega
    have e2 : (xs.length == ys.length) = false := by simp [e]
    rw [e1, cond_true, e2, Bool.false_and]
    rfl
noncomputable def f42O : Ora := ⟨fun ps => okPs [(false, [.list 119]), (false, [.list 119])] ps && decide ((pList (ps.headD .undef)).length ≤ huge), fun ps => .pv (.bool (alike same6 (pList (ps.headD .undef)) (pList (ps.tail.headD .undef))))⟩
theorem f42_spec : Spec Try.prog 42 f42O := spec_at 100 [(false, [.list 119]), (false, [.list 119])] (fun ps => decide ((pList (ps.headD .undef)).length ≤ huge)) _ mixed fun ps hm hs hp => by
  obtain ⟨N, h1⟩ := val42 (xs := pList (ps.headD .undef)) (ys := pList (ps.tail.headD .undef)) (of_decide_eq_true hp)
  refine ⟨E1 N, _, rfl, E1_ok N, ?_, .inl rfl⟩
  have := f42_run N (pList (ps.headD .undef)) (pList (ps.tail.headD .undef))
  rw [h1] at this
  exact this
theorem step18 {N i : Nat} {xs acc : List (List PV)} (hc : ∀ e ∈ xs, cfs [.int .i64, .int .i64, .int .i64] e) (hi : i < xs.length) (hl : xs.length ≤ most) (ha : acc.length + 1 ≤ most) :
    f18L0r N xs (.s2 i acc) = some (.inl (.s2 ((i + 1 : Nat) : Int) (acc ++ [xs.getD i []]))) := by
  have h1 : decide ((i : Int) < (xs.length : Int)) = true := decide_eq_true (by omega)
  have h2 : decide ((0 : Int) ≤ (i : Int)) = true := decide_eq_true (by omega)
  have h3 : decide (acc.length + 1 ≤ most) = true := decide_eq_true ha
  have he := etas_at hc hi
  have he' : [PV.int IntKind.i64 (pInt ((xs.getD i []).headD PV.undef)), PV.int IntKind.i64 (pInt ((xs.getD i []).tail.headD PV.undef)), PV.int IntKind.i64 (pInt ((xs.getD i []).tail.tail.headD PV.undef))] = xs.getD i [] := he
  have hm : xs.length ≤ 1000000 := hl
  simp only [f18L0r, f18L0it12, f18L0it8, f18L0it9, f18t13, Tr.run, Int.toNat_natCast, he', h1, h2, List.length_cons, List.length_nil, Nat.zero_add, h3, wrap_next (i := i) (by omega), Bool.and_self, cond_true]
theorem loop18 {N : Nat} {xs : List (List PV)} (hc : ∀ e ∈ xs, cfs [.int .i64, .int .i64, .int .i64] e) (hl : xs.length ≤ most) :
    ∀ (k i : Nat), i + k = xs.length → loopN (f18L0r N xs) (k + 1) (.s2 i (xs.take i)) = some (.e2 xs)
  | 0, i, h => by
    have h1 : decide ((i : Int) < (xs.length : Int)) = false := decide_eq_false (by omega)
    refine loopN_end ?_
    simp only [f18L0r, f18L0it12, f18L0it8, f18L0it9, f18t13, Tr.run, h1, cond_false]
    rw [List.take_of_length_le (by omega)]
  | k + 1, i, h => by
    have hi : i < xs.length := by omega
    rw [loopN_next (step18 hc hi hl (by rw [List.length_take]; omega))]
    have : xs.take i ++ [xs.getD i []] = xs.take (i + 1) := by
      rw [List.take_add_one, List.getD_eq_getElem?_getD, List.getElem?_eq_getElem hi]
      rfl
    rw [this]
    exact loop18 hc hl k (i + 1) (by omega)
theorem val18 {xs : List (List PV)} (hc : ∀ e ∈ xs, cfs [.int .i64, .int .i64, .int .i64] e) (hl : xs.length ≤ most) : ∃ N o, f18 N xs = some o ∧ (f18W o).plain = .pv (.list 96 xs) := by
  match xs, hc, hl with
  | [], hc, hl => exact ⟨1, .r0 [], rfl, rfl⟩
  | [a], hc, hl =>
    have he := etas_at (i := 0) hc (by simp)
    refine ⟨2, .r1 [etas [.int .i64, .int .i64, .int .i64] a], rfl, ?_⟩
    show Res.pv (PV.list 96 [_]) = _
    rw [show etas [.int .i64, .int .i64, .int .i64] a = a from he]
  | a :: b :: l, hc, hl =>
    have h0 := etas_at (i := 0) hc (by simp)
    have h1 := etas_at (i := 1) hc (by simp)
    refine ⟨l.length + 3, .r0 (a :: b :: l), ?_, rfl⟩
    unfold f18
    have e0 : f18L0r (l.length + 3) (a :: b :: l) .s0 = some (.inl .s1) := by
      have : decide ((0 : Int) < (((a :: b :: l).length : Nat) : Int)) = true := decide_eq_true (by simp; omega)
      simp only [f18L0r, f18L0it12, f18L0it8, f18L0it9, f18t13, Tr.run, this]
      rfl
    have e1 : f18L0r (l.length + 3) (a :: b :: l) .s1 = some (.inl (.s2 ((2 : Nat) : Int) ((a :: b :: l).take 2))) := by
      have : decide ((1 : Int) < (((a :: b :: l).length : Nat) : Int)) = true := decide_eq_true (by simp; omega)
      have h0' : etas [.int .i64, .int .i64, .int .i64] a = a := h0
      have h1' : etas [.int .i64, .int .i64, .int .i64] b = b := h1
      have e : [a, b] = [etas [.int .i64, .int .i64, .int .i64] a, etas [.int .i64, .int .i64, .int .i64] b] := by rw [h0', h1']
      show _ = some (Sum.inl (f18L0s.s2 ((2 : Nat) : Int) [a, b]))
      rw [e]
      simp only [f18L0r, f18L0it12, f18L0it8, f18L0it9, f18t13, Tr.run, this]
      rfl
    rw [loopN_next e0, loopN_next e1, loop18 hc hl l.length 2 (by simp; omega)]
    rfl
/-- The same entries. -/
noncomputable def f18O : Ora := ⟨fun ps => okPs [(false, [.list 78])] ps && decide ((pList (ps.headD .undef)).length ≤ most), fun ps => .pv (.list 96 (pList (ps.headD .undef)))⟩
theorem f18_kinds : kinds Try.prog 78 = [.int .i64, .int .i64, .int .i64] := by kernel_rfl
theorem f18_spec : Spec Try.prog 18 f18O := spec_fit 100 f18rs [(false, [.list 78])] (fun ps => decide ((pList (ps.headD .undef)).length ≤ most)) _ mixed fun ps hm hs hp => by
  have hc := okPs_can hs
  have hcf := hm.list 0 (ks := [.int .i64, .int .i64, .int .i64]) (t := 78) (xs := pList (ps.headD .undef)) (by rw [← hc]; rfl) f18_kinds
  obtain ⟨N, o, h1, h2⟩ := val18 hcf (of_decide_eq_true hp)
  refine ⟨E1 N, f18W o, rfl, E1_ok N, ?_, .inr h2⟩
  have := f18_run N (pList (ps.headD .undef))
  rw [h1] at this
  exact this
theorem step38 {N i : Nat} {xs acc : List (List PV)} (hc : ∀ e ∈ xs, cfs [.int .i64, .int .i64, .int .i64, .int .i64, .int .i64, .int .i64] e) (hi : i < xs.length) (hl : xs.length ≤ most) (ha : acc.length + 1 ≤ most) :
    f38L0r N xs (.s2 i acc) = some (.inl (.s2 ((i + 1 : Nat) : Int) (acc ++ [xs.getD i []]))) := by
  have h1 : decide ((i : Int) < (xs.length : Int)) = true := decide_eq_true (by omega)
  have h2 : decide ((0 : Int) ≤ (i : Int)) = true := decide_eq_true (by omega)
  have h3 : decide (acc.length + 1 ≤ most) = true := decide_eq_true ha
  have he := etas_at hc hi
  have he' : [PV.int IntKind.i64 (pInt ((xs.getD i []).headD PV.undef)), PV.int IntKind.i64 (pInt ((xs.getD i []).tail.headD PV.undef)), PV.int IntKind.i64 (pInt ((xs.getD i []).tail.tail.headD PV.undef)), PV.int IntKind.i64 (pInt ((xs.getD i []).tail.tail.tail.headD PV.undef)), PV.int IntKind.i64 (pInt ((xs.getD i []).tail.tail.tail.tail.headD PV.undef)), PV.int IntKind.i64 (pInt ((xs.getD i []).tail.tail.tail.tail.tail.headD PV.undef))] = xs.getD i [] := he
  have hm : xs.length ≤ 1000000 := hl
  simp only [f38L0r, f38L0it12, f38L0it8, f38L0it9, f38t13, Tr.run, Int.toNat_natCast, he', h1, h2, List.length_cons, List.length_nil, Nat.zero_add, h3, wrap_next (i := i) (by omega), Bool.and_self, cond_true]
theorem loop38 {N : Nat} {xs : List (List PV)} (hc : ∀ e ∈ xs, cfs [.int .i64, .int .i64, .int .i64, .int .i64, .int .i64, .int .i64] e) (hl : xs.length ≤ most) :
    ∀ (k i : Nat), i + k = xs.length → loopN (f38L0r N xs) (k + 1) (.s2 i (xs.take i)) = some (.e2 xs)
  | 0, i, h => by
    have h1 : decide ((i : Int) < (xs.length : Int)) = false := decide_eq_false (by omega)
    refine loopN_end ?_
    simp only [f38L0r, f38L0it12, f38L0it8, f38L0it9, f38t13, Tr.run, h1, cond_false]
    rw [List.take_of_length_le (by omega)]
  | k + 1, i, h => by
    have hi : i < xs.length := by omega
    rw [loopN_next (step38 hc hi hl (by rw [List.length_take]; omega))]
    have : xs.take i ++ [xs.getD i []] = xs.take (i + 1) := by
      rw [List.take_add_one, List.getD_eq_getElem?_getD, List.getElem?_eq_getElem hi]
      rfl
    rw [this]
    exact loop38 hc hl k (i + 1) (by omega)
theorem val38 {xs : List (List PV)} (hc : ∀ e ∈ xs, cfs [.int .i64, .int .i64, .int .i64, .int .i64, .int .i64, .int .i64] e) (hl : xs.length ≤ most) : ∃ N o, f38 N xs = some o ∧ (f38W o).plain = .pv (.list 119 xs) := by
  match xs, hc, hl with
  | [], hc, hl => exact ⟨1, .r0 [], rfl, rfl⟩
  | [a], hc, hl =>
    have he := etas_at (i := 0) hc (by simp)
    refine ⟨2, .r1 [etas [.int .i64, .int .i64, .int .i64, .int .i64, .int .i64, .int .i64] a], rfl, ?_⟩
    show Res.pv (PV.list 119 [_]) = _
    rw [show etas [.int .i64, .int .i64, .int .i64, .int .i64, .int .i64, .int .i64] a = a from he]
  | a :: b :: l, hc, hl =>
    have h0 := etas_at (i := 0) hc (by simp)
    have h1 := etas_at (i := 1) hc (by simp)
    refine ⟨l.length + 3, .r0 (a :: b :: l), ?_, rfl⟩
    unfold f38
    have e0 : f38L0r (l.length + 3) (a :: b :: l) .s0 = some (.inl .s1) := by
      have : decide ((0 : Int) < (((a :: b :: l).length : Nat) : Int)) = true := decide_eq_true (by simp; omega)
      simp only [f38L0r, f38L0it12, f38L0it8, f38L0it9, f38t13, Tr.run, this]
      rfl
    have e1 : f38L0r (l.length + 3) (a :: b :: l) .s1 = some (.inl (.s2 ((2 : Nat) : Int) ((a :: b :: l).take 2))) := by
      have : decide ((1 : Int) < (((a :: b :: l).length : Nat) : Int)) = true := decide_eq_true (by simp; omega)
      have h0' : etas [.int .i64, .int .i64, .int .i64, .int .i64, .int .i64, .int .i64] a = a := h0
      have h1' : etas [.int .i64, .int .i64, .int .i64, .int .i64, .int .i64, .int .i64] b = b := h1
      have e : [a, b] = [etas [.int .i64, .int .i64, .int .i64, .int .i64, .int .i64, .int .i64] a, etas [.int .i64, .int .i64, .int .i64, .int .i64, .int .i64, .int .i64] b] := by rw [h0', h1']
      show _ = some (Sum.inl (f38L0s.s2 ((2 : Nat) : Int) [a, b]))
      rw [e]
      simp only [f38L0r, f38L0it12, f38L0it8, f38L0it9, f38t13, Tr.run, this]
      rfl
    rw [loopN_next e0, loopN_next e1, loop38 hc hl l.length 2 (by simp; omega)]
    rfl
/-- The same entries. -/
noncomputable def f38O : Ora := ⟨fun ps => okPs [(false, [.list 117])] ps && decide ((pList (ps.headD .undef)).length ≤ most), fun ps => .pv (.list 119 (pList (ps.headD .undef)))⟩
theorem f38_kinds : kinds Try.prog 117 = [.int .i64, .int .i64, .int .i64, .int .i64, .int .i64, .int .i64] := by kernel_rfl
theorem f38_spec : Spec Try.prog 38 f38O := spec_fit 100 f38rs [(false, [.list 117])] (fun ps => decide ((pList (ps.headD .undef)).length ≤ most)) _ mixed fun ps hm hs hp => by
  have hc := okPs_can hs
  have hcf := hm.list 0 (ks := [.int .i64, .int .i64, .int .i64, .int .i64, .int .i64, .int .i64]) (t := 117) (xs := pList (ps.headD .undef)) (by rw [← hc]; rfl) f38_kinds
  obtain ⟨N, o, h1, h2⟩ := val38 hcf (of_decide_eq_true hp)
  refine ⟨E1 N, f38W o, rfl, E1_ok N, ?_, .inr h2⟩
  have := f38_run N (pList (ps.headD .undef))
  rw [h1] at this
  exact this
/-- Is a turn too much to look at? -/
def fitsB (x : S38) (i : Nat) : Bool := !decide (((pList ((x.a15.getD i []).headD PV.undef)).length : Int) > 20)
def big (x : S38) : Bool := !(List.range' 0 (min x.a15.length 20)).all (fitsB x) || (decide ((x.a14.length : Int) > 400) || (decide ((x.a15.length : Int) > 16) || (decide ((x.a20.length : Int) > 20) || (decide ((x.a21.length : Int) > 20) || (decide ((x.a22.length : Int) > 20) || (decide ((x.a33.length : Int) > 100) || decide ((x.a35.length : Int) > 50)))))))
theorem val8 {x : S38} : f8 21 x = some (.r0 (big x)) := by
  unfold f8 big
  have h := loop_all (stp := f8L0r 21 x) (fun i => .s0 (i : Int)) .e0 .e1 (fitsB x) (min x.a15.length 20)
    (fun i hi hp => by
      have hq : decide (((pList ((x.a15.getD i []).headD PV.undef)).length : Int) > 20) = false := by simpa [fitsB] using hp
      refine run_true (decide_eq_true (show (i : Int) < (x.a15.length : Int) by omega)) (run_true (decide_eq_true (show (i : Int) < 20 by omega)) (run_true (by rw [decide_eq_true (show (0 : Int) ≤ (i : Int) by omega), decide_eq_true (show (i : Int) < (x.a15.length : Int) by omega)]; rfl) (run_false hq ?_)))
      show some (Sum.inl (f8L0s.s0 (IntKind.i64.wrap ((i : Int) + 1)))) = _
      rw [wrap_next (i := i) (by omega)])
    (fun i hi hp => by
      have hq : decide (((pList ((x.a15.getD i []).headD PV.undef)).length : Int) > 20) = true := by simpa [fitsB] using hp
      exact run_true (decide_eq_true (show (i : Int) < (x.a15.length : Int) by omega)) (run_true (decide_eq_true (show (i : Int) < 20 by omega)) (run_true (by rw [decide_eq_true (show (0 : Int) ≤ (i : Int) by omega), decide_eq_true (show (i : Int) < (x.a15.length : Int) by omega)]; rfl) (run_true hq rfl))))
    (by
      by_cases e : x.a15.length ≤ 20
      · rw [Nat.min_eq_left e]
        exact run_false (decide_eq_false (show ¬ ((x.a15.length : Int) < (x.a15.length : Int)) by omega)) rfl
      · rw [Nat.min_eq_right (by omega)]
        exact run_true (decide_eq_true (show (((20 : Nat) : Int)) < (x.a15.length : Int) by omega)) (run_false (decide_eq_false (show ¬ ((((20 : Nat) : Int)) < 20) by omega)) rfl)) (min x.a15.length 20) 0 (by omega)
  have h' := loopN_more _ _ _ h (20 - min x.a15.length 20)
  have e21 : min x.a15.length 20 + 1 + (20 - min x.a15.length 20) = 21 := by omega
  rw [e21] at h'
  have h'' : loopN (f8L0r 21 x) 21 (.s0 (0 : Int)) = _ := h'
  rw [h'']
  cases (List.range' 0 (min x.a15.length 20)).all (fitsB x)
  · rfl
  · simp only [cond_true, Option.bind_some, Bool.not_true, Bool.false_or]
    show Tr.run _ = _
    refine run_test (fun h => by rw [h]; rfl) (fun h => ?_)
    rw [h]
    refine run_test (fun h => by rw [h]; rfl) (fun h => ?_)
    rw [h]
    refine run_test (fun h => by rw [h]; rfl) (fun h => ?_)
    rw [h]
    refine run_test (fun h => by rw [h]; rfl) (fun h => ?_)
    rw [h]
    refine run_test (fun h => by rw [h]; rfl) (fun h => ?_)
    rw [h]
    refine run_test (fun h => by rw [h]; rfl) (fun h => ?_)
    rw [h]
    rfl
noncomputable def f8O : Ora := ⟨fun ps => okPs [S38k] ps && true, fun ps => .pv (.bool (big (S38r (ps.headD .undef))))⟩
theorem f8_spec : Spec Try.prog 8 f8O := spec_at 100 [S38k] (fun ps => true) _ mixed fun ps hm hs hp => by
  have hc : canPs [S38k] ps = [S38v (S38r (ps.headD PV.undef))] := by kernel_rfl
  refine ⟨E1 21, _, rfl, E1_ok 21, ?_, .inl rfl⟩
  rw [hc, f8_run, val8]
  rfl
/-- How many nodes a tree has that is four deep at most. -/
def nodesR (d : Int) : Int := if d < 1 then 0 else if d = 1 then 1 else if d = 2 then 3 else if d = 3 then 7 else 15
theorem val62 {x : S43} (h : x.a3 ≤ 4) : f62 5 x = some ⟨nodesR x.a3⟩ := by
  by_cases h0 : x.a3 < 1
  · unfold f62 nodesR
    rw [if_pos h0, loopN_end (show f62L0r 5 x (.s0 1 0) = some (.inr (.e0 1)) from run_false (decide_eq_false (by omega)) rfl)]
    rfl
  · obtain ⟨a0, a1, a2, a3, a4, a5, a6, a7, a8, a9, a10, a11⟩ := x
    have h0' : ¬ a3 < 1 := h0
    have h' : a3 ≤ 4 := h
    have : a3 = 1 ∨ a3 = 2 ∨ a3 = 3 ∨ a3 = 4 := by omega
    clear h0 h h0' h'
    rcases this with rfl | rfl | rfl | rfl <;> rfl
noncomputable def f62O : Ora := ⟨fun ps => okPs [S43k] ps && decide ((S43r (ps.headD .undef)).a3 ≤ 4), fun ps => .pv (.int .i64 (nodesR (S43r (ps.headD .undef)).a3))⟩
theorem f62_spec : Spec Try.prog 62 f62O := spec_at 100 [S43k] (fun ps => decide ((S43r (ps.headD .undef)).a3 ≤ 4)) _ mixed fun ps hm hs hp => by
  have hc : canPs [S43k] ps = [S43v (S43r (ps.headD PV.undef))] := by kernel_rfl
  refine ⟨E1 5, _, rfl, E1_ok 5, ?_, .inl rfl⟩
  rw [hc, f62_run, val62 (of_decide_eq_true hp)]
  rfl
def uptoN (xs : List (List PV)) (k : Int) : Nat := min xs.length k.toNat
theorem val23 {xs : List (List PV)} {m : Int} (hc : ∀ e ∈ xs, cfs [.int .i64, .int .i64, .int .i64] e) (hl : xs.length ≤ most) : ∃ N o, f23 N xs m = some o ∧ (f23W o).plain = .pv (.list 96 (xs.take (uptoN xs m))) := by
  have hm : xs.length ≤ 1000000 := hl
  have hn : uptoN xs m ≤ xs.length := Nat.min_le_left _ _
  have hk : ∀ i : Nat, i < uptoN xs m → i < xs.length ∧ (i : Int) < m := fun i hi => by
    unfold uptoN at hi
    omega
  have hk2 : ¬ (uptoN xs m < xs.length ∧ ((uptoN xs m : Nat) : Int) < m) := by
    unfold uptoN
    omega
  have stop : ∀ (i : Nat) (A B : Tr (f23L0s ⊕ f23L0e)) (e : f23L0e), i = uptoN xs m → (Tr.test (decide ((i : Int) < (xs.length : Int))) (.test (decide ((i : Int) < m)) A (.ret (.inr e))) (.ret (.inr e))).run = some (.inr e) := by
    intro i A B e hi
    by_cases h1 : (i : Int) < (xs.length : Int)
    · refine run_true (decide_eq_true h1) (run_false (decide_eq_false ?_) rfl)
      intro h2
      exact hk2 ⟨by omega, by omega⟩
    · exact run_false (decide_eq_false h1) rfl
  have h := grow (stp := f23L0r (uptoN xs m + 1) xs m) .s0 .s1 .s2 .e0 .e1 .e2 (fun i => [PV.int .i64 (pInt ((xs.getD i []).headD PV.undef)), PV.int .i64 (pInt ((xs.getD i []).tail.headD PV.undef)), PV.int .i64 (pInt ((xs.getD i []).tail.tail.headD PV.undef))]) (uptoN xs m)
    (fun e => (match e with
      | .e0 => Tr.run (.ret (f23o.r0 ([])))
      | .e1 => Tr.run (f23t13 xs m)
      | .e2 w => Tr.run (.ret (f23o.r0 w))).map fun o => (f23W o).plain)
    (fun l => .pv (.list 96 l)) rfl rfl (fun w => rfl) (Nat.le_trans hn hl)
    (fun e => stop 0 _ .fail _ e.symm)
    (fun e => by
      obtain ⟨h1, h2⟩ := hk 0 e
      have q1 : decide ((0 : Int) < (xs.length : Int)) = true := decide_eq_true (by omega)
      exact run_true q1 (run_true (decide_eq_true h2) (run_true (by rw [q1]; rfl) rfl)))
    (fun e => stop 1 _ .fail _ e.symm)
    (fun e => by
      obtain ⟨h1, h2⟩ := hk 1 e
      have q1 : decide ((1 : Int) < (xs.length : Int)) = true := decide_eq_true (by omega)
      exact run_true q1 (run_true (decide_eq_true h2) (run_true (by rw [q1]; rfl) rfl)))
    (fun i acc hi ha => by
      obtain ⟨h1, h2⟩ := hk i hi
      have q0 : decide ((0 : Int) ≤ (i : Int)) = true := decide_eq_true (by omega)
      have q1 : decide ((i : Int) < (xs.length : Int)) = true := decide_eq_true (by omega)
      refine run_true q1 (run_true (decide_eq_true h2) (run_true (by rw [q0, q1]; rfl) (run_true (decide_eq_true ha) ?_)))
      show some (Sum.inl (f23L0s.s2 (IntKind.i64.wrap ((i : Int) + 1)) _)) = _
      rw [wrap_next (i := i) (by omega)]
      rfl)
    (fun acc => stop (uptoN xs m) _ .fail _ rfl)
  have he : (List.range' 0 (uptoN xs m)).map (fun i => [PV.int .i64 (pInt ((xs.getD i []).headD PV.undef)), PV.int .i64 (pInt ((xs.getD i []).tail.headD PV.undef)), PV.int .i64 (pInt ((xs.getD i []).tail.tail.headD PV.undef))]) = xs.take (uptoN xs m) := by
    refine range_map_get (n := uptoN xs m) (by rw [List.length_take]; omega) fun i hi => ?_
    have hi' := (hk i hi).1
    have := etas_at hc hi'
    refine (show _ = xs.getD i [] from this).trans ?_
    simp [List.getD_eq_getElem?_getD, List.getElem?_take, hi]
  rw [he] at h
  have h2 : (f23 (uptoN xs m + 1) xs m).map (fun o => (f23W o).plain) = some (.pv (.list 96 (xs.take (uptoN xs m)))) := by
    rw [← h]
    unfold f23
    rw [Option.map_bind]
    rfl
  obtain ⟨o, h3, h4⟩ := Option.map_eq_some_iff.1 h2
  exact ⟨_, o, h3, h4⟩
noncomputable def f23O : Ora := ⟨fun ps => okPs [(false, [.list 96]), (false, [.int .i64])] ps && decide ((pList (ps.headD .undef)).length ≤ most), fun ps => .pv (.list 96 ((pList (ps.headD .undef)).take (uptoN (pList (ps.headD .undef)) (pInt (ps.tail.headD .undef)))))⟩
theorem f23_kinds : kinds Try.prog 96 = [.int .i64, .int .i64, .int .i64] := by kernel_rfl
theorem f23_spec : Spec Try.prog 23 f23O := spec_fit 100 f23rs [(false, [.list 96]), (false, [.int .i64])] (fun ps => decide ((pList (ps.headD .undef)).length ≤ most)) _ mixed fun ps hm hs hp => by
  have hc := okPs_can hs
  have hcf := hm.list 0 (ks := [.int .i64, .int .i64, .int .i64]) (t := 96) (xs := pList (ps.headD .undef)) (by rw [← hc]; rfl) f23_kinds
  obtain ⟨N, o, h1, h2⟩ := val23 (m := pInt (ps.tail.headD .undef)) hcf (of_decide_eq_true hp)
  refine ⟨E1 N, f23W o, rfl, E1_ok N, ?_, .inr h2⟩
  have := f23_run N (pList (ps.headD .undef)) (pInt (ps.tail.headD .undef))
  rw [h1] at this
  exact this
theorem alike6_refl (xs : List (List PV)) : alike same6 xs xs = true := by
  unfold alike
  rw [beq_self_eq_true, Bool.true_and, all_range']
  intro j _ _
  simp [same6]
end Go.Proofs.YtjoebchkchoomaaS
