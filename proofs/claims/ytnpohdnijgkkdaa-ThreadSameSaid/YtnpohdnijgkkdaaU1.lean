/- Loops of the chapter, in plain words. Conditions: none. -/
import Derived.Test.YtnpohdnijgkkdaaF1
set_option linter.unusedVariables false
set_option maxRecDepth 10000
namespace Go.Proofs.YtnpohdnijgkkdaaS
open Go Go.Proofs
def huge : Nat := 4611686018427387904
def same1 (xs ys : List (List PV)) (i : Nat) : Bool := !(pInt ((xs.getD i []).headD PV.undef) != pInt ((ys.getD i []).headD PV.undef))
def same2 (xs ys : List (List PV)) (i : Nat) : Bool := pInt ((xs.getD i []).headD PV.undef) == pInt ((ys.getD i []).headD PV.undef) && (pInt ((xs.getD i []).tail.headD PV.undef) == pInt ((ys.getD i []).tail.headD PV.undef) && true)
def same3 (xs ys : List (List PV)) (i : Nat) : Bool := pInt ((xs.getD i []).headD PV.undef) == pInt ((ys.getD i []).headD PV.undef) && (pInt ((xs.getD i []).tail.headD PV.undef) == pInt ((ys.getD i []).tail.headD PV.undef) && (pInt ((xs.getD i []).tail.tail.headD PV.undef) == pInt ((ys.getD i []).tail.tail.headD PV.undef) && true) && true)
/-- Lists of the same elements. -/
def alike (p : List (List PV) → List (List PV) → Nat → Bool) (xs ys : List (List PV)) : Bool := (xs.length == ys.length) && (List.range' 0 xs.length).all (p xs ys)
theorem val26 {xs ys : List (List PV)} (hl : xs.length ≤ huge) : ∃ N, f26 N xs ys = some (.r0 (alike same1 xs ys)) := by
  refine ⟨xs.length + 1, ?_⟩
  unfold f26 alike
  by_cases e : xs.length = ys.length
  · have e1 : ((xs.length : Int) != (ys.length : Int)) = false := by simp [e]
    have e2 : (xs.length == ys.length) = true := by simp [e]
    have hl' : xs.length ≤ 4611686018427387904 := hl
    rw [e1, cond_false, e2, Bool.true_and]
    have h := loop_all (stp := f26L0r (xs.length + 1) xs ys) (fun i => .s0 (i : Int)) .e0 .e1 (same1 xs ys) xs.length
      (fun i hi hp => by
        have h1 : decide ((i : Int) < (xs.length : Int)) = true := decide_eq_true (by omega)
        have h2 : decide ((0 : Int) ≤ (i : Int)) = true := decide_eq_true (by omega)
        have h3 : decide ((i : Int) < (ys.length : Int)) = true := decide_eq_true (by omega)
        have hp2 : (pInt ((xs.getD i []).headD PV.undef) != pInt ((ys.getD i []).headD PV.undef)) = !(same1 xs ys i) := by simp [same1]
        rw [hp] at hp2
        simp only [f26L0r, Tr.run, Int.toNat_natCast, h1, h2, h3, wrap_next (i := i) (by omega), Bool.and_self, cond_true, hp2, Bool.not_true, cond_false])
      (fun i hi hp => by
        have h1 : decide ((i : Int) < (xs.length : Int)) = true := decide_eq_true (by omega)
        have h2 : decide ((0 : Int) ≤ (i : Int)) = true := decide_eq_true (by omega)
        have h3 : decide ((i : Int) < (ys.length : Int)) = true := decide_eq_true (by omega)
        have hp2 : (pInt ((xs.getD i []).headD PV.undef) != pInt ((ys.getD i []).headD PV.undef)) = !(same1 xs ys i) := by simp [same1]
        rw [hp] at hp2
        simp only [f26L0r, Tr.run, Int.toNat_natCast, h1, h2, h3, Bool.and_self, cond_true, hp2, Bool.not_false, cond_true])
      (by
        have h1 : decide ((xs.length : Int) < (xs.length : Int)) = false := decide_eq_false (by omega)
        simp only [f26L0r, Tr.run, h1, cond_false]) xs.length 0 (by omega)
    have h' : loopN (f26L0r (xs.length + 1) xs ys) (xs.length + 1) (.s0 (0 : Int)) = some (bif (List.range' 0 xs.length).all (same1 xs ys) then .e1 else .e0) := h
    rw [h']
    cases (List.range' 0 xs.length).all (same1 xs ys) <;> rfl
  · have e1 : ((xs.length : Int) != (ys.length : Int)) = true := by
      simp only [bne_iff_ne]
      omega
    have e2 : (xs.length == ys.length) = false := by simp [e]
    rw [e1, cond_true, e2, Bool.false_and]
    rfl
noncomputable def f26O : Ora := ⟨fun ps => okPs [(false, [.list 3]), (false, [.list 3])] ps && decide ((pList (ps.headD .undef)).length ≤ huge), fun ps => .pv (.bool (alike same1 (pList (ps.headD .undef)) (pList (ps.tail.headD .undef))))⟩
theorem f26_spec : Spec Try.prog 26 f26O := spec_at 100 [(false, [.list 3]), (false, [.list 3])] (fun ps => decide ((pList (ps.headD .undef)).length ≤ huge)) _ mixed fun ps hm hs hp => by
  obtain ⟨N, h1⟩ := val26 (xs := pList (ps.headD .undef)) (ys := pList (ps.tail.headD .undef)) (of_decide_eq_true hp)
  refine ⟨E0 N, _, rfl, E0_ok N, ?_, .inl rfl⟩
  have := f26_run N (pList (ps.headD .undef)) (pList (ps.tail.headD .undef))
  rw [h1] at this
  exact this
theorem val35 {xs ys : List (List PV)} (hl : xs.length ≤ huge) : ∃ N, f35 N xs ys = some (.r0 (alike same1 xs ys)) := by
  refine ⟨xs.length + 1, ?_⟩
  unfold f35 alike
  by_cases e : xs.length = ys.length
  · have e1 : ((xs.length : Int) != (ys.length : Int)) = false := by simp [e]
    have e2 : (xs.length == ys.length) = true := by simp [e]
    have hl' : xs.length ≤ 4611686018427387904 := hl
    rw [e1, cond_false, e2, Bool.true_and]
    have h := loop_all (stp := f35L0r (xs.length + 1) xs ys) (fun i => .s0 (i : Int)) .e0 .e1 (same1 xs ys) xs.length
      (fun i hi hp => by
        have h1 : decide ((i : Int) < (xs.length : Int)) = true := decide_eq_true (by omega)
        have h2 : decide ((0 : Int) ≤ (i : Int)) = true := decide_eq_true (by omega)
        have h3 : decide ((i : Int) < (ys.length : Int)) = true := decide_eq_true (by omega)
        have hp2 : (pInt ((xs.getD i []).headD PV.undef) != pInt ((ys.getD i []).headD PV.undef)) = !(same1 xs ys i) := by simp [same1]
        rw [hp] at hp2
        simp only [f35L0r, Tr.run, Int.toNat_natCast, h1, h2, h3, wrap_next (i := i) (by omega), Bool.and_self, cond_true, hp2, Bool.not_true, cond_false])
      (fun i hi hp => by
        have h1 : decide ((i : Int) < (xs.length : Int)) = true := decide_eq_true (by omega)
        have h2 : decide ((0 : Int) ≤ (i : Int)) = true := decide_eq_true (by omega)
        have h3 : decide ((i : Int) < (ys.length : Int)) = true := decide_eq_true (by omega)
        have hp2 : (pInt ((xs.getD i []).headD PV.undef) != pInt ((ys.getD i []).headD PV.undef)) = !(same1 xs ys i) := by simp [same1]
        rw [hp] at hp2
        simp only [f35L0r, Tr.run, Int.toNat_natCast, h1, h2, h3, Bool.and_self, cond_true, hp2, Bool.not_false, cond_true])
      (by
        have h1 : decide ((xs.length : Int) < (xs.length : Int)) = false := decide_eq_false (by omega)
        simp only [f35L0r, Tr.run, h1, cond_false]) xs.length 0 (by omega)
    have h' : loopN (f35L0r (xs.length + 1) xs ys) (xs.length + 1) (.s0 (0 : Int)) = some (bif (List.range' 0 xs.length).all (same1 xs ys) then .e1 else .e0) := h
    rw [h']
    cases (List.range' 0 xs.length).all (same1 xs ys) <;> rfl
  · have e1 : ((xs.length : Int) != (ys.length : Int)) = true := by
      simp only [bne_iff_ne]
      omega
    have e2 : (xs.length == ys.length) = false := by simp [e]
    rw [e1, cond_true, e2, Bool.false_and]
    rfl
noncomputable def f35O : Ora := ⟨fun ps => okPs [(false, [.list 3]), (false, [.list 3])] ps && decide ((pList (ps.headD .undef)).length ≤ huge), fun ps => .pv (.bool (alike same1 (pList (ps.headD .undef)) (pList (ps.tail.headD .undef))))⟩
theorem f35_spec : Spec Try.prog 35 f35O := spec_at 100 [(false, [.list 3]), (false, [.list 3])] (fun ps => decide ((pList (ps.headD .undef)).length ≤ huge)) _ mixed fun ps hm hs hp => by
  obtain ⟨N, h1⟩ := val35 (xs := pList (ps.headD .undef)) (ys := pList (ps.tail.headD .undef)) (of_decide_eq_true hp)
  refine ⟨E0 N, _, rfl, E0_ok N, ?_, .inl rfl⟩
  have := f35_run N (pList (ps.headD .undef)) (pList (ps.tail.headD .undef))
  rw [h1] at this
  exact this
theorem val36 {xs ys : List (List PV)} (hl : xs.length ≤ huge) : ∃ N, f36 N xs ys = some (.r0 (alike same2 xs ys)) := by
  refine ⟨xs.length + 1, ?_⟩
  unfold f36 alike
  by_cases e : xs.length = ys.length
  · have e1 : ((xs.length : Int) != (ys.length : Int)) = false := by simp [e]
    have e2 : (xs.length == ys.length) = true := by simp [e]
    have hl' : xs.length ≤ 4611686018427387904 := hl
    rw [e1, cond_false, e2, Bool.true_and]
    have h := loop_all (stp := f36L0r (xs.length + 1) xs ys) (fun i => .s0 (i : Int)) .e0 .e1 (same2 xs ys) xs.length
      (fun i hi hp => by
        have h1 : decide ((i : Int) < (xs.length : Int)) = true := decide_eq_true (by omega)
        have h2 : decide ((0 : Int) ≤ (i : Int)) = true := decide_eq_true (by omega)
        have h3 : decide ((i : Int) < (ys.length : Int)) = true := decide_eq_true (by omega)
        unfold same2 at hp
        simp only [f36L0r, Tr.run, Int.toNat_natCast, h1, h2, h3, wrap_next (i := i) (by omega), Bool.and_self, cond_true, hp, Bool.not_true, cond_false])
      (fun i hi hp => by
        have h1 : decide ((i : Int) < (xs.length : Int)) = true := decide_eq_true (by omega)
        have h2 : decide ((0 : Int) ≤ (i : Int)) = true := decide_eq_true (by omega)
        have h3 : decide ((i : Int) < (ys.length : Int)) = true := decide_eq_true (by omega)
        unfold same2 at hp
        simp only [f36L0r, Tr.run, Int.toNat_natCast, h1, h2, h3, Bool.and_self, cond_true, hp, Bool.not_false, cond_true])
      (by
        have h1 : decide ((xs.length : Int) < (xs.length : Int)) = false := decide_eq_false (by omega)
        simp only [f36L0r, Tr.run, h1, cond_false]) xs.length 0 (by omega)
    have h' : loopN (f36L0r (xs.length + 1) xs ys) (xs.length + 1) (.s0 (0 : Int)) = some (bif (List.range' 0 xs.length).all (same2 xs ys) then .e1 else .e0) := h
    rw [h']
    cases (List.range' 0 xs.length).all (same2 xs ys) <;> rfl
  · have e1 : ((xs.length : Int) != (ys.length : Int)) = true := by
      simp only [bne_iff_ne]
      omega
    have e2 : (xs.length == ys.length) = false := by simp [e]
    rw [e1, cond_true, e2, Bool.false_and]
    rfl
noncomputable def f36O : Ora := ⟨fun ps => okPs [(false, [.list 84]), (false, [.list 84])] ps && decide ((pList (ps.headD .undef)).length ≤ huge), fun ps => .pv (.bool (alike same2 (pList (ps.headD .undef)) (pList (ps.tail.headD .undef))))⟩
theorem f36_spec : Spec Try.prog 36 f36O := spec_at 100 [(false, [.list 84]), (false, [.list 84])] (fun ps => decide ((pList (ps.headD .undef)).length ≤ huge)) _ mixed fun ps hm hs hp => by
  obtain ⟨N, h1⟩ := val36 (xs := pList (ps.headD .undef)) (ys := pList (ps.tail.headD .undef)) (of_decide_eq_true hp)
  refine ⟨E0 N, _, rfl, E0_ok N, ?_, .inl rfl⟩
  have := f36_run N (pList (ps.headD .undef)) (pList (ps.tail.headD .undef))
  rw [h1] at this
  exact this
theorem val25 {xs ys : List (List PV)} (hl : xs.length ≤ huge) : ∃ N, f25 N xs ys = some (.r0 (alike same3 xs ys)) := by
  refine ⟨xs.length + 1, ?_⟩
  unfold f25 alike
  by_cases e : xs.length = ys.length
  · have e1 : ((xs.length : Int) != (ys.length : Int)) = false := by simp [e]
    have e2 : (xs.length == ys.length) = true := by simp [e]
    have hl' : xs.length ≤ 4611686018427387904 := hl
    rw [e1, cond_false, e2, Bool.true_and]
    have h := loop_all (stp := f25L0r (xs.length + 1) xs ys) (fun i => .s0 (i : Int)) .e0 .e1 (same3 xs ys) xs.length
      (fun i hi hp => by
        have h1 : decide ((i : Int) < (xs.length : Int)) = true := decide_eq_true (by omega)
        have h2 : decide ((0 : Int) ≤ (i : Int)) = true := decide_eq_true (by omega)
        have h3 : decide ((i : Int) < (ys.length : Int)) = true := decide_eq_true (by omega)
        unfold same3 at hp
        simp only [f25L0r, Tr.run, Int.toNat_natCast, h1, h2, h3, wrap_next (i := i) (by omega), Bool.and_self, cond_true, hp, Bool.not_true, cond_false])
      (fun i hi hp => by
        have h1 : decide ((i : Int) < (xs.length : Int)) = true := decide_eq_true (by omega)
        have h2 : decide ((0 : Int) ≤ (i : Int)) = true := decide_eq_true (by omega)
        have h3 : decide ((i : Int) < (ys.length : Int)) = true := decide_eq_true (by omega)
        unfold same3 at hp
        simp only [f25L0r, Tr.run, Int.toNat_natCast, h1, h2, h3, Bool.and_self, cond_true, hp, Bool.not_false, cond_true])
      (by
        have h1 : decide ((xs.length : Int) < (xs.length : Int)) = false := decide_eq_false (by omega)
        simp only [f25L0r, Tr.run, h1, cond_false]) xs.length 0 (by omega)
    have h' : loopN (f25L0r (xs.length + 1) xs ys) (xs.length + 1) (.s0 (0 : Int)) = some (bif (List.range' 0 xs.length).all (same3 xs ys) then .e1 else .e0) := h
    rw [h']
    cases (List.range' 0 xs.length).all (same3 xs ys) <;> rfl
  · have e1 : ((xs.length : Int) != (ys.length : Int)) = true := by
      simp only [bne_iff_ne]
      omega
    have e2 : (xs.length == ys.length) = false := by simp [e]
    rw [e1, cond_true, e2, Bool.false_and]
    rfl
noncomputable def f25O : Ora := ⟨fun ps => okPs [(false, [.list 86]), (false, [.list 86])] ps && decide ((pList (ps.headD .undef)).length ≤ huge), fun ps => .pv (.bool (alike same3 (pList (ps.headD .undef)) (pList (ps.tail.headD .undef))))⟩
theorem f25_spec : Spec Try.prog 25 f25O := spec_at 100 [(false, [.list 86]), (false, [.list 86])] (fun ps => decide ((pList (ps.headD .undef)).length ≤ huge)) _ mixed fun ps hm hs hp => by
  obtain ⟨N, h1⟩ := val25 (xs := pList (ps.headD .undef)) (ys := pList (ps.tail.headD .undef)) (of_decide_eq_true hp)
  refine ⟨E0 N, _, rfl, E0_ok N, ?_, .inl rfl⟩
  have := f25_run N (pList (ps.headD .undef)) (pList (ps.tail.headD .undef))
  rw [h1] at this
  exact this
theorem val37 {xs ys : List (List PV)} (hl : xs.length ≤ huge) : ∃ N, f37 N xs ys = some (.r0 (alike same3 xs ys)) := by
  refine ⟨xs.length + 1, ?_⟩
  unfold f37 alike
  by_cases e : xs.length = ys.length
  · have e1 : ((xs.length : Int) != (ys.length : Int)) = false := by simp [e]
    have e2 : (xs.length == ys.length) = true := by simp [e]
    have hl' : xs.length ≤ 4611686018427387904 := hl
    rw [e1, cond_false, e2, Bool.true_and]
    have h := loop_all (stp := f37L0r (xs.length + 1) xs ys) (fun i => .s0 (i : Int)) .e0 .e1 (same3 xs ys) xs.length
      (fun i hi hp => by
        have h1 : decide ((i : Int) < (xs.length : Int)) = true := decide_eq_true (by omega)
        have h2 : decide ((0 : Int) ≤ (i : Int)) = true := decide_eq_true (by omega)
        have h3 : decide ((i : Int) < (ys.length : Int)) = true := decide_eq_true (by omega)
        unfold same3 at hp
        simp only [f37L0r, Tr.run, Int.toNat_natCast, h1, h2, h3, wrap_next (i := i) (by omega), Bool.and_self, cond_true, hp, Bool.not_true, cond_false])
      (fun i hi hp => by
        have h1 : decide ((i : Int) < (xs.length : Int)) = true := decide_eq_true (by omega)
        have h2 : decide ((0 : Int) ≤ (i : Int)) = true := decide_eq_true (by omega)
        have h3 : decide ((i : Int) < (ys.length : Int)) = true := decide_eq_true (by omega)
        unfold same3 at hp
        simp only [f37L0r, Tr.run, Int.toNat_natCast, h1, h2, h3, Bool.and_self, cond_true, hp, Bool.not_false, cond_true])
      (by
        have h1 : decide ((xs.length : Int) < (xs.length : Int)) = false := decide_eq_false (by omega)
        simp only [f37L0r, Tr.run, h1, cond_false]) xs.length 0 (by omega)
    have h' : loopN (f37L0r (xs.length + 1) xs ys) (xs.length + 1) (.s0 (0 : Int)) = some (bif (List.range' 0 xs.length).all (same3 xs ys) then .e1 else .e0) := h
    rw [h']
    cases (List.range' 0 xs.length).all (same3 xs ys) <;> rfl
  · have e1 : ((xs.length : Int) != (ys.length : Int)) = true := by
      simp only [bne_iff_ne]
      omega
    have e2 : (xs.length == ys.length) = false := by simp [e]
    rw [e1, cond_true, e2, Bool.false_and]
    rfl
noncomputable def f37O : Ora := ⟨fun ps => okPs [(false, [.list 77]), (false, [.list 77])] ps && decide ((pList (ps.headD .undef)).length ≤ huge), fun ps => .pv (.bool (alike same3 (pList (ps.headD .undef)) (pList (ps.tail.headD .undef))))⟩
theorem f37_spec : Spec Try.prog 37 f37O := spec_at 100 [(false, [.list 77]), (false, [.list 77])] (fun ps => decide ((pList (ps.headD .undef)).length ≤ huge)) _ mixed fun ps hm hs hp => by
  obtain ⟨N, h1⟩ := val37 (xs := pList (ps.headD .undef)) (ys := pList (ps.tail.headD .undef)) (of_decide_eq_true hp)
  refine ⟨E0 N, _, rfl, E0_ok N, ?_, .inl rfl⟩
  have := f37_run N (pList (ps.headD .undef)) (pList (ps.tail.headD .undef))
  rw [h1] at this
  exact this
theorem step27 {N i : Nat} {xs acc : List (List PV)} (hc : ∀ e ∈ xs, cfs [.int .i64, .int .i64, .int .i64] e) (hi : i < xs.length) (hl : xs.length ≤ most) (ha : acc.length + 1 ≤ most) :
    f27L0r N xs (.s2 i acc) = some (.inl (.s2 ((i + 1 : Nat) : Int) (acc ++ [xs.getD i []]))) := by
  have h1 : decide ((i : Int) < (xs.length : Int)) = true := decide_eq_true (by omega)
  have h2 : decide ((0 : Int) ≤ (i : Int)) = true := decide_eq_true (by omega)
  have h3 : decide (acc.length + 1 ≤ most) = true := decide_eq_true ha
  have he := etas_at hc hi
  have he' : [PV.int IntKind.i64 (pInt ((xs.getD i []).headD PV.undef)), PV.int IntKind.i64 (pInt ((xs.getD i []).tail.headD PV.undef)), PV.int IntKind.i64 (pInt ((xs.getD i []).tail.tail.headD PV.undef))] = xs.getD i [] := he
  have hm : xs.length ≤ 1000000 := hl
  simp only [f27L0r, Tr.run, Int.toNat_natCast, he', h1, h2, List.length_cons, List.length_nil, Nat.zero_add, h3, wrap_next (i := i) (by omega), Bool.and_self, cond_true]
theorem loop27 {N : Nat} {xs : List (List PV)} (hc : ∀ e ∈ xs, cfs [.int .i64, .int .i64, .int .i64] e) (hl : xs.length ≤ most) :
    ∀ (k i : Nat), i + k = xs.length → loopN (f27L0r N xs) (k + 1) (.s2 i (xs.take i)) = some (.e2 xs)
  | 0, i, h => by
    have h1 : decide ((i : Int) < (xs.length : Int)) = false := decide_eq_false (by omega)
    refine loopN_end ?_
    simp only [f27L0r, Tr.run, h1, cond_false]
    rw [List.take_of_length_le (by omega)]
  | k + 1, i, h => by
    have hi : i < xs.length := by omega
    rw [loopN_next (step27 hc hi hl (by rw [List.length_take]; omega))]
    have : xs.take i ++ [xs.getD i []] = xs.take (i + 1) := by
      rw [List.take_add_one, List.getD_eq_getElem?_getD, List.getElem?_eq_getElem hi]
      rfl
    rw [this]
    exact loop27 hc hl k (i + 1) (by omega)
theorem val27 {xs : List (List PV)} (hc : ∀ e ∈ xs, cfs [.int .i64, .int .i64, .int .i64] e) (hl : xs.length ≤ most) : ∃ N o, f27 N xs = some o ∧ (f27W o).plain = .pv (.list 86 xs) := by
  match xs, hc, hl with
  | [], hc, hl => exact ⟨1, .r0 [], rfl, rfl⟩
  | [a], hc, hl =>
    have he := etas_at (i := 0) hc (by simp)
    refine ⟨2, .r1 [etas [.int .i64, .int .i64, .int .i64] a], rfl, ?_⟩
    show Res.pv (PV.list 86 [_]) = _
    rw [show etas [.int .i64, .int .i64, .int .i64] a = a from he]
  | a :: b :: l, hc, hl =>
    have h0 := etas_at (i := 0) hc (by simp)
    have h1 := etas_at (i := 1) hc (by simp)
    refine ⟨l.length + 3, .r0 (a :: b :: l), ?_, rfl⟩
    unfold f27
    have e0 : f27L0r (l.length + 3) (a :: b :: l) .s0 = some (.inl .s1) := by
      have : decide ((0 : Int) < (((a :: b :: l).length : Nat) : Int)) = true := decide_eq_true (by simp; omega)
      simp only [f27L0r, Tr.run, this]
      rfl
    have e1 : f27L0r (l.length + 3) (a :: b :: l) .s1 = some (.inl (.s2 ((2 : Nat) : Int) ((a :: b :: l).take 2))) := by
      have : decide ((1 : Int) < (((a :: b :: l).length : Nat) : Int)) = true := decide_eq_true (by simp; omega)
      have h0' : etas [.int .i64, .int .i64, .int .i64] a = a := h0
      have h1' : etas [.int .i64, .int .i64, .int .i64] b = b := h1
      have e : [a, b] = [etas [.int .i64, .int .i64, .int .i64] a, etas [.int .i64, .int .i64, .int .i64] b] := by rw [h0', h1']
      show _ = some (Sum.inl (f27L0s.s2 ((2 : Nat) : Int) [a, b]))
      rw [e]
      simp only [f27L0r, Tr.run, this]
      rfl
    rw [loopN_next e0, loopN_next e1, loop27 hc hl l.length 2 (by simp; omega)]
    rfl
/-- The same entries. -/
noncomputable def f27O : Ora := ⟨fun ps => okPs [(false, [.list 77])] ps && decide ((pList (ps.headD .undef)).length ≤ most), fun ps => .pv (.list 86 (pList (ps.headD .undef)))⟩
theorem f27_kinds : kinds Try.prog 77 = [.int .i64, .int .i64, .int .i64] := by kernel_rfl
theorem f27_spec : Spec Try.prog 27 f27O := spec_at 100 [(false, [.list 77])] (fun ps => decide ((pList (ps.headD .undef)).length ≤ most)) _ mixed fun ps hm hs hp => by
  have hc := okPs_can hs
  have hcf := hm.list 0 (ks := [.int .i64, .int .i64, .int .i64]) (t := 77) (xs := pList (ps.headD .undef)) (by rw [← hc]; rfl) f27_kinds
  obtain ⟨N, o, h1, h2⟩ := val27 hcf (of_decide_eq_true hp)
  refine ⟨E0 N, f27W o, rfl, E0_ok N, ?_, .inr h2⟩
  have := f27_run N (pList (ps.headD .undef))
  rw [h1] at this
  exact this
theorem step30 {N i : Nat} {xs acc : List (List PV)} (hc : ∀ e ∈ xs, cfs [.int .i64, .int .i64, .int .i64, .int .i64, .int .i64, .int .i64] e) (hi : i < xs.length) (hl : xs.length ≤ most) (ha : acc.length + 1 ≤ most) :
    f30L0r N xs (.s2 i acc) = some (.inl (.s2 ((i + 1 : Nat) : Int) (acc ++ [xs.getD i []]))) := by
  have h1 : decide ((i : Int) < (xs.length : Int)) = true := decide_eq_true (by omega)
  have h2 : decide ((0 : Int) ≤ (i : Int)) = true := decide_eq_true (by omega)
  have h3 : decide (acc.length + 1 ≤ most) = true := decide_eq_true ha
  have he := etas_at hc hi
  have he' : [PV.int IntKind.i64 (pInt ((xs.getD i []).headD PV.undef)), PV.int IntKind.i64 (pInt ((xs.getD i []).tail.headD PV.undef)), PV.int IntKind.i64 (pInt ((xs.getD i []).tail.tail.headD PV.undef)), PV.int IntKind.i64 (pInt ((xs.getD i []).tail.tail.tail.headD PV.undef)), PV.int IntKind.i64 (pInt ((xs.getD i []).tail.tail.tail.tail.headD PV.undef)), PV.int IntKind.i64 (pInt ((xs.getD i []).tail.tail.tail.tail.tail.headD PV.undef))] = xs.getD i [] := he
  have hm : xs.length ≤ 1000000 := hl
  simp only [f30L0r, Tr.run, Int.toNat_natCast, he', h1, h2, List.length_cons, List.length_nil, Nat.zero_add, h3, wrap_next (i := i) (by omega), Bool.and_self, cond_true]
theorem loop30 {N : Nat} {xs : List (List PV)} (hc : ∀ e ∈ xs, cfs [.int .i64, .int .i64, .int .i64, .int .i64, .int .i64, .int .i64] e) (hl : xs.length ≤ most) :
    ∀ (k i : Nat), i + k = xs.length → loopN (f30L0r N xs) (k + 1) (.s2 i (xs.take i)) = some (.e2 xs)
  | 0, i, h => by
    have h1 : decide ((i : Int) < (xs.length : Int)) = false := decide_eq_false (by omega)
    refine loopN_end ?_
    simp only [f30L0r, Tr.run, h1, cond_false]
    rw [List.take_of_length_le (by omega)]
  | k + 1, i, h => by
    have hi : i < xs.length := by omega
    rw [loopN_next (step30 hc hi hl (by rw [List.length_take]; omega))]
    have : xs.take i ++ [xs.getD i []] = xs.take (i + 1) := by
      rw [List.take_add_one, List.getD_eq_getElem?_getD, List.getElem?_eq_getElem hi]
      rfl
    rw [this]
    exact loop30 hc hl k (i + 1) (by omega)
theorem val30 {xs : List (List PV)} (hc : ∀ e ∈ xs, cfs [.int .i64, .int .i64, .int .i64, .int .i64, .int .i64, .int .i64] e) (hl : xs.length ≤ most) : ∃ N o, f30 N xs = some o ∧ (f30W o).plain = .pv (.list 96 xs) := by
  match xs, hc, hl with
  | [], hc, hl => exact ⟨1, .r0 [], rfl, rfl⟩
  | [a], hc, hl =>
    have he := etas_at (i := 0) hc (by simp)
    refine ⟨2, .r1 [etas [.int .i64, .int .i64, .int .i64, .int .i64, .int .i64, .int .i64] a], rfl, ?_⟩
    show Res.pv (PV.list 96 [_]) = _
    rw [show etas [.int .i64, .int .i64, .int .i64, .int .i64, .int .i64, .int .i64] a = a from he]
  | a :: b :: l, hc, hl =>
    have h0 := etas_at (i := 0) hc (by simp)
    have h1 := etas_at (i := 1) hc (by simp)
    refine ⟨l.length + 3, .r0 (a :: b :: l), ?_, rfl⟩
    unfold f30
    have e0 : f30L0r (l.length + 3) (a :: b :: l) .s0 = some (.inl .s1) := by
      have : decide ((0 : Int) < (((a :: b :: l).length : Nat) : Int)) = true := decide_eq_true (by simp; omega)
      simp only [f30L0r, Tr.run, this]
      rfl
    have e1 : f30L0r (l.length + 3) (a :: b :: l) .s1 = some (.inl (.s2 ((2 : Nat) : Int) ((a :: b :: l).take 2))) := by
      have : decide ((1 : Int) < (((a :: b :: l).length : Nat) : Int)) = true := decide_eq_true (by simp; omega)
      have h0' : etas [.int .i64, .int .i64, .int .i64, .int .i64, .int .i64, .int .i64] a = a := h0
      have h1' : etas [.int .i64, .int .i64, .int .i64, .int .i64, .int .i64, .int .i64] b = b := h1
      have e : [a, b] = [etas [.int .i64, .int .i64, .int .i64, .int .i64, .int .i64, .int .i64] a, etas [.int .i64, .int .i64, .int .i64, .int .i64, .int .i64, .int .i64] b] := by rw [h0', h1']
      show _ = some (Sum.inl (f30L0s.s2 ((2 : Nat) : Int) [a, b]))
      rw [e]
      simp only [f30L0r, Tr.run, this]
      rfl
    rw [loopN_next e0, loopN_next e1, loop30 hc hl l.length 2 (by simp; omega)]
    rfl
/-- The same entries. -/
noncomputable def f30O : Ora := ⟨fun ps => okPs [(false, [.list 94])] ps && decide ((pList (ps.headD .undef)).length ≤ most), fun ps => .pv (.list 96 (pList (ps.headD .undef)))⟩
theorem f30_kinds : kinds Try.prog 94 = [.int .i64, .int .i64, .int .i64, .int .i64, .int .i64, .int .i64] := by kernel_rfl
theorem f30_spec : Spec Try.prog 30 f30O := spec_at 100 [(false, [.list 94])] (fun ps => decide ((pList (ps.headD .undef)).length ≤ most)) _ mixed fun ps hm hs hp => by
  have hc := okPs_can hs
  have hcf := hm.list 0 (ks := [.int .i64, .int .i64, .int .i64, .int .i64, .int .i64, .int .i64]) (t := 94) (xs := pList (ps.headD .undef)) (by rw [← hc]; rfl) f30_kinds
  obtain ⟨N, o, h1, h2⟩ := val30 hcf (of_decide_eq_true hp)
  refine ⟨E0 N, f30W o, rfl, E0_ok N, ?_, .inr h2⟩
  have := f30_run N (pList (ps.headD .undef))
  rw [h1] at this
  exact this
/-- A leaf of a tree that is four deep at most. -/
theorem val28 {x0 x1 : Int} (h : x0 ≤ 4) : ∃ o, f28 5 x0 x1 = some o := by
  by_cases h0 : x0 < 1
  · exact ⟨.r0 0, by unfold f28; rw [decide_eq_true h0]; rfl⟩
  · have : x0 = 1 ∨ x0 = 2 ∨ x0 = 3 ∨ x0 = 4 := by omega
    rcases this with rfl | rfl | rfl | rfl <;> exact ⟨_, rfl⟩
def f28s : List PK := [(false, [K.int .i64]), (false, [K.int .i64])]
noncomputable def f28a (ps : List PV) : Option f28o := f28 5 (pInt (ps.headD PV.undef)) (pInt (ps.tail.headD PV.undef))
noncomputable def f28O : Ora := ⟨fun ps => okPs f28s ps && (f28a ps).isSome, fun ps => (f28W ((f28a ps).getD ⟨0⟩)).plain⟩
theorem f28_spec : Spec Try.prog 28 f28O := spec_at 100 f28s (fun ps => (f28a ps).isSome) _ mixed fun ps hm hs hp => by
  cases h : f28a ps with
  | none => rw [h] at hp; cases hp
  | some o =>
    refine ⟨E0 5, f28W o, rfl, E0_ok 5, (f28_run 5 _ _).trans ?_, .inr ?_⟩
    · show (f28a ps).map f28W = _
      rw [h]; rfl
    · rfl
end Go.Proofs.YtnpohdnijgkkdaaS
