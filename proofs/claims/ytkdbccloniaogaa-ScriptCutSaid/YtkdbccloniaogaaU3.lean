/- Whether entries may be, in plain words. Conditions: none. -/
import Derived.Test.YtkdbccloniaogaaF3
import Derived.Test.YtkdbccloniaogaaSimPure
set_option linter.unusedVariables false
set_option linter.unusedSimpArgs false
set_option maxRecDepth 10000
namespace Go.Proofs.YtkdbccloniaogaaS
open Go Go.Proofs
theorem f13_isSome (x : S26) : (f13 0 x).isSome = true := Tr.whole_some (by kernel_rfl)
theorem f14_isSome (x : S23) (e : S38) : (f14 0 x e).isSome = true := Tr.whole_some (by kernel_rfl)
theorem f15_isSome (x : S26) (e : S42) : (f15 0 x e).isSome = true := Tr.whole_some (by kernel_rfl)
noncomputable def chkE11 (x0 : S23) (e : List PV) : Int := ((f14 0 x0 (S38r (PV.agg e))).getD f14d).y1
noncomputable def chkE12 (x0 : S26) (e : List PV) : Int := ((f15 0 x0 (S42r (PV.agg e))).getD f15d).y1
noncomputable def chkC (x0 : S26) : Int := ((f13 0 x0).getD f13d).y1
/-- The first that may not be, and why. -/
def scanE (p : Nat → Int) : Nat → Nat → Int × Int
  | 0, _ => (0, 0)
  | n + 1, i => if p i = 0 then scanE p n (i + 1) else ((i : Int), p i)
theorem scan11_round {N i : Nat} {x0 : S23} {xs : List (List PV)} (hi : i < xs.length) (hl : xs.length ≤ 1000000) : f11L0r N x0 xs (.s0 (i : Int)) = if chkE11 x0 (xs.getD i []) = 0 then some (.inl (.s0 ((i + 1 : Nat) : Int))) else some (.inr (.e0 (i : Int) (chkE11 x0 (xs.getD i [])))) := by
  have h1 : decide ((i : Int) < (xs.length : Int)) = true := decide_eq_true (by omega)
  have h2 : decide ((0 : Int) ≤ (i : Int)) = true := decide_eq_true (by omega)
  have hc : (f14 0 x0 (S38r (PV.agg (xs.getD i [])))).isSome = true := f14_isSome _ _
  refine run_true h1 (run_true (by rw [h1, h2]; rfl) (run_true hc ?_))
  by_cases hq : chkE11 x0 (xs.getD i []) = 0
  · rw [if_pos hq]
    refine run_false (show (chkE11 x0 (xs.getD i []) != 0) = false by rw [hq]; rfl) ?_
    show some (Sum.inl (f11L0s.s0 (IntKind.i64.wrap ((i : Int) + 1)))) = _
    rw [wrap_next (i := i) (by omega)]
  · rw [if_neg hq]
    refine run_true (show (chkE11 x0 (xs.getD i []) != 0) = true by simpa using hq) rfl
theorem scan11_loop {N : Nat} {x0 : S23} {xs : List (List PV)} (hl : xs.length ≤ 1000000) : ∀ (m i : Nat), i + m = xs.length → ∃ z, loopN (f11L0r N x0 xs) (m + 1) (.s0 (i : Int)) = some z ∧ (match z with | .e0 a b => (a, b) | .e1 => ((0 : Int), (0 : Int))) = scanE (fun j => chkE11 x0 (xs.getD j [])) m i
  | 0, i, h => ⟨.e1, loopN_end (run_false (decide_eq_false (by omega)) rfl), rfl⟩
  | m + 1, i, h => by
    have hr := scan11_round (N := N) (x0 := x0) (xs := xs) (i := i) (by omega) hl
    by_cases hq : chkE11 x0 (xs.getD i []) = 0
    · rw [if_pos hq] at hr
      rw [loopN_next hr]
      obtain ⟨z, h1, h2⟩ := scan11_loop (N := N) (x0 := x0) hl m (i + 1) (by omega)
      refine ⟨z, h1, h2.trans ?_⟩
      simp only [scanE]
      rw [if_pos hq]
    · rw [if_neg hq] at hr
      refine ⟨_, loopN_end hr, ?_⟩
      simp only [scanE]
      rw [if_neg hq]
theorem scan12_round {N i : Nat} {x0 : S26} {xs : List (List PV)} (hi : i < xs.length) (hl : xs.length ≤ 1000000) : f12L0r N x0 xs (.s0 (i : Int)) = if chkE12 x0 (xs.getD i []) = 0 then some (.inl (.s0 ((i + 1 : Nat) : Int))) else some (.inr (.e0 (i : Int) (chkE12 x0 (xs.getD i [])))) := by
  have h1 : decide ((i : Int) < (xs.length : Int)) = true := decide_eq_true (by omega)
  have h2 : decide ((0 : Int) ≤ (i : Int)) = true := decide_eq_true (by omega)
  have hc : (f15 0 x0 (S42r (PV.agg (xs.getD i [])))).isSome = true := f15_isSome _ _
  refine run_true h1 (run_true (by rw [h1, h2]; rfl) (run_true hc ?_))
  by_cases hq : chkE12 x0 (xs.getD i []) = 0
  · rw [if_pos hq]
    refine run_false (show (chkE12 x0 (xs.getD i []) != 0) = false by rw [hq]; rfl) ?_
    show some (Sum.inl (f12L0s.s0 (IntKind.i64.wrap ((i : Int) + 1)))) = _
    rw [wrap_next (i := i) (by omega)]
  · rw [if_neg hq]
    refine run_true (show (chkE12 x0 (xs.getD i []) != 0) = true by simpa using hq) rfl
theorem scan12_loop {N : Nat} {x0 : S26} {xs : List (List PV)} (hl : xs.length ≤ 1000000) : ∀ (m i : Nat), i + m = xs.length → ∃ z, loopN (f12L0r N x0 xs) (m + 1) (.s0 (i : Int)) = some z ∧ (match z with | .e0 a b => (a, b) | .e1 => ((0 : Int), (0 : Int))) = scanE (fun j => chkE12 x0 (xs.getD j [])) m i
  | 0, i, h => ⟨.e1, loopN_end (run_false (decide_eq_false (by omega)) rfl), rfl⟩
  | m + 1, i, h => by
    have hr := scan12_round (N := N) (x0 := x0) (xs := xs) (i := i) (by omega) hl
    by_cases hq : chkE12 x0 (xs.getD i []) = 0
    · rw [if_pos hq] at hr
      rw [loopN_next hr]
      obtain ⟨z, h1, h2⟩ := scan12_loop (N := N) (x0 := x0) hl m (i + 1) (by omega)
      refine ⟨z, h1, h2.trans ?_⟩
      simp only [scanE]
      rw [if_pos hq]
    · rw [if_neg hq] at hr
      refine ⟨_, loopN_end hr, ?_⟩
      simp only [scanE]
      rw [if_neg hq]
noncomputable def all11R (x0 : S23) (xs : List (List PV)) : Int × Int := bif chk5 x0 != 0 then (0, chk5 x0) else bif decide ((xs.length : Int) > 65536) then (0, 2) else scanE (fun j => chkE11 x0 (xs.getD j [])) xs.length 0
theorem f11_val (x0 : S23) (xs : List (List PV)) (hl : xs.length ≤ 1000000) : f11 (xs.length + 1) x0 xs = some ⟨(all11R x0 xs).1, (all11R x0 xs).2⟩ := by
  unfold f11 all11R
  cases h1 : (chk5 x0 != 0) with
  | true => rfl
  | false =>
  cases h2 : decide ((xs.length : Int) > 65536) with
  | true => rfl
  | false =>
    obtain ⟨z, h3, h4⟩ := scan11_loop (N := xs.length + 1) (x0 := x0) (xs := xs) hl xs.length 0 (by omega)
    have h3' : loopN (f11L0r (xs.length + 1) x0 xs) (xs.length + 1) (.s0 (0 : Int)) = some z := h3
    simp only [cond_false]
    rw [h3', ← h4]
    cases z <;> rfl
noncomputable def f11P : Ora := ⟨fun ps => okPs [S23k, (false, [.list 38])] ps && decide ((pList (ps.tail.headD .undef)).length ≤ 1000000), fun ps => .pv (.tup [.int .i64 (all11R (S23r (ps.headD PV.undef)) (pList (ps.tail.headD .undef))).1, .int .i64 (all11R (S23r (ps.headD PV.undef)) (pList (ps.tail.headD .undef))).2])⟩
theorem f11P_spec : Spec Try.prog 11 f11P := spec_at 100 [S23k, (false, [.list 38])] (fun ps => decide ((pList (ps.tail.headD .undef)).length ≤ 1000000)) _ mixed fun ps hm hs hp => by
  have hc : canPs [S23k, (false, [.list 38])] ps = [S23v (S23r (ps.headD PV.undef)), PV.list 38 (pList (ps.tail.headD PV.undef))] := by kernel_rfl
  refine ⟨E1c ((pList (ps.tail.headD .undef)).length + 1), _, rfl, E1c_ok _, ?_, .inl rfl⟩
  rw [hc, f11_run, f11_val _ _ (of_decide_eq_true hp)]
  rfl
noncomputable def all12R (x0 : S26) (xs : List (List PV)) : Int × Int := bif chkC x0 != 0 then (0, chkC x0) else bif decide ((xs.length : Int) > 65536) then (0, 2) else scanE (fun j => chkE12 x0 (xs.getD j [])) xs.length 0
theorem f12_val (x0 : S26) (xs : List (List PV)) (hl : xs.length ≤ 1000000) : f12 (xs.length + 1) x0 xs = some ⟨(all12R x0 xs).1, (all12R x0 xs).2⟩ := by
  unfold f12 all12R
  rw [f13_isSome, cond_true]
  have hd : ((f13 0 x0).getD f13d).y1 = chkC x0 := rfl
  rw [hd]
  cases h1 : (chkC x0 != 0) with
  | true => rfl
  | false =>
  cases h2 : decide ((xs.length : Int) > 65536) with
  | true => rfl
  | false =>
    obtain ⟨z, h3, h4⟩ := scan12_loop (N := xs.length + 1) (x0 := x0) (xs := xs) hl xs.length 0 (by omega)
    have h3' : loopN (f12L0r (xs.length + 1) x0 xs) (xs.length + 1) (.s0 (0 : Int)) = some z := h3
    simp only [cond_false]
    rw [h3', ← h4]
    cases z <;> rfl
noncomputable def f12P : Ora := ⟨fun ps => okPs [S26k, (false, [.list 42])] ps && decide ((pList (ps.tail.headD .undef)).length ≤ 1000000), fun ps => .pv (.tup [.int .i64 (all12R (S26r (ps.headD PV.undef)) (pList (ps.tail.headD .undef))).1, .int .i64 (all12R (S26r (ps.headD PV.undef)) (pList (ps.tail.headD .undef))).2])⟩
theorem f12P_spec : Spec Try.prog 12 f12P := spec_at 100 [S26k, (false, [.list 42])] (fun ps => decide ((pList (ps.tail.headD .undef)).length ≤ 1000000)) _ mixed fun ps hm hs hp => by
  have hc : canPs [S26k, (false, [.list 42])] ps = [S26v (S26r (ps.headD PV.undef)), PV.list 42 (pList (ps.tail.headD PV.undef))] := by kernel_rfl
  refine ⟨E1c ((pList (ps.tail.headD .undef)).length + 1), _, rfl, E1c_ok _, ?_, .inl rfl⟩
  rw [hc, f12_run, f12_val _ _ (of_decide_eq_true hp)]
  rfl
end Go.Proofs.YtkdbccloniaogaaS
