/- What batches come to, in plain words. Conditions: none. -/
import Derived.Test.YtjoebchkchoomaaU4
import Derived.Test.YtjoebchkchoomaaSimPure
set_option linter.unusedVariables false
set_option linter.unusedSimpArgs false
set_option maxRecDepth 10000
namespace Go.Proofs.YtjoebchkchoomaaS
open Go Go.Proofs
theorem lb_cons (x : Int) (p : Int × Int) (a : List (Int × Int)) : lb x (p :: a) = lb p.2 a := rfl
theorem steps_cons {k : Nat} {lo hi x : Int} {e : Ent} {r : List Ent} {ps : List (Int × Int)} (h : steps k lo hi (e :: r) x = some ps) : ∃ q qs, oper_Apply.f k e.f1.f0 e.f1.f1 x lo hi = some q ∧ steps k lo hi r q.1 = some qs ∧ ps = (x, q.1) :: qs := by
  simp only [steps] at h
  obtain ⟨q, ha, h⟩ := Option.bind_eq_some_iff.mp h
  obtain ⟨qs, hz, rfl⟩ := Option.map_eq_some_iff.mp h
  exact ⟨q, qs, ha, hz, rfl⟩
noncomputable def one (e : List PV) (x lo hi : Int) : Int := (ap (entOf e).f1.f0 (entOf e).f1.f1 x lo hi).y1
theorem walkE_cons (e : List PV) (r : List (List PV)) (x lo hi : Int) : walkE (e :: r) x lo hi = (x, one e x lo hi) :: walkE r (one e x lo hi) lo hi := by
  have h := walkE_eq (e :: r) x lo hi
  obtain ⟨q, qs, h1, h2, h3⟩ := steps_cons (show steps 0 lo hi (entOf e :: r.map entOf) x = _ from h)
  have hq : q.1 = one e x lo hi := by
    have := Option.some.inj h1
    rw [← this]
    rfl
  rw [hq] at h2
  rw [walkE_eq r (one e x lo hi) lo hi] at h2
  have := Option.some.inj h2
  rw [h3, ← this, hq]
theorem walkE_nil (x lo hi : Int) : walkE [] x lo hi = [] := by
  have h : (some [] : Option (List (Int × Int))) = some (walkE [] x lo hi) := walkE_eq [] x lo hi
  rw [← Option.some.inj h]
theorem allOf_nil (x lo hi : Int) : allOf [] x lo hi = x := by
  unfold allOf
  rw [walkE_nil]
  rfl
theorem allOf_cons (e : List PV) (r : List (List PV)) (x lo hi : Int) : allOf (e :: r) x lo hi = allOf r (one e x lo hi) lo hi := by
  unfold allOf
  rw [walkE_cons, lb_cons]
theorem allOf_fold : ∀ (xs : List (List PV)) (x lo hi : Int), allOf xs x lo hi = xs.foldl (fun x e => one e x lo hi) x
  | [], x, lo, hi => allOf_nil x lo hi
  | e :: r, x, lo, hi => by
    rw [allOf_cons, List.foldl_cons]
    exact allOf_fold r _ lo hi
theorem walkE_append : ∀ (a b : List (List PV)) (x lo hi : Int), walkE (a ++ b) x lo hi = walkE a x lo hi ++ walkE b (allOf a x lo hi) lo hi
  | [], b, x, lo, hi => by
    rw [walkE_nil, allOf_nil]
    rfl
  | e :: a, b, x, lo, hi => by
    rw [List.cons_append, walkE_cons, walkE_cons, walkE_append a b, allOf_cons]
    rfl
theorem allOf_append (a b : List (List PV)) (x lo hi : Int) : allOf (a ++ b) x lo hi = allOf b (allOf a x lo hi) lo hi := by
  rw [allOf_fold, List.foldl_append, ← allOf_fold, ← allOf_fold]
structure In64 (x : Int) : Prop where
  lo : -9223372036854775808 ≤ x
  hi : x ≤ 9223372036854775807
theorem wrap_in64 (x : Int) : In64 (IntKind.i64.wrap x) := by
  constructor
  · simp only [IntKind.wrap, IntKind.signed, IntKind.bits]
    simp
    omega
  · simp only [IntKind.wrap, IntKind.signed, IntKind.bits]
    simp
    omega
theorem wrap_in (x v : Int) : IntKind.i64.wrap (IntKind.i64.wrap x + v) = IntKind.i64.wrap (x + v) := by
  simp only [IntKind.wrap, IntKind.signed, IntKind.bits]
  simp
  omega
theorem wrap_in2 (x v : Int) : IntKind.i64.wrap (x + IntKind.i64.wrap v) = IntKind.i64.wrap (x + v) := by
  rw [Int.add_comm, wrap_in, Int.add_comm]
theorem take_u {v x lo : Int} (hv : In64 v) (hx : In64 x) (hl : In64 lo) (h0 : 0 ≤ v) (h1 : lo ≤ x) : decide (IntKind.u64.wrap v ≥ IntKind.u64.wrap (IntKind.u64.wrap x - IntKind.u64.wrap lo)) = decide (v ≥ x - lo) := by
  obtain ⟨a, b⟩ := hv
  obtain ⟨c, d⟩ := hx
  obtain ⟨e, f⟩ := hl
  have w1 : IntKind.u64.wrap v = v := by
    simp only [IntKind.wrap, IntKind.signed, IntKind.bits]
    simp
    omega
  have w2 : IntKind.u64.wrap (IntKind.u64.wrap x - IntKind.u64.wrap lo) = x - lo := by
    simp only [IntKind.wrap, IntKind.signed, IntKind.bits]
    simp
    omega
  rw [w1, w2]
theorem wrap_sub {v x : Int} (hv : In64 v) (hx : In64 x) (h0 : 0 ≤ v) : IntKind.i64.wrap (x - v) = if x - v < -9223372036854775808 then x - v + 18446744073709551616 else x - v := by
  obtain ⟨a, b⟩ := hv
  obtain ⟨c, d⟩ := hx
  simp only [IntKind.wrap, IntKind.signed, IntKind.bits]
  simp
  split <;> omega
noncomputable def apR (tag v x lo hi : Int) : f45o := (f45 0 ⟨tag, v⟩ x lo hi).getD f45d
theorem dec_lt (a b : Int) : decide (a < b) = !decide (a ≥ b) := by
  by_cases h : a < b
  · rw [decide_eq_true h, decide_eq_false (by omega)]
    rfl
  · rw [decide_eq_false h, decide_eq_true (by omega)]
    rfl
theorem apply_same {t v x lo : Int} (hi : Int) (hv : In64 v) (hx : In64 x) (hl : In64 lo) : (apR t v x lo hi).y1 = (ap t v x lo hi).y1 ∧ (apR t v x lo hi).y2 = (ap t v x lo hi).y2 := by
  by_cases c1 : t = 1
  · subst c1
    exact ⟨rfl, rfl⟩
  by_cases c2 : t = 2
  · subst c2
    refine ⟨?_, rfl⟩
    show IntKind.i64.wrap (x - v) = IntKind.i64.wrap (x + IntKind.i64.wrap (0 - v))
    rw [wrap_in2]
    congr 1
    omega
  by_cases c3 : t = 3
  · subst c3
    exact ⟨rfl, rfl⟩
  by_cases c4 : t = 4
  · subst c4
    exact ⟨rfl, rfl⟩
  by_cases c5 : t = 5
  · subst c5
    refine ⟨?_, rfl⟩
    show (if x < v then v else x) = if v < x then x else v
    split <;> split <;> omega
  by_cases c6 : t = 6
  · subst c6
    refine ⟨?_, rfl⟩
    show (if v < x then v else x) = if x < v then x else v
    split <;> split <;> omega
  by_cases c7 : t = 7
  · subst c7
    exact ⟨rfl, rfl⟩
  by_cases c8 : t = 8
  · subst c8
    unfold apR ap f45 f81 f45t0 f81t0
    simp (config := { decide := true }) only [Tr.run, cond_false, cond_true]
    generalize IntKind.i64.wrap (x + v) = s
    simp only [dec_lt v 0, dec_lt s x]
    cases decide (v ≥ 0) <;> cases decide (s ≥ x) <;> cases decide (s < lo) <;> cases decide (s > hi) <;> exact ⟨rfl, rfl⟩
  by_cases c9 : t = 9
  · subst c9
    unfold apR ap f45 f81 f45t0 f81t0
    simp (config := { decide := true }) only [Tr.run, cond_false, cond_true]
    by_cases h0 : v < 0
    · rw [decide_eq_true h0]
      exact ⟨rfl, rfl⟩
    by_cases h1 : x < lo
    · rw [decide_eq_true h1]
      cases decide (v < 0) <;> exact ⟨rfl, rfl⟩
    rw [decide_eq_false h0, decide_eq_false h1, take_u hv hx hl (by omega) (by omega), wrap_sub hv hx (by omega)]
    obtain ⟨a, b⟩ := hv
    obtain ⟨c, d⟩ := hx
    obtain ⟨e, f⟩ := hl
    by_cases h2 : v ≥ x - lo
    · rw [decide_eq_true h2]
      by_cases h3 : x - v < -9223372036854775808
      · rw [if_pos h3, decide_eq_false (show ¬ (x - v + 18446744073709551616 ≤ x) by omega)]
        exact ⟨rfl, rfl⟩
      · rw [if_neg h3, decide_eq_true (show x - v ≤ x by omega)]
        by_cases h4 : x - v ≥ lo
        · rw [decide_eq_true h4]
          refine ⟨?_, rfl⟩
          show lo = x - v
          omega
        · rw [decide_eq_false h4]
          exact ⟨rfl, rfl⟩
    · rw [decide_eq_false h2, if_neg (show ¬ (x - v < -9223372036854775808) by omega), decide_eq_true (show x - v ≤ x by omega), decide_eq_true (show x - v ≥ lo by omega)]
      exact ⟨rfl, rfl⟩
  have n : ∀ k : Int, t ≠ k → (t == k) = false := fun k h => by simpa using h
  unfold apR ap f45 f81 f45t0 f81t0
  simp only [Tr.run, n 1 c1, n 2 c2, n 3 c3, n 4 c4, n 5 c5, n 6 c6, n 7 c7, n 8 c8, n 9 c9, cond_false]
  exact ⟨rfl, rfl⟩
/-- What holds at all ends of a tree. -/
def Tr.All {α : Type} (P : α → Prop) : Tr α → Prop
  | .ret a => P a
  | .test _ x y => x.All P ∧ y.All P
  | .wait _ _ _ _ _ => False
  | .fail => True
theorem Tr.all_run {α : Type} {P : α → Prop} : ∀ {t : Tr α} {o : α}, t.All P → t.run = some o → P o
  | .ret a, o, h, e => by
    obtain rfl := Option.some.inj e
    exact h
  | .test b x y, o, h, e => by
    rcases test_some e with ⟨_, e⟩ | ⟨_, e⟩
    · exact Tr.all_run h.1 e
    · exact Tr.all_run h.2 e
  | .wait _ _ _ _ _, o, h, e => h.elim
  | .fail, o, h, e => by cases e
theorem ap_in {t v x lo : Int} (hi : Int) (hv : In64 v) (hx : In64 x) (hl : In64 lo) : In64 (ap t v x lo hi).y1 := by
  have key : ∀ o : f81o, f81 0 ⟨t, v⟩ x lo hi = some o → In64 o.y1 := by
    intro o h
    refine Tr.all_run (P := fun o => In64 o.y1) (t := f81t0 ⟨t, v⟩ x lo hi) ?_ h
    unfold f81t0
    simp only [Tr.All]
    have w := fun n => wrap_in64 n
    have m1 : In64 (if v < x then x else v) := by split; exact hx; exact hv
    have m2 : In64 (if x < v then x else v) := by split; exact hx; exact hv
    simp only [w, m1, m2, hx, hv, hl, and_self]
  unfold ap
  cases h : f81 0 ⟨t, v⟩ x lo hi with
  | none => exact ⟨by decide, by decide⟩
  | some o => exact key o h
/-- Entries whose numbers are of 64 bits. -/
def OkEs (xs : List (List PV)) : Prop := ∀ e ∈ xs, In64 (entOf e).f1.f1
theorem one_in {e : List PV} {x lo : Int} (hi : Int) (he : In64 (entOf e).f1.f1) (hx : In64 x) (hl : In64 lo) : In64 (one e x lo hi) := ap_in hi he hx hl
theorem one_same {e : List PV} {x lo : Int} (hi : Int) (he : In64 (entOf e).f1.f1) (hx : In64 x) (hl : In64 lo) : oneR e x lo hi = one e x lo hi := (apply_same hi he hx hl).1
theorem allR_eq (lo hi : Int) (hl : In64 lo) : ∀ (xs : List (List PV)) (x : Int), OkEs xs → In64 x → allR xs x lo hi = allOf xs x lo hi
  | [], x, _, _ => (allOf_nil x lo hi).symm
  | e :: r, x, h, hx => by
    rw [allOf_cons, ← one_same hi (h e (by simp)) hx hl]
    refine (allR_eq lo hi hl r (oneR e x lo hi) (fun f hf => h f (by simp [hf])) ?_)
    rw [one_same hi (h e (by simp)) hx hl]
    exact one_in hi (h e (by simp)) hx hl
theorem allOf_in (lo hi : Int) (hl : In64 lo) : ∀ (xs : List (List PV)) (x : Int), OkEs xs → In64 x → In64 (allOf xs x lo hi)
  | [], x, _, hx => by
    rw [allOf_nil]
    exact hx
  | e :: r, x, h, hx => by
    rw [allOf_cons]
    exact allOf_in lo hi hl r _ (fun f hf => h f (by simp [hf])) (one_in hi (h e (by simp)) hx hl)
theorem okEs_of {t : Nat} {xs : List (List PV)} (h : Wf (.list t xs)) (hc : ∀ e ∈ xs, cfs [.int .i64, .int .i64, .int .i64] e) : OkEs xs := by
  intro e he
  simp only [Wf] at h
  have hw := h.2.mem e he
  match e, hc e he, hw with
  | [a, b, c], hq, hw =>
    obtain ⟨⟨_, rfl⟩, ⟨_, rfl⟩, ⟨z, rfl⟩, _⟩ := hq
    simp only [Wfs] at hw
    obtain ⟨g1, g2⟩ := wf_i64 hw.2.2.1
    exact ⟨g1, g2⟩
end Go.Proofs.YtjoebchkchoomaaS
