/- The pure statement that is left of ShareOther. Conditions: the numbers' own ranges. -/
import Derived.Test.YtjoebchkchoomaaFacts11d
import Derived.Test.YtjoebchkchoomaaF5x4
import Derived.Test.YtjoebchkchoomaaSimPure
set_option linter.unusedVariables false
set_option linter.unusedSimpArgs false
set_option maxRecDepth 10000
namespace Go.Proofs.YtjoebchkchoomaaS
open Go Go.Proofs
def sameAt (xs ys : List (List PV)) (i : Nat) : Bool := pInt ((xs.getD i []).headD PV.undef) != pInt ((ys.getD i []).headD PV.undef)
theorem same_at (xs : List (List PV)) (i : Nat) : sameAt xs xs i = false := by simp [sameAt]
theorem set_at_other {xs : List (List PV)} {j : Int} {p : List PV} {i : Nat} (h : inB xs j = true) (hne : (i : Int) ≠ j) : sameAt (xs.set j.toNat p) xs i = false := by
  have := (inB_true.1 h).1
  have : j.toNat ≠ i := by omega
  simp [sameAt, List.getD_eq_getElem?_getD, List.getElem?_set_ne this]
theorem loop345 (x0 : S38) (hw : x0.a14.length ≤ 400) (h14 : ((stepT x0).a14.length : Int) = (x0.a14.length : Int)) (hk : ∀ i : Nat, i < x0.a14.length → (i : Int) ≠ resT x0 (kidT x0) → sameAt (stepT x0).a14 x0.a14 i = false) : loopN (f4L345r (x0.a14.length + x0.a15.length + 1) x0 (stepT x0).a0 (stepT x0).a1 (stepT x0).a2 (stepT x0).a3 (stepT x0).a4 (stepT x0).a5 (stepT x0).a6 (stepT x0).a7 (stepT x0).a8 (stepT x0).a9 (stepT x0).a10 (stepT x0).a11 (stepT x0).a12 (stepT x0).a13 (stepT x0).a14 (stepT x0).a15 (stepT x0).a16 (stepT x0).a17 (stepT x0).a18 (stepT x0).a19 (stepT x0).a20 (stepT x0).a21 (stepT x0).a22 (stepT x0).a23 (stepT x0).a24 (stepT x0).a25 (stepT x0).a26 (stepT x0).a27 (stepT x0).a28 (stepT x0).a29 (stepT x0).a30 (stepT x0).a31 (stepT x0).a32 (stepT x0).a33 (stepT x0).a34 (stepT x0).a35 (stepT x0).a36) (x0.a14.length + x0.a15.length + 1) (.s0 (0 : Int)) = some .e1 := by
  have hB := loop_all (stp := f4L345r (x0.a14.length + x0.a15.length + 1) x0 (stepT x0).a0 (stepT x0).a1 (stepT x0).a2 (stepT x0).a3 (stepT x0).a4 (stepT x0).a5 (stepT x0).a6 (stepT x0).a7 (stepT x0).a8 (stepT x0).a9 (stepT x0).a10 (stepT x0).a11 (stepT x0).a12 (stepT x0).a13 (stepT x0).a14 (stepT x0).a15 (stepT x0).a16 (stepT x0).a17 (stepT x0).a18 (stepT x0).a19 (stepT x0).a20 (stepT x0).a21 (stepT x0).a22 (stepT x0).a23 (stepT x0).a24 (stepT x0).a25 (stepT x0).a26 (stepT x0).a27 (stepT x0).a28 (stepT x0).a29 (stepT x0).a30 (stepT x0).a31 (stepT x0).a32 (stepT x0).a33 (stepT x0).a34 (stepT x0).a35 (stepT x0).a36) (fun i => .s0 (i : Int)) .e0 .e1 (fun _ => true) x0.a14.length
    (fun i hi _ => by
      have q0 : decide ((0 : Int) ≤ (i : Int)) = true := decide_eq_true (by omega)
      have q1 : decide ((i : Int) < (x0.a14.length : Int)) = true := decide_eq_true (by omega)
      have q2 : (decide ((0 : Int) ≤ (i : Int)) && decide ((i : Int) < (x0.a14.length : Int))) = true := by rw [q0, q1]; rfl
      have q3 : (decide ((0 : Int) ≤ (i : Int)) && decide ((i : Int) < (((stepT x0).a14.length : Nat) : Int))) = true := by rw [h14]; exact q2
      have nx : some (Sum.inl (f4L345s.s0 (IntKind.i64.wrap ((i : Int) + 1)))) = (some (Sum.inl (f4L345s.s0 ((i + 1 : Nat) : Int))) : Option (f4L345s ⊕ f4L345e)) := by rw [wrap_next (i := i) (by omega)]
      refine run_true q1 ?_
      refine run_test (fun hne => run_true q3 (run_true q2 (run_false ?_ nx))) (fun _ => nx)
      have hne : (i : Int) ≠ resT x0 (kidT x0) := bne_iff_ne.1 hne
      exact hk i hi hne)
    (fun i _ h => by cases h)
    (run_false (decide_eq_false (show ¬ ((x0.a14.length : Int) < (x0.a14.length : Int)) by omega)) rfl) x0.a14.length 0 (by omega)
  have hb : (List.range' 0 x0.a14.length).all (fun _ => true) = true := by simp
  rw [hb] at hB
  have := loopN_more _ _ _ hB x0.a15.length
  rwa [show x0.a14.length + 1 + x0.a15.length = x0.a14.length + x0.a15.length + 1 by omega] at this
theorem loop351 (x0 : S38) (hw : x0.a14.length ≤ 400) (h14 : ((stepT x0).a14.length : Int) = (x0.a14.length : Int)) (hk : ∀ i : Nat, i < x0.a14.length → (i : Int) ≠ lineT x0 (kidT x0) → sameAt (stepT x0).a14 x0.a14 i = false) : loopN (f4L351r (x0.a14.length + x0.a15.length + 1) x0 (stepT x0).a0 (stepT x0).a1 (stepT x0).a2 (stepT x0).a3 (stepT x0).a4 (stepT x0).a5 (stepT x0).a6 (stepT x0).a7 (stepT x0).a8 (stepT x0).a9 (stepT x0).a10 (stepT x0).a11 (stepT x0).a12 (stepT x0).a13 (stepT x0).a14 (stepT x0).a15 (stepT x0).a16 (stepT x0).a17 (stepT x0).a18 (stepT x0).a19 (stepT x0).a20 (stepT x0).a21 (stepT x0).a22 (stepT x0).a23 (stepT x0).a24 (stepT x0).a25 (stepT x0).a26 (stepT x0).a27 (stepT x0).a28 (stepT x0).a29 (stepT x0).a30 (stepT x0).a31 (stepT x0).a32 (stepT x0).a33 (stepT x0).a34 (stepT x0).a35 (stepT x0).a36) (x0.a14.length + x0.a15.length + 1) (.s0 (0 : Int)) = some .e1 := by
  have hB := loop_all (stp := f4L351r (x0.a14.length + x0.a15.length + 1) x0 (stepT x0).a0 (stepT x0).a1 (stepT x0).a2 (stepT x0).a3 (stepT x0).a4 (stepT x0).a5 (stepT x0).a6 (stepT x0).a7 (stepT x0).a8 (stepT x0).a9 (stepT x0).a10 (stepT x0).a11 (stepT x0).a12 (stepT x0).a13 (stepT x0).a14 (stepT x0).a15 (stepT x0).a16 (stepT x0).a17 (stepT x0).a18 (stepT x0).a19 (stepT x0).a20 (stepT x0).a21 (stepT x0).a22 (stepT x0).a23 (stepT x0).a24 (stepT x0).a25 (stepT x0).a26 (stepT x0).a27 (stepT x0).a28 (stepT x0).a29 (stepT x0).a30 (stepT x0).a31 (stepT x0).a32 (stepT x0).a33 (stepT x0).a34 (stepT x0).a35 (stepT x0).a36) (fun i => .s0 (i : Int)) .e0 .e1 (fun _ => true) x0.a14.length
    (fun i hi _ => by
      have q0 : decide ((0 : Int) ≤ (i : Int)) = true := decide_eq_true (by omega)
      have q1 : decide ((i : Int) < (x0.a14.length : Int)) = true := decide_eq_true (by omega)
      have q2 : (decide ((0 : Int) ≤ (i : Int)) && decide ((i : Int) < (x0.a14.length : Int))) = true := by rw [q0, q1]; rfl
      have q3 : (decide ((0 : Int) ≤ (i : Int)) && decide ((i : Int) < (((stepT x0).a14.length : Nat) : Int))) = true := by rw [h14]; exact q2
      have nx : some (Sum.inl (f4L351s.s0 (IntKind.i64.wrap ((i : Int) + 1)))) = (some (Sum.inl (f4L351s.s0 ((i + 1 : Nat) : Int))) : Option (f4L351s ⊕ f4L351e)) := by rw [wrap_next (i := i) (by omega)]
      refine run_true q1 ?_
      refine run_test (fun hne => run_true q3 (run_true q2 (run_false ?_ nx))) (fun _ => nx)
      have hne : (i : Int) ≠ lineT x0 (kidT x0) := bne_iff_ne.1 hne
      exact hk i hi hne)
    (fun i _ h => by cases h)
    (run_false (decide_eq_false (show ¬ ((x0.a14.length : Int) < (x0.a14.length : Int)) by omega)) rfl) x0.a14.length 0 (by omega)
  have hb : (List.range' 0 x0.a14.length).all (fun _ => true) = true := by simp
  rw [hb] at hB
  have := loopN_more _ _ _ hB x0.a15.length
  rwa [show x0.a14.length + 1 + x0.a15.length = x0.a14.length + x0.a15.length + 1 by omega] at this
theorem loop357 (x0 : S38) (hw : x0.a14.length ≤ 400) (h14 : ((stepT x0).a14.length : Int) = (x0.a14.length : Int)) (hk : ∀ i : Nat, i < x0.a14.length → (i : Int) ≠ -1 → sameAt (stepT x0).a14 x0.a14 i = false) : loopN (f4L357r (x0.a14.length + x0.a15.length + 1) x0 (stepT x0).a0 (stepT x0).a1 (stepT x0).a2 (stepT x0).a3 (stepT x0).a4 (stepT x0).a5 (stepT x0).a6 (stepT x0).a7 (stepT x0).a8 (stepT x0).a9 (stepT x0).a10 (stepT x0).a11 (stepT x0).a12 (stepT x0).a13 (stepT x0).a14 (stepT x0).a15 (stepT x0).a16 (stepT x0).a17 (stepT x0).a18 (stepT x0).a19 (stepT x0).a20 (stepT x0).a21 (stepT x0).a22 (stepT x0).a23 (stepT x0).a24 (stepT x0).a25 (stepT x0).a26 (stepT x0).a27 (stepT x0).a28 (stepT x0).a29 (stepT x0).a30 (stepT x0).a31 (stepT x0).a32 (stepT x0).a33 (stepT x0).a34 (stepT x0).a35 (stepT x0).a36) (x0.a14.length + x0.a15.length + 1) (.s0 (0 : Int)) = some .e1 := by
  have hB := loop_all (stp := f4L357r (x0.a14.length + x0.a15.length + 1) x0 (stepT x0).a0 (stepT x0).a1 (stepT x0).a2 (stepT x0).a3 (stepT x0).a4 (stepT x0).a5 (stepT x0).a6 (stepT x0).a7 (stepT x0).a8 (stepT x0).a9 (stepT x0).a10 (stepT x0).a11 (stepT x0).a12 (stepT x0).a13 (stepT x0).a14 (stepT x0).a15 (stepT x0).a16 (stepT x0).a17 (stepT x0).a18 (stepT x0).a19 (stepT x0).a20 (stepT x0).a21 (stepT x0).a22 (stepT x0).a23 (stepT x0).a24 (stepT x0).a25 (stepT x0).a26 (stepT x0).a27 (stepT x0).a28 (stepT x0).a29 (stepT x0).a30 (stepT x0).a31 (stepT x0).a32 (stepT x0).a33 (stepT x0).a34 (stepT x0).a35 (stepT x0).a36) (fun i => .s0 (i : Int)) .e0 .e1 (fun _ => true) x0.a14.length
    (fun i hi _ => by
      have q0 : decide ((0 : Int) ≤ (i : Int)) = true := decide_eq_true (by omega)
      have q1 : decide ((i : Int) < (x0.a14.length : Int)) = true := decide_eq_true (by omega)
      have q2 : (decide ((0 : Int) ≤ (i : Int)) && decide ((i : Int) < (x0.a14.length : Int))) = true := by rw [q0, q1]; rfl
      have q3 : (decide ((0 : Int) ≤ (i : Int)) && decide ((i : Int) < (((stepT x0).a14.length : Nat) : Int))) = true := by rw [h14]; exact q2
      have nx : some (Sum.inl (f4L357s.s0 (IntKind.i64.wrap ((i : Int) + 1)))) = (some (Sum.inl (f4L357s.s0 ((i + 1 : Nat) : Int))) : Option (f4L357s ⊕ f4L357e)) := by rw [wrap_next (i := i) (by omega)]
      refine run_true q1 ?_
      refine run_test (fun hne => run_true q3 (run_true q2 (run_false ?_ nx))) (fun _ => nx)
      have hne : (i : Int) ≠ -1 := bne_iff_ne.1 hne
      exact hk i hi hne)
    (fun i _ h => by cases h)
    (run_false (decide_eq_false (show ¬ ((x0.a14.length : Int) < (x0.a14.length : Int)) by omega)) rfl) x0.a14.length 0 (by omega)
  have hb : (List.range' 0 x0.a14.length).all (fun _ => true) = true := by simp
  rw [hb] at hB
  have := loopN_more _ _ _ hB x0.a15.length
  rwa [show x0.a14.length + 1 + x0.a15.length = x0.a14.length + x0.a15.length + 1 by omega] at this
theorem loop363 (x0 : S38) (hw : x0.a14.length ≤ 400) (h14 : ((stepT x0).a14.length : Int) = (x0.a14.length : Int)) (hk : ∀ i : Nat, i < x0.a14.length → (i : Int) ≠ -1 → sameAt (stepT x0).a14 x0.a14 i = false) : loopN (f4L363r (x0.a14.length + x0.a15.length + 1) x0 (stepT x0).a0 (stepT x0).a1 (stepT x0).a2 (stepT x0).a3 (stepT x0).a4 (stepT x0).a5 (stepT x0).a6 (stepT x0).a7 (stepT x0).a8 (stepT x0).a9 (stepT x0).a10 (stepT x0).a11 (stepT x0).a12 (stepT x0).a13 (stepT x0).a14 (stepT x0).a15 (stepT x0).a16 (stepT x0).a17 (stepT x0).a18 (stepT x0).a19 (stepT x0).a20 (stepT x0).a21 (stepT x0).a22 (stepT x0).a23 (stepT x0).a24 (stepT x0).a25 (stepT x0).a26 (stepT x0).a27 (stepT x0).a28 (stepT x0).a29 (stepT x0).a30 (stepT x0).a31 (stepT x0).a32 (stepT x0).a33 (stepT x0).a34 (stepT x0).a35 (stepT x0).a36) (x0.a14.length + x0.a15.length + 1) (.s0 (0 : Int)) = some .e1 := by
  have hB := loop_all (stp := f4L363r (x0.a14.length + x0.a15.length + 1) x0 (stepT x0).a0 (stepT x0).a1 (stepT x0).a2 (stepT x0).a3 (stepT x0).a4 (stepT x0).a5 (stepT x0).a6 (stepT x0).a7 (stepT x0).a8 (stepT x0).a9 (stepT x0).a10 (stepT x0).a11 (stepT x0).a12 (stepT x0).a13 (stepT x0).a14 (stepT x0).a15 (stepT x0).a16 (stepT x0).a17 (stepT x0).a18 (stepT x0).a19 (stepT x0).a20 (stepT x0).a21 (stepT x0).a22 (stepT x0).a23 (stepT x0).a24 (stepT x0).a25 (stepT x0).a26 (stepT x0).a27 (stepT x0).a28 (stepT x0).a29 (stepT x0).a30 (stepT x0).a31 (stepT x0).a32 (stepT x0).a33 (stepT x0).a34 (stepT x0).a35 (stepT x0).a36) (fun i => .s0 (i : Int)) .e0 .e1 (fun _ => true) x0.a14.length
    (fun i hi _ => by
      have q0 : decide ((0 : Int) ≤ (i : Int)) = true := decide_eq_true (by omega)
      have q1 : decide ((i : Int) < (x0.a14.length : Int)) = true := decide_eq_true (by omega)
      have q2 : (decide ((0 : Int) ≤ (i : Int)) && decide ((i : Int) < (x0.a14.length : Int))) = true := by rw [q0, q1]; rfl
      have q3 : (decide ((0 : Int) ≤ (i : Int)) && decide ((i : Int) < (((stepT x0).a14.length : Nat) : Int))) = true := by rw [h14]; exact q2
      have nx : some (Sum.inl (f4L363s.s0 (IntKind.i64.wrap ((i : Int) + 1)))) = (some (Sum.inl (f4L363s.s0 ((i + 1 : Nat) : Int))) : Option (f4L363s ⊕ f4L363e)) := by rw [wrap_next (i := i) (by omega)]
      refine run_true q1 ?_
      refine run_test (fun hne => run_true q3 (run_true q2 (run_false ?_ nx))) (fun _ => nx)
      have hne : (i : Int) ≠ -1 := bne_iff_ne.1 hne
      exact hk i hi hne)
    (fun i _ h => by cases h)
    (run_false (decide_eq_false (show ¬ ((x0.a14.length : Int) < (x0.a14.length : Int)) by omega)) rfl) x0.a14.length 0 (by omega)
  have hb : (List.range' 0 x0.a14.length).all (fun _ => true) = true := by simp
  rw [hb] at hB
  have := loopN_more _ _ _ hB x0.a15.length
  rwa [show x0.a14.length + 1 + x0.a15.length = x0.a14.length + x0.a15.length + 1 by omega] at this
theorem loop369 (x0 : S38) (hw : x0.a14.length ≤ 400) (h14 : ((stepT x0).a14.length : Int) = (x0.a14.length : Int)) (hk : ∀ i : Nat, i < x0.a14.length → (i : Int) ≠ -1 → sameAt (stepT x0).a14 x0.a14 i = false) : loopN (f4L369r (x0.a14.length + x0.a15.length + 1) x0 (stepT x0).a0 (stepT x0).a1 (stepT x0).a2 (stepT x0).a3 (stepT x0).a4 (stepT x0).a5 (stepT x0).a6 (stepT x0).a7 (stepT x0).a8 (stepT x0).a9 (stepT x0).a10 (stepT x0).a11 (stepT x0).a12 (stepT x0).a13 (stepT x0).a14 (stepT x0).a15 (stepT x0).a16 (stepT x0).a17 (stepT x0).a18 (stepT x0).a19 (stepT x0).a20 (stepT x0).a21 (stepT x0).a22 (stepT x0).a23 (stepT x0).a24 (stepT x0).a25 (stepT x0).a26 (stepT x0).a27 (stepT x0).a28 (stepT x0).a29 (stepT x0).a30 (stepT x0).a31 (stepT x0).a32 (stepT x0).a33 (stepT x0).a34 (stepT x0).a35 (stepT x0).a36) (x0.a14.length + x0.a15.length + 1) (.s0 (0 : Int)) = some .e1 := by
  have hB := loop_all (stp := f4L369r (x0.a14.length + x0.a15.length + 1) x0 (stepT x0).a0 (stepT x0).a1 (stepT x0).a2 (stepT x0).a3 (stepT x0).a4 (stepT x0).a5 (stepT x0).a6 (stepT x0).a7 (stepT x0).a8 (stepT x0).a9 (stepT x0).a10 (stepT x0).a11 (stepT x0).a12 (stepT x0).a13 (stepT x0).a14 (stepT x0).a15 (stepT x0).a16 (stepT x0).a17 (stepT x0).a18 (stepT x0).a19 (stepT x0).a20 (stepT x0).a21 (stepT x0).a22 (stepT x0).a23 (stepT x0).a24 (stepT x0).a25 (stepT x0).a26 (stepT x0).a27 (stepT x0).a28 (stepT x0).a29 (stepT x0).a30 (stepT x0).a31 (stepT x0).a32 (stepT x0).a33 (stepT x0).a34 (stepT x0).a35 (stepT x0).a36) (fun i => .s0 (i : Int)) .e0 .e1 (fun _ => true) x0.a14.length
    (fun i hi _ => by
      have q0 : decide ((0 : Int) ≤ (i : Int)) = true := decide_eq_true (by omega)
      have q1 : decide ((i : Int) < (x0.a14.length : Int)) = true := decide_eq_true (by omega)
      have q2 : (decide ((0 : Int) ≤ (i : Int)) && decide ((i : Int) < (x0.a14.length : Int))) = true := by rw [q0, q1]; rfl
      have q3 : (decide ((0 : Int) ≤ (i : Int)) && decide ((i : Int) < (((stepT x0).a14.length : Nat) : Int))) = true := by rw [h14]; exact q2
      have nx : some (Sum.inl (f4L369s.s0 (IntKind.i64.wrap ((i : Int) + 1)))) = (some (Sum.inl (f4L369s.s0 ((i + 1 : Nat) : Int))) : Option (f4L369s ⊕ f4L369e)) := by rw [wrap_next (i := i) (by omega)]
      refine run_true q1 ?_
      refine run_test (fun hne => run_true q3 (run_true q2 (run_false ?_ nx))) (fun _ => nx)
      have hne : (i : Int) ≠ -1 := bne_iff_ne.1 hne
      exact hk i hi hne)
    (fun i _ h => by cases h)
    (run_false (decide_eq_false (show ¬ ((x0.a14.length : Int) < (x0.a14.length : Int)) by omega)) rfl) x0.a14.length 0 (by omega)
  have hb : (List.range' 0 x0.a14.length).all (fun _ => true) = true := by simp
  rw [hb] at hB
  have := loopN_more _ _ _ hB x0.a15.length
  rwa [show x0.a14.length + 1 + x0.a15.length = x0.a14.length + x0.a15.length + 1 by omega] at this
theorem loop0 (x0 : S38) (hs : Small x0) (L1 : (stepT x0).a15 = x0.a15) : loopN (f4L0r (x0.a14.length + x0.a15.length + 1) x0) (x0.a14.length + x0.a15.length + 1) (.s0 (0 : Int) (stepT x0).a0 (stepT x0).a1 (stepT x0).a2 (stepT x0).a3 (stepT x0).a4 (stepT x0).a5 (stepT x0).a6 (stepT x0).a7 (stepT x0).a8 (stepT x0).a9 (stepT x0).a10 (stepT x0).a11 (stepT x0).a12 (stepT x0).a13 (stepT x0).a14 (stepT x0).a15 (stepT x0).a16 (stepT x0).a17 (stepT x0).a18 (stepT x0).a19 (stepT x0).a20 (stepT x0).a21 (stepT x0).a22 (stepT x0).a23 (stepT x0).a24 (stepT x0).a25 (stepT x0).a26 (stepT x0).a27 (stepT x0).a28 (stepT x0).a29 (stepT x0).a30 (stepT x0).a31 (stepT x0).a32 (stepT x0).a33 (stepT x0).a34 (stepT x0).a35 (stepT x0).a36) = some (.e1 (stepT x0).a0 (stepT x0).a1 (stepT x0).a2 (stepT x0).a3 (stepT x0).a4 (stepT x0).a5 (stepT x0).a6 (stepT x0).a7 (stepT x0).a8 (stepT x0).a9 (stepT x0).a10 (stepT x0).a11 (stepT x0).a12 (stepT x0).a13 (stepT x0).a14 (stepT x0).a15 (stepT x0).a16 (stepT x0).a17 (stepT x0).a18 (stepT x0).a19 (stepT x0).a20 (stepT x0).a21 (stepT x0).a22 (stepT x0).a23 (stepT x0).a24 (stepT x0).a25 (stepT x0).a26 (stepT x0).a27 (stepT x0).a28 (stepT x0).a29 (stepT x0).a30 (stepT x0).a31 (stepT x0).a32 (stepT x0).a33 (stepT x0).a34 (stepT x0).a35 (stepT x0).a36) := by
  have hx := hs.n
  have hA := loop_all (stp := f4L0r (x0.a14.length + x0.a15.length + 1) x0) (fun i => .s0 (i : Int) (stepT x0).a0 (stepT x0).a1 (stepT x0).a2 (stepT x0).a3 (stepT x0).a4 (stepT x0).a5 (stepT x0).a6 (stepT x0).a7 (stepT x0).a8 (stepT x0).a9 (stepT x0).a10 (stepT x0).a11 (stepT x0).a12 (stepT x0).a13 (stepT x0).a14 (stepT x0).a15 (stepT x0).a16 (stepT x0).a17 (stepT x0).a18 (stepT x0).a19 (stepT x0).a20 (stepT x0).a21 (stepT x0).a22 (stepT x0).a23 (stepT x0).a24 (stepT x0).a25 (stepT x0).a26 (stepT x0).a27 (stepT x0).a28 (stepT x0).a29 (stepT x0).a30 (stepT x0).a31 (stepT x0).a32 (stepT x0).a33 (stepT x0).a34 (stepT x0).a35 (stepT x0).a36) (.e0 (stepT x0).a0 (stepT x0).a1 (stepT x0).a2 (stepT x0).a3 (stepT x0).a4 (stepT x0).a5 (stepT x0).a6 (stepT x0).a7 (stepT x0).a8 (stepT x0).a9 (stepT x0).a10 (stepT x0).a11 (stepT x0).a12 (stepT x0).a13 (stepT x0).a14 (stepT x0).a15 (stepT x0).a16 (stepT x0).a17 (stepT x0).a18 (stepT x0).a19 (stepT x0).a20 (stepT x0).a21 (stepT x0).a22 (stepT x0).a23 (stepT x0).a24 (stepT x0).a25 (stepT x0).a26 (stepT x0).a27 (stepT x0).a28 (stepT x0).a29 (stepT x0).a30 (stepT x0).a31 (stepT x0).a32 (stepT x0).a33 (stepT x0).a34 (stepT x0).a35 (stepT x0).a36) (.e1 (stepT x0).a0 (stepT x0).a1 (stepT x0).a2 (stepT x0).a3 (stepT x0).a4 (stepT x0).a5 (stepT x0).a6 (stepT x0).a7 (stepT x0).a8 (stepT x0).a9 (stepT x0).a10 (stepT x0).a11 (stepT x0).a12 (stepT x0).a13 (stepT x0).a14 (stepT x0).a15 (stepT x0).a16 (stepT x0).a17 (stepT x0).a18 (stepT x0).a19 (stepT x0).a20 (stepT x0).a21 (stepT x0).a22 (stepT x0).a23 (stepT x0).a24 (stepT x0).a25 (stepT x0).a26 (stepT x0).a27 (stepT x0).a28 (stepT x0).a29 (stepT x0).a30 (stepT x0).a31 (stepT x0).a32 (stepT x0).a33 (stepT x0).a34 (stepT x0).a35 (stepT x0).a36) (fun _ => true) x0.a15.length
    (fun i hi _ => by
      have q0 : decide ((0 : Int) ≤ (i : Int)) = true := decide_eq_true (by omega)
      have q1 : decide ((i : Int) < (x0.a15.length : Int)) = true := decide_eq_true (by omega)
      have q2 : (decide ((0 : Int) ≤ (i : Int)) && decide ((i : Int) < (x0.a15.length : Int))) = true := by rw [q0, q1]; rfl
      have q3 : (decide ((0 : Int) ≤ (i : Int)) && decide ((i : Int) < (((stepT x0).a15.length : Nat) : Int))) = true := by rw [L1]; exact q2
      have hb := hs.bx i hi
      have e15 : (stepT x0).a15.getD (i : Int).toNat [] = x0.a15.getD i [] := by rw [L1]; rfl
      have m1 : decide ((pList ((x0.a15.getD (i : Int).toNat []).headD PV.undef)).length ≤ most) = true := most_ok (show (pList ((x0.a15.getD i []).headD PV.undef)).length ≤ 1000 by omega)
      have m2 : decide ((pList ((x0.a15.getD (i : Int).toNat []).headD PV.undef)).length ≤ huge) = true := decide_eq_true (huge_ok (show (pList ((x0.a15.getD i []).headD PV.undef)).length ≤ 1000 by omega))
      refine run_true q1 (run_true q2 (run_true m1 (run_true q3 (run_true ?_ (run_true m2 (run_false ?_ ?_))))))
      · rw [e15]
        exact m1
      · rw [e15]
        show (!alike same3 (pList ((x0.a15.getD i []).headD PV.undef)) (pList ((x0.a15.getD i []).headD PV.undef))) = false
        rw [alike3_refl]
        rfl
      · show some (Sum.inl (f4L0s.s0 (IntKind.i64.wrap ((i : Int) + 1)) (stepT x0).a0 (stepT x0).a1 (stepT x0).a2 (stepT x0).a3 (stepT x0).a4 (stepT x0).a5 (stepT x0).a6 (stepT x0).a7 (stepT x0).a8 (stepT x0).a9 (stepT x0).a10 (stepT x0).a11 (stepT x0).a12 (stepT x0).a13 (stepT x0).a14 (stepT x0).a15 (stepT x0).a16 (stepT x0).a17 (stepT x0).a18 (stepT x0).a19 (stepT x0).a20 (stepT x0).a21 (stepT x0).a22 (stepT x0).a23 (stepT x0).a24 (stepT x0).a25 (stepT x0).a26 (stepT x0).a27 (stepT x0).a28 (stepT x0).a29 (stepT x0).a30 (stepT x0).a31 (stepT x0).a32 (stepT x0).a33 (stepT x0).a34 (stepT x0).a35 (stepT x0).a36)) = _
        rw [wrap_next (i := i) (by omega)])
    (fun i _ h => by cases h)
    (run_false (decide_eq_false (show ¬ ((x0.a15.length : Int) < (x0.a15.length : Int)) by omega)) rfl) x0.a15.length 0 (by omega)
  have ha : (List.range' 0 x0.a15.length).all (fun _ => true) = true := by simp
  rw [ha] at hA
  have := loopN_more _ _ _ hA x0.a14.length
  rwa [show x0.a15.length + 1 + x0.a14.length = x0.a14.length + x0.a15.length + 1 by omega] at this
theorem pureShareOther (x0 : S38) (h0 : Wf (S38v x0)) (hmean : Meant Try.prog [S38v x0]) : ∃ N, f4 N x0 = some ⟨true⟩ := by
  refine ⟨x0.a14.length + x0.a15.length + 1, ?_⟩
  unfold f4
  refine bif_elim (fun h => rfl) (fun hb => ?_)
  refine bif_elim (fun h => rfl) (fun hm => ?_)
  have hs := small_of hb
  have hM := may_of (x := x0) (by simpa using hm)
  have hG := good_of hs hM
  have hL := step_left x0
  have hW := step_words x0
  have L1 : (stepT x0).a15 = x0.a15 := by
    have := congrArg S38.a15 hL.same
    exact this
  have h14 : (((stepT x0).a14.length : Nat) : Int) = (x0.a14.length : Int) := by rw [left_len hL]
  refine bif_true (good_iff.2 hG) ?_
  refine bif_false (by rw [h14]; simp) (bif_false (by rw [L1]; simp) ?_)
  rw [loop0 x0 hs L1]
  refine bif_elim (fun a0 => ?_) (fun a0 => ?_)
  · refine bif_elim (fun a1 => ?_) (fun a1 => ?_)
    · have hin : (decide ((0 : Int) ≤ x0.a25) && decide (x0.a25 < (x0.a21.length : Int))) = true := by
        have : decide ((0 : Int) ≤ x0.a25) = true := decide_eq_true (of_decide_eq_true a0)
        rw [this, a1]
        rfl
      refine bif_elim (fun c15 => ?_) (fun c15 => ?_)
      · have e15 : x0.a16 = 15 := by simpa using c15
        refine bif_true hin (bif_true (decide_eq_true hG.d4) (bif_false (by rw [e15]; rfl) ?_))
        rw [loop345 x0 hs.w h14 (fun i hi hne => by
          rcases hW with e | ⟨_, _, hb, v, e⟩ | ⟨h16, _, _, v, e⟩
          · rw [e]; exact same_at _ _
          · rw [e]; exact set_at_other hb hne
          · omega)]
        rfl
      · have e15 : x0.a16 ≠ 15 := by simpa using c15
        refine bif_elim (fun c16 => ?_) (fun c16 => ?_)
        · refine bif_true hin (bif_true (decide_eq_true hG.d4) ?_)
          rw [loop351 x0 hs.w h14 (fun i hi hne => by
            rcases hW with e | ⟨h15, _, _, v, e⟩ | ⟨_, _, hb, v, e⟩
            · rw [e]; exact same_at _ _
            · omega
            · rw [e]; exact set_at_other hb hne)]
          rfl
        · have e16 : x0.a16 ≠ 16 := by simpa using c16
          rw [loop357 x0 hs.w h14 (fun i hi hne => by
            rcases hW with e | ⟨h15, _, _, v, e⟩ | ⟨h16, _, _, v, e⟩
            · rw [e]; exact same_at _ _
            · omega
            · omega)]
          rfl
    · have hno : hasKid x0 = false := by
        unfold hasKid
        rw [a1, Bool.and_false]
      rw [loop363 x0 hs.w h14 (fun i hi hne => by
        rcases hW with e | ⟨_, hk, _, v, e⟩ | ⟨_, hk, _, v, e⟩
        · rw [e]; exact same_at _ _
        · rw [hno] at hk; cases hk
        · rw [hno] at hk; cases hk)]
      rfl
  · have hno : hasKid x0 = false := by
      unfold hasKid
      rw [show decide ((0 : Int) ≤ x0.a25) = false from decide_eq_false (of_decide_eq_false a0), Bool.false_and]
    rw [loop369 x0 hs.w h14 (fun i hi hne => by
      rcases hW with e | ⟨_, hk, _, v, e⟩ | ⟨_, hk, _, v, e⟩
      · rw [e]; exact same_at _ _
      · rw [hno] at hk; cases hk
      · rw [hno] at hk; cases hk)]
    rfl
end Go.Proofs.YtjoebchkchoomaaS
