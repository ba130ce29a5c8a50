/- The pure statement that is left of CommitOther. Conditions: the numbers' own ranges. -/
import Derived.Test.YtfkndbihfdjinaaFacts12d
import Derived.Test.YtfkndbihfdjinaaF5x7
import Derived.Test.YtfkndbihfdjinaaSimPure
set_option linter.unusedVariables false
set_option linter.unusedSimpArgs false
set_option maxRecDepth 10000
namespace Go.Proofs.YtfkndbihfdjinaaS
open Go Go.Proofs
theorem pureCommitOther (x0 : S38) (h0 : Wf (S38v x0)) (hmean : Meant Try.prog [S38v x0]) : ∃ N, f7 N x0 = some ⟨true⟩ := by
  refine ⟨x0.a14.length + x0.a15.length + 1, ?_⟩
  unfold f7
  refine bif_elim (fun h => rfl) (fun hb => ?_)
  refine bif_elim (fun h => rfl) (fun hm => ?_)
  have hs := small_of hb
  have hM := may_of (x := x0) (by simpa using hm)
  obtain ⟨_, c0, c1, d0, d4⟩ := cell_val hM
  have hG := good_of hs hM
  have hcell := in_dec c0 c1
  refine bif_true (good_iff.2 hG) ?_
  have L : (stepT x0).a15 = x0.a15 ∧ ((stepT x0).a14 = x0.a14 ∨ (x0.a16 = 3 ∧ ∃ v : Int, (stepT x0).a14 = x0.a14.set (cellT x0).toNat [PV.int .i64 v])) := by
    cases step_case x0 with
    | turned h e r =>
      obtain ⟨k1, k2, _, _, _⟩ := commit_eqs (turnedR x0) x0.a30
      rw [r]
      exact ⟨k2, .inr ⟨h, x0.a31, k1⟩⟩
    | failed h e r => rw [r]; exact ⟨rfl, .inl rfl⟩
    | none h h2 r => rw [r]; exact ⟨rfl, .inl rfl⟩
    | same h e r =>
      obtain ⟨k1, k2, _, _, _⟩ := commit_eqs x0 (cellX x0)
      rw [r]
      exact ⟨k2, .inl k1⟩
    | onward h e r =>
      obtain ⟨k1, k2, _⟩ := onward_eqs x0
      rw [r]
      exact ⟨k2, .inl k1⟩
    | looked h e r => rw [r]; exact ⟨rfl, .inl rfl⟩
  obtain ⟨L1, L2⟩ := L
  have h14 : (((stepT x0).a14.length : Nat) : Int) = (x0.a14.length : Int) := by
    rcases L2 with e | ⟨_, v, e⟩ <;> rw [e]
    simp
  have hw := hs.w
  have hx := hs.n
  refine bif_false (by rw [h14]; simp) (bif_false (by rw [L1]; simp) ?_)
  have hA := loop_all (stp := f7L0r (x0.a14.length + x0.a15.length + 1) x0) (fun i => .s0 (i : Int) (stepT x0).a0 (stepT x0).a1 (stepT x0).a2 (stepT x0).a3 (stepT x0).a4 (stepT x0).a5 (stepT x0).a6 (stepT x0).a7 (stepT x0).a8 (stepT x0).a9 (stepT x0).a10 (stepT x0).a11 (stepT x0).a12 (stepT x0).a13 (stepT x0).a14 (stepT x0).a15 (stepT x0).a16 (stepT x0).a17 (stepT x0).a18 (stepT x0).a19 (stepT x0).a20 (stepT x0).a21 (stepT x0).a22 (stepT x0).a23 (stepT x0).a24 (stepT x0).a25 (stepT x0).a26 (stepT x0).a27 (stepT x0).a28 (stepT x0).a29 (stepT x0).a30 (stepT x0).a31 (stepT x0).a32 (stepT x0).a33 (stepT x0).a34 (stepT x0).a35 (stepT x0).a36) (.e0 (stepT x0).a0 (stepT x0).a1 (stepT x0).a2 (stepT x0).a3 (stepT x0).a4 (stepT x0).a5 (stepT x0).a6 (stepT x0).a7 (stepT x0).a8 (stepT x0).a9 (stepT x0).a10 (stepT x0).a11 (stepT x0).a12 (stepT x0).a13 (stepT x0).a14 (stepT x0).a15 (stepT x0).a16 (stepT x0).a17 (stepT x0).a18 (stepT x0).a19 (stepT x0).a20 (stepT x0).a21 (stepT x0).a22 (stepT x0).a23 (stepT x0).a24 (stepT x0).a25 (stepT x0).a26 (stepT x0).a27 (stepT x0).a28 (stepT x0).a29 (stepT x0).a30 (stepT x0).a31 (stepT x0).a32 (stepT x0).a33 (stepT x0).a34 (stepT x0).a35 (stepT x0).a36) (.e1 (stepT x0).a0 (stepT x0).a1 (stepT x0).a2 (stepT x0).a3 (stepT x0).a4 (stepT x0).a5 (stepT x0).a6 (stepT x0).a7 (stepT x0).a8 (stepT x0).a9 (stepT x0).a10 (stepT x0).a11 (stepT x0).a12 (stepT x0).a13 (stepT x0).a14 (stepT x0).a15 (stepT x0).a16 (stepT x0).a17 (stepT x0).a18 (stepT x0).a19 (stepT x0).a20 (stepT x0).a21 (stepT x0).a22 (stepT x0).a23 (stepT x0).a24 (stepT x0).a25 (stepT x0).a26 (stepT x0).a27 (stepT x0).a28 (stepT x0).a29 (stepT x0).a30 (stepT x0).a31 (stepT x0).a32 (stepT x0).a33 (stepT x0).a34 (stepT x0).a35 (stepT x0).a36) (fun _ => true) x0.a15.length
    (fun i hi _ => by
      have q0 : decide ((0 : Int) ≤ (i : Int)) = true := decide_eq_true (by omega)
      have q1 : decide ((i : Int) < (x0.a15.length : Int)) = true := decide_eq_true (by omega)
      have q2 : (decide ((0 : Int) ≤ (i : Int)) && decide ((i : Int) < (x0.a15.length : Int))) = true := by rw [q0, q1]; rfl
      have q3 : (decide ((0 : Int) ≤ (i : Int)) && decide ((i : Int) < (((stepT x0).a15.length : Nat) : Int))) = true := by rw [L1]; exact q2
      have hb := hs.bx i hi
      have e15 : (stepT x0).a15.getD (i : Int).toNat [] = x0.a15.getD i [] := by rw [L1]; rfl
      refine run_true q1 (run_true q2 (run_true ?_ (run_true ?_ (run_true ?_ (run_true ?_ (run_false ?_ ?_))))))
      all_goals first | exact q3 | exact most_ok (show (pList ((x0.a15.getD i []).headD PV.undef)).length ≤ 1000 by omega) | exact decide_eq_true (huge_ok (show (pList ((x0.a15.getD i []).headD PV.undef)).length ≤ 1000 by omega)) | skip
      · rw [e15]
        exact most_ok (show (pList ((x0.a15.getD i []).headD PV.undef)).length ≤ 1000 by omega)
      · rw [e15]
        show (!alike same3 (pList ((x0.a15.getD i []).headD PV.undef)) (pList ((x0.a15.getD i []).headD PV.undef))) = false
        rw [alike3_refl]
        rfl
      · show some (Sum.inl (f7L0s.s0 (IntKind.i64.wrap ((i : Int) + 1)) (stepT x0).a0 (stepT x0).a1 (stepT x0).a2 (stepT x0).a3 (stepT x0).a4 (stepT x0).a5 (stepT x0).a6 (stepT x0).a7 (stepT x0).a8 (stepT x0).a9 (stepT x0).a10 (stepT x0).a11 (stepT x0).a12 (stepT x0).a13 (stepT x0).a14 (stepT x0).a15 (stepT x0).a16 (stepT x0).a17 (stepT x0).a18 (stepT x0).a19 (stepT x0).a20 (stepT x0).a21 (stepT x0).a22 (stepT x0).a23 (stepT x0).a24 (stepT x0).a25 (stepT x0).a26 (stepT x0).a27 (stepT x0).a28 (stepT x0).a29 (stepT x0).a30 (stepT x0).a31 (stepT x0).a32 (stepT x0).a33 (stepT x0).a34 (stepT x0).a35 (stepT x0).a36)) = _
        rw [wrap_next (i := i) (by omega)])
    (fun i _ h => by cases h)
    (run_false (decide_eq_false (show ¬ ((x0.a15.length : Int) < (x0.a15.length : Int)) by omega)) rfl) x0.a15.length 0 (by omega)
  have ha : (List.range' 0 x0.a15.length).all (fun _ => true) = true := by simp
  rw [ha] at hA
  have hA' : loopN (f7L0r (x0.a14.length + x0.a15.length + 1) x0) (x0.a14.length + x0.a15.length + 1) (.s0 (0 : Int) (stepT x0).a0 (stepT x0).a1 (stepT x0).a2 (stepT x0).a3 (stepT x0).a4 (stepT x0).a5 (stepT x0).a6 (stepT x0).a7 (stepT x0).a8 (stepT x0).a9 (stepT x0).a10 (stepT x0).a11 (stepT x0).a12 (stepT x0).a13 (stepT x0).a14 (stepT x0).a15 (stepT x0).a16 (stepT x0).a17 (stepT x0).a18 (stepT x0).a19 (stepT x0).a20 (stepT x0).a21 (stepT x0).a22 (stepT x0).a23 (stepT x0).a24 (stepT x0).a25 (stepT x0).a26 (stepT x0).a27 (stepT x0).a28 (stepT x0).a29 (stepT x0).a30 (stepT x0).a31 (stepT x0).a32 (stepT x0).a33 (stepT x0).a34 (stepT x0).a35 (stepT x0).a36) = some (.e1 (stepT x0).a0 (stepT x0).a1 (stepT x0).a2 (stepT x0).a3 (stepT x0).a4 (stepT x0).a5 (stepT x0).a6 (stepT x0).a7 (stepT x0).a8 (stepT x0).a9 (stepT x0).a10 (stepT x0).a11 (stepT x0).a12 (stepT x0).a13 (stepT x0).a14 (stepT x0).a15 (stepT x0).a16 (stepT x0).a17 (stepT x0).a18 (stepT x0).a19 (stepT x0).a20 (stepT x0).a21 (stepT x0).a22 (stepT x0).a23 (stepT x0).a24 (stepT x0).a25 (stepT x0).a26 (stepT x0).a27 (stepT x0).a28 (stepT x0).a29 (stepT x0).a30 (stepT x0).a31 (stepT x0).a32 (stepT x0).a33 (stepT x0).a34 (stepT x0).a35 (stepT x0).a36) := by
    have := loopN_more _ _ _ hA x0.a14.length
    rwa [show x0.a15.length + 1 + x0.a14.length = x0.a14.length + x0.a15.length + 1 by omega] at this
  rw [hA']
  refine bif_true (decide_eq_true d4) ?_
  have hB := loop_all (stp := f7L339r (x0.a14.length + x0.a15.length + 1) x0 (stepT x0).a0 (stepT x0).a1 (stepT x0).a2 (stepT x0).a3 (stepT x0).a4 (stepT x0).a5 (stepT x0).a6 (stepT x0).a7 (stepT x0).a8 (stepT x0).a9 (stepT x0).a10 (stepT x0).a11 (stepT x0).a12 (stepT x0).a13 (stepT x0).a14 (stepT x0).a15 (stepT x0).a16 (stepT x0).a17 (stepT x0).a18 (stepT x0).a19 (stepT x0).a20 (stepT x0).a21 (stepT x0).a22 (stepT x0).a23 (stepT x0).a24 (stepT x0).a25 (stepT x0).a26 (stepT x0).a27 (stepT x0).a28 (stepT x0).a29 (stepT x0).a30 (stepT x0).a31 (stepT x0).a32 (stepT x0).a33 (stepT x0).a34 (stepT x0).a35 (stepT x0).a36) (fun i => .s0 (i : Int)) .e0 .e1 (fun _ => true) x0.a14.length
    (fun i hi _ => by
      have q0 : decide ((0 : Int) ≤ (i : Int)) = true := decide_eq_true (by omega)
      have q1 : decide ((i : Int) < (x0.a14.length : Int)) = true := decide_eq_true (by omega)
      have q2 : (decide ((0 : Int) ≤ (i : Int)) && decide ((i : Int) < (x0.a14.length : Int))) = true := by rw [q0, q1]; rfl
      have q3 : (decide ((0 : Int) ≤ (i : Int)) && decide ((i : Int) < (((stepT x0).a14.length : Nat) : Int))) = true := by rw [h14]; exact q2
      have nx : some (Sum.inl (f7L339s.s0 (IntKind.i64.wrap ((i : Int) + 1)))) = (some (Sum.inl (f7L339s.s0 ((i + 1 : Nat) : Int))) : Option (f7L339s ⊕ f7L339e)) := by rw [wrap_next (i := i) (by omega)]
      refine run_true q1 (run_true q3 (run_true q2 ?_))
      refine run_test (fun hne => ?_) (fun _ => nx)
      rcases L2 with e | ⟨h3, v, e⟩
      · exfalso
        rw [e] at hne
        simp at hne
      · have hic : (i : Int) = cellT x0 := by
          by_cases hc : (i : Int) = cellT x0
          · exact hc
          · exfalso
            rw [e] at hne
            have hne2 : ((x0.a14.set (cellT x0).toNat [PV.int .i64 v]).getD i []) = x0.a14.getD i [] := by
              have : (cellT x0).toNat ≠ i := by omega
              rw [List.getD_eq_getElem?_getD, List.getD_eq_getElem?_getD, List.getElem?_set_ne this]
            have hne3 : (pInt (((x0.a14.set (cellT x0).toNat [PV.int .i64 v]).getD i []).headD PV.undef) != pInt ((x0.a14.getD i []).headD PV.undef)) = true := hne
            rw [hne2] at hne3
            simp at hne3
        refine run_false (show ((i : Int) != cellT x0) = false by rw [hic]; simp) (run_false (show (x0.a16 != 3) = false by rw [h3]; rfl) nx))
    (fun i _ h => by cases h)
    (run_false (decide_eq_false (show ¬ ((x0.a14.length : Int) < (x0.a14.length : Int)) by omega)) rfl) x0.a14.length 0 (by omega)
  have hb : (List.range' 0 x0.a14.length).all (fun _ => true) = true := by simp
  rw [hb] at hB
  have hB' : loopN (f7L339r (x0.a14.length + x0.a15.length + 1) x0 (stepT x0).a0 (stepT x0).a1 (stepT x0).a2 (stepT x0).a3 (stepT x0).a4 (stepT x0).a5 (stepT x0).a6 (stepT x0).a7 (stepT x0).a8 (stepT x0).a9 (stepT x0).a10 (stepT x0).a11 (stepT x0).a12 (stepT x0).a13 (stepT x0).a14 (stepT x0).a15 (stepT x0).a16 (stepT x0).a17 (stepT x0).a18 (stepT x0).a19 (stepT x0).a20 (stepT x0).a21 (stepT x0).a22 (stepT x0).a23 (stepT x0).a24 (stepT x0).a25 (stepT x0).a26 (stepT x0).a27 (stepT x0).a28 (stepT x0).a29 (stepT x0).a30 (stepT x0).a31 (stepT x0).a32 (stepT x0).a33 (stepT x0).a34 (stepT x0).a35 (stepT x0).a36) (x0.a14.length + x0.a15.length + 1) (.s0 (0 : Int)) = some .e1 := by
    have := loopN_more _ _ _ hB x0.a15.length
    rwa [show x0.a14.length + 1 + x0.a15.length = x0.a14.length + x0.a15.length + 1 by omega] at this
  rw [hB']
  rfl
end Go.Proofs.YtfkndbihfdjinaaS
