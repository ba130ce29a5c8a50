/- The pure statement that is left of CommitLogs. Conditions: the numbers' own ranges. -/
import Derived.Test.YtfkndbihfdjinaaFacts12d
import Derived.Test.YtfkndbihfdjinaaF5x4
import Derived.Test.YtfkndbihfdjinaaSimPure
set_option linter.unusedVariables false
set_option linter.unusedSimpArgs false
set_option maxRecDepth 10000
namespace Go.Proofs.YtfkndbihfdjinaaS
open Go Go.Proofs
theorem pureCommitLogs (x0 : S38) (h0 : Wf (S38v x0)) (hmean : Meant Try.prog [S38v x0]) : ∃ N, f4 N x0 = some ⟨true⟩ := by
  refine ⟨x0.a20.length + 1, ?_⟩
  unfold f4
  refine bif_elim (fun h => rfl) (fun hb => ?_)
  refine bif_elim (fun h => rfl) (fun hm => ?_)
  have hs := small_of hb
  have hM := may_of (x := x0) (by simpa using hm)
  obtain ⟨_, c0, c1, d0, d4⟩ := cell_val hM
  have hG := good_of hs hM
  have hcell := in_dec c0 c1
  have hN := nums_of h0 hmean
  have hX := hN.ws _ c0 c1
  have hb20 := hs.b
  have g1 : Good ({ x0 with a35 := [] } : S38) := ⟨hG.d0, hG.d4, hG.c0, hG.c1, hG.lw, hG.lb, by show 0 ≤ 1000; omega⟩
  refine bif_true (good_iff.2 g1) ?_
  refine bif_elim (fun h => rfl) (fun hne => ?_)
  have hne : (stepT { x0 with a35 := [] }).a35 ≠ [] := by
    intro e
    rw [e] at hne
    exact absurd hne (by decide)
  have L : (stepT { x0 with a35 := [] }).a35 = (List.range' 0 x0.a20.length).map (mkAt x0 (cellX x0)) ∧ (((stepT { x0 with a35 := [] }).a14.length : Nat) : Int) = (x0.a14.length : Int) := by
    cases step_case { x0 with a35 := [] } with
    | turned h e r =>
      obtain ⟨k1, _, k3, _, _⟩ := commit_eqs (turnedR { x0 with a35 := [] }) x0.a30
      have e : cellX x0 = x0.a30 := e
      rw [r]
      refine ⟨?_, ?_⟩
      · refine k3.trans ?_
        rw [log_fresh (turnedR { x0 with a35 := [] }) x0.a30 rfl, e]
        rfl
      · refine (congrArg (fun l : List (List PV) => ((l.length : Nat) : Int)) k1).trans ?_
        show (((x0.a14.set (cellT x0).toNat [PV.int .i64 x0.a31]).length : Nat) : Int) = _
        simp
    | failed h e r => exact absurd (by rw [r]) hne
    | none h h2 r => exact absurd (by rw [r]) hne
    | same h e r =>
      obtain ⟨k1, _, k3, _, _⟩ := commit_eqs { x0 with a35 := [] } (cellX x0)
      have r : stepT { x0 with a35 := [] } = commitR { x0 with a35 := [] } (cellX x0) := r
      rw [r]
      refine ⟨?_, ?_⟩
      · refine k3.trans ?_
        rw [log_fresh { x0 with a35 := [] } (cellX x0) rfl]
        rfl
      · exact congrArg (fun l : List (List PV) => ((l.length : Nat) : Int)) k1
    | onward h e r =>
      obtain ⟨_, _, k⟩ := onward_eqs { x0 with a35 := [] }
      exact absurd (by rw [r, k]) hne
    | looked h e r => exact absurd (by rw [r]) hne
  obtain ⟨L1, L2⟩ := L
  have hlen : (((stepT { x0 with a35 := [] }).a35.length : Nat) : Int) = (x0.a20.length : Int) := by
    rw [L1]
    simp
  refine bif_true (decide_eq_true d4) (bif_true hcell (bif_false ?_ (bif_false ?_ ?_)))
  · rw [hlen]
    simp
  · rw [L2]
    simp
  have hA := loop_all (stp := f4L0r (x0.a20.length + 1) x0) (fun i => .s0 (allOf (x0.a20.take i) (cellX x0) x0.a9 x0.a10) (i : Int)) .e0 .e1 (fun _ => true) x0.a20.length
    (fun i hi _ => by
      have q0 : decide ((0 : Int) ≤ (i : Int)) = true := decide_eq_true (by omega)
      have q1 : decide ((i : Int) < (x0.a20.length : Int)) = true := decide_eq_true (by omega)
      have q2 : (decide ((0 : Int) ≤ (i : Int)) && decide ((i : Int) < (x0.a20.length : Int))) = true := by rw [q0, q1]; rfl
      have q3 : decide ((i : Int) < (((stepT { x0 with a35 := [] }).a35.length : Nat) : Int)) = true := by rw [hlen]; exact q1
      have q4 : (decide ((0 : Int) ≤ (i : Int)) && decide ((i : Int) < (((stepT { x0 with a35 := [] }).a35.length : Nat) : Int))) = true := by rw [hlen]; exact q2
      have at_ : (stepT { x0 with a35 := [] }).a35.getD (i : Int).toNat [] = mkAt x0 (cellX x0) i := by
        rw [L1]
        exact mk_at x0 _ _ i hi
      have hpr : (priorsOf x0.a20 (cellX x0) x0.a9 x0.a10).getD i [] = [PV.int .i64 (allOf (x0.a20.take i) (cellX x0) x0.a9 x0.a10)] := prior_at _ _ _ _ _ hi
      have hmk : mkAt x0 (cellX x0) i = [PV.int IntKind.i64 (pInt ((x0.a20.getD i []).headD PV.undef)), PV.int IntKind.i64 x0.a17, PV.int IntKind.i64 (pInt ((x0.a20.getD i []).tail.headD PV.undef)), PV.int IntKind.i64 (pInt ((x0.a20.getD i []).tail.tail.headD PV.undef)), PV.int IntKind.i64 (allOf (x0.a20.take i) (cellX x0) x0.a9 x0.a10), PV.int IntKind.i64 (0 : Int)] := by
        unfold mkAt
        rw [hpr]
        rfl
      rw [hmk] at at_
      have hin : In64 (allOf (x0.a20.take i) (cellX x0) x0.a9 x0.a10) := allOf_in _ _ hN.lo _ _ (fun e he => hN.es e (List.mem_of_mem_take he)) hX
      have hel : x0.a20.getD i [] ∈ x0.a20 := by
        rw [List.getD_eq_getElem?_getD, List.getElem?_eq_getElem hi]
        exact List.getElem_mem hi
      have hone := one_same x0.a10 (hN.es _ hel) hin hN.lo
      have hnext : allOf (x0.a20.take (i + 1)) (cellX x0) x0.a9 x0.a10 = oneR (x0.a20.getD i []) (allOf (x0.a20.take i) (cellX x0) x0.a9 x0.a10) x0.a9 x0.a10 := by
        rw [hone]
        have : x0.a20.take (i + 1) = x0.a20.take i ++ [x0.a20.getD i []] := by
          rw [List.take_add_one, List.getD_eq_getElem?_getD, List.getElem?_eq_getElem hi]
          rfl
        rw [this, allOf_append, allOf_cons, allOf_nil]
      have f15s : ∀ a b c d, (f15 0 a b c d).isSome = true := fun a b c d => Tr.whole_some (by kernel_rfl)
      show (f4L0it9 x0 _ _).run = _
      unfold f4L0it9
      rw [at_]
      refine run_true q3 (run_true q4 (run_true q2 (run_false (ne_refl _) (run_true q2 (run_false ?_ (run_false (ne_refl _) (run_false (by rfl) (run_false (ne_refl _) (run_true (f15s _ _ _ _) ?_)))))))))
      · show (!((pInt ((x0.a20.getD i []).tail.headD PV.undef) == pInt ((x0.a20.getD i []).tail.headD PV.undef)) && ((pInt ((x0.a20.getD i []).tail.tail.headD PV.undef) == pInt ((x0.a20.getD i []).tail.tail.headD PV.undef)) && true))) = false
        simp
      · show some (Sum.inl (f4L0s.s0 (oneR (x0.a20.getD i []) (allOf (x0.a20.take i) (cellX x0) x0.a9 x0.a10) x0.a9 x0.a10) (IntKind.i64.wrap ((i : Int) + 1)))) = _
        rw [wrap_next (i := i) (by omega), hnext])
    (fun i _ h => by cases h)
    (run_false (by rw [hlen]; exact decide_eq_false (by omega)) rfl) x0.a20.length 0 (by omega)
  have ha : (List.range' 0 x0.a20.length).all (fun _ => true) = true := by simp
  rw [ha] at hA
  have hA' : loopN (f4L0r (x0.a20.length + 1) x0) (x0.a20.length + 1) (.s0 (cellX x0) (0 : Int)) = some .e1 := by
    have e0 : allOf (x0.a20.take 0) (cellX x0) x0.a9 x0.a10 = cellX x0 := allOf_nil _ _ _
    have hA2 : loopN (f4L0r (x0.a20.length + 1) x0) (x0.a20.length + 1) (.s0 (allOf (x0.a20.take 0) (cellX x0) x0.a9 x0.a10) (0 : Int)) = some .e1 := hA
    rw [e0] at hA2
    exact hA2
  show (loopN (f4L0r (x0.a20.length + 1) x0) (x0.a20.length + 1) (.s0 (cellX x0) (0 : Int))).bind _ = _
  rw [hA']
  rfl
end Go.Proofs.YtfkndbihfdjinaaS
