/- More loops of the chapter, in plain words. Conditions: none. -/
import Derived.Test.YtfkndbihfdjinaaF2
import Derived.Test.YtfkndbihfdjinaaSimPure
set_option linter.unusedVariables false
set_option linter.unusedSimpArgs false
set_option maxRecDepth 10000
namespace Go.Proofs.YtfkndbihfdjinaaS
open Go Go.Proofs
/-- A loop that folds. -/
theorem loop_fold {σ τ α : Type} {stp : σ → Option (σ ⊕ τ)} (s : Nat → α → σ) (e : α → τ) (g : Nat → α → α) (n : Nat)
    (hgo : ∀ i a, i < n → stp (s i a) = some (.inl (s (i + 1) (g i a)))) (hend : ∀ a, stp (s n a) = some (.inr (e a))) :
    ∀ (k i : Nat) (a : α), i + k = n → loopN stp (k + 1) (s i a) = some (e ((List.range' i k).foldl (fun a i => g i a) a))
  | 0, i, a, h => by
    have : i = n := by omega
    subst this
    rw [loopN_end (hend a)]
    rfl
  | k + 1, i, a, h => by
    rw [loopN_next (hgo i a (by omega)), loop_fold s e g n hgo hend k (i + 1) (g i a) (by omega), List.range'_succ, List.foldl_cons]
theorem range_fold {α : Type} (xs : List (List PV)) (G : α → List PV → α) (a : α) : (List.range' 0 xs.length).foldl (fun a i => G a (xs.getD i [])) a = xs.foldl G a := by
  have h : (List.range' 0 xs.length).map (fun i => xs.getD i []) = xs := by
    apply List.ext_getElem
    · simp
    · intro i h1 h2
      rw [List.getElem_map, List.getElem_range']
      simp [List.getD_eq_getElem?_getD, h2]
  conv => rhs; rw [← h]
  rw [List.foldl_map]
noncomputable def oneR (e : List PV) (x lo hi : Int) : Int := ((f15 0 ⟨pInt (e.tail.headD PV.undef), pInt (e.tail.tail.headD PV.undef)⟩ x lo hi).getD f15d).y1
noncomputable def allR (xs : List (List PV)) (x lo hi : Int) : Int := xs.foldl (fun x e => oneR e x lo hi) x
theorem val12 {xs : List (List PV)} {x lo hi : Int} (hl : xs.length ≤ huge) : ∃ N, f12 N xs x lo hi = some ⟨allR xs x lo hi⟩ := by
  refine ⟨xs.length + 1, ?_⟩
  have hl' : xs.length ≤ 4611686018427387904 := hl
  have h := loop_fold (stp := f12L0r (xs.length + 1) xs x lo hi) (fun i a => .s0 a (i : Int)) (fun a => .e0 a) (fun i a => oneR (xs.getD i []) a lo hi) xs.length
    (fun i a hi' => by
      have h1 : decide ((i : Int) < (xs.length : Int)) = true := decide_eq_true (by omega)
      have h2 : decide ((0 : Int) ≤ (i : Int)) = true := decide_eq_true (by omega)
      refine run_true h1 (run_true (by rw [h1, h2]; rfl) (run_true (Tr.whole_some (by kernel_rfl)) ?_))
      show some (Sum.inl (f12L0s.s0 _ (IntKind.i64.wrap ((i : Int) + 1)))) = _
      rw [wrap_next (i := i) (by omega)]
      rfl)
    (fun a => run_false (decide_eq_false (show ¬ ((xs.length : Int) < (xs.length : Int)) by omega)) rfl) xs.length 0 x (by omega)
  have h' : loopN (f12L0r (xs.length + 1) xs x lo hi) (xs.length + 1) (.s0 x (0 : Int)) = some (.e0 ((List.range' 0 xs.length).foldl (fun a i => oneR (xs.getD i []) a lo hi) x)) := h
  unfold f12
  rw [h', range_fold xs (fun a e => oneR e a lo hi)]
  rfl
def f12ss : List PK := [(false, [K.list 63]), (false, [K.int .i64]), (false, [K.int .i64]), (false, [K.int .i64])]
noncomputable def f12O : Ora := ⟨fun ps => okPs f12ss ps && decide ((pList (ps.headD PV.undef)).length ≤ huge), fun ps => .pv (.int .i64 (allR (pList (ps.headD PV.undef)) (pInt (ps.tail.headD PV.undef)) (pInt (ps.tail.tail.headD PV.undef)) (pInt (ps.tail.tail.tail.headD PV.undef))))⟩
theorem f12_spec : Spec Try.prog 12 f12O := spec_at 100 f12ss (fun ps => decide ((pList (ps.headD PV.undef)).length ≤ huge)) _ mixed fun ps hm hs hp => by
  have hc : canPs f12ss ps = [PV.list 63 (pList (ps.headD PV.undef)), PV.int .i64 (pInt (ps.tail.headD PV.undef)), PV.int .i64 (pInt (ps.tail.tail.headD PV.undef)), PV.int .i64 (pInt (ps.tail.tail.tail.headD PV.undef))] := by kernel_rfl
  obtain ⟨N, h1⟩ := val12 (xs := pList (ps.headD PV.undef)) (x := pInt (ps.tail.headD PV.undef)) (lo := pInt (ps.tail.tail.headD PV.undef)) (hi := pInt (ps.tail.tail.tail.headD PV.undef)) (of_decide_eq_true hp)
  refine ⟨E2 N, _, rfl, E2_ok N, ?_, .inl rfl⟩
  rw [hc, f12_run, h1]
  rfl
/-- A turn that settles. -/
def settleR (x : S38) : S38 := bif (decide (0 ≤ x.a25) && decide (x.a25 < (x.a21.length : Int))) then { x with a16 := 15 } else { x with a16 := 0, a36 := true }
theorem f33_val (x : S38) : f33 0 x = some (settleR x) := by
  unfold f33 f33t0 settleR
  refine run_test (fun h => ?_) (fun h => ?_)
  · have h := of_decide_eq_true h
    rw [decide_eq_false (show ¬ 0 ≤ x.a25 by omega)]
    rfl
  have h := of_decide_eq_false h
  refine run_test (fun k => ?_) (fun k => ?_)
  · have k := of_decide_eq_true k
    rw [decide_eq_false (show ¬ x.a25 < (x.a21.length : Int) by omega), Bool.and_false]
    rfl
  have k := of_decide_eq_false k
  have q : (decide (0 ≤ x.a25) && decide (x.a25 < (x.a21.length : Int))) = true := by
    rw [decide_eq_true (show 0 ≤ x.a25 by omega), decide_eq_true (show x.a25 < (x.a21.length : Int) by omega)]
    rfl
  refine run_true q ?_
  rw [q]
  rfl
/-- The marks of a batch that is committed. -/
noncomputable def mkAt (x0 : S38) (x1 : Int) (i : Nat) : List PV := [PV.int IntKind.i64 (pInt ((x0.a20.getD i []).headD PV.undef)), PV.int IntKind.i64 x0.a17, PV.int IntKind.i64 (pInt ((x0.a20.getD i []).tail.headD PV.undef)), PV.int IntKind.i64 (pInt ((x0.a20.getD i []).tail.tail.headD PV.undef)), PV.int IntKind.i64 (pInt (((priorsOf x0.a20 x1 x0.a9 x0.a10).getD i []).headD PV.undef)), PV.int IntKind.i64 (0 : Int)]
noncomputable def logOf (x0 : S38) (x1 : Int) : List (List PV) := x0.a35 ++ (List.range' 0 x0.a20.length).map (mkAt x0 x1)
noncomputable def commitR (x0 : S38) (x1 : Int) : S38 := settleR { x0 with a25 := 0, a30 := x1, a35 := logOf x0 x1 }
theorem priors_len (xs : List (List PV)) (x lo hi : Int) : (priorsOf xs x lo hi).length = xs.length := by
  unfold priorsOf
  rw [List.length_map, walkE_len]
theorem val22 {x0 : S38} {x1 : Int} (h1 : x0.a35.length ≤ 1000) (h2 : x0.a20.length ≤ 1000) : ∃ N, f22 N x0 x1 = some (commitR x0 x1) := by
  refine ⟨x0.a20.length + 1, ?_⟩
  have hp := priors_len x0.a20 x1 x0.a9 x0.a10
  unfold f22
  rw [most_ok h1, decide_eq_true (show x0.a20.length < 1000000 by omega), cond_true, cond_true]
  have go : ∀ i (acc : List (List PV)), i < x0.a20.length → acc.length + 1 ≤ most → f22L0r (x0.a20.length + 1) x0 x1 (.s1 (i : Int) acc) = some (.inl (.s1 ((i + 1 : Nat) : Int) (acc ++ [mkAt x0 x1 i]))) := fun i acc hi ha => by
    have q1 : decide ((i : Int) < ((priorsOf x0.a20 x1 x0.a9 x0.a10).length : Int)) = true := decide_eq_true (by omega)
    have q2 : decide ((i : Int) < (x0.a20.length : Int)) = true := decide_eq_true (by omega)
    have q0 : decide ((0 : Int) ≤ (i : Int)) = true := decide_eq_true (by omega)
    refine run_true q1 (run_true (by rw [q0, q1]; rfl) (run_true (by rw [q0, q2]; rfl) (run_true (decide_eq_true ha) ?_)))
    show some (Sum.inl (f22L0s.s1 (IntKind.i64.wrap ((i : Int) + 1)) _)) = _
    rw [wrap_next (i := i) (by omega)]
    rfl
  have fin : ∀ (acc : List (List PV)), f22L0r (x0.a20.length + 1) x0 x1 (.s1 ((x0.a20.length : Nat) : Int) acc) = some (.inr (.e1 acc)) := fun acc => run_false (decide_eq_false (by omega)) rfl
  match hn : x0.a20.length with
  | 0 =>
    have e0 : f22L0r 1 x0 x1 .s0 = some (.inr .e0) := run_false (decide_eq_false (by omega)) rfl
    rw [loopN_end e0]
    show Tr.run (f22t12 x0 x1) = _
    unfold f22t12
    rw [f33_val]
    refine run_true rfl ?_
    unfold commitR logOf
    rw [hn]
    show _ = some (settleR { x0 with a25 := 0, a30 := x1, a35 := x0.a35 ++ [] })
    rw [List.append_nil]
    rfl
  | n + 1 =>
    rw [hn] at go fin
    have e0 : f22L0r (n + 1 + 1) x0 x1 .s0 = some (.inl (.s1 ((1 : Nat) : Int) (x0.a35 ++ [mkAt x0 x1 0]))) := by
      have q1 : decide ((0 : Int) < ((priorsOf x0.a20 x1 x0.a9 x0.a10).length : Int)) = true := decide_eq_true (by omega)
      have q2 : decide ((0 : Int) < (x0.a20.length : Int)) = true := decide_eq_true (by omega)
      refine run_true q1 (run_true (by rw [q1]; rfl) (run_true (by rw [q2]; rfl) (run_true (decide_eq_true (show x0.a35.length + 1 ≤ 1000000 by omega)) rfl)))
    rw [loopN_next e0, loop_copy (stp := f22L0r (n + 1 + 1) x0 x1) (fun i acc => .s1 (i : Int) acc) (fun acc => .e1 acc) (mkAt x0 x1) (n + 1) go fin n 1 _ (by omega) (by rw [List.length_append]; show x0.a35.length + 1 + n ≤ 1000000; omega)]
    show Tr.run (f22t14 x0 x1 _) = _
    unfold f22t14
    rw [f33_val]
    refine run_true rfl ?_
    unfold commitR logOf
    rw [hn, List.append_assoc]
    rfl
noncomputable def pre22 (x : S38) : Bool := decide (x.a35.length ≤ 1000) && decide (x.a20.length ≤ 1000)
noncomputable def f22O : Ora := ⟨fun ps => okPs [S38k, (false, [K.int .i64])] ps && pre22 (S38r (ps.headD PV.undef)), fun ps => .pv (S38v (commitR (S38r (ps.headD PV.undef)) (pInt (ps.tail.headD PV.undef))))⟩
theorem f22_spec : Spec Try.prog 22 f22O := spec_fit 100 f22rs [S38k, (false, [K.int .i64])] (fun ps => pre22 (S38r (ps.headD PV.undef))) _ mixed fun ps hm hs hp => by
  unfold pre22 at hp
  simp only [Bool.and_eq_true] at hp
  have hc : canPs [S38k, (false, [K.int .i64])] ps = [S38v (S38r (ps.headD PV.undef)), PV.int .i64 (pInt (ps.tail.headD PV.undef))] := by kernel_rfl
  obtain ⟨N, h1⟩ := val22 (x0 := S38r (ps.headD PV.undef)) (x1 := pInt (ps.tail.headD PV.undef)) (of_decide_eq_true hp.1) (of_decide_eq_true hp.2)
  refine ⟨E2 N, _, rfl, E2_ok N, ?_, .inl rfl⟩
  rw [hc, f22_run, h1]
  rfl
end Go.Proofs.YtfkndbihfdjinaaS
