/- More loops of the chapter, in plain words. Conditions: none. -/
import Derived.Test.YtihdfkdinfmhlaaF2
import Derived.Test.YtihdfkdinfmhlaaSimPure
set_option linter.unusedVariables false
set_option linter.unusedSimpArgs false
set_option maxRecDepth 10000
namespace Go.Proofs.YtihdfkdinfmhlaaS
open Go Go.Proofs
def box81 (e : List PV) : List PV := [PV.list 81 (pList (e.headD PV.undef))]
def memo (x : S25) : S30 := ⟨x.a0, x.a1.map box81⟩
noncomputable def memOk (x : S25) : Bool := (List.range' 0 x.a1.length).all fun i => decide ((pList ((x.a1.getD i []).headD PV.undef)).length ≤ most)
theorem val11 {x : S25} (hb : memOk x = true) (hl : x.a1.length ≤ most) : ∃ N, f11 N x = some (memo x) := by
  refine ⟨x.a1.length + 1, ?_⟩
  have hm : x.a1.length ≤ 1000000 := hl
  have hp : ∀ i, i < x.a1.length → decide ((pList ((x.a1.getD i []).headD PV.undef)).length ≤ most) = true := fun i hi => (all_range'.1 hb) i (by omega) (by omega)
  unfold f11
  have h := grow (stp := f11L0r (x.a1.length + 1) x) .s0 .s1 .s2 .e0 .e1 .e2 (fun i => [PV.list 81 (pList ((x.a1.getD i []).headD PV.undef))]) x.a1.length
    (fun
    | .e0  => Tr.run (.ret (.mk (x.a0) ([])))
    | .e1  => Tr.run (.ret (.mk (x.a0) ([[PV.list (81 : Nat) (pList ((x.a1.getD (Int.toNat (0 : Int)) []).headD PV.undef))]])))
    | .e2 w10 => Tr.run (.ret (.mk (x.a0) (w10))))
    (fun l => (⟨x.a0, l⟩ : S30))
    rfl rfl (fun w => rfl) hl
    (fun e => run_false (decide_eq_false (show ¬ ((0 : Int) < (x.a1.length : Int)) by omega)) rfl)
    (fun e => by
      have hq : decide ((pList ((x.a1.getD (Int.toNat 0) []).headD PV.undef)).length ≤ most) = true := hp 0 (by omega)
      have h1 : decide ((0 : Int) < (x.a1.length : Int)) = true := decide_eq_true (by omega)
      exact run_true h1 (run_true (by rw [h1]; rfl) (run_true hq rfl)))
    (fun e => run_false (decide_eq_false (show ¬ ((1 : Int) < (x.a1.length : Int)) by omega)) rfl)
    (fun e => by
      have hq : decide ((pList ((x.a1.getD (Int.toNat 1) []).headD PV.undef)).length ≤ most) = true := hp 1 (by omega)
      have h1 : decide ((1 : Int) < (x.a1.length : Int)) = true := decide_eq_true (by omega)
      exact run_true h1 (run_true (by rw [h1]; rfl) (run_true hq rfl)))
    (fun i acc hi ha => by
      have h1 : decide ((i : Int) < (x.a1.length : Int)) = true := decide_eq_true (by omega)
      have h2 : decide ((0 : Int) ≤ (i : Int)) = true := decide_eq_true (by omega)
      have h3 : decide (acc.length + 1 ≤ most) = true := decide_eq_true ha
      refine run_true h1 (run_true (by rw [h1, h2]; rfl) (run_true (hp i hi) (run_true h3 ?_)))
      show some (Sum.inl (f11L0s.s2 (IntKind.i64.wrap ((i : Int) + 1)) _)) = _
      rw [wrap_next (i := i) (by omega)]
      rfl)
    (fun acc => run_false (decide_eq_false (show ¬ ((x.a1.length : Int) < (x.a1.length : Int)) by omega)) rfl)
  refine h.trans ?_
  rw [range_map_map (xs := x.a1) (el := fun i => [PV.list 81 (pList ((x.a1.getD i []).headD PV.undef))]) (g := box81) rfl (fun i hi => rfl)]
  rfl
noncomputable def f11O : Ora := ⟨fun ps => okPs [S25k] ps && (memOk (S25r (ps.headD .undef)) && decide ((S25r (ps.headD .undef)).a1.length ≤ most)), fun ps => .pv (S30v (memo (S25r (ps.headD .undef))))⟩
theorem f11_spec : Spec Try.prog 11 f11O := spec_fit 100 f11rs [S25k] (fun ps => memOk (S25r (ps.headD .undef)) && decide ((S25r (ps.headD .undef)).a1.length ≤ most)) _ mixed fun ps hm hs hp => by
  simp only [Bool.and_eq_true] at hp
  have hc : canPs [S25k] ps = [S25v (S25r (ps.headD PV.undef))] := by kernel_rfl
  obtain ⟨N, h1⟩ := val11 hp.1 (of_decide_eq_true hp.2)
  refine ⟨E2 N, _, rfl, E2_ok N, ?_, .inl rfl⟩
  rw [hc, f11_run, h1]
  rfl
/-- The same words, and the same in all boxes? -/
def boxAt (x : S30) (i : Nat) : List (List PV) := pList ((x.a1.getD i []).headD PV.undef)
def sameB (x y : S30) (i : Nat) : Bool := alike same3 (boxAt x i) (boxAt y i)
def same20 (x y : S30) : Bool := alike same1 x.a0 y.a0 && ((x.a1.length == y.a1.length) && (List.range' 0 x.a1.length).all (sameB x y))
def boxesOk (x : S30) : Bool := (List.range' 0 x.a1.length).all fun i => decide ((boxAt x i).length ≤ huge)
theorem val20 {x0 x1 : S30} (h0 : x0.a0.length ≤ huge) (hb : boxesOk x0 = true) (hl : x0.a1.length ≤ huge) : ∃ N, f20 N x0 x1 = some (.r0 (same20 x0 x1)) := by
  refine ⟨x0.a1.length + 1, ?_⟩
  unfold f20 same20
  rw [decide_eq_true h0, cond_true]
  cases alike same1 x0.a0 x1.a0 with
  | false => rfl
  | true =>
  simp only [Bool.not_true, cond_false, Bool.true_and]
  by_cases e : x0.a1.length = x1.a1.length
  · have e1 : ((x0.a1.length : Int) != (x1.a1.length : Int)) = false := by simp [e]
    have e2 : (x0.a1.length == x1.a1.length) = true := by simp [e]
    have hl' : x0.a1.length ≤ 4611686018427387904 := hl
    have hp : ∀ i, i < x0.a1.length → decide ((boxAt x0 i).length ≤ huge) = true := fun i hi => (all_range'.1 hb) i (by omega) (by omega)
    rw [e1, cond_false, e2, Bool.true_and]
    have h := loop_all (stp := f20L0r (x0.a1.length + 1) x0 x1) (fun i => .s0 (i : Int)) .e0 .e1 (sameB x0 x1) x0.a1.length
      (fun i hi hq => by
        have h1 : decide ((i : Int) < (x0.a1.length : Int)) = true := decide_eq_true (by omega)
        have h2 : decide ((0 : Int) ≤ (i : Int)) = true := decide_eq_true (by omega)
        have h3 : decide ((i : Int) < (x1.a1.length : Int)) = true := decide_eq_true (by omega)
        have hq' : alike same3 (pList ((x0.a1.getD (Int.toNat i) []).headD PV.undef)) (pList ((x1.a1.getD (Int.toNat i) []).headD PV.undef)) = true := hq
        refine run_true h1 (run_true (by rw [h1, h2]; rfl) (run_true (by rw [h3, h2]; rfl) (run_true (hp i hi) (run_false (by rw [hq']; rfl) ?_))))
        show some (Sum.inl (f20L0s.s0 (IntKind.i64.wrap ((i : Int) + 1)))) = _
        rw [wrap_next (i := i) (by omega)])
      (fun i hi hq => by
        have h1 : decide ((i : Int) < (x0.a1.length : Int)) = true := decide_eq_true (by omega)
        have h2 : decide ((0 : Int) ≤ (i : Int)) = true := decide_eq_true (by omega)
        have h3 : decide ((i : Int) < (x1.a1.length : Int)) = true := decide_eq_true (by omega)
        have hq' : alike same3 (pList ((x0.a1.getD (Int.toNat i) []).headD PV.undef)) (pList ((x1.a1.getD (Int.toNat i) []).headD PV.undef)) = false := hq
        exact run_true h1 (run_true (by rw [h1, h2]; rfl) (run_true (by rw [h3, h2]; rfl) (run_true (hp i hi) (run_true (by rw [hq']; rfl) rfl)))))
      (run_false (decide_eq_false (show ¬ ((x0.a1.length : Int) < (x0.a1.length : Int)) by omega)) rfl) x0.a1.length 0 (by omega)
    have h' : loopN (f20L0r (x0.a1.length + 1) x0 x1) (x0.a1.length + 1) (.s0 (0 : Int)) = some (bif (List.range' 0 x0.a1.length).all (sameB x0 x1) then .e1 else .e0) := h
    rw [h']
    cases (List.range' 0 x0.a1.length).all (sameB x0 x1) <;> rfl
  · have e1 : ((x0.a1.length : Int) != (x1.a1.length : Int)) = true := by
      simp only [bne_iff_ne]
      omega
    have e2 : (x0.a1.length == x1.a1.length) = false := by simp [e]
    rw [e1, cond_true, e2, Bool.false_and]
    rfl
noncomputable def pre20 (x : S30) : Bool := decide (x.a0.length ≤ huge) && (boxesOk x && decide (x.a1.length ≤ huge))
noncomputable def f20O : Ora := ⟨fun ps => okPs [S30k, S30k] ps && pre20 (S30r (ps.headD .undef)), fun ps => .pv (.bool (same20 (S30r (ps.headD .undef)) (S30r (ps.tail.headD .undef))))⟩
theorem f20_spec : Spec Try.prog 20 f20O := spec_at 100 [S30k, S30k] (fun ps => pre20 (S30r (ps.headD .undef))) _ mixed fun ps hm hs hp => by
  unfold pre20 at hp
  simp only [Bool.and_eq_true, decide_eq_true_eq] at hp
  have hc : canPs [S30k, S30k] ps = [S30v (S30r (ps.headD PV.undef)), S30v (S30r (ps.tail.headD PV.undef))] := by kernel_rfl
  obtain ⟨N, h1⟩ := val20 (x1 := S30r (ps.tail.headD PV.undef)) hp.1 hp.2.1 hp.2.2
  refine ⟨E2 N, _, rfl, E2_ok N, ?_, .inl rfl⟩
  rw [hc, f20_run, h1]
  rfl
/-- How many places a new memory has. -/
def cnt (x : Int) : Nat := if x ≤ 10000 then x.toNat else 0
theorem cnt_le (x : Int) : cnt x ≤ 10000 := by
  unfold cnt
  split <;> omega
theorem bind_more {σ τ γ : Type} {stp : σ → Option (σ ⊕ τ)} {k : Nat} {s : σ} {K : τ → Option γ} {r : γ} (h : (loopN stp k s).bind K = some r) (m : Nat) : (loopN stp (k + m) s).bind K = some r := by
  obtain ⟨t, h1, h2⟩ := Option.bind_eq_some_iff.1 h
  rw [loopN_more k s t h1 m]
  exact h2
theorem new0 {N : Nat} {x0 x1 : Int} {γ : Type} (K : f28L0e → Option γ) (R : List (List PV) → γ) (k0 : K .e0 = some (R [])) (k1 : K .e1 = some (R [[PV.int .i64 0]])) (k2 : ∀ l, K (.e2 l) = some (R l)) (hN : cnt x0 + 1 ≤ N) :
    (loopN (f28L0r N x0 x1) N .s0).bind K = some (R (List.replicate (cnt x0) [PV.int .i64 0])) := by
  have hc := cnt_le x0
  have h := grow (stp := f28L0r N x0 x1) .s0 .s1 .s2 .e0 .e1 .e2 (fun _ => [PV.int .i64 0]) (cnt x0) K R k0 k1 k2 (show cnt x0 ≤ 1000000 by omega)
    (fun e => by
      by_cases c : (0 : Int) < x0
      · exact run_true (decide_eq_true c) (run_false (decide_eq_false (by unfold cnt at e; split at e <;> omega)) rfl)
      · exact run_false (decide_eq_false c) rfl)
    (fun e => run_true (decide_eq_true (by unfold cnt at e; split at e <;> omega)) (run_true (decide_eq_true (by unfold cnt at e; split at e <;> omega)) rfl))
    (fun e => run_false (decide_eq_false (by unfold cnt at e; split at e <;> omega)) rfl)
    (fun e => run_true (decide_eq_true (by unfold cnt at e; split at e <;> omega)) (run_true (decide_eq_true (by unfold cnt at e; split at e <;> omega)) rfl))
    (fun i acc hi ha => by
      have h3 : decide (acc.length + 1 ≤ most) = true := decide_eq_true ha
      refine run_true (decide_eq_true (by unfold cnt at hi; split at hi <;> omega)) (run_true (decide_eq_true (by unfold cnt at hi; split at hi <;> omega)) (run_true h3 ?_))
      show some (Sum.inl (f28L0s.s2 (IntKind.i64.wrap ((i : Int) + 1)) _)) = _
      rw [wrap_next (i := i) (by omega)])
    (fun acc => by
      by_cases c : ((cnt x0 : Nat) : Int) < x0
      · exact run_true (decide_eq_true c) (run_false (decide_eq_false (by unfold cnt at c; split at c <;> omega)) rfl)
      · exact run_false (decide_eq_false c) rfl)
  have h' := bind_more h (N - (cnt x0 + 1))
  rw [show cnt x0 + 1 + (N - (cnt x0 + 1)) = N by omega] at h'
  rw [h', List.map_const', List.length_range']
theorem new13 {N : Nat} {x0 x1 : Int} {γ : Type} (K : f28L13e → Option γ) (R : List (List PV) → γ) (k0 : K .e0 = some (R [])) (k1 : K .e1 = some (R [[PV.list 81 []]])) (k2 : ∀ l, K (.e2 l) = some (R l)) (hN : cnt x1 + 1 ≤ N) :
    (loopN (f28L13r N x0 x1) N .s0).bind K = some (R (List.replicate (cnt x1) [PV.list 81 []])) := by
  have hc := cnt_le x1
  have h := grow (stp := f28L13r N x0 x1) .s0 .s1 .s2 .e0 .e1 .e2 (fun _ => [PV.list 81 []]) (cnt x1) K R k0 k1 k2 (show cnt x1 ≤ 1000000 by omega)
    (fun e => by
      by_cases c : (0 : Int) < x1
      · exact run_true (decide_eq_true c) (run_false (decide_eq_false (by unfold cnt at e; split at e <;> omega)) rfl)
      · exact run_false (decide_eq_false c) rfl)
    (fun e => run_true (decide_eq_true (by unfold cnt at e; split at e <;> omega)) (run_true (decide_eq_true (by unfold cnt at e; split at e <;> omega)) rfl))
    (fun e => run_false (decide_eq_false (by unfold cnt at e; split at e <;> omega)) rfl)
    (fun e => run_true (decide_eq_true (by unfold cnt at e; split at e <;> omega)) (run_true (decide_eq_true (by unfold cnt at e; split at e <;> omega)) rfl))
    (fun i acc hi ha => by
      have h3 : decide (acc.length + 1 ≤ most) = true := decide_eq_true ha
      refine run_true (decide_eq_true (by unfold cnt at hi; split at hi <;> omega)) (run_true (decide_eq_true (by unfold cnt at hi; split at hi <;> omega)) (run_true h3 ?_))
      show some (Sum.inl (f28L13s.s2 (IntKind.i64.wrap ((i : Int) + 1)) _)) = _
      rw [wrap_next (i := i) (by omega)])
    (fun acc => by
      by_cases c : ((cnt x1 : Nat) : Int) < x1
      · exact run_true (decide_eq_true c) (run_false (decide_eq_false (by unfold cnt at c; split at c <;> omega)) rfl)
      · exact run_false (decide_eq_false c) rfl)
  have h' := bind_more h (N - (cnt x1 + 1))
  rw [show cnt x1 + 1 + (N - (cnt x1 + 1)) = N by omega] at h'
  rw [h', List.map_const', List.length_range']
theorem new27 {N : Nat} {x0 x1 : Int} {γ : Type} (K : f28L27e → Option γ) (R : List (List PV) → γ) (k0 : K .e0 = some (R [])) (k1 : K .e1 = some (R [[PV.list 81 []]])) (k2 : ∀ l, K (.e2 l) = some (R l)) (hN : cnt x1 + 1 ≤ N) :
    (loopN (f28L27r N x0 x1) N .s0).bind K = some (R (List.replicate (cnt x1) [PV.list 81 []])) := by
  have hc := cnt_le x1
  have h := grow (stp := f28L27r N x0 x1) .s0 .s1 .s2 .e0 .e1 .e2 (fun _ => [PV.list 81 []]) (cnt x1) K R k0 k1 k2 (show cnt x1 ≤ 1000000 by omega)
    (fun e => by
      by_cases c : (0 : Int) < x1
      · exact run_true (decide_eq_true c) (run_false (decide_eq_false (by unfold cnt at e; split at e <;> omega)) rfl)
      · exact run_false (decide_eq_false c) rfl)
    (fun e => run_true (decide_eq_true (by unfold cnt at e; split at e <;> omega)) (run_true (decide_eq_true (by unfold cnt at e; split at e <;> omega)) rfl))
    (fun e => run_false (decide_eq_false (by unfold cnt at e; split at e <;> omega)) rfl)
    (fun e => run_true (decide_eq_true (by unfold cnt at e; split at e <;> omega)) (run_true (decide_eq_true (by unfold cnt at e; split at e <;> omega)) rfl))
    (fun i acc hi ha => by
      have h3 : decide (acc.length + 1 ≤ most) = true := decide_eq_true ha
      refine run_true (decide_eq_true (by unfold cnt at hi; split at hi <;> omega)) (run_true (decide_eq_true (by unfold cnt at hi; split at hi <;> omega)) (run_true h3 ?_))
      show some (Sum.inl (f28L27s.s2 (IntKind.i64.wrap ((i : Int) + 1)) _)) = _
      rw [wrap_next (i := i) (by omega)])
    (fun acc => by
      by_cases c : ((cnt x1 : Nat) : Int) < x1
      · exact run_true (decide_eq_true c) (run_false (decide_eq_false (by unfold cnt at c; split at c <;> omega)) rfl)
      · exact run_false (decide_eq_false c) rfl)
  have h' := bind_more h (N - (cnt x1 + 1))
  rw [show cnt x1 + 1 + (N - (cnt x1 + 1)) = N by omega] at h'
  rw [h', List.map_const', List.length_range']
theorem new42 {N : Nat} {x0 x1 : Int} {w : List (List PV)} {γ : Type} (K : f28L42e → Option γ) (R : List (List PV) → γ) (k0 : K .e0 = some (R [])) (k1 : K .e1 = some (R [[PV.list 81 []]])) (k2 : ∀ l, K (.e2 l) = some (R l)) (hN : cnt x1 + 1 ≤ N) :
    (loopN (f28L42r N x0 x1 w) N .s0).bind K = some (R (List.replicate (cnt x1) [PV.list 81 []])) := by
  have hc := cnt_le x1
  have h := grow (stp := f28L42r N x0 x1 w) .s0 .s1 .s2 .e0 .e1 .e2 (fun _ => [PV.list 81 []]) (cnt x1) K R k0 k1 k2 (show cnt x1 ≤ 1000000 by omega)
    (fun e => by
      by_cases c : (0 : Int) < x1
      · exact run_true (decide_eq_true c) (run_false (decide_eq_false (by unfold cnt at e; split at e <;> omega)) rfl)
      · exact run_false (decide_eq_false c) rfl)
    (fun e => run_true (decide_eq_true (by unfold cnt at e; split at e <;> omega)) (run_true (decide_eq_true (by unfold cnt at e; split at e <;> omega)) rfl))
    (fun e => run_false (decide_eq_false (by unfold cnt at e; split at e <;> omega)) rfl)
    (fun e => run_true (decide_eq_true (by unfold cnt at e; split at e <;> omega)) (run_true (decide_eq_true (by unfold cnt at e; split at e <;> omega)) rfl))
    (fun i acc hi ha => by
      have h3 : decide (acc.length + 1 ≤ most) = true := decide_eq_true ha
      refine run_true (decide_eq_true (by unfold cnt at hi; split at hi <;> omega)) (run_true (decide_eq_true (by unfold cnt at hi; split at hi <;> omega)) (run_true h3 ?_))
      show some (Sum.inl (f28L42s.s2 (IntKind.i64.wrap ((i : Int) + 1)) _)) = _
      rw [wrap_next (i := i) (by omega)])
    (fun acc => by
      by_cases c : ((cnt x1 : Nat) : Int) < x1
      · exact run_true (decide_eq_true c) (run_false (decide_eq_false (by unfold cnt at c; split at c <;> omega)) rfl)
      · exact run_false (decide_eq_false c) rfl)
  have h' := bind_more h (N - (cnt x1 + 1))
  rw [show cnt x1 + 1 + (N - (cnt x1 + 1)) = N by omega] at h'
  rw [h', List.map_const', List.length_range']
def newR (x0 x1 : Int) : S30 := ⟨List.replicate (cnt x0) [PV.int .i64 0], List.replicate (cnt x1) [PV.list 81 []]⟩
theorem val28 (x0 x1 : Int) : f28 10001 x0 x1 = some (newR x0 x1) := by
  have h0 := cnt_le x0
  have h1 := cnt_le x1
  exact new0 _ (fun l => (⟨l, List.replicate (cnt x1) [PV.list 81 []]⟩ : S30))
    (new13 _ (fun l => (⟨[], l⟩ : S30)) rfl rfl (fun _ => rfl) (by omega))
    (new27 _ (fun l => (⟨[[PV.int .i64 0]], l⟩ : S30)) rfl rfl (fun _ => rfl) (by omega))
    (fun w => new42 _ (fun l => (⟨w, l⟩ : S30)) rfl rfl (fun _ => rfl) (by omega)) (by omega)
noncomputable def f28O : Ora := ⟨fun ps => okPs [(false, [K.int .i64]), (false, [K.int .i64])] ps && true, fun ps => .pv (S30v (newR (pInt (ps.headD PV.undef)) (pInt (ps.tail.headD PV.undef))))⟩
theorem f28_spec : Spec Try.prog 28 f28O := spec_fit 100 f28rs [(false, [K.int .i64]), (false, [K.int .i64])] (fun ps => true) _ mixed fun ps hm hs hp => by
  have hc : canPs [(false, [K.int .i64]), (false, [K.int .i64])] ps = [PV.int .i64 (pInt (ps.headD PV.undef)), PV.int .i64 (pInt (ps.tail.headD PV.undef))] := by kernel_rfl
  refine ⟨E2 10001, _, rfl, E2_ok _, ?_, .inl rfl⟩
  rw [hc, f28_run, val28]
  rfl
def newW (x0 x1 : Int) : S25 := ⟨List.replicate (cnt x0) [PV.int .i64 0], List.replicate (cnt x1) [PV.list 68 []]⟩
theorem cnt_low {x : Int} (h : x < 1) : cnt x = 0 := by unfold cnt; split <;> omega
theorem cnt_high {x : Int} (h : x > 10000) : cnt x = 0 := by unfold cnt; split <;> omega
theorem cnt_mid {x : Int} (h : ¬ x > 10000) : cnt x = x.toNat := by unfold cnt; split <;> omega
theorem there_ok {x : Int} (h : ¬ x < 1) (k : ¬ x > 10000) : (decide ((0 : Int) ≤ x) && decide (x ≤ x) && decide (x ≤ ((most : Nat) : Int))) = true := by
  have : x ≤ ((most : Nat) : Int) := show x ≤ ((1000000 : Nat) : Int) by omega
  rw [decide_eq_true (show (0 : Int) ≤ x by omega), decide_eq_true (show x ≤ x by omega), decide_eq_true this]
  rfl
theorem f27_val (x0 x1 : Int) : f27 0 x0 x1 = some (newW x0 x1) := by
  have inner : ∀ (R : List (List PV) → S25) (t : Tr S25), (t = .test (decide (x1 < (1 : Int))) (.ret (R [])) (.test (decide (x1 > (10000 : Int))) (.ret (R [])) (.test (decide ((0 : Int) ≤ x1) && decide (x1 ≤ x1) && decide (x1 ≤ (↑most : Int))) (.ret (R (List.replicate x1.toNat [PV.list (68 : Nat) []]))) .fail))) → t.run = some (R (List.replicate (cnt x1) [PV.list 68 []])) := by
    intro R t ht
    subst ht
    refine run_test (fun h => ?_) (fun h => ?_)
    · rw [cnt_low (of_decide_eq_true h)]; rfl
    have h1 := of_decide_eq_false h
    refine run_test (fun h => ?_) (fun h => ?_)
    · rw [cnt_high (of_decide_eq_true h)]; rfl
    have h2 := of_decide_eq_false h
    refine run_true (there_ok h1 h2) ?_
    rw [cnt_mid h2]; rfl
  unfold f27 f27t0 newW
  refine run_test (fun h => ?_) (fun h => ?_)
  · rw [cnt_low (of_decide_eq_true h)]
    exact inner (fun l => (⟨[], l⟩ : S25)) _ rfl
  have h1 := of_decide_eq_false h
  refine run_test (fun h => ?_) (fun h => ?_)
  · rw [cnt_high (of_decide_eq_true h)]
    exact inner (fun l => (⟨[], l⟩ : S25)) _ rfl
  have h2 := of_decide_eq_false h
  refine run_true (there_ok h1 h2) ?_
  rw [cnt_mid h2]
  exact inner (fun l => (⟨List.replicate x0.toNat [PV.int .i64 0], l⟩ : S25)) _ rfl
end Go.Proofs.YtihdfkdinfmhlaaS
