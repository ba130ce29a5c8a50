/- The reference's Upto and Join, in plain words. Conditions: none. -/
import Derived.Test.YtahflgbdcnipnaaU1
import Derived.Test.YtahflgbdcnipnaaJ3
import Derived.Test.YtahflgbdcnipnaaSimPure
set_option linter.unusedVariables false
set_option linter.unusedSimpArgs false
set_option maxRecDepth 10000
namespace Go.Proofs.YtahflgbdcnipnaaS
open Go Go.Proofs
def uptoN (xs : List (List PV)) (k : Int) : Nat := min xs.length k.toNat
theorem val15 {xs : List (List PV)} {m : Int} (hc : ∀ e ∈ xs, cfs [.int .i64, .int .i64, .int .i64] e) (hl : xs.length ≤ most) : ∃ N o, f15 N xs m = some o ∧ (f15W o).plain = .pv (.list 49 (xs.take (uptoN xs m))) := by
  have hm : xs.length ≤ 1000000 := hl
  have hn : uptoN xs m ≤ xs.length := Nat.min_le_left _ _
  have hk : ∀ i : Nat, i < uptoN xs m → i < xs.length ∧ (i : Int) < m := fun i hi => by
    unfold uptoN at hi
    omega
  have hk2 : ¬ (uptoN xs m < xs.length ∧ ((uptoN xs m : Nat) : Int) < m) := by
    unfold uptoN
    omega
  have stop : ∀ (i : Nat) (A B : Tr (f15L0s ⊕ f15L0e)) (e : f15L0e), i = uptoN xs m → (Tr.test (decide ((i : Int) < (xs.length : Int))) (.test (decide ((i : Int) < m)) A (.ret (.inr e))) (.ret (.inr e))).run = some (.inr e) := by
    intro i A B e hi
    by_cases h1 : (i : Int) < (xs.length : Int)
    · refine run_true (decide_eq_true h1) (run_false (decide_eq_false ?_) rfl)
      intro h2
      exact hk2 ⟨by omega, by omega⟩
    · exact run_false (decide_eq_false h1) rfl
  have h := grow (stp := f15L0r (uptoN xs m + 1) xs m) .s0 .s1 .s2 .e0 .e1 .e2 (fun i => [PV.int .i64 (pInt ((xs.getD i []).headD PV.undef)), PV.int .i64 (pInt ((xs.getD i []).tail.headD PV.undef)), PV.int .i64 (pInt ((xs.getD i []).tail.tail.headD PV.undef))]) (uptoN xs m)
    (fun e => (match e with
      | .e0 => Tr.run (.ret (f15o.r0 ([])))
      | .e1 => Tr.run (f15t13 xs m)
      | .e2 w => Tr.run (.ret (f15o.r0 w))).map fun o => (f15W o).plain)
    (fun l => .pv (.list 49 l)) rfl rfl (fun w => rfl) (Nat.le_trans hn hl)
    (fun e => stop 0 _ .fail _ e.symm)
    (fun e => by
      obtain ⟨h1, h2⟩ := hk 0 e
      have q1 : decide ((0 : Int) < (xs.length : Int)) = true := decide_eq_true (by omega)
      exact run_true q1 (run_true (decide_eq_true h2) (run_true (by rw [q1]; rfl) rfl)))
    (fun e => stop 1 _ .fail _ e.symm)
    (fun e => by
      obtain ⟨h1, h2⟩ := hk 1 e
      have q1 : decide ((1 : Int) < (xs.length : Int)) = true := decide_eq_true (by omega)
      exact run_true q1 (run_true (decide_eq_true h2) (run_true (by rw [q1]; rfl) rfl)))
    (fun i acc hi ha => by
      obtain ⟨h1, h2⟩ := hk i hi
      have q0 : decide ((0 : Int) ≤ (i : Int)) = true := decide_eq_true (by omega)
      have q1 : decide ((i : Int) < (xs.length : Int)) = true := decide_eq_true (by omega)
      refine run_true q1 (run_true (decide_eq_true h2) (run_true (by rw [q0, q1]; rfl) (run_true (decide_eq_true ha) ?_)))
      show some (Sum.inl (f15L0s.s2 (IntKind.i64.wrap ((i : Int) + 1)) _)) = _
      rw [wrap_next (i := i) (by omega)]
      rfl)
    (fun acc => stop (uptoN xs m) _ .fail _ rfl)
  have he : (List.range' 0 (uptoN xs m)).map (fun i => [PV.int .i64 (pInt ((xs.getD i []).headD PV.undef)), PV.int .i64 (pInt ((xs.getD i []).tail.headD PV.undef)), PV.int .i64 (pInt ((xs.getD i []).tail.tail.headD PV.undef))]) = xs.take (uptoN xs m) := by
    refine range_map_get (n := uptoN xs m) (by rw [List.length_take]; omega) fun i hi => ?_
    have hi' := (hk i hi).1
    have := etas_at hc hi'
    refine (show _ = xs.getD i [] from this).trans ?_
    simp [List.getD_eq_getElem?_getD, List.getElem?_take, hi]
  rw [he] at h
  have h2 : (f15 (uptoN xs m + 1) xs m).map (fun o => (f15W o).plain) = some (.pv (.list 49 (xs.take (uptoN xs m)))) := by
    rw [← h]
    unfold f15
    rw [Option.map_bind]
    rfl
  obtain ⟨o, h3, h4⟩ := Option.map_eq_some_iff.1 h2
  exact ⟨_, o, h3, h4⟩
noncomputable def f15O : Ora := ⟨fun ps => okPs [(false, [.list 49]), (false, [.int .i64])] ps && decide ((pList (ps.headD .undef)).length ≤ most), fun ps => .pv (.list 49 ((pList (ps.headD .undef)).take (uptoN (pList (ps.headD .undef)) (pInt (ps.tail.headD .undef)))))⟩
theorem f15_kinds : kinds Try.prog 49 = [.int .i64, .int .i64, .int .i64] := by kernel_rfl
theorem f15_spec : Spec Try.prog 15 f15O := spec_fit 100 f15rs [(false, [.list 49]), (false, [.int .i64])] (fun ps => decide ((pList (ps.headD .undef)).length ≤ most)) _ mixed fun ps hm hs hp => by
  have hc := okPs_can hs
  have hcf := hm.list 0 (ks := [.int .i64, .int .i64, .int .i64]) (t := 49) (xs := pList (ps.headD .undef)) (by rw [← hc]; rfl) f15_kinds
  obtain ⟨N, o, h1, h2⟩ := val15 (m := pInt (ps.tail.headD .undef)) hcf (of_decide_eq_true hp)
  refine ⟨E1 N, f15W o, rfl, E1_ok N, ?_, .inr h2⟩
  have := f15_run N (pList (ps.headD .undef)) (pInt (ps.tail.headD .undef))
  rw [h1] at this
  exact this
theorem val13 {xs : List (List PV)} (h3 : xs.length = 3) (hl : (flat xs).length ≤ most) : f13 4 xs = some (.r0 (flat xs)) := by
  obtain ⟨a, b, c, rfl⟩ : ∃ a b c, xs = [a, b, c] := by
    match xs, h3 with
    | [a, b, c], _ => exact ⟨a, b, c, rfl⟩
  have e : flat [a, b, c] = row44 a ++ row44 b ++ row44 c := by simp [flat]
  rw [e] at hl ⊢
  have hm : (row44 a ++ row44 b ++ row44 c).length ≤ 1000000 := hl
  simp only [List.length_append] at hm
  have q1 : decide ((pList (a.headD PV.undef)).length ≤ most) = true := decide_eq_true (show (row44 a).length ≤ 1000000 by omega)
  have q2 : decide ((pList (a.headD PV.undef)).length + (pList (b.headD PV.undef)).length ≤ most) = true := decide_eq_true (show (row44 a).length + (row44 b).length ≤ 1000000 by omega)
  have q3 : decide ((pList (a.headD PV.undef) ++ pList (b.headD PV.undef)).length + (pList (c.headD PV.undef)).length ≤ most) = true := decide_eq_true (show (row44 a ++ row44 b).length + (row44 c).length ≤ 1000000 by simp only [List.length_append]; omega)
  unfold f13
  rw [loopN_next (y := .s1) (run_true rfl (run_true rfl (run_true q1 rfl))), loopN_next (y := .s2 2 (row44 a ++ row44 b)) (run_true rfl (run_true rfl (run_true q2 rfl))), loopN_next (y := .s2 3 (row44 a ++ row44 b ++ row44 c)) (run_true rfl (run_true rfl (run_true q3 rfl))), loopN_end (z := .e2 (row44 a ++ row44 b ++ row44 c)) (run_false rfl rfl)]
  rfl
def pre13 (xs : List (List PV)) : Bool := decide (xs.length = 3) && decide ((flat xs).length ≤ most)
noncomputable def f13O : Ora := ⟨fun ps => okPs [(false, [.list 25])] ps && pre13 (pList (ps.headD .undef)), fun ps => .pv (.list 49 (flat (pList (ps.headD .undef))))⟩
theorem f13_spec : Spec Try.prog 13 f13O := spec_fit 100 f13rs [(false, [.list 25])] (fun ps => pre13 (pList (ps.headD .undef))) _ mixed fun ps hm hs hp => by
  have hc : canPs [(false, [.list 25])] ps = [PV.list 25 (pList (ps.headD PV.undef))] := by kernel_rfl
  unfold pre13 at hp
  simp only [Bool.and_eq_true, decide_eq_true_eq] at hp
  refine ⟨E1 4, _, rfl, E1_ok 4, ?_, .inl rfl⟩
  rw [hc, f13_run, val13 hp.1 hp.2]
  rfl
end Go.Proofs.YtahflgbdcnipnaaS
