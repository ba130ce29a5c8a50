/- The pure statement that is left of ScriptBack. Conditions: the numbers' own ranges. -/
import Derived.Test.YtkdbccloniaogaaFacts09d
import Derived.Test.YtkdbccloniaogaaF5x6
import Derived.Test.YtkdbccloniaogaaSimPure
set_option linter.unusedVariables false
set_option linter.unusedSimpArgs false
set_option maxRecDepth 10000
namespace Go.Proofs.YtkdbccloniaogaaS
open Go Go.Proofs
theorem chkP_zero {t n : Int} {b : Bool} {k th it tag v : Int} (h : chkP t n b k th it tag v = 0) : 1 ≤ k ∧ k ≤ 3 ∧ (k ≠ 3 → 0 ≤ th ∧ th < t) ∧ (k = 1 → 0 ≤ it ∧ it < n ∧ 1 ≤ tag ∧ tag ≤ 9) := by
  unfold chkP at h
  by_cases c1 : k < 1 ∨ 3 < k
  · rw [if_pos c1] at h; cases h
  rw [if_neg c1] at h
  by_cases c2 : k = 3
  · exact ⟨by omega, by omega, fun q => absurd c2 q, fun q => by omega⟩
  rw [if_neg c2] at h
  by_cases c3 : th < 0 ∨ t ≤ th
  · rw [if_pos c3] at h; cases h
  rw [if_neg c3] at h
  by_cases c4 : k = 2
  · exact ⟨by omega, by omega, fun _ => by omega, fun q => by omega⟩
  rw [if_neg c4] at h
  by_cases c5 : it < 0 ∨ n ≤ it
  · rw [if_pos c5] at h; cases h
  rw [if_neg c5] at h
  have ho : opB b tag v = true := by
    cases q : opB b tag v with
    | true => rfl
    | false => rw [q] at h; cases h
  have ht : 1 ≤ tag ∧ tag ≤ 9 := by
    unfold opB at ho
    cases b
    · simp at ho
      omega
    · simp at ho
      omega
  exact ⟨by omega, by omega, fun _ => by omega, fun _ => ⟨by omega, by omega, ht.1, ht.2⟩⟩
theorem decR_len {n0 : Int} : ∀ (f : Nat) (out : List (List PV)) (s : ByteArray), s.size < f → (decR n0 f out s).1.length ≤ out.length + s.size
  | 0, out, s, h => by omega
  | f + 1, out, s, h => by
    rcases Nat.eq_zero_or_pos s.size with h0 | h0
    · rw [decR_end h0]
      exact Nat.le_add_right _ _
    · by_cases k : hd s < 1 ∨ 3 < hd s
      · rw [decR_stop h0 k]
        exact Nat.zero_le _
      · have k1 : 1 ≤ hd s := by omega
        have k3 : hd s ≤ 3 := by omega
        rcases Nat.lt_or_ge s.size (sizeK (hd s)) with hq | hq
        · rw [decR_short h0 k1 k3 hq]
          exact Nat.zero_le _
        · have hdz := dec1_size k1 k3
          have hp := sizeK_pos (hd s)
          rw [decR_next h0 k1 k3 hq]
          have := decR_len (n0 := n0) f (out ++ [(dec1 s).1]) (dec1 s).2 (by omega)
          rw [List.length_append] at this
          simp only [List.length_cons, List.length_nil] at this
          omega
theorem cfg_small {x : S23} (h : chkC (cfg26 x) = 0) : x.a0 ≤ 16 ∧ x.a1 ≤ 4 := by
  rw [chk_same] at h
  unfold chk5 config_Check.v at h
  by_cases c0 : x.a0 < 1 ∨ x.a0 > 16
  · rw [if_pos c0] at h; cases h
  rw [if_neg c0] at h
  by_cases c1 : x.a1 < 1 ∨ x.a1 > 4
  · rw [if_pos c1] at h; cases h
  omega
theorem all_zero {x : S23} {xs : List (List PV)} (h : (all12R (cfg26 x) xs).2 = 0) (hl : xs.length ≤ 60000) : chkC (cfg26 x) = 0 ∧ ∀ e ∈ xs, chkE12 (cfg26 x) e = 0 := by
  unfold all12R at h
  rw [decide_eq_false (show ¬ (xs.length : Int) > 65536 by omega)] at h
  cases hc : (chkC (cfg26 x) != 0) with
  | true =>
    rw [hc] at h
    have h : chkC (cfg26 x) = 0 := h
    rw [h] at hc
    cases hc
  | false =>
    rw [hc] at h
    simp only [cond_false] at h
    have hs := scanE_all (fun e => chkE12 (cfg26 x) e) xs
    have h2 : (scanL (fun e => chkE12 (cfg26 x) e) xs 0).2 = 0 := by
      rw [← hs]
      exact h
    exact ⟨by simpa using hc, (scanL_none h2).2⟩
theorem ve_of {x : S23} {xs : List (List PV)} (h : (all12R (cfg26 x) xs).2 = 0) (hl : xs.length ≤ 60000) (hw : Wf (PV.list 38 xs)) (hcf : ∀ e ∈ xs, cfs [.int .i64, .int .i64, .int .i64, .int .i64, .int .i64] e) : ∀ e ∈ xs, VE e := by
  intro e he
  obtain ⟨h1, h2⟩ := all_zero h hl
  have h3 := h2 e he
  obtain ⟨c0, c1⟩ := cfg_small h1
  unfold chkE12 at h3
  rw [f15_P] at h3
  obtain ⟨q1, q2, q3, q4⟩ := chkP_zero h3
  have q1 : 1 ≤ kindOf e := q1
  have q2 : kindOf e ≤ 3 := q2
  refine ⟨q1, q2, fun q => ?_, fun q => ?_, fun q => ?_, ?_⟩
  · obtain ⟨a, b⟩ := q3 q
    have a : 0 ≤ (S38r (PV.agg e)).a1 := a
    have b : (S38r (PV.agg e)).a1 < x.a0 := b
    omega
  · obtain ⟨a, b, _⟩ := q4 q
    have a : 0 ≤ (S38r (PV.agg e)).a2 := a
    have b : (S38r (PV.agg e)).a2 < x.a1 := b
    omega
  · obtain ⟨_, _, a, b⟩ := q4 q
    have a : 1 ≤ (S38r (PV.agg e)).a3 := a
    have b : (S38r (PV.agg e)).a3 ≤ 9 := b
    omega
  · simp only [Wf] at hw
    have hwe := hw.2.mem e he
    match e, hcf e he, hwe with
    | [a, b, c, d, v], hq, hwe =>
      obtain ⟨⟨_, rfl⟩, ⟨_, rfl⟩, ⟨_, rfl⟩, ⟨_, rfl⟩, ⟨z, rfl⟩, _⟩ := hq
      simp only [Wfs] at hwe
      exact wf_i64 hwe.2.2.2.2.1
theorem map_norm (xs : List (List PV)) (i : Nat) (hi : i < xs.length) : (xs.map normE).getD i [] = normE (xs.getD i []) := by
  simp [List.getD_eq_getElem?_getD, hi]
theorem loop0 {x0 : ByteArray} {x1 : S23} {x2 : List (List PV)} (hl : x2.length ≤ 100) (hd18 : dec18 (strOf (encs x2)) = (x2.map normE, 0, 0)) (hv : ∀ e ∈ x2, VE e) : loopN (f6L0r (x2.length + 1) x0 x1 x2) (x2.length + 1) (.s0 (0 : Int)) = some .e1 := by
  have h := loop_all (stp := f6L0r (x2.length + 1) x0 x1 x2) (fun i => .s0 (i : Int)) .e0 .e1 (fun _ => true) x2.length
    (fun i hi _ => by
      have q0 : decide ((0 : Int) ≤ (i : Int)) = true := decide_eq_true (by omega)
      have q1 : decide ((i : Int) < (x2.length : Int)) = true := decide_eq_true (by omega)
      have q2 : (decide ((0 : Int) ≤ (i : Int)) && decide ((i : Int) < (x2.length : Int))) = true := by rw [q0, q1]; rfl
      have q3 : (decide ((0 : Int) ≤ (i : Int)) && decide ((i : Int) < (((dec18 (strOf (encs x2))).1.length : Nat) : Int))) = true := by
        rw [hd18]
        show (decide ((0 : Int) ≤ (i : Int)) && decide ((i : Int) < (((x2.map normE).length : Nat) : Int))) = true
        rw [List.length_map]
        exact q2
      have nx : some (Sum.inl (f6L0s.s0 (IntKind.i64.wrap ((i : Int) + 1)))) = (some (Sum.inl (f6L0s.s0 ((i + 1 : Nat) : Int))) : Option (f6L0s ⊕ f6L0e)) := by rw [wrap_next (i := i) (by omega)]
      have hmem : x2.getD i [] ∈ x2 := by
        have e : x2.getD i [] = x2[i] := by simp [List.getD_eq_getElem?_getD, hi]
        rw [e]
        exact List.getElem_mem hi
      have he := hv _ hmem
      have hn : (dec18 (strOf (encs x2))).1.getD (i : Int).toNat [] = normE (x2.getD i []) := by
        rw [hd18]
        exact map_norm x2 i hi
      have k1 := he.k1
      have k3 := he.k3
      refine run_true q1 (run_true q2 ?_)
      by_cases e3 : kindOf (x2.getD i []) = 3
      · have hn2 : normE (x2.getD i []) = ent (kindOf (x2.getD i [])) 0 0 0 0 := by unfold normE; rw [if_pos e3]
        refine run_false (show (kindOf (x2.getD i []) != 3) = false by rw [e3]; rfl) (run_false (show (kindOf (x2.getD i []) == 1) = false by rw [e3]; rfl) (run_true q3 (run_false ?_ nx)))
        rw [hn, hn2]
        show (!(kindOf (x2.getD i []) == kindOf (x2.getD i []) && ((0 : Int) == 0 && ((0 : Int) == 0 && ((0 : Int) == 0 && ((0 : Int) == 0 && true) && true))))) = false
        simp
      · refine run_true (show (kindOf (x2.getD i []) != 3) = true by simpa using e3) (run_true q2 ?_)
        by_cases e1 : kindOf (x2.getD i []) = 1
        · have hn2 : normE (x2.getD i []) = ent (kindOf (x2.getD i [])) (S38r (PV.agg (x2.getD i []))).a1 (S38r (PV.agg (x2.getD i []))).a2 (S38r (PV.agg (x2.getD i []))).a3 (S38r (PV.agg (x2.getD i []))).a4 := by
            unfold normE
            rw [if_neg e3, if_neg (by omega)]
          refine run_true (show (kindOf (x2.getD i []) == 1) = true by rw [e1]; rfl) (run_true q2 (run_true q3 (run_false ?_ nx)))
          rw [hn, hn2]
          show (!(kindOf (x2.getD i []) == kindOf (x2.getD i []) && ((S38r (PV.agg (x2.getD i []))).a1 == (S38r (PV.agg (x2.getD i []))).a1 && ((S38r (PV.agg (x2.getD i []))).a2 == (S38r (PV.agg (x2.getD i []))).a2 && ((S38r (PV.agg (x2.getD i []))).a3 == (S38r (PV.agg (x2.getD i []))).a3 && ((S38r (PV.agg (x2.getD i []))).a4 == (S38r (PV.agg (x2.getD i []))).a4 && true) && true))))) = false
          simp
        · have hn2 : normE (x2.getD i []) = ent (kindOf (x2.getD i [])) (S38r (PV.agg (x2.getD i []))).a1 0 0 0 := by
            unfold normE
            rw [if_neg e3, if_pos (by omega)]
          refine run_false (show (kindOf (x2.getD i []) == 1) = false by simpa using e1) (run_true q3 (run_false ?_ nx))
          rw [hn, hn2]
          show (!(kindOf (x2.getD i []) == kindOf (x2.getD i []) && ((S38r (PV.agg (x2.getD i []))).a1 == (S38r (PV.agg (x2.getD i []))).a1 && ((0 : Int) == 0 && ((0 : Int) == 0 && ((0 : Int) == 0 && true) && true))))) = false
          simp)
    (fun i _ h => by cases h)
    (run_false (decide_eq_false (show ¬ ((x2.length : Int) < (x2.length : Int)) by omega)) rfl) x2.length 0 (by omega)
  have ha : (List.range' 0 x2.length).all (fun _ => true) = true := by simp
  rw [ha] at h
  exact h
theorem loop6 {x0 : ByteArray} {x1 : S23} {x2 : List (List PV)} (hl : x2.length ≤ 100) (hd18 : dec18 (strOf (encs x2)) = (x2.map normE, 0, 0)) (hv : ∀ e ∈ x2, VE e) : loopN (f6L6r (x2.length + 1) x0 x1 x2) (x2.length + 1) (.s0 (0 : Int)) = some .e1 := by
  have h := loop_all (stp := f6L6r (x2.length + 1) x0 x1 x2) (fun i => .s0 (i : Int)) .e0 .e1 (fun _ => true) x2.length
    (fun i hi _ => by
      have q0 : decide ((0 : Int) ≤ (i : Int)) = true := decide_eq_true (by omega)
      have q1 : decide ((i : Int) < (x2.length : Int)) = true := decide_eq_true (by omega)
      have q2 : (decide ((0 : Int) ≤ (i : Int)) && decide ((i : Int) < (x2.length : Int))) = true := by rw [q0, q1]; rfl
      have q3 : (decide ((0 : Int) ≤ (i : Int)) && decide ((i : Int) < (((dec18 (strOf (encs x2))).1.length : Nat) : Int))) = true := by
        rw [hd18]
        show (decide ((0 : Int) ≤ (i : Int)) && decide ((i : Int) < (((x2.map normE).length : Nat) : Int))) = true
        rw [List.length_map]
        exact q2
      have nx : some (Sum.inl (f6L6s.s0 (IntKind.i64.wrap ((i : Int) + 1)))) = (some (Sum.inl (f6L6s.s0 ((i + 1 : Nat) : Int))) : Option (f6L6s ⊕ f6L6e)) := by rw [wrap_next (i := i) (by omega)]
      have hmem : x2.getD i [] ∈ x2 := by
        have e : x2.getD i [] = x2[i] := by simp [List.getD_eq_getElem?_getD, hi]
        rw [e]
        exact List.getElem_mem hi
      have he := hv _ hmem
      have hn : (dec18 (strOf (encs x2))).1.getD (i : Int).toNat [] = normE (x2.getD i []) := by
        rw [hd18]
        exact map_norm x2 i hi
      have k1 := he.k1
      have k3 := he.k3
      refine run_true q1 (run_true q2 ?_)
      by_cases e3 : kindOf (x2.getD i []) = 3
      · have hn2 : normE (x2.getD i []) = ent (kindOf (x2.getD i [])) 0 0 0 0 := by unfold normE; rw [if_pos e3]
        refine run_false (show (kindOf (x2.getD i []) != 3) = false by rw [e3]; rfl) (run_false (show (kindOf (x2.getD i []) == 1) = false by rw [e3]; rfl) (run_true q3 (run_false ?_ nx)))
        rw [hn, hn2]
        show (!(kindOf (x2.getD i []) == kindOf (x2.getD i []) && ((0 : Int) == 0 && ((0 : Int) == 0 && ((0 : Int) == 0 && ((0 : Int) == 0 && true) && true))))) = false
        simp
      · refine run_true (show (kindOf (x2.getD i []) != 3) = true by simpa using e3) (run_true q2 ?_)
        by_cases e1 : kindOf (x2.getD i []) = 1
        · have hn2 : normE (x2.getD i []) = ent (kindOf (x2.getD i [])) (S38r (PV.agg (x2.getD i []))).a1 (S38r (PV.agg (x2.getD i []))).a2 (S38r (PV.agg (x2.getD i []))).a3 (S38r (PV.agg (x2.getD i []))).a4 := by
            unfold normE
            rw [if_neg e3, if_neg (by omega)]
          refine run_true (show (kindOf (x2.getD i []) == 1) = true by rw [e1]; rfl) (run_true q2 (run_true q3 (run_false ?_ nx)))
          rw [hn, hn2]
          show (!(kindOf (x2.getD i []) == kindOf (x2.getD i []) && ((S38r (PV.agg (x2.getD i []))).a1 == (S38r (PV.agg (x2.getD i []))).a1 && ((S38r (PV.agg (x2.getD i []))).a2 == (S38r (PV.agg (x2.getD i []))).a2 && ((S38r (PV.agg (x2.getD i []))).a3 == (S38r (PV.agg (x2.getD i []))).a3 && ((S38r (PV.agg (x2.getD i []))).a4 == (S38r (PV.agg (x2.getD i []))).a4 && true) && true))))) = false
          simp
        · have hn2 : normE (x2.getD i []) = ent (kindOf (x2.getD i [])) (S38r (PV.agg (x2.getD i []))).a1 0 0 0 := by
            unfold normE
            rw [if_neg e3, if_pos (by omega)]
          refine run_false (show (kindOf (x2.getD i []) == 1) = false by simpa using e1) (run_true q3 (run_false ?_ nx))
          rw [hn, hn2]
          show (!(kindOf (x2.getD i []) == kindOf (x2.getD i []) && ((S38r (PV.agg (x2.getD i []))).a1 == (S38r (PV.agg (x2.getD i []))).a1 && ((0 : Int) == 0 && ((0 : Int) == 0 && ((0 : Int) == 0 && true) && true))))) = false
          simp)
    (fun i _ h => by cases h)
    (run_false (decide_eq_false (show ¬ ((x2.length : Int) < (x2.length : Int)) by omega)) rfl) x2.length 0 (by omega)
  have ha : (List.range' 0 x2.length).all (fun _ => true) = true := by simp
  rw [ha] at h
  exact h
theorem pureScriptBack (x0 : ByteArray) (x1 : S23) (x2 : List (List PV)) (h0 : Wf (PV.str x0)) (h1 : Wf (S23v x1)) (h2 : Wf (PV.list 38 x2)) (hmean : Meant Try.prog [PV.str x0, S23v x1, PV.list 38 x2]) : ∃ N, f6 N x0 x1 x2 = some ⟨true⟩ := by
  refine ⟨x2.length + 1, ?_⟩
  have hcf := hmean.list 2 (ks := [.int .i64, .int .i64, .int .i64, .int .i64, .int .i64]) (t := 38) (xs := x2) rfl (by kernel_rfl)
  unfold f6
  refine bif_elim (fun h => rfl) (fun hb => ?_)
  refine bif_elim (fun h => rfl) (fun hb2 => ?_)
  have hb := of_decide_eq_false hb
  have hb2 := of_decide_eq_false hb2
  have L0 : x0.size ≤ 1000 := by omega
  have L2 : x2.length ≤ 100 := by omega
  have e2 := encs_le x2
  have hsz : (strOf (encs x2)).size ≤ 900000 := by rw [strOf_size]; omega
  refine bif_true (decide_eq_true (by omega)) ?_
  have fwd : (all12R (cfg26 x1) x2).2 = 0 → dec18 (strOf (encs x2)) = (x2.map normE, 0, 0) ∧ ∀ e ∈ x2, VE e := by
    intro hz
    have hv := ve_of hz (by omega) h2 hcf
    refine ⟨?_, hv⟩
    unfold dec18
    rw [fwd_loop x2 _ [] hv (by omega)]
    rfl
  refine bif_elim (fun hz => ?_) (fun hz => ?_)
  · have hz : (dec18 x0).2.2 = 0 := by simpa using hz
    have hlen : (dec18 x0).1.length ≤ x0.size := by
      have := decR_len (n0 := (x0.size : Int)) (x0.size + 9) [] x0 (by omega)
      simpa [dec18] using this
    have hback : strOf (encs (dec18 x0).1) = x0 := by
      have := back_loop (n0 := (x0.size : Int)) (x0.size + 9) [] x0 (by omega) hz dec1_back
      exact this.trans (nil_back x0)
    refine bif_true (decide_eq_true (by omega)) (bif_false (by rw [hback]; simp) ?_)
    refine bif_true (decide_eq_true (show x2.length ≤ 1000000 by omega)) (bif_true (decide_eq_true (by omega)) ?_)
    cases hq : ((all12R (cfg26 x1) x2).2 != 0) with
    | true => exact bif_true hq rfl
    | false =>
      obtain ⟨hd18, hv⟩ := fwd (by simpa using hq)
      refine bif_false hq (bif_true (decide_eq_true (by omega)) (bif_true (decide_eq_true hsz) (bif_false (by rw [hd18]; rfl) (bif_false (by rw [hd18]; rfl) (bif_false ?_ ?_)))))
      · rw [hd18]
        show (((x2.map normE).length : Int) != (x2.length : Int)) = false
        rw [List.length_map]
        simp
      · rw [loop0 L2 hd18 hv]
        rfl
  · refine bif_true (decide_eq_true (show x2.length ≤ 1000000 by omega)) (bif_true (decide_eq_true (by omega)) ?_)
    cases hq : ((all12R (cfg26 x1) x2).2 != 0) with
    | true => exact bif_true hq rfl
    | false =>
      obtain ⟨hd18, hv⟩ := fwd (by simpa using hq)
      refine bif_false hq (bif_true (decide_eq_true (by omega)) (bif_true (decide_eq_true hsz) (bif_false (by rw [hd18]; rfl) (bif_false (by rw [hd18]; rfl) (bif_false ?_ ?_)))))
      · rw [hd18]
        show (((x2.map normE).length : Int) != (x2.length : Int)) = false
        rw [List.length_map]
        simp
      · rw [loop6 L2 hd18 hv]
        rfl
end Go.Proofs.YtkdbccloniaogaaS
