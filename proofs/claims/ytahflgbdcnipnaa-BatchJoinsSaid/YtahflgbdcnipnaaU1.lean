/- Loops of the chapter, in plain words. Conditions: none. -/
import Derived.Test.YtahflgbdcnipnaaF1
import Derived.Test.YtahflgbdcnipnaaSimPure
set_option linter.unusedVariables false
set_option linter.unusedSimpArgs false
set_option maxRecDepth 10000
namespace Go.Proofs.YtahflgbdcnipnaaS
open Go Go.Proofs
def huge : Nat := 4611686018427387904
def same1 (xs ys : List (List PV)) (i : Nat) : Bool := !(pInt ((xs.getD i []).headD PV.undef) != pInt ((ys.getD i []).headD PV.undef))
def same2 (xs ys : List (List PV)) (i : Nat) : Bool := pInt ((xs.getD i []).headD PV.undef) == pInt ((ys.getD i []).headD PV.undef) && (pInt ((xs.getD i []).tail.headD PV.undef) == pInt ((ys.getD i []).tail.headD PV.undef) && true)
def same3 (xs ys : List (List PV)) (i : Nat) : Bool := pInt ((xs.getD i []).headD PV.undef) == pInt ((ys.getD i []).headD PV.undef) && (pInt ((xs.getD i []).tail.headD PV.undef) == pInt ((ys.getD i []).tail.headD PV.undef) && (pInt ((xs.getD i []).tail.tail.headD PV.undef) == pInt ((ys.getD i []).tail.tail.headD PV.undef) && true) && true)
/-- Lists of the same elements. -/
def alike (p : List (List PV) → List (List PV) → Nat → Bool) (xs ys : List (List PV)) : Bool := (xs.length == ys.length) && (List.range' 0 xs.length).all (p xs ys)
theorem Meant.cells {P : Program} {ps : List PV} (hm : Meant P ps) (i : Nat) {cs : List PV} (hp : ps[i]? = some (.agg cs)) : Meant P cs := by
  obtain ⟨w, S, v, hv⟩ := hm.get hp
  simp only [VP] at hv
  obtain ⟨us, _, h⟩ := hv
  exact ⟨w, S, us, h⟩
theorem loopN_more {σ τ : Type} {stp : σ → Option (σ ⊕ τ)} : ∀ (k : Nat) (a : σ) (b : τ), loopN stp k a = some b → ∀ m, loopN stp (k + m) a = some b := by
  intro k
  induction k with
  | zero => intro a b h; cases h
  | succ k ih =>
    intro a b h m
    rw [Nat.add_right_comm, loopN_succ]
    rw [loopN_succ] at h
    cases hs : stp a with
    | none => rw [hs] at h; cases h
    | some r =>
      rw [hs] at h
      cases r with
      | inl y => exact ih y b h m
      | inr z => exact h
theorem alike1_refl (xs : List (List PV)) : alike same1 xs xs = true := by
  unfold alike
  rw [beq_self_eq_true, Bool.true_and, all_range']
  intro j _ _
  simp [same1]
theorem alike2_refl (xs : List (List PV)) : alike same2 xs xs = true := by
  unfold alike
  rw [beq_self_eq_true, Bool.true_and, all_range']
  intro j _ _
  simp [same2]
theorem alike3_refl (xs : List (List PV)) : alike same3 xs xs = true := by
  unfold alike
  rw [beq_self_eq_true, Bool.true_and, all_range']
  intro j _ _
  simp [same3]
theorem most_ok {n : Nat} (h : n ≤ 1000) : decide (n ≤ most) = true := decide_eq_true (show n ≤ 1000000 by omega)
theorem huge_ok {n : Nat} (h : n ≤ 1000) : n ≤ huge := show n ≤ 4611686018427387904 by omega
theorem val10 {xs ys : List (List PV)} (hl : xs.length ≤ huge) : ∃ N, f10 N xs ys = some (.r0 (alike same3 xs ys)) := by
  refine ⟨xs.length + 1, ?_⟩
  unfold f10 alike
  by_cases e : xs.length = ys.length
  · have e1 : ((xs.length : Int) != (ys.length : Int)) = false := by simp [e]
    have e2 : (xs.length == ys.length) = true := by simp [e]
    have hl' : xs.length ≤ 4611686018427387904 := hl
    rw [e1, cond_false, e2, Bool.true_and]
    have h := loop_all (stp := f10L0r (xs.length + 1) xs ys) (fun i => .s0 (i : Int)) .e0 .e1 (same3 xs ys) xs.length
      (fun i hi hp => by
        have h1 : decide ((i : Int) < (xs.length : Int)) = true := decide_eq_true (by omega)
        have h2 : decide ((0 : Int) ≤ (i : Int)) = true := decide_eq_true (by omega)
        have h3 : decide ((i : Int) < (ys.length : Int)) = true := decide_eq_true (by omega)
        unfold same3 at hp
        simp only [f10L0r, f10L0it5, Tr.run, Int.toNat_natCast, h1, h2, h3, wrap_next (i := i) (by omega), Bool.and_self, cond_true, hp, Bool.not_true, cond_false])
      (fun i hi hp => by
        have h1 : decide ((i : Int) < (xs.length : Int)) = true := decide_eq_true (by omega)
        have h2 : decide ((0 : Int) ≤ (i : Int)) = true := decide_eq_true (by omega)
        have h3 : decide ((i : Int) < (ys.length : Int)) = true := decide_eq_true (by omega)
        unfold same3 at hp
        simp only [f10L0r, f10L0it5, Tr.run, Int.toNat_natCast, h1, h2, h3, Bool.and_self, cond_true, hp, Bool.not_false, cond_true])
      (by
        have h1 : decide ((xs.length : Int) < (xs.length : Int)) = false := decide_eq_false (by omega)
        simp only [f10L0r, f10L0it5, Tr.run, h1, cond_false]) xs.length 0 (by omega)
    have h' : loopN (f10L0r (xs.length + 1) xs ys) (xs.length + 1) (.s0 (0 : Int)) = some (bif (List.range' 0 xs.length).all (same3 xs ys) then .e1 else .e0) := h
    rw [h']
    cases (List.range' 0 xs.length).all (same3 xs ys) <;> rfl
  · have e1 : ((xs.length : Int) != (ys.length : Int)) = true := by
      simp only [bne_iff_ne]
      omega
    have e2 : (xs.length == ys.length) = false := by simp [e]
    rw [e1, cond_true, e2, Bool.false_and]
    rfl
noncomputable def f10O : Ora := ⟨fun ps => okPs [(false, [.list 49]), (false, [.list 49])] ps && decide ((pList (ps.headD .undef)).length ≤ huge), fun ps => .pv (.bool (alike same3 (pList (ps.headD .undef)) (pList (ps.tail.headD .undef))))⟩
theorem f10_spec : Spec Try.prog 10 f10O := spec_at 100 [(false, [.list 49]), (false, [.list 49])] (fun ps => decide ((pList (ps.headD .undef)).length ≤ huge)) _ mixed fun ps hm hs hp => by
  obtain ⟨N, h1⟩ := val10 (xs := pList (ps.headD .undef)) (ys := pList (ps.tail.headD .undef)) (of_decide_eq_true hp)
  refine ⟨E1 N, _, rfl, E1_ok N, ?_, .inl rfl⟩
  have := f10_run N (pList (ps.headD .undef)) (pList (ps.tail.headD .undef))
  rw [h1] at this
  exact this
theorem val18 {xs ys : List (List PV)} (hl : xs.length ≤ huge) : ∃ N, f18 N xs ys = some (.r0 (alike same1 xs ys)) := by
  refine ⟨xs.length + 1, ?_⟩
  unfold f18 alike
  by_cases e : xs.length = ys.length
  · have e1 : ((xs.length : Int) != (ys.length : Int)) = false := by simp [e]
    have e2 : (xs.length == ys.length) = true := by simp [e]
    have hl' : xs.length ≤ 4611686018427387904 := hl
    rw [e1, cond_false, e2, Bool.true_and]
    have h := loop_all (stp := f18L0r (xs.length + 1) xs ys) (fun i => .s0 (i : Int)) .e0 .e1 (same1 xs ys) xs.length
      (fun i hi hp => by
        have h1 : decide ((i : Int) < (xs.length : Int)) = true := decide_eq_true (by omega)
        have h2 : decide ((0 : Int) ≤ (i : Int)) = true := decide_eq_true (by omega)
        have h3 : decide ((i : Int) < (ys.length : Int)) = true := decide_eq_true (by omega)
        have hp2 : (pInt ((xs.getD i []).headD PV.undef) != pInt ((ys.getD i []).headD PV.undef)) = !(same1 xs ys i) := by simp [same1]
        rw [hp] at hp2
        simp only [f18L0r, f18L0it5, Tr.run, Int.toNat_natCast, h1, h2, h3, wrap_next (i := i) (by omega), Bool.and_self, cond_true, hp2, Bool.not_true, cond_false])
      (fun i hi hp => by
        have h1 : decide ((i : Int) < (xs.length : Int)) = true := decide_eq_true (by omega)
        have h2 : decide ((0 : Int) ≤ (i : Int)) = true := decide_eq_true (by omega)
        have h3 : decide ((i : Int) < (ys.length : Int)) = true := decide_eq_true (by omega)
        have hp2 : (pInt ((xs.getD i []).headD PV.undef) != pInt ((ys.getD i []).headD PV.undef)) = !(same1 xs ys i) := by simp [same1]
        rw [hp] at hp2
        simp only [f18L0r, f18L0it5, Tr.run, Int.toNat_natCast, h1, h2, h3, Bool.and_self, cond_true, hp2, Bool.not_false, cond_true])
      (by
        have h1 : decide ((xs.length : Int) < (xs.length : Int)) = false := decide_eq_false (by omega)
        simp only [f18L0r, f18L0it5, Tr.run, h1, cond_false]) xs.length 0 (by omega)
    have h' : loopN (f18L0r (xs.length + 1) xs ys) (xs.length + 1) (.s0 (0 : Int)) = some (bif (List.range' 0 xs.length).all (same1 xs ys) then .e1 else .e0) := h
    rw [h']
    cases (List.range' 0 xs.length).all (same1 xs ys) <;> rfl
  · have e1 : ((xs.length : Int) != (ys.length : Int)) = true := by
      simp only [bne_iff_ne]
      omega
    have e2 : (xs.length == ys.length) = false := by simp [e]
    rw [e1, cond_true, e2, Bool.false_and]
    rfl
noncomputable def f18O : Ora := ⟨fun ps => okPs [(false, [.list 3]), (false, [.list 3])] ps && decide ((pList (ps.headD .undef)).length ≤ huge), fun ps => .pv (.bool (alike same1 (pList (ps.headD .undef)) (pList (ps.tail.headD .undef))))⟩
theorem f18_spec : Spec Try.prog 18 f18O := spec_at 100 [(false, [.list 3]), (false, [.list 3])] (fun ps => decide ((pList (ps.headD .undef)).length ≤ huge)) _ mixed fun ps hm hs hp => by
  obtain ⟨N, h1⟩ := val18 (xs := pList (ps.headD .undef)) (ys := pList (ps.tail.headD .undef)) (of_decide_eq_true hp)
  refine ⟨E1 N, _, rfl, E1_ok N, ?_, .inl rfl⟩
  have := f18_run N (pList (ps.headD .undef)) (pList (ps.tail.headD .undef))
  rw [h1] at this
  exact this
theorem step11 {N i : Nat} {xs acc : List (List PV)} (hc : ∀ e ∈ xs, cfs [.int .i64, .int .i64, .int .i64] e) (hi : i < xs.length) (hl : xs.length ≤ most) (ha : acc.length + 1 ≤ most) :
    f11L0r N xs (.s2 i acc) = some (.inl (.s2 ((i + 1 : Nat) : Int) (acc ++ [xs.getD i []]))) := by
  have h1 : decide ((i : Int) < (xs.length : Int)) = true := decide_eq_true (by omega)
  have h2 : decide ((0 : Int) ≤ (i : Int)) = true := decide_eq_true (by omega)
  have h3 : decide (acc.length + 1 ≤ most) = true := decide_eq_true ha
  have he := etas_at hc hi
  have he' : [PV.int IntKind.i64 (pInt ((xs.getD i []).headD PV.undef)), PV.int IntKind.i64 (pInt ((xs.getD i []).tail.headD PV.undef)), PV.int IntKind.i64 (pInt ((xs.getD i []).tail.tail.headD PV.undef))] = xs.getD i [] := he
  have hm : xs.length ≤ 1000000 := hl
  simp only [f11L0r, f11L0it12, f11L0it8, f11L0it9, f11t13, Tr.run, Int.toNat_natCast, he', h1, h2, List.length_cons, List.length_nil, Nat.zero_add, h3, wrap_next (i := i) (by omega), Bool.and_self, cond_true]
theorem loop11 {N : Nat} {xs : List (List PV)} (hc : ∀ e ∈ xs, cfs [.int .i64, .int .i64, .int .i64] e) (hl : xs.length ≤ most) :
    ∀ (k i : Nat), i + k = xs.length → loopN (f11L0r N xs) (k + 1) (.s2 i (xs.take i)) = some (.e2 xs)
  | 0, i, h => by
    have h1 : decide ((i : Int) < (xs.length : Int)) = false := decide_eq_false (by omega)
    refine loopN_end ?_
    simp only [f11L0r, f11L0it12, f11L0it8, f11L0it9, f11t13, Tr.run, h1, cond_false]
    rw [List.take_of_length_le (by omega)]
  | k + 1, i, h => by
    have hi : i < xs.length := by omega
    rw [loopN_next (step11 hc hi hl (by rw [List.length_take]; omega))]
    have : xs.take i ++ [xs.getD i []] = xs.take (i + 1) := by
      rw [List.take_add_one, List.getD_eq_getElem?_getD, List.getElem?_eq_getElem hi]
      rfl
    rw [this]
    exact loop11 hc hl k (i + 1) (by omega)
theorem val11 {xs : List (List PV)} (hc : ∀ e ∈ xs, cfs [.int .i64, .int .i64, .int .i64] e) (hl : xs.length ≤ most) : ∃ N o, f11 N xs = some o ∧ (f11W o).plain = .pv (.list 49 xs) := by
  match xs, hc, hl with
  | [], hc, hl => exact ⟨1, .r0 [], rfl, rfl⟩
  | [a], hc, hl =>
    have he := etas_at (i := 0) hc (by simp)
    refine ⟨2, .r1 [etas [.int .i64, .int .i64, .int .i64] a], rfl, ?_⟩
    show Res.pv (PV.list 49 [_]) = _
    rw [show etas [.int .i64, .int .i64, .int .i64] a = a from he]
  | a :: b :: l, hc, hl =>
    have h0 := etas_at (i := 0) hc (by simp)
    have h1 := etas_at (i := 1) hc (by simp)
    refine ⟨l.length + 3, .r0 (a :: b :: l), ?_, rfl⟩
    unfold f11
    have e0 : f11L0r (l.length + 3) (a :: b :: l) .s0 = some (.inl .s1) := by
      have : decide ((0 : Int) < (((a :: b :: l).length : Nat) : Int)) = true := decide_eq_true (by simp; omega)
      simp only [f11L0r, f11L0it12, f11L0it8, f11L0it9, f11t13, Tr.run, this]
      rfl
    have e1 : f11L0r (l.length + 3) (a :: b :: l) .s1 = some (.inl (.s2 ((2 : Nat) : Int) ((a :: b :: l).take 2))) := by
      have : decide ((1 : Int) < (((a :: b :: l).length : Nat) : Int)) = true := decide_eq_true (by simp; omega)
      have h0' : etas [.int .i64, .int .i64, .int .i64] a = a := h0
      have h1' : etas [.int .i64, .int .i64, .int .i64] b = b := h1
      have e : [a, b] = [etas [.int .i64, .int .i64, .int .i64] a, etas [.int .i64, .int .i64, .int .i64] b] := by rw [h0', h1']
      show _ = some (Sum.inl (f11L0s.s2 ((2 : Nat) : Int) [a, b]))
      rw [e]
      simp only [f11L0r, f11L0it12, f11L0it8, f11L0it9, f11t13, Tr.run, this]
      rfl
    rw [loopN_next e0, loopN_next e1, loop11 hc hl l.length 2 (by simp; omega)]
    rfl
/-- The same entries. -/
noncomputable def f11O : Ora := ⟨fun ps => okPs [(false, [.list 44])] ps && decide ((pList (ps.headD .undef)).length ≤ most), fun ps => .pv (.list 49 (pList (ps.headD .undef)))⟩
theorem f11_kinds : kinds Try.prog 44 = [.int .i64, .int .i64, .int .i64] := by kernel_rfl
theorem f11_spec : Spec Try.prog 11 f11O := spec_fit 100 f11rs [(false, [.list 44])] (fun ps => decide ((pList (ps.headD .undef)).length ≤ most)) _ mixed fun ps hm hs hp => by
  have hc := okPs_can hs
  have hcf := hm.list 0 (ks := [.int .i64, .int .i64, .int .i64]) (t := 44) (xs := pList (ps.headD .undef)) (by rw [← hc]; rfl) f11_kinds
  obtain ⟨N, o, h1, h2⟩ := val11 hcf (of_decide_eq_true hp)
  refine ⟨E1 N, f11W o, rfl, E1_ok N, ?_, .inr h2⟩
  have := f11_run N (pList (ps.headD .undef))
  rw [h1] at this
  exact this
end Go.Proofs.YtahflgbdcnipnaaS
