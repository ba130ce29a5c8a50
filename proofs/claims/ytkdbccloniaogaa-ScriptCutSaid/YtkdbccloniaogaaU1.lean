/- Loops of the chapter, in plain words. Conditions: none. -/
import Derived.Test.YtkdbccloniaogaaF1
import Derived.Test.YtkdbccloniaogaaSimPure
set_option linter.unusedVariables false
set_option linter.unusedSimpArgs false
set_option maxRecDepth 10000
namespace Go.Proofs.YtkdbccloniaogaaS
open Go Go.Proofs
def huge : Nat := 4611686018427387904
def same1 (xs ys : List (List PV)) (i : Nat) : Bool := !(pInt ((xs.getD i []).headD PV.undef) != pInt ((ys.getD i []).headD PV.undef))
def same2 (xs ys : List (List PV)) (i : Nat) : Bool := pInt ((xs.getD i []).headD PV.undef) == pInt ((ys.getD i []).headD PV.undef) && (pInt ((xs.getD i []).tail.headD PV.undef) == pInt ((ys.getD i []).tail.headD PV.undef) && true)
def same3 (xs ys : List (List PV)) (i : Nat) : Bool := pInt ((xs.getD i []).headD PV.undef) == pInt ((ys.getD i []).headD PV.undef) && (pInt ((xs.getD i []).tail.headD PV.undef) == pInt ((ys.getD i []).tail.headD PV.undef) && (pInt ((xs.getD i []).tail.tail.headD PV.undef) == pInt ((ys.getD i []).tail.tail.headD PV.undef) && true) && true)
/-- Lists of the same elements. -/
def alike (p : List (List PV) → List (List PV) → Nat → Bool) (xs ys : List (List PV)) : Bool := (xs.length == ys.length) && (List.range' 0 xs.length).all (p xs ys)
theorem Meant.cells {P : Program} {ps : List PV} (hm : Meant P ps) (i : Nat) {cs : List PV} (hp : ps[i]? = some (.agg cs)) : Meant P cs := by
  obtain ⟨w, S, v, hv⟩ := hm.get hp
  simp only [VP] at hv
  obtain ⟨us, _, h⟩ := hv
  exact ⟨w, S, us, h⟩
theorem loopN_more {σ τ : Type} {stp : σ → Option (σ ⊕ τ)} : ∀ (k : Nat) (a : σ) (b : τ), loopN stp k a = some b → ∀ m, loopN stp (k + m) a = some b := by
  intro k
  induction k with
  | zero => intro a b h; cases h
  | succ k ih =>
    intro a b h m
    rw [Nat.add_right_comm, loopN_succ]
    rw [loopN_succ] at h
    cases hs : stp a with
    | none => rw [hs] at h; cases h
    | some r =>
      rw [hs] at h
      cases r with
      | inl y => exact ih y b h m
      | inr z => exact h
theorem alike1_refl (xs : List (List PV)) : alike same1 xs xs = true := by
  unfold alike
  rw [beq_self_eq_true, Bool.true_and, all_range']
  intro j _ _
  simp [same1]
theorem alike2_refl (xs : List (List PV)) : alike same2 xs xs = true := by
  unfold alike
  rw [beq_self_eq_true, Bool.true_and, all_range']
  intro j _ _
  simp [same2]
theorem alike3_refl (xs : List (List PV)) : alike same3 xs xs = true := by
  unfold alike
  rw [beq_self_eq_true, Bool.true_and, all_range']
  intro j _ _
  simp [same3]
theorem most_ok {n : Nat} (h : n ≤ 1000) : decide (n ≤ most) = true := decide_eq_true (show n ≤ 1000000 by omega)
theorem huge_ok {n : Nat} (h : n ≤ 1000) : n ≤ huge := show n ≤ 4611686018427387904 by omega
def same5 (xs ys : List (List PV)) (i : Nat) : Bool := pInt ((xs.getD i []).headD PV.undef) == pInt ((ys.getD i []).headD PV.undef) && (pInt ((xs.getD i []).tail.headD PV.undef) == pInt ((ys.getD i []).tail.headD PV.undef) && (pInt ((xs.getD i []).tail.tail.headD PV.undef) == pInt ((ys.getD i []).tail.tail.headD PV.undef) && (pInt ((xs.getD i []).tail.tail.tail.headD PV.undef) == pInt ((ys.getD i []).tail.tail.tail.headD PV.undef) && (pInt ((xs.getD i []).tail.tail.tail.tail.headD PV.undef) == pInt ((ys.getD i []).tail.tail.tail.tail.headD PV.undef) && true) && true)))
theorem val20 {xs ys : List (List PV)} (hl : xs.length ≤ huge) : ∃ N, f20 N xs ys = some (.r0 (alike same5 xs ys)) := by
  refine ⟨xs.length + 1, ?_⟩
  unfold f20 alike
  by_cases e : xs.length = ys.length
  · have e1 : ((xs.length : Int) != (ys.length : Int)) = false := by simp [e]
    have e2 : (xs.length == ys.length) = true := by simp [e]
    have hl' : xs.length ≤ 4611686018427387904 := hl
    rw [e1, cond_false, e2, Bool.true_and]
    have h := loop_all (stp := f20L0r (xs.length + 1) xs ys) (fun i => .s0 (i : Int)) .e0 .e1 (same5 xs ys) xs.length
      (fun i hi hp => by
        have h1 : decide ((i : Int) < (xs.length : Int)) = true := decide_eq_true (by omega)
        have h2 : decide ((0 : Int) ≤ (i : Int)) = true := decide_eq_true (by omega)
        have h3 : decide ((i : Int) < (ys.length : Int)) = true := decide_eq_true (by omega)
        unfold same5 at hp
        simp only [f20L0r, f20L0it5, Tr.run, Int.toNat_natCast, h1, h2, h3, wrap_next (i := i) (by omega), Bool.and_self, cond_true, hp, Bool.not_true, cond_false])
      (fun i hi hp => by
        have h1 : decide ((i : Int) < (xs.length : Int)) = true := decide_eq_true (by omega)
        have h2 : decide ((0 : Int) ≤ (i : Int)) = true := decide_eq_true (by omega)
        have h3 : decide ((i : Int) < (ys.length : Int)) = true := decide_eq_true (by omega)
        unfold same5 at hp
        simp only [f20L0r, f20L0it5, Tr.run, Int.toNat_natCast, h1, h2, h3, Bool.and_self, cond_true, hp, Bool.not_false, cond_true])
      (by
        have h1 : decide ((xs.length : Int) < (xs.length : Int)) = false := decide_eq_false (by omega)
        simp only [f20L0r, f20L0it5, Tr.run, h1, cond_false]) xs.length 0 (by omega)
    have h' : loopN (f20L0r (xs.length + 1) xs ys) (xs.length + 1) (.s0 (0 : Int)) = some (bif (List.range' 0 xs.length).all (same5 xs ys) then .e1 else .e0) := h
    rw [h']
    cases (List.range' 0 xs.length).all (same5 xs ys) <;> rfl
  · have e1 : ((xs.length : Int) != (ys.length : Int)) = true := by
      simp only [bne_iff_ne]
      omega
    have e2 : (xs.length == ys.length) = false := by simp [e]
    rw [e1, cond_true, e2, Bool.false_and]
    rfl
noncomputable def f20O : Ora := ⟨fun ps => okPs [(false, [.list 42]), (false, [.list 42])] ps && decide ((pList (ps.headD .undef)).length ≤ huge), fun ps => .pv (.bool (alike same5 (pList (ps.headD .undef)) (pList (ps.tail.headD .undef))))⟩
theorem f20_spec : Spec Try.prog 20 f20O := spec_at 100 [(false, [.list 42]), (false, [.list 42])] (fun ps => decide ((pList (ps.headD .undef)).length ≤ huge)) _ mixed fun ps hm hs hp => by
  obtain ⟨N, h1⟩ := val20 (xs := pList (ps.headD .undef)) (ys := pList (ps.tail.headD .undef)) (of_decide_eq_true hp)
  refine ⟨E0 N, _, rfl, E0_ok N, ?_, .inl rfl⟩
  have := f20_run N (pList (ps.headD .undef)) (pList (ps.tail.headD .undef))
  rw [h1] at this
  exact this
theorem step10 {N i : Nat} {xs acc : List (List PV)} (hc : ∀ e ∈ xs, cfs [.int .i64, .int .i64, .int .i64, .int .i64, .int .i64] e) (hi : i < xs.length) (hl : xs.length ≤ most) (ha : acc.length + 1 ≤ most) :
    f10L0r N xs (.s2 i acc) = some (.inl (.s2 ((i + 1 : Nat) : Int) (acc ++ [xs.getD i []]))) := by
  have h1 : decide ((i : Int) < (xs.length : Int)) = true := decide_eq_true (by omega)
  have h2 : decide ((0 : Int) ≤ (i : Int)) = true := decide_eq_true (by omega)
  have h3 : decide (acc.length + 1 ≤ most) = true := decide_eq_true ha
  have he := etas_at hc hi
  have he' : [PV.int IntKind.i64 (pInt ((xs.getD i []).headD PV.undef)), PV.int IntKind.i64 (pInt ((xs.getD i []).tail.headD PV.undef)), PV.int IntKind.i64 (pInt ((xs.getD i []).tail.tail.headD PV.undef)), PV.int IntKind.i64 (pInt ((xs.getD i []).tail.tail.tail.headD PV.undef)), PV.int IntKind.i64 (pInt ((xs.getD i []).tail.tail.tail.tail.headD PV.undef))] = xs.getD i [] := he
  have hm : xs.length ≤ 1000000 := hl
  simp only [f10L0r, f10L0it12, f10L0it8, f10L0it9, f10t13, Tr.run, Int.toNat_natCast, he', h1, h2, List.length_cons, List.length_nil, Nat.zero_add, h3, wrap_next (i := i) (by omega), Bool.and_self, cond_true]
theorem loop10 {N : Nat} {xs : List (List PV)} (hc : ∀ e ∈ xs, cfs [.int .i64, .int .i64, .int .i64, .int .i64, .int .i64] e) (hl : xs.length ≤ most) :
    ∀ (k i : Nat), i + k = xs.length → loopN (f10L0r N xs) (k + 1) (.s2 i (xs.take i)) = some (.e2 xs)
  | 0, i, h => by
    have h1 : decide ((i : Int) < (xs.length : Int)) = false := decide_eq_false (by omega)
    refine loopN_end ?_
    simp only [f10L0r, f10L0it12, f10L0it8, f10L0it9, f10t13, Tr.run, h1, cond_false]
    rw [List.take_of_length_le (by omega)]
  | k + 1, i, h => by
    have hi : i < xs.length := by omega
    rw [loopN_next (step10 hc hi hl (by rw [List.length_take]; omega))]
    have : xs.take i ++ [xs.getD i []] = xs.take (i + 1) := by
      rw [List.take_add_one, List.getD_eq_getElem?_getD, List.getElem?_eq_getElem hi]
      rfl
    rw [this]
    exact loop10 hc hl k (i + 1) (by omega)
theorem val10 {xs : List (List PV)} (hc : ∀ e ∈ xs, cfs [.int .i64, .int .i64, .int .i64, .int .i64, .int .i64] e) (hl : xs.length ≤ most) : ∃ N o, f10 N xs = some o ∧ (f10W o).plain = .pv (.list 42 xs) := by
  match xs, hc, hl with
  | [], hc, hl => exact ⟨1, .r0 [], rfl, rfl⟩
  | [a], hc, hl =>
    have he := etas_at (i := 0) hc (by simp)
    refine ⟨2, .r1 [etas [.int .i64, .int .i64, .int .i64, .int .i64, .int .i64] a], rfl, ?_⟩
    show Res.pv (PV.list 42 [_]) = _
    rw [show etas [.int .i64, .int .i64, .int .i64, .int .i64, .int .i64] a = a from he]
  | a :: b :: l, hc, hl =>
    have h0 := etas_at (i := 0) hc (by simp)
    have h1 := etas_at (i := 1) hc (by simp)
    refine ⟨l.length + 3, .r0 (a :: b :: l), ?_, rfl⟩
    unfold f10
    have e0 : f10L0r (l.length + 3) (a :: b :: l) .s0 = some (.inl .s1) := by
      have : decide ((0 : Int) < (((a :: b :: l).length : Nat) : Int)) = true := decide_eq_true (by simp; omega)
      simp only [f10L0r, f10L0it12, f10L0it8, f10L0it9, f10t13, Tr.run, this]
      rfl
    have e1 : f10L0r (l.length + 3) (a :: b :: l) .s1 = some (.inl (.s2 ((2 : Nat) : Int) ((a :: b :: l).take 2))) := by
      have : decide ((1 : Int) < (((a :: b :: l).length : Nat) : Int)) = true := decide_eq_true (by simp; omega)
      have h0' : etas [.int .i64, .int .i64, .int .i64, .int .i64, .int .i64] a = a := h0
      have h1' : etas [.int .i64, .int .i64, .int .i64, .int .i64, .int .i64] b = b := h1
      have e : [a, b] = [etas [.int .i64, .int .i64, .int .i64, .int .i64, .int .i64] a, etas [.int .i64, .int .i64, .int .i64, .int .i64, .int .i64] b] := by rw [h0', h1']
      show _ = some (Sum.inl (f10L0s.s2 ((2 : Nat) : Int) [a, b]))
      rw [e]
      simp only [f10L0r, f10L0it12, f10L0it8, f10L0it9, f10t13, Tr.run, this]
      rfl
    rw [loopN_next e0, loopN_next e1, loop10 hc hl l.length 2 (by simp; omega)]
    rfl
/-- The same entries. -/
noncomputable def f10O : Ora := ⟨fun ps => okPs [(false, [.list 38])] ps && decide ((pList (ps.headD .undef)).length ≤ most), fun ps => .pv (.list 42 (pList (ps.headD .undef)))⟩
theorem f10_kinds : kinds Try.prog 38 = [.int .i64, .int .i64, .int .i64, .int .i64, .int .i64] := by kernel_rfl
theorem f10_spec : Spec Try.prog 10 f10O := spec_fit 100 f10rs [(false, [.list 38])] (fun ps => decide ((pList (ps.headD .undef)).length ≤ most)) _ mixed fun ps hm hs hp => by
  have hc := okPs_can hs
  have hcf := hm.list 0 (ks := [.int .i64, .int .i64, .int .i64, .int .i64, .int .i64]) (t := 38) (xs := pList (ps.headD .undef)) (by rw [← hc]; rfl) f10_kinds
  obtain ⟨N, o, h1, h2⟩ := val10 hcf (of_decide_eq_true hp)
  refine ⟨E0 N, f10W o, rfl, E0_ok N, ?_, .inr h2⟩
  have := f10_run N (pList (ps.headD .undef))
  rw [h1] at this
  exact this
theorem alike5_refl (xs : List (List PV)) : alike same5 xs xs = true := by
  unfold alike
  rw [beq_self_eq_true, Bool.true_and, all_range']
  intro j _ _
  simp [same5]
/-- All bytes that an entry could have. -/
def u8 (n : Int) : List PV := [PV.int .u8 (IntKind.u8.wrap n)]
def vByte (v : Int) (s : Nat) : List PV := u8 (v.fdiv (2 ^ s))
def by12 (x : S38) : List (List PV) := [u8 x.a0, u8 x.a1, u8 x.a2, u8 x.a3, vByte x.a4 56, vByte x.a4 48, vByte x.a4 40, vByte x.a4 32, vByte x.a4 24, vByte x.a4 16, vByte x.a4 8, vByte x.a4 0]
theorem f26_val (x : S38) : f26 12 x = some ⟨by12 x⟩ := by kernel_rfl
noncomputable def f26P : Ora := ⟨fun ps => okPs [S38k] ps && true, fun ps => .pv (.list 5 (by12 (S38r (ps.headD PV.undef))))⟩
theorem f26P_spec : Spec Try.prog 26 f26P := spec_fit 100 f26rs [S38k] (fun ps => true) _ mixed fun ps hm hs hp => by
  have hc : canPs [S38k] ps = [S38v (S38r (ps.headD PV.undef))] := by kernel_rfl
  refine ⟨E0 12, _, rfl, E0_ok 12, ?_, .inl rfl⟩
  rw [hc, f26_run, f26_val]
  rfl
end Go.Proofs.YtkdbccloniaogaaS
