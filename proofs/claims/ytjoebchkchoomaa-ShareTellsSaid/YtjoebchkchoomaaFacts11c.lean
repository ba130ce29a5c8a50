/- A turn as the document has it, and its steps. Conditions: none. -/
import Derived.Test.YtjoebchkchoomaaFacts11b
set_option linter.unusedVariables false
set_option linter.unusedSimpArgs false
set_option maxRecDepth 10000
namespace Go.Proofs.YtjoebchkchoomaaS
open Go Go.Proofs
theorem eq_refl' (x : Int) : (x == x) = true := by simp
theorem ne_refl (x : Int) : (x != x) = false := by simp
theorem map_getD (xs : List (List PV)) (i : Nat) (hi : i < xs.length) : (xs.map box96).getD i [] = [PV.list 96 (pList ((xs.getD i []).headD PV.undef))] := by
  simp [List.getD_eq_getElem?_getD, hi, box96]
theorem and_tt {a b : Bool} (h : a = true) (k : b = true) : (a && b) = true := by rw [h, k]; rfl
/-- What a look at two turns asks for. -/
structure Fits (x : S38) : Prop where
  w : x.a14.length ≤ 1000
  n : x.a15.length ≤ 1000
  b : x.a20.length ≤ 1000
  k : x.a21.length ≤ 1000
  h : x.a22.length ≤ 1000
  t : x.a33.length ≤ 1000
  l : x.a35.length ≤ 1000
  bx : ∀ i, i < x.a15.length → (pList ((x.a15.getD i []).headD PV.undef)).length ≤ 1000
theorem fits_of {x : S38} (h : Small x) : Fits x := by
  obtain ⟨a, b, c, d, e, f, g, i⟩ := h
  exact ⟨by omega, by omega, by omega, by omega, by omega, by omega, by omega, fun k hk => by have := i k hk; omega⟩
theorem its_ok {x : S38} (h : Fits x) : itsOk x = true := by
  unfold itsOk
  refine and_tt (and_tt ?_ (most_ok h.n)) (and_tt (and_tt (most_ok h.b) (most_ok h.k)) (most_ok h.l))
  unfold memOk
  exact all_range'.2 fun i _ hi => most_ok (h.bx i (by simpa using hi))
theorem alike_its {x : S38} (h : Fits x) : f14 0 (itsR x) (itsR x) = some ⟨true⟩ := by
  have hw := h.w
  have hb := h.b
  have hk := h.k
  have hh := h.h
  have ht := h.t
  have hl := h.l
  have hn := h.n
  unfold f14 f14t0
  refine run_true (by simp) (run_true (eq_refl' _) (run_true (eq_refl' _) (run_true ?_ (run_true ?_ (run_true ?_ (run_true ?_ (run_true (decide_eq_true (huge_ok ht)) (run_true ?_ (run_true (decide_eq_true (huge_ok hl)) (run_true (alike6_refl _) ?_))))))))))
  · unfold pre20
    refine and_tt (decide_eq_true (huge_ok hw)) (and_tt ?_ (decide_eq_true (huge_ok (show (x.a15.map box96).length ≤ 1000 by rw [List.length_map]; exact hn))))
    unfold boxesOk
    refine all_range'.2 fun i _ hi => decide_eq_true (huge_ok ?_)
    have hi : i < (itsR x).a15.length := by simpa using hi
    have hi : i < (x.a15.map box96).length := hi
    rw [List.length_map] at hi
    show (pList (((x.a15.map box96).getD i []).headD PV.undef)).length ≤ 1000
    rw [map_getD _ _ hi]
    exact h.bx i hi
  · unfold same20
    rw [alike1_refl]
    simp only [Bool.true_and]
    rw [show ((itsR x).a15.length == (itsR x).a15.length) = true by simp, Bool.true_and]
    refine all_range'.2 fun i _ hi => ?_
    unfold sameB
    exact alike3_refl _
  · unfold preT
    exact and_tt (decide_eq_true (huge_ok hb)) (and_tt (decide_eq_true (huge_ok hh)) (decide_eq_true (huge_ok hk)))
  · unfold sameT
    rw [alike3_refl, alike1_refl, alike2_refl]
    simp [numsR]
  · unfold tapeS
    rw [alike1_refl]
    simp
  · simp [Tr.run]
theorem its_settle (x : S38) : settleQ (itsR x) = itsR (settleR x) := by
  unfold settleQ settleR
  show (bif (decide (0 ≤ x.a25) && decide (x.a25 < (x.a21.length : Int))) then _ else _) = itsR (bif (decide (0 ≤ x.a25) && decide (x.a25 < (x.a21.length : Int))) then _ else _)
  cases decide (0 ≤ x.a25) && decide (x.a25 < (x.a21.length : Int)) <;> rfl
theorem prior_its {x : S38} (h : Nums x) : priorQ (itsR x) = priorR x :=
  allR_eq x.a9 x.a10 h.lo _ _ (fun e he => h.es e (List.mem_of_mem_take he)) h.x
theorem its_wait (x : S38) : waitQ (itsR x) = itsR (waitR x) := by
  unfold waitQ waitR
  show (bif inB x.a14 (lineT x x.a12) then (bif (wordAt x.a14 (lineT x x.a12) == 5) then _ else _) else _) = itsR (bif inB x.a14 (lineT x x.a12) then (bif (wordAt x.a14 (lineT x x.a12) == 5) then _ else _) else _)
  cases inB x.a14 (lineT x x.a12)
  · rfl
  · cases (wordAt x.a14 (lineT x x.a12) == 5) <;> rfl
theorem its_fetch (x : S38) : fetchQ (itsR x) = itsR (fetchR x) := by
  unfold fetchQ fetchR
  show (bif inB x.a14 (resT x x.a12) then _ else _) = itsR (bif inB x.a14 (resT x x.a12) then _ else _)
  cases inB x.a14 (resT x x.a12)
  · rfl
  · simp only [cond_true]
    exact its_settle { x with a25 := 0, a30 := wordAt x.a14 (resT x x.a12) }
theorem its_share {x : S38} (h : Nums x) : shareQ (itsR x) = itsR (shareR x) := by
  unfold shareQ shareR
  rw [prior_its h]
  show (bif hasKid x then (bif inB x.a14 (resT x (kidT x)) then _ else _) else _) = itsR (bif hasKid x then (bif inB x.a14 (resT x (kidT x)) then _ else _) else _)
  cases hasKid x
  · rfl
  · cases inB x.a14 (resT x (kidT x)) <;> rfl
theorem its_tell (x : S38) : tellQ (itsR x) = itsR (tellR x) := by
  unfold tellQ tellR
  show (bif hasKid x then (bif inB x.a14 (lineT x (kidT x)) then _ else _) else _) = itsR (bif hasKid x then (bif inB x.a14 (lineT x (kidT x)) then _ else _) else _)
  cases hasKid x
  · rfl
  · cases inB x.a14 (lineT x (kidT x))
    · rfl
    · simp only [cond_true]
      exact its_settle { x with a14 := x.a14.set (lineT x (kidT x)).toNat [PV.int .i64 5], a25 := IntKind.i64.wrap (x.a25 + 1) }
theorem its_step {x : S38} (h : Nums x) : stepQ (itsR x) = itsR (stepT x) := by
  unfold stepQ stepT
  show (bif (x.a16 == 13) then waitQ (itsR x) else bif (x.a16 == 14) then fetchQ (itsR x) else bif (x.a16 == 15) then shareQ (itsR x) else bif (x.a16 == 16) then tellQ (itsR x) else itsR x) = _
  rw [its_wait, its_fetch, its_share h, its_tell]
  cases (x.a16 == 13) <;> cases (x.a16 == 14) <;> cases (x.a16 == 15) <;> cases (x.a16 == 16) <;> rfl
/-- What a step leaves: the words, or one of them. -/
structure Left (x y : S38) : Prop where
  same : y = { x with a14 := y.a14, a16 := y.a16, a25 := y.a25, a30 := y.a30, a36 := y.a36 }
  w : y.a14 = x.a14 ∨ (x.a16 = 15 ∧ hasKid x = true ∧ ∃ v : Int, y.a14 = x.a14.set (resT x (kidT x)).toNat [PV.int .i64 v]) ∨ (x.a16 = 16 ∧ hasKid x = true ∧ ∃ v : Int, y.a14 = x.a14.set (lineT x (kidT x)).toNat [PV.int .i64 v])
theorem settle_same (x : S38) : settleR x = { x with a16 := (settleR x).a16, a36 := (settleR x).a36 } := by
  unfold settleR
  cases decide (0 ≤ x.a25) && decide (x.a25 < (x.a21.length : Int)) <;> rfl
theorem settle_left {x y : S38} (h : y = { x with a14 := y.a14, a16 := y.a16, a25 := y.a25, a30 := y.a30, a36 := y.a36 }) : settleR y = { x with a14 := (settleR y).a14, a16 := (settleR y).a16, a25 := (settleR y).a25, a30 := (settleR y).a30, a36 := (settleR y).a36 } := by
  rw [h]
  unfold settleR
  dsimp only
  cases decide (0 ≤ y.a25) && decide (y.a25 < (x.a21.length : Int)) <;> rfl
theorem step_left (x : S38) : Left x (stepT x) := by
  have refl : Left x x := ⟨rfl, .inl rfl⟩
  unfold stepT
  cases h13 : (x.a16 == 13)
  · cases h14 : (x.a16 == 14)
    · cases h15 : (x.a16 == 15)
      · cases h16 : (x.a16 == 16)
        · exact refl
        · simp only [cond_true, cond_false]
          unfold tellR
          cases hk : hasKid x
          · exact refl
          · cases hi : inB x.a14 (lineT x (kidT x))
            · exact refl
            · simp only [cond_true]
              refine ⟨settle_left rfl, .inr (.inr ⟨by simpa using h16, hk, 5, ?_⟩)⟩
              rw [(settle_eqs _).1]
      · simp only [cond_true, cond_false]
        unfold shareR
        cases hk : hasKid x
        · exact refl
        · cases hi : inB x.a14 (resT x (kidT x))
          · exact refl
          · exact ⟨rfl, .inr (.inl ⟨by simpa using h15, hk, _, rfl⟩)⟩
    · simp only [cond_true, cond_false]
      unfold fetchR
      cases hi : inB x.a14 (resT x x.a12)
      · exact refl
      · refine ⟨settle_left rfl, .inl ?_⟩
        simp only [cond_true]
        rw [(settle_eqs _).1]
  · simp only [cond_true, cond_false]
    unfold waitR
    cases hi : inB x.a14 (lineT x x.a12)
    · exact refl
    · cases (wordAt x.a14 (lineT x x.a12) == 5)
      · exact refl
      · exact ⟨rfl, .inl rfl⟩
theorem left_len {x y : S38} (h : Left x y) : y.a14.length = x.a14.length := by
  rcases h.w with e | ⟨_, _, v, e⟩ | ⟨_, _, v, e⟩ <;> rw [e]
  all_goals simp
theorem left_fits {x y : S38} (f : Fits x) (h : Left x y) : Fits y := by
  have hl := left_len h
  have e := h.same
  obtain ⟨a, b, c, d, g, i, j, k⟩ := f
  rw [e]
  exact ⟨by show y.a14.length ≤ 1000; omega, b, c, d, g, i, j, k⟩
end Go.Proofs.YtjoebchkchoomaaS
