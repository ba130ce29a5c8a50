/- The pure statement that is left of ShareTells. Conditions: the numbers' own ranges. -/
import Derived.Test.YtjoebchkchoomaaFacts11d
import Derived.Test.YtjoebchkchoomaaF5x5
import Derived.Test.YtjoebchkchoomaaSimPure
set_option linter.unusedVariables false
set_option linter.unusedSimpArgs false
set_option maxRecDepth 10000
namespace Go.Proofs.YtjoebchkchoomaaS
open Go Go.Proofs
theorem set_other {ws : List (List PV)} {i j : Int} {p : List PV} (h0 : 0 ≤ i) (h1 : 0 ≤ j) (h : i ≠ j) : wordAt (ws.set i.toNat p) j = wordAt ws j := by
  unfold wordAt
  have : i.toNat ≠ j.toNat := by omega
  simp [List.getD_eq_getElem?_getD, List.getElem?_set_ne this]
/-- A kid's thread, and what is ahead of it. -/
def kT (x0 : S38) (k : Nat) : Int := pInt ((x0.a21.getD k []).headD PV.undef)
def kA (x0 : S38) (k : Nat) : Int := pInt ((x0.a21.getD k []).tail.headD PV.undef)
def kL (x0 : S38) (k : Nat) : Int := lineT x0 (kT x0 k)
noncomputable def kP (x0 : S38) (k : Nat) : Int := allOf (x0.a20.take (uptoN x0.a20 (kA x0 k))) x0.a30 x0.a9 x0.a10
/-- The words behind so many kids told. -/
noncomputable def wordsAt (x0 : S38) : Nat → List (List PV)
  | 0 => x0.a14
  | k + 1 => ((wordsAt x0 k).set (resT x0 (kT x0 k)).toNat [PV.int .i64 (kP x0 k)]).set (kL x0 k).toNat [PV.int .i64 5]
noncomputable def stAt (x0 : S38) (k : Nat) : S38 := { x0 with a14 := wordsAt x0 k, a16 := bif decide (k < x0.a21.length) then 15 else 0, a25 := (k : Int), a36 := !decide (k < x0.a21.length) }
theorem words_len (x0 : S38) : ∀ k, (wordsAt x0 k).length = x0.a14.length
  | 0 => rfl
  | k + 1 => by
    simp only [wordsAt, List.length_set]
    exact words_len x0 k
structure Kids (x0 : S38) : Prop where
  m : May x0
  t0 : ∀ k, k < x0.a21.length → 0 ≤ kT x0 k
  t1 : ∀ k, k < x0.a21.length → kT x0 k < x0.a0
theorem kid_place {x0 : S38} (h : Kids x0) {k : Nat} (hk : k < x0.a21.length) : 0 ≤ kL x0 k ∧ resT x0 (kT x0 k) = kL x0 k + 1 ∧ kL x0 k + 1 < (x0.a14.length : Int) ∧ kL x0 k = x0.a1 * blockOf x0.a3 x0.a4 x0.a5 + 2 * kT x0 k := place_val h.m (h.t0 k hk) (h.t1 k hk)
theorem words_told {x0 : S38} (h : Kids x0) : ∀ k, k ≤ x0.a21.length → ∀ i, i < k → wordAt (wordsAt x0 k) (kL x0 i) = 5
  | 0, _, i, hi => by omega
  | k + 1, hk, i, hi => by
    obtain ⟨p0, p1, p2, p3⟩ := kid_place h (k := k) (by omega)
    obtain ⟨q0, q1, q2, q3⟩ := kid_place h (k := i) (by omega)
    have hl := words_len x0 k
    simp only [wordsAt]
    by_cases e : kL x0 k = kL x0 i
    · rw [← e, set_at p0 (by rw [List.length_set, hl]; omega)]
    · have hik : i ≠ k := fun q => e (by rw [q])
      rw [set_other p0 q0 e, p1, set_other (by omega) q0 (by omega)]
      exact words_told h k (by omega) i (by omega)
theorem words_prior {x0 : S38} (h : Kids x0) : ∀ k, k ≤ x0.a21.length → ∀ i, i < k → (∀ j, i < j → j < k → kT x0 j ≠ kT x0 i) → wordAt (wordsAt x0 k) (kL x0 i + 1) = kP x0 i
  | 0, _, i, hi, _ => by omega
  | k + 1, hk, i, hi, hn => by
    obtain ⟨p0, p1, p2, p3⟩ := kid_place h (k := k) (by omega)
    obtain ⟨q0, q1, q2, q3⟩ := kid_place h (k := i) (by omega)
    have hl := words_len x0 k
    simp only [wordsAt]
    rw [set_other p0 (by omega) (by omega), p1]
    by_cases e : i = k
    · rw [e, set_at (by omega) (by rw [hl]; omega)]
    · have ht := hn k (by omega) (by omega)
      rw [set_other (by omega) (by omega) (by omega)]
      exact words_prior h k (by omega) i (by omega) fun j h1 h2 => hn j h1 (by omega)
noncomputable def midAt (x0 : S38) (k : Nat) : S38 := { stAt x0 k with a14 := (wordsAt x0 k).set (resT x0 (kT x0 k)).toNat [PV.int .i64 (kP x0 k)], a16 := 16 }
theorem st_now {x0 : S38} {k : Nat} (hk : k < x0.a21.length) : stAt x0 k = { x0 with a14 := wordsAt x0 k, a16 := 15, a25 := (k : Int), a36 := false } := by
  unfold stAt
  rw [decide_eq_true hk]
  rfl
theorem st_end {x0 : S38} {k : Nat} (hk : ¬ k < x0.a21.length) : stAt x0 k = { x0 with a14 := wordsAt x0 k, a16 := 0, a25 := (k : Int), a36 := true } := by
  unfold stAt
  rw [decide_eq_false hk]
  rfl
theorem in_kids {n k : Nat} (hk : k < n) : (decide ((0 : Int) ≤ (k : Int)) && decide ((k : Int) < (n : Int))) = true := in_dec (by omega) (by omega)
theorem step_share {x0 : S38} (h : Kids x0) {k : Nat} (hk : k < x0.a21.length) : stepT (stAt x0 k) = midAt x0 k := by
  obtain ⟨p0, p1, p2, p3⟩ := kid_place h hk
  have e1 : stepT (stAt x0 k) = shareR (stAt x0 k) := by rw [st_now hk]; rfl
  rw [e1]
  unfold shareR
  have h1 : hasKid (stAt x0 k) = true := in_kids hk
  have h2 : inB (stAt x0 k).a14 (resT (stAt x0 k) (kidT (stAt x0 k))) = true := by
    show inB (wordsAt x0 k) (resT x0 (kT x0 k)) = true
    exact inB_true.2 ⟨by omega, by rw [words_len]; omega⟩
  rw [h1, h2]
  rfl
theorem settle_now {x : S38} (h : (decide (0 ≤ x.a25) && decide (x.a25 < (x.a21.length : Int))) = true) : settleR x = { x with a16 := 15 } := by
  unfold settleR
  rw [h]
  rfl
theorem settle_end {x : S38} (h : (decide (0 ≤ x.a25) && decide (x.a25 < (x.a21.length : Int))) = false) : settleR x = { x with a16 := 0, a36 := true } := by
  unfold settleR
  rw [h]
  rfl
theorem settle_st {x0 : S38} {k : Nat} {a : Int} (ha : a = (k : Int)) (y : S38) (hy : y = { x0 with a14 := wordsAt x0 k, a16 := y.a16, a25 := a, a36 := false }) : settleR y = stAt x0 k := by
  subst ha
  by_cases hk : k < x0.a21.length
  · rw [st_now hk, settle_now (x := y) (by rw [hy]; exact in_kids hk), hy]
  · rw [st_end hk, settle_end (x := y) (by rw [hy]; show (decide ((0 : Int) ≤ (k : Int)) && decide ((k : Int) < (x0.a21.length : Int))) = false; rw [decide_eq_false (show ¬ (k : Int) < (x0.a21.length : Int) by omega), Bool.and_false]), hy]
theorem step_tell {x0 : S38} (h : Kids x0) (hn : x0.a21.length ≤ 20) {k : Nat} (hk : k < x0.a21.length) : stepT (midAt x0 k) = stAt x0 (k + 1) := by
  obtain ⟨p0, p1, p2, p3⟩ := kid_place h hk
  have e1 : stepT (midAt x0 k) = tellR (midAt x0 k) := rfl
  rw [e1]
  unfold tellR
  have h1 : hasKid (midAt x0 k) = true := in_kids hk
  have h2 : inB (midAt x0 k).a14 (lineT (midAt x0 k) (kidT (midAt x0 k))) = true := by
    show inB ((wordsAt x0 k).set (resT x0 (kT x0 k)).toNat [PV.int .i64 (kP x0 k)]) (kL x0 k) = true
    exact inB_true.2 ⟨p0, by rw [List.length_set, words_len]; omega⟩
  rw [h1, h2]
  simp only [cond_true]
  refine settle_st (x0 := x0) (k := k + 1) (a := IntKind.i64.wrap ((k : Int) + 1)) (wrap_next (i := k) (by omega)) _ ?_
  unfold midAt
  rw [st_now hk]
  rfl
def s6 (c : Int) (y : S38) : f5L6s := .s0 c (y).a0 (y).a1 (y).a2 (y).a3 (y).a4 (y).a5 (y).a6 (y).a7 (y).a8 (y).a9 (y).a10 (y).a11 (y).a12 (y).a13 (y).a14 (y).a15 (y).a16 (y).a17 (y).a18 (y).a19 (y).a20 (y).a21 (y).a22 (y).a23 (y).a24 (y).a25 (y).a26 (y).a27 (y).a28 (y).a29 (y).a30 (y).a31 (y).a32 (y).a33 (y).a34 (y).a35 (y).a36
def e6 (c : Int) (y : S38) : f5L6e := .e1 c (y).a0 (y).a1 (y).a2 (y).a3 (y).a4 (y).a5 (y).a6 (y).a7 (y).a8 (y).a9 (y).a10 (y).a11 (y).a12 (y).a13 (y).a14 (y).a15 (y).a16 (y).a17 (y).a18 (y).a19 (y).a20 (y).a21 (y).a22 (y).a23 (y).a24 (y).a25 (y).a26 (y).a27 (y).a28 (y).a29 (y).a30 (y).a31 (y).a32 (y).a33 (y).a34 (y).a35 (y).a36
theorem step6 {N : Nat} {x0 y : S38} {c : Int} (h1 : y.a36 = false) (h2 : c < 100) (h3 : goodB y = true) (h4 : stepB y = true) : f5L6r N x0 (s6 c y) = some (.inl (s6 (IntKind.i64.wrap (c + 1)) (stepT y))) := by
  refine run_true (show (!y.a36) = true by rw [h1]; rfl) (run_true (decide_eq_true h2) (run_true h3 (run_false (show (!stepB y) = false by rw [h4]; rfl) rfl)))
theorem stop6 {N : Nat} {x0 y : S38} {c : Int} (h1 : y.a36 = true) : f5L6r N x0 (s6 c y) = some (.inr (e6 c y)) := by
  refine run_false (show (!y.a36) = false by rw [h1]; rfl) rfl
theorem run6 {N : Nat} {x0 : S38} (h : Kids x0) (hs : Small x0) : ∀ (m k : Nat), k + m = x0.a21.length → loopN (f5L6r N x0) (2 * m + 1) (s6 ((2 * k : Nat) : Int) (stAt x0 k)) = some (e6 ((2 * x0.a21.length : Nat) : Int) (stAt x0 x0.a21.length))
  | 0, k, e => by
    obtain rfl : k = x0.a21.length := by omega
    exact loopN_end (stop6 (by rw [st_end (Nat.lt_irrefl _)]))
  | m + 1, k, e => by
    have hk : k < x0.a21.length := by omega
    have hn := hs.k
    have hw := hs.w
    have hb := hs.b
    have g1 : goodB (stAt x0 k) = true := good_iff.2 ⟨h.m.c.d1, h.m.c.d2, by show (wordsAt x0 k).length ≤ 1000; rw [words_len]; omega, by show x0.a20.length ≤ 1000; omega⟩
    have g2 : goodB (midAt x0 k) = true := good_iff.2 ⟨h.m.c.d1, h.m.c.d2, by show ((wordsAt x0 k).set (resT x0 (kT x0 k)).toNat [PV.int .i64 (kP x0 k)]).length ≤ 1000; rw [List.length_set, words_len]; omega, by show x0.a20.length ≤ 1000; omega⟩
    rw [show 2 * (m + 1) + 1 = (2 * m + 1) + 1 + 1 by omega]
    rw [loopN_next (step6 (by rw [st_now hk]) (by omega) g1 (by rw [st_now hk]; rfl)), step_share h hk]
    rw [loopN_next (step6 (by show (stAt x0 k).a36 = false; rw [st_now hk]) (by rw [wrap_small (by omega) (by omega)]; omega) g2 rfl), step_tell h hn hk]
    have e2 : IntKind.i64.wrap (IntKind.i64.wrap (((2 * k : Nat) : Int) + 1) + 1) = ((2 * (k + 1) : Nat) : Int) := by
      rw [wrap_small (n := ((2 * k : Nat) : Int) + 1) (by omega) (by omega), wrap_small (by omega) (by omega)]
      omega
    rw [e2]
    exact run6 h hs m (k + 1) (by omega)
def lastB (x0 : S38) (i : Nat) (j m : Nat) : Bool := (List.range' j m).all fun j => kT x0 j != kT x0 i
theorem last_inner {N : Nat} {x0 : S38} (hn : x0.a21.length ≤ 20) {i : Nat} (hi : i < x0.a21.length) (c : Int) : ∀ (m j : Nat) (b : Bool), j + m = x0.a21.length → loopN (f5L312iL332r N x0 c (stAt x0 x0.a21.length).a0 (stAt x0 x0.a21.length).a1 (stAt x0 x0.a21.length).a2 (stAt x0 x0.a21.length).a3 (stAt x0 x0.a21.length).a4 (stAt x0 x0.a21.length).a5 (stAt x0 x0.a21.length).a6 (stAt x0 x0.a21.length).a7 (stAt x0 x0.a21.length).a8 (stAt x0 x0.a21.length).a9 (stAt x0 x0.a21.length).a10 (stAt x0 x0.a21.length).a11 (stAt x0 x0.a21.length).a12 (stAt x0 x0.a21.length).a13 (stAt x0 x0.a21.length).a14 (stAt x0 x0.a21.length).a15 (stAt x0 x0.a21.length).a16 (stAt x0 x0.a21.length).a17 (stAt x0 x0.a21.length).a18 (stAt x0 x0.a21.length).a19 (stAt x0 x0.a21.length).a20 (stAt x0 x0.a21.length).a21 (stAt x0 x0.a21.length).a22 (stAt x0 x0.a21.length).a23 (stAt x0 x0.a21.length).a24 (stAt x0 x0.a21.length).a25 (stAt x0 x0.a21.length).a26 (stAt x0 x0.a21.length).a27 (stAt x0 x0.a21.length).a28 (stAt x0 x0.a21.length).a29 (stAt x0 x0.a21.length).a30 (stAt x0 x0.a21.length).a31 (stAt x0 x0.a21.length).a32 (stAt x0 x0.a21.length).a33 (stAt x0 x0.a21.length).a34 (stAt x0 x0.a21.length).a35 (stAt x0 x0.a21.length).a36 (i : Int)) (m + 1) (.s0 b (j : Int)) = some (.e0 (b && lastB x0 i j m))
  | 0, j, b, e => by
    have hb : (b && lastB x0 i j 0) = b := by simp [lastB]
    rw [hb]
    exact loopN_end (run_false (decide_eq_false (by omega)) rfl)
  | m + 1, j, b, e => by
    have hj : decide ((j : Int) < (x0.a21.length : Int)) = true := decide_eq_true (by omega)
    have hj2 : (decide ((0 : Int) ≤ (j : Int)) && decide ((j : Int) < (x0.a21.length : Int))) = true := in_kids (by omega)
    have hw : IntKind.i64.wrap ((j : Int) + 1) = ((j + 1 : Nat) : Int) := wrap_next (i := j) (by omega)
    have hl : lastB x0 i j (m + 1) = ((kT x0 j != kT x0 i) && lastB x0 i (j + 1) m) := by
      simp only [lastB, List.range'_succ, List.all_cons]
    rw [hl]
    cases b with
    | true =>
      have hr : f5L312iL332r N x0 c (stAt x0 x0.a21.length).a0 (stAt x0 x0.a21.length).a1 (stAt x0 x0.a21.length).a2 (stAt x0 x0.a21.length).a3 (stAt x0 x0.a21.length).a4 (stAt x0 x0.a21.length).a5 (stAt x0 x0.a21.length).a6 (stAt x0 x0.a21.length).a7 (stAt x0 x0.a21.length).a8 (stAt x0 x0.a21.length).a9 (stAt x0 x0.a21.length).a10 (stAt x0 x0.a21.length).a11 (stAt x0 x0.a21.length).a12 (stAt x0 x0.a21.length).a13 (stAt x0 x0.a21.length).a14 (stAt x0 x0.a21.length).a15 (stAt x0 x0.a21.length).a16 (stAt x0 x0.a21.length).a17 (stAt x0 x0.a21.length).a18 (stAt x0 x0.a21.length).a19 (stAt x0 x0.a21.length).a20 (stAt x0 x0.a21.length).a21 (stAt x0 x0.a21.length).a22 (stAt x0 x0.a21.length).a23 (stAt x0 x0.a21.length).a24 (stAt x0 x0.a21.length).a25 (stAt x0 x0.a21.length).a26 (stAt x0 x0.a21.length).a27 (stAt x0 x0.a21.length).a28 (stAt x0 x0.a21.length).a29 (stAt x0 x0.a21.length).a30 (stAt x0 x0.a21.length).a31 (stAt x0 x0.a21.length).a32 (stAt x0 x0.a21.length).a33 (stAt x0 x0.a21.length).a34 (stAt x0 x0.a21.length).a35 (stAt x0 x0.a21.length).a36 (i : Int) (.s0 true (j : Int)) = some (.inl (.s0 (kT x0 j != kT x0 i) ((j + 1 : Nat) : Int))) := by
        refine run_true hj (run_true rfl (run_true hj2 ?_))
        rw [← hw]
        rfl
      rw [loopN_next hr]
      exact last_inner hn hi c m (j + 1) _ (by omega)
    | false =>
      have hr : f5L312iL332r N x0 c (stAt x0 x0.a21.length).a0 (stAt x0 x0.a21.length).a1 (stAt x0 x0.a21.length).a2 (stAt x0 x0.a21.length).a3 (stAt x0 x0.a21.length).a4 (stAt x0 x0.a21.length).a5 (stAt x0 x0.a21.length).a6 (stAt x0 x0.a21.length).a7 (stAt x0 x0.a21.length).a8 (stAt x0 x0.a21.length).a9 (stAt x0 x0.a21.length).a10 (stAt x0 x0.a21.length).a11 (stAt x0 x0.a21.length).a12 (stAt x0 x0.a21.length).a13 (stAt x0 x0.a21.length).a14 (stAt x0 x0.a21.length).a15 (stAt x0 x0.a21.length).a16 (stAt x0 x0.a21.length).a17 (stAt x0 x0.a21.length).a18 (stAt x0 x0.a21.length).a19 (stAt x0 x0.a21.length).a20 (stAt x0 x0.a21.length).a21 (stAt x0 x0.a21.length).a22 (stAt x0 x0.a21.length).a23 (stAt x0 x0.a21.length).a24 (stAt x0 x0.a21.length).a25 (stAt x0 x0.a21.length).a26 (stAt x0 x0.a21.length).a27 (stAt x0 x0.a21.length).a28 (stAt x0 x0.a21.length).a29 (stAt x0 x0.a21.length).a30 (stAt x0 x0.a21.length).a31 (stAt x0 x0.a21.length).a32 (stAt x0 x0.a21.length).a33 (stAt x0 x0.a21.length).a34 (stAt x0 x0.a21.length).a35 (stAt x0 x0.a21.length).a36 (i : Int) (.s0 false (j : Int)) = some (.inl (.s0 false ((j + 1 : Nat) : Int))) := by
        refine run_true hj (run_false rfl ?_)
        rw [← hw]
        rfl
      rw [loopN_next hr]
      exact last_inner hn hi c m (j + 1) _ (by omega)
theorem round312 {x0 : S38} (h : Kids x0) (hs : Small x0) (hN : Nums x0) {i : Nat} (hi : i < x0.a21.length) (c : Int) : f5L312r 60 x0 c (stAt x0 x0.a21.length).a0 (stAt x0 x0.a21.length).a1 (stAt x0 x0.a21.length).a2 (stAt x0 x0.a21.length).a3 (stAt x0 x0.a21.length).a4 (stAt x0 x0.a21.length).a5 (stAt x0 x0.a21.length).a6 (stAt x0 x0.a21.length).a7 (stAt x0 x0.a21.length).a8 (stAt x0 x0.a21.length).a9 (stAt x0 x0.a21.length).a10 (stAt x0 x0.a21.length).a11 (stAt x0 x0.a21.length).a12 (stAt x0 x0.a21.length).a13 (stAt x0 x0.a21.length).a14 (stAt x0 x0.a21.length).a15 (stAt x0 x0.a21.length).a16 (stAt x0 x0.a21.length).a17 (stAt x0 x0.a21.length).a18 (stAt x0 x0.a21.length).a19 (stAt x0 x0.a21.length).a20 (stAt x0 x0.a21.length).a21 (stAt x0 x0.a21.length).a22 (stAt x0 x0.a21.length).a23 (stAt x0 x0.a21.length).a24 (stAt x0 x0.a21.length).a25 (stAt x0 x0.a21.length).a26 (stAt x0 x0.a21.length).a27 (stAt x0 x0.a21.length).a28 (stAt x0 x0.a21.length).a29 (stAt x0 x0.a21.length).a30 (stAt x0 x0.a21.length).a31 (stAt x0 x0.a21.length).a32 (stAt x0 x0.a21.length).a33 (stAt x0 x0.a21.length).a34 (stAt x0 x0.a21.length).a35 (stAt x0 x0.a21.length).a36 (.s0 (i : Int)) = some (.inl (.s0 ((i + 1 : Nat) : Int))) := by
  have hn := hs.k
  have hw := hs.w
  have hb := hs.b
  obtain ⟨p0, p1, p2, p3⟩ := kid_place h hi
  have hnx : IntKind.i64.wrap ((i : Int) + 1) = ((i + 1 : Nat) : Int) := wrap_next (i := i) (by omega)
  refine bif_true (decide_eq_true (by omega)) (bif_true (in_kids hi) ?_)
  rw [hnx]
  have h1 := last_inner (N := 60) (x0 := x0) hn hi c (x0.a21.length - (i + 1)) (i + 1) true (by omega)
  have h2 := loopN_more _ _ _ h1 (60 - (x0.a21.length - (i + 1) + 1))
  rw [show x0.a21.length - (i + 1) + 1 + (60 - (x0.a21.length - (i + 1) + 1)) = 60 by omega] at h2
  rw [h2]
  have hin : inB (wordsAt x0 x0.a21.length) (kL x0 i) = true := inB_true.2 ⟨p0, by rw [words_len]; omega⟩
  have hR : IntKind.i64.wrap (kL x0 i + 1) = kL x0 i + 1 := wrap_small (by omega) (by omega)
  have hu : (x0.a20.take (uptoN x0.a20 (kA x0 i))).length ≤ 1000 := by
    rw [List.length_take]
    omega
  have nx : some (Sum.inl (f5L312s.s0 (IntKind.i64.wrap ((i : Int) + 1)))) = (some (Sum.inl (f5L312s.s0 ((i + 1 : Nat) : Int))) : Option (f5L312s ⊕ f5L312e)) := by rw [hnx]
  refine run_true (most_ok (by omega)) (run_true (most_ok (by omega)) (run_true (decide_eq_true (huge_ok hu)) (run_true (decide_eq_true h.m.c.d2) (run_true hin (run_false ?_ ?_)))))
  · show (wordAt (wordsAt x0 x0.a21.length) (kL x0 i) != 5) = false
    rw [words_told h _ (Nat.le_refl _) i hi]
    rfl
  · refine run_test (fun hlast => ?_) (fun _ => nx)
    have hl : ∀ j, i < j → j < x0.a21.length → kT x0 j ≠ kT x0 i := by
      intro j h1 h2
      have hq : lastB x0 i (i + 1) (x0.a21.length - (i + 1)) = true := by simpa using hlast
      have := (all_range'.1 hq) j (by omega) (by omega)
      simpa using this
    have hp := words_prior h _ (Nat.le_refl _) i hi hl
    have hall : allR (x0.a20.take (uptoN x0.a20 (kA x0 i))) x0.a30 x0.a9 x0.a10 = kP x0 i := allR_eq x0.a9 x0.a10 hN.lo _ _ (fun e he => hN.es e (List.mem_of_mem_take he)) hN.x
    refine run_true ?_ (run_false ?_ nx)
    · show inB (wordsAt x0 x0.a21.length) (IntKind.i64.wrap (kL x0 i + 1)) = true
      rw [hR]
      exact inB_true.2 ⟨by omega, by rw [words_len]; omega⟩
    · show (wordAt (wordsAt x0 x0.a21.length) (IntKind.i64.wrap (kL x0 i + 1)) != allR (x0.a20.take (uptoN x0.a20 (kA x0 i))) x0.a30 x0.a9 x0.a10) = false
      rw [hR, hp, hall]
      simp
theorem run312 {x0 : S38} (h : Kids x0) (hs : Small x0) (hN : Nums x0) (c : Int) : ∀ (m i : Nat), i + m = x0.a21.length → loopN (f5L312r 60 x0 c (stAt x0 x0.a21.length).a0 (stAt x0 x0.a21.length).a1 (stAt x0 x0.a21.length).a2 (stAt x0 x0.a21.length).a3 (stAt x0 x0.a21.length).a4 (stAt x0 x0.a21.length).a5 (stAt x0 x0.a21.length).a6 (stAt x0 x0.a21.length).a7 (stAt x0 x0.a21.length).a8 (stAt x0 x0.a21.length).a9 (stAt x0 x0.a21.length).a10 (stAt x0 x0.a21.length).a11 (stAt x0 x0.a21.length).a12 (stAt x0 x0.a21.length).a13 (stAt x0 x0.a21.length).a14 (stAt x0 x0.a21.length).a15 (stAt x0 x0.a21.length).a16 (stAt x0 x0.a21.length).a17 (stAt x0 x0.a21.length).a18 (stAt x0 x0.a21.length).a19 (stAt x0 x0.a21.length).a20 (stAt x0 x0.a21.length).a21 (stAt x0 x0.a21.length).a22 (stAt x0 x0.a21.length).a23 (stAt x0 x0.a21.length).a24 (stAt x0 x0.a21.length).a25 (stAt x0 x0.a21.length).a26 (stAt x0 x0.a21.length).a27 (stAt x0 x0.a21.length).a28 (stAt x0 x0.a21.length).a29 (stAt x0 x0.a21.length).a30 (stAt x0 x0.a21.length).a31 (stAt x0 x0.a21.length).a32 (stAt x0 x0.a21.length).a33 (stAt x0 x0.a21.length).a34 (stAt x0 x0.a21.length).a35 (stAt x0 x0.a21.length).a36) (m + 1) (.s0 (i : Int)) = some .e1
  | 0, i, e => loopN_end (bif_false (decide_eq_false (by omega)) rfl)
  | m + 1, i, e => by
    rw [loopN_next (round312 h hs hN (by omega) c)]
    exact run312 h hs hN c m (i + 1) (by omega)
theorem pureShareTells (x0 : S38) (h0 : Wf (S38v x0)) (hmean : Meant Try.prog [S38v x0]) : ∃ N, f5 N x0 = some ⟨true⟩ := by
  refine ⟨60, ?_⟩
  unfold f5
  refine bif_elim (fun h => rfl) (fun hb => ?_)
  refine bif_elim (fun h => rfl) (fun hm => ?_)
  have hs := small_of hb
  have hM := may_of (x := x0) (by simpa using hm)
  have hN := nums_of h0 hmean
  have hn := hs.k
  have hA := loop_all (stp := f5L0r 60 x0) (fun i => .s0 (i : Int)) .e0 .e1 (fun i => !decide (kT x0 i < 0) && !decide (kT x0 i ≥ x0.a0)) x0.a21.length
    (fun i hi hq => by
      have q1 : decide ((i : Int) < (x0.a21.length : Int)) = true := decide_eq_true (by omega)
      have q2 : (decide ((0 : Int) ≤ (i : Int)) && decide ((i : Int) < (x0.a21.length : Int))) = true := in_kids hi
      simp only [Bool.and_eq_true, Bool.not_eq_true'] at hq
      refine run_true q1 (run_true q2 (run_false hq.1 (run_true q2 (run_false hq.2 ?_))))
      show some (Sum.inl (f5L0s.s0 (IntKind.i64.wrap ((i : Int) + 1)))) = _
      rw [wrap_next (i := i) (by omega)])
    (fun i hi hq => by
      have q1 : decide ((i : Int) < (x0.a21.length : Int)) = true := decide_eq_true (by omega)
      have q2 : (decide ((0 : Int) ≤ (i : Int)) && decide ((i : Int) < (x0.a21.length : Int))) = true := in_kids hi
      refine run_true q1 (run_true q2 (run_test (fun _ => rfl) (fun h1 => run_true q2 (run_true ?_ rfl))))
      have h1 : decide (kT x0 i < 0) = false := h1
      rw [h1] at hq
      show decide (kT x0 i ≥ x0.a0) = true
      simpa using hq)
    (run_false (decide_eq_false (show ¬ ((x0.a21.length : Int) < (x0.a21.length : Int)) by omega)) rfl) x0.a21.length 0 (by omega)
  have hA2 := loopN_more _ _ _ hA (60 - (x0.a21.length + 1))
  rw [show x0.a21.length + 1 + (60 - (x0.a21.length + 1)) = 60 by omega] at hA2
  have hA3 : loopN (f5L0r 60 x0) 60 (.s0 (0 : Int)) = some (bif (List.range' 0 x0.a21.length).all (fun i => !decide (kT x0 i < 0) && !decide (kT x0 i ≥ x0.a0)) then .e1 else .e0) := hA2
  rw [hA3]
  cases hall : (List.range' 0 x0.a21.length).all (fun i => !decide (kT x0 i < 0) && !decide (kT x0 i ≥ x0.a0)) with
  | false => rfl
  | true =>
  have hK : Kids x0 := by
    refine ⟨hM, fun k hk => ?_, fun k hk => ?_⟩
    all_goals
      have := (all_range'.1 hall) k (by omega) (by omega)
      simp at this
      omega
  have h6 := run6 (N := 60) hK hs x0.a21.length 0 (by omega)
  have h6b := loopN_more _ _ _ h6 (60 - (2 * x0.a21.length + 1))
  rw [show 2 * x0.a21.length + 1 + (60 - (2 * x0.a21.length + 1)) = 60 by omega] at h6b
  have hset : settleR { x0 with a25 := 0, a36 := false } = stAt x0 0 := settle_st (x0 := x0) (k := 0) (a := 0) rfl _ rfl
  simp only [cond_true, Option.bind_some]
  rw [hset]
  have h6c : loopN (f5L6r 60 x0) 60 (.s0 (0 : Int) (stAt x0 0).a0 (stAt x0 0).a1 (stAt x0 0).a2 (stAt x0 0).a3 (stAt x0 0).a4 (stAt x0 0).a5 (stAt x0 0).a6 (stAt x0 0).a7 (stAt x0 0).a8 (stAt x0 0).a9 (stAt x0 0).a10 (stAt x0 0).a11 (stAt x0 0).a12 (stAt x0 0).a13 (stAt x0 0).a14 (stAt x0 0).a15 (stAt x0 0).a16 (stAt x0 0).a17 (stAt x0 0).a18 (stAt x0 0).a19 (stAt x0 0).a20 (stAt x0 0).a21 (stAt x0 0).a22 (stAt x0 0).a23 (stAt x0 0).a24 (stAt x0 0).a25 (stAt x0 0).a26 (stAt x0 0).a27 (stAt x0 0).a28 (stAt x0 0).a29 (stAt x0 0).a30 (stAt x0 0).a31 (stAt x0 0).a32 (stAt x0 0).a33 (stAt x0 0).a34 (stAt x0 0).a35 (stAt x0 0).a36) = some (.e1 ((2 * x0.a21.length : Nat) : Int) (stAt x0 x0.a21.length).a0 (stAt x0 x0.a21.length).a1 (stAt x0 x0.a21.length).a2 (stAt x0 x0.a21.length).a3 (stAt x0 x0.a21.length).a4 (stAt x0 x0.a21.length).a5 (stAt x0 x0.a21.length).a6 (stAt x0 x0.a21.length).a7 (stAt x0 x0.a21.length).a8 (stAt x0 x0.a21.length).a9 (stAt x0 x0.a21.length).a10 (stAt x0 x0.a21.length).a11 (stAt x0 x0.a21.length).a12 (stAt x0 x0.a21.length).a13 (stAt x0 x0.a21.length).a14 (stAt x0 x0.a21.length).a15 (stAt x0 x0.a21.length).a16 (stAt x0 x0.a21.length).a17 (stAt x0 x0.a21.length).a18 (stAt x0 x0.a21.length).a19 (stAt x0 x0.a21.length).a20 (stAt x0 x0.a21.length).a21 (stAt x0 x0.a21.length).a22 (stAt x0 x0.a21.length).a23 (stAt x0 x0.a21.length).a24 (stAt x0 x0.a21.length).a25 (stAt x0 x0.a21.length).a26 (stAt x0 x0.a21.length).a27 (stAt x0 x0.a21.length).a28 (stAt x0 x0.a21.length).a29 (stAt x0 x0.a21.length).a30 (stAt x0 x0.a21.length).a31 (stAt x0 x0.a21.length).a32 (stAt x0 x0.a21.length).a33 (stAt x0 x0.a21.length).a34 (stAt x0 x0.a21.length).a35 (stAt x0 x0.a21.length).a36) := h6b
  rw [h6c]
  have hend : stAt x0 x0.a21.length = { x0 with a14 := wordsAt x0 x0.a21.length, a16 := 0, a25 := (x0.a21.length : Int), a36 := true } := st_end (Nat.lt_irrefl _)
  have e16 : (stAt x0 x0.a21.length).a16 = 0 := by rw [hend]
  have e36 : (stAt x0 x0.a21.length).a36 = true := by rw [hend]
  refine bif_false ?_ (bif_false ?_ (bif_false ?_ (bif_false ?_ ?_)))
  · rw [wrap_small (by omega) (by omega)]
    simp
  · rw [e36]
    rfl
  · show ((stAt x0 x0.a21.length).a16 != 0) = false
    rw [e16]
    rfl
  · show (((wordsAt x0 x0.a21.length).length : Int) != (x0.a14.length : Int)) = false
    rw [words_len]
    simp
  · have h3 := run312 hK hs hN ((2 * x0.a21.length : Nat) : Int) x0.a21.length 0 (by omega)
    have h3b := loopN_more _ _ _ h3 (60 - (x0.a21.length + 1))
    rw [show x0.a21.length + 1 + (60 - (x0.a21.length + 1)) = 60 by omega] at h3b
    have h3c : loopN (f5L312r 60 x0 ((2 * x0.a21.length : Nat) : Int) (stAt x0 x0.a21.length).a0 (stAt x0 x0.a21.length).a1 (stAt x0 x0.a21.length).a2 (stAt x0 x0.a21.length).a3 (stAt x0 x0.a21.length).a4 (stAt x0 x0.a21.length).a5 (stAt x0 x0.a21.length).a6 (stAt x0 x0.a21.length).a7 (stAt x0 x0.a21.length).a8 (stAt x0 x0.a21.length).a9 (stAt x0 x0.a21.length).a10 (stAt x0 x0.a21.length).a11 (stAt x0 x0.a21.length).a12 (stAt x0 x0.a21.length).a13 (stAt x0 x0.a21.length).a14 (stAt x0 x0.a21.length).a15 (stAt x0 x0.a21.length).a16 (stAt x0 x0.a21.length).a17 (stAt x0 x0.a21.length).a18 (stAt x0 x0.a21.length).a19 (stAt x0 x0.a21.length).a20 (stAt x0 x0.a21.length).a21 (stAt x0 x0.a21.length).a22 (stAt x0 x0.a21.length).a23 (stAt x0 x0.a21.length).a24 (stAt x0 x0.a21.length).a25 (stAt x0 x0.a21.length).a26 (stAt x0 x0.a21.length).a27 (stAt x0 x0.a21.length).a28 (stAt x0 x0.a21.length).a29 (stAt x0 x0.a21.length).a30 (stAt x0 x0.a21.length).a31 (stAt x0 x0.a21.length).a32 (stAt x0 x0.a21.length).a33 (stAt x0 x0.a21.length).a34 (stAt x0 x0.a21.length).a35 (stAt x0 x0.a21.length).a36) 60 (.s0 (0 : Int)) = some .e1 := h3b
    rw [h3c]
    rfl
end Go.Proofs.YtjoebchkchoomaaS
