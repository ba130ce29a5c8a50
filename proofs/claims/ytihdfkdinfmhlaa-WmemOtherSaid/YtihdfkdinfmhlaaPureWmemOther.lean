/- The pure statement that is left of WmemOther. Conditions: the numbers' own ranges. -/
import Derived.Test.YtihdfkdinfmhlaaF4x5
import Derived.Test.YtihdfkdinfmhlaaFacts03
import Derived.Test.YtihdfkdinfmhlaaSimPure
set_option linter.unusedVariables false
set_option linter.unusedSimpArgs false
set_option maxRecDepth 10000
namespace Go.Proofs.YtihdfkdinfmhlaaS
open Go Go.Proofs
theorem f5L28_go (N : Nat) (x0 : S25) (x1 x2 x3 : Int) (x4 w : List (List PV)) (j : Int) (hj : (IntKind.i64.wrap x2).tmod (x0.a1.length : Int) = j) (j0 : 0 ≤ j) (j1 : j < (x0.a1.length : Int)) (hs : Short x0.a1) (hb : x4.length ≤ 50) (i : Nat) (hi : i < x0.a1.length) :
    f5L28r N x0 x1 x2 x3 x4 (.s0 (i : Int) w (x0.a1.set j.toNat [PV.list 68 x4])) = some (.inl (.s0 ((i + 1 : Nat) : Int) w (x0.a1.set j.toNat [PV.list 68 x4]))) := by
  have hs1 := hs.1
  have hq : (bx x0.a1 (i : Int)).length ≤ 1000 := hs.2 i hi
  have h1 : decide ((i : Int) < (x0.a1.length : Int)) = true := decide_eq_true (by omega)
  have h2 : (decide (0 ≤ (i : Int)) && decide ((i : Int) < (x0.a1.length : Int))) = true := by rw [h1, decide_eq_true (show (0 : Int) ≤ (i : Int) by omega)]; rfl
  have h0 : decide ((0 : Int) ≤ (i : Int)) = true := decide_eq_true (by omega)
  have w1 := wrap_next (i := i) (by omega)
  have l1 : (i : Int) < ((x0.a1.set j.toNat [PV.list 68 x4]).length : Int) := by simp; omega
  have m1 : decide ((pList ((x0.a1.getD (i : Int).toNat []).headD PV.undef)).length ≤ most) = true := most_ok hq
  by_cases e : (i : Int) = j
  · have hbx : bx (x0.a1.set j.toNat [PV.list 68 x4]) (i : Int) = x4 := by rw [e]; exact bx_set j0 j1 x4
    have e21 := f21_in ⟨w, x0.a1.set j.toNat [PV.list 68 x4]⟩ (i : Int) (by omega) l1 (by rw [hbx]; omega)
    have ne : ((i : Int) != j) = false := by simp [e]
    simp only [f5L28r, f5L28ic43, f5L28ic44, f5L28ic45, f5L28ic46, f5L28ic47, f5L28ic48, f5L28ic49, f5L28ic50, f5L28ic51, hj, h1, e21, ne, w1, Option.isSome_some, Option.getD_some, bne_self_eq_false, cond_true, cond_false, Tr.run]
  · have hbx : bx (x0.a1.set j.toNat [PV.list 68 x4]) (i : Int) = bx x0.a1 (i : Int) := bx_other j0 (by omega) (fun h => e h.symm) _
    have e21 := f21_in ⟨w, x0.a1.set j.toNat [PV.list 68 x4]⟩ (i : Int) (by omega) l1 (by rw [hbx]; omega)
    simp only [hbx] at e21
    have ne : ((i : Int) != j) = true := by simp [e]
    have m2 : decide ((bx x0.a1 (i : Int)).length ≤ most) = true := most_ok hq
    have m3 : decide ((bx x0.a1 (i : Int)).length ≤ huge) = true := decide_eq_true (huge_ok hq)
    have al : alike same3 (bx x0.a1 (i : Int)) (pList ((x0.a1.getD (i : Int).toNat []).headD PV.undef)) = true := alike3_refl _
    simp only [f5L28r, f5L28ic43, f5L28ic44, f5L28ic45, f5L28ic46, f5L28ic47, f5L28ic48, f5L28ic49, f5L28ic50, f5L28ic51, hj, h0, h1, Bool.and_self, e21, ne, w1, m1, m2, m3, al, Option.isSome_some, Option.getD_some, bne_self_eq_false, Bool.not_true, cond_true, cond_false, Tr.run]
theorem f5L28_all (N : Nat) (x0 : S25) (x1 x2 x3 : Int) (x4 w : List (List PV)) (j : Int) (hj : (IntKind.i64.wrap x2).tmod (x0.a1.length : Int) = j) (j0 : 0 ≤ j) (j1 : j < (x0.a1.length : Int)) (hs : Short x0.a1) (hb : x4.length ≤ 50) :
    loopN (f5L28r N x0 x1 x2 x3 x4) (x0.a1.length + 1) (.s0 0 w (x0.a1.set j.toNat [PV.list 68 x4])) = some .e1 := by
  have h := loop_all (stp := f5L28r N x0 x1 x2 x3 x4) (fun i => .s0 (i : Int) w (x0.a1.set j.toNat [PV.list 68 x4])) .e0 .e1 (fun _ => true) x0.a1.length
    (fun i hi _ => f5L28_go N x0 x1 x2 x3 x4 w j hj j0 j1 hs hb i hi) (fun i _ h => by cases h)
    (by
      have h1 : decide ((x0.a1.length : Int) < (x0.a1.length : Int)) = false := decide_eq_false (by omega)
      simp only [f5L28r, f5L28ic43, f5L28ic44, f5L28ic45, f5L28ic46, f5L28ic47, f5L28ic48, f5L28ic49, f5L28ic50, f5L28ic51, h1, cond_false, Tr.run]) x0.a1.length 0 (by omega)
  have hall : (List.range' 0 x0.a1.length).all (fun _ => true) = true := by simp
  rw [hall] at h
  exact h
theorem f5L56_go (N : Nat) (x0 : S25) (x1 x2 x3 : Int) (x4 w : List (List PV)) (j : Int) (hj : (IntKind.i64.wrap x2).tmod (x0.a1.length : Int) = j) (j0 : 0 ≤ j) (j1 : j < (x0.a1.length : Int)) (hs : Short x0.a1) (hb : x4.length ≤ 50) (i : Nat) (hi : i < x0.a1.length) :
    f5L56r N x0 x1 x2 x3 x4 (.s0 (i : Int) w (x0.a1.set j.toNat [PV.list 68 x4])) = some (.inl (.s0 ((i + 1 : Nat) : Int) w (x0.a1.set j.toNat [PV.list 68 x4]))) := by
  have hs1 := hs.1
  have hq : (bx x0.a1 (i : Int)).length ≤ 1000 := hs.2 i hi
  have h1 : decide ((i : Int) < (x0.a1.length : Int)) = true := decide_eq_true (by omega)
  have h2 : (decide (0 ≤ (i : Int)) && decide ((i : Int) < (x0.a1.length : Int))) = true := by rw [h1, decide_eq_true (show (0 : Int) ≤ (i : Int) by omega)]; rfl
  have h0 : decide ((0 : Int) ≤ (i : Int)) = true := decide_eq_true (by omega)
  have w1 := wrap_next (i := i) (by omega)
  have l1 : (i : Int) < ((x0.a1.set j.toNat [PV.list 68 x4]).length : Int) := by simp; omega
  have m1 : decide ((pList ((x0.a1.getD (i : Int).toNat []).headD PV.undef)).length ≤ most) = true := most_ok hq
  by_cases e : (i : Int) = j
  · have hbx : bx (x0.a1.set j.toNat [PV.list 68 x4]) (i : Int) = x4 := by rw [e]; exact bx_set j0 j1 x4
    have e21 := f21_in ⟨w, x0.a1.set j.toNat [PV.list 68 x4]⟩ (i : Int) (by omega) l1 (by rw [hbx]; omega)
    have ne : ((i : Int) != j) = false := by simp [e]
    simp only [f5L56r, f5L56ic71, f5L56ic72, f5L56ic73, f5L56ic74, f5L56ic75, f5L56ic76, f5L56ic77, f5L56ic78, f5L56ic79, hj, h1, e21, ne, w1, Option.isSome_some, Option.getD_some, bne_self_eq_false, cond_true, cond_false, Tr.run]
  · have hbx : bx (x0.a1.set j.toNat [PV.list 68 x4]) (i : Int) = bx x0.a1 (i : Int) := bx_other j0 (by omega) (fun h => e h.symm) _
    have e21 := f21_in ⟨w, x0.a1.set j.toNat [PV.list 68 x4]⟩ (i : Int) (by omega) l1 (by rw [hbx]; omega)
    simp only [hbx] at e21
    have ne : ((i : Int) != j) = true := by simp [e]
    have m2 : decide ((bx x0.a1 (i : Int)).length ≤ most) = true := most_ok hq
    have m3 : decide ((bx x0.a1 (i : Int)).length ≤ huge) = true := decide_eq_true (huge_ok hq)
    have al : alike same3 (bx x0.a1 (i : Int)) (pList ((x0.a1.getD (i : Int).toNat []).headD PV.undef)) = true := alike3_refl _
    simp only [f5L56r, f5L56ic71, f5L56ic72, f5L56ic73, f5L56ic74, f5L56ic75, f5L56ic76, f5L56ic77, f5L56ic78, f5L56ic79, hj, h0, h1, Bool.and_self, e21, ne, w1, m1, m2, m3, al, Option.isSome_some, Option.getD_some, bne_self_eq_false, Bool.not_true, cond_true, cond_false, Tr.run]
theorem f5L56_all (N : Nat) (x0 : S25) (x1 x2 x3 : Int) (x4 w : List (List PV)) (j : Int) (hj : (IntKind.i64.wrap x2).tmod (x0.a1.length : Int) = j) (j0 : 0 ≤ j) (j1 : j < (x0.a1.length : Int)) (hs : Short x0.a1) (hb : x4.length ≤ 50) :
    loopN (f5L56r N x0 x1 x2 x3 x4) (x0.a1.length + 1) (.s0 0 w (x0.a1.set j.toNat [PV.list 68 x4])) = some .e1 := by
  have h := loop_all (stp := f5L56r N x0 x1 x2 x3 x4) (fun i => .s0 (i : Int) w (x0.a1.set j.toNat [PV.list 68 x4])) .e0 .e1 (fun _ => true) x0.a1.length
    (fun i hi _ => f5L56_go N x0 x1 x2 x3 x4 w j hj j0 j1 hs hb i hi) (fun i _ h => by cases h)
    (by
      have h1 : decide ((x0.a1.length : Int) < (x0.a1.length : Int)) = false := decide_eq_false (by omega)
      simp only [f5L56r, f5L56ic71, f5L56ic72, f5L56ic73, f5L56ic74, f5L56ic75, f5L56ic76, f5L56ic77, f5L56ic78, f5L56ic79, h1, cond_false, Tr.run]) x0.a1.length 0 (by omega)
  have hall : (List.range' 0 x0.a1.length).all (fun _ => true) = true := by simp
  rw [hall] at h
  exact h
theorem pureWmemOther (x0 : S25) (x1 : Int) (x2 : Int) (x3 : Int) (x4 : List (List PV)) (h0 : Wf (S25v x0)) (h1 : Wf (PV.int .u8 x1)) (h2 : Wf (PV.int .u8 x2)) (h3 : Wf (PV.int .i64 x3)) (h4 : Wf (PV.list 68 x4)) (hm : Meant Try.prog [S25v x0, PV.int .u8 x1, PV.int .u8 x2, PV.int .i64 x3, PV.list 68 x4]) : ∃ N, f5 N x0 x1 x2 x3 x4 = some ⟨true⟩ := by
  refine ⟨x0.a1.length + 1, ?_⟩
  cases hl : long x0 with
  | true =>
    show (bif long x0 then _ else _) = _
    rw [hl]; rfl
  | false =>
  cases hb : decide ((x4.length : Int) > 50) with
  | true => simp only [f5, f5c0, f5c1, f5c10, f5c11, f5c12, f5c13, f5c14, f5c15, f5c16, f5c17, f5c18, f5c19, f5c2, f5c20, f5c21, f5c22, f5c23, f5c24, f5c25, f5c26, f5c27, f5c3, f5c4, f5c5, f5c52, f5c53, f5c54, f5c55, f5c6, f5c7, f5c8, f5c9, hl, hb, cond_true, cond_false, Tr.run]
  | false =>
  have hb' : x4.length ≤ 50 := by
    have := of_decide_eq_false hb
    omega
  cases hw : ((x0.a0.length : Int) == 0) with
  | true => simp only [f5, f5c0, f5c1, f5c10, f5c11, f5c12, f5c13, f5c14, f5c15, f5c16, f5c17, f5c18, f5c19, f5c2, f5c20, f5c21, f5c22, f5c23, f5c24, f5c25, f5c26, f5c27, f5c3, f5c4, f5c5, f5c52, f5c53, f5c54, f5c55, f5c6, f5c7, f5c8, f5c9, hl, hb, hw, cond_true, cond_false, Tr.run]
  | false =>
  cases hx : ((x0.a1.length : Int) == 0) with
  | true => simp only [f5, f5c0, f5c1, f5c10, f5c11, f5c12, f5c13, f5c14, f5c15, f5c16, f5c17, f5c18, f5c19, f5c2, f5c20, f5c21, f5c22, f5c23, f5c24, f5c25, f5c26, f5c27, f5c3, f5c4, f5c5, f5c52, f5c53, f5c54, f5c55, f5c6, f5c7, f5c8, f5c9, hl, hb, hw, hx, cond_true, cond_false, Tr.run]
  | false =>
  have hn : (x0.a0.length : Int) ≠ 0 := by simpa using hw
  have hn' : (x0.a1.length : Int) ≠ 0 := by simpa using hx
  have d1 : decide ((x0.a0.length : Int) ≠ 0) = true := decide_eq_true hn
  have d2 : decide ((x0.a1.length : Int) ≠ 0) = true := decide_eq_true hn'
  obtain ⟨g1, g2, g3⟩ := long_no hl
  have hs := short_of hl
  obtain ⟨i0, i1⟩ := place_of (wf_u8 h1) hn
  obtain ⟨k0, k1⟩ := place_of (wf_u8 h2) hn
  obtain ⟨j0, j1⟩ := place_of (wf_u8 h2) hn'
  have l0 := fun w => f5L28_all (x0.a1.length + 1) x0 x1 x2 x3 x4 w _ rfl j0 j1 hs hb'
  have l1 := fun w => f5L56_all (x0.a1.length + 1) x0 x1 x2 x3 x4 w _ rfl j0 j1 hs hb'
  generalize hi : (IntKind.i64.wrap x1).tmod (x0.a0.length : Int) = i at i0 i1
  generalize hk : (IntKind.i64.wrap x2).tmod (x0.a0.length : Int) = k at k0 k1
  generalize hj : (IntKind.i64.wrap x2).tmod (x0.a1.length : Int) = j at j0 j1 l0 l1
  have len1 : ((x0.a0.set i.toNat [PV.int .i64 x3]).length : Int) = (x0.a0.length : Int) := by simp
  have e14 := f14_in x0 i x3 i0 i1 (by omega)
  have e12a := f12_in ⟨x0.a0.set i.toNat [PV.int .i64 x3], x0.a1⟩ i i0 (by simpa using i1)
  have e12b := f12_in ⟨x0.a0.set i.toNat [PV.int .i64 x3], x0.a1⟩ k k0 (by simpa using k1)
  have e23 := f23_in ⟨x0.a0.set i.toNat [PV.int .i64 x3], x0.a1⟩ j x4 j0 j1 (show x0.a1.length ≤ 1000 by omega) (by omega)
  have e21 := f21_in ⟨x0.a0.set i.toNat [PV.int .i64 x3], x0.a1.set j.toNat [PV.list 68 x4]⟩ j j0 (by simpa using j1) (by rw [bx_set j0 j1]; omega)
  have e12c := f12_in ⟨x0.a0.set i.toNat [PV.int .i64 x3], x0.a1.set j.toNat [PV.list 68 x4]⟩ i i0 (by simpa using i1)
  simp only [word_set i0 i1, bx_set j0 j1] at e12a e12c e21
  have q1 : (decide (0 ≤ k) && decide (k < (x0.a0.length : Int))) = true := by rw [decide_eq_true k0, decide_eq_true k1]; rfl
  have m2 : decide (x4.length ≤ most) = true := most_ok (by omega)
  have m3 : decide (x4.length ≤ huge) = true := decide_eq_true (huge_ok (by omega))
  have bb : ∀ v : Int, (v != v) = false := fun v => by simp
  by_cases e : i = k
  · have ne : (i != k) = false := by simp [e]
    simp only [f5, f5c0, f5c1, f5c10, f5c11, f5c12, f5c13, f5c14, f5c15, f5c16, f5c17, f5c18, f5c19, f5c2, f5c20, f5c21, f5c22, f5c23, f5c24, f5c25, f5c26, f5c27, f5c3, f5c4, f5c5, f5c52, f5c53, f5c54, f5c55, f5c6, f5c7, f5c8, f5c9, hl, hb, hw, hx, hi, hk, hj, d1, d2, e14, e12a, e12b, e23, e21, e12c, q1, m2, m3, ne, bb, alike3_refl, l0, l1, Option.isSome_some, Option.getD_some, Option.bind_some, Bool.not_true, cond_true, cond_false, Tr.run]
  · have ne : (i != k) = true := by simp [e]
    have wk : word (x0.a0.set i.toNat [PV.int .i64 x3]) k = word x0.a0 k := word_other i0 k0 e _
    simp only [wk] at e12b
    have wx : (word x0.a0 k != pInt ((x0.a0.getD k.toNat []).headD PV.undef)) = false := bb (word x0.a0 k)
    simp only [f5, f5c0, f5c1, f5c10, f5c11, f5c12, f5c13, f5c14, f5c15, f5c16, f5c17, f5c18, f5c19, f5c2, f5c20, f5c21, f5c22, f5c23, f5c24, f5c25, f5c26, f5c27, f5c3, f5c4, f5c5, f5c52, f5c53, f5c54, f5c55, f5c6, f5c7, f5c8, f5c9, hl, hb, hw, hx, hi, hk, hj, d1, d2, e14, e12a, e12b, e23, e21, e12c, q1, m2, m3, ne, wx, bb, alike3_refl, l0, l1, Option.isSome_some, Option.getD_some, Option.bind_some, Bool.not_true, cond_true, cond_false, Tr.run]
end Go.Proofs.YtihdfkdinfmhlaaS
