/- The pure statement that is left of WmemBoxes. Conditions: the numbers' own ranges. -/
import Derived.Test.YtihdfkdinfmhlaaF4x4
import Derived.Test.YtihdfkdinfmhlaaFacts03
import Derived.Test.YtihdfkdinfmhlaaSimPure
set_option linter.unusedVariables false
set_option linter.unusedSimpArgs false
set_option maxRecDepth 10000
namespace Go.Proofs.YtihdfkdinfmhlaaS
open Go Go.Proofs
theorem pureWmemBoxes (x0 : S25) (x1 : Int) (x2 : List (List PV)) (x3 : Int) (x4 : Int) (h0 : Wf (S25v x0)) (h1 : Wf (PV.int .i64 x1)) (h2 : Wf (PV.list 68 x2)) (h3 : Wf (PV.int .i64 x3)) (h4 : Wf (PV.int .i64 x4)) (hm : Meant Try.prog [S25v x0, PV.int .i64 x1, PV.list 68 x2, PV.int .i64 x3, PV.int .i64 x4]) : ∃ N, f4 N x0 x1 x2 x3 x4 = some ⟨true⟩ := by
  refine ⟨0, ?_⟩
  cases hl : long x0 with
  | true =>
    show (bif long x0 then _ else _) = _
    rw [hl]; rfl
  | false =>
  cases hb : decide ((x2.length : Int) > 50) with
  | true =>
    simp only [f4, f4c0, f4c1, f4c10, f4c11, f4c12, f4c13, f4c14, f4c15, f4c16, f4c17, f4c18, f4c19, f4c2, f4c20, f4c21, f4c22, f4c23, f4c24, f4c25, f4c26, f4c27, f4c28, f4c29, f4c3, f4c30, f4c31, f4c32, f4c33, f4c34, f4c35, f4c36, f4c37, f4c38, f4c39, f4c4, f4c40, f4c41, f4c42, f4c43, f4c44, f4c45, f4c46, f4c47, f4c48, f4c49, f4c5, f4c50, f4c51, f4c52, f4c53, f4c54, f4c55, f4c56, f4c57, f4c58, f4c59, f4c6, f4c60, f4c61, f4c62, f4c63, f4c64, f4c65, f4c66, f4c67, f4c68, f4c69, f4c7, f4c70, f4c71, f4c72, f4c73, f4c74, f4c75, f4c76, f4c77, f4c78, f4c79, f4c8, f4c80, f4c81, f4c82, f4c83, f4c84, f4c85, f4c86, f4c87, f4c9, hl, hb, cond_true, cond_false, Tr.run]
  | false =>
  have hb' : x2.length ≤ 50 := by
    have := of_decide_eq_false hb
    omega
  have tail : ∀ (a3 b3 a4 b4 : Bool), decide (x3 > 400) = a3 → decide (x3 ≤ 10000) = b3 → decide (x4 > 400) = a4 → decide (x4 ≤ 10000) = b4 → f4 0 x0 x1 x2 x3 x4 = some ⟨true⟩ := by
    obtain ⟨g1, g2, g3⟩ := long_no hl
    have hs := short_of hl
    have hM : ∀ w, (memOk ⟨w, x0.a1⟩ && decide (x0.a1.length ≤ most)) = true := fun w => mem_ok w x0.a1 hs
    have hM0 : (memOk x0 && decide (x0.a1.length ≤ most)) = true := mem_ok x0.a0 x0.a1 hs
    have hP0 : pre20 ⟨x0.a0, x0.a1.map box81⟩ = true := pre_ok _ _ (by omega) hs
    have hbm : decide (x2.length ≤ most) = true := most_ok (by omega)
    have e27 := f27_val x3 x4
    intro a3 b3 a4 b4 d3 d3' d4 d4'
    by_cases t3 : (a3 && b3) = true
    · obtain ⟨rfl, rfl⟩ := Bool.and_eq_true_iff.1 t3
      simp only [f4, f4c0, f4c1, f4c10, f4c11, f4c12, f4c13, f4c14, f4c15, f4c16, f4c17, f4c18, f4c19, f4c2, f4c20, f4c21, f4c22, f4c23, f4c24, f4c25, f4c26, f4c27, f4c28, f4c29, f4c3, f4c30, f4c31, f4c32, f4c33, f4c34, f4c35, f4c36, f4c37, f4c38, f4c39, f4c4, f4c40, f4c41, f4c42, f4c43, f4c44, f4c45, f4c46, f4c47, f4c48, f4c49, f4c5, f4c50, f4c51, f4c52, f4c53, f4c54, f4c55, f4c56, f4c57, f4c58, f4c59, f4c6, f4c60, f4c61, f4c62, f4c63, f4c64, f4c65, f4c66, f4c67, f4c68, f4c69, f4c7, f4c70, f4c71, f4c72, f4c73, f4c74, f4c75, f4c76, f4c77, f4c78, f4c79, f4c8, f4c80, f4c81, f4c82, f4c83, f4c84, f4c85, f4c86, f4c87, f4c9, hl, hb, d3, d3', cond_true, cond_false, Tr.run]
    by_cases t4 : (a4 && b4) = true
    · obtain ⟨rfl, rfl⟩ := Bool.and_eq_true_iff.1 t4
      cases a3
      · simp only [f4, f4c0, f4c1, f4c10, f4c11, f4c12, f4c13, f4c14, f4c15, f4c16, f4c17, f4c18, f4c19, f4c2, f4c20, f4c21, f4c22, f4c23, f4c24, f4c25, f4c26, f4c27, f4c28, f4c29, f4c3, f4c30, f4c31, f4c32, f4c33, f4c34, f4c35, f4c36, f4c37, f4c38, f4c39, f4c4, f4c40, f4c41, f4c42, f4c43, f4c44, f4c45, f4c46, f4c47, f4c48, f4c49, f4c5, f4c50, f4c51, f4c52, f4c53, f4c54, f4c55, f4c56, f4c57, f4c58, f4c59, f4c6, f4c60, f4c61, f4c62, f4c63, f4c64, f4c65, f4c66, f4c67, f4c68, f4c69, f4c7, f4c70, f4c71, f4c72, f4c73, f4c74, f4c75, f4c76, f4c77, f4c78, f4c79, f4c8, f4c80, f4c81, f4c82, f4c83, f4c84, f4c85, f4c86, f4c87, f4c9, hl, hb, d3, d4, d4', cond_true, cond_false, Tr.run]
      · cases b3
        · simp only [f4, f4c0, f4c1, f4c10, f4c11, f4c12, f4c13, f4c14, f4c15, f4c16, f4c17, f4c18, f4c19, f4c2, f4c20, f4c21, f4c22, f4c23, f4c24, f4c25, f4c26, f4c27, f4c28, f4c29, f4c3, f4c30, f4c31, f4c32, f4c33, f4c34, f4c35, f4c36, f4c37, f4c38, f4c39, f4c4, f4c40, f4c41, f4c42, f4c43, f4c44, f4c45, f4c46, f4c47, f4c48, f4c49, f4c5, f4c50, f4c51, f4c52, f4c53, f4c54, f4c55, f4c56, f4c57, f4c58, f4c59, f4c6, f4c60, f4c61, f4c62, f4c63, f4c64, f4c65, f4c66, f4c67, f4c68, f4c69, f4c7, f4c70, f4c71, f4c72, f4c73, f4c74, f4c75, f4c76, f4c77, f4c78, f4c79, f4c8, f4c80, f4c81, f4c82, f4c83, f4c84, f4c85, f4c86, f4c87, f4c9, hl, hb, d3, d3', d4, d4', cond_true, cond_false, Tr.run]
        · exact absurd rfl t3
    have c3 : cnt x3 ≤ 1000 := by
      cases a3
      · have := of_decide_eq_false d3
        unfold cnt
        split <;> omega
      · cases b3
        · have := of_decide_eq_false d3'
          unfold cnt
          split <;> omega
        · exact absurd rfl t3
    have c4 : cnt x4 ≤ 1000 := by
      cases a4
      · have := of_decide_eq_false d4
        unfold cnt
        split <;> omega
      · cases b4
        · have := of_decide_eq_false d4'
          unfold cnt
          split <;> omega
        · exact absurd rfl t4
    unfold newW at e27
    have hMn : (memOk ⟨List.replicate (cnt x3) [PV.int .i64 0], List.replicate (cnt x4) [PV.list 68 []]⟩ && decide ((List.replicate (cnt x4) [PV.list 68 []]).length ≤ most)) = true := mem_ok _ _ (short_new _ c4)
    have hPn : pre20 ⟨List.replicate (cnt x3) [PV.int .i64 0], (List.replicate (cnt x4) [PV.list 68 []]).map box81⟩ = true := pre_ok _ _ (by simpa using c3) (short_new _ c4)
    have hSn := same_new (cnt x3) (cnt x4)
    by_cases hin : 0 ≤ x1 ∧ x1 < (x0.a1.length : Int)
    · obtain ⟨k0, k1⟩ := hin
      have hbl : (bx x0.a1 x1).length ≤ 50 := g3 x1.toNat (by omega)
      have e21 := f21_in x0 x1 k0 k1 (by omega)
      have e22 := f22_in ⟨x0.a0, x0.a1.map box81⟩ x1 k0 (by simpa using k1) (by rw [bx_map k0 k1]; omega)
      simp only [bx_map k0 k1] at e22
      have e23 := f23_in x0 x1 x2 k0 k1 (by omega) (by omega)
      have e24 := f24_in ⟨x0.a0, x0.a1.map box81⟩ x1 x2 k0 (by simpa using k1) (by simp; omega) (by omega)
      have hx1 : decide ((bx x0.a1 x1).length ≤ most) = true := most_ok (by omega)
      have hx2 : decide ((bx x0.a1 x1).length ≤ huge) = true := decide_eq_true (huge_ok (by omega))
      have hMs : (memOk ⟨x0.a0, x0.a1.set x1.toNat [PV.list 68 x2]⟩ && decide ((x0.a1.set x1.toNat [PV.list 68 x2]).length ≤ most)) = true := mem_ok _ _ (short_set hs _ _ (by omega))
      have hPs : pre20 ⟨x0.a0, (x0.a1.set x1.toNat [PV.list 68 x2]).map box81⟩ = true := pre_ok _ _ (by omega) (short_set hs _ _ (by omega))
      have hSs := same_set x0.a0 x0.a1 x1.toNat x2
      cases a3 <;> cases b3 <;> cases a4 <;> cases b4 <;> first
        | exact absurd rfl t3
        | exact absurd rfl t4
        | simp only [f4, f4c0, f4c1, f4c10, f4c11, f4c12, f4c13, f4c14, f4c15, f4c16, f4c17, f4c18, f4c19, f4c2, f4c20, f4c21, f4c22, f4c23, f4c24, f4c25, f4c26, f4c27, f4c28, f4c29, f4c3, f4c30, f4c31, f4c32, f4c33, f4c34, f4c35, f4c36, f4c37, f4c38, f4c39, f4c4, f4c40, f4c41, f4c42, f4c43, f4c44, f4c45, f4c46, f4c47, f4c48, f4c49, f4c5, f4c50, f4c51, f4c52, f4c53, f4c54, f4c55, f4c56, f4c57, f4c58, f4c59, f4c6, f4c60, f4c61, f4c62, f4c63, f4c64, f4c65, f4c66, f4c67, f4c68, f4c69, f4c7, f4c70, f4c71, f4c72, f4c73, f4c74, f4c75, f4c76, f4c77, f4c78, f4c79, f4c8, f4c80, f4c81, f4c82, f4c83, f4c84, f4c85, f4c86, f4c87, f4c9, hl, hb, d3, d3', d4, d4', e21, e22, e23, e24, e27, hM, hM0, hP0, hMs, hPs, hSs, hMn, hPn, hSn, hx1, hx2, hbm, same20_refl, alike3_refl, Option.isSome_some, Option.getD_some, beq_self_eq_true, cond_true, cond_false, Tr.run]
    · have ho : x1 < 0 ∨ (x0.a1.length : Int) ≤ x1 := by omega
      have ho' : x1 < 0 ∨ ((x0.a1.map box81).length : Int) ≤ x1 := by simpa using ho
      have e21 := f21_out x0 x1 ho
      have e22 := f22_out ⟨x0.a0, x0.a1.map box81⟩ x1 ho'
      have e23 := f23_out x0 x1 x2 ho
      have e24 := f24_out ⟨x0.a0, x0.a1.map box81⟩ x1 x2 ho'
      have hx1 : decide (([] : List (List PV)).length ≤ most) = true := most_ok (by simp)
      have hx2 : decide (([] : List (List PV)).length ≤ huge) = true := decide_eq_true (huge_ok (by simp))
      cases a3 <;> cases b3 <;> cases a4 <;> cases b4 <;> first
        | exact absurd rfl t3
        | exact absurd rfl t4
        | simp only [f4, f4c0, f4c1, f4c10, f4c11, f4c12, f4c13, f4c14, f4c15, f4c16, f4c17, f4c18, f4c19, f4c2, f4c20, f4c21, f4c22, f4c23, f4c24, f4c25, f4c26, f4c27, f4c28, f4c29, f4c3, f4c30, f4c31, f4c32, f4c33, f4c34, f4c35, f4c36, f4c37, f4c38, f4c39, f4c4, f4c40, f4c41, f4c42, f4c43, f4c44, f4c45, f4c46, f4c47, f4c48, f4c49, f4c5, f4c50, f4c51, f4c52, f4c53, f4c54, f4c55, f4c56, f4c57, f4c58, f4c59, f4c6, f4c60, f4c61, f4c62, f4c63, f4c64, f4c65, f4c66, f4c67, f4c68, f4c69, f4c7, f4c70, f4c71, f4c72, f4c73, f4c74, f4c75, f4c76, f4c77, f4c78, f4c79, f4c8, f4c80, f4c81, f4c82, f4c83, f4c84, f4c85, f4c86, f4c87, f4c9, hl, hb, d3, d3', d4, d4', e21, e22, e23, e24, e27, hM, hM0, hP0, hMn, hPn, hSn, hx1, hx2, hbm, same20_refl, alike3_refl, Option.isSome_some, Option.getD_some, beq_self_eq_true, cond_true, cond_false, Tr.run]
  exact tail _ _ _ _ rfl rfl rfl rfl
end Go.Proofs.YtihdfkdinfmhlaaS
