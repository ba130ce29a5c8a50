/- The pure statement that is left of WmemCas. Conditions: the numbers' own ranges. -/
import Derived.Test.YtihdfkdinfmhlaaF4x6
import Derived.Test.YtihdfkdinfmhlaaFacts03
import Derived.Test.YtihdfkdinfmhlaaSimPure
set_option linter.unusedVariables false
set_option linter.unusedSimpArgs false
set_option maxRecDepth 10000
namespace Go.Proofs.YtihdfkdinfmhlaaS
open Go Go.Proofs
theorem pureWmemCas (x0 : S25) (x1 : Int) (x2 : Int) (x3 : Int) (x4 : Int) (h0 : Wf (S25v x0)) (h1 : Wf (PV.int .u8 x1)) (h2 : Wf (PV.int .i64 x2)) (h3 : Wf (PV.int .i64 x3)) (h4 : Wf (PV.int .i64 x4)) (hm : Meant Try.prog [S25v x0, PV.int .u8 x1, PV.int .i64 x2, PV.int .i64 x3, PV.int .i64 x4]) : ∃ N, f6 N x0 x1 x2 x3 x4 = some ⟨true⟩ := by
  refine ⟨0, ?_⟩
  refine run_test (fun h => rfl) (fun hl => ?_)
  refine run_test (fun h => rfl) (fun he => ?_)
  have hn : (x0.a0.length : Int) ≠ 0 := by simpa using he
  refine run_true (decide_eq_true hn) ?_
  obtain ⟨g1, g2, g3⟩ := long_no hl
  have hs := short_of hl
  obtain ⟨k0, k1⟩ := place_of (wf_u8 h1) hn
  generalize (IntKind.i64.wrap x1).tmod (x0.a0.length : Int) = k at k0 k1
  have q1 : (decide (0 ≤ k) && decide (k < (x0.a0.length : Int))) = true := by rw [decide_eq_true k0, decide_eq_true k1]; rfl
  refine run_true q1 ?_
  have hx : pInt ((x0.a0.getD k.toNat []).headD PV.undef) = word x0.a0 k := rfl
  simp only [hx]
  have m1 := mem_ok x0.a0 x0.a1 hs
  have p1 := pre_ok x0.a0 x0.a1 (by omega) hs
  have len1 : ∀ v : List PV, k < ((x0.a0.set k.toNat v).length : Int) := fun v => by simpa using k1
  have len2 : ∀ v : List PV, (x0.a0.set k.toNat v).length ≤ 1000 := fun v => by simp; omega
  have c1 := f18_eq x0 k (word x0.a0 k) x3 k0 k1 (by omega) rfl
  simp only [c1, Option.isSome_some, Option.getD_some]
  have sg := same20_refl ⟨x0.a0, x0.a1.map box81⟩
  by_cases ev : x3 = word x0.a0 k
  · have c2 := f18_eq ⟨x0.a0.set k.toNat [PV.int .i64 x3], x0.a1⟩ k (word x0.a0 k) x4 k0 (len1 _) (len2 _) (by rw [word_set k0 k1]; exact ev)
    simp only [List.set_set] at c2
    have l2 := f12_in ⟨x0.a0.set k.toNat [PV.int .i64 x4], x0.a1⟩ k k0 (len1 _)
    simp only [word_set k0 k1] at l2
    by_cases eo : word x0.a0 k = x2
    · have c3 := f18_eq x0 k x2 x3 k0 k1 (by omega) eo
      have evb : (x3 == word x0.a0 k) = true := by simp [ev]
      have eob : (x2 == word x0.a0 k) = true := by simp [eo]
      simp only [c2, c3, l2, Option.isSome_some, Option.getD_some]
      simp [Tr.run, evb, eob]
    · have c3 := f18_ne x0 k x2 x3 k0 k1 (by omega) eo
      have eo' : (x2 == word x0.a0 k) = false := by
        simp only [beq_eq_false_iff_ne]
        exact fun h => eo h.symm
      have evb : (x3 == word x0.a0 k) = true := by simp [ev]
      simp only [c2, c3, l2, Option.isSome_some, Option.getD_some]
      simp [Tr.run, evb, eo', m1, p1, sg]
  · have c2 := f18_ne ⟨x0.a0.set k.toNat [PV.int .i64 x3], x0.a1⟩ k (word x0.a0 k) x4 k0 (len1 _) (len2 _) (by rw [word_set k0 k1]; exact ev)
    have l2 := f12_in ⟨x0.a0.set k.toNat [PV.int .i64 x3], x0.a1⟩ k k0 (len1 _)
    simp only [word_set k0 k1] at l2
    have ev' : (x3 == word x0.a0 k) = false := by simpa using ev
    by_cases eo : word x0.a0 k = x2
    · have c3 := f18_eq x0 k x2 x3 k0 k1 (by omega) eo
      have eob : (x2 == word x0.a0 k) = true := by simp [eo]
      simp only [c2, c3, l2, Option.isSome_some, Option.getD_some]
      simp [Tr.run, ev', eob]
    · have c3 := f18_ne x0 k x2 x3 k0 k1 (by omega) eo
      have eo' : (x2 == word x0.a0 k) = false := by
        simp only [beq_eq_false_iff_ne]
        exact fun h => eo h.symm
      simp only [c2, c3, l2, Option.isSome_some, Option.getD_some]
      simp [Tr.run, ev', eo', m1, p1, sg]
end Go.Proofs.YtihdfkdinfmhlaaS
