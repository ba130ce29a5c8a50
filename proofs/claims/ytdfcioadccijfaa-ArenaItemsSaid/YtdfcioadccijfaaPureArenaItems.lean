/- ArenaItems: the blocks of items lie one behind the other. Conditions: none. -/
import Derived.Test.YtdfcioadccijfaaLaw06
import Derived.Test.YtdfcioadccijfaaSays
import Derived.Test.YtdfcioadccijfaaPAx14
import Derived.Test.YtdfcioadccijfaaPAx2
import Derived.Test.YtdfcioadccijfaaSaysArenaItems
set_option linter.unusedVariables false
set_option linter.unusedSimpArgs false
namespace Go.Proofs.Ytdfcioadccijfaa.Pure
open Go.RowKit Go.Proofs.Ytdfcioadccijfaa.PA Go.Proofs.YtdfcioadccijfaaW.PrintWords Go.Proofs.YtdfcioadccijfaaW.PrintLast
section
variable {a b c d e f g h : Int} {i : Bool} {j k l : Int}
theorem apart (x d e f : Int) : (x - 1) * blk d e f = x * blk d e f - blk d e f := by rw [Int.sub_mul, Int.one_mul]
theorem l2_ev (m : MayBe a b c d e f g h i j k l) {x4 : Int} (hx : 1 ≤ x4 ∧ x4 < b) (H : Lst (fun q => millstreamlaw06_ArenaItems.l0 q (blk d e f) (x4 + 1) a b c d e f g h i j k l) true) : ∀ (n : Nat) (x6 : Int), 1 ≤ x6 → x6 + n = e + 1 → Lst (fun q => millstreamlaw06_ArenaItems.l2 q (blk d e f) x4 x6 a b c d e f g h i j k l) true
  | 0, x6, h1, h2 => by
    refine Lst.step 0 (fun q _ => ?_) H
    have := m.it
    simp only [millstreamlaw06_ArenaItems.l2]
    rw [if_neg (by omega), w64 (x := x4 + 1) (by omega) (by omega)]
  | n + 1, x6, h1, h2 => by
    refine Lst.step 0 (fun q _ => ?_) (l2_ev m hx H n (x6 + 1) (by omega) (by omega))
    obtain ⟨m1, m2, m3, m4, m5, m6, m7, m8, m9⟩ := id m
    have h3 := blk_in (d := d) m.la m.wi
    have h4 := apart x4 d e f
    simp only [millstreamlaw06_ArenaItems.l2]
    rw [if_pos (by omega), w64 (x := f - 1) (by omega) (by omega), w64 (x := x4 - 1) (by omega) (by omega), slot_eq m, if_neg (by omega), slot_eq m, if_neg (by omega)]
    simp only [Option.bind_some]
    rw [w64 (x := x6 + 1) (by omega) (by omega), w64 (by omega) (by omega), if_pos (by omega)]
theorem l1_ev (m : MayBe a b c d e f g h i j k l) {x4 : Int} (hx : 1 ≤ x4 ∧ x4 < b) (H : Lst (fun q => millstreamlaw06_ArenaItems.l2 q (blk d e f) x4 1 a b c d e f g h i j k l) true) : ∀ (n : Nat) (x5 : Int), 1 ≤ x5 → x5 + n = pw d → Lst (fun q => millstreamlaw06_ArenaItems.l1 q (blk d e f) x4 x5 a b c d e f g h i j k l) true
  | 0, x5, h1, h2 => by
    refine Lst.step 6 (fun q hq => ?_) H
    simp only [millstreamlaw06_ArenaItems.l1]
    rw [ref_nodes m q hq]
    simp only [Option.bind_some]
    rw [if_neg (by omega)]
  | n + 1, x5, h1, h2 => by
    refine Lst.step 6 (fun q hq => ?_) (l1_ev m hx H n (x5 + 1) (by omega) (by omega))
    obtain ⟨m1, m2, m3, m4, m5, m6, m7, m8, m9⟩ := id m
    have h0 := pw_in d
    have h3 := blk_in (d := d) m.la m.wi
    have h4 := apart x4 d e f
    simp only [millstreamlaw06_ArenaItems.l1]
    rw [ref_nodes m q hq]
    simp only [Option.bind_some]
    rw [if_pos (by omega), w64 (x := x4 - 1) (by omega) (by omega), node_eq m, if_neg (by omega), node_eq m, if_neg (by omega)]
    simp only [Option.bind_some]
    rw [w64 (x := x5 + 1) (by omega) (by omega), w64 (by omega) (by omega), if_pos (by omega)]
theorem l0_ev (m : MayBe a b c d e f g h i j k l) : ∀ (n : Nat) (x4 : Int), 1 ≤ x4 → x4 + n = b → Lst (fun q => millstreamlaw06_ArenaItems.l0 q (blk d e f) x4 a b c d e f g h i j k l) true
  | 0, x4, h1, h2 => by
    refine Lst.now 0 (fun q _ => ?_)
    obtain ⟨m1, m2, m3, m4, m5, m6, m7, m8, m9⟩ := id m
    have h3 := blk_in (d := d) m.la m.wi
    have h4 : 0 ≤ b * blk d e f ∧ b * blk d e f ≤ 160 := mul_in (n := 0) (by omega) h3
    have h5 : blk d e f * b = b * blk d e f := Int.mul_comm _ _
    simp only [millstreamlaw06_ArenaItems.l0]
    rw [if_neg (by omega), line_eq m, if_neg (by omega)]
    simp only [Option.bind_some]
    rw [h5, w64 (x := b * blk d e f) (by omega) (by omega), if_pos (by omega), w64 (x := a - 1) (by omega) (by omega), result_eq m, if_neg (by omega), size_eq m]
    simp only [Option.bind_some]
    rw [w64 (x := b * blk d e f + 2 * a - 1) (by omega) (by omega)]
    refine congrArg some (beq_iff_eq.mpr (by omega))
  | n + 1, x4, h1, h2 => by
    have H := l0_ev m n (x4 + 1) (by omega) (by omega)
    have h0 := pw_in d
    obtain ⟨m1, m2, m3, m4, m5, m6, m7, m8, m9⟩ := id m
    have H2 := l2_ev m (x4 := x4) ⟨by omega, by omega⟩ H (e.toNat) 1 (by omega) (by omega)
    have H1 := l1_ev m (x4 := x4) ⟨by omega, by omega⟩ H2 ((pw d - 1).toNat) 1 (by omega) (by omega)
    refine Lst.step 0 (fun q _ => ?_) H1
    have h3 := blk_in (d := d) m.la m.wi
    have h4 := apart x4 d e f
    simp only [millstreamlaw06_ArenaItems.l0]
    rw [if_pos (by omega), w64 (x := x4 - 1) (by omega) (by omega), cell_eq m, if_neg (by omega), cell_eq m, if_neg (by omega)]
    simp only [Option.bind_some]
    rw [w64 (by omega) (by omega), if_pos (by omega)]
end
theorem ArenaItems : millstreamlaw06_ArenaItems.Claim := by
  intro x0 _
  by_cases hc : millstreamref05_Check.v x0.f0 x0.f1 x0.f2 x0.f3 x0.f4 x0.f5 x0.f6 x0.f7 x0.f8 x0.f9 x0.f10 x0.f11 = 0
  · have m := cfg_ok hc
    have m2 := m.it
    have h0 := pw_in x0.f3
    have hl := le_in m.la m.wi
    obtain ⟨K, H⟩ := l0_ev m ((x0.f1 - 1).toNat) 1 (by omega) (by omega)
    refine ⟨K + 9, ?_⟩
    unfold millstreamlaw06_ArenaItems.f
    rw [may_f]
    simp only [Option.bind_some]
    rw [if_pos (beq_iff_eq.mpr hc), shown_k (K + 9) (by omega)]
    simp only [Option.bind_some, Bool.not_true, millstreamlaw06_ArenaItems.j0]
    rw [if_neg (by simp), nodes_eq m]
    simp only [Option.bind_some]
    rw [w64 (x := 1 + (pw x0.f3 - 1)) (by omega) (by omega), w64 (x := x0.f4 * x0.f5) (by omega) (by omega), w64 (by omega) (by omega)]
    have e1 : 1 + (pw x0.f3 - 1) + x0.f4 * x0.f5 = blk x0.f3 x0.f4 x0.f5 := by unfold blk; omega
    rw [e1]
    exact H (K + 8) (by omega)
  · refine ⟨21, ?_⟩
    unfold millstreamlaw06_ArenaItems.f
    rw [may_f]
    simp only [Option.bind_some]
    rw [if_neg (by simpa using hc)]
    simp only [millstreamlaw06_ArenaItems.j0]
    rw [if_pos trivial, shown_k 20 (by omega)]
    rfl
end Go.Proofs.Ytdfcioadccijfaa.Pure
