/- ArenaOnce: the list of all places is 0, 1, 2 and so on. Conditions: none. -/
import Derived.Test.YtdfcioadccijfaaLaw06
import Derived.Test.YtdfcioadccijfaaSays
import Derived.Test.YtdfcioadccijfaaPAx13
import Derived.Test.YtdfcioadccijfaaPAx2
import Derived.Test.YtdfcioadccijfaaSaysArenaOnce
set_option linter.unusedVariables false
set_option linter.unusedSimpArgs false
namespace Go.Proofs.Ytdfcioadccijfaa.Pure
open Go.RowKit Go.Proofs.Ytdfcioadccijfaa.PA Go.Proofs.YtdfcioadccijfaaW.PrintWords Go.Proofs.YtdfcioadccijfaaW.PrintLast
/-- 0, 1, .. below n. -/
def idn (n : Nat) : List Int := (List.range n).map fun (i : Nat) => (i : Int)
theorem idn_length (n : Nat) : (idn n).length = n := by simp [idn]
theorem idn_succ (n : Nat) (t : Int) (h : t = n) : idn n ++ [t] = idn (n + 1) := by
  subst h; simp [idn, List.range_succ]
theorem idn_rd (n : Nat) (x : Int) (h1 : 0 ≤ x) (h2 : x < n) : rd (idn n) x = x := by
  obtain ⟨q, rfl⟩ : ∃ q : Nat, x = q := ⟨x.toNat, by omega⟩
  have h3 : q < (idn n).length := by rw [idn_length]; omega
  unfold rd
  rw [Int.toNat_natCast, List.getD_eq_getElem?_getD, List.getElem?_eq_getElem h3]
  simp [idn]
section
variable {a b c d e f g h : Int} {i : Bool} {j k l : Int}
theorem o5 (n : Nat) (hn : n ≤ 1000) : ∀ (q : Nat) (x : Int), 0 ≤ x → x + q = n → Lst (fun k => millstreamlaw06_ArenaOnce.l5 k (idn n) x) true
  | 0, x, h1, h2 => by
    refine Lst.now 0 (fun k _ => ?_)
    simp only [millstreamlaw06_ArenaOnce.l5]
    rw [idn_length, if_neg (by omega)]
  | q + 1, x, h1, h2 => by
    refine Lst.step 0 (fun k _ => ?_) (o5 n hn q (x + 1) (by omega) (by omega))
    simp only [millstreamlaw06_ArenaOnce.l5]
    rw [idn_length, if_pos (by omega), if_pos h1, if_pos (idn_rd n x h1 (by omega)), w64 (by omega) (by omega)]
theorem o4 (m : MayBe a b c d e f g h i j k l) : ∀ (q n : Nat) (x : Int), 0 ≤ x → x + q = a → (n : Int) = b * blk d e f + 2 * x → Lst (fun k' => millstreamlaw06_ArenaOnce.l4 k' (idn n) x a b c d e f g h i j k l) true
  | 0, n, x, h1, h2, hn => by
    have h3 := blk_in (d := d) m.la m.wi
    have h4 : 0 ≤ b * blk d e f ∧ b * blk d e f ≤ 160 := mul_in (n := 0) (by have := m.it; omega) h3
    have := m.t
    refine Lst.step 0 (fun k _ => ?_) (o5 n (by omega) n 0 (by omega) (by omega))
    simp only [millstreamlaw06_ArenaOnce.l4]
    rw [if_neg (by omega), size_eq m]
    simp only [Option.bind_some]
    rw [idn_length, if_pos (by omega)]
  | q + 1, n, x, h1, h2, hn => by
    have h3 := blk_in (d := d) m.la m.wi
    have h4 : 0 ≤ b * blk d e f ∧ b * blk d e f ≤ 160 := mul_in (n := 0) (by have := m.it; omega) h3
    have := m.t
    refine Lst.step 0 (fun k _ => ?_) (o4 m q (n + 1 + 1) (x + 1) (by omega) (by omega) (by omega))
    simp only [millstreamlaw06_ArenaOnce.l4]
    rw [if_pos (by omega), line_eq m, if_neg (by omega), result_eq m, if_neg (by omega)]
    simp only [Option.bind_some]
    rw [idn_length, if_pos (by simp; omega), w64 (by omega) (by omega), ← idn_succ (n + 1) (b * blk d e f + 2 * x + 1) (by omega), ← idn_succ n (b * blk d e f + 2 * x) (by omega), List.append_assoc]
    rfl
theorem o3 (m : MayBe a b c d e f g h i j k l) {x4 x6 : Int} (hx : 0 ≤ x4 ∧ x4 < b) (h6 : 1 ≤ x6 ∧ x6 ≤ e) (H : ∀ n : Nat, (n : Int) = x4 * blk d e f + pw d + x6 * f → Lst (fun k' => millstreamlaw06_ArenaOnce.l2 k' (idn n) x4 (x6 + 1) a b c d e f g h i j k l) true) : ∀ (q n : Nat) (x : Int), 0 ≤ x → x + q = f → (n : Int) = x4 * blk d e f + pw d + (x6 - 1) * f + x → Lst (fun k' => millstreamlaw06_ArenaOnce.l3 k' (idn n) x4 x6 x a b c d e f g h i j k l) true
  | 0, n, x, h1, h2, hn => by
    have e1 : (x6 - 1) * f = x6 * f - f := by rw [Int.sub_mul, Int.one_mul]
    have := m.la
    refine Lst.step 0 (fun k _ => ?_) (H n (by omega))
    simp only [millstreamlaw06_ArenaOnce.l3]
    rw [if_neg (by omega), w64 (by omega) (by omega)]
  | q + 1, n, x, h1, h2, hn => by
    have h3 := blk_in (d := d) m.la m.wi
    have h4 : 0 ≤ x4 * blk d e f ∧ x4 * blk d e f ≤ 160 := mul_in (n := 0) (by have := m.it; omega) h3
    have hw := m.wi
    have hl := m.la
    have hp := pw_in d
    have h5 : 0 ≤ (x6 - 1) * f ∧ (x6 - 1) * f ≤ 24 := le_in (by omega) m.wi
    refine Lst.step 0 (fun k _ => ?_) (o3 m hx h6 H q (n + 1) (x + 1) (by omega) (by omega) (by omega))
    simp only [millstreamlaw06_ArenaOnce.l3]
    rw [if_pos (by omega), slot_eq m, if_neg (by omega)]
    simp only [Option.bind_some]
    rw [idn_length, if_pos (by omega), w64 (by omega) (by omega), idn_succ n _ (by omega)]
theorem o2 (m : MayBe a b c d e f g h i j k l) {x4 : Int} (hx : 0 ≤ x4 ∧ x4 < b) (H : ∀ n : Nat, (n : Int) = x4 * blk d e f + blk d e f → Lst (fun k' => millstreamlaw06_ArenaOnce.l0 k' (idn n) (x4 + 1) a b c d e f g h i j k l) true) : ∀ (q n : Nat) (x : Int), 1 ≤ x → x + q = e + 1 → (n : Int) = x4 * blk d e f + pw d + (x - 1) * f → Lst (fun k' => millstreamlaw06_ArenaOnce.l2 k' (idn n) x4 x a b c d e f g h i j k l) true
  | 0, n, x, h1, h2, hn => by
    have := m.it
    have e1 : x - 1 = e := by omega
    refine Lst.step 0 (fun k _ => ?_) (H n (by rw [e1] at hn; unfold blk at *; omega))
    simp only [millstreamlaw06_ArenaOnce.l2]
    rw [if_neg (by omega), w64 (by omega) (by omega)]
  | q + 1, n, x, h1, h2, hn => by
    have hw := m.wi
    have H3 := o3 m hx (x6 := x) ⟨h1, by omega⟩ (fun n' hn' => o2 m hx H q n' (x + 1) (by omega) (by omega) (by rw [show x + 1 - 1 = x by omega]; exact hn')) f.toNat n 0 (by omega) (by omega) (by omega)
    refine Lst.step 0 (fun k _ => ?_) H3
    simp only [millstreamlaw06_ArenaOnce.l2]
    rw [if_pos (by omega)]
theorem o1 (m : MayBe a b c d e f g h i j k l) {x4 : Int} (hx : 0 ≤ x4 ∧ x4 < b) (H : ∀ n : Nat, (n : Int) = x4 * blk d e f + pw d → Lst (fun k' => millstreamlaw06_ArenaOnce.l2 k' (idn n) x4 1 a b c d e f g h i j k l) true) : ∀ (q n : Nat) (x : Int), 1 ≤ x → x + q = pw d → (n : Int) = x4 * blk d e f + x → Lst (fun k' => millstreamlaw06_ArenaOnce.l1 k' (idn n) x4 x a b c d e f g h i j k l) true
  | 0, n, x, h1, h2, hn => by
    refine Lst.step 6 (fun k' hk => ?_) (H n (by omega))
    simp only [millstreamlaw06_ArenaOnce.l1]
    rw [ref_nodes m k' hk]
    simp only [Option.bind_some]
    rw [if_neg (by omega)]
  | q + 1, n, x, h1, h2, hn => by
    have h3 := blk_in (d := d) m.la m.wi
    have h4 : 0 ≤ x4 * blk d e f ∧ x4 * blk d e f ≤ 160 := mul_in (n := 0) (by have := m.it; omega) h3
    have hp := pw_in d
    refine Lst.step 6 (fun k' hk => ?_) (o1 m hx H q (n + 1) (x + 1) (by omega) (by omega) (by omega))
    simp only [millstreamlaw06_ArenaOnce.l1]
    rw [ref_nodes m k' hk]
    simp only [Option.bind_some]
    rw [if_pos (by omega), node_eq m, if_neg (by omega)]
    simp only [Option.bind_some]
    rw [idn_length, if_pos (by omega), w64 (by omega) (by omega), idn_succ n _ (by omega)]
theorem o0 (m : MayBe a b c d e f g h i j k l) : ∀ (q n : Nat) (x : Int), 0 ≤ x → x + q = b → (n : Int) = x * blk d e f → Lst (fun k' => millstreamlaw06_ArenaOnce.l0 k' (idn n) x a b c d e f g h i j k l) true
  | 0, n, x, h1, h2, hn => by
    have := m.t
    have e1 : x = b := by omega
    subst e1
    refine Lst.step 0 (fun k' _ => ?_) (o4 m a.toNat n 0 (by omega) (by omega) (by omega))
    simp only [millstreamlaw06_ArenaOnce.l0]
    rw [if_neg (by omega)]
  | q + 1, n, x, h1, h2, hn => by
    have h3 := blk_in (d := d) m.la m.wi
    have h4 : 0 ≤ x * blk d e f ∧ x * blk d e f ≤ 160 := mul_in (n := 0) (by have := m.it; omega) h3
    have hp := pw_in d
    have he := m.la
    have H := o1 m (x4 := x) ⟨h1, by omega⟩ (fun n1 hn1 => o2 m (x4 := x) ⟨h1, by omega⟩ (fun n2 hn2 => o0 m q n2 (x + 1) (by omega) (by omega) (by rw [Int.add_mul, Int.one_mul]; exact hn2)) e.toNat n1 1 (by omega) (by omega) (by omega)) (pw d - 1).toNat (n + 1) 1 (by omega) (by omega) (by omega)
    refine Lst.step 0 (fun k' _ => ?_) H
    simp only [millstreamlaw06_ArenaOnce.l0]
    rw [if_pos (by omega), cell_eq m, if_neg (by omega)]
    simp only [Option.bind_some]
    rw [idn_length, if_pos (by omega), idn_succ n _ (by omega)]
end
theorem ArenaOnce : millstreamlaw06_ArenaOnce.Claim := by
  intro x0 _
  by_cases hc : millstreamref05_Check.v x0.f0 x0.f1 x0.f2 x0.f3 x0.f4 x0.f5 x0.f6 x0.f7 x0.f8 x0.f9 x0.f10 x0.f11 = 0
  · have m := cfg_ok hc
    have m2 := m.it
    obtain ⟨K, H⟩ := o0 m x0.f1.toNat 0 0 (by omega) (by omega) (by omega)
    refine ⟨K + 9, ?_⟩
    unfold millstreamlaw06_ArenaOnce.f
    rw [may_f]
    simp only [Option.bind_some]
    rw [if_pos (beq_iff_eq.mpr hc), shown_k (K + 9) (by omega)]
    simp only [Option.bind_some, Bool.not_true, millstreamlaw06_ArenaOnce.j0]
    rw [if_neg (by simp)]
    exact H (K + 8) (by omega)
  · refine ⟨21, ?_⟩
    unfold millstreamlaw06_ArenaOnce.f
    rw [may_f]
    simp only [Option.bind_some]
    rw [if_neg (by simpa using hc)]
    simp only [millstreamlaw06_ArenaOnce.j0]
    rw [if_pos trivial, shown_k 20 (by omega)]
    rfl
end Go.Proofs.Ytdfcioadccijfaa.Pure
