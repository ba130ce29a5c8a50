/- ArenaBuilds: both memories are made of the same words, and of as many empty boxes. Conditions: none. -/
import Derived.Test.YtdfcioadccijfaaLaw06
import Derived.Test.YtdfcioadccijfaaSays
import Derived.Test.YtdfcioadccijfaaPAx0
import Derived.Test.YtdfcioadccijfaaPAx10
import Derived.Test.YtdfcioadccijfaaPAx11
import Derived.Test.YtdfcioadccijfaaPAx12
import Derived.Test.YtdfcioadccijfaaPAx2
import Derived.Test.YtdfcioadccijfaaPAx3
import Derived.Test.YtdfcioadccijfaaPAx8
import Derived.Test.YtdfcioadccijfaaPAx9
import Derived.Test.YtdfcioadccijfaaSaysArenaBuilds
set_option linter.unusedVariables false
set_option linter.unusedSimpArgs false
namespace Go.Proofs.Ytdfcioadccijfaa.Pure
open Go.RowKit Go.Proofs.Ytdfcioadccijfaa.PA Go.Proofs.YtdfcioadccijfaaW.PrintWords Go.Proofs.YtdfcioadccijfaaW.PrintLast
section
variable {a b c d e f g h : Int} {i : Bool} {j k l : Int}
theorem none7 (n : Nat) (x : Int) : rd_L7 (List.replicate n ([] : List S63)) x = [] := by
  unfold rd_L7
  rw [List.getD_eq_getElem?_getD, List.getElem?_replicate]
  split <;> rfl
theorem none10 (n : Nat) (x : Int) : rd_L10 (List.replicate n ([] : List S66)) x = [] := by
  unfold rd_L10
  rw [List.getD_eq_getElem?_getD, List.getElem?_replicate]
  split <;> rfl
theorem repl_succ {α : Type} (n : Nat) (v : α) : List.replicate n v ++ [v] = List.replicate (n + 1) v := by rw [List.replicate_succ', ]
theorem two_l0 (m : MayBe a b c d e f g h i j k l) (B : List (List S63)) (C : List (List S66)) (hl : -9223372036854775808 ≤ l ∧ l ≤ 9223372036854775807) : ∀ (q : Nat) (x : Int) (ws : List Int), 0 ≤ x → x + q = b → (ws.length : Int) = b * blk d e f + 2 * a → ∃ vs : List Int, (vs.length : Int) = b * blk d e f + 2 * a ∧ Lst (fun p => arena_Build.l0 p b x a b c d e f g h i j k l ws B) (vs, B) ∧ Lst (fun p => millstreamref06_Build.l0 p x a b c d e f g h i j k l ws C) (vs, C)
  | 0, x, ws, h1, h2, hw => by
    refine ⟨ws, hw, Lst.now 0 (fun p _ => ?_), Lst.now 0 (fun p _ => ?_)⟩
    · simp only [arena_Build.l0]
      rw [if_neg (by omega)]
    · simp only [millstreamref06_Build.l0]
      rw [if_neg (by omega)]
  | q + 1, x, ws, h1, h2, hw => by
    have h3 := blk_in (d := d) m.la m.wi
    have h4 : 0 ≤ x * blk d e f ∧ x * blk d e f ≤ 160 := mul_in (n := 0) (by have := m.it; omega) h3
    have h5 : x * blk d e f + blk d e f ≤ b * blk d e f := by
      have := Int.mul_le_mul_of_nonneg_right (show x + 1 ≤ b by omega) (show 0 ≤ blk d e f by omega)
      rw [Int.add_mul, Int.one_mul] at this
      exact this
    have h6 : 0 ≤ b * blk d e f ∧ b * blk d e f ≤ 160 := mul_in (n := 0) (by have := m.it; omega) h3
    have := m.it
    have := m.t
    obtain ⟨vs, hv, H1, H2⟩ := two_l0 m B C hl q (x + 1) (ws.set (x * blk d e f).toNat l) (by omega) (by omega) (by rw [List.length_set]; exact hw)
    refine ⟨vs, hv, Lst.step 0 (fun p _ => ?_) H1, Lst.step 6 (fun p hp => ?_) H2⟩
    · simp only [arena_Build.l0]
      rw [if_pos (by omega), cell_eq m, if_neg (by omega)]
      simp only [Option.bind_some]
      rw [if_pos (by omega), if_pos (by omega), w64 (by omega) (by omega)]
    · simp only [millstreamref06_Build.l0]
      rw [if_pos (by omega), ref_cell m p hp, if_neg (by omega)]
      simp only [Option.bind_some, millstreamref03_Store.f, List.nil_append]
      rw [if_neg (by omega), if_neg (by omega), if_pos (by simp; omega), if_pos (by omega), if_pos (by omega)]
      simp only [Option.bind_some]
      rw [w64 (by omega) (by omega)]
theorem its_ev (a : Int) (ha : 1 ≤ a ∧ a ≤ 16) (ws : List Int) : ∀ (q : Nat) (n : Nat), (n : Int) + q = a → Lst (fun p => millstreamlaw06_its.l0 p n ws (List.replicate a.toNat []) ws (List.replicate n [])) (ws, List.replicate a.toNat [])
  | 0, n, h1 => by
    have e1 : n = a.toNat := by omega
    subst e1
    refine Lst.step 0 (g := fun p => millstreamlaw06_its.j1 p a.toNat false ws (List.replicate a.toNat []) ws (List.replicate a.toNat [])) (fun p _ => ?_) (Lst.now 0 (fun p _ => ?_))
    · simp only [millstreamlaw06_its.l0]
      rw [if_neg (by rw [List.length_replicate]; omega)]
    · simp only [millstreamlaw06_its.j1]
      rfl
  | q + 1, n, h1 => by
    refine Lst.step 0 (g := fun p => millstreamlaw06_its.j1 p n true ws (List.replicate a.toNat []) ws (List.replicate n [])) (fun p _ => ?_) (Lst.step 0 (g := fun p => millstreamlaw06_its.l1 p n [] 0 ws (List.replicate a.toNat []) ws (List.replicate n [])) (fun p _ => ?_) (Lst.step 0 (fun p _ => ?_) (its_ev a ha ws q (n + 1) (by omega))))
    · simp only [millstreamlaw06_its.l0]
      rw [if_pos (by rw [List.length_replicate]; omega), decide_eq_true (by omega)]
    · simp only [millstreamlaw06_its.j1]
      rw [if_pos (by trivial)]
    · simp only [millstreamlaw06_its.l1]
      rw [if_pos (by omega), if_pos (by rw [List.length_replicate]; omega), none7, if_neg (by simp), if_pos (by rw [List.length_replicate]; omega), repl_succ, w64 (by omega) (by omega)]
      rfl
theorem ints_ev (ws : List Int) (hw : ws.length ≤ 1000) : ∀ (q : Nat) (x : Int), 0 ≤ x → x + q = ws.length → Lst (fun p => millstreamref02_Ints.l0 p ws ws x) true
  | 0, x, h1, h2 => by
    refine Lst.now 0 (fun p _ => ?_)
    simp only [millstreamref02_Ints.l0]
    rw [if_neg (by omega)]
  | q + 1, x, h1, h2 => by
    refine Lst.step 0 (fun p _ => ?_) (ints_ev ws hw q (x + 1) (by omega) (by omega))
    simp only [millstreamref02_Ints.l0]
    rw [if_pos (by omega), if_pos h1, if_pos (by omega), if_pos (by trivial), w64 (by omega) (by omega)]
theorem same_none (p : Nat) : millstreamref02_Same.f (p + 1) [] [] = some true := by
  simp [millstreamref02_Same.f, millstreamref02_Same.l0]
theorem boxes_ev (ws : List Int) (n : Nat) (hn : n ≤ 16) : ∀ (q : Nat) (x : Int), 0 ≤ x → x + q = n → Lst (fun p => millstreamref03_Same.l0 p x ws (List.replicate n []) ws (List.replicate n [])) true
  | 0, x, h1, h2 => by
    refine Lst.now 0 (fun p _ => ?_)
    simp only [millstreamref03_Same.l0]
    rw [if_neg (by rw [List.length_replicate]; omega)]
  | q + 1, x, h1, h2 => by
    refine Lst.step 1 (fun p hp => ?_) (boxes_ev ws n hn q (x + 1) (by omega) (by omega))
    obtain ⟨p, rfl⟩ : ∃ y, p = y + 1 := ⟨p - 1, by omega⟩
    simp only [millstreamref03_Same.l0]
    rw [if_pos (by rw [List.length_replicate]; omega), if_pos h1, if_pos (by rw [List.length_replicate]; omega), none10, same_none]
    simp only [Option.bind_some]
    rw [if_pos (by trivial), w64 (by omega) (by omega)]
theorem new_ev (s a : Int) (hs : 0 ≤ s ∧ s ≤ 1000) (ha : 0 ≤ a ∧ a ≤ 16) : Lst (fun p => millstreamref03_New.f p s a) (List.replicate s.toNat 0, List.replicate a.toNat []) := by
  have B : ∀ (q n : Nat), (n : Int) + q = a → Lst (fun p => millstreamref03_New.l1 p a n (List.replicate s.toNat 0) (List.replicate n [])) (List.replicate s.toNat 0, List.replicate a.toNat []) := by
    intro q
    induction q with
    | zero =>
      intro n h1
      have e1 : n = a.toNat := by omega
      subst e1
      refine Lst.now 0 (fun p _ => ?_)
      simp only [millstreamref03_New.l1]
      rw [if_neg (by omega)]
    | succ q ih =>
      intro n h1
      refine Lst.step 0 (fun p _ => ?_) (ih (n + 1) (by omega))
      simp only [millstreamref03_New.l1]
      rw [if_pos (by omega), if_pos (by omega), if_pos (by rw [List.length_replicate]; omega), repl_succ, w64 (by omega) (by omega)]
      rfl
  have A : ∀ (q n : Nat), (n : Int) + q = s → Lst (fun p => millstreamref03_New.l0 p s a n (List.replicate n 0)) (List.replicate s.toNat 0, List.replicate a.toNat []) := by
    intro q
    induction q with
    | zero =>
      intro n h1
      have e1 : n = s.toNat := by omega
      subst e1
      refine Lst.step 0 (fun p _ => ?_) (Lst.step 0 (g := fun p => millstreamref03_New.l1 p a 0 (List.replicate s.toNat 0) []) (f := fun p => millstreamref03_New.j1 p a (List.replicate s.toNat 0)) (fun p _ => ?_) (B a.toNat 0 (by omega)))
      · simp only [millstreamref03_New.l0]
        rw [if_neg (by omega)]
      · simp only [millstreamref03_New.j1]
    | succ q ih =>
      intro n h1
      refine Lst.step 0 (fun p _ => ?_) (ih (n + 1) (by omega))
      simp only [millstreamref03_New.l0]
      rw [if_pos (by omega), if_pos (by omega), if_pos (by rw [List.length_replicate]; omega), repl_succ, w64 (by omega) (by omega)]
      rfl
  exact A s.toNat 0 (by omega)
end
theorem ArenaBuilds : millstreamlaw06_ArenaBuilds.Claim := by
  intro x0 hw
  by_cases hc : millstreamref05_Check.v x0.f0 x0.f1 x0.f2 x0.f3 x0.f4 x0.f5 x0.f6 x0.f7 x0.f8 x0.f9 x0.f10 x0.f11 = 0
  · have m := cfg_ok hc
    have m1 := m.t
    have m2 := m.it
    have h3 := blk_in (d := x0.f3) m.la m.wi
    have h6 : 0 ≤ x0.f1 * blk x0.f3 x0.f4 x0.f5 ∧ x0.f1 * blk x0.f3 x0.f4 x0.f5 ≤ 160 := mul_in (n := 0) (by omega) h3
    obtain ⟨sz, hsz⟩ : ∃ sz, sz = x0.f1 * blk x0.f3 x0.f4 x0.f5 + 2 * x0.f0 := ⟨_, rfl⟩
    obtain ⟨vs, hv, ⟨K1, H1⟩, ⟨K2, H2⟩⟩ := two_l0 m (List.replicate x0.f0.toNat []) (List.replicate x0.f0.toNat []) (by have := hw; unfold W23 Ini64 at this; omega) x0.f1.toNat 0 (List.replicate sz.toNat 0) (by omega) (by omega) (by rw [List.length_replicate]; omega)
    obtain ⟨K3, H3⟩ := its_ev x0.f0 m1 vs x0.f0.toNat 0 (by omega)
    obtain ⟨K4, H4⟩ := ints_ev vs (by omega) vs.length 0 (by omega) (by omega)
    obtain ⟨K5, H5⟩ := boxes_ev vs x0.f0.toNat (by omega) x0.f0.toNat 0 (by omega) (by omega)
    obtain ⟨K6, H6⟩ := new_ev sz x0.f0 (by omega) (by omega)
    obtain ⟨K, hK⟩ : ∃ K, K = K1 + K2 + K3 + K4 + K5 + K6 + 10 := ⟨_, rfl⟩
    refine ⟨K + 1, ?_⟩
    unfold millstreamlaw06_ArenaBuilds.f
    rw [may_f]
    simp only [Option.bind_some]
    rw [if_pos (beq_iff_eq.mpr hc), shown_k (K + 1) (by omega)]
    simp only [Option.bind_some, Bool.not_true, millstreamlaw06_ArenaBuilds.j0]
    rw [if_neg (by simp)]
    have E1 : arena_Build.f K x0.f0 x0.f1 x0.f2 x0.f3 x0.f4 x0.f5 x0.f6 x0.f7 x0.f8 x0.f9 x0.f10 x0.f11 = some (vs, List.replicate x0.f0.toNat []) := by
      unfold arena_Build.f wmem_New.f wmem_made_int.f batch_Entry.f
      rw [size_eq m]
      simp only [Option.bind_some]
      rw [← hsz, if_neg (by omega), if_neg (by omega), if_pos (by omega), if_pos (by omega), if_neg (by omega), if_neg (by omega), if_pos (by omega), if_pos (by omega)]
      simp only [Option.bind_some]
      exact H1 K (by omega)
    have E2 : millstreamref06_Build.f K x0.f0 x0.f1 x0.f2 x0.f3 x0.f4 x0.f5 x0.f6 x0.f7 x0.f8 x0.f9 x0.f10 x0.f11 = some (vs, List.replicate x0.f0.toNat []) := by
      unfold millstreamref06_Build.f
      rw [ref_size m K (by omega)]
      simp only [Option.bind_some]
      rw [← hsz, show millstreamref03_New.f K sz x0.f0 = _ from H6 K (by omega)]
      simp only [Option.bind_some]
      exact H2 K (by omega)
    have E3 : millstreamlaw06_its.f K vs (List.replicate x0.f0.toNat []) = some (vs, List.replicate x0.f0.toNat []) := by
      unfold millstreamlaw06_its.f
      exact H3 K (by omega)
    have E4 : millstreamref02_Ints.f K vs vs = some true := by
      unfold millstreamref02_Ints.f
      rw [if_pos (by trivial)]
      exact H4 K (by omega)
    have E5 : millstreamref03_Same.f K vs (List.replicate x0.f0.toNat []) vs (List.replicate x0.f0.toNat []) = some true := by
      unfold millstreamref03_Same.f
      rw [E4]
      simp only [Option.bind_some]
      rw [if_pos (by trivial)]
      obtain ⟨K', rfl⟩ : ∃ y, K = y + 1 := ⟨K - 1, by omega⟩
      simp only [millstreamref03_Same.j0]
      rw [if_neg (by simp)]
      exact H5 K' (by omega)
    rw [E1]
    simp only [Option.bind_some]
    rw [if_pos (by omega), if_pos (by rw [List.length_replicate]; omega), E3]
    simp only [Option.bind_some]
    rw [E2]
    simp only [Option.bind_some]
    rw [E5]
    rfl
  · refine ⟨21, ?_⟩
    unfold millstreamlaw06_ArenaBuilds.f
    rw [may_f]
    simp only [Option.bind_some]
    rw [if_neg (by simpa using hc)]
    simp only [millstreamlaw06_ArenaBuilds.j0]
    rw [if_pos trivial, shown_k 20 (by omega)]
    rfl
end Go.Proofs.Ytdfcioadccijfaa.Pure
