/- The rest of a function, walked into from a point on. Conditions: what functions that are not walked into hand back. -/
import Derived.Test.YtjoebchkchoomaaSimUse
set_option linter.unusedVariables false
set_option linter.unusedSimpArgs false
namespace Go.Proofs.YtjoebchkchoomaaS
open Go Go.RowKit

/-- A function's rest, from data in its temporaries on. -/
def evTail (E : Env) (n : Nat) (fn : Func) (f : Nat) (c : Code) (ps : List PV) : Tr Res :=
  (evCode E n c { tmps := ps.map ofPV1, stack := [], mem := [], cur := 0, ctr := 1, fn := f }).bind fun r =>
    match r.1 with
    | .normal | .ret => (resultsA E fn r.2).bind fun v => match resEnd r.2.mem v with
      | some q => .ret q
      | none => .fail
    | _ => .fail
theorem tail_sound {E : Env} (hE : E.Ok) (hm : E.P.follows .mixedOrders = true) {n f : Nat} {fn : Func} {c : Code} {ps : List PV} {r : Res} (hr : (evTail E n fn f c ps).run = some r) {w : World} {S : Nat → Nat → Prop} {act : Act} {w0 : World} (hw0 : w0 = w) (hS : ∀ b o, S b o → b < w.heap.size) (hv : VPs E.P w S ps act.tmps.toList) (hd : act.defers = []) {R : Ending → World → Prop}
    (hR : ∀ v w', Below w.heap.size w w' → ResRel E.P S w w' r v → R (.returned v) w') : c.wp E.P (bodyPost E.P fn R) act w := by
  unfold evTail at hr
  obtain ⟨q, h1, h2⟩ := tr_bind hr
  clear hr
  let X : Out := ⟨w.heap.size, w, S, hS, Nat.le_refl _⟩
  have hS0 : Smut E.P S [] (fun _ => none) = S := by
    funext b o
    apply propext
    refine ⟨fun q => ?_, .inl⟩
    rcases q with q | ⟨id, ob, g, _⟩
    · exact q
    · cases g
  have hrel : Rel E.P X { tmps := ps.map ofPV1, stack := [], mem := [], cur := 0, ctr := 1, fn := f } (fun _ => none) (fun _ => 0) [] act.tmps.toList w := by
    refine ⟨Below.refl _ _, (fun id b q => by cases q), (fun i j b oi oj q => by cases q), (fun id ob q => by cases q), ?_, rfl, (fun i x vs q => by cases q)⟩
    refine VAs.of_get (by simp [hv.length]) fun i x u h3 h4 => ?_
    rw [List.getElem?_map] at h3
    obtain ⟨p, hp, rfl⟩ := Option.map_eq_some_iff.1 h3
    obtain ⟨u', h5, h6⟩ := hv.get hp
    rw [h4] at h5
    cases h5
    refine va_of1 ?_
    show VP E.P w (Smut E.P S [] (fun _ => none)) p u
    rw [hS0]
    exact h6
  refine code_sound hE hm n c _ q.1 q.2 (show _ = some (q.1, q.2) from h1) X (fun _ => none) (fun _ => 0) [] act w hrel hd _ ?_
  intro mu' ka' act' w' hrel' hd'
  have fin : ((resultsA E fn q.2).bind fun v => match resEnd q.2.mem v with
      | some q => Tr.ret q
      | none => .fail).run = some r → ∃ v, (results fn act'.tmps).run E.P w' = .ok v w' ∧ R (.returned v) w' := by
    intro h2
    obtain ⟨v, h3, h4⟩ := tr_bind h2
    obtain ⟨u, h5, h6⟩ := results_sound hrel' h3
    refine ⟨u, h5, hR u w' hrel'.bel ?_⟩
    cases hq : resEnd q.2.mem v with
    | none => rw [hq] at h4; simp [Tr.run] at h4
    | some r' =>
      rw [hq] at h4
      simp only [Tr.run, Option.some.injEq] at h4
      subst h4
      exact Rel.resEnd (X := X) hrel' rfl hq h6
  cases hq : q.1 <;> rw [hq] at h2 <;> simp only at h2
  · exact ⟨hd', fin h2⟩
  · simp [Tr.run] at h2
  · simp [Tr.run] at h2
  · exact ⟨hd', fin h2⟩
/-- What no tactic looks at. -/
structure Hid (p : Prop) : Prop where
  out : p
theorem wp_later {P : Program} {Q : Exit → Act → World → Prop} {act : Act} {w : World} {a b c : Code} (h : ∀ T, Hid (T = c) → (Code.seq a (Code.seq b T)).wp P Q act w) : (Code.seq a (Code.seq b c)).wp P Q act w := h c ⟨rfl⟩
theorem VPss.none {P : Program} {w : World} {S : Nat → Nat → Prop} {xs : List (List PV)} {us : List Value} {n : Nat} (h : VPss P w S xs us) (hn : ∀ e ∈ xs, e.length = n) (h0 : 0 < n) (hu : us = []) : xs = [] := by
  have := h.length hn
  rw [hu] at this
  have h2 : xs.length * n = 0 := by simpa using this.symm
  rcases Nat.mul_eq_zero.1 h2 with h3 | h3
  · exact List.length_eq_zero_iff.1 h3
  · omega
end Go.Proofs.YtjoebchkchoomaaS
