/- The rest of a function, from data and one slice of its own on. Conditions: what functions that are not walked into hand back. -/
import Derived.Test.YtjoebchkchoomaaSimTail
set_option linter.unusedVariables false
set_option linter.unusedSimpArgs false
namespace Go.Proofs.YtjoebchkchoomaaS
open Go Go.RowKit

/-- A state of data alone, as the run begins with. -/
def St.plain (f : Nat) (ps : List PV) : St := { tmps := ps.map ofPV1, stack := [], mem := [], cur := 0, ctr := 1, fn := f }
/-- The same, with a slice of its own in a temporary. -/
def St.own (f : Nat) (ps : List PV) (id d t : Nat) (xs : List (List PV)) : St := { tmps := (ps.map ofPV1).set d (.own id), stack := [], mem := [(id, .row 2 t xs)], cur := 0, ctr := 1, fn := f }
def outOf (w : World) (S : Nat → Nat → Prop) (hS : ∀ b o, S b o → b < w.heap.size) : Out := ⟨w.heap.size, w, S, hS, Nat.le_refl _⟩
section
variable {P : Program}
theorem plain_smut (S : Nat → Nat → Prop) : Smut P S [] (fun _ => none) = S := by
  funext b o
  apply propext
  refine ⟨fun q => ?_, .inl⟩
  rcases q with q | ⟨id, ob, g, _⟩
  · exact q
  · cases g
theorem plain_rel {f : Nat} {ps : List PV} {w : World} {S : Nat → Nat → Prop} (hS : ∀ b o, S b o → b < w.heap.size) {a : List Value} (hv : VPs P w S ps a) : Rel P (outOf w S hS) (St.plain f ps) (fun _ => none) (fun _ => 0) [] a w := by
  refine ⟨Below.refl _ _, (fun id b q => by cases q), (fun i j b oi oj q => by cases q), (fun id ob q => by cases q), ?_, rfl, (fun i x vs q => by cases q)⟩
  refine VAs.of_get (by simp [St.plain, hv.length]) fun i x u h3 h4 => ?_
  have h3' : (ps.map ofPV1)[i]? = some x := h3
  rw [List.getElem?_map] at h3'
  obtain ⟨p, hp, rfl⟩ := Option.map_eq_some_iff.1 h3'
  obtain ⟨u', h5, h6⟩ := hv.get hp
  rw [h4] at h5
  cases h5
  refine va_of1 ?_
  show VP P w (Smut P S [] (fun _ => none)) p u
  rw [plain_smut]
  exact h6
theorem own_rel {f id d t : Nat} {ps : List PV} {xs : List (List PV)} {w w1 : World} {S : Nat → Nat → Prop} (hS : ∀ b o, S b o → b < w.heap.size) {a : List Value} {u : Value} (hv : VPs P w S ps a) (hb : Below w.heap.size w w1) (hr : ResRel P S w w1 (.fresh t xs) u) :
    ∃ mu ka, Rel P (outOf w S hS) (St.own f ps id d t xs) mu ka [] (a.set d u) w1 := by
  have h0 := plain_rel (f := f) hS hv
  obtain ⟨r1, r2, r3⟩ := hr
  have hf : findOb id (St.plain f ps).mem = none := rfl
  rcases r3 with ⟨b, k, rfl, hfresh⟩ | ⟨rfl, A, rfl⟩
  · have hfresh' : Fresh P (Smut P (outOf w S hS).S0 (St.plain f ps).mem (fun _ => none)) w w1 t b k xs := by
      show Fresh P (Smut P S [] (fun _ => none)) w w1 t b k xs
      rw [plain_smut]
      exact hfresh
    obtain ⟨mu', ka', k1, k2, k3, k4⟩ := h0.adopt hb hf hfresh' r1 r2
    exact ⟨mu', ka', k4.put (some d) (ownVal k1 k2)⟩
  · obtain ⟨n1, n2⟩ := h0.grow hb
    obtain ⟨m1, m2, m3⟩ := n2.newNil (id := id) (m := 2) (t := t) hf r2
    exact ⟨_, _, m3.put (some d) (nilVal m1 A)⟩
end
/-- What is left of a function, from a state on. -/
def evRest (E : Env) (n : Nat) (fn : Func) (c : Code) (s : St) : Tr Res :=
  (evCode E n c s).bind fun r =>
    match r.1 with
    | .normal | .ret => (resultsA E fn r.2).bind fun v => match resEnd r.2.mem v with
      | some q => .ret q
      | none => .fail
    | _ => .fail
theorem rest_sound {E : Env} (hE : E.Ok) (hm : E.P.follows .mixedOrders = true) {n : Nat} {fn : Func} {c : Code} {s : St} {r : Res} (hr : (evRest E n fn c s).run = some r) {w w1 : World} {S : Nat → Nat → Prop} (hS : ∀ b o, S b o → b < w.heap.size) {act : Act} {mu : Nat → Option Nat} {ka : Nat → Nat}
    (h : Rel E.P (outOf w S hS) s mu ka [] act.tmps.toList w1) (hd : act.defers = []) {R : Ending → World → Prop}
    (hR : ∀ v w', Below w.heap.size w w' → ResRel E.P S w w' r v → R (.returned v) w') : c.wp E.P (bodyPost E.P fn R) act w1 := by
  unfold evRest at hr
  obtain ⟨q, h1, h2⟩ := tr_bind hr
  clear hr
  refine code_sound hE hm n c _ q.1 q.2 (show _ = some (q.1, q.2) from h1) (outOf w S hS) mu ka [] act w1 h hd _ ?_
  intro mu' ka' act' w' hrel' hd'
  have fin : ((resultsA E fn q.2).bind fun v => match resEnd q.2.mem v with
      | some q => Tr.ret q
      | none => .fail).run = some r → ∃ v, (results fn act'.tmps).run E.P w' = .ok v w' ∧ R (.returned v) w' := by
    intro h2
    obtain ⟨v, h3, h4⟩ := tr_bind h2
    obtain ⟨u, h5, h6⟩ := results_sound hrel' h3
    refine ⟨u, h5, hR u w' hrel'.bel ?_⟩
    cases hq : resEnd q.2.mem v with
    | none => rw [hq] at h4; simp [Tr.run] at h4
    | some r' =>
      rw [hq] at h4
      simp only [Tr.run, Option.some.injEq] at h4
      subst h4
      exact Rel.resEnd (X := outOf w S hS) hrel' rfl hq h6
  cases hq : q.1 <;> rw [hq] at h2 <;> simp only at h2
  · exact ⟨hd', fin h2⟩
  · simp [Tr.run] at h2
  · simp [Tr.run] at h2
  · exact ⟨hd', fin h2⟩
def Code.fst : Code → Code
  | .seq a _ => a
  | c => c
def Code.snd : Code → Code
  | .seq _ b => b
  | c => c
def Func.code (fn : Func) : Code := match fn.body with
  | some c => c
  | none => .skip
theorem mem_nil_smut {P : Program} (S : Nat → Nat → Prop) (mu : Nat → Option Nat) : Smut P S [] mu = S := by
  funext b o
  apply propext
  refine ⟨fun q => ?_, .inl⟩
  rcases q with q | ⟨id, ob, g, _⟩
  · exact q
  · cases g
theorem wp_later4 {P : Program} {Q : Exit → Act → World → Prop} {act : Act} {w : World} {a b c d : Code} (h : ∀ T, Hid (T = c) → ∀ D, Hid (D = d) → (Code.seq a (Code.seq b (Code.seq T D))).wp P Q act w) : (Code.seq a (Code.seq b (Code.seq c d))).wp P Q act w := h c ⟨rfl⟩ d ⟨rfl⟩
theorem wp_later1 {P : Program} {Q : Exit → Act → World → Prop} {act : Act} {w : World} {a b D : Code} (hD : D = Code.seq a b) (h : ∀ T, Hid (T = b) → (Code.seq a T).wp P Q act w) : D.wp P Q act w := by
  subst hD
  exact h b ⟨rfl⟩
/-- A call of a function that is known, in a region. -/
theorem wpList_call {E : Env} (hE : E.Ok) {ops : Array Oper} {Q : Exit → Act → World → Prop} {o : Oper} {rest : List Oper} {a : Act} {w : World} {cl : Call} {f : Nat} {fn : Func} {fo : Operand} {first cap args : Array Value} {R : Ending → World → Prop}
    (hg : o.guard = none) (ho : o.op = .call cl) (hc : cl.callee = .value fo) (hv : a.eval fo = .func (.func f) first cap) (hf : E.P.funcs[f]? = some fn) (hb : fn.body.isSome = true) (hargs : first ++ cl.args.map a.eval ++ cap = args)
    (hcalls : Calls E.P f args w R) (hret : ∀ e w', R e w' → ∃ v, e = .returned v) (h : ∀ v w', R (.returned v) w' → wpList E.P ops Q rest (a.put o.dst v) w') : wpList E.P ops Q (o :: rest) a w := by
  refine wpList_plain hg fun K hK => ?_
  unfold Oper.wp
  rw [run_call hE ho hc hv hf hb, Oper.upon_enter, hargs]
  refine Calls.mono hcalls ?_
  intro e w' hr
  obtain ⟨v, rfl⟩ := hret e w' hr
  exact hK _ _ (h v w' hr)
end Go.Proofs.YtjoebchkchoomaaS
