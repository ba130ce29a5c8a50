/- One operation of the plainer run beside the model's: operands, what is handed back. Conditions: none; small laws. -/
import Derived.Test.YtkdbccloniaogaaSimMem3
import Derived.Laws.Tables
import Derived.Laws.Small
import Derived.Laws.StructEq
set_option linter.unusedVariables false
set_option linter.unusedSimpArgs false
namespace Go.Proofs.YtkdbccloniaogaaS
open Go Go.RowKit

/-- What a program of looks hands back, whatever it looked at. -/
def Rd.val {α : Type} (v : View) : Rd α → Option α
  | .ret a => some a
  | .tmp t k => (k (v.tmp t)).val v
  | .rng id off n k => (k (v.rng id off n)).val v
  | .row id k => (k (v.row id)).val v
  | .fresh id k => (k (v.fresh id)).val v
  | .test b x y => bif b then x.val v else y.val v
  | .fail => none
theorem Rd.val_run {α : Type} (v : View) : ∀ (x : Rd α) (ks : List Key), ((x.run v ks).run).map (·.1) = x.val v
  | .ret a, ks => rfl
  | .tmp t k, ks => Rd.val_run v (k (v.tmp t)) _
  | .rng id off n k, ks => Rd.val_run v (k (v.rng id off n)) _
  | .row id k, ks => Rd.val_run v (k (v.row id)) _
  | .fresh id k, ks => Rd.val_run v (k (v.fresh id)) _
  | .test b x y, ks => by
    have h1 := Rd.val_run v x ks
    have h2 := Rd.val_run v y ks
    cases b
    · exact h2
    · exact h1
  | .fail, ks => rfl
theorem Rd.val_of_run {α : Type} {v : View} {x : Rd α} {ks : List Key} {r : α × List Key} (h : (x.run v ks).run = some r) : x.val v = some r.1 := by
  rw [← Rd.val_run v x ks, h]; rfl
theorem Rd.val_bind {α β : Type} (v : View) (f : α → Rd β) : ∀ (x : Rd α), (x.bind f).val v = (x.val v).bind fun a => (f a).val v
  | .ret a => rfl
  | .tmp t k => Rd.val_bind v f (k (v.tmp t))
  | .rng id off n k => Rd.val_bind v f (k (v.rng id off n))
  | .row id k => Rd.val_bind v f (k (v.row id))
  | .fresh id k => Rd.val_bind v f (k (v.fresh id))
  | .test b x y => by
    have h1 := Rd.val_bind v f x
    have h2 := Rd.val_bind v f y
    cases b
    · exact h2
    · exact h1
  | .fail => rfl
theorem Tr.run_bind {α β : Type} (f : α → Tr β) : ∀ (x : Tr α), (x.bind f).run = x.run.bind fun a => (f a).run
  | .ret a => rfl
  | .test b x y => by
    have h1 := Tr.run_bind f x
    have h2 := Tr.run_bind f y
    cases b
    · exact h2
    · exact h1
  | .wait n c s x k => by
    show (x.bind fun r => ((k r).bind f).run) = (x.bind fun r => (k r).run).bind fun a => (f a).run
    cases x with
    | none => rfl
    | some r => exact Tr.run_bind f (k r)
  | .fail => rfl
theorem val_bind {α β : Type} {v : View} {x : Rd α} {f : α → Rd β} {b : β} (h : (x.bind f).val v = some b) : ∃ a, x.val v = some a ∧ (f a).val v = some b := by
  rw [Rd.val_bind] at h
  exact Option.bind_eq_some_iff.1 h
theorem val_guard {α : Type} {v : View} {c : Bool} {k : Rd α} {a : α} (h : (guardB c k).val v = some a) : c = true ∧ k.val v = some a := by
  cases c
  · simp [guardB, Rd.val] at h
  · exact ⟨rfl, h⟩
theorem val_chk {α : Type} {v : View} {c : Bool} {k : Rd α} {a : α} (h : (chk c k).val v = some a) : c = true ∧ k.val v = some a := by
  cases c
  · simp [chk, Rd.val] at h
  · exact ⟨rfl, h⟩
theorem val_okV {v : View} {x : AV} {p : AV × List Eff} (h : (okV x).val v = some p) : p = (x, []) := by
  simp only [okV, Rd.val, Option.some.injEq] at h
  exact h.symm
theorem ByteArray_zero {s : ByteArray} (h : s.size = 0) : s = ByteArray.empty := by
  cases s with
  | mk d =>
    have : d = #[] := Array.eq_empty_of_size_eq_zero h
    subst this; rfl
section
variable {P : Program} {X : Out} {s : St} {mu : Nat → Option Nat} {ka : Nat → Nat} {cst : List (List Value)} {act : Act} {w : World}
theorem va_cell (c : Cx) : ∀ (v : Value), VA P c (ofCell v) v
  | .bool b => by simp [ofCell, VA, VP]
  | .int k n => by simp [ofCell, VA, VP]
  | .string s => by simp [ofCell, VA, VP]
  | .float k b => by simp [ofCell, VA, VP]
  | .complex k a b => by simp [ofCell, VA, VP]
  | .pointer none => by simp [ofCell, VA, VP]
  | .pointer (some a) => by simp [ofCell, VA, VP]
  | .slice none 0 0 => by simp only [ofCell, VA]; exact ⟨none, [], rfl, by simp, .inl rfl, by simp [VPss]⟩
  | .slice none 0 (n + 1) => by simp [ofCell, VA, VP]
  | .slice none (n + 1) c => by simp [ofCell, VA, VP]
  | .slice (some a) n c => by simp [ofCell, VA, VP]
  | .map r => by simp [ofCell, VA, VP]
  | .chan r => by simp [ofCell, VA, VP]
  | .func f a b => by simp [ofCell, VA, VP]
  | .nilFunc => by simp [ofCell, VA, VP]
  | .iface t v => by simp [ofCell, VA, VP]
  | .nilIface => by simp [ofCell, VA, VP]
  | .agg cs => by simp [ofCell, VA, VP]
  | .tuple vs => by simp [ofCell, VA, VP]
theorem vas_cells (c : Cx) : ∀ (vs : List Value), VAs P c (vs.map ofCell) vs
  | [] => by simp [VAs]
  | v :: vs => by simp only [List.map_cons, VAs]; exact ⟨v, vs, rfl, va_cell c v, vas_cells c vs⟩
theorem va_val (c : Cx) (v : Value) : VA P c (ofVal v) v := by
  cases v
  case agg cs =>
    simp only [ofVal, VA]
    exact ⟨cs.toList, by simp, vas_cells c _⟩
  case tuple vs =>
    cases vs with
    | mk l =>
      cases l with
      | nil =>
        simp only [ofVal, VA]
        exact ⟨[], rfl, by simp [VAs]⟩
      | cons x l => simp [ofVal, VA, VP]
  all_goals (simp only [ofVal]; exact va_cell c _)
theorem eval_tmp (act : Act) (t : Nat) : act.eval (.tmp t) = act.tmps.getD t undef := rfl
theorem Rel.tmp (h : Rel P X s mu ka cst act.tmps.toList w) (t : Nat) : VA P (cx P X s.mem mu ka w) (s.tmps.getD t (.pv .undef)) (act.eval (.tmp t)) := by
  rcases Nat.lt_or_ge t s.tmps.length with ht | ht
  · obtain ⟨v, hv, hr⟩ := h.tms.get (i := t) (a := s.tmps[t]) (List.getElem?_eq_getElem ht)
    rw [List.getD_eq_getElem?_getD, List.getElem?_eq_getElem ht]
    have : act.eval (.tmp t) = v := by
      simp only [eval_tmp, Array.getD_eq_getD_getElem?]
      rw [← Array.getElem?_toList, hv]; rfl
    rw [this]
    exact hr
  · rw [List.getD_eq_getElem?_getD, List.getElem?_eq_none ht]
    simp [VA, VP]
theorem Rel.op (h : Rel P X s mu ka cst act.tmps.toList w) {x : Operand} {v : AV} (hx : (rdO x).val s.view = some v) : VA P (cx P X s.mem mu ka w) v (act.eval x) := by
  cases x with
  | tmp t =>
    simp only [rdO, Rd.val, Option.some.injEq] at hx
    subst hx
    exact h.tmp t
  | const c =>
    simp only [rdO, Rd.val, Option.some.injEq] at hx
    subst hx
    exact va_val _ c
  | global g => simp [rdO, Rd.val] at hx
  | func f =>
    simp only [rdO, Rd.val, Option.some.injEq] at hx
    subst hx
    simp only [VA]
    exact ⟨[], [], rfl, by simp [VAs], by simp [VAs]⟩
theorem Rel.opsL (h : Rel P X s mu ka cst act.tmps.toList w) : ∀ {xs : List Operand} {vs : List AV}, (rdOs xs).val s.view = some vs → VAs P (cx P X s.mem mu ka w) vs (xs.map act.eval)
  | [], vs, hx => by
    simp only [rdOs, Rd.val, Option.some.injEq] at hx
    subst hx
    simp [VAs]
  | x :: xs, vs, hx => by
    simp only [rdOs] at hx
    obtain ⟨v, h1, h2⟩ := val_bind hx
    obtain ⟨r, h3, h4⟩ := val_bind h2
    simp only [Rd.val, Option.some.injEq] at h4
    subst h4
    simp only [VAs, List.map_cons]
    exact ⟨_, _, rfl, h.op h1, h.opsL h3⟩
theorem Rel.parts (h : Rel P X s mu ka cst act.tmps.toList w) : ∀ {xs : List (Nat × Operand)} {vs : List (Nat × AV)}, (rdParts xs).val s.view = some vs →
    vs.map (·.1) = xs.map (·.1) ∧ VAs P (cx P X s.mem mu ka w) (vs.map (·.2)) (xs.map fun x => act.eval x.2)
  | [], vs, hx => by
    simp only [rdParts, Rd.val, Option.some.injEq] at hx
    subst hx
    simp [VAs]
  | (i, x) :: xs, vs, hx => by
    simp only [rdParts] at hx
    obtain ⟨v, h1, h2⟩ := val_bind hx
    obtain ⟨r, h3, h4⟩ := val_bind h2
    simp only [Rd.val, Option.some.injEq] at h4
    subst h4
    obtain ⟨h5, h6⟩ := h.parts h3
    refine ⟨by simp [h5], ?_⟩
    simp only [VAs, List.map_cons]
    exact ⟨_, _, rfl, h.op h1, h6⟩
theorem put_toList (act : Act) (dst : Option Nat) (u : Value) : (act.put dst u).tmps.toList = (match dst with | some d => act.tmps.toList.set d u | none => act.tmps.toList) := by
  cases dst <;> simp [Act.put]
/-- What follows an operation: a state that stands beside the plainer run's. -/
def Next (P : Program) (X : Out) (s' : St) (cst : List (List Value)) (act : Act) (K : Act → World → Prop) : Prop :=
  ∀ mu' ka' act' w', Rel P X s' mu' ka' cst act'.tmps.toList w' → act'.defers = act.defers → K act' w'
/-- An operation that hands back a value, memory turned or not. -/
theorem good_value {o : Oper} {K : Act → World → Prop} {Q : Exit → Act → World → Prop} {v : AV} {u : Value} {mem' : List (Nat × Ob)} {mu' : Nat → Option Nat} {ka' : Nat → Nat} {w' : World}
    (hr : (execOp act.eval o).run P w = .ok (.value u) w') (h : Rel P X { s with mem := mem' } mu' ka' cst act.tmps.toList w') (hv : VA P (cx P X mem' mu' ka' w') v u)
    (hK : Next P X ({ s with mem := mem' }.put o.dst v) cst act K) : o.wp P act w K Q := by
  unfold Oper.wp
  rw [hr]
  refine hK mu' ka' (act.put o.dst u) w' ?_ (by cases o.dst <;> rfl)
  rw [put_toList]
  exact h.put o.dst hv
theorem good_skip {o : Oper} {K : Act → World → Prop} {Q : Exit → Act → World → Prop} {mem' : List (Nat × Ob)} {mu' : Nat → Option Nat} {ka' : Nat → Nat} {w' : World}
    (hr : (execOp act.eval o).run P w = .ok .skip w') (h : Rel P X { s with mem := mem' } mu' ka' cst act.tmps.toList w')
    (hK : Next P X ({ s with mem := mem' }.put o.dst (.tup [])) cst act K) : o.wp P act w K Q := by
  unfold Oper.wp
  rw [hr]
  refine hK mu' ka' (act.put o.dst undef) w' ?_ (by cases o.dst <;> rfl)
  rw [put_toList]
  refine h.put o.dst ?_
  simp only [VA]
  exact ⟨[], rfl, by simp [VAs]⟩
theorem good_plain {o : Oper} {K : Act → World → Prop} {Q : Exit → Act → World → Prop} {v : AV} {u : Value} (h : Rel P X s mu ka cst act.tmps.toList w)
    (hr : (execOp act.eval o).run P w = .ok (.value u) w) (hv : VA P (cx P X s.mem mu ka w) v u) (hK : Next P X (s.app o.dst (v, [])) cst act K) : o.wp P act w K Q :=
  good_value (mem' := s.mem) hr h hv (by
    cases hd : o.dst <;> simp only [hd, St.app, St.put, List.foldl_nil] at hK ⊢ <;> exact hK)
end
end Go.Proofs.YtkdbccloniaogaaS
