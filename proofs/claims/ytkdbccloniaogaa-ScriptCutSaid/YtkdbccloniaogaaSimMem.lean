/- The states of the plainer run beside the model's; what a new place, a store, a change of an own array does to that. Conditions: none; small laws. -/
import Derived.Test.YtkdbccloniaogaaSimRel
set_option linter.unusedVariables false
set_option linter.unusedSimpArgs false
namespace Go.Proofs.YtkdbccloniaogaaS
open Go Go.RowKit

theorem findOb_cons (id j : Nat) (o : Ob) (m : List (Nat × Ob)) : findOb id ((j, o) :: m) = if j = id then some o else findOb id m := rfl
theorem findOb_setOb_same (id : Nat) (o : Ob) : ∀ (m : List (Nat × Ob)) {p : Ob}, findOb id m = some p → findOb id (setOb id o m) = some o
  | [], _, h => by simp [findOb] at h
  | (j, q) :: m, p, h => by
    by_cases e : j = id
    · simp [setOb, findOb, e]
    · simp only [findOb, setOb, if_neg e] at h ⊢
      exact findOb_setOb_same id o m h
theorem findOb_setOb_other (id j : Nat) (o : Ob) (hne : j ≠ id) : ∀ (m : List (Nat × Ob)), findOb j (setOb id o m) = findOb j m
  | [] => rfl
  | (k, q) :: m => by
    by_cases e : k = id
    · have : ¬ k = j := fun h => hne (h.symm.trans e)
      simp [setOb, findOb, e, this, Ne.symm hne]
    · simp only [findOb, setOb, if_neg e]
      rw [findOb_setOb_other id j o hne m]
def mutOb (P : Program) : Ob → Nat → Prop
  | .box _, _ => True
  | .row 0 _ _, _ => False
  | .row 1 t xs, o => xs.length * (kinds P t).length ≤ o
  | .row _ _ _, _ => True
def live : Ob → Prop
  | .row 0 _ _ => False
  | _ => True
def Smut (P : Program) (S0 : Nat → Nat → Prop) (mem : List (Nat × Ob)) (mu : Nat → Option Nat) (b o : Nat) : Prop :=
  S0 b o ∨ ∃ id ob, findOb id mem = some ob ∧ mu id = some b ∧ mutOb P ob o
def rtOf (mem : List (Nat × Ob)) (id : Nat) : Option (Nat × Nat) :=
  match findOb id mem with
  | some (.row _ t xs) => some (t, xs.length)
  | _ => none
theorem rtOf_row {mem : List (Nat × Ob)} {id m t : Nat} {xs : List (List PV)} (h : findOb id mem = some (.row m t xs)) : rtOf mem id = some (t, xs.length) := by simp [rtOf, h]
theorem rtOf_some {mem : List (Nat × Ob)} {id : Nat} {x : Nat × Nat} (h : rtOf mem id = some x) : ∃ m t xs, findOb id mem = some (.row m t xs) ∧ x = (t, xs.length) := by
  unfold rtOf at h
  split at h
  · rename_i m t xs hf
    exact ⟨m, t, xs, hf, (Option.some.inj h).symm⟩
  · cases h
/-- Where the function's own part begins, the world there, and what of that may turn. -/
structure Out where
  B : Nat
  w0 : World
  S0 : Nat → Nat → Prop
  lt : ∀ b o, S0 b o → b < B
  le : B ≤ w0.heap.size
def cx (P : Program) (X : Out) (mem : List (Nat × Ob)) (mu : Nat → Option Nat) (ka : Nat → Nat) (w : World) : Cx := ⟨w, Smut P X.S0 mem mu, mu, ka, rtOf mem⟩
/-- A place's block. -/
def OB (P : Program) (c : Cx) (k b : Nat) : Ob → Prop
  | .box cs => ∃ T vs, c.w.heap[b]? = some (.cells vs T (0, 0)) ∧ VAs P c cs vs.toList
  | .row m t xs => (∀ e ∈ xs, cfs (kinds P t) e) ∧ (kinds P t).length = sizeT P t ∧ xs.length ≤ k ∧ match m with
    | 0 => ∃ us, Lies c.w c.S (some ⟨b, 0, none⟩) us ∧ VPss P c.w c.S xs us
    | _ => ∃ vs, c.w.heap[b]? = some (.cells vs t (0, 0)) ∧ k ≤ maxLen ∧ vs.size = k * (kinds P t).length ∧ VPss P c.w c.S xs (vs.toList.take (xs.length * (kinds P t).length))
theorem OB.le {P : Program} {c c' : Cx} {k b : Nat} {ob : Ob} (h : OB P c k b ob) (hl : c.Le c') (hh : live ob → c'.w.heap[b]? = c.w.heap[b]?) : OB P c' k b ob := by
  cases ob with
  | box cs =>
    obtain ⟨T, vs, h1, h2⟩ := h
    exact ⟨T, vs, by rw [hh trivial]; exact h1, VAs.le hl cs _ h2⟩
  | row m t xs =>
    obtain ⟨h1, h2, h3, h4⟩ := h
    refine ⟨h1, h2, h3, ?_⟩
    cases m with
    | zero =>
      obtain ⟨us, h5, h6⟩ := h4
      exact ⟨us, h5.keep hl.keep, VPss.keep hl.keep xs us h6⟩
    | succ m =>
      obtain ⟨vs, h5, h6, h7, h8⟩ := h4
      exact ⟨vs, by rw [hh trivial]; exact h5, h6, h7, VPss.keep hl.keep xs _ h8⟩
structure Rel (P : Program) (X : Out) (s : St) (mu : Nat → Option Nat) (ka : Nat → Nat) (cst : List (List Value)) (a : List Value) (w : World) : Prop where
  bel : Below X.B X.w0 w
  blk : ∀ id b, mu id = some b → X.B ≤ b ∧ ∃ ob, findOb id s.mem = some ob
  inj : ∀ i j b oi oj, mu i = some b → mu j = some b → findOb i s.mem = some oi → findOb j s.mem = some oj → live oi → live oj → i = j
  obs : ∀ id ob, findOb id s.mem = some ob → (∃ b, mu id = some b ∧ OB P (cx P X s.mem mu ka w) (ka id) b ob) ∨ (mu id = none ∧ ∃ m t, ob = .row m t [] ∧ (kinds P t).length = sizeT P t)
  tms : VAs P (cx P X s.mem mu ka w) s.tmps a
  stk : s.stack.length = cst.length ∧ ∀ (i : Nat) (x : Nat × Nat × List AV) (vs : List Value), s.stack[i]? = some x → cst[i]? = some vs → VAs P (cx P X s.mem mu ka w) x.2.2 vs
section
variable {P : Program} {X : Out} {s : St} {mu : Nat → Option Nat} {ka : Nat → Nat} {cst : List (List Value)} {a : List Value} {w : World}
theorem Rel.size (h : Rel P X s mu ka cst a w) : X.B ≤ w.heap.size := Nat.le_trans X.le h.bel.size
/-- The memory turns, the frames stay. -/
theorem Rel.turn (h : Rel P X s mu ka cst a w) {mem' : List (Nat × Ob)} {mu' : Nat → Option Nat} {ka' : Nat → Nat} {w' : World} (hl : (cx P X s.mem mu ka w).Le (cx P X mem' mu' ka' w'))
    (hb : Below X.B X.w0 w') (hk : ∀ id b, mu' id = some b → X.B ≤ b ∧ ∃ ob, findOb id mem' = some ob)
    (hi : ∀ i j b oi oj, mu' i = some b → mu' j = some b → findOb i mem' = some oi → findOb j mem' = some oj → live oi → live oj → i = j)
    (ho : ∀ id ob, findOb id mem' = some ob → (∃ b, mu' id = some b ∧ OB P (cx P X mem' mu' ka' w') (ka' id) b ob) ∨ (mu' id = none ∧ ∃ m t, ob = .row m t [] ∧ (kinds P t).length = sizeT P t)) :
    Rel P X { s with mem := mem' } mu' ka' cst a w' :=
  ⟨hb, hk, hi, ho, VAs.le hl _ _ h.tms, h.stk.1, fun i x vs h1 h2 => VAs.le hl _ _ (h.stk.2 i x vs h1 h2)⟩
/-- A temporary. -/
theorem Rel.put (h : Rel P X s mu ka cst a w) (dst : Option Nat) {v : AV} {u : Value} (hv : VA P (cx P X s.mem mu ka w) v u) :
    Rel P X (s.put dst v) mu ka cst (match dst with | some d => a.set d u | none => a) w := by
  cases dst with
  | none => exact h
  | some d => exact ⟨h.bel, h.blk, h.inj, h.obs, VAs.set h.tms d hv, h.stk⟩
theorem live_lt {c : Cx} {k b : Nat} {ob : Ob} (h : OB P c k b ob) (hl : live ob) : b < c.w.heap.size := by
  cases ob with
  | box cs =>
    obtain ⟨T, vs, h1, _⟩ := h
    exact (Array.getElem?_eq_some_iff.1 h1).1
  | row m t xs =>
    cases m with
    | zero => exact hl.elim
    | succ m =>
      obtain ⟨_, _, _, vs, h1, _⟩ := h
      exact (Array.getElem?_eq_some_iff.1 h1).1
theorem mut_live {ob : Ob} {o : Nat} (h : mutOb P ob o) : live ob := by
  cases ob with
  | box cs => exact trivial
  | row m t xs => cases m with
    | zero => exact h.elim
    | succ m => exact trivial
/-- What may turn lies in blocks that there are. -/
theorem Rel.mut_lt (h : Rel P X s mu ka cst a w) {b o : Nat} (hs : Smut P X.S0 s.mem mu b o) : b < w.heap.size := by
  rcases hs with hs | ⟨id, ob, h1, h2, h3⟩
  · exact Nat.lt_of_lt_of_le (X.lt b o hs) h.size
  · rcases h.obs id ob h1 with ⟨b', hb', ho⟩ | ⟨hn, _⟩
    · rw [h2] at hb'
      cases hb'
      exact live_lt ho (mut_live h3)
    · rw [h2] at hn
      cases hn
/-- A place of its own, in a new block. -/
theorem Rel.new (h : Rel P X s mu ka cst a w) {id : Nat} {ob : Ob} (hf : findOb id s.mem = none) {w1 w2 : World} {o : Obj} (hw : w1.heap = w.heap) (hw2 : w2 = w1.alloc o) (hbel : Below X.B X.w0 w1) (k : Nat) :
    (cx P X s.mem mu ka w).Le (cx P X ((id, ob) :: s.mem) (fun i => if i = id then some w.heap.size else mu i) (fun i => if i = id then k else ka i) w2) := by
  have hmu : mu id = none := by
    cases hm : mu id with
    | none => rfl
    | some b => obtain ⟨_, ob', ho⟩ := h.blk id b hm; rw [hf] at ho; cases ho
  subst hw2
  refine ⟨fun b o' u hc hs => ?_, fun i b hi => ?_, fun i x hi => ?_⟩
  · have hlt : b < w.heap.size := World.block_lt_of_cell? _ _ hc
    refine ⟨?_, fun hs' => hs ?_⟩
    · show (w1.alloc o).cell? _ = _
      rw [World.cell?_alloc_lt _ _ _ (by rw [hw]; exact hlt), World.cell?_of_block (w := w) (by rw [hw])]
      exact hc
    · rcases hs' with hs' | ⟨i, ob', h1, h2, h3⟩
      · exact .inl hs'
      · by_cases e : i = id
        · subst e
          simp at h2
          omega
        · simp only [if_neg e] at h2
          rw [findOb_cons, if_neg (fun q => e q.symm)] at h1
          exact .inr ⟨i, ob', h1, h2, h3⟩
  · show (if i = id then some w.heap.size else mu i) = some b
    by_cases e : i = id
    · subst e; have h2 : mu i = some b := hi; rw [hmu] at h2; cases h2
    · rw [if_neg e]; exact hi
  · obtain ⟨m, t, xs, hx, rfl⟩ := rtOf_some hi
    have e : i ≠ id := fun e => by subst e; rw [hf] at hx; cases hx
    refine ⟨?_, by show (if i = id then _ else mu i) = mu i; rw [if_neg e], by show (if i = id then _ else ka i) = ka i; rw [if_neg e]⟩
    show rtOf _ i = _
    simp [rtOf, findOb_cons, Ne.symm e, hx]
theorem Rel.alloc (h : Rel P X s mu ka cst a w) {id : Nat} {ob : Ob} (hf : findOb id s.mem = none) {w1 w2 : World} {o : Obj} (hw : w1.heap = w.heap) (hw2 : w2 = w1.alloc o) (hbel : Below X.B X.w0 w1) (k : Nat)
    (ho : OB P (cx P X ((id, ob) :: s.mem) (fun i => if i = id then some w.heap.size else mu i) (fun i => if i = id then k else ka i) w2) k w.heap.size ob) :
    Rel P X { s with mem := (id, ob) :: s.mem } (fun i => if i = id then some w.heap.size else mu i) (fun i => if i = id then k else ka i) cst a w2 := by
  have hl := h.new (ob := ob) hf hw hw2 hbel k
  have hmu : mu id = none := by
    cases hm : mu id with
    | none => rfl
    | some b => obtain ⟨_, ob', ho⟩ := h.blk id b hm; rw [hf] at ho; cases ho
  have hfr : ∀ i b ob', mu i = some b → findOb i s.mem = some ob' → live ob' → b < w.heap.size := fun i b ob' h1 h2 h3 => by
    rcases h.obs i ob' h2 with ⟨b', hb', ho'⟩ | ⟨hn, _⟩
    · rw [h1] at hb'; cases hb'; exact live_lt ho' h3
    · rw [h1] at hn; cases hn
  refine h.turn hl (by rw [hw2]; exact hbel.alloc (by rw [hw]; exact h.size) _) ?_ ?_ ?_
  · intro i b hi
    by_cases e : i = id
    · subst e
      simp at hi
      exact ⟨by rw [← hi]; exact h.size, ob, by simp [findOb_cons]⟩
    · simp only [if_neg e] at hi
      obtain ⟨h1, ob', h2⟩ := h.blk i b hi
      exact ⟨h1, ob', by rw [findOb_cons, if_neg (fun q => e q.symm)]; exact h2⟩
  · intro i j b oi oj hi hj fi fj li lj
    by_cases e : i = id
    · by_cases e' : j = id
      · rw [e, e']
      · subst e
        simp only [if_true, if_neg e'] at hi hj
        rw [findOb_cons, if_neg (fun q => e' q.symm)] at fj
        have := hfr j b oj hj fj lj
        cases hi
        omega
    · by_cases e' : j = id
      · subst e'
        simp only [if_true, if_neg e] at hi hj
        rw [findOb_cons, if_neg (fun q => e q.symm)] at fi
        have := hfr i b oi hi fi li
        cases hj
        omega
      · simp only [if_neg e, if_neg e'] at hi hj
        rw [findOb_cons, if_neg (fun q => e q.symm)] at fi
        rw [findOb_cons, if_neg (fun q => e' q.symm)] at fj
        exact h.inj i j b oi oj hi hj fi fj li lj
  · intro i ob' hi
    by_cases e : i = id
    · subst e
      rw [findOb_cons, if_pos rfl] at hi
      cases hi
      refine .inl ⟨w.heap.size, by simp, ?_⟩
      simpa using ho
    · rw [findOb_cons, if_neg (fun q => e q.symm)] at hi
      simp only [if_neg e]
      rcases h.obs i ob' hi with ⟨b, hb, ho'⟩ | hn
      · refine .inl ⟨b, hb, ho'.le hl fun hlv => ?_⟩
        show w2.heap[b]? = w.heap[b]?
        have hlt := hfr i b ob' hb hi hlv
        rw [hw2, heap_alloc_old w1 o b (by rw [hw]; exact hlt), hw]
      · exact .inr hn
end
end Go.Proofs.YtkdbccloniaogaaS
