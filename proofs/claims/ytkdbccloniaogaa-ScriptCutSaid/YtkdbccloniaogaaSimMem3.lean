/- New variables, new arrays, and what an append does to the states that stand beside each other. Conditions: none; small laws. -/
import Derived.Test.YtkdbccloniaogaaSimMem2
set_option linter.unusedVariables false
set_option linter.unusedSimpArgs false
namespace Go.Proofs.YtkdbccloniaogaaS
open Go Go.RowKit

section
variable {P : Program} {X : Out} {s : St} {mu : Nat → Option Nat} {ka : Nat → Nat} {cst : List (List Value)} {a : List Value} {w : World}
/-- A frame's step: places that there were lie where they lay. -/
def Grew (P : Program) (X : Out) (mem mem' : List (Nat × Ob)) (mu mu' : Nat → Option Nat) (ka ka' : Nat → Nat) (w w' : World) : Prop := (cx P X mem mu ka w).Le (cx P X mem' mu' ka' w')
theorem Rel.newBox (h : Rel P X s mu ka cst a w) {id : Nat} (hf : findOb id s.mem = none) {w1 : World} (hw : w1.heap = w.heap) (hbel : Below X.B X.w0 w1) (T : Nat) {cs : List AV} {vs : List Value} (hv : VAs P (cx P X s.mem mu ka w) cs vs) :
    ∃ mu' ka', mu' id = some w.heap.size ∧ (cx P X s.mem mu ka w).Le (cx P X ((id, .box cs) :: s.mem) mu' ka' (w1.alloc (.cells vs.toArray T))) ∧
      Rel P X { s with mem := (id, .box cs) :: s.mem } mu' ka' cst a (w1.alloc (.cells vs.toArray T)) := by
  have hl := h.new (ob := .box cs) (o := .cells vs.toArray T) hf hw rfl hbel 0
  refine ⟨_, _, by simp, hl, h.alloc hf hw rfl hbel 0 ?_⟩
  refine ⟨T, vs.toArray, ?_, VAs.le hl _ _ (by simpa using hv)⟩
  show (w1.alloc _).heap[w.heap.size]? = _
  rw [← hw]
  exact heap_alloc_new w1 _
theorem Rel.newRow (h : Rel P X s mu ka cst a w) {id : Nat} (hf : findOb id s.mem = none) {w1 : World} (hw : w1.heap = w.heap) (hbel : Below X.B X.w0 w1) {m t k : Nat} {xs : List (List PV)} {cs : Array Value}
    (hc : ∀ e ∈ xs, cfs (kinds P t) e) (hs : (kinds P t).length = sizeT P t) (hk : xs.length ≤ k) (hm : k ≤ maxLen) (hz : cs.size = k * (kinds P t).length)
    (hv : VPss P w (Smut P X.S0 s.mem mu) xs (cs.toList.take (xs.length * (kinds P t).length))) :
    ∃ mu' ka', mu' id = some w.heap.size ∧ ka' id = k ∧ (∀ i, i ≠ id → mu' i = mu i ∧ ka' i = ka i) ∧ (cx P X s.mem mu ka w).Le (cx P X ((id, .row (m + 1) t xs) :: s.mem) mu' ka' (w1.alloc (.cells cs t))) ∧
      Rel P X { s with mem := (id, .row (m + 1) t xs) :: s.mem } mu' ka' cst a (w1.alloc (.cells cs t)) := by
  have hl := h.new (ob := .row (m + 1) t xs) (o := .cells cs t) hf hw rfl hbel k
  refine ⟨_, _, by simp, by simp, fun i hi => by simp [hi], hl, h.alloc hf hw rfl hbel k ?_⟩
  refine ⟨hc, hs, hk, cs, ?_, hm, hz, VPss.keep hl.keep _ _ hv⟩
  show (w1.alloc _).heap[w.heap.size]? = _
  rw [← hw]
  exact heap_alloc_new w1 _
/-- An own array of nothing that has no block. -/
theorem Rel.newNil (h : Rel P X s mu ka cst a w) {id m t : Nat} (hf : findOb id s.mem = none) (hs : (kinds P t).length = sizeT P t) :
    mu id = none ∧ (cx P X s.mem mu ka w).Le (cx P X ((id, .row m t []) :: s.mem) mu ka w) ∧ Rel P X { s with mem := (id, .row m t []) :: s.mem } mu ka cst a w := by
  have hmu : mu id = none := by
    cases hm : mu id with
    | none => rfl
    | some b => obtain ⟨_, ob', ho⟩ := h.blk id b hm; rw [hf] at ho; cases ho
  have hne : ∀ {i o}, findOb i s.mem = some o → id ≠ i := fun {i o} q e => by subst e; rw [hf] at q; cases q
  have hl : (cx P X s.mem mu ka w).Le (cx P X ((id, .row m t []) :: s.mem) mu ka w) := by
    refine ⟨fun b o u hc hs => ⟨hc, fun q => hs ?_⟩, fun _ _ q => q, fun i x hx => ⟨?_, rfl, rfl⟩⟩
    · rcases q with q | ⟨i, oi, h1, h2, h3⟩
      · exact .inl q
      · by_cases e : id = i
        · subst e
          have h2' : mu id = some b := h2
          rw [hmu] at h2'; cases h2'
        · rw [findOb_cons, if_neg e] at h1
          exact .inr ⟨i, oi, h1, h2, h3⟩
    · obtain ⟨m', t', xs, hx', rfl⟩ := rtOf_some hx
      show rtOf _ i = _
      simp [rtOf, findOb_cons, hne hx', hx']
  refine ⟨hmu, hl, h.turn hl h.bel ?_ ?_ ?_⟩
  · intro i b hi
    obtain ⟨h1, o, h2⟩ := h.blk i b hi
    exact ⟨h1, o, by rw [findOb_cons, if_neg (hne h2)]; exact h2⟩
  · intro i j b oi oj hi hj fi fj li lj
    have e1 : id ≠ i := fun e => by subst e; rw [hmu] at hi; cases hi
    have e2 : id ≠ j := fun e => by subst e; rw [hmu] at hj; cases hj
    rw [findOb_cons, if_neg e1] at fi
    rw [findOb_cons, if_neg e2] at fj
    exact h.inj i j b oi oj hi hj fi fj li lj
  · intro i o hi
    by_cases e : id = i
    · subst e
      rw [findOb_cons, if_pos rfl] at hi
      cases hi
      exact .inr ⟨hmu, m, t, rfl, hs⟩
    · rw [findOb_cons, if_neg e] at hi
      rcases h.obs i o hi with ⟨b, hb, ho⟩ | q
      · exact .inl ⟨b, hb, ho.le hl fun _ => rfl⟩
      · exact .inr q
/-- An own array that is neither written nor appended to any more. -/
theorem Rel.retire (h : Rel P X s mu ka cst a w) {id m t : Nat} {xs : List (List PV)} (hf : findOb id s.mem = some (.row (m + 1) t xs)) :
    (cx P X s.mem mu ka w).Le (cx P X (setOb id (.row 0 t xs) s.mem) mu ka w) ∧ Rel P X { s with mem := setOb id (.row 0 t xs) s.mem } mu ka cst a w := by
  have hs : ∀ b o, Smut P X.S0 (setOb id (.row 0 t xs) s.mem) mu b o → Smut P X.S0 s.mem mu b o := smut_set hf fun o q => q.elim
  refine h.upd hf h.bel hs (fun b o u hc _ => hc) (by simp [rtOf, findOb_setOb_same id _ s.mem hf, hf]) (fun q => q.elim) (fun _ _ => rfl) ?_ ?_
  · intro q
    rcases h.obs id _ hf with ⟨b, hb, _⟩ | ⟨_, m, t', e, h2⟩
    · rw [q] at hb; cases hb
    · cases e; exact ⟨0, t, rfl, h2⟩
  · intro b hb
    obtain ⟨h1, h2, h3, vs, h4, h5, h6, h7⟩ := h.rowAt hf hb
    refine ⟨h1, h2, h3, vs.toList.take (xs.length * (kinds P t).length), .inr ⟨b, 0, rfl, fun j u hu => ?_, fun j hj => ?_⟩, VPss.keep (fun b o u hc hs' => ⟨hc, fun q => hs' (hs b o q)⟩) _ _ h7⟩
    · show w.cell? _ = _
      rw [cell_of_row w b (0 + j) vs t (0, 0) h4, Nat.zero_add]
      rw [List.getElem?_take] at hu
      split at hu
      · simpa using hu
      · cases hu
    · rintro (q | ⟨i, oi, g1, g2, g3⟩)
      · have := X.lt b _ q
        have := (h.blk id b hb).1
        omega
      · by_cases e : i = id
        · subst e
          rw [findOb_setOb_same i _ s.mem hf] at g1
          cases g1
          exact g3
        · rw [findOb_setOb_other id i _ e] at g1
          exact e (h.inj i id b oi _ g2 hb g1 hf (mut_live g3) trivial)
theorem mut_app {m t : Nat} {xs ys : List (List PV)} {o : Nat} (m' : Nat) (hm : m' = 1 ∨ xs = []) (h : mutOb P (.row m' t (xs ++ ys)) o) : mutOb P (.row (m + 1) t xs) o := by
  cases m with
  | succ m => trivial
  | zero =>
    show xs.length * _ ≤ o
    rcases hm with rfl | rfl
    · have h' : (xs ++ ys).length * (kinds P t).length ≤ o := h
      rw [List.length_append, Nat.add_mul] at h'
      omega
    · simp
/-- An append where there is room. -/
theorem Rel.appendIn (h : Rel P X s mu ka cst a w) {id j m t m' b : Nat} {xs ys : List (List PV)} {us : List Value} (hf : findOb j s.mem = some (.row (m + 1) t xs)) (hm : mu j = some b) (hn : findOb id s.mem = none)
    (hm' : m' + 1 = 1 ∨ xs = []) (hc : ∀ e ∈ ys, cfs (kinds P t) e) (hv : VPss P w (Smut P X.S0 s.mem mu) ys us) (hroom : xs.length + ys.length ≤ ka j) :
    ∃ vs, w.heap[b]? = some (.cells vs t (0, 0)) ∧ xs.length * (kinds P t).length + us.length ≤ vs.size ∧ ∃ mu' ka', mu' id = some b ∧ ka' id = ka j ∧
      (cx P X s.mem mu ka w).Le (cx P X ((id, .row (m' + 1) t (xs ++ ys)) :: setOb j (.row 0 t xs) s.mem) mu' ka' (w.setRow b (splice vs.toList (xs.length * (kinds P t).length) us).toArray)) ∧
      Rel P X { s with mem := (id, .row (m' + 1) t (xs ++ ys)) :: setOb j (.row 0 t xs) s.mem } mu' ka' cst a (w.setRow b (splice vs.toList (xs.length * (kinds P t).length) us).toArray) := by
  obtain ⟨h1, h2, h3, vs, h4, h5, h6, h7⟩ := h.rowAt hf hm
  generalize hsz : (kinds P t).length = sz at *
  have hvl : vs.toList.length = vs.size := Array.length_toList
  have hul : us.length = ys.length * sz := hv.length fun e he => (hc e he).length.trans hsz
  have hle : (xs.length + ys.length) * sz ≤ vs.size := by rw [h6]; exact Nat.mul_le_mul_right _ hroom
  rw [Nat.add_mul, ← hul] at hle
  refine ⟨vs, h4, hle, fun i => if i = id then some b else mu i, fun i => if i = id then ka j else ka i, by simp, by simp, ?_⟩
  have hmu : mu id = none := by
    cases hmm : mu id with
    | none => rfl
    | some b => obtain ⟨_, ob', ho⟩ := h.blk id b hmm; rw [hn] at ho; cases ho
  have hne : ∀ {i o}, findOb i s.mem = some o → id ≠ i := fun {i o} q e => by subst e; rw [hn] at q; cases q
  have hjid := hne hf
  have find2 : ∀ {i o}, findOb i ((id, .row (m' + 1) t (xs ++ ys)) :: setOb j (.row 0 t xs) s.mem) = some o → (i = id ∧ o = .row (m' + 1) t (xs ++ ys)) ∨ (i ≠ id ∧ i = j ∧ o = .row 0 t xs) ∨ (i ≠ id ∧ i ≠ j ∧ findOb i s.mem = some o) := by
    intro i o q
    rw [findOb_cons] at q
    by_cases e : id = i
    · rw [if_pos e] at q; cases q; exact .inl ⟨e.symm, rfl⟩
    · rw [if_neg e] at q
      by_cases e' : i = j
      · subst e'
        rw [findOb_setOb_same i _ s.mem hf] at q; cases q
        exact .inr (.inl ⟨fun x => e x.symm, rfl, rfl⟩)
      · rw [findOb_setOb_other j i _ e'] at q
        exact .inr (.inr ⟨fun x => e x.symm, e', q⟩)
  have hS : ∀ b1 o, Smut P X.S0 ((id, .row (m' + 1) t (xs ++ ys)) :: setOb j (.row 0 t xs) s.mem) (fun i => if i = id then some b else mu i) b1 o → Smut P X.S0 s.mem mu b1 o := by
    rintro b1 o (q | ⟨i, oi, g1, g2, g3⟩)
    · exact .inl q
    · rcases find2 g1 with ⟨rfl, rfl⟩ | ⟨e, rfl, rfl⟩ | ⟨e, e', g1⟩
      · simp only [if_true] at g2
        cases g2
        exact .inr ⟨j, _, hf, hm, mut_app (m' + 1) hm' g3⟩
      · exact g3.elim
      · simp only [if_neg e] at g2
        exact .inr ⟨i, oi, g1, g2, g3⟩
  have hl : (cx P X s.mem mu ka w).Le (cx P X ((id, .row (m' + 1) t (xs ++ ys)) :: setOb j (.row 0 t xs) s.mem) (fun i => if i = id then some b else mu i) (fun i => if i = id then ka j else ka i) (w.setRow b (splice vs.toList (xs.length * sz) us).toArray)) := by
    refine ⟨fun b1 o u hc' hs => ⟨?_, fun q => hs (hS b1 o q)⟩, fun i b1 q => ?_, fun i x hx => ?_⟩
    · by_cases e : b1 = b
      · subst e
        have hnm : ¬ mutOb P (.row (m + 1) t xs) o := fun q => hs (.inr ⟨j, _, hf, hm, q⟩)
        have hm0 : m = 0 := by
          cases m with
          | zero => rfl
          | succ m => exact absurd trivial hnm
        subst hm0
        have ho : o < xs.length * sz := by
          rcases Nat.lt_or_ge o (xs.length * sz) with q | q
          · exact q
          · exact absurd (show xs.length * (kinds P t).length ≤ o by rw [hsz]; exact q) hnm
        have hc'' : w.cell? ⟨b1, o, none⟩ = some u := hc'
        rw [cell_of_row w b1 o vs t (0, 0) h4] at hc''
        show (w.setRow b1 _).cell? _ = _
        rw [cell_setRow h4, List.getElem?_toArray, get_splice _ _ _ (by omega), if_pos ho]
        simpa using hc''
      · exact (cell_setRow_other _ e o).trans hc'
    · show (if i = id then some b else mu i) = some b1
      have q' : mu i = some b1 := q
      rw [if_neg (fun e => by subst e; rw [hmu] at q'; cases q')]
      exact q'
    · obtain ⟨mm, tt, zs, hx', rfl⟩ := rtOf_some hx
      have e := hne hx'
      refine ⟨?_, by show (if i = id then _ else mu i) = mu i; rw [if_neg (Ne.symm e)], by show (if i = id then _ else ka i) = ka i; rw [if_neg (Ne.symm e)]⟩
      show rtOf _ i = _
      unfold rtOf
      rw [findOb_cons, if_neg e]
      by_cases e' : i = j
      · subst e'
        rw [findOb_setOb_same i _ s.mem hf]
        rw [hf] at hx'; cases hx'; rfl
      · rw [findOb_setOb_other j i _ e', hx']
  refine ⟨hl, h.turn hl (below_setRow h.bel (h.blk j b hm).1 _) ?_ ?_ ?_⟩
  · intro i b1 hi
    by_cases e : i = id
    · subst e
      simp only [if_true] at hi; cases hi
      exact ⟨(h.blk j b hm).1, _, by rw [findOb_cons, if_pos rfl]⟩
    · simp only [if_neg e] at hi
      obtain ⟨g1, o, g2⟩ := h.blk i b1 hi
      refine ⟨g1, ?_⟩
      rw [findOb_cons, if_neg (Ne.symm e)]
      by_cases e' : i = j
      · subst e'; exact ⟨_, findOb_setOb_same i _ s.mem hf⟩
      · exact ⟨o, by rw [findOb_setOb_other j i _ e']; exact g2⟩
  · intro i i' b1 oi oi' hi hi' fi fi' li li'
    rcases find2 fi with ⟨rfl, rfl⟩ | ⟨e, rfl, rfl⟩ | ⟨e, e', gi⟩
    · rcases find2 fi' with ⟨rfl, rfl⟩ | ⟨f, rfl, rfl⟩ | ⟨f, f', gi'⟩
      · rfl
      · exact li'.elim
      · simp only [if_true, if_neg f] at hi hi'
        cases hi
        exact absurd (h.inj i' j b oi' _ hi' hm gi' hf li' trivial) f'
    · exact li.elim
    · rcases find2 fi' with ⟨rfl, rfl⟩ | ⟨f, rfl, rfl⟩ | ⟨f, f', gi'⟩
      · simp only [if_true, if_neg e] at hi hi'
        cases hi'
        exact absurd (h.inj i j b oi _ hi hm gi hf li trivial) e'
      · exact li'.elim
      · simp only [if_neg e, if_neg f] at hi hi'
        exact h.inj i i' b1 oi oi' hi hi' gi gi' li li'
  · intro i o hi
    rcases find2 hi with ⟨rfl, rfl⟩ | ⟨e, rfl, rfl⟩ | ⟨e, e', fi⟩
    · refine .inl ⟨b, by simp, ?_, by rw [hsz]; exact h2, by simpa using hroom, _, setRow_heap w b vs _ t (0, 0) h4, by simpa using h5, ?_, ?_⟩
      · intro e he
        rcases List.mem_append.1 he with he | he
        · exact h1 e he
        · exact hc e he
      · rw [List.size_toArray, splice_length _ _ _ (by omega), hvl, hsz]
        simpa using h6
      · refine VPss.keep hl.keep _ _ ?_
        rw [hsz, List.length_append, Nat.add_mul, ← hul]
        have e9 : List.take (xs.length * sz + us.length) (splice vs.toList (xs.length * sz) us) = vs.toList.take (xs.length * sz) ++ us := by
          unfold splice
          rw [List.take_append_of_le_length (by simp; omega)]
          rw [List.take_of_length_le (by simp; omega)]
        rw [e9]
        exact h7.append hv
    · refine .inl ⟨b, by simp [e, hm], h1, by rw [hsz]; exact h2, by simpa [e] using h3, vs.toList.take (xs.length * sz), .inr ⟨b, 0, rfl, fun k u hu => ?_, fun k hk => ?_⟩, VPss.keep hl.keep _ _ h7⟩
      · show (w.setRow b _).cell? _ = _
        rw [List.getElem?_take] at hu
        split at hu
        · rename_i hk
          rw [cell_setRow h4, List.getElem?_toArray, Nat.zero_add, get_splice _ _ _ (by omega), if_pos hk]
          exact hu
        · cases hu
      · rintro (q | ⟨i', oi, g1, g2, g3⟩)
        · have := X.lt b _ q
          have := (h.blk i b hm).1
          omega
        · rcases find2 g1 with ⟨rfl, rfl⟩ | ⟨f, rfl, rfl⟩ | ⟨f, f', g1⟩
          · rcases hm' with hm' | hm'
            · have : m' = 0 := by omega
              subst this
              have g3' : (xs ++ ys).length * (kinds P t).length ≤ 0 + k := g3
              rw [hsz, List.length_append, Nat.add_mul] at g3'
              simp only [List.length_take] at hk
              omega
            · subst hm'
              simp at hk
          · exact g3
          · simp only [if_neg f] at g2
            exact f' (h.inj i' i b oi _ g2 hm g1 hf (mut_live g3) trivial)
    · simp only [if_neg e]
      rcases h.obs i o fi with ⟨b1, hb1, ho⟩ | q
      · refine .inl ⟨b1, hb1, ho.le hl fun hlo => setRow_other _ _ _ _ fun q => ?_⟩
        subst q
        exact e' (h.inj i j b1 o _ hb1 hm fi hf hlo trivial)
      · exact .inr q
end
end Go.Proofs.YtkdbccloniaogaaS
