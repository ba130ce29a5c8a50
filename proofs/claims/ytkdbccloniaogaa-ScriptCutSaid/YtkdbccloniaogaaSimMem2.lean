/- What a store, a change of an own array, an append do to the states that stand beside each other. Conditions: none; small laws. -/
import Derived.Test.YtkdbccloniaogaaSimMem
set_option linter.unusedVariables false
set_option linter.unusedSimpArgs false
namespace Go.Proofs.YtkdbccloniaogaaS
open Go Go.RowKit

section
variable {P : Program} {X : Out} {s : St} {mu : Nat → Option Nat} {ka : Nat → Nat} {cst : List (List Value)} {a : List Value} {w : World}
theorem Rel.other (h : Rel P X s mu ka cst a w) {id i b b' : Nat} {ob oi : Ob} (hm : mu id = some b) (hf : findOb id s.mem = some ob) (hl : live ob) (hm' : mu i = some b') (hf' : findOb i s.mem = some oi) (hl' : live oi) (hne : i ≠ id) : b' ≠ b :=
  fun e => hne (h.inj i id b oi ob (e ▸ hm') hm hf' hf hl' hl)
/-- One place's object turns, and its block alone. -/
theorem Rel.upd (h : Rel P X s mu ka cst a w) {id : Nat} {ob ob' : Ob} (hf : findOb id s.mem = some ob) {w' : World} (hbel : Below X.B X.w0 w')
    (hS : ∀ b o, Smut P X.S0 (setOb id ob' s.mem) mu b o → Smut P X.S0 s.mem mu b o)
    (hK : ∀ b o u, w.cell? ⟨b, o, none⟩ = some u → ¬ Smut P X.S0 s.mem mu b o → w'.cell? ⟨b, o, none⟩ = some u)
    (hrt : rtOf (setOb id ob' s.mem) id = rtOf s.mem id) (hlv : live ob' → live ob)
    (hh : ∀ b', mu id ≠ some b' ∨ ¬ live ob → w'.heap[b']? = w.heap[b']?)
    (hn : mu id = none → (∃ m t, ob' = .row m t [] ∧ (kinds P t).length = sizeT P t))
    (ho : ∀ b, mu id = some b → OB P (cx P X (setOb id ob' s.mem) mu ka w') (ka id) b ob') :
    (cx P X s.mem mu ka w).Le (cx P X (setOb id ob' s.mem) mu ka w') ∧ Rel P X { s with mem := setOb id ob' s.mem } mu ka cst a w' := by
  have hfs := findOb_setOb_same id ob' s.mem hf
  have hl : (cx P X s.mem mu ka w).Le (cx P X (setOb id ob' s.mem) mu ka w') := by
    refine ⟨fun b o u hc hs => ⟨hK b o u hc hs, fun q => hs (hS b o q)⟩, fun _ _ q => q, fun i x hx => ⟨?_, rfl, rfl⟩⟩
    by_cases e : i = id
    · subst e; exact hrt.trans hx
    · show rtOf _ i = _
      unfold rtOf
      rw [findOb_setOb_other id i ob' e]
      exact hx
  refine ⟨hl, h.turn hl hbel ?_ ?_ ?_⟩
  · intro i b hi
    obtain ⟨h1, o, h2⟩ := h.blk i b hi
    by_cases e : i = id
    · subst e; exact ⟨h1, _, hfs⟩
    · exact ⟨h1, o, by rw [findOb_setOb_other id i ob' e]; exact h2⟩
  · intro i j b oi oj hi hj fi fj li lj
    by_cases e : i = id
    · subst e
      rw [hfs] at fi; cases fi
      by_cases e' : j = i
      · exact e'.symm
      · rw [findOb_setOb_other i j _ e'] at fj
        exact h.inj i j b ob oj hi hj hf fj (hlv li) lj
    · rw [findOb_setOb_other id i _ e] at fi
      by_cases e' : j = id
      · subst e'
        rw [hfs] at fj; cases fj
        exact h.inj i j b oi ob hi hj fi hf li (hlv lj)
      · rw [findOb_setOb_other id j _ e'] at fj
        exact h.inj i j b oi oj hi hj fi fj li lj
  · intro i o hi
    by_cases e : i = id
    · subst e
      rw [hfs] at hi; cases hi
      cases hm : mu i with
      | none => exact .inr ⟨rfl, hn hm⟩
      | some b => exact .inl ⟨b, rfl, ho b hm⟩
    · rw [findOb_setOb_other id i _ e] at hi
      rcases h.obs i o hi with ⟨b, hb, ho'⟩ | q
      · refine .inl ⟨b, hb, ho'.le hl fun hlo => hh b ?_⟩
        by_cases hlob : live ob
        · refine .inl fun q => ?_
          exact h.other q hf hlob hb hi hlo e rfl
        · exact .inr hlob
      · exact .inr q
theorem cell_setRow {w : World} {g : Nat} {cs cs' : Array Value} {T : TypeId} (hg : w.heap[g]? = some (.cells cs T (0, 0))) (o : Nat) : (w.setRow g cs').cell? ⟨g, o, none⟩ = cs'[o]? :=
  cell_of_row _ g o cs' T (0, 0) (setRow_heap w g cs cs' T (0, 0) hg)
theorem cell_setRow_other {w : World} {g b : Nat} (cs' : Array Value) (h : b ≠ g) (o : Nat) : (w.setRow g cs').cell? ⟨b, o, none⟩ = w.cell? ⟨b, o, none⟩ :=
  World.cell?_of_block (setRow_other w g b cs' h)
theorem below_setRow {B : Nat} {a w : World} (h : Below B a w) {g : Nat} (hg : B ≤ g) (cs : Array Value) : Below B a (w.setRow g cs) :=
  h.trans ⟨rfl, rfl, rfl, by simp, fun k hk => setRow_other w g k cs (by omega)⟩
theorem smut_set {S0 : Nat → Nat → Prop} {mem : List (Nat × Ob)} {id : Nat} {ob ob' : Ob} (hf : findOb id mem = some ob) (hm : ∀ o, mutOb P ob' o → mutOb P ob o) (b o : Nat) (h : Smut P S0 (setOb id ob' mem) mu b o) : Smut P S0 mem mu b o := by
  rcases h with h | ⟨i, oi, h1, h2, h3⟩
  · exact .inl h
  · by_cases e : i = id
    · subst e
      rw [findOb_setOb_same i ob' mem hf] at h1; cases h1
      exact .inr ⟨i, ob, hf, h2, hm o h3⟩
    · rw [findOb_setOb_other id i ob' e] at h1
      exact .inr ⟨i, oi, h1, h2, h3⟩
theorem splice_length {α : Type} (l : List α) (off : Nat) (vs : List α) (h : off + vs.length ≤ l.length) : (splice l off vs).length = l.length := by
  unfold splice
  simp only [List.length_append, List.length_take, List.length_drop]
  omega
theorem VAs.spl {c : Cx} {as bs : List AV} {vs us : List Value} (h : VAs P c as vs) (k : VAs P c bs us) (off : Nat) : VAs P c (splice as off bs) (splice vs off us) := by
  unfold splice
  rw [k.length]
  exact ((h.take off).append k).append (h.drop _)
theorem get_splice {α : Type} (l : List α) (off : Nat) (us : List α) (h : off + us.length ≤ l.length) (k : Nat) : (splice l off us)[k]? = if k < off then l[k]? else if k < off + us.length then us[k - off]? else l[k]? := by
  unfold splice
  have h1 : min off l.length = off := by omega
  rw [List.append_assoc, List.getElem?_append]
  simp only [List.length_take, h1]
  by_cases c1 : k < off
  · rw [if_pos c1, if_pos c1, List.getElem?_take, if_pos c1]
  · rw [if_neg c1, if_neg c1, List.getElem?_append]
    by_cases c2 : k < off + us.length
    · rw [if_pos (by omega), if_pos c2]
    · rw [if_neg (by omega), if_neg c2, List.getElem?_drop]
      congr 1
      omega
theorem seg_same {α : Type} (l : List α) (us : List α) (n p off sz : Nat) (h : p + sz ≤ n) (hn : n ≤ l.length) (ho : off + us.length ≤ sz) :
    ((( splice l (p + off) us).take n).drop p).take sz = splice (((l.take n).drop p).take sz) off us := by
  have hl : (((l.take n).drop p).take sz).length = sz := by simp only [List.length_take, List.length_drop]; omega
  apply List.ext_getElem?
  intro k
  rw [get_splice _ _ _ (by rw [hl]; exact ho)]
  simp only [List.getElem?_take, List.getElem?_drop]
  by_cases c : k < sz
  · rw [if_pos c, if_pos (by omega), get_splice _ _ _ (by omega)]
    by_cases c1 : k < off
    · rw [if_pos c1, if_pos (by omega), if_pos c, if_pos (by omega)]
    · rw [if_neg c1, if_neg (by omega)]
      by_cases c2 : k < off + us.length
      · rw [if_pos c2, if_pos (by omega)]
        congr 1
        omega
      · rw [if_neg c2, if_neg (by omega), if_pos c, if_pos (by omega)]
  · rw [if_neg c, if_neg (by omega), if_neg (by omega), if_neg c]
theorem seg_other {α : Type} (l : List α) (us : List α) (n p q sz : Nat) (h : q + us.length ≤ l.length) (ho : p + sz ≤ q ∨ q + us.length ≤ p) :
    (((splice l q us).take n).drop p).take sz = ((l.take n).drop p).take sz := by
  apply List.ext_getElem?
  intro k
  simp only [List.getElem?_take, List.getElem?_drop]
  by_cases c : k < sz
  · rw [if_pos c, if_pos c]
    by_cases c1 : p + k < n
    · rw [if_pos c1, if_pos c1, get_splice _ _ _ h]
      by_cases c2 : p + k < q
      · rw [if_pos c2]
      · rw [if_neg c2, if_neg (by omega)]
    · rw [if_neg c1, if_neg c1]
  · rw [if_neg c, if_neg c]
/-- A store into a variable. -/
theorem Rel.store (h : Rel P X s mu ka cst a w) {id b off : Nat} {cs bs : List AV} {us : List Value} (hf : findOb id s.mem = some (.box cs)) (hm : mu id = some b) (hl : off + bs.length ≤ cs.length)
    (hv : VAs P (cx P X s.mem mu ka w) bs us) :
    ∃ T vs, w.heap[b]? = some (.cells vs T (0, 0)) ∧ off + us.length ≤ vs.size ∧ Rel P X { s with mem := setOb id (.box (splice cs off bs)) s.mem } mu ka cst a (w.setRow b (splice vs.toList off us).toArray) := by
  rcases h.obs id _ hf with ⟨b', hb', T, vs, hg, hvs⟩ | ⟨q, _⟩
  case inr => rw [hm] at q; cases q
  rw [hm] at hb'; cases hb'
  have hg' : w.heap[b]? = some (.cells vs T (0, 0)) := hg
  have hsz : vs.toList.length = cs.length := hvs.length
  refine ⟨T, vs, hg', by rw [hv.length]; rw [Array.length_toList] at hsz; omega, ?_⟩
  refine (h.upd (ob' := .box (splice cs off bs)) hf (below_setRow h.bel (h.blk id b hm).1 _) (smut_set hf fun o q => q) ?_ ?_ (fun _ => trivial) ?_ ?_ ?_).2
  · intro b1 o u hc hs
    by_cases e : b1 = b
    · subst e
      exact absurd (.inr ⟨id, _, hf, hm, trivial⟩) hs
    · rw [cell_setRow_other _ e]; exact hc
  · simp [rtOf, findOb_setOb_same id _ s.mem hf, hf]
  · intro b1 q
    refine setRow_other _ _ _ _ fun e => ?_
    rcases q with q | q
    · exact q (e ▸ hm)
    · exact q trivial
  · intro q; rw [hm] at q; cases q
  · intro b1 q
    rw [hm] at q; cases q
    have hl2 : (cx P X s.mem mu ka w).Le (cx P X (setOb id (.box (splice cs off bs)) s.mem) mu ka (w.setRow b (splice vs.toList off us).toArray)) := by
      refine ⟨fun b1 o u hc hs => ⟨?_, fun q => hs (smut_set (ob' := .box (splice cs off bs)) hf (fun o q => q) b1 o q)⟩, fun _ _ q => q, fun i x hx => ⟨?_, rfl, rfl⟩⟩
      · by_cases e : b1 = b
        · subst e
          exact absurd (.inr ⟨id, _, hf, hm, trivial⟩) hs
        · exact (cell_setRow_other _ e o).trans hc
      · by_cases e : i = id
        · subst e
          have hx' : rtOf s.mem i = some x := hx
          simp [rtOf, hf] at hx'
        · show rtOf _ i = _
          unfold rtOf
          rw [findOb_setOb_other id i _ e]
          exact hx
    refine ⟨T, _, setRow_heap w b vs _ T (0, 0) hg', ?_⟩
    exact VAs.le hl2 _ _ (VAs.spl hvs hv off)
/-- Of an own array that may still turn: where it lies. -/
theorem Rel.rowAt (h : Rel P X s mu ka cst a w) {id b m t : Nat} {xs : List (List PV)} (hf : findOb id s.mem = some (.row (m + 1) t xs)) (hm : mu id = some b) :
    (∀ e ∈ xs, cfs (kinds P t) e) ∧ (kinds P t).length = sizeT P t ∧ xs.length ≤ ka id ∧ ∃ vs, w.heap[b]? = some (.cells vs t (0, 0)) ∧ ka id ≤ maxLen ∧ vs.size = ka id * (kinds P t).length ∧
      VPss P w (Smut P X.S0 s.mem mu) xs (vs.toList.take (xs.length * (kinds P t).length)) := by
  rcases h.obs id _ hf with ⟨b', hb', h1, h2, h3, vs, h4, h5, h6, h7⟩ | ⟨q, _⟩
  · rw [hm] at hb'; cases hb'
    exact ⟨h1, h2, h3, vs, h4, h5, h6, h7⟩
  · rw [hm] at q; cases q
/-- Cells of a row that no place may turn. -/
theorem Rel.still (h : Rel P X s mu ka cst a w) {id b o : Nat} {ob : Ob} (hf : findOb id s.mem = some ob) (hl : live ob) (hm : mu id = some b) (hn : ¬ mutOb P ob o) : ¬ Smut P X.S0 s.mem mu b o := by
  rintro (q | ⟨i, oi, h1, h2, h3⟩)
  · have := X.lt b o q
    have := (h.blk id b hm).1
    omega
  · obtain rfl := h.inj i id b oi ob h2 hm h1 hf (mut_live h3) hl
    rw [hf] at h1; cases h1
    exact hn h3
/-- An own array that will not be written any more. -/
theorem Rel.demote (h : Rel P X s mu ka cst a w) {id t : Nat} {xs : List (List PV)} (hf : findOb id s.mem = some (.row 2 t xs)) :
    (cx P X s.mem mu ka w).Le (cx P X (setOb id (.row 1 t xs) s.mem) mu ka w) ∧ Rel P X { s with mem := setOb id (.row 1 t xs) s.mem } mu ka cst a w := by
  have hs : ∀ b o, Smut P X.S0 (setOb id (.row 1 t xs) s.mem) mu b o → Smut P X.S0 s.mem mu b o := smut_set hf fun o _ => trivial
  refine h.upd hf h.bel hs (fun b o u hc _ => hc) (by simp [rtOf, findOb_setOb_same id _ s.mem hf, hf]) (fun _ => trivial) (fun _ _ => rfl) ?_ ?_
  · intro q
    rcases h.obs id _ hf with ⟨b, hb, _⟩ | ⟨_, m, t', e, h2⟩
    · rw [q] at hb; cases hb
    · cases e; exact ⟨1, t, rfl, h2⟩
  · intro b hb
    obtain ⟨h1, h2, h3, vs, h4, h5, h6, h7⟩ := h.rowAt hf hb
    exact ⟨h1, h2, h3, vs, h4, h5, h6, VPss.keep (fun b o u hc hs' => ⟨hc, fun q => hs' (hs b o q)⟩) _ _ h7⟩
/-- An element of an own array. -/
theorem Rel.setEl (h : Rel P X s mu ka cst a w) {id b t i off : Nat} {xs : List (List PV)} {e' : List PV} (hf : findOb id s.mem = some (.row 2 t xs)) (hm : mu id = some b) (hi : i < xs.length) (hc : cfs (kinds P t) e')
    {us : List Value} (hoff : off + us.length ≤ (kinds P t).length)
    (hv : ∀ vs : List Value, VPs P w (Smut P X.S0 s.mem mu) (xs.getD i []) vs → VPs P w (Smut P X.S0 s.mem mu) e' (splice vs off us)) :
    ∃ vs, w.heap[b]? = some (.cells vs t (0, 0)) ∧ i * (kinds P t).length + off + us.length ≤ vs.size ∧
      Rel P X { s with mem := setOb id (.row 2 t (xs.set i e')) s.mem } mu ka cst a (w.setRow b (splice vs.toList (i * (kinds P t).length + off) us).toArray) := by
  obtain ⟨h1, h2, h3, vs, h4, h5, h6, h7⟩ := h.rowAt hf hm
  generalize hsz : (kinds P t).length = sz at *
  have hle : (i + 1) * sz ≤ xs.length * sz := Nat.mul_le_mul_right _ hi
  have hle2 : xs.length * sz ≤ vs.size := by rw [h6]; exact Nat.mul_le_mul_right _ h3
  rw [Nat.add_mul, Nat.one_mul] at hle
  have hfit : i * sz + off + us.length ≤ vs.size := by omega
  have hvl : vs.toList.length = vs.size := Array.length_toList
  refine ⟨vs, h4, hfit, ?_⟩
  have hK : ∀ b1 o u, w.cell? ⟨b1, o, none⟩ = some u → ¬ Smut P X.S0 s.mem mu b1 o → (w.setRow b (splice vs.toList (i * sz + off) us).toArray).cell? ⟨b1, o, none⟩ = some u := by
    intro b1 o u hc' hs
    by_cases e : b1 = b
    · subst e; exact absurd (.inr ⟨id, _, hf, hm, trivial⟩) hs
    · rw [cell_setRow_other _ e]; exact hc'
  have hS : ∀ b o, Smut P X.S0 (setOb id (.row 2 t (xs.set i e')) s.mem) mu b o → Smut P X.S0 s.mem mu b o := smut_set hf fun o _ => trivial
  refine (h.upd (ob' := .row 2 t (xs.set i e')) hf (below_setRow h.bel (h.blk id b hm).1 _) hS hK (by simp [rtOf, findOb_setOb_same id _ s.mem hf, hf]) (fun _ => trivial) ?_ ?_ ?_).2
  · intro b1 q
    refine setRow_other _ _ _ _ fun e => ?_
    rcases q with q | q
    · exact q (e ▸ hm)
    · exact q trivial
  · intro q; rw [hm] at q; cases q
  · intro b1 q
    rw [hm] at q; cases q
    have hcl : ∀ e ∈ xs.set i e', cfs (kinds P t) e := by
      intro e he
      rcases List.mem_or_eq_of_mem_set he with he | rfl
      · exact h1 e he
      · exact hc
    have hlen : ∀ e ∈ xs, e.length = sz := fun e he => (h1 e he).length.trans hsz
    refine ⟨hcl, by rw [hsz]; exact h2, by simpa using h3, _, setRow_heap w b vs _ t (0, 0) h4, h5, ?_, ?_⟩
    · rw [List.size_toArray, splice_length _ _ _ (by rw [hvl]; exact hfit), hvl, h6, hsz]
    · refine VPss.keep (fun b1 o u hc' hs => ⟨hK b1 o u hc' hs, fun q => hs (hS b1 o q)⟩) _ _ ?_
      simp only [List.length_set, hsz]
      refine VPss.of_get (n := sz) ?_ (fun e he => (hcl e he).length.trans hsz) ?_
      · rw [List.length_take, splice_length _ _ _ (by rw [hvl]; exact hfit), hvl, List.length_set]
        omega
      · intro j e hj
        have hjl : j < xs.length := by
          have := (List.getElem?_eq_some_iff.1 hj).1
          simpa using this
        have hje : (j + 1) * sz ≤ xs.length * sz := Nat.mul_le_mul_right _ hjl
        rw [Nat.add_mul, Nat.one_mul] at hje
        by_cases eij : i = j
        · subst eij
          rw [List.getElem?_set_self hi] at hj
          cases hj
          have h0 := h7.get hlen (i := i) (e := xs[i]) (List.getElem?_eq_getElem hi)
          have h8 := hv _ (by rw [List.getD_eq_getElem?_getD, List.getElem?_eq_getElem hi]; exact h0)
          have e9 : List.take sz (List.drop (i * sz) (List.take (xs.length * sz) (splice vs.toList (i * sz + off) us))) = splice (List.take sz (List.drop (i * sz) (List.take (xs.length * sz) vs.toList))) off us := seg_same _ _ _ _ _ _ hle (by omega) hoff
          rw [e9]
          exact h8
        · rw [List.getElem?_set_ne eij] at hj
          have h0 := h7.get hlen hj
          have hap : (j + 1) * sz ≤ i * sz ∨ (i + 1) * sz ≤ j * sz := by
            rcases Nat.lt_or_gt_of_ne eij with q | q
            · exact .inr (Nat.mul_le_mul_right _ q)
            · exact .inl (Nat.mul_le_mul_right _ q)
          rw [Nat.add_mul, Nat.one_mul, Nat.add_mul, Nat.one_mul] at hap
          have e9 : List.take sz (List.drop (j * sz) (List.take (xs.length * sz) (splice vs.toList (i * sz + off) us))) = List.take sz (List.drop (j * sz) (List.take (xs.length * sz) vs.toList)) := seg_other _ _ _ _ _ _ (by omega) (by omega)
          rw [e9]
          exact h0
end
end Go.Proofs.YtkdbccloniaogaaS
