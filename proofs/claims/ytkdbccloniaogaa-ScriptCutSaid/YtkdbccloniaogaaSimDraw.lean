/- Regions that draw their order: what is apart may be done in any order. Conditions: what functions that are not walked into hand back. -/
import Derived.Test.YtkdbccloniaogaaSimIso
set_option linter.unusedVariables false
set_option linter.unusedSimpArgs false
namespace Go.Proofs.YtkdbccloniaogaaS
open Go Go.RowKit

theorem on_other {e : Eff} {m : List (Nat × Ob)} {j : Nat} (h : e.obj ≠ j) : findOb j (e.on m) = findOb j m := by
  cases e with
  | new id o => simp only [Eff.on, findOb_cons]; exact if_neg h
  | put id off vs =>
    simp only [Eff.on]
    split
    · exact findOb_setOb_other id j _ (Ne.symm h) m
    · rfl
  | rset id md t xs => exact findOb_setOb_other id j _ (Ne.symm h) m
theorem setOb_agree {id j : Nat} {o : Ob} {m m' : List (Nat × Ob)} (h : findOb id m = findOb id m') (hj : findOb j m = findOb j m') : findOb j (setOb id o m) = findOb j (setOb id o m') := by
  by_cases e : j = id
  · subst e
    cases hf : findOb j m with
    | some p => rw [findOb_setOb_same j o m hf, findOb_setOb_same j o m' (by rw [← h]; exact hf)]
    | none =>
      have none_ : ∀ (l : List (Nat × Ob)), findOb j l = none → findOb j (setOb j o l) = none := by
        intro l
        induction l with
        | nil => intro _; rfl
        | cons x l ih =>
          obtain ⟨k, q⟩ := x
          intro hq
          by_cases e : k = j
          · simp [findOb, e] at hq
          · simp only [findOb, if_neg e] at hq
            simp only [setOb, if_neg e, findOb]
            exact ih hq
      rw [none_ m hf, none_ m' (by rw [← h]; exact hf)]
  · rw [findOb_setOb_other id j o e m, findOb_setOb_other id j o e m']
    exact hj
theorem on_agree {e : Eff} {m m' : List (Nat × Ob)} {j : Nat} (h : findOb e.obj m = findOb e.obj m') (hj : findOb j m = findOb j m') : findOb j (e.on m) = findOb j (e.on m') := by
  cases e with
  | new id o => simp only [Eff.on, findOb_cons, hj]
  | put id off vs =>
    have h' : findOb id m = findOb id m' := h
    simp only [Eff.on]
    rw [← h']
    split
    · exact setOb_agree h' hj
    · exact hj
  | rset id md t xs => exact setOb_agree h hj
theorem effs_other {j : Nat} : ∀ {es : List Eff} {m : List (Nat × Ob)}, (∀ e ∈ es, e.obj ≠ j) → findOb j (effOn m es) = findOb j m
  | [], _, _ => rfl
  | e :: es, m, h => by
    show findOb j (effOn (e.on m) es) = _
    rw [effs_other fun x hx => h x (by simp [hx]), on_other (h e (by simp))]
theorem effs_agree {j : Nat} : ∀ {es : List Eff} {m m' : List (Nat × Ob)}, (∀ e ∈ es, findOb e.obj m = findOb e.obj m') → findOb j m = findOb j m' → findOb j (effOn m es) = findOb j (effOn m' es)
  | [], _, _, _, hj => hj
  | e :: es, m, m', h, hj => by
    show findOb j (effOn (e.on m) es) = findOb j (effOn (e.on m') es)
    exact effs_agree (fun x hx => on_agree (h e (by simp)) (h x (by simp [hx]))) (on_agree (h e (by simp)) hj)
theorem fits_agree {e : Eff} {m m' : List (Nat × Ob)} (h : findOb e.obj m = findOb e.obj m') : e.fits m = e.fits m' := by
  cases e with
  | new id o => rfl
  | put id off vs => simp only [Eff.fits]; rw [show findOb id m = findOb id m' from h]
  | rset id md t xs => simp only [Eff.fits]; rw [show findOb id m = findOb id m' from h]
theorem fitsAll_agree : ∀ {es : List Eff} {m m' : List (Nat × Ob)}, (∀ e ∈ es, findOb e.obj m = findOb e.obj m') → fitsAll m es = fitsAll m' es
  | [], _, _, _ => rfl
  | e :: es, m, m', h => by
    simp only [fitsAll]
    rw [fits_agree (h e (by simp)), fitsAll_agree fun x hx => on_agree (h e (by simp)) (h x (by simp [hx]))]
/-- Two views show the same there. -/
def Key.same (v v' : View) : Key → Prop
  | .t x => v.tmp x = v'.tmp x
  | .c x off len => v.rng x off len = v'.rng x off len
  | .r x => v.row x = v'.row x
  | .n x => v.fresh x = v'.fresh x
theorem Key.same_trans {a b c : View} {k : Key} (h : k.same a b) (h' : k.same b c) : k.same a c := by
  cases k <;> exact Eq.trans h h'
theorem Key.same_symm {a b : View} {k : Key} (h : k.same a b) : k.same b a := by
  cases k <;> exact Eq.symm h
theorem run_mono {α : Type} {v : View} {r : α × List Key} : ∀ (x : Rd α) (ks : List Key), (x.run v ks).run = some r → ∀ k ∈ ks, k ∈ r.2
  | .ret a, ks, h, k, hk => by
    simp only [Rd.run, Tr.run, Option.some.injEq] at h
    subst h
    exact hk
  | .tmp t f, ks, h, k, hk => run_mono (f _) _ h k (by simp [hk])
  | .rng id off n f, ks, h, k, hk => run_mono (f _) _ h k (by simp [hk])
  | .row id f, ks, h, k, hk => run_mono (f _) _ h k (by simp [hk])
  | .fresh id f, ks, h, k, hk => run_mono (f _) _ h k (by simp [hk])
  | .test b x y, ks, h, k, hk => by
    simp only [Rd.run, Tr.run] at h
    cases b
    · exact run_mono y ks h k hk
    · exact run_mono x ks h k hk
  | .fail, ks, h, k, hk => by simp [Rd.run, Tr.run] at h
/-- A run hangs on what it looked at. -/
theorem run_same {α : Type} {v v' : View} {r : α × List Key} : ∀ (x : Rd α) (ks : List Key), (x.run v ks).run = some r → (∀ k ∈ r.2, k.same v v') → (x.run v' ks).run = some r
  | .ret a, ks, h, _ => h
  | .tmp t f, ks, h, hs => by
    have e : v.tmp t = v'.tmp t := hs (.t t) (run_mono (f _) _ h _ (by simp))
    simp only [Rd.run] at h ⊢
    rw [← e]
    exact run_same _ _ h hs
  | .rng id off n f, ks, h, hs => by
    have e : v.rng id off n = v'.rng id off n := hs (.c id off n) (run_mono (f _) _ h _ (by simp))
    simp only [Rd.run] at h ⊢
    rw [← e]
    exact run_same _ _ h hs
  | .row id f, ks, h, hs => by
    have e : v.row id = v'.row id := hs (.r id) (run_mono (f _) _ h _ (by simp))
    simp only [Rd.run] at h ⊢
    rw [← e]
    exact run_same _ _ h hs
  | .fresh id f, ks, h, hs => by
    have e : v.fresh id = v'.fresh id := hs (.n id) (run_mono (f _) _ h _ (by simp))
    simp only [Rd.run] at h ⊢
    rw [← e]
    exact run_same _ _ h hs
  | .test b x y, ks, h, hs => by
    simp only [Rd.run, Tr.run] at h ⊢
    cases b
    · exact run_same y ks h hs
    · exact run_same x ks h hs
  | .fail, ks, h, _ => by simp [Rd.run, Tr.run] at h
theorem splice_range {α : Type} {l vs : List α} {off p n : Nat} (hf : off + vs.length ≤ l.length) (h : ¬ (off < p + n ∧ p < off + vs.length)) (hp : p + n ≤ l.length) : ((splice l off vs).drop p).take n = (l.drop p).take n := by
  apply List.ext_getElem?
  intro i
  rw [List.getElem?_take, List.getElem?_take]
  by_cases hi : i < n
  · rw [if_pos hi, if_pos hi, List.getElem?_drop, List.getElem?_drop]
    unfold splice
    by_cases h1 : p + n ≤ off
    · rw [List.append_assoc, List.getElem?_append_left (by rw [List.length_take]; omega), List.getElem?_take, if_pos (by omega)]
    · have h2 : off + vs.length ≤ p := by omega
      rw [List.getElem?_append_right (by rw [List.length_append, List.length_take]; omega), List.getElem?_drop]
      congr 1
      rw [List.length_append, List.length_take]
      omega
  · rw [if_neg hi, if_neg hi]
theorem splice_len {α : Type} {l vs : List α} {off : Nat} (hf : off + vs.length ≤ l.length) : (splice l off vs).length = l.length := by
  unfold splice
  simp only [List.length_append, List.length_take, List.length_drop]
  omega
theorem same_on {e : Eff} {m : List (Nat × Ob)} {τ : Nat → AV} {r : Key} (hf : e.fits m = true) (hh : e.key.hits r = false) : r.same ⟨τ, fun i => findOb i m⟩ ⟨τ, fun i => findOb i (e.on m)⟩ := by
  by_cases he : ∃ i, r.objOf = some i ∧ e.obj = i
  · obtain ⟨i, h1, h2⟩ := he
    cases e with
    | new id o =>
      obtain rfl : id = i := h2
      cases r <;> simp [Key.objOf] at h1 <;> subst h1 <;> simp [Eff.key, Key.hits] at hh
    | put id off vs =>
      obtain rfl : id = i := h2
      simp only [Eff.fits] at hf
      split at hf
      · rename_i cs hcs
        have hfit := of_decide_eq_true hf
        have hnew : findOb id (Eff.on m (.put id off vs)) = some (.box (splice cs off vs)) := by
          simp only [Eff.on, hcs]
          exact findOb_setOb_same id _ m hcs
        cases r <;> simp [Key.objOf] at h1 <;> subst h1
        · rename_i id' p n
          simp only [Eff.key, Key.hits, beq_self_eq_true, Bool.true_and, Bool.and_eq_false_iff, decide_eq_false_iff_not] at hh
          simp only [Key.same, View.rng, hcs, hnew, splice_len hfit]
          split
          · rename_i hle
            rw [splice_range hfit (by omega) hle]
          · rfl
        · simp only [Key.same, View.row, hcs, hnew]
        · simp only [Key.same, View.fresh, hcs, hnew]
      · cases hf
    | rset id md t xs =>
      obtain rfl : id = i := h2
      simp only [Eff.fits] at hf
      split at hf
      · rename_i a b c hcs
        have hnew : findOb id (Eff.on m (.rset id md t xs)) = some (.row md t xs) := by
          simp only [Eff.on]
          exact findOb_setOb_same id _ m hcs
        cases r <;> simp [Key.objOf] at h1 <;> subst h1
        · simp only [Key.same, View.rng, hcs, hnew]
        · simp [Eff.key, Key.hits] at hh
        · simp only [Key.same, View.fresh, hcs, hnew]
      · cases hf
  · cases r with
    | t n => rfl
    | c id off n =>
      have : e.obj ≠ id := fun q => he ⟨id, rfl, q⟩
      simp only [Key.same, View.rng, on_other this]
    | r id =>
      have : e.obj ≠ id := fun q => he ⟨id, rfl, q⟩
      simp only [Key.same, View.row, on_other this]
    | n id =>
      have : e.obj ≠ id := fun q => he ⟨id, rfl, q⟩
      simp only [Key.same, View.fresh, on_other this]
theorem same_effs {τ : Nat → AV} {r : Key} : ∀ {es : List Eff} {m : List (Nat × Ob)}, fitsAll m es = true → (∀ e ∈ es, e.key.hits r = false) → r.same ⟨τ, fun i => findOb i m⟩ ⟨τ, fun i => findOb i (effOn m es)⟩
  | [], m, _, _ => by cases r <;> rfl
  | e :: es, m, hf, hh => by
    simp only [fitsAll, Bool.and_eq_true] at hf
    exact Key.same_trans (same_on hf.1 (hh e (by simp))) (same_effs (es := es) (m := e.on m) hf.2 fun x hx => hh x (by simp [hx]))
theorem same_tmps {l : List AV} {d : Nat} {v : AV} {F : Nat → Option Ob} {r : Key} (hh : (Key.t d).hits r = false) : r.same ⟨fun t => l.getD t (.pv .undef), F⟩ ⟨fun t => (l.set d v).getD t (.pv .undef), F⟩ := by
  cases r with
  | t n =>
    have hne : ¬ d = n := by simpa [Key.hits] using hh
    show l.getD n _ = (l.set d v).getD n _
    rw [getD_set, if_neg (fun e => hne e.1)]
  | c id off n => rfl
  | r id => rfl
  | n id => rfl
theorem same_app {s : St} {dst : Option Nat} {p : AV × List Eff} {r : Key} (hf : fitsAll s.mem p.2 = true) (hh : ∀ k ∈ keysOf dst p.2, k.hits r = false) : r.same s.view (s.app dst p).view := by
  have h1 : ∀ e ∈ p.2, e.key.hits r = false := fun e he => hh _ (by
    unfold keysOf
    cases dst <;> simp
    · exact ⟨e, he, rfl⟩
    · exact .inr ⟨e, he, rfl⟩)
  cases dst with
  | none => exact same_effs (τ := fun t => s.tmps.getD t (.pv .undef)) hf h1
  | some d =>
    have h2 : (Key.t d).hits r = false := hh _ (by simp [keysOf])
    exact Key.same_trans (same_effs (τ := fun t => s.tmps.getD t (.pv .undef)) hf h1) (same_tmps h2)
/-- States that show the same. -/
structure St.Eqv (s t : St) : Prop where
  tmps : s.tmps = t.tmps
  stack : s.stack = t.stack
  cur : s.cur = t.cur
  ctr : s.ctr = t.ctr
  fn : s.fn = t.fn
  mem : ∀ i, findOb i s.mem = findOb i t.mem
theorem St.Eqv.refl (s : St) : s.Eqv s := ⟨rfl, rfl, rfl, rfl, rfl, fun _ => rfl⟩
theorem St.Eqv.symm {s t : St} (h : s.Eqv t) : t.Eqv s := ⟨h.1.symm, h.2.symm, h.3.symm, h.4.symm, h.5.symm, fun i => (h.6 i).symm⟩
theorem St.Eqv.trans {s t u : St} (h : s.Eqv t) (k : t.Eqv u) : s.Eqv u := ⟨h.1.trans k.1, h.2.trans k.2, h.3.trans k.3, h.4.trans k.4, h.5.trans k.5, fun i => (h.6 i).trans (k.6 i)⟩
theorem St.Eqv.view {s t : St} (h : s.Eqv t) : s.view = t.view := by
  unfold St.view
  rw [h.tmps]
  congr 1
  funext i
  exact h.mem i
theorem St.Eqv.app {s t : St} (h : s.Eqv t) (dst : Option Nat) (p : AV × List Eff) : (s.app dst p).Eqv (t.app dst p) := by
  cases dst with
  | none => exact ⟨h.1, h.2, h.3, h.4, h.5, fun i => effs_agree (fun e _ => h.6 _) (h.6 i)⟩
  | some d => exact ⟨congrArg (·.set d p.1) h.1, h.2, h.3, h.4, h.5, fun i => effs_agree (fun e _ => h.6 _) (h.6 i)⟩
/-- An operation of a region, done. -/
structure Step (E : Env) (ec : Code → St → Tr (Ex × St)) (ops : Array Oper) (s : St) (d : Done) (t : St) : Prop where
  done : ∃ o p, ops[d.i]? = some o ∧ ((isoOp E ec s.cur s.ctr ops o).run s.view []).run = some (p, d.reads) ∧ fitsAll s.mem p.2 = true ∧ d.writes = keysOf o.dst p.2 ∧ t = s.app o.dst p
inductive Chain (E : Env) (ec : Code → St → Tr (Ex × St)) (ops : Array Oper) : St → List Done → St → Prop
  | nil (s : St) : Chain E ec ops s [] s
  | cons {s t u : St} {d : Done} {l : List Done} (h : Step E ec ops s d t) (k : Chain E ec ops t l u) : Chain E ec ops s (d :: l) u
section
variable {E : Env} {ec : Code → St → Tr (Ex × St)} {ops : Array Oper}
theorem ctr_app (s : St) (dst : Option Nat) (p : AV × List Eff) : (s.app dst p).ctr = s.ctr := by cases dst <;> rfl
theorem cur_app (s : St) (dst : Option Nat) (p : AV × List Eff) : (s.app dst p).cur = s.cur := by cases dst <;> rfl
theorem Step.eqv {s t s' : St} {d : Done} (h : Step E ec ops s d t) (k : s.Eqv s') : ∃ t', Step E ec ops s' d t' ∧ t.Eqv t' := by
  obtain ⟨o, p, h1, h2, h3, h4, rfl⟩ := h.done
  refine ⟨s'.app o.dst p, ⟨⟨o, p, h1, ?_, ?_, h4, rfl⟩⟩, k.app _ _⟩
  · rw [← k.view, ← k.cur, ← k.ctr]; exact h2
  · rw [← fitsAll_agree (m := s.mem) fun e _ => k.mem _]; exact h3
theorem Chain.eqv {s u : St} {l : List Done} (h : Chain E ec ops s l u) : ∀ {s' : St}, s.Eqv s' → ∃ u', Chain E ec ops s' l u' ∧ u.Eqv u' := by
  induction h with
  | nil s => exact fun {s'} k => ⟨s', .nil s', k⟩
  | cons h _ ih =>
    intro s' k
    obtain ⟨t', h1, h2⟩ := h.eqv k
    obtain ⟨u', h3, h4⟩ := ih h2
    exact ⟨u', .cons h1 h3, h4⟩
theorem obj_key (e : Eff) : e.key.objOf = some e.obj := by cases e <;> rfl
theorem mem_keys {dst : Option Nat} {es : List Eff} {e : Eff} (h : e ∈ es) : e.key ∈ keysOf dst es := by
  cases dst with
  | none => exact List.mem_map_of_mem h
  | some d => exact List.mem_cons_of_mem _ (List.mem_map_of_mem h)
/-- Two that are apart, the other way round. -/
theorem diamond {s t u : St} {a b : Done} (ha : Step E ec ops s a t) (hb : Step E ec ops t b u) (hap : b.apart a = true) : ∃ t' u', Step E ec ops s b t' ∧ Step E ec ops t' a u' ∧ u.Eqv u' := by
  obtain ⟨oa, pa, a1, a2, a3, a4, rfl⟩ := ha.done
  obtain ⟨ob, pb, b1, b2, b3, b4, rfl⟩ := hb.done
  unfold Done.apart at hap
  simp only [Bool.and_eq_true, List.all_eq_true, Bool.not_eq_true'] at hap
  obtain ⟨hap1, hap2⟩ := hap
  have hobj : ∀ e ∈ pb.2, ∀ f ∈ pa.2, e.obj ≠ f.obj := by
    intro e he f hf q
    have h1 := (hap1 e.key (by rw [b4]; exact mem_keys he)).2 f.key (by rw [a4]; exact mem_keys hf)
    have h2 : (e.key.objOf, f.key.objOf) = (some e.obj, some f.obj) := by rw [obj_key, obj_key]
    unfold Key.clash at h1
    cases e <;> cases f <;> simp [Eff.key, Key.objOf] at h1 <;> exact h1 q
  rw [cur_app, ctr_app] at b2
  have rb : ((isoOp E ec s.cur s.ctr ops ob).run s.view []).run = some (pb, b.reads) :=
    run_same _ _ b2 fun k hk => Key.same_symm (same_app a3 fun w hw => hap2 w (by rw [a4]; exact hw) k hk)
  have fb : fitsAll s.mem pb.2 = true := by
    have : fitsAll (s.app oa.dst pa).mem pb.2 = fitsAll s.mem pb.2 := fitsAll_agree fun e he => effs_other (m := s.mem) fun f hf q => hobj e he f hf q.symm
    rw [← this]
    exact b3
  have ra : ((isoOp E ec (s.app ob.dst pb).cur (s.app ob.dst pb).ctr ops oa).run (s.app ob.dst pb).view []).run = some (pa, a.reads) := by
    rw [cur_app, ctr_app]
    exact run_same _ _ a2 fun k hk => same_app fb fun w hw => (hap1 w (by rw [b4]; exact hw)).1 k hk
  have fa : fitsAll (s.app ob.dst pb).mem pa.2 = true := by
    have : fitsAll (s.app ob.dst pb).mem pa.2 = fitsAll s.mem pa.2 := fitsAll_agree fun e he => effs_other (m := s.mem) fun f hf q => hobj f hf e he q
    rw [this]
    exact a3
  refine ⟨s.app ob.dst pb, (s.app ob.dst pb).app oa.dst pa, ⟨⟨ob, pb, b1, rb, fb, b4, rfl⟩⟩, ⟨⟨oa, pa, a1, ra, fa, a4, rfl⟩⟩, ?_⟩
  have hmem : ∀ i, findOb i (effOn (effOn s.mem pa.2) pb.2) = findOb i (effOn (effOn s.mem pb.2) pa.2) := by
    intro i
    have ea : ∀ e ∈ pb.2, findOb e.obj (effOn s.mem pa.2) = findOb e.obj s.mem := fun e he => effs_other fun f hf q => hobj e he f hf q.symm
    have eb : ∀ e ∈ pa.2, findOb e.obj (effOn s.mem pb.2) = findOb e.obj s.mem := fun e he => effs_other fun f hf q => hobj f hf e he q
    by_cases hi : ∃ e ∈ pb.2, e.obj = i
    · obtain ⟨e, he, rfl⟩ := hi
      rw [effs_agree (m' := s.mem) ea (ea e he)]
      exact (effs_other fun f hf q => hobj e he f hf q.symm).symm
    · rw [effs_other fun e he q => hi ⟨e, he, q⟩]
      exact (effs_agree (m' := s.mem) eb (effs_other fun e he q => hi ⟨e, he, q⟩)).symm
  have htmps : ∀ da db, oa.dst = some da → ob.dst = some db → db ≠ da := by
    intro da db h1 h2 q
    have := (hap1 (.t db) (by rw [b4, h2]; simp [keysOf])).2 (.t da) (by rw [a4, h1]; simp [keysOf])
    simp [Key.clash] at this
    exact this q
  cases hda : oa.dst with
  | none =>
    cases hdb : ob.dst with
    | none => exact ⟨rfl, rfl, rfl, rfl, rfl, hmem⟩
    | some db => exact ⟨rfl, rfl, rfl, rfl, rfl, hmem⟩
  | some da =>
    cases hdb : ob.dst with
    | none => exact ⟨rfl, rfl, rfl, rfl, rfl, hmem⟩
    | some db => exact ⟨List.set_comm _ _ (Ne.symm (htmps da db hda hdb)), rfl, rfl, rfl, rfl, hmem⟩
/-- One of a chain, first. -/
theorem Chain.pull {d : Done} {l2 : List Done} : ∀ {l1 : List Done} {s u : St}, Chain E ec ops s (l1 ++ d :: l2) u → (∀ e ∈ l1, d.apart e = true) → ∃ t u', Step E ec ops s d t ∧ Chain E ec ops t (l1 ++ l2) u' ∧ u.Eqv u'
  | [], s, u, h, _ => by
    cases h with
    | cons h k => exact ⟨_, u, h, k, .refl u⟩
  | e :: l1, s, u, h, hap => by
    cases h with
    | cons h k =>
      obtain ⟨t, u', h1, h2, h3⟩ := Chain.pull k fun x hx => hap x (by simp [hx])
      obtain ⟨t', w, h4, h5, h6⟩ := diamond h h1 (hap e (by simp))
      obtain ⟨u'', h7, h8⟩ := h2.eqv h6
      exact ⟨t', u'', h4, .cons h5 h7, h3.trans h8⟩
end
end Go.Proofs.YtkdbccloniaogaaS
