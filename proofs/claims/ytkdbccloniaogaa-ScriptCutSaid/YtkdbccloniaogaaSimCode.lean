/- Regions in the text's order, calls that are walked into, loops' heads. Conditions: what functions that are not walked into hand back. -/
import Derived.Test.YtkdbccloniaogaaSimOp8
set_option linter.unusedVariables false
set_option linter.unusedSimpArgs false
namespace Go.Proofs.YtkdbccloniaogaaS
open Go Go.RowKit

def Ex.to : Ex → Exit
  | .normal => .normal
  | .exit id => .exit id
  | .goto l => .goto l
  | .ret => .ret
/-- A run of code that stands beside the model's. -/
def SoundC (E : Env) (ec : Code → St → Tr (Ex × St)) : Prop :=
  ∀ (c : Code) (s : St) (e : Ex) (s' : St), (ec c s).run = some (e, s') → ∀ (X : Out) mu ka cst (act : Act) w, Rel E.P X s mu ka cst act.tmps.toList w → act.defers = [] →
    ∀ Q : Exit → Act → World → Prop, (∀ mu' ka' (act' : Act) w', Rel E.P X s' mu' ka' cst act'.tmps.toList w' → act'.defers = [] → Q e.to act' w') → c.wp E.P Q act w
def Coh (tmps : List AV) (al : Al) : Prop := ∀ p ∈ al, tmps.length ≤ p.1 ∨ tmps.getD p.1 (.pv .undef) = tmps.getD p.2 (.pv .undef)
theorem set_same {α : Type} (l : List α) (d : Nat) (v x : α) (h : l.length ≤ d ∨ l.getD d x = v) : l.set d v = l := by
  rcases h with h | h
  · exact List.set_eq_of_length_le h
  · apply List.ext_getElem?
    intro i
    rw [List.getElem?_set]
    by_cases e : d = i
    · subst e
      rw [if_pos rfl]
      split
      · rename_i hd
        rw [List.getD_eq_getElem?_getD, List.getElem?_eq_getElem hd] at h
        rw [List.getElem?_eq_getElem hd]
        exact congrArg some h.symm
      · rename_i hd
        rw [List.getElem?_eq_none (by omega)]
    · rw [if_neg e]
theorem foldl_same {α β : Type} (f : α → β → α) (l : α) : ∀ (al : List β), (∀ p ∈ al, f l p = l) → al.foldl f l = l
  | [], _ => rfl
  | p :: al, h => by
    rw [List.foldl_cons, h p (by simp)]
    exact foldl_same f l al fun q hq => h q (by simp [hq])
theorem subs_same {al : Al} {d : Nat} {v : AV} {l : List AV} (hc : Coh l al) (hd : l.getD d (.pv .undef) = v) : subs al d v l = l := by
  unfold subs
  rw [set_same l d v (.pv .undef) (.inr hd)]
  refine foldl_same _ l al fun p hp => ?_
  show (match p.2 == d with | true => l.set p.1 v | false => l) = l
  split
  · rename_i he
    have he' : p.2 = d := eq_of_beq he
    refine set_same l p.1 v (.pv .undef) ?_
    rcases hc p hp with q | q
    · exact .inl q
    · exact .inr (by rw [q, he', hd])
  · rfl
theorem settle_run {α : Type} {s : St} {al : Al} {d : Nat} {k : St → Tr α} {r : α} (hc : Coh s.tmps al) (h : (settle s al d k).run = some r) : (k s).run = some r := by
  unfold settle at h
  split at h
  · rename_i b hb
    cases b
    · have e := subs_same hc hb
      simp only [Tr.run, cond_false] at h
      rw [e] at h
      exact h
    · have e := subs_same hc hb
      simp only [Tr.run, cond_true] at h
      rw [e] at h
      exact h
  · exact h
theorem asked_run {α : Type} {ops : Array Oper} {o : Oper} {s : St} {al : Al} {k : St → Tr α} {r : α} (hc : Coh s.tmps al) (h : (asked ops o s al k).run = some r) : (k s).run = some r := by
  unfold asked at h
  split at h
  · exact settle_run hc h
  · exact h
theorem tr_bind {α β : Type} {x : Tr α} {f : α → Tr β} {b : β} (h : (x.bind f).run = some b) : ∃ a, x.run = some a ∧ (f a).run = some b := by
  rw [Tr.run_bind] at h
  exact Option.bind_eq_some_iff.1 h
theorem getD_set (l : List AV) (d i : Nat) (v : AV) : (l.set d v).getD i (.pv .undef) = if d = i ∧ d < l.length then v else l.getD i (.pv .undef) := by
  rw [List.getD_eq_getElem?_getD, List.getD_eq_getElem?_getD, List.getElem?_set]
  by_cases e : d = i
  · subst e
    by_cases h : d < l.length
    · simp [h]
    · simp [h]
  · simp [e]
/-- Temporaries that hold the same still do, behind an operation. -/
theorem Coh.put {s : St} {al : Al} {o : Oper} {v : AV} (hc : Coh s.tmps al) (hv : ∀ t, o.op = .move (.tmp t) → (∃ b, v = .pv (.bool b)) → v = s.tmps.getD t (.pv .undef)) : Coh (s.put o.dst v).tmps (al.put o v) := by
  unfold Al.put St.put
  cases hd : o.dst with
  | none => exact hc
  | some d =>
    simp only
    have old : Coh (s.tmps.set d v) (al.filter fun p => !(p.1 == d) && !(p.2 == d)) := by
      intro p hp
      rw [List.mem_filter] at hp
      obtain ⟨h1, h2⟩ := hp
      simp only [Bool.and_eq_true, Bool.not_eq_true', beq_eq_false_iff_ne] at h2
      rcases hc p h1 with q | q
      · exact .inl (by simpa using q)
      · refine .inr ?_
        rw [getD_set, getD_set, if_neg (fun e => h2.1 e.1.symm), if_neg (fun e => h2.2 e.1.symm)]
        exact q
    split
    · rename_i t b hop
      split
      · exact old
      · rename_i hne
        have hne' : t ≠ d := by
          intro e; subst e; simp at hne
        intro p hp
        rcases List.mem_cons.1 hp with rfl | hp
        · rcases Nat.lt_or_ge d s.tmps.length with hlt | hge
          · refine .inr ?_
            rw [getD_set, getD_set, if_pos ⟨rfl, hlt⟩, if_neg (fun e => hne' e.1.symm)]
            exact hv t hop ⟨_, rfl⟩
          · exact .inl (by simpa using hge)
        · exact old p hp
    · exact old
section
variable {P : Program} {X : Out} {s : St} {mu : Nat → Option Nat} {ka : Nat → Nat} {cst : List (List Value)} {act : Act} {a : List Value} {w : World} {E : Env} {fr : Nat} {o : Oper} {p : AV × List Eff} {K : Act → World → Prop} {Q : Exit → Act → World → Prop} {ops : Array Oper}
theorem undef_tup {c : Cx} : VA P c (.tup []) undef := by
  simp only [VA]
  exact ⟨[], rfl, by simp [VAs]⟩
theorem skip_next (h : Rel P X s mu ka cst act.tmps.toList w) {dst : Option Nat} (hK : Next P X (s.app dst (.tup [], [])) cst act K) : K (act.put dst undef) w := by
  refine hK mu ka (act.put dst undef) w ?_ (by cases dst <;> rfl)
  rw [put_toList, app_eq]
  exact h.put dst undef_tup
def boolOf : Value → Option Bool
  | .bool b => some b
  | _ => none
theorem yielded_of {j d : Nat} {v : Value} (hd : (ops[j]?).bind (·.dst) = some d) (hv : act.eval (.tmp d) = v) : yielded ops act.tmps j = boolOf v := by
  unfold yielded
  rw [hd]
  simp only [Option.bind_some]
  have h2 : act.tmps[d]?.getD undef = v := by
    rw [← hv, eval_tmp]
    simp
  cases hq : act.tmps[d]? with
  | none =>
    rw [hq] at h2
    simp only [Option.getD_none] at h2
    subst h2
    rfl
  | some x =>
    rw [hq] at h2
    simp only [Option.getD_some] at h2
    subst h2
    cases x <;> rfl
/-- An operation under its guard. -/
theorem guarded_sound (hE : E.Ok) (h : Rel E.P X s mu ka cst act.tmps.toList w) (hp : (evGuarded E fr ops o).val s.view = some p) (hK : Next E.P X (s.app o.dst p) cst act K) :
    if Region.wanted o (yielded ops act.tmps) then o.wp E.P act w K Q ∨ (o.asks E.P act w ∧ LetsOut Q) else K (act.put o.dst undef) w := by
  unfold evGuarded at hp
  cases hg : o.guard with
  | none =>
    rw [hg] at hp
    have : Region.wanted o (yielded ops act.tmps) = true := by simp [Region.wanted, hg]
    rw [this, if_pos rfl]
    exact .inl (op_sound hE h hp hK)
  | some jw =>
    obtain ⟨j, want⟩ := jw
    rw [hg] at hp
    simp only at hp
    split at hp
    · rename_i d hd
      simp only [Rd.val] at hp
      have hr := h.tmp d
      have hwant : ∀ y, yielded ops act.tmps j = y → Region.wanted o (yielded ops act.tmps) = (y == some want) := by
        intro y hy
        simp [Region.wanted, hg, hy]
      split at hp
      · rename_i b hb
        have hb' : s.tmps.getD d (.pv .undef) = .pv (.bool b) := hb
        rw [hb'] at hr
        have hr' := va_pv hr
        simp only [VP] at hr'
        have hy := hwant _ (yielded_of (ops := ops) hd hr')
        rw [hy]
        cases want <;> cases b
        · simp only [Rd.val, cond_false] at hp
          simp
          exact .inl (op_sound hE h hp hK)
        · simp only [Rd.val, cond_true] at hp
          obtain rfl := val_okV hp
          simp
          exact skip_next h hK
        · simp only [Rd.val, cond_false] at hp
          obtain rfl := val_okV hp
          simp
          exact skip_next h hK
        · simp only [Rd.val, cond_true] at hp
          simp
          exact .inl (op_sound hE h hp hK)
      · rename_i hb
        have hb' : s.tmps.getD d (.pv .undef) = .tup [] := hb
        rw [hb'] at hr
        obtain rfl := val_okV hp
        simp only [VA] at hr
        obtain ⟨vs, hr, hvs⟩ := hr
        simp only [VAs] at hvs
        subst hvs
        have hy := hwant _ (yielded_of (ops := ops) hd hr)
        rw [hy]
        simp
        exact skip_next h hK
      · simp [Rd.val] at hp
    · simp [Rd.val] at hp
theorem move_val (hg : o.guard = none ∨ (∃ b, p.1 = .pv (.bool b))) {t : Nat} (ho : o.op = .move (.tmp t)) (hp : (evGuarded E fr ops o).val s.view = some p) : p.1 = s.tmps.getD t (.pv .undef) := by
  have base : (evOp E fr o).val s.view = some p → p.1 = s.tmps.getD t (.pv .undef) := by
    intro hp
    simp only [evOp, ho] at hp
    obtain ⟨v, h1, h2⟩ := val_bind hp
    obtain rfl := val_okV h2
    simp only [rdO, Rd.val, Option.some.injEq] at h1
    exact h1.symm
  unfold evGuarded at hp
  cases hgd : o.guard with
  | none => rw [hgd] at hp; exact base hp
  | some jw =>
    obtain ⟨j, want⟩ := jw
    rw [hgd] at hp hg
    obtain ⟨b0, hb0⟩ : ∃ b, p.1 = .pv (.bool b) := by
      rcases hg with q | q
      · cases q
      · exact q
    have no : ∀ {q : AV × List Eff}, q = (AV.tup [], ([] : List Eff)) → p = q → False := by
      rintro q rfl rfl
      simp at hb0
    simp only at hp
    split at hp
    · simp only [Rd.val] at hp
      split at hp
      · rename_i b _
        cases want <;> cases b <;> simp only [Rd.val, cond_false, cond_true] at hp
        · exact base hp
        · exact (no rfl (val_okV hp)).elim
        · exact (no rfl (val_okV hp)).elim
        · exact base hp
      · exact (no rfl (val_okV hp)).elim
      · simp [Rd.val] at hp
    · simp [Rd.val] at hp
def resStep (tmps : Array Value) : ResultVar → Sem Value
  | .tmp t => pure (tmps.getD t undef)
  | .cell a t => do loadVar t (← asAddr (tmps.getD a undef))
theorem resultsList (h : Rel E.P X s mu ka cst act.tmps.toList w) : ∀ (rs : List ResultVar) (vs : List AV), (resultsA.rdOs' E rs).val s.view = some vs → ∃ us, (rs.mapM (resStep act.tmps)).run E.P w = .ok us w ∧ VAs E.P (cx E.P X s.mem mu ka w) vs us := by
  intro rs
  induction rs with
  | nil =>
    intro vs hv
    simp only [resultsA.rdOs', Rd.val, Option.some.injEq] at hv
    subst hv
    exact ⟨[], by simp, by simp [VAs]⟩
  | cons r rs ih =>
    intro vs hv
    cases r with
    | tmp t =>
      simp only [resultsA.rdOs', Rd.val] at hv
      obtain ⟨r, h1, h2⟩ := val_bind hv
      simp only [Rd.val, Option.some.injEq] at h2
      subst h2
      obtain ⟨us, h3, h4⟩ := ih r h1
      refine ⟨act.tmps.getD t undef :: us, ?_, ?_⟩
      · simp [List.mapM_cons, resStep, h3]
      · simp only [VAs]
        exact ⟨_, _, rfl, h.tmp t, h4⟩
    | cell a t =>
      simp only [resultsA.rdOs', Rd.val] at hv
      obtain ⟨q, h0, hv2⟩ := val_bind hv
      obtain ⟨r, h1, h2⟩ := val_bind hv2
      simp only [Rd.val, Option.some.injEq] at h2
      subst h2
      obtain ⟨us, h3, h4⟩ := ih r h1
      obtain ⟨g1, u, g2, g3⟩ := load_sound h h0 (h.tmp a)
      have g4 : (resStep act.tmps (.cell a t)).run E.P w = .ok u w := by
        have e : act.eval (.tmp a) = act.tmps.getD a undef := rfl
        rw [e] at g2
        show (asAddr (act.tmps.getD a undef) >>= fun ad => loadVar t ad).run E.P w = .ok u w
        generalize act.tmps.getD a undef = q at g2 ⊢
        unfold Instr.loadAt Instr.sureAddr at g2
        cases q with
        | pointer ad =>
          cases ad with
          | none => simp at g2
          | some ad => simpa [asAddr] using g2
        | _ => simp at g2
      refine ⟨u :: us, ?_, ?_⟩
      · simp only [List.mapM_cons, Sem.run_bind, g4, Result.andThen_ok, h3, Sem.run_pure]
      · simp only [VAs]
        exact ⟨_, _, rfl, g3, h4⟩
theorem results_eq (fn : Func) (tmps : Array Value) : results fn tmps = (fn.results.mapM (resStep tmps) >>= fun vs => pure (if h : vs.size = 1 then vs[0] else .tuple vs)) := by
  unfold results
  congr 1
/-- A function's results. -/
theorem results_sound (h : Rel E.P X s mu ka cst act.tmps.toList w) {fn : Func} {v : AV} (hp : (resultsA E fn s).run = some v) : ∃ u, (results fn act.tmps).run E.P w = .ok u w ∧ VA E.P (cx E.P X s.mem mu ka w) v u := by
  unfold resultsA at hp
  obtain ⟨r, h1, h2⟩ := tr_bind hp
  obtain ⟨us, h3, h4⟩ := resultsList h fn.results.toList r.1 (Rd.val_of_run h1)
  have hm : (fn.results.mapM (resStep act.tmps)).run E.P w = .ok us.toArray w := by
    have e : fn.results = fn.results.toList.toArray := by simp
    rw [e, List.mapM_toArray]
    simp only [Sem.run_map, h3, Result.andThen_ok]
  rw [results_eq, Sem.run_bind, hm, Result.andThen_ok, Sem.run_pure]
  refine ⟨_, rfl, ?_⟩
  generalize hr1 : r.1 = rv at h2 h4
  have hl := h4.length
  split at h2
  · rename_i v1
    simp only [Tr.run, Option.some.injEq] at h2
    subst h2
    simp only [VAs] at h4
    obtain ⟨u, us', rfl, h5, rfl⟩ := h4
    simpa using h5
  · rename_i hn
    simp only [Tr.run, Option.some.injEq] at h2
    subst h2
    have hne : ¬ us.toArray.size = 1 := by
      rw [List.size_toArray, hl]
      intro q
      obtain ⟨x, hx⟩ := List.length_eq_one_iff.1 q
      exact hn x hx
    rw [dif_neg hne]
    simp only [VA]
    exact ⟨us, rfl, h4⟩
end
end Go.Proofs.YtkdbccloniaogaaS
