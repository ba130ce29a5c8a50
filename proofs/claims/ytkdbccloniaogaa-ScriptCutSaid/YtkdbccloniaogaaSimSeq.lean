/- Regions in the text's order, and calls that are walked into. Conditions: what functions that are not walked into hand back. -/
import Derived.Test.YtkdbccloniaogaaSimMask
set_option linter.unusedVariables false
set_option linter.unusedSimpArgs false
namespace Go.Proofs.YtkdbccloniaogaaS
open Go Go.RowKit

section
variable {P : Program} {X : Out} {s : St} {mu : Nat → Option Nat} {ka : Nat → Nat} {cst : List (List Value)} {act : Act} {a : List Value} {w : World} {E : Env} {fr : Nat} {o : Oper} {p : AV × List Eff} {K : Act → World → Prop} {Q : Exit → Act → World → Prop} {ops : Array Oper}
theorem walked_sound (h : Rel E.P X s mu ka cst act.tmps.toList w) {f : Nat} {args : Rd (List AV)} {vs : List AV} (hw : walked E s.view o = some (f, args)) (hv : args.val s.view = some vs) :
    ∃ cl fo first cap, o.op = .call cl ∧ cl.callee = .value fo ∧ act.eval fo = .func (.func f) first cap ∧ VAs E.P (cx E.P X s.mem mu ka w) vs (first ++ cl.args.map act.eval ++ cap).toList := by
  unfold walked at hw
  cases ho : o.op
  case call cl =>
    rw [ho] at hw
    simp only at hw
    cases hc : cl.callee
    case value fo =>
      rw [hc] at hw
      simp only at hw
      cases fo
      case func g =>
        simp only at hw
        cases hO : E.O g
        · rw [hO] at hw
          simp only [Option.some.injEq, Prod.mk.injEq] at hw
          obtain ⟨rfl, rfl⟩ := hw
          refine ⟨cl, .func g, #[], #[], rfl, hc, rfl, ?_⟩
          have := h.opsL hv
          rw [← Array.toList_map] at this
          simpa using this
        · rw [hO] at hw; cases hw
      case tmp t =>
        simp only at hw
        have ht := h.tmp t
        have e : s.view.tmp t = s.tmps.getD t (.pv .undef) := rfl
        rw [e] at hw
        generalize s.tmps.getD t (.pv .undef) = q at hw ht
        cases q
        case fn f' first cap =>
          cases f'
          case func g =>
            simp only at hw
            have hw' : some (g, (rdOs cl.args.toList).bind fun vs => Rd.ret (first ++ vs ++ cap)) = some (f, args) := by
              cases hT : isTak E g
              case true => rw [hT] at hw; cases hw
              rw [hT] at hw
              simp only at hw
              cases hO : E.O g
              · rw [hO] at hw; exact hw
              · rw [hO] at hw
                cases cap
                · cases hw
                · exact hw
            clear hw
            simp only [Option.some.injEq, Prod.mk.injEq] at hw'
            obtain ⟨rfl, rfl⟩ := hw'
            obtain ⟨us, h1, h2⟩ := val_bind hv
            simp only [Rd.val, Option.some.injEq] at h2
            subst h2
            simp only [VA] at ht
            obtain ⟨as, bs, h3, h4, h5⟩ := ht
            have h6 := h.opsL h1
            rw [← Array.toList_map] at h6
            refine ⟨cl, .tmp t, as.toArray, bs.toArray, rfl, hc, h3, ?_⟩
            simpa using (h4.append h6).append h5
          all_goals cases hw
        case pv q =>
          cases q
          case fn g =>
            simp only at hw
            have ht' := va_pv ht
            simp only [VP] at ht'
            cases hO : E.O g
            · rw [hO] at hw
              simp only [Option.some.injEq, Prod.mk.injEq] at hw
              obtain ⟨rfl, rfl⟩ := hw
              refine ⟨cl, .tmp t, #[], #[], rfl, hc, ht', ?_⟩
              have := h.opsL hv
              rw [← Array.toList_map] at this
              simpa using this
            · rw [hO] at hw; cases hw
          all_goals cases hw
        all_goals cases hw
      all_goals cases hw
    all_goals (rw [hc] at hw; cases hw)
  all_goals (rw [ho] at hw; cases hw)
theorem enter_rel (h : Rel P X s mu ka cst a w) {vs : List AV} {us : List Value} (hv : VAs P (cx P X s.mem mu ka w) vs us) (n cur ctr fn : Nat) :
    Rel P X { tmps := vs ++ List.replicate (n - vs.length) (.tup []), stack := (s.cur, s.fn, s.tmps) :: s.stack, mem := s.mem, cur := cur, ctr := ctr, fn := fn } mu ka (a :: cst) (us ++ List.replicate (n - us.length) undef) w := by
  refine ⟨h.bel, h.blk, h.inj, h.obs, ?_, ?_, ?_⟩
  · refine hv.append ?_
    rw [hv.length]
    generalize n - vs.length = k
    refine VAs.of_get (by simp) fun i x v h1 h2 => ?_
    rw [List.getElem?_replicate] at h1 h2
    split at h1
    · simp_all
      subst h1
      subst h2
      exact undef_tup
    · cases h1
  · simp [h.stk.1]
  · intro i x vs' h1 h2
    cases i with
    | zero =>
      simp only [List.getElem?_cons_zero, Option.some.injEq] at h1 h2
      subst h1
      subst h2
      exact h.tms
    | succ i =>
      simp only [List.getElem?_cons_succ] at h1 h2
      exact h.stk.2 i x vs' h1 h2
theorem leave_rel {s1 : St} {cur g : Nat} {tmps : List AV} {st : List (Nat × Nat × List AV)} {b : List Value} (h : Rel P X s1 mu ka (a :: cst) b w) (hs : s1.stack = (cur, g, tmps) :: st) :
    Rel P X { s1 with tmps := tmps, stack := st, cur := cur, fn := g } mu ka cst a w := by
  refine ⟨h.bel, h.blk, h.inj, h.obs, ?_, ?_, ?_⟩
  · exact h.stk.2 0 (cur, g, tmps) a (by rw [hs]; rfl) rfl
  · have := h.stk.1
    rw [hs] at this
    simpa using this
  · intro i x vs h1 h2
    exact h.stk.2 (i + 1) x vs (by rw [hs]; exact h1) h2
/-- A call that is walked into. -/
theorem called_sound (hE : E.Ok) {ec : Code → St → Tr (Ex × St)} (hec : SoundC E ec) (h : Rel E.P X s mu ka cst act.tmps.toList w) {f : Nat} {args : Rd (List AV)} {vs : List AV} {r : AV × St}
    (hw : walked E s.view o = some (f, args)) (hv : args.val s.view = some vs) (hr : (evCall E ec s f vs).run = some r) (hK : Next E.P X (r.2.put o.dst r.1) cst act K) : o.wp E.P act w K Q := by
  obtain ⟨cl, fo, first, cap, ho, hc, hfo, hvs⟩ := walked_sound h hw hv
  unfold evCall at hr
  cases hf : E.P.funcs[f]?
  · rw [hf] at hr; simp [Tr.run] at hr
  · rename_i fn
    rw [hf] at hr
    simp only at hr
    cases hb : fn.body
    · rw [hb] at hr; simp [Tr.run] at hr
    · rename_i c
      rw [hb] at hr
      simp only at hr
      obtain ⟨q, h1, h2⟩ := tr_bind hr
      clear hr
      unfold Oper.wp
      rw [run_call hE ho hc hfo hf (by rw [hb]; rfl), Oper.upon_enter]
      refine calls_of_wp hf hb ?_
      have hent := enter_rel h hvs fn.ntmps s.ctr (s.ctr + 1) f
      have e1 : (vs.length) = (first ++ cl.args.map act.eval ++ cap).toList.length := hvs.length.symm
      refine hec c _ q.1 q.2 (show _ = some (q.1, q.2) from h1) X mu ka (act.tmps.toList :: cst) _ w ?_ rfl _ ?_
      · simpa using hent
      · intro mu' ka' act' w' hrel hd
        have fin : (q.1 = .normal ∨ q.1 = .ret) → ((resultsA E fn q.2).bind fun v => match q.2.stack with
            | (cur, g, tmps) :: st => .ret (v, { q.2 with tmps, stack := st, cur, fn := g })
            | [] => .fail).run = some r → ∃ v, (results fn act'.tmps).run E.P w' = .ok v w' ∧ K (act.put o.dst v) w' := by
          intro _ h2
          obtain ⟨v, h3, h4⟩ := tr_bind h2
          obtain ⟨u, h5, h6⟩ := results_sound hrel h3
          refine ⟨u, h5, ?_⟩
          cases hst : q.2.stack with
          | nil => rw [hst] at h4; simp [Tr.run] at h4
          | cons y st =>
            obtain ⟨cur, g, tmps⟩ := y
            rw [hst] at h4
            simp only [Tr.run, Option.some.injEq] at h4
            subst h4
            refine hK mu' ka' (act.put o.dst u) w' ?_ (by cases o.dst <;> rfl)
            rw [put_toList]
            exact (leave_rel hrel hst).put o.dst h6
        cases hq : q.1 <;> rw [hq] at h2 fin <;> simp only at h2
        · exact ⟨hd, fin (.inl rfl) h2⟩
        · simp [Tr.run] at h2
        · simp [Tr.run] at h2
        · exact ⟨hd, fin (.inr rfl) h2⟩
theorem put_app (s : St) (dst : Option Nat) (p : AV × List Eff) : (s.app dst p).tmps = (s.put dst p.1).tmps := by
  cases dst <;> rfl
theorem Coh.nil {tmps : List AV} : Coh tmps [] := fun p hp => by cases hp
/-- A region in the text's order. -/
theorem ops_sound (hE : E.Ok) {ec : Code → St → Tr (Ex × St)} (hec : SoundC E ec) : ∀ (l : List Nat) (s : St) (al : Al) (s' : St), (evOps E ec ops l s al).run = some s' → Coh s.tmps al →
    ∀ mu ka cst (act : Act) w, Rel E.P X s mu ka cst act.tmps.toList w → act.defers = [] →
    (∀ mu' ka' (act' : Act) w', Rel E.P X s' mu' ka' cst act'.tmps.toList w' → act'.defers = [] → Q .normal act' w') → wpOps E.P ops Q l act w
  | [], s, al, s', hr, _, mu, ka, cst, act, w, h, hd, hQ => by
    simp only [evOps, Tr.run, Option.some.injEq] at hr
    subst hr
    exact hQ mu ka act w h hd
  | i :: l, s, al, s', hr, hc, mu, ka, cst, act, w, h, hd, hQ => by
    simp only [evOps] at hr
    unfold wpOps
    cases ho : ops[i]? with
    | none => rw [ho] at hr; simp [Tr.run] at hr
    | some o =>
      rw [ho] at hr
      simp only at hr ⊢
      have hr1 := asked_run hc hr
      clear hr
      have usual : (((evGuarded E s.cur ops o).run s.view []).bind fun r => evOps E ec ops l (s.app o.dst r.1) (al.put o r.1.1)).run = some s' →
          if Region.wanted o (yielded ops act.tmps) then o.wp E.P act w (wpOps E.P ops Q l) Q ∨ (o.asks E.P act w ∧ LetsOut Q) else wpOps E.P ops Q l (act.put o.dst undef) w := by
        intro hr
        obtain ⟨r, h1, h2⟩ := tr_bind hr
        have hp := Rd.val_of_run h1
        refine guarded_sound hE h hp ?_
        intro mu' ka' act' w' hrel hdef
        refine ops_sound hE hec l _ _ _ h2 ?_ mu' ka' cst act' w' hrel (hdef.trans hd) hQ
        rw [put_app]
        exact Coh.put hc fun t ht hb => move_val (.inr hb) ht hp
      cases hg : o.guard with
      | some jw => rw [hg] at hr1; exact usual hr1
      | none =>
        cases hw : walked E s.view o with
        | none => rw [hg, hw] at hr1; exact usual hr1
        | some fa =>
          obtain ⟨f, args⟩ := fa
          rw [hg, hw] at hr1
          simp only at hr1
          obtain ⟨vs, h1, hr2⟩ := tr_bind hr1
          obtain ⟨r, h2, h3⟩ := tr_bind hr2
          have : Region.wanted o (yielded ops act.tmps) = true := by simp [Region.wanted, hg]
          rw [this, if_pos rfl]
          refine .inl (called_sound hE hec h hw (Rd.val_of_run h1) h2 ?_)
          intro mu' ka' act' w' hrel hdef
          exact ops_sound hE hec l _ _ _ h3 Coh.nil mu' ka' cst act' w' hrel (hdef.trans hd) hQ
end
end Go.Proofs.YtkdbccloniaogaaS
