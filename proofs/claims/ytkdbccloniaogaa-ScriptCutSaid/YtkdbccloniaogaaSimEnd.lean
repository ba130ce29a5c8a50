/- The whole code: what the plainer run comes to, the code comes to. Conditions: what functions that are not walked into hand back. -/
import Derived.Test.YtkdbccloniaogaaSimDraw
import Derived.LoopN
import Derived.ScopeJumps
set_option linter.unusedVariables false
set_option linter.unusedSimpArgs false
namespace Go.Proofs.YtkdbccloniaogaaS
open Go Go.RowKit

section
variable {P : Program} {X : Out} {s : St} {mu : Nat → Option Nat} {ka : Nat → Nat} {cst : List (List Value)} {act : Act} {a : List Value} {w : World} {E : Env} {fr : Nat} {o : Oper} {p : AV × List Eff} {K : Act → World → Prop} {Q : Exit → Act → World → Prop} {ops : Array Oper}
theorem cx_eq {m m' : List (Nat × Ob)} (h : ∀ i, findOb i m = findOb i m') : cx P X m mu ka w = cx P X m' mu ka w := by
  have h1 : Smut P X.S0 m mu = Smut P X.S0 m' mu := by
    funext b o
    simp only [Smut, h]
  have h2 : rtOf m = rtOf m' := by
    funext i
    simp only [rtOf, h]
  unfold cx
  rw [h1, h2]
theorem Rel.eqv (h : Rel P X s mu ka cst a w) {t : St} (k : s.Eqv t) : Rel P X t mu ka cst a w := by
  have e := cx_eq (P := P) (X := X) (mu := mu) (ka := ka) (w := w) k.mem
  refine ⟨h.bel, ?_, ?_, ?_, ?_, ?_, ?_⟩
  · intro id b hb
    rw [← k.mem]
    exact h.blk id b hb
  · intro i j b oi oj hi hj fi fj
    rw [← k.mem] at fi fj
    exact h.inj i j b oi oj hi hj fi fj
  · intro id ob hf
    rw [← k.mem] at hf
    rw [← e]
    exact h.obs id ob hf
  · rw [← e, ← k.tmps]; exact h.tms
  · rw [← k.stack]; exact h.stk.1
  · rw [← e, ← k.stack]; exact h.stk.2
/-- What stands between two of a region's operations. -/
def Two (ops : Array Oper) (d e : Done) : Prop := ∃ o p, ops[d.i]? = some o ∧ ops[e.i]? = some p ∧ (Oper.waits o e.i = true ∨ Oper.waits p d.i = true ∨ d.apart e = true)
theorem apart_pairs : ∀ {l : List Done}, apartAll ops l = true → l.Pairwise (Two ops)
  | [], _ => .nil
  | d :: l, h => by
    simp only [apartAll, Bool.and_eq_true, List.all_eq_true] at h
    refine .cons (fun e he => ?_) (apart_pairs h.2)
    have h1 := h.1 e he
    cases hd : ops[d.i]? with
    | none => rw [hd] at h1; simp at h1
    | some o =>
      cases hp : ops[e.i]? with
      | none => rw [hd, hp] at h1; simp at h1
      | some p =>
        rw [hd, hp] at h1
        simp only [Bool.or_eq_true] at h1
        refine ⟨o, p, hd, hp, ?_⟩
        rcases h1 with (q | q) | q
        · exact .inl q
        · exact .inr (.inl q)
        · exact .inr (.inr q)
theorem drawn_chain {ec : Code → St → Tr (Ex × St)} : ∀ (l : List Nat) (s : St) (al : Al) (ds : List Done) (r : St × List Done), (evDrawn E ec ops l s al ds).run = some r → Coh s.tmps al →
    ∃ c : List Done, Chain E ec ops s c r.1 ∧ r.2 = c.reverse ++ ds ∧ c.map (·.i) = l
  | [], s, al, ds, r, hr, _ => by
    simp only [evDrawn, Tr.run, Option.some.injEq] at hr
    subst hr
    exact ⟨[], .nil s, rfl, rfl⟩
  | i :: l, s, al, ds, r, hr, hc => by
    simp only [evDrawn] at hr
    cases ho : ops[i]? with
    | none => rw [ho] at hr; simp [Tr.run] at hr
    | some o =>
      rw [ho] at hr
      simp only at hr
      have hr1 := asked_run hc hr
      clear hr
      cases hw : mayDraw E s.view o with
      | false => rw [hw] at hr1; simp [Tr.run] at hr1
      | true =>
        rw [hw] at hr1
        simp only at hr1
        obtain ⟨q, h1, h2⟩ := tr_bind hr1
        clear hr1
        cases hf : fitsAll s.mem q.1.2 with
        | false => rw [hf] at h2; simp [Tr.run] at h2
        | true =>
          rw [hf] at h2
          simp only at h2
          have hp := Rd.val_of_run h1
          obtain ⟨c, k1, k2, k3⟩ := drawn_chain l _ _ _ r h2 (by rw [put_app]; exact Coh.put hc fun t ht hb => iso_move_val (.inr hb) ht hp)
          refine ⟨⟨i, q.2, keysOf o.dst q.1.2⟩ :: c, .cons ⟨⟨o, q.1, ho, h1, hf, rfl, rfl⟩⟩ k1, ?_, by rw [List.map_cons, k3]⟩
          rw [k2]
          simp
/-- Any order. -/
theorem any_sound (hE : E.Ok) {ec : Code → St → Tr (Ex × St)} (hec : SoundC E ec) (htx : textual ops = true) : ∀ (fuel : Nat) (c : List Done) (s u : St), Chain E ec ops s c u → c.length ≤ fuel → c.Pairwise (fun d e => d.i < e.i) → c.Pairwise (fun e d => Two ops d e) →
    ∀ listed : Array Bool, listed.size = ops.size → (∀ j, j < ops.size → (listed.getD j true = false ↔ ∃ d ∈ c, d.i = j)) →
    ∀ mu ka (act : Act) w, Rel E.P X s mu ka cst act.tmps.toList w → act.defers = [] →
    (∀ mu' ka' (act' : Act) w', Rel E.P X u mu' ka' cst act'.tmps.toList w' → act'.defers = [] → Q .normal act' w') → wpAny E.P .any ops Q fuel listed act w := by
  intro fuel
  have deps : ∀ {i o}, ops[i]? = some o → ∀ e ∈ o.after, Region.binds .any e = true → e.on < i := by
    intro i o ho e he hb
    unfold textual at htx
    rw [List.all_eq_true] at htx
    have := htx i (List.mem_range.2 (Array.getElem?_eq_some_iff.1 ho).1)
    rw [ho] at this
    simp only [Array.all_eq_true_iff_forall_mem, Bool.or_eq_true, Bool.not_eq_true', decide_eq_true_eq] at this
    rcases this e he with q | q
    · rw [hb] at q; cases q
    · exact q
  have getD_of : ∀ {l : Array Bool} {j : Nat}, j < l.size → l.getD j true = true → l.getD j false = true := by
    intro l j hj h
    simpa [hj] using h
  induction fuel with
  | zero =>
    intro c s u hch hlen hs ht listed hsz hiff mu ka act w h hd hQ
    have hc : c = [] := List.length_eq_zero_iff.1 (Nat.le_zero.1 hlen)
    subst hc
    cases hch
    refine ⟨List.eq_nil_iff_forall_not_mem.2 fun j hj => ?_, hQ mu ka act w h hd⟩
    obtain ⟨h1, o, ho, _⟩ := mem_ready.1 hj
    obtain ⟨d, hd', _⟩ := (hiff j (Array.getElem?_eq_some_iff.1 ho).1).1 h1
    cases hd'
  | succ fuel ih =>
    intro c s u hch hlen hs ht listed hsz hiff mu ka act w h hd hQ
    refine ⟨fun hnil => ?_, fun i hi => ?_⟩
    · cases c with
      | nil => cases hch; exact hQ mu ka act w h hd
      | cons d c =>
        exfalso
        cases hch with
        | cons hstep _ =>
          obtain ⟨o, _, ho, _⟩ := hstep.done
          have hlt := (Array.getElem?_eq_some_iff.1 ho).1
          have : d.i ∈ Region.ready .any ops listed := by
            refine mem_ready.2 ⟨(hiff d.i hlt).2 ⟨d, by simp, rfl⟩, o, ho, fun e he hb => ?_⟩
            have hon := deps ho e he hb
            refine getD_of (by omega) ?_
            cases hq : listed.getD e.on true with
            | true => rfl
            | false =>
              obtain ⟨d', h1, h2⟩ := (hiff e.on (by omega)).1 hq
              rcases List.mem_cons.1 h1 with rfl | h1
              · omega
              · have := (List.pairwise_cons.1 hs).1 d' h1
                omega
          rw [hnil] at this
          cases this
    · obtain ⟨h1, o, ho, hall⟩ := mem_ready.1 hi
      have hlt := (Array.getElem?_eq_some_iff.1 ho).1
      obtain ⟨d, hdc, hdi⟩ := (hiff i hlt).1 h1
      subst hdi
      obtain ⟨l1, l2, rfl⟩ := List.append_of_mem hdc
      have hs' := List.pairwise_append.1 hs
      have ht' := List.pairwise_append.1 ht
      have hap : ∀ e ∈ l1, d.apart e = true := by
        intro e he
        obtain ⟨o1, p1, g1, g2, g3⟩ := ht'.2.2 e he d (by simp)
        rw [ho] at g1
        cases g1
        have hlt' := hs'.2.2 e he d (by simp)
        rcases g3 with q | q | q
        · exfalso
          unfold Oper.waits at q
          obtain ⟨ed, he1, he2⟩ := Array.any_eq_true'.1 q
          simp only [Bool.and_eq_true, beq_iff_eq] at he2
          have hl := hall ed he1 he2.1
          rw [he2.2] at hl
          have hle := (Array.getElem?_eq_some_iff.1 g2).1
          have hun := (hiff e.i hle).2 ⟨e, by simp [he], rfl⟩
          have : e.i < listed.size := by omega
          simp [this] at hl hun
          rw [hun] at hl
          cases hl
        · exfalso
          unfold Oper.waits at q
          obtain ⟨ed, he1, he2⟩ := Array.any_eq_true'.1 q
          simp only [Bool.and_eq_true, beq_iff_eq] at he2
          have := deps g2 ed he1 he2.1
          omega
        · exact q
      obtain ⟨t, u', hst, hch', heq⟩ := hch.pull hap
      obtain ⟨o', p, ho', hrun, _, _, rfl⟩ := hst.done
      rw [ho] at ho'
      cases ho'
      unfold wpOp
      simp only [ho]
      refine iso_sound hE hec h (Rd.val_of_run hrun) ?_
      intro mu' ka' act' w' hrel hdef
      have hsub : (l1 ++ l2).Sublist (l1 ++ d :: l2) := (List.Sublist.refl l1).append (List.sublist_cons_self d l2)
      refine ih (l1 ++ l2) _ u' hch' ?_ (hs.sublist hsub) (ht.sublist hsub) _ (by simpa using hsz) ?_ mu' ka' act' w' hrel (hdef.trans hd) ?_
      · simp only [List.length_append, List.length_cons] at hlen ⊢
        omega
      · intro j hj
        by_cases e : d.i = j
        · subst e
          have h2 : (listed.setIfInBounds d.i true).getD d.i true = true := by
            have : d.i < listed.size := by omega
            simp [this]
          rw [h2]
          refine ⟨fun q => (by cases q), fun ⟨d', hd1, hd2⟩ => ?_⟩
          exfalso
          rcases List.mem_append.1 hd1 with q | q
          · have := hs'.2.2 d' q d (by simp)
            omega
          · have := (List.pairwise_cons.1 hs'.2.1).1 d' q
            omega
        · rw [getD_set_ne true e, hiff j hj]
          refine ⟨fun ⟨d', hd1, hd2⟩ => ⟨d', ?_, hd2⟩, fun ⟨d', hd1, hd2⟩ => ⟨d', hsub.subset hd1, hd2⟩⟩
          rcases List.mem_append.1 hd1 with q | q
          · exact List.mem_append.2 (.inl q)
          · rcases List.mem_cons.1 q with rfl | q
            · exact absurd hd2 e
            · exact List.mem_append.2 (.inr q)
      · intro mu2 ka2 act2 w2 hr2 hd2
        exact hQ mu2 ka2 act2 w2 (hr2.eqv heq.symm) hd2
theorem drawn_sound (hE : E.Ok) {ec : Code → St → Tr (Ex × St)} (hec : SoundC E ec) (hm : E.P.follows .mixedOrders = true) {id : Nat} {r : St × List Done} (hr : (evDrawn E ec ops (List.range ops.size) s [] []).run = some r) (hx : textual ops = true) (ha : apartAll ops r.2 = true)
    (h : Rel E.P X s mu ka cst act.tmps.toList w) (hd : act.defers = []) (hQ : ∀ mu' ka' (act' : Act) w', Rel E.P X (bump E ops r.1) mu' ka' cst act'.tmps.toList w' → act'.defers = [] → Q .normal act' w') : (Code.region id ops true).wp E.P Q act w := by
  obtain ⟨c, h1, h2, h3⟩ := drawn_chain _ _ _ _ _ hr Coh.nil
  rw [List.append_nil] at h2
  rw [h2] at ha
  have hp := List.pairwise_reverse.1 (apart_pairs ha)
  have hlen : c.length = ops.size := by
    have := congrArg List.length h3
    simpa using this
  have hlt : c.Pairwise (fun d e => d.i < e.i) := by
    have := List.pairwise_lt_range (n := ops.size)
    rw [← h3, List.pairwise_map] at this
    exact this
  refine wp_region_any hm (any_sound hE hec hx ops.size c s r.1 h1 (Nat.le_of_eq hlen) hlt hp _ (by simp) ?_ mu ka act _ ?_ hd fun mu1 ka1 a1 w1 q1 q2 => hQ mu1 ka1 a1 w1 (bump_rel q1) q2)
  · intro j hj
    have hm' : j ∈ c.map (·.i) := by rw [h3]; exact List.mem_range.2 hj
    obtain ⟨d, hd1, hd2⟩ := List.mem_map.1 hm'
    exact ⟨fun _ => ⟨d, hd1, hd2⟩, fun _ => by simp [hj]⟩
  · exact (h.grow (w' := { w with drawn := w.drawn + 1 }) ⟨rfl, rfl, rfl, Nat.le_refl _, fun _ _ => rfl⟩).2
theorem iter_sound {ec : Code → St → Tr (Ex × St)} (ih : SoundC E ec) {x : Code} {head fin : St → St} {e : Ex} {s' : St} (hh : ∀ {t mu a w ka}, Rel E.P X t mu ka cst a w → ∃ mu' ka', Rel E.P X (head t) mu' ka' cst a w)
    (hf : ∀ {t mu a w ka}, Rel E.P X t mu ka cst a w → ∃ mu' ka', Rel E.P X (fin t) mu' ka' cst a w)
    (hQ : ∀ mu' ka' (act' : Act) w', Rel E.P X s' mu' ka' cst act'.tmps.toList w' → act'.defers = [] → Q e.to act' w') :
    ∀ (N : Nat) (s : St) mu ka (act : Act) w, (iter (ec x) head fin N s).run = some (e, s') → Rel E.P X s mu ka cst act.tmps.toList w → act.defers = [] → Code.rounds E.P x Q N act w
  | 0, s, mu, ka, act, w, hr, h, hd => by simp [iter, Tr.run] at hr
  | N + 1, s, mu, ka, act, w, hr, h, hd => by
    simp only [iter] at hr
    obtain ⟨t, h1, h2⟩ := tr_bind hr
    rw [rounds_succ]
    obtain ⟨mu0, ka0, h0⟩ := hh h
    refine ih x _ t.1 t.2 h1 X mu0 ka0 cst act w h0 hd _ ?_
    intro mu' ka' act' w' h' hd'
    cases ht : t.1 <;> rw [ht] at h2 <;> simp only at h2
    · exact iter_sound ih hh hf hQ N _ mu' ka' act' w' h2 h' hd'
    all_goals
      simp only [Tr.run, Option.some.injEq, Prod.mk.injEq] at h2
      obtain ⟨rfl, rfl⟩ := h2
      obtain ⟨mu2, ka2, h2⟩ := hf h'
      exact hQ mu2 ka2 act' w' h2 hd'
theorem headOf_rel {f : Nat} {x : Code} {c0 : Nat} {t : St} (h : Rel P X t mu ka cst a w) : ∃ mu' ka', Rel P X (headOf E f x c0 t) mu' ka' cst a w := by
  unfold headOf
  cases (firstRegion x).bind (E.L f) with
  | none => exact ⟨mu, ka, h⟩
  | some lv => exact h.mask _ c0
theorem finOf_rel {f : Nat} {x : Code} {c0 : Nat} {t : St} (h : Rel P X t mu ka cst a w) : ∃ mu' ka', Rel P X (finOf E f x c0 t) mu' ka' cst a w := by
  unfold finOf
  cases (firstRegion x).bind (E.L f) with
  | none => exact ⟨mu, ka, h⟩
  | some lv => exact h.mask _ c0
/-- The whole code. -/
theorem code_sound (hE : E.Ok) (hm : E.P.follows .mixedOrders = true) : ∀ n, SoundC E (evCode E n)
  | 0, c, s, e, s', hr, X, mu, ka, cst, act, w, h, hd, Q, hQ => by simp [evCode, Tr.run] at hr
  | n + 1, c, s, e, s', hr, X, mu, ka, cst, act, w, h, hd, Q, hQ => by
    have ih := code_sound hE hm n
    have base : ∀ {x : Ex × St}, (Tr.ret x).run = some (e, s') → x = (e, s') := fun q => Option.some.inj q
    cases c
    case skip =>
      simp only [evCode] at hr
      cases base hr
      exact wp_skip (hQ mu ka act w h hd)
    case region id ops draw =>
      cases draw
      · simp only [evCode] at hr
        obtain ⟨t, h1, h2⟩ := tr_bind hr
        cases base h2
        exact wp_region (ops_sound hE ih _ s [] _ h1 Coh.nil mu ka cst act w h hd hQ)
      · simp only [evCode] at hr
        obtain ⟨t, h1, h2⟩ := tr_bind hr
        cases hx : textual ops && apartAll ops t.2 with
        | false => rw [hx] at h2; simp [Tr.run] at h2
        | true =>
          rw [hx] at h2
          cases base h2
          simp only [Bool.and_eq_true] at hx
          exact drawn_sound hE ih hm h1 hx.1 hx.2 h hd hQ
    case seq x y =>
      simp only [evCode] at hr
      obtain ⟨t, h1, h2⟩ := tr_bind hr
      refine wp_seq (ih x s t.1 t.2 h1 X mu ka cst act w h hd _ ?_)
      intro mu' ka' act' w' h' hd'
      cases ht : t.1 <;> rw [ht] at h2 <;> simp only at h2
      · exact ih y t.2 e s' h2 X mu' ka' cst act' w' h' hd' Q hQ
      all_goals (cases base h2; exact hQ mu' ka' act' w' h' hd')
    case cond x y z =>
      cases x <;> simp only [evCode] at hr
      case tmp d =>
        have hr1 := settle_run (Coh.nil) hr
        clear hr
        have hv := h.tmp d
        generalize s.tmps.getD d (.pv .undef) = q at hr1 hv
        cases q
        case pv p =>
          cases p
          case bool b =>
            simp only [Tr.run] at hr1
            have hv' := va_pv hv
            simp only [VP] at hv'
            refine wp_cond hv' ?_
            cases b
            · exact ih z s e s' hr1 X mu ka cst act w h hd Q hQ
            · exact ih y s e s' hr1 X mu ka cst act w h hd Q hQ
          all_goals simp [Tr.run] at hr1
        all_goals simp [Tr.run] at hr1
      case const v =>
        cases v
        case bool b =>
          simp only [Tr.run] at hr
          refine wp_cond (t := b) rfl ?_
          cases b
          · exact ih z s e s' hr X mu ka cst act w h hd Q hQ
          · exact ih y s e s' hr X mu ka cst act w h hd Q hQ
        all_goals simp [Tr.run] at hr
      all_goals simp [Tr.run] at hr
    case block id x =>
      simp only [evCode] at hr
      obtain ⟨t, h1, h2⟩ := tr_bind hr
      refine wp_block (ih x s t.1 t.2 h1 X mu ka cst act w h hd _ ?_)
      intro mu' ka' act' w' h' hd'
      cases ht : t.1 <;> rw [ht] at h2 <;> simp only at h2
      case exit j =>
        by_cases e1 : j = id
        · subst e1
          simp only [beq_self_eq_true] at h2
          cases base h2
          simp only [Ex.to, Exit.inBlock, if_true]
          exact hQ mu' ka' act' w' h' hd'
        · have e2 : (j == id) = false := by simpa using e1
          simp only [e2] at h2
          cases base h2
          simp only [Ex.to, Exit.inBlock, if_neg e1]
          exact hQ mu' ka' act' w' h' hd'
      all_goals (cases base h2; exact hQ mu' ka' act' w' h' hd')
    case loop x =>
      simp only [evCode, Tr.run] at hr
      obtain ⟨t, h1, h2⟩ := Option.bind_eq_some_iff.1 hr
      cases Option.some.inj h2
      exact wp_loop_rounds E.N (iter_sound ih headOf_rel finOf_rel hQ E.N s mu ka act w h1 h hd)
    case exit id =>
      simp only [evCode] at hr
      cases base hr
      exact wp_exit (hQ mu ka act w h hd)
    case scope x =>
      simp only [evCode] at hr
      obtain ⟨t, h1, h2⟩ := tr_bind hr
      cases ht : t.1 <;> rw [ht] at h2 <;> simp only at h2
      case goto l =>
        cases hf : findLabel x l with
        | none => rw [hf] at h2; simp [Tr.run] at h2
        | some rest =>
          rw [hf] at h2
          simp only at h2
          obtain ⟨q, h3, h4⟩ := tr_bind h2
          refine wp_scope_jumps l (fun a w => rest.wp E.P (Exit.noGoto Q) a w) (fun _ _ => 0) hf ?_ ?_
          · refine ih x s t.1 t.2 h1 X mu ka cst act w h hd _ ?_
            intro mu' ka' act' w' h' hd'
            rw [ht]
            refine ⟨rfl, ih rest t.2 q.1 q.2 h3 X mu' ka' cst act' w' h' hd' _ ?_⟩
            intro mu2 ka2 act2 w2 h2' hd2
            cases hq : q.1 <;> rw [hq] at h4 <;> simp only at h4
            case goto l' => simp [Tr.run] at h4
            all_goals (cases base h4; exact hQ mu2 ka2 act2 w2 h2' hd2)
          · intro a w hJ
            refine wp_mono hJ fun e a w he => ?_
            cases e <;> first | exact he | exact he.elim
      all_goals
        cases base h2
        refine wp_scope_straight (ih x s t.1 t.2 h1 X mu ka cst act w h hd _ ?_)
        intro mu' ka' act' w' h' hd'
        rw [ht]
        exact hQ mu' ka' act' w' h' hd'
    case label l =>
      simp only [evCode] at hr
      cases base hr
      exact wp_label (hQ mu ka act w h hd)
    case goto l =>
      simp only [evCode] at hr
      cases base hr
      exact wp_goto (hQ mu ka act w h hd)
    case ret =>
      simp only [evCode] at hr
      cases base hr
      exact wp_ret (hQ mu ka act w h hd)
    all_goals (simp only [evCode] at hr; simp [Tr.run] at hr)
end
end Go.Proofs.YtkdbccloniaogaaS
