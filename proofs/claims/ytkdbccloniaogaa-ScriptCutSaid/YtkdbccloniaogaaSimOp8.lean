/- Functions that are not walked into; each operation of the plainer run beside the model's. Conditions: what such a function hands back (Spec). -/
import Derived.Test.YtkdbccloniaogaaSimOp7
set_option linter.unusedVariables false
set_option linter.unusedSimpArgs false
namespace Go.Proofs.YtkdbccloniaogaaS
open Go Go.RowKit

/-- A slice's array that the call made. -/
structure Fresh (P : Program) (S : Nat → Nat → Prop) (w w' : World) (t b k : Nat) (xs : List (List PV)) : Prop where
  new : w.heap.size ≤ b
  le : xs.length ≤ k
  most : k ≤ maxLen
  cells : ∃ vs, w'.heap[b]? = some (.cells vs t (0, 0)) ∧ vs.size = k * (kinds P t).length ∧ VPss P w' (fun b' o => S b' o ∨ b' = b) xs (vs.toList.take (xs.length * (kinds P t).length))
/-- A result says that. -/
def ResRel (P : Program) (S : Nat → Nat → Prop) (w w' : World) : Res → Value → Prop
  | .pv p, v => VP P w' S p v
  | .fresh t xs, v => (∀ e ∈ xs, cfs (kinds P t) e) ∧ (kinds P t).length = sizeT P t ∧ ((∃ b k, v = .slice (some ⟨b, 0, none⟩) xs.length k ∧ Fresh P S w w' t b k xs) ∨ (xs = [] ∧ ∃ A, v = .slice A 0 0))
/-- What is known of a function: from values that say ps it comes to one that says what 'res' says, and leaves what there was. -/
def Spec (P : Program) (f : Nat) (o : Ora) : Prop :=
  ∀ (w : World) (S : Nat → Nat → Prop) (ps : List PV) (vs : List Value), (∀ b o, S b o → b < w.heap.size) → VPs P w S ps vs → o.pre ps = true →
    Calls P f vs.toArray w fun e w' => ∃ v, e = .returned v ∧ Below w.heap.size w w' ∧ ResRel P S w w' (o.res ps) v
/-- What is known of a method that takes a string's first byte off. -/
def TakSpec (P : Program) (g : Nat) : Prop :=
  ∀ (w : World) (b T : Nat) (vs : Array Value) (s : ByteArray), w.heap[b]? = some (.cells vs T (0, 0)) → vs[0]? = some (.string s) → 0 < s.size →
    Calls P g #[.pointer (some ⟨b, 0, none⟩)] w fun e w' => e = .returned (.int .i64 ((s.get! 0).toNat : Int)) ∧ w' = w.setRow b (splice vs.toList 0 [.string (s.extract 1 s.size)]).toArray
structure Env.Ok (E : Env) : Prop where
  ora : ∀ f o, E.O f = some o → Spec E.P f o
  names : (E.P.funcs.all fun fn => !(fn.name == "runtime.NumGoroutine")) = true
  tak : ∀ g, isTak E g = true → TakSpec E.P g ∧ ∃ fn, E.P.funcs[g]? = some fn ∧ fn.body.isSome = true
section
variable {P : Program} {X : Out} {s : St} {mu : Nat → Option Nat} {ka : Nat → Nat} {cst : List (List Value)} {act : Act} {a : List Value} {w : World} {E : Env} {fr : Nat} {o : Oper} {p : AV × List Eff} {K : Act → World → Prop} {Q : Exit → Act → World → Prop}
theorem va_of1 {c : Cx} {q : PV} {v : Value} (h : VP P c.w c.S q v) : VA P c (ofPV1 q) v := by
  cases q <;> simp only [ofPV1]
  case agg cs =>
    simp only [VP] at h
    obtain ⟨vs, rfl, hv⟩ := h
    simp only [VA]
    exact ⟨vs, rfl, VAs.mapPv hv⟩
  all_goals (simp only [VA]; exact h)
theorem va_of {c : Cx} {q : PV} {v : Value} (h : VP P c.w c.S q v) : VA P c (ofPV q) v := by
  cases q <;> simp only [ofPV]
  case tup cs =>
    simp only [VP] at h
    obtain ⟨vs, rfl, hv⟩ := h
    simp only [VA]
    refine ⟨vs, rfl, VAs.of_get (by simp [hv.length]) fun i a v' h1 h2 => ?_⟩
    rw [List.getElem?_map] at h1
    obtain ⟨p, hp, rfl⟩ := Option.map_eq_some_iff.1 h1
    obtain ⟨v'', h3, h4⟩ := hv.get hp
    rw [h2] at h3; cases h3
    exact va_of1 h4
  all_goals exact va_of1 h
/-- An array that a call made, as a place of one's own. -/
theorem Rel.adopt (h : Rel P X s mu ka cst a w) {w' : World} (hb : Below w.heap.size w w') {id t b k : Nat} {xs : List (List PV)} (hf : findOb id s.mem = none) (hfr : Fresh P (Smut P X.S0 s.mem mu) w w' t b k xs)
    (hc : ∀ e ∈ xs, cfs (kinds P t) e) (hsz : (kinds P t).length = sizeT P t) :
    ∃ mu' ka', mu' id = some b ∧ ka' id = k ∧ (cx P X s.mem mu ka w).Le (cx P X ((id, .row 2 t xs) :: s.mem) mu' ka' w') ∧ Rel P X { s with mem := (id, .row 2 t xs) :: s.mem } mu' ka' cst a w' := by
  have hmu : mu id = none := by
    cases hm : mu id with
    | none => rfl
    | some b => obtain ⟨_, ob', ho⟩ := h.blk id b hm; rw [hf] at ho; cases ho
  have hne : ∀ {i o}, findOb i s.mem = some o → id ≠ i := fun {i o} q e => by subst e; rw [hf] at q; cases q
  have hlt : ∀ i b ob', mu i = some b → findOb i s.mem = some ob' → live ob' → b < w.heap.size := fun i b ob' h1 h2 h3 => by
    rcases h.obs i ob' h2 with ⟨b', hb', ho'⟩ | ⟨hn, _⟩
    · rw [h1] at hb'; cases hb'; exact live_lt ho' h3
    · rw [h1] at hn; cases hn
  have hS : ∀ b1 o, Smut P X.S0 ((id, .row 2 t xs) :: s.mem) (fun i => if i = id then some b else mu i) b1 o → Smut P X.S0 s.mem mu b1 o ∨ b1 = b := by
    rintro b1 o (q | ⟨i, oi, g1, g2, g3⟩)
    · exact .inl (.inl q)
    · by_cases e : i = id
      · subst e
        simp only [if_true] at g2
        cases g2
        exact .inr rfl
      · simp only [if_neg e] at g2
        rw [findOb_cons, if_neg (Ne.symm e)] at g1
        exact .inl (.inr ⟨i, oi, g1, g2, g3⟩)
  refine ⟨fun i => if i = id then some b else mu i, fun i => if i = id then k else ka i, by simp, by simp, ?_⟩
  have hl : (cx P X s.mem mu ka w).Le (cx P X ((id, .row 2 t xs) :: s.mem) (fun i => if i = id then some b else mu i) (fun i => if i = id then k else ka i) w') := by
    refine ⟨fun b1 o u hc hs => ⟨(hb.cell (World.block_lt_of_cell? _ _ hc)).trans hc, fun q => ?_⟩, fun i b1 q => ?_, fun i x hx => ?_⟩
    · rcases hS b1 o q with q | q
      · exact hs q
      · have h1 : b1 < w.heap.size := World.block_lt_of_cell? _ _ hc
        have := hfr.new
        omega
    · show (if i = id then some b else mu i) = some b1
      have q' : mu i = some b1 := q
      rw [if_neg (fun e => by subst e; rw [hmu] at q'; cases q')]
      exact q'
    · obtain ⟨mm, tt, zs, hx', rfl⟩ := rtOf_some hx
      have e := hne hx'
      refine ⟨?_, by show (if i = id then _ else mu i) = mu i; rw [if_neg (Ne.symm e)], by show (if i = id then _ else ka i) = ka i; rw [if_neg (Ne.symm e)]⟩
      show rtOf _ i = _
      unfold rtOf
      rw [findOb_cons, if_neg e, hx']
  refine ⟨hl, h.turn hl (h.bel.trans (hb.mono h.size)) ?_ ?_ ?_⟩
  · intro i b1 hi
    by_cases e : i = id
    · subst e
      simp only [if_true] at hi; cases hi
      exact ⟨Nat.le_trans h.size hfr.new, _, by rw [findOb_cons, if_pos rfl]⟩
    · simp only [if_neg e] at hi
      obtain ⟨g1, o, g2⟩ := h.blk i b1 hi
      exact ⟨g1, o, by rw [findOb_cons, if_neg (Ne.symm e)]; exact g2⟩
  · intro i j b1 oi oj hi hj fi fj li lj
    have hnew := hfr.new
    by_cases e : i = id
    · by_cases e' : j = id
      · rw [e, e']
      · subst e
        simp only [if_true, if_neg e'] at hi hj
        rw [findOb_cons, if_neg (Ne.symm e')] at fj
        have := hlt j b1 oj hj fj lj
        cases hi
        omega
    · by_cases e' : j = id
      · subst e'
        simp only [if_true, if_neg e] at hi hj
        rw [findOb_cons, if_neg (Ne.symm e)] at fi
        have := hlt i b1 oi hi fi li
        cases hj
        omega
      · simp only [if_neg e, if_neg e'] at hi hj
        rw [findOb_cons, if_neg (Ne.symm e)] at fi
        rw [findOb_cons, if_neg (Ne.symm e')] at fj
        exact h.inj i j b1 oi oj hi hj fi fj li lj
  · intro i o hi
    by_cases e : i = id
    · subst e
      rw [findOb_cons, if_pos rfl] at hi
      cases hi
      obtain ⟨vs, v1, v2, v3⟩ := hfr.cells
      refine .inl ⟨b, by simp, hc, hsz, by simpa using hfr.le, vs, v1, by simpa using hfr.most, by simpa using v2, ?_⟩
      exact VPss.keep (fun b1 o u hc' hs => ⟨hc', fun q => hs (hS b1 o q)⟩) _ _ v3
    · rw [findOb_cons, if_neg (Ne.symm e)] at hi
      simp only [if_neg e]
      rcases h.obs i o hi with ⟨b1, hb1, ho⟩ | q
      · exact .inl ⟨b1, hb1, ho.le hl fun hlo => hb.block b1 (hlt i b1 o hb1 hi hlo)⟩
      · exact .inr q
theorem Env.Ok.name (hE : E.Ok) {f : Nat} {fn : Func} (hf : E.P.funcs[f]? = some fn) : (fn.name == "runtime.NumGoroutine") = false := by
  have := Array.all_eq_true_iff_forall_mem.1 hE.names fn (Array.mem_of_getElem? hf)
  simpa using this
/-- A call of a function value. -/
theorem run_call (hE : E.Ok) {cl : Call} {f : Nat} {fn : Func} {first cap : Array Value} {fo : Operand} (ho : o.op = .call cl) (hc : cl.callee = .value fo) (hv : act.eval fo = .func (.func f) first cap) (hf : E.P.funcs[f]? = some fn) (hb : fn.body.isSome = true) :
    (execOp act.eval o).run E.P w = .ok (.enter f (first ++ cl.args.map act.eval ++ cap)) w := by
  have hn := hE.name hf
  have hbn : fn.body.isNone = false := by cases hq : fn.body <;> simp_all
  simp only [execOp, ho, resolve, hc, Deferred.ofValue, hv, Sem.run_bind, Sem.run_pure, Result.andThen_ok, invoke, callFunc, run_program, hf, hn, Bool.false_eq_true, if_false, hbn]
theorem call_sound (hE : E.Ok) (h : Rel E.P X s mu ka cst act.tmps.toList w) {cl : Call} {f : Nat} {first cap : Array Value} {fo : Operand} {vs : List AV} (ho : o.op = .call cl) (hc : cl.callee = .value fo) (hv : act.eval fo = .func (.func f) first cap)
    (hvs : VAs E.P (cx E.P X s.mem mu ka w) vs (first ++ cl.args.map act.eval ++ cap).toList) (hp : (onCall E fr o.dst f vs).val s.view = some p) (hK : Next E.P X (s.app o.dst p) cst act K) : o.wp E.P act w K Q := by
  unfold onCall at hp
  split at hp
  · rename_i oo fn hO hfn
    obtain ⟨hbody, hp0⟩ := val_guard hp
    obtain ⟨ps, h1, hp1⟩ := val_bind hp0
    obtain ⟨hpre, hp2⟩ := val_chk hp1
    clear hp hp0 hp1
    obtain ⟨g1, g2⟩ := purArgs_sound (s := s) (m0 := s.mem) rfl h (Dem.refl _) h1 hvs
    have hspec := hE.ora f oo hO w (Smut E.P X.S0 (effOn s.mem ps.2) mu) ps.1 _ (fun b o q => g1.rel.mut_lt q) g2 hpre
    unfold Oper.wp
    rw [run_call hE ho hc hv hfn hbody, Oper.upon_enter]
    simp only [Array.toArray_toList] at hspec
    refine Calls.mono hspec ?_
    rintro e w' ⟨v, rfl, hbw, hres⟩
    simp only
    generalize hr : oo.res ps.1 = r at hp2 hres
    cases r with
    | pv q =>
      simp only [Rd.val, Option.some.injEq] at hp2
      subst hp2
      obtain ⟨n1, n2⟩ := g1.rel.grow hbw
      refine hK mu ka (act.put o.dst v) w' ?_ (by cases o.dst <;> rfl)
      rw [put_toList, app_eq]
      exact n2.put o.dst (va_of hres)
    | fresh t xs =>
      simp only [Rd.val] at hp2
      obtain ⟨hfr, hp3⟩ := val_guard hp2
      simp only [Rd.val, Option.some.injEq] at hp3
      clear hp2
      subst hp3
      obtain ⟨r1, r2, r3⟩ := hres
      have hf0 := view_fresh (s := s) rfl hfr
      have hf1 : findOb (idOf fr o.dst) (effOn s.mem ps.2) = none := by
        rcases g1.dem (idOf fr o.dst) with q | ⟨t', xs', q, _⟩
        · rw [q]; exact hf0
        · rw [hf0] at q; cases q
      rcases r3 with ⟨b, k, rfl, hfresh⟩ | ⟨rfl, A, rfl⟩
      · obtain ⟨mu', ka', k1, k2, k3, k4⟩ := g1.rel.adopt hbw hf1 hfresh r1 r2
        refine hK mu' ka' (act.put o.dst _) w' ?_ (by cases o.dst <;> rfl)
        rw [put_toList, app_eq, effOn_append]
        exact k4.put o.dst (ownVal k1 k2)
      · obtain ⟨n1, n2⟩ := g1.rel.grow hbw
        obtain ⟨m1, m2, m3⟩ := n2.newNil (id := idOf fr o.dst) (m := 2) (t := t) hf1 r2
        refine hK mu ka (act.put o.dst _) w' ?_ (by cases o.dst <;> rfl)
        rw [put_toList, app_eq, effOn_append]
        exact m3.put o.dst (nilVal m1 A)
  · simp [Rd.val] at hp
theorem take_sound (hE : E.Ok) (h : Rel E.P X s mu ka cst act.tmps.toList w) {cl : Call} {g id : Nat} {first : Array Value} {fo : Operand} (ho : o.op = .call cl) (hc : cl.callee = .value fo) (hv : act.eval fo = .func (.func g) first #[])
    (hvs : VAs E.P (cx E.P X s.mem mu ka w) [.ptr id 0] (first ++ cl.args.map act.eval ++ #[]).toList) (ht : isTak E g = true) (hp : (takeA id).val s.view = some p) (hK : Next E.P X (s.app o.dst p) cst act K) : o.wp E.P act w K Q := by
  obtain ⟨hspec, fn, hfn, hbody⟩ := hE.tak g ht
  unfold takeA at hp
  simp only [Rd.val] at hp
  split at hp
  · rename_i sb hx
    obtain ⟨hpos, hp2⟩ := val_chk hp
    simp only [Rd.val, Option.some.injEq] at hp2
    subst hp2
    have hpos := of_decide_eq_true hpos
    unfold View.rng at hx
    split at hx
    · rename_i cs hf
      split at hx
      · rename_i hfit
        have hf' : findOb id s.mem = some (.box cs) := hf
        have hcs : cs[0]? = some (.pv (.str sb)) := by
          simp only [List.drop_zero, Option.some.injEq] at hx
          have := congrArg (fun l => l[0]?) hx
          simpa using this
        generalize hus : (first ++ cl.args.map act.eval ++ #[]) = us at hvs
        simp only [VAs, VA] at hvs
        obtain ⟨u, us', e1, ⟨b, hb, rfl⟩, rfl⟩ := hvs
        have hus' : us = #[.pointer (some ⟨b, 0, none⟩)] := by
          apply Array.ext'
          rw [e1]
        have hnew : VAs E.P (cx E.P X s.mem mu ka w) [.pv (.str (sb.extract 1 sb.size))] [.string (sb.extract 1 sb.size)] := by
          simp only [VAs, VA, VP]
          exact ⟨_, _, rfl, rfl, rfl⟩
        obtain ⟨T, vs, g1, g2, g3⟩ := h.store hf' hb hfit hnew
        have hb1 : mu id = some b := hb
        have hv0 : vs[0]? = some (.string sb) := by
          rcases h.obs id _ hf' with ⟨b', hb', T', vs', hg', hvs'⟩ | ⟨q, _⟩
          · rw [hb1] at hb'; cases hb'
            have hg2 : w.heap[b]? = some (.cells vs' T' (0, 0)) := hg'
            rw [g1] at hg2
            cases hg2
            obtain ⟨v', h3, h4⟩ := hvs'.get hcs
            simp only [VA, VP] at h4
            subst h4
            simpa using h3
          · rw [hb1] at q; cases q
        have hcall := hspec w b T vs sb g1 hv0 hpos
        unfold Oper.wp
        rw [run_call hE ho hc hv hfn hbody, Oper.upon_enter, hus, hus']
        refine Calls.mono hcall ?_
        rintro e w' ⟨rfl, rfl⟩
        simp only
        have ee : effOn s.mem [.put id 0 [.pv (.str (sb.extract 1 sb.size))]] = setOb id (.box (splice cs 0 [.pv (.str (sb.extract 1 sb.size))])) s.mem := by
          show Eff.on s.mem (.put id 0 [.pv (.str (sb.extract 1 sb.size))]) = _
          simp only [Eff.on, hf']
        refine hK mu ka (act.put o.dst _) _ ?_ (by cases o.dst <;> rfl)
        rw [put_toList, app_eq, ee]
        exact g3.put o.dst (by simp only [VA, VP])
      · cases hx
    · cases hx
  · simp [Rd.val] at hp
theorem builtin_sound (h : Rel E.P X s mu ka cst act.tmps.toList w) {cl : Call} {b : Builtin} {vs : List AV} (ho : o.op = .call cl) (hc : cl.callee = .builtin b)
    (hvs : VAs E.P (cx E.P X s.mem mu ka w) vs (cl.args.map act.eval).toList) (hp : (builtinA E fr o.dst b cl.argTypes.toList vs).val s.view = some p) (hK : Next E.P X (s.app o.dst p) cst act K) : o.wp E.P act w K Q := by
  have exec_ : ∀ {us : List Value} {ts : List Nat}, (cl.args.map act.eval).toList = us → cl.argTypes.toList = ts → execOp act.eval o = (do let d ← (pure { target := .builtin b ts.toArray o.type (cl.args.map fun | .const _ => true | _ => false), args := us.toArray } : Sem Deferred); invoke d.target d.args) := by
    rintro us ts rfl rfl
    simp [execOp, ho, resolve, hc]
    congr 1
    apply Array.ext'
    simp
  unfold builtinA at hp
  split at hp
  · rename_i v
    split at hp
    · rename_i t hts
      simp only [VAs] at hvs
      obtain ⟨u, us, hus, hv, rfl⟩ := hvs
      split at hp
      · rename_i str ht
        obtain rfl := val_okV hp
        have hv' := va_pv hv
        simp only [VP] at hv'
        subst hv'
        refine good_plain (u := .int .i64 str.size) h ?_ (by simp only [VA, VP]) hK
        rw [exec_ hus hts]
        simp [invoke, builtin, Builtin.len_, run_under ht, goInt]
      · rename_i e v' ht
        obtain ⟨y, h1, hp1⟩ := val_bind hp
        obtain rfl := val_okV hp1
        obtain ⟨A, k, ws, rfl, _⟩ := elems_sound h h1 hv
        refine good_plain (u := .int .i64 y.2.length) h ?_ (by simp only [VA, VP]) hK
        rw [exec_ hus hts]
        simp [invoke, builtin, Builtin.len_, run_under ht, goInt]
      · simp [Rd.val] at hp
    · simp [Rd.val] at hp
  · rename_i sv xv
    split at hp
    · rename_i t u hts
      split at hp
      · rename_i e e2 he he2
        simp only [VAs] at hvs
        obtain ⟨u1, us1, hus, hv1, u2, us2, rfl, hv2, rfl⟩ := hvs
        obtain ⟨v, w', mu', ka', r1, r2, r3⟩ := append_sound (ty := o.type) h (elemT_slice he) (elemT_slice he2) hp hv1 hv2
        obtain ⟨p1, p2⟩ := p
        rw [app_eq] at hK
        refine good_value (u := v) ?_ r2 r3 hK
        rw [exec_ hus hts]
        simp only [Sem.run_bind, Sem.run_pure, Result.andThen_ok, invoke, builtin, r1]
      · simp [Rd.val] at hp
    · simp [Rd.val] at hp
  · rename_i k x j y
    obtain ⟨hk, hp1⟩ := val_guard hp
    obtain rfl := val_okV hp1
    obtain rfl := of_decide_eq_true hk
    simp only [VAs, VA, VP] at hvs
    obtain ⟨_, _, hus, rfl, _, _, rfl, rfl, rfl⟩ := hvs
    refine good_plain (u := .int k (if x < y then y else x)) h ?_ (by simp only [VA, VP]) hK
    rw [exec_ hus rfl]
    simp [invoke, builtin, run_max_int2]
  · rename_i k x j y
    obtain ⟨hk, hp1⟩ := val_guard hp
    obtain rfl := val_okV hp1
    obtain rfl := of_decide_eq_true hk
    simp only [VAs, VA, VP] at hvs
    obtain ⟨_, _, hus, rfl, _, _, rfl, rfl, rfl⟩ := hvs
    refine good_plain (u := .int k (if y < x then y else x)) h ?_ (by simp only [VA, VP]) hK
    rw [exec_ hus rfl]
    simp [invoke, builtin, run_min_int2]
  · simp [Rd.val] at hp
theorem sound_call (hE : E.Ok) (h : Rel E.P X s mu ka cst act.tmps.toList w) {cl : Call} (ho : o.op = .call cl) (hp : (evOp E fr o).val s.view = some p) (hK : Next E.P X (s.app o.dst p) cst act K) : o.wp E.P act w K Q := by
  simp only [evOp, ho] at hp
  obtain ⟨vs, h1, hp1⟩ := val_bind hp
  clear hp
  have hvs := h.opsL h1
  rw [← Array.toList_map] at hvs
  split at hp1
  · rename_i b hc
    exact builtin_sound h ho hc hvs hp1 hK
  · rename_i f hc
    obtain ⟨fv, h2, hp2⟩ := val_bind hp1
    clear hp1
    have hfv := h.op h2
    split at hp2
    · rename_i g first
      simp only [VA] at hfv
      obtain ⟨as, bs, e, h3, h4⟩ := hfv
      simp only [VAs] at h4
      subst h4
      split at hp2
      · rename_i id ht
        exact take_sound hE h ho hc e (by simpa using h3.append hvs) ht hp2 hK
      · refine call_sound hE h ho hc e ?_ hp2 hK
        simpa using h3.append hvs
    · rename_i g
      have hfv' := va_pv hfv
      simp only [VP] at hfv'
      refine call_sound hE h ho hc hfv' ?_ hp2 hK
      simpa using hvs
    · simp [Rd.val] at hp2
  · simp [Rd.val] at hp1
/-- Each operation. -/
theorem op_sound (hE : E.Ok) (h : Rel E.P X s mu ka cst act.tmps.toList w) (hp : (evOp E fr o).val s.view = some p) (hK : Next E.P X (s.app o.dst p) cst act K) : o.wp E.P act w K Q := by
  cases ho : o.op
  case move x => exact sound_move h (.inl ho) hp hK
  case assign x => exact sound_move h (.inr ho) hp hK
  case pick c x y => exact sound_pick h ho hp hK
  case alloc t => exact sound_alloc h ho hp hK
  case box t x => exact sound_box h ho hp hK
  case build t ps => exact sound_build h ho hp hK
  case buildSlice t n ps => exact sound_buildSlice h ho hp hK
  case load t x => exact sound_load h ho hp hK
  case store t x y => exact sound_store h ho hp hK
  case nilCheck x => exact sound_nilCheck h ho hp hK
  case binOp op t x y t2 => exact sound_binOp h ho hp hK
  case unOp op t x => exact sound_unOp h ho hp hK
  case convert t d x => exact sound_convert h ho hp hK
  case makeInterface t x => exact sound_makeInterface h ho hp hK
  case makeFunc f x y => exact sound_makeFunc h ho hp hK
  case makeSlice t x y => exact sound_makeSlice h ho hp hK
  case slice t x lo hi mx => exact sound_slice h ho hp hK
  case fieldAddr t x f => exact sound_fieldAddr h ho hp hK
  case field t x f => exact sound_field h ho hp hK
  case indexAddr t x y => exact sound_indexAddr h ho hp hK
  case index t x y => exact sound_index h ho hp hK
  case extract x k => exact sound_extract h ho hp hK
  case call cl => exact sound_call hE h ho hp hK
  all_goals (simp only [evOp, ho, Rd.val] at hp; cases hp)
end
end Go.Proofs.YtkdbccloniaogaaS
