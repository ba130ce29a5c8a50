/- Calls that are walked into from data alone, within regions that draw their order. Conditions: what functions that are not walked into hand back. -/
import Derived.Test.YtkdbccloniaogaaSimSeq
set_option linter.unusedVariables false
set_option linter.unusedSimpArgs false
namespace Go.Proofs.YtkdbccloniaogaaS
open Go Go.RowKit

theorem findOb_append (i : Nat) (m' : List (Nat × Ob)) : ∀ m : List (Nat × Ob), findOb i (m ++ m') = (findOb i m).or (findOb i m')
  | [] => rfl
  | (j, o) :: m => by
    by_cases e : j = i
    · simp [findOb, e]
    · simp only [List.cons_append, findOb, if_neg e]
      exact findOb_append i m' m
theorem rd_val {α : Type} {v : View} : ∀ {t : Tr α} {a : α}, (Tr.rd t).val v = some a → t.run = some a
  | .ret b, a, h => h
  | .test b x y, a, h => by
    simp only [Tr.rd, Rd.val] at h
    simp only [Tr.run]
    cases b
    · exact rd_val (t := y) h
    · exact rd_val (t := x) h
  | .wait .., a, h => by cases h
  | .fail, a, h => by cases h
theorem fresh_val {α : Type} {v : View} {k : Rd α} {a : α} : ∀ {m : List (Nat × Ob)}, (allFresh m k).val v = some a → k.val v = some a ∧ ∀ x ∈ m, v.fresh x.1 = true
  | [], h => ⟨h, fun x hx => by cases hx⟩
  | y :: m, h => by
    simp only [allFresh, Rd.val] at h
    obtain ⟨h1, h2⟩ := val_guard h
    obtain ⟨h3, h4⟩ := fresh_val h2
    refine ⟨h3, fun x hx => ?_⟩
    rcases List.mem_cons.1 hx with rfl | hx
    · exact h1
    · exact h4 x hx
theorem news_on : ∀ (q m : List (Nat × Ob)), effOn m (q.reverse.map newEff) = q ++ m
  | [], m => rfl
  | x :: q, m => by
    rw [List.reverse_cons, List.map_append, effOn_append, news_on q m]
    rfl
section
variable {P : Program} {X : Out} {s : St} {mu : Nat → Option Nat} {ka : Nat → Nat} {cst : List (List Value)} {act : Act} {a : List Value} {w : World} {E : Env} {fr : Nat} {o : Oper} {p : AV × List Eff} {K : Act → World → Prop} {Q : Exit → Act → World → Prop} {ops : Array Oper}
/-- What a call made, beside what there was. -/
theorem Rel.merge (h : Rel P X s mu ka cst a w) {w' : World} (hb : Below w.heap.size w w') {X2 : Out} {t : St} {mu2 : Nat → Option Nat} {ka2 : Nat → Nat} {b : List Value} (hX : X2.S0 = Smut P X.S0 s.mem mu) (hB : X2.B = w.heap.size) (h2 : Rel P X2 t mu2 ka2 [] b w')
    (hd : ∀ i ob, findOb i t.mem = some ob → findOb i s.mem = none) :
    ∃ mu' ka', (cx P X2 t.mem mu2 ka2 w').Le (cx P X (t.mem ++ s.mem) mu' ka' w') ∧ Rel P X { s with mem := t.mem ++ s.mem } mu' ka' cst a w' := by
  have hlt : ∀ i b ob', mu i = some b → findOb i s.mem = some ob' → live ob' → b < w.heap.size := fun i b ob' h1 h2 h3 => by
    rcases h.obs i ob' h2 with ⟨b', hb', ho'⟩ | ⟨hn, _⟩
    · rw [h1] at hb'; cases hb'; exact live_lt ho' h3
    · rw [h1] at hn; cases hn
  have f1 : ∀ {i ob}, findOb i t.mem = some ob → findOb i (t.mem ++ s.mem) = some ob := fun {i ob} q => by rw [findOb_append, q]; rfl
  have f2 : ∀ {i ob}, findOb i s.mem = some ob → findOb i t.mem = none := fun {i ob} q => by
    cases hq : findOb i t.mem with
    | none => rfl
    | some o' => rw [hd i o' hq] at q; cases q
  have f3 : ∀ {i}, findOb i t.mem = none → findOb i (t.mem ++ s.mem) = findOb i s.mem := fun {i} q => by rw [findOb_append, q]; rfl
  let mu' : Nat → Option Nat := fun i => match findOb i t.mem with | some _ => mu2 i | none => mu i
  let ka' : Nat → Nat := fun i => match findOb i t.mem with | some _ => ka2 i | none => ka i
  have m1 : ∀ {i ob}, findOb i t.mem = some ob → mu' i = mu2 i := fun {i ob} q => by show (match findOb i t.mem with | some _ => mu2 i | none => mu i) = _; rw [q]
  have m2 : ∀ {i}, findOb i t.mem = none → mu' i = mu i := fun {i} q => by show (match findOb i t.mem with | some _ => mu2 i | none => mu i) = _; rw [q]
  have k1 : ∀ {i ob}, findOb i t.mem = some ob → ka' i = ka2 i := fun {i ob} q => by show (match findOb i t.mem with | some _ => ka2 i | none => ka i) = _; rw [q]
  have k2 : ∀ {i}, findOb i t.mem = none → ka' i = ka i := fun {i} q => by show (match findOb i t.mem with | some _ => ka2 i | none => ka i) = _; rw [q]
  have hS : ∀ b1 o, Smut P X.S0 (t.mem ++ s.mem) mu' b1 o → Smut P X.S0 s.mem mu b1 o ∨ ∃ i ob, findOb i t.mem = some ob ∧ mu2 i = some b1 ∧ mutOb P ob o := by
    rintro b1 o (q | ⟨i, oi, g1, g2, g3⟩)
    · exact .inl (.inl q)
    · cases hq : findOb i t.mem with
      | some o' =>
        rw [f1 hq] at g1
        cases g1
        rw [m1 hq] at g2
        exact .inr ⟨i, _, hq, g2, g3⟩
      | none =>
        rw [f3 hq] at g1
        rw [m2 hq] at g2
        exact .inl (.inr ⟨i, oi, g1, g2, g3⟩)
  have hl1 : (cx P X s.mem mu ka w).Le (cx P X (t.mem ++ s.mem) mu' ka' w') := by
    refine ⟨fun b1 o u hc hs => ⟨(hb.cell (World.block_lt_of_cell? _ _ hc)).trans hc, fun q => ?_⟩, fun i b1 q => ?_, fun i x hx => ?_⟩
    · rcases hS b1 o q with q | ⟨i, ob, _, q, _⟩
      · exact hs q
      · have h1 : b1 < w.heap.size := World.block_lt_of_cell? _ _ hc
        have := (h2.blk i b1 q).1
        omega
    · have q' : mu i = some b1 := q
      obtain ⟨_, ob, hob⟩ := h.blk i b1 q'
      show mu' i = some b1
      rw [m2 (f2 hob)]
      exact q'
    · obtain ⟨mm, tt, zs, hx', rfl⟩ := rtOf_some hx
      have e := f2 hx'
      refine ⟨?_, m2 e, k2 e⟩
      show rtOf _ i = _
      unfold rtOf
      rw [f3 e, hx']
  have hl2 : (cx P X2 t.mem mu2 ka2 w').Le (cx P X (t.mem ++ s.mem) mu' ka' w') := by
    refine ⟨fun b1 o u hc hs => ⟨hc, fun q => hs ?_⟩, fun i b1 q => ?_, fun i x hx => ?_⟩
    · rcases hS b1 o q with q | ⟨i, ob, q1, q2, q3⟩
      · refine .inl ?_
        rw [hX]
        exact q
      · exact .inr ⟨i, ob, q1, q2, q3⟩
    · have q' : mu2 i = some b1 := q
      obtain ⟨_, ob, hob⟩ := h2.blk i b1 q'
      show mu' i = some b1
      rw [m1 hob]
      exact q'
    · obtain ⟨mm, tt, zs, hx', rfl⟩ := rtOf_some hx
      refine ⟨?_, m1 hx', k1 hx'⟩
      show rtOf _ i = _
      unfold rtOf
      rw [f1 hx']
  refine ⟨mu', ka', hl2, h.turn hl1 (h.bel.trans (hb.mono h.size)) ?_ ?_ ?_⟩
  · intro i b1 hi
    cases hq : findOb i t.mem with
    | some ob =>
      rw [m1 hq] at hi
      have := (h2.blk i b1 hi).1
      have := h.size
      exact ⟨by omega, ob, f1 hq⟩
    | none =>
      rw [m2 hq] at hi
      obtain ⟨g1, ob, g2⟩ := h.blk i b1 hi
      exact ⟨g1, ob, by rw [f3 hq]; exact g2⟩
  · intro i j b1 oi oj hi hj fi fj li lj
    cases hq : findOb i t.mem with
    | some ob =>
      rw [m1 hq] at hi
      rw [f1 hq] at fi
      cases fi
      have hi1 := (h2.blk i b1 hi).1
      cases hr : findOb j t.mem with
      | some ob' =>
        rw [m1 hr] at hj
        rw [f1 hr] at fj
        cases fj
        exact h2.inj i j b1 _ _ hi hj hq hr li lj
      | none =>
        rw [m2 hr] at hj
        rw [f3 hr] at fj
        have := hlt j b1 oj hj fj lj
        omega
    | none =>
      rw [m2 hq] at hi
      rw [f3 hq] at fi
      cases hr : findOb j t.mem with
      | some ob' =>
        rw [m1 hr] at hj
        have := (h2.blk j b1 hj).1
        have := hlt i b1 oi hi fi li
        omega
      | none =>
        rw [m2 hr] at hj
        rw [f3 hr] at fj
        exact h.inj i j b1 oi oj hi hj fi fj li lj
  · intro i ob hi
    cases hq : findOb i t.mem with
    | some ob' =>
      rw [f1 hq] at hi
      cases hi
      rw [m1 hq, k1 hq]
      rcases h2.obs i _ hq with ⟨b1, hb1, ho⟩ | q
      · exact .inl ⟨b1, hb1, ho.le hl2 fun _ => rfl⟩
      · exact .inr q
    | none =>
      rw [f3 hq] at hi
      rw [m2 hq, k2 hq]
      rcases h.obs i ob hi with ⟨b1, hb1, ho⟩ | q
      · exact .inl ⟨b1, hb1, ho.le hl1 fun hlo => hb.block b1 (hlt i b1 ob hb1 hi hlo)⟩
      · exact .inr q
/-- Where a call begins that is walked into from data alone. -/
theorem iso_rel {S : Nat → Nat → Prop} (hS : ∀ b o, S b o → b < w.heap.size) {ps : List PV} {vs : List Value} (hv : VPs P w S ps vs) (n cur ctr f : Nat) :
    Rel P ⟨w.heap.size, w, S, hS, Nat.le_refl _⟩ { tmps := ps.map ofPV1 ++ List.replicate (n - ps.length) (.tup []), stack := [], mem := [], cur := cur, ctr := ctr, fn := f } (fun _ => none) (fun _ => 0) [] (vs ++ List.replicate (n - vs.length) undef) w := by
  have hS0 : Smut P S [] (fun _ => none) = S := by
    funext b o
    apply propext
    refine ⟨fun q => ?_, .inl⟩
    rcases q with q | ⟨id, ob, g, _⟩
    · exact q
    · cases g
  refine ⟨Below.refl _ _, (fun id b q => by cases q), (fun i j b oi oj q => by cases q), (fun id ob q => by cases q), ?_, rfl, (fun i x vs q => by cases q)⟩
  refine VAs.append ?_ ?_
  · refine VAs.of_get (by simp [hv.length]) fun i x u h3 h4 => ?_
    rw [List.getElem?_map] at h3
    obtain ⟨p, hp, rfl⟩ := Option.map_eq_some_iff.1 h3
    obtain ⟨u', h5, h6⟩ := hv.get hp
    rw [h4] at h5
    cases h5
    refine va_of1 ?_
    show VP P w (Smut P S [] (fun _ => none)) p u
    rw [hS0]
    exact h6
  · rw [hv.length]
    generalize n - ps.length = k
    refine VAs.of_get (by simp) fun i x v h1 h2 => ?_
    rw [List.getElem?_replicate] at h1 h2
    split at h1
    · simp_all
      subst h1
      subst h2
      exact undef_tup
    · cases h1
theorem isoCall_sound (hE : E.Ok) {ec : Code → St → Tr (Ex × St)} (hec : SoundC E ec) (h : Rel E.P X s mu ka cst act.tmps.toList w) {cl : Call} {f ctr : Nat} {vs : List AV} (ho : o.op = .call cl) (hc : cl.callee = .value (.func f))
    (hvs : VAs E.P (cx E.P X s.mem mu ka w) vs (cl.args.map act.eval).toList) (hp : (isoCall E ec ctr f vs).val s.view = some p) (hK : Next E.P X (s.app o.dst p) cst act K) : o.wp E.P act w K Q := by
  unfold isoCall at hp
  split at hp
  · rename_i fn hfn
    split at hp
    · rename_i c hb
      obtain ⟨ps, h1, hp1⟩ := val_bind hp
      obtain ⟨q, h2, hp2⟩ := val_bind hp1
      obtain ⟨hp3, hfr⟩ := fresh_val hp2
      simp only [Rd.val, Option.some.injEq] at hp3
      clear hp hp1 hp2
      subst hp3
      have hrun := rd_val h2
      unfold isoRun at hrun
      obtain ⟨r, h3, h4⟩ := tr_bind hrun
      clear hrun h2
      obtain ⟨g1, g2⟩ := purArgs_sound (s := s) (m0 := s.mem) rfl h (Dem.refl _) h1 hvs
      have hS : ∀ b o, Smut E.P X.S0 (effOn s.mem ps.2) mu b o → b < w.heap.size := fun b o q => g1.rel.mut_lt q
      unfold Oper.wp
      rw [run_call hE ho hc (by rfl : act.eval (.func f) = .func (.func f) #[] #[]) hfn (by rw [hb]; rfl), Oper.upon_enter]
      refine calls_of_wp hfn hb ?_
      have hst := iso_rel hS g2 fn.ntmps ctr (ctr + 1) f
      refine hec c _ r.1 r.2 (show _ = some (r.1, r.2) from h3) ⟨w.heap.size, w, Smut E.P X.S0 (effOn s.mem ps.2) mu, hS, Nat.le_refl _⟩ (fun _ => none) (fun _ => 0) [] _ w ?_ rfl _ ?_
      · simpa using hst
      · intro mu2 ka2 act' w' hrel hd
        have fin : ((resultsA E fn r.2).bind fun v => Tr.ret (v, r.2.mem)).run = some q → ∃ v, (results fn act'.tmps).run E.P w' = .ok v w' ∧ K (act.put o.dst v) w' := by
          intro h4
          obtain ⟨v, h5, h6⟩ := tr_bind h4
          simp only [Tr.run, Option.some.injEq] at h6
          subst h6
          obtain ⟨u, h7, h8⟩ := results_sound hrel h5
          refine ⟨u, h7, ?_⟩
          have hdis : ∀ i ob, findOb i r.2.mem = some ob → findOb i (effOn s.mem ps.2) = none := by
            intro i ob hi
            obtain ⟨x, hx, rfl⟩ := findOb_mem hi
            have hf0 := view_fresh (s := s) rfl (hfr x hx)
            rcases g1.dem x.1 with q | ⟨t', xs', q, _⟩
            · rw [q]; exact hf0
            · rw [hf0] at q; cases q
          obtain ⟨mu', ka', k1, k2⟩ := g1.rel.merge (t := r.2) hrel.bel rfl rfl hrel hdis
          refine hK mu' ka' (act.put o.dst u) w' ?_ (by cases o.dst <;> rfl)
          rw [put_toList, app_eq, effOn_append, news_on]
          exact k2.put o.dst (VA.le k1 _ _ h8)
        cases hq : r.1 <;> rw [hq] at h4 <;> simp only at h4
        · exact ⟨hd, fin h4⟩
        · simp [Tr.run] at h4
        · simp [Tr.run] at h4
        · exact ⟨hd, fin h4⟩
    · simp [Rd.val] at hp
  · simp [Rd.val] at hp
theorem isoOf_some {c : Call} {g : Nat} (h : isoOf E o = some (c, g)) : o.guard = none ∧ o.op = .call c ∧ c.callee = .value (.func g) := by
  unfold isoOf at h
  split at h
  · rename_i cl hg ho
    split at h
    · rename_i g' hc
      split at h
      · cases h
        exact ⟨hg, ho, hc⟩
      · cases h
    · cases h
  · cases h
/-- An operation of a region that draws its order. -/
theorem iso_sound (hE : E.Ok) {ec : Code → St → Tr (Ex × St)} (hec : SoundC E ec) {ctr : Nat} (h : Rel E.P X s mu ka cst act.tmps.toList w) (hp : (isoOp E ec fr ctr ops o).val s.view = some p) (hK : Next E.P X (s.app o.dst p) cst act K) :
    if Region.wanted o (yielded ops act.tmps) then o.wp E.P act w K Q ∨ (o.asks E.P act w ∧ LetsOut Q) else K (act.put o.dst undef) w := by
  unfold isoOp at hp
  split at hp
  · rename_i c g hi
    obtain ⟨hg, ho, hc⟩ := isoOf_some hi
    have : Region.wanted o (yielded ops act.tmps) = true := by simp [Region.wanted, hg]
    rw [this, if_pos rfl]
    obtain ⟨vs, h1, hp1⟩ := val_bind hp
    have hvs := h.opsL h1
    rw [← Array.toList_map] at hvs
    exact .inl (isoCall_sound hE hec h ho hc hvs hp1 hK)
  · exact guarded_sound hE h hp hK
theorem iso_move_val {ec : Code → St → Tr (Ex × St)} {ctr : Nat} (hg : o.guard = none ∨ (∃ b, p.1 = .pv (.bool b))) {t : Nat} (ho : o.op = .move (.tmp t)) (hp : (isoOp E ec fr ctr ops o).val s.view = some p) : p.1 = s.tmps.getD t (.pv .undef) := by
  unfold isoOp at hp
  split at hp
  · rename_i c g hi
    obtain ⟨_, ho', _⟩ := isoOf_some hi
    rw [ho] at ho'
    cases ho'
  · exact move_val hg ho hp
theorem bump_rel (h : Rel P X s mu ka cst a w) : Rel P X (bump E ops s) mu ka cst a w := by
  unfold bump
  split
  · exact ⟨h.bel, h.blk, h.inj, h.obs, h.tms, h.stk⟩
  · exact h
end
end Go.Proofs.YtkdbccloniaogaaS
