/- From a run over data to what is known of a function. Conditions: what functions that are not walked into hand back. -/
import Derived.Test.YtkdbccloniaogaaSimEnd
set_option linter.unusedVariables false
set_option linter.unusedSimpArgs false
namespace Go.Proofs.YtkdbccloniaogaaS
open Go Go.RowKit

/-- What a value says, once the run is over. -/
def pvEnd (m : List (Nat × Ob)) : AV → Option PV
  | .pv p => some p
  | .lit t xs => some (.list t xs)
  | .own id => match findOb id m with
    | some (.row _ t xs) => some (.list t xs)
    | _ => none
  | .fn (.func f) [] [] => some (.fn f)
  | _ => none
def pvsEnd (m : List (Nat × Ob)) : List AV → Option (List PV)
  | [] => some []
  | a :: as => match pvEnd m a, pvsEnd m as with
    | some p, some ps => some (p :: ps)
    | _, _ => none
def aggEnd (m : List (Nat × Ob)) : AV → Option PV
  | .agg cs => match pvsEnd m cs with
    | some ps => some (.agg ps)
    | none => none
  | v => pvEnd m v
def aggsEnd (m : List (Nat × Ob)) : List AV → Option (List PV)
  | [] => some []
  | a :: as => match aggEnd m a, aggsEnd m as with
    | some p, some ps => some (p :: ps)
    | _, _ => none
def resEnd (m : List (Nat × Ob)) (v : AV) : Option Res :=
  match v with
  | .tup vs => match aggsEnd m vs with
    | some ps => some (.pv (.tup ps))
    | none => none
  | .own id => match findOb id m with
    | some (.row 2 t xs) => some (.fresh t xs)
    | some (.row _ t xs) => some (.pv (.list t xs))
    | _ => none
  | v => match aggEnd m v with
    | some p => some (.pv p)
    | none => none
/-- A function from data to data, run to its end. -/
def evRes (E : Env) (n f : Nat) (args : List PV) : Tr Res :=
  match E.P.funcs[f]? with
  | some fn => match fn.body with
    | some c => (evCode E n c { tmps := args.map ofPV1 ++ List.replicate (fn.ntmps - args.length) (.tup []), stack := [], mem := [], cur := 0, ctr := 1, fn := f }).bind fun r =>
      match r.1 with
      | .normal | .ret => (resultsA E fn r.2).bind fun v => match resEnd r.2.mem v with
        | some q => .ret q
        | none => .fail
      | _ => .fail
    | none => .fail
  | none => .fail
section
variable {P : Program} {X : Out} {s : St} {mu : Nat → Option Nat} {ka : Nat → Nat} {cst : List (List Value)} {act : Act} {a : List Value} {w : World} {E : Env}
theorem Rel.drop (h : Rel P X s mu ka cst a w) : Keep w (Smut P X.S0 s.mem mu) w X.S0 := fun b o u hc hs => ⟨hc, fun q => hs (.inl q)⟩
theorem Rel.ownEnd (h : Rel P X s mu ka cst a w) {id m t : Nat} {xs : List (List PV)} {v : Value} (hf : findOb id s.mem = some (.row m t xs)) (hv : VA P (cx P X s.mem mu ka w) (.own id) v) : VP P w X.S0 (.list t xs) v := by
  by_cases hm : m ≤ 1
  · exact VP.keep h.drop _ _ (h.ownList hf hm hv)
  · simp only [VA] at hv
    obtain ⟨t', n, hrt, hv⟩ := hv
    have hrt' : rtOf s.mem id = some (t', n) := hrt
    rw [rtOf_row hf] at hrt'
    cases hrt'
    obtain ⟨m', rfl⟩ : ∃ m', m = m' + 1 := ⟨m - 1, by omega⟩
    simp only [VP]
    rcases hv with ⟨b, hb, rfl⟩ | ⟨hb, hn, A, rfl⟩
    · obtain ⟨h1, h2, h3, vs, h4, h5, h6, h7⟩ := h.rowAt hf hb
      refine ⟨_, _, _, rfl, h3, h1, .inr ⟨b, 0, rfl, fun j u hu => ?_, fun j _ q => ?_⟩, VPss.keep h.drop _ _ h7⟩
      · rw [cell_of_row w b (0 + j) vs t (0, 0) h4, Nat.zero_add]
        have hj : j < _ := (List.getElem?_eq_some_iff.1 hu).1
        rw [List.getElem?_take] at hu
        split at hu
        · simpa using hu
        · cases hu
      · have := X.lt _ _ q
        have := (h.blk id b hb).1
        omega
    · have hx : xs = [] := List.length_eq_zero_iff.1 hn
      subst hx
      exact ⟨A, 0, [], rfl, Nat.le_refl _, (fun e he => by cases he), .inl rfl, by simp [VPss]⟩
theorem Rel.pvEnd (h : Rel P X s mu ka cst a w) {v : AV} {u : Value} {p : PV} (hp : pvEnd s.mem v = some p) (hv : VA P (cx P X s.mem mu ka w) v u) : VP P w X.S0 p u := by
  unfold Go.Proofs.YtkdbccloniaogaaS.pvEnd at hp
  split at hp
  · cases hp
    exact VP.keep h.drop _ _ (va_pv hv)
  · cases hp
    simp only [VA] at hv
    obtain ⟨A, us, rfl, h2, h3, h4⟩ := hv
    simp only [VP]
    exact ⟨A, _, us, rfl, Nat.le_refl _, h2, h3.keep h.drop, VPss.keep h.drop _ _ h4⟩
  · split at hp
    · rename_i hf
      cases hp
      exact h.ownEnd hf hv
    · cases hp
  · cases hp
    simp only [VA, VAs] at hv
    obtain ⟨as, bs, rfl, rfl, rfl⟩ := hv
    simp only [VP]
  · cases hp
theorem Rel.pvsEnd (h : Rel P X s mu ka cst a w) : ∀ {vs : List AV} {us : List Value} {ps : List PV}, pvsEnd s.mem vs = some ps → VAs P (cx P X s.mem mu ka w) vs us → VPs P w X.S0 ps us
  | [], us, ps, hp, hv => by
    simp only [Go.Proofs.YtkdbccloniaogaaS.pvsEnd, Option.some.injEq] at hp
    subst hp
    simpa only [VAs, VPs] using hv
  | v :: vs, us, ps, hp, hv => by
    simp only [Go.Proofs.YtkdbccloniaogaaS.pvsEnd] at hp
    split at hp
    · rename_i p qs h1 h2
      cases hp
      simp only [VAs] at hv
      obtain ⟨x, xs, rfl, h3, h4⟩ := hv
      simp only [VPs]
      exact ⟨x, xs, rfl, h.pvEnd h1 h3, h.pvsEnd h2 h4⟩
    · cases hp
theorem Rel.aggEnd (h : Rel P X s mu ka cst a w) {v : AV} {u : Value} {p : PV} (hp : aggEnd s.mem v = some p) (hv : VA P (cx P X s.mem mu ka w) v u) : VP P w X.S0 p u := by
  unfold Go.Proofs.YtkdbccloniaogaaS.aggEnd at hp
  split at hp
  · split at hp
    · rename_i ps h1
      cases hp
      simp only [VA] at hv
      obtain ⟨vs, rfl, h2⟩ := hv
      simp only [VP]
      exact ⟨vs, rfl, h.pvsEnd h1 h2⟩
    · cases hp
  · exact h.pvEnd hp hv
theorem Rel.aggsEnd (h : Rel P X s mu ka cst a w) : ∀ {vs : List AV} {us : List Value} {ps : List PV}, aggsEnd s.mem vs = some ps → VAs P (cx P X s.mem mu ka w) vs us → VPs P w X.S0 ps us
  | [], us, ps, hp, hv => by
    simp only [Go.Proofs.YtkdbccloniaogaaS.aggsEnd, Option.some.injEq] at hp
    subst hp
    simpa only [VAs, VPs] using hv
  | v :: vs, us, ps, hp, hv => by
    simp only [Go.Proofs.YtkdbccloniaogaaS.aggsEnd] at hp
    split at hp
    · rename_i p qs h1 h2
      cases hp
      simp only [VAs] at hv
      obtain ⟨x, xs, rfl, h3, h4⟩ := hv
      simp only [VPs]
      exact ⟨x, xs, rfl, h.aggEnd h1 h3, h.aggsEnd h2 h4⟩
    · cases hp
theorem Rel.resEnd {w0 : World} (h : Rel P X s mu ka cst a w) (hB : X.B = w0.heap.size) {v : AV} {u : Value} {r : Res} (hp : resEnd s.mem v = some r) (hv : VA P (cx P X s.mem mu ka w) v u) : ResRel P X.S0 w0 w r u := by
  have plain : ∀ {v : AV} {r : Res}, (match Go.Proofs.YtkdbccloniaogaaS.aggEnd s.mem v with
    | some p => some (Res.pv p)
    | none => none) = some r → VA P (cx P X s.mem mu ka w) v u → ResRel P X.S0 w0 w r u := by
    intro v r hp hv
    split at hp
    · rename_i p h1
      cases hp
      exact h.aggEnd h1 hv
    · cases hp
  unfold Go.Proofs.YtkdbccloniaogaaS.resEnd at hp
  split at hp
  · split at hp
    · rename_i ps h1
      cases hp
      simp only [VA] at hv
      obtain ⟨vs, rfl, h2⟩ := hv
      show VP P w X.S0 _ _
      simp only [VP]
      exact ⟨vs, rfl, h.aggsEnd h1 h2⟩
    · cases hp
  · rename_i id
    split at hp
    · rename_i t xs hf
      cases hp
      have hv0 := hv
      simp only [VA] at hv
      obtain ⟨t', n, hrt, hv⟩ := hv
      have hrt' : rtOf s.mem id = some (t', n) := hrt
      rw [rtOf_row hf] at hrt'
      cases hrt'
      rcases hv with ⟨b, hb, rfl⟩ | ⟨hb, hn, A, rfl⟩
      · obtain ⟨h1, h2, h3, vs, h4, h5, h6, h7⟩ := h.rowAt (m := 1) hf hb
        refine ⟨h1, h2, .inl ⟨b, _, rfl, ?_, h3, h5, vs, h4, h6, ?_⟩⟩
        · rw [← hB]
          exact (h.blk id b hb).1
        · refine VPss.keep (fun b' o u hc hs => ⟨hc, fun q => hs ?_⟩) _ _ h7
          rcases q with q | rfl
          · exact .inl q
          · exact .inr ⟨id, _, hf, hb, trivial⟩
      · rcases h.obs id _ hf with ⟨b, hb', _⟩ | ⟨_, m, t1, e, hz⟩
        · rw [show mu id = none from hb] at hb'
          cases hb'
        · cases e
          exact ⟨(fun e he => by cases he), hz, .inr ⟨rfl, A, rfl⟩⟩
    · rename_i hf
      cases hp
      exact h.ownEnd hf hv
    · cases hp
  · exact plain hp hv
theorem run_sound (hE : E.Ok) (hm : E.P.follows .mixedOrders = true) {n f : Nat} {ps : List PV} {r : Res} (hr : (evRes E n f ps).run = some r) {w : World} {S : Nat → Nat → Prop} {vs : List Value} (hS : ∀ b o, S b o → b < w.heap.size) (hv : VPs E.P w S ps vs) :
    Calls E.P f vs.toArray w fun e w' => ∃ v, e = .returned v ∧ Below w.heap.size w w' ∧ ResRel E.P S w w' r v := by
  unfold evRes at hr
  cases hf : E.P.funcs[f]? with
  | none => rw [hf] at hr; simp [Tr.run] at hr
  | some fn =>
    rw [hf] at hr
    simp only at hr
    cases hb : fn.body with
    | none => rw [hb] at hr; simp [Tr.run] at hr
    | some c =>
      rw [hb] at hr
      simp only at hr
      obtain ⟨q, h1, h2⟩ := tr_bind hr
      clear hr
      refine calls_of_wp hf hb ?_
      let X : Out := ⟨w.heap.size, w, S, hS, Nat.le_refl _⟩
      have hS0 : Smut E.P S [] (fun _ => none) = S := by
        funext b o
        apply propext
        refine ⟨fun q => ?_, .inl⟩
        rcases q with q | ⟨id, ob, g, _⟩
        · exact q
        · cases g
      have hrel : Rel E.P X { tmps := ps.map ofPV1 ++ List.replicate (fn.ntmps - ps.length) (.tup []), stack := [], mem := [], cur := 0, ctr := 1, fn := f } (fun _ => none) (fun _ => 0) [] (vs ++ List.replicate (fn.ntmps - vs.length) undef) w := by
        refine ⟨Below.refl _ _, (fun id b q => by cases q), (fun i j b oi oj q => by cases q), (fun id ob q => by cases q), ?_, rfl, (fun i x vs q => by cases q)⟩
        refine VAs.append ?_ ?_
        · refine VAs.of_get (by simp [hv.length]) fun i x u h3 h4 => ?_
          rw [List.getElem?_map] at h3
          obtain ⟨p, hp, rfl⟩ := Option.map_eq_some_iff.1 h3
          obtain ⟨u', h5, h6⟩ := hv.get hp
          rw [h4] at h5
          cases h5
          refine va_of1 ?_
          show VP E.P w (Smut E.P S [] (fun _ => none)) p u
          rw [hS0]
          exact h6
        · rw [hv.length]
          generalize fn.ntmps - ps.length = k
          refine VAs.of_get (by simp) fun i x v h1 h2 => ?_
          rw [List.getElem?_replicate] at h1 h2
          split at h1
          · simp_all
            subst h1
            subst h2
            exact undef_tup
          · cases h1
      refine code_sound hE hm n c _ q.1 q.2 (show _ = some (q.1, q.2) from h1) X (fun _ => none) (fun _ => 0) [] _ w ?_ rfl _ ?_
      · simpa using hrel
      · intro mu' ka' act' w' hrel' hd
        have fin : ((resultsA E fn q.2).bind fun v => match resEnd q.2.mem v with
            | some q => Tr.ret q
            | none => .fail).run = some r → ∃ v, (results fn act'.tmps).run E.P w' = .ok v w' ∧ (∃ v', Ending.returned v = .returned v' ∧ Below w.heap.size w w' ∧ ResRel E.P S w w' r v') := by
          intro h2
          obtain ⟨v, h3, h4⟩ := tr_bind h2
          obtain ⟨u, h5, h6⟩ := results_sound hrel' h3
          refine ⟨u, h5, u, rfl, hrel'.bel, ?_⟩
          cases hq : resEnd q.2.mem v with
          | none => rw [hq] at h4; simp [Tr.run] at h4
          | some r' =>
            rw [hq] at h4
            simp only [Tr.run, Option.some.injEq] at h4
            subst h4
            exact Rel.resEnd (X := X) hrel' rfl hq h6
        cases hq : q.1 <;> rw [hq] at h2 <;> simp only at h2
        · exact ⟨hd, fin h2⟩
        · simp [Tr.run] at h2
        · simp [Tr.run] at h2
        · exact ⟨hd, fin h2⟩
/-- An array of the call's own, as data. -/
def Res.plain : Res → Res
  | .fresh t xs => .pv (.list t xs)
  | r => r
theorem ResRel.plain {S : Nat → Nat → Prop} {w w' : World} (hS : ∀ b o, S b o → b < w.heap.size) {r : Res} {v : Value} (h : ResRel P S w w' r v) : ResRel P S w w' r.plain v := by
  cases r with
  | pv p => exact h
  | fresh t xs =>
    obtain ⟨h1, h2, h3⟩ := h
    show VP P w' S (.list t xs) v
    simp only [VP]
    rcases h3 with ⟨b, k, rfl, hf⟩ | ⟨rfl, A, rfl⟩
    · obtain ⟨vs, g1, g2, g3⟩ := hf.cells
      refine ⟨_, _, _, rfl, hf.le, h1, .inr ⟨b, 0, rfl, fun j u hu => ?_, fun j _ q => ?_⟩, VPss.keep (fun b' o u hc hs => ⟨hc, fun q => hs (.inl q)⟩) _ _ g3⟩
      · rw [cell_of_row w' b (0 + j) vs t (0, 0) g1, Nat.zero_add]
        rw [List.getElem?_take] at hu
        split at hu
        · simpa using hu
        · cases hu
      · have := hS _ _ q
        have := hf.new
        omega
    · exact ⟨A, 0, [], rfl, Nat.le_refl _, (fun e he => by cases he), .inl rfl, by simp [VPss]⟩
/-- Data that some values say. -/
def Meant (P : Program) (ps : List PV) : Prop := ∃ w S vs, VPs P w S ps vs
/-- What is known of a function, out of its runs over data. -/
theorem spec_of {f : Nat} {o : Ora} (n : Nat) (h : ∀ ps, Meant P ps → o.pre ps = true → ∃ (E : Env) (r : Res), E.P = P ∧ E.Ok ∧ (evRes E n f ps).run = some r ∧ (r = o.res ps ∨ r.plain = o.res ps)) (hm : P.follows .mixedOrders = true) : Spec P f o := by
  intro w S ps vs hS hv hp
  obtain ⟨E, r, rfl, hE, hr, hq⟩ := h ps ⟨w, S, vs, hv⟩ hp
  refine Calls.mono (run_sound hE hm hr hS hv) ?_
  rintro e w' ⟨v, h1, h2, h3⟩
  refine ⟨v, h1, h2, ?_⟩
  rcases hq with rfl | hq
  · exact h3
  · rw [← hq]
    exact h3.plain hS
/-- One more function that is known. -/
def Env.add (E : Env) (f : Nat) (o : Ora) : Env := { E with O := fun g => if g = f then some o else E.O g }
end
end Go.Proofs.YtkdbccloniaogaaS
