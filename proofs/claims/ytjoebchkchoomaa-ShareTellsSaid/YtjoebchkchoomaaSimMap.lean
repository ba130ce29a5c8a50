/- A function that makes a map of a few numbers, looks one up, and goes on. Conditions: what functions that are not walked into hand back. -/
import Derived.Test.YtjoebchkchoomaaSimRow
import Derived.Test.YtjoebchkchoomaaSimGrow
import Derived.Carry
import Derived.MapKept
set_option linter.unusedVariables false
set_option linter.unusedSimpArgs false
namespace Go.Proofs.YtjoebchkchoomaaS
open Go Go.RowKit

/-- Operations that hand back a value and turn nothing. -/
def still : Op → Bool
  | .load .. | .makeFunc .. | .move _ | .assign _ | .fieldAddr .. | .extract .. => true
  | _ => false
def mapT (P : Program) (t : Nat) : Bool :=
  match P.underlying t with
  | some (.map k e) => match P.underlying k, P.underlying e with
    | some (.int .i64), some (.func ..) => match P.info? e with
      | some d => match d.zero with
        | some .nilFunc => true
        | _ => false
      | none => false
    | _, _ => false
  | _ => false
def seek (n : Int) : List (Int × AV) → Tr (AV × Bool)
  | [] => .ret (.pv .nilfn, false)
  | x :: l => .test (n == x.1) (.ret (x.2, true)) (seek n l)
def drop1 (dst : Option Nat) (hd : List Nat) : List Nat := match dst with
  | some d => hd.filter fun m => !(m == d)
  | none => hd
/-- A region's operations beside a map: the state, what is in the map, and which temporaries hold it. -/
def evM (E : Env) (ops : Array Oper) : List Nat → St → List (Int × AV) → List Nat → Tr (St × List (Int × AV) × List Nat)
  | [], s, kv, hd => .ret (s, kv, hd)
  | i :: l, s, kv, hd => match ops[i]? with
    | none => .fail
    | some o => match o.guard with
      | some _ => .fail
      | none =>
        let plain : Tr (St × List (Int × AV) × List Nat) := match still o.op with
          | false => .fail
          | true => ((evOp E s.cur o).run s.view []).bind fun r => match r.1.2 with
            | [] => evM E ops l (s.put o.dst r.1.1) kv (drop1 o.dst hd)
            | _ :: _ => .fail
        match o.op with
        | .insert t (.tmp m) (.const (.int .i64 k)) x => match hd.contains m && (mapT E.P t && kv.all fun y => !(y.1 == k)) with
          | true => ((rdO x).run s.view []).bind fun v => evM E ops l (s.put o.dst (.tup [])) (kv ++ [(k, v.1)]) (drop1 o.dst hd)
          | false => .fail
        | .lookup t (.tmp m) x true => match hd.contains m && mapT E.P t with
          | true => ((rdO x).run s.view []).bind fun v => match v.1 with
            | .pv (.int .i64 n) => (seek n kv).bind fun r => evM E ops l (s.put o.dst (.tup [r.1, .pv (.bool r.2)])) kv (drop1 o.dst hd)
            | _ => .fail
          | false => .fail
        | .move (.tmp m) => match hd.contains m, o.dst with
          | true, some d => match decide (d < s.tmps.length) with
            | true => evM E ops l (s.put (some d) (.pv .undef)) kv (d :: drop1 (some d) hd)
            | false => .fail
          | true, none => .fail
          | false, _ => plain
        | .assign (.tmp m) => match hd.contains m, o.dst with
          | true, some d => match decide (d < s.tmps.length) with
            | true => evM E ops l (s.put (some d) (.pv .undef)) kv (d :: drop1 (some d) hd)
            | false => .fail
          | true, none => .fail
          | false, _ => plain
        | _ => plain
/-- A region that begins with a new map. -/
def evMake (E : Env) (ops : Array Oper) (s : St) : Tr (St × List (Int × AV) × List Nat) :=
  match ops[0]? with
  | some o => match o.guard, o.op, o.dst with
    | none, .makeMap t none, some d => match decide (d < s.tmps.length) with
      | true => evM E ops ((List.range ops.size).drop 1) (s.put (some d) (.pv .undef)) [] [d]
      | false => .fail
    | _, _, _ => .fail
  | none => .fail
def evResM (E : Env) (n f : Nat) (args : List PV) : Tr Res :=
  match E.P.funcs[f]? with
  | some fn => match fn.body with
    | some (.seq a (.seq b (.seq (.region _ m false) (.seq (.region _ l false) rest)))) =>
      (evCode E n a { tmps := args.map ofPV1 ++ List.replicate (fn.ntmps - args.length) (.tup []), stack := [], mem := [], cur := 0, ctr := 1, fn := f }).bind fun ra => match ra.1 with
        | .normal => (evCode E n b ra.2).bind fun rb => match rb.1 with
          | .normal => (evMake E m rb.2).bind fun x => (evM E l (List.range l.size) x.1 x.2.1 x.2.2).bind fun y => evRest E n fn rest y.1
          | _ => .fail
        | _ => .fail
    | _ => .fail
  | none => .fail

section
variable {P : Program} {X : Out} {s : St} {mu : Nat → Option Nat} {ka : Nat → Nat} {cst : List (List Value)} {act : Act} {a : List Value} {w : World} {E : Env} {fr : Nat} {o : Oper} {p : AV × List Eff} {K : Act → World → Prop} {Q : Exit → Act → World → Prop} {ops : Array Oper}
/-- What is in a map. -/
def Ents (P : Program) (c : Cx) : List (Int × AV) → List MapEntry → Prop
  | [], es => es = []
  | x :: kv, es => ∃ e l, es = e :: l ∧ e.key = .int .i64 x.1 ∧ VA P c x.2 e.val ∧ Ents P c kv l
theorem Ents.le {c c' : Cx} (k : c.Le c') : ∀ {kv : List (Int × AV)} {es : List MapEntry}, Ents P c kv es → Ents P c' kv es
  | [], _, h => h
  | x :: kv, _, h => by
    obtain ⟨e, l, rfl, h1, h2, h3⟩ := h
    exact ⟨e, l, rfl, h1, VA.le k _ _ h2, h3.le k⟩
theorem Ents.snoc {c : Cx} {k : Int} {v : AV} {e : MapEntry} (hk : e.key = .int .i64 k) (hv : VA P c v e.val) : ∀ {kv : List (Int × AV)} {es : List MapEntry}, Ents P c kv es → Ents P c (kv ++ [(k, v)]) (es ++ [e])
  | [], _, h => by
    have h' : _ = [] := h
    subst h'
    exact ⟨e, [], rfl, hk, hv, rfl⟩
  | x :: kv, _, h => by
    obtain ⟨e', l, rfl, h1, h2, h3⟩ := h
    exact ⟨e', l ++ [e], rfl, h1, h2, h3.snoc hk hv⟩
theorem Ents.miss {c : Cx} {k : Int} : ∀ {kv : List (Int × AV)} {es : List MapEntry} (i : Nat), Ents P c kv es → (kv.all fun y => !(y.1 == k)) = true → Instr.findNow (.int .i64) (.int .i64 k) es i = some none
  | [], _, i, h, _ => by
    have h' : _ = [] := h
    subst h'
    rfl
  | x :: kv, _, i, h, ha => by
    obtain ⟨e, l, rfl, h1, h2, h3⟩ := h
    simp only [List.all_cons, Bool.and_eq_true, Bool.not_eq_true', beq_eq_false_iff_ne] at ha
    have hb : (k == x.1) = false := by simpa using fun q => ha.1 q.symm
    simp only [Instr.findNow, h1, Instr.sameNow, if_true, hb]
    exact h3.miss (i + 1) (by simpa using ha.2)
theorem Ents.seek {c : Cx} {n : Int} : ∀ {kv : List (Int × AV)} {es : List MapEntry} {r : AV × Bool} (i : Nat), Ents P c kv es → (Go.Proofs.YtjoebchkchoomaaS.seek n kv).run = some r →
    (r = (.pv .nilfn, false) ∧ Instr.findNow (.int .i64) (.int .i64 n) es i = some none) ∨ ∃ j v, r.2 = true ∧ VA P c r.1 v ∧ Instr.findNow (.int .i64) (.int .i64 n) es i = some (some (j, v))
  | [], _, r, i, h, hr => by
    have h' : _ = [] := h
    subst h'
    simp only [Go.Proofs.YtjoebchkchoomaaS.seek, Tr.run, Option.some.injEq] at hr
    exact .inl ⟨hr.symm, rfl⟩
  | x :: kv, _, r, i, h, hr => by
    obtain ⟨e, l, rfl, h1, h2, h3⟩ := h
    simp only [Go.Proofs.YtjoebchkchoomaaS.seek, Tr.run] at hr
    simp only [Instr.findNow, h1, Instr.sameNow, if_true]
    cases hb : (n == x.1) with
    | true =>
      rw [hb] at hr
      simp only [cond_true, Option.some.injEq] at hr
      subst hr
      exact .inr ⟨i, e.val, rfl, h2, rfl⟩
    | false =>
      rw [hb] at hr
      exact h3.seek (i + 1) hr
/-- A map of the function's own, that no place names. -/
structure MapAt (P : Program) (X : Out) (s : St) (mu : Nat → Option Nat) (ka : Nat → Nat) (act : Act) (w : World) (b : Nat) (kv : List (Int × AV)) (hd : List Nat) : Prop where
  low : X.B ≤ b
  off : ∀ id ob, mu id = some b → findOb id s.mem = some ob → ¬ live ob
  at_ : ∃ es clock, w.heap[b]? = some (.map es clock) ∧ Ents P (cx P X s.mem mu ka w) kv es.toList
  held : ∀ m ∈ hd, act.eval (.tmp m) = .map (some b)
theorem eval_put (act : Act) (d : Nat) (u : Value) (m : Nat) : (act.put (some d) u).eval (.tmp m) = if d = m ∧ d < act.tmps.size then u else act.eval (.tmp m) := by
  simp only [eval_tmp, Act.put]
  by_cases e : d = m
  · subst e
    by_cases h : d < act.tmps.size
    · simp [h]
    · simp [h]
  · simp [e]
theorem MapAt.put {b : Nat} {kv : List (Int × AV)} {hd : List Nat} (h : MapAt P X s mu ka act w b kv hd) (dst : Option Nat) (u : Value) (v : AV) : MapAt P X (s.put dst v) mu ka (act.put dst u) w b kv (drop1 dst hd) := by
  have e : (s.put dst v).mem = s.mem := by cases dst <;> rfl
  refine ⟨h.low, by rw [e]; exact h.off, by rw [e]; exact h.at_, fun m hm => ?_⟩
  cases dst with
  | none => exact h.held m hm
  | some d =>
    have hm' := List.mem_filter.1 hm
    have hne : ¬ d = m := by
      have := hm'.2
      simp at this
      exact fun q => this q.symm
    rw [eval_put, if_neg (fun q => hne q.1)]
    exact h.held m hm'.1
theorem MapAt.hold {b : Nat} {kv : List (Int × AV)} {hd : List Nat} {d : Nat} {v : AV} (h : MapAt P X s mu ka act w b kv hd) (hl : d < act.tmps.size) : MapAt P X (s.put (some d) v) mu ka (act.put (some d) (.map (some b))) w b kv (d :: drop1 (some d) hd) := by
  have h1 := h.put (some d) (.map (some b)) v
  refine ⟨h1.low, h1.off, h1.at_, fun m hm => ?_⟩
  rcases List.mem_cons.1 hm with rfl | hm
  · rw [eval_put, if_pos ⟨rfl, hl⟩]
  · exact h1.held m hm
/-- A map turns, and nothing else. -/
theorem Rel.remap (h : Rel P X s mu ka cst a w) {b : Nat} {es : Array MapEntry} {clock : Nat} (hb : w.heap[b]? = some (.map es clock)) (hlow : X.B ≤ b) (hoff : ∀ id ob, mu id = some b → findOb id s.mem = some ob → ¬ live ob) (es' : Array MapEntry) (clock' : Nat) :
    (cx P X s.mem mu ka w).Le (cx P X s.mem mu ka { w with heap := w.heap.setIfInBounds b (.map es' clock') }) ∧ Rel P X s mu ka cst a { w with heap := w.heap.setIfInBounds b (.map es' clock') } := by
  obtain ⟨g1, g2⟩ := MapKept.heap_set (o' := .map es' clock') hb
  have hl : (cx P X s.mem mu ka w).Le (cx P X s.mem mu ka { w with heap := w.heap.setIfInBounds b (.map es' clock') }) := by
    refine ⟨fun b1 o u hc hs => ⟨?_, hs⟩, fun i x q => q, fun i x q => ⟨q, rfl, rfl⟩⟩
    have hne : b1 ≠ b := by
      rintro rfl
      have hc' : w.cell? ⟨b1, o, none⟩ = some u := hc
      unfold World.cell? at hc'
      rw [hb] at hc'
      cases hc'
    have := World.cell?_of_block (w := w) (w' := { w with heap := w.heap.setIfInBounds b (.map es' clock') }) (a := ⟨b1, o, none⟩) (g2 b1 hne)
    exact this.trans hc
  refine ⟨hl, h.turn hl ?_ h.blk h.inj ?_⟩
  · have hb' := h.bel
    refine ⟨hb'.os, hb'.tape, hb'.output, ?_, fun k hk => ?_⟩
    · show X.w0.heap.size ≤ (w.heap.setIfInBounds b (.map es' clock')).size
      rw [Array.size_setIfInBounds]
      exact hb'.size
    · exact (g2 k (by omega)).trans (hb'.block k hk)
  · intro i ob hi
    rcases h.obs i ob hi with ⟨b1, hb1, ho⟩ | q
    · refine .inl ⟨b1, hb1, ho.le hl fun hlive => g2 b1 ?_⟩
      rintro rfl
      exact hoff i ob hb1 hi hlive
    · exact .inr q
/-- An operation that hands back a value and turns nothing. -/
theorem still_sound (h : Rel E.P X s mu ka cst act.tmps.toList w) (hs : still o.op = true) {r : AV} (hp : (evOp E fr o).val s.view = some (r, [])) : ∃ u, (execOp act.eval o).run E.P w = .ok (.value u) w ∧ VA E.P (cx E.P X s.mem mu ka w) r u := by
  cases ho : o.op <;> rw [ho] at hs <;> simp only [still, Bool.false_eq_true] at hs
  case move x =>
    simp only [evOp, ho] at hp
    obtain ⟨v, h1, h2⟩ := val_bind hp
    cases val_okV h2
    exact ⟨_, by simp [execOp, ho], h.op h1⟩
  case assign x =>
    simp only [evOp, ho] at hp
    obtain ⟨v, h1, h2⟩ := val_bind hp
    cases val_okV h2
    exact ⟨_, by simp [execOp, ho], h.op h1⟩
  case load t x =>
    simp only [evOp, ho] at hp
    obtain ⟨v, h1, hp⟩ := val_bind hp
    obtain ⟨g1, u, g2, g3⟩ := load_sound h hp (h.op h1)
    exact ⟨u, by simp [execOp, ho, g2], g3⟩
  case makeFunc f x y =>
    simp only [evOp, ho] at hp
    obtain ⟨a, h1, hp⟩ := val_bind hp
    obtain ⟨b, h2, hp⟩ := val_bind hp
    cases val_okV hp
    refine ⟨.func f (x.map act.eval) (y.map act.eval), by simp [execOp, ho, Instr.makeFunc], ?_⟩
    simp only [VA]
    refine ⟨_, _, ?_, h.opsL h1, h.opsL h2⟩
    congr 1 <;> (apply Array.ext'; simp)
  case extract x k =>
    simp only [evOp, ho] at hp
    obtain ⟨v, h1, hp⟩ := val_bind hp
    split at hp
    · rename_i vs
      split at hp
      · rename_i v hv
        cases val_okV hp
        have hx := h.op h1
        simp only [VA] at hx
        obtain ⟨us, hu, hvs⟩ := hx
        obtain ⟨u, hu1, hu2⟩ := hvs.get hv
        exact ⟨u, by simp [execOp, ho, hu, Instr.extract, hu1], hu2⟩
      · simp [Rd.val] at hp
    · simp [Rd.val] at hp
  case fieldAddr t x f =>
    simp only [evOp, ho] at hp
    obtain ⟨v, h1, hp⟩ := val_bind hp
    split at hp
    · rename_i off ft hft
      obtain ⟨hz, hp⟩ := val_guard hp
      split at hp
      · rename_i v' hv'
        cases val_okV hp
        have hx := h.op h1
        unfold fieldT at hft
        split at hft
        · rename_i fs hfs
          split at hft
          · rename_i fd hfd
            cases hft
            have hz' : sizeT E.P fd.type ≠ 0 := by simpa using hz
            obtain ⟨i, hi⟩ : ∃ i, E.P.info? fd.type = some i := by
              cases hq : E.P.info? fd.type with
              | none => simp [sizeT, hq] at hz'
              | some i => exact ⟨i, rfl⟩
            have run_ : ∀ {b o1 : Nat}, act.eval x = .pointer (some ⟨b, o1, none⟩) → (execOp act.eval o).run E.P w = .ok (.value (.pointer (some ⟨b, o1 + fd.offset, none⟩))) w := by
              intro b o1 e
              simp [execOp, ho, Instr.fieldAt, run_under hfs, hfd, e, Instr.sureAddr, fieldPlace, run_size hi, hz', Addr.add_mid]
            cases v <;> simp only [fieldA, Option.some.injEq, reduceCtorEq] at hv'
            case ptr id o1 =>
              subst hv'
              simp only [VA] at hx
              obtain ⟨b, hb, hx⟩ := hx
              exact ⟨_, run_ hx, by simp only [VA]; exact ⟨b, hb, rfl⟩⟩
            case rpt id i o1 =>
              subst hv'
              simp only [VA] at hx
              obtain ⟨b, t', n, hb, hrt, hi, hx⟩ := hx
              exact ⟨_, run_ hx, by simp only [VA]; exact ⟨b, t', n, hb, hrt, hi, by rw [Nat.add_assoc]⟩⟩
            case ept t' xs i o1 =>
              subst hv'
              simp only [VA] at hx
              obtain ⟨b, o0, us, g1, g2, g3, g4, hx⟩ := hx
              exact ⟨_, run_ hx, by simp only [VA]; exact ⟨b, o0, us, g1, g2, g3, g4, by rw [Nat.add_assoc]⟩⟩
          · cases hft
        · cases hft
      · simp [Rd.val] at hp
    · simp [Rd.val] at hp
theorem mapT_of {t : Nat} (h : mapT P t = true) : ∃ k e d, P.underlying t = some (.map k e) ∧ P.underlying k = some (.int .i64) ∧ (P.info? e) = some d ∧ d.zero = some .nilFunc := by
  unfold mapT at h
  split at h
  · rename_i k e ht
    split at h
    · rename_i hk he
      split at h
      · rename_i d hd
        split at h
        · rename_i hz
          exact ⟨k, e, d, ht, hk, hd, hz⟩
        · cases h
      · cases h
    · cases h
  · cases h
theorem run_insert {t b : Nat} {es : Array MapEntry} {clock : Nat} {n : Int} {val : Value} (hm : mapT P t = true) (hb : w.heap[b]? = some (.map es clock)) (hf : Instr.findNow (.int .i64) (.int .i64 n) es.toList 0 = some none) :
    (Instr.mapUpdate t (.map (some b)) (.int .i64 n) val).run P w = .ok () { w with heap := w.heap.setIfInBounds b (.map (es.push { key := .int .i64 n, val := val, born := clock }) (clock + 1)) } := by
  obtain ⟨k, e, d, h1, h2, _, _⟩ := mapT_of hm
  have hc : (Instr.checkKey false 10000 k (.int .i64 n)).run P w = .ok () w := MapKept.run_checkKey h2 (by simp [MapKept.IsKey]) false 9999
  simp [Instr.mapUpdate, run_underlying h1, MapKept.run_getObj_map hb, hc, MapKept.run_findKey h2 hf, MapKept.run_setObj_map _ hb, Result.andThen]
theorem run_seek {t b : Nat} {es : Array MapEntry} {clock : Nat} {n : Int} {r : Option (Nat × Value)} (hm : mapT P t = true) (hb : w.heap[b]? = some (.map es clock)) (hf : Instr.findNow (.int .i64) (.int .i64 n) es.toList 0 = some r) :
    (Instr.lookup t (.map (some b)) (.int .i64 n) true).run P w = .ok (.tuple #[(r.map (·.2)).getD .nilFunc, .bool r.isSome]) w := by
  obtain ⟨k, e, d, h1, h2, h3, h4⟩ := mapT_of hm
  have hc : (Instr.checkKey es.isEmpty 10000 k (.int .i64 n)).run P w = .ok () w := MapKept.run_checkKey h2 (by simp [MapKept.IsKey]) _ 9999
  have hz : (zeroValue e).run P w = .ok .nilFunc w := by
    simp [zeroValue, typeInfo, h3, h4, Result.andThen]
  cases r with
  | none => simp [Instr.lookup, run_underlying h1, MapKept.run_getObj_map hb, hc, MapKept.run_findKey h2 hf, hz, Result.andThen]
  | some x => simp [Instr.lookup, run_underlying h1, MapKept.run_getObj_map hb, hc, MapKept.run_findKey h2 hf, Result.andThen]
end
end Go.Proofs.YtjoebchkchoomaaS
