/- Variables: made, read, written; fields and elements of what lies in memory. Conditions: none. -/
import Derived.Test.YtkdbccloniaogaaSimOp2
set_option linter.unusedVariables false
set_option linter.unusedSimpArgs false
namespace Go.Proofs.YtkdbccloniaogaaS
open Go Go.RowKit

theorem Addr.add_lit0 (b o n : Nat) : (⟨b, o, none⟩ : Addr).add n = ⟨b, o + n, none⟩ := Addr.add_mid b o n
theorem one_cells {u : Value} (h : u.oneCell' = true) : u.cells = #[u] := by
  cases u <;> simp_all [Value.oneCell', Value.cells]
section
variable {P : Program} {c : Cx} {w : World}
theorem cells_rel {v : AV} {u : Value} (h : VA P c v u) (ho : v.cells.all AV.one = true) : VAs P c v.cells u.cells.toList ∧ u.cells.all (·.oneCell') = true := by
  have single : ∀ {v : AV}, v.cells = [v] → VA P c v u → v.one = true → VAs P c v.cells u.cells.toList ∧ u.cells.all (·.oneCell') = true := by
    intro v hc hv h1
    have hu := VA.one hv h1
    rw [hc, one_cells hu]
    refine ⟨?_, by simp [hu]⟩
    simp only [VAs]
    exact ⟨u, [], rfl, hv, rfl⟩
  cases v with
  | agg cs =>
    simp only [VA] at h
    obtain ⟨vs, rfl, hvs⟩ := h
    refine ⟨hvs, ?_⟩
    have ho' : cs.all AV.one = true := ho
    simp only [Value.cells, List.all_toArray]
    rw [List.all_eq_true]
    intro x hx
    obtain ⟨i, hi, rfl⟩ := List.getElem_of_mem hx
    have hi' : i < cs.length := by rw [← hvs.length]; exact hi
    obtain ⟨y, hy1, hy2⟩ := hvs.get (i := i) (List.getElem?_eq_getElem hi')
    rw [List.getElem?_eq_getElem hi] at hy1
    cases hy1
    exact VA.one hy2 (List.all_eq_true.1 ho' _ (List.getElem_mem hi'))
  | pv p => exact single rfl h (by simpa [AV.cells] using ho)
  | lit t xs => exact single rfl h rfl
  | ptr id off => exact single rfl h rfl
  | own id => exact single rfl h rfl
  | rpt id i off => exact single rfl h rfl
  | ept t xs i off => exact single rfl h rfl
  | fn f a b => exact single rfl h rfl
  | iface t a => exact single rfl h rfl
  | tup vs => simp [AV.cells, AV.one] at ho
theorem run_load_agg {t : Nat} {d : TypeDesc} {b o : Nat} {us : List Value} (hu : P.underlying t = some d) (ha : isAggT P t = true) (hr : w.rangeAt b o us) (hl : us.length = sizeT P t) :
    (loadVar t ⟨b, o, none⟩).run P w = .ok (.agg us.toArray) w := by
  obtain ⟨i, hi⟩ := info_of_under hu
  have hc := run_loadCells_list (P := P) w ⟨b, o, none⟩ us (fun j v hv => by rw [Addr.add_mid]; exact hr j v hv)
  rw [hl] at hc
  simp [loadVar, Sem.run_bind, run_isAgg hu, ha, run_size hi, hc]
theorem run_load_one {t : Nat} {d : TypeDesc} {b o : Nat} {u : Value} (hu : P.underlying t = some d) (ha : isAggT P t = false) (hr : w.cell? ⟨b, o, none⟩ = some u) :
    (loadVar t ⟨b, o, none⟩).run P w = .ok u w := by
  simp [loadVar, Sem.run_bind, run_isAgg hu, ha, hr]
theorem run_storeVar {t b o T : Nat} {u : Value} {vs : Array Value} (hi : (P.info? t).isSome = true) (hl : u.cells.size = sizeT P t) (h1 : u.cells.all (·.oneCell') = true) (hg : w.heap[b]? = some (.cells vs T (0, 0))) (hf : o + u.cells.size ≤ vs.size) :
    (storeVar t ⟨b, o, none⟩ u).run P w = .ok () (w.setRow b (splice vs.toList o u.cells.toList).toArray) := by
  obtain ⟨i, hi⟩ := Option.isSome_iff_exists.1 hi
  have := run_storeCells_at P b o T u.cells.toList 0 vs w hg (by simpa using hf) (fun v hv => (Array.all_eq_true_iff_forall_mem.1 h1) v (by simpa using hv))
  simp only [Nat.add_zero] at this
  simp only [storeVar, Sem.run_bind, run_size hi, Result.andThen_ok]
  rw [if_neg (by simpa using hl)]
  exact this
theorem zero_rel {k : K} {v : Value} (h : zeroB k v = true) : VA P c (zeroA k) v := by
  unfold zeroB at h
  split at h
  · simp only [Bool.and_eq_true, decide_eq_true_eq, beq_iff_eq] at h
    obtain ⟨rfl, rfl⟩ := h
    simp [zeroA, zeroK, VA, VP]
  · rename_i b
    have h' : b = false := by simpa using h
    subst h'
    simp [zeroA, zeroK, VA, VP]
  · rename_i s
    have h' : s.size = 0 := by simpa using h
    obtain rfl := ByteArray_zero h'
    simp [zeroA, zeroK, VA, VP]
  · simp only [zeroA, VA]
    exact ⟨none, [], rfl, by simp, .inl rfl, by simp [VPss]⟩
  · simp [zeroA, zeroK, VA, VP]
  · simp [zeroA, zeroK, VA, VP]
  · cases h
theorem zeros_rel : ∀ {ks : List K} {vs : List Value}, zerosL ks vs = true → VAs P c (ks.map zeroA) vs
  | [], [], _ => by simp [VAs]
  | k :: ks, v :: vs, h => by
    simp only [zerosL, Bool.and_eq_true] at h
    simp only [List.map_cons, VAs]
    exact ⟨v, vs, rfl, zero_rel h.1, zeros_rel h.2⟩
  | [], _ :: _, h => by simp [zerosL] at h
  | _ :: _, [], h => by simp [zerosL] at h
theorem zeros_info {t : Nat} (h : zerosB P t = true) : ∃ i z, P.info? t = some i ∧ i.zero = some z ∧ (∀ c, VAs P c ((kinds P t).map zeroA) z.cells.toList) ∧ (kinds P t).length = i.size ∧ (kinds P t).length = sizeT P t ∧ zerosL (kinds P t) z.cells.toList = true := by
  unfold zerosB at h
  split at h
  · rename_i i hi
    split at h
    · rename_i z hz
      simp only [Bool.and_eq_true, beq_iff_eq] at h
      exact ⟨i, z, hi, hz, fun c => zeros_rel h.1, h.2, by rw [h.2]; simp [sizeT, hi], h.1⟩
    · cases h
  · cases h
end
section
variable {P : Program} {X : Out} {s : St} {mu : Nat → Option Nat} {ka : Nat → Nat} {cst : List (List Value)} {act : Act} {w : World} {E : Env} {fr : Nat} {o : Oper} {p : AV × List Eff} {K : Act → World → Prop} {Q : Exit → Act → World → Prop}
theorem view_fresh {id : Nat} {b : Bool} (h : s.view.fresh id = b) (hb : b = true) : findOb id s.mem = none := by
  subst hb
  unfold View.fresh St.view at h
  simp only at h
  cases hf : findOb id s.mem with
  | none => rfl
  | some ob => rw [hf] at h; simp at h
theorem app_new (s : St) (dst : Option Nat) (v : AV) (id : Nat) (ob : Ob) : s.app dst (v, [.new id ob]) = ({ s with mem := (id, ob) :: s.mem }.put dst v) := by
  cases dst <;> rfl
theorem sound_alloc (h : Rel E.P X s mu ka cst act.tmps.toList w) {t : Nat} (ho : o.op = .alloc t) (hp : (evOp E fr o).val s.view = some p) (hK : Next E.P X (s.app o.dst p) cst act K) : o.wp E.P act w K Q := by
  simp only [evOp, ho, Rd.val] at hp
  obtain ⟨hg, hp⟩ := val_guard hp
  simp only [Bool.and_eq_true] at hg
  simp only [Rd.val, Option.some.injEq] at hp
  subst hp
  have hf := view_fresh rfl hg.1
  obtain ⟨i, z, hi, hz, hv, _⟩ := zeros_info hg.2
  obtain ⟨mu', ka', h1, h2, h3⟩ := h.newBox hf rfl h.bel t (hv _)
  rw [app_new] at hK
  refine good_value (u := .pointer (some ⟨w.heap.size, 0, none⟩)) ?_ h3 ?_ hK
  · simp [execOp, ho, Instr.alloc, zeroValue, typeInfo, hi, hz, newVar, newRow]
  · simp only [VA]
    exact ⟨_, h1, rfl⟩
theorem sound_box (h : Rel E.P X s mu ka cst act.tmps.toList w) {t : Nat} {x : Operand} (ho : o.op = .box t x) (hp : (evOp E fr o).val s.view = some p) (hK : Next E.P X (s.app o.dst p) cst act K) : o.wp E.P act w K Q := by
  simp only [evOp, ho] at hp
  obtain ⟨v, h1, hp⟩ := val_bind hp
  simp only [Rd.val] at hp
  obtain ⟨hg, hp⟩ := val_guard hp
  simp only [Bool.and_eq_true] at hg
  simp only [Rd.val, Option.some.injEq] at hp
  subst hp
  have hf := view_fresh rfl hg.1
  obtain ⟨hc, h1c⟩ := cells_rel (h.op h1) hg.2
  obtain ⟨mu', ka', g1, g2, g3⟩ := h.newBox hf rfl h.bel t hc
  rw [app_new] at hK
  refine good_value (u := .pointer (some ⟨w.heap.size, 0, none⟩)) ?_ g3 ?_ hK
  · simp [execOp, ho, Instr.box, newVar, newRow]
  · simp only [VA]
    exact ⟨_, g1, rfl⟩
/-- The cells of an own array. -/
theorem Rel.rowCells (h : Rel P X s mu ka cst act.tmps.toList w) {id m t b : Nat} {xs : List (List PV)} (hf : findOb id s.mem = some (.row m t xs)) (hm : mu id = some b) :
    ∃ us, w.rangeAt b 0 us ∧ VPss P w (Smut P X.S0 s.mem mu) xs us ∧ (∀ e ∈ xs, cfs (kinds P t) e) := by
  cases m with
  | zero =>
    rcases h.obs id _ hf with ⟨b', hb', h1, h2, h3, us, h4, h5⟩ | ⟨q, _⟩
    · rw [hm] at hb'; cases hb'
      refine ⟨us, ?_, h5, h1⟩
      rcases h4 with rfl | ⟨b2, o2, e, hr, _⟩
      · intro j v hv; simp at hv
      · cases e; exact hr
    · rw [hm] at q; cases q
  | succ m =>
    obtain ⟨h1, h2, h3, vs, h4, h5, h6, h7⟩ := h.rowAt hf hm
    refine ⟨_, fun j u hu => ?_, h7, h1⟩
    rw [cell_of_row w b (0 + j) vs t (0, 0) h4, Nat.zero_add]
    rw [List.getElem?_take] at hu
    split at hu
    · simpa using hu
    · cases hu
theorem range_sub {b o : Nat} {us : List Value} (h : w.rangeAt b o us) (k n : Nat) : w.rangeAt b (o + k) ((us.drop k).take n) := by
  intro j v hv
  rw [List.getElem?_take] at hv
  split at hv
  · rw [List.getElem?_drop] at hv
    rw [Nat.add_assoc]
    exact h (k + j) v hv
  · cases hv
/-- A load out of an element. -/
theorem fromEl_sound (h : Rel E.P X s mu ka cst act.tmps.toList w) {t u i off b o0 : Nat} {xs : List (List PV)} {us : List Value} (hu : (E.P.underlying t).isSome = true) (hi : i < xs.length)
    (hc : ∀ e ∈ xs, cfs (kinds E.P u) e) (hr : us = [] ∨ w.rangeAt b o0 us) (hv : VPss E.P w (Smut E.P X.S0 s.mem mu) xs us) {v0 : View}
    (hp : (loadA.fromEl E.P t (etas (kinds E.P u) (xs.getD i [])) off).val v0 = some p) :
    p.2 = [] ∧ ∃ v, (loadVar t ⟨b, o0 + i * (kinds E.P u).length + off, none⟩).run E.P w = .ok v w ∧ VA E.P (cx E.P X s.mem mu ka w) p.1 v := by
  have he : xs.getD i [] = xs[i] := by rw [List.getD_eq_getElem?_getD, List.getElem?_eq_getElem hi]; rfl
  have hci := hc _ (List.getElem_mem hi)
  rw [he, etas_of hci] at hp
  obtain ⟨d, hd⟩ := Option.isSome_iff_exists.1 hu
  have hvi := hv.get (n := (kinds E.P u).length) (fun e he => (hc e he).length) (List.getElem?_eq_getElem hi)
  have hsub := (hvi.drop off).take (sizeT E.P t)
  have hrr : us = [] ∨ w.rangeAt b (o0 + i * (kinds E.P u).length + off) (((((us.drop (i * (kinds E.P u).length)).take (kinds E.P u).length)).drop off).take (sizeT E.P t)) := by
    rcases hr with hr | hr
    · exact .inl hr
    · refine .inr (range_sub (w := w) ?_ off (sizeT E.P t))
      exact range_sub hr _ _
  unfold loadA.fromEl at hp
  cases ha : isAggT E.P t with
  | true =>
    rw [ha] at hp
    simp only at hp
    obtain ⟨hls, hp⟩ := val_guard hp
    obtain rfl := val_okV hp
    have hl : ((xs[i].drop off).take (sizeT E.P t)).length = sizeT E.P t := by simpa using hls
    refine ⟨rfl, _, run_load_agg hd ha (us := ((((us.drop (i * (kinds E.P u).length)).take (kinds E.P u).length)).drop off).take (sizeT E.P t)) ?_ (by rw [hsub.length]; exact hl), ?_⟩
    · rcases hrr with rfl | hrr
      · intro j v hv; simp at hv
      · exact hrr
    · simp only [VA]
      exact ⟨_, rfl, VAs.mapPv hsub⟩
  | false =>
    rw [ha] at hp
    cases hcs : (xs[i].drop off).take (sizeT E.P t) with
    | nil => rw [hcs] at hp; simp [Rd.val] at hp
    | cons c cs =>
      cases cs with
      | cons c2 cs => rw [hcs] at hp; simp [Rd.val] at hp
      | nil =>
        rw [hcs] at hp hsub
        obtain rfl := val_okV hp
        simp only [VPs] at hsub
        obtain ⟨v, vs', hvv, hvc, rfl⟩ := hsub
        refine ⟨rfl, v, run_load_one hd ha ?_, by simp only [VA]; exact hvc⟩
        rcases hrr with rfl | hrr
        · simp at hvv
        · have := hrr 0 v (by rw [hvv]; rfl)
          simpa using this
theorem load_sound (h : Rel E.P X s mu ka cst act.tmps.toList w) {t : Nat} {a : AV} {u : Value} (hp : (loadA E.P t a).val s.view = some p) (hu : VA E.P (cx E.P X s.mem mu ka w) a u) :
    p.2 = [] ∧ ∃ v, (Instr.loadAt t u).run E.P w = .ok v w ∧ VA E.P (cx E.P X s.mem mu ka w) p.1 v := by
  unfold loadA at hp
  obtain ⟨hs, hp2⟩ := val_guard hp
  clear hp
  have hp := hp2
  clear hp2
  obtain ⟨d, hd⟩ := Option.isSome_iff_exists.1 hs
  have at_ : ∀ {ad : Addr} {r}, u = .pointer (some ad) → (loadVar t ad).run E.P w = r → (Instr.loadAt t u).run E.P w = r := by
    intro ad r e hr
    subst e
    simp [Instr.loadAt, Instr.sureAddr, hr]
  split at hp
  · rename_i id off
    simp only [VA] at hu
    obtain ⟨b, hb, hu⟩ := hu
    simp only [Rd.val, View.rng, St.view] at hp
    cases hf : findOb id s.mem with
    | none => rw [hf] at hp; simp [Rd.val] at hp
    | some ob =>
      cases ob with
      | row m t' xs => rw [hf] at hp; simp [Rd.val] at hp
      | box cs =>
        rw [hf] at hp
        simp only at hp
        rcases h.obs id _ hf with ⟨b', hb', T, vs, hg, hvs⟩ | ⟨q, _⟩
        case inr =>
          have hb2 : mu id = some b := hb
          rw [hb2] at q; cases q
        have hb2 : mu id = some b := hb
        rw [hb2] at hb'; cases hb'
        split at hp
        · rename_i x cs' hx
          split at hx
          · rename_i hfit
            cases hx
            have hsub := (hvs.drop off).take (sizeT E.P t)
            have hrng : w.rangeAt b off ((vs.toList.drop off).take (sizeT E.P t)) := by
              intro j v hv
              rw [List.getElem?_take] at hv
              split at hv
              · rw [List.getElem?_drop] at hv
                rw [cell_of_row w b (off + j) vs T (0, 0) hg]
                simpa using hv
              · cases hv
            cases ha : isAggT E.P t with
            | true =>
              rw [ha] at hp
              simp only at hp
              obtain rfl := val_okV hp
              refine ⟨rfl, _, at_ hu (run_load_agg hd ha hrng ?_), ?_⟩
              · rw [hsub.length]; simp only [List.length_take, List.length_drop]; omega
              · simp only [VA]; exact ⟨_, rfl, hsub⟩
            | false =>
              rw [ha] at hp
              cases hcs : (cs.drop off).take (sizeT E.P t) with
              | nil => rw [hcs] at hp; simp [Rd.val] at hp
              | cons c cs2 =>
                cases cs2 with
                | cons c2 cs3 => rw [hcs] at hp; simp [Rd.val] at hp
                | nil =>
                  rw [hcs] at hp hsub
                  obtain rfl := val_okV hp
                  simp only [VAs] at hsub
                  obtain ⟨v, vs', hvv, hvc, rfl⟩ := hsub
                  refine ⟨rfl, v, at_ hu (run_load_one hd ha ?_), hvc⟩
                  have := hrng 0 v (by rw [hvv]; rfl)
                  simpa using this
          · cases hx
        · simp [Rd.val] at hp
  · rename_i u' xs i off
    simp only [VA] at hu
    obtain ⟨b, o0, us, hc, hi, hl, hv, hu⟩ := hu
    obtain ⟨g1, v, g2, g3⟩ := fromEl_sound (b := b) (o0 := o0) h hs hi hc (hl.imp id fun ⟨b2, o2, e, hr, _⟩ => by cases e; exact hr) hv hp
    exact ⟨g1, v, at_ hu g2, g3⟩
  · rename_i id i off
    simp only [VA] at hu
    obtain ⟨b, t', n, hb, hrt, hi, hu⟩ := hu
    simp only [Rd.val, View.row, St.view] at hp
    cases hf : findOb id s.mem with
    | none => rw [hf] at hp; simp [Rd.val] at hp
    | some ob =>
      cases ob with
      | box cs => rw [hf] at hp; simp [Rd.val] at hp
      | row m u' xs =>
        rw [hf] at hp
        simp only at hp
        have hrt' : rtOf s.mem id = some (t', n) := hrt
        rw [rtOf_row hf] at hrt'
        cases hrt'
        obtain ⟨us, hr, hv, hc⟩ := h.rowCells hf hb
        obtain ⟨g1, v, g2, g3⟩ := fromEl_sound (b := b) (o0 := 0) h hs hi hc (.inr hr) hv hp
        rw [Nat.zero_add] at g2
        exact ⟨g1, v, at_ hu g2, g3⟩
  · simp [Rd.val] at hp
theorem sound_load (h : Rel E.P X s mu ka cst act.tmps.toList w) {t : Nat} {x : Operand} (ho : o.op = .load t x) (hp : (evOp E fr o).val s.view = some p) (hK : Next E.P X (s.app o.dst p) cst act K) : o.wp E.P act w K Q := by
  simp only [evOp, ho] at hp
  obtain ⟨v, h1, hp⟩ := val_bind hp
  obtain ⟨g1, u, g2, g3⟩ := load_sound h hp (h.op h1)
  obtain ⟨p1, p2⟩ := p
  simp only at g1 g3
  subst g1
  exact good_plain h (by simp [execOp, ho, g2]) g3 hK
theorem sound_fieldAddr (h : Rel E.P X s mu ka cst act.tmps.toList w) {t f : Nat} {x : Operand} (ho : o.op = .fieldAddr t x f) (hp : (evOp E fr o).val s.view = some p) (hK : Next E.P X (s.app o.dst p) cst act K) : o.wp E.P act w K Q := by
  simp only [evOp, ho] at hp
  obtain ⟨v, h1, hp⟩ := val_bind hp
  split at hp
  · rename_i off ft hft
    obtain ⟨hz, hp⟩ := val_guard hp
    split at hp
    · rename_i v' hv'
      obtain rfl := val_okV hp
      have hx := h.op h1
      unfold fieldT at hft
      split at hft
      · rename_i fs hfs
        split at hft
        · rename_i fd hfd
          cases hft
          have hz' : sizeT E.P fd.type ≠ 0 := by simpa using hz
          obtain ⟨i, hi⟩ : ∃ i, E.P.info? fd.type = some i := by
            cases hq : E.P.info? fd.type with
            | none => simp [sizeT, hq] at hz'
            | some i => exact ⟨i, rfl⟩
          have run_ : ∀ {b o1 : Nat}, act.eval x = .pointer (some ⟨b, o1, none⟩) → (execOp act.eval o).run E.P w = .ok (.value (.pointer (some ⟨b, o1 + fd.offset, none⟩))) w := by
            intro b o1 e
            simp [execOp, ho, Instr.fieldAt, run_under hfs, hfd, e, Instr.sureAddr, fieldPlace, run_size hi, hz', Addr.add_mid]
          cases v <;> simp only [fieldA, Option.some.injEq, reduceCtorEq] at hv'
          case ptr id o1 =>
            subst hv'
            simp only [VA] at hx
            obtain ⟨b, hb, hx⟩ := hx
            exact good_plain h (run_ hx) (by simp only [VA]; exact ⟨b, hb, rfl⟩) hK
          case rpt id i o1 =>
            subst hv'
            simp only [VA] at hx
            obtain ⟨b, t', n, hb, hrt, hi, hx⟩ := hx
            exact good_plain h (run_ hx) (by simp only [VA]; exact ⟨b, t', n, hb, hrt, hi, by rw [Nat.add_assoc]⟩) hK
          case ept t' xs i o1 =>
            subst hv'
            simp only [VA] at hx
            obtain ⟨b, o0, us, g1, g2, g3, g4, hx⟩ := hx
            exact good_plain h (run_ hx) (by simp only [VA]; exact ⟨b, o0, us, g1, g2, g3, g4, by rw [Nat.add_assoc]⟩) hK
        · cases hft
      · cases hft
    · simp [Rd.val] at hp
  · simp [Rd.val] at hp
end
end Go.Proofs.YtkdbccloniaogaaS
