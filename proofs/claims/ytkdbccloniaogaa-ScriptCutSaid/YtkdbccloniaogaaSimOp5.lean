/- Composite literals, made slices, slices of slices, lengths. Conditions: none. -/
import Derived.Test.YtkdbccloniaogaaSimOp4
set_option linter.unusedVariables false
set_option linter.unusedSimpArgs false
namespace Go.Proofs.YtkdbccloniaogaaS
open Go Go.RowKit

theorem splice_set (l : List Value) (k : Nat) (v : Value) (rest : List Value) (hk : k + (rest.length + 1) ≤ l.length) : splice (l.set k v) (k + 1) rest = splice l k (v :: rest) := by
  unfold splice
  exact list_seg_step l k v rest hk
theorem fold_splice (off : Nat) : ∀ (l : List Value) (k : Nat) (cells : Array Value), off + k + l.length ≤ cells.size →
    ((l.zipIdx k).foldl (fun cs (x : Value × Nat) => cs.setIfInBounds (off + x.2) x.1) cells).toList = splice cells.toList (off + k) l
  | [], k, cells, _ => by simp [splice]
  | v :: l, k, cells, h => by
    simp only [List.length_cons] at h
    simp only [List.zipIdx_cons, List.foldl_cons]
    rw [fold_splice off l (k + 1) (cells.setIfInBounds (off + k) v) (by simp; omega)]
    rw [Array.toList_setIfInBounds]
    exact splice_set cells.toList (off + k) v l (by simp; omega)
theorem take_splice (l : List Value) (p : Nat) (us : List Value) (h : p ≤ l.length) : (splice l p us).take (p + us.length) = l.take p ++ us := by
  unfold splice
  rw [List.take_append_of_le_length (by simp; omega), List.take_of_length_le (by simp; omega)]
theorem fill_step (place : Nat → Option (Nat × Nat)) (cells : Array Value) (i off : Nat) (v : Value) (rest : List (Nat × Value)) (hp : place i = some (off, v.cells.size)) (hf : off + v.cells.size ≤ cells.size) :
    ∃ cells' : Array Value, cells'.toList = splice cells.toList off v.cells.toList ∧ Instr.fill place cells ((i, v) :: rest) = Instr.fill place cells' rest := by
  refine ⟨v.cells.zipIdx.foldl (fun cs (x : Value × Nat) => cs.setIfInBounds (off + x.2) x.1) cells, ?_, ?_⟩
  · rw [← Array.foldl_toList]
    have := fold_splice off v.cells.toList 0 cells (by simpa using hf)
    simpa using this
  · simp only [Instr.fill, hp]
    rw [if_neg (by simp; omega)]
section
variable {P : Program} {c : Cx} {w : World}
theorem mapM_places : ∀ (fs : List Field), fs.all (fun f => (P.info? f.type).isSome) = true → fs.mapM (fun f => (P.info? f.type).map fun i => (f.offset, i.size)) = some (fs.map fun f => (f.offset, sizeT P f.type))
  | [], _ => rfl
  | f :: fs, h => by
    simp only [List.all_cons, Bool.and_eq_true] at h
    obtain ⟨i, hi⟩ := Option.isSome_iff_exists.1 h.1
    have ih := mapM_places fs h.2
    simp [List.mapM_cons, hi, ih, sizeT]
theorem fill_rel {t : Nat} {fs : Array Field} (hfs : P.underlying t = some (.struct fs)) : ∀ {vs : List (Nat × AV)} {us : List (Nat × Value)} {ps : List (Nat × List AV)} {acc : List AV} {cells : Array Value},
    fieldsP P t vs = some ps → vs.map (·.1) = us.map (·.1) → VAs P c (vs.map (·.2)) (us.map (·.2)) → VAs P c acc cells.toList → acc.length = (kinds P t).length →
    ∃ cells', Instr.fill ((fs.toList.map fun f => (f.offset, sizeT P f.type)).toArray[·]?) cells us = some cells' ∧ VAs P c (fillA ps acc) cells'.toList
  | [], [], ps, acc, cells, h, _, _, ha, _ => by
    simp only [fieldsP, Option.some.injEq] at h
    subst h
    exact ⟨cells, rfl, ha⟩
  | (i, v) :: vs, [], ps, acc, cells, h, h1, _, _, _ => by simp at h1
  | [], (i, v) :: us, ps, acc, cells, h, h1, _, _, _ => by simp at h1
  | (i, v) :: vs, (j, u) :: us, ps, acc, cells, h, h1, h2, ha, hl => by
    simp only [List.map_cons, List.cons.injEq] at h1
    obtain ⟨rfl, h1⟩ := h1
    simp only [List.map_cons, VAs] at h2
    obtain ⟨_, _, e, hu, hus⟩ := h2
    cases e
    rw [fieldsP] at h
    split at h
    · rename_i off ft r hft hr
      split at h
      · rename_i hg
        cases h
        simp only [Bool.and_eq_true, beq_iff_eq, decide_eq_true_eq] at hg
        obtain ⟨⟨g1, g2⟩, g3⟩ := hg
        obtain ⟨hc, h1c⟩ := cells_rel hu g2
        have hsz : u.cells.size = sizeT P ft := by rw [← g1, ← hc.length, Array.length_toList]
        have hcl : cells.size = (kinds P t).length := by rw [← hl, ← ha.length, Array.length_toList]
        have hplace : (fs.toList.map fun f => (f.offset, sizeT P f.type)).toArray[i]? = some (off, u.cells.size) := by
          unfold fieldT at hft
          rw [hfs] at hft
          simp only at hft
          split at hft
          · rename_i fd hfd
            cases hft
            simp [hfd, hsz]
          · cases hft
        obtain ⟨cells', e1, e2⟩ := fill_step _ cells i off u us hplace (by omega)
        rw [e2]
        refine fill_rel hfs (ps := r) (acc := splice acc off v.cells) hr h1 hus (by rw [e1]; exact VAs.spl ha hc off) ?_
        rw [splice_length _ _ _ (by rw [hl, g1]; exact g3), hl]
      · cases h
    · cases h
end
section
variable {P : Program} {X : Out} {s : St} {mu : Nat → Option Nat} {ka : Nat → Nat} {cst : List (List Value)} {act : Act} {a : List Value} {w : World} {E : Env} {fr : Nat} {o : Oper} {p : AV × List Eff} {K : Act → World → Prop} {Q : Exit → Act → World → Prop}
theorem sound_build (h : Rel E.P X s mu ka cst act.tmps.toList w) {t : Nat} {parts : Array (Nat × Operand)} (ho : o.op = .build t parts) (hp : (evOp E fr o).val s.view = some p) (hK : Next E.P X (s.app o.dst p) cst act K) : o.wp E.P act w K Q := by
  simp only [evOp, ho] at hp
  obtain ⟨vs, h1, hp1⟩ := val_bind hp
  clear hp
  obtain ⟨e1, e2⟩ := h.parts h1
  split at hp1
  · rename_i ps hps
    obtain ⟨hg, hp2⟩ := val_guard hp1
    obtain rfl := val_okV hp2
    simp only [Bool.and_eq_true] at hg
    obtain ⟨i, z, hi, hz, hv, hki, hks, _⟩ := zeros_info hg.1
    have hkn := hg.2
    unfold knownFs at hkn
    split at hkn
    · rename_i fs hfs
      have hpl := mapM_places fs.toList hkn
      have hlz : ((kinds E.P t).map zeroA).length = (kinds E.P t).length := by simp
      obtain ⟨cells', g1, g2⟩ := fill_rel (c := cx E.P X s.mem mu ka w) (us := parts.toList.map fun x => (x.1, act.eval x.2)) hfs hps (by rw [e1]; simp) (by rw [List.map_map]; exact e2) (hv _) hlz
      refine good_plain (u := .agg cells') h ?_ (by simp only [VA]; exact ⟨cells'.toList, by simp, g2⟩) hK
      have hb : E.P.built t (parts.map fun (i, x) => (i, act.eval x)).toList = some cells' := by
        unfold Program.built
        rw [hi, hfs]
        simp only [hz, hpl]
        rw [Array.toList_map]
        exact g1
      simp only [execOp, ho, Sem.run_bind, run_build w t _ cells' hb, Result.andThen_ok, Sem.run_pure]
    · cases hkn
  · simp [Rd.val] at hp1
/-- More memory. -/
theorem Rel.grow (h : Rel P X s mu ka cst a w) {w' : World} (hb : Below w.heap.size w w') : (cx P X s.mem mu ka w).Le (cx P X s.mem mu ka w') ∧ Rel P X s mu ka cst a w' := by
  have hl : (cx P X s.mem mu ka w).Le (cx P X s.mem mu ka w') :=
    ⟨fun b o u hc hs => ⟨(hb.cell (World.block_lt_of_cell? _ _ hc)).trans hc, hs⟩, fun _ _ q => q, fun _ _ q => ⟨q, rfl, rfl⟩⟩
  refine ⟨hl, h.turn hl (h.bel.trans (hb.mono h.size)) h.blk h.inj fun id ob hf => ?_⟩
  rcases h.obs id ob hf with ⟨b, hb1, ho⟩ | q
  · exact .inl ⟨b, hb1, ho.le hl fun hlv => hb.block b (live_lt ho hlv)⟩
  · exact .inr q
theorem cell_vps {S : Nat → Nat → Prop} {t : Nat} {q : PV} {u : Value} (hc : cfT P t q) (hv : VP P w S q u) : VPs P w S q.cells u.cells.toList := by
  have single : q.cells = [q] → q.one = true → VPs P w S q.cells u.cells.toList := by
    intro e h1
    rw [e, one_cells (VP.one hv h1)]
    simp only [VPs]
    exact ⟨u, [], rfl, hv, rfl⟩
  cases q with
  | agg cs =>
    simp only [VP] at hv
    obtain ⟨vs, rfl, hvs⟩ := hv
    exact hvs
  | undef => obtain ⟨_, k, _, hk⟩ := hc; exact absurd hk.one (by simp [PV.one])
  | tup vs => obtain ⟨_, k, _, hk⟩ := hc; exact absurd hk.one (by simp [PV.one])
  | int k n => exact single rfl rfl
  | bool b => exact single rfl rfl
  | str b => exact single rfl rfl
  | list t xs => exact single rfl rfl
  | fn f => exact single rfl rfl
  | nilfn => exact single rfl rfl
  | nilp => exact single rfl rfl
  | nili => exact single rfl rfl
theorem parts_sound {m0 : List (Nat × Ob)} {v0 : View} (hv0 : v0.find = fun id => findOb id m0) {e n : Nat} (hok : (kinds P e).length = sizeT P e) : ∀ {vs : List (Nat × AV)} {us : List (Nat × Value)} {i : Nat} {s : St} {q : List (List PV) × List Eff} {cells : Array Value},
    Rel P X s mu ka cst a w → Dem m0 s.mem → (partsP P e i vs).val v0 = some q → vs.map (·.1) = us.map (·.1) → VAs P (cx P X s.mem mu ka w) (vs.map (·.2)) (us.map (·.2)) → cells.size = n * sizeT P e → i + vs.length = n →
    Purged P X s m0 (effOn s.mem q.2) mu ka cst a w ∧ (∀ x ∈ q.1, cfs (kinds P e) x) ∧ q.1.length = vs.length ∧
      ∃ (cells' : Array Value) (ys : List Value), Instr.fill (fun i => some (i * sizeT P e, sizeT P e)) cells us = some cells' ∧ cells'.toList = cells.toList.take (i * sizeT P e) ++ ys ∧ VPss P w (Smut P X.S0 (effOn s.mem q.2) mu) q.1 ys
  | [], [], i, s, q, cells, h, hd, hp, _, _, hc, hn => by
    simp only [partsP, Rd.val, Option.some.injEq] at hp
    subst hp
    simp only [List.length_nil, Nat.add_zero] at hn
    subst hn
    refine ⟨Purged.refl h hd, by simp, rfl, cells, [], rfl, ?_, by simp [VPss]⟩
    rw [List.append_nil, List.take_of_length_le (by simp [hc])]
  | (j, v) :: vs, [], i, s, q, cells, h, hd, hp, h1, _, _, _ => by simp at h1
  | [], (j, v) :: us, i, s, q, cells, h, hd, hp, h1, _, _, _ => by simp at h1
  | (j, v) :: vs, (j', u) :: us, i, s, q, cells, h, hd, hp, h1, h2, hc, hn => by
    simp only [List.map_cons, List.cons.injEq] at h1
    obtain ⟨rfl, h1⟩ := h1
    simp only [List.map_cons, VAs] at h2
    obtain ⟨_, _, ee, hu, hus⟩ := h2
    cases ee
    simp only [partsP] at hp
    obtain ⟨hij, hp1⟩ := val_guard hp
    obtain rfl := eq_of_beq hij
    obtain ⟨p1, g1, hp2⟩ := val_bind hp1
    obtain ⟨p2, g2, hp3⟩ := val_bind hp2
    simp only [Rd.val, Option.some.injEq] at hp3
    clear hp hp1 hp2
    subst hp3
    simp only [List.length_cons] at hn
    obtain ⟨k1, k2, k3⟩ := purV_sound h hv0 hd g1 hu
    have hcell := cell_vps k3 k2
    have hsz : u.cells.size = sizeT P e := by rw [← hok, ← k3.cells.length, ← hcell.length, Array.length_toList]
    have hle : (i + 1) * sizeT P e ≤ n * sizeT P e := Nat.mul_le_mul_right _ (by omega)
    rw [Nat.add_mul, Nat.one_mul] at hle
    obtain ⟨cells1, e1, e2⟩ := fill_step (fun i => some (i * sizeT P e, sizeT P e)) cells i (i * sizeT P e) u us (by rw [hsz]) (by omega)
    have hc1 : cells1.size = n * sizeT P e := by
      rw [← Array.length_toList, e1, splice_length _ _ _ (by simp only [Array.length_toList]; omega), Array.length_toList, hc]
    obtain ⟨m1, m2, m3, cells', ys, m4, m5, m6⟩ := parts_sound hv0 hok k1.rel k1.dem g2 h1 (VAs.le k1.le _ _ hus) hc1 (by omega)
    rw [effOn_append]
    refine ⟨⟨k1.le.trans m1.le, m1.rel, m1.dem⟩, ?_, by simp [m3], cells', u.cells.toList ++ ys, by rw [e2]; exact m4, ?_, ?_⟩
    · intro x hx
      rcases List.mem_cons.1 hx with rfl | hx
      · exact k3.cells
      · exact m2 x hx
    · rw [m5, e1, ← List.append_assoc]
      congr 1
      rw [Nat.add_mul, Nat.one_mul, ← hsz]
      have := take_splice cells.toList (i * u.cells.size) u.cells.toList (by rw [Array.length_toList, hsz]; omega)
      simpa using this
    · simp only [VPss]
      exact ⟨_, _, rfl, VPs.keep m1.le.keep _ _ hcell, m6⟩
theorem run_buildSlice {t e n : Nat} {i : TypeInfo} {z : Value} {parts : Array (Nat × Value)} {cells : Array Value} (hu : P.underlying t = some (.slice e)) (hi : P.info? e = some i) (hz : i.zero = some z) (hlim : ¬ (n * i.size > 2 ^ 24))
    (hf : Instr.fill (fun j => some (j * i.size, i.size)) ((Array.range (n * i.size)).map ((if n * i.size = 0 then (#[] : Array Value) else z.cells)[· % (if n * i.size = 0 then (#[] : Array Value) else z.cells).size]!)) parts.toList = some cells) :
    (Instr.buildSlice t n parts).run P w = .ok (.slice (some ⟨w.heap.size, 0, none⟩) n n) (w.alloc (.cells cells e)) := by
  unfold Instr.buildSlice
  simp only [Sem.run_bind, run_under hu, Result.andThen_ok, run_size hi]
  have hs : sizeT P e = i.size := by simp [sizeT, hi]
  rw [hs, if_neg hlim]
  by_cases h0 : n * i.size = 0
  · simp only [h0, if_true] at hf ⊢
    simp only [Sem.run_pure, Result.andThen_ok, Sem.run_bind, hf, newRow, run_newObj, World.alloc_eq]
  · simp only [h0, if_false] at hf ⊢
    have hzv : (zeroValue e).run P w = .ok z w := by simp [zeroValue, typeInfo, hi, hz]
    simp only [Sem.run_pure, Result.andThen_ok, Sem.run_bind, hzv, hf, newRow, run_newObj, World.alloc_eq]
theorem sound_buildSlice (h : Rel E.P X s mu ka cst act.tmps.toList w) {t n : Nat} {parts : Array (Nat × Operand)} (ho : o.op = .buildSlice t n parts) (hp : (evOp E fr o).val s.view = some p) (hK : Next E.P X (s.app o.dst p) cst act K) : o.wp E.P act w K Q := by
  simp only [evOp, ho] at hp
  obtain ⟨vs, h1, hp1⟩ := val_bind hp
  clear hp
  obtain ⟨e1, e2⟩ := h.parts h1
  split at hp1
  · rename_i e he
    obtain ⟨hg, hp2⟩ := val_guard hp1
    obtain ⟨q, h2, hp3⟩ := val_bind hp2
    simp only [Rd.val, Option.some.injEq] at hp3
    clear hp1 hp2
    subst hp3
    simp only [Bool.and_eq_true, beq_iff_eq, decide_eq_true_eq, okE, bne_iff_ne, ne_eq] at hg
    obtain ⟨⟨⟨g1, g2⟩, g3, g4⟩, g5⟩ := hg
    obtain ⟨i, z, hi, hz, hv, hki, hks, _⟩ := zeros_info g2
    have hu := elemT_slice he
    have hsz : i.size = sizeT E.P e := by simp [sizeT, hi]
    obtain ⟨m1, m2, m3, cells', ys, m4, m5, m6⟩ := parts_sound (m0 := s.mem) (v0 := s.view) (n := n) (us := parts.toList.map fun x => (x.1, act.eval x.2)) rfl g3 h (Dem.refl _) h2 (by rw [e1]; simp) (by rw [List.map_map]; exact e2)
      (cells := (Array.range (n * i.size)).map ((if n * i.size = 0 then (#[] : Array Value) else z.cells)[· % (if n * i.size = 0 then (#[] : Array Value) else z.cells).size]!)) (by simp [hsz]) (by omega)
    simp only [Nat.zero_mul, List.take_zero, List.nil_append] at m5
    have hbw : Below w.heap.size w (w.alloc (.cells cells' e)) := (Below.refl _ w).alloc (Nat.le_refl _) _
    obtain ⟨n1, n2⟩ := m1.rel.grow hbw
    rw [app_eq] at hK
    refine good_value (u := .slice (some ⟨w.heap.size, 0, none⟩) n n) (w' := w.alloc (.cells cells' e)) ?_ n2 ?_ hK
    · have hlim : ¬ (n * i.size > 2 ^ 24) := by rw [hsz]; omega
      have m4' : Instr.fill (fun j => some (j * i.size, i.size)) ((Array.range (n * i.size)).map ((if n * i.size = 0 then (#[] : Array Value) else z.cells)[· % (if n * i.size = 0 then (#[] : Array Value) else z.cells).size]!)) (parts.map fun (i, x) => (i, act.eval x)).toList = some cells' := by
        rw [Array.toList_map]
        rw [← hsz] at m4
        exact m4
      have := run_buildSlice (w := w) hu hi hz hlim m4'
      simp only [execOp, ho, Sem.run_bind, this, Result.andThen_ok, Sem.run_pure]
    · simp only [VA]
      refine ⟨some ⟨w.heap.size, 0, none⟩, ys, by rw [m3, g1], m2, .inr ⟨w.heap.size, 0, rfl, fun j u hj => ?_, fun j hj => ?_⟩, VPss.keep n1.keep _ _ m6⟩
      · show (w.alloc _).cell? _ = _
        rw [World.cell?_alloc_new, Nat.zero_add, ← hj, ← m5]
        simp
      · intro hs
        have := m1.rel.mut_lt hs
        omega
  · simp [Rd.val] at hp1
end
end Go.Proofs.YtkdbccloniaogaaS
