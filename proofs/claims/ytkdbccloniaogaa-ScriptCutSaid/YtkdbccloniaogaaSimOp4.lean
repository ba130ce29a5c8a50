/- Stores, indices, fields of values, composite literals. Conditions: none. -/
import Derived.Test.YtkdbccloniaogaaSimOp3
set_option linter.unusedVariables false
set_option linter.unusedSimpArgs false
namespace Go.Proofs.YtkdbccloniaogaaS
open Go Go.RowKit

theorem splice_full {α : Type} (l us : List α) (h : us.length = l.length) : splice l 0 us = us := by
  unfold splice
  simp [h]
theorem findOb_effOn {id : Nat} : ∀ {es : List Eff} {m : List (Nat × Ob)}, es.all (notRow id) = true → findOb id (effOn m es) = findOb id m
  | [], m, _ => rfl
  | e :: es, m, h => by
    simp only [List.all_cons, Bool.and_eq_true] at h
    have := findOb_effOn (es := es) (m := Eff.on m e) h.2
    show findOb id (effOn (Eff.on m e) es) = _
    rw [this]
    cases e with
    | new i o => simp [notRow] at h
    | put i o vs => simp [notRow] at h
    | rset j md t xs =>
      have hne : id ≠ j := by
        have := h.1
        simp only [notRow, Bool.not_eq_true', beq_eq_false_iff_ne] at this
        exact Ne.symm this
      exact findOb_setOb_other j id _ hne m
theorem elemT_slice {P : Program} {t e : Nat} (h : elemT P t = some e) : P.underlying t = some (.slice e) := by
  unfold elemT at h
  split at h
  · rename_i e' he
    cases h
    exact he
  · cases h
theorem cfs_get : ∀ {ks : List K} {ps : List PV}, cfs ks ps → ∀ {i : Nat} {k : K} {p : PV}, ks[i]? = some k → ps[i]? = some p → cf k p
  | k :: ks, p :: ps, h, 0, _, _, h1, h2 => by simp at h1 h2; rw [← h1, ← h2]; exact h.1
  | k :: ks, p :: ps, h, i + 1, _, _, h1, h2 => cfs_get h.2 (by simpa using h1) (by simpa using h2)
  | [], _, _, i, _, _, h1, _ => by simp at h1
  | _ :: _, [], h, _, _, _, _, _ => h.elim
theorem cfs_of_get : ∀ {ks : List K} {ps : List PV}, ps.length = ks.length → (∀ (i : Nat) (k : K) (p : PV), ks[i]? = some k → ps[i]? = some p → cf k p) → cfs ks ps
  | [], [], _, _ => trivial
  | k :: ks, p :: ps, h, g => ⟨g 0 k p rfl rfl, cfs_of_get (by simpa using h) fun i k' p' h1 h2 => g (i + 1) k' p' (by simpa using h1) (by simpa using h2)⟩
  | [], _ :: _, h, _ => by simp at h
  | _ :: _, [], h, _ => by simp at h
theorem cfs_splice {ks : List K} {ps qs : List PV} {off : Nat} (h : cfs ks ps) (g : cfs ((ks.drop off).take qs.length) qs) (ho : off + qs.length ≤ ks.length) : cfs ks (splice ps off qs) := by
  have hl := h.length
  refine cfs_of_get (by rw [splice_length _ _ _ (by omega), hl]) fun i k p h1 h2 => ?_
  rw [get_splice _ _ _ (by omega)] at h2
  split at h2
  · exact cfs_get h h1 h2
  · split at h2
    · refine cfs_get g (i := i - off) ?_ h2
      rw [List.getElem?_take, if_pos (by omega), List.getElem?_drop, ← h1]
      congr 1
      omega
    · exact cfs_get h h1 h2
theorem VPs.spl {P : Program} {w : World} {S : Nat → Nat → Prop} {as bs : List PV} {vs us : List Value} (h : VPs P w S as vs) (k : VPs P w S bs us) (off : Nat) : VPs P w S (splice as off bs) (splice vs off us) := by
  unfold splice
  rw [k.length]
  have app : ∀ {as bs : List PV} {vs us : List Value}, VPs P w S as vs → VPs P w S bs us → VPs P w S (as ++ bs) (vs ++ us) := by
    intro as bs vs us h k
    refine VPs.of_get (by simp [h.length, k.length]) fun i a v h1 h2 => ?_
    rcases Nat.lt_or_ge i as.length with hi | hi
    · rw [List.getElem?_append_left hi] at h1
      rw [List.getElem?_append_left (by rw [h.length]; exact hi)] at h2
      obtain ⟨v', h3, h4⟩ := h.get h1
      rw [h2] at h3; cases h3; exact h4
    · rw [List.getElem?_append_right hi] at h1
      rw [List.getElem?_append_right (by rw [h.length]; exact hi), h.length] at h2
      obtain ⟨v', h3, h4⟩ := k.get h1
      rw [h2] at h3; cases h3; exact h4
  exact app (app (h.take off) k) (h.drop _)
section
variable {P : Program} {X : Out} {s : St} {mu : Nat → Option Nat} {ka : Nat → Nat} {cst : List (List Value)} {act : Act} {w : World} {E : Env} {fr : Nat} {o : Oper} {p : AV × List Eff} {K : Act → World → Prop} {Q : Exit → Act → World → Prop}
theorem app_eq (s : St) (dst : Option Nat) (v : AV) (es : List Eff) : s.app dst (v, es) = ({ s with mem := effOn s.mem es }.put dst v) := by
  cases dst <;> rfl
theorem sound_store (h : Rel E.P X s mu ka cst act.tmps.toList w) {t : Nat} {x y : Operand} (ho : o.op = .store t x y) (hp : (evOp E fr o).val s.view = some p) (hK : Next E.P X (s.app o.dst p) cst act K) : o.wp E.P act w K Q := by
  simp only [evOp, ho] at hp
  obtain ⟨a, h1, hp⟩ := val_bind hp
  obtain ⟨v, h2, hp⟩ := val_bind hp
  have ha := h.op h1
  have hv := h.op h2
  unfold storeA at hp
  obtain ⟨hg, hp2⟩ := val_guard hp
  clear hp
  simp only [Bool.and_eq_true, beq_iff_eq] at hg
  obtain ⟨⟨hl, hone⟩, hinf⟩ := hg
  obtain ⟨hc, h1c⟩ := cells_rel hv hone
  have hsz : (act.eval y).cells.size = sizeT E.P t := by rw [← hl, ← hc.length, Array.length_toList]
  have run_ : ∀ {b off T : Nat} {vs : Array Value}, act.eval x = .pointer (some ⟨b, off, none⟩) → w.heap[b]? = some (.cells vs T (0, 0)) → off + (act.eval y).cells.size ≤ vs.size →
      (execOp act.eval o).run E.P w = .ok .skip (w.setRow b (splice vs.toList off (act.eval y).cells.toList).toArray) := by
    intro b off T vs e hg hf
    have := run_storeVar hinf hsz h1c hg hf
    simp [execOp, ho, Instr.storeAt, Instr.sureAddr, e, this]
  split at hp2
  · rename_i id off
    simp only [Rd.val] at hp2
    split at hp2
    · rename_i cs hx
      simp only [Rd.val, Option.some.injEq] at hp2
      subst hp2
      simp only [VA] at ha
      obtain ⟨b, hb, ha⟩ := ha
      unfold View.rng at hx
      split at hx
      · rename_i cs hf
        split at hx
        · rename_i hfit
          have hf' : findOb id s.mem = some (.box cs) := hf
          obtain ⟨T, vs, g1, g2, g3⟩ := h.store hf' hb hfit hc
          refine good_skip (run_ ha g1 (by simpa using g2)) g3 ?_
          have e : effOn s.mem [.put id off v.cells] = setOb id (.box (splice cs off v.cells)) s.mem := by
            show Eff.on s.mem (.put id off v.cells) = _
            simp only [Eff.on, hf']
          rw [app_eq, e] at hK
          exact hK
        · cases hx
      · cases hx
    · simp [Rd.val] at hp2
  · rename_i id i off
    simp only [Rd.val] at hp2
    simp only [VA] at ha
    obtain ⟨b, t', n, hb, hrt, hi, ha⟩ := ha
    cases hf : findOb id s.mem with
    | none => simp [View.row, St.view, hf, Rd.val] at hp2
    | some ob =>
      cases ob with
      | box cs => simp [View.row, St.view, hf, Rd.val] at hp2
      | row m u xs =>
        simp only [View.row, St.view, hf] at hp2
        have hrt' : rtOf s.mem id = some (t', n) := hrt
        rw [rtOf_row hf] at hrt'
        obtain ⟨e1, e2⟩ := Prod.mk.inj (Option.some.inj hrt')
        subst e1
        subst e2
        split at hp2
        · obtain ⟨q, h3, hp3⟩ := val_bind hp2
          obtain ⟨hnr0, hp4⟩ := val_guard hp3
          simp only [Bool.and_eq_true, decide_eq_true_eq] at hnr0
          obtain ⟨hnr, hoff0⟩ := hnr0
          simp only [Rd.val, Option.some.injEq] at hp4
          clear hp2 hp3
          subst hp4
          obtain ⟨g1, g2, g3⟩ := purs_sound (s := s) (m0 := s.mem) rfl h (Dem.refl _) h3 hc
          have hf2 : findOb id (effOn s.mem q.2) = some (.row 2 u xs) := (findOb_effOn hnr).trans hf
          have hql : q.1.length = v.cells.length := by rw [← g2.length, hc.length]
          have hkl := g3.length
          simp only [List.length_take, List.length_drop] at hkl
          have hoff : off + q.1.length ≤ (kinds E.P u).length := by omega
          have hci : cfs (kinds E.P u) (xs.getD i []) := by
            obtain ⟨hcl, _⟩ := h.rowAt hf hb
            rw [List.getD_eq_getElem?_getD, List.getElem?_eq_getElem hi]
            exact hcl _ (List.getElem_mem hi)
          have hnew : cfs (kinds E.P u) (match q.1.length == (kinds E.P u).length with | true => q.1 | false => splice (etas (kinds E.P u) (xs.getD i [])) off q.1) := by
            split
            · rename_i he
              have he' : q.1.length = (kinds E.P u).length := eq_of_beq he
              have ho0 : off = 0 := by omega
              subst ho0
              simpa [← hql, he'] using g3
            · rw [etas_of hci]
              exact cfs_splice hci (by rw [hql]; exact g3) hoff
          have hus : (act.eval y).cells.toList.length = q.1.length := g2.length
          obtain ⟨vs, k1, k2, k3⟩ := g1.rel.setEl (us := (act.eval y).cells.toList) (off := off) hf2 hb hi hnew (by rw [hus]; exact hoff) (by
            intro vs2 hvs2
            split
            · rename_i he
              have he' : q.1.length = (kinds E.P u).length := eq_of_beq he
              have ho0 : off = 0 := by omega
              subst ho0
              rw [splice_full _ _ (by rw [hus, he', hvs2.length, hci.length])]
              exact g2
            · rw [etas_of hci]
              exact VPs.spl hvs2 g2 off)
          refine good_skip (run_ ha k1 (by rw [← Array.length_toList]; exact k2)) k3 ?_
          rw [app_eq, effOn_append] at hK
          exact hK
        · simp [Rd.val] at hp2
  · simp [Rd.val] at hp2
theorem sound_indexAddr (h : Rel E.P X s mu ka cst act.tmps.toList w) {t : Nat} {x y : Operand} (ho : o.op = .indexAddr t x y) (hp : (evOp E fr o).val s.view = some p) (hK : Next E.P X (s.app o.dst p) cst act K) : o.wp E.P act w K Q := by
  simp only [evOp, ho] at hp
  obtain ⟨v, h1, hp1⟩ := val_bind hp
  obtain ⟨iv, h2, hp2⟩ := val_bind hp1
  clear hp hp1
  split at hp2
  · rename_i k i
    have hv := h.op h1
    have hi := va_pv (h.op h2)
    simp only [VP] at hi
    have run_ : ∀ {e b o1 n cap : Nat}, E.P.underlying t = some (.slice e) → sizeT E.P e ≠ 0 → act.eval x = .slice (some ⟨b, o1, none⟩) n cap → 0 ≤ i → i < n →
        (execOp act.eval o).run E.P w = .ok (.value (.pointer (some ⟨b, o1 + i.toNat * sizeT E.P e, none⟩))) w := by
      intro e b o1 n cap hu hz hx h0 hn
      obtain ⟨inf, hinf⟩ : ∃ i, E.P.info? e = some i := by
        cases hq : E.P.info? e with
        | none => simp [sizeT, hq] at hz
        | some i => exact ⟨i, rfl⟩
      simp [execOp, ho, Instr.indexAt, hi, hx, Go.asIntOf, run_under hu, h0, hn, run_size hinf, Addr.add_mid]
    unfold indexA at hp2
    split at hp2
    · rename_i e u xs he
      obtain ⟨hg, hp3⟩ := val_guard hp2
      obtain ⟨hb, hp4⟩ := val_chk hp3
      obtain rfl := val_okV hp4
      simp only [Bool.and_eq_true, beq_iff_eq, decide_eq_true_eq, okE, bne_iff_ne, ne_eq] at hg hb
      obtain ⟨rfl, hsz, hnz⟩ := hg
      have hu := elemT_slice he
      have hv' := va_pv hv
      simp only [VP] at hv'
      obtain ⟨A, cap, us, g1, g2, g3, g4, g5⟩ := hv'
      have hpos : 0 < xs.length := by omega
      obtain ⟨b, o1, rfl, hr⟩ : ∃ b o1, A = some ⟨b, o1, none⟩ ∧ Lies w (Smut E.P X.S0 s.mem mu) (some ⟨b, o1, none⟩) us := by
        rcases g4 with rfl | ⟨b, o1, rfl, hr⟩
        · have := g5.length (n := (kinds E.P u).length) (fun e he => (g3 e he).length)
          simp only [List.length_nil] at this
          have h3 : 0 < xs.length * (kinds E.P u).length := Nat.mul_pos hpos (by omega)
          omega
        · exact ⟨b, o1, rfl, .inr ⟨b, o1, rfl, hr⟩⟩
      refine good_plain h (run_ hu hnz g1 hb.1 hb.2) ?_ hK
      simp only [VA]
      exact ⟨b, o1, us, g3, by omega, hr, g5, by rw [← hsz]; simp⟩
    · rename_i e u xs he
      obtain ⟨hg, hp3⟩ := val_guard hp2
      obtain ⟨hb, hp4⟩ := val_chk hp3
      obtain rfl := val_okV hp4
      simp only [Bool.and_eq_true, beq_iff_eq, decide_eq_true_eq, okE, bne_iff_ne, ne_eq] at hg hb
      obtain ⟨rfl, hsz, hnz⟩ := hg
      have hu := elemT_slice he
      simp only [VA] at hv
      obtain ⟨A, us, g1, g3, g4, g5⟩ := hv
      have hpos : 0 < xs.length := by omega
      obtain ⟨b, o1, rfl, hr⟩ : ∃ b o1, A = some ⟨b, o1, none⟩ ∧ Lies w (Smut E.P X.S0 s.mem mu) (some ⟨b, o1, none⟩) us := by
        rcases g4 with rfl | ⟨b, o1, rfl, hr⟩
        · have := g5.length (n := (kinds E.P u).length) (fun e he => (g3 e he).length)
          simp only [List.length_nil] at this
          have h3 : 0 < xs.length * (kinds E.P u).length := Nat.mul_pos hpos (by omega)
          omega
        · exact ⟨b, o1, rfl, .inr ⟨b, o1, rfl, hr⟩⟩
      refine good_plain h (run_ hu hnz g1 hb.1 hb.2) ?_ hK
      simp only [VA]
      exact ⟨b, o1, us, g3, by omega, hr, g5, by rw [← hsz]; simp⟩
    · rename_i e id he
      simp only [Rd.val, View.row, St.view] at hp2
      cases hf : findOb id s.mem with
      | none => rw [hf] at hp2; simp [Rd.val] at hp2
      | some ob =>
        cases ob with
        | box cs => rw [hf] at hp2; simp [Rd.val] at hp2
        | row m u xs =>
          rw [hf] at hp2
          simp only at hp2
          obtain ⟨hg, hp3⟩ := val_guard hp2
          obtain ⟨hb, hp4⟩ := val_chk hp3
          obtain rfl := val_okV hp4
          simp only [Bool.and_eq_true, beq_iff_eq, decide_eq_true_eq, okE, bne_iff_ne, ne_eq] at hg hb
          obtain ⟨rfl, hsz, hnz⟩ := hg
          have hu := elemT_slice he
          simp only [VA] at hv
          obtain ⟨t', n, hrt, hv⟩ := hv
          have hrt' : rtOf s.mem id = some (t', n) := hrt
          rw [rtOf_row hf] at hrt'
          obtain ⟨e1, e2⟩ := Prod.mk.inj (Option.some.inj hrt')
          subst e1
          subst e2
          rcases hv with ⟨b, hb2, hv⟩ | ⟨_, hn, _⟩
          · refine good_plain h (run_ hu hnz hv hb.1 hb.2) ?_ hK
            simp only [VA]
            exact ⟨b, u, xs.length, hb2, hrt, by omega, by rw [← hsz]; simp⟩
          · omega
    · simp [Rd.val] at hp2
  · simp [Rd.val] at hp2
theorem sound_index (h : Rel E.P X s mu ka cst act.tmps.toList w) {t : Nat} {x y : Operand} (ho : o.op = .index t x y) (hp : (evOp E fr o).val s.view = some p) (hK : Next E.P X (s.app o.dst p) cst act K) : o.wp E.P act w K Q := by
  simp only [evOp, ho] at hp
  obtain ⟨v, h1, hp1⟩ := val_bind hp
  obtain ⟨iv, h2, hp2⟩ := val_bind hp1
  clear hp hp1
  split at hp2
  · rename_i str k i hu
    obtain ⟨hb, hp3⟩ := val_chk hp2
    obtain rfl := val_okV hp3
    simp only [Bool.and_eq_true, decide_eq_true_eq] at hb
    have hx := va_pv (h.op h1)
    have hi := va_pv (h.op h2)
    simp only [VP] at hx hi
    have hlt : i.toNat < str.size := by omega
    refine good_plain (u := .int .u8 (str.get! i.toNat).toNat) h ?_ (by simp only [VA, VP]) hK
    have hget : str[i.toNat]? = some (str.get! i.toNat) := by
      rw [getElem?_pos str i.toNat hlt]
      congr 1
      cases str with
      | mk d =>
        have hlt' : i.toNat < d.size := hlt
        show d[i.toNat] = d[i.toNat]!
        rw [getElem!_pos d i.toNat hlt']
    simp [execOp, ho, hx, hi, Instr.index, Go.asIntOf, run_under hu, hb.1, hget]
  · simp [Rd.val] at hp2
theorem sound_field (h : Rel E.P X s mu ka cst act.tmps.toList w) {t f : Nat} {x : Operand} (ho : o.op = .field t x f) (hp : (evOp E fr o).val s.view = some p) (hK : Next E.P X (s.app o.dst p) cst act K) : o.wp E.P act w K Q := by
  simp only [evOp, ho] at hp
  obtain ⟨v, h1, hp1⟩ := val_bind hp
  clear hp
  have hx := h.op h1
  split at hp1
  · rename_i off ft cs hft
    obtain ⟨hg, hp2⟩ := val_guard hp1
    clear hp1
    obtain ⟨d, hd⟩ := Option.isSome_iff_exists.1 hg
    simp only [VA] at hx
    obtain ⟨vs, hx, hvs⟩ := hx
    unfold fieldT at hft
    split at hft
    · rename_i fs hfs
      split at hft
      · rename_i fd hfd
        cases hft
        have hsub := (hvs.drop fd.offset).take (sizeT E.P fd.type)
        cases ha : isAggT E.P fd.type with
        | true =>
          rw [ha] at hp2
          simp only at hp2
          obtain ⟨hl, hp3⟩ := val_guard hp2
          obtain rfl := val_okV hp3
          refine good_plain (u := .agg ((vs.drop fd.offset).take (sizeT E.P fd.type)).toArray) h ?_ (by simp only [VA]; exact ⟨_, rfl, hsub⟩) hK
          have := run_part_agg (w := w) (off := fd.offset) (cs := vs.toArray) hd ha
          simp [execOp, ho, hx, Instr.field, run_under hfs, hfd, Go.asAgg, this]
        | false =>
          rw [ha] at hp2
          cases hcs : (cs.drop fd.offset).take (sizeT E.P fd.type) with
          | nil => rw [hcs] at hp2; simp [Rd.val] at hp2
          | cons c cs2 =>
            cases cs2 with
            | cons c2 cs3 => rw [hcs] at hp2; simp [Rd.val] at hp2
            | nil =>
              rw [hcs] at hp2 hsub
              obtain rfl := val_okV hp2
              simp only [VAs] at hsub
              obtain ⟨u, us, hu1, hu2, rfl⟩ := hsub
              have hget : (vs.toArray).toList[fd.offset]? = some u := by
                have : ((vs.drop fd.offset).take (sizeT E.P fd.type))[0]? = some u := by rw [hu1]; rfl
                rw [List.getElem?_take] at this
                split at this
                · simpa using this
                · cases this
              refine good_plain (u := u) h ?_ hu2 hK
              have := run_part_cell (w := w) hd ha hget
              simp [execOp, ho, hx, Instr.field, run_under hfs, hfd, Go.asAgg, this]
      · cases hft
    · cases hft
  · simp [Rd.val] at hp1
end
end Go.Proofs.YtkdbccloniaogaaS
