/- Two operands: numbers, strings, bools, structs that are compared. Conditions: none. -/
import Derived.Test.YtkdbccloniaogaaSimOp1
set_option linter.unusedVariables false
set_option linter.unusedSimpArgs false
namespace Go.Proofs.YtkdbccloniaogaaS
open Go Go.RowKit

section
variable {P : Program} {w : World} {c : Cx}
theorem info_of_under {t : Nat} {d : TypeDesc} (h : P.underlying t = some d) : ∃ i, P.info? t = some i := by
  unfold Program.underlying at h
  split at h
  · exact ⟨_, ‹_›⟩
  · exact ⟨_, ‹_›⟩
  · cases h
theorem run_isAgg {t : Nat} {d : TypeDesc} (h : P.underlying t = some d) : (isAgg t).run P w = .ok (isAggT P t) w := by
  unfold isAgg isAggT
  rw [Sem.run_bind, run_under h, Result.andThen_ok, h]
  cases d <;> rfl
theorem run_size {t : Nat} {i : TypeInfo} (h : P.info? t = some i) : (sizeOf t).run P w = .ok (sizeT P t) w := by
  simp [sizeOf, typeInfo, h, sizeT]
theorem run_part_agg {t off : Nat} {cs : Array Value} {d : TypeDesc} (h : P.underlying t = some d) (ha : isAggT P t = true) :
    (part t cs off).run P w = .ok (.agg ((cs.toList.drop off).take (sizeT P t)).toArray) w := by
  obtain ⟨i, hi⟩ := info_of_under h
  unfold part
  rw [Sem.run_bind, run_isAgg h, Result.andThen_ok, ha]
  simp only [if_true, Sem.run_bind, run_size hi, Result.andThen_ok, Sem.run_pure, Sem.run_map]
  congr 2
  apply Array.ext'
  simp [List.take_drop]
theorem run_part_cell {t off : Nat} {cs : Array Value} {d : TypeDesc} {v : Value} (h : P.underlying t = some d) (ha : isAggT P t = false) (hv : cs.toList[off]? = some v) :
    (part t cs off).run P w = .ok v w := by
  unfold part
  rw [Sem.run_bind, run_isAgg h, Result.andThen_ok, ha]
  have : cs[off]? = some v := by rw [← hv]; simp
  simp [this]
/-- A value of a type out of its cells. -/
def ofCells (P : Program) (t : Nat) (vs : List Value) (x : Value) : Prop := (isAggT P t = true ∧ x = .agg vs.toArray) ∨ (isAggT P t = false ∧ vs = [x])
theorem eqCell_sound {td : TypeDesc} {as bs : List AV} {r : Bool} (h : eqCell td as bs = some r) {vs us : List Value} (h1 : VAs P c as vs) (h2 : VAs P c bs us) {t : Nat} (ht : P.underlying t = some td) (D : Nat) :
    ∃ x y, vs = [x] ∧ us = [y] ∧ (Op.equalIn (D + 1) t x y).run P w = .ok r w := by
  unfold eqCell at h
  split at h
  · rename_i k i x j y
    simp only [VAs, VA, VP] at h1 h2
    obtain ⟨_, _, rfl, rfl, rfl⟩ := h1
    obtain ⟨_, _, rfl, rfl, rfl⟩ := h2
    split at h
    · rename_i hk
      obtain rfl := of_decide_eq_true hk
      cases h
      exact ⟨_, _, rfl, rfl, run_equalIn_int w D t i _ x y ht⟩
    · cases h
  · simp only [VAs, VA, VP] at h1 h2
    obtain ⟨_, _, rfl, rfl, rfl⟩ := h1
    obtain ⟨_, _, rfl, rfl, rfl⟩ := h2
    cases h
    exact ⟨_, _, rfl, rfl, run_equalIn_bool' w D t _ _ ht⟩
  · simp only [VAs, VA, VP] at h1 h2
    obtain ⟨_, _, rfl, rfl, rfl⟩ := h1
    obtain ⟨_, _, rfl, rfl, rfl⟩ := h2
    cases h
    exact ⟨_, _, rfl, rfl, run_equalIn_string w D t _ _ ht⟩
  · cases h
theorem eqT_sound : ∀ (d : Nat) {t : Nat} {as bs : List AV} {r : Bool}, eqT P d t as bs = some r → ∀ {vs us : List Value}, VAs P c as vs → VAs P c bs us → ∀ (k : Nat),
    ∃ x y, ofCells P t vs x ∧ ofCells P t us y ∧ (∃ td, P.underlying t = some td) ∧ (Op.equalIn (d + k) t x y).run P w = .ok r w
  | 0, t, as, bs, r, h, vs, us, h1, h2, k => by simp [eqT] at h
  | d + 1, t, as, bs, r, h, vs, us, h1, h2, k => by
    rw [eqT] at h
    dsimp only at h
    split at h
    · rename_i fs ht
      split at h
      · cases h
      · rename_i hp
        have ha : isAggT P t = true := by simp [isAggT, ht]
        have hfs : P.fieldsOf t = fs := by simp [Program.fieldsOf, ht]
        refine ⟨.agg vs.toArray, .agg us.toArray, .inl ⟨ha, rfl⟩, .inl ⟨ha, rfl⟩, ⟨_, ht⟩, ?_⟩
        rw [show d + 1 + k = (d + k) + 1 by omega, run_equalIn_struct w (d + k) t _ _ (by rw [hfs]; exact ht) hp, hfs]
        clear ht hfs hp ha
        generalize fs.toList = fl at h ⊢
        induction fl generalizing r with
        | nil =>
          simp only [eqFs, Option.some.injEq] at h
          subst h
          simp [Op.eqFields]
        | cons f fl ih =>
          simp only [eqFs] at h
          split at h
          · rename_i a b hn ha hb
            cases h
            have hn' : f.name ≠ "_" := by simpa using hn
            obtain ⟨x, y, hx, hy, ⟨td, htd⟩, hr⟩ := eqT_sound d ha ((h1.drop f.offset).take (sizeT P f.type)) ((h2.drop f.offset).take (sizeT P f.type)) k
            have px : (part f.type vs.toArray f.offset).run P w = .ok x w := by
              rcases hx with ⟨q, rfl⟩ | ⟨q, hq⟩
              · exact run_part_agg htd q
              · refine run_part_cell htd q ?_
                have : ((vs.drop f.offset).take (sizeT P f.type))[0]? = some x := by rw [hq]; rfl
                rw [List.getElem?_take] at this
                split at this
                · simpa using this
                · cases this
            have py : (part f.type us.toArray f.offset).run P w = .ok y w := by
              rcases hy with ⟨q, rfl⟩ | ⟨q, hq⟩
              · exact run_part_agg htd q
              · refine run_part_cell htd q ?_
                have : ((us.drop f.offset).take (sizeT P f.type))[0]? = some y := by rw [hq]; rfl
                rw [List.getElem?_take] at this
                split at this
                · simpa using this
                · cases this
            simp only [Op.eqFields, hn', ne_eq, not_false_eq_true, if_true, Sem.run_bind, px, py, hr, Result.andThen_ok, Sem.run_ite]
            cases a
            · simp
            · simpa using ih _ hb
          · cases h
    · rename_i td hn ht
      obtain ⟨x, y, rfl, rfl, hr⟩ := eqCell_sound (w := w) h h1 h2 ht (d + k)
      have ha : isAggT P t = false := by
        unfold eqCell at h
        split at h
        · simp [isAggT, ht]
        · simp [isAggT, ht]
        · simp [isAggT, ht]
        · cases h
      exact ⟨x, y, .inr ⟨ha, rfl⟩, .inr ⟨ha, rfl⟩, ⟨_, ht⟩, by rw [show d + 1 + k = (d + k) + 1 by omega]; exact hr⟩
    · cases h
end
section
variable {P : Program} {X : Out} {s : St} {mu : Nat → Option Nat} {ka : Nat → Nat} {cst : List (List Value)} {act : Act} {w : World} {E : Env} {fr : Nat} {o : Oper} {p : AV × List Eff} {K : Act → World → Prop} {Q : Exit → Act → World → Prop}
theorem binA_sound {c : Cx} {v0 : View} {op : BinOp} {t : Nat} {x y : AV} {q : PV} (hq : (binA P op t x y).val v0 = some q) {u v : Value} (hu : VA P c x u) (hv : VA P c y v) (xo yo : Operand) :
    ((eqGuard op t xo yo u v).run P w = .ok () w) ∧ (binOp op t u v).run P w = .ok (pval q) w ∧ scal q := by
  unfold binA at hq
  split at hq
  · rename_i k a j b
    simp only [VA, VP] at hu hv
    subst hu; subst hv
    refine ⟨run_guard_int op t xo yo k j a b w, ?_⟩
    split at hq
    · exact shift_sound hq (.inl rfl) t w
    · exact shift_sound hq (.inr rfl) t w
    · rename_i n1 n2
      obtain ⟨hk, hq2⟩ := val_guard hq
      obtain rfl := of_decide_eq_true hk
      exact arith_sound hq2 ⟨n1, n2⟩ t w
  · simp only [VA, VP] at hu hv
    subst hu; subst hv
    exact ⟨run_guard_str op t xo yo _ _ w, str_sound hq t w⟩
  · rename_i a b
    simp only [VA, VP] at hu hv
    subst hu; subst hv
    refine ⟨run_guard_bool op t xo yo _ _ w, ?_⟩
    split at hq
    · split at hq
      · rename_i ht
        simp only [Rd.val, Option.some.injEq] at hq
        subst hq
        exact ⟨by simp [binOp, Op.equal, Op.maxDepth, run_equalIn_bool' w 9999 t a b ht, pval], trivial⟩
      · simp [Rd.val] at hq
    · split at hq
      · rename_i ht
        simp only [Rd.val, Option.some.injEq] at hq
        subst hq
        exact ⟨by simp [binOp, Op.equal, Op.maxDepth, run_equalIn_bool' w 9999 t a b ht, pval], trivial⟩
      · simp [Rd.val] at hq
    · simp [Rd.val] at hq
  · rename_i xs ys
    obtain ⟨hg, hq2⟩ := val_guard hq
    simp only [Bool.and_eq_true, Bool.not_eq_true'] at hg
    simp only [VA] at hu hv
    obtain ⟨vs, rfl, hvs⟩ := hu
    obtain ⟨us, rfl, hus⟩ := hv
    refine ⟨run_eqGuard_agg w op t xo yo _ _ hg.2, ?_⟩
    have key : ∀ r, eqT P 20 t xs ys = some r → (Op.equalIn 10000 t (.agg vs.toArray) (.agg us.toArray)).run P w = .ok r w := by
      intro r hr
      obtain ⟨x, y, hx, hy, _, he⟩ := eqT_sound (w := w) 20 hr hvs hus 9980
      rcases hx with ⟨_, rfl⟩ | ⟨q, _⟩
      · rcases hy with ⟨_, rfl⟩ | ⟨q, _⟩
        · exact he
        · rw [hg.1] at q; cases q
      · rw [hg.1] at q; cases q
    clear hq
    cases he : eqT P 20 t xs ys with
    | none => rw [he] at hq2; simp [Rd.val] at hq2
    | some b =>
      rw [he] at hq2
      cases op <;> simp only [Rd.val, Option.some.injEq, reduceCtorEq] at hq2
      case eql =>
        subst hq2
        exact ⟨by rw [run_eql_struct, key b he]; rfl, trivial⟩
      case neq =>
        subst hq2
        exact ⟨by rw [run_neq_struct, key b he]; rfl, trivial⟩
  · simp [Rd.val] at hq
theorem sound_binOp (h : Rel E.P X s mu ka cst act.tmps.toList w) {op : BinOp} {t t2 : Nat} {x y : Operand} (ho : o.op = .binOp op t x y t2) (hp : (evOp E fr o).val s.view = some p) (hK : Next E.P X (s.app o.dst p) cst act K) : o.wp E.P act w K Q := by
  simp only [evOp, ho] at hp
  obtain ⟨u, h1, hp⟩ := val_bind hp
  obtain ⟨v, h2, hp⟩ := val_bind hp
  obtain ⟨q, h3, hp⟩ := val_bind hp
  obtain rfl := val_okV hp
  obtain ⟨g1, g2, g3⟩ := binA_sound (w := w) h3 (h.op h1) (h.op h2) x y
  refine good_plain (u := pval q) h ?_ (by simp only [VA]; exact g3.vp _ _) hK
  simp only [execOp, ho, Sem.run_bind, g1, g2, Result.andThen_ok, Sem.run_pure]
end
end Go.Proofs.YtkdbccloniaogaaS
