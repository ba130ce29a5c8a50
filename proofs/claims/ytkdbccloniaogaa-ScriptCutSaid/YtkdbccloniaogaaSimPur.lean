/- Values as data: a value that says something, taken as data, and what it shares from then on. Conditions: none; small laws. -/
import Derived.Test.YtkdbccloniaogaaSimOps
set_option linter.unusedVariables false
set_option linter.unusedSimpArgs false
namespace Go.Proofs.YtkdbccloniaogaaS
open Go Go.RowKit

theorem setOb_self (id : Nat) (o : Ob) : ∀ (m : List (Nat × Ob)), findOb id m = some o → setOb id o m = m
  | [], h => rfl
  | (j, q) :: m, h => by
    by_cases e : j = id
    · simp only [findOb, if_pos e, Option.some.injEq] at h
      simp [setOb, e, h]
    · simp only [findOb, if_neg e] at h
      simp [setOb, e, setOb_self id o m h]
/-- Some arrays that might have been written may not be any more. -/
def Dem (m0 m : List (Nat × Ob)) : Prop := ∀ id, findOb id m = findOb id m0 ∨ ∃ t xs, findOb id m0 = some (.row 2 t xs) ∧ findOb id m = some (.row 1 t xs)
theorem Dem.refl (m : List (Nat × Ob)) : Dem m m := fun _ => .inl rfl
/-- Where no array that may be written is met, nothing is told. -/
def effOn (m : List (Nat × Ob)) (es : List Eff) : List (Nat × Ob) := es.foldl Eff.on m
theorem effOn_append (m : List (Nat × Ob)) (a b : List Eff) : effOn m (a ++ b) = effOn (effOn m a) b := List.foldl_append ..
section
variable {P : Program} {X : Out} {s : St} {mu : Nat → Option Nat} {ka : Nat → Nat} {cst : List (List Value)} {a : List Value} {w : World}
theorem va_pv {m : List (Nat × Ob)} {p : PV} {u : Value} (h : VA P (cx P X m mu ka w) (.pv p) u) : VP P w (Smut P X.S0 m mu) p u := by
  simp only [VA] at h
  exact h
theorem Rel.ownList (h : Rel P X s mu ka cst a w) {id m t : Nat} {xs : List (List PV)} {u : Value} (hf : findOb id s.mem = some (.row m t xs)) (hm : m ≤ 1) (hv : VA P (cx P X s.mem mu ka w) (.own id) u) :
    VP P w (Smut P X.S0 s.mem mu) (.list t xs) u := by
  simp only [VA] at hv
  obtain ⟨t', n, hrt, hv⟩ := hv
  have hrt' : rtOf s.mem id = some (t', n) := hrt
  rw [rtOf_row hf] at hrt'
  cases hrt'
  rcases hv with ⟨b, hb, rfl⟩ | ⟨hb, hn, A, rfl⟩
  · simp only [VP]
    rcases Nat.lt_or_ge m 1 with hm0 | hm1
    · have : m = 0 := by omega
      subst this
      rcases h.obs id _ hf with ⟨b', hb', h1, h2, h3, us, h4, h5⟩ | ⟨q, _⟩
      · have hb2 : mu id = some b := hb
        rw [hb2] at hb'; cases hb'
        exact ⟨some ⟨b, 0, none⟩, ka id, us, rfl, h3, h1, h4, h5⟩
      · have hb2 : mu id = some b := hb
        rw [hb2] at q; cases q
    · have : m = 0 + 1 := by omega
      subst this
      obtain ⟨h1, h2, h3, vs, h4, h5, h6, h7⟩ := h.rowAt hf hb
      refine ⟨some ⟨b, 0, none⟩, ka id, _, rfl, h3, h1, .inr ⟨b, 0, rfl, fun j u hu => ?_, fun j hj => ?_⟩, h7⟩
      · rw [cell_of_row w b (0 + j) vs t (0, 0) h4, Nat.zero_add]
        rw [List.getElem?_take] at hu
        split at hu
        · simpa using hu
        · cases hu
      · refine h.still hf trivial hb fun q => ?_
        have q' : xs.length * (kinds P t).length ≤ 0 + j := q
        simp only [List.length_take] at hj
        omega
  · obtain rfl := List.length_eq_zero_iff.1 hn
    simp only [VP]
    exact ⟨A, 0, [], rfl, Nat.le_refl _, by simp, .inl rfl, by simp [VPss]⟩
/-- What a purifying step leaves. -/
structure Purged (P : Program) (X : Out) (s : St) (m0 mem' : List (Nat × Ob)) (mu : Nat → Option Nat) (ka : Nat → Nat) (cst : List (List Value)) (a : List Value) (w : World) : Prop where
  le : (cx P X s.mem mu ka w).Le (cx P X mem' mu ka w)
  rel : Rel P X { s with mem := mem' } mu ka cst a w
  dem : Dem m0 mem'
theorem Purged.refl (h : Rel P X s mu ka cst a w) {m0 : List (Nat × Ob)} (hd : Dem m0 s.mem) : Purged P X s m0 s.mem mu ka cst a w := ⟨Cx.Le.refl _, h, hd⟩
theorem pur1_sound (h : Rel P X s mu ka cst a w) {v0 : View} {m0 : List (Nat × Ob)} (hv0 : v0.find = fun id => findOb id m0) (hd : Dem m0 s.mem) {k : K} {v : AV} {u : Value} {p : PV × List Eff} (hp : (pur1 k v).val v0 = some p)
    (hv : VA P (cx P X s.mem mu ka w) v u) : Purged P X s m0 (effOn s.mem p.2) mu ka cst a w ∧ VP P w (Smut P X.S0 (effOn s.mem p.2) mu) p.1 u ∧ cf k p.1 := by
  have same : ∀ {q : PV}, p = (q, []) → VP P w (Smut P X.S0 s.mem mu) q u → cf k q → Purged P X s m0 (effOn s.mem p.2) mu ka cst a w ∧ VP P w (Smut P X.S0 (effOn s.mem p.2) mu) p.1 u ∧ cf k p.1 := by
    rintro q rfl h1 h2
    exact ⟨Purged.refl h hd, h1, h2⟩
  unfold pur1 at hp
  split at hp
  · obtain ⟨hk, hp⟩ := val_guard hp
    simp only [Rd.val, Option.some.injEq] at hp
    obtain rfl := of_decide_eq_true hk
    exact same hp.symm (va_pv hv) ⟨_, rfl⟩
  · simp only [Rd.val, Option.some.injEq] at hp
    exact same hp.symm (va_pv hv) ⟨_, rfl⟩
  · simp only [Rd.val, Option.some.injEq] at hp
    exact same hp.symm (va_pv hv) ⟨_, rfl⟩
  · obtain ⟨hk, hp⟩ := val_guard hp
    simp only [Rd.val, Option.some.injEq] at hp
    obtain rfl := eq_of_beq hk
    exact same hp.symm (va_pv hv) ⟨_, rfl⟩
  · rename_i t u' xs
    simp only [VA] at hv
    obtain ⟨A, us, rfl, h1, h2, h3⟩ := hv
    split at hp
    · rename_i hk
      simp only [Rd.val, Option.some.injEq] at hp
      obtain rfl := eq_of_beq hk
      refine same hp.symm ?_ ⟨_, rfl⟩
      simp only [VP]
      exact ⟨A, xs.length, us, rfl, Nat.le_refl _, h1, h2, h3⟩
    · split at hp
      · simp only [Rd.val, Option.some.injEq] at hp
        refine same hp.symm ?_ ⟨_, rfl⟩
        simp only [VP]
        exact ⟨A, 0, [], rfl, Nat.le_refl _, by simp, .inl rfl, by simp [VPss]⟩
      · simp [Rd.val] at hp
  · rename_i t id
    simp only [Rd.val, View.row, hv0] at hp
    cases hfi : findOb id m0 with
    | none => rw [hfi] at hp; simp [Rd.val] at hp
    | some ob =>
      cases ob with
      | box cs => rw [hfi] at hp; simp [Rd.val] at hp
      | row m u' xs =>
        rw [hfi] at hp
        simp only at hp
        obtain ⟨hk, hp⟩ := val_guard hp
        obtain rfl := eq_of_beq hk
        have low : ∀ m, m ≤ 1 → findOb id m0 = some (.row m u' xs) → findOb id s.mem = some (.row m u' xs) := fun m hm q => by
          rcases hd id with e | ⟨t', xs', e1, e2⟩
          · rw [e]; exact q
          · rw [q] at e1; cases e1; omega
        split at hp
        · simp only [Rd.val, Option.some.injEq] at hp
          exact same hp.symm (h.ownList (low 0 (by omega) hfi) (by omega) hv) ⟨_, rfl⟩
        · simp only [Rd.val, Option.some.injEq] at hp
          exact same hp.symm (h.ownList (low 1 (by omega) hfi) (by omega) hv) ⟨_, rfl⟩
        · simp only [Rd.val, Option.some.injEq] at hp
          subst hp
          rcases hd id with e | ⟨t', xs', e1, e2⟩
          · have hf2 : findOb id s.mem = some (.row 2 u' xs) := e.trans hfi
            obtain ⟨hl, hr⟩ := h.demote hf2
            have hf1 := findOb_setOb_same id (.row 1 u' xs) s.mem hf2
            refine ⟨⟨hl, hr, fun i => ?_⟩, hr.ownList hf1 (by omega) (VA.le hl _ _ hv), ⟨_, rfl⟩⟩
            by_cases ei : i = id
            · subst ei
              exact .inr ⟨u', xs, hfi, hf1⟩
            · have e5 : findOb i (effOn s.mem [.rset id 1 u' xs]) = findOb i s.mem := findOb_setOb_other id i _ ei s.mem
              show findOb i (effOn s.mem [.rset id 1 u' xs]) = _ ∨ ∃ t xs2, _ ∧ findOb i (effOn s.mem [.rset id 1 u' xs]) = _
              rw [e5]
              exact hd i
          · rw [hfi] at e1; cases e1
            have e3 : effOn s.mem [.rset id 1 u' xs] = s.mem := setOb_self id _ _ e2
            rw [e3]
            exact ⟨Purged.refl h hd, h.ownList e2 (by omega) hv, ⟨_, rfl⟩⟩
        · simp [Rd.val] at hp
  · simp only [Rd.val, Option.some.injEq] at hp
    exact same hp.symm (va_pv hv) (.inl ⟨_, rfl⟩)
  · simp only [Rd.val, Option.some.injEq] at hp
    exact same hp.symm (va_pv hv) (.inr rfl)
  · simp only [Rd.val, Option.some.injEq] at hp
    refine same hp.symm ?_ (.inl ⟨_, rfl⟩)
    simp only [VA] at hv
    obtain ⟨as, bs, rfl, h1, h2⟩ := hv
    simp only [VAs] at h1 h2
    subst h1; subst h2
    simp [VP]
  · simp [Rd.val] at hp
theorem purs_sound {v0 : View} {m0 : List (Nat × Ob)} (hv0 : v0.find = fun id => findOb id m0) : ∀ {ks : List K} {vs : List AV} {us : List Value} {s : St} {p : List PV × List Eff}, Rel P X s mu ka cst a w → Dem m0 s.mem → (purs ks vs).val v0 = some p →
    VAs P (cx P X s.mem mu ka w) vs us → Purged P X s m0 (effOn s.mem p.2) mu ka cst a w ∧ VPs P w (Smut P X.S0 (effOn s.mem p.2) mu) p.1 us ∧ cfs ks p.1
  | [], [], us, s, p, h, hd, hp, hv => by
    simp only [purs, Rd.val, Option.some.injEq] at hp
    subst hp
    simp only [VAs] at hv
    subst hv
    exact ⟨Purged.refl h hd, by simp [VPs], trivial⟩
  | k :: ks, v :: vs, us, s, p, h, hd, hp, hv => by
    simp only [purs] at hp
    obtain ⟨p1, h1, hp⟩ := val_bind hp
    obtain ⟨p2, h2, hp⟩ := val_bind hp
    simp only [Rd.val, Option.some.injEq] at hp
    subst hp
    simp only [VAs] at hv
    obtain ⟨u, us, rfl, hv1, hv2⟩ := hv
    obtain ⟨g1, g2, g3⟩ := pur1_sound h hv0 hd h1 hv1
    obtain ⟨k1, k2, k3⟩ := purs_sound hv0 g1.rel g1.dem h2 (VAs.le g1.le _ _ hv2)
    rw [effOn_append]
    refine ⟨⟨g1.le.trans k1.le, k1.rel, k1.dem⟩, ?_, g3, k3⟩
    simp only [VPs]
    exact ⟨u, us, rfl, VP.keep k1.le.keep _ _ g2, k2⟩
  | [], _ :: _, us, s, p, h, hd, hp, hv => by simp [purs, Rd.val] at hp
  | _ :: _, [], us, s, p, h, hd, hp, hv => by simp [purs, Rd.val] at hp
/-- Data of a type: of its kinds. -/
def cfT (P : Program) (t : Nat) : PV → Prop
  | .agg cs => isAggT P t = true ∧ cfs (kinds P t) cs
  | p => isAggT P t = false ∧ ∃ k, kinds P t = [k] ∧ cf k p
theorem cfT.cells {t : Nat} {p : PV} (h : cfT P t p) : cfs (kinds P t) p.cells := by
  cases p <;> simp only [cfT] at h
  case agg cs => exact h.2
  all_goals
    obtain ⟨_, k, hk, h2⟩ := h
    rw [hk]
    exact ⟨h2, trivial⟩
theorem cf_not_agg {k : K} {cs : List PV} (h : cf k (.agg cs)) : False := by
  have := h.one
  simp [PV.one] at this
theorem purV_sound (h : Rel P X s mu ka cst a w) {v0 : View} {m0 : List (Nat × Ob)} (hv0 : v0.find = fun id => findOb id m0) (hd : Dem m0 s.mem) {t : Nat} {v : AV} {u : Value} {p : PV × List Eff} (hp : (purV P t v).val v0 = some p)
    (hv : VA P (cx P X s.mem mu ka w) v u) : Purged P X s m0 (effOn s.mem p.2) mu ka cst a w ∧ VP P w (Smut P X.S0 (effOn s.mem p.2) mu) p.1 u ∧ cfT P t p.1 := by
  unfold purV at hp
  split at hp
  · rename_i cs ha
    obtain ⟨q, h1, hp⟩ := val_bind hp
    simp only [Rd.val, Option.some.injEq] at hp
    subst hp
    simp only [VA] at hv
    obtain ⟨vs, rfl, hv⟩ := hv
    obtain ⟨g1, g2, g3⟩ := purs_sound hv0 h hd h1 hv
    refine ⟨g1, ?_, ha, g3⟩
    simp only [VP]
    exact ⟨vs, rfl, g2⟩
  · rename_i ha
    split at hp
    · rename_i k hk
      obtain ⟨g1, g2, g3⟩ := pur1_sound h hv0 hd hp hv
      refine ⟨g1, g2, ?_⟩
      cases hq : p.1 with
      | agg cs => rw [hq] at g3; exact (cf_not_agg g3).elim
      | _ => rw [hq] at g3; exact ⟨ha, k, hk, g3⟩
    · simp [Rd.val] at hp
  · simp [Rd.val] at hp
theorem purArgs_sound {v0 : View} {m0 : List (Nat × Ob)} (hv0 : v0.find = fun id => findOb id m0) : ∀ {ts : List Nat} {vs : List AV} {us : List Value} {s : St} {p : List PV × List Eff}, Rel P X s mu ka cst a w → Dem m0 s.mem → (purArgs P ts vs).val v0 = some p →
    VAs P (cx P X s.mem mu ka w) vs us → Purged P X s m0 (effOn s.mem p.2) mu ka cst a w ∧ VPs P w (Smut P X.S0 (effOn s.mem p.2) mu) p.1 us
  | [], [], us, s, p, h, hd, hp, hv => by
    simp only [purArgs, Rd.val, Option.some.injEq] at hp
    subst hp
    simp only [VAs] at hv
    subst hv
    exact ⟨Purged.refl h hd, by simp [VPs]⟩
  | t :: ts, v :: vs, us, s, p, h, hd, hp, hv => by
    simp only [purArgs] at hp
    obtain ⟨p1, h1, hp⟩ := val_bind hp
    obtain ⟨p2, h2, hp⟩ := val_bind hp
    simp only [Rd.val, Option.some.injEq] at hp
    subst hp
    simp only [VAs] at hv
    obtain ⟨u, us, rfl, hv1, hv2⟩ := hv
    obtain ⟨g1, g2, g3⟩ := purV_sound h hv0 hd h1 hv1
    obtain ⟨k1, k2⟩ := purArgs_sound hv0 g1.rel g1.dem h2 (VAs.le g1.le _ _ hv2)
    rw [effOn_append]
    refine ⟨⟨g1.le.trans k1.le, k1.rel, k1.dem⟩, ?_⟩
    simp only [VPs]
    exact ⟨u, us, rfl, VP.keep k1.le.keep _ _ g2, k2⟩
  | [], _ :: _, us, s, p, h, hd, hp, hv => by simp [purArgs, Rd.val] at hp
  | _ :: _, [], us, s, p, h, hd, hp, hv => by simp [purArgs, Rd.val] at hp
/-- The elements of a slice that is looked at. -/
theorem elems_sound (h : Rel P X s mu ka cst a w) {v : AV} {u : Value} {y : Nat × List (List PV)} (hp : (elems v).val s.view = some y) (hv : VA P (cx P X s.mem mu ka w) v u) :
    ∃ A k us, u = .slice A y.2.length k ∧ y.2.length ≤ k ∧ (∀ e ∈ y.2, cfs (kinds P y.1) e) ∧ (us = [] ∨ ∃ b o, A = some ⟨b, o, none⟩ ∧ w.rangeAt b o us) ∧ VPss P w (Smut P X.S0 s.mem mu) y.2 us := by
  have lies : ∀ {A : Option Addr} {us : List Value}, Lies w (Smut P X.S0 s.mem mu) A us → (us = [] ∨ ∃ b o, A = some ⟨b, o, none⟩ ∧ w.rangeAt b o us) := fun q => q.imp id fun ⟨b, o, h1, h2, _⟩ => ⟨b, o, h1, h2⟩
  unfold elems at hp
  split at hp
  · simp only [Rd.val, Option.some.injEq] at hp
    subst hp
    simp only [VA, VP] at hv
    obtain ⟨A, k, us, rfl, h1, h2, h3, h4⟩ := hv
    exact ⟨A, k, us, rfl, h1, h2, lies h3, h4⟩
  · simp only [Rd.val, Option.some.injEq] at hp
    subst hp
    simp only [VA] at hv
    obtain ⟨A, us, rfl, h2, h3, h4⟩ := hv
    exact ⟨A, _, us, rfl, Nat.le_refl _, h2, lies h3, h4⟩
  · rename_i id
    simp only [Rd.val, View.row, St.view] at hp
    cases hf : findOb id s.mem with
    | none => rw [hf] at hp; simp [Rd.val] at hp
    | some ob =>
      cases ob with
      | box cs => rw [hf] at hp; simp [Rd.val] at hp
      | row m t xs =>
        rw [hf] at hp
        simp only [Rd.val, Option.some.injEq] at hp
        subst hp
        by_cases hm : m ≤ 1
        · have := h.ownList hf hm hv
          simp only [VP] at this
          obtain ⟨A, k, us, rfl, h1, h2, h3, h4⟩ := this
          exact ⟨A, k, us, rfl, h1, h2, lies h3, h4⟩
        · simp only [VA] at hv
          obtain ⟨t', n, hrt, hv⟩ := hv
          have hrt' : rtOf s.mem id = some (t', n) := hrt
          rw [rtOf_row hf] at hrt'
          cases hrt'
          obtain ⟨m', rfl⟩ : ∃ m', m = m' + 1 := ⟨m - 1, by omega⟩
          rcases hv with ⟨b, hb, rfl⟩ | ⟨hb, hn, A, rfl⟩
          · obtain ⟨h1, h2, h3, vs, h4, h5, h6, h7⟩ := h.rowAt hf hb
            refine ⟨_, _, _, rfl, h3, h1, .inr ⟨b, 0, rfl, fun j u hu => ?_⟩, h7⟩
            rw [cell_of_row w b (0 + j) vs t (0, 0) h4, Nat.zero_add]
            rw [List.getElem?_take] at hu
            split at hu
            · simpa using hu
            · cases hu
          · obtain rfl := List.length_eq_zero_iff.1 hn
            exact ⟨A, 0, [], rfl, Nat.le_refl _, by simp, .inl rfl, by simp [VPss]⟩
  · simp [Rd.val] at hp
end
end Go.Proofs.YtkdbccloniaogaaS
