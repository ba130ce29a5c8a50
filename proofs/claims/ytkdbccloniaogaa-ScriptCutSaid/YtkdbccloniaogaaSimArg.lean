/- How an argument that came in is opened: as data, with each number in it of its kind. Conditions: the types' own shapes, which a test asks. -/
import Derived.Test.YtkdbccloniaogaaSimUse
import Derived.SizedLaws
import Derived.Deep.Slices
import Derived.ChangeArms
import Derived.WideShapes
set_option linter.unusedVariables false
set_option linter.unusedSimpArgs false
namespace Go.Proofs.YtkdbccloniaogaaS
open Go Go.RowKit Go.ChangeShapes Go.WideShapes

mutual
/-- Numbers of their kinds, lengths that there can be. -/
def Wf : PV → Prop
  | .int k n => (Lit.int k n).wf = true
  | .bool _ => True
  | .str s => s.size ≤ maxLen
  | .list _ xs => xs.length ≤ maxLen ∧ Wfss xs
  | .agg cs => Wfs cs
  | _ => False
def Wfs : List PV → Prop
  | [] => True
  | c :: cs => Wf c ∧ Wfs cs
def Wfss : List (List PV) → Prop
  | [] => True
  | e :: xs => Wfs e ∧ Wfss xs
end
theorem Wfs.append : ∀ {as bs : List PV}, Wfs as → Wfs bs → Wfs (as ++ bs)
  | [], _, _, h => h
  | _ :: _, _, h, k => by
    simp only [Wfs] at h
    simp only [List.cons_append, Wfs]
    exact ⟨h.1, Wfs.append h.2 k⟩
theorem Wfss.snoc : ∀ {xs : List (List PV)} {e : List PV}, Wfss xs → Wfs e → Wfss (xs ++ [e])
  | [], _, _, k => ⟨k, trivial⟩
  | _ :: _, _, h, k => by
    simp only [Wfss] at h
    simp only [List.cons_append, Wfss]
    exact ⟨h.1, Wfss.snoc h.2 k⟩
theorem Wfss.mem : ∀ {xs : List (List PV)}, Wfss xs → ∀ e ∈ xs, Wfs e
  | _ :: _, h, e, he => by
    simp only [Wfss] at h
    rcases List.mem_cons.1 he with rfl | he
    · exact h.1
    · exact h.2.mem e he
theorem cfs.append : ∀ {ks ls : List K} {as bs : List PV}, cfs ks as → cfs ls bs → cfs (ks ++ ls) (as ++ bs)
  | [], _, [], _, _, h => h
  | _ :: _, _, _ :: _, _, h, k => ⟨h.1, cfs.append h.2 k⟩
  | [], _, _ :: _, _, h, _ => h.elim
  | _ :: _, _, [], _, h, _ => h.elim
theorem VPs.append {P : Program} {w : World} {S : Nat → Nat → Prop} : ∀ {as bs : List PV} {vs us : List Value}, VPs P w S as vs → VPs P w S bs us → VPs P w S (as ++ bs) (vs ++ us)
  | [], _, _, _, h, k => by
    simp only [VPs] at h
    subst h
    simpa using k
  | a :: as, _, _, _, h, k => by
    simp only [VPs] at h
    obtain ⟨u, us, rfl, h1, h2⟩ := h
    simp only [List.cons_append, VPs]
    exact ⟨u, _, rfl, h1, VPs.append h2 k⟩
theorem VPs.mk0 {P : Program} {w : World} {S : Nat → Nat → Prop} : VPs P w S [] [] := by simp only [VPs]
theorem VPs.mk {P : Program} {w : World} {S : Nat → Nat → Prop} {c : PV} {u : Value} {cs : List PV} {us : List Value} (h : VP P w S c u) (k : VPs P w S cs us) : VPs P w S (c :: cs) (u :: us) := by
  simp only [VPs]
  exact ⟨u, us, rfl, h, k⟩
def opensF (P : Program) (o : Nat → Bool) (kd : Nat → List K) (total : Nat) : List Field → Nat → Bool
  | [], off => off == total
  | f :: fs, off => f.offset == off && (o f.type && (P.cellsOf f.type == (kd f.type).length && opensF P o kd total fs (off + P.cellsOf f.type)))
/-- Types whose values open as data. -/
def opens (P : Program) : Nat → Nat → Bool
  | 0 => fun _ => false
  | n + 1 => fun t => match P.underlying t with
    | some (.int _) => true
    | some .bool => true
    | some .string => true
    | some (.slice e) => opens P n e && (P.cellsOf e == (kinds P e).length && decide (kindsT P n e = kinds P e))
    | some (.struct fs) => opensF P (opens P n) (kindsT P n) (P.cellsOf t) fs.toList 0
    | _ => false
theorem cells_some {w : World} {base : Nat} {a : Addr} {n : Nat} {cs : List Value} (h : w.cells? base a n = some cs) : cs.length = n ∧ ∀ i u, cs[i]? = some u → w.cell? (a.add i) = some u := by
  unfold World.cells? at h
  split at h
  · have hl := mapM_some_length h
    rw [List.length_range] at hl
    refine ⟨hl, fun i u hu => ?_⟩
    have hi : i < n := by rw [← hl]; exact (List.getElem?_eq_some_iff.1 hu).1
    have := mapM_some_get h i i (by simp [hi])
    rw [this, hu]
  · cases h
abbrev No : Nat → Nat → Prop := fun _ _ => False
section
variable {P : Program}
theorem opened_fields {n : Nat} (ih : ∀ t, opens P n t = true → ∀ (H : Type) (enc : TypeId × Value → H) (w : World) (base : Nat) (spare : Nat → Bool) (held : Bool) (fuel : Nat) (cs : List Value) (x : DataW H × List MemPlace), DataW.trod enc P w base spare held fuel t cs = some x → ∃ ps, VPs P w No ps cs ∧ cfs (kindsT P n t) ps ∧ Wfs ps)
    (H : Type) (enc : TypeId × Value → H) (w : World) (base : Nat) (spare : Nat → Bool) (held : Bool) (fuel : Nat) (cs : List Value) (total : Nat) (hl : cs.length = total) :
    ∀ (fs : List Field) (off : Nat), opensF P (opens P n) (kindsT P n) total fs off = true → (∀ f ∈ fs, ∃ y : DataW H × List MemPlace, DataW.trod enc P w base spare held fuel f.type ((cs.drop f.offset).take (P.cellsOf f.type)) = some y) →
      ∃ ps, VPs P w No ps (cs.drop off) ∧ cfs (fs.flatMap fun f => kindsT P n f.type) ps ∧ Wfs ps
  | [], off, h, _ => by
    have h' : off = total := by simpa [opensF] using h
    refine ⟨[], ?_, trivial, trivial⟩
    rw [List.drop_of_length_le (by omega)]
    simp only [VPs]
  | f :: fs, off, h, hf => by
    simp only [opensF, Bool.and_eq_true, beq_iff_eq] at h
    obtain ⟨h1, h2, h3, h4⟩ := h
    obtain ⟨y, hy⟩ := hf f (by simp)
    obtain ⟨ps, g1, g2, g3⟩ := ih f.type h2 H enc w base spare held fuel _ _ hy
    obtain ⟨qs, k1, k2, k3⟩ := opened_fields ih H enc w base spare held fuel cs total hl fs (off + P.cellsOf f.type) h4 (fun g hg => hf g (by simp [hg]))
    refine ⟨ps ++ qs, ?_, ?_, g3.append k3⟩
    · rw [h1] at g1
      have := g1.append k1
      rwa [← List.drop_drop, List.take_append_drop] at this
    · rw [List.flatMap_cons]
      exact g2.append k2
theorem opened : ∀ (n t : Nat), opens P n t = true → ∀ (H : Type) (enc : TypeId × Value → H) (w : World) (base : Nat) (spare : Nat → Bool) (held : Bool) (fuel : Nat) (cs : List Value) (x : DataW H × List MemPlace),
    DataW.trod enc P w base spare held fuel t cs = some x → ∃ ps, VPs P w No ps cs ∧ cfs (kindsT P n t) ps ∧ Wfs ps
  | 0, t, h => by cases h
  | n + 1, t, h => by
    intro H enc w base spare held fuel cs x hx
    simp only [opens] at h
    split at h
    · rename_i k ht
      obtain ⟨m, rfl, _, hw⟩ := DataW.trod_int ht hx
      refine ⟨[.int k m], ?_, ?_, ?_⟩
      · simp [VPs, VP]
      · simp only [kindsT, ht]
        exact ⟨⟨m, rfl⟩, trivial⟩
      · simp only [Wfs, Wf]
        exact ⟨hw, trivial⟩
    · rename_i ht
      obtain ⟨b, rfl, _⟩ := DataW.trod_bool ht hx
      refine ⟨[.bool b], ?_, ?_, ?_⟩
      · simp [VPs, VP]
      · simp only [kindsT, ht]
        exact ⟨⟨b, rfl⟩, trivial⟩
      · simp [Wfs, Wf]
    · rename_i ht
      obtain ⟨s, rfl, _, hs⟩ := DataW.trod_string ht hx
      refine ⟨[.str s], ?_, ?_, ?_⟩
      · simp [VPs, VP]
      · simp only [kindsT, ht]
        exact ⟨⟨s, rfl⟩, trivial⟩
      · simp only [Wfs, Wf]
        exact ⟨hs, trivial⟩
    · rename_i e ht
      simp only [Bool.and_eq_true, beq_iff_eq, decide_eq_true_eq] at h
      obtain ⟨ho, hc, hk⟩ := h
      have kin : kindsT P (n + 1) t = [.list e] := by simp only [kindsT, ht]
      rw [kin]
      rcases Go.Deep.open_slice ht hx with ⟨rfl, _⟩ | ⟨a, len, cap, m, q, D, Pl, rfl, hb, hl, hm, hmm, _, hcell⟩
      · refine ⟨[.list e []], ?_, ⟨⟨[], rfl⟩, trivial⟩, ?_⟩
        · simp only [VPs, VP]
          exact ⟨_, [], rfl, ⟨none, 0, [], rfl, Nat.le_refl _, fun _ h => (by cases h), .inl rfl, rfl⟩, rfl⟩
        · simp [Wfs, Wf, Wfss]
      · have hlm : len ≤ m := by rw [hmm]; split <;> omega
        have key : ∀ k, k ≤ len → ∃ (xs : List (List PV)) (us : List Value), xs.length = k ∧ us.length = k * (kinds P e).length ∧ (∀ e' ∈ xs, cfs (kinds P e) e') ∧ Wfss xs ∧ VPss P w No xs us ∧ ∀ j v, us[j]? = some v → w.cell? (a.add j) = some v := by
          intro k
          induction k with
          | zero => exact fun _ => ⟨[], [], rfl, by simp, fun e' he => (by cases he), trivial, rfl, fun j v hv => (by simp at hv)⟩
          | succ k ihk =>
            intro hk'
            obtain ⟨xs, us, hx1, hu, hcf, hw, hv, hr⟩ := ihk (by omega)
            obtain ⟨cs', hcs, htr⟩ := hcell k (by omega)
            obtain ⟨ps, g1, g2, g3⟩ := opened n e ho H enc w base spare held q cs' _ htr
            rw [hk] at g2
            obtain ⟨h1, h2⟩ := cells_some hcs
            refine ⟨xs ++ [ps], us ++ cs', by simp [hx1], ?_, ?_, hw.snoc g3, hv.append (show VPss P w No [ps] cs' from ⟨cs', [], by simp, g1, rfl⟩), ?_⟩
            · rw [List.length_append, hu, h1, hc, Nat.succ_mul]
            · intro e' he
              rcases List.mem_append.1 he with he | he
              · exact hcf e' he
              · rw [List.mem_singleton.1 he]
                exact g2
            · intro j v hv'
              rcases Nat.lt_or_ge j us.length with hj | hj
              · rw [List.getElem?_append_left hj] at hv'
                exact hr j v hv'
              · rw [List.getElem?_append_right hj] at hv'
                have := h2 _ _ hv'
                rw [Go.Deep.add_add, hc, ← hu] at this
                rwa [Nat.add_sub_cancel' hj] at this
        obtain ⟨xs, us, hx1, hu, hcf, hw, hv, hr⟩ := key len (Nat.le_refl _)
        refine ⟨[.list e xs], ?_, ⟨⟨xs, rfl⟩, trivial⟩, ?_⟩
        · simp only [VPs, VP]
          refine ⟨_, [], rfl, ⟨some a, cap, us, by rw [hx1], by rw [hx1]; exact hl, hcf, ?_, hv⟩, rfl⟩
          cases hus : us with
          | nil => exact .inl rfl
          | cons u us' =>
            right
            have h0 := hr 0 u (by rw [hus]; rfl)
            obtain ⟨b, o, sp⟩ := a
            have hsp : sp = none := by
              cases sp with
              | none => rfl
              | some s =>
                exfalso
                unfold Addr.add at h0
                simp only at h0
                split at h0 <;> simp_all [World.cell?] <;> (split at h0 <;> simp_all)
            subst hsp
            refine ⟨b, o, rfl, fun j v hv' => ?_, fun _ _ h => h⟩
            rw [← hus] at hv'
            have := hr j v hv'
            rwa [Addr.add_mid] at this
        · simp only [Wfs, Wf]
          refine ⟨⟨by rw [hx1]; omega, hw⟩, trivial⟩
    · rename_i fs ht
      obtain ⟨xs, q, _, _, hl, hn, hf⟩ := DataW.trod_struct ht hx
      have := opened_fields (fun t h => opened n t h) H enc w base spare held q cs (P.cellsOf t) hl fs.toList 0 h (fun f hm => by
        obtain ⟨i, hi, rfl⟩ := List.getElem_of_mem hm
        have hi' : i < fs.size := by simpa using hi
        have := hf i fs[i] (by simp [hi'])
        rw [List.getElem?_eq_getElem (by omega)] at this
        exact ⟨_, by simpa using this⟩)
      simp only [kindsT, ht]
      simpa using this
    · cases h
/-- A struct that came in by value. -/
theorem opened_agg {t : Nat} {fs : Array Field} {r : Reach} {b0 : Nat} {H : Type} {enc : TypeId × Value → H} {w : World} {base : Nat} {spare : Nat → Bool} {held : Bool} {v : Value} {y : DataW H} {pl : List MemPlace}
    (h : opens P 20 t = true) (hs : P.underlying t = some (.struct fs)) (hv : Value.okWide P w r b0 t v) (hd : DataW.Trod enc P w base spare held t v y pl) : ∃ ps, VP P w No (.agg ps) v ∧ cfs (kinds P t) ps ∧ Wf (.agg ps) := by
  obtain ⟨cs, rfl, hsz⟩ := okWide_struct hs hv
  obtain ⟨fuel, hf⟩ := hd
  obtain ⟨ps, h1, h2, h3⟩ := opened 20 t h H enc w base spare held fuel _ _ hf
  refine ⟨ps, ?_, h2, by simpa only [Wf] using h3⟩
  simp only [VP]
  exact ⟨cs.toList, by simp, by simpa [Value.cells] using h1⟩
/-- A value of one cell that came in. -/
theorem opened_one {t : Nat} {k : K} {H : Type} {enc : TypeId × Value → H} {w : World} {base : Nat} {spare : Nat → Bool} {held : Bool} {v : Value} {y : DataW H} {pl : List MemPlace}
    (h : opens P 20 t = true) (hk : kinds P t = [k]) (hv : v.cells = #[v]) (hd : DataW.Trod enc P w base spare held t v y pl) : ∃ p, VP P w No p v ∧ cf k p ∧ Wf p := by
  obtain ⟨fuel, hf⟩ := hd
  rw [hv] at hf
  obtain ⟨ps, h1, h2, h3⟩ := opened 20 t h H enc w base spare held fuel _ _ hf
  have h2' : cfs (kinds P t) ps := h2
  rw [hk] at h2'
  match ps, h1, h2', h3 with
  | [p], h1, h2, h3 =>
    simp only [VPs] at h1
    obtain ⟨u, us, h4, h5, rfl⟩ := h1
    obtain ⟨rfl, _⟩ := List.cons.inj h4
    simp only [Wfs] at h3
    exact ⟨p, h5, h2.1, h3.1⟩
  | [], _, h2, _ => exact h2.elim
  | _ :: _ :: _, _, h2, _ => exact h2.2.elim
/-- A law's call: true, and what was there lies as it lay. -/
theorem law_calls {E : Env} (hE : E.Ok) (hm : E.P.follows .mixedOrders = true) {n f : Nat} {ps : List PV} (hr : (evRes E n f ps).run = some (.pv (.bool true))) {w : World} {vs : List Value} (hv : VPs E.P w No ps vs) :
    Calls E.P f vs.toArray w fun e w' => e = .returned (.bool true) ∧ Below w.heap.size w w' := by
  refine Calls.mono (run_sound hE hm hr (S := No) (fun _ _ h => h.elim) hv) ?_
  rintro e w' ⟨v, rfl, h2, h3⟩
  have h3' : VP E.P w' No (.bool true) v := h3
  simp only [VP] at h3'
  exact ⟨by rw [h3'], h2⟩
end
end Go.Proofs.YtkdbccloniaogaaS
