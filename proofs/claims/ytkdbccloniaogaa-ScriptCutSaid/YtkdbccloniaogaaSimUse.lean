/- Functions that are known, for those that call them: parameters' shapes. Conditions: none. -/
import Derived.Test.YtkdbccloniaogaaSimLoop
set_option linter.unusedVariables false
set_option linter.unusedSimpArgs false
namespace Go.Proofs.YtkdbccloniaogaaS
open Go Go.RowKit

theorem Env.Ok.add {E : Env} (hE : E.Ok) {f : Nat} {o : Ora} (h : Spec E.P f o) : (E.add f o).Ok := by
  refine ⟨fun g o' hg => ?_, hE.names, hE.tak⟩
  have hg' : (if g = f then some o else E.O g) = some o' := hg
  by_cases e : g = f
  · rw [if_pos e] at hg'
    cases hg'
    rw [e]
    exact h
  · rw [if_neg e] at hg'
    exact hE.ora g o' hg'
def okK : K → PV → Bool
  | .int k, .int j _ => decide (j = k)
  | .bool, .bool _ => true
  | .str, .str _ => true
  | .list t, .list u _ => u == t
  | _, _ => false
theorem okK_eta {k : K} {p : PV} (h : okK k p = true) : eta k p = p := by
  cases k <;> cases p <;> simp [okK] at h <;> simp [eta, pInt, pBool, pStr, pList, h]
def okKs : List K → List PV → Bool
  | [], [] => true
  | k :: ks, p :: ps => okK k p && okKs ks ps
  | _, _ => false
theorem okKs_etas : ∀ {ks : List K} {ps : List PV}, okKs ks ps = true → etas ks ps = ps
  | [], [], _ => rfl
  | k :: ks, p :: ps, h => by
    simp only [okKs, Bool.and_eq_true] at h
    show eta k p :: etas ks ps = _
    rw [okK_eta h.1, okKs_etas h.2]
  | [], _ :: _, h => by cases h
  | _ :: _, [], h => by cases h
/-- A parameter: a struct, cell by cell, or one cell. -/
abbrev PK := Bool × List K
def okP (t : PK) (p : PV) : Bool :=
  match t.1, t.2, p with
  | true, ks, .agg cs => okKs ks cs
  | false, [k], p => okK k p
  | _, _, _ => false
def canP (t : PK) (p : PV) : PV :=
  match t.1, t.2 with
  | true, ks => .agg (etas ks p.cells)
  | false, [k] => eta k p
  | _, _ => p
def okPs : List PK → List PV → Bool
  | [], [] => true
  | t :: ts, p :: ps => okP t p && okPs ts ps
  | _, _ => false
def canPs : List PK → List PV → List PV
  | [], _ => []
  | t :: ts, ps => canP t (ps.headD .undef) :: canPs ts ps.tail
theorem okP_can {t : PK} {p : PV} (h : okP t p = true) : canP t p = p := by
  obtain ⟨b, ks⟩ := t
  cases b
  · cases ks with
    | nil => simp [okP] at h
    | cons k ks =>
      cases ks with
      | nil => exact okK_eta (by simpa [okP] using h)
      | cons => simp [okP] at h
  · cases p <;> simp [okP] at h
    show PV.agg (etas ks (PV.cells (.agg _))) = _
    simp [PV.cells, okKs_etas h]
theorem okPs_can : ∀ {ts : List PK} {ps : List PV}, okPs ts ps = true → canPs ts ps = ps
  | [], [], _ => rfl
  | t :: ts, p :: ps, h => by
    simp only [okPs, Bool.and_eq_true] at h
    show canP t p :: canPs ts ps = _
    rw [okP_can h.1, okPs_can h.2]
  | [], _ :: _, h => by cases h
  | _ :: _, [], h => by cases h
/-- What is known of a function, out of its plain form: from parameters of these shapes. -/
theorem spec_at {P : Program} {f : Nat} (n : Nat) (ts : List PK) (pre : List PV → Bool) (res : List PV → Res) (hm : P.follows .mixedOrders = true)
    (h : ∀ ps, Meant P ps → okPs ts ps = true → pre ps = true → ∃ (E : Env) (r : Res), E.P = P ∧ E.Ok ∧ (evRes E n f (canPs ts ps)).run = some r ∧ (r = res ps ∨ r.plain = res ps)) : Spec P f ⟨fun ps => okPs ts ps && pre ps, res⟩ :=
  spec_of n (fun ps hw hp => by
    have hp' : (okPs ts ps && pre ps) = true := hp
    simp only [Bool.and_eq_true] at hp'
    obtain ⟨E, r, h1, h2, h3, h4⟩ := h ps hw hp'.1 hp'.2
    rw [okPs_can hp'.1] at h3
    exact ⟨E, r, h1, h2, h3, h4⟩) hm
theorem Meant.get {P : Program} {ps : List PV} (h : Meant P ps) {i : Nat} {p : PV} (hp : ps[i]? = some p) : ∃ w S v, VP P w S p v := by
  obtain ⟨w, S, vs, hv⟩ := h
  obtain ⟨v, _, h2⟩ := hv.get hp
  exact ⟨w, S, v, h2⟩
/-- A list's elements are of their kinds. -/
theorem list_cfs {P : Program} {w : World} {S : Nat → Nat → Prop} {t : Nat} {xs : List (List PV)} {v : Value} (h : VP P w S (.list t xs) v) : ∀ e ∈ xs, cfs (kinds P t) e := by
  simp only [VP] at h
  obtain ⟨_, _, _, _, _, h3, _⟩ := h
  exact h3
theorem Meant.list {P : Program} {ps : List PV} (hm : Meant P ps) {ks : List K} {t : Nat} {xs : List (List PV)} (i : Nat) (hp : ps[i]? = some (.list t xs)) (hk : kinds P t = ks) : ∀ e ∈ xs, cfs ks e := by
  obtain ⟨w, S, v, hv⟩ := hm.get hp
  rw [← hk]
  exact list_cfs hv
theorem etas_at {ks : List K} {xs : List (List PV)} (h : ∀ e ∈ xs, cfs ks e) {i : Nat} (hi : i < xs.length) : etas ks (xs.getD i []) = xs.getD i [] := by
  refine etas_of (h _ ?_)
  rw [List.getD_eq_getElem?_getD, List.getElem?_eq_getElem hi]
  exact List.getElem_mem hi
/-- A loop's rounds, one by one. -/
theorem loopN_succ {σ τ : Type} {stp : σ → Option (σ ⊕ τ)} {n : Nat} {x : σ} : loopN stp (n + 1) x = match stp x with
    | some (.inl y) => loopN stp n y
    | some (.inr z) => some z
    | none => none := rfl
theorem loopN_next {σ τ : Type} {stp : σ → Option (σ ⊕ τ)} {n : Nat} {x y : σ} (h : stp x = some (.inl y)) : loopN stp (n + 1) x = loopN stp n y := by rw [loopN_succ, h]
theorem loopN_end {σ τ : Type} {stp : σ → Option (σ ⊕ τ)} {n : Nat} {x : σ} {z : τ} (h : stp x = some (.inr z)) : loopN stp (n + 1) x = some z := by rw [loopN_succ, h]
/-- A loop that adds an element a round. -/
theorem loop_copy {σ τ β : Type} {stp : σ → Option (σ ⊕ τ)} (s : Nat → List β → σ) (e : List β → τ) (g : Nat → β) (n : Nat)
    (hgo : ∀ i acc, i < n → acc.length + 1 ≤ most → stp (s i acc) = some (.inl (s (i + 1) (acc ++ [g i])))) (hend : ∀ acc, stp (s n acc) = some (.inr (e acc))) :
    ∀ (k i : Nat) (acc : List β), i + k = n → acc.length + k ≤ most → loopN stp (k + 1) (s i acc) = some (e (acc ++ (List.range' i k).map g))
  | 0, i, acc, h, _ => by
    have : i = n := by omega
    subst this
    rw [loopN_end (hend acc)]
    simp
  | k + 1, i, acc, h, hl => by
    rw [loopN_next (hgo i acc (by omega) (by omega)), loop_copy s e g n hgo hend k (i + 1) (acc ++ [g i]) (by omega) (by simp; omega)]
    rw [List.range'_succ, List.map_cons, List.append_assoc]
    rfl
/-- A loop that goes on as long as p holds. -/
theorem loop_all {σ τ : Type} {stp : σ → Option (σ ⊕ τ)} (s : Nat → σ) (e0 e1 : τ) (p : Nat → Bool) (n : Nat)
    (hgo : ∀ i, i < n → p i = true → stp (s i) = some (.inl (s (i + 1)))) (hno : ∀ i, i < n → p i = false → stp (s i) = some (.inr e0)) (hend : stp (s n) = some (.inr e1)) :
    ∀ (k i : Nat), i + k = n → loopN stp (k + 1) (s i) = some (bif (List.range' i k).all p then e1 else e0)
  | 0, i, h => by
    have : i = n := by omega
    subst this
    rw [loopN_end hend]
    rfl
  | k + 1, i, h => by
    rw [List.range'_succ, List.all_cons]
    cases hp : p i with
    | true => rw [loopN_next (hgo i (by omega) hp), loop_all s e0 e1 p n hgo hno hend k (i + 1) (by omega), Bool.true_and]
    | false => rw [loopN_end (hno i (by omega) hp)]; rfl
theorem all_range' {p : Nat → Bool} : ∀ {k i : Nat}, (List.range' i k).all p = true ↔ ∀ j, i ≤ j → j < i + k → p j = true
  | 0, i => by simp; intro j h1 h2; omega
  | k + 1, i => by
    rw [List.range'_succ, List.all_cons, Bool.and_eq_true, all_range']
    refine ⟨fun ⟨h1, h2⟩ j hj hk => ?_, fun h => ⟨h i (Nat.le_refl i) (by omega), fun j hj hk => h j (by omega) (by omega)⟩⟩
    by_cases e : j = i
    · rw [e]; exact h1
    · exact h2 j (by omega) (by omega)
theorem wrap_small {n : Int} (h0 : -9223372036854775808 ≤ n) (h1 : n ≤ 9223372036854775807) : IntKind.i64.wrap n = n := by
  simp only [IntKind.wrap, IntKind.signed, IntKind.bits]
  simp
  omega
theorem wrap_next {i : Nat} (h : i < 9223372036854775807) : IntKind.i64.wrap ((i : Int) + 1) = ((i + 1 : Nat) : Int) := by
  rw [wrap_small (by omega) (by omega)]
  omega
end Go.Proofs.YtkdbccloniaogaaS
