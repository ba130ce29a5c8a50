/- Loops that add an element a round to a list that begins as none. Conditions: none. -/
import Derived.Test.YtkdbccloniaogaaSimUse
set_option linter.unusedVariables false
namespace Go.Proofs.YtkdbccloniaogaaS
open Go Go.RowKit

/-- A slice without elements, at its type. -/
def fitK : K → PV → PV
  | .list t, .list u xs => match u == t with
    | true => .list u xs
    | false => match xs with
      | [] => .list t []
      | _ :: _ => .list u xs
  | _, p => p
def fitKs : List K → List PV → List PV
  | k :: ks, p :: ps => fitK k p :: fitKs ks ps
  | _, ps => ps
def fitP (t : PK) (p : PV) : PV :=
  match t.1, t.2, p with
  | true, ks, .agg cs => .agg (fitKs ks cs)
  | false, [k], p => fitK k p
  | _, _, p => p
def fitPs : List PK → List PV → List PV
  | t :: ts, p :: ps => fitP t p :: fitPs ts ps
  | _, ps => ps
def Res.fit (ts : List PK) : Res → Res
  | .pv p => match p, ts with
    | .tup ps, ts => .pv (.tup (fitPs ts ps))
    | p, [t] => .pv (fitP t p)
    | p, _ => .pv p
  | r => r
def evFit (ts : List PK) (t : Tr Res) : Tr Res := t.bind fun r => .ret (r.fit ts)
section
variable {P : Program} {w : World} {S : Nat → Nat → Prop}
theorem vp_fitK {k : K} {p : PV} {v : Value} (h : VP P w S p v) : VP P w S (fitK k p) v := by
  unfold fitK
  split
  · split
    · exact h
    · split
      · simp only [VP] at h ⊢
        obtain ⟨A, cap, us, h1, h2, h3, h4, h5⟩ := h
        exact ⟨A, cap, us, h1, h2, fun e he => (by cases he), h4, h5⟩
      · exact h
  · exact h
theorem vp_fitKs : ∀ {ks : List K} {ps : List PV} {vs : List Value}, VPs P w S ps vs → VPs P w S (fitKs ks ps) vs
  | [], ps, vs, h => by
    cases ps <;> exact h
  | k :: ks, [], vs, h => h
  | k :: ks, p :: ps, vs, h => by
    simp only [VPs] at h
    obtain ⟨u, us, rfl, h1, h2⟩ := h
    simp only [fitKs, VPs]
    exact ⟨u, us, rfl, vp_fitK h1, vp_fitKs h2⟩
theorem vp_fitP {t : PK} {p : PV} {v : Value} (h : VP P w S p v) : VP P w S (fitP t p) v := by
  unfold fitP
  split
  · simp only [VP] at h ⊢
    obtain ⟨vs, h1, h2⟩ := h
    exact ⟨vs, h1, vp_fitKs h2⟩
  · exact vp_fitK h
  · exact h
theorem vp_fitPs : ∀ {ts : List PK} {ps : List PV} {vs : List Value}, VPs P w S ps vs → VPs P w S (fitPs ts ps) vs
  | [], ps, vs, h => by
    cases ps <;> exact h
  | k :: ks, [], vs, h => h
  | k :: ks, p :: ps, vs, h => by
    simp only [VPs] at h
    obtain ⟨u, us, rfl, h1, h2⟩ := h
    simp only [fitPs, VPs]
    exact ⟨u, us, rfl, vp_fitP h1, vp_fitPs h2⟩
theorem ResRel.fit {w' : World} {ts : List PK} {r : Res} {v : Value} (h : ResRel P S w w' r v) : ResRel P S w w' (r.fit ts) v := by
  unfold Res.fit
  split
  · split
    · have h' : VP P w' S (.tup _) v := h
      show VP P w' S (.tup _) v
      simp only [VP] at h' ⊢
      obtain ⟨vs, h1, h2⟩ := h'
      exact ⟨vs, h1, vp_fitPs h2⟩
    · exact vp_fitP (show VP P w' S _ v from h)
    · exact h
  · exact h
end
theorem spec_fit {P : Program} {f : Nat} (n : Nat) (rs : List PK) (ts : List PK) (pre : List PV → Bool) (res : List PV → Res) (hm : P.follows .mixedOrders = true)
    (h : ∀ ps, Meant P ps → okPs ts ps = true → pre ps = true → ∃ (E : Env) (r : Res), E.P = P ∧ E.Ok ∧ (evFit rs (evRes E n f (canPs ts ps))).run = some r ∧ (r = res ps ∨ r.plain = res ps)) : Spec P f ⟨fun ps => okPs ts ps && pre ps, res⟩ := by
  intro w S ps vs hS hv hp
  have hp' : (okPs ts ps && pre ps) = true := hp
  simp only [Bool.and_eq_true] at hp'
  obtain ⟨E, r, rfl, h2, h3, h4⟩ := h ps ⟨w, S, vs, hv⟩ hp'.1 hp'.2
  rw [okPs_can hp'.1] at h3
  unfold evFit at h3
  obtain ⟨r0, h5, h6⟩ := tr_bind h3
  simp only [Tr.run, Option.some.injEq] at h6
  refine Calls.mono (run_sound h2 hm h5 hS hv) ?_
  rintro e w' ⟨v, g1, g2, g3⟩
  refine ⟨v, g1, g2, ?_⟩
  have g4 : ResRel E.P S w w' r v := by
    rw [← h6]
    exact g3.fit
  rcases h4 with rfl | h4
  · exact g4
  · show ResRel E.P S w w' (res ps) v
    rw [← h4]
    exact g4.plain hS
/-- Tests whose outcomes are known. -/
def Tr.static {α : Type} : List Bool → Tr α → Bool
  | [], _ => true
  | true :: l, .test true x _ => x.static l
  | false :: l, .test false _ y => y.static l
  | _, _ => false
theorem skip_run {α β : Type} {wrap : β → α} {o : Option β} : ∀ (l : List Bool) {t : Tr α}, t.static l = true → (t.sub l).run = o.map wrap → t.run = o.map wrap
  | [], _, _, h => h
  | true :: l, .test true x _, hs, h => skip_run l (t := x) hs h
  | false :: l, .test false _ y, hs, h => skip_run l (t := y) hs h
  | true :: _, .test false _ _, hs, _ => by cases hs
  | false :: _, .test true _ _, hs, _ => by cases hs
  | true :: _, .ret _, hs, _ => by cases hs
  | false :: _, .ret _, hs, _ => by cases hs
  | true :: _, .wait .., hs, _ => by cases hs
  | false :: _, .wait .., hs, _ => by cases hs
  | true :: _, .fail, hs, _ => by cases hs
  | false :: _, .fail, hs, _ => by cases hs
/-- The way to the first test that hangs on data (it is stuck there). -/
noncomputable def Tr.skip {α : Type} (t : Tr α) : List Bool → Tr α × List Bool :=
  Tr.rec (motive := fun _ => List Bool → Tr α × List Bool) (fun a acc => (.ret a, acc)) (fun b x y ihx ihy acc => Bool.rec (motive := fun _ => Tr α × List Bool) (ihy (false :: acc)) (ihx (true :: acc)) b) (fun n c s x k _ acc => (.wait n c s x k, acc)) (fun acc => (.fail, acc)) t
theorem grow {σ τ β γ : Type} {stp : σ → Option (σ ⊕ τ)} (s0 s1 : σ) (s2 : Int → List β → σ) (e0 e1 : τ) (e2 : List β → τ) (el : Nat → β) (n : Nat) (K : τ → Option γ) (R : List β → γ)
    (k0 : K e0 = some (R [])) (k1 : K e1 = some (R [el 0])) (k2 : ∀ w, K (e2 w) = some (R w)) (hn : n ≤ most)
    (h0 : n = 0 → stp s0 = some (.inr e0)) (h0' : 0 < n → stp s0 = some (.inl s1)) (h1 : n = 1 → stp s1 = some (.inr e1)) (h1' : 1 < n → stp s1 = some (.inl (s2 ((2 : Nat) : Int) [el 0, el 1])))
    (h2 : ∀ i acc, i < n → acc.length + 1 ≤ most → stp (s2 ((i : Nat) : Int) acc) = some (.inl (s2 ((i + 1 : Nat) : Int) (acc ++ [el i])))) (h3 : ∀ acc, stp (s2 ((n : Nat) : Int) acc) = some (.inr (e2 acc))) :
    (loopN stp (n + 1) s0).bind K = some (R ((List.range' 0 n).map el)) := by
  match n, hn, h0, h0', h1, h1', h2, h3 with
  | 0, hn, h0, h0', h1, h1', h2, h3 =>
    rw [loopN_end (h0 rfl)]
    exact k0
  | 1, hn, h0, h0', h1, h1', h2, h3 =>
    rw [loopN_next (h0' (by omega)), loopN_end (h1 rfl)]
    exact k1
  | n + 2, hn, h0, h0', h1, h1', h2, h3 =>
    rw [loopN_next (h0' (by omega)), loopN_next (h1' (by omega)), loop_copy (stp := stp) (fun i acc => s2 ((i : Nat) : Int) acc) e2 el (n + 2) h2 h3 n 2 [el 0, el 1] (by omega) (by simp; omega)]
    refine (k2 _).trans ?_
    rfl
theorem range_map_get {xs : List (List PV)} {el : Nat → List PV} {n : Nat} (hn : n = xs.length) (h : ∀ i, i < n → el i = xs.getD i []) : (List.range' 0 n).map el = xs := by
  subst hn
  apply List.ext_getElem
  · simp
  · intro i h1 h2
    have : i < xs.length := h2
    rw [List.getElem_map, List.getElem_range', h _ (by omega)]
    simp [List.getD_eq_getElem?_getD, h2]
theorem range_map_map {xs : List (List PV)} {el : Nat → List PV} {g : List PV → List PV} {n : Nat} (hn : n = xs.length) (h : ∀ i, i < n → el i = g (xs.getD i [])) : (List.range' 0 n).map el = xs.map g := by
  subst hn
  apply List.ext_getElem
  · simp
  · intro i h1 h2
    have h2' : i < xs.length := by simpa using h2
    rw [List.getElem_map, List.getElem_range', List.getElem_map, h _ (by omega)]
    simp [List.getD_eq_getElem?_getD, h2']
end Go.Proofs.YtkdbccloniaogaaS
