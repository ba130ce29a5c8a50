/- Loops that add an element a round to a list that begins as none. Conditions: none. -/
import Derived.Test.YtalmkdahapemcaaSimUse
set_option linter.unusedVariables false
namespace Go.Proofs.YtalmkdahapemcaaS
open Go Go.RowKit

/-- Tests whose outcomes are known. -/
def Tr.static {α : Type} : List Bool → Tr α → Bool
  | [], _ => true
  | true :: l, .test true x _ => x.static l
  | false :: l, .test false _ y => y.static l
  | _, _ => false
theorem skip_run {α β : Type} {wrap : β → α} {o : Option β} : ∀ (l : List Bool) {t : Tr α}, t.static l = true → (t.sub l).run = o.map wrap → t.run = o.map wrap
  | [], _, _, h => h
  | true :: l, .test true x _, hs, h => skip_run l (t := x) hs h
  | false :: l, .test false _ y, hs, h => skip_run l (t := y) hs h
  | true :: _, .test false _ _, hs, _ => by cases hs
  | false :: _, .test true _ _, hs, _ => by cases hs
  | true :: _, .ret _, hs, _ => by cases hs
  | false :: _, .ret _, hs, _ => by cases hs
  | true :: _, .wait .., hs, _ => by cases hs
  | false :: _, .wait .., hs, _ => by cases hs
  | true :: _, .fail, hs, _ => by cases hs
  | false :: _, .fail, hs, _ => by cases hs
/-- The way to the first test that hangs on data (it is stuck there). -/
noncomputable def Tr.skip {α : Type} (t : Tr α) : List Bool → Tr α × List Bool :=
  Tr.rec (motive := fun _ => List Bool → Tr α × List Bool) (fun a acc => (.ret a, acc)) (fun b x y ihx ihy acc => Bool.rec (motive := fun _ => Tr α × List Bool) (ihy (false :: acc)) (ihx (true :: acc)) b) (fun n c s x k _ acc => (.wait n c s x k, acc)) (fun acc => (.fail, acc)) t
theorem grow {σ τ β γ : Type} {stp : σ → Option (σ ⊕ τ)} (s0 s1 : σ) (s2 : Int → List β → σ) (e0 e1 : τ) (e2 : List β → τ) (el : Nat → β) (n : Nat) (K : τ → Option γ) (R : List β → γ)
    (k0 : K e0 = some (R [])) (k1 : K e1 = some (R [el 0])) (k2 : ∀ w, K (e2 w) = some (R w)) (hn : n ≤ most)
    (h0 : n = 0 → stp s0 = some (.inr e0)) (h0' : 0 < n → stp s0 = some (.inl s1)) (h1 : n = 1 → stp s1 = some (.inr e1)) (h1' : 1 < n → stp s1 = some (.inl (s2 ((2 : Nat) : Int) [el 0, el 1])))
    (h2 : ∀ i acc, i < n → acc.length + 1 ≤ most → stp (s2 ((i : Nat) : Int) acc) = some (.inl (s2 ((i + 1 : Nat) : Int) (acc ++ [el i])))) (h3 : ∀ acc, stp (s2 ((n : Nat) : Int) acc) = some (.inr (e2 acc))) :
    (loopN stp (n + 1) s0).bind K = some (R ((List.range' 0 n).map el)) := by
  match n, hn, h0, h0', h1, h1', h2, h3 with
  | 0, hn, h0, h0', h1, h1', h2, h3 =>
    rw [loopN_end (h0 rfl)]
    exact k0
  | 1, hn, h0, h0', h1, h1', h2, h3 =>
    rw [loopN_next (h0' (by omega)), loopN_end (h1 rfl)]
    exact k1
  | n + 2, hn, h0, h0', h1, h1', h2, h3 =>
    rw [loopN_next (h0' (by omega)), loopN_next (h1' (by omega)), loop_copy (stp := stp) (fun i acc => s2 ((i : Nat) : Int) acc) e2 el (n + 2) h2 h3 n 2 [el 0, el 1] (by omega) (by simp; omega)]
    refine (k2 _).trans ?_
    rfl
theorem range_map_get {xs : List (List PV)} {el : Nat → List PV} {n : Nat} (hn : n = xs.length) (h : ∀ i, i < n → el i = xs.getD i []) : (List.range' 0 n).map el = xs := by
  subst hn
  apply List.ext_getElem
  · simp
  · intro i h1 h2
    have : i < xs.length := h2
    rw [List.getElem_map, List.getElem_range', h _ (by omega)]
    simp [List.getD_eq_getElem?_getD, h2]
theorem range_map_map {xs : List (List PV)} {el : Nat → List PV} {g : List PV → List PV} {n : Nat} (hn : n = xs.length) (h : ∀ i, i < n → el i = g (xs.getD i [])) : (List.range' 0 n).map el = xs.map g := by
  subst hn
  apply List.ext_getElem
  · simp
  · intro i h1 h2
    have h2' : i < xs.length := by simpa using h2
    rw [List.getElem_map, List.getElem_range', List.getElem_map, h _ (by omega)]
    simp [List.getD_eq_getElem?_getD, h2']
end Go.Proofs.YtalmkdahapemcaaS
