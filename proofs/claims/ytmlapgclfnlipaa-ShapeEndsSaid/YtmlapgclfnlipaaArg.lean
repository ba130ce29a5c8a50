/- How a value that came in as an argument is opened: a type's cells, read as data, are what a kind (Kd) says, and each number in them is of its kind. Conditions: the type's own rows. -/
import Derived.SizedLaws
import Derived.Deep.Slices
import Derived.ChangeArms
import Derived.WideShapes
import Derived.RowKit
import Derived.Test.YtmlapgclfnlipaaWWords
set_option linter.unusedVariables false
set_option linter.unusedSimpArgs false
namespace Go.Proofs.YtmlapgclfnlipaaA
open Go.RowKit Go.ChangeShapes Go.WideShapes Go.Proofs.YtmlapgclfnlipaaW.PrintWords

/-- Cells that read at type t are of kind d, and F holds of what they say. -/
def Reads {α : Type} (P : Program) (t : TypeId) (d : Kd α) (F : α → Prop) : Prop :=
  ∀ (H : Type) (enc : TypeId × Value → H) (w : World) (base : Nat) (spare : Nat → Bool) (held : Bool) (fuel : Nat) (cs : List Value) (x : DataW H × List MemPlace),
    DataW.trod enc P w base spare held fuel t cs = some x → ∃ a, d.K w a cs ∧ F a
/-- The fields of a struct, from the cell off on. -/
def FReads {α : Type} (P : Program) (fs : List Field) (off : Nat) (d : Kd α) (F : α → Prop) : Prop :=
  ∀ (H : Type) (enc : TypeId × Value → H) (w : World) (base : Nat) (spare : Nat → Bool) (held : Bool) (fuel : Nat) (cs : List Value),
    (∀ f ∈ fs, ∃ y : DataW H × List MemPlace, DataW.trod enc P w base spare held fuel f.type ((cs.drop f.offset).take (P.cellsOf f.type)) = some y) → cs.length = off + d.sz → ∃ a, d.K w a (cs.drop off) ∧ F a

variable {P : Program} {t e : TypeId}
theorem Reads.int {k : IntKind} (ht : P.underlying t = some (.int k)) : Reads P t (Kd.int k) (fun n => (Lit.int k n).wf = true) := by
  intro H enc w base spare held fuel cs x h
  obtain ⟨n, rfl, _, hw⟩ := DataW.trod_int ht h
  exact ⟨n, rfl, hw⟩
theorem Reads.bool (ht : P.underlying t = some .bool) : Reads P t Kd.bool (fun _ => True) := by
  intro H enc w base spare held fuel cs x h
  obtain ⟨b, rfl, _⟩ := DataW.trod_bool ht h
  exact ⟨b, rfl, trivial⟩
theorem Reads.string (ht : P.underlying t = some .string) : Reads P t Kd.string (fun s => s.size ≤ maxLen) := by
  intro H enc w base spare held fuel cs x h
  obtain ⟨s, rfl, _, hs⟩ := DataW.trod_string ht h
  exact ⟨s, rfl, hs⟩
theorem Reads.imp {α : Type} {d : Kd α} {F G : α → Prop} (h : Reads P t d F) (hi : ∀ a, F a → G a) : Reads P t d G := by
  intro H enc w base spare held fuel cs x hx
  obtain ⟨a, hk, hf⟩ := h H enc w base spare held fuel cs x hx
  exact ⟨a, hk, hi a hf⟩
theorem cells_some {w : World} {base : Nat} {a : Addr} {n : Nat} {cs : List Value} (h : w.cells? base a n = some cs) : cs.length = n ∧ ∀ i u, cs[i]? = some u → w.cell? (a.add i) = some u := by
  unfold World.cells? at h
  split at h
  · have hl := mapM_some_length h
    rw [List.length_range] at hl
    refine ⟨hl, fun i u hu => ?_⟩
    have hi : i < n := by rw [← hl]; exact (List.getElem?_eq_some_iff.1 hu).1
    have := mapM_some_get h i i (by simp [hi])
    rw [this, hu]
  · cases h
theorem Reads.slice {α : Type} {d : Kd α} {F : α → Prop} (ht : P.underlying t = some (.slice e)) (hc : P.cellsOf e = d.sz) (he : Reads P e d F) :
    Reads P t (Kd.slice e d) (fun xs => xs.length ≤ maxLen ∧ ∀ x ∈ xs, F x) := by
  intro H enc w base spare held fuel cs x h
  rcases Go.Deep.open_slice ht h with ⟨rfl, _⟩ | ⟨a, len, cap, m, n, D, Pl, rfl, hb, hl, hm, hmm, _, hcell⟩
  · exact ⟨[], ⟨none, 0, rfl, Nat.le_refl _, rfl, Nat.zero_le _, fun h => absurd h (Nat.lt_irrefl 0)⟩, Nat.zero_le _, fun x hx => (by cases hx)⟩
  · have hlm : len ≤ m := by rw [hmm]; split <;> omega
    have key : ∀ k, k ≤ len → ∃ xs : List α, xs.length = k ∧ (∀ x ∈ xs, F x) ∧ ∀ j p, xs[j]? = some p → ∃ c : List Value, c.length = d.sz ∧ d.K w p c ∧ ∀ i u, c[i]? = some u → w.cell? (a.add (j * d.sz + i)) = some u := by
      intro k
      induction k with
      | zero => exact fun _ => ⟨[], rfl, fun x hx => (by cases hx), fun j p hp => (by simp at hp)⟩
      | succ k ih =>
        intro hk
        obtain ⟨xs, hx, hf, hr⟩ := ih (by omega)
        obtain ⟨cs', hcs, htr⟩ := hcell k (by omega)
        obtain ⟨y, hy, hfy⟩ := he H enc w base spare held n cs' _ htr
        obtain ⟨h1, h2⟩ := cells_some hcs
        refine ⟨xs ++ [y], by simp [hx], ?_, ?_⟩
        · intro z hz
          rcases List.mem_append.1 hz with hz | hz
          · exact hf z hz
          · rw [List.mem_singleton.1 hz]; exact hfy
        · intro j p hp
          rcases Nat.lt_or_ge j xs.length with hj | hj
          · rw [List.getElem?_append_left hj] at hp
            exact hr j p hp
          · have hj' : j = xs.length := by
              have := (List.getElem?_eq_some_iff.1 hp).1
              rw [List.length_append, List.length_singleton] at this
              omega
            subst hj'
            obtain rfl : y = p := by simpa using hp
            refine ⟨cs', by rw [h1, hc], hy, fun i u hu => ?_⟩
            rw [← Go.Deep.add_add, hx, ← hc]
            exact h2 i u hu
    obtain ⟨xs, hx, hf, hr⟩ := key len (Nat.le_refl _)
    refine ⟨xs, ⟨some a, cap, by rw [hx], by rw [hx]; exact hl, rfl, by rw [hx]; unfold maxLen at hm; omega, fun _ => ⟨a, rfl, hr⟩⟩, by rw [hx]; omega, hf⟩
theorem FReads.one {α : Type} {f : Field} {off : Nat} {d : Kd α} {F : α → Prop} (h : Reads P f.type d F) (ho : f.offset = off) (hc : P.cellsOf f.type = d.sz) : FReads P [f] off d F := by
  intro H enc w base spare held fuel cs hf hl
  obtain ⟨y, hy⟩ := hf f (by simp)
  rw [ho, hc, List.take_of_length_le (by rw [List.length_drop]; omega)] at hy
  exact h H enc w base spare held fuel _ y hy
theorem FReads.cons {α β : Type} {f : Field} {fs : List Field} {off off' : Nat} {a : Kd α} {b : Kd β} {F : α → Prop} {G : β → Prop} (h : Reads P f.type a F) (ho : f.offset = off) (hc : P.cellsOf f.type = a.sz) (h' : off' = off + a.sz) (hr : FReads P fs off' b G) :
    FReads P (f :: fs) off (Kd.pair a b) (fun x => F x.1 ∧ G x.2) := by
  intro H enc w base spare held fuel cs hf hl
  have hl' : cs.length = off + (a.sz + b.sz) := hl
  obtain ⟨y, hy⟩ := hf f (by simp)
  rw [ho, hc] at hy
  obtain ⟨x, hx, hfx⟩ := h H enc w base spare held fuel _ y hy
  obtain ⟨z, hz, hfz⟩ := hr H enc w base spare held fuel cs (fun g hg => hf g (by simp [hg])) (by omega)
  refine ⟨(x, z), ⟨_, _, ?_, hx, hz⟩, hfx, hfz⟩
  rw [h', ← List.drop_drop, List.take_append_drop]
theorem Reads.struct {α β : Type} {fs : Array Field} {d : Kd α} {F : α → Prop} (g : β → α) (mk : α → β) (hg : ∀ a, g (mk a) = a) (ht : P.underlying t = some (.struct fs)) (hc : P.cellsOf t = d.sz) (h : FReads P fs.toList 0 d F) :
    Reads P t (Kd.iso d g) (fun b => F (g b)) := by
  intro H enc w base spare held fuel cs x hx
  obtain ⟨xs, n, _, _, hl, hn, hf⟩ := DataW.trod_struct ht hx
  obtain ⟨a, hk, hfa⟩ := h H enc w base spare held n cs (fun f hm => by
    obtain ⟨i, hi, rfl⟩ := List.getElem_of_mem hm
    have hi' : i < fs.size := by simpa using hi
    have := hf i fs[i] (by simp [hi'])
    rw [List.getElem?_eq_getElem (by omega)] at this
    exact ⟨_, by simpa using this⟩) (by rw [hl, hc]; simp)
  exact ⟨mk a, by show d.K w (g (mk a)) cs; rw [hg]; simpa using hk, by show F (g (mk a)); rw [hg]; exact hfa⟩
/-- A struct that came in by value. -/
theorem Reads.agg {α : Type} {d : Kd α} {F : α → Prop} {fs : Array Field} {r : Reach} {b0 : Nat} {H : Type} {enc : TypeId × Value → H} {w : World} {base : Nat} {spare : Nat → Bool} {held : Bool} {v : Value} {y : DataW H} {ps : List MemPlace}
    (h : Reads P t d F) (hs : P.underlying t = some (.struct fs)) (hv : Value.okWide P w r b0 t v) (hd : DataW.Trod enc P w base spare held t v y ps) : ∃ cs a, v = .agg cs ∧ d.K w a cs.toList ∧ F a := by
  obtain ⟨cs, rfl, hsz⟩ := okWide_struct hs hv
  obtain ⟨fuel, hf⟩ := hd
  obtain ⟨a, hk, hfa⟩ := h H enc w base spare held fuel _ _ hf
  exact ⟨cs, a, rfl, by simpa [Value.cells] using hk, hfa⟩
/-- A slice that came in. -/
theorem Reads.row {α : Type} {d : Kd α} {F : List α → Prop} {r : Reach} {b0 : Nat} {H : Type} {enc : TypeId × Value → H} {w : World} {base : Nat} {spare : Nat → Bool} {held : Bool} {v : Value} {y : DataW H} {ps : List MemPlace}
    (h : Reads P t (Kd.slice e d) F) (ht : P.underlying t = some (.slice e)) (hv : Value.okWide P w r b0 t v) (hd : DataW.Trod enc P w base spare held t v y ps) : ∃ A c xs, v = .slice A xs.length c ∧ xs.length ≤ c ∧ d.C w A xs.length xs ∧ F xs := by
  obtain ⟨A, n, c, rfl⟩ := okWide_slice ht hv
  obtain ⟨fuel, hf⟩ := hd
  obtain ⟨a, ⟨A', c', he, hl, hc⟩, hfa⟩ := h H enc w base spare held fuel _ _ hf
  have : Value.slice A n c = .slice A' a.length c' := by simpa [Value.cells] using he
  exact ⟨A', c', a, this, hl, hc, hfa⟩
end Go.Proofs.YtmlapgclfnlipaaA
