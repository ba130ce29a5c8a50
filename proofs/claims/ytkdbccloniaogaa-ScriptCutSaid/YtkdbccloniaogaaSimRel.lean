/- How the values and the memory of the plainer run stand to the model's. Conditions: none; definitions and small laws. -/
import Derived.Test.YtkdbccloniaogaaSim
import Derived.Deep.AppendSrc
import Derived.Deep.MidRow
import Derived.Laws.MakeOwn
import Derived.Below
set_option linter.unusedVariables false
set_option linter.unusedSimpArgs false
namespace Go.Proofs.YtkdbccloniaogaaS
open Go Go.RowKit

def PV.one : PV → Bool
  | .undef => false
  | .agg _ => false
  | .tup _ => false
  | _ => true
/-- Data of a kind. -/
def cf : K → PV → Prop
  | .int k, p => ∃ n, p = .int k n
  | .bool, p => ∃ b, p = .bool b
  | .str, p => ∃ s, p = .str s
  | .list t, p => ∃ xs, p = .list t xs
  | .fn, p => (∃ f, p = .fn f) ∨ p = .nilfn
  | .any, p => p.one = true
def cfs : List K → List PV → Prop
  | [], [] => True
  | k :: ks, p :: ps => cf k p ∧ cfs ks ps
  | _, _ => False
theorem cf.one {k : K} {p : PV} (h : cf k p) : p.one = true := by
  cases k <;> simp only [cf] at h
  case int => obtain ⟨n, rfl⟩ := h; rfl
  case bool => obtain ⟨n, rfl⟩ := h; rfl
  case str => obtain ⟨n, rfl⟩ := h; rfl
  case list => obtain ⟨n, rfl⟩ := h; rfl
  case fn => rcases h with ⟨f, rfl⟩ | rfl <;> rfl
  case any => exact h
theorem cfs.length : ∀ {ks : List K} {ps : List PV}, cfs ks ps → ps.length = ks.length
  | [], [], _ => rfl
  | _ :: _, _ :: _, h => by simp [cfs.length h.2]
  | [], _ :: _, h => h.elim
  | _ :: _, [], h => h.elim
/-- Cells that lie there, and that nothing turns. -/
def Lies (w : World) (S : Nat → Nat → Prop) (A : Option Addr) (us : List Value) : Prop :=
  us = [] ∨ ∃ b o, A = some ⟨b, o, none⟩ ∧ w.rangeAt b o us ∧ ∀ j, j < us.length → ¬ S b (o + j)
section
variable (P : Program) (w : World) (S : Nat → Nat → Prop)
mutual
/-- A value that says p. -/
def VP : PV → Value → Prop
  | .undef, _ => True
  | .int k n, v => v = .int k n
  | .bool b, v => v = .bool b
  | .str s, v => v = .string s
  | .fn f, v => v = .func (.func f) #[] #[]
  | .nilfn, v => v = .nilFunc
  | .nilp, v => v = .pointer none
  | .nili, v => v = .nilIface
  | .agg cs, v => ∃ vs : List Value, v = .agg vs.toArray ∧ VPs cs vs
  | .tup cs, v => ∃ vs : List Value, v = .tuple vs.toArray ∧ VPs cs vs
  | .list t xs, v => ∃ A cap us, v = .slice A xs.length cap ∧ xs.length ≤ cap ∧ (∀ e ∈ xs, cfs (kinds P t) e) ∧ Lies w S A us ∧ VPss xs us
def VPs : List PV → List Value → Prop
  | [], vs => vs = []
  | c :: cs, vs => ∃ u us, vs = u :: us ∧ VP c u ∧ VPs cs us
def VPss : List (List PV) → List Value → Prop
  | [], us => us = []
  | e :: xs, us => ∃ u1 u2, us = u1 ++ u2 ∧ VPs e u1 ∧ VPss xs u2
end
end
/-- The plainer run's memory beside the model's: the world; which cells may turn; in which block a place lies; own arrays' capacities; their elements' types and their lengths. -/
structure Cx where
  w : World
  S : Nat → Nat → Prop
  mu : Nat → Option Nat
  ka : Nat → Nat
  rt : Nat → Option (Nat × Nat)
section
variable (P : Program) (c : Cx)
mutual
def VA : AV → Value → Prop
  | .pv p, v => VP P c.w c.S p v
  | .lit t xs, v => ∃ A us, v = .slice A xs.length xs.length ∧ (∀ e ∈ xs, cfs (kinds P t) e) ∧ Lies c.w c.S A us ∧ VPss P c.w c.S xs us
  | .ptr id off, v => ∃ b, c.mu id = some b ∧ v = .pointer (some ⟨b, off, none⟩)
  | .own id, v => ∃ t n, c.rt id = some (t, n) ∧ ((∃ b, c.mu id = some b ∧ v = .slice (some ⟨b, 0, none⟩) n (c.ka id)) ∨ (c.mu id = none ∧ n = 0 ∧ ∃ A, v = .slice A 0 0))
  | .rpt id i off, v => ∃ b t n, c.mu id = some b ∧ c.rt id = some (t, n) ∧ i < n ∧ v = .pointer (some ⟨b, i * (kinds P t).length + off, none⟩)
  | .ept t xs i off, v => ∃ b o us, (∀ e ∈ xs, cfs (kinds P t) e) ∧ i < xs.length ∧ Lies c.w c.S (some ⟨b, o, none⟩) us ∧ VPss P c.w c.S xs us ∧ v = .pointer (some ⟨b, o + i * (kinds P t).length + off, none⟩)
  | .fn f first cap, v => ∃ as bs : List Value, v = .func f as.toArray bs.toArray ∧ VAs first as ∧ VAs cap bs
  | .iface t a, v => ∃ u, v = .iface t u ∧ VA a u
  | .agg cs, v => ∃ vs : List Value, v = .agg vs.toArray ∧ VAs cs vs
  | .tup cs, v => ∃ vs : List Value, v = .tuple vs.toArray ∧ VAs cs vs
def VAs : List AV → List Value → Prop
  | [], vs => vs = []
  | a :: as, vs => ∃ u us, vs = u :: us ∧ VA a u ∧ VAs as us
end
end
/-- What lay stays, and nothing turns that did not. -/
def Keep (w : World) (S : Nat → Nat → Prop) (w' : World) (S' : Nat → Nat → Prop) : Prop :=
  ∀ b o u, w.cell? ⟨b, o, none⟩ = some u → ¬ S b o → w'.cell? ⟨b, o, none⟩ = some u ∧ ¬ S' b o
theorem Keep.refl (w : World) (S : Nat → Nat → Prop) : Keep w S w S := fun _ _ _ h k => ⟨h, k⟩
theorem Keep.trans {w w' w'' : World} {S S' S'' : Nat → Nat → Prop} (h : Keep w S w' S') (k : Keep w' S' w'' S'') : Keep w S w'' S'' := fun b o u hc hs =>
  let ⟨h1, h2⟩ := h b o u hc hs
  k b o u h1 h2
theorem Lies.keep {w w' : World} {S S' : Nat → Nat → Prop} {A : Option Addr} {us : List Value} (h : Lies w S A us) (k : Keep w S w' S') : Lies w' S' A us := by
  rcases h with h | ⟨b, o, hA, hr, hs⟩
  · exact .inl h
  · have key : ∀ j u, us[j]? = some u → w'.cell? ⟨b, o + j, none⟩ = some u ∧ ¬ S' b (o + j) := fun j u hu => k b (o + j) u (hr j u hu) (hs j (List.getElem?_eq_some_iff.1 hu).1)
    exact .inr ⟨b, o, hA, fun j u hu => (key j u hu).1, fun j hj => (key j us[j] (List.getElem?_eq_getElem hj)).2⟩
section
variable {P : Program} {w w' : World} {S S' : Nat → Nat → Prop}
mutual
theorem VP.keep (k : Keep w S w' S') : ∀ (p : PV) (v : Value), VP P w S p v → VP P w' S' p v
  | .undef, _, h => by simp only [VP]
  | .int _ _, _, h => by simpa only [VP] using h
  | .bool _, _, h => by simpa only [VP] using h
  | .str _, _, h => by simpa only [VP] using h
  | .fn _, _, h => by simpa only [VP] using h
  | .nilfn, _, h => by simpa only [VP] using h
  | .nilp, _, h => by simpa only [VP] using h
  | .nili, _, h => by simpa only [VP] using h
  | .agg cs, _, h => by
    simp only [VP] at h ⊢
    obtain ⟨vs, h1, h2⟩ := h
    exact ⟨vs, h1, VPs.keep k cs vs h2⟩
  | .tup cs, _, h => by
    simp only [VP] at h ⊢
    obtain ⟨vs, h1, h2⟩ := h
    exact ⟨vs, h1, VPs.keep k cs vs h2⟩
  | .list t xs, _, h => by
    simp only [VP] at h ⊢
    obtain ⟨A, cap, us, h1, h2, h3, h4, h5⟩ := h
    exact ⟨A, cap, us, h1, h2, h3, h4.keep k, VPss.keep k xs us h5⟩
theorem VPs.keep (k : Keep w S w' S') : ∀ (cs : List PV) (vs : List Value), VPs P w S cs vs → VPs P w' S' cs vs
  | [], _, h => by simpa only [VPs] using h
  | c :: cs, _, h => by
    simp only [VPs] at h ⊢
    obtain ⟨u, us, h1, h2, h3⟩ := h
    exact ⟨u, us, h1, VP.keep k c u h2, VPs.keep k cs us h3⟩
theorem VPss.keep (k : Keep w S w' S') : ∀ (xs : List (List PV)) (us : List Value), VPss P w S xs us → VPss P w' S' xs us
  | [], _, h => by simpa only [VPss] using h
  | e :: xs, _, h => by
    simp only [VPss] at h ⊢
    obtain ⟨u1, u2, h1, h2, h3⟩ := h
    exact ⟨u1, u2, h1, VPs.keep k e u1 h2, VPss.keep k xs u2 h3⟩
end
end
/-- As Keep, and places stay where they lie. -/
structure Cx.Le (c c' : Cx) : Prop where
  keep : Keep c.w c.S c'.w c'.S
  mu : ∀ id b, c.mu id = some b → c'.mu id = some b
  rt : ∀ id x, c.rt id = some x → c'.rt id = some x ∧ c'.mu id = c.mu id ∧ c'.ka id = c.ka id
theorem Cx.Le.refl (c : Cx) : c.Le c := ⟨Keep.refl _ _, fun _ _ h => h, fun _ _ h => ⟨h, rfl, rfl⟩⟩
theorem Cx.Le.trans {a b c : Cx} (h : a.Le b) (k : b.Le c) : a.Le c :=
  ⟨h.keep.trans k.keep, fun id x hx => k.mu id x (h.mu id x hx), fun id x hx => by
    obtain ⟨h1, h2, h3⟩ := h.rt id x hx
    obtain ⟨k1, k2, k3⟩ := k.rt id x h1
    exact ⟨k1, k2.trans h2, k3.trans h3⟩⟩
section
variable {P : Program} {c c' : Cx}
mutual
theorem VA.le (k : c.Le c') : ∀ (a : AV) (v : Value), VA P c a v → VA P c' a v
  | .pv p, v, h => by simp only [VA] at h ⊢; exact VP.keep k.keep p v h
  | .lit t xs, v, h => by
    simp only [VA] at h ⊢
    obtain ⟨A, us, h1, h2, h3, h4⟩ := h
    exact ⟨A, us, h1, h2, h3.keep k.keep, VPss.keep k.keep xs us h4⟩
  | .ptr id off, v, h => by
    simp only [VA] at h ⊢
    obtain ⟨b, h1, h2⟩ := h
    exact ⟨b, k.mu id b h1, h2⟩
  | .own id, v, h => by
    simp only [VA] at h ⊢
    obtain ⟨t, n, h1, h2⟩ := h
    obtain ⟨k1, k2, k3⟩ := k.rt id _ h1
    refine ⟨t, n, k1, ?_⟩
    rw [k2, k3]
    exact h2
  | .rpt id i off, v, h => by
    simp only [VA] at h ⊢
    obtain ⟨b, t, n, h1, h2, h3⟩ := h
    exact ⟨b, t, n, k.mu id b h1, (k.rt id _ h2).1, h3⟩
  | .ept t xs i off, v, h => by
    simp only [VA] at h ⊢
    obtain ⟨b, o, us, h1, h2, h3, h4, h5⟩ := h
    exact ⟨b, o, us, h1, h2, h3.keep k.keep, VPss.keep k.keep xs us h4, h5⟩
  | .fn f first cap, v, h => by
    simp only [VA] at h ⊢
    obtain ⟨as, bs, h1, h2, h3⟩ := h
    exact ⟨as, bs, h1, VAs.le k first as h2, VAs.le k cap bs h3⟩
  | .iface t a, v, h => by
    simp only [VA] at h ⊢
    obtain ⟨u, h1, h2⟩ := h
    exact ⟨u, h1, VA.le k a u h2⟩
  | .agg cs, v, h => by
    simp only [VA] at h ⊢
    obtain ⟨vs, h1, h2⟩ := h
    exact ⟨vs, h1, VAs.le k cs vs h2⟩
  | .tup cs, v, h => by
    simp only [VA] at h ⊢
    obtain ⟨vs, h1, h2⟩ := h
    exact ⟨vs, h1, VAs.le k cs vs h2⟩
theorem VAs.le (k : c.Le c') : ∀ (as : List AV) (vs : List Value), VAs P c as vs → VAs P c' as vs
  | [], _, h => by simpa only [VAs] using h
  | a :: as, _, h => by
    simp only [VAs] at h ⊢
    obtain ⟨u, us, h1, h2, h3⟩ := h
    exact ⟨u, us, h1, VA.le k a u h2, VAs.le k as us h3⟩
end
end
/-! Lists of values -/
section
variable {P : Program} {c : Cx} {w : World} {S : Nat → Nat → Prop}
theorem VAs.length : ∀ {as : List AV} {vs : List Value}, VAs P c as vs → vs.length = as.length
  | [], _, h => by simp only [VAs] at h; simp [h]
  | _ :: as, _, h => by
    simp only [VAs] at h
    obtain ⟨u, us, rfl, _, h3⟩ := h
    simp [VAs.length h3]
theorem VPs.length : ∀ {as : List PV} {vs : List Value}, VPs P w S as vs → vs.length = as.length
  | [], _, h => by simp only [VPs] at h; simp [h]
  | _ :: as, _, h => by
    simp only [VPs] at h
    obtain ⟨u, us, rfl, _, h3⟩ := h
    simp [VPs.length h3]
theorem VAs.get : ∀ {as : List AV} {vs : List Value}, VAs P c as vs → ∀ {i : Nat} {a : AV}, as[i]? = some a → ∃ v, vs[i]? = some v ∧ VA P c a v
  | [], _, _, i, a, h => by simp at h
  | a :: as, _, h, i, b, hi => by
    simp only [VAs] at h
    obtain ⟨u, us, rfl, h2, h3⟩ := h
    cases i with
    | zero => simp at hi; exact ⟨u, rfl, hi ▸ h2⟩
    | succ i => simpa using h3.get (by simpa using hi)
theorem VPs.get : ∀ {as : List PV} {vs : List Value}, VPs P w S as vs → ∀ {i : Nat} {a : PV}, as[i]? = some a → ∃ v, vs[i]? = some v ∧ VP P w S a v
  | [], _, _, i, a, h => by simp at h
  | a :: as, _, h, i, b, hi => by
    simp only [VPs] at h
    obtain ⟨u, us, rfl, h2, h3⟩ := h
    cases i with
    | zero => simp at hi; exact ⟨u, rfl, hi ▸ h2⟩
    | succ i => simpa using h3.get (by simpa using hi)
theorem VAs.of_get : ∀ {as : List AV} {vs : List Value}, vs.length = as.length → (∀ (i : Nat) (a : AV) (v : Value), as[i]? = some a → vs[i]? = some v → VA P c a v) → VAs P c as vs
  | [], vs, h, _ => by simp only [VAs]; exact List.length_eq_zero_iff.1 h
  | a :: as, [], h, _ => by simp at h
  | a :: as, v :: vs, h, k => by
    simp only [VAs]
    exact ⟨v, vs, rfl, k 0 a v rfl rfl, VAs.of_get (by simpa using h) fun i a' v' h1 h2 => k (i + 1) a' v' (by simpa using h1) (by simpa using h2)⟩
theorem VPs.of_get : ∀ {as : List PV} {vs : List Value}, vs.length = as.length → (∀ (i : Nat) (a : PV) (v : Value), as[i]? = some a → vs[i]? = some v → VP P w S a v) → VPs P w S as vs
  | [], vs, h, _ => by simp only [VPs]; exact List.length_eq_zero_iff.1 h
  | a :: as, [], h, _ => by simp at h
  | a :: as, v :: vs, h, k => by
    simp only [VPs]
    exact ⟨v, vs, rfl, k 0 a v rfl rfl, VPs.of_get (by simpa using h) fun i a' v' h1 h2 => k (i + 1) a' v' (by simpa using h1) (by simpa using h2)⟩
theorem VAs.append {as bs : List AV} {vs us : List Value} (h : VAs P c as vs) (k : VAs P c bs us) : VAs P c (as ++ bs) (vs ++ us) := by
  refine VAs.of_get (by simp [h.length, k.length]) fun i a v h1 h2 => ?_
  rcases Nat.lt_or_ge i as.length with hi | hi
  · rw [List.getElem?_append_left hi] at h1
    rw [List.getElem?_append_left (by rw [h.length]; exact hi)] at h2
    obtain ⟨v', h3, h4⟩ := h.get h1
    rw [h2] at h3; cases h3; exact h4
  · rw [List.getElem?_append_right hi] at h1
    rw [List.getElem?_append_right (by rw [h.length]; exact hi), h.length] at h2
    obtain ⟨v', h3, h4⟩ := k.get h1
    rw [h2] at h3; cases h3; exact h4
theorem VAs.take {as : List AV} {vs : List Value} (h : VAs P c as vs) (n : Nat) : VAs P c (as.take n) (vs.take n) := by
  refine VAs.of_get (by simp [h.length]) fun i a v h1 h2 => ?_
  rw [List.getElem?_take] at h1 h2
  split at h1
  · rename_i hi
    rw [if_pos hi] at h2
    obtain ⟨v', h3, h4⟩ := h.get h1
    rw [h2] at h3; cases h3; exact h4
  · cases h1
theorem VAs.drop {as : List AV} {vs : List Value} (h : VAs P c as vs) (n : Nat) : VAs P c (as.drop n) (vs.drop n) := by
  refine VAs.of_get (by simp [h.length]) fun i a v h1 h2 => ?_
  rw [List.getElem?_drop] at h1 h2
  obtain ⟨v', h3, h4⟩ := h.get h1
  rw [h2] at h3; cases h3; exact h4
theorem VPs.take {as : List PV} {vs : List Value} (h : VPs P w S as vs) (n : Nat) : VPs P w S (as.take n) (vs.take n) := by
  refine VPs.of_get (by simp [h.length]) fun i a v h1 h2 => ?_
  rw [List.getElem?_take] at h1 h2
  split at h1
  · rename_i hi
    rw [if_pos hi] at h2
    obtain ⟨v', h3, h4⟩ := h.get h1
    rw [h2] at h3; cases h3; exact h4
  · cases h1
theorem VPs.drop {as : List PV} {vs : List Value} (h : VPs P w S as vs) (n : Nat) : VPs P w S (as.drop n) (vs.drop n) := by
  refine VPs.of_get (by simp [h.length]) fun i a v h1 h2 => ?_
  rw [List.getElem?_drop] at h1 h2
  obtain ⟨v', h3, h4⟩ := h.get h1
  rw [h2] at h3; cases h3; exact h4
theorem VAs.set {as : List AV} {vs : List Value} (h : VAs P c as vs) (d : Nat) {a : AV} {v : Value} (k : VA P c a v) : VAs P c (as.set d a) (vs.set d v) := by
  refine VAs.of_get (by simp [h.length]) fun i a' v' h1 h2 => ?_
  rw [List.getElem?_set] at h1 h2
  by_cases e : d = i
  · rw [if_pos e] at h1 h2
    split at h1
    · rename_i hi
      rw [if_pos (by rw [h.length]; exact hi)] at h2
      cases h1; cases h2; exact k
    · cases h1
  · rw [if_neg e] at h1 h2
    obtain ⟨v'', h3, h4⟩ := h.get h1
    rw [h2] at h3; cases h3; exact h4
theorem VAs.mapPv {cs : List PV} {vs : List Value} (h : VPs P c.w c.S cs vs) : VAs P c (cs.map .pv) vs := by
  refine VAs.of_get (by simp [h.length]) fun i a v h1 h2 => ?_
  rw [List.getElem?_map] at h1
  obtain ⟨p, hp, rfl⟩ := Option.map_eq_some_iff.1 h1
  obtain ⟨v', h3, h4⟩ := h.get hp
  rw [h2] at h3; cases h3
  simpa only [VA] using h4
theorem VPss.append {xs ys : List (List PV)} {us vs : List Value} (h : VPss P w S xs us) (k : VPss P w S ys vs) : VPss P w S (xs ++ ys) (us ++ vs) := by
  induction xs generalizing us with
  | nil => simp only [VPss] at h; subst h; simpa using k
  | cons e xs ih =>
    simp only [VPss, List.cons_append] at h ⊢
    obtain ⟨u1, u2, rfl, h2, h3⟩ := h
    exact ⟨u1, u2 ++ vs, by simp, h2, ih h3⟩
theorem VPss.length {xs : List (List PV)} {us : List Value} {n : Nat} (h : VPss P w S xs us) (hn : ∀ e ∈ xs, e.length = n) : us.length = xs.length * n := by
  induction xs generalizing us with
  | nil => simp only [VPss] at h; subst h; simp
  | cons e xs ih =>
    simp only [VPss] at h
    obtain ⟨u1, u2, rfl, h2, h3⟩ := h
    rw [List.length_append, ih h3 (fun e' he => hn e' (by simp [he])), h2.length, hn e (by simp), List.length_cons, Nat.add_mul, Nat.one_mul, Nat.add_comm]
theorem VPss.get {xs : List (List PV)} {us : List Value} {n : Nat} (h : VPss P w S xs us) (hn : ∀ e ∈ xs, e.length = n) {i : Nat} {e : List PV} (hi : xs[i]? = some e) : VPs P w S e ((us.drop (i * n)).take n) := by
  induction xs generalizing us i with
  | nil => simp at hi
  | cons e' xs ih =>
    simp only [VPss] at h
    obtain ⟨u1, u2, rfl, h2, h3⟩ := h
    have hl : u1.length = n := by rw [h2.length, hn e' (by simp)]
    cases i with
    | zero =>
      simp at hi; subst hi
      simp only [Nat.zero_mul, List.drop_zero]
      rw [List.take_left' hl]
      exact h2
    | succ i =>
      have := ih h3 (fun e'' he => hn e'' (by simp [he])) (i := i) (by simpa using hi)
      rw [show (i + 1) * n = n + i * n by rw [Nat.add_mul, Nat.one_mul, Nat.add_comm]]
      rw [← List.drop_drop, List.drop_left' hl]
      exact this
theorem VPss.of_get {n : Nat} : ∀ {xs : List (List PV)} {us : List Value}, us.length = xs.length * n → (∀ e ∈ xs, e.length = n) → (∀ (i : Nat) (e : List PV), xs[i]? = some e → VPs P w S e ((us.drop (i * n)).take n)) → VPss P w S xs us
  | [], us, h, _, _ => by simp only [VPss]; exact List.length_eq_zero_iff.1 (by simpa using h)
  | e :: xs, us, h, hn, k => by
    simp only [VPss]
    have h0 := k 0 e rfl
    simp only [Nat.zero_mul, List.drop_zero] at h0
    refine ⟨us.take n, us.drop n, (List.take_append_drop n us).symm, h0, VPss.of_get ?_ (fun e' he => hn e' (by simp [he])) fun i e' hi => ?_⟩
    · rw [List.length_drop, h, List.length_cons, Nat.add_mul, Nat.one_mul]; omega
    · have := k (i + 1) e' (by simpa using hi)
      rw [show (i + 1) * n = n + i * n by rw [Nat.add_mul, Nat.one_mul, Nat.add_comm], ← List.drop_drop] at this
      exact this
theorem VP.one {p : PV} {v : Value} (h : VP P w S p v) (k : p.one = true) : v.oneCell' = true := by
  cases p <;> simp only [VP] at h <;> simp only [PV.one, Bool.false_eq_true] at k
  all_goals first
    | (subst h; rfl)
    | (obtain ⟨A, cap, us, rfl, _⟩ := h; rfl)
theorem VA.one {a : AV} {v : Value} (h : VA P c a v) (k : a.one = true) : v.oneCell' = true := by
  cases a
  case pv p =>
    simp only [VA] at h
    refine VP.one h ?_
    cases p <;> simp_all [AV.one, PV.one]
  all_goals simp only [VA] at h
  case lit t xs => obtain ⟨A, us, rfl, _⟩ := h; rfl
  case ptr => obtain ⟨b, _, rfl⟩ := h; rfl
  case own =>
    obtain ⟨t, n, _, ⟨b, _, rfl⟩ | ⟨_, _, A, rfl⟩⟩ := h <;> rfl
  case rpt => obtain ⟨b, t, n, _, _, _, rfl⟩ := h; rfl
  case ept => obtain ⟨b, o, us, _, _, _, _, rfl⟩ := h; rfl
  case fn => obtain ⟨as, bs, rfl, _⟩ := h; rfl
  case iface => obtain ⟨u, rfl, _⟩ := h; rfl
  case agg => simp [AV.one] at k
  case tup => simp [AV.one] at k
theorem VPs.ones {ks : List K} {ps : List PV} {vs : List Value} (h : VPs P w S ps vs) (k : cfs ks ps) : ∀ v ∈ vs, v.oneCell' = true := by
  induction ps generalizing ks vs with
  | nil => simp only [VPs] at h; subst h; intro v hv; cases hv
  | cons p ps ih =>
    simp only [VPs] at h
    obtain ⟨u, us, rfl, h2, h3⟩ := h
    cases ks with
    | nil => exact k.elim
    | cons k' ks =>
      intro v hv
      rcases List.mem_cons.1 hv with rfl | hv
      · exact VP.one h2 k.1.one
      · exact ih h3 k.2 v hv
theorem VPss.ones {ks : List K} {xs : List (List PV)} {vs : List Value} (h : VPss P w S xs vs) (k : ∀ e ∈ xs, cfs ks e) : ∀ v ∈ vs, v.oneCell' = true := by
  induction xs generalizing vs with
  | nil => simp only [VPss] at h; subst h; intro v hv; cases hv
  | cons e xs ih =>
    simp only [VPss] at h
    obtain ⟨u1, u2, rfl, h2, h3⟩ := h
    intro v hv
    rcases List.mem_append.1 hv with hv | hv
    · exact h2.ones (k e (by simp)) v hv
    · exact ih h3 (fun e' he => k e' (by simp [he])) v hv
end
theorem eta_of {k : K} {p : PV} (h : cf k p) : eta k p = p := by
  cases k <;> simp only [cf] at h
  case int => obtain ⟨n, rfl⟩ := h; rfl
  case bool => obtain ⟨n, rfl⟩ := h; rfl
  case str => obtain ⟨n, rfl⟩ := h; rfl
  case list => obtain ⟨n, rfl⟩ := h; rfl
  case fn => rfl
  case any => rfl
theorem etas_of : ∀ {ks : List K} {ps : List PV}, cfs ks ps → etas ks ps = ps
  | [], [], _ => rfl
  | k :: ks, p :: ps, h => by
    simp only [etas, List.headD_cons, List.tail_cons]
    rw [eta_of h.1, etas_of h.2]
  | [], _ :: _, h => h.elim
  | _ :: _, [], h => h.elim
end Go.Proofs.YtkdbccloniaogaaS
