/- Loops' heads: what is not read behind them goes. Conditions: none. -/
import Derived.Test.YtkdbccloniaogaaSimCode
set_option linter.unusedVariables false
set_option linter.unusedSimpArgs false
namespace Go.Proofs.YtkdbccloniaogaaS
open Go Go.RowKit

theorem findOb_none (r : Nat → Option Nat) (j : Nat) : ∀ m : List (Nat × Ob), (∀ x ∈ m, r x.1 ≠ some j) → findOb j (scrubM r m) = none
  | [], _ => rfl
  | x :: m, h => by
    have ih := findOb_none r j m fun y hy => h y (by simp [hy])
    simp only [scrubM]
    cases hx : r x.1 with
    | none => exact ih
    | some k =>
      have hk : k ≠ j := fun e => h x (by simp) (by rw [hx, e])
      simp only [findOb, if_neg hk]
      exact ih
theorem findOb_ren (r : Nat → Option Nat) {i j : Nat} (hr : r i = some j) : ∀ m : List (Nat × Ob), (∀ x ∈ m, r x.1 = some j → x.1 = i) → findOb j (scrubM r m) = (findOb i m).map (scrubOb r)
  | [], _ => rfl
  | x :: m, h => by
    have ih := findOb_ren r hr m fun y hy => h y (by simp [hy])
    simp only [scrubM]
    cases hx : r x.1 with
    | none =>
      have hk : x.1 ≠ i := fun e => by rw [e, hr] at hx; cases hx
      rw [show findOb i (x :: m) = findOb i m from if_neg hk]
      exact ih
    | some k =>
      by_cases e : k = j
      · subst e
        have := h x (by simp) hx
        rw [show findOb i (x :: m) = some x.2 from if_pos this]
        simp only [findOb, if_true, Option.map_some]
      · have hk : x.1 ≠ i := fun q => by rw [q, hr] at hx; cases hx; exact e rfl
        rw [show findOb i (x :: m) = findOb i m from if_neg hk]
        simp only [findOb, if_neg e]
        exact ih
theorem findOb_mem {id : Nat} {o : Ob} : ∀ {m : List (Nat × Ob)}, findOb id m = some o → ∃ x ∈ m, x.1 = id
  | [], h => by cases h
  | x :: m, h => by
    by_cases e : x.1 = id
    · exact ⟨x, by simp, e⟩
    · rw [show findOb id (x :: m) = findOb id m from if_neg e] at h
      obtain ⟨y, hy, he⟩ := findOb_mem h
      exact ⟨y, by simp [hy], he⟩
/-- Fewer places, and others. -/
structure Cx.Few (r : Nat → Option Nat) (c c' : Cx) : Prop where
  keep : Keep c.w c.S c'.w c'.S
  there : ∀ id j, r id = some j → ((∃ b, c.mu id = some b) ∨ (∃ x, c.rt id = some x)) → c'.mu j = c.mu id ∧ c'.rt j = c.rt id ∧ c'.ka j = c.ka id
section
variable {P : Program} {c c' : Cx} {dead : Nat → Option Nat}
theorem VA.undef' {v : Value} : VA P c (.pv .undef) v := by simp only [VA, VP]
theorem VA.scrub1 (k : c.Few dead c') {a : AV} {v : Value} (hf : flat1 a = true) (h : VA P c a v) : VA P c' (scrub1 dead a) v := by
  cases a with
  | pv p => simp only [Go.Proofs.YtkdbccloniaogaaS.scrub1, VA] at h ⊢; exact VP.keep k.keep p v h
  | lit t xs =>
    simp only [Go.Proofs.YtkdbccloniaogaaS.scrub1, VA] at h ⊢
    obtain ⟨A, us, h1, h2, h3, h4⟩ := h
    exact ⟨A, us, h1, h2, h3.keep k.keep, VPss.keep k.keep xs us h4⟩
  | ptr id off =>
    simp only [Go.Proofs.YtkdbccloniaogaaS.scrub1]
    cases hd : dead id with
    | some j =>
      simp only [VA] at h ⊢
      obtain ⟨b, h1, h2⟩ := h
      obtain ⟨k1, k2, k3⟩ := k.there id j hd (.inl ⟨b, h1⟩)
      exact ⟨b, k1.trans h1, h2⟩
    | none => exact VA.undef'
  | own id =>
    simp only [Go.Proofs.YtkdbccloniaogaaS.scrub1]
    cases hd : dead id with
    | some j =>
      simp only [VA] at h ⊢
      obtain ⟨t, n, h1, h2⟩ := h
      obtain ⟨k1, k2, k3⟩ := k.there id j hd (.inr ⟨_, h1⟩)
      rw [k1, k2, k3]
      exact ⟨t, n, h1, h2⟩
    | none => exact VA.undef'
  | rpt id i off =>
    simp only [Go.Proofs.YtkdbccloniaogaaS.scrub1]
    cases hd : dead id with
    | some j =>
      simp only [VA] at h ⊢
      obtain ⟨b, t, n, h1, h2⟩ := h
      obtain ⟨k1, k2, k3⟩ := k.there id j hd (.inl ⟨b, h1⟩)
      exact ⟨b, t, n, k1.trans h1, by rw [k2]; exact h2⟩
    | none => exact VA.undef'
  | ept t xs i off =>
    simp only [Go.Proofs.YtkdbccloniaogaaS.scrub1, VA] at h ⊢
    obtain ⟨b, o, us, h1, h2, h3, h4, h5⟩ := h
    exact ⟨b, o, us, h1, h2, h3.keep k.keep, VPss.keep k.keep xs us h4, h5⟩
  | fn f a b =>
    cases a with
    | cons => simp [flat1] at hf
    | nil =>
      cases b with
      | cons => simp [flat1] at hf
      | nil =>
        simp only [Go.Proofs.YtkdbccloniaogaaS.scrub1, VA, VAs] at h ⊢
        exact h
  | iface t a => simp [flat1] at hf
  | agg cs => simp [flat1] at hf
  | tup cs => simp [flat1] at hf
theorem VAs.scrub1 (k : c.Few dead c') : ∀ {as : List AV} {vs : List Value}, as.all flat1 = true → VAs P c as vs → VAs P c' (as.map (Go.Proofs.YtkdbccloniaogaaS.scrub1 dead)) vs
  | [], _, _, h => by simpa only [VAs, List.map_nil] using h
  | a :: as, _, hf, h => by
    simp only [List.all_cons, Bool.and_eq_true] at hf
    simp only [VAs, List.map_cons] at h ⊢
    obtain ⟨u, us, h1, h2, h3⟩ := h
    exact ⟨u, us, h1, VA.scrub1 k hf.1 h2, VAs.scrub1 k hf.2 h3⟩
theorem VA.scrub (k : c.Few dead c') {a : AV} {v : Value} (h : VA P c a v) : VA P c' (Go.Proofs.YtkdbccloniaogaaS.scrub dead a) v := by
  have plain : ∀ {a : AV}, VA P c a v → VA P c' (match flat1 a with | true => Go.Proofs.YtkdbccloniaogaaS.scrub1 dead a | false => .pv .undef) v := by
    intro a h
    cases hf : flat1 a
    · exact VA.undef'
    · exact VA.scrub1 k hf h
  cases a with
  | agg cs =>
    simp only [Go.Proofs.YtkdbccloniaogaaS.scrub]
    cases hf : cs.all flat1
    · exact VA.undef'
    · simp only [VA] at h ⊢
      obtain ⟨vs, h1, h2⟩ := h
      exact ⟨vs, h1, VAs.scrub1 k hf h2⟩
  | tup cs =>
    simp only [Go.Proofs.YtkdbccloniaogaaS.scrub]
    cases hf : cs.all flat1
    · exact VA.undef'
    · simp only [VA] at h ⊢
      obtain ⟨vs, h1, h2⟩ := h
      exact ⟨vs, h1, VAs.scrub1 k hf h2⟩
  | fn f a b =>
    simp only [Go.Proofs.YtkdbccloniaogaaS.scrub]
    cases hf : (a.all flat1 && b.all flat1)
    · exact VA.undef'
    · simp only [Bool.and_eq_true] at hf
      simp only [VA] at h ⊢
      obtain ⟨as, bs, h1, h2, h3⟩ := h
      exact ⟨as, bs, h1, VAs.scrub1 k hf.1 h2, VAs.scrub1 k hf.2 h3⟩
  | pv p => exact plain h
  | lit t xs => exact plain h
  | ptr id off => exact plain h
  | own id => exact plain h
  | rpt id i off => exact plain h
  | ept t xs i off => exact plain h
  | iface t a => exact plain h
theorem VAs.scrub (k : c.Few dead c') : ∀ {as : List AV} {vs : List Value}, VAs P c as vs → VAs P c' (as.map (Go.Proofs.YtkdbccloniaogaaS.scrub dead)) vs
  | [], _, h => by simpa only [VAs, List.map_nil] using h
  | a :: as, _, h => by
    simp only [VAs, List.map_cons] at h ⊢
    obtain ⟨u, us, h1, h2, h3⟩ := h
    exact ⟨u, us, h1, VA.scrub k h2, VAs.scrub k h3⟩
theorem VAs.maskT (live : List Nat) : ∀ {as : List AV} {vs : List Value} (i : Nat), VAs P c as vs → VAs P c (Go.Proofs.YtkdbccloniaogaaS.maskT live i as) vs
  | [], _, _, h => by simpa only [VAs, Go.Proofs.YtkdbccloniaogaaS.maskT] using h
  | a :: as, _, i, h => by
    simp only [VAs, Go.Proofs.YtkdbccloniaogaaS.maskT] at h ⊢
    obtain ⟨u, us, h1, h2, h3⟩ := h
    refine ⟨u, us, h1, ?_, VAs.maskT live (i + 1) h3⟩
    cases live.contains i
    · exact VA.undef'
    · exact h2
end
section
variable {P : Program} {X : Out} {s : St} {mu : Nat → Option Nat} {ka : Nat → Nat} {cst : List (List Value)} {a : List Value} {w : World}
theorem live_scrub {r : Nat → Option Nat} {ob : Ob} (h : Go.Proofs.YtkdbccloniaogaaS.live (scrubOb r ob)) : Go.Proofs.YtkdbccloniaogaaS.live ob := by
  cases ob with
  | box cs => exact trivial
  | row m t xs => exact h
theorem mut_scrub {r : Nat → Option Nat} {ob : Ob} {o : Nat} (h : mutOb P (scrubOb r ob) o) : mutOb P ob o := by
  cases ob with
  | box cs => exact trivial
  | row m t xs => exact h
theorem Rel.cut (h : Rel P X s mu ka cst a w) (tm : List AV) (htm : VAs P (cx P X s.mem mu ka w) tm a) (r : Nat → Option Nat) (c0 : Nat) (hone : oneEach r s.mem = true) : ∃ mu' ka', Rel P X (s.cut tm r c0) mu' ka' cst a w := by
  have one : ∀ x ∈ s.mem, ∀ j, r x.1 = some j → whose r s.mem j = some x.1 := by
    intro x hx j hj
    unfold oneEach at hone
    have := List.all_eq_true.1 hone x hx
    rw [hj] at this
    simpa using this
  have back : ∀ {j i}, whose r s.mem j = some i → r i = some j ∧ (∀ x ∈ s.mem, r x.1 = some j → x.1 = i) := by
    intro j i hw
    refine ⟨?_, fun x hx hr => ?_⟩
    · unfold whose at hw
      obtain ⟨x, hx, rfl⟩ := Option.map_eq_some_iff.1 hw
      have := List.find?_some hx
      simpa using this
    · have := one x hx j hr
      rw [hw] at this
      exact (Option.some.inj this).symm
  have hfind : ∀ j, findOb j (scrubM r s.mem) = (whose r s.mem j).bind fun i => (findOb i s.mem).map (scrubOb r) := by
    intro j
    cases hw : whose r s.mem j with
    | some i =>
      obtain ⟨b1, b2⟩ := back hw
      exact findOb_ren r b1 s.mem b2
    | none =>
      refine findOb_none r j s.mem fun x hx hr => ?_
      have := one x hx j hr
      rw [hw] at this
      cases this
  have there : ∀ {id j ob}, r id = some j → findOb id s.mem = some ob → whose r s.mem j = some id := by
    intro id j ob hr hf
    obtain ⟨x, hx, rfl⟩ := findOb_mem hf
    exact one x hx j hr
  have k : (cx P X s.mem mu ka w).Few r (cx P X (scrubM r s.mem) (fun j => (whose r s.mem j).bind mu) (fun j => match whose r s.mem j with | some i => ka i | none => 0) w) := by
    refine ⟨fun b o u hc hs => ⟨hc, fun q => hs ?_⟩, fun id j hr hp => ?_⟩
    · rcases q with q | ⟨j, ob, g1, g2, g3⟩
      · exact .inl q
      · rw [hfind] at g1
        cases hw : whose r s.mem j with
        | none => rw [hw] at g1; cases g1
        | some i =>
          simp only [hw, Option.bind_some] at g1 g2
          obtain ⟨ob0, h1, rfl⟩ := Option.map_eq_some_iff.1 g1
          exact .inr ⟨i, ob0, h1, g2, mut_scrub g3⟩
    · have hin : ∃ ob, findOb id s.mem = some ob := by
        rcases hp with ⟨b, hb⟩ | ⟨x, hx⟩
        · exact (h.blk id b hb).2
        · obtain ⟨_, _, _, hx', _⟩ := rtOf_some hx
          exact ⟨_, hx'⟩
      obtain ⟨ob, hob⟩ := hin
      have hw := there hr hob
      refine ⟨?_, ?_, ?_⟩
      · show (whose r s.mem j).bind mu = mu id
        rw [hw]; rfl
      · show rtOf _ j = rtOf s.mem id
        unfold rtOf
        rw [hfind, hw, Option.bind_some, hob]
        cases ob <;> rfl
      · show (match whose r s.mem j with | some i => ka i | none => 0) = ka id
        rw [hw]
  refine ⟨_, _, h.bel, ?_, ?_, ?_, VAs.scrub k htm, ?_, ?_⟩
  · intro j b hb
    cases hw : whose r s.mem j with
    | none => rw [hw] at hb; cases hb
    | some i =>
      rw [hw] at hb
      obtain ⟨h1, ob, h2⟩ := h.blk i b hb
      refine ⟨h1, scrubOb r ob, ?_⟩
      show findOb j (scrubM r s.mem) = _
      rw [hfind, hw, Option.bind_some, h2]
      rfl
  · intro i j b oi oj hi hj fi fj li lj
    have fi' : findOb i (scrubM r s.mem) = some oi := fi
    have fj' : findOb j (scrubM r s.mem) = some oj := fj
    rw [hfind] at fi' fj'
    cases hwi : whose r s.mem i with
    | none => rw [hwi] at hi; cases hi
    | some i' =>
      cases hwj : whose r s.mem j with
      | none => rw [hwj] at hj; cases hj
      | some j' =>
        simp only [hwi, hwj, Option.bind_some] at hi hj fi' fj'
        obtain ⟨oi', gi, rfl⟩ := Option.map_eq_some_iff.1 fi'
        obtain ⟨oj', gj, rfl⟩ := Option.map_eq_some_iff.1 fj'
        have := h.inj i' j' b oi' oj' hi hj gi gj (live_scrub li) (live_scrub lj)
        have hi2 := (back hwi).1
        have hj2 := (back hwj).1
        rw [this, hj2] at hi2
        exact (Option.some.inj hi2).symm
  · intro j ob hf
    have hf' : findOb j (scrubM r s.mem) = some ob := hf
    rw [hfind] at hf'
    cases hw : whose r s.mem j with
    | none => rw [hw] at hf'; cases hf'
    | some i =>
      simp only [hw, Option.bind_some] at hf' ⊢
      obtain ⟨ob0, h1, rfl⟩ := Option.map_eq_some_iff.1 hf'
      rcases h.obs i ob0 h1 with ⟨b, hb, ho⟩ | ⟨hn, m, t, rfl, hz⟩
      · refine .inl ⟨b, hb, ?_⟩
        cases ob0 with
        | box cs =>
          obtain ⟨T, vs, g1, g2⟩ := ho
          exact ⟨T, vs, g1, VAs.scrub k g2⟩
        | row m t xs =>
          obtain ⟨g1, g2, g3, g4⟩ := ho
          refine ⟨g1, g2, g3, ?_⟩
          cases m with
          | zero =>
            obtain ⟨us, g5, g6⟩ := g4
            exact ⟨us, g5.keep k.keep, VPss.keep k.keep xs us g6⟩
          | succ m =>
            obtain ⟨vs, g5, g6, g7, g8⟩ := g4
            exact ⟨vs, g5, g6, g7, VPss.keep k.keep xs _ g8⟩
      · exact .inr ⟨hn, m, t, rfl, hz⟩
  · simpa [St.cut] using h.stk.1
  · intro i x vs hx hv
    have hx' : (s.stack.map fun x => (x.1, x.2.1, x.2.2.map (Go.Proofs.YtkdbccloniaogaaS.scrub r)))[i]? = some x := hx
    simp only [List.getElem?_map] at hx'
    obtain ⟨y, hy, rfl⟩ := Option.map_eq_some_iff.1 hx'
    exact VAs.scrub k (h.stk.2 i y vs hy hv)
theorem Rel.mask (h : Rel P X s mu ka cst a w) (lv : List Nat × List Nat) (c0 : Nat) : ∃ mu' ka', Rel P X (s.mask lv c0) mu' ka' cst a w := by
  unfold St.mask
  cases hone : oneEach (placing s (maskT lv.1 0 s.tmps) c0) s.mem with
  | false => exact ⟨mu, ka, h⟩
  | true => exact h.cut _ (VAs.maskT lv.1 0 h.tms) _ c0 hone
end
end Go.Proofs.YtkdbccloniaogaaS
