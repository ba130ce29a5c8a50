/- Builtin functions, appends, functions that are not walked into. Conditions: none. -/
import Derived.Test.YtkdbccloniaogaaSimOp6
set_option linter.unusedVariables false
set_option linter.unusedSimpArgs false
namespace Go.Proofs.YtkdbccloniaogaaS
open Go Go.RowKit

section
variable {P : Program} {X : Out} {s : St} {mu : Nat → Option Nat} {ka : Nat → Nat} {cst : List (List Value)} {act : Act} {a : List Value} {w : World} {E : Env} {fr : Nat} {o : Oper} {p : AV × List Eff} {K : Act → World → Prop} {Q : Exit → Act → World → Prop}
/-- An append where there is room, in a row. -/
theorem run_append_row (t tx ty e T : TypeId) (i : TypeInfo) (ht : P.underlying t = some (.slice e)) (hi : P.info? e = some i) (b sLen sCap : Nat) (vs : Array Value) (hg : w.heap[b]? = some (.cells vs T (0, 0))) (x : Value) (n : Nat) (news : List Value)
    (hs : Src P i.size tx x n news w) (hroom : sLen + n ≤ sCap) (hfit : sLen * i.size + news.length ≤ vs.size) :
    (Builtin.append_ #[t, tx] ty #[.slice (some ⟨b, 0, none⟩) sLen sCap, x]).run P w = .ok (.slice (some ⟨b, 0, none⟩) (sLen + n) sCap) (w.setRow b (splice vs.toList (sLen * i.size) news).toArray) := by
  have hst := run_storeCells_at P b (sLen * i.size) T news 0 vs w hg (by simpa using hfit) hs.one
  simp only [Nat.add_zero] at hst
  rcases hs.kind with ⟨e', hk⟩ | hk <;> simp [Builtin.append_, run_underlying ht, run_underlying hk, sizeOf, typeInfo, hi, hs.len, hroom, hs.cells, Addr.add_lit, hst, splice]
/-- Nothing is appended to nothing. -/
theorem run_append_zero (t tx ty e : TypeId) (i : TypeInfo) (ht : P.underlying t = some (.slice e)) (hi : P.info? e = some i) (A : Option Addr) (x : Value) (hs : Src P i.size tx x 0 [] w) :
    (Builtin.append_ #[t, tx] ty #[.slice A 0 0, x]).run P w = .ok (.slice A 0 0) w := by
  rcases hs.kind with ⟨e', hk⟩ | hk <;> cases A <;> simp [Builtin.append_, run_underlying ht, run_underlying hk, sizeOf, typeInfo, hi, hs.len, hs.cells, storeCells]
theorem src_of {tx e' t k : Nat} {A : Option Addr} {xs : List (List PV)} {us : List Value} {S : Nat → Nat → Prop} (hk : P.underlying tx = some (.slice e')) (hsz : (kinds P t).length = sizeT P t) (hnz : sizeT P t ≠ 0)
    (hc : ∀ e ∈ xs, cfs (kinds P t) e) (hr : us = [] ∨ ∃ b o, A = some ⟨b, o, none⟩ ∧ w.rangeAt b o us) (hv : VPss P w S xs us) : Src P (sizeT P t) tx (.slice A xs.length k) xs.length us w := by
  have hl : us.length = xs.length * sizeT P t := by rw [← hsz]; exact hv.length fun e he => (hc e he).length
  have h1 : ∀ u ∈ us, u.oneCell' = true := hv.ones hc
  cases A with
  | none =>
    rcases hr with rfl | ⟨b, o, e, _⟩
    · have : xs.length = 0 := by
        simp only [List.length_nil] at hl
        rcases Nat.mul_eq_zero.1 hl.symm with q | q
        · exact q
        · exact absurd q hnz
      rw [this]
      exact Src.ofNil w hk k
    · cases e
  | some ad =>
    refine Src.ofSlice w hk ad xs.length k us hl (fun j u hu => ?_) h1
    rcases hr with rfl | ⟨b, o, e, hra⟩
    · simp at hu
    · cases e
      rw [Addr.add_mid]
      exact hra j u hu
theorem fits (n bytes : Nat) (hn : n ≤ most) (hb : bytes ≤ 100000) : n * bytes ≤ 140737488355328 := by
  have : n * bytes ≤ most * 100000 := Nat.mul_le_mul hn hb
  unfold most at this
  omega
theorem ownVal {mem : List (Nat × Ob)} {mu' : Nat → Option Nat} {ka' : Nat → Nat} {w' : World} {id m t b k : Nat} {xs : List (List PV)} (hb : mu' id = some b) (hk : ka' id = k) :
    VA P (cx P X ((id, .row m t xs) :: mem) mu' ka' w') (.own id) (.slice (some ⟨b, 0, none⟩) xs.length k) := by
  simp only [VA]
  refine ⟨t, xs.length, ?_, .inl ⟨b, hb, by show _ = Value.slice _ _ (ka' id); rw [hk]⟩⟩
  show rtOf _ _ = _
  exact rtOf_row (by rw [findOb_cons, if_pos rfl])
theorem nilVal {mem : List (Nat × Ob)} {w' : World} {id m t : Nat} (hb : mu id = none) (A : Option Addr) : VA P (cx P X ((id, .row m t []) :: mem) mu ka w') (.own id) (.slice A 0 0) := by
  simp only [VA]
  refine ⟨t, 0, ?_, .inr ⟨hb, rfl, A, rfl⟩⟩
  show rtOf _ _ = _
  exact rtOf_row (xs := []) (by rw [findOb_cons, if_pos rfl])
theorem row_size {w : World} {z : Array Value} {sz n k : Nat} {us : List Value} (hz : z.size = sz) (hl : us.length = n * sz) (hk : n ≤ k) : (us.toArray ++ Builtin.zeroCells z (k - n)).size = k * sz := by
  rw [Array.size_append, size_zeroCells, hz, List.size_toArray, hl, ← Nat.add_mul]
  congr 1
  omega
theorem row_take {z : Array Value} {n : Nat} {us : List Value} : ((us.toArray ++ Builtin.zeroCells z n).toList.take us.length) = us := by
  rw [Array.toList_append]
  exact List.take_left
/-- A new array for what was there and what is appended. -/
theorem grow_row (h : Rel P X s mu ka cst a w) {id m e : Nat} {xs : List (List PV)} {us : List Value} {z : Value} {i : TypeInfo} {old : Nat} (hf : findOb id s.mem = none) (hi : P.info? e = some i) (hz : z.cells.size = i.size)
    (hsz : (kinds P e).length = sizeT P e) (hc : ∀ x ∈ xs, cfs (kinds P e) x) (hv : VPss P w (Smut P X.S0 s.mem mu) xs us) (hn : xs.length ≤ most) :
    ∃ mu' ka', (cx P X s.mem mu ka w).Le (cx P X ((id, .row (m + 1) e xs) :: s.mem) mu' ka' (w.drew.alloc (.cells (us.toArray ++ Builtin.zeroCells z.cells (grownCap w xs.length old e - xs.length)) e))) ∧
      Rel P X { s with mem := (id, .row (m + 1) e xs) :: s.mem } mu' ka' cst a (w.drew.alloc (.cells (us.toArray ++ Builtin.zeroCells z.cells (grownCap w xs.length old e - xs.length)) e)) ∧
      mu' id = some w.heap.size ∧ ka' id = grownCap w xs.length old e := by
  have hsi : sizeT P e = i.size := by simp [sizeT, hi]
  have hl : us.length = xs.length * (kinds P e).length := hv.length fun x hx => (hc x hx).length
  have hml : xs.length ≤ maxLen := by unfold most at hn; unfold maxLen; omega
  obtain ⟨mu', ka', k1, k2, k3, k4, k5⟩ := h.newRow (m := m) (t := e) (k := grownCap w xs.length old e) (w1 := w.drew) (cs := us.toArray ++ Builtin.zeroCells z.cells (grownCap w xs.length old e - xs.length)) hf rfl h.bel.drew hc hsz (grownCap_ge w _ _ _) (grownCap_le_maxLen w _ _ _ hml)
    (row_size (w := w) (by rw [hz, hsz, hsi]) hl (grownCap_ge w _ _ _)) (by rw [← hl, row_take]; exact hv)
  exact ⟨mu', ka', k4, k5, k1, k2⟩
theorem append_sound (h : Rel E.P X s mu ka cst act.tmps.toList w) {e t tx ty : Nat} {sv xv : AV} {u x : Value} (ht : E.P.underlying t = some (.slice e)) {e2 : Nat} (htx : E.P.underlying tx = some (.slice e2)) {dst : Option Nat}
    (hp : (appendTo E.P e fr dst sv xv).val s.view = some p) (hu : VA E.P (cx E.P X s.mem mu ka w) sv u) (hx : VA E.P (cx E.P X s.mem mu ka w) xv x) :
    ∃ v w' mu' ka', (Builtin.append_ #[t, tx] ty #[u, x]).run E.P w = .ok v w' ∧ Rel E.P X { s with mem := effOn s.mem p.2 } mu' ka' cst act.tmps.toList w' ∧ VA E.P (cx E.P X (effOn s.mem p.2) mu' ka' w') p.1 v := by
  unfold appendTo at hp
  obtain ⟨y, h1, hp1⟩ := val_bind hp
  simp only [Rd.val] at hp1
  obtain ⟨hg, hp2⟩ := val_guard hp1
  clear hp hp1
  simp only [Bool.and_eq_true, decide_eq_true_eq, okE, beq_iff_eq, bne_iff_ne, ne_eq] at hg
  obtain ⟨⟨⟨g1, g2⟩, g3, g4⟩, g5⟩ := hg
  obtain ⟨i, z, hi, hz, hv, hki, hks, hzl⟩ := zeros_info g2
  simp only [hi] at g5
  have hf := view_fresh rfl g1
  have hsi : sizeT E.P e = i.size := by simp [sizeT, hi]
  have hzs : z.cells.size = i.size := by
    have := (hv ⟨w, fun _ _ => True, fun _ => none, fun _ => 0, fun _ => none⟩).length
    rw [Array.length_toList, List.length_map, hki] at this
    exact this
  obtain ⟨A, k, us, x1, x2, x3, x4, x5⟩ := elems_sound h h1 hx
  obtain ⟨ye, ys⟩ := y
  simp only at x1 x2 x3 x4 x5 hp2
  have srcOf : ye = e → Src E.P i.size tx x ys.length us w := by
    rintro rfl
    rw [← hsi, x1]
    exact src_of htx g3 g4 x3 x4 x5
  split at hp2
  · rename_i t' xs
    simp only [VA] at hu
    obtain ⟨Au, uu, u1, u2, u3, u4⟩ := hu
    split at hp2
    · obtain ⟨hye, hp3⟩ := val_guard hp2
      obtain ⟨hc, hp4⟩ := val_chk hp3
      simp only [Rd.val, Option.some.injEq] at hp4
      clear hp2 hp3
      subst hp4
      obtain rfl := eq_of_beq hye
      have hlen := of_decide_eq_true hc
      have hs := srcOf rfl
      cases ys with
      | nil =>
        simp only [VPss] at x5
        subst x5
        have hr := run_append_zero t tx ty ye i ht hi Au x hs
        obtain ⟨n1, n2, n3⟩ := h.newNil (id := idOf fr dst) (m := 2) (t := ye) hf g3
        refine ⟨_, _, mu, ka, by rw [u1]; exact hr, n3, ?_⟩
        exact nilVal n1 Au
      | cons y0 ys0 =>
        have hr := run_append_grow_src (P := E.P) w t tx ty ye i z ht hi hz Au 0 0 [] (by cases Au <;> simp [Builtin.firstCells, loadCells, loadCellsFrom]) x (y0 :: ys0).length us hs (by simp) (by unfold most at hlen; omega)
          (growslice_fits (by simp) (fits _ _ (by simpa using hlen) g5))
        simp only [Nat.zero_add, List.nil_append] at hr
        obtain ⟨mu', ka', k1, k2, k3, k4⟩ := grow_row (m := 1) (z := z) (old := 0) h hf hi hzs g3 x3 x5 hlen
        exact ⟨_, _, mu', ka', by rw [u1]; exact hr, k2, ownVal k3 k4⟩
    · rename_i x0 xs0
      obtain ⟨hye, hp3⟩ := val_guard hp2
      obtain ⟨hc, hp4⟩ := val_chk hp3
      simp only [Rd.val, Option.some.injEq] at hp4
      clear hp2 hp3
      subst hp4
      simp only [Bool.and_eq_true, beq_iff_eq, decide_eq_true_eq] at hye hc
      obtain ⟨rfl, rfl⟩ := hye
      have hs := srcOf rfl
      have hcx : ∀ q ∈ (x0 :: xs0) ++ ys, cfs (kinds E.P t') q := fun q hq => (List.mem_append.1 hq).elim (u2 q) (x3 q)
      have hlu : uu.length = (x0 :: xs0).length * i.size := by rw [u4.length fun q hq => (u2 q hq).length, g3, hsi]
      have hold : (Builtin.firstCells i.size (x0 :: xs0).length (.slice Au (x0 :: xs0).length (x0 :: xs0).length)).run E.P w.drew = .ok uu.toArray w.drew := by
        rcases u3 with rfl | ⟨b, o1, rfl, hra, _⟩
        · simp only [List.length_nil, List.length_cons] at hlu
          have : 0 < (xs0.length + 1) * i.size := Nat.mul_pos (by omega) (by omega)
          omega
        · refine run_firstCells_some w.drew i.size _ ⟨b, o1, none⟩ _ _ uu hlu fun j q hq => ?_
          rw [Addr.add_mid]
          exact hra j q hq
      have hr := run_append_grow_src (P := E.P) w t tx ty t' i z ht hi hz Au _ _ uu hold x ys.length us hs (by omega) (by unfold most at hc; omega) (growslice_fits (by omega) (fits _ _ hc.2 g5))
      obtain ⟨mu', ka', k1, k2, k3, k4⟩ := grow_row (m := 1) (z := z) (old := (x0 :: xs0).length) (us := uu ++ us) h hf hi hzs g3 hcx (u4.append x5) (by rw [List.length_append]; exact hc.2)
      rw [List.length_append] at k1 k2 k4
      refine ⟨_, _, mu', ka', by rw [u1]; exact hr, k2, ?_⟩
      have := ownVal (P := E.P) (X := X) (mem := s.mem) (w' := w.drew.alloc (.cells ((uu ++ us).toArray ++ Builtin.zeroCells z.cells (grownCap w ((x0 :: xs0).length + ys.length) (x0 :: xs0).length t' - ((x0 :: xs0).length + ys.length))) t')) (m := 2) (t := t') (xs := x0 :: xs0 ++ ys) k3 k4
      rw [List.length_append] at this
      exact this
  · rename_i j
    simp only [Rd.val, View.row, St.view] at hp2
    cases hfj : findOb j s.mem with
    | none => rw [hfj] at hp2; simp [Rd.val] at hp2
    | some ob =>
      cases ob with
      | box cs => rw [hfj] at hp2; simp [Rd.val] at hp2
      | row m t' xs =>
        rw [hfj] at hp2
        simp only at hp2
        obtain ⟨hye, hp3⟩ := val_guard hp2
        obtain ⟨hc, hp4⟩ := val_chk hp3
        simp only [Rd.val, Option.some.injEq] at hp4
        clear hp2 hp3
        subst hp4
        simp only [Bool.and_eq_true, beq_iff_eq, decide_eq_true_eq, ne_eq] at hye
        have hlen := of_decide_eq_true hc
        obtain ⟨⟨rfl, rfl⟩, hm0⟩ := hye
        obtain ⟨m, rfl⟩ : ∃ m', m = m' + 1 := ⟨m - 1, by omega⟩
        have hs := srcOf rfl
        obtain ⟨m', hm', hmm⟩ : ∃ m', appMode xs = m' + 1 ∧ (m' + 1 = 1 ∨ xs = []) := ⟨0, rfl, .inl rfl⟩
        have he9 : effOn s.mem [.rset j 0 t' xs, .new (idOf fr dst) (.row (appMode xs) t' (xs ++ ys))] = (idOf fr dst, .row (m' + 1) t' (xs ++ ys)) :: setOb j (.row 0 t' xs) s.mem := by
          rw [hm']; rfl
        rw [he9]
        have hjne : idOf fr dst ≠ j := fun q => by rw [q, hfj] at hf; cases hf
        obtain ⟨r1, r2⟩ := h.retire hfj
        have hf' : findOb (idOf fr dst) (setOb j (.row 0 t' xs) s.mem) = none := by rw [findOb_setOb_other j _ _ hjne]; exact hf
        have x5' := VPss.keep r1.keep _ _ x5
        simp only [VA] at hu
        obtain ⟨t9, n, hrt, hu⟩ := hu
        have hrt' : rtOf s.mem j = some (t9, n) := hrt
        rw [rtOf_row hfj] at hrt'
        obtain ⟨q1, q2⟩ := Prod.mk.inj (Option.some.inj hrt')
        subst q1
        subst q2
        rcases hu with ⟨b, hb, hu⟩ | ⟨hb, hn, Au, hu⟩
        · obtain ⟨c1, c2, c3, vs, c4, c5, c6, c7⟩ := h.rowAt hfj hb
          by_cases hroom : xs.length + ys.length ≤ ka j
          · obtain ⟨vs', d1, d2, mu', ka', d3, d4, d5, d6⟩ := h.appendIn (id := idOf fr dst) (m' := m') hfj hb hf hmm x3 x5 hroom
            have hr := run_append_row (P := E.P) (w := w) t tx ty t' t' i ht hi b xs.length (ka j) vs' d1 x ys.length us hs hroom (by rw [← hsi, ← g3]; exact d2)
            rw [← hsi, ← g3] at hr
            refine ⟨_, _, mu', ka', by rw [hu]; exact hr, d6, ?_⟩
            have := ownVal (P := E.P) (X := X) (mem := setOb j (.row 0 t' xs) s.mem) (w' := w.setRow b (splice vs'.toList (xs.length * (kinds E.P t').length) us).toArray) (m := m' + 1) (t := t') (xs := xs ++ ys) d3 d4
            rw [List.length_append] at this
            exact this
          · have hcells : (vs.toList.take (xs.length * (kinds E.P t').length)).length = xs.length * i.size := by
              rw [c7.length fun q hq => (c1 q hq).length, g3, hsi]
            have hold : (Builtin.firstCells i.size xs.length (.slice (some ⟨b, 0, none⟩) xs.length (ka j))).run E.P w.drew = .ok (vs.toList.take (xs.length * (kinds E.P t').length)).toArray w.drew := by
              refine run_firstCells_some w.drew i.size _ ⟨b, 0, none⟩ _ _ _ hcells fun q v hq => ?_
              rw [Addr.add_mid]
              have := cell_of_row w b (0 + q) vs t' (0, 0) c4
              show w.cell? _ = _
              rw [this, Nat.zero_add]
              rw [List.getElem?_take] at hq
              split at hq
              · simpa using hq
              · cases hq
            have hr := run_append_grow_src (P := E.P) w t tx ty t' i z ht hi hz (some ⟨b, 0, none⟩) _ _ _ hold x ys.length us hs (by omega) (by unfold most at hlen; omega) (growslice_fits (by omega) (fits _ _ hlen g5))
            have hcx : ∀ q ∈ xs ++ ys, cfs (kinds E.P t') q := fun q hq => (List.mem_append.1 hq).elim (c1 q) (x3 q)
            obtain ⟨mu', ka', k1, k2, k3, k4⟩ := grow_row (m := m') (z := z) (old := ka j) (us := vs.toList.take (xs.length * (kinds E.P t').length) ++ us) r2 hf' hi hzs g3 hcx ((VPss.keep r1.keep _ _ c7).append x5') (by rw [List.length_append]; exact hlen)
            rw [List.length_append] at k1 k2 k4
            refine ⟨_, _, mu', ka', by rw [hu]; exact hr, k2, ?_⟩
            have := ownVal (P := E.P) (X := X) (mem := setOb j (.row 0 t' xs) s.mem) (w' := w.drew.alloc (.cells ((vs.toList.take (xs.length * (kinds E.P t').length) ++ us).toArray ++ Builtin.zeroCells z.cells (grownCap w (xs.length + ys.length) (ka j) t' - (xs.length + ys.length))) t')) (m := m' + 1) (t := t') (xs := xs ++ ys) k3 k4
            rw [List.length_append] at this
            exact this
        · obtain rfl := List.length_eq_zero_iff.1 hn
          cases ys with
          | nil =>
            simp only [VPss] at x5
            subst x5
            have hr := run_append_zero t tx ty t' i ht hi Au x hs
            obtain ⟨n1, n2, n3⟩ := r2.newNil (id := idOf fr dst) (m := m' + 1) (t := t') hf' g3
            refine ⟨_, _, mu, ka, by rw [hu]; exact hr, n3, ?_⟩
            exact nilVal n1 Au
          | cons y0 ys0 =>
            have hr := run_append_grow_src (P := E.P) w t tx ty t' i z ht hi hz Au 0 0 [] (by cases Au <;> simp [Builtin.firstCells, loadCells, loadCellsFrom]) x (y0 :: ys0).length us hs (by simp) (by unfold most at hlen; simp at hlen ⊢; omega)
              (growslice_fits (by simp) (fits _ _ (by simpa using hlen) g5))
            simp only [Nat.zero_add, List.nil_append] at hr
            obtain ⟨mu', ka', k1, k2, k3, k4⟩ := grow_row (m := m') (z := z) (old := 0) r2 hf' hi hzs g3 x3 x5' (by simpa using hlen)
            exact ⟨_, _, mu', ka', by rw [hu]; exact hr, k2, ownVal k3 k4⟩
  · simp [Rd.val] at hp2
end
end Go.Proofs.YtkdbccloniaogaaS
