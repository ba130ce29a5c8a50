/- Made slices, slices of slices, lengths, appends. Conditions: none. -/
import Derived.Test.YtkdbccloniaogaaSimOp5
set_option linter.unusedVariables false
set_option linter.unusedSimpArgs false
namespace Go.Proofs.YtkdbccloniaogaaS
open Go Go.RowKit

section
variable {P : Program} {c : Cx} {w : World}
theorem zero_vp {S : Nat → Nat → Prop} {k : K} {v : Value} (h : zeroB k v = true) (hk : k ≠ .any) : VP P w S (zeroK k) v ∧ cf k (zeroK k) := by
  have := zero_rel (P := P) (c := ⟨w, S, fun _ => none, fun _ => 0, fun _ => none⟩) h
  cases k
  case any => exact absurd rfl hk
  case list t =>
    simp only [zeroA, VA] at this
    obtain ⟨A, us, rfl, h1, h2, h3⟩ := this
    refine ⟨?_, ⟨[], rfl⟩⟩
    simp only [zeroK, VP]
    exact ⟨A, 0, us, rfl, Nat.le_refl _, h1, h2, h3⟩
  all_goals
    simp only [zeroA, VA] at this
    refine ⟨this, ?_⟩
    simp [zeroK, cf]
theorem zeros_vp {S : Nat → Nat → Prop} : ∀ {ks : List K} {vs : List Value}, zerosL ks vs = true → (∀ k ∈ ks, k ≠ .any) → VPs P w S (ks.map zeroK) vs ∧ cfs ks (ks.map zeroK)
  | [], [], _, _ => by simp [VPs, cfs]
  | k :: ks, v :: vs, h, hk => by
    simp only [zerosL, Bool.and_eq_true] at h
    obtain ⟨g1, g2⟩ := zero_vp (P := P) (w := w) (S := S) h.1 (hk k (by simp))
    obtain ⟨g3, g4⟩ := zeros_vp (S := S) h.2 fun k' hk' => hk k' (by simp [hk'])
    simp only [List.map_cons, VPs]
    exact ⟨⟨v, vs, rfl, g1, g3⟩, g2, g4⟩
  | [], _ :: _, h, _ => by simp [zerosL] at h
  | _ :: _, [], h, _ => by simp [zerosL] at h
theorem notAny_of {t : Nat} (h : notAny P t = true) : ∀ k ∈ kinds P t, k ≠ .any := by
  intro k hk
  have := List.all_eq_true.1 h k hk
  rintro rfl
  simp at this
/-- Zero elements. -/
theorem made_vpss {S : Nat → Nat → Prop} {t : Nat} {z : Array Value} (hz : zerosL (kinds P t) z.toList = true) (hn : notAny P t = true) (n m : Nat) (hnm : n ≤ m) :
    VPss P w S (List.replicate n (zeros P t)) ((madeCells z (m * (kinds P t).length)).toList.take (n * (kinds P t).length)) ∧ ∀ e ∈ List.replicate n (zeros P t), cfs (kinds P t) e := by
  obtain ⟨g1, g2⟩ := zeros_vp (P := P) (w := w) (S := S) hz (notAny_of hn)
  have hcl : ∀ e ∈ List.replicate n (zeros P t), cfs (kinds P t) e := fun e he => by rw [List.eq_of_mem_replicate he]; exact g2
  refine ⟨?_, hcl⟩
  have hzl : z.size = (kinds P t).length := by rw [← Array.length_toList, g1.length]; simp
  have hle : n * (kinds P t).length ≤ m * (kinds P t).length := Nat.mul_le_mul_right _ hnm
  refine VPss.of_get (n := (kinds P t).length) (by simp [size_madeCells, hle]) (fun e he => (hcl e he).length) ?_
  intro i e hi
  have hin : i < n := by
    have := (List.getElem?_eq_some_iff.1 hi).1
    simpa using this
  obtain rfl := List.eq_of_mem_replicate (List.mem_of_getElem? hi)
  have hi1 : (i + 1) * (kinds P t).length ≤ n * (kinds P t).length := Nat.mul_le_mul_right _ hin
  rw [Nat.add_mul, Nat.one_mul] at hi1
  have e1 : (((madeCells z (m * (kinds P t).length)).toList.take (n * (kinds P t).length)).drop (i * (kinds P t).length)).take (kinds P t).length = z.toList := by
    apply List.ext_getElem?
    intro j
    rw [List.getElem?_take, List.getElem?_drop, List.getElem?_take]
    by_cases hj : j < (kinds P t).length
    · rw [if_pos hj, if_pos (by omega)]
      have hjm : i * (kinds P t).length + j < m * (kinds P t).length := by omega
      have hz' : j < z.size := by omega
      have hmod : (i * (kinds P t).length + j) % z.size = j := by
        rw [hzl, Nat.mul_comm, Nat.mul_add_mod, Nat.mod_eq_of_lt hj]
      simp [madeCells, hjm, hmod, hz']
    · rw [if_neg hj]
      exact (List.getElem?_eq_none (by simp; omega)).symm
  rw [e1]
  exact g1
end
section
variable {P : Program} {X : Out} {s : St} {mu : Nat → Option Nat} {ka : Nat → Nat} {cst : List (List Value)} {act : Act} {a : List Value} {w : World} {E : Env} {fr : Nat} {o : Oper} {p : AV × List Eff} {K : Act → World → Prop} {Q : Exit → Act → World → Prop}
theorem sound_makeSlice (h : Rel E.P X s mu ka cst act.tmps.toList w) {t : Nat} {x y : Operand} (ho : o.op = .makeSlice t x y) (hp : (evOp E fr o).val s.view = some p) (hK : Next E.P X (s.app o.dst p) cst act K) : o.wp E.P act w K Q := by
  simp only [evOp, ho] at hp
  obtain ⟨lv, h1, hp1⟩ := val_bind hp
  obtain ⟨cv, h2, hp2⟩ := val_bind hp1
  clear hp hp1
  have hl := h.op h1
  have hc := h.op h2
  split at hp2
  · rename_i e k1 n k2 m he
    simp only [Rd.val] at hp2
    obtain ⟨hg, hp3⟩ := val_guard hp2
    obtain ⟨hb, hp4⟩ := val_chk hp3
    simp only [Rd.val, Option.some.injEq] at hp4
    clear hp2 hp3
    subst hp4
    simp only [Bool.and_eq_true, decide_eq_true_eq, okE, beq_iff_eq, bne_iff_ne, ne_eq] at hg hb
    obtain ⟨⟨⟨⟨g1, g2⟩, g3, g4⟩, g5⟩, g6⟩ := hg
    obtain ⟨⟨b1, b2⟩, b3⟩ := hb
    obtain ⟨i, z, hi, hz, hv, hki, hks, hzl⟩ := zeros_info g2
    have hu := elemT_slice he
    have hf := view_fresh rfl g1
    have hl' := va_pv hl
    have hc' := va_pv hc
    simp only [VP] at hl' hc'
    simp only [hi] at g6
    have hm : m.toNat ≤ most := by unfold most at *; omega
    have hbytes : (i.bytes : Int) * m ≤ 281474976710656 := by
      have h3 : i.bytes * m.toNat ≤ 100000 * most := Nat.mul_le_mul g6 hm
      have h4 : (i.bytes : Int) * m = ((i.bytes * m.toNat : Nat) : Int) := by
        rw [Int.natCast_mul, Int.toNat_of_nonneg (by omega)]
      rw [h4]
      unfold most at h3
      omega
    have hr := run_make (P := E.P) w t e i z hu hi hz k1 k2 n m b1 b2 hbytes (by unfold most at b3; omega)
    obtain ⟨v1, v2⟩ := made_vpss (P := E.P) (w := w) (S := Smut E.P X.S0 s.mem mu) hzl g5 n.toNat m.toNat (by omega)
    obtain ⟨mu', ka', k1', k2', k3', k4', k5'⟩ := h.newRow (m := 1) (t := e) (k := m.toNat) (cs := madeCells z.cells (m.toNat * i.size)) hf rfl h.bel v2 g3 (by simp; omega) (by unfold maxLen; unfold most at hm; omega)
      (by rw [size_madeCells, hki]) (by rw [List.length_replicate, ← hki]; exact v1)
    rw [app_new] at hK
    refine good_value (u := .slice (some ⟨w.heap.size, 0, none⟩) n.toNat m.toNat) ?_ k5' ?_ hK
    · simp only [execOp, ho, hl', hc', Sem.run_bind, hr, Result.andThen_ok, Sem.run_pure]
    · simp only [VA]
      refine ⟨e, n.toNat, ?_, .inl ⟨w.heap.size, k1', by show _ = Value.slice _ _ (ka' _); rw [k2']⟩⟩
      show rtOf _ _ = _
      rw [rtOf_row (by rw [findOb_cons, if_pos rfl])]
      simp
  · simp [Rd.val] at hp2
theorem bound_val {v0 : View} {c : Cx} {v : Option AV} {d : Nat} {n : Int} (h : (boundI v d).val v0 = some n) {x : Option Operand} (hx : (optO x).val v0 = some v) (hop : ∀ y a, x = some y → v = some a → VA P c a (act.eval y)) :
    (x = none ∧ n = d) ∨ ∃ k, x.map act.eval = some (.int k n) := by
  unfold boundI at h
  cases x with
  | none =>
    simp only [optO, Rd.val, Option.some.injEq] at hx
    subst hx
    simp only [Rd.val, Option.some.injEq] at h
    exact .inl ⟨rfl, h.symm⟩
  | some y =>
    simp only [optO] at hx
    obtain ⟨a, h1, h2⟩ := val_bind hx
    simp only [Rd.val, Option.some.injEq] at h2
    subst h2
    split at h
    · rename_i e; cases e
    · rename_i k n' e
      cases e
      simp only [Rd.val, Option.some.injEq] at h
      subst h
      have := hop y _ rfl rfl
      simp only [VA, VP] at this
      exact .inr ⟨k, by simp [this]⟩
    · simp [Rd.val] at h
theorem run_bounds {isS : Bool} {len cap l h : Nat} {lo hi : Option Value} (hlo : (lo = none ∧ l = 0) ∨ ∃ k, lo = some (.int k l)) (hhi : (hi = none ∧ h = len) ∨ ∃ k, hi = some (.int k h)) (h1 : l ≤ h) (h2 : h ≤ cap) :
    (Instr.sliceBounds isS len cap lo hi none).run P w = .ok (l, h, cap) w := by
  rcases hlo with ⟨rfl, rfl⟩ | ⟨k, rfl⟩ <;> rcases hhi with ⟨rfl, rfl⟩ | ⟨k', rfl⟩ <;>
    simp [Instr.sliceBounds, Instr.sliceBound, Go.asIntOf, h1, h2]
theorem Rel.op? (h : Rel P X s mu ka cst act.tmps.toList w) {x : Option Operand} {v : Option AV} (hx : (optO x).val s.view = some v) : ∀ y a, x = some y → v = some a → VA P (cx P X s.mem mu ka w) a (act.eval y) := by
  intro y a e1 e2
  subst e1; subst e2
  simp only [optO] at hx
  obtain ⟨a', h1, h2⟩ := val_bind hx
  simp only [Rd.val, Option.some.injEq] at h2
  cases h2
  exact h.op h1
theorem VPss.sub {S : Nat → Nat → Prop} {xs : List (List PV)} {us : List Value} {n : Nat} (h : VPss P w S xs us) (hn : ∀ e ∈ xs, e.length = n) (l k : Nat) (hk : k ≤ xs.length) :
    VPss P w S ((xs.take k).drop l) ((us.take (k * n)).drop (l * n)) := by
  have hl := h.length hn
  have hkn : k * n ≤ xs.length * n := Nat.mul_le_mul_right _ hk
  refine VPss.of_get (n := n) ?_ (fun e he => hn e (List.mem_of_mem_take (List.mem_of_mem_drop he))) fun i e hi => ?_
  · simp only [List.length_drop, List.length_take, Nat.min_eq_left hk, Nat.sub_mul]
    omega
  · rw [List.getElem?_drop, List.getElem?_take] at hi
    split at hi
    · rename_i hlt
      have := h.get hn hi
      have h3 : (l + i + 1) * n ≤ k * n := Nat.mul_le_mul_right _ hlt
      simp only [Nat.add_mul, Nat.one_mul] at h3 this
      have e9 : List.take n (List.drop (i * n) (List.drop (l * n) (List.take (k * n) us))) = List.take n (List.drop (l * n + i * n) us) := by
        rw [List.drop_drop]
        apply List.ext_getElem?
        intro j
        simp only [List.getElem?_take, List.getElem?_drop]
        by_cases c : j < n
        · rw [if_pos c, if_pos c, if_pos (by omega)]
        · rw [if_neg c, if_neg c]
      rw [e9]
      exact this
    · cases hi
theorem cut_sound (h : Rel E.P X s mu ka cst act.tmps.toList w) {t e u : Nat} {xs : List (List PV)} {es : List Eff} {x : Operand} {lo hi : Option Operand} {lv hv : Option AV} (ho : o.op = .slice t x lo hi none) (ht : E.P.underlying t = some (.slice e))
    (hlo : (optO lo).val s.view = some lv) (hhi : (optO hi).val s.view = some hv) {mem' : List (Nat × Ob)} (hm : mem' = effOn s.mem es) (hle : (cx E.P X s.mem mu ka w).Le (cx E.P X mem' mu ka w)) (hr : Rel E.P X { s with mem := mem' } mu ka cst act.tmps.toList w)
    (hx : VP E.P w (Smut E.P X.S0 mem' mu) (.list u xs) (act.eval x)) (hp : (sliceA.cut E.P lv hv e u xs es).val s.view = some p) (hK : Next E.P X (s.app o.dst p) cst act K) : o.wp E.P act w K Q := by
  unfold sliceA.cut at hp
  obtain ⟨hg, hp1⟩ := val_guard hp
  obtain ⟨l, h1, hp2⟩ := val_bind hp1
  obtain ⟨k, h2, hp3⟩ := val_bind hp2
  obtain ⟨hb, hp4⟩ := val_chk hp3
  simp only [Rd.val, Option.some.injEq] at hp4
  clear hp hp1 hp2 hp3
  subst hp4
  simp only [Bool.and_eq_true, decide_eq_true_eq, okE, beq_iff_eq, bne_iff_ne, ne_eq] at hg hb
  obtain ⟨rfl, hsz, hnz⟩ := hg
  obtain ⟨⟨b1, b2⟩, b3⟩ := hb
  obtain ⟨i, hinf⟩ : ∃ i, E.P.info? u = some i := by
    cases hq : E.P.info? u with
    | none => simp [sizeT, hq] at hnz
    | some i => exact ⟨i, rfl⟩
  obtain ⟨l', rfl⟩ := Int.eq_ofNat_of_zero_le b1
  obtain ⟨k', rfl⟩ := Int.eq_ofNat_of_zero_le (show 0 ≤ k by omega)
  have hlb := bound_val (P := E.P) (act := act) (c := cx E.P X s.mem mu ka w) h1 hlo (h.op? hlo)
  have hhb := bound_val (P := E.P) (act := act) (c := cx E.P X s.mem mu ka w) h2 hhi (h.op? hhi)
  simp only [VP] at hx
  obtain ⟨A, cap, us, e1, e2, e3, e4, e5⟩ := hx
  have hrun := run_bounds (P := E.P) (w := w) (isS := true) (len := xs.length) (cap := cap) (l := l') (h := k') (lo := lo.map act.eval) (hi := hi.map act.eval)
    (hlb.imp (fun ⟨q1, q2⟩ => ⟨by rw [q1]; rfl, by omega⟩) id) (hhb.imp (fun ⟨q1, q2⟩ => ⟨by rw [q1]; rfl, by omega⟩) id) (by omega) (by omega)
  rw [app_eq, ← hm] at hK
  refine good_value (u := .slice (if cap = l' then A else A.map (·.add (l' * sizeT E.P u))) (k' - l') (cap - l')) ?_ hr ?_ hK
  · have hri := run_size (P := E.P) (w := w) hinf
    simp only [execOp, ho, Option.map_none, Instr.sliceAt, Sem.run_bind, run_under ht, Result.andThen_ok, Instr.slice, e1, hrun, hri, Sem.run_pure]
  · simp only [VA, VP, Int.toNat_natCast]
    have hlen : ((xs.take k').drop l').length = k' - l' := by simp; omega
    have hnn : ∀ e ∈ xs, e.length = (kinds E.P u).length := fun e he => (e3 e he).length
    refine ⟨_, _, _, by rw [hlen], by rw [hlen]; omega, fun e he => e3 e (List.mem_of_mem_take (List.mem_of_mem_drop he)), ?_, e5.sub hnn l' k' (by omega)⟩
    rcases e4 with rfl | ⟨b, o1, rfl, hra, hst⟩
    · exact .inl (by simp)
    · by_cases hcl : cap = l'
      · refine .inl ?_
        have : k' = l' := by omega
        subst this
        exact List.drop_eq_nil_of_le (by simp; omega)
      · refine .inr ⟨b, o1 + l' * (kinds E.P u).length, by simp [hcl, Addr.add_mid, hsz], fun j v hj => ?_, fun j hj => ?_⟩
        · rw [List.getElem?_drop, List.getElem?_take] at hj
          split at hj
          · rw [Nat.add_assoc]
            exact hra _ v hj
          · cases hj
        · rw [Nat.add_assoc]
          refine hst _ ?_
          simp only [List.length_drop, List.length_take] at hj
          omega
theorem sound_slice (h : Rel E.P X s mu ka cst act.tmps.toList w) {t : Nat} {x : Operand} {lo hi mx : Option Operand} (ho : o.op = .slice t x lo hi mx) (hp : (evOp E fr o).val s.view = some p) (hK : Next E.P X (s.app o.dst p) cst act K) : o.wp E.P act w K Q := by
  simp only [evOp, ho] at hp
  obtain ⟨v, h1, hp1⟩ := val_bind hp
  clear hp
  have hx := h.op h1
  cases mx with
  | none =>
    simp only at hp1
    obtain ⟨lv, h2, hp2⟩ := val_bind hp1
    obtain ⟨hv, h3, hp3⟩ := val_bind hp2
    clear hp1 hp2
    unfold sliceA at hp3
    split at hp3
    · rename_i str ht
      obtain ⟨l, g1, hp4⟩ := val_bind hp3
      obtain ⟨k, g2, hp5⟩ := val_bind hp4
      obtain ⟨hb, hp6⟩ := val_chk hp5
      obtain rfl := val_okV hp6
      clear hp3 hp4 hp5
      simp only [Bool.and_eq_true, decide_eq_true_eq] at hb
      obtain ⟨⟨b1, b2⟩, b3⟩ := hb
      obtain ⟨l', rfl⟩ := Int.eq_ofNat_of_zero_le b1
      obtain ⟨k', rfl⟩ := Int.eq_ofNat_of_zero_le (show 0 ≤ k by omega)
      have hlb := bound_val (P := E.P) (act := act) (c := cx E.P X s.mem mu ka w) g1 h2 (h.op? h2)
      have hhb := bound_val (P := E.P) (act := act) (c := cx E.P X s.mem mu ka w) g2 h3 (h.op? h3)
      have hx' := va_pv hx
      simp only [VP] at hx'
      have hrun := run_bounds (P := E.P) (w := w) (isS := false) (len := str.size) (cap := str.size) (l := l') (h := k') (lo := lo.map act.eval) (hi := hi.map act.eval)
        (hlb.imp (fun ⟨q1, q2⟩ => ⟨by rw [q1]; rfl, by omega⟩) id) (hhb.imp (fun ⟨q1, q2⟩ => ⟨by rw [q1]; rfl, by omega⟩) id) (by omega) (by omega)
      refine good_plain (u := .string (str.extract l' k')) h ?_ (by simp only [VA, VP, Int.toNat_natCast]) hK
      simp only [execOp, ho, Option.map_none, Instr.sliceAt, Sem.run_bind, run_under ht, Result.andThen_ok, Instr.slice, hx', Option.isSome_none, Bool.false_eq_true, if_false, hrun, Sem.run_pure]
    · rename_i e u xs ht
      exact cut_sound h ho ht h2 h3 (mem' := s.mem) rfl (Cx.Le.refl _) h (va_pv hx) hp3 hK
    · rename_i e u xs ht
      refine cut_sound h ho ht h2 h3 (mem' := s.mem) rfl (Cx.Le.refl _) h ?_ hp3 hK
      simp only [VA] at hx
      obtain ⟨A, us, g1, g2, g3, g4⟩ := hx
      simp only [VP]
      exact ⟨A, _, us, g1, Nat.le_refl _, g2, g3, g4⟩
    · rename_i e id ht
      simp only [Rd.val, View.row, St.view] at hp3
      cases hf : findOb id s.mem with
      | none => rw [hf] at hp3; simp [Rd.val] at hp3
      | some ob =>
        cases ob with
        | box cs => rw [hf] at hp3; simp [Rd.val] at hp3
        | row m u xs =>
          rw [hf] at hp3
          simp only at hp3
          split at hp3
          · exact cut_sound h ho ht h2 h3 (mem' := s.mem) rfl (Cx.Le.refl _) h (h.ownList hf (by omega) hx) hp3 hK
          · exact cut_sound h ho ht h2 h3 (mem' := s.mem) rfl (Cx.Le.refl _) h (h.ownList hf (by omega) hx) hp3 hK
          · obtain ⟨hl, hr⟩ := h.demote hf
            exact cut_sound h ho ht h2 h3 (es := [.rset id 1 u xs]) (mem' := setOb id (.row 1 u xs) s.mem) rfl hl hr (hr.ownList (findOb_setOb_same id _ s.mem hf) (by omega) (VA.le hl _ _ hx)) hp3 hK
          · simp [Rd.val] at hp3
    · simp [Rd.val] at hp3
  | some m =>
    simp only at hp1
    obtain ⟨hg, hp2⟩ := val_guard hp1
    obtain ⟨y, h2, hp3⟩ := val_bind hp2
    obtain rfl := val_okV hp3
    clear hp1 hp2
    simp only [Bool.and_eq_true] at hg
    obtain ⟨⟨⟨g1, g2⟩, g3⟩, g4⟩ := hg
    obtain ⟨e, he, hok⟩ : ∃ e, elemT E.P t = some e ∧ okE E.P e = true := by
      cases he : elemT E.P t with
      | none => rw [he] at g4; cases g4
      | some e => rw [he] at g4; exact ⟨e, rfl, g4⟩
    have hu := elemT_slice he
    simp only [okE, Bool.and_eq_true, bne_iff_ne, ne_eq] at hok
    have hlo : lo = none := by cases lo <;> simp_all
    subst hlo
    have zero_ : ∀ {q : Option Operand}, isZero q = true → ∃ k, q = some (.const (.int k 0)) := by
      intro q hq
      unfold isZero at hq
      split at hq
      · rename_i k n
        have : n = 0 := by simpa using hq
        subst this
        exact ⟨k, rfl⟩
      · cases hq
    obtain ⟨km, hm⟩ := zero_ g1
    obtain ⟨kh, hh⟩ := zero_ g2
    cases hm
    subst hh
    obtain ⟨A, cap, us, e1, e2, e3, e4, e5⟩ := elems_sound h h2 hx
    obtain ⟨i, hinf⟩ : ∃ i, E.P.info? e = some i := by
      cases hq : E.P.info? e with
      | none => exact absurd (by simp [sizeT, hq]) hok.2
      | some i => exact ⟨i, rfl⟩
    have ez : ∀ k, act.eval (.const (.int k 0)) = .int k 0 := fun _ => rfl
    refine good_plain (u := .slice A 0 0) h ?_ (by simp only [VA]; exact ⟨A, [], rfl, by simp, .inl rfl, by simp [VPss]⟩) hK
    have hri := run_size (P := E.P) (w := w) hinf
    simp [execOp, ho, Instr.sliceAt, run_under hu, Instr.slice, e1, Instr.sliceBounds, Instr.sliceBound, ez, Go.asIntOf, hri]
end
end Go.Proofs.YtkdbccloniaogaaS
